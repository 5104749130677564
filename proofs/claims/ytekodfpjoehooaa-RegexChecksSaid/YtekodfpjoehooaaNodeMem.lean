/- Rows of nodes of the call's own: what is built, appended and handed on. -/
import Derived.Test.YtekodfpjoehooaaNodeW4
import Derived.Maps.AppendAt
namespace Go.Proofs.Ytekodfpjoehooaa.Bs
open Go.RowKit Mem
def Nd.op : Nd → Int
  | .mk op _ _ _ _ => op
def Nd.set : Nd → BitVec 256
  | .mk _ s _ _ _ => s
def Nd.mn : Nd → Int
  | .mk _ _ mn _ _ => mn
def Nd.mx : Nd → Int
  | .mk _ _ _ mx _ => mx
def Nd.kids : Nd → List Nd
  | .mk _ _ _ _ ks => ks
/-- a node with its kids' value -/
abbrev NV := Nd × Value
abbrev ndL (x : NV) : List Value := (ndC x.1.op x.1.set x.1.mn x.1.mx x.2).toList
theorem ndL_length (x : NV) : (ndL x).length = 8 := rfl
theorem ndL_one (x : NV) (h : x.2.oneCell' = true) : ∀ u ∈ ndL x, u.oneCell' = true := by
  intro u hu
  simp [ndL, ndC] at hu
  rcases hu with rfl | rfl | rfl | rfl | rfl | rfl | rfl | rfl <;> first | rfl | exact h
theorem infoNd : (Try.prog.info? 28).map (fun i => (i.zero, i.size, i.bytes)) = some (some (.agg #[.int .i64 0, .int .u64 0, .int .u64 0, .int .u64 0, .int .u64 0, .int .i64 0, .int .i64 0, .slice none 0 0]), 8, 80) := by kernel_rfl
theorem undNds : Try.prog.underlying 26 = some (.slice 28) := by kernel_rfl
theorem Kids.oneCell {w : World} {Q : Nat → Prop} {v : Value} {ks : List Nd} (h : Kids w Q v ks) : v.oneCell' = true := by
  obtain ⟨A, cap, rfl, _⟩ := h.form
  rfl
theorem Kids.of_own {w : World} {base n : Nat} {v : Value} {xs : List NV} {Q : Nat → Prop} (h : w.ownsRow base 28 8 v n (flat ndL xs)) (hn : xs.length = n) (hb : n * 64 ≤ 140737488355328)
    (hq : ∀ g, v.ownBlock = some g → Q g) (hk : ∀ x, x ∈ xs → Kids w Q x.2 x.1.kids) : Kids w Q v (xs.map (·.1)) := by
  subst hn
  have hkid : ∀ (i : Nat) op s mn mx kk, (xs.map (·.1))[i]? = some (.mk op s mn mx kk) → ∃ kv, xs[i]? = some (.mk op s mn mx kk, kv) := fun i op s mn mx kk hi => by
    rw [List.getElem?_map] at hi
    obtain ⟨x, hx, e⟩ := Option.map_eq_some_iff.1 hi
    exact ⟨x.2, by rw [hx, ← e]⟩
  rcases h.2 with ⟨rfl, h0⟩ | ⟨g, cap, cur, rfl, hb', hg, hcap, _⟩
  · have : xs = [] := List.eq_nil_of_length_eq_zero h0
    subst this
    exact Kids.nil w Q
  · have e : xs.length = (xs.map (·.1)).length := by simp
    rw [e]
    refine .mk (some ⟨g, 0, none⟩) cap (xs.map (·.1)) (fun i => ((xs[i]?).map (·.2)).getD undef) (by simpa using hb) (fun _ => ⟨g, 0, rfl, hq g rfl, fun i op s mn mx kk hi => ?_⟩) fun i op s mn mx kk hi => ?_
    · obtain ⟨kv, hx⟩ := hkid i op s mn mx kk hi
      rw [hx]
      intro j u hj
      have h1 := flat_get ndL 8 ndL_length xs i _ hx j u hj
      have h2 := h.cells (g := g) rfl (i * 8 + j) u h1
      rw [Addr.add_mid] at h2
      rw [Nat.add_assoc]
      exact h2
    · obtain ⟨kv, hx⟩ := hkid i op s mn mx kk hi
      rw [hx]
      exact hk _ (List.mem_of_getElem? hx)
/-- a slice literal of one node -/
theorem build_nd1 {ops : Array Oper} {rest : List Oper} {o : Oper} {a : Act} {w : World} {Q : Exit → Act → World → Prop} (hgd : o.guard = none) (x : Operand) (ho : o.op = .buildSlice 26 1 #[(0, x)])
    (op : Int) (s : BitVec 256) (mn mx : Int) (kv : Value) (hx : a.eval x = ndV op s mn mx kv)
    (h : wpList Try.prog ops Q rest (a.put o.dst (.slice (some ⟨w.heap.size, 0, none⟩) 1 1)) (w.alloc (.cells (ndC op s mn mx kv) 28))) : wpList Try.prog ops Q (o :: rest) a w := by
  obtain ⟨i0, hi, hz0, hz1, hz2⟩ := info_parts infoNd
  refine wpList_buildSlice hgd 26 28 1 #[(0, x)] ho (ndC op s mn mx kv) i0 _ undNds hi hz0 (by rw [hz1]; decide) (by rw [hz1]; decide) ?_ h
  simp only [List.map_toArray, List.map_cons, List.map_nil, hx, hz1]
  unfold ndV ndC
  generalize (limN s 0 : Int) = a0
  generalize (limN s 1 : Int) = a1
  generalize (limN s 2 : Int) = a2
  generalize (limN s 3 : Int) = a3
  kernel_rfl
/-- 'append(out, x)' of one node to a row of the call's own -/
theorem append_nd_at {ops : Array Oper} {rest : List Oper} {o : Oper} {a : Act} {w : World} {Q : Exit → Act → World → Prop} (hgd : o.guard = none) (s x : Operand)
    (ho : o.op = .call { callee := .builtin .append, args := #[s, x], argTypes := #[26, 26] })
    (base : Nat) (v : Value) (xs : List NV) (n : Nat) (hs : a.eval s = v) (hown : w.ownsRow base 28 8 v n (flat ndL xs)) (hn : n = xs.length)
    (y : NV) (hy1 : y.2.oneCell' = true) (g c : Nat) (hx : a.eval x = .slice (some ⟨g, 0, none⟩) 1 c) (hg : w.heap[g]? = some (.cells (ndC y.1.op y.1.set y.1.mn y.1.mx y.2) 28 (0, 0)))
    (hb : (xs.length + 1) * 80 ≤ 140737488355328) (hbase : base ≤ w.heap.size)
    (h : ∀ v' w', w'.ownsRow base 28 8 v' (n + 1) (flat ndL (xs ++ [y])) → w.grownBy w' v.ownBlock → (v'.ownBlock = v.ownBlock ∨ v'.ownBlock = some w.heap.size) → wpList Try.prog ops Q rest (a.put o.dst v') w') : wpList Try.prog ops Q (o :: rest) a w := by
  obtain ⟨i0, hi, hz0, hz1, hz2⟩ := info_parts infoNd
  subst hn
  refine wpList_append_own_at w hgd s x 26 ho base 28 i0 _ 8 80 undNds hi hz0 hz1 hz2 rfl (by decide) v _ _ hs hown ⟨g, 0, none⟩ 1 c (ndL y) hx rfl ?_ (ndL_one y hy1) (by unfold maxLen; omega) hb hbase ?_
  · intro j u hj
    rw [Addr.add_mid]
    exact range_row hg j u hj
  · intro v' w' hown' hgr _ hat
    exact h v' w' (by rw [flat_snoc]; exact hown') hgr hat
end Go.Proofs.Ytekodfpjoehooaa.Bs
