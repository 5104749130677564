/- Rows of nodes of the call's own, with their kids. -/
import Derived.Test.YtekodfpjoehooaaNodeW18
namespace Go.Proofs.Ytekodfpjoehooaa.Bs
open Go.RowKit Mem Reg
/-- a row of the call's own: its nodes' kids lie in other blocks of the call's own -/
def NRow (w : World) (base : Nat) (v : Value) (xs : List NV) : Prop :=
  w.ownsRow base 28 8 v xs.length (flat ndL xs) ∧ ∀ x ∈ xs, Kids w (fun b => base ≤ b ∧ some b ≠ v.ownBlock) x.2 x.1.kids
theorem NRow.nil (w : World) (base : Nat) : NRow w base (.slice none 0 0) [] := ⟨World.ownsRow_nil _ _ _ _, by simp⟩
theorem NRow.keep {w w' : World} {base : Nat} {v : Value} {xs : List NV} (h : NRow w base v xs) (hb : Below w.heap.size w w') : NRow w' base v xs :=
  ⟨own_below h.1 hb, fun x hx => (h.2 x hx).keep hb⟩
theorem NRow.grown {w w' : World} {base : Nat} {v : Value} {xs : List NV} {g : Nat} (h : NRow w base v xs) (hg : w.grownBy w' (some g)) (hlt : g < base) : NRow w' base v xs :=
  ⟨own_other h.1 hg hlt, fun x hx => (h.2 x hx).grown hg fun b hb e => by simp only [Option.some.injEq] at e; omega⟩
theorem NRow.lt {w : World} {base : Nat} {v : Value} {xs : List NV} (h : NRow w base v xs) : ∀ k, v.ownBlock = some k → base ≤ k ∧ k < w.heap.size := h.1.lt
theorem NRow.low {w : World} {base : Nat} {v : Value} {xs : List NV} (h : NRow w base v xs) {B : Nat} (hB : B ≤ base) : ∀ k, v.ownBlock = some k → B ≤ k := own_base h.1 B hB
theorem NRow.push {w w' : World} {base : Nat} {v v' : Value} {xs : List NV} {y : NV} (h : NRow w base v xs) (hbase : base ≤ w.heap.size) (hy : Kids w (fun b => base ≤ b ∧ some b ≠ v.ownBlock) y.2 y.1.kids)
    (hown : w'.ownsRow base 28 8 v' (xs.length + 1) (flat ndL (xs ++ [y]))) (hgr : w.grownBy w' v.ownBlock) (hat : v'.ownBlock = v.ownBlock ∨ v'.ownBlock = some w.heap.size) : NRow w' base v' (xs ++ [y]) := by
  refine ⟨by rw [List.length_append]; exact hown, fun x hx => ?_⟩
  have hk : Kids w (fun b => base ≤ b ∧ some b ≠ v.ownBlock) x.2 x.1.kids := by
    rcases List.mem_append.1 hx with hx | hx
    · exact h.2 x hx
    · simp only [List.mem_singleton] at hx; subst hx; exact hy
  refine hk.move fun b hq hlt => ⟨⟨hq.1, fun e => ?_⟩, hgr.block b hlt hq.2⟩
  rcases hat with h' | h'
  · rw [h'] at e; exact hq.2 e
  · rw [h'] at e; simp only [Option.some.injEq] at e; omega
/-- 'append(out, x)' of one node -/
theorem append_row {ops : Array Oper} {rest : List Oper} {o : Oper} {a : Act} {w : World} {Q : Exit → Act → World → Prop} (hgd : o.guard = none) (s x : Operand)
    (ho : o.op = .call { callee := .builtin .append, args := #[s, x], argTypes := #[26, 26] })
    (base : Nat) (v : Value) (xs : List NV) (hs : a.eval s = v) (h : NRow w base v xs) (hbase : base ≤ w.heap.size) (y : NV) (hy : Kids w (fun b => base ≤ b ∧ some b ≠ v.ownBlock) y.2 y.1.kids)
    (g c : Nat) (hx : a.eval x = .slice (some ⟨g, 0, none⟩) 1 c) (hg : w.heap[g]? = some (.cells (ndC y.1.op y.1.set y.1.mn y.1.mx y.2) 28 (0, 0))) (hb : (xs.length + 1) * 80 ≤ 140737488355328)
    (k : ∀ v' w', NRow w' base v' (xs ++ [y]) → w.grownBy w' v.ownBlock → wpList Try.prog ops Q rest (a.put o.dst v') w') : wpList Try.prog ops Q (o :: rest) a w :=
  append_nd_at hgd s x ho base v xs xs.length hs h.1 rfl y hy.oneCell g c hx hg hb hbase fun v' w' hown hgr hat => k v' w' (h.push hbase hy hown hgr hat) hgr
theorem NRow.kids {w : World} {base : Nat} {v : Value} {xs : List NV} (h : NRow w base v xs) (hb : xs.length * 64 ≤ 140737488355328) : Kids w (fun b => base ≤ b) v (xs.map (·.1)) :=
  Kids.of_own h.1 rfl hb (fun g hg => (h.1.lt g hg).1) fun x hx => (h.2 x hx).wide fun b hb _ => hb.1
/-- an element -/
theorem NRow.at {w : World} {base : Nat} {v : Value} {xs : List NV} (h : NRow w base v xs) {i : Nat} (hi : i < xs.length) : ∃ g cap, v = .slice (some ⟨g, 0, none⟩) xs.length cap ∧ base ≤ g ∧ w.rangeAt g (i * 8) (ndC xs[i].1.op xs[i].1.set xs[i].1.mn xs[i].1.mx xs[i].2).toList := by
  rcases h.1.2 with ⟨rfl, h0⟩ | ⟨g, cap, cur, rfl, hb', hg, hcap, _⟩
  · omega
  · refine ⟨g, cap, rfl, hb', fun j u hj => ?_⟩
    have h1 := flat_get ndL 8 ndL_length xs i _ (List.getElem?_eq_getElem hi) j u hj
    have h2 := h.1.cells (g := g) rfl (i * 8 + j) u h1
    rw [Addr.add_mid] at h2
    simpa using h2
theorem flat_set (xs : List NV) (i : Nat) (y : NV) (hi : i < xs.length) : ∀ k, (flat ndL (xs.set i y))[k]? = if i * 8 ≤ k ∧ k < i * 8 + 8 then (ndL y)[k - i * 8]? else (flat ndL xs)[k]? := by
  induction xs generalizing i with
  | nil => simp at hi
  | cons x xs ih =>
    intro k
    cases i with
    | zero =>
      simp only [List.set_cons_zero, flat, List.flatMap_cons, Nat.zero_mul, Nat.zero_le, true_and, Nat.zero_add, Nat.sub_zero]
      by_cases hk : k < 8
      · rw [if_pos hk, List.getElem?_append_left (by rw [ndL_length]; exact hk)]
      · rw [if_neg hk, List.getElem?_append_right (by rw [ndL_length]; omega), List.getElem?_append_right (by rw [ndL_length]; omega), ndL_length, ndL_length]
    | succ i =>
      have hi' : i < xs.length := by simpa using hi
      simp only [List.set_cons_succ, flat, List.flatMap_cons]
      by_cases hk : k < 8
      · rw [if_neg (by omega), List.getElem?_append_left (by rw [ndL_length]; exact hk), List.getElem?_append_left (by rw [ndL_length]; exact hk)]
      · rw [List.getElem?_append_right (by rw [ndL_length]; omega), List.getElem?_append_right (by rw [ndL_length]; omega), ndL_length]
        have := ih i hi' (k - 8)
        unfold flat at this
        rw [this]
        by_cases h2 : i * 8 ≤ k - 8 ∧ k - 8 < i * 8 + 8
        · rw [if_pos h2, if_pos (by omega), show k - 8 - i * 8 = k - (i + 1) * 8 by omega]
        · rw [if_neg h2, if_neg (by omega)]
theorem flat_len (xs : List NV) : (flat ndL xs).length = xs.length * 8 := flat_length ndL 8 ndL_length xs
theorem row_there {w : World} {base g cap : Nat} {xs : List NV} (h : w.ownsRow base 28 8 (.slice (some ⟨g, 0, none⟩) xs.length cap) xs.length (flat ndL xs)) {i : Nat} (hi : i < xs.length) : w.there g (i * 8) 8 := by
  intro j hj
  refine ⟨?_, h.frozenAt _⟩
  rw [h.cellAt (i * 8 + j) (by omega)]
  have hlt : i * 8 + j < (flat ndL xs).length := by rw [flat_len]; omega
  rw [List.getElem?_eq_getElem hlt]; rfl
/-- the cells of one node are written -/
theorem row_stored {w : World} {base g cap : Nat} {xs : List NV} (h : w.ownsRow base 28 8 (.slice (some ⟨g, 0, none⟩) xs.length cap) xs.length (flat ndL xs)) {i : Nat} (hi : i < xs.length) (y : NV) :
    (w.setCells g (i * 8) (ndL y)).ownsRow base 28 8 (.slice (some ⟨g, 0, none⟩) xs.length cap) xs.length (flat ndL (xs.set i y)) := by
  have h0 := (h.stored (i * 8) (.int .i64 y.1.op)).1
  have h1 := (h0.stored (i * 8 + 1) (.int .u64 (limN y.1.set 0))).1
  have h2 := (h1.stored (i * 8 + 1 + 1) (.int .u64 (limN y.1.set 1))).1
  have h3 := (h2.stored (i * 8 + 1 + 1 + 1) (.int .u64 (limN y.1.set 2))).1
  have h4 := (h3.stored (i * 8 + 1 + 1 + 1 + 1) (.int .u64 (limN y.1.set 3))).1
  have h5 := (h4.stored (i * 8 + 1 + 1 + 1 + 1 + 1) (.int .i64 y.1.mn)).1
  have h6 := (h5.stored (i * 8 + 1 + 1 + 1 + 1 + 1 + 1) (.int .i64 y.1.mx)).1
  have h7 := (h6.stored (i * 8 + 1 + 1 + 1 + 1 + 1 + 1 + 1) y.2).1
  have e : flat ndL (xs.set i y) = ((((((((flat ndL xs).set (i * 8) (.int .i64 y.1.op)).set (i * 8 + 1) (.int .u64 (limN y.1.set 0))).set (i * 8 + 1 + 1) (.int .u64 (limN y.1.set 1))).set (i * 8 + 1 + 1 + 1) (.int .u64 (limN y.1.set 2))).set (i * 8 + 1 + 1 + 1 + 1) (.int .u64 (limN y.1.set 3))).set (i * 8 + 1 + 1 + 1 + 1 + 1) (.int .i64 y.1.mn)).set (i * 8 + 1 + 1 + 1 + 1 + 1 + 1) (.int .i64 y.1.mx)).set (i * 8 + 1 + 1 + 1 + 1 + 1 + 1 + 1) y.2 := by
    refine List.ext_getElem? fun k => ?_
    rw [flat_set xs i y hi]
    have hl : k < i * 8 + 8 → k < xs.length * 8 := fun _ => by omega
    by_cases hk : i * 8 ≤ k ∧ k < i * 8 + 8
    · rw [if_pos hk]
      obtain ⟨j, hj, rfl⟩ : ∃ j, j < 8 ∧ k = i * 8 + j := ⟨k - i * 8, by omega, by omega⟩
      have hlen := flat_len xs
      have hlt : i * 8 + j < (flat ndL xs).length := by rw [hlen]; omega
      rw [Nat.add_sub_cancel_left]
      rcases (by omega : j = 0 ∨ j = 1 ∨ j = 2 ∨ j = 3 ∨ j = 4 ∨ j = 5 ∨ j = 6 ∨ j = 7) with rfl | rfl | rfl | rfl | rfl | rfl | rfl | rfl <;> simp [List.getElem?_set, hlen, ndL, ndC] <;> (try omega) <;> (repeat' split) <;> first | rfl | omega
    · rw [if_neg hk]
      simp only [List.getElem?_set]
      repeat rw [if_neg (by omega)]
  rw [e]
  exact h7
theorem row_grown (w : World) (g i : Nat) (y : NV) : w.grownBy (w.setCells g i (ndL y)) (some g) :=
  grown_trans (grown_trans (grown_trans (grown_trans (grown_trans (grown_trans (grown_trans (grown_setCell w g i _) (grown_setCell _ g (i + 1) _)) (grown_setCell _ g (i + 1 + 1) _)) (grown_setCell _ g (i + 1 + 1 + 1) _)) (grown_setCell _ g (i + 1 + 1 + 1 + 1) _)) (grown_setCell _ g (i + 1 + 1 + 1 + 1 + 1) _)) (grown_setCell _ g (i + 1 + 1 + 1 + 1 + 1 + 1) _)) (grown_setCell _ g (i + 1 + 1 + 1 + 1 + 1 + 1 + 1) _)
theorem NRow.set {w : World} {base g cap n : Nat} {xs : List NV} (h : NRow w base (.slice (some ⟨g, 0, none⟩) n cap) xs) {i : Nat} (hi : i < xs.length) (y : NV) (hy : Kids w (fun b => base ≤ b ∧ some b ≠ some g) y.2 y.1.kids) :
    NRow (w.setCells g (i * 8) (ndL y)) base (.slice (some ⟨g, 0, none⟩) n cap) (xs.set i y) := by
  have hn : n = xs.length := by
    rcases h.1.2 with ⟨h1, _⟩ | ⟨_, _, _, h1, _⟩
    · cases h1
    · cases h1; rfl
  subst hn
  refine ⟨by rw [List.length_set]; exact row_stored h.1 hi y, fun x hx => ?_⟩
  have hk : Kids w (fun b => base ≤ b ∧ some b ≠ some g) x.2 x.1.kids := by
    rcases List.mem_or_eq_of_mem_set hx with hx | rfl
    · exact h.2 x hx
    · exact hy
  exact hk.grown (row_grown w g (i * 8) y) fun b hb => hb.2
theorem NRow.pop {w : World} {base g cap n : Nat} {xs : List NV} (h : NRow w base (.slice (some ⟨g, 0, none⟩) n cap) xs) (m : Nat) (hm : m ≤ n) : NRow w base (.slice (some ⟨g, 0, none⟩) m cap) (xs.take m) := by
  rcases h.1.2 with ⟨h1, _⟩ | ⟨g', cap', cur, h1, hb', hg, hcap, hmax, hcs, htk⟩
  · cases h1
  · cases h1
    have hl : (xs.take m).length = m := by simp; omega
    refine ⟨⟨by rw [flat_len], .inr ⟨g, cap, cur, by rw [hl], hb', hg, by omega, hmax, hcs, ?_⟩⟩, fun x hx => h.2 x (List.mem_of_mem_take hx)⟩
    rw [hl]
    have e : flat ndL (xs.take m) = (flat ndL xs).take (m * 8) := by
      have h2 : flat ndL xs = flat ndL (xs.take m) ++ flat ndL (xs.drop m) := by
        unfold flat; rw [← List.flatMap_append, List.take_append_drop]
      have hf : (flat ndL (xs.take m)).length = m * 8 := by rw [flat_len, hl]
      conv => rhs; rw [h2]
      rw [List.take_append_of_le_length (by omega), List.take_of_length_le (Nat.le_of_eq hf)]
    rw [e, ← htk, List.take_take, Nat.min_eq_left (by omega)]
/-- a node is stored into a row -/
theorem st_row {ops : Array Oper} {rest : List Oper} {o : Oper} {a : Act} {w : World} {Q : Exit → Act → World → Prop} (hgd : o.guard = none) (x y : Operand) (ho : o.op = .store 28 x y)
    (base g n cap : Nat) (xs : List NV) (h : NRow w base (.slice (some ⟨g, 0, none⟩) n cap) xs) (i : Nat) (hi : i < xs.length) (hx : a.eval x = .pointer (some ⟨g, i * 8, none⟩)) (z : NV) (hz : a.eval y = ndV z.1.op z.1.set z.1.mn z.1.mx z.2)
    (hk : Kids w (fun b => base ≤ b ∧ some b ≠ some g) z.2 z.1.kids)
    (k : ∀ w', NRow w' base (.slice (some ⟨g, 0, none⟩) n cap) (xs.set i z) → w.grownBy w' (some g) → wpList Try.prog ops Q rest (a.put o.dst undef) w') : wpList Try.prog ops Q (o :: rest) a w := by
  have hn : n = xs.length := by
    rcases h.1.2 with ⟨h1, _⟩ | ⟨_, _, _, h1, _⟩
    · cases h1
    · cases h1; rfl
  subst hn
  exact wpList_store_mid hgd _ x y ho g (i * 8) (ndC z.1.op z.1.set z.1.mn z.1.mx z.2) hx hz (row_there h.1 hi) (infoN _ _ _ _ _) (ndC_one _ _ _ _ _ hk.oneCell) (k _ (h.set hi z hk) (row_grown w g (i * 8) z))
end Go.Proofs.Ytekodfpjoehooaa.Bs
