/- A way of walking: slots by what is known of them, the call's own blocks by name; one law for each operation. Over any program. -/
import Derived.WalkKit
import Derived.OwnWalkIn
import Derived.OrdersIn
import Derived.IntWalk
namespace Go.Proofs.Ytlppkbfkajionaa.Gw
open Go Go.RowKit
set_option linter.unusedSimpArgs false
set_option linter.unusedVariables false
set_option linter.unusedSectionVars false
/-- what a list of slots tells of one -/
def getO : List (Nat × Value) → Nat → Option Value
  | [], _ => none
  | (k, v) :: r, t => match Nat.beq k t with
    | true => some v
    | false => getO r t
/-- a frame of which a list of slots is known -/
structure Ag (ds : List Deferred) (N : Nat) (l : List (Nat × Value)) (a : Act) : Prop where
  defers : a.defers = ds
  size : a.tmps.size = N
  slot : ∀ t v, getO l t = some v → a.tmps.getD t undef = v
/-- an operand's value, as far as it is known -/
def ev (l : List (Nat × Value)) : Operand → Option Value
  | .tmp t => getO l t
  | .const v => some v
  | .global g => some (.pointer (some ⟨g, 0, none⟩))
  | .func f => some (.func (.func f) #[] #[])
theorem Ag.ev {ds : List Deferred} {N : Nat} {l : List (Nat × Value)} {a : Act} (h : Ag ds N l a) {x : Operand} {v : Value} (hx : ev l x = some v) : a.eval x = v := by
  cases x with
  | tmp t => exact h.slot t v hx
  | const u => exact Option.some.inj hx
  | global g => exact Option.some.inj hx
  | func f => exact Option.some.inj hx
theorem Ag.put {ds : List Deferred} {N : Nat} {l : List (Nat × Value)} {a : Act} (h : Ag ds N l a) {d : Nat} (hd : Nat.ble (d + 1) N = true) (v : Value) : Ag ds N ((d, v) :: l) (a.put (some d) v) := by
  have hd := Nat.le_of_ble_eq_true hd
  refine ⟨h.defers, by simp [Act.put, h.size], fun t u ht => ?_⟩
  unfold getO at ht
  cases hb : Nat.beq d t with
  | true =>
    rw [hb] at ht
    obtain rfl := Option.some.inj ht
    obtain rfl := Nat.eq_of_beq_eq_true hb
    have : d < a.tmps.size := by rw [h.size]; omega
    simp [Act.put, this]
  | false =>
    rw [hb] at ht
    have hne : d ≠ t := fun e => by subst e; rw [Nat.beq_refl] at hb; exact absurd hb (by simp)
    have := h.slot t u ht
    simpa [Act.put, Array.getElem?_setIfInBounds_ne hne] using this
theorem Ag.put_none {ds : List Deferred} {N : Nat} {l : List (Nat × Value)} {a : Act} (h : Ag ds N l a) (v : Value) : Ag ds N l (a.put none v) := h
/-- each slot of a list is told by another one -/
def Sub (l : List (Nat × Value)) : List (Nat × Value) → Prop
  | [] => True
  | (k, v) :: r => getO l k = some v ∧ Sub l r
theorem sub_nil {l : List (Nat × Value)} : Sub l [] := trivial
theorem sub_cons {l r : List (Nat × Value)} {k : Nat} {v : Value} (h : getO l k = some v) (hr : Sub l r) : Sub l ((k, v) :: r) := ⟨h, hr⟩
theorem Sub.get {l : List (Nat × Value)} : ∀ {l' : List (Nat × Value)}, Sub l l' → ∀ t v, getO l' t = some v → getO l t = some v
  | [], _, t, v, h => by simp [getO] at h
  | (k, u) :: r, hs, t, v, h => by
    unfold getO at h
    cases hb : Nat.beq k t with
    | true =>
      rw [hb] at h
      obtain rfl := Option.some.inj h
      obtain rfl := Nat.eq_of_beq_eq_true hb
      exact hs.1
    | false =>
      rw [hb] at h
      exact Sub.get hs.2 t v h
theorem Ag.weak {ds : List Deferred} {N : Nat} {l l' : List (Nat × Value)} {a : Act} (h : Ag ds N l a) (hs : Sub l l') : Ag ds N l' a := ⟨h.defers, h.size, fun t v ht => h.slot t v (hs.get t v ht)⟩
/-- one of the call's own blocks -/
structure Blk where
  b : Nat
  o : Obj
/-- blocks of the first world that may be written; the frame's deferred calls -/
structure Gx where
  bs : List Nat
  ds : List Deferred
abbrev G0 : Gx := ⟨[], []⟩
/-- what a walk stands upon: the world in which it began, the blocks of that world that it may write, a world by name, its own blocks -/
structure Sx where
  W : World
  gs : Gx
  w0 : World
  own : List Blk
structure St (S : Sx) (w : World) : Prop where
  os : w.os = S.W.os
  tape : w.tape = S.W.tape
  output : w.output = S.W.output
  sizeW : S.W.heap.size ≤ S.w0.heap.size
  size0 : S.w0.heap.size ≤ w.heap.size
  oldW : ∀ b, b < S.W.heap.size → b ∉ S.gs.bs → w.heap[b]? = S.W.heap[b]?
  old0 : ∀ b, b < S.w0.heap.size → (∀ x ∈ S.own, x.b ≠ b) → w.heap[b]? = S.w0.heap[b]?
  apart : S.own.Pairwise (fun x y => x.b ≠ y.b)
  base : ∀ x ∈ S.own, x.b ∈ S.gs.bs ∨ S.W.heap.size ≤ x.b
  blk : ∀ x ∈ S.own, w.heap[x.b]? = some x.o
theorem St.lt {S : Sx} {w : World} (h : St S w) {x : Blk} (hx : x ∈ S.own) : x.b < w.heap.size := (Array.getElem?_eq_some_iff.1 (h.blk x hx)).1
theorem St.start (w : World) : St ⟨w, G0, w, []⟩ w := ⟨rfl, rfl, rfl, Nat.le_refl _, Nat.le_refl _, fun _ _ _ => rfl, fun _ _ _ => rfl, .nil, fun x hx => (by cases hx), fun x hx => (by cases hx)⟩
theorem St.below {S : Sx} {w : World} (h : St S w) (hg : S.gs.bs = []) : Below S.W.heap.size S.W w := ⟨h.os, h.tape, h.output, Nat.le_trans h.sizeW h.size0, fun k hk => h.oldW k hk (by rw [hg]; simp)⟩
/-- a world in which old blocks, and the own ones, lie as they lay -/
theorem St.more {S : Sx} {w w1 : World} (h : St S w) (hb : Below w.heap.size w w1) : St S w1 := by
  have hl : ∀ b, b < w.heap.size → w1.heap[b]? = w.heap[b]? := fun b hlt => hb.block b hlt
  have hsz := Nat.le_trans h.sizeW h.size0
  exact ⟨hb.os.trans h.os, hb.tape.trans h.tape, hb.output.trans h.output, h.sizeW, Nat.le_trans h.size0 hb.size, fun b h1 h2 => (hl b (by omega)).trans (h.oldW b h1 h2),
    fun b h1 h2 => (hl b (Nat.lt_of_lt_of_le h1 h.size0)).trans (h.old0 b h1 h2), h.apart, h.base, fun x hx => (hl _ (h.lt hx)).trans (h.blk x hx)⟩
/-- the world gets a name -/
theorem St.name {S : Sx} {w : World} (h : St S w) : St ⟨S.W, S.gs, w, S.own⟩ w :=
  ⟨h.os, h.tape, h.output, Nat.le_trans h.sizeW h.size0, Nat.le_refl _, h.oldW, fun _ _ _ => rfl, h.apart, h.base, h.blk⟩
theorem heap_push (w : World) (o : Obj) (b : Nat) (hb : b < w.heap.size) : (w.alloc o).heap[b]? = w.heap[b]? := Below.heap_alloc w o b hb
theorem heap_push_new (w : World) (o : Obj) : (w.alloc o).heap[w.heap.size]? = some o := by
  show (w.heap.push o)[w.heap.size]? = _
  simp
/-- a new block -/
theorem St.alloc {S : Sx} {w : World} (h : St S w) (o : Obj) : St ⟨S.W, S.gs, S.w0, ⟨w.heap.size, o⟩ :: S.own⟩ (w.alloc o) := by
  have h1 := h.more ((Below.refl w.heap.size w).alloc (Nat.le_refl _) o)
  refine ⟨h1.os, h1.tape, h1.output, h1.sizeW, h1.size0, h1.oldW, fun b hb hn => h1.old0 b hb (fun x hx => hn x (List.mem_cons_of_mem _ hx)), ?_, ?_, ?_⟩
  · refine List.pairwise_cons.2 ⟨fun x hx => ?_, h1.apart⟩
    have := h.lt hx
    show w.heap.size ≠ x.b
    omega
  · intro x hx
    rcases List.mem_cons.1 hx with rfl | hx
    · exact .inr (Nat.le_trans h.sizeW h.size0)
    · exact h1.base x hx
  · intro x hx
    rcases List.mem_cons.1 hx with rfl | hx
    · exact heap_push_new w o
    · exact h1.blk x hx
/-- an own block, taken out by its place -/
theorem pair_ne {own : List Blk} (h : own.Pairwise (fun x y => x.b ≠ y.b)) {i j : Nat} {x y : Blk} (hx : own[i]? = some x) (hy : own[j]? = some y) (hij : i ≠ j) : x.b ≠ y.b := by
  rw [List.pairwise_iff_getElem] at h
  obtain ⟨hi, rfl⟩ := List.getElem?_eq_some_iff.1 hx
  obtain ⟨hj, rfl⟩ := List.getElem?_eq_some_iff.1 hy
  rcases Nat.lt_or_gt_of_ne hij with hl | hl
  · exact h i j hi hj hl
  · exact fun e => h j i hj hi hl e.symm
/-- a world that differs in one own block -/
theorem St.write {S : Sx} {w w1 : World} (h : St S w) {i : Nat} {x : Blk} (hx : S.own[i]? = some x) (o : Obj) (hos : w1.os = w.os) (htp : w1.tape = w.tape) (hou : w1.output = w.output) (hsz : w.heap.size ≤ w1.heap.size)
    (hb : ∀ b, b < w.heap.size → b ≠ x.b → w1.heap[b]? = w.heap[b]?) (ho : w1.heap[x.b]? = some o) : St ⟨S.W, S.gs, S.w0, S.own.set i ⟨x.b, o⟩⟩ w1 := by
  have hsz0 := Nat.le_trans h.sizeW h.size0
  obtain ⟨hi, hxi⟩ := List.getElem?_eq_some_iff.1 hx
  have hmem : x ∈ S.own := List.mem_of_getElem? hx
  have hget : ∀ y ∈ S.own.set i ⟨x.b, o⟩, y = ⟨x.b, o⟩ ∨ ∃ j, j ≠ i ∧ S.own[j]? = some y := by
    intro y hy
    obtain ⟨j, hj⟩ := List.mem_iff_getElem?.1 hy
    rw [List.getElem?_set] at hj
    by_cases hij : i = j
    · subst hij
      rw [if_pos rfl, if_pos hi] at hj
      exact .inl (Option.some.inj hj).symm
    · rw [if_neg hij] at hj
      exact .inr ⟨j, fun e => hij e.symm, hj⟩
  refine ⟨hos.trans h.os, htp.trans h.tape, hou.trans h.output, h.sizeW, Nat.le_trans h.size0 hsz, fun b (h1 : b < S.W.heap.size) h2 => ?_, fun b (h1 : b < S.w0.heap.size) h2 => ?_, ?_, ?_, ?_⟩
  · rw [hb b (by omega) (fun e => ?_)]
    · exact h.oldW b h1 h2
    · subst e
      rcases h.base x hmem with hg | hg
      · exact h2 hg
      · omega
  · have hne : b ≠ x.b := fun e => by
      refine h2 ⟨x.b, o⟩ ?_ e.symm
      exact List.mem_iff_getElem?.2 ⟨i, by rw [List.getElem?_set, if_pos rfl, if_pos hi]⟩
    rw [hb b (Nat.lt_of_lt_of_le h1 h.size0) hne]
    refine h.old0 b h1 fun y hy => ?_
    obtain ⟨j, hj⟩ := List.mem_iff_getElem?.1 hy
    by_cases hij : j = i
    · subst hij
      rw [hx] at hj
      obtain rfl := Option.some.inj hj
      exact fun e => hne e.symm
    · exact h2 y (List.mem_iff_getElem?.2 ⟨j, by rw [List.getElem?_set, if_neg (fun e => hij e.symm)]; exact hj⟩)
  · rw [List.pairwise_iff_getElem]
    intro a b ha hb' hab
    have ha' : a < S.own.length := by simpa using ha
    have hb'' : b < S.own.length := by simpa using hb'
    have hp := List.pairwise_iff_getElem.1 h.apart a b ha' hb'' hab
    rw [List.getElem_set, List.getElem_set]
    by_cases e1 : i = a
    · subst e1
      rw [if_pos rfl, if_neg (by omega)]
      rw [hxi] at hp; exact hp
    · rw [if_neg e1]
      by_cases e2 : i = b
      · subst e2
        rw [if_pos rfl]
        rw [hxi] at hp; exact hp
      · rw [if_neg e2]; exact hp
  · intro y hy
    rcases hget y hy with rfl | ⟨j, _, hj⟩
    · exact h.base x hmem
    · exact h.base y (List.mem_of_getElem? hj)
  · intro y hy
    rcases hget y hy with rfl | ⟨j, hji, hj⟩
    · exact ho
    · rw [hb y.b (h.lt (List.mem_of_getElem? hj)) (pair_ne h.apart hj hx hji)]
      exact h.blk y (List.mem_of_getElem? hj)
end Go.Proofs.Ytlppkbfkajionaa.Gw
