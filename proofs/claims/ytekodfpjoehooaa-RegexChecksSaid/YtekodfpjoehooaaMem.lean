/- Slices in memory that read as lists whose elements take k cells each: plain facts on worlds, no program. -/
import Derived.WalkKit
import Derived.Below
import Derived.Lib.Hide
import Derived.Deep.MidRow
import Derived.Laws.OwnMore
namespace Go.Proofs.Ytekodfpjoehooaa.Mem
open Go.RowKit
theorem heap_lt {w : World} {g : Nat} {o : Obj} (h : w.heap[g]? = some o) : g < w.heap.size := (Array.getElem?_eq_some_iff.1 h).1
theorem heap_kept {w w' : World} {row : Option Nat} {g : Nat} {o : Obj} (hg : w.grownBy w' row) (h : w.heap[g]? = some o) (hne : some g ≠ row) : w'.heap[g]? = some o :=
  (hg.block _ (heap_lt h) hne).trans h
theorem heap_below {B : Nat} {w w' : World} {g : Nat} {o : Obj} (hb : Below B w w') (h : w.heap[g]? = some o) (hg : g < B) : w'.heap[g]? = some o := (hb.block g hg).trans h
theorem below_all {w w' : World} {g : Nat} {o : Obj} (hb : Below w.heap.size w w') (h : w.heap[g]? = some o) : w'.heap[g]? = some o := (hb.block g (heap_lt h)).trans h
theorem heap_alloc {w : World} {g : Nat} {o o' : Obj} (h : w.heap[g]? = some o) : (w.alloc o').heap[g]? = some o := by
  have hl := heap_lt h
  show (w.heap.push o')[g]? = some o
  rw [Array.getElem?_push, if_neg (Nat.ne_of_lt hl)]
  exact h
theorem heap_alloc3_new (w : World) (A B C : Obj) : (((w.alloc A).alloc B).alloc C).heap[w.heap.size + 2]? = some C := by
  have h := heap_alloc_new ((w.alloc A).alloc B) C
  have e : ((w.alloc A).alloc B).heap.size = w.heap.size + 2 := by rw [World.size_alloc, World.size_alloc]
  rwa [e] at h
theorem below_alloc3 (w : World) (A B C : Obj) : Below w.heap.size w (((w.alloc A).alloc B).alloc C) := (((Below.refl _ _).alloc (Nat.le_refl _) _).alloc (by simp) _).alloc (by simp; omega) _
theorem below_alloc2 (w : World) (A B : Obj) : Below w.heap.size w ((w.alloc A).alloc B) := ((Below.refl _ _).alloc (Nat.le_refl _) _).alloc (by simp) _
/-- one step of Below behind another one, from the second world's size on -/
theorem below_more {B : Nat} {w w1 w2 : World} (h : Below B w w1) (hB : B ≤ w1.heap.size) (k : Below w1.heap.size w1 w2) : Below B w w2 :=
  h.trans ⟨k.os, k.tape, k.output, k.size, fun i hi => k.block i (Nat.lt_of_lt_of_le hi hB)⟩
theorem below_le {B B' : Nat} {w w1 : World} (h : Below B w w1) (hB : B' ≤ B) : Below B' w w1 := ⟨h.os, h.tape, h.output, h.size, fun i hi => h.block i (Nat.lt_of_lt_of_le hi hB)⟩
theorem grown_of_below {w w1 : World} (h : Below w.heap.size w w1) (row : Option Nat) : w.grownBy w1 row := ⟨h.os, h.tape, h.output, h.size, fun i hi _ => h.block i hi⟩
theorem grown_setRow (w : World) (g : Nat) (cs : Array Value) : w.grownBy (w.setRow g cs) (some g) :=
  ⟨setRow_os _ _ _, setRow_tape _ _ _, setRow_output _ _ _, Nat.le_of_eq (setRow_size _ _ _).symm, fun k _ hk => setRow_other w g k _ (fun e => hk (by rw [e]))⟩
theorem grown_setCell_drew (w : World) (g i : Nat) (v : Value) : w.grownBy (w.setCell ⟨g, i, none⟩ v).drew (some g) :=
  ⟨rfl, rfl, rfl, by simp [World.drew], fun k _ hk => heap_setCell_other w ⟨g, i, none⟩ k v (fun e => hk (by simp [e]))⟩
theorem grown_setCell (w : World) (g i : Nat) (v : Value) : w.grownBy (w.setCell ⟨g, i, none⟩ v) (some g) :=
  ⟨rfl, rfl, rfl, by simp, fun k _ hk => heap_setCell_other w ⟨g, i, none⟩ k v (fun e => hk (by simp [e]))⟩
theorem grown_trans {w w1 w2 : World} {row : Option Nat} (h : w.grownBy w1 row) (k : w1.grownBy w2 row) : w.grownBy w2 row :=
  ⟨k.os.trans h.os, k.tape.trans h.tape, k.output.trans h.output, Nat.le_trans h.size k.size, fun i hi hne => (k.block i (Nat.lt_of_lt_of_le hi h.size) hne).trans (h.block i hi hne)⟩
theorem range_cell {w w' : World} {b o : Nat} {cs : List Value} (h : w.rangeAt b o cs) (hb : w'.heap[b]? = w.heap[b]?) : w'.rangeAt b o cs :=
  fun j v hj => (World.cell?_of_block (a := ⟨b, o + j, none⟩) hb).trans (h j v hj)
theorem range_lt {w : World} {b o : Nat} {cs : List Value} (h : w.rangeAt b o cs) (hne : cs ≠ []) : b < w.heap.size := by
  cases cs with
  | nil => exact absurd rfl hne
  | cons c cs => exact World.block_lt_of_cell? w _ (h 0 c rfl)
theorem range_row {w : World} {g : Nat} {cs : Array Value} {t : TypeId} {fr : Nat × Nat} (h : w.heap[g]? = some (.cells cs t fr)) : w.rangeAt g 0 cs.toList := by
  intro j v hj
  rw [cell_of_row w g _ cs t fr h]
  simpa using hj
theorem own_new {w : World} {base : Nat} {e : TypeId} {size : Nat} {v : Value} {n : Nat} {xs : List Value} (h : w.ownsRow base e size v n xs) {g : Nat} (hg : w.heap.size ≤ g) : v.ownBlock = none ∨ v.ownBlock ≠ some g := by
  cases hv : v.ownBlock with
  | none => exact .inl rfl
  | some k => exact .inr fun e => by have := (h.lt k hv).2; simp only [Option.some.injEq] at e; omega
theorem own_below {w w' : World} {base : Nat} {e : TypeId} {size : Nat} {v : Value} {n : Nat} {xs : List Value} (h : w.ownsRow base e size v n xs) (hb : Below w.heap.size w w') : w'.ownsRow base e size v n xs :=
  h.kept (grown_of_below hb none) (by cases v.ownBlock <;> simp)
theorem own_mono {w : World} {base base' : Nat} {e : TypeId} {size : Nat} {v : Value} {n : Nat} {xs : List Value} (h : w.ownsRow base e size v n xs) (hb : base' ≤ base) : w.ownsRow base' e size v n xs :=
  ⟨h.1, h.2.elim .inl fun ⟨g, cap, cur, h1, h2, h3⟩ => .inr ⟨g, cap, cur, h1, Nat.le_trans hb h2, h3⟩⟩
theorem own_other {w w' : World} {base : Nat} {e : TypeId} {size : Nat} {v : Value} {n : Nat} {xs : List Value} (h : w.ownsRow base e size v n xs) {g : Nat} (hg : w.grownBy w' (some g)) (hlt : g < base) : w'.ownsRow base e size v n xs := by
  refine h.kept hg ?_
  cases hv : v.ownBlock with
  | none => exact .inl rfl
  | some b => exact .inr fun e => by have := (h.lt b hv).1; simp only [Option.some.injEq] at e; omega
theorem own_cells {w : World} {base : Nat} {e : TypeId} {size : Nat} {v : Value} {n : Nat} {xs : List Value} (h : w.ownsRow base e size v n xs) : ∀ (j : Nat) (o : Obj), v.ownBlock = some j → w.heap[j]? = some o → ∃ c t fr, o = .cells c t fr := by
  intro j o hj ho
  rcases h.2 with ⟨rfl, _⟩ | ⟨g, cap, cur, rfl, _, hgg, _⟩
  · simp [Value.ownBlock] at hj
  · simp [Value.ownBlock] at hj
    subst hj
    rw [hgg] at ho
    cases ho
    exact ⟨_, _, _, rfl⟩
theorem own_ne {w : World} {base : Nat} {e : TypeId} {size : Nat} {v : Value} {n : Nat} {xs : List Value} (h : w.ownsRow base e size v n xs) {g : Nat} (hg : g < base) : some g ≠ v.ownBlock := by
  intro e
  have := (h.lt g e.symm).1
  omega
theorem own_base {w : World} {base : Nat} {e : TypeId} {size : Nat} {v : Value} {n : Nat} {xs : List Value} (h : w.ownsRow base e size v n xs) (B : Nat) (hB : B ≤ base) : ∀ k, v.ownBlock = some k → B ≤ k :=
  fun k hk => Nat.le_trans hB (h.lt k hk).1
variable {α : Type}
/-- a slice value that reads as a list of elements of k cells each -/
def Row (w : World) (k : Nat) (C : α → List Value) (v : Value) (xs : List α) : Prop :=
  ∃ A cap, v = .slice A xs.length cap ∧ xs.length * k ≤ 140737488355328 ∧ (0 < xs.length → ∃ b o, A = some ⟨b, o, none⟩ ∧ ∀ i x, xs[i]? = some x → w.rangeAt b (o + i * k) (C x))
theorem Row.nil (w : World) (k : Nat) (C : α → List Value) : Row w k C (.slice none 0 0) [] := ⟨none, 0, rfl, by simp, fun h => absurd h (by simp)⟩
theorem Row.below {w w' : World} {k : Nat} {C : α → List Value} {v : Value} {xs : List α} (h : Row w k C v xs) (hC : ∀ x, C x ≠ []) {B : Nat} (hB : w.heap.size ≤ B) (hb : Below B w w') : Row w' k C v xs := by
  obtain ⟨A, cap, rfl, hl, h⟩ := h
  refine ⟨A, cap, rfl, hl, fun hp => ?_⟩
  obtain ⟨b, o, rfl, h'⟩ := h hp
  exact ⟨b, o, rfl, fun i x hx => range_cell (h' i x hx) (hb.block b (Nat.lt_of_lt_of_le (range_lt (h' i x hx) (hC x)) hB))⟩
/-- what a row of the call's own reads as -/
theorem Row.of_own {w : World} {base : Nat} {e : TypeId} {k n : Nat} {v : Value} {cells : List Value} (h : w.ownsRow base e k v n cells) (C : α → List Value) (xs : List α)
    (hn : xs.length = n) (hb : xs.length * k ≤ 140737488355328) (hc : ∀ i x, xs[i]? = some x → ∀ j u, (C x)[j]? = some u → cells[i * k + j]? = some u) : Row w k C v xs := by
  subst hn
  rcases h.2 with ⟨rfl, h0⟩ | ⟨g, cap, cur, rfl, hb', hg, hcap, _⟩
  · have : xs = [] := List.eq_nil_of_length_eq_zero h0
    subst this
    exact Row.nil w k C
  · refine ⟨some ⟨g, 0, none⟩, cap, rfl, hb, fun _ => ⟨g, 0, rfl, fun i x hx j u hj => ?_⟩⟩
    have := h.cells (g := g) rfl (i * k + j) u (hc i x hx j u hj)
    rw [Addr.add_mid] at this
    rw [Nat.add_assoc]
    exact this
/-- the cells of a list, in one row -/
def flat (C : α → List Value) (xs : List α) : List Value := xs.flatMap C
theorem flat_snoc (C : α → List Value) (xs : List α) (x : α) : flat C (xs ++ [x]) = flat C xs ++ C x := by simp [flat]
theorem flat_length (C : α → List Value) (k : Nat) (hk : ∀ x, (C x).length = k) (xs : List α) : (flat C xs).length = xs.length * k := by
  induction xs with
  | nil => simp [flat]
  | cons x xs ih => simp only [flat, List.flatMap_cons, List.length_append, hk, List.length_cons] at *; rw [ih, Nat.add_mul]; omega
theorem flat_get (C : α → List Value) (k : Nat) (hk : ∀ x, (C x).length = k) (xs : List α) : ∀ i x, xs[i]? = some x → ∀ j u, (C x)[j]? = some u → (flat C xs)[i * k + j]? = some u := by
  induction xs with
  | nil => intro i x h; simp at h
  | cons y xs ih =>
    intro i x hx j u hj
    have hlt : j < k := by have := (List.getElem?_eq_some_iff.1 hj).1; rw [hk] at this; exact this
    cases i with
    | zero =>
      simp only [List.getElem?_cons_zero, Option.some.injEq] at hx
      subst hx
      simp only [flat, List.flatMap_cons, Nat.zero_mul, Nat.zero_add]
      rw [List.getElem?_append_left (by rw [hk]; exact hlt)]
      exact hj
    | succ i =>
      simp only [List.getElem?_cons_succ] at hx
      have := ih i x hx j u hj
      simp only [flat, List.flatMap_cons] at *
      rw [List.getElem?_append_right (by rw [hk, Nat.add_mul]; omega), hk, show (i + 1) * k + j - k = i * k + j by rw [Nat.add_mul]; omega]
      exact this
/-- a row of the call's own that holds a list's cells -/
theorem Row.own {w : World} {base : Nat} {e : TypeId} {k n : Nat} {v : Value} {C : α → List Value} {xs : List α} (h : w.ownsRow base e k v n (flat C xs)) (hk : ∀ x, (C x).length = k)
    (hn : xs.length = n) (hb : xs.length * k ≤ 140737488355328) : Row w k C v xs := Row.of_own h C xs hn hb (flat_get C k hk xs)
theorem Row.length {w : World} {k : Nat} {C : α → List Value} {v : Value} {xs : List α} (h : Row w k C v xs) : ∃ A cap, v = .slice A xs.length cap := let ⟨A, cap, e, _⟩ := h; ⟨A, cap, e⟩
/-- an element -/
theorem Row.at {w : World} {k : Nat} {C : α → List Value} {A : Option Addr} {n cap : Nat} {xs : List α} (h : Row w k C (.slice A n cap) xs) {i : Nat} {x : α} (hx : xs[i]? = some x) :
    n = xs.length ∧ i < n ∧ ∃ b o, A = some ⟨b, o, none⟩ ∧ w.rangeAt b (o + i * k) (C x) := by
  obtain ⟨A', cap', e, _, h⟩ := h
  cases e
  have hi := (List.getElem?_eq_some_iff.1 hx).1
  obtain ⟨b, o, rfl, h'⟩ := h (by omega)
  exact ⟨rfl, hi, b, o, rfl, h' i x hx⟩
end Go.Proofs.Ytekodfpjoehooaa.Mem
