/- Storing an element into a row of the call's own: plain facts on worlds, no program. -/
import Derived.Test.YtekodfpjoehooaaMem
import Derived.Deep.Upon
namespace Go.Proofs.Ytekodfpjoehooaa.Mem
open Go.RowKit
variable {α : Type}
/-- the cells of a list, some of them set -/
def setMany (xs : List Value) : Nat → List Value → List Value
  | _, [] => xs
  | o, v :: r => setMany (xs.set o v) (o + 1) r
theorem setMany_length (vs : List Value) : ∀ (o : Nat) (xs : List Value), (setMany xs o vs).length = xs.length := by
  induction vs with
  | nil => intro o xs; rfl
  | cons v r ih => intro o xs; rw [setMany, ih, List.length_set]
theorem setMany_get (vs : List Value) : ∀ (o : Nat) (xs : List Value) (j : Nat), o + vs.length ≤ xs.length → (setMany xs o vs)[j]? = if o ≤ j ∧ j < o + vs.length then vs[j - o]? else xs[j]? := by
  induction vs with
  | nil => intro o xs j _; rw [setMany, if_neg (by simp)]
  | cons v r ih =>
    intro o xs j h
    simp only [List.length_cons] at h
    rw [setMany, ih _ _ _ (by rw [List.length_set]; omega), List.getElem?_set]
    simp only [List.length_cons]
    by_cases hj : o = j
    · subst hj
      rw [if_neg (by omega), if_pos rfl, if_pos (by omega), if_pos (by omega), Nat.sub_self]; rfl
    · by_cases hin : o + 1 ≤ j ∧ j < o + 1 + r.length
      · rw [if_pos hin, if_pos (by omega), show j - o = (j - (o + 1)) + 1 by omega, List.getElem?_cons_succ]
      · rw [if_neg hin, if_neg hj, if_neg (by omega)]
theorem own_setCells {base : Nat} {e : TypeId} {size g n cap : Nat} (vs : List Value) : ∀ (o : Nat) (w : World) (xs : List Value), w.ownsRow base e size (.slice (some ⟨g, 0, none⟩) n cap) n xs →
    (w.setCells g o vs).ownsRow base e size (.slice (some ⟨g, 0, none⟩) n cap) n (setMany xs o vs) ∧ w.grownBy (w.setCells g o vs) (some g) := by
  induction vs with
  | nil => intro o w xs h; exact ⟨h, ⟨rfl, rfl, rfl, Nat.le_refl _, fun _ _ _ => rfl⟩⟩
  | cons v r ih =>
    intro o w xs h
    obtain ⟨h1, h2⟩ := h.stored o v
    obtain ⟨h3, h4⟩ := ih (o + 1) _ _ h1
    exact ⟨h3, grown_trans h2 h4⟩
/-- an element of a list of cells of k each -/
theorem flat_set (C : α → List Value) (k : Nat) (hk : ∀ x, (C x).length = k) (xs : List α) (i : Nat) (y : α) (hi : i < xs.length) : setMany (flat C xs) (i * k) (C y) = flat C (xs.set i y) := by
  apply List.ext_getElem?
  intro j
  have hlen := flat_length C k hk xs
  have hle : i * k + k ≤ xs.length * k := by rw [← Nat.succ_mul]; exact Nat.mul_le_mul_right _ hi
  rw [setMany_get _ _ _ _ (by rw [hk, hlen]; exact hle), hk]
  by_cases hk0 : k = 0
  · subst hk0
    have e1 : ∀ ys : List α, flat C ys = [] := fun ys => List.eq_nil_of_length_eq_zero (by rw [flat_length C 0 hk]; omega)
    rw [if_neg (by omega), e1, e1]
  · have hkp : 0 < k := by omega
    have hjd : j = (j / k) * k + j % k := by rw [Nat.mul_comm]; exact (Nat.div_add_mod j k).symm
    have hjm := Nat.mod_lt j hkp
    by_cases hin : i * k ≤ j ∧ j < i * k + k
    · rw [if_pos hin]
      have hd : j / k = i := by
        apply Nat.div_eq_of_lt_le
        · exact hin.1
        · rw [Nat.succ_mul]; exact hin.2
      have hge : j - i * k < (C y).length := by rw [hk]; omega
      have := flat_get C k hk (xs.set i y) i y (by rw [List.getElem?_set, if_pos rfl, if_pos hi]) (j - i * k) _ (List.getElem?_eq_getElem hge)
      rw [show i * k + (j - i * k) = j by omega] at this
      rw [this, List.getElem?_eq_getElem hge]
    · rw [if_neg hin]
      have hd : j / k ≠ i := by
        intro he
        rw [he] at hjd
        exact hin ⟨by omega, by omega⟩
      by_cases hjl : j / k < xs.length
      · have hx := List.getElem?_eq_getElem hjl
        have hge : j % k < (C xs[j / k]).length := by rw [hk]; exact hjm
        have h1 := flat_get C k hk xs (j / k) _ hx (j % k) _ (List.getElem?_eq_getElem hge)
        have h2 := flat_get C k hk (xs.set i y) (j / k) xs[j / k] (by rw [List.getElem?_set, if_neg (fun h => hd h.symm)]; exact hx) (j % k) _ (List.getElem?_eq_getElem hge)
        rw [← hjd] at h1 h2
        rw [h1, h2]
      · have hj2 : xs.length * k ≤ j := by
          have : xs.length * k ≤ (j / k) * k := Nat.mul_le_mul_right _ (by omega)
          omega
        rw [List.getElem?_eq_none (by omega), List.getElem?_eq_none (by rw [flat_length C k hk, List.length_set]; exact hj2)]
theorem own_there {w : World} {base : Nat} {e : TypeId} {k g n cap : Nat} {cs : List Value} (h : w.ownsRow base e k (.slice (some ⟨g, 0, none⟩) n cap) n cs) (i : Nat) (hi : i < n) : w.there g (i * k) k := by
  intro j hj
  have hle : i * k + k ≤ n * k := by rw [← Nat.succ_mul]; exact Nat.mul_le_mul_right _ hi
  refine ⟨?_, h.frozenAt _⟩
  rw [h.cellAt _ (by omega), List.getElem?_eq_getElem (by rw [h.1]; omega)]
  rfl
theorem own_shape {w : World} {base : Nat} {e : TypeId} {k n : Nat} {v : Value} {cs : List Value} (h : w.ownsRow base e k v n cs) : ∃ A cap, v = .slice A n cap := by
  rcases h.2 with ⟨rfl, rfl⟩ | ⟨g, cap, cur, rfl, _⟩
  · exact ⟨none, 0, rfl⟩
  · exact ⟨_, _, rfl⟩
/-- the form of a row of the call's own -/
theorem own_form {w : World} {base : Nat} {e : TypeId} {k n : Nat} {v : Value} {cs : List Value} (h : w.ownsRow base e k v n cs) (hn : 0 < n) : ∃ g cap, v = .slice (some ⟨g, 0, none⟩) n cap ∧ base ≤ g := by
  rcases h.2 with ⟨_, h0⟩ | ⟨g, cap, cur, rfl, hb, _⟩
  · omega
  · exact ⟨g, cap, rfl, hb⟩
end Go.Proofs.Ytekodfpjoehooaa.Mem
