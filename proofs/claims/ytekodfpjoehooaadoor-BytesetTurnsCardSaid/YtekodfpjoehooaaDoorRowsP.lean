/- The rows of a set of bytes: plain facts, no program. -/
import Derived.Test.YtekodfpjoehooaaDoorBits
import Derived.Test.YtekodfpjoehooaaDoorPop
namespace Go.Proofs.YtekodfpjoehooaaDoor.Bs
/-- the lowest byte of a set from a byte on -/
def IsFirst (s : BitVec 256) (f : Nat) : Option Nat → Prop
  | some b => f ≤ b ∧ b < 256 ∧ s.getLsbD b = true ∧ ∀ c, f ≤ c → c < b → s.getLsbD c = false
  | none => ∀ c, f ≤ c → c < 256 → s.getLsbD c = false
def firstF (s : BitVec 256) (f : Nat) : Option Nat := (List.range 256).find? (fun b => decide (f ≤ b) && s.getLsbD b)
theorem isFirst_unique {s : BitVec 256} {f : Nat} {o o' : Option Nat} (h : IsFirst s f o) (h' : IsFirst s f o') : o = o' := by
  cases o with
  | none =>
    cases o' with
    | none => rfl
    | some b => have := h b h'.1 h'.2.1; rw [h'.2.2.1] at this; cases this
  | some a =>
    cases o' with
    | none => have := h' a h.1 h.2.1; rw [h.2.2.1] at this; cases this
    | some b =>
      rcases Nat.lt_trichotomy a b with hlt | rfl | hlt
      · have := h'.2.2.2 a h.1 hlt; rw [h.2.2.1] at this; cases this
      · rfl
      · have := h.2.2.2 b h'.1 hlt; rw [h'.2.2.1] at this; cases this
theorem isFirst_firstF (s : BitVec 256) (f : Nat) : IsFirst s f (firstF s f) := by
  unfold firstF
  cases h : (List.range 256).find? (fun b => decide (f ≤ b) && s.getLsbD b) with
  | none =>
    intro c hc1 hc2
    have := List.find?_eq_none.1 h c (List.mem_range.2 hc2)
    simpa [hc1] using this
  | some b =>
    have hp := List.find?_some h
    have hm := List.mem_of_find?_eq_some h
    simp only [Bool.and_eq_true, decide_eq_true_eq] at hp
    refine ⟨hp.1, List.mem_range.1 hm, hp.2, fun c hc1 hc2 => ?_⟩
    obtain ⟨_, as, bs, hab, hall⟩ := List.find?_eq_some_iff_append.1 h
    have hc : c ∈ as := by
      have hlen : as.length = b := by
        have h1 : (List.range 256)[as.length]? = some b := by rw [hab]; simp
        have := List.getElem?_eq_some_iff.1 h1
        obtain ⟨h2, h3⟩ := this
        rw [List.getElem_range] at h3
        exact h3
      have h1 : (List.range 256)[c]? = some c := by rw [List.getElem?_range (by have := List.mem_range.1 hm; omega)]
      rw [hab, List.getElem?_append_left (by omega)] at h1
      exact List.mem_of_getElem? h1
    have := hall c hc
    simpa [hc1] using this
theorem firstF_eq {s : BitVec 256} {f : Nat} {o : Option Nat} (h : IsFirst s f o) : o = firstF s f := isFirst_unique h (isFirst_firstF s f)
/-- rows from a byte on -/
def rowsF (s : BitVec 256) : Nat → Nat → List (Nat × Nat)
  | 0, _ => []
  | k + 1, f => match firstF s f with
    | none => []
    | some lo => (lo, (firstF (~~~ s) lo).getD 256 - 1) :: rowsF s k ((firstF (~~~ s) lo).getD 256)
def rowsS (s : BitVec 256) : List (Nat × Nat) := rowsF s 257 0
theorem firstF_big (s : BitVec 256) (f : Nat) (h : 256 ≤ f) : firstF s f = none := by
  refine (firstF_eq (o := none) ?_).symm
  intro c h1 h2; omega
theorem rowsF_big (s : BitVec 256) (k f : Nat) (h : 256 ≤ f) : rowsF s k f = [] := by
  cases k with
  | zero => rfl
  | succ k => simp only [rowsF, firstF_big s f h]
theorem rowsF_none (s : BitVec 256) (k f : Nat) (h : firstF s f = none) : rowsF s k f = [] := by
  cases k with
  | zero => rfl
  | succ k => simp only [rowsF, h]
theorem rowsF_some (s : BitVec 256) (k f lo : Nat) (h : firstF s f = some lo) : rowsF s (k + 1) f = (lo, (firstF (~~~ s) lo).getD 256 - 1) :: rowsF s k ((firstF (~~~ s) lo).getD 256) := by
  simp only [rowsF, h]
/-- the end of a row lies behind its beginning -/
theorem row_end (s : BitVec 256) (f lo : Nat) (h : firstF s f = some lo) : f ≤ lo ∧ lo < 256 ∧ lo < (firstF (~~~ s) lo).getD 256 ∧ (firstF (~~~ s) lo).getD 256 ≤ 256 := by
  have h1 := isFirst_firstF s f
  rw [h] at h1
  have h2 := isFirst_firstF (~~~ s) lo
  refine ⟨h1.1, h1.2.1, ?_⟩
  cases he : firstF (~~~ s) lo with
  | none => simp only [Option.getD_none]; have := h1.2.1; omega
  | some e =>
    rw [he] at h2
    simp only [Option.getD_some]
    have h3 := h2.1
    have h4 := h2.2.1
    have h5 := h2.2.2.1
    rw [BitVec.getLsbD_not] at h5
    have : e ≠ lo := fun hh => by rw [hh, h1.2.2.1] at h5; simp at h5
    omega
end Go.Proofs.YtekodfpjoehooaaDoor.Bs
