/- The parts into which sets of bytes cut all bytes: plain facts, no walk. -/
import Derived.Test.YtekodfpjoehooaaDoorSetW5
import Derived.Test.YtekodfpjoehooaaDoorRowsP
namespace Go.Proofs.YtekodfpjoehooaaDoor.Bs
theorem inter2_getLsbD (a b : BitVec 256) (i : Nat) (hi : i < 256) : (interS [a, b]).getLsbD i = (a.getLsbD i && b.getLsbD i) := by
  rw [interS_getLsbD _ _ hi]; simp
def sideS (s : BitVec 256) (b : Nat) : BitVec 256 := if s.getLsbD b then s else ~~~s
theorem sideS_getLsbD (s : BitVec 256) (b i : Nat) (hi : i < 256) : (sideS s b).getLsbD i = (s.getLsbD i == s.getLsbD b) := by
  unfold sideS
  cases h : s.getLsbD b
  · simp [hi]
  · simp
/-- the bytes of p that lie in the same sets as b -/
def partS (l : List (BitVec 256)) (b : Nat) (p : BitVec 256) : BitVec 256 := l.foldl (fun p s => interS [p, sideS s b]) p
theorem partS_snoc (l : List (BitVec 256)) (b : Nat) (p : BitVec 256) (k : Nat) (h : k < l.length) : partS (l.take (k + 1)) b p = interS [partS (l.take k) b p, sideS l[k] b] := by
  unfold partS
  rw [List.take_succ_eq_append_getElem h, List.foldl_append]; rfl
theorem partS_getLsbD (l : List (BitVec 256)) (b : Nat) (p : BitVec 256) (i : Nat) (hi : i < 256) : (partS l b p).getLsbD i = (p.getLsbD i && l.all fun s => s.getLsbD i == s.getLsbD b) := by
  induction l generalizing p with
  | nil => simp [partS]
  | cons s l ih =>
    have : partS (s :: l) b p = partS l b (interS [p, sideS s b]) := rfl
    rw [this, ih, inter2_getLsbD _ _ _ hi, sideS_getLsbD _ _ _ hi, List.all_cons, Bool.and_assoc]
/-- what is left behind a part -/
def restS (l : List (BitVec 256)) (b : Nat) (p : BitVec 256) : BitVec 256 := interS [p, ~~~ (partS l b p)]
theorem restS_getLsbD (l : List (BitVec 256)) (b : Nat) (p : BitVec 256) (i : Nat) (hi : i < 256) : (restS l b p).getLsbD i = (p.getLsbD i && !(l.all fun s => s.getLsbD i == s.getLsbD b)) := by
  unfold restS
  rw [inter2_getLsbD _ _ _ hi, BitVec.getLsbD_not, partS_getLsbD _ _ _ _ hi]
  cases p.getLsbD i <;> simp [hi]
theorem bc_mono (s t : BitVec 256) (k : Nat) (h : ∀ i, i < k → s.getLsbD i = true → t.getLsbD i = true) : bc s k ≤ bc t k := by
  induction k with
  | zero => exact Nat.le_refl _
  | succ k ih =>
    have h1 := ih fun i hi => h i (by omega)
    have h2 := h k (by omega)
    simp only [bc]
    cases hs : s.getLsbD k
    · simp; omega
    · rw [h2 hs]; simp; omega
theorem bc_lt (s t : BitVec 256) (b k : Nat) (hb : b < k) (h : ∀ i, i < k → s.getLsbD i = true → t.getLsbD i = true) (h0 : s.getLsbD b = false) (h1 : t.getLsbD b = true) : bc s k < bc t k := by
  induction k with
  | zero => omega
  | succ k ih =>
    simp only [bc]
    by_cases hbk : b = k
    · subst hbk
      have := bc_mono s t b fun i hi => h i (by omega)
      rw [h0, h1]; simp; omega
    · have h2 := ih (by omega) fun i hi => h i (by omega)
      have h3 := h k (by omega)
      cases hs : s.getLsbD k
      · simp; omega
      · rw [h3 hs]; simp; omega
theorem rest_less (l : List (BitVec 256)) (b : Nat) (p : BitVec 256) (hb : b < 256) (h : p.getLsbD b = true) : countS (restS l b p) < countS p := by
  refine bc_lt _ _ b 256 hb (fun i hi hs => ?_) ?_ h
  · rw [restS_getLsbD _ _ _ _ hi] at hs
    simp only [Bool.and_eq_true] at hs
    exact hs.1
  · rw [restS_getLsbD _ _ _ _ hb, h]; simp
theorem first_some (p : BitVec 256) (h : p ≠ 0#256) : ∃ b, firstF p 0 = some b ∧ b < 256 ∧ p.getLsbD b = true ∧ ∀ c, c < b → p.getLsbD c = false := by
  have h1 := isFirst_firstF p 0
  cases hf : firstF p 0 with
  | some b => rw [hf] at h1; exact ⟨b, rfl, h1.2.1, h1.2.2.1, fun c hc => h1.2.2.2 c (Nat.zero_le _) hc⟩
  | none =>
    rw [hf] at h1
    refine absurd ?_ h
    apply BitVec.eq_of_getLsbD_eq
    intro i hi
    rw [h1 i (Nat.zero_le _) hi]; simp
/-- the parts, by their lowest bytes -/
def cutF (l : List (BitVec 256)) : Nat → BitVec 256 → List (BitVec 256)
  | 0, _ => []
  | k + 1, p => if p = 0#256 then [] else partS l ((firstF p 0).getD 0) p :: cutF l k (restS l ((firstF p 0).getD 0) p)
def fullS : BitVec 256 := ~~~0#256
def cutS (l : List (BitVec 256)) : List (BitVec 256) := cutF l 257 fullS
theorem cutF_zero (l : List (BitVec 256)) (k : Nat) : cutF l k 0#256 = [] := by
  cases k with
  | zero => rfl
  | succ k => simp [cutF]
theorem cutF_step (l : List (BitVec 256)) (k : Nat) (p : BitVec 256) (b : Nat) (h : p ≠ 0#256) (hf : firstF p 0 = some b) : cutF l (k + 1) p = partS l b p :: cutF l k (restS l b p) := by
  simp only [cutF, if_neg h, hf, Option.getD_some]
theorem countS_le (p : BitVec 256) : countS p ≤ 256 := bc_le p 256
end Go.Proofs.YtekodfpjoehooaaDoor.Bs
