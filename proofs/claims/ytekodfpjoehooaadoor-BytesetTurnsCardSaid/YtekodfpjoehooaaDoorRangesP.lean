/- The reference's rows are those of Ranges: plain facts, no walk. -/
import Derived.Test.YtekodfpjoehooaaDoorRowsP
namespace Go.Proofs.YtekodfpjoehooaaDoor.Bs
/-- one byte -/
def stepR (s : BitVec 256) (out : List (Nat × Nat)) (b : Nat) : List (Nat × Nat) :=
  if s.getLsbD b then (match out.getLast? with
    | some r => if r.2 + 1 = b then out.dropLast ++ [(r.1, b)] else out ++ [(b, b)]
    | none => out ++ [(b, b)]) else out
/-- n bytes from b on -/
def runR (s : BitVec 256) : Nat → Nat → List (Nat × Nat) → List (Nat × Nat)
  | 0, _, out => out
  | n + 1, b, out => runR s n (b + 1) (stepR s out b)
theorem stepR_no (s : BitVec 256) (out : List (Nat × Nat)) (b : Nat) (h : s.getLsbD b = false) : stepR s out b = out := by simp [stepR, h]
theorem stepR_nil (s : BitVec 256) (b : Nat) (h : s.getLsbD b = true) : stepR s [] b = [(b, b)] := by simp [stepR, h]
theorem stepR_on (s : BitVec 256) (out : List (Nat × Nat)) (r : Nat × Nat) (b : Nat) (h : s.getLsbD b = true) (hr : r.2 + 1 = b) : stepR s (out ++ [r]) b = out ++ [(r.1, b)] := by simp [stepR, h, hr]
theorem stepR_new (s : BitVec 256) (out : List (Nat × Nat)) (r : Nat × Nat) (b : Nat) (h : s.getLsbD b = true) (hr : r.2 + 1 ≠ b) : stepR s (out ++ [r]) b = out ++ [r] ++ [(b, b)] := by simp [stepR, h, hr]
theorem runR_skip (s : BitVec 256) (m : Nat) : ∀ n f out, (∀ c, f ≤ c → c < f + n → s.getLsbD c = false) → runR s (n + m) f out = runR s m (f + n) out
  | 0, f, out, _ => by rw [Nat.zero_add, Nat.add_zero]
  | n + 1, f, out, h => by
    rw [show n + 1 + m = (n + m) + 1 by omega, runR, stepR_no s out f (h f (Nat.le_refl _) (by omega)), runR_skip s m n (f + 1) out (fun c h1 h2 => h c (by omega) (by omega)), show f + 1 + n = f + (n + 1) by omega]
theorem runR_on (s : BitVec 256) (m lo : Nat) (out : List (Nat × Nat)) : ∀ n c, (∀ x, c < x → x ≤ c + n → s.getLsbD x = true) → runR s (n + m) (c + 1) (out ++ [(lo, c)]) = runR s m (c + n + 1) (out ++ [(lo, c + n)])
  | 0, c, _ => by rw [Nat.zero_add]; rfl
  | n + 1, c, h => by
    rw [show n + 1 + m = (n + m) + 1 by omega, runR, stepR_on s out (lo, c) (c + 1) (h _ (by omega) (by omega)) rfl, runR_on s m lo out n (c + 1) (fun x h1 h2 => h x (by omega) (by omega)), show c + 1 + n + 1 = c + (n + 1) + 1 by omega, show c + 1 + n = c + (n + 1) by omega]
theorem runR_rows (s : BitVec 256) (k : Nat) : ∀ (f : Nat) (out : List (Nat × Nat)), f ≤ 256 → 257 ≤ k + f → (∀ r, out.getLast? = some r → r.2 + 1 ≤ f ∧ (f < 256 → s.getLsbD f = false)) → runR s (256 - f) f out = out ++ rowsF s k f := by
  induction k with
  | zero => intro f out h1 h2; omega
  | succ k ih =>
    intro f out hf hk hG
    have h1 := isFirst_firstF s f
    cases hlo : firstF s f with
    | none =>
      rw [hlo] at h1
      have := runR_skip s 0 (256 - f) f out (fun c hc1 hc2 => h1 c hc1 (by omega))
      rw [Nat.add_zero] at this
      rw [this, rowsF_none s _ f hlo, List.append_nil]; rfl
    | some lo =>
      rw [hlo] at h1
      obtain ⟨a1, a2, a3, a4⟩ := h1
      obtain ⟨_, _, b3, b4⟩ := row_end s f lo hlo
      rw [rowsF_some s k f lo hlo]
      have h2 := isFirst_firstF (~~~s) lo
      have hon : ∀ x, lo < x → x ≤ lo + ((firstF (~~~s) lo).getD 256 - lo - 1) → s.getLsbD x = true := by
        intro x hx1 hx2
        have : (~~~s).getLsbD x = false := by
          cases he : firstF (~~~s) lo with
          | none => rw [he] at h2 hx2; exact h2 x (by omega) (by simp at hx2; omega)
          | some e => rw [he] at h2 hx2; exact h2.2.2.2 x (by omega) (by simp at hx2; omega)
        rw [BitVec.getLsbD_not] at this
        simpa [show x < 256 by omega] using this
      have hG' : ∀ r, (out ++ [(lo, (firstF (~~~s) lo).getD 256 - 1)]).getLast? = some r → r.2 + 1 ≤ (firstF (~~~s) lo).getD 256 ∧ ((firstF (~~~s) lo).getD 256 < 256 → s.getLsbD ((firstF (~~~s) lo).getD 256) = false) := by
        intro r hr
        simp at hr
        subst hr
        refine ⟨by simp; omega, fun hlt => ?_⟩
        cases he : firstF (~~~s) lo with
        | none => rw [he] at hlt; simp at hlt
        | some e =>
          rw [he] at h2
          have := h2.2.2.1
          rw [BitVec.getLsbD_not] at this
          simp at this
          simpa using this.2
      generalize (firstF (~~~s) lo).getD 256 = e at *
      have e1 : runR s (256 - f) f out = runR s (256 - lo) lo out := by
        have := runR_skip s (256 - lo) (lo - f) f out (fun c hc1 hc2 => a4 c hc1 (by omega))
        rw [show lo - f + (256 - lo) = 256 - f by omega, show f + (lo - f) = lo by omega] at this
        exact this
      have e2 : stepR s out lo = out ++ [(lo, lo)] := by
        rcases List.eq_nil_or_concat out with rfl | ⟨o', r, rfl⟩
        · exact stepR_nil s lo a3
        · rw [List.concat_eq_append] at *
          obtain ⟨g1, g2⟩ := hG r (by simp)
          refine stepR_new s o' r lo a3 ?_
          intro hr
          have : lo = f := by omega
          subst this
          rw [g2 a2] at a3; cases a3
      have e3 : runR s (256 - lo) lo out = runR s (256 - e) e (out ++ [(lo, e - 1)]) := by
        rw [show 256 - lo = (255 - lo) + 1 by omega, runR, e2]
        have := runR_on s (256 - e) lo out (e - lo - 1) lo hon
        rw [show e - lo - 1 + (256 - e) = 255 - lo by omega, show lo + (e - lo - 1) + 1 = e by omega, show lo + (e - lo - 1) = e - 1 by omega] at this
        exact this
      rw [e1, e3, ih e _ b4 (by omega) hG']
      simp
theorem runR_all (s : BitVec 256) : runR s 256 0 [] = rowsS s := by
  have := runR_rows s 257 0 [] (by omega) (by omega) (by simp)
  simpa [rowsS] using this
theorem runR_step (s : BitVec 256) (k : Nat) (out : List (Nat × Nat)) (h : k < 256) : runR s (256 - k) k out = runR s (256 - (k + 1)) (k + 1) (stepR s out k) := by
  rw [show 256 - k = (256 - (k + 1)) + 1 by omega, runR]
end Go.Proofs.YtekodfpjoehooaaDoor.Bs
