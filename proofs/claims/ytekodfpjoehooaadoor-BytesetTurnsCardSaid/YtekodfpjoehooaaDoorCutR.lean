/- The reference's parts are those of Cut: plain facts, no walk. -/
import Derived.Test.YtekodfpjoehooaaDoorCutP
namespace Go.Proofs.YtekodfpjoehooaaDoor.Bs
/-- do the same sets have two bytes? -/
def al (l : List (BitVec 256)) (a b : Nat) : Bool := l.all fun s => s.getLsbD a == s.getLsbD b
theorem al_iff (l : List (BitVec 256)) (a b : Nat) : al l a b = true ↔ ∀ s ∈ l, s.getLsbD a = s.getLsbD b := by simp [al]
theorem al_refl (l : List (BitVec 256)) (a : Nat) : al l a a = true := (al_iff l a a).2 fun _ _ => rfl
theorem al_symm {l : List (BitVec 256)} {a b : Nat} (h : al l a b = true) : al l b a = true := (al_iff l b a).2 fun s hs => ((al_iff l a b).1 h s hs).symm
theorem al_trans {l : List (BitVec 256)} {a b c : Nat} (h : al l a b = true) (k : al l b c = true) : al l a c = true := (al_iff l a c).2 fun s hs => ((al_iff l a b).1 h s hs).trans ((al_iff l b c).1 k s hs)
/-- is none of the lower bytes alike? -/
def isRep (l : List (BitVec 256)) (b : Nat) : Bool := (List.range b).all fun y => !al l y b
theorem isRep_iff (l : List (BitVec 256)) (b : Nat) : isRep l b = true ↔ ∀ y, y < b → al l y b = false := by simp [isRep]
def reps (l : List (BitVec 256)) (b : Nat) : List Nat := (List.range b).filter (isRep l)
theorem mem_reps {l : List (BitVec 256)} {b r : Nat} : r ∈ reps l b ↔ r < b ∧ isRep l r = true := by simp [reps]
theorem reps_succ (l : List (BitVec 256)) (b : Nat) : reps l (b + 1) = if isRep l b then reps l b ++ [b] else reps l b := by
  unfold reps
  rw [List.range_succ, List.filter_append]
  cases h : isRep l b <;> simp [h]
theorem reps_length (l : List (BitVec 256)) (b : Nat) : (reps l b).length ≤ b := by
  unfold reps
  exact Nat.le_trans (List.length_filter_le _ _) (by simp)
theorem reps_nodup (l : List (BitVec 256)) (b : Nat) : (reps l b).Nodup := List.Pairwise.filter _ List.nodup_range
theorem rep_of_al (l : List (BitVec 256)) (b : Nat) : ∀ y, y < b → al l y b = true → ∃ r, r ∈ reps l b ∧ al l r b = true := by
  intro y
  induction y using Nat.strongRecOn with
  | _ y ih =>
    intro hy ha
    cases h : isRep l y with
    | true => exact ⟨y, mem_reps.2 ⟨hy, h⟩, ha⟩
    | false =>
      have : ¬ ∀ z, z < y → al l z y = false := fun hh => by rw [(isRep_iff l y).2 hh] at h; cases h
      obtain ⟨z, hz⟩ := Classical.not_forall.1 this
      obtain ⟨hz1, hz2⟩ := Classical.not_imp.1 hz
      have hz3 : al l z y = true := by cases hq : al l z y <;> simp_all
      exact ih z hz1 (by omega) (al_trans hz3 ha)
theorem reps_apart {l : List (BitVec 256)} {b r r' c : Nat} (h : r ∈ reps l b) (h' : r' ∈ reps l b) (ha : al l r c = true) (ha' : al l r' c = true) : r = r' := by
  have h1 := al_trans ha (al_symm ha')
  have h2 := al_symm h1
  have hr := (isRep_iff l r).1 (mem_reps.1 h).2
  have hr' := (isRep_iff l r').1 (mem_reps.1 h').2
  rcases Nat.lt_trichotomy r r' with hlt | he | hlt
  · rw [hr' r hlt] at h1; cases h1
  · exact he
  · rw [hr r' hlt] at h2; cases h2
def outs (l : List (BitVec 256)) (b : Nat) : List (BitVec 256) := (reps l b).map fun r => build (al l r) b
theorem outs_length (l : List (BitVec 256)) (b : Nat) : (outs l b).length = (reps l b).length := by simp [outs]
/-- the last one of which something holds -/
def lastF (p : Nat → Bool) : Nat → Int
  | 0 => -1
  | i + 1 => if p i then i else lastF p i
theorem lastF_none (p : Nat → Bool) (n : Nat) (h : ∀ i, i < n → p i = false) : lastF p n = -1 := by
  induction n with
  | zero => rfl
  | succ n ih => rw [lastF, h n (by omega)]; exact ih fun i hi => h i (by omega)
theorem lastF_some (p : Nat → Bool) (n : Nat) (h : lastF p n ≠ -1) : ∃ j : Nat, j < n ∧ p j = true ∧ lastF p n = j := by
  induction n with
  | zero => exact absurd rfl h
  | succ n ih =>
    rw [lastF] at h ⊢
    cases hp : p n with
    | true => exact ⟨n, by omega, hp, by simp⟩
    | false =>
      rw [hp] at h
      obtain ⟨j, h1, h2, h3⟩ := ih (by simpa using h)
      exact ⟨j, by omega, h2, by simpa using h3⟩
theorem lastF_lt (p : Nat → Bool) (n : Nat) : -1 ≤ lastF p n ∧ lastF p n < n := by
  induction n with
  | zero => simp [lastF]
  | succ n ih => rw [lastF]; split <;> omega
/-- none of those ahead is alike: a part more -/
theorem outs_new (l : List (BitVec 256)) (b : Nat) (h : lastF (fun i => al l ((reps l b).getD i 0) b) (reps l b).length = -1) :
    reps l (b + 1) = reps l b ++ [b] ∧ outs l (b + 1) = outs l b ++ [0#256 ||| bit b] := by
  have hno : ∀ r, r ∈ reps l b → al l r b = false := by
    intro r hr
    cases ha : al l r b with
    | false => rfl
    | true =>
      obtain ⟨i, hi⟩ := List.getElem?_of_mem hr
      have hi' := (List.getElem?_eq_some_iff.1 hi).1
      have : ∀ n, i < n → lastF (fun i => al l ((reps l b).getD i 0) b) n ≠ -1 := by
        intro n
        induction n with
        | zero => intro h; omega
        | succ n ih =>
          intro hn
          rw [lastF]
          by_cases hin : i = n
          · subst hin
            rw [List.getD_eq_getElem?_getD, hi]
            simp only [Option.getD_some, ha, if_true]
            omega
          · have := ih (by omega)
            split <;> omega
      exact absurd h (this _ hi')
  have hrep : isRep l b = true := by
    refine (isRep_iff l b).2 fun y hy => ?_
    cases ha : al l y b with
    | false => rfl
    | true =>
      obtain ⟨r, hr, hra⟩ := rep_of_al l b y hy ha
      rw [hno r hr] at hra; cases hra
  have h1 : reps l (b + 1) = reps l b ++ [b] := by rw [reps_succ, hrep]; rfl
  refine ⟨h1, ?_⟩
  unfold outs
  rw [h1, List.map_append]
  congr 1
  · refine List.map_congr_left fun r hr => ?_
    rw [build_succ, hno r hr]; rfl
  · simp only [List.map_cons, List.map_nil]
    rw [build_succ, al_refl, build_none]
    · rfl
    · intro i hi
      cases ha : al l b i with
      | false => rfl
      | true => have := (isRep_iff l b).1 hrep i hi; rw [al_symm ha] at this; cases this
/-- one of those ahead is alike: its part has one more -/
theorem outs_old (l : List (BitVec 256)) (b j : Nat) (hj : j < (reps l b).length) (ha : al l ((reps l b).getD j 0) b = true) :
    reps l (b + 1) = reps l b ∧ outs l (b + 1) = (outs l b).set j ((outs l b).getD j 0#256 ||| bit b) := by
  have hm : (reps l b)[j] ∈ reps l b := List.getElem_mem hj
  rw [List.getD_eq_getElem?_getD, List.getElem?_eq_getElem hj, Option.getD_some] at ha
  have hrep : isRep l b = false := by
    cases h : isRep l b with
    | false => rfl
    | true => have := (isRep_iff l b).1 h _ (mem_reps.1 hm).1; rw [this] at ha; cases ha
  have h1 : reps l (b + 1) = reps l b := by rw [reps_succ, hrep]; rfl
  refine ⟨h1, ?_⟩
  have hol : j < (outs l b).length := by rw [outs_length]; exact hj
  have e0 : (outs l b).getD j 0#256 = build (al l (reps l b)[j]) b := by
    rw [List.getD_eq_getElem?_getD, List.getElem?_eq_getElem hol, Option.getD_some]
    simp [outs]
  rw [e0]
  apply List.ext_getElem?
  intro i
  have e1 : ∀ c, (outs l c)[i]? = (reps l c)[i]?.map fun r => build (al l r) c := fun c => by simp [outs]
  rw [List.getElem?_set, e1, e1, h1]
  by_cases hij : j = i
  · subst hij
    rw [if_pos rfl, if_pos hol, List.getElem?_eq_getElem hj]
    simp only [Option.map_some]
    rw [build_succ, ha]; rfl
  · rw [if_neg hij]
    cases hri : (reps l b)[i]? with
    | none => rfl
    | some r =>
      simp only [Option.map_some]
      rw [build_succ]
      cases har : al l r b with
      | false => rfl
      | true =>
        exfalso
        have he := reps_apart hm (List.mem_of_getElem? hri) ha har
        obtain ⟨hi, hi2⟩ := List.getElem?_eq_some_iff.1 hri
        have := (List.getElem_inj (reps_nodup l b)).1 (he.trans hi2.symm)
        exact hij this
theorem filter_first (q q' : Nat → Bool) (n b : Nat) (hb : b < n) (h1 : q b = true) (h2 : ∀ c, c < b → q c = false) (h3 : ∀ c, c < n → c ≠ b → q c = q' c) (h4 : q' b = false) :
    (List.range n).filter q = b :: (List.range n).filter q' := by
  have e : List.range n = List.range b ++ b :: (List.range' (b + 1) (n - b - 1)) := by
    rw [List.range_eq_range', List.range_eq_range']
    have := List.range'_append_1 (s := 0) (m := b) (n := n - b)
    rw [show b + (n - b) = n by omega] at this
    rw [← this, Nat.zero_add, show n - b = (n - b - 1) + 1 by omega, List.range'_succ]
    simp
  rw [e, List.filter_append, List.filter_append, List.filter_cons, List.filter_cons, h1, h4]
  have z1 : (List.range b).filter q = [] := by
    rw [List.filter_eq_nil_iff]; intro c hc; rw [h2 c (List.mem_range.1 hc)]; simp
  have z2 : (List.range b).filter q' = [] := by
    rw [List.filter_eq_nil_iff]; intro c hc
    have hc := List.mem_range.1 hc
    rw [← h3 c (by omega) (by omega), h2 c hc]; simp
  have z3 : (List.range' (b + 1) (n - b - 1)).filter q = (List.range' (b + 1) (n - b - 1)).filter q' := by
    refine List.filter_congr fun c hc => ?_
    have := List.mem_range'_1.1 hc
    exact h3 c (by omega) (by omega)
  rw [z1, z2, z3]
  simp
theorem full_get (i : Nat) (hi : i < 256) : fullS.getLsbD i = true := by
  unfold fullS; rw [BitVec.getLsbD_not]; simp [hi]
theorem cutF_reps (l : List (BitVec 256)) (k : Nat) : ∀ (p : BitVec 256), countS p < k → (∀ a b, a < 256 → b < 256 → p.getLsbD a = true → al l a b = true → p.getLsbD b = true) →
    cutF l k p = ((List.range 256).filter fun r => isRep l r && p.getLsbD r).map fun r => build (al l r) 256 := by
  induction k with
  | zero => intro p h; omega
  | succ k IH =>
    intro p h hcl
    by_cases hp : p = 0#256
    · subst hp
      rw [cutF_zero]
      have : ((List.range 256).filter fun r => isRep l r && (0#256 : BitVec 256).getLsbD r) = [] := by
        rw [List.filter_eq_nil_iff]; intro c _; simp
      rw [this]; rfl
    · obtain ⟨b, hb0, hb1, hb2, hb3⟩ := first_some p hp
      rw [cutF_step l k p b hp hb0]
      have hlt := rest_less l b p hb1 hb2
      have hal : ∀ c, (l.all fun s => s.getLsbD c == s.getLsbD b) = al l c b := fun _ => rfl
      have hrep : isRep l b = true := by
        refine (isRep_iff l b).2 fun y hy => ?_
        cases ha : al l y b with
        | false => rfl
        | true =>
          have := hcl b y hb1 (by omega) hb2 (al_symm ha)
          rw [hb3 y hy] at this; cases this
      have ih := IH (restS l b p) (by omega) fun a c ha hc h1 h2 => by
        rw [restS_getLsbD _ _ _ _ ha, hal] at h1
        rw [restS_getLsbD _ _ _ _ hc, hal]
        simp only [Bool.and_eq_true, Bool.not_eq_true'] at h1 ⊢
        refine ⟨hcl a c ha hc h1.1 h2, ?_⟩
        cases hcb : al l c b with
        | false => rfl
        | true => have := al_trans h2 hcb; rw [h1.2] at this; cases this
      rw [ih]
      have e := filter_first (fun r => isRep l r && p.getLsbD r) (fun r => isRep l r && (restS l b p).getLsbD r) 256 b hb1 (by simp [hrep, hb2]) (fun c hc => by simp [hb3 c hc]) (fun c hc hcb => by
          rw [restS_getLsbD _ _ _ _ hc, hal]
          cases hpc : p.getLsbD c with
          | false => simp
          | true =>
            cases hrc : isRep l c with
            | false => simp
            | true =>
              cases hcb2 : al l c b with
              | false => simp
              | true =>
                exfalso
                have hbc : b < c := by
                  rcases Nat.lt_or_ge b c with h | h
                  · exact h
                  · have := hb3 c (by omega); rw [hpc] at this; cases this
                have := (isRep_iff l c).1 hrc b hbc
                rw [al_symm hcb2] at this; cases this) (by rw [restS_getLsbD _ _ _ _ hb1, hal, al_refl]; simp)
      rw [e, List.map_cons]
      congr 1
      apply BitVec.eq_of_getLsbD_eq
      intro i hi
      rw [partS_getLsbD _ _ _ _ hi, hal, build_getLsbD _ _ _ hi]
      simp only [hi, decide_true, Bool.true_and]
      cases hib : al l i b with
      | true => rw [al_symm hib, hcl b i hb1 hi hb2 (al_symm hib)]; rfl
      | false =>
        cases hbi : al l b i with
        | false => simp
        | true => have := al_symm hbi; rw [hib] at this; cases this
theorem outs_cut (l : List (BitVec 256)) : outs l 256 = cutS l := by
  unfold cutS
  rw [cutF_reps l 257 fullS (Nat.lt_succ_of_le (countS_le _)) (fun a b _ hb _ _ => full_get b hb)]
  unfold outs reps
  congr 1
  refine List.filter_congr fun c hc => ?_
  have : fullS.getLsbD c = true := full_get c (List.mem_range.1 hc)
  rw [this, Bool.and_true]
end Go.Proofs.YtekodfpjoehooaaDoor.Bs
