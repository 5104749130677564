/- Marks that grow until they don't. Plain facts, no program. -/
import Derived.Test.YtlppkbfkajionaaCmP
namespace Go.Proofs.Ytlppkbfkajionaa.Cm
open Go
set_option linter.unusedSimpArgs false
set_option linter.unusedVariables false
set_option linter.unusedSectionVars false
/-- is a number marked? -/
def bg (σ : List Bool) (n : Int) : Bool := σ.getD n.toNat false
def mk (σ : List Bool) (n : Int) : List Bool := σ.set n.toNat true
theorem mk_len (σ : List Bool) (n : Int) : (mk σ n).length = σ.length := by simp [mk]
theorem bg_mk (σ : List Bool) {n m : Int} (hn : 0 ≤ n ∧ n < (σ.length : Int)) (hm : 0 ≤ m) : bg (mk σ n) m = (decide (m = n) || bg σ m) := by
  unfold bg mk
  rw [List.getD_eq_getElem?_getD, List.getElem?_set, List.getD_eq_getElem?_getD]
  by_cases h : m = n
  · subst h
    rw [if_pos rfl, if_pos (by omega)]; simp
  · rw [if_neg (by omega)]; simp [h]
theorem bg_lt {σ : List Bool} {n : Int} (h : bg σ n = true) : n.toNat < σ.length := by
  rcases Nat.lt_or_ge n.toNat σ.length with h1 | h1
  · exact h1
  · unfold bg at h
    rw [List.getD_eq_getElem?_getD, List.getElem?_eq_none h1] at h
    cases h
theorem bg_get {σ : List Bool} {n : Int} (h : n.toNat < σ.length) : σ[n.toNat]? = some (bg σ n) := by
  unfold bg
  rw [List.getD_eq_getElem?_getD, List.getElem?_eq_getElem h]; rfl
theorem bg_ext {σ τ : List Bool} (hl : σ.length = τ.length) (h : ∀ i : Nat, i < σ.length → bg σ i = bg τ i) : σ = τ := by
  refine List.ext_getElem hl fun i h1 h2 => ?_
  have := h i h1
  unfold bg at this
  simp [List.getD_eq_getElem?_getD, h1, h2] at this
  exact this
/-- how many are not marked -/
def falses : List Bool → Nat
  | [] => 0
  | b :: r => (if b then 0 else 1) + falses r
theorem falses_le (σ : List Bool) : falses σ ≤ σ.length := by
  induction σ with
  | nil => simp [falses]
  | cons b r ih => unfold falses; rw [List.length_cons]; split <;> omega
/-- marks, and more of them -/
def Le (σ τ : List Bool) : Prop := τ.length = σ.length ∧ ∀ i : Nat, bg σ i = true → bg τ i = true
theorem le_refl (σ : List Bool) : Le σ σ := ⟨rfl, fun _ h => h⟩
theorem le_trans {σ τ ρ : List Bool} (h : Le σ τ) (h2 : Le τ ρ) : Le σ ρ := ⟨h2.1.trans h.1, fun i hi => h2.2 i (h.2 i hi)⟩
theorem bg_cons_zero (b : Bool) (r : List Bool) : bg (b :: r) ((0 : Nat) : Int) = b := rfl
theorem bg_cons_succ (b : Bool) (r : List Bool) (i : Nat) : bg (b :: r) ((i + 1 : Nat) : Int) = bg r (i : Int) := by
  unfold bg
  simp
theorem falses_mono : ∀ {σ τ : List Bool}, Le σ τ → falses τ ≤ falses σ ∧ (τ ≠ σ → falses τ < falses σ)
  | [], [], _ => ⟨Nat.le_refl _, fun h => absurd rfl h⟩
  | [], _ :: _, h => by have := h.1; simp at this
  | _ :: _, [], h => by have := h.1; simp at this
  | a :: σ, b :: τ, h => by
    have ht : Le σ τ := ⟨by have := h.1; simpa using this, fun i hi => by
      have := h.2 (i + 1) (by rw [bg_cons_succ]; exact hi)
      rwa [bg_cons_succ] at this⟩
    have h0 : a = true → b = true := fun ha => by
      have := h.2 0 (by rw [bg_cons_zero]; exact ha)
      rwa [bg_cons_zero] at this
    obtain ⟨h1, h2⟩ := falses_mono ht
    unfold falses
    constructor
    · cases a <;> cases b <;> simp_all <;> omega
    · intro hne
      cases a <;> cases b <;> simp_all <;> omega
theorem le_mk (σ : List Bool) {n : Int} (hn : 0 ≤ n ∧ n < (σ.length : Int)) : Le σ (mk σ n) := ⟨mk_len σ n, fun i h => by rw [bg_mk σ hn (by omega), h, Bool.or_true]⟩
def it (f : List Bool → List Bool) : Nat → List Bool → List Bool
  | 0, σ => σ
  | n + 1, σ => it f n (f σ)
theorem it_succ (f : List Bool → List Bool) : ∀ (n : Nat) (σ : List Bool), it f (n + 1) σ = f (it f n σ)
  | 0, _ => rfl
  | n + 1, σ => it_succ f n (f σ)
theorem it_fix {f : List Bool → List Bool} {σ : List Bool} (h : f σ = σ) : ∀ n, it f n σ = σ
  | 0 => rfl
  | n + 1 => by unfold it; rw [h]; exact it_fix h n
theorem it_add (f : List Bool → List Bool) : ∀ (n m : Nat) (σ : List Bool), it f (n + m) σ = it f m (it f n σ)
  | 0, m, σ => by rw [Nat.zero_add]; rfl
  | n + 1, m, σ => by rw [Nat.succ_add]; exact it_add f n m (f σ)
/-- what grows comes to an end in so many rounds -/
theorem it_ends {f : List Bool → List Bool} {Good : List Bool → Prop} (hg : ∀ σ, Good σ → Good (f σ) ∧ Le σ (f σ)) : ∀ (n : Nat) (σ : List Bool), Good σ → falses σ ≤ n → f (it f n σ) = it f n σ
  | 0, σ, hG, h => by
    apply Classical.byContradiction
    intro hne
    have := (falses_mono (hg σ hG).2).2 hne
    omega
  | n + 1, σ, hG, h => by
    by_cases he : f σ = σ
    · rw [it_fix he]; exact he
    · have := (falses_mono (hg σ hG).2).2 he
      exact it_ends hg n (f σ) (hg σ hG).1 (by omega)
theorem it_same {f : List Bool → List Bool} {σ : List Bool} {n m : Nat} (hn : f (it f n σ) = it f n σ) (hm : f (it f m σ) = it f m σ) : it f n σ = it f m σ := by
  rcases Nat.le_total n m with h | h
  · obtain ⟨d, rfl⟩ := Nat.le.dest h
    rw [it_add, it_fix hn]
  · obtain ⟨d, rfl⟩ := Nat.le.dest h
    rw [it_add, it_fix hm]
theorem it_good {f : List Bool → List Bool} {Good : List Bool → Prop} (hg : ∀ σ, Good σ → Good (f σ)) : ∀ (n : Nat) (σ : List Bool), Good σ → Good (it f n σ)
  | 0, _, h => h
  | n + 1, σ, h => it_good hg n (f σ) (hg σ h)
/-- a rule's numbers lie within -/
def In (n : Nat) (r : List Int) : Prop := 0 < r.length ∧ ∀ x ∈ r, 0 ≤ x ∧ x < (n : Int)
theorem In.head {n : Nat} {r : List Int} (h : In n r) : 0 ≤ r.headD 0 ∧ r.headD 0 < (n : Int) := by
  cases r with
  | nil => exact absurd h.1 (by simp)
  | cons y r => exact h.2 y (by simp)
/-- one rule: what it makes is marked, if all of its right side is -/
def step (σ : List Bool) (r : List Int) : Bool × List Bool := if bg σ (r.headD 0) || (r.drop 1).any (fun n => !bg σ n) then (false, σ) else (true, mk σ (r.headD 0))
def sweep (rs : List (List Int)) (σ : List Bool) : Bool × List Bool := rs.foldl (fun st r => ((step st.2 r).1 || st.1, (step st.2 r).2)) (false, σ)
theorem step_len (σ : List Bool) (r : List Int) : (step σ r).2.length = σ.length := by
  unfold step; split <;> simp [mk_len]
theorem step_le {σ : List Bool} {r : List Int} (h : In σ.length r) : Le σ (step σ r).2 ∧ ((step σ r).1 = false → (step σ r).2 = σ) ∧ ((step σ r).1 = true → falses (step σ r).2 < falses σ) := by
  unfold step
  split
  · exact ⟨le_refl _, fun _ => rfl, fun h => (by cases h)⟩
  · rename_i hn
    refine ⟨le_mk σ h.head, fun h => (by cases h), fun _ => (falses_mono (le_mk σ h.head)).2 fun e => ?_⟩
    have h1 := bg_mk σ h.head h.head.1
    rw [show mk σ (r.headD 0) = σ from e] at h1
    simp at h1 hn
    rw [hn.1] at h1
    cases h1
def sweepF (st : Bool × List Bool) (r : List Int) : Bool × List Bool := ((step st.2 r).1 || st.1, (step st.2 r).2)
theorem sweep_snoc (rs : List (List Int)) (r : List Int) (σ : List Bool) : sweep (rs ++ [r]) σ = ((step (sweep rs σ).2 r).1 || (sweep rs σ).1, (step (sweep rs σ).2 r).2) := by
  unfold sweep
  rw [List.foldl_append]; rfl
theorem sweep_len (rs : List (List Int)) (σ : List Bool) : (sweep rs σ).2.length = σ.length := by
  unfold sweep
  have : ∀ (rs : List (List Int)) (st : Bool × List Bool), (rs.foldl (fun st r => ((step st.2 r).1 || st.1, (step st.2 r).2)) st).2.length = st.2.length := by
    intro rs
    induction rs with
    | nil => intro st; rfl
    | cons r rs ih => intro st; rw [List.foldl_cons, ih, step_len]
  exact this rs (false, σ)
theorem fold_le (rs : List (List Int)) : ∀ (st : Bool × List Bool), (∀ r ∈ rs, In st.2.length r) → Le st.2 (rs.foldl sweepF st).2 ∧ ((rs.foldl sweepF st).1 = false → (rs.foldl sweepF st).2 = st.2 ∧ st.1 = false) ∧ ((rs.foldl sweepF st).1 = true → st.1 = true ∨ falses (rs.foldl sweepF st).2 < falses st.2) := by
  induction rs with
  | nil => intro st _; exact ⟨le_refl _, fun h => ⟨rfl, h⟩, fun h => .inl h⟩
  | cons r rs ih =>
    intro st h
    obtain ⟨s1, s2, s3⟩ := step_le (h r (by simp))
    have hl : (sweepF st r).2.length = st.2.length := step_len _ _
    obtain ⟨i1, i2, i3⟩ := ih (sweepF st r) (fun q hq => by rw [hl]; exact h q (by simp [hq]))
    rw [List.foldl_cons]
    refine ⟨le_trans s1 i1, fun h0 => ?_, fun h1 => ?_⟩
    · obtain ⟨e1, e2⟩ := i2 h0
      have e3 : (step st.2 r).1 = false ∧ st.1 = false := by simpa [sweepF] using e2
      exact ⟨e1.trans (s2 e3.1), e3.2⟩
    · have hm := (falses_mono i1).1
      rcases i3 h1 with h2 | h2
      · have h3 : (step st.2 r).1 = true ∨ st.1 = true := by simpa [sweepF] using h2
        rcases h3 with h3 | h3
        · exact .inr (Nat.lt_of_le_of_lt hm (s3 h3))
        · exact .inl h3
      · exact .inr (Nat.lt_of_lt_of_le h2 (falses_mono s1).1)
theorem sweep_le {rs : List (List Int)} {σ : List Bool} (h : ∀ r ∈ rs, In σ.length r) : Le σ (sweep rs σ).2 ∧ ((sweep rs σ).1 = false → (sweep rs σ).2 = σ) ∧ ((sweep rs σ).1 = true → falses (sweep rs σ).2 < falses σ) := by
  obtain ⟨h1, h2, h3⟩ := fold_le rs (false, σ) h
  exact ⟨h1, fun e => (h2 e).1, fun e => (h3 e).resolve_left (by simp)⟩
theorem le_anti {σ τ : List Bool} (h : Le σ τ) (h2 : falses σ ≤ falses τ) : τ = σ := Classical.byContradiction fun hne => by
  have := (falses_mono h).2 hne
  omega
theorem sweep_flag {rs : List (List Int)} {σ : List Bool} (h : ∀ r ∈ rs, In σ.length r) (he : (sweep rs σ).2 = σ) : (sweep rs σ).1 = false := by
  cases hb : (sweep rs σ).1 with
  | false => rfl
  | true =>
    have := (sweep_le h).2.2 hb
    rw [he] at this
    omega
/-- the symbols that make rows of tokens (or may be nothing) -/
def mark0 (g : Gr) (t : Bool) : List Bool := (List.range g.names.length).map fun (i : Nat) => decide ((i : Int) < g.terms) && t
def markF (g : Gr) (t : Bool) : List Bool := if okB g then it (fun σ => (sweep g.rules σ).2) (g.names.length + 1) (mark0 g t) else []
theorem mark0_len (g : Gr) (t : Bool) : (mark0 g t).length = g.names.length := by simp [mark0]
theorem Ok.ins {g : Gr} (h : Ok g) : ∀ r ∈ g.rules, In g.names.length r := fun _ hr => ⟨(h.fits hr).pos, (h.fits hr).all⟩
theorem mark_is {g : Gr} (h : Ok g) (t : Bool) {n : Nat} (hn : (sweep g.rules (it (fun σ => (sweep g.rules σ).2) n (mark0 g t))).1 = false) : it (fun σ => (sweep g.rules σ).2) n (mark0 g t) = markF g t := by
  unfold markF
  rw [if_pos ((okB_iff g).2 h)]
  have hlen : ∀ m, (it (fun σ => (sweep g.rules σ).2) m (mark0 g t)).length = g.names.length := fun m => it_good (Good := fun σ => σ.length = g.names.length) (fun σ hσ => by rw [sweep_len]; exact hσ) m _ (mark0_len g t)
  refine it_same ((sweep_le (fun r hr => by rw [hlen]; exact h.ins r hr)).2.1 hn) ?_
  refine it_ends (Good := fun σ => σ.length = g.names.length) (fun σ hσ => ⟨by rw [sweep_len]; exact hσ, (sweep_le (fun r hr => by rw [hσ]; exact h.ins r hr)).1⟩) _ _ (mark0_len g t) ?_
  have := falses_le (mark0 g t)
  rw [mark0_len] at this
  omega
theorem markF_len {g : Gr} (h : okB g = true) (t : Bool) : (markF g t).length = g.names.length := by
  unfold markF
  rw [if_pos h]
  exact it_good (Good := fun σ => σ.length = g.names.length) (fun σ hσ => by rw [sweep_len]; exact hσ) _ _ (mark0_len g t)
end Go.Proofs.Ytlppkbfkajionaa.Cm
