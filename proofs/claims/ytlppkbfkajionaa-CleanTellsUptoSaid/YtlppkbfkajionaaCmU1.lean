/- Grammars: what is left may be, and all of it is useful. Plain facts, no program. -/
import Derived.Test.YtlppkbfkajionaaCmW
namespace Go.Proofs.Ytlppkbfkajionaa.Cm
open Go
set_option linter.unusedSimpArgs false
set_option linter.unusedVariables false
set_option linter.unusedSectionVars false
/-- symbols that come to tokens -/
inductive Prd (rs : List (List Int)) (t : Int) : Int → Prop
  | term {x : Int} : x < t → Prd rs t x
  | rule {r : List Int} : r ∈ rs → (∀ y ∈ r.drop 1, Prd rs t y) → Prd rs t (r.headD 0)
theorem fold_off (rs : List (List Int)) : ∀ (st : Bool × List Bool), (∀ r ∈ rs, In st.2.length r) → (rs.foldl sweepF st).1 = false → ∀ r ∈ rs, (step st.2 r).1 = false := by
  induction rs with
  | nil => intro st _ _ r hr; cases hr
  | cons q rs ih =>
    intro st h h0
    have hl : (sweepF st q).2.length = st.2.length := step_len _ _
    rw [List.foldl_cons] at h0
    have e2 := ((fold_le rs (sweepF st q) (fun r hr => by rw [hl]; exact h r (by simp [hr]))).2.1 h0).2
    have e3 : (step st.2 q).1 = false ∧ st.1 = false := by simpa [sweepF] using e2
    have e4 : (sweepF st q).2 = st.2 := (step_le (h q (by simp))).2.1 e3.1
    intro r hr
    rcases List.mem_cons.1 hr with rfl | hr
    · exact e3.1
    · have := ih (sweepF st q) (fun r hr => by rw [hl]; exact h r (by simp [hr])) h0 r hr
      rw [e4] at this
      exact this
theorem sweep_sound {rs0 : List (List Int)} {t : Int} (rs : List (List Int)) : ∀ (st : Bool × List Bool), (∀ r ∈ rs, In st.2.length r) → (∀ r ∈ rs, r ∈ rs0) → (∀ x, 0 ≤ x → bg st.2 x = true → Prd rs0 t x) → ∀ x, 0 ≤ x → bg (rs.foldl sweepF st).2 x = true → Prd rs0 t x := by
  induction rs with
  | nil => intro st _ _ h; exact h
  | cons r rs ih =>
    intro st hI h0 h
    have hl : (sweepF st r).2.length = st.2.length := step_len _ _
    rw [List.foldl_cons]
    refine ih _ (fun q hq => by rw [hl]; exact hI q (by simp [hq])) (fun q hq => h0 q (by simp [hq])) fun x hx hb => ?_
    have hr := hI r (by simp)
    simp only [sweepF, step] at hb
    split at hb
    · exact h x hx hb
    · rename_i hn
      simp only at hb
      rw [bg_mk _ hr.head hx] at hb
      by_cases e : x = r.headD 0
      · subst e
        refine .rule (h0 r (by simp)) fun y hy => h y (hr.2 y (List.mem_of_mem_drop hy)).1 ?_
        simp only [Bool.or_eq_true, not_or, List.any_eq_true, not_exists, not_and, Bool.not_eq_true', Bool.not_eq_true, Bool.not_eq_false'] at hn
        have := hn.2 y hy
        simpa using this
      · rw [decide_eq_false e, Bool.false_or] at hb
        exact h x hx hb
theorem mark_iff {g : Gr} (h : Ok g) {x : Int} (hx : 0 ≤ x ∧ x < (g.names.length : Int)) : bg (markF g true) x = true ↔ Prd g.rules g.terms x := by
  have hok := (okB_iff g).2 h
  have hdef : markF g true = it (fun σ => (sweep g.rules σ).2) (g.names.length + 1) (mark0 g true) := by unfold markF; rw [if_pos hok]
  have hlen := markF_len hok true
  have hstep : ∀ σ : List Bool, σ.length = g.names.length → (sweep g.rules σ).2.length = g.names.length ∧ Le σ (sweep g.rules σ).2 := fun σ hσ => ⟨by rw [sweep_len]; exact hσ, (sweep_le (fun r hr => by rw [hσ]; exact h.ins r hr)).1⟩
  constructor
  · have hg := it_good (f := fun σ => (sweep g.rules σ).2) (Good := fun σ => σ.length = g.names.length ∧ ∀ x, 0 ≤ x → bg σ x = true → Prd g.rules g.terms x) (fun σ hσ => ⟨(hstep σ hσ.1).1, sweep_sound g.rules (false, σ) (fun r hr => by show In σ.length r; rw [hσ.1]; exact h.ins r hr) (fun r hr => hr) hσ.2⟩) (g.names.length + 1) (mark0 g true) ⟨mark0_len g true, fun x hx hb => by
      have hlt := bg_lt hb
      rw [mark0_len] at hlt
      unfold bg mark0 at hb
      rw [List.getD_eq_getElem?_getD, List.getElem?_map, List.getElem?_range hlt] at hb
      simp at hb
      exact .term (by omega)⟩
    rw [hdef]
    exact hg.2 x hx.1
  · intro hp
    have hend : (sweep g.rules (markF g true)).2 = markF g true := by
      rw [hdef]
      refine it_ends (Good := fun σ => σ.length = g.names.length) (fun σ hσ => hstep σ hσ) _ _ (mark0_len g true) ?_
      have := falses_le (mark0 g true)
      rw [mark0_len] at this
      omega
    have hin : ∀ r ∈ g.rules, In (markF g true).length r := fun r hr => by rw [hlen]; exact h.ins r hr
    have hoff := fold_off g.rules (false, markF g true) hin (sweep_flag hin hend)
    have h0 : Le (mark0 g true) (markF g true) := by
      rw [hdef]
      have := it_good (f := fun σ => (sweep g.rules σ).2) (Good := fun σ => σ.length = g.names.length ∧ Le (mark0 g true) σ) (fun σ hσ => ⟨(hstep σ hσ.1).1, le_trans hσ.2 (hstep σ hσ.1).2⟩) (g.names.length + 1) (mark0 g true) ⟨mark0_len g true, le_refl _⟩
      exact this.2
    induction hp with
    | @term x ht =>
      have hb : bg (mark0 g true) (x.toNat : Int) = true := by
        unfold bg mark0
        have hlt : x.toNat < g.names.length := by omega
        rw [List.getD_eq_getElem?_getD, List.getElem?_map, Int.toNat_natCast, List.getElem?_range hlt]
        simp
        omega
      have := h0.2 _ hb
      rwa [Int.toNat_of_nonneg hx.1] at this
    | @rule r hr _ ih =>
      have h1 := hoff r hr
      simp only [step] at h1
      split at h1
      · rename_i hc
        rcases (Bool.or_eq_true ..).mp hc with hc | hc
        · exact hc
        · obtain ⟨y, hy, hny⟩ := List.any_eq_true.1 hc
          rw [ih y hy ((h.ins r hr).2 y (List.mem_of_mem_drop hy))] at hny
          cases hny
      · cases h1
theorem Prd.cases' {rs : List (List Int)} {t x : Int} (h : Prd rs t x) : x < t ∨ ∃ r ∈ rs, r.headD 0 = x ∧ ∀ y ∈ r.drop 1, Prd rs t y := by
  cases h with
  | term h => exact .inl h
  | rule hr h => exact .inr ⟨_, hr, rfl, h⟩
theorem Prd.mono {rs rs' : List (List Int)} {t x : Int} (hs : ∀ r ∈ rs, r ∈ rs') (h : Prd rs t x) : Prd rs' t x := by
  induction h with
  | term h => exact .term h
  | rule hr _ ih => exact .rule (hs _ hr) ih
theorem mem_head_drop {r : List Int} {y : Int} (hy : y ∈ r) : y = r.headD 0 ∨ y ∈ r.drop 1 := by
  cases r with
  | nil => cases hy
  | cons z r => rcases List.mem_cons.1 hy with rfl | hy; exact .inl rfl; exact .inr hy
theorem rules1_mem {g : Gr} (h : Ok g) {r : List Int} : r ∈ rules1 g ↔ r ∈ g.rules ∧ ∀ y ∈ r.drop 1, Prd g.rules g.terms y := by
  unfold rules1
  rw [List.mem_filter]
  refine and_congr_right fun hr => ?_
  simp only [Bool.not_eq_true', List.any_eq_false, Bool.not_eq_true', Bool.not_eq_false, Bool.not_eq_eq_eq_not, Bool.not_true, Bool.not_false]
  have hI := h.ins r hr
  constructor
  · intro h1 y hy
    have hy' := List.mem_of_mem_drop hy
    exact (mark_iff h (hI.2 y hy')).1 (by simpa using h1 y hy')
  · intro h1 y hy
    have hp : Prd g.rules g.terms y := by
      rcases mem_head_drop hy with rfl | hd
      · exact .rule hr h1
      · exact h1 y hd
    simpa using (mark_iff h (hI.2 y hy)).2 hp
theorem below1_iff {g : Gr} (h : Ok g) {x : Int} (hx : 0 ≤ x) : bg (below1 g) x = true ↔ Rch (rules1 g) g.start x := by
  unfold below1
  exact reachR_iff (fun r hr => h.ins r ((rules1_mem h).1 hr).1) ⟨h.start.2.1, h.start.2.2⟩ hx
theorem reachF_iff {g : Gr} (h : Ok g) {x : Int} (hx : 0 ≤ x) : bg (reachF g) x = true ↔ Rch g.rules g.start x := by
  unfold reachF
  rw [if_pos ((okB_iff g).2 h)]
  exact reachR_iff h.ins ⟨h.start.2.1, h.start.2.2⟩ hx
theorem Rch.mono {rs rs' : List (List Int)} {s x : Int} (hs : ∀ r ∈ rs, r ∈ rs') (h : Rch rs s x) : Rch rs' s x := by
  induction h with
  | start => exact .start
  | next _ hr hh hy ih => exact .next ih (hs _ hr) hh hy
/-! numbering -/
def kp (g : Gr) (τ : List Bool) (k : Nat) : Bool := !(decide (g.terms ≤ (k : Int)) && !bg τ (k : Int))
def cn (g : Gr) (τ : List Bool) (k : Nat) : Nat := (numS g τ k).2.length
theorem numS_yes {g : Gr} {τ : List Bool} {k : Nat} (h : kp g τ k = true) : numS g τ (k + 1) = ((numS g τ k).1 ++ [(cn g τ k : Int)], (numS g τ k).2 ++ [g.names.getD k []]) := by
  rw [numS, if_neg (by unfold kp at h; intro e; rw [e] at h; cases h)]; rfl
theorem numS_no {g : Gr} {τ : List Bool} {k : Nat} (h : kp g τ k = false) : numS g τ (k + 1) = ((numS g τ k).1 ++ [-1], (numS g τ k).2) := by
  rw [numS, if_pos (by unfold kp at h; rw [Bool.not_eq_false'] at h; exact h)]
theorem cn_yes {g : Gr} {τ : List Bool} {k : Nat} (h : kp g τ k = true) : cn g τ (k + 1) = cn g τ k + 1 := by
  unfold cn; rw [numS_yes h]; simp
theorem cn_no {g : Gr} {τ : List Bool} {k : Nat} (h : kp g τ k = false) : cn g τ (k + 1) = cn g τ k := by
  unfold cn; rw [numS_no h]
theorem cn_step (g : Gr) (τ : List Bool) (k : Nat) : cn g τ k ≤ cn g τ (k + 1) := by
  cases h : kp g τ k with
  | true => rw [cn_yes h]; omega
  | false => rw [cn_no h]; omega
theorem cn_mono {g : Gr} {τ : List Bool} {i : Nat} : ∀ {j : Nat}, i ≤ j → cn g τ i ≤ cn g τ j
  | 0, h => by obtain rfl : i = 0 := by omega
               exact Nat.le_refl _
  | j + 1, h => by
    rcases Nat.eq_or_lt_of_le h with rfl | h
    · exact Nat.le_refl _
    · exact Nat.le_trans (cn_mono (Nat.le_of_lt_succ h)) (cn_step g τ j)
theorem cn_lt {g : Gr} {τ : List Bool} {i j : Nat} (h : i < j) (hk : kp g τ i = true) : cn g τ i < cn g τ j := by
  have := cn_mono (g := g) (τ := τ) (show i + 1 ≤ j from h)
  rw [cn_yes hk] at this
  omega
theorem cn_le (g : Gr) (τ : List Bool) (k : Nat) : cn g τ k ≤ k := (numS_len g τ k).2
theorem cn_surj {g : Gr} {τ : List Bool} : ∀ {k j : Nat}, j < cn g τ k → ∃ i, i < k ∧ kp g τ i = true ∧ cn g τ i = j
  | 0, j, h => by have := cn_le g τ 0; omega
  | k + 1, j, h => by
    cases hk : kp g τ k with
    | true =>
      rw [cn_yes hk] at h
      rcases Nat.lt_or_ge j (cn g τ k) with h1 | h1
      · obtain ⟨i, a, b, c⟩ := cn_surj h1
        exact ⟨i, by omega, b, c⟩
      · exact ⟨k, by omega, hk, by omega⟩
    | false =>
      rw [cn_no hk] at h
      obtain ⟨i, a, b, c⟩ := cn_surj h
      exact ⟨i, by omega, b, c⟩
theorem cn_inj {g : Gr} {τ : List Bool} {i j : Nat} (hi : kp g τ i = true) (hj : kp g τ j = true) (h : cn g τ i = cn g τ j) : i = j := by
  rcases Nat.lt_trichotomy i j with h1 | h1 | h1
  · have := cn_lt h1 hi; omega
  · exact h1
  · have := cn_lt h1 hj; omega
theorem cn_terms {g : Gr} {τ : List Bool} : ∀ {k : Nat}, (k : Int) ≤ g.terms → cn g τ k = k
  | 0, _ => by have := cn_le g τ 0; omega
  | k + 1, h => by
    rw [cn_yes (by unfold kp; rw [decide_eq_false (by omega)]; rfl), cn_terms (k := k) (by omega)]
theorem cn_all {g : Gr} {τ : List Bool} : ∀ {k : Nat}, (∀ i, i < k → kp g τ i = true) → cn g τ k = k
  | 0, _ => by have := cn_le g τ 0; omega
  | k + 1, h => by rw [cn_yes (h k (by omega)), cn_all (k := k) (fun i hi => h i (by omega))]
theorem cn_full {g : Gr} {τ : List Bool} : ∀ {k : Nat}, cn g τ k = k → ∀ i, i < k → kp g τ i = true
  | 0, _, i, hi => by omega
  | k + 1, h, i, hi => by
    have h2 := cn_le g τ k
    have h3 : kp g τ k = true := by
      cases hk : kp g τ k with
      | true => rfl
      | false => rw [cn_no hk] at h; omega
    have h4 : cn g τ k = k := by rw [cn_yes h3] at h; omega
    rcases Nat.eq_or_lt_of_le (Nat.le_of_lt_succ hi) with rfl | hi
    · exact h3
    · exact cn_full h4 i hi
theorem numS_get {g : Gr} {τ : List Bool} : ∀ {k i : Nat}, i < k → (numS g τ k).1.getD i 0 = if kp g τ i then (cn g τ i : Int) else -1
  | 0, i, h => by omega
  | k + 1, i, h => by
    have hl := (numS_len g τ k).1
    have e : (numS g τ (k + 1)).1 = (numS g τ k).1 ++ [if kp g τ k then (cn g τ k : Int) else -1] := by
      cases hk : kp g τ k with
      | true => rw [numS_yes hk]; rfl
      | false => rw [numS_no hk]; rfl
    rw [e, List.getD_eq_getElem?_getD]
    rcases Nat.eq_or_lt_of_le (Nat.le_of_lt_succ h) with rfl | h
    · rw [List.getElem?_append_right (by omega), hl, Nat.sub_self]; rfl
    · rw [List.getElem?_append_left (by omega), ← List.getD_eq_getElem?_getD]
      exact numS_get h
theorem numS_names {g : Gr} {τ : List Bool} : ∀ {k : Nat}, k ≤ g.names.length → (∀ i, i < k → kp g τ i = true) → (numS g τ k).2 = g.names.take k
  | 0, _, _ => by rw [List.take_zero]; rfl
  | k + 1, hk, h => by
    rw [numS_yes (h k (by omega)), numS_names (k := k) (by omega) (fun i hi => h i (by omega)), List.take_add_one, List.getD_eq_getElem?_getD, List.getElem?_eq_getElem (by omega)]
    rfl
theorem lk_is {g : Gr} {x : Int} (hx : 0 ≤ x ∧ x < (g.names.length : Int)) : lk (numF g).1 x = if kp g (below1 g) x.toNat then (cn g (below1 g) x.toNat : Int) else -1 := numS_get (by omega)
theorem kp_iff {g : Gr} {τ : List Bool} {x : Int} (hx : 0 ≤ x) : kp g τ x.toNat = true ↔ x < g.terms ∨ bg τ x = true := by
  unfold kp
  rw [Int.toNat_of_nonneg hx]
  cases h : bg τ x with
  | true => simp
  | false => simp
/-- each symbol is productive, and reached -/
def Full (g : Gr) : Prop := ∀ x : Int, g.terms ≤ x → x < (g.names.length : Int) → Prd g.rules g.terms x ∧ Rch g.rules g.start x
theorem Full.prd {g : Gr} (h : Ok g) (hf : Full g) {x : Int} (hx : x < (g.names.length : Int)) : Prd g.rules g.terms x := by
  by_cases e : x < g.terms
  · exact .term e
  · exact (hf x (by omega) hx).1
theorem Full.rules1 {g : Gr} (h : Ok g) (hf : Full g) : rules1 g = g.rules := by
  unfold Cm.rules1
  refine List.filter_eq_self.2 fun r hr => ?_
  have := ((rules1_mem h).2 ⟨hr, fun y hy => hf.prd h ((h.ins r hr).2 y (List.mem_of_mem_drop hy)).2⟩)
  exact (List.mem_filter.1 this).2
theorem full_useful {g : Gr} (h : Ok g) (hf : Full g) : usefulE g = 0 ∧ usefulG g = g := by
  have hok := (okB_iff g).2 h
  have ht0 := h.t0
  have hst := h.start
  have hps : bg (markF g true) g.start = true := (mark_iff h hst.2).2 (hf.prd h hst.2.2)
  have h1 := hf.rules1 h
  have hkp : ∀ x : Int, 0 ≤ x → x < (g.names.length : Int) → kp g (below1 g) x.toNat = true := fun x hx0 hx => (kp_iff hx0).2 (by
    by_cases e : x < g.terms
    · exact .inl e
    · exact .inr ((below1_iff h hx0).2 (by rw [h1]; exact (hf x (by omega) hx).2)))
  have hkn : ∀ i, i < g.names.length → kp g (below1 g) i = true := fun i hi => by
    have := hkp (i : Int) (by omega) (by omega)
    rwa [Int.toNat_natCast] at this
  have hlk : ∀ x : Int, 0 ≤ x ∧ x < (g.names.length : Int) → lk (numF g).1 x = x := fun x hx => by
    rw [lk_is hx, if_pos (hkp x hx.1 hx.2), cn_all (fun i hi => hkn i (by omega)), Int.toNat_of_nonneg hx.1]
  have hnm : (numF g).2 = g.names := by
    unfold numF
    rw [numS_names (Nat.le_refl _) hkn, List.take_length]
  have hr2 : rules2 (numF g).1 (below1 g) (rules1 g) = g.rules := by
    rw [h1]
    unfold rules2
    rw [List.filter_eq_self.2 (fun r hr => ?_)]
    · refine (List.map_congr_left (g := id) fun r hr => ?_).trans (List.map_id _)
      exact (List.map_congr_left (g := id) fun y hy => hlk y ((h.ins r hr).2 y hy)).trans (List.map_id _)
    · have hh := (h.fits hr).head
      exact (below1_iff h hh.2.1).2 (by rw [h1]; exact (hf _ hh.1 hh.2.2).2)
  refine ⟨by unfold usefulE; rw [if_pos hok, if_pos hps], ?_⟩
  unfold usefulG
  rw [hok, hps, hnm, hr2, hlk _ hst.2]
  rfl
theorem useful_full {g : Gr} (h : Ok g) (he : usefulE g = 0) (hu : usefulG g = g) : Full g := by
  have hok := (okB_iff g).2 h
  have hps : bg (markF g true) g.start = true := by
    unfold usefulE at he
    rw [if_pos hok] at he
    split at he
    · assumption
    · cases he
  unfold usefulG at hu
  rw [hok, hps] at hu
  have hu' : (⟨(numF g).2, g.terms, g.tokens, rules2 (numF g).1 (below1 g) (rules1 g), lk (numF g).1 g.start⟩ : Gr) = g := hu
  obtain ⟨hnm, -, -, hr2, -⟩ := (Gr.eq_iff _ _).2 hu'
  have hnm : (numF g).2 = g.names := hnm
  have hr2 : rules2 (numF g).1 (below1 g) (rules1 g) = g.rules := hr2
  have hkn : ∀ i, i < g.names.length → kp g (below1 g) i = true := cn_full (by show (numF g).2.length = _; rw [hnm])
  have hlen : (rules1 g).length = g.rules.length := by
    have h1 := rules2_len (numF g).1 (below1 g) (rules1 g)
    have h2 : (rules1 g).length ≤ g.rules.length := List.length_filter_le _ _
    rw [hr2] at h1
    omega
  have hsub : (rules1 g).Sublist g.rules := List.filter_sublist
  have h1 : rules1 g = g.rules := hsub.eq_of_length hlen
  intro x hx1 hx2
  have ht0 := h.t0
  constructor
  · obtain ⟨r, hr, rfl⟩ := h.each x hx1 hx2
    exact .rule hr ((rules1_mem h).1 (by rw [h1]; exact hr)).2
  · have := hkn x.toNat (by omega)
    rcases (kp_iff (by omega)).1 this with h3 | h3
    · omega
    · have h4 := (below1_iff h (by omega)).1 h3
      rwa [h1] at h4
/-! without what is there already -/
theorem onceF_app (rs : List (List Int)) : ∀ st : List (List Int) × List Int, ∃ l, (rs.foldl onceS st).1 = st.1 ++ l ∧ l.Sublist rs := by
  induction rs with
  | nil => intro st; exact ⟨[], by simp, by simp⟩
  | cons r rs ih =>
    intro st
    obtain ⟨l, hl, hs⟩ := ih (onceS st r)
    rw [List.foldl_cons, hl]
    unfold onceS
    simp only
    split
    · exact ⟨l, rfl, hs.cons r⟩
    · exact ⟨r :: l, by simp, hs.cons_cons r⟩
theorem onceF_nodup {rs : List (List Int)} (h : rs.Nodup) : (onceF rs).1 = rs := by
  have : ∀ (rs : List (List Int)) (st : List (List Int) × List Int), (st.1 ++ rs).Nodup → (rs.foldl onceS st).1 = st.1 ++ rs := by
    intro rs
    induction rs with
    | nil => intro st _; simp
    | cons r rs ih =>
      intro st hn
      have hnot : st.1.contains r = false := by
        rw [Bool.eq_false_iff]
        intro hc
        have := List.nodup_append.1 hn
        exact this.2.2 r (by simpa using hc) r (by simp) rfl
      have e : (onceS st r).1 = st.1 ++ [r] := by unfold onceS; simp only [hnot]; rfl
      rw [List.foldl_cons, ih _ (by rw [e]; simpa using hn), e]
      simp
  have h2 := this rs ([], []) (by simpa using h)
  show (rs.foldl onceS ([], [])).1 = rs
  rw [h2]; rfl
theorem onceF_facts (rs : List (List Int)) : (onceF rs).1.Nodup ∧ ∀ r, r ∈ (onceF rs).1 ↔ r ∈ rs := by
  have : ∀ (rs : List (List Int)) (st : List (List Int) × List Int), st.1.Nodup → (rs.foldl onceS st).1.Nodup ∧ ∀ r, r ∈ (rs.foldl onceS st).1 ↔ r ∈ st.1 ∨ r ∈ rs := by
    intro rs
    induction rs with
    | nil => intro st h; exact ⟨h, fun r => by simp⟩
    | cons q rs ih =>
      intro st h
      have hm : (onceS st q).1.Nodup ∧ ∀ r, r ∈ (onceS st q).1 ↔ r ∈ st.1 ∨ r = q := by
        unfold onceS
        simp only
        split
        · rename_i hc
          refine ⟨h, fun r => ⟨.inl, fun h => h.elim id fun e => ?_⟩⟩
          subst e
          simpa using hc
        · rename_i hc
          refine ⟨List.nodup_append.2 ⟨h, by simp, fun a ha b hb e => ?_⟩, fun r => by simp⟩
          simp at hb
          subst hb
          subst e
          exact hc (by simpa using ha)
      obtain ⟨h1, h2⟩ := ih _ hm.1
      rw [List.foldl_cons]
      refine ⟨h1, fun r => ?_⟩
      rw [h2 r, hm.2 r]
      simp [or_assoc]
  obtain ⟨h1, h2⟩ := this rs ([], []) (by simp)
  exact ⟨h1, fun r => by have := h2 r; simp at this; exact this⟩
theorem onceF_len_eq {rs : List (List Int)} (h : (onceF rs).1.length = rs.length) : (onceF rs).1 = rs := by
  obtain ⟨l, hl, hs⟩ := onceF_app rs ([], [])
  have hl : (onceF rs).1 = l := hl
  rw [hl] at h ⊢
  exact hs.eq_of_length h
theorem once_rules {g : Gr} (h : Ok g) : onceG g = { g with rules := (onceF g.rules).1 } := by
  unfold onceG; rw [if_pos ((okB_iff g).2 h)]
theorem once_same {g : Gr} (h : Ok g) (hn : g.rules.Nodup) : onceG g = g := by
  rw [once_rules h, onceF_nodup hn]
theorem isB_eq (g : Gr) : isB g = isR g := by
  cases hb : okB g with
  | false =>
    unfold isB isR usefulE
    rw [hb]
    rfl
  | true =>
    have h := (okB_iff g).1 hb
    have ht0 := h.t0
    rw [Bool.eq_iff_iff]
    unfold isR
    simp only [Bool.and_eq_true, decide_eq_true_eq]
    constructor
    · intro hB
      unfold isB at hB
      rw [hb, Bool.true_and, Bool.and_eq_true] at hB
      obtain ⟨h1, h2⟩ := hB
      have hf : Full g := fun x hx1 hx2 => by
        have := List.all_eq_true.1 h1 x.toNat (List.mem_range.2 (by omega))
        rw [Int.toNat_of_nonneg (by omega), decide_eq_false (by omega), Bool.false_or, Bool.and_eq_true] at this
        exact ⟨(mark_iff h ⟨by omega, hx2⟩).1 this.1, (reachF_iff h (by omega)).1 this.2⟩
      obtain ⟨h3, h4⟩ := full_useful h hf
      refine ⟨h3, h4, ?_⟩
      have h5 : (onceG g).rules.length = g.rules.length := by simpa using h2
      rw [once_rules h] at h5 ⊢
      rw [onceF_len_eq h5]
    · rintro ⟨h1, h2, h3⟩
      have hf := useful_full h h1 h2
      unfold isB
      rw [hb, isB_all (fun i hi1 hi2 => ?_), h3]
      · simp
      · obtain ⟨h4, h5⟩ := hf (i : Int) hi1 (by omega)
        exact ⟨(mark_iff h ⟨by omega, by omega⟩).2 h4, (reachF_iff h (by omega)).2 h5⟩
end Go.Proofs.Ytlppkbfkajionaa.Cm
