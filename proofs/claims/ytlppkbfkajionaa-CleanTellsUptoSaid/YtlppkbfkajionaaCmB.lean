/- The walks of grammars: Check. -/
import Derived.Test.YtlppkbfkajionaaCmA
namespace Go.Proofs.Ytlppkbfkajionaa.Cm
open Go Go.RowKit Gw Go.Shelf
set_option linter.unusedSimpArgs false
set_option linter.unusedVariables false
set_option linter.unusedSectionVars false
theorem iv_inj : ∀ x y : Int, iv x = iv y → x = y := fun x y h => by cases h; rfl
theorem int_key {x : Int} (h : -9223372036854775808 ≤ x ∧ x ≤ 9223372036854775807) : ∃ l, keyOf Try.prog 3 (iv x) = some l := ⟨_, Maps.keyOf_int_mk Try.underlying3 (by simp [Lit.wf, IntKind.min, IntKind.max, IntKind.signed, IntKind.bits]; omega)⟩
theorem int_keyed3 : Maps.Keyed Try.prog 3 := Maps.int_keyed Try.underlying3
theorem mset_mem {ν : Type} {D : List (Int × ν)} {x y : Int} {u : ν} : (mget (mset D x u) y).isSome = true ↔ y = x ∨ (mget D y).isSome = true := by
  rw [mget_mset]
  by_cases h : x = y
  · rw [if_pos h]; simp [h]
  · rw [if_neg h]
    constructor
    · exact .inr
    · rintro (rfl | h2)
      · exact absurd rfl h
      · exact h2
theorem mget_key {ν : Type} {D : List (Int × ν)} {x : Int} : (mget D x).isSome = true ↔ x ∈ D.map (·.1) := by
  induction D with
  | nil => simp [mget]
  | cons z r ih =>
    obtain ⟨k, v⟩ := z
    unfold mget
    by_cases h : k = x
    · simp [h]
    · rw [if_neg h, ih]
      simp [Ne.symm h]
theorem keys_len {ν : Type} {D : List (Int × ν)} {L : List Int} (hd : D.Pairwise (fun x y => x.1 ≠ y.1)) (h : ∀ s, (mget D s).isSome = true ↔ s ∈ L) : D.length ≤ L.length := by
  have := nodup_sub_len (D.map (·.1)) L (List.pairwise_map.2 hd) (fun x hx => (h x).1 (mget_key.2 hx))
  rwa [List.length_map] at this
theorem take_mem {α β : Type} {f : α → β} {xs : List α} {k : Nat} {x : α} (hx : xs[k]? = some x) {y : β} : y ∈ (xs.take (k + 1)).map f ↔ y = f x ∨ y ∈ (xs.take k).map f := by
  rw [List.take_add_one, hx, List.map_append, List.mem_append]
  simp [or_comm]
theorem check_end {g : Gr} {D : List (Int × Bool)} (hd : D.Pairwise (fun x y => x.1 ≠ y.1)) (hD : ∀ s, (mget D s).isSome = true ↔ s ∈ g.rules.map (·.headD 0)) (t0 : 0 ≤ g.terms) (t1 : g.terms ≤ (g.names.length : Int)) (hf : ∀ r ∈ g.rules, fitsB g r = true) : (D.length : Int) = (g.names.length : Int) - g.terms ↔ ∀ s : Int, g.terms ≤ s → s < (g.names.length : Int) → ∃ r ∈ g.rules, r.headD 0 = s := by
  have h1 := heads_all (L := D.map (·.1)) (a := g.terms) (n := g.names.length - g.terms.toNat) (List.pairwise_map.2 hd) (fun x hx => by
    obtain ⟨r, hr, rfl⟩ := List.mem_map.1 ((hD x).1 (mget_key.2 hx))
    have := (fitsB_iff.1 (hf r hr)).head
    omega)
  rw [List.length_map] at h1
  constructor
  · intro e s hs1 hs2
    have := h1.1 (by omega) s hs1 (by omega)
    obtain ⟨r, hr, e2⟩ := List.mem_map.1 ((hD s).1 (mget_key.2 this))
    exact ⟨r, hr, e2⟩
  · intro h
    have := h1.2 (fun s hs1 hs2 => by
      obtain ⟨r, hr, e2⟩ := h s hs1 (by omega)
      exact mget_key.1 ((hD s).2 (List.mem_map.2 ⟨r, hr, e2⟩)))
    omega
set_option maxHeartbeats 1000000 in
theorem check_calls (x : GS) (g : Gr) (w : World) (hg : Gm w x g) : Calls Try.prog 39 #[.agg (gC x g).toArray] w fun e w' => e = .returned (iv (okE g)) ∧ Below w.heap.size w w' := by
  have hcap := hg.rules.cap
  refine calls_start Try.func39 rfl (N := 76) rfl rfl _ (St.start _) rfl ?_
  refine wc_seq ?_
  refine wc_region ?_
  refine wl_go rfl (wo_box rfl rfl rfl rfl rfl (fun b1 hb1 => ?_))
  refine wl_go rfl (wo_val rfl (rv_assign rfl) rfl rfl ?_)
  refine wl_nil ?_
  refine wq_then ?_
  refine wc_seq ?_
  refine wc_block ?_
  refine wc_seq ?_
  refine wc_region ?_
  refine wl_go rfl (wo_val rfl (rv_fieldAddr rfl) rfl rfl ?_)
  refine wl_go rfl (wo_val rfl (rv_load_own rfl rfl) rfl rfl ?_)
  refine wl_go rfl (wo_val rfl (rv_cmp_i rfl rfl rfl) rfl rfl ?_)
  refine wl_go rfl (wo_val rfl (rv_move rfl) rfl rfl ?_)
  refine wl_split (d := 10) rfl true (fun hg1_3 => ?_) (fun hg1_3 => ?_)
  · skip
    have hq : g.terms < 0 := by simpa using hg1_3
    have hbad : ¬ Ok g := fun h => by have := h.t0; omega
    refine wl_skip rfl rfl rfl rfl rfl hg1_3 rfl ?_
    refine wl_skip rfl rfl rfl rfl rfl hg1_3 rfl ?_
    refine wl_skip rfl rfl rfl rfl rfl hg1_3 rfl ?_
    refine wl_skip rfl rfl rfl rfl rfl hg1_3 rfl ?_
    refine wl_skip rfl rfl rfl rfl rfl hg1_3 rfl ?_
    refine wl_skip rfl rfl rfl rfl rfl hg1_3 rfl ?_
    refine wl_go rfl (wo_val rfl (rv_pick_t rfl hg1_3 rfl) rfl rfl ?_)
    refine wl_go rfl (wo_val rfl (rv_move rfl) rfl rfl ?_)
    refine wl_skip rfl rfl rfl rfl rfl rfl rfl ?_
    refine wl_skip rfl rfl rfl rfl rfl rfl rfl ?_
    refine wl_skip rfl rfl rfl rfl rfl rfl rfl ?_
    refine wl_skip rfl rfl rfl rfl rfl rfl rfl ?_
    refine wl_skip rfl rfl rfl rfl rfl rfl rfl ?_
    refine wl_skip rfl rfl rfl rfl rfl rfl rfl ?_
    refine wl_go rfl (wo_val rfl (rv_pick_t rfl rfl rfl) rfl rfl ?_)
    refine wl_go rfl (wo_val rfl (rv_move rfl) rfl rfl ?_)
    refine wl_skip rfl rfl rfl rfl rfl rfl rfl ?_
    refine wl_skip rfl rfl rfl rfl rfl rfl rfl ?_
    refine wl_skip rfl rfl rfl rfl rfl rfl rfl ?_
    refine wl_skip rfl rfl rfl rfl rfl rfl rfl ?_
    refine wl_go rfl (wo_val rfl (rv_pick_t rfl rfl rfl) rfl rfl ?_)
    refine wl_go rfl (wo_val rfl (rv_assign rfl) rfl rfl ?_)
    refine wl_nil ?_
    refine wq_then ?_
    refine wc_cond_t rfl rfl ?_
    refine wc_seq ?_
    refine wc_region ?_
    refine wl_go rfl (wo_val rfl (rv_assign rfl) rfl rfl ?_)
    refine wl_nil ?_
    refine wq_then ?_
    refine wc_ret ?_
    refine wq_in_ret ?_
    refine wq_then_ret ?_
    refine wq_ret1 rfl rfl (rr_tmp rfl) (fun w9 hs9 => ?_)
    first | (rw [okE_no hbad]; exact ⟨rfl, hs9.below rfl⟩) | (rw [okE_yes hgood]; exact ⟨rfl, hs9.below rfl⟩)
  · skip
    have c0 : 0 ≤ g.terms := by simpa using hg1_3
    refine wl_want rfl rfl rfl rfl rfl hg1_3 (wo_val rfl (rv_fieldAddr rfl) rfl rfl ?_)
    refine wl_want rfl rfl rfl rfl rfl hg1_3 (wo_val rfl (rv_load_own rfl rfl) rfl rfl ?_)
    refine wl_want rfl rfl rfl rfl rfl hg1_3 (wo_val rfl (rv_fieldAddr0 rfl) rfl rfl ?_)
    refine wl_want rfl rfl rfl rfl rfl hg1_3 (wo_val rfl (rv_load_own rfl rfl) rfl rfl ?_)
    refine wl_want rfl rfl rfl rfl rfl hg1_3 (wo_val rfl (rv_len rfl) rfl rfl ?_)
    refine wl_want rfl rfl rfl rfl rfl hg1_3 (wo_val rfl (rv_cmp_i rfl rfl rfl) rfl rfl ?_)
    refine wl_go rfl (wo_val rfl (rv_pick_f rfl hg1_3 rfl) rfl rfl ?_)
    refine wl_go rfl (wo_val rfl (rv_move rfl) rfl rfl ?_)
    refine wl_split (d := 18) rfl true (fun hg1_11 => ?_) (fun hg1_11 => ?_)
    · skip
      have hq : (g.names.length : Int) < g.terms := by simpa using hg1_11
      have hbad : ¬ Ok g := fun h => by have := h.t1; omega
      refine wl_skip rfl rfl rfl rfl rfl hg1_11 rfl ?_
      refine wl_skip rfl rfl rfl rfl rfl hg1_11 rfl ?_
      refine wl_skip rfl rfl rfl rfl rfl hg1_11 rfl ?_
      refine wl_skip rfl rfl rfl rfl rfl hg1_11 rfl ?_
      refine wl_skip rfl rfl rfl rfl rfl hg1_11 rfl ?_
      refine wl_skip rfl rfl rfl rfl rfl hg1_11 rfl ?_
      refine wl_go rfl (wo_val rfl (rv_pick_t rfl hg1_11 rfl) rfl rfl ?_)
      refine wl_go rfl (wo_val rfl (rv_move rfl) rfl rfl ?_)
      refine wl_skip rfl rfl rfl rfl rfl rfl rfl ?_
      refine wl_skip rfl rfl rfl rfl rfl rfl rfl ?_
      refine wl_skip rfl rfl rfl rfl rfl rfl rfl ?_
      refine wl_skip rfl rfl rfl rfl rfl rfl rfl ?_
      refine wl_go rfl (wo_val rfl (rv_pick_t rfl rfl rfl) rfl rfl ?_)
      refine wl_go rfl (wo_val rfl (rv_assign rfl) rfl rfl ?_)
      refine wl_nil ?_
      refine wq_then ?_
      refine wc_cond_t rfl rfl ?_
      refine wc_seq ?_
      refine wc_region ?_
      refine wl_go rfl (wo_val rfl (rv_assign rfl) rfl rfl ?_)
      refine wl_nil ?_
      refine wq_then ?_
      refine wc_ret ?_
      refine wq_in_ret ?_
      refine wq_then_ret ?_
      refine wq_ret1 rfl rfl (rr_tmp rfl) (fun w9 hs9 => ?_)
      first | (rw [okE_no hbad]; exact ⟨rfl, hs9.below rfl⟩) | (rw [okE_yes hgood]; exact ⟨rfl, hs9.below rfl⟩)
    · skip
      have c1 : g.terms ≤ (g.names.length : Int) := by simpa using hg1_11
      refine wl_want rfl rfl rfl rfl rfl hg1_11 (wo_val rfl (rv_fieldAddr rfl) rfl rfl ?_)
      refine wl_want rfl rfl rfl rfl rfl hg1_11 (wo_val rfl (rv_load_own rfl rfl) rfl rfl ?_)
      refine wl_want rfl rfl rfl rfl rfl hg1_11 (wo_val rfl (rv_len rfl) rfl rfl ?_)
      refine wl_want rfl rfl rfl rfl rfl hg1_11 (wo_val rfl (rv_fieldAddr rfl) rfl rfl ?_)
      refine wl_want rfl rfl rfl rfl rfl hg1_11 (wo_val rfl (rv_load_own rfl rfl) rfl rfl ?_)
      refine wl_want rfl rfl rfl rfl rfl hg1_11 (wo_val rfl (rv_cmp_i rfl rfl rfl) rfl rfl ?_)
      refine wl_go rfl (wo_val rfl (rv_pick_f rfl hg1_11 rfl) rfl rfl ?_)
      refine wl_go rfl (wo_val rfl (rv_move rfl) rfl rfl ?_)
      refine wl_split (d := 26) rfl true (fun hg1_19 => ?_) (fun hg1_19 => ?_)
      · skip
        have hq : ¬ (g.tokens.length : Int) = g.terms := by simpa using hg1_19
        have hbad : ¬ Ok g := fun h => by have := h.tk; omega
        refine wl_skip rfl rfl rfl rfl rfl hg1_19 rfl ?_
        refine wl_skip rfl rfl rfl rfl rfl hg1_19 rfl ?_
        refine wl_skip rfl rfl rfl rfl rfl hg1_19 rfl ?_
        refine wl_skip rfl rfl rfl rfl rfl hg1_19 rfl ?_
        refine wl_go rfl (wo_val rfl (rv_pick_t rfl hg1_19 rfl) rfl rfl ?_)
        refine wl_go rfl (wo_val rfl (rv_assign rfl) rfl rfl ?_)
        refine wl_nil ?_
        refine wq_then ?_
        refine wc_cond_t rfl rfl ?_
        refine wc_seq ?_
        refine wc_region ?_
        refine wl_go rfl (wo_val rfl (rv_assign rfl) rfl rfl ?_)
        refine wl_nil ?_
        refine wq_then ?_
        refine wc_ret ?_
        refine wq_in_ret ?_
        refine wq_then_ret ?_
        refine wq_ret1 rfl rfl (rr_tmp rfl) (fun w9 hs9 => ?_)
        first | (rw [okE_no hbad]; exact ⟨rfl, hs9.below rfl⟩) | (rw [okE_yes hgood]; exact ⟨rfl, hs9.below rfl⟩)
      · skip
        have c2 : (g.tokens.length : Int) = g.terms := by simpa using hg1_19
        refine wl_want rfl rfl rfl rfl rfl hg1_19 (wo_val rfl (rv_fieldAddr0 rfl) rfl rfl ?_)
        refine wl_want rfl rfl rfl rfl rfl hg1_19 (wo_val rfl (rv_load_own rfl rfl) rfl rfl ?_)
        refine wl_want rfl rfl rfl rfl rfl hg1_19 (wo_val rfl (rv_len rfl) rfl rfl ?_)
        refine wl_want rfl rfl rfl rfl rfl hg1_19 (wo_val rfl (rv_cmp_i rfl rfl rfl) rfl rfl ?_)
        refine wl_go rfl (wo_val rfl (rv_pick_f rfl hg1_19 rfl) rfl rfl ?_)
        refine wl_go rfl (wo_val rfl (rv_assign rfl) rfl rfl ?_)
        refine wl_nil ?_
        refine wq_then ?_
        refine wc_cond rfl (fun hc6 => ?_) (fun hc6 => ?_)
        · simp only [decide_eq_true_eq, decide_eq_false_iff_not, Bool.not_eq_true', Bool.not_eq_false', bne_iff_ne, beq_iff_eq, bne_eq_false_iff_eq, beq_eq_false_iff_ne, Int.not_lt, Int.not_le] at hc6
          have hbad : ¬ Ok g := fun h => by have := h.nm; omega
          refine wc_seq ?_
          refine wc_region ?_
          refine wl_go rfl (wo_val rfl (rv_assign rfl) rfl rfl ?_)
          refine wl_nil ?_
          refine wq_then ?_
          refine wc_ret ?_
          refine wq_in_ret ?_
          refine wq_then_ret ?_
          refine wq_ret1 rfl rfl (rr_tmp rfl) (fun w9 hs9 => ?_)
          first | (rw [okE_no hbad]; exact ⟨rfl, hs9.below rfl⟩) | (rw [okE_yes hgood]; exact ⟨rfl, hs9.below rfl⟩)
        · simp only [decide_eq_true_eq, decide_eq_false_iff_not, Bool.not_eq_true', Bool.not_eq_false', bne_iff_ne, beq_iff_eq, bne_eq_false_iff_eq, beq_eq_false_iff_ne, Int.not_lt, Int.not_le] at hc6
          have c3 : g.names.length ≤ 128 := by omega
          refine wc_seq ?_
          refine wc_region ?_
          refine wl_go rfl (wo_val rfl (rv_fieldAddr rfl) rfl rfl ?_)
          refine wl_go rfl (wo_val rfl (rv_load_own rfl rfl) rfl rfl ?_)
          refine wl_go rfl (wo_val rfl (rv_len rfl) rfl rfl ?_)
          refine wl_go rfl (wo_val rfl (rv_cmp_i rfl rfl rfl) rfl rfl ?_)
          refine wl_go rfl (wo_val rfl (rv_move rfl) rfl rfl ?_)
          refine wl_split (d := 37) rfl true (fun hg3_4 => ?_) (fun hg3_4 => ?_)
          · skip
            have hq : (g.rules.length : Int) < 1 := by simpa using hg3_4
            have hbad : ¬ Ok g := fun h => by have := h.r1; omega
            refine wl_skip rfl rfl rfl rfl rfl hg3_4 rfl ?_
            refine wl_skip rfl rfl rfl rfl rfl hg3_4 rfl ?_
            refine wl_skip rfl rfl rfl rfl rfl hg3_4 rfl ?_
            refine wl_skip rfl rfl rfl rfl rfl hg3_4 rfl ?_
            refine wl_go rfl (wo_val rfl (rv_pick_t rfl hg3_4 rfl) rfl rfl ?_)
            refine wl_go rfl (wo_val rfl (rv_move rfl) rfl rfl ?_)
            refine wl_skip rfl rfl rfl rfl rfl rfl rfl ?_
            refine wl_skip rfl rfl rfl rfl rfl rfl rfl ?_
            refine wl_skip rfl rfl rfl rfl rfl rfl rfl ?_
            refine wl_skip rfl rfl rfl rfl rfl rfl rfl ?_
            refine wl_skip rfl rfl rfl rfl rfl rfl rfl ?_
            refine wl_go rfl (wo_val rfl (rv_pick_t rfl rfl rfl) rfl rfl ?_)
            refine wl_go rfl (wo_val rfl (rv_assign rfl) rfl rfl ?_)
            refine wl_nil ?_
            refine wq_then ?_
            refine wc_cond_t rfl rfl ?_
            refine wc_seq ?_
            refine wc_region ?_
            refine wl_go rfl (wo_val rfl (rv_assign rfl) rfl rfl ?_)
            refine wl_nil ?_
            refine wq_then ?_
            refine wc_ret ?_
            refine wq_in_ret ?_
            refine wq_then_ret ?_
            refine wq_ret1 rfl rfl (rr_tmp rfl) (fun w9 hs9 => ?_)
            first | (rw [okE_no hbad]; exact ⟨rfl, hs9.below rfl⟩) | (rw [okE_yes hgood]; exact ⟨rfl, hs9.below rfl⟩)
          · skip
            have hq : 1 ≤ (g.rules.length : Int) := by simpa using hg3_4
            have c4 : 1 ≤ g.rules.length := by omega
            refine wl_want rfl rfl rfl rfl rfl hg3_4 (wo_val rfl (rv_fieldAddr rfl) rfl rfl ?_)
            refine wl_want rfl rfl rfl rfl rfl hg3_4 (wo_val rfl (rv_load_own rfl rfl) rfl rfl ?_)
            refine wl_want rfl rfl rfl rfl rfl hg3_4 (wo_val rfl (rv_len rfl) rfl rfl ?_)
            refine wl_want rfl rfl rfl rfl rfl hg3_4 (wo_val rfl (rv_cmp_i rfl rfl rfl) rfl rfl ?_)
            refine wl_go rfl (wo_val rfl (rv_pick_f rfl hg3_4 rfl) rfl rfl ?_)
            refine wl_go rfl (wo_val rfl (rv_move rfl) rfl rfl ?_)
            refine wl_split (d := 43) rfl true (fun hg3_10 => ?_) (fun hg3_10 => ?_)
            · skip
              have hq : 256 < (g.rules.length : Int) := by simpa using hg3_10
              have hbad : ¬ Ok g := fun h => by have := h.r2; omega
              refine wl_skip rfl rfl rfl rfl rfl hg3_10 rfl ?_
              refine wl_skip rfl rfl rfl rfl rfl hg3_10 rfl ?_
              refine wl_skip rfl rfl rfl rfl rfl hg3_10 rfl ?_
              refine wl_skip rfl rfl rfl rfl rfl hg3_10 rfl ?_
              refine wl_skip rfl rfl rfl rfl rfl hg3_10 rfl ?_
              refine wl_go rfl (wo_val rfl (rv_pick_t rfl hg3_10 rfl) rfl rfl ?_)
              refine wl_go rfl (wo_val rfl (rv_assign rfl) rfl rfl ?_)
              refine wl_nil ?_
              refine wq_then ?_
              refine wc_cond_t rfl rfl ?_
              refine wc_seq ?_
              refine wc_region ?_
              refine wl_go rfl (wo_val rfl (rv_assign rfl) rfl rfl ?_)
              refine wl_nil ?_
              refine wq_then ?_
              refine wc_ret ?_
              refine wq_in_ret ?_
              refine wq_then_ret ?_
              refine wq_ret1 rfl rfl (rr_tmp rfl) (fun w9 hs9 => ?_)
              first | (rw [okE_no hbad]; exact ⟨rfl, hs9.below rfl⟩) | (rw [okE_yes hgood]; exact ⟨rfl, hs9.below rfl⟩)
            · skip
              have hq : (g.rules.length : Int) ≤ 256 := by simpa using hg3_10
              have c5 : g.rules.length ≤ 256 := by omega
              refine wl_want rfl rfl rfl rfl rfl hg3_10 (wo_val rfl (rv_load_own_row rfl) rfl rfl ?_)
              refine wl_want rfl rfl rfl rfl rfl hg3_10 (wo_val rfl (rv_fieldAddr rfl) rfl rfl ?_)
              refine wl_want rfl rfl rfl rfl rfl hg3_10 (wo_val rfl (rv_load_own rfl rfl) rfl rfl ?_)
              refine wl_want rfl rfl rfl rfl rfl hg3_10 (wo_call (R := fun _ v _ => v = _) rfl rfl (enters_of Try.func99 (by kernel_rfl) rfl) rfl rfl rfl (fun w4 hs4 => (made_calls x g g.start w4).mono fun e w' h => ⟨_, h.1, rfl, h.2⟩) (fun w2 v w3 hs2 hv hb2 hm2 => ?_))
              subst hv
              refine wl_want rfl rfl rfl rfl rfl hg3_10 (wo_val rfl (rv_not rfl) rfl rfl ?_)
              refine wl_go rfl (wo_val rfl (rv_pick_f rfl hg3_10 rfl) rfl rfl ?_)
              refine wl_go rfl (wo_val rfl (rv_assign rfl) rfl rfl ?_)
              refine wl_nil ?_
              refine wq_then ?_
              refine wc_cond rfl (fun hc32 => ?_) (fun hc32 => ?_)
              · simp only [decide_eq_true_eq, decide_eq_false_iff_not, Bool.not_eq_true', Bool.not_eq_false', bne_iff_ne, beq_iff_eq, bne_eq_false_iff_eq, beq_eq_false_iff_ne, Int.not_lt, Int.not_le] at hc32
                have hbad : ¬ Ok g := fun h => by rw [h.st] at hc32; cases hc32
                refine wc_seq ?_
                refine wc_region ?_
                refine wl_go rfl (wo_val rfl (rv_assign rfl) rfl rfl ?_)
                refine wl_nil ?_
                refine wq_then ?_
                refine wc_ret ?_
                refine wq_in_ret ?_
                refine wq_then_ret ?_
                refine wq_ret1 rfl rfl (rr_tmp rfl) (fun w9 hs9 => ?_)
                first | (rw [okE_no hbad]; exact ⟨rfl, hs9.below rfl⟩) | (rw [okE_yes hgood]; exact ⟨rfl, hs9.below rfl⟩)
              · simp only [decide_eq_true_eq, decide_eq_false_iff_not, Bool.not_eq_true', Bool.not_eq_false', bne_iff_ne, beq_iff_eq, bne_eq_false_iff_eq, beq_eq_false_iff_ne, Int.not_lt, Int.not_le] at hc32
                have c6 := hc32
                refine wc_skip ?_
                refine wq_in_normal ?_
                refine wq_then ?_
                refine wc_seq ?_
                refine wc_region ?_
                refine wl_go rfl (wo_makeMap rfl rfl rfl (fun b50 hb50 => ?_))
                refine wl_go rfl (wo_val rfl (rv_assign rfl) rfl rfl ?_)
                refine wl_nil ?_
                refine wq_then ?_
                refine wc_seq ?_
                refine wc_seq ?_
                refine wc_region ?_
                refine wl_go rfl (wo_val rfl (rv_fieldAddr rfl) rfl rfl ?_)
                refine wl_go rfl (wo_val rfl (rv_load_own rfl rfl) rfl rfl ?_)
                refine wl_go rfl (wo_val rfl (rv_len rfl) rfl rfl ?_)
                refine wl_go rfl (wo_val rfl (rv_move rfl) rfl rfl ?_)
                refine wl_nil ?_
                refine wq_then ?_
                refine wc_block ?_
                refine wc_loop (fun m l S => ∃ (k : Nat) (w1 : World) (es : Array MapEntry) (clock : Nat) (D : List (Int × Bool)), k ≤ g.rules.length ∧ (∀ r ∈ g.rules.take k, fitsB g r = true) ∧ Mp Try.prog 3 iv bv es D ∧ (∀ s, (mget D s).isSome = true ↔ s ∈ (g.rules.take k).map (·.headD 0)) ∧ m = g.rules.length - k ∧ l = [(1, .pointer (some ⟨b1, 0, none⟩)), (3, .map (some b50)), (52, .slice x.rp g.rules.length x.rc), (53, iv (g.rules.length : Int)), (54, iv (k : Int))] ∧ S = ⟨w, G0, w1, [⟨b50, .map es clock⟩, ⟨b1, .cells (gC x g).toArray 53 (0, 0)⟩]⟩) ⟨_, _, ⟨0, _, _, _, [], Nat.zero_le _, by simp, Mp.nil, by simp [mget], rfl, rfl, rfl⟩, by repeat (first | exact sub_nil | refine sub_cons rfl ?_)⟩ ?_
                intro m l S hJ
                obtain ⟨k, w1, es, clock, D, hk, hno, hM, hD, rfl, rfl, rfl⟩ := hJ
                refine wc_seq ?_
                refine wc_region ?_
                refine wl_go rfl (wo_val rfl (rv_cmp_i rfl rfl rfl) rfl rfl ?_)
                refine wl_nil ?_
                refine wq_then ?_
                refine wc_seq ?_
                refine wc_cond rfl (fun hc55 => ?_) (fun hc55 => ?_)
                · simp only [decide_eq_true_eq, decide_eq_false_iff_not, Bool.not_eq_true', Bool.not_eq_false', bne_iff_ne, beq_iff_eq, bne_eq_false_iff_eq, beq_eq_false_iff_ne, Int.not_lt, Int.not_le] at hc55
                  obtain ⟨r, hr⟩ := getE (l := g.rules) (i := k) (by omega)
                  obtain ⟨g0, o0, q, d, hrp, hcell, hrow⟩ := hg.rules.read hr
                  rw [hrp]
                  refine wc_skip ?_
                  refine wq_then ?_
                  refine wc_seq ?_
                  refine wc_block ?_
                  refine wc_seq ?_
                  refine wc_region ?_
                  refine wl_go rfl (wo_val rfl (rv_indexAddr rfl rfl (by omega)) rfl rfl ?_)
                  refine wl_go rfl (wo_val rfl (rv_load_cell rfl (fun w4 hs4 => hcell w4 (hs4.below rfl))) rfl rfl ?_)
                  refine wl_go rfl (wo_val rfl (rv_assign rfl) rfl rfl ?_)
                  refine wl_nil ?_
                  refine wq_then ?_
                  refine wc_seq ?_
                  refine wc_seq ?_
                  refine wc_region ?_
                  refine wl_go rfl (wo_val rfl (rv_load_own_row rfl) rfl rfl ?_)
                  refine wl_go rfl (wo_val rfl (rv_move rfl) rfl rfl ?_)
                  refine wl_go rfl (wo_call (R := fun _ v _ => v = _) rfl rfl (enters_of Try.func100 (by kernel_rfl) rfl) rfl rfl rfl (fun w4 hs4 => (fits_calls x g q d r w4 (hrow.below (hs4.below rfl))).mono fun e w' h => ⟨_, h.1, rfl, h.2⟩) (fun w2f vf w3f hs2f hvf hb2f hm2f => ?_))
                  subst hvf
                  refine wl_go rfl (wo_val rfl (rv_not rfl) rfl rfl ?_)
                  refine wl_nil ?_
                  refine wq_then ?_
                  refine wc_cond rfl (fun hc61 => ?_) (fun hc61 => ?_)
                  · simp only [decide_eq_true_eq, decide_eq_false_iff_not, Bool.not_eq_true', Bool.not_eq_false', bne_iff_ne, beq_iff_eq, bne_eq_false_iff_eq, beq_eq_false_iff_ne, Int.not_lt, Int.not_le] at hc61
                    have hbad : ¬ Ok g := fun h => by rw [h.fit r (List.mem_of_getElem? hr)] at hc61; cases hc61
                    refine wc_seq ?_
                    refine wc_region ?_
                    refine wl_go rfl (wo_val rfl (rv_assign rfl) rfl rfl ?_)
                    refine wl_nil ?_
                    refine wq_then ?_
                    refine wc_ret ?_
                    refine wq_then_ret ?_
                    refine wq_in_ret ?_
                    refine wq_then_ret ?_
                    refine wq_then_ret ?_
                    refine wq_in_ret ?_
                    refine wq_then_ret ?_
                    refine wq_ret1 rfl rfl (rr_tmp rfl) (fun w9 hs9 => ?_)
                    first | (rw [okE_no hbad]; exact ⟨rfl, hs9.below rfl⟩) | (rw [okE_yes hgood]; exact ⟨rfl, hs9.below rfl⟩)
                  · simp only [decide_eq_true_eq, decide_eq_false_iff_not, Bool.not_eq_true', Bool.not_eq_false', bne_iff_ne, beq_iff_eq, bne_eq_false_iff_eq, beq_eq_false_iff_ne, Int.not_lt, Int.not_le] at hc61
                    have hf := fitsB_iff.1 hc61
                    have hpos := hf.pos
                    obtain ⟨y, hy⟩ := getE hpos
                    have hyd : r.headD 0 = y := by rw [List.headD_eq_head?_getD, List.head?_eq_getElem?, hy]; rfl
                    have hh := hf.head
                    rw [hyd] at hh
                    obtain ⟨g1, o1, rfl, hcell1⟩ := hrow.read (map_get hy)
                    refine wc_skip ?_
                    refine wq_then ?_
                    refine wc_region ?_
                    refine wl_go rfl (wo_val rfl (rv_move rfl) rfl rfl ?_)
                    refine wl_go rfl (wo_val rfl (rv_move rfl) rfl rfl ?_)
                    refine wl_go rfl (wo_val rfl (rv_indexAddr rfl rfl (by omega)) rfl rfl ?_)
                    refine wl_go rfl (wo_val rfl (rv_load_cell rfl (fun w4 hs4 => hcell1 w4 (hs4.below rfl))) rfl rfl ?_)
                    refine wl_go rfl (wo_mapUpdate (ek := iv) (ew := bv) (key := y) (val := true) rfl rfl rfl rfl rfl int_keyed3 iv_inj hM (int_key (by omega)) (by have := keys_len hM.apart hD; simp at this; unfold maxLen; omega) (fun es2 clock2 own2 hM2 ho2 => ?_))
                    simp only [List.set_cons_zero] at ho2
                    subst ho2
                    refine wl_nil ?_
                    refine wq_in_normal ?_
                    refine wq_then ?_
                    refine wc_region ?_
                    refine wl_go rfl (wo_val rfl (rv_add rfl rfl (by omega)) rfl rfl ?_)
                    refine wl_go rfl (wo_val rfl (rv_move rfl) rfl rfl ?_)
                    refine wl_nil ?_
                    refine wq_round ⟨_, _, ⟨k + 1, _, es2, clock2, _, by omega, ?_, hM2, ?_, rfl, rfl, rfl⟩, by omega, by repeat (first | exact sub_nil | refine sub_cons rfl ?_)⟩
                    · intro r2 hr2
                      rw [List.take_add_one, hr] at hr2
                      rcases List.mem_append.1 hr2 with h | h
                      · exact hno r2 h
                      · simp at h; subst h; exact hc61
                    · intro s
                      rw [mset_mem, hD s, take_mem hr, hyd]
                · simp only [decide_eq_true_eq, decide_eq_false_iff_not, Bool.not_eq_true', Bool.not_eq_false', bne_iff_ne, beq_iff_eq, bne_eq_false_iff_eq, beq_eq_false_iff_ne, Int.not_lt, Int.not_le] at hc55
                  obtain rfl : k = g.rules.length := by omega
                  simp only [List.take_length] at hno hD
                  refine wc_exit ?_
                  refine wq_then_exit ?_
                  refine wq_then_exit ?_
                  refine wq_in_here ?_
                  refine wq_then ?_
                  refine wc_seq ?_
                  refine wc_seq ?_
                  refine wc_region ?_
                  refine wl_go rfl (wo_val rfl (rv_move rfl) rfl rfl ?_)
                  refine wl_go rfl (wo_val rfl (rv_len_map hM rfl) rfl rfl ?_)
                  refine wl_go rfl (wo_val rfl (rv_fieldAddr0 rfl) rfl rfl ?_)
                  refine wl_go rfl (wo_val rfl (rv_load_own rfl rfl) rfl rfl ?_)
                  refine wl_go rfl (wo_val rfl (rv_len rfl) rfl rfl ?_)
                  refine wl_go rfl (wo_val rfl (rv_fieldAddr rfl) rfl rfl ?_)
                  refine wl_go rfl (wo_val rfl (rv_load_own rfl rfl) rfl rfl ?_)
                  refine wl_go rfl (wo_val rfl (rv_sub rfl rfl (by omega)) rfl rfl ?_)
                  refine wl_go rfl (wo_val rfl (rv_cmp_i rfl rfl rfl) rfl rfl ?_)
                  refine wl_nil ?_
                  refine wq_then ?_
                  refine wc_cond rfl (fun hc75 => ?_) (fun hc75 => ?_)
                  · simp only [decide_eq_true_eq, decide_eq_false_iff_not, Bool.not_eq_true', Bool.not_eq_false', bne_iff_ne, beq_iff_eq, bne_eq_false_iff_eq, beq_eq_false_iff_ne, Int.not_lt, Int.not_le] at hc75
                    have hbad : ¬ Ok g := fun h => hc75 ((check_end hM.apart hD c0 c1 hno).2 h.each)
                    refine wc_seq ?_
                    refine wc_region ?_
                    refine wl_go rfl (wo_val rfl (rv_assign rfl) rfl rfl ?_)
                    refine wl_nil ?_
                    refine wq_then ?_
                    refine wc_ret ?_
                    refine wq_then_ret ?_
                    refine wq_ret1 rfl rfl (rr_tmp rfl) (fun w9 hs9 => ?_)
                    first | (rw [okE_no hbad]; exact ⟨rfl, hs9.below rfl⟩) | (rw [okE_yes hgood]; exact ⟨rfl, hs9.below rfl⟩)
                  · simp only [decide_eq_true_eq, decide_eq_false_iff_not, Bool.not_eq_true', Bool.not_eq_false', bne_iff_ne, beq_iff_eq, bne_eq_false_iff_eq, beq_eq_false_iff_ne, Int.not_lt, Int.not_le] at hc75
                    have hgood : Ok g := ⟨c0, c1, c2, c3, c4, c5, c6, hno, (check_end hM.apart hD c0 c1 hno).1 hc75⟩
                    refine wc_skip ?_
                    refine wq_then ?_
                    refine wc_seq ?_
                    refine wc_region ?_
                    refine wl_go rfl (wo_val rfl (rv_assign rfl) rfl rfl ?_)
                    refine wl_nil ?_
                    refine wq_then ?_
                    refine wc_ret ?_
                    refine wq_ret1 rfl rfl (rr_tmp rfl) (fun w9 hs9 => ?_)
                    first | (rw [okE_no hbad]; exact ⟨rfl, hs9.below rfl⟩) | (rw [okE_yes hgood]; exact ⟨rfl, hs9.below rfl⟩)
end Go.Proofs.Ytlppkbfkajionaa.Cm
