/- The walks of grammars, the reference: Same. -/
import Derived.Test.YtlppkbfkajionaaCmO
namespace Go.Proofs.Ytlppkbfkajionaa.Cm
open Go Go.RowKit Gw Go.Shelf
set_option linter.unusedSimpArgs false
set_option linter.unusedVariables false
set_option linter.unusedSectionVars false
set_option maxHeartbeats 1000000 in
theorem gsame_calls (x y : GS) (a b : Gr) (w : World) (ha : Gm w x a) (hb : Gm w y b) : Calls Try.prog 37 #[.agg (gC x a).toArray, .agg (gC y b).toArray] w fun e w' => e = .returned (.bool (decide (a = b))) ∧ Below w.heap.size w w' := by
  have hca := ha.names.cap
  have hcb := ha.tokens.cap
  have hcc := ha.rules.cap
  rw [List.length_map] at hca hcb
  refine calls_start Try.func37 rfl (N := 131) rfl rfl _ (St.start _) rfl ?_
  refine wc_seq ?_
  refine wc_region ?_
  refine wl_go rfl (wo_box rfl rfl rfl rfl rfl (fun b2 hb2 => ?_))
  refine wl_go rfl (wo_box rfl rfl rfl rfl rfl (fun b3 hb3 => ?_))
  refine wl_go rfl (wo_val rfl (rv_assign rfl) rfl rfl ?_)
  refine wl_nil ?_
  refine wq_then ?_
  refine wc_seq ?_
  refine wc_seq ?_
  refine wc_region ?_
  refine wl_go rfl (wo_val rfl (rv_fieldAddr0 rfl) rfl rfl ?_)
  refine wl_go rfl (wo_val rfl (rv_load_own rfl rfl) rfl rfl ?_)
  refine wl_go rfl (wo_val rfl (rv_len rfl) rfl rfl ?_)
  refine wl_go rfl (wo_val rfl (rv_fieldAddr0 rfl) rfl rfl ?_)
  refine wl_go rfl (wo_val rfl (rv_load_own rfl rfl) rfl rfl ?_)
  refine wl_go rfl (wo_val rfl (rv_len rfl) rfl rfl ?_)
  refine wl_go rfl (wo_val rfl (rv_cmp_i rfl rfl rfl) rfl rfl ?_)
  refine wl_go rfl (wo_val rfl (rv_move rfl) rfl rfl ?_)
  refine wl_split (d := 16) rfl true (fun hg1_7 => ?_) (fun hg1_7 => ?_)
  · skip
    have q1 : ¬ (a.names.length : Int) = (b.names.length : Int) := by simpa using hg1_7
    refine wl_skip rfl rfl rfl rfl rfl hg1_7 rfl ?_
    refine wl_skip rfl rfl rfl rfl rfl hg1_7 rfl ?_
    refine wl_skip rfl rfl rfl rfl rfl hg1_7 rfl ?_
    refine wl_skip rfl rfl rfl rfl rfl hg1_7 rfl ?_
    refine wl_skip rfl rfl rfl rfl rfl hg1_7 rfl ?_
    refine wl_go rfl (wo_val rfl (rv_pick_t rfl hg1_7 rfl) rfl rfl ?_)
    refine wl_go rfl (wo_val rfl (rv_move rfl) rfl rfl ?_)
    refine wl_skip rfl rfl rfl rfl rfl rfl rfl ?_
    refine wl_skip rfl rfl rfl rfl rfl rfl rfl ?_
    refine wl_skip rfl rfl rfl rfl rfl rfl rfl ?_
    refine wl_skip rfl rfl rfl rfl rfl rfl rfl ?_
    refine wl_skip rfl rfl rfl rfl rfl rfl rfl ?_
    refine wl_go rfl (wo_val rfl (rv_pick_t rfl rfl rfl) rfl rfl ?_)
    refine wl_go rfl (wo_val rfl (rv_move rfl) rfl rfl ?_)
    refine wl_skip rfl rfl rfl rfl rfl rfl rfl ?_
    refine wl_skip rfl rfl rfl rfl rfl rfl rfl ?_
    refine wl_skip rfl rfl rfl rfl rfl rfl rfl ?_
    refine wl_skip rfl rfl rfl rfl rfl rfl rfl ?_
    refine wl_skip rfl rfl rfl rfl rfl rfl rfl ?_
    refine wl_skip rfl rfl rfl rfl rfl rfl rfl ?_
    refine wl_skip rfl rfl rfl rfl rfl rfl rfl ?_
    refine wl_go rfl (wo_val rfl (rv_pick_t rfl rfl rfl) rfl rfl ?_)
    refine wl_go rfl (wo_val rfl (rv_move rfl) rfl rfl ?_)
    refine wl_skip rfl rfl rfl rfl rfl rfl rfl ?_
    refine wl_skip rfl rfl rfl rfl rfl rfl rfl ?_
    refine wl_skip rfl rfl rfl rfl rfl rfl rfl ?_
    refine wl_skip rfl rfl rfl rfl rfl rfl rfl ?_
    refine wl_skip rfl rfl rfl rfl rfl rfl rfl ?_
    refine wl_skip rfl rfl rfl rfl rfl rfl rfl ?_
    refine wl_skip rfl rfl rfl rfl rfl rfl rfl ?_
    refine wl_go rfl (wo_val rfl (rv_pick_t rfl rfl rfl) rfl rfl ?_)
    refine wl_nil ?_
    refine wq_then ?_
    refine wc_cond_t rfl rfl ?_
    refine wc_seq ?_
    refine wc_region ?_
    refine wl_go rfl (wo_val rfl (rv_assign rfl) rfl rfl ?_)
    refine wl_nil ?_
    refine wq_then ?_
    refine wc_ret ?_
    refine wq_then_ret ?_
    refine wq_ret1 rfl rfl (rr_tmp rfl) (fun w9 hs9 => ?_)
    rw [decide_eq_false (fun h => q1 (by rw [h]))]
    exact ⟨rfl, hs9.below rfl⟩
  · skip
    have q1 : (a.names.length : Int) = (b.names.length : Int) := by simpa using hg1_7
    refine wl_want rfl rfl rfl rfl rfl hg1_7 (wo_val rfl (rv_fieldAddr rfl) rfl rfl ?_)
    refine wl_want rfl rfl rfl rfl rfl hg1_7 (wo_val rfl (rv_load_own rfl rfl) rfl rfl ?_)
    refine wl_want rfl rfl rfl rfl rfl hg1_7 (wo_val rfl (rv_fieldAddr rfl) rfl rfl ?_)
    refine wl_want rfl rfl rfl rfl rfl hg1_7 (wo_val rfl (rv_load_own rfl rfl) rfl rfl ?_)
    refine wl_want rfl rfl rfl rfl rfl hg1_7 (wo_val rfl (rv_cmp_i rfl rfl rfl) rfl rfl ?_)
    refine wl_go rfl (wo_val rfl (rv_pick_f rfl hg1_7 rfl) rfl rfl ?_)
    refine wl_go rfl (wo_val rfl (rv_move rfl) rfl rfl ?_)
    refine wl_split (d := 23) rfl true (fun hg1_14 => ?_) (fun hg1_14 => ?_)
    · skip
      have q2 : ¬ a.terms = b.terms := by simpa using hg1_14
      refine wl_skip rfl rfl rfl rfl rfl hg1_14 rfl ?_
      refine wl_skip rfl rfl rfl rfl rfl hg1_14 rfl ?_
      refine wl_skip rfl rfl rfl rfl rfl hg1_14 rfl ?_
      refine wl_skip rfl rfl rfl rfl rfl hg1_14 rfl ?_
      refine wl_skip rfl rfl rfl rfl rfl hg1_14 rfl ?_
      refine wl_go rfl (wo_val rfl (rv_pick_t rfl hg1_14 rfl) rfl rfl ?_)
      refine wl_go rfl (wo_val rfl (rv_move rfl) rfl rfl ?_)
      refine wl_skip rfl rfl rfl rfl rfl rfl rfl ?_
      refine wl_skip rfl rfl rfl rfl rfl rfl rfl ?_
      refine wl_skip rfl rfl rfl rfl rfl rfl rfl ?_
      refine wl_skip rfl rfl rfl rfl rfl rfl rfl ?_
      refine wl_skip rfl rfl rfl rfl rfl rfl rfl ?_
      refine wl_skip rfl rfl rfl rfl rfl rfl rfl ?_
      refine wl_skip rfl rfl rfl rfl rfl rfl rfl ?_
      refine wl_go rfl (wo_val rfl (rv_pick_t rfl rfl rfl) rfl rfl ?_)
      refine wl_go rfl (wo_val rfl (rv_move rfl) rfl rfl ?_)
      refine wl_skip rfl rfl rfl rfl rfl rfl rfl ?_
      refine wl_skip rfl rfl rfl rfl rfl rfl rfl ?_
      refine wl_skip rfl rfl rfl rfl rfl rfl rfl ?_
      refine wl_skip rfl rfl rfl rfl rfl rfl rfl ?_
      refine wl_skip rfl rfl rfl rfl rfl rfl rfl ?_
      refine wl_skip rfl rfl rfl rfl rfl rfl rfl ?_
      refine wl_skip rfl rfl rfl rfl rfl rfl rfl ?_
      refine wl_go rfl (wo_val rfl (rv_pick_t rfl rfl rfl) rfl rfl ?_)
      refine wl_nil ?_
      refine wq_then ?_
      refine wc_cond_t rfl rfl ?_
      refine wc_seq ?_
      refine wc_region ?_
      refine wl_go rfl (wo_val rfl (rv_assign rfl) rfl rfl ?_)
      refine wl_nil ?_
      refine wq_then ?_
      refine wc_ret ?_
      refine wq_then_ret ?_
      refine wq_ret1 rfl rfl (rr_tmp rfl) (fun w9 hs9 => ?_)
      rw [decide_eq_false (fun h => q2 (by rw [h]))]
      exact ⟨rfl, hs9.below rfl⟩
    · skip
      have q2 : a.terms = b.terms := by simpa using hg1_14
      refine wl_want rfl rfl rfl rfl rfl hg1_14 (wo_val rfl (rv_fieldAddr rfl) rfl rfl ?_)
      refine wl_want rfl rfl rfl rfl rfl hg1_14 (wo_val rfl (rv_load_own rfl rfl) rfl rfl ?_)
      refine wl_want rfl rfl rfl rfl rfl hg1_14 (wo_val rfl (rv_fieldAddr rfl) rfl rfl ?_)
      refine wl_want rfl rfl rfl rfl rfl hg1_14 (wo_val rfl (rv_load_own rfl rfl) rfl rfl ?_)
      refine wl_want rfl rfl rfl rfl rfl hg1_14 (wo_val rfl (rv_cmp_i rfl rfl rfl) rfl rfl ?_)
      refine wl_go rfl (wo_val rfl (rv_pick_f rfl hg1_14 rfl) rfl rfl ?_)
      refine wl_go rfl (wo_val rfl (rv_move rfl) rfl rfl ?_)
      refine wl_split (d := 30) rfl true (fun hg1_21 => ?_) (fun hg1_21 => ?_)
      · skip
        have q3 : ¬ a.start = b.start := by simpa using hg1_21
        refine wl_skip rfl rfl rfl rfl rfl hg1_21 rfl ?_
        refine wl_skip rfl rfl rfl rfl rfl hg1_21 rfl ?_
        refine wl_skip rfl rfl rfl rfl rfl hg1_21 rfl ?_
        refine wl_skip rfl rfl rfl rfl rfl hg1_21 rfl ?_
        refine wl_skip rfl rfl rfl rfl rfl hg1_21 rfl ?_
        refine wl_skip rfl rfl rfl rfl rfl hg1_21 rfl ?_
        refine wl_skip rfl rfl rfl rfl rfl hg1_21 rfl ?_
        refine wl_go rfl (wo_val rfl (rv_pick_t rfl hg1_21 rfl) rfl rfl ?_)
        refine wl_go rfl (wo_val rfl (rv_move rfl) rfl rfl ?_)
        refine wl_skip rfl rfl rfl rfl rfl rfl rfl ?_
        refine wl_skip rfl rfl rfl rfl rfl rfl rfl ?_
        refine wl_skip rfl rfl rfl rfl rfl rfl rfl ?_
        refine wl_skip rfl rfl rfl rfl rfl rfl rfl ?_
        refine wl_skip rfl rfl rfl rfl rfl rfl rfl ?_
        refine wl_skip rfl rfl rfl rfl rfl rfl rfl ?_
        refine wl_skip rfl rfl rfl rfl rfl rfl rfl ?_
        refine wl_go rfl (wo_val rfl (rv_pick_t rfl rfl rfl) rfl rfl ?_)
        refine wl_nil ?_
        refine wq_then ?_
        refine wc_cond_t rfl rfl ?_
        refine wc_seq ?_
        refine wc_region ?_
        refine wl_go rfl (wo_val rfl (rv_assign rfl) rfl rfl ?_)
        refine wl_nil ?_
        refine wq_then ?_
        refine wc_ret ?_
        refine wq_then_ret ?_
        refine wq_ret1 rfl rfl (rr_tmp rfl) (fun w9 hs9 => ?_)
        rw [decide_eq_false (fun h => q3 (by rw [h]))]
        exact ⟨rfl, hs9.below rfl⟩
      · skip
        have q3 : a.start = b.start := by simpa using hg1_21
        refine wl_want rfl rfl rfl rfl rfl hg1_21 (wo_val rfl (rv_fieldAddr rfl) rfl rfl ?_)
        refine wl_want rfl rfl rfl rfl rfl hg1_21 (wo_val rfl (rv_load_own rfl rfl) rfl rfl ?_)
        refine wl_want rfl rfl rfl rfl rfl hg1_21 (wo_val rfl (rv_len rfl) rfl rfl ?_)
        refine wl_want rfl rfl rfl rfl rfl hg1_21 (wo_val rfl (rv_fieldAddr rfl) rfl rfl ?_)
        refine wl_want rfl rfl rfl rfl rfl hg1_21 (wo_val rfl (rv_load_own rfl rfl) rfl rfl ?_)
        refine wl_want rfl rfl rfl rfl rfl hg1_21 (wo_val rfl (rv_len rfl) rfl rfl ?_)
        refine wl_want rfl rfl rfl rfl rfl hg1_21 (wo_val rfl (rv_cmp_i rfl rfl rfl) rfl rfl ?_)
        refine wl_go rfl (wo_val rfl (rv_pick_f rfl hg1_21 rfl) rfl rfl ?_)
        refine wl_go rfl (wo_val rfl (rv_move rfl) rfl rfl ?_)
        refine wl_split (d := 39) rfl true (fun hg1_30 => ?_) (fun hg1_30 => ?_)
        · skip
          have q4 : ¬ (a.rules.length : Int) = (b.rules.length : Int) := by simpa using hg1_30
          refine wl_skip rfl rfl rfl rfl rfl hg1_30 rfl ?_
          refine wl_skip rfl rfl rfl rfl rfl hg1_30 rfl ?_
          refine wl_skip rfl rfl rfl rfl rfl hg1_30 rfl ?_
          refine wl_skip rfl rfl rfl rfl rfl hg1_30 rfl ?_
          refine wl_skip rfl rfl rfl rfl rfl hg1_30 rfl ?_
          refine wl_skip rfl rfl rfl rfl rfl hg1_30 rfl ?_
          refine wl_skip rfl rfl rfl rfl rfl hg1_30 rfl ?_
          refine wl_go rfl (wo_val rfl (rv_pick_t rfl hg1_30 rfl) rfl rfl ?_)
          refine wl_nil ?_
          refine wq_then ?_
          refine wc_cond_t rfl rfl ?_
          refine wc_seq ?_
          refine wc_region ?_
          refine wl_go rfl (wo_val rfl (rv_assign rfl) rfl rfl ?_)
          refine wl_nil ?_
          refine wq_then ?_
          refine wc_ret ?_
          refine wq_then_ret ?_
          refine wq_ret1 rfl rfl (rr_tmp rfl) (fun w9 hs9 => ?_)
          rw [decide_eq_false (fun h => q4 (by rw [h]))]
          exact ⟨rfl, hs9.below rfl⟩
        · skip
          have q4 : (a.rules.length : Int) = (b.rules.length : Int) := by simpa using hg1_30
          refine wl_want rfl rfl rfl rfl rfl hg1_30 (wo_val rfl (rv_fieldAddr rfl) rfl rfl ?_)
          refine wl_want rfl rfl rfl rfl rfl hg1_30 (wo_val rfl (rv_load_own rfl rfl) rfl rfl ?_)
          refine wl_want rfl rfl rfl rfl rfl hg1_30 (wo_val rfl (rv_len rfl) rfl rfl ?_)
          refine wl_want rfl rfl rfl rfl rfl hg1_30 (wo_val rfl (rv_fieldAddr rfl) rfl rfl ?_)
          refine wl_want rfl rfl rfl rfl rfl hg1_30 (wo_val rfl (rv_load_own rfl rfl) rfl rfl ?_)
          refine wl_want rfl rfl rfl rfl rfl hg1_30 (wo_val rfl (rv_len rfl) rfl rfl ?_)
          refine wl_want rfl rfl rfl rfl rfl hg1_30 (wo_val rfl (rv_cmp_i rfl rfl rfl) rfl rfl ?_)
          refine wl_go rfl (wo_val rfl (rv_pick_f rfl hg1_30 rfl) rfl rfl ?_)
          refine wl_nil ?_
          refine wq_then ?_
          refine wc_cond rfl (fun hc47 => ?_) (fun hc47 => ?_)
          · simp only [decide_eq_true_eq, decide_eq_false_iff_not, Bool.not_eq_true', Bool.not_eq_false', bne_iff_ne, beq_iff_eq, bne_eq_false_iff_eq, beq_eq_false_iff_ne, Int.not_lt, Int.not_le] at hc47
            refine wc_seq ?_
            refine wc_region ?_
            refine wl_go rfl (wo_val rfl (rv_assign rfl) rfl rfl ?_)
            refine wl_nil ?_
            refine wq_then ?_
            refine wc_ret ?_
            refine wq_then_ret ?_
            refine wq_ret1 rfl rfl (rr_tmp rfl) (fun w9 hs9 => ?_)
            rw [decide_eq_false (fun h => hc47 (by rw [h]))]
            exact ⟨rfl, hs9.below rfl⟩
          · simp only [decide_eq_true_eq, decide_eq_false_iff_not, Bool.not_eq_true', Bool.not_eq_false', bne_iff_ne, beq_iff_eq, bne_eq_false_iff_eq, beq_eq_false_iff_ne, Int.not_lt, Int.not_le] at hc47
            have q5 := hc47
            refine wc_skip ?_
            refine wq_then ?_
            refine wc_seq ?_
            refine wc_seq ?_
            refine wc_region ?_
            refine wl_go rfl (wo_val rfl (rv_assign rfl) rfl rfl ?_)
            refine wl_nil ?_
            refine wq_then ?_
            refine wc_block ?_
            refine wc_loop (fun m l S => ∃ k : Nat, k ≤ a.names.length ∧ a.names.take k = b.names.take k ∧ m = a.names.length - k ∧ l = [(2, .pointer (some ⟨b2, 0, none⟩)), (3, .pointer (some ⟨b3, 0, none⟩)), (5, iv (k : Int))] ∧ S = ⟨w, G0, w, [⟨b3, .cells (gC y b).toArray 60 (0, 0)⟩, ⟨b2, .cells (gC x a).toArray 60 (0, 0)⟩]⟩) ⟨_, _, ⟨0, Nat.zero_le _, rfl, rfl, rfl, rfl⟩, by repeat (first | exact sub_nil | refine sub_cons rfl ?_)⟩ ?_
            intro m l S hJ
            obtain ⟨k, hk, hkk, rfl, rfl, rfl⟩ := hJ
            refine wc_seq ?_
            refine wc_seq ?_
            refine wc_region ?_
            refine wl_go rfl (wo_val rfl (rv_move rfl) rfl rfl ?_)
            refine wl_go rfl (wo_val rfl (rv_fieldAddr0 rfl) rfl rfl ?_)
            refine wl_go rfl (wo_val rfl (rv_load_own rfl rfl) rfl rfl ?_)
            refine wl_go rfl (wo_val rfl (rv_len rfl) rfl rfl ?_)
            refine wl_go rfl (wo_val rfl (rv_cmp_i rfl rfl rfl) rfl rfl ?_)
            refine wl_nil ?_
            refine wq_then ?_
            refine wc_cond rfl (fun hc52 => ?_) (fun hc52 => ?_)
            · simp only [decide_eq_true_eq, decide_eq_false_iff_not, Bool.not_eq_true', Bool.not_eq_false', bne_iff_ne, beq_iff_eq, bne_eq_false_iff_eq, beq_eq_false_iff_ne, Int.not_lt, Int.not_le] at hc52
              obtain ⟨u, hu⟩ := getE (l := a.names) (i := k) (by omega)
              obtain ⟨v, hv⟩ := getE (l := b.names) (i := k) (by omega)
              obtain ⟨g0, o0, hpa, hcu⟩ := ha.names.read (map_get hu)
              obtain ⟨g1, o1, hpb, hcv⟩ := hb.names.read (map_get hv)
              refine wc_skip ?_
              refine wq_then ?_
              refine wc_seq ?_
              refine wc_block ?_
              refine wc_seq ?_
              refine wc_region_quiet (by kernel_rfl) (by kernel_rfl) ?_
              refine wk_val rfl rfl (rv_fieldAddr0 rfl) rfl rfl ?_
              refine wk_val rfl rfl (rv_load_own (v := .slice (some ⟨g0, o0, none⟩) a.names.length x.nc) rfl (by rw [← hpa]; rfl)) rfl rfl ?_
              refine wk_val rfl rfl (rv_move rfl) rfl rfl ?_
              refine wk_val rfl rfl (rv_indexAddr rfl rfl (by omega)) rfl rfl ?_
              refine wk_val rfl rfl (rv_load_cell rfl (fun w4 hs4 => hcu w4 (hs4.below rfl))) rfl rfl ?_
              refine wk_val rfl rfl (rv_fieldAddr0 rfl) rfl rfl ?_
              refine wk_val rfl rfl (rv_load_own (v := .slice (some ⟨g1, o1, none⟩) b.names.length y.nc) rfl (by rw [← hpb]; rfl)) rfl rfl ?_
              refine wk_val rfl rfl (rv_move rfl) rfl rfl ?_
              refine wk_val rfl rfl (rv_indexAddr rfl rfl (by omega)) rfl rfl ?_
              refine wk_val rfl rfl (rv_load_cell rfl (fun w4 hs4 => hcv w4 (hs4.below rfl))) rfl rfl ?_
              refine wk_val rfl rfl (rb_neq rfl rfl) rfl rfl ?_
              refine wk_nil ?_
              refine wq_then ?_
              refine wc_cond rfl (fun hc65 => ?_) (fun hc65 => ?_)
              · simp only [decide_eq_true_eq, decide_eq_false_iff_not, Bool.not_eq_true', Bool.not_eq_false', bne_iff_ne, beq_iff_eq, bne_eq_false_iff_eq, beq_eq_false_iff_ne, Int.not_lt, Int.not_le] at hc65
                refine wc_seq ?_
                refine wc_region ?_
                refine wl_go rfl (wo_val rfl (rv_assign rfl) rfl rfl ?_)
                refine wl_nil ?_
                refine wq_then ?_
                refine wc_ret ?_
                refine wq_in_ret ?_
                refine wq_then_ret ?_
                refine wq_then_ret ?_
                refine wq_in_ret ?_
                refine wq_then_ret ?_
                refine wq_ret1 rfl rfl (rr_tmp rfl) (fun w9 hs9 => ?_)
                rw [decide_eq_false (fun h => at_ne hu hv hc65 (by rw [h]))]
                exact ⟨rfl, hs9.below rfl⟩
              · simp only [decide_eq_true_eq, decide_eq_false_iff_not, Bool.not_eq_true', Bool.not_eq_false', bne_iff_ne, beq_iff_eq, bne_eq_false_iff_eq, beq_eq_false_iff_ne, Int.not_lt, Int.not_le] at hc65
                obtain rfl : u = v := hc65
                refine wc_skip ?_
                refine wq_in_normal ?_
                refine wq_then ?_
                refine wc_region ?_
                refine wl_go rfl (wo_val rfl (rv_move rfl) rfl rfl ?_)
                refine wl_go rfl (wo_val rfl (rv_add rfl rfl (by omega)) rfl rfl ?_)
                refine wl_go rfl (wo_val rfl (rv_assign rfl) rfl rfl ?_)
                refine wl_nil ?_
                exact wq_round ⟨_, _, ⟨k + 1, by omega, take_eq hu hv hkk, rfl, rfl, rfl⟩, by omega, by repeat (first | exact sub_nil | refine sub_cons rfl ?_)⟩
            · simp only [decide_eq_true_eq, decide_eq_false_iff_not, Bool.not_eq_true', Bool.not_eq_false', bne_iff_ne, beq_iff_eq, bne_eq_false_iff_eq, beq_eq_false_iff_ne, Int.not_lt, Int.not_le] at hc52
              obtain rfl : k = a.names.length := by omega
              have enames : a.names = b.names := by rw [List.take_length] at hkk; rw [hkk, show a.names.length = b.names.length by omega, List.take_length]
              refine wc_exit ?_
              refine wq_then_exit ?_
              refine wq_then_exit ?_
              refine wq_in_here ?_
              refine wq_then ?_
              refine wc_seq ?_
              refine wc_seq ?_
              refine wc_region ?_
              refine wl_go rfl (wo_val rfl (rv_assign rfl) rfl rfl ?_)
              refine wl_nil ?_
              refine wq_then ?_
              refine wc_block ?_
              refine wc_loop (fun m l S => ∃ k : Nat, k ≤ a.tokens.length ∧ a.tokens.take k = b.tokens.take k ∧ m = a.tokens.length - k ∧ l = [(2, .pointer (some ⟨b2, 0, none⟩)), (3, .pointer (some ⟨b3, 0, none⟩)), (6, iv (k : Int))] ∧ S = ⟨w, G0, w, [⟨b3, .cells (gC y b).toArray 60 (0, 0)⟩, ⟨b2, .cells (gC x a).toArray 60 (0, 0)⟩]⟩) ⟨_, _, ⟨0, Nat.zero_le _, rfl, rfl, rfl, rfl⟩, by repeat (first | exact sub_nil | refine sub_cons rfl ?_)⟩ ?_
              intro m l S hJ
              obtain ⟨k, hk, hkk, rfl, rfl, rfl⟩ := hJ
              refine wc_seq ?_
              refine wc_seq ?_
              refine wc_region ?_
              refine wl_go rfl (wo_val rfl (rv_move rfl) rfl rfl ?_)
              refine wl_go rfl (wo_val rfl (rv_fieldAddr rfl) rfl rfl ?_)
              refine wl_go rfl (wo_val rfl (rv_load_own rfl rfl) rfl rfl ?_)
              refine wl_go rfl (wo_val rfl (rv_len rfl) rfl rfl ?_)
              refine wl_go rfl (wo_val rfl (rv_cmp_i rfl rfl rfl) rfl rfl ?_)
              refine wl_nil ?_
              refine wq_then ?_
              refine wc_cond rfl (fun hc70 => ?_) (fun hc70 => ?_)
              · simp only [decide_eq_true_eq, decide_eq_false_iff_not, Bool.not_eq_true', Bool.not_eq_false', bne_iff_ne, beq_iff_eq, bne_eq_false_iff_eq, beq_eq_false_iff_ne, Int.not_lt, Int.not_le] at hc70
                obtain ⟨u, hu⟩ := getE (l := a.tokens) (i := k) (by omega)
                obtain ⟨v, hv⟩ := getE (l := b.tokens) (i := k) (by omega)
                obtain ⟨g0, o0, hpa, hcu⟩ := ha.tokens.read (map_get hu)
                obtain ⟨g1, o1, hpb, hcv⟩ := hb.tokens.read (map_get hv)
                refine wc_skip ?_
                refine wq_then ?_
                refine wc_seq ?_
                refine wc_block ?_
                refine wc_seq ?_
                refine wc_region_quiet (by kernel_rfl) (by kernel_rfl) ?_
                refine wk_val rfl rfl (rv_fieldAddr rfl) rfl rfl ?_
                refine wk_val rfl rfl (rv_load_own (v := .slice (some ⟨g0, o0, none⟩) a.tokens.length x.tc) rfl (by rw [← hpa]; rfl)) rfl rfl ?_
                refine wk_val rfl rfl (rv_move rfl) rfl rfl ?_
                refine wk_val rfl rfl (rv_indexAddr rfl rfl (by omega)) rfl rfl ?_
                refine wk_val rfl rfl (rv_load_cell rfl (fun w4 hs4 => hcu w4 (hs4.below rfl))) rfl rfl ?_
                refine wk_val rfl rfl (rv_fieldAddr rfl) rfl rfl ?_
                refine wk_val rfl rfl (rv_load_own (v := .slice (some ⟨g1, o1, none⟩) b.tokens.length y.tc) rfl (by rw [← hpb]; rfl)) rfl rfl ?_
                refine wk_val rfl rfl (rv_move rfl) rfl rfl ?_
                refine wk_val rfl rfl (rv_indexAddr rfl rfl (by omega)) rfl rfl ?_
                refine wk_val rfl rfl (rv_load_cell rfl (fun w4 hs4 => hcv w4 (hs4.below rfl))) rfl rfl ?_
                refine wk_val rfl rfl (rv_cmp_i rfl rfl rfl) rfl rfl ?_
                refine wk_nil ?_
                refine wq_then ?_
                refine wc_cond rfl (fun hc83 => ?_) (fun hc83 => ?_)
                · simp only [decide_eq_true_eq, decide_eq_false_iff_not, Bool.not_eq_true', Bool.not_eq_false', bne_iff_ne, beq_iff_eq, bne_eq_false_iff_eq, beq_eq_false_iff_ne, Int.not_lt, Int.not_le] at hc83
                  refine wc_seq ?_
                  refine wc_region ?_
                  refine wl_go rfl (wo_val rfl (rv_assign rfl) rfl rfl ?_)
                  refine wl_nil ?_
                  refine wq_then ?_
                  refine wc_ret ?_
                  refine wq_in_ret ?_
                  refine wq_then_ret ?_
                  refine wq_then_ret ?_
                  refine wq_in_ret ?_
                  refine wq_then_ret ?_
                  refine wq_ret1 rfl rfl (rr_tmp rfl) (fun w9 hs9 => ?_)
                  rw [decide_eq_false (fun h => at_ne hu hv hc83 (by rw [h]))]
                  exact ⟨rfl, hs9.below rfl⟩
                · simp only [decide_eq_true_eq, decide_eq_false_iff_not, Bool.not_eq_true', Bool.not_eq_false', bne_iff_ne, beq_iff_eq, bne_eq_false_iff_eq, beq_eq_false_iff_ne, Int.not_lt, Int.not_le] at hc83
                  obtain rfl : u = v := hc83
                  refine wc_skip ?_
                  refine wq_in_normal ?_
                  refine wq_then ?_
                  refine wc_region ?_
                  refine wl_go rfl (wo_val rfl (rv_move rfl) rfl rfl ?_)
                  refine wl_go rfl (wo_val rfl (rv_add rfl rfl (by omega)) rfl rfl ?_)
                  refine wl_go rfl (wo_val rfl (rv_assign rfl) rfl rfl ?_)
                  refine wl_nil ?_
                  exact wq_round ⟨_, _, ⟨k + 1, by omega, take_eq hu hv hkk, rfl, rfl, rfl⟩, by omega, by repeat (first | exact sub_nil | refine sub_cons rfl ?_)⟩
              · simp only [decide_eq_true_eq, decide_eq_false_iff_not, Bool.not_eq_true', Bool.not_eq_false', bne_iff_ne, beq_iff_eq, bne_eq_false_iff_eq, beq_eq_false_iff_ne, Int.not_lt, Int.not_le] at hc70
                obtain rfl : k = a.tokens.length := by omega
                have etokens : a.tokens = b.tokens := by rw [List.take_length] at hkk; rw [hkk, show a.tokens.length = b.tokens.length by omega, List.take_length]
                refine wc_exit ?_
                refine wq_then_exit ?_
                refine wq_then_exit ?_
                refine wq_in_here ?_
                refine wq_then ?_
                refine wc_seq ?_
                refine wc_seq ?_
                refine wc_region ?_
                refine wl_go rfl (wo_val rfl (rv_assign rfl) rfl rfl ?_)
                refine wl_nil ?_
                refine wq_then ?_
                refine wc_block ?_
                refine wc_loop (fun m l S => ∃ k : Nat, k ≤ a.rules.length ∧ a.rules.take k = b.rules.take k ∧ m = a.rules.length - k ∧ l = [(2, .pointer (some ⟨b2, 0, none⟩)), (3, .pointer (some ⟨b3, 0, none⟩)), (7, iv (k : Int))] ∧ S = ⟨w, G0, w, [⟨b3, .cells (gC y b).toArray 60 (0, 0)⟩, ⟨b2, .cells (gC x a).toArray 60 (0, 0)⟩]⟩) ⟨_, _, ⟨0, Nat.zero_le _, rfl, rfl, rfl, rfl⟩, by repeat (first | exact sub_nil | refine sub_cons rfl ?_)⟩ ?_
                intro m l S hJ
                obtain ⟨k, hk, hkk, rfl, rfl, rfl⟩ := hJ
                refine wc_seq ?_
                refine wc_seq ?_
                refine wc_region ?_
                refine wl_go rfl (wo_val rfl (rv_move rfl) rfl rfl ?_)
                refine wl_go rfl (wo_val rfl (rv_fieldAddr rfl) rfl rfl ?_)
                refine wl_go rfl (wo_val rfl (rv_load_own rfl rfl) rfl rfl ?_)
                refine wl_go rfl (wo_val rfl (rv_len rfl) rfl rfl ?_)
                refine wl_go rfl (wo_val rfl (rv_cmp_i rfl rfl rfl) rfl rfl ?_)
                refine wl_nil ?_
                refine wq_then ?_
                refine wc_cond rfl (fun hc88 => ?_) (fun hc88 => ?_)
                · simp only [decide_eq_true_eq, decide_eq_false_iff_not, Bool.not_eq_true', Bool.not_eq_false', bne_iff_ne, beq_iff_eq, bne_eq_false_iff_eq, beq_eq_false_iff_ne, Int.not_lt, Int.not_le] at hc88
                  obtain ⟨r, hr⟩ := getE (l := a.rules) (i := k) (by omega)
                  obtain ⟨s, hs⟩ := getE (l := b.rules) (i := k) (by omega)
                  obtain ⟨g0, o0, q, d, hpa, hcu, hru⟩ := ha.rules.read hr
                  obtain ⟨g1, o1, q2, d2, hpb, hcv, hrv⟩ := hb.rules.read hs
                  have hcr := hru.cap
                  rw [List.length_map] at hcr
                  refine wc_skip ?_
                  refine wq_then ?_
                  refine wc_seq ?_
                  refine wc_block ?_
                  refine wc_seq ?_
                  refine wc_seq ?_
                  refine wc_region_quiet (by kernel_rfl) (by kernel_rfl) ?_
                  refine wk_val rfl rfl (rv_fieldAddr rfl) rfl rfl ?_
                  refine wk_val rfl rfl (rv_load_own (v := .slice (some ⟨g0, o0, none⟩) a.rules.length x.rc) rfl (by rw [← hpa]; rfl)) rfl rfl ?_
                  refine wk_val rfl rfl (rv_move rfl) rfl rfl ?_
                  refine wk_val rfl rfl (rv_indexAddr rfl rfl (by omega)) rfl rfl ?_
                  refine wk_val rfl rfl (rv_load_cell rfl (fun w4 hs4 => hcu w4 (hs4.below rfl))) rfl rfl ?_
                  refine wk_val rfl rfl (rv_len rfl) rfl rfl ?_
                  refine wk_val rfl rfl (rv_fieldAddr rfl) rfl rfl ?_
                  refine wk_val rfl rfl (rv_load_own (v := .slice (some ⟨g1, o1, none⟩) b.rules.length y.rc) rfl (by rw [← hpb]; rfl)) rfl rfl ?_
                  refine wk_val rfl rfl (rv_move rfl) rfl rfl ?_
                  refine wk_val rfl rfl (rv_indexAddr rfl rfl (by omega)) rfl rfl ?_
                  refine wk_val rfl rfl (rv_load_cell rfl (fun w4 hs4 => hcv w4 (hs4.below rfl))) rfl rfl ?_
                  refine wk_val rfl rfl (rv_len rfl) rfl rfl ?_
                  refine wk_val rfl rfl (rv_cmp_i rfl rfl rfl) rfl rfl ?_
                  refine wk_nil ?_
                  refine wq_then ?_
                  refine wc_cond rfl (fun hc103 => ?_) (fun hc103 => ?_)
                  · simp only [decide_eq_true_eq, decide_eq_false_iff_not, Bool.not_eq_true', Bool.not_eq_false', bne_iff_ne, beq_iff_eq, bne_eq_false_iff_eq, beq_eq_false_iff_ne, Int.not_lt, Int.not_le] at hc103
                    have hne : r ≠ s := fun e => by rw [e] at hc103; exact hc103 rfl
                    refine wc_seq ?_
                    refine wc_region ?_
                    refine wl_go rfl (wo_val rfl (rv_assign rfl) rfl rfl ?_)
                    refine wl_nil ?_
                    refine wq_then ?_
                    refine wc_ret ?_
                    refine wq_then_ret ?_
                    refine wq_in_ret ?_
                    refine wq_then_ret ?_
                    refine wq_then_ret ?_
                    refine wq_in_ret ?_
                    refine wq_then_ret ?_
                    refine wq_ret1 rfl rfl (rr_tmp rfl) (fun w9 hs9 => ?_)
                    rw [decide_eq_false (fun h => at_ne hr hs hne (by rw [h]))]
                    exact ⟨rfl, hs9.below rfl⟩
                  · simp only [decide_eq_true_eq, decide_eq_false_iff_not, Bool.not_eq_true', Bool.not_eq_false', bne_iff_ne, beq_iff_eq, bne_eq_false_iff_eq, beq_eq_false_iff_ne, Int.not_lt, Int.not_le] at hc103
                    have hle : r.length = s.length := by omega
                    refine wc_skip ?_
                    refine wq_then ?_
                    refine wc_seq ?_
                    refine wc_region ?_
                    refine wl_go rfl (wo_val rfl (rv_assign rfl) rfl rfl ?_)
                    refine wl_nil ?_
                    refine wq_then ?_
                    refine wc_block ?_
                    refine wc_loop (fun m l S => ∃ j : Nat, j ≤ r.length ∧ r.take j = s.take j ∧ m = r.length - j ∧ l = [(2, .pointer (some ⟨b2, 0, none⟩)), (3, .pointer (some ⟨b3, 0, none⟩)), (7, iv (k : Int)), (8, iv (j : Int))] ∧ S = ⟨w, G0, w, [⟨b3, .cells (gC y b).toArray 60 (0, 0)⟩, ⟨b2, .cells (gC x a).toArray 60 (0, 0)⟩]⟩) ⟨_, _, ⟨0, Nat.zero_le _, rfl, rfl, rfl, rfl⟩, by repeat (first | exact sub_nil | refine sub_cons rfl ?_)⟩ ?_
                    intro m l S hJ
                    obtain ⟨j, hj, hjj, rfl, rfl, rfl⟩ := hJ
                    refine wc_seq ?_
                    refine wc_seq ?_
                    refine wc_region ?_
                    refine wl_go rfl (wo_val rfl (rv_move rfl) rfl rfl ?_)
                    refine wl_go rfl (wo_val rfl (rv_fieldAddr rfl) rfl rfl ?_)
                    refine wl_go rfl (wo_val rfl (rv_load_own (v := .slice (some ⟨g0, o0, none⟩) a.rules.length x.rc) rfl (by rw [← hpa]; rfl)) rfl rfl ?_)
                    refine wl_go rfl (wo_val rfl (rv_move rfl) rfl rfl ?_)
                    refine wl_go rfl (wo_val rfl (rv_indexAddr rfl rfl (by omega)) rfl rfl ?_)
                    refine wl_go rfl (wo_val rfl (rv_load_cell rfl (fun w4 hs4 => hcu w4 (hs4.below rfl))) rfl rfl ?_)
                    refine wl_go rfl (wo_val rfl (rv_len rfl) rfl rfl ?_)
                    refine wl_go rfl (wo_val rfl (rv_cmp_i rfl rfl rfl) rfl rfl ?_)
                    refine wl_nil ?_
                    refine wq_then ?_
                    refine wc_cond rfl (fun hc111 => ?_) (fun hc111 => ?_)
                    · simp only [decide_eq_true_eq, decide_eq_false_iff_not, Bool.not_eq_true', Bool.not_eq_false', bne_iff_ne, beq_iff_eq, bne_eq_false_iff_eq, beq_eq_false_iff_ne, Int.not_lt, Int.not_le] at hc111
                      obtain ⟨z, hz⟩ := getE (l := r) (i := j) (by omega)
                      obtain ⟨t, ht⟩ := getE (l := s) (i := j) (by omega)
                      obtain ⟨g2, o2, rfl, hcz⟩ := hru.read (map_get hz)
                      obtain ⟨g3, o3, rfl, hct⟩ := hrv.read (map_get ht)
                      refine wc_skip ?_
                      refine wq_then ?_
                      refine wc_seq ?_
                      refine wc_block ?_
                      refine wc_seq ?_
                      refine wc_region_quiet (by kernel_rfl) (by kernel_rfl) ?_
                      refine wk_val rfl rfl (rv_fieldAddr rfl) rfl rfl ?_
                      refine wk_val rfl rfl (rv_load_own (v := .slice (some ⟨g0, o0, none⟩) a.rules.length x.rc) rfl (by rw [← hpa]; rfl)) rfl rfl ?_
                      refine wk_val rfl rfl (rv_move rfl) rfl rfl ?_
                      refine wk_val rfl rfl (rv_indexAddr rfl rfl (by omega)) rfl rfl ?_
                      refine wk_val rfl rfl (rv_load_cell rfl (fun w4 hs4 => hcu w4 (hs4.below rfl))) rfl rfl ?_
                      refine wk_val rfl rfl (rv_move rfl) rfl rfl ?_
                      refine wk_val rfl rfl (rv_indexAddr rfl rfl (by omega)) rfl rfl ?_
                      refine wk_val rfl rfl (rv_load_cell rfl (fun w4 hs4 => hcz w4 (hs4.below rfl))) rfl rfl ?_
                      refine wk_val rfl rfl (rv_fieldAddr rfl) rfl rfl ?_
                      refine wk_val rfl rfl (rv_load_own (v := .slice (some ⟨g1, o1, none⟩) b.rules.length y.rc) rfl (by rw [← hpb]; rfl)) rfl rfl ?_
                      refine wk_val rfl rfl (rv_move rfl) rfl rfl ?_
                      refine wk_val rfl rfl (rv_indexAddr rfl rfl (by omega)) rfl rfl ?_
                      refine wk_val rfl rfl (rv_load_cell rfl (fun w4 hs4 => hcv w4 (hs4.below rfl))) rfl rfl ?_
                      refine wk_val rfl rfl (rv_move rfl) rfl rfl ?_
                      refine wk_val rfl rfl (rv_indexAddr rfl rfl (by omega)) rfl rfl ?_
                      refine wk_val rfl rfl (rv_load_cell rfl (fun w4 hs4 => hct w4 (hs4.below rfl))) rfl rfl ?_
                      refine wk_val rfl rfl (rv_cmp_i rfl rfl rfl) rfl rfl ?_
                      refine wk_nil ?_
                      refine wq_then ?_
                      refine wc_cond rfl (fun hc130 => ?_) (fun hc130 => ?_)
                      · simp only [decide_eq_true_eq, decide_eq_false_iff_not, Bool.not_eq_true', Bool.not_eq_false', bne_iff_ne, beq_iff_eq, bne_eq_false_iff_eq, beq_eq_false_iff_ne, Int.not_lt, Int.not_le] at hc130
                        have hne : r ≠ s := at_ne hz ht hc130
                        refine wc_seq ?_
                        refine wc_region ?_
                        refine wl_go rfl (wo_val rfl (rv_assign rfl) rfl rfl ?_)
                        refine wl_nil ?_
                        refine wq_then ?_
                        refine wc_ret ?_
                        refine wq_in_ret ?_
                        refine wq_then_ret ?_
                        refine wq_then_ret ?_
                        refine wq_in_ret ?_
                        refine wq_in_ret ?_
                        refine wq_then_ret ?_
                        refine wq_then_ret ?_
                        refine wq_in_ret ?_
                        refine wq_then_ret ?_
                        refine wq_ret1 rfl rfl (rr_tmp rfl) (fun w9 hs9 => ?_)
                        rw [decide_eq_false (fun h => at_ne hr hs hne (by rw [h]))]
                        exact ⟨rfl, hs9.below rfl⟩
                      · simp only [decide_eq_true_eq, decide_eq_false_iff_not, Bool.not_eq_true', Bool.not_eq_false', bne_iff_ne, beq_iff_eq, bne_eq_false_iff_eq, beq_eq_false_iff_ne, Int.not_lt, Int.not_le] at hc130
                        obtain rfl : z = t := hc130
                        refine wc_skip ?_
                        refine wq_in_normal ?_
                        refine wq_then ?_
                        refine wc_region ?_
                        refine wl_go rfl (wo_val rfl (rv_move rfl) rfl rfl ?_)
                        refine wl_go rfl (wo_val rfl (rv_add rfl rfl (by omega)) rfl rfl ?_)
                        refine wl_go rfl (wo_val rfl (rv_assign rfl) rfl rfl ?_)
                        refine wl_nil ?_
                        exact wq_round ⟨_, _, ⟨j + 1, by omega, take_eq hz ht hjj, rfl, rfl, rfl⟩, by omega, by repeat (first | exact sub_nil | refine sub_cons rfl ?_)⟩
                    · simp only [decide_eq_true_eq, decide_eq_false_iff_not, Bool.not_eq_true', Bool.not_eq_false', bne_iff_ne, beq_iff_eq, bne_eq_false_iff_eq, beq_eq_false_iff_ne, Int.not_lt, Int.not_le] at hc111
                      obtain rfl : j = r.length := by omega
                      obtain rfl : r = s := by rw [List.take_length] at hjj; rw [hjj, hle, List.take_length]
                      refine wc_exit ?_
                      refine wq_then_exit ?_
                      refine wq_then_exit ?_
                      refine wq_in_here ?_
                      refine wq_in_normal ?_
                      refine wq_then ?_
                      refine wc_region ?_
                      refine wl_go rfl (wo_val rfl (rv_move rfl) rfl rfl ?_)
                      refine wl_go rfl (wo_val rfl (rv_add rfl rfl (by omega)) rfl rfl ?_)
                      refine wl_go rfl (wo_val rfl (rv_assign rfl) rfl rfl ?_)
                      refine wl_nil ?_
                      exact wq_round ⟨_, _, ⟨k + 1, by omega, take_eq hr hs hkk, rfl, rfl, rfl⟩, by omega, by repeat (first | exact sub_nil | refine sub_cons rfl ?_)⟩
                · simp only [decide_eq_true_eq, decide_eq_false_iff_not, Bool.not_eq_true', Bool.not_eq_false', bne_iff_ne, beq_iff_eq, bne_eq_false_iff_eq, beq_eq_false_iff_ne, Int.not_lt, Int.not_le] at hc88
                  obtain rfl : k = a.rules.length := by omega
                  have erules : a.rules = b.rules := by rw [List.take_length] at hkk; rw [hkk, show a.rules.length = b.rules.length by omega, List.take_length]
                  refine wc_exit ?_
                  refine wq_then_exit ?_
                  refine wq_then_exit ?_
                  refine wq_in_here ?_
                  refine wq_then ?_
                  refine wc_seq ?_
                  refine wc_region ?_
                  refine wl_go rfl (wo_val rfl (rv_assign rfl) rfl rfl ?_)
                  refine wl_nil ?_
                  refine wq_then ?_
                  refine wc_ret ?_
                  refine wq_ret1 rfl rfl (rr_tmp rfl) (fun w9 hs9 => ?_)
                  rw [decide_eq_true ((Gr.eq_iff a b).1 ⟨enames, q2, etokens, erules, q3⟩)]
                  exact ⟨rfl, hs9.below rfl⟩
end Go.Proofs.Ytlppkbfkajionaa.Cm
