/- The walks of grammars: the laws CleanTells, CleanTwice. -/
import Derived.Test.YtlppkbfkajionaaCmC1
namespace Go.Proofs.Ytlppkbfkajionaa.Cm
open Go Go.RowKit Gw Go.Shelf
set_option linter.unusedSimpArgs false
set_option linter.unusedVariables false
set_option linter.unusedSectionVars false
theorem check_ok (x : GS) (g : Gr) (h : Ok g) (w : World) (hg : Gm w x g) : Calls Try.prog 39 #[.agg (gC x g).toArray] w fun e w' => e = .returned (iv 0) ∧ Below w.heap.size w w' := by
  have h2 := check_calls x g w hg
  rw [show okE g = 0 by unfold okE; rw [if_pos ((okB_iff g).2 h)]] at h2
  exact h2
theorem is_t (x : GS) (g : Gr) (h : isB g = true) (w : World) (hg : Gm w x g) : Calls Try.prog 42 #[.agg (gC x g).toArray] w fun e w' => e = .returned (.bool true) ∧ Below w.heap.size w w' := by
  have h2 := is_calls x g w hg
  rw [h] at h2
  exact h2
set_option maxHeartbeats 4000000
theorem lawTells_calls (code : Bs) (x : GS) (g : Gr) (hsh : Short g) (w : World) (hg : Gm w x g) : Calls Try.prog 7 #[sv code, .agg (gC x g).toArray] w fun e w' => e = .returned (.bool true) ∧ Below w.heap.size w w' := by
  refine calls_start Try.func7 rfl (N := 31) rfl rfl _ (St.start _) rfl ?_
  refine wc_seq ?_
  refine wc_region ?_
  refine wl_go rfl (wo_box rfl rfl rfl rfl rfl (fun b3 hb3 => ?_))
  refine wl_go rfl (wo_val rfl (rv_assign rfl) rfl rfl ?_)
  refine wl_nil ?_
  refine wq_then ?_
  refine wc_seq ?_
  refine wc_region ?_
  refine wl_go rfl (wo_call (R := fun _ v _ => v = _) rfl rfl (enters_of Try.func33 (by kernel_rfl) rfl) rfl rfl rfl (fun w4 hs4 => (awake_calls _).mono fun e w' h => ⟨_, h.1, rfl, h.2⟩) (fun w2w vw w3w hs2w hvw hb2w hm2w => ?_))
  subst hvw
  refine wl_go rfl (wo_val rfl (rv_assign rfl) rfl rfl ?_)
  refine wl_nil ?_
  refine wq_then ?_
  refine wc_seq ?_
  refine wc_seq ?_
  refine wc_region ?_
  refine wl_go rfl (wo_val rfl (rv_move rfl) rfl rfl ?_)
  refine wl_go rfl (wo_val rfl (rv_not rfl) rfl rfl ?_)
  refine wl_nil ?_
  refine wq_then ?_
  refine wc_cond_f rfl rfl ?_
  refine wc_skip ?_
  refine wq_then ?_
  refine wc_seq ?_
  refine wc_seq ?_
  refine wc_region ?_
  refine wl_go rfl (wo_val rfl (rv_move rfl) rfl rfl ?_)
  refine wl_go rfl (wo_val rfl (rv_len_s rfl) rfl rfl ?_)
  refine wl_go rfl (wo_val rfl (rv_cmp_i rfl rfl rfl) rfl rfl ?_)
  refine wl_go rfl (wo_val rfl (rv_move rfl) rfl rfl ?_)
  refine wl_split (d := 12) rfl true (fun hg4_3 => ?_) (fun hg4_3 => ?_)
  · skip
    refine wl_skip rfl rfl rfl rfl rfl hg4_3 rfl ?_
    refine wl_skip rfl rfl rfl rfl rfl hg4_3 rfl ?_
    refine wl_skip rfl rfl rfl rfl rfl hg4_3 rfl ?_
    refine wl_skip rfl rfl rfl rfl rfl hg4_3 rfl ?_
    refine wl_go rfl (wo_val rfl (rv_pick_t rfl hg4_3 rfl) rfl rfl ?_)
    refine wl_go rfl (wo_val rfl (rv_move rfl) rfl rfl ?_)
    refine wl_skip rfl rfl rfl rfl rfl rfl rfl ?_
    refine wl_skip rfl rfl rfl rfl rfl rfl rfl ?_
    refine wl_skip rfl rfl rfl rfl rfl rfl rfl ?_
    refine wl_skip rfl rfl rfl rfl rfl rfl rfl ?_
    refine wl_go rfl (wo_val rfl (rv_pick_t rfl rfl rfl) rfl rfl ?_)
    refine wl_nil ?_
    refine wq_then ?_
    refine wc_cond_t rfl rfl ?_
    refine wc_seq ?_
    refine wc_region ?_
    refine wl_go rfl (wo_val rfl (rv_assign rfl) rfl rfl ?_)
    refine wl_nil ?_
    refine wq_then ?_
    refine wc_ret ?_
    refine wq_then_ret ?_
    refine wq_ret1 rfl rfl (rr_tmp rfl) (fun w9 hs9 => ?_)
    exact ⟨rfl, hs9.below rfl⟩
  · skip
    refine wl_want rfl rfl rfl rfl rfl hg4_3 (wo_val rfl (rv_fieldAddr0 rfl) rfl rfl ?_)
    refine wl_want rfl rfl rfl rfl rfl hg4_3 (wo_val rfl (rv_load_own rfl rfl) rfl rfl ?_)
    refine wl_want rfl rfl rfl rfl rfl hg4_3 (wo_val rfl (rv_len rfl) rfl rfl ?_)
    refine wl_want rfl rfl rfl rfl rfl hg4_3 (wo_val rfl (rv_cmp_i rfl rfl rfl) rfl rfl ?_)
    refine wl_go rfl (wo_val rfl (rv_pick_f rfl hg4_3 rfl) rfl rfl ?_)
    refine wl_go rfl (wo_val rfl (rv_move rfl) rfl rfl ?_)
    refine wl_split (d := 18) rfl true (fun hg4_9 => ?_) (fun hg4_9 => ?_)
    · skip
      refine wl_skip rfl rfl rfl rfl rfl hg4_9 rfl ?_
      refine wl_skip rfl rfl rfl rfl rfl hg4_9 rfl ?_
      refine wl_skip rfl rfl rfl rfl rfl hg4_9 rfl ?_
      refine wl_skip rfl rfl rfl rfl rfl hg4_9 rfl ?_
      refine wl_go rfl (wo_val rfl (rv_pick_t rfl hg4_9 rfl) rfl rfl ?_)
      refine wl_nil ?_
      refine wq_then ?_
      refine wc_cond_t rfl rfl ?_
      refine wc_seq ?_
      refine wc_region ?_
      refine wl_go rfl (wo_val rfl (rv_assign rfl) rfl rfl ?_)
      refine wl_nil ?_
      refine wq_then ?_
      refine wc_ret ?_
      refine wq_then_ret ?_
      refine wq_ret1 rfl rfl (rr_tmp rfl) (fun w9 hs9 => ?_)
      exact ⟨rfl, hs9.below rfl⟩
    · skip
      refine wl_want rfl rfl rfl rfl rfl hg4_9 (wo_val rfl (rv_fieldAddr rfl) rfl rfl ?_)
      refine wl_want rfl rfl rfl rfl rfl hg4_9 (wo_val rfl (rv_load_own rfl rfl) rfl rfl ?_)
      refine wl_want rfl rfl rfl rfl rfl hg4_9 (wo_val rfl (rv_len rfl) rfl rfl ?_)
      refine wl_want rfl rfl rfl rfl rfl hg4_9 (wo_val rfl (rv_cmp_i rfl rfl rfl) rfl rfl ?_)
      refine wl_go rfl (wo_val rfl (rv_pick_f rfl hg4_9 rfl) rfl rfl ?_)
      refine wl_nil ?_
      refine wq_then ?_
      refine wc_cond rfl (fun hc23 => ?_) (fun hc23 => ?_)
      · simp only [decide_eq_true_eq, decide_eq_false_iff_not, Bool.not_eq_true', Bool.not_eq_false', bne_iff_ne, beq_iff_eq, bne_eq_false_iff_eq, beq_eq_false_iff_ne, Int.not_lt, Int.not_le] at hc23
        refine wc_seq ?_
        refine wc_region ?_
        refine wl_go rfl (wo_val rfl (rv_assign rfl) rfl rfl ?_)
        refine wl_nil ?_
        refine wq_then ?_
        refine wc_ret ?_
        refine wq_then_ret ?_
        refine wq_ret1 rfl rfl (rr_tmp rfl) (fun w9 hs9 => ?_)
        exact ⟨rfl, hs9.below rfl⟩
      · simp only [decide_eq_true_eq, decide_eq_false_iff_not, Bool.not_eq_true', Bool.not_eq_false', bne_iff_ne, beq_iff_eq, bne_eq_false_iff_eq, beq_eq_false_iff_ne, Int.not_lt, Int.not_le] at hc23
        refine wc_skip ?_
        refine wq_then ?_
        refine wc_seq ?_
        refine wc_region ?_
        refine wl_go rfl (wo_val rfl (rv_move rfl) rfl rfl ?_)
        refine wl_go rfl (wo_call (R := fun w2 v w3 => ∃ x1 g1, v = .agg (gC x1 g1).toArray ∧ Gm w3 x1 g1 ∧ Ok g1 ∧ Short g1) rfl rfl (enters_of Try.func35 (by kernel_rfl) rfl) rfl rfl rfl (fun w4 hs4 => (gmade_calls code (by have h1 := of_decide_eq_false hg4_3; rw [toB_size] at h1; omega) w4).mono fun e w' h => let ⟨x1, g1, h1, h2, h3, h4, h5, h6, h7⟩ := h; ⟨_, h1, ⟨x1, g1, rfl, h2, h3, h4⟩, h7⟩) (fun w2m vm w3m hs2m hvm hb2m hm2m => ?_))
        obtain ⟨xm, gm, rfl, hGm, hok, hshm⟩ := hvm
        have h3m := (hs2m.more hb2m).name
        refine wl_go rfl (wo_call (R := fun _ v _ => v = _) rfl rfl (enters_of Try.func34 (by kernel_rfl) rfl) rfl rfl rfl (fun w4 hs4 => (tells_calls xm gm hshm w4 (hGm.kp ((Kp.refl w3m).go (pre := []) h3m hs4 (fun _ h => by cases h)))).mono fun e w' h => ⟨_, h.1, rfl, h.2⟩) (fun w2a va w3a hs2a hva hb2a hm2a => ?_))
        subst hva
        refine wl_go rfl (wo_val rfl (rv_move rfl) rfl rfl ?_)
        refine wl_want rfl rfl rfl rfl rfl rfl (wo_val rfl (rv_load_own_row rfl) rfl rfl ?_)
        refine wl_want rfl rfl rfl rfl rfl rfl (wo_call (R := fun _ v _ => v = _) rfl rfl (enters_of Try.func34 (by kernel_rfl) rfl) rfl rfl rfl (fun w4 hs4 => (tells_calls x g hsh w4 (hg.below (hs4.below rfl))).mono fun e w' h => ⟨_, h.1, rfl, h.2⟩) (fun w2b vb w3b hs2b hvb hb2b hm2b => ?_))
        subst hvb
        refine wl_go rfl (wo_val rfl (rv_pick_t rfl rfl rfl) rfl rfl ?_)
        refine wl_go rfl (wo_val rfl (rv_assign rfl) rfl rfl ?_)
        refine wl_nil ?_
        refine wq_then ?_
        refine wc_ret ?_
        refine wq_ret1 rfl rfl (rr_tmp rfl) (fun w9 hs9 => ?_)
        exact ⟨rfl, hs9.below rfl⟩
theorem lawTwice_calls (code : Bs) (w : World) : Calls Try.prog 8 #[sv code] w fun e w' => e = .returned (.bool true) ∧ Below w.heap.size w w' := by
  refine calls_start Try.func8 rfl (N := 96) rfl rfl _ (St.start _) rfl ?_
  refine wc_seq ?_
  refine wc_region ?_
  refine wl_go rfl (wo_val rfl (rv_assign rfl) rfl rfl ?_)
  refine wl_nil ?_
  refine wq_then ?_
  refine wc_seq ?_
  refine wc_region ?_
  refine wl_go rfl (wo_call (R := fun _ v _ => v = _) rfl rfl (enters_of Try.func33 (by kernel_rfl) rfl) rfl rfl rfl (fun w4 hs4 => (awake_calls _).mono fun e w' h => ⟨_, h.1, rfl, h.2⟩) (fun w2w vw w3w hs2w hvw hb2w hm2w => ?_))
  subst hvw
  refine wl_go rfl (wo_val rfl (rv_assign rfl) rfl rfl ?_)
  refine wl_nil ?_
  refine wq_then ?_
  refine wc_seq ?_
  refine wc_seq ?_
  refine wc_region ?_
  refine wl_go rfl (wo_val rfl (rv_move rfl) rfl rfl ?_)
  refine wl_go rfl (wo_val rfl (rv_not rfl) rfl rfl ?_)
  refine wl_nil ?_
  refine wq_then ?_
  refine wc_cond_f rfl rfl ?_
  refine wc_skip ?_
  refine wq_then ?_
  refine wc_seq ?_
  refine wc_seq ?_
  refine wc_region ?_
  refine wl_go rfl (wo_val rfl (rv_move rfl) rfl rfl ?_)
  refine wl_go rfl (wo_val rfl (rv_len_s rfl) rfl rfl ?_)
  refine wl_go rfl (wo_val rfl (rv_cmp_i rfl rfl rfl) rfl rfl ?_)
  refine wl_nil ?_
  refine wq_then ?_
  refine wc_cond rfl (fun hc20 => ?_) (fun hc20 => ?_)
  · simp only [decide_eq_true_eq, decide_eq_false_iff_not, Bool.not_eq_true', Bool.not_eq_false', bne_iff_ne, beq_iff_eq, bne_eq_false_iff_eq, beq_eq_false_iff_ne, Int.not_lt, Int.not_le] at hc20
    refine wc_seq ?_
    refine wc_region ?_
    refine wl_go rfl (wo_val rfl (rv_assign rfl) rfl rfl ?_)
    refine wl_nil ?_
    refine wq_then ?_
    refine wc_ret ?_
    refine wq_then_ret ?_
    refine wq_ret1 rfl rfl (rr_tmp rfl) (fun w9 hs9 => ?_)
    exact ⟨rfl, hs9.below rfl⟩
  · simp only [decide_eq_true_eq, decide_eq_false_iff_not, Bool.not_eq_true', Bool.not_eq_false', bne_iff_ne, beq_iff_eq, bne_eq_false_iff_eq, beq_eq_false_iff_ne, Int.not_lt, Int.not_le] at hc20
    have hlen : code.length ≤ 60 := by rw [toB_size] at hc20; omega
    refine wc_skip ?_
    refine wq_then ?_
    refine wc_seq ?_
    refine wc_region ?_
    refine wl_go rfl (wo_val rfl (rv_move rfl) rfl rfl ?_)
    refine wl_go rfl (wo_call (R := fun w2 v w3 => ∃ x1 g1, v = .agg (gC x1 g1).toArray ∧ Gm w3 x1 g1 ∧ Ok g1 ∧ Short g1) rfl rfl (enters_of Try.func35 (by kernel_rfl) rfl) rfl rfl rfl (fun w4 hs4 => (gmade_calls code hlen w4).mono fun e w' h => let ⟨x1, g1, h1, h2, h3, h4, h5, h6, h7⟩ := h; ⟨_, h1, ⟨x1, g1, rfl, h2, h3, h4⟩, h7⟩) (fun w2m vm w3m hs2m hvm hb2m hm2m => ?_))
    obtain ⟨xm, gm, rfl, hGm, hok, hshm⟩ := hvm
    have h3m := (hs2m.more hb2m).name
    have htw := twice hok
    obtain ⟨h1t, hoko, h2t, h3t⟩ := htw
    refine wl_go rfl (wo_alloc rfl rfl rfl (fun b4 hb4 => ?_))
    refine wl_go rfl (wo_st rfl rfl rfl rfl rfl rfl rfl ?_)
    refine wl_nil ?_
    refine wq_then ?_
    refine wc_seq ?_
    refine wc_region ?_
    refine wl_go rfl (wo_val rfl (rv_load_own_row rfl) rfl rfl ?_)
    refine wl_go rfl (wo_call (R := fun w2 v w3 => ∃ x1 v1, v = .tuple #[.agg (gC x1 (onceG gm)).toArray, v1] ∧ Gm w3 x1 (onceG gm)) rfl rfl (enters_of Try.func36 (by kernel_rfl) rfl) rfl rfl rfl (fun w4 hs4 => (once_calls xm gm w4 (hGm.kp ((Kp.refl w3m).go (pre := [_]) h3m hs4 (by intro y hy; simp only [List.mem_cons, List.not_mem_nil, or_false] at hy; rcases hy with rfl; exact hb4)))).mono fun e w' h => let ⟨x1, v1, h1, h2, h3, h4⟩ := h; ⟨_, h1, ⟨x1, v1, rfl, h2⟩, h4⟩) (fun w2o vo w3o hs2o hvo hb2o hm2o => ?_))
    obtain ⟨xo, vo1, rfl, hGo⟩ := hvo
    have h3o := (hs2o.more hb2o).name
    have hKo := ((Kp.refl w3m).go (pre := [_]) h3m hs2o (by intro y hy; simp only [List.mem_cons, List.not_mem_nil, or_false] at hy; rcases hy with rfl; exact hb4)).below hb2o
    replace hGm := hGm.kp hKo
    refine wl_go rfl (wo_val rfl (rv_move rfl) rfl rfl ?_)
    refine wl_go rfl (wo_val rfl (rv_extract rfl rfl) rfl rfl ?_)
    refine wl_go rfl (wo_val rfl (rv_extract rfl rfl) rfl rfl ?_)
    refine wl_go rfl (wo_alloc rfl rfl rfl (fun b5 hb5 => ?_))
    refine wl_go rfl (wo_st rfl rfl rfl rfl rfl rfl rfl ?_)
    refine wl_go rfl (wo_val rfl (rv_assign rfl) rfl rfl ?_)
    refine wl_nil ?_
    refine wq_then ?_
    refine wc_seq ?_
    refine wc_region ?_
    refine wl_go rfl (wo_val rfl (rv_load_own_row rfl) rfl rfl ?_)
    refine wl_go rfl (wo_call (R := fun w2 v w3 => ∃ x1 v1, v = .tuple #[.agg (gC x1 (onceG (onceG gm))).toArray, v1] ∧ Gm w3 x1 (onceG (onceG gm))) rfl rfl (enters_of Try.func36 (by kernel_rfl) rfl) rfl rfl rfl (fun w4 hs4 => (once_calls xo (onceG gm) w4 (hGo.kp ((Kp.refl w3o).go (pre := [_]) h3o hs4 (by intro y hy; simp only [List.mem_cons, List.not_mem_nil, or_false] at hy; rcases hy with rfl; exact hb5)))).mono fun e w' h => let ⟨x1, v1, h1, h2, h3, h4⟩ := h; ⟨_, h1, ⟨x1, v1, rfl, h2⟩, h4⟩) (fun w2p vp w3p hs2p hvp hb2p hm2p => ?_))
    rw [h1t] at hvp
    obtain ⟨xp, vp1, rfl, hGp⟩ := hvp
    have h3p := (hs2p.more hb2p).name
    have hKp := ((Kp.refl w3o).go (pre := [_]) h3o hs2p (by intro y hy; simp only [List.mem_cons, List.not_mem_nil, or_false] at hy; rcases hy with rfl; exact hb5)).below hb2p
    replace hGm := hGm.kp hKp
    replace hGo := hGo.kp hKp
    refine wl_go rfl (wo_val rfl (rv_move rfl) rfl rfl ?_)
    refine wl_go rfl (wo_val rfl (rv_extract rfl rfl) rfl rfl ?_)
    refine wl_go rfl (wo_val rfl (rv_extract rfl rfl) rfl rfl ?_)
    refine wl_go rfl (wo_alloc rfl rfl rfl (fun b7 hb7 => ?_))
    refine wl_go rfl (wo_st rfl rfl rfl rfl rfl rfl rfl ?_)
    refine wl_go rfl (wo_val rfl (rv_assign rfl) rfl rfl ?_)
    refine wl_nil ?_
    refine wq_then ?_
    refine wc_seq ?_
    refine wc_seq ?_
    refine wc_region_quiet (by kernel_rfl) (by kernel_rfl) ?_
    refine wk_val rfl rfl (rv_load_own_row rfl) rfl rfl ?_
    refine wk_call rfl rfl rfl (enters_of Try.func38 (by kernel_rfl) rfl) rfl rfl rfl (fun w hs => plain_calls xo (onceG gm) w) ?_
    refine wk_val rfl rfl (rv_load_own_row rfl) rfl rfl ?_
    refine wk_call rfl rfl rfl (enters_of Try.func38 (by kernel_rfl) rfl) rfl rfl rfl (fun w hs => plain_calls xp (onceG gm) w) ?_
    refine wk_call rfl rfl rfl (enters_of Try.func37 (by kernel_rfl) rfl) rfl rfl rfl (fun w hs => gsame_t xo xp (onceG gm) w (hGo.kp ((Kp.refl w3p).go (pre := [_]) h3p hs (by intro y hy; simp only [List.mem_cons, List.not_mem_nil, or_false] at hy; rcases hy with rfl; exact hb7))) (hGp.kp ((Kp.refl w3p).go (pre := [_]) h3p hs (by intro y hy; simp only [List.mem_cons, List.not_mem_nil, or_false] at hy; rcases hy with rfl; exact hb7)))) ?_
    refine wk_val rfl rfl (rv_not rfl) rfl rfl ?_
    refine wk_val rfl rfl (rv_move rfl) rfl rfl ?_
    refine wk_want rfl rfl rfl rfl rfl rfl rfl (rv_load_own_row rfl) rfl rfl ?_
    refine wk_call_want rfl rfl rfl rfl rfl rfl rfl rfl (enters_of Try.func39 (by kernel_rfl) rfl) rfl rfl rfl (fun w hs => check_ok xo (onceG gm) hoko w (hGo.kp ((Kp.refl w3p).go (pre := [_]) h3p hs (by intro y hy; simp only [List.mem_cons, List.not_mem_nil, or_false] at hy; rcases hy with rfl; exact hb7)))) ?_
    refine wk_want rfl rfl rfl rfl rfl rfl rfl (rv_cmp_i rfl rfl rfl) rfl rfl ?_
    refine wk_val rfl rfl (rv_pick_f rfl rfl rfl) rfl rfl ?_
    refine wk_nil ?_
    refine wq_then ?_
    refine wc_cond_f rfl rfl ?_
    refine wc_skip ?_
    refine wq_then ?_
    refine wc_seq ?_
    refine wc_region ?_
    refine wl_go rfl (wo_val rfl (rv_load_own_row rfl) rfl rfl ?_)
    refine wl_go rfl (wo_call (R := fun w2 v w3 => ∃ x1 v1, v = .tuple #[.agg (gC x1 (usefulG (onceG gm))).toArray, v1, iv (usefulE (onceG gm))] ∧ Gm w3 x1 (usefulG (onceG gm))) rfl rfl (enters_of Try.func40 (by kernel_rfl) rfl) rfl rfl rfl (fun w4 hs4 => (useful_calls xo (onceG gm) w4 (hGo.kp ((Kp.refl w3p).go (pre := [_]) h3p hs4 (by intro y hy; simp only [List.mem_cons, List.not_mem_nil, or_false] at hy; rcases hy with rfl; exact hb7)))).mono fun e w' h => let ⟨x1, v1, h1, h2, h3, h4⟩ := h; ⟨_, h1, ⟨x1, v1, rfl, h2⟩, h4⟩) (fun w2u vu w3u hs2u hvu hb2u hm2u => ?_))
    obtain ⟨xu, vu1, rfl, hGu⟩ := hvu
    have h3u := (hs2u.more hb2u).name
    have hKu := ((Kp.refl w3p).go (pre := [_]) h3p hs2u (by intro y hy; simp only [List.mem_cons, List.not_mem_nil, or_false] at hy; rcases hy with rfl; exact hb7)).below hb2u
    replace hGm := hGm.kp hKu
    refine wl_go rfl (wo_val rfl (rv_move rfl) rfl rfl ?_)
    refine wl_go rfl (wo_val rfl (rv_extract rfl rfl) rfl rfl ?_)
    refine wl_go rfl (wo_val rfl (rv_extract rfl rfl) rfl rfl ?_)
    refine wl_go rfl (wo_val rfl (rv_extract rfl rfl) rfl rfl ?_)
    refine wl_go rfl (wo_alloc rfl rfl rfl (fun b9 hb9 => ?_))
    refine wl_go rfl (wo_st rfl rfl rfl rfl rfl rfl rfl ?_)
    refine wl_go rfl (wo_val rfl (rv_assign rfl) rfl rfl ?_)
    refine wl_go rfl (wo_val rfl (rv_assign rfl) rfl rfl ?_)
    refine wl_nil ?_
    refine wq_then ?_
    refine wc_seq ?_
    refine wc_seq ?_
    refine wc_region ?_
    refine wl_go rfl (wo_val rfl (rv_move rfl) rfl rfl ?_)
    refine wl_go rfl (wo_val rfl (rv_cmp_i rfl rfl rfl) rfl rfl ?_)
    refine wl_nil ?_
    refine wq_then ?_
    refine wc_cond rfl (fun hc51 => ?_) (fun hc51 => ?_)
    · simp only [decide_eq_true_eq, decide_eq_false_iff_not, Bool.not_eq_true', Bool.not_eq_false', bne_iff_ne, beq_iff_eq, bne_eq_false_iff_eq, beq_eq_false_iff_ne, Int.not_lt, Int.not_le] at hc51
      obtain ⟨h152, h2f⟩ := h2t.resolve_left hc51
      refine wc_seq ?_
      refine wc_region_stage (by kernel_rfl) (by kernel_rfl) ?_
      refine ws_q (i := 0) rfl (by kernel_rfl) (rq_val rfl rfl rfl (rv_move rfl)) rfl rfl ?_
      refine ws_q (i := 1) rfl (by kernel_rfl) (rq_val rfl rfl rfl (rv_cmp_i rfl rfl rfl)) rfl rfl ?_
      refine ws_q (i := 2) rfl (by kernel_rfl) (rq_val rfl rfl rfl (rv_move rfl)) rfl rfl ?_
      refine ws_q (i := 3) rfl (by kernel_rfl) (rq_want rfl rfl rfl rfl rfl rfl (decide_eq_true h152) rfl (rv_load_own_row rfl)) rfl rfl ?_
      refine ws_q (i := 5) rfl (by kernel_rfl) (rq_want rfl rfl rfl rfl rfl rfl (decide_eq_true h152) rfl (rv_fieldAddr rfl)) rfl rfl ?_
      refine ws_q (i := 6) rfl (by kernel_rfl) (rq_want rfl rfl rfl rfl rfl rfl (decide_eq_true h152) rfl (rv_load_own rfl rfl)) rfl rfl ?_
      refine ws_w_want 4 rfl (by kernel_rfl) (by kernel_rfl) rfl rfl rfl rfl rfl (decide_eq_true h152) (wo_call (R := fun w2 v w3 => ∃ p c, v = .slice p (markF gm true).length c ∧ Rv w3 p c ((markF gm true).map bv)) rfl rfl (enters_of Try.func41 (by kernel_rfl) rfl) rfl rfl rfl (fun w4 hs4 => (productive_calls xm gm w4 (hGm.kp ((Kp.refl w3u).go (pre := [_]) h3u hs4 (by intro y hy; simp only [List.mem_cons, List.not_mem_nil, or_false] at hy; rcases hy with rfl; exact hb9)))).mono fun e w' h => let ⟨p, c, h1, h2, _, h4⟩ := h; ⟨_, h1, ⟨p, c, rfl, h2⟩, h4⟩) (fun w2q vq w3q hs2q hvq hb2q hm2q => ?_))
      obtain ⟨pq, cq, rfl, hrq⟩ := hvq
      have h3q := (hs2q.more hb2q).name
      have hlq := markF_len ((okB_iff gm).2 hok) true
      have hsq := hok.start
      obtain ⟨gq, oq, rfl, _⟩ := hrq.at_ _ _ (map_get (f := bv) (bg_get (σ := markF gm true) (n := gm.start) (by omega)))
      refine wl_stage (pa_keep (rq_want rfl rfl rfl rfl rfl rfl (decide_eq_true h152) rfl (rv_load_own rfl rfl)) (pa_keep (rq_want rfl rfl rfl rfl rfl rfl (decide_eq_true h152) rfl (rv_fieldAddr rfl)) (pa_drop (by kernel_rfl) (pa_drop (by kernel_rfl) (pa_drop (by kernel_rfl) (pa_drop (by kernel_rfl) (pa_nil))))))) ?_
      refine ws_q (i := 7) rfl (by kernel_rfl) (rq_want rfl rfl rfl rfl rfl rfl (decide_eq_true h152) rfl (rv_indexAddr rfl rfl (by omega))) rfl rfl ?_
      refine ws_q (i := 8) rfl (by kernel_rfl) (rq_want rfl rfl rfl rfl rfl rfl (decide_eq_true h152) rfl (rv_load_cell (v := bv false) rfl (fun w4 hs4 => by obtain ⟨_, _, e, hc⟩ := (hrq.kp ((Kp.refl w3q).go (pre := []) h3q hs4 (fun _ h => by cases h))).at_ _ _ (map_get (f := bv) (bg_get (σ := markF gm true) (n := gm.start) (by omega))); cases e; rw [← h2f]; exact hc))) rfl rfl ?_
      refine ws_q (i := 9) rfl (by kernel_rfl) (rq_want rfl rfl rfl rfl rfl rfl (decide_eq_true h152) rfl (rv_not rfl)) rfl rfl ?_
      refine ws_q (i := 10) rfl (by kernel_rfl) (rq_val rfl rfl rfl (rv_pick_t rfl (decide_eq_true h152) rfl)) rfl rfl ?_
      refine ws_q (i := 11) rfl (by kernel_rfl) (rq_val rfl rfl rfl (rv_assign rfl)) rfl rfl ?_
      refine ws_nil (by kernel_rfl) ?_
      refine wq_then ?_
      refine wc_ret ?_
      refine wq_then_ret ?_
      refine wq_ret1 rfl rfl (rr_tmp rfl) (fun w9 hs9 => ?_)
      exact ⟨rfl, hs9.below rfl⟩
    · simp only [decide_eq_true_eq, decide_eq_false_iff_not, Bool.not_eq_true', Bool.not_eq_false', bne_iff_ne, beq_iff_eq, bne_eq_false_iff_eq, beq_eq_false_iff_ne, Int.not_lt, Int.not_le] at hc51
      obtain ⟨h4t, h5t, h6t, h7t, h8t⟩ := h3t hc51
      refine wc_skip ?_
      refine wq_then ?_
      refine wc_seq ?_
      refine wc_region ?_
      refine wl_go rfl (wo_val rfl (rv_load_own_row rfl) rfl rfl ?_)
      refine wl_go rfl (wo_call (R := fun w2 v w3 => ∃ x1 v1, v = .tuple #[.agg (gC x1 (usefulG (usefulG (onceG gm)))).toArray, v1, iv (usefulE (usefulG (onceG gm)))] ∧ Gm w3 x1 (usefulG (usefulG (onceG gm)))) rfl rfl (enters_of Try.func40 (by kernel_rfl) rfl) rfl rfl rfl (fun w4 hs4 => (useful_calls xu (usefulG (onceG gm)) w4 (hGu.kp ((Kp.refl w3u).go (pre := [_]) h3u hs4 (by intro y hy; simp only [List.mem_cons, List.not_mem_nil, or_false] at hy; rcases hy with rfl; exact hb9)))).mono fun e w' h => let ⟨x1, v1, h1, h2, h3, h4⟩ := h; ⟨_, h1, ⟨x1, v1, rfl, h2⟩, h4⟩) (fun w2h vh w3h hs2h hvh hb2h hm2h => ?_))
      rw [h6t, h5t] at hvh
      obtain ⟨xh, vh1, rfl, hGh⟩ := hvh
      have h3h := (hs2h.more hb2h).name
      have hKh := ((Kp.refl w3u).go (pre := [_]) h3u hs2h (by intro y hy; simp only [List.mem_cons, List.not_mem_nil, or_false] at hy; rcases hy with rfl; exact hb9)).below hb2h
      replace hGm := hGm.kp hKh
      replace hGu := hGu.kp hKh
      refine wl_go rfl (wo_val rfl (rv_move rfl) rfl rfl ?_)
      refine wl_go rfl (wo_val rfl (rv_extract rfl rfl) rfl rfl ?_)
      refine wl_go rfl (wo_val rfl (rv_extract rfl rfl) rfl rfl ?_)
      refine wl_go rfl (wo_val rfl (rv_extract rfl rfl) rfl rfl ?_)
      refine wl_go rfl (wo_alloc rfl rfl rfl (fun b12 hb12 => ?_))
      refine wl_go rfl (wo_st rfl rfl rfl rfl rfl rfl rfl ?_)
      refine wl_go rfl (wo_val rfl (rv_assign rfl) rfl rfl ?_)
      refine wl_go rfl (wo_val rfl (rv_assign rfl) rfl rfl ?_)
      refine wl_nil ?_
      refine wq_then ?_
      refine wc_seq ?_
      refine wc_region_quiet (by kernel_rfl) (by kernel_rfl) ?_
      refine wk_val rfl rfl (rv_move rfl) rfl rfl ?_
      refine wk_val rfl rfl (rv_cmp_i rfl rfl rfl) rfl rfl ?_
      refine wk_val rfl rfl (rv_move rfl) rfl rfl ?_
      refine wk_want rfl rfl rfl rfl rfl rfl rfl (rv_load_own_row rfl) rfl rfl ?_
      refine wk_call_want rfl rfl rfl rfl rfl rfl rfl rfl (enters_of Try.func38 (by kernel_rfl) rfl) rfl rfl rfl (fun w hs => plain_calls xu (usefulG (onceG gm)) w) ?_
      refine wk_want rfl rfl rfl rfl rfl rfl rfl (rv_load_own_row rfl) rfl rfl ?_
      refine wk_call_want rfl rfl rfl rfl rfl rfl rfl rfl (enters_of Try.func38 (by kernel_rfl) rfl) rfl rfl rfl (fun w hs => plain_calls xh (usefulG (onceG gm)) w) ?_
      refine wk_call_want rfl rfl rfl rfl rfl rfl rfl rfl (enters_of Try.func37 (by kernel_rfl) rfl) rfl rfl rfl (fun w hs => gsame_t xu xh (usefulG (onceG gm)) w (hGu.kp ((Kp.refl w3h).go (pre := [_]) h3h hs (by intro y hy; simp only [List.mem_cons, List.not_mem_nil, or_false] at hy; rcases hy with rfl; exact hb12))) (hGh.kp ((Kp.refl w3h).go (pre := [_]) h3h hs (by intro y hy; simp only [List.mem_cons, List.not_mem_nil, or_false] at hy; rcases hy with rfl; exact hb12)))) ?_
      refine wk_val rfl rfl (rv_pick_t rfl rfl rfl) rfl rfl ?_
      refine wk_val rfl rfl (rv_move rfl) rfl rfl ?_
      refine wk_want rfl rfl rfl rfl rfl rfl rfl (rv_load_own_row rfl) rfl rfl ?_
      refine wk_call_want rfl rfl rfl rfl rfl rfl rfl rfl (enters_of Try.func39 (by kernel_rfl) rfl) rfl rfl rfl (fun w hs => check_ok xu (usefulG (onceG gm)) h4t w (hGu.kp ((Kp.refl w3h).go (pre := [_]) h3h hs (by intro y hy; simp only [List.mem_cons, List.not_mem_nil, or_false] at hy; rcases hy with rfl; exact hb12)))) ?_
      refine wk_want rfl rfl rfl rfl rfl rfl rfl (rv_cmp_i rfl rfl rfl) rfl rfl ?_
      refine wk_val rfl rfl (rv_pick_t rfl rfl rfl) rfl rfl ?_
      refine wk_val rfl rfl (rv_move rfl) rfl rfl ?_
      refine wk_want rfl rfl rfl rfl rfl rfl rfl (rv_load_own_row rfl) rfl rfl ?_
      refine wk_call_want rfl rfl rfl rfl rfl rfl rfl rfl (enters_of Try.func42 (by kernel_rfl) rfl) rfl rfl rfl (fun w hs => is_t xu (usefulG (onceG gm)) h7t w (hGu.kp ((Kp.refl w3h).go (pre := [_]) h3h hs (by intro y hy; simp only [List.mem_cons, List.not_mem_nil, or_false] at hy; rcases hy with rfl; exact hb12)))) ?_
      refine wk_val rfl rfl (rv_pick_t rfl rfl rfl) rfl rfl ?_
      refine wk_val rfl rfl (rv_move rfl) rfl rfl ?_
      refine wk_want rfl rfl rfl rfl rfl rfl rfl (rv_fieldAddr rfl) rfl rfl ?_
      refine wk_want rfl rfl rfl rfl rfl rfl rfl (rv_load_own rfl rfl) rfl rfl ?_
      refine wk_want rfl rfl rfl rfl rfl rfl rfl (rv_len rfl) rfl rfl ?_
      refine wk_want rfl rfl rfl rfl rfl rfl rfl (rv_fieldAddr rfl) rfl rfl ?_
      refine wk_want rfl rfl rfl rfl rfl rfl rfl (rv_load_own rfl rfl) rfl rfl ?_
      refine wk_want rfl rfl rfl rfl rfl rfl rfl (rv_len rfl) rfl rfl ?_
      refine wk_want rfl rfl rfl rfl rfl rfl rfl (rv_cmp_i rfl rfl rfl) rfl rfl ?_
      refine wk_val rfl rfl (rv_pick_t rfl rfl rfl) rfl rfl ?_
      refine wk_val rfl rfl (rv_assign rfl) rfl rfl ?_
      refine wk_nil ?_
      refine wq_then ?_
      refine wc_ret ?_
      refine wq_ret1 rfl rfl (rr_tmp rfl) (fun w9 hs9 => ?_)
      exact ⟨by rw [decide_eq_true (by omega)], hs9.below rfl⟩
end Go.Proofs.Ytlppkbfkajionaa.Cm
