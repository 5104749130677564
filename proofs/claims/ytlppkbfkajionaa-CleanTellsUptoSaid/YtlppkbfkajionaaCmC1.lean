/- The walks of grammars: tells. -/
import Derived.Test.YtlppkbfkajionaaCmB1
import Derived.Test.YtlppkbfkajionaaCmU2
namespace Go.Proofs.Ytlppkbfkajionaa.Cm
open Go Go.RowKit Gw Go.Shelf
set_option linter.unusedSimpArgs false
set_option linter.unusedVariables false
set_option linter.unusedSectionVars false
set_option maxHeartbeats 4000000
theorem tells_calls (x : GS) (g : Gr) (hsh : Short g) (w : World) (hg : Gm w x g) : Calls Try.prog 34 #[.agg (gC x g).toArray] w fun e w' => e = .returned (.bool true) ∧ Below w.heap.size w w' := by
  refine calls_start Try.func34 rfl (N := 81) rfl rfl _ (St.start _) rfl ?_
  refine wc_seq ?_
  refine wc_region ?_
  refine wl_go rfl (wo_box rfl rfl rfl rfl rfl (fun b1 hb1 => ?_))
  refine wl_go rfl (wo_val rfl (rv_assign rfl) rfl rfl ?_)
  refine wl_nil ?_
  refine wq_then ?_
  refine wc_seq ?_
  refine wc_region ?_
  refine wl_go rfl (wo_val rfl (rv_load_own_row rfl) rfl rfl ?_)
  refine wl_go rfl (wo_call (R := fun _ v _ => v = _) rfl rfl (enters_of Try.func38 (by kernel_rfl) rfl) rfl rfl rfl (fun w4 hs4 => (plain_calls x g w4).mono fun e w' h => ⟨_, h.1, rfl, h.2⟩) (fun w2p vp w3p hs2p hvp hb2p hm2p => ?_))
  subst hvp
  refine wl_go rfl (wo_alloc rfl rfl rfl (fun b3 hb3 => ?_))
  refine wl_go rfl (wo_st rfl rfl rfl rfl rfl rfl rfl ?_)
  refine wl_nil ?_
  refine wq_then ?_
  refine wc_seq ?_
  refine wc_region ?_
  refine wl_go rfl (wo_val rfl (rv_load_own_row rfl) rfl rfl ?_)
  refine wl_go rfl (wo_call (R := fun w2 v w3 => ∃ x1 v1, v = .tuple #[.agg (gC x1 (usefulG g)).toArray, v1, iv (usefulE g)] ∧ Gm w3 x1 (usefulG g) ∧ w3.ownsRow w2.heap.size 3 1 v1 (usefulL g).length ((usefulL g).map iv)) rfl rfl (enters_of Try.func40 (by kernel_rfl) rfl) rfl rfl rfl (fun w4 hs4 => (useful_calls x g w4 (hg.below (hs4.below rfl))).mono fun e w' h => let ⟨x1, v1, h1, h2, h3, h4⟩ := h; ⟨_, h1, ⟨x1, v1, rfl, h2, h3⟩, h4⟩) (fun w2a va w3a hs2a hva hb2a hm2a => ?_))
  obtain ⟨xa, v1, rfl, hGa, hv1⟩ := hva
  obtain ⟨pa, ca, rfl, hra⟩ := rv_ofn hv1
  have h3a := (hs2a.more hb2a).name
  refine wl_go rfl (wo_val rfl (rv_move rfl) rfl rfl ?_)
  refine wl_go rfl (wo_val rfl (rv_extract rfl rfl) rfl rfl ?_)
  refine wl_go rfl (wo_val rfl (rv_extract rfl rfl) rfl rfl ?_)
  refine wl_go rfl (wo_val rfl (rv_extract rfl rfl) rfl rfl ?_)
  refine wl_go rfl (wo_alloc rfl rfl rfl (fun b4 hb4 => ?_))
  refine wl_go rfl (wo_st rfl rfl rfl rfl rfl rfl rfl ?_)
  refine wl_go rfl (wo_val rfl (rv_assign rfl) rfl rfl ?_)
  refine wl_go rfl (wo_val rfl (rv_assign rfl) rfl rfl ?_)
  refine wl_nil ?_
  refine wq_then ?_
  refine wc_seq ?_
  refine wc_region ?_
  refine wl_go rfl (wo_val rfl (rv_load_own_row rfl) rfl rfl ?_)
  refine wl_go rfl (wo_call (R := fun w2 v w3 => ∃ x1 v1, v = .tuple #[.agg (gC x1 (usefulG g)).toArray, v1, iv (usefulE g)] ∧ Gm w3 x1 (usefulG g) ∧ w3.ownsRow w2.heap.size 3 1 v1 (usefulL g).length ((usefulL g).map iv)) rfl rfl (enters_of Try.func90 (by kernel_rfl) rfl) rfl rfl rfl (fun w4 hs4 => (ruseful_calls x g w4 (hg.below (hs4.below rfl))).mono fun e w' h => let ⟨x1, v1, h1, h2, h3, h4⟩ := h; ⟨_, h1, ⟨x1, v1, rfl, h2, h3⟩, h4⟩) (fun w2b vb w3b hs2b hvb hb2b hm2b => ?_))
  obtain ⟨xb, v1, rfl, hGb, hv1⟩ := hvb
  obtain ⟨pb, cb, rfl, hrb⟩ := rv_ofn hv1
  have h3b := (hs2b.more hb2b).name
  have hKb := ((Kp.refl w3a).go (pre := [_]) h3a hs2b (by intro y hy; simp only [List.mem_cons, List.not_mem_nil, or_false] at hy; rcases hy with rfl; exact hb4)).below hb2b
  replace hGa := hGa.kp hKb
  replace hra := hra.kp hKb
  refine wl_go rfl (wo_val rfl (rv_move rfl) rfl rfl ?_)
  refine wl_go rfl (wo_val rfl (rv_extract rfl rfl) rfl rfl ?_)
  refine wl_go rfl (wo_val rfl (rv_extract rfl rfl) rfl rfl ?_)
  refine wl_go rfl (wo_val rfl (rv_extract rfl rfl) rfl rfl ?_)
  refine wl_go rfl (wo_alloc rfl rfl rfl (fun b7 hb7 => ?_))
  refine wl_go rfl (wo_st rfl rfl rfl rfl rfl rfl rfl ?_)
  refine wl_go rfl (wo_val rfl (rv_assign rfl) rfl rfl ?_)
  refine wl_go rfl (wo_val rfl (rv_assign rfl) rfl rfl ?_)
  refine wl_nil ?_
  refine wq_then ?_
  refine wc_seq ?_
  refine wc_region ?_
  refine wl_go rfl (wo_val rfl (rv_load_own_row rfl) rfl rfl ?_)
  refine wl_go rfl (wo_call (R := fun w2 v w3 => ∃ x1 v1, v = .tuple #[.agg (gC x1 (onceG g)).toArray, v1] ∧ Gm w3 x1 (onceG g) ∧ w3.ownsRow w2.heap.size 3 1 v1 (onceL g).length ((onceL g).map iv)) rfl rfl (enters_of Try.func36 (by kernel_rfl) rfl) rfl rfl rfl (fun w4 hs4 => (once_calls x g w4 (hg.below (hs4.below rfl))).mono fun e w' h => let ⟨x1, v1, h1, h2, h3, h4⟩ := h; ⟨_, h1, ⟨x1, v1, rfl, h2, h3⟩, h4⟩) (fun w2c vc w3c hs2c hvc hb2c hm2c => ?_))
  obtain ⟨xc, v1, rfl, hGc, hv1⟩ := hvc
  obtain ⟨pc, cc, rfl, hrc⟩ := rv_ofn hv1
  have h3c := (hs2c.more hb2c).name
  have hKc := ((Kp.refl w3b).go (pre := [_]) h3b hs2c (by intro y hy; simp only [List.mem_cons, List.not_mem_nil, or_false] at hy; rcases hy with rfl; exact hb7)).below hb2c
  replace hGa := hGa.kp hKc
  replace hra := hra.kp hKc
  replace hGb := hGb.kp hKc
  replace hrb := hrb.kp hKc
  refine wl_go rfl (wo_val rfl (rv_move rfl) rfl rfl ?_)
  refine wl_go rfl (wo_val rfl (rv_extract rfl rfl) rfl rfl ?_)
  refine wl_go rfl (wo_val rfl (rv_extract rfl rfl) rfl rfl ?_)
  refine wl_go rfl (wo_alloc rfl rfl rfl (fun b10 hb10 => ?_))
  refine wl_go rfl (wo_st rfl rfl rfl rfl rfl rfl rfl ?_)
  refine wl_go rfl (wo_val rfl (rv_assign rfl) rfl rfl ?_)
  refine wl_nil ?_
  refine wq_then ?_
  refine wc_seq ?_
  refine wc_region ?_
  refine wl_go rfl (wo_val rfl (rv_load_own_row rfl) rfl rfl ?_)
  refine wl_go rfl (wo_call (R := fun w2 v w3 => ∃ x1 v1, v = .tuple #[.agg (gC x1 (onceG g)).toArray, v1] ∧ Gm w3 x1 (onceG g) ∧ w3.ownsRow w2.heap.size 3 1 v1 (onceL g).length ((onceL g).map iv)) rfl rfl (enters_of Try.func91 (by kernel_rfl) rfl) rfl rfl rfl (fun w4 hs4 => (ronce_calls x g w4 (hg.below (hs4.below rfl))).mono fun e w' h => let ⟨x1, v1, h1, h2, h3, h4⟩ := h; ⟨_, h1, ⟨x1, v1, rfl, h2, h3⟩, h4⟩) (fun w2d vd w3d hs2d hvd hb2d hm2d => ?_))
  obtain ⟨xd, v1, rfl, hGd, hv1⟩ := hvd
  obtain ⟨pd, cd, rfl, hrd⟩ := rv_ofn hv1
  have h3d := (hs2d.more hb2d).name
  have hKd := ((Kp.refl w3c).go (pre := [_]) h3c hs2d (by intro y hy; simp only [List.mem_cons, List.not_mem_nil, or_false] at hy; rcases hy with rfl; exact hb10)).below hb2d
  replace hGa := hGa.kp hKd
  replace hra := hra.kp hKd
  replace hGb := hGb.kp hKd
  replace hrb := hrb.kp hKd
  replace hGc := hGc.kp hKd
  replace hrc := hrc.kp hKd
  refine wl_go rfl (wo_val rfl (rv_move rfl) rfl rfl ?_)
  refine wl_go rfl (wo_val rfl (rv_extract rfl rfl) rfl rfl ?_)
  refine wl_go rfl (wo_val rfl (rv_extract rfl rfl) rfl rfl ?_)
  refine wl_go rfl (wo_alloc rfl rfl rfl (fun b12 hb12 => ?_))
  refine wl_go rfl (wo_st rfl rfl rfl rfl rfl rfl rfl ?_)
  refine wl_go rfl (wo_val rfl (rv_assign rfl) rfl rfl ?_)
  refine wl_nil ?_
  refine wq_then ?_
  refine wc_seq ?_
  refine wc_region_quiet (by kernel_rfl) (by kernel_rfl) ?_
  refine wk_val rfl rfl (rv_load_own_row rfl) rfl rfl ?_
  refine wk_call rfl rfl rfl (enters_of Try.func38 (by kernel_rfl) rfl) rfl rfl rfl (fun w hs => plain_calls xa (usefulG g) w) ?_
  refine wk_val rfl rfl (rv_load_own_row rfl) rfl rfl ?_
  refine wk_call rfl rfl rfl (enters_of Try.func37 (by kernel_rfl) rfl) rfl rfl rfl (fun w hs => gsame_t xa xb (usefulG g) w (hGa.kp ((Kp.refl w3d).go (pre := [_]) h3d hs (by intro y hy; simp only [List.mem_cons, List.not_mem_nil, or_false] at hy; rcases hy with rfl; exact hb12))) (hGb.kp ((Kp.refl w3d).go (pre := [_]) h3d hs (by intro y hy; simp only [List.mem_cons, List.not_mem_nil, or_false] at hy; rcases hy with rfl; exact hb12)))) ?_
  refine wk_val rfl rfl (rv_move rfl) rfl rfl ?_
  refine wk_want rfl rfl rfl rfl rfl rfl rfl (rv_move rfl) rfl rfl ?_
  refine wk_want rfl rfl rfl rfl rfl rfl rfl (rv_move rfl) rfl rfl ?_
  refine wk_call_want rfl rfl rfl rfl rfl rfl rfl rfl (enters_of Try.func87 (by kernel_rfl) rfl) rfl rfl rfl (fun w hs => isame_t _ _ _ _ _ _ (usefulL g) rfl rfl w (hra.kp ((Kp.refl w3d).go (pre := [_]) h3d hs (by intro y hy; simp only [List.mem_cons, List.not_mem_nil, or_false] at hy; rcases hy with rfl; exact hb12))) (hrb.kp ((Kp.refl w3d).go (pre := [_]) h3d hs (by intro y hy; simp only [List.mem_cons, List.not_mem_nil, or_false] at hy; rcases hy with rfl; exact hb12)))) ?_
  refine wk_val rfl rfl (rv_pick_t rfl rfl rfl) rfl rfl ?_
  refine wk_val rfl rfl (rv_move rfl) rfl rfl ?_
  refine wk_want rfl rfl rfl rfl rfl rfl rfl (rv_move rfl) rfl rfl ?_
  refine wk_want rfl rfl rfl rfl rfl rfl rfl (rv_move rfl) rfl rfl ?_
  refine wk_want rfl rfl rfl rfl rfl rfl rfl (rv_cmp_i rfl rfl rfl) rfl rfl ?_
  refine wk_val rfl rfl (rv_pick_t rfl rfl rfl) rfl rfl ?_
  refine wk_val rfl rfl (rv_assign rfl) rfl rfl ?_
  refine wk_nil ?_
  refine wq_then ?_
  refine wc_seq ?_
  refine wc_region_quiet (by kernel_rfl) (by kernel_rfl) ?_
  refine wk_val rfl rfl (rv_load_own_row rfl) rfl rfl ?_
  refine wk_call rfl rfl rfl (enters_of Try.func38 (by kernel_rfl) rfl) rfl rfl rfl (fun w hs => plain_calls xc (onceG g) w) ?_
  refine wk_val rfl rfl (rv_load_own_row rfl) rfl rfl ?_
  refine wk_call rfl rfl rfl (enters_of Try.func37 (by kernel_rfl) rfl) rfl rfl rfl (fun w hs => gsame_t xc xd (onceG g) w (hGc.kp ((Kp.refl w3d).go (pre := [_]) h3d hs (by intro y hy; simp only [List.mem_cons, List.not_mem_nil, or_false] at hy; rcases hy with rfl; exact hb12))) (hGd.kp ((Kp.refl w3d).go (pre := [_]) h3d hs (by intro y hy; simp only [List.mem_cons, List.not_mem_nil, or_false] at hy; rcases hy with rfl; exact hb12)))) ?_
  refine wk_val rfl rfl (rv_move rfl) rfl rfl ?_
  refine wk_want rfl rfl rfl rfl rfl rfl rfl (rv_move rfl) rfl rfl ?_
  refine wk_want rfl rfl rfl rfl rfl rfl rfl (rv_move rfl) rfl rfl ?_
  refine wk_call_want rfl rfl rfl rfl rfl rfl rfl rfl (enters_of Try.func87 (by kernel_rfl) rfl) rfl rfl rfl (fun w hs => isame_t _ _ _ _ _ _ (onceL g) rfl rfl w (hrc.kp ((Kp.refl w3d).go (pre := [_]) h3d hs (by intro y hy; simp only [List.mem_cons, List.not_mem_nil, or_false] at hy; rcases hy with rfl; exact hb12))) (hrd.kp ((Kp.refl w3d).go (pre := [_]) h3d hs (by intro y hy; simp only [List.mem_cons, List.not_mem_nil, or_false] at hy; rcases hy with rfl; exact hb12)))) ?_
  refine wk_val rfl rfl (rv_pick_t rfl rfl rfl) rfl rfl ?_
  refine wk_val rfl rfl (rv_assign rfl) rfl rfl ?_
  refine wk_nil ?_
  refine wq_then ?_
  refine wc_seq ?_
  refine wc_region_stage (by kernel_rfl) (by kernel_rfl) ?_
  refine ws_q (i := 0) rfl (by kernel_rfl) (rq_val rfl rfl rfl (rv_move rfl)) rfl rfl ?_
  refine ws_q (i := 1) rfl (by kernel_rfl) (rq_val rfl rfl rfl (rv_move rfl)) rfl rfl ?_
  refine ws_q (i := 2) rfl (by kernel_rfl) (rq_want rfl rfl rfl rfl rfl rfl (decide_eq_true rfl) rfl (rv_move rfl)) rfl rfl ?_
  refine ws_q (i := 3) rfl (by kernel_rfl) (rq_val rfl rfl rfl (rv_pick_t rfl (decide_eq_true rfl) rfl)) rfl rfl ?_
  refine ws_q (i := 4) rfl (by kernel_rfl) (rq_val rfl rfl rfl (rv_move rfl)) rfl rfl ?_
  refine ws_q (i := 5) rfl (by kernel_rfl) (rq_want rfl rfl rfl rfl rfl rfl rfl rfl (rv_load_own_row rfl)) rfl rfl ?_
  refine ws_q (i := 6) rfl (by kernel_rfl) (rq_call_want rfl rfl rfl rfl rfl rfl rfl rfl rfl (enters_of Try.func42 (by kernel_rfl) rfl) rfl (fun w hs => is_calls x g w (hg.below (hs.below rfl)))) rfl rfl ?_
  refine ws_q (i := 7) rfl (by kernel_rfl) (rq_want rfl rfl rfl rfl rfl rfl rfl rfl (rv_load_own_row rfl)) rfl rfl ?_
  refine ws_q (i := 8) rfl (by kernel_rfl) (rq_call_want rfl rfl rfl rfl rfl rfl rfl rfl rfl (enters_of Try.func92 (by kernel_rfl) rfl) rfl (fun w hs => ris_calls x g w (hg.below (hs.below rfl)))) rfl rfl ?_
  refine ws_q (i := 9) rfl (by kernel_rfl) (rq_want rfl rfl rfl rfl rfl rfl rfl rfl (rv_eql_b rfl rfl)) rfl rfl ?_
  refine ws_q (i := 10) rfl (by kernel_rfl) (rq_val rfl rfl rfl (rv_pick_t rfl rfl rfl)) rfl rfl ?_
  refine ws_q (i := 11) rfl (by kernel_rfl) (rq_val rfl rfl rfl (rv_move rfl)) rfl rfl ?_
  refine ws_q (i := 12) rfl (by kernel_rfl) (rq_want rfl rfl rfl rfl rfl rfl (by rw [isB_eq]; simp) rfl (rv_load_own_row rfl)) rfl rfl ?_
  refine ws_q (i := 14) rfl (by kernel_rfl) (rq_want rfl rfl rfl rfl rfl rfl (by rw [isB_eq]; simp) rfl (rv_load_own_row rfl)) rfl rfl ?_
  refine ws_w_want 13 rfl (by kernel_rfl) (by kernel_rfl) rfl rfl rfl rfl rfl (by rw [isB_eq]; simp) (wo_call (R := fun w2 v w3 => ∃ p c, v = .slice p (linesF g).length c ∧ Rv w3 p c ((linesF g).map sv)) rfl rfl (enters_of Try.func89 (by kernel_rfl) rfl) rfl rfl rfl (fun w4 hs4 => (rules_calls x g hsh w4 (hg.below (hs4.below rfl))).mono fun e w' h => let ⟨v, h1, h2, h3⟩ := h; let ⟨p, c, e, hr⟩ := rv_ofn h2; ⟨_, h1, ⟨p, c, e, hr⟩, h3⟩) (fun w2e ve w3e hs2e hve hb2e hm2e => ?_))
  obtain ⟨pe, ce, rfl, hre⟩ := hve
  have h3e := (hs2e.more hb2e).name
  refine wl_stage (pa_keep (rq_want rfl rfl rfl rfl rfl rfl (by rw [isB_eq]; simp) rfl (rv_load_own_row rfl)) (pa_drop (by kernel_rfl) (pa_drop (by kernel_rfl) (pa_drop (by kernel_rfl) (pa_drop (by kernel_rfl) (pa_drop (by kernel_rfl) (pa_drop (by kernel_rfl) (pa_drop (by kernel_rfl) (pa_drop (by kernel_rfl) (pa_drop (by kernel_rfl) (pa_drop (by kernel_rfl) (pa_drop (by kernel_rfl) (pa_drop (by kernel_rfl) (pa_drop (by kernel_rfl) (pa_nil))))))))))))))) ?_
  refine ws_w_want 15 rfl (by kernel_rfl) (by kernel_rfl) rfl rfl rfl rfl rfl (by rw [isB_eq]; simp) (wo_call (R := fun w2 v w3 => ∃ p c, v = .slice p (linesF g).length c ∧ Rv w3 p c ((linesF g).map sv)) rfl rfl (enters_of Try.func93 (by kernel_rfl) rfl) rfl rfl rfl (fun w4 hs4 => (rrules_calls x g hsh w4 (hg.below (hs4.below rfl))).mono fun e w' h => let ⟨v, h1, h2, h3⟩ := h; let ⟨p, c, e, hr⟩ := rv_ofn h2; ⟨_, h1, ⟨p, c, e, hr⟩, h3⟩) (fun w2f vf w3f hs2f hvf hb2f hm2f => ?_))
  obtain ⟨pf, cf, rfl, hrf⟩ := hvf
  have h3f := (hs2f.more hb2f).name
  have hKf := ((Kp.refl w3e).go (pre := []) h3e hs2f (fun _ h => by cases h)).below hb2f
  replace hre := hre.kp hKf
  refine wl_stage (pa_drop (by kernel_rfl) (pa_nil)) ?_
  refine ws_q (i := 16) rfl (by kernel_rfl) (rq_call_want rfl rfl rfl rfl rfl rfl (by rw [isB_eq]; simp) rfl rfl (enters_of Try.func88 (by kernel_rfl) rfl) rfl (fun w hs => tsame_t _ _ _ _ _ _ (linesF g) rfl rfl w (hre.kp ((Kp.refl w3f).go (pre := []) h3f hs (fun _ h => by cases h))) (hrf.kp ((Kp.refl w3f).go (pre := []) h3f hs (fun _ h => by cases h))))) rfl rfl ?_
  refine ws_q (i := 17) rfl (by kernel_rfl) (rq_val rfl rfl rfl (rv_pick_t rfl (by rw [isB_eq]; simp) rfl)) rfl rfl ?_
  refine ws_q (i := 18) rfl (by kernel_rfl) (rq_val rfl rfl rfl (rv_assign rfl)) rfl rfl ?_
  refine ws_nil (by kernel_rfl) ?_
  refine wq_then ?_
  refine wc_ret ?_
  refine wq_ret1 rfl rfl (rr_tmp rfl) (fun w9 hs9 => ?_)
  exact ⟨rfl, hs9.below rfl⟩
end Go.Proofs.Ytlppkbfkajionaa.Cm
