/- The walks of grammars, the reference: Is. -/
import Derived.Test.YtlppkbfkajionaaCmV
namespace Go.Proofs.Ytlppkbfkajionaa.Cm
open Go Go.RowKit Gw Go.Shelf
set_option linter.unusedSimpArgs false
set_option linter.unusedVariables false
set_option linter.unusedSectionVars false
theorem still2 {W w3 w9 : World} {gs gs' : Gx} {own pre : List Blk} (h3 : St ⟨W, gs, w3, own⟩ w3) (h9 : St ⟨W, gs', w3, pre ++ own⟩ w9) (hp : ∀ x ∈ pre, w3.heap.size ≤ x.b) (k : Nat) (hk : k < w3.heap.size) : w9.heap[k]? = w3.heap[k]? := by
  by_cases e : ∃ x ∈ own, x.b = k
  · obtain ⟨x, hx, rfl⟩ := e
    rw [h9.blk x (by simp [hx]), h3.blk x hx]
  · refine h9.old0 k hk fun x hx e2 => ?_
    rcases List.mem_append.1 hx with hx | hx
    · subst e2
      have h5 := hp x hx
      omega
    · exact e ⟨x, hx, e2⟩
theorem ris_calls (x : GS) (g : Gr) (w : World) (hg : Gm w x g) : Calls Try.prog 92 #[.agg (gC x g).toArray] w fun e w' => e = .returned (.bool (isR g)) ∧ Below w.heap.size w w' := by
  unfold isR
  refine calls_start Try.func92 rfl (N := 29) rfl rfl _ (St.start _) rfl ?_
  refine wc_seq ?_
  refine wc_region ?_
  refine wl_go rfl (wo_box rfl rfl rfl rfl rfl (fun b1 hb1 => ?_))
  refine wl_go rfl (wo_val rfl (rv_assign rfl) rfl rfl ?_)
  refine wl_nil ?_
  refine wq_then ?_
  refine wc_seq ?_
  refine wc_region ?_
  refine wl_go rfl (wo_val rfl (rv_load_own_row rfl) rfl rfl ?_)
  refine wl_go rfl (wo_call (R := fun w2 v w3 => ∃ x1 u, v = .tuple #[.agg (gC x1 (usefulG g)).toArray, u, iv (usefulE g)] ∧ Gm w3 x1 (usefulG g)) rfl rfl (enters_of Try.func90 (by kernel_rfl) rfl) rfl rfl rfl (fun w4 hs4 => (ruseful_calls x g w4 (hg.below (hs4.below rfl))).mono fun e w' h => let ⟨x1, u, h1, h2, _, h4⟩ := h; ⟨_, h1, ⟨x1, u, rfl, h2⟩, h4⟩) (fun w2u vu w3u hs2u hvu hb2u hm2u => ?_))
  obtain ⟨x1, u, rfl, hG1⟩ := hvu
  have h3u := (hs2u.more hb2u).name
  refine wl_go rfl (wo_val rfl (rv_move rfl) rfl rfl ?_)
  refine wl_go rfl (wo_val rfl (rv_extract rfl rfl) rfl rfl ?_)
  refine wl_go rfl (wo_val rfl (rv_extract rfl rfl) rfl rfl ?_)
  refine wl_go rfl (wo_val rfl (rv_extract rfl rfl) rfl rfl ?_)
  refine wl_go rfl (wo_alloc rfl rfl rfl (fun b3 hb3 => ?_))
  refine wl_go rfl (wo_st rfl rfl rfl rfl rfl rfl rfl ?_)
  refine wl_go rfl (wo_val rfl (rv_assign rfl) rfl rfl ?_)
  refine wl_go rfl (wo_val rfl (rv_assign rfl) rfl rfl ?_)
  refine wl_nil ?_
  refine wq_then ?_
  refine wc_seq ?_
  refine wc_seq ?_
  refine wc_region ?_
  refine wl_go rfl (wo_val rfl (rv_move rfl) rfl rfl ?_)
  refine wl_go rfl (wo_val rfl (rv_cmp_i rfl rfl rfl) rfl rfl ?_)
  refine wl_nil ?_
  refine wq_then ?_
  refine wc_cond rfl (fun hc15 => ?_) (fun hc15 => ?_)
  · simp only [decide_eq_true_eq, decide_eq_false_iff_not, Bool.not_eq_true', Bool.not_eq_false', bne_iff_ne, beq_iff_eq, bne_eq_false_iff_eq, beq_eq_false_iff_ne, Int.not_lt, Int.not_le] at hc15
    have hE : ¬ usefulE g = 0 := hc15
    refine wc_seq ?_
    refine wc_region ?_
    refine wl_go rfl (wo_val rfl (rv_assign rfl) rfl rfl ?_)
    refine wl_nil ?_
    refine wq_then ?_
    refine wc_ret ?_
    refine wq_then_ret ?_
    refine wq_ret1 rfl rfl (rr_tmp rfl) (fun w9 hs9 => ?_)
    rw [decide_eq_false hE]
    exact ⟨rfl, hs9.below rfl⟩
  · simp only [decide_eq_true_eq, decide_eq_false_iff_not, Bool.not_eq_true', Bool.not_eq_false', bne_iff_ne, beq_iff_eq, bne_eq_false_iff_eq, beq_eq_false_iff_ne, Int.not_lt, Int.not_le] at hc15
    have hE : usefulE g = 0 := hc15
    refine wc_skip ?_
    refine wq_then ?_
    refine wc_seq ?_
    refine wc_region ?_
    refine wl_go rfl (wo_val rfl (rv_load_own_row rfl) rfl rfl ?_)
    refine wl_go rfl (wo_call (R := fun w2 v w3 => ∃ x2 u, v = .tuple #[.agg (gC x2 (onceG g)).toArray, u] ∧ Gm w3 x2 (onceG g)) rfl rfl (enters_of Try.func91 (by kernel_rfl) rfl) rfl rfl rfl (fun w4 hs4 => (ronce_calls x g w4 (hg.below (hs4.below rfl))).mono fun e w' h => let ⟨x1, u, h1, h2, _, h4⟩ := h; ⟨_, h1, ⟨x1, u, rfl, h2⟩, h4⟩) (fun w2o vo w3o hs2o hvo hb2o hm2o => ?_))
    obtain ⟨x2, u2, rfl, hG2⟩ := hvo
    have h3o := (hs2o.more hb2o).name
    have hG1b := (hG1.same (still2 (pre := [_]) h3u hs2o (by intro y hy; simp at hy; subst hy; exact hb3))).below hb2o
    refine wl_go rfl (wo_val rfl (rv_move rfl) rfl rfl ?_)
    refine wl_go rfl (wo_val rfl (rv_extract rfl rfl) rfl rfl ?_)
    refine wl_go rfl (wo_val rfl (rv_extract rfl rfl) rfl rfl ?_)
    refine wl_go rfl (wo_alloc rfl rfl rfl (fun b6 hb6 => ?_))
    refine wl_go rfl (wo_st rfl rfl rfl rfl rfl rfl rfl ?_)
    refine wl_go rfl (wo_val rfl (rv_assign rfl) rfl rfl ?_)
    refine wl_nil ?_
    refine wq_then ?_
    refine wc_seq ?_
    refine wc_region ?_
    refine wl_go rfl (wo_val rfl (rv_load_own_row rfl) rfl rfl ?_)
    refine wl_go rfl (wo_val rfl (rv_load_own_row rfl) rfl rfl ?_)
    refine wl_go rfl (wo_call (R := fun _ v _ => v = _) rfl rfl (enters_of Try.func37 (by kernel_rfl) rfl) rfl rfl rfl (fun w4 hs4 => (gsame_calls x1 x (usefulG g) g w4 (hG1b.same (still2 (pre := [_]) h3o hs4 (by intro y hy; simp at hy; subst hy; exact hb6))) (hg.below (hs4.below rfl))).mono fun e w' h => ⟨_, h.1, rfl, h.2⟩) (fun w2a va w3a hs2a hva hb2a hm2a => ?_))
    subst hva
    refine wl_go rfl (wo_val rfl (rv_move rfl) rfl rfl ?_)
    refine wl_split (d := 24) rfl true (fun hg5_3 => ?_) (fun hg5_3 => ?_)
    · skip
      refine wl_want rfl rfl rfl rfl rfl hg5_3 (wo_val rfl (rv_load_own_row rfl) rfl rfl ?_)
      refine wl_want rfl rfl rfl rfl rfl hg5_3 (wo_val rfl (rv_load_own_row rfl) rfl rfl ?_)
      refine wl_want rfl rfl rfl rfl rfl hg5_3 (wo_call (R := fun _ v _ => v = _) rfl rfl (enters_of Try.func37 (by kernel_rfl) rfl) rfl rfl rfl (fun w4 hs4 => (gsame_calls x2 x (onceG g) g w4 ((hG2.same (still2 (pre := [_]) h3o hs2a (by intro y hy; simp at hy; subst hy; exact hb6))).below hb2a |>.same (fun k hk => still2 (pre := []) (hs2a.more hb2a).name hs4 (fun _ h => by cases h) k hk)) (hg.below (hs4.below rfl))).mono fun e w' h => ⟨_, h.1, rfl, h.2⟩) (fun w2b vb w3b hs2b hvb hb2b hm2b => ?_))
      subst hvb
      refine wl_go rfl (wo_val rfl (rv_pick_t rfl hg5_3 rfl) rfl rfl ?_)
      refine wl_go rfl (wo_val rfl (rv_assign rfl) rfl rfl ?_)
      refine wl_nil ?_
      refine wq_then ?_
      refine wc_ret ?_
      refine wq_ret1 rfl rfl (rr_tmp rfl) (fun w9 hs9 => ?_)
      rw [decide_eq_true hE]
      exact ⟨(by simp only [*, Bool.not_true, Bool.not_false, Bool.or_false, Bool.false_or, Bool.and_false, Bool.false_and, Bool.and_true, Bool.true_and, Bool.or_true, Bool.true_or]), hs9.below rfl⟩
    · skip
      refine wl_skip rfl rfl rfl rfl rfl hg5_3 rfl ?_
      refine wl_skip rfl rfl rfl rfl rfl hg5_3 rfl ?_
      refine wl_skip rfl rfl rfl rfl rfl hg5_3 rfl ?_
      refine wl_go rfl (wo_val rfl (rv_pick_f rfl hg5_3 rfl) rfl rfl ?_)
      refine wl_go rfl (wo_val rfl (rv_assign rfl) rfl rfl ?_)
      refine wl_nil ?_
      refine wq_then ?_
      refine wc_ret ?_
      refine wq_ret1 rfl rfl (rr_tmp rfl) (fun w9 hs9 => ?_)
      rw [decide_eq_true hE]
      exact ⟨(by simp only [*, Bool.not_true, Bool.not_false, Bool.or_false, Bool.false_or, Bool.and_false, Bool.false_and, Bool.and_true, Bool.true_and, Bool.or_true, Bool.true_or]), hs9.below rfl⟩
end Go.Proofs.Ytlppkbfkajionaa.Cm
