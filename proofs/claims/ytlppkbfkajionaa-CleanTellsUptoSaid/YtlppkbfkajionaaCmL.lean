/- The walks of grammars: Is. -/
import Derived.Test.YtlppkbfkajionaaCmK
namespace Go.Proofs.Ytlppkbfkajionaa.Cm
open Go Go.RowKit Gw Go.Shelf
set_option linter.unusedSimpArgs false
set_option linter.unusedVariables false
set_option linter.unusedSectionVars false
theorem reachF_len {g : Gr} (h : okB g = true) : (reachF g).length = g.names.length := by
  unfold reachF; rw [h]; exact reachR_len _ _ _
def isB (g : Gr) : Bool := okB g && ((List.range g.names.length).all fun (i : Nat) => decide ((i : Int) < g.terms) || (bg (markF g true) (i : Int) && bg (reachF g) (i : Int))) && ((onceG g).rules.length == g.rules.length)
theorem isB_all {g : Gr} (h : ∀ i : Nat, g.terms ≤ (i : Int) → i < g.names.length → bg (markF g true) (i : Int) = true ∧ bg (reachF g) (i : Int) = true) : ((List.range g.names.length).all fun (i : Nat) => decide ((i : Int) < g.terms) || (bg (markF g true) (i : Int) && bg (reachF g) (i : Int))) = true := List.all_eq_true.2 fun i hi => by
  have hi := List.mem_range.1 hi
  rcases Int.lt_or_le (i : Int) g.terms with h1 | h1
  · rw [decide_eq_true h1]; rfl
  · rw [(h i h1 hi).1, (h i h1 hi).2]; simp
theorem isB_not {g : Gr} {i : Nat} (h1 : g.terms ≤ (i : Int)) (h2 : i < g.names.length) (h : (bg (markF g true) (i : Int) && bg (reachF g) (i : Int)) = false) : isB g = false := by
  unfold isB
  have : ((List.range g.names.length).all fun (i : Nat) => decide ((i : Int) < g.terms) || (bg (markF g true) (i : Int) && bg (reachF g) (i : Int))) = false := by
    rw [Bool.eq_false_iff]
    intro h3
    have := List.all_eq_true.1 h3 i (List.mem_range.2 h2)
    rw [h, decide_eq_false (by omega)] at this
    cases this
  rw [this]; simp
set_option maxHeartbeats 1000000 in
theorem is_calls (x : GS) (g : Gr) (w : World) (hg : Gm w x g) : Calls Try.prog 42 #[.agg (gC x g).toArray] w fun e w' => e = .returned (.bool (isB g)) ∧ Below w.heap.size w w' := by
  refine calls_start Try.func42 rfl (N := 48) rfl rfl _ (St.start _) rfl ?_
  refine wc_seq ?_
  refine wc_region ?_
  refine wl_go rfl (wo_box rfl rfl rfl rfl rfl (fun b1 hb1 => ?_))
  refine wl_go rfl (wo_val rfl (rv_assign rfl) rfl rfl ?_)
  refine wl_nil ?_
  refine wq_then ?_
  refine wc_seq ?_
  refine wc_seq ?_
  refine wc_region ?_
  refine wl_go rfl (wo_val rfl (rv_load_own_row rfl) rfl rfl ?_)
  refine wl_go rfl (wo_call (R := fun _ v _ => v = _) rfl rfl (enters_of Try.func95 (by kernel_rfl) rfl) rfl rfl rfl (fun w4 hs4 => (cright_calls x g w4 (hg.below (hs4.below rfl))).mono fun e w' h => ⟨_, h.1, rfl, h.2⟩) (fun w2 v w3 hs2 hv hb2 hm2 => ?_))
  subst hv
  refine wl_go rfl (wo_val rfl (rv_not rfl) rfl rfl ?_)
  refine wl_nil ?_
  refine wq_then ?_
  refine wc_cond rfl (fun hc10 => ?_) (fun hc10 => ?_)
  · simp only [decide_eq_true_eq, decide_eq_false_iff_not, Bool.not_eq_true', Bool.not_eq_false', bne_iff_ne, beq_iff_eq, bne_eq_false_iff_eq, beq_eq_false_iff_ne, Int.not_lt, Int.not_le] at hc10
    have hbad : isB g = false := by unfold isB; rw [show okB g = false from hc10]; rfl
    refine wc_seq ?_
    refine wc_region ?_
    refine wl_go rfl (wo_val rfl (rv_assign rfl) rfl rfl ?_)
    refine wl_nil ?_
    refine wq_then ?_
    refine wc_ret ?_
    refine wq_then_ret ?_
    refine wq_ret1 rfl rfl (rr_tmp rfl) (fun w9 hs9 => ?_)
    rw [hbad]
    exact ⟨rfl, hs9.below rfl⟩
  · simp only [decide_eq_true_eq, decide_eq_false_iff_not, Bool.not_eq_true', Bool.not_eq_false', bne_iff_ne, beq_iff_eq, bne_eq_false_iff_eq, beq_eq_false_iff_ne, Int.not_lt, Int.not_le] at hc10
    have hok := (okB_iff g).1 hc10
    have hgood : okB g = true := hc10
    have ht0 := hok.t0
    have ht1 := hok.t1
    have hnm := hok.nm
    have hml := markF_len hgood true
    have hrl := reachF_len hgood
    refine wc_skip ?_
    refine wq_then ?_
    refine wc_seq ?_
    refine wc_region_stage (by kernel_rfl) (by kernel_rfl) ?_
    refine ws_q (i := 0) rfl (by kernel_rfl) (rq_val rfl rfl rfl (rv_load_own_row rfl)) rfl rfl ?_
    refine ws_q (i := 2) rfl (by kernel_rfl) (rq_val rfl rfl rfl (rv_load_own_row rfl)) rfl rfl ?_
    refine ws_w 1 rfl (by kernel_rfl) (by kernel_rfl) rfl (wo_call (R := fun w2 v w3 => ∃ p c, v = .slice p (markF g true).length c ∧ Rv w3 p c ((markF g true).map bv)) rfl rfl (enters_of Try.func41 (by kernel_rfl) rfl) rfl rfl rfl (fun w4 hs4 => (productive_calls x g w4 (hg.below (hs4.below rfl))).mono fun e w' h => let ⟨p, c, h1, h2, _, h3⟩ := h; ⟨_, h1, ⟨p, c, rfl, h2⟩, h3⟩) (fun w2p vp w3p hs2p hvp hb2p hm2p => ?_))
    obtain ⟨pp, cp, rfl, hrp⟩ := hvp
    refine wl_stage (pa_keep (rq_val rfl rfl rfl (rv_load_own_row rfl)) (pa_drop (by kernel_rfl) (pa_nil))) ?_
    refine ws_w 3 rfl (by kernel_rfl) (by kernel_rfl) rfl (wo_call (R := fun w2 v w3 => ∃ p c, v = .slice p (reachF g).length c ∧ Rv w3 p c ((reachF g).map bv)) rfl rfl (enters_of Try.func109 (by kernel_rfl) rfl) rfl rfl rfl (fun w4 hs4 => (reached_calls x g w4 (hg.below (hs4.below rfl))).mono fun e w' h => let ⟨p, c, h1, h2, h3⟩ := h; ⟨_, h1, ⟨p, c, rfl, h2⟩, h3⟩) (fun w2r vr w3r hs2r hvr hb2r hm2r => ?_))
    obtain ⟨pr, cr, rfl, hrr⟩ := hvr
    refine wl_stage (pa_drop (by kernel_rfl) (pa_nil)) ?_
    refine ws_q (i := 4) rfl (by kernel_rfl) (rq_val rfl rfl rfl (rv_assign rfl)) rfl rfl ?_
    refine ws_q (i := 5) rfl (by kernel_rfl) (rq_val rfl rfl rfl (rv_assign rfl)) rfl rfl ?_
    refine ws_nil (by kernel_rfl) ?_
    refine wq_then ?_
    refine wc_seq ?_
    refine wc_seq ?_
    refine wc_region ?_
    refine wl_go rfl (wo_val rfl (rv_fieldAddr rfl) rfl rfl ?_)
    refine wl_go rfl (wo_val rfl (rv_load_own rfl rfl) rfl rfl ?_)
    refine wl_go rfl (wo_val rfl (rv_assign rfl) rfl rfl ?_)
    refine wl_nil ?_
    refine wq_then ?_
    refine wc_block ?_
    have h3 := (hs2r.more hb2r).name
    have hrp3 := (hrp.still (hs2p.more hb2p).name hs2r).below hb2r
    refine wc_loop (fun m l S => ∃ k : Nat, g.terms + (k : Int) ≤ (g.names.length : Int) ∧ (∀ i : Nat, g.terms ≤ (i : Int) → (i : Int) < g.terms + (k : Int) → bg (markF g true) (i : Int) = true ∧ bg (reachF g) (i : Int) = true) ∧ m = g.names.length - k ∧ l = [(1, .pointer (some ⟨b1, 0, none⟩)), (3, .slice pp (markF g true).length cp), (4, .slice pr (reachF g).length cr), (5, iv (g.terms + (k : Int)))] ∧ S = ⟨w, G0, w3r, [⟨b1, .cells (gC x g).toArray 53 (0, 0)⟩]⟩) ⟨_, _, ⟨0, by omega, fun i h1 h2 => by omega, rfl, by rw [Int.natCast_zero, Int.add_zero], rfl⟩, by repeat (first | exact sub_nil | refine sub_cons rfl ?_)⟩ ?_
    intro m l S hJ
    obtain ⟨k, hk, hall, rfl, rfl, rfl⟩ := hJ
    refine wc_seq ?_
    refine wc_seq ?_
    refine wc_region ?_
    refine wl_go rfl (wo_val rfl (rv_move rfl) rfl rfl ?_)
    refine wl_go rfl (wo_val rfl (rv_fieldAddr0 rfl) rfl rfl ?_)
    refine wl_go rfl (wo_val rfl (rv_load_own rfl rfl) rfl rfl ?_)
    refine wl_go rfl (wo_val rfl (rv_len rfl) rfl rfl ?_)
    refine wl_go rfl (wo_val rfl (rv_cmp_i rfl rfl rfl) rfl rfl ?_)
    refine wl_nil ?_
    refine wq_then ?_
    refine wc_cond rfl (fun hc21 => ?_) (fun hc21 => ?_)
    · simp only [decide_eq_true_eq, decide_eq_false_iff_not, Bool.not_eq_true', Bool.not_eq_false', bne_iff_ne, beq_iff_eq, bne_eq_false_iff_eq, beq_eq_false_iff_ne, Int.not_lt, Int.not_le] at hc21
      have hgm := map_get (f := bv) (bg_get (σ := (markF g true)) (n := g.terms + (k : Int)) (by omega))
      have hgr := map_get (f := bv) (bg_get (σ := (reachF g)) (n := g.terms + (k : Int)) (by omega))
      obtain ⟨gp, op, rfl, _⟩ := hrp3.at_ _ _ hgm
      obtain ⟨gr, or_, rfl, _⟩ := hrr.at_ _ _ hgr
      have hki : g.terms + (k : Int) = ((g.terms.toNat + k : Nat) : Int) := by omega
      refine wc_skip ?_
      refine wq_then ?_
      refine wc_seq ?_
      refine wc_block ?_
      refine wc_seq ?_
      refine wc_region ?_
      refine wl_go rfl (wo_val rfl (rv_move rfl) rfl rfl ?_)
      refine wl_go rfl (wo_val rfl (rv_move rfl) rfl rfl ?_)
      refine wl_go rfl (wo_val rfl (rv_indexAddr rfl rfl (by omega)) rfl rfl ?_)
      refine wl_go rfl (wo_val rfl (rv_load_cell (v := bv (bg (markF g true) (g.terms + (k : Int)))) rfl (fun w4 hs4 => by obtain ⟨_, _, e, hc⟩ := (hrp3.still h3 hs4).at_ _ _ hgm; cases e; exact hc)) rfl rfl ?_)
      refine wl_go rfl (wo_val rfl (rv_not rfl) rfl rfl ?_)
      refine wl_go rfl (wo_val rfl (rv_move rfl) rfl rfl ?_)
      refine wl_split (d := 29) rfl true (fun hg7_5 => ?_) (fun hg7_5 => ?_)
      · skip
        have hbad : isB g = false := isB_not (i := g.terms.toNat + k) (by omega) (by omega) (by rw [← hki, show bg (markF g true) (g.terms + (k : Int)) = false by simpa using hg7_5]; rfl)
        refine wl_skip rfl rfl rfl rfl rfl hg7_5 rfl ?_
        refine wl_skip rfl rfl rfl rfl rfl hg7_5 rfl ?_
        refine wl_skip rfl rfl rfl rfl rfl hg7_5 rfl ?_
        refine wl_skip rfl rfl rfl rfl rfl hg7_5 rfl ?_
        refine wl_skip rfl rfl rfl rfl rfl hg7_5 rfl ?_
        refine wl_go rfl (wo_val rfl (rv_pick_t rfl hg7_5 rfl) rfl rfl ?_)
        refine wl_nil ?_
        refine wq_then ?_
        refine wc_cond_t rfl rfl ?_
        refine wc_seq ?_
        refine wc_region ?_
        refine wl_go rfl (wo_val rfl (rv_assign rfl) rfl rfl ?_)
        refine wl_nil ?_
        refine wq_then ?_
        refine wc_ret ?_
        refine wq_in_ret ?_
        refine wq_then_ret ?_
        refine wq_then_ret ?_
        refine wq_in_ret ?_
        refine wq_then_ret ?_
        refine wq_ret1 rfl rfl (rr_tmp rfl) (fun w9 hs9 => ?_)
        rw [hbad]
        exact ⟨rfl, hs9.below rfl⟩
      · skip
        have hmk : bg (markF g true) (g.terms + (k : Int)) = true := by simpa using hg7_5
        refine wl_want rfl rfl rfl rfl rfl hg7_5 (wo_val rfl (rv_move rfl) rfl rfl ?_)
        refine wl_want rfl rfl rfl rfl rfl hg7_5 (wo_val rfl (rv_move rfl) rfl rfl ?_)
        refine wl_want rfl rfl rfl rfl rfl hg7_5 (wo_val rfl (rv_indexAddr rfl rfl (by omega)) rfl rfl ?_)
        refine wl_want rfl rfl rfl rfl rfl hg7_5 (wo_val rfl (rv_load_cell (v := bv (bg (reachF g) (g.terms + (k : Int)))) rfl (fun w4 hs4 => by obtain ⟨_, _, e, hc⟩ := (hrr.still h3 hs4).at_ _ _ hgr; cases e; exact hc)) rfl rfl ?_)
        refine wl_want rfl rfl rfl rfl rfl hg7_5 (wo_val rfl (rv_not rfl) rfl rfl ?_)
        refine wl_go rfl (wo_val rfl (rv_pick_f rfl hg7_5 rfl) rfl rfl ?_)
        refine wl_nil ?_
        refine wq_then ?_
        refine wc_cond rfl (fun hc35 => ?_) (fun hc35 => ?_)
        · simp only [decide_eq_true_eq, decide_eq_false_iff_not, Bool.not_eq_true', Bool.not_eq_false', bne_iff_ne, beq_iff_eq, bne_eq_false_iff_eq, beq_eq_false_iff_ne, Int.not_lt, Int.not_le] at hc35
          have hbad : isB g = false := isB_not (i := g.terms.toNat + k) (by omega) (by omega) (by rw [← hki, hc35]; simp)
          refine wc_seq ?_
          refine wc_region ?_
          refine wl_go rfl (wo_val rfl (rv_assign rfl) rfl rfl ?_)
          refine wl_nil ?_
          refine wq_then ?_
          refine wc_ret ?_
          refine wq_in_ret ?_
          refine wq_then_ret ?_
          refine wq_then_ret ?_
          refine wq_in_ret ?_
          refine wq_then_ret ?_
          refine wq_ret1 rfl rfl (rr_tmp rfl) (fun w9 hs9 => ?_)
          rw [hbad]
          exact ⟨rfl, hs9.below rfl⟩
        · simp only [decide_eq_true_eq, decide_eq_false_iff_not, Bool.not_eq_true', Bool.not_eq_false', bne_iff_ne, beq_iff_eq, bne_eq_false_iff_eq, beq_eq_false_iff_ne, Int.not_lt, Int.not_le] at hc35
          refine wc_skip ?_
          refine wq_in_normal ?_
          refine wq_then ?_
          refine wc_region ?_
          refine wl_go rfl (wo_val rfl (rv_move rfl) rfl rfl ?_)
          refine wl_go rfl (wo_val rfl (rv_add rfl rfl (by omega)) rfl rfl ?_)
          refine wl_go rfl (wo_val rfl (rv_assign rfl) rfl rfl ?_)
          refine wl_nil ?_
          refine wq_round ⟨_, [(1, .pointer (some ⟨b1, 0, none⟩)), (3, _), (4, _), (5, iv (g.terms + (k : Int) + 1))], ⟨k + 1, by omega, fun i h1 h2 => ?_, rfl, ?_, rfl⟩, by omega, by repeat (first | exact sub_nil | refine sub_cons rfl ?_)⟩
          · by_cases e : (i : Int) = g.terms + (k : Int)
            · rw [e]; exact ⟨hmk, hc35⟩
            · exact hall i h1 (by omega)
          · rw [show g.terms + (k : Int) + 1 = g.terms + ((k + 1 : Nat) : Int) by omega]
    · simp only [decide_eq_true_eq, decide_eq_false_iff_not, Bool.not_eq_true', Bool.not_eq_false', bne_iff_ne, beq_iff_eq, bne_eq_false_iff_eq, beq_eq_false_iff_ne, Int.not_lt, Int.not_le] at hc21
      refine wc_exit ?_
      refine wq_then_exit ?_
      refine wq_then_exit ?_
      refine wq_in_here ?_
      refine wq_then ?_
      refine wc_seq ?_
      refine wc_region ?_
      refine wl_go rfl (wo_val rfl (rv_load_own_row rfl) rfl rfl ?_)
      refine wl_go rfl (wo_call (R := fun w2 v w3 => ∃ x1 u, v = .tuple #[.agg (gC x1 (onceG g)).toArray, u]) rfl rfl (enters_of Try.func36 (by kernel_rfl) rfl) rfl rfl rfl (fun w4 hs4 => (once_calls x g w4 (hg.below (hs4.below rfl))).mono fun e w' h => let ⟨x1, u, h1, _, _, h4⟩ := h; ⟨_, h1, ⟨x1, u, rfl⟩, h4⟩) (fun w2o vo w3o hs2o hvo hb2o hm2o => ?_))
      obtain ⟨x1, u, rfl⟩ := hvo
      refine wl_go rfl (wo_val rfl (rv_move rfl) rfl rfl ?_)
      refine wl_go rfl (wo_val rfl (rv_extract rfl rfl) rfl rfl ?_)
      refine wl_go rfl (wo_val rfl (rv_extract rfl rfl) rfl rfl ?_)
      refine wl_go rfl (wo_alloc rfl rfl rfl (fun b6 hb6 => ?_))
      refine wl_go rfl (wo_st rfl rfl rfl rfl rfl rfl rfl ?_)
      refine wl_go rfl (wo_val rfl (rv_assign rfl) rfl rfl ?_)
      refine wl_nil ?_
      refine wq_then ?_
      refine wc_seq ?_
      refine wc_region ?_
      refine wl_go rfl (wo_val rfl (rv_fieldAddr rfl) rfl rfl ?_)
      refine wl_go rfl (wo_val rfl (rv_load_own rfl rfl) rfl rfl ?_)
      refine wl_go rfl (wo_val rfl (rv_len rfl) rfl rfl ?_)
      refine wl_go rfl (wo_val rfl (rv_fieldAddr rfl) rfl rfl ?_)
      refine wl_go rfl (wo_val rfl (rv_load_own rfl rfl) rfl rfl ?_)
      refine wl_go rfl (wo_val rfl (rv_len rfl) rfl rfl ?_)
      refine wl_go rfl (wo_val rfl (rv_cmp_i rfl rfl rfl) rfl rfl ?_)
      refine wl_go rfl (wo_val rfl (rv_assign rfl) rfl rfl ?_)
      refine wl_nil ?_
      refine wq_then ?_
      refine wc_ret ?_
      refine wq_ret1 rfl rfl (rr_tmp rfl) (fun w9 hs9 => ?_)
      have hA := isB_all (g := g) (fun i h1 h2 => hall i h1 (by omega))
      have e1 : isB g = ((onceG g).rules.length == g.rules.length) := by unfold isB; rw [hgood, hA]; rfl
      rw [e1]
      refine ⟨?_, hs9.below rfl⟩
      congr 2
      rw [Bool.eq_iff_iff]; simp; omega
end Go.Proofs.Ytlppkbfkajionaa.Cm
