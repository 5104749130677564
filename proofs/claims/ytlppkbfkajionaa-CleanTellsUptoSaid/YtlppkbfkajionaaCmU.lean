/- The walks of grammars, the reference: Useful. -/
import Derived.Test.YtlppkbfkajionaaCmT
namespace Go.Proofs.Ytlppkbfkajionaa.Cm
open Go Go.RowKit Gw Go.Shelf
set_option linter.unusedSimpArgs false
set_option linter.unusedVariables false
set_option linter.unusedSectionVars false
theorem vals_snoc {w : World} {vs : List Value} {rs : List (List Int)} {q : Option Addr} {d : Nat} {r : List Int} (h : Vals w vs rs) (hq : Rv w q d (r.map iv)) : Vals w (vs ++ [.slice q r.length d]) (rs ++ [r]) :=
  ⟨by simp [h.1], fun i v s hv hs => by
    rcases Nat.lt_or_ge i vs.length with h1 | h1
    · rw [List.getElem?_append_left h1] at hv
      rw [List.getElem?_append_left (by rw [← h.1]; exact h1)] at hs
      exact h.2 i v s hv hs
    · rw [List.getElem?_append_right h1] at hv
      rw [List.getElem?_append_right (by rw [← h.1]; exact h1), ← h.1] at hs
      cases hi : i - vs.length with
      | zero => rw [hi] at hv hs; simp at hv hs; subst hv; subst hs; exact ⟨q, d, rfl, hq⟩
      | succ j => rw [hi] at hv; simp at hv⟩
theorem vals_nil (w : World) : Vals w [] [] := ⟨rfl, fun i v r h => by simp at h⟩
def fk (g : Gr) (k : Nat) : List (List Int) := (g.rules.take k).filter fun r => r.all (bg (markF g true))
theorem fk_all (g : Gr) : fk g g.rules.length = rules1 g := by
  unfold fk rules1
  rw [List.take_length]
  congr 1
  funext r
  rw [List.all_eq_not_any_not]
theorem fk_len (g : Gr) (k : Nat) : (fk g k).length ≤ k := Nat.le_trans (List.length_filter_le _ _) (List.length_take_le _ _)
theorem fk_snoc {g : Gr} {k : Nat} {r : List Int} (hr : g.rules[k]? = some r) : fk g (k + 1) = fk g k ++ (if r.all (bg (markF g true)) then [r] else []) := by
  unfold fk
  rw [List.take_add_one, hr, Option.toList_some, List.filter_append]
  congr 1
  cases h : r.all (bg (markF g true)) <;> simp only [List.filter_cons, h, List.filter_nil] <;> rfl
theorem take_all {g : Gr} {σ : List Bool} {r : List Int} {j : Nat} {z : Int} (hz : r[j]? = some z) : (r.take (j + 1)).all (bg σ) = ((r.take j).all (bg σ) && bg σ z) := by
  rw [List.take_add_one, hz, List.all_append, Option.toList_some]; simp
set_option maxHeartbeats 4000000 in
theorem ruseful_calls (x : GS) (g : Gr) (w : World) (hg : Gm w x g) : Calls Try.prog 90 #[.agg (gC x g).toArray] w fun e w' => ∃ x1 v, e = .returned (.tuple #[.agg (gC x1 (usefulG g)).toArray, v, iv (usefulE g)]) ∧ Gm w' x1 (usefulG g) ∧ w'.ownsRow w.heap.size 3 1 v (usefulL g).length ((usefulL g).map iv) ∧ Below w.heap.size w w' := by
  refine calls_start Try.func90 rfl (N := 166) rfl rfl _ (St.start _) rfl ?_
  refine wc_seq ?_
  refine wc_region ?_
  refine wl_go rfl (wo_box rfl rfl rfl rfl rfl (fun b1 hb1 => ?_))
  refine wl_go rfl (wo_alloc rfl rfl rfl (fun b2 hb2 => ?_))
  refine wl_go rfl (wo_val rfl (rv_assign rfl) rfl rfl ?_)
  refine wl_go rfl (wo_val rfl (rv_assign rfl) rfl rfl ?_)
  refine wl_nil ?_
  refine wq_then ?_
  refine wc_seq ?_
  refine wc_seq ?_
  refine wc_region ?_
  refine wl_go rfl (wo_val rfl (rv_load_own_row rfl) rfl rfl ?_)
  refine wl_go rfl (wo_call (R := fun _ v _ => v = _) rfl rfl (enters_of Try.func137 (by kernel_rfl) rfl) rfl rfl rfl (fun w4 hs4 => (rcheck_calls x g w4 (hg.below (hs4.below rfl))).mono fun e w' h => ⟨_, h.1, rfl, h.2⟩) (fun w2 v w3 hs2 hv hb2 hm2 => ?_))
  subst hv
  refine wl_go rfl (wo_val rfl (rv_cmp_i rfl rfl rfl) rfl rfl ?_)
  refine wl_nil ?_
  refine wq_then ?_
  refine wc_cond rfl (fun hc19 => ?_) (fun hc19 => ?_)
  · simp only [decide_eq_true_eq, decide_eq_false_iff_not, Bool.not_eq_true', Bool.not_eq_false', bne_iff_ne, beq_iff_eq, bne_eq_false_iff_eq, beq_eq_false_iff_ne, Int.not_lt, Int.not_le] at hc19
    have hbad : okB g = false := by rw [← okE_eq]; simpa using hc19
    refine wc_seq ?_
    refine wc_region ?_
    refine wl_go rfl (wo_val rfl (rv_build [] (trivial)) rfl rfl ?_)
    refine wl_go rfl (wo_st rfl rfl rfl rfl rfl rfl rfl ?_)
    refine wl_go rfl (wo_val rfl (rv_assign rfl) rfl rfl ?_)
    refine wl_go rfl (wo_val rfl (rv_assign rfl) rfl rfl ?_)
    refine wl_nil ?_
    refine wq_then ?_
    refine wc_ret ?_
    refine wq_then_ret ?_
    refine wq_ret3 rfl rfl (rr_row rfl) (rr_tmp rfl) (rr_tmp rfl) (fun w9 hs9 => ?_)
    have e1 : usefulG g = zeroG := by unfold usefulG; rw [hbad]; rfl
    have e2 : usefulL g = [] := by unfold usefulL; rw [hbad]; rfl
    have e3 : usefulE g = 1 := by unfold usefulE; rw [hbad]; rfl
    rw [e1, e2, e3]
    exact ⟨zeroX, _, rfl, zero_gm _, World.ownsRow_nil _ _ _ _, hs9.below rfl⟩
  · simp only [decide_eq_true_eq, decide_eq_false_iff_not, Bool.not_eq_true', Bool.not_eq_false', bne_iff_ne, beq_iff_eq, bne_eq_false_iff_eq, beq_eq_false_iff_ne, Int.not_lt, Int.not_le] at hc19
    have hgood : okB g = true := by rw [← okE_eq]; simpa using hc19
    have hok := (okB_iff g).1 hgood
    have hnm := hok.nm
    have hr1 := hok.r1
    have hr2 := hok.r2
    have hst := hok.start
    have ht0 := hok.t0
    have ht1 := hok.t1
    have hml := markF_len hgood true
    have hI1 : Ins g.names.length (rules1 g) := fun r hr => hok.ins r (List.mem_filter.1 hr).1
    have hTl : (below1 g).length = g.names.length := reachR_len _ _ _
    refine wc_skip ?_
    refine wq_then ?_
    refine wc_seq ?_
    refine wc_region ?_
    refine wl_go rfl (wo_val rfl (rv_load_own_row rfl) rfl rfl ?_)
    refine wl_go rfl (wo_call (R := fun w2 v w3 => ∃ p c, v = .slice p (markF g true).length c ∧ w3.ownsRow w2.heap.size 4 1 (.slice p (markF g true).length c) (markF g true).length ((markF g true).map bv)) rfl rfl (enters_of Try.func138 (by kernel_rfl) rfl) rfl rfl rfl (fun w4 hs4 => (rproductive_calls x g w4 (hg.below (hs4.below rfl))).mono fun e w' h => let ⟨p, c, h1, h2, h4, h3⟩ := h; ⟨_, h1, ⟨p, c, rfl, h4⟩, h3⟩) (fun w2p vp w3p hs2p hvp hb2p hm2p => ?_))
    obtain ⟨p5, c5, rfl, hbo⟩ := hvp
    obtain ⟨g5, o5, rfl, _⟩ := (rv_slice_of hbo).at_ g.start.toNat _ (map_get (f := bv) (bg_get (n := g.start) (by omega)))
    have hH1 := Hp.one (rw_conv (rw_fresh (gs' := G0) hs2p hbo) (by rw [List.length_map]) rfl)
    refine wl_go rfl (wo_val rfl (rv_assign rfl) rfl rfl ?_)
    refine wl_nil ?_
    refine wq_then ?_
    refine wc_seq ?_
    refine wc_seq ?_
    refine wc_region ?_
    refine wl_go rfl (wo_val rfl (rv_move rfl) rfl rfl ?_)
    refine wl_go rfl (wo_val rfl (rv_fieldAddr rfl) rfl rfl ?_)
    refine wl_go rfl (wo_val rfl (rv_load_own rfl rfl) rfl rfl ?_)
    refine wl_go rfl (wo_val rfl (rv_indexAddr rfl rfl (by omega)) rfl rfl ?_)
    refine wl_go rfl (wo_val rfl (rv_load_cell (v := bv (bg (markF g true) g.start)) rfl (fun w4 hs4 => rw_cell (rw_conv (hH1.row (4, .slice (some ⟨g5, o5, none⟩) (markF g true).length c5, (markF g true).map bv) (by simp)) (m := (markF g true).length) (by simp only [List.length_map] <;> exact hTl) rfl) (map_get (bg_get (by omega))) hs4)) rfl rfl ?_)
    refine wl_go rfl (wo_val rfl (rv_not rfl) rfl rfl ?_)
    refine wl_nil ?_
    refine wq_then ?_
    refine wc_cond rfl (fun hc28 => ?_) (fun hc28 => ?_)
    · simp only [decide_eq_true_eq, decide_eq_false_iff_not, Bool.not_eq_true', Bool.not_eq_false', bne_iff_ne, beq_iff_eq, bne_eq_false_iff_eq, beq_eq_false_iff_ne, Int.not_lt, Int.not_le] at hc28
      have hbad : bg (markF g true) g.start = false := hc28
      refine wc_seq ?_
      refine wc_region ?_
      refine wl_go rfl (wo_val rfl (rv_build [] (trivial)) rfl rfl ?_)
      refine wl_go rfl (wo_st rfl rfl rfl rfl rfl rfl rfl ?_)
      refine wl_go rfl (wo_val rfl (rv_assign rfl) rfl rfl ?_)
      refine wl_go rfl (wo_val rfl (rv_assign rfl) rfl rfl ?_)
      refine wl_nil ?_
      refine wq_then ?_
      refine wc_ret ?_
      refine wq_then_ret ?_
      refine wq_ret3 rfl rfl (rr_row rfl) (rr_tmp rfl) (rr_tmp rfl) (fun w9 hs9 => ?_)
      have e1 : usefulG g = zeroG := by unfold usefulG; rw [hgood, hbad]; rfl
      have e2 : usefulL g = [] := by unfold usefulL; rw [hgood, hbad]; rfl
      have e3 : usefulE g = 152 := by unfold usefulE; rw [hgood, hbad]; rfl
      rw [e1, e2, e3]
      exact ⟨zeroX, _, rfl, zero_gm _, World.ownsRow_nil _ _ _ _, hs9.below rfl⟩
    · simp only [decide_eq_true_eq, decide_eq_false_iff_not, Bool.not_eq_true', Bool.not_eq_false', bne_iff_ne, beq_iff_eq, bne_eq_false_iff_eq, beq_eq_false_iff_ne, Int.not_lt, Int.not_le] at hc28
      have hprod : bg (markF g true) g.start = true := hc28
      refine wc_skip ?_
      refine wq_then ?_
      refine wc_seq ?_
      refine wc_region ?_
      refine wl_go rfl (wo_val rfl (rv_assign rfl) rfl rfl ?_)
      refine wl_nil ?_
      refine wq_then ?_
      refine wc_seq ?_
      refine wc_seq ?_
      refine wc_region ?_
      refine wl_go rfl (wo_val rfl (rv_assign rfl) rfl rfl ?_)
      refine wl_nil ?_
      refine wq_then ?_
      refine wc_block ?_
      have hH00 := hH1.none_ 50
      refine wc_loop (fun m l S => ∃ (k : Nat) (v6 : Value) (vs : List Value) (w1 : World), k ≤ g.rules.length ∧ Vals w vs (fk g k) ∧ Hp ⟨w, G0, w1, [⟨b2, .cells ([.slice none 0 0, .int .i64 0, .slice none 0 0, .slice none 0 0, .int .i64 0] : List Value).toArray 60 (0, 0)⟩, ⟨b1, .cells (gC x g).toArray 60 (0, 0)⟩]⟩ [(50, v6, vs), (4, .slice (some ⟨g5, o5, none⟩) (markF g true).length c5, (markF g true).map bv)] ∧ m = g.rules.length - k ∧ l = [(1, .pointer (some ⟨b1, 0, none⟩)), (2, .pointer (some ⟨b2, 0, none⟩)), (5, .slice (some ⟨g5, o5, none⟩) (markF g true).length c5), (6, v6), (7, iv (k : Int))] ∧ S = ⟨w, G0, w1, [⟨b2, .cells ([.slice none 0 0, .int .i64 0, .slice none 0 0, .slice none 0 0, .int .i64 0] : List Value).toArray 60 (0, 0)⟩, ⟨b1, .cells (gC x g).toArray 60 (0, 0)⟩]⟩) ⟨_, _, ⟨0, .slice none 0 0, [], _, Nat.zero_le _, vals_nil w, hH00, rfl, rfl, rfl⟩, by repeat (first | exact sub_nil | refine sub_cons rfl ?_)⟩ ?_
      intro m l S hJ
      obtain ⟨k, v6, vs, w1, hk, hvals, hH, rfl, rfl, rfl⟩ := hJ
      refine wc_seq ?_
      refine wc_seq ?_
      refine wc_region ?_
      refine wl_go rfl (wo_val rfl (rv_move rfl) rfl rfl ?_)
      refine wl_go rfl (wo_val rfl (rv_fieldAddr rfl) rfl rfl ?_)
      refine wl_go rfl (wo_val rfl (rv_load_own rfl rfl) rfl rfl ?_)
      refine wl_go rfl (wo_val rfl (rv_len rfl) rfl rfl ?_)
      refine wl_go rfl (wo_val rfl (rv_cmp_i rfl rfl rfl) rfl rfl ?_)
      refine wl_nil ?_
      refine wq_then ?_
      refine wc_cond rfl (fun hc34 => ?_) (fun hc34 => ?_)
      · simp only [decide_eq_true_eq, decide_eq_false_iff_not, Bool.not_eq_true', Bool.not_eq_false', bne_iff_ne, beq_iff_eq, bne_eq_false_iff_eq, beq_eq_false_iff_ne, Int.not_lt, Int.not_le] at hc34
        obtain ⟨r, hr⟩ := getE (l := g.rules) (i := k) (by omega)
        obtain ⟨g0, o0, q, d, hrp, hcell, hrow⟩ := hg.rules.read hr
        have hfit := hok.fits (List.mem_of_getElem? hr)
        have hfl := hfit.len
        refine wc_skip ?_
        refine wq_then ?_
        refine wc_seq ?_
        refine wc_block ?_
        refine wc_seq ?_
        refine wc_region ?_
        refine wl_go rfl (wo_val rfl (rv_assign rfl) rfl rfl ?_)
        refine wl_nil ?_
        refine wq_then ?_
        refine wc_seq ?_
        refine wc_seq ?_
        refine wc_region ?_
        refine wl_go rfl (wo_val rfl (rv_assign rfl) rfl rfl ?_)
        refine wl_nil ?_
        refine wq_then ?_
        refine wc_block ?_
        refine wc_loop (fun m l S => ∃ j : Nat, j ≤ r.length ∧ m = r.length - j ∧ l = [(1, .pointer (some ⟨b1, 0, none⟩)), (2, .pointer (some ⟨b2, 0, none⟩)), (5, .slice (some ⟨g5, o5, none⟩) (markF g true).length c5), (6, v6), (7, iv (k : Int)), (8, bv ((r.take j).all (bg (markF g true)))), (9, iv (j : Int))] ∧ S = ⟨w, G0, w1, [⟨b2, .cells ([.slice none 0 0, .int .i64 0, .slice none 0 0, .slice none 0 0, .int .i64 0] : List Value).toArray 60 (0, 0)⟩, ⟨b1, .cells (gC x g).toArray 60 (0, 0)⟩]⟩) ⟨_, _, ⟨0, Nat.zero_le _, rfl, rfl, rfl⟩, by repeat (first | exact sub_nil | refine sub_cons rfl ?_)⟩ ?_
        intro m l S hJ
        obtain ⟨j, hj, rfl, rfl, rfl⟩ := hJ
        refine wc_seq ?_
        refine wc_seq ?_
        refine wc_region ?_
        refine wl_go rfl (wo_val rfl (rv_move rfl) rfl rfl ?_)
        refine wl_go rfl (wo_val rfl (rv_fieldAddr rfl) rfl rfl ?_)
        refine wl_go rfl (wo_val rfl (rv_load_own (v := .slice (some ⟨g0, o0, none⟩) g.rules.length x.rc) rfl (by rw [← hrp]; rfl)) rfl rfl ?_)
        refine wl_go rfl (wo_val rfl (rv_move rfl) rfl rfl ?_)
        refine wl_go rfl (wo_val rfl (rv_indexAddr rfl rfl (by omega)) rfl rfl ?_)
        refine wl_go rfl (wo_val rfl (rv_load_cell rfl (fun w4 hs4 => hcell w4 (hs4.below rfl))) rfl rfl ?_)
        refine wl_go rfl (wo_val rfl (rv_len rfl) rfl rfl ?_)
        refine wl_go rfl (wo_val rfl (rv_cmp_i rfl rfl rfl) rfl rfl ?_)
        refine wl_nil ?_
        refine wq_then ?_
        refine wc_cond rfl (fun hc44 => ?_) (fun hc44 => ?_)
        · simp only [decide_eq_true_eq, decide_eq_false_iff_not, Bool.not_eq_true', Bool.not_eq_false', bne_iff_ne, beq_iff_eq, bne_eq_false_iff_eq, beq_eq_false_iff_ne, Int.not_lt, Int.not_le] at hc44
          obtain ⟨z, hz⟩ := getE (l := r) (i := j) (by omega)
          have hzr := hfit.all z (List.mem_of_getElem? hz)
          obtain ⟨g1, o1, rfl, hcz⟩ := hrow.read (map_get hz)
          refine wc_skip ?_
          refine wq_then ?_
          refine wc_seq ?_
          refine wc_block ?_
          refine wc_region ?_
          refine wl_go rfl (wo_val rfl (rv_move rfl) rfl rfl ?_)
          refine wl_go rfl (wo_val rfl (rv_move rfl) rfl rfl ?_)
          refine wl_split (d := 48) rfl true (fun hg14_1 => ?_) (fun hg14_1 => ?_)
          · skip
            refine wl_want rfl rfl rfl rfl rfl hg14_1 (wo_val rfl (rv_move rfl) rfl rfl ?_)
            refine wl_want rfl rfl rfl rfl rfl hg14_1 (wo_val rfl (rv_fieldAddr rfl) rfl rfl ?_)
            refine wl_want rfl rfl rfl rfl rfl hg14_1 (wo_val rfl (rv_load_own (v := .slice (some ⟨g0, o0, none⟩) g.rules.length x.rc) rfl (by rw [← hrp]; rfl)) rfl rfl ?_)
            refine wl_want rfl rfl rfl rfl rfl hg14_1 (wo_val rfl (rv_move rfl) rfl rfl ?_)
            refine wl_want rfl rfl rfl rfl rfl hg14_1 (wo_val rfl (rv_indexAddr rfl rfl (by omega)) rfl rfl ?_)
            refine wl_want rfl rfl rfl rfl rfl hg14_1 (wo_val rfl (rv_load_cell rfl (fun w4 hs4 => hcell w4 (hs4.below rfl))) rfl rfl ?_)
            refine wl_want rfl rfl rfl rfl rfl hg14_1 (wo_val rfl (rv_move rfl) rfl rfl ?_)
            refine wl_want rfl rfl rfl rfl rfl hg14_1 (wo_val rfl (rv_indexAddr rfl rfl (by omega)) rfl rfl ?_)
            refine wl_want rfl rfl rfl rfl rfl hg14_1 (wo_val rfl (rv_load_cell rfl (fun w4 hs4 => hcz w4 (hs4.below rfl))) rfl rfl ?_)
            refine wl_want rfl rfl rfl rfl rfl hg14_1 (wo_val rfl (rv_indexAddr rfl rfl (by omega)) rfl rfl ?_)
            refine wl_want rfl rfl rfl rfl rfl hg14_1 (wo_val rfl (rv_load_cell (v := bv (bg (markF g true) z)) rfl (fun w4 hs4 => rw_cell (rw_conv (hH.row (4, .slice (some ⟨g5, o5, none⟩) (markF g true).length c5, (markF g true).map bv) (by simp)) (m := (markF g true).length) (by simp only [List.length_map] <;> exact hTl) rfl) (map_get (bg_get (by omega))) hs4)) rfl rfl ?_)
            refine wl_go rfl (wo_val rfl (rv_pick_t rfl hg14_1 rfl) rfl rfl ?_)
            refine wl_go rfl (wo_val rfl (rv_assign rfl) rfl rfl ?_)
            refine wl_nil ?_
            refine wq_in_normal ?_
            refine wq_then ?_
            refine wc_region ?_
            refine wl_go rfl (wo_val rfl (rv_move rfl) rfl rfl ?_)
            refine wl_go rfl (wo_val rfl (rv_add rfl rfl (by omega)) rfl rfl ?_)
            refine wl_go rfl (wo_val rfl (rv_assign rfl) rfl rfl ?_)
            refine wl_nil ?_
            have e1 : (r.take (j + 1)).all (bg (markF g true)) = bg (markF g true) z := by rw [take_all (g := g) hz, show (r.take j).all (bg (markF g true)) = true from hg14_1, Bool.true_and]
            refine wq_round ⟨_, [(1, .pointer (some ⟨b1, 0, none⟩)), (2, .pointer (some ⟨b2, 0, none⟩)), (5, .slice (some ⟨g5, o5, none⟩) (markF g true).length c5), (6, v6), (7, iv (k : Int)), (8, bv (bg (markF g true) z)), (9, iv ((j + 1 : Nat) : Int))], ⟨j + 1, by omega, rfl, by rw [e1], rfl⟩, by omega, by repeat (first | exact sub_nil | refine sub_cons rfl ?_)⟩
          · skip
            refine wl_skip rfl rfl rfl rfl rfl hg14_1 rfl ?_
            refine wl_skip rfl rfl rfl rfl rfl hg14_1 rfl ?_
            refine wl_skip rfl rfl rfl rfl rfl hg14_1 rfl ?_
            refine wl_skip rfl rfl rfl rfl rfl hg14_1 rfl ?_
            refine wl_skip rfl rfl rfl rfl rfl hg14_1 rfl ?_
            refine wl_skip rfl rfl rfl rfl rfl hg14_1 rfl ?_
            refine wl_skip rfl rfl rfl rfl rfl hg14_1 rfl ?_
            refine wl_skip rfl rfl rfl rfl rfl hg14_1 rfl ?_
            refine wl_skip rfl rfl rfl rfl rfl hg14_1 rfl ?_
            refine wl_skip rfl rfl rfl rfl rfl hg14_1 rfl ?_
            refine wl_skip rfl rfl rfl rfl rfl hg14_1 rfl ?_
            refine wl_go rfl (wo_val rfl (rv_pick_f rfl hg14_1 rfl) rfl rfl ?_)
            refine wl_go rfl (wo_val rfl (rv_assign rfl) rfl rfl ?_)
            refine wl_nil ?_
            refine wq_in_normal ?_
            refine wq_then ?_
            refine wc_region ?_
            refine wl_go rfl (wo_val rfl (rv_move rfl) rfl rfl ?_)
            refine wl_go rfl (wo_val rfl (rv_add rfl rfl (by omega)) rfl rfl ?_)
            refine wl_go rfl (wo_val rfl (rv_assign rfl) rfl rfl ?_)
            refine wl_nil ?_
            have e1 : (r.take (j + 1)).all (bg (markF g true)) = false := by rw [take_all (g := g) hz, show (r.take j).all (bg (markF g true)) = false from hg14_1, Bool.false_and]
            refine wq_round ⟨_, [(1, .pointer (some ⟨b1, 0, none⟩)), (2, .pointer (some ⟨b2, 0, none⟩)), (5, .slice (some ⟨g5, o5, none⟩) (markF g true).length c5), (6, v6), (7, iv (k : Int)), (8, bv false), (9, iv ((j + 1 : Nat) : Int))], ⟨j + 1, by omega, rfl, by rw [e1], rfl⟩, by omega, by repeat (first | exact sub_nil | refine sub_cons rfl ?_)⟩
        · simp only [decide_eq_true_eq, decide_eq_false_iff_not, Bool.not_eq_true', Bool.not_eq_false', bne_iff_ne, beq_iff_eq, bne_eq_false_iff_eq, beq_eq_false_iff_ne, Int.not_lt, Int.not_le] at hc44
          obtain rfl : j = r.length := by omega
          rw [List.take_length]
          refine wc_exit ?_
          refine wq_then_exit ?_
          refine wq_then_exit ?_
          refine wq_in_here ?_
          refine wq_then ?_
          refine wc_seq ?_
          refine wc_region ?_
          refine wl_go rfl (wo_val rfl (rv_move rfl) rfl rfl ?_)
          refine wl_nil ?_
          refine wq_then ?_
          refine wc_cond rfl (fun hc61 => ?_) (fun hc61 => ?_)
          · skip
            refine wc_region ?_
            refine wl_go rfl (wo_val rfl (rv_move rfl) rfl rfl ?_)
            refine wl_go rfl (wo_val rfl (rv_fieldAddr rfl) rfl rfl ?_)
            refine wl_go rfl (wo_val rfl (rv_load_own (v := .slice (some ⟨g0, o0, none⟩) g.rules.length x.rc) rfl (by rw [← hrp]; rfl)) rfl rfl ?_)
            refine wl_go rfl (wo_val rfl (rv_move rfl) rfl rfl ?_)
            refine wl_go rfl (wo_val rfl (rv_indexAddr rfl rfl (by omega)) rfl rfl ?_)
            refine wl_go rfl (wo_val rfl (rv_load_cell rfl (fun w4 hs4 => hcell w4 (hs4.below rfl))) rfl rfl ?_)
            refine wl_go rfl (wo_bs [_] rfl rfl rfl (⟨rfl, rfl, ⟨_, rfl, rfl⟩, trivial⟩) rfl rfl (fun b68 hb68 => ?_))
            refine wl_go rfl (wo_append rfl rfl rfl rfl rfl [_, _] ⟨[_], rfl⟩ ((hH.row (50, v6, vs) (by simp)).beside hb68 |>.ids rfl) (by have := hvals.1; have := fk_len g k; unfold maxLen; simp only; omega) rfl rfl rfl (fun v7 w7 hR7 hm7 ho7 => ?_))
            have hH7 := hH.first (own3 := _ :: _) hm7 (by intro y hy; rcases List.mem_cons.1 hy with rfl | hy; exact .inr hb68; exact .inl ⟨y, hy, rfl⟩) (rw_snoc hR7) ho7 (fun y hy => ⟨y, hy, rfl⟩)
            refine wl_go rfl (wo_val rfl (rv_assign rfl) rfl rfl ?_)
            refine wl_nil ?_
            refine wq_in_normal ?_
            refine wq_then ?_
            refine wc_region ?_
            refine wl_go rfl (wo_val rfl (rv_move rfl) rfl rfl ?_)
            refine wl_go rfl (wo_val rfl (rv_add rfl rfl (by omega)) rfl rfl ?_)
            refine wl_go rfl (wo_val rfl (rv_assign rfl) rfl rfl ?_)
            refine wl_nil ?_
            refine wq_round ⟨_, _, ⟨k + 1, _, vs ++ [.slice q r.length d], _, by omega, ?_, hH7, rfl, rfl, rfl⟩, by omega, by repeat (first | exact sub_nil | refine sub_cons rfl ?_)⟩
            rw [fk_snoc hr, if_pos hc61]
            exact vals_snoc hvals hrow
          · skip
            refine wc_skip ?_
            refine wq_in_normal ?_
            refine wq_then ?_
            refine wc_region ?_
            refine wl_go rfl (wo_val rfl (rv_move rfl) rfl rfl ?_)
            refine wl_go rfl (wo_val rfl (rv_add rfl rfl (by omega)) rfl rfl ?_)
            refine wl_go rfl (wo_val rfl (rv_assign rfl) rfl rfl ?_)
            refine wl_nil ?_
            refine wq_round ⟨_, _, ⟨k + 1, _, vs, _, by omega, ?_, hH, rfl, rfl, rfl⟩, by omega, by repeat (first | exact sub_nil | refine sub_cons rfl ?_)⟩
            rw [fk_snoc hr, if_neg (by rw [show r.all (bg (markF g true)) = false from hc61]; simp), List.append_nil]
            exact hvals
      · simp only [decide_eq_true_eq, decide_eq_false_iff_not, Bool.not_eq_true', Bool.not_eq_false', bne_iff_ne, beq_iff_eq, bne_eq_false_iff_eq, beq_eq_false_iff_ne, Int.not_lt, Int.not_le] at hc34
        obtain rfl : k = g.rules.length := by omega
        rw [fk_all] at hvals
        obtain ⟨p6, c6, rfl, _⟩ := rv_ofn (rw_conv (hH.row (50, v6, vs) (by simp)) (m := (rules1 g).length) hvals.1 rfl).own
        refine wc_exit ?_
        refine wq_then_exit ?_
        refine wq_then_exit ?_
        refine wq_in_here ?_
        refine wq_then ?_
        refine wc_seq ?_
        refine wc_region ?_
        refine wl_go rfl (wo_val rfl (rv_load_own_row rfl) rfl rfl ?_)
        refine wl_go rfl (wo_val rfl (rv_move rfl) rfl rfl ?_)
        refine wl_go rfl (wo_call (R := fun w2 v w3 => ∃ p c, v = .slice p g.names.length c ∧ w3.ownsRow w2.heap.size 4 1 (.slice p g.names.length c) g.names.length ((below1 g).map bv)) rfl rfl (enters_of Try.func139 (by kernel_rfl) rfl) rfl rfl rfl (fun w4 hs4 => (rreached_calls x g p6 c6 (rules1 g) w4 (vals_rr (rv_slice_of ((hH.row (50, .slice p6 (rules1 g).length c6, vs) (by simp)).at hs4)) (hvals.same (fun k hk => (hs4.below rfl).block k hk))) hI1 hst.2 hnm).mono fun e w' h => let ⟨p, c, h1, h2, h3⟩ := h; ⟨_, h1, ⟨p, c, rfl, h2⟩, h3⟩) (fun w2i vi w3i hs2i hvi hb2i hm2i => ?_))
        obtain ⟨p10, c10, rfl, hino⟩ := hvi
        obtain ⟨gi, oi, rfl, _⟩ := (rv_slice_of hino).at_ g.start.toNat _ (map_get (f := bv) (bg_get (σ := (below1 g)) (n := g.start) (by rw [hTl]; omega)))
        have hH5 := hH.new hs2i hm2i hino
        refine wl_go rfl (wo_val rfl (rv_assign rfl) rfl rfl ?_)
        refine wl_nil ?_
        refine wq_then ?_
        refine wc_seq ?_
        refine wc_region ?_
        refine wl_go rfl (wo_val rfl (rv_fieldAddr rfl) rfl rfl ?_)
        refine wl_go rfl (wo_val rfl (rv_load_own rfl rfl) rfl rfl ?_)
        refine wl_go rfl (wo_val rfl (rv_fieldAddr rfl) rfl rfl ?_)
        refine wl_go rfl (wo_val rfl (rv_load_own rfl rfl) rfl rfl ?_)
        refine wl_go rfl (wo_val rfl (rv_build [(1, _), (2, _)] (⟨rfl, ⟨_, rfl, rfl⟩, ⟨rfl, ⟨_, rfl, rfl⟩, trivial⟩⟩)) rfl rfl ?_)
        refine wl_go rfl (wo_alloc rfl rfl rfl (fun b11 hb11 => ?_))
        refine wl_go rfl (wo_st rfl rfl rfl rfl rfl rfl rfl ?_)
        have hH6 := (hH5.beside (o := .cells #[] 0) hb11).ids (gs' := G0) (own' := [⟨b11, .cells ([.slice none 0 0, iv g.terms, .slice x.tp g.tokens.length x.tc, .slice none 0 0, iv 0] : List Value).toArray 60 (0, 0)⟩, ⟨b2, .cells ([.slice none 0 0, .int .i64 0, .slice none 0 0, .slice none 0 0, .int .i64 0] : List Value).toArray 60 (0, 0)⟩, ⟨b1, .cells (gC x g).toArray 60 (0, 0)⟩]) rfl
        refine wl_nil ?_
        refine wq_then ?_
        refine wc_seq ?_
        refine wc_region ?_
        refine wl_go rfl (wo_val rfl (rv_assign rfl) rfl rfl ?_)
        refine wl_nil ?_
        refine wq_then ?_
        refine wc_seq ?_
        refine wc_seq ?_
        refine wc_region ?_
        refine wl_go rfl (wo_val rfl (rv_assign rfl) rfl rfl ?_)
        refine wl_nil ?_
        refine wq_then ?_
        refine wc_block ?_
        have hH40 : Hp ⟨w, G0, _, [⟨b11, .cells ([.slice none 0 0, iv g.terms, .slice x.tp g.tokens.length x.tc, .slice none 0 0, iv 0] : List Value).toArray 60 (0, 0)⟩, ⟨b2, .cells ([.slice none 0 0, .int .i64 0, .slice none 0 0, .slice none 0 0, .int .i64 0] : List Value).toArray 60 (0, 0)⟩, ⟨b1, .cells (gC x g).toArray 60 (0, 0)⟩]⟩ ((4, .slice (some ⟨gi, oi, none⟩) g.names.length c10, (below1 g).map bv) :: (50, .slice p6 (rules1 g).length c6, vs) :: []) := ⟨fun y hy => hH6.row y (by simp at hy ⊢; rcases hy with rfl | rfl <;> simp), (List.Pairwise.sublist (by simp) hH6.ap)⟩
        have hH41 := (hH40.none_ 9).none_ 3
        refine wc_loop (fun m l S => ∃ (k : Nat) (vn vm : Value) (w1 : World), k ≤ g.names.length ∧ Hp ⟨w, G0, w1, [⟨b11, .cells ([vm, iv g.terms, .slice x.tp g.tokens.length x.tc, .slice none 0 0, iv 0] : List Value).toArray 60 (0, 0)⟩, ⟨b2, .cells ([.slice none 0 0, .int .i64 0, .slice none 0 0, .slice none 0 0, .int .i64 0] : List Value).toArray 60 (0, 0)⟩, ⟨b1, .cells (gC x g).toArray 60 (0, 0)⟩]⟩ ((3, vn, (numS g (below1 g) k).1.map iv) :: (9, vm, (numS g (below1 g) k).2.map sv) :: (4, .slice (some ⟨gi, oi, none⟩) g.names.length c10, (below1 g).map bv) :: (50, .slice p6 (rules1 g).length c6, vs) :: []) ∧ m = g.names.length - k ∧ l = [(1, .pointer (some ⟨b1, 0, none⟩)), (2, .pointer (some ⟨b2, 0, none⟩)), (6, .slice p6 (rules1 g).length c6), (10, .slice (some ⟨gi, oi, none⟩) g.names.length c10), (11, .pointer (some ⟨b11, 0, none⟩)), (12, vn), (13, iv (k : Int))] ∧ S = ⟨w, G0, w1, [⟨b11, .cells ([vm, iv g.terms, .slice x.tp g.tokens.length x.tc, .slice none 0 0, iv 0] : List Value).toArray 60 (0, 0)⟩, ⟨b2, .cells ([.slice none 0 0, .int .i64 0, .slice none 0 0, .slice none 0 0, .int .i64 0] : List Value).toArray 60 (0, 0)⟩, ⟨b1, .cells (gC x g).toArray 60 (0, 0)⟩]⟩) ⟨_, _, ⟨0, .slice none 0 0, .slice none 0 0, _, Nat.zero_le _, hH41, rfl, rfl, rfl⟩, by repeat (first | exact sub_nil | refine sub_cons rfl ?_)⟩ ?_
        intro m l S hJ
        obtain ⟨k, vn, vm, w1, hk, hH, rfl, rfl, rfl⟩ := hJ
        obtain ⟨pn, cn, rfl, _⟩ := rv_ofn (rw_conv (hH.row (3, vn, (numS g (below1 g) k).1.map iv) (by simp)) (m := (numS g (below1 g) k).1.length) (by rw [List.length_map]) rfl).own
        obtain ⟨pm, cm, rfl, _⟩ := rv_ofn (rw_conv (hH.row (9, vm, (numS g (below1 g) k).2.map sv) (by simp)) (m := (numS g (below1 g) k).2.length) (by rw [List.length_map]) rfl).own
        refine wc_seq ?_
        refine wc_seq ?_
        refine wc_region ?_
        refine wl_go rfl (wo_val rfl (rv_move rfl) rfl rfl ?_)
        refine wl_go rfl (wo_val rfl (rv_fieldAddr0 rfl) rfl rfl ?_)
        refine wl_go rfl (wo_val rfl (rv_load_own rfl rfl) rfl rfl ?_)
        refine wl_go rfl (wo_val rfl (rv_len rfl) rfl rfl ?_)
        refine wl_go rfl (wo_val rfl (rv_cmp_i rfl rfl rfl) rfl rfl ?_)
        refine wl_nil ?_
        refine wq_then ?_
        refine wc_cond rfl (fun hc82 => ?_) (fun hc82 => ?_)
        · simp only [decide_eq_true_eq, decide_eq_false_iff_not, Bool.not_eq_true', Bool.not_eq_false', bne_iff_ne, beq_iff_eq, bne_eq_false_iff_eq, beq_eq_false_iff_ne, Int.not_lt, Int.not_le] at hc82
          obtain ⟨nk, hnk⟩ := getE (l := g.names) (i := k) (by omega)
          obtain ⟨g0, o0, hnp, hcn⟩ := hg.names.read (map_get hnk)
          refine wc_skip ?_
          refine wq_then ?_
          refine wc_seq ?_
          refine wc_block ?_
          refine wc_seq ?_
          refine wc_region ?_
          refine wl_go rfl (wo_val rfl (rv_move rfl) rfl rfl ?_)
          refine wl_go rfl (wo_val rfl (rv_fieldAddr rfl) rfl rfl ?_)
          refine wl_go rfl (wo_val rfl (rv_load_own rfl rfl) rfl rfl ?_)
          refine wl_go rfl (wo_val rfl (rv_cmp_i rfl rfl rfl) rfl rfl ?_)
          refine wl_go rfl (wo_val rfl (rv_move rfl) rfl rfl ?_)
          refine wl_split (d := 89) rfl true (fun hg23_4 => ?_) (fun hg23_4 => ?_)
          · skip
            have hkt0 : (k : Int) < g.terms := by simpa using hg23_4
            refine wl_skip rfl rfl rfl rfl rfl hg23_4 rfl ?_
            refine wl_skip rfl rfl rfl rfl rfl hg23_4 rfl ?_
            refine wl_skip rfl rfl rfl rfl rfl hg23_4 rfl ?_
            refine wl_skip rfl rfl rfl rfl rfl hg23_4 rfl ?_
            refine wl_go rfl (wo_val rfl (rv_pick_t rfl hg23_4 rfl) rfl rfl ?_)
            refine wl_nil ?_
            refine wq_then ?_
            refine wc_cond_t rfl rfl ?_
            refine wc_seq ?_
            refine wc_region ?_
            refine wl_go rfl (wo_val rfl (rv_move rfl) rfl rfl ?_)
            refine wl_go rfl (wo_val rfl (rv_fieldAddr0 rfl) rfl rfl ?_)
            refine wl_go rfl (wo_val rfl (rv_load_own rfl rfl) rfl rfl ?_)
            refine wl_go rfl (wo_val rfl (rv_len rfl) rfl rfl ?_)
            refine wl_go rfl (wo_bs [_] rfl rfl rfl (⟨rfl, rfl, ⟨_, rfl, rfl⟩, trivial⟩) rfl rfl (fun b99 hb99 => ?_))
            refine wl_go rfl (wo_append rfl rfl rfl rfl rfl [_, _, _] ⟨[_], rfl⟩ ((hH.row (3, .slice pn (numS g (below1 g) k).1.length cn, (numS g (below1 g) k).1.map iv) (by simp)).beside hb99 |>.ids rfl) (by rw [List.length_map]; have := numS_len g (below1 g) k; unfold maxLen; omega) rfl rfl rfl (fun v7 w7 hR7 hm7 ho7 => ?_))
            have hH7 := hH.first (own3 := _ :: _) hm7 (by intro y hy; rcases List.mem_cons.1 hy with rfl | hy; exact .inr hb99; exact .inl ⟨y, hy, rfl⟩) (rw_snoc hR7) ho7 (fun y hy => ⟨y, hy, rfl⟩)
            refine wl_go rfl (wo_val rfl (rv_assign rfl) rfl rfl ?_)
            refine wl_nil ?_
            refine wq_then ?_
            refine wc_region_stage (by kernel_rfl) (by kernel_rfl) ?_
            refine ws_q (i := 0) rfl (by kernel_rfl) (rq_val rfl rfl rfl (rv_fieldAddr0 rfl)) rfl rfl ?_
            refine ws_q (i := 1) rfl (by kernel_rfl) (rq_val rfl rfl rfl (rv_load_own rfl rfl)) rfl rfl ?_
            refine ws_q (i := 2) rfl (by kernel_rfl) (rq_val rfl rfl rfl (rv_fieldAddr0 rfl)) rfl rfl ?_
            refine ws_q (i := 3) rfl (by kernel_rfl) (rq_val rfl rfl rfl (rv_load_own (v := .slice (some ⟨g0, o0, none⟩) g.names.length x.nc) rfl (by rw [← hnp]; rfl))) rfl rfl ?_
            refine ws_q (i := 4) rfl (by kernel_rfl) (rq_val rfl rfl rfl (rv_move rfl)) rfl rfl ?_
            refine ws_q (i := 5) rfl (by kernel_rfl) (rq_val rfl rfl rfl (rv_indexAddr rfl rfl (by omega))) rfl rfl ?_
            refine ws_q (i := 6) rfl (by kernel_rfl) (rq_val rfl rfl rfl (rv_load_cell rfl (fun w4 hs4 => hcn w4 (hs4.below rfl)))) rfl rfl ?_
            refine ws_w 7 rfl (by kernel_rfl) (by kernel_rfl) rfl (wo_bs [_] rfl rfl rfl (⟨rfl, rfl, ⟨_, rfl, rfl⟩, trivial⟩) rfl rfl (fun b108 hb108 => ?_))
            refine wl_stage (pa_drop (by kernel_rfl) (pa_drop (by kernel_rfl) (pa_drop (by kernel_rfl) (pa_drop (by kernel_rfl) (pa_drop (by kernel_rfl) (pa_keep (rq_val rfl rfl rfl (rv_load_own rfl rfl)) (pa_keep (rq_val rfl rfl rfl (rv_fieldAddr0 rfl)) (pa_nil)))))))) ?_
            refine ws_w 8 rfl (by kernel_rfl) (by kernel_rfl) rfl (wo_append rfl rfl rfl rfl rfl [_, _, _] ⟨[_], rfl⟩ ((hH7.row (9, .slice pm (numS g (below1 g) k).2.length cm, (numS g (below1 g) k).2.map sv) (by simp)).beside hb108 |>.ids rfl) (by rw [List.length_map]; have := numS_len g (below1 g) k; unfold maxLen; omega) rfl rfl rfl (fun v9 w9 hR9 hm9 ho9 => ?_))
            have hH9 := (hH7.swap.first (own3 := _ :: _) hm9 (by intro y hy; rcases List.mem_cons.1 hy with rfl | hy; exact .inr hb108; exact .inl ⟨y, hy, rfl⟩) (rw_snoc hR9) ho9 (fun y hy => ⟨y, hy, rfl⟩)).swap
            have hR9b : Rw ⟨w, G0, w9, [_, _, _]⟩ 9 1 v9 ((numS g (below1 g) k).2.length + 1) _ := rw_conv hR9 (by rw [List.length_map]) rfl
            obtain ⟨p9, c9, rfl, _⟩ := rv_ofn hR9b.own
            refine wl_stage (pa_drop (by kernel_rfl) (pa_drop (by kernel_rfl) (pa_nil))) ?_
            refine ws_q (i := 9) rfl (by kernel_rfl) (rq_val rfl rfl rfl (rv_fieldAddr0 rfl)) rfl rfl ?_
            refine ws_w 10 rfl (by kernel_rfl) (by kernel_rfl) rfl (wo_st rfl rfl rfl rfl rfl rfl rfl ?_)
            refine wl_stage (pa_drop (by kernel_rfl) (pa_nil)) ?_
            refine ws_nil (by kernel_rfl) ?_
            refine wq_in_normal ?_
            refine wq_then ?_
            refine wc_region ?_
            refine wl_go rfl (wo_val rfl (rv_move rfl) rfl rfl ?_)
            refine wl_go rfl (wo_val rfl (rv_add rfl rfl (by omega)) rfl rfl ?_)
            refine wl_go rfl (wo_val rfl (rv_assign rfl) rfl rfl ?_)
            refine wl_nil ?_
            have e1 : numS g (below1 g) (k + 1) = ((numS g (below1 g) k).1 ++ [((numS g (below1 g) k).2.length : Int)], (numS g (below1 g) k).2 ++ [nk]) := by
              rw [numS, if_neg (by rw [decide_eq_false (by omega)]; simp), List.getD_eq_getElem?_getD, hnk]; rfl
            refine wq_round ⟨_, _, ⟨k + 1, _, _, _, by omega, ?_, rfl, rfl, rfl⟩, by omega, by repeat (first | exact sub_nil | refine sub_cons rfl ?_)⟩
            rw [e1, List.map_append, List.map_append]
            exact hH9.ids rfl
          · skip
            have hkt : g.terms ≤ (k : Int) := by simpa using hg23_4
            refine wl_want rfl rfl rfl rfl rfl hg23_4 (wo_val rfl (rv_move rfl) rfl rfl ?_)
            refine wl_want rfl rfl rfl rfl rfl hg23_4 (wo_val rfl (rv_move rfl) rfl rfl ?_)
            refine wl_want rfl rfl rfl rfl rfl hg23_4 (wo_val rfl (rv_indexAddr rfl rfl (by omega)) rfl rfl ?_)
            refine wl_want rfl rfl rfl rfl rfl hg23_4 (wo_val rfl (rv_load_cell (v := bv (bg (below1 g) (k : Int))) rfl (fun w4 hs4 => rw_cell (rw_conv (hH.row (4, .slice (some ⟨gi, oi, none⟩) g.names.length c10, (below1 g).map bv) (by simp)) (m := g.names.length) (by simp only [List.length_map] <;> exact hTl) rfl) (map_get (bg_get (by rw [hTl]; omega))) hs4)) rfl rfl ?_)
            refine wl_go rfl (wo_val rfl (rv_pick_f rfl hg23_4 rfl) rfl rfl ?_)
            refine wl_nil ?_
            refine wq_then ?_
            refine wc_cond rfl (fun hc94 => ?_) (fun hc94 => ?_)
            · skip
              refine wc_seq ?_
              refine wc_region ?_
              refine wl_go rfl (wo_val rfl (rv_move rfl) rfl rfl ?_)
              refine wl_go rfl (wo_val rfl (rv_fieldAddr0 rfl) rfl rfl ?_)
              refine wl_go rfl (wo_val rfl (rv_load_own rfl rfl) rfl rfl ?_)
              refine wl_go rfl (wo_val rfl (rv_len rfl) rfl rfl ?_)
              refine wl_go rfl (wo_bs [_] rfl rfl rfl (⟨rfl, rfl, ⟨_, rfl, rfl⟩, trivial⟩) rfl rfl (fun b99 hb99 => ?_))
              refine wl_go rfl (wo_append rfl rfl rfl rfl rfl [_, _, _] ⟨[_], rfl⟩ ((hH.row (3, .slice pn (numS g (below1 g) k).1.length cn, (numS g (below1 g) k).1.map iv) (by simp)).beside hb99 |>.ids rfl) (by rw [List.length_map]; have := numS_len g (below1 g) k; unfold maxLen; omega) rfl rfl rfl (fun v7 w7 hR7 hm7 ho7 => ?_))
              have hH7 := hH.first (own3 := _ :: _) hm7 (by intro y hy; rcases List.mem_cons.1 hy with rfl | hy; exact .inr hb99; exact .inl ⟨y, hy, rfl⟩) (rw_snoc hR7) ho7 (fun y hy => ⟨y, hy, rfl⟩)
              refine wl_go rfl (wo_val rfl (rv_assign rfl) rfl rfl ?_)
              refine wl_nil ?_
              refine wq_then ?_
              refine wc_region_stage (by kernel_rfl) (by kernel_rfl) ?_
              refine ws_q (i := 0) rfl (by kernel_rfl) (rq_val rfl rfl rfl (rv_fieldAddr0 rfl)) rfl rfl ?_
              refine ws_q (i := 1) rfl (by kernel_rfl) (rq_val rfl rfl rfl (rv_load_own rfl rfl)) rfl rfl ?_
              refine ws_q (i := 2) rfl (by kernel_rfl) (rq_val rfl rfl rfl (rv_fieldAddr0 rfl)) rfl rfl ?_
              refine ws_q (i := 3) rfl (by kernel_rfl) (rq_val rfl rfl rfl (rv_load_own (v := .slice (some ⟨g0, o0, none⟩) g.names.length x.nc) rfl (by rw [← hnp]; rfl))) rfl rfl ?_
              refine ws_q (i := 4) rfl (by kernel_rfl) (rq_val rfl rfl rfl (rv_move rfl)) rfl rfl ?_
              refine ws_q (i := 5) rfl (by kernel_rfl) (rq_val rfl rfl rfl (rv_indexAddr rfl rfl (by omega))) rfl rfl ?_
              refine ws_q (i := 6) rfl (by kernel_rfl) (rq_val rfl rfl rfl (rv_load_cell rfl (fun w4 hs4 => hcn w4 (hs4.below rfl)))) rfl rfl ?_
              refine ws_w 7 rfl (by kernel_rfl) (by kernel_rfl) rfl (wo_bs [_] rfl rfl rfl (⟨rfl, rfl, ⟨_, rfl, rfl⟩, trivial⟩) rfl rfl (fun b108 hb108 => ?_))
              refine wl_stage (pa_drop (by kernel_rfl) (pa_drop (by kernel_rfl) (pa_drop (by kernel_rfl) (pa_drop (by kernel_rfl) (pa_drop (by kernel_rfl) (pa_keep (rq_val rfl rfl rfl (rv_load_own rfl rfl)) (pa_keep (rq_val rfl rfl rfl (rv_fieldAddr0 rfl)) (pa_nil)))))))) ?_
              refine ws_w 8 rfl (by kernel_rfl) (by kernel_rfl) rfl (wo_append rfl rfl rfl rfl rfl [_, _, _] ⟨[_], rfl⟩ ((hH7.row (9, .slice pm (numS g (below1 g) k).2.length cm, (numS g (below1 g) k).2.map sv) (by simp)).beside hb108 |>.ids rfl) (by rw [List.length_map]; have := numS_len g (below1 g) k; unfold maxLen; omega) rfl rfl rfl (fun v9 w9 hR9 hm9 ho9 => ?_))
              have hH9 := (hH7.swap.first (own3 := _ :: _) hm9 (by intro y hy; rcases List.mem_cons.1 hy with rfl | hy; exact .inr hb108; exact .inl ⟨y, hy, rfl⟩) (rw_snoc hR9) ho9 (fun y hy => ⟨y, hy, rfl⟩)).swap
              have hR9b : Rw ⟨w, G0, w9, [_, _, _]⟩ 9 1 v9 ((numS g (below1 g) k).2.length + 1) _ := rw_conv hR9 (by rw [List.length_map]) rfl
              obtain ⟨p9, c9, rfl, _⟩ := rv_ofn hR9b.own
              refine wl_stage (pa_drop (by kernel_rfl) (pa_drop (by kernel_rfl) (pa_nil))) ?_
              refine ws_q (i := 9) rfl (by kernel_rfl) (rq_val rfl rfl rfl (rv_fieldAddr0 rfl)) rfl rfl ?_
              refine ws_w 10 rfl (by kernel_rfl) (by kernel_rfl) rfl (wo_st rfl rfl rfl rfl rfl rfl rfl ?_)
              refine wl_stage (pa_drop (by kernel_rfl) (pa_nil)) ?_
              refine ws_nil (by kernel_rfl) ?_
              refine wq_in_normal ?_
              refine wq_then ?_
              refine wc_region ?_
              refine wl_go rfl (wo_val rfl (rv_move rfl) rfl rfl ?_)
              refine wl_go rfl (wo_val rfl (rv_add rfl rfl (by omega)) rfl rfl ?_)
              refine wl_go rfl (wo_val rfl (rv_assign rfl) rfl rfl ?_)
              refine wl_nil ?_
              have e1 : numS g (below1 g) (k + 1) = ((numS g (below1 g) k).1 ++ [((numS g (below1 g) k).2.length : Int)], (numS g (below1 g) k).2 ++ [nk]) := by
                rw [numS, if_neg (by rw [show bg (below1 g) (k : Int) = true from hc94]; simp), List.getD_eq_getElem?_getD, hnk]; rfl
              refine wq_round ⟨_, _, ⟨k + 1, _, _, _, by omega, ?_, rfl, rfl, rfl⟩, by omega, by repeat (first | exact sub_nil | refine sub_cons rfl ?_)⟩
              rw [e1, List.map_append, List.map_append]
              exact hH9.ids rfl
            · skip
              refine wc_region ?_
              refine wl_go rfl (wo_val rfl (rv_move rfl) rfl rfl ?_)
              refine wl_go rfl (wo_bs [_] rfl rfl rfl (⟨rfl, rfl, ⟨_, rfl, rfl⟩, trivial⟩) rfl rfl (fun b112 hb112 => ?_))
              refine wl_go rfl (wo_append rfl rfl rfl rfl rfl [_, _, _] ⟨[_], rfl⟩ ((hH.row (3, .slice pn (numS g (below1 g) k).1.length cn, (numS g (below1 g) k).1.map iv) (by simp)).beside hb112 |>.ids rfl) (by rw [List.length_map]; have := numS_len g (below1 g) k; unfold maxLen; omega) rfl rfl rfl (fun v7 w7 hR7 hm7 ho7 => ?_))
              have hH7 := hH.first (own3 := _ :: _) hm7 (by intro y hy; rcases List.mem_cons.1 hy with rfl | hy; exact .inr hb112; exact .inl ⟨y, hy, rfl⟩) (rw_snoc hR7) ho7 (fun y hy => ⟨y, hy, rfl⟩)
              refine wl_go rfl (wo_val rfl (rv_assign rfl) rfl rfl ?_)
              refine wl_nil ?_
              refine wq_in_normal ?_
              refine wq_then ?_
              refine wc_region ?_
              refine wl_go rfl (wo_val rfl (rv_move rfl) rfl rfl ?_)
              refine wl_go rfl (wo_val rfl (rv_add rfl rfl (by omega)) rfl rfl ?_)
              refine wl_go rfl (wo_val rfl (rv_assign rfl) rfl rfl ?_)
              refine wl_nil ?_
              have e1 : numS g (below1 g) (k + 1) = ((numS g (below1 g) k).1 ++ [-1], (numS g (below1 g) k).2) := by
                rw [numS, if_pos (by rw [decide_eq_true hkt, hc94]; rfl)]
              refine wq_round ⟨_, _, ⟨k + 1, _, _, _, by omega, ?_, rfl, rfl, rfl⟩, by omega, by repeat (first | exact sub_nil | refine sub_cons rfl ?_)⟩
              rw [e1, List.map_append]
              exact hH7.ids rfl
        · simp only [decide_eq_true_eq, decide_eq_false_iff_not, Bool.not_eq_true', Bool.not_eq_false', bne_iff_ne, beq_iff_eq, bne_eq_false_iff_eq, beq_eq_false_iff_ne, Int.not_lt, Int.not_le] at hc82
          obtain rfl : k = g.names.length := by omega
          have hnl : (numF g).1.length = g.names.length := (numS_len _ _ _).1
          have hr1l : (rules1 g).length ≤ 256 := Nat.le_trans (List.length_filter_le _ _) hr2
          refine wc_exit ?_
          refine wq_then_exit ?_
          refine wq_then_exit ?_
          refine wq_in_here ?_
          refine wq_then ?_
          refine wc_seq ?_
          refine wc_seq ?_
          refine wc_region ?_
          refine wl_go rfl (wo_val rfl (rv_assign rfl) rfl rfl ?_)
          refine wl_nil ?_
          refine wq_then ?_
          refine wc_block ?_
          have hH60 := hH.none_ 50
          refine wc_loop (fun m l S => ∃ (k : Nat) (vr : Value) (vs2 : List Value) (w1 : World), k ≤ (rules1 g).length ∧ vs2.length = (rules2 (numF g).1 (below1 g) ((rules1 g).take k)).length ∧ Hp ⟨w, G0, w1, [⟨b11, .cells ([.slice pm (numF g).2.length cm, iv g.terms, .slice x.tp g.tokens.length x.tc, vr, iv 0] : List Value).toArray 60 (0, 0)⟩, ⟨b2, .cells ([.slice none 0 0, .int .i64 0, .slice none 0 0, .slice none 0 0, .int .i64 0] : List Value).toArray 60 (0, 0)⟩, ⟨b1, .cells (gC x g).toArray 60 (0, 0)⟩]⟩ ((50, vr, vs2) :: (3, .slice pn (numF g).1.length cn, (numF g).1.map iv) :: (9, .slice pm (numF g).2.length cm, (numF g).2.map sv) :: (4, .slice (some ⟨gi, oi, none⟩) g.names.length c10, (below1 g).map bv) :: (50, .slice p6 (rules1 g).length c6, vs) :: rowsL vs2 (rules2 (numF g).1 (below1 g) ((rules1 g).take k))) ∧ m = (rules1 g).length - k ∧ l = [(1, .pointer (some ⟨b1, 0, none⟩)), (2, .pointer (some ⟨b2, 0, none⟩)), (6, .slice p6 (rules1 g).length c6), (10, .slice (some ⟨gi, oi, none⟩) g.names.length c10), (11, .pointer (some ⟨b11, 0, none⟩)), (12, .slice pn (numF g).1.length cn), (14, iv (k : Int))] ∧ S = ⟨w, G0, w1, [⟨b11, .cells ([.slice pm (numF g).2.length cm, iv g.terms, .slice x.tp g.tokens.length x.tc, vr, iv 0] : List Value).toArray 60 (0, 0)⟩, ⟨b2, .cells ([.slice none 0 0, .int .i64 0, .slice none 0 0, .slice none 0 0, .int .i64 0] : List Value).toArray 60 (0, 0)⟩, ⟨b1, .cells (gC x g).toArray 60 (0, 0)⟩]⟩) ⟨_, _, ⟨0, .slice none 0 0, [], _, Nat.zero_le _, rfl, hH60, rfl, rfl, rfl⟩, by repeat (first | exact sub_nil | refine sub_cons rfl ?_)⟩ ?_
          intro m l S hJ
          obtain ⟨k, vr, vs2, w1, hk, hvl, hH, rfl, rfl, rfl⟩ := hJ
          have hvr : w1.ownsRow w.heap.size 50 1 vr vs2.length vs2 := (hH.row (50, vr, vs2) (by simp)).own
          obtain ⟨pr, cr, rfl, _⟩ := rv_ofn hvr
          refine wc_seq ?_
          refine wc_seq ?_
          refine wc_region ?_
          refine wl_go rfl (wo_val rfl (rv_move rfl) rfl rfl ?_)
          refine wl_go rfl (wo_val rfl (rv_move rfl) rfl rfl ?_)
          refine wl_go rfl (wo_val rfl (rv_len rfl) rfl rfl ?_)
          refine wl_go rfl (wo_val rfl (rv_cmp_i rfl rfl rfl) rfl rfl ?_)
          refine wl_nil ?_
          refine wq_then ?_
          refine wc_cond rfl (fun hc117 => ?_) (fun hc117 => ?_)
          · simp only [decide_eq_true_eq, decide_eq_false_iff_not, Bool.not_eq_true', Bool.not_eq_false', bne_iff_ne, beq_iff_eq, bne_eq_false_iff_eq, beq_eq_false_iff_ne, Int.not_lt, Int.not_le] at hc117
            obtain ⟨r, hr⟩ := getE (l := rules1 g) (i := k) (by omega)
            obtain ⟨vk, hvk⟩ := getE (l := vs) (i := k) (by rw [hvals.1]; omega)
            obtain ⟨q, d, rfl, hrow⟩ := hvals.2 k vk r hvk hr
            have hrm := hI1 r (List.mem_of_getElem? hr)
            have hrp1 := hrm.1
            have hfl := (hok.fits (List.mem_filter.1 (List.mem_of_getElem? hr)).1).len
            obtain ⟨y, hy⟩ := getE hrp1
            have hyd : r.headD 0 = y := by rw [List.headD_eq_head?_getD, List.head?_eq_getElem?, hy]; rfl
            have hyr := hrm.2 y (List.mem_of_getElem? hy)
            obtain ⟨g1, o1, rfl, hcell1⟩ := hrow.read (map_get hy)
            obtain ⟨g6, o6, rfl, _⟩ := (rv_slice_of (hH.row (50, .slice p6 (rules1 g).length c6, vs) (by simp)).own).at_ k _ hvk
            refine wc_skip ?_
            refine wq_then ?_
            refine wc_seq ?_
            refine wc_block ?_
            refine wc_seq ?_
            refine wc_seq ?_
            refine wc_region ?_
            refine wl_go rfl (wo_val rfl (rv_move rfl) rfl rfl ?_)
            refine wl_go rfl (wo_val rfl (rv_move rfl) rfl rfl ?_)
            refine wl_go rfl (wo_val rfl (rv_move rfl) rfl rfl ?_)
            refine wl_go rfl (wo_val rfl (rv_indexAddr rfl rfl (by omega)) rfl rfl ?_)
            refine wl_go rfl (wo_val rfl (rv_load_cell (v := .slice (some ⟨g1, o1, none⟩) r.length d) rfl (fun w4 hs4 => rw_cell (rw_conv (hH.row (50, .slice (some ⟨g6, o6, none⟩) (rules1 g).length c6, vs) (by simp)) (m := (rules1 g).length) hvals.1 rfl) hvk hs4)) rfl rfl ?_)
            refine wl_go rfl (wo_val rfl (rv_indexAddr rfl rfl (by omega)) rfl rfl ?_)
            refine wl_go rfl (wo_val rfl (rv_load_cell rfl (fun w4 hs4 => hcell1 w4 (hs4.below rfl))) rfl rfl ?_)
            refine wl_go rfl (wo_val rfl (rv_indexAddr rfl rfl (by omega)) rfl rfl ?_)
            refine wl_go rfl (wo_val rfl (rv_load_cell (v := bv (bg (below1 g) y)) rfl (fun w4 hs4 => rw_cell (rw_conv (hH.row (4, .slice (some ⟨gi, oi, none⟩) g.names.length c10, (below1 g).map bv) (by simp)) (m := g.names.length) (by simp only [List.length_map] <;> exact hTl) rfl) (map_get (bg_get (by rw [hTl]; omega))) hs4)) rfl rfl ?_)
            refine wl_go rfl (wo_val rfl (rv_not rfl) rfl rfl ?_)
            refine wl_nil ?_
            refine wq_then ?_
            refine wc_cond rfl (fun hc129 => ?_) (fun hc129 => ?_)
            · simp only [decide_eq_true_eq, decide_eq_false_iff_not, Bool.not_eq_true', Bool.not_eq_false', bne_iff_ne, beq_iff_eq, bne_eq_false_iff_eq, beq_eq_false_iff_ne, Int.not_lt, Int.not_le] at hc129
              refine wc_exit ?_
              refine wq_then_exit ?_
              refine wq_in_here ?_
              refine wq_then ?_
              refine wc_region ?_
              refine wl_go rfl (wo_val rfl (rv_move rfl) rfl rfl ?_)
              refine wl_go rfl (wo_val rfl (rv_add rfl rfl (by omega)) rfl rfl ?_)
              refine wl_go rfl (wo_val rfl (rv_assign rfl) rfl rfl ?_)
              refine wl_nil ?_
              have e2 : (rules2 (numF g).1 (below1 g) ((rules1 g).take (k + 1))) = (rules2 (numF g).1 (below1 g) ((rules1 g).take k)) := by
                rw [List.take_add_one, hr, Option.toList_some, rules2_snoc, if_neg (by rw [hyd, hc129]; simp), List.append_nil]
              refine wq_round ⟨_, _, ⟨k + 1, _, vs2, _, by omega, by rw [e2]; exact hvl, by rw [e2]; exact hH, rfl, rfl, rfl⟩, by omega, by repeat (first | exact sub_nil | refine sub_cons rfl ?_)⟩
            · simp only [decide_eq_true_eq, decide_eq_false_iff_not, Bool.not_eq_true', Bool.not_eq_false', bne_iff_ne, beq_iff_eq, bne_eq_false_iff_eq, beq_eq_false_iff_ne, Int.not_lt, Int.not_le] at hc129
              refine wc_skip ?_
              refine wq_then ?_
              refine wc_seq ?_
              refine wc_region ?_
              refine wl_go rfl (wo_val rfl (rv_assign rfl) rfl rfl ?_)
              refine wl_nil ?_
              refine wq_then ?_
              refine wc_seq ?_
              refine wc_seq ?_
              refine wc_region ?_
              refine wl_go rfl (wo_val rfl (rv_assign rfl) rfl rfl ?_)
              refine wl_nil ?_
              refine wq_then ?_
              refine wc_block ?_
              have hH80 := hH.none_ 3
              refine wc_loop (fun m l S => ∃ (j : Nat) (v15 : Value) (w1 : World), j ≤ r.length ∧ Hp ⟨w, G0, w1, [⟨b11, .cells ([.slice pm (numF g).2.length cm, iv g.terms, .slice x.tp g.tokens.length x.tc, .slice pr vs2.length cr, iv 0] : List Value).toArray 60 (0, 0)⟩, ⟨b2, .cells ([.slice none 0 0, .int .i64 0, .slice none 0 0, .slice none 0 0, .int .i64 0] : List Value).toArray 60 (0, 0)⟩, ⟨b1, .cells (gC x g).toArray 60 (0, 0)⟩]⟩ ((3, v15, ((r.take j).map (lk (numF g).1)).map iv) :: (50, .slice pr vs2.length cr, vs2) :: (3, .slice pn (numF g).1.length cn, (numF g).1.map iv) :: (9, .slice pm (numF g).2.length cm, (numF g).2.map sv) :: (4, .slice (some ⟨gi, oi, none⟩) g.names.length c10, (below1 g).map bv) :: (50, .slice (some ⟨g6, o6, none⟩) (rules1 g).length c6, vs) :: rowsL vs2 (rules2 (numF g).1 (below1 g) ((rules1 g).take k))) ∧ m = r.length - j ∧ l = [(1, .pointer (some ⟨b1, 0, none⟩)), (2, .pointer (some ⟨b2, 0, none⟩)), (6, .slice (some ⟨g6, o6, none⟩) (rules1 g).length c6), (10, .slice (some ⟨gi, oi, none⟩) g.names.length c10), (11, .pointer (some ⟨b11, 0, none⟩)), (12, .slice pn (numF g).1.length cn), (14, iv (k : Int)), (15, v15), (16, iv (j : Int))] ∧ S = ⟨w, G0, w1, [⟨b11, .cells ([.slice pm (numF g).2.length cm, iv g.terms, .slice x.tp g.tokens.length x.tc, .slice pr vs2.length cr, iv 0] : List Value).toArray 60 (0, 0)⟩, ⟨b2, .cells ([.slice none 0 0, .int .i64 0, .slice none 0 0, .slice none 0 0, .int .i64 0] : List Value).toArray 60 (0, 0)⟩, ⟨b1, .cells (gC x g).toArray 60 (0, 0)⟩]⟩) ⟨_, _, ⟨0, .slice none 0 0, _, Nat.zero_le _, hH80, rfl, rfl, rfl⟩, by repeat (first | exact sub_nil | refine sub_cons rfl ?_)⟩ ?_
              intro m l S hJ
              obtain ⟨j, v15, w1, hj, hH8, rfl, rfl, rfl⟩ := hJ
              obtain ⟨p15, c15, rfl, _⟩ := rv_ofn (rw_conv (hH8.row (3, v15, ((r.take j).map (lk (numF g).1)).map iv) (by simp)) (m := (r.take j).length) (by rw [List.length_map, List.length_map]) rfl).own
              refine wc_seq ?_
              refine wc_seq ?_
              refine wc_region ?_
              refine wl_go rfl (wo_val rfl (rv_move rfl) rfl rfl ?_)
              refine wl_go rfl (wo_val rfl (rv_move rfl) rfl rfl ?_)
              refine wl_go rfl (wo_val rfl (rv_move rfl) rfl rfl ?_)
              refine wl_go rfl (wo_val rfl (rv_indexAddr rfl rfl (by omega)) rfl rfl ?_)
              refine wl_go rfl (wo_val rfl (rv_load_cell (v := .slice (some ⟨g1, o1, none⟩) r.length d) rfl (fun w4 hs4 => rw_cell (rw_conv (hH8.row (50, .slice (some ⟨g6, o6, none⟩) (rules1 g).length c6, vs) (by simp)) (m := (rules1 g).length) hvals.1 rfl) hvk hs4)) rfl rfl ?_)
              refine wl_go rfl (wo_val rfl (rv_len rfl) rfl rfl ?_)
              refine wl_go rfl (wo_val rfl (rv_cmp_i rfl rfl rfl) rfl rfl ?_)
              refine wl_nil ?_
              refine wq_then ?_
              refine wc_cond rfl (fun hc136 => ?_) (fun hc136 => ?_)
              · simp only [decide_eq_true_eq, decide_eq_false_iff_not, Bool.not_eq_true', Bool.not_eq_false', bne_iff_ne, beq_iff_eq, bne_eq_false_iff_eq, beq_eq_false_iff_ne, Int.not_lt, Int.not_le] at hc136
                obtain ⟨z, hz⟩ := getE (l := r) (i := j) (by omega)
                have hzr := hrm.2 z (List.mem_of_getElem? hz)
                obtain ⟨_, _, ez, hcz⟩ := hrow.read (map_get hz)
                cases ez
                obtain ⟨nz, hnz⟩ := getE (l := (numF g).1) (i := z.toNat) (by omega)
                have hlk : lk (numF g).1 z = nz := by unfold lk; rw [List.getD_eq_getElem?_getD, hnz]; rfl
                obtain ⟨gn, on, rfl, _⟩ := (rv_slice_of (hH8.row (3, .slice pn (numF g).1.length cn, (numF g).1.map iv) (by simp)).own).at_ _ _ (map_get hnz)
                refine wc_skip ?_
                refine wq_then ?_
                refine wc_seq ?_
                refine wc_block ?_
                refine wc_region ?_
                refine wl_go rfl (wo_val rfl (rv_move rfl) rfl rfl ?_)
                refine wl_go rfl (wo_val rfl (rv_move rfl) rfl rfl ?_)
                refine wl_go rfl (wo_val rfl (rv_move rfl) rfl rfl ?_)
                refine wl_go rfl (wo_val rfl (rv_move rfl) rfl rfl ?_)
                refine wl_go rfl (wo_val rfl (rv_indexAddr rfl rfl (by omega)) rfl rfl ?_)
                refine wl_go rfl (wo_val rfl (rv_load_cell (v := .slice (some ⟨g1, o1, none⟩) r.length d) rfl (fun w4 hs4 => rw_cell (rw_conv (hH8.row (50, .slice (some ⟨g6, o6, none⟩) (rules1 g).length c6, vs) (by simp)) (m := (rules1 g).length) hvals.1 rfl) hvk hs4)) rfl rfl ?_)
                refine wl_go rfl (wo_val rfl (rv_move rfl) rfl rfl ?_)
                refine wl_go rfl (wo_val rfl (rv_indexAddr rfl rfl (by omega)) rfl rfl ?_)
                refine wl_go rfl (wo_val rfl (rv_load_cell rfl (fun w4 hs4 => hcz w4 (hs4.below rfl))) rfl rfl ?_)
                refine wl_go rfl (wo_val rfl (rv_indexAddr rfl rfl (by omega)) rfl rfl ?_)
                refine wl_go rfl (wo_val rfl (rv_load_cell (v := iv nz) rfl (fun w4 hs4 => rw_cell (rw_conv (hH8.row (3, .slice (some ⟨gn, on, none⟩) (numF g).1.length cn, (numF g).1.map iv) (by simp)) (m := (numF g).1.length) (by simp only [List.length_map] <;> exact hTl) rfl) (map_get hnz) hs4)) rfl rfl ?_)
                refine wl_go rfl (wo_bs [_] rfl rfl rfl (⟨rfl, rfl, ⟨_, rfl, rfl⟩, trivial⟩) rfl rfl (fun b150 hb150 => ?_))
                refine wl_go rfl (wo_append rfl rfl rfl rfl rfl [_, _, _] ⟨[_], rfl⟩ ((hH8.row (3, .slice p15 (r.take j).length c15, ((r.take j).map (lk (numF g).1)).map iv) (by simp)).beside hb150 |>.ids rfl) (by rw [List.length_map, List.length_map, List.length_take]; unfold maxLen; omega) rfl rfl rfl (fun v9 w9 hR9 hm9 ho9 => ?_))
                have hH9 := hH8.first (own3 := _ :: _) hm9 (by intro y hy; rcases List.mem_cons.1 hy with rfl | hy; exact .inr hb150; exact .inl ⟨y, hy, rfl⟩) (rw_snoc hR9) ho9 (fun y hy => ⟨y, hy, rfl⟩)
                refine wl_go rfl (wo_val rfl (rv_assign rfl) rfl rfl ?_)
                refine wl_nil ?_
                refine wq_in_normal ?_
                refine wq_then ?_
                refine wc_region ?_
                refine wl_go rfl (wo_val rfl (rv_move rfl) rfl rfl ?_)
                refine wl_go rfl (wo_val rfl (rv_add rfl rfl (by omega)) rfl rfl ?_)
                refine wl_go rfl (wo_val rfl (rv_assign rfl) rfl rfl ?_)
                refine wl_nil ?_
                refine wq_round ⟨_, _, ⟨j + 1, _, _, by omega, ?_, rfl, rfl, rfl⟩, by omega, by repeat (first | exact sub_nil | refine sub_cons rfl ?_)⟩
                rw [List.take_add_one, hz, Option.toList_some, List.map_append, List.map_append]
                show Hp _ ((3, v9, _ ++ [iv (lk (numF g).1 z)]) :: _)
                rw [hlk]
                exact hH9
              · simp only [decide_eq_true_eq, decide_eq_false_iff_not, Bool.not_eq_true', Bool.not_eq_false', bne_iff_ne, beq_iff_eq, bne_eq_false_iff_eq, beq_eq_false_iff_ne, Int.not_lt, Int.not_le] at hc136
                obtain rfl : j = r.length := by omega
                refine wc_exit ?_
                refine wq_then_exit ?_
                refine wq_then_exit ?_
                refine wq_in_here ?_
                refine wq_then ?_
                refine wc_region ?_
                refine wl_go rfl (wo_val rfl (rv_fieldAddr rfl) rfl rfl ?_)
                refine wl_go rfl (wo_val rfl (rv_load_own rfl rfl) rfl rfl ?_)
                refine wl_go rfl (wo_val rfl (rv_move rfl) rfl rfl ?_)
                refine wl_go rfl (wo_bs [_] rfl rfl rfl (⟨rfl, rfl, ⟨_, rfl, rfl⟩, trivial⟩) rfl rfl (fun b155 hb155 => ?_))
                refine wl_go rfl (wo_append rfl rfl rfl rfl rfl [_, _, _] ⟨[_], rfl⟩ ((hH8.row (50, .slice pr vs2.length cr, vs2) (by simp)).beside hb155 |>.ids rfl) (by have := rules2_len (numF g).1 (below1 g) ((rules1 g).take k); have := List.length_take_le k (rules1 g); unfold maxLen; simp only; omega) rfl rfl rfl (fun v6 w6 hR6 hm6 ho6 => ?_))
                have hH4x := hH8.swap.first (own3 := _ :: _) hm6 (by intro y hy; rcases List.mem_cons.1 hy with rfl | hy; exact .inr hb155; exact .inl ⟨y, hy, rfl⟩) (rw_snoc hR6) ho6 (fun y hy => ⟨y, hy, rfl⟩)
                have hR8 : w6.ownsRow w.heap.size 50 1 v6 (vs2.length + 1) (vs2 ++ [.slice p15 (r.take r.length).length c15]) := hR6.own
                obtain ⟨p7, c7, rfl, _⟩ := rv_ofn hR8
                refine wl_go rfl (wo_val rfl (rv_fieldAddr rfl) rfl rfl ?_)
                refine wl_go rfl (wo_st rfl rfl rfl rfl rfl rfl rfl ?_)
                refine wl_nil ?_
                refine wq_in_normal ?_
                refine wq_then ?_
                refine wc_region ?_
                refine wl_go rfl (wo_val rfl (rv_move rfl) rfl rfl ?_)
                refine wl_go rfl (wo_val rfl (rv_add rfl rfl (by omega)) rfl rfl ?_)
                refine wl_go rfl (wo_val rfl (rv_assign rfl) rfl rfl ?_)
                refine wl_nil ?_
                have e2 : (rules2 (numF g).1 (below1 g) ((rules1 g).take (k + 1))) = (rules2 (numF g).1 (below1 g) ((rules1 g).take k)) ++ [r.map (lk (numF g).1)] := by
                  rw [List.take_add_one, hr, Option.toList_some, rules2_snoc, if_pos (by rw [hyd]; exact hc129)]
                refine wq_round ⟨_, _, ⟨k + 1, _, vs2 ++ [.slice p15 (r.take r.length).length c15], _, by omega, ?_, ?_, rfl, rfl, rfl⟩, by omega, by repeat (first | exact sub_nil | refine sub_cons rfl ?_)⟩
                · rw [e2, List.length_append, List.length_append, hvl]; rfl
                · rw [e2, rowsL_snoc hvl]
                  rw [List.take_length] at hH4x ⊢
                  exact (Hp.toEnd (A := [_]) (B := _ :: _ :: _ :: _ :: _) hH4x).ids rfl
          · simp only [decide_eq_true_eq, decide_eq_false_iff_not, Bool.not_eq_true', Bool.not_eq_false', bne_iff_ne, beq_iff_eq, bne_eq_false_iff_eq, beq_eq_false_iff_ne, Int.not_lt, Int.not_le] at hc117
            obtain rfl : k = (rules1 g).length := by omega
            simp only [List.take_length] at hvl hH
            obtain ⟨z, hz⟩ := getE (l := (numF g).1) (i := g.start.toNat) (by omega)
            have hlz : lk (numF g).1 g.start = z := by unfold lk; rw [List.getD_eq_getElem?_getD, hz]; rfl
            obtain ⟨gn, on, rfl, _⟩ := (rv_slice_of (hH.row (3, .slice pn (numF g).1.length cn, (numF g).1.map iv) (by simp)).own).at_ _ _ (map_get hz)
            refine wc_exit ?_
            refine wq_then_exit ?_
            refine wq_then_exit ?_
            refine wq_in_here ?_
            refine wq_then ?_
            refine wc_seq ?_
            refine wc_region ?_
            refine wl_go rfl (wo_val rfl (rv_move rfl) rfl rfl ?_)
            refine wl_go rfl (wo_val rfl (rv_fieldAddr rfl) rfl rfl ?_)
            refine wl_go rfl (wo_val rfl (rv_load_own rfl rfl) rfl rfl ?_)
            refine wl_go rfl (wo_val rfl (rv_indexAddr rfl rfl (by omega)) rfl rfl ?_)
            refine wl_go rfl (wo_val rfl (rv_load_cell (v := iv z) rfl (fun w4 hs4 => rw_cell (rw_conv (hH.row (3, .slice (some ⟨gn, on, none⟩) (numF g).1.length cn, (numF g).1.map iv) (by simp)) (m := (numF g).1.length) (by simp only [List.length_map] <;> exact hTl) rfl) (map_get hz) hs4)) rfl rfl ?_)
            refine wl_go rfl (wo_val rfl (rv_fieldAddr rfl) rfl rfl ?_)
            refine wl_go rfl (wo_st rfl rfl rfl rfl rfl rfl rfl ?_)
            refine wl_nil ?_
            refine wq_then ?_
            refine wc_seq ?_
            refine wc_region ?_
            refine wl_go rfl (wo_val rfl (rv_load_own_row rfl) rfl rfl ?_)
            refine wl_go rfl (wo_val rfl (rv_move rfl) rfl rfl ?_)
            refine wl_go rfl (wo_st rfl rfl rfl rfl rfl rfl rfl ?_)
            refine wl_go rfl (wo_val rfl (rv_assign rfl) rfl rfl ?_)
            refine wl_go rfl (wo_val rfl (rv_assign rfl) rfl rfl ?_)
            refine wl_nil ?_
            refine wq_then ?_
            refine wc_ret ?_
            refine wq_ret3 rfl rfl (rr_row rfl) (rr_tmp rfl) (rr_tmp rfl) (fun w9 hs9 => ?_)
            have e1 : usefulG g = ⟨(numF g).2, g.terms, g.tokens, rules2 (numF g).1 (below1 g) (rules1 g), z⟩ := by unfold usefulG; rw [hgood, hprod, hlz]; rfl
            have e2 : usefulL g = (numF g).1 := by unfold usefulL; rw [hgood, hprod]; rfl
            have e3 : usefulE g = 0 := by unfold usefulE; rw [hgood, hprod]; rfl
            rw [e1, e2, e3]
            have hS := hH.ends hs9 rfl
            have hnum := (hS.row (3, .slice (some ⟨gn, on, none⟩) (numF g).1.length cn, (numF g).1.map iv) (by simp)).own
            simp only [List.length_map] at hnum
            refine ⟨⟨pm, cm, x.tp, x.tc, pr, cr⟩, _, by first | (rw [hvl]; rfl) | rw [hvl], ⟨rv_slice_of (hS.row (9, .slice pm (numF g).2.length cm, (numF g).2.map sv) (by simp)).own, hg.tokens.below (hs9.below rfl), rr_rows (rv_slice_of (hS.row (50, .slice pr vs2.length cr, vs2) (by simp)).own) hvl (fun y hy => hS.row y (by simp [hy])) hs9.name⟩, hnum, hs9.below rfl⟩
end Go.Proofs.Ytlppkbfkajionaa.Cm
