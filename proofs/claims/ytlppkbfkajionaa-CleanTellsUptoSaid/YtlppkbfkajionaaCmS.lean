/- The walks of grammars, the reference: Productive, reached. -/
import Derived.Test.YtlppkbfkajionaaCmP2
namespace Go.Proofs.Ytlppkbfkajionaa.Cm
open Go Go.RowKit Gw Go.Shelf
set_option linter.unusedSimpArgs false
set_option linter.unusedVariables false
set_option linter.unusedSectionVars false
theorem set_same {σ : List Bool} {n : Int} (hn : 0 ≤ n ∧ n < (σ.length : Int)) : σ.set n.toNat (bg σ n) = σ := by
  have := bg_get (σ := σ) (n := n) (by omega)
  obtain ⟨h1, h2⟩ := List.getElem?_eq_some_iff.1 this
  rw [← h2]; simp
theorem step_or {σ : List Bool} {r : List Int} (h : In σ.length r) : σ.set (r.headD 0).toNat (bg σ (r.headD 0) || (r.drop 1).all (bg σ)) = (step σ r).2 := by
  unfold step
  have hall : (r.drop 1).any (fun n => !bg σ n) = !(r.drop 1).all (bg σ) := by rw [List.all_eq_not_any_not, Bool.not_not]
  rw [hall]
  cases hb : bg σ (r.headD 0) with
  | true =>
    simp only [Bool.true_or, if_true]
    rw [← hb]; exact set_same h.head
  | false =>
    cases ha : (r.drop 1).all (bg σ) with
    | true => simp [mk]
    | false =>
      simp only [Bool.or_self, Bool.not_false, Bool.or_true, if_true]
      rw [← hb]; exact set_same h.head
theorem set_bv (σ : List Bool) (n : Int) (b : Bool) : (σ.map bv).set (0 + n.toNat * 1) (bv b) = (σ.set n.toNat b).map bv := by
  rw [Nat.zero_add, Nat.mul_one, List.map_set]
set_option maxHeartbeats 2000000 in
theorem rproductive_calls (x : GS) (g : Gr) (w : World) (hg : Gm w x g) : Calls Try.prog 138 #[.agg (gC x g).toArray] w fun e w' => ∃ p c, e = .returned (.slice p (markF g true).length c) ∧ Rv w' p c ((markF g true).map bv) ∧ w'.ownsRow w.heap.size 4 1 (.slice p (markF g true).length c) (markF g true).length ((markF g true).map bv) ∧ Below w.heap.size w w' := by
  refine calls_start Try.func138 rfl (N := 86) rfl rfl _ (St.start _) rfl ?_
  refine wc_seq ?_
  refine wc_region ?_
  refine wl_go rfl (wo_box rfl rfl rfl rfl rfl (fun b1 hb1 => ?_))
  refine wl_go rfl (wo_val rfl (rv_assign rfl) rfl rfl ?_)
  refine wl_nil ?_
  refine wq_then ?_
  refine wc_seq ?_
  refine wc_seq ?_
  refine wc_region ?_
  refine wl_go rfl (wo_val rfl (rv_load_own_row rfl) rfl rfl ?_)
  refine wl_go rfl (wo_call (R := fun _ v _ => v = _) rfl rfl (enters_of Try.func183 (by kernel_rfl) rfl) rfl rfl rfl (fun w4 hs4 => (rright_calls x g w4 (hg.below (hs4.below rfl))).mono fun e w' h => ⟨_, h.1, rfl, h.2⟩) (fun w2 v w3 hs2 hv hb2 hm2 => ?_))
  subst hv
  refine wl_go rfl (wo_val rfl (rv_not rfl) rfl rfl ?_)
  refine wl_nil ?_
  refine wq_then ?_
  refine wc_cond rfl (fun hc11 => ?_) (fun hc11 => ?_)
  · simp only [decide_eq_true_eq, decide_eq_false_iff_not, Bool.not_eq_true', Bool.not_eq_false', bne_iff_ne, beq_iff_eq, bne_eq_false_iff_eq, beq_eq_false_iff_ne, Int.not_lt, Int.not_le] at hc11
    have hbad : okB g = false := hc11
    refine wc_seq ?_
    refine wc_region ?_
    refine wl_go rfl (wo_val rfl (rv_assign rfl) rfl rfl ?_)
    refine wl_nil ?_
    refine wq_then ?_
    refine wc_ret ?_
    refine wq_then_ret ?_
    refine wq_ret1 rfl rfl (rr_tmp rfl) (fun w9 hs9 => ?_)
    have e1 : markF g true = [] := by unfold markF; rw [hbad]; rfl
    rw [e1]
    exact ⟨none, 0, rfl, Rv.nil _, World.ownsRow_nil _ _ _ _, hs9.below rfl⟩
  · simp only [decide_eq_true_eq, decide_eq_false_iff_not, Bool.not_eq_true', Bool.not_eq_false', bne_iff_ne, beq_iff_eq, bne_eq_false_iff_eq, beq_eq_false_iff_ne, Int.not_lt, Int.not_le] at hc11
    have hok := (okB_iff g).1 hc11
    have hgood : okB g = true := hc11
    have hw3 : w.heap.size ≤ w3.heap.size := Nat.le_trans hs2.size0 hb2.size
    have hnm := hok.nm
    have hr2 := hok.r2
    have ht0 := hok.t0
    have ht1 := hok.t1
    refine wc_skip ?_
    refine wq_then ?_
    refine wc_seq ?_
    refine wc_region ?_
    refine wl_go rfl (wo_val rfl (rv_fieldAddr0 rfl) rfl rfl ?_)
    refine wl_go rfl (wo_val rfl (rv_load_own rfl rfl) rfl rfl ?_)
    refine wl_go rfl (wo_val rfl (rv_len rfl) rfl rfl ?_)
    refine wl_go rfl (wo_makeSlice (m := g.names.length) rfl rfl rfl rfl rfl (by omega) (fun b15 hb15 => ?_))
    refine wl_go rfl (wo_val rfl (rv_assign rfl) rfl rfl ?_)
    refine wl_nil ?_
    refine wq_then ?_
    refine wc_seq ?_
    refine wc_seq ?_
    refine wc_region ?_
    refine wl_go rfl (wo_val rfl (rv_assign rfl) rfl rfl ?_)
    refine wl_nil ?_
    refine wq_then ?_
    refine wc_block ?_
    rw [mark0k_zero _ true]
    refine wc_loop (fun m l S => ∃ (k : Nat) (w1 : World), (k : Int) ≤ g.terms ∧ m = g.terms.toNat - k ∧ l = [(1, .pointer (some ⟨b1, 0, none⟩)), (3, .slice (some ⟨b15, 0, none⟩) g.names.length g.names.length), (4, iv (k : Int))] ∧ S = ⟨w, G0, w1, [⟨b15, .cells ((mark0k g.names.length k true).map bv).toArray 4 (0, 0)⟩, ⟨b1, .cells (gC x g).toArray 60 (0, 0)⟩]⟩) ⟨_, _, ⟨0, _, by omega, rfl, rfl, rfl⟩, by repeat (first | exact sub_nil | refine sub_cons rfl ?_)⟩ ?_
    intro m l S hJ
    obtain ⟨k, w1, hk, rfl, rfl, rfl⟩ := hJ
    refine wc_seq ?_
    refine wc_seq ?_
    refine wc_region ?_
    refine wl_go rfl (wo_val rfl (rv_move rfl) rfl rfl ?_)
    refine wl_go rfl (wo_val rfl (rv_fieldAddr rfl) rfl rfl ?_)
    refine wl_go rfl (wo_val rfl (rv_load_own rfl rfl) rfl rfl ?_)
    refine wl_go rfl (wo_val rfl (rv_cmp_i rfl rfl rfl) rfl rfl ?_)
    refine wl_nil ?_
    refine wq_then ?_
    refine wc_cond rfl (fun hc19 => ?_) (fun hc19 => ?_)
    · simp only [decide_eq_true_eq, decide_eq_false_iff_not, Bool.not_eq_true', Bool.not_eq_false', bne_iff_ne, beq_iff_eq, bne_eq_false_iff_eq, beq_eq_false_iff_ne, Int.not_lt, Int.not_le] at hc19
      refine wc_skip ?_
      refine wq_then ?_
      refine wc_seq ?_
      refine wc_block ?_
      refine wc_region ?_
      refine wl_go rfl (wo_val rfl (rv_move rfl) rfl rfl ?_)
      refine wl_go rfl (wo_val rfl (rv_move rfl) rfl rfl ?_)
      refine wl_go rfl (wo_val rfl (rv_indexAddr rfl rfl (by omega)) rfl rfl ?_)
      refine wl_go rfl (wo_store_at rfl rfl rfl rfl rfl rfl (by simp [mark0k]; omega) ?_)
      refine wl_nil ?_
      refine wq_in_normal ?_
      refine wq_then ?_
      refine wc_region ?_
      refine wl_go rfl (wo_val rfl (rv_move rfl) rfl rfl ?_)
      refine wl_go rfl (wo_val rfl (rv_add rfl rfl (by omega)) rfl rfl ?_)
      refine wl_go rfl (wo_val rfl (rv_assign rfl) rfl rfl ?_)
      refine wl_nil ?_
      rw [mark0k_set _ _ _ (by omega)]
      exact wq_round ⟨_, _, ⟨k + 1, _, by omega, rfl, rfl, rfl⟩, by omega, by repeat (first | exact sub_nil | refine sub_cons rfl ?_)⟩
    · simp only [decide_eq_true_eq, decide_eq_false_iff_not, Bool.not_eq_true', Bool.not_eq_false', bne_iff_ne, beq_iff_eq, bne_eq_false_iff_eq, beq_eq_false_iff_ne, Int.not_lt, Int.not_le] at hc19
      obtain rfl : k = g.terms.toNat := by omega
      rw [mark0k_all g true ht0]
      refine wc_exit ?_
      refine wq_then_exit ?_
      refine wq_then_exit ?_
      refine wq_in_here ?_
      refine wq_then ?_
      refine wc_seq ?_
      refine wc_seq ?_
      refine wc_region ?_
      refine wl_go rfl (wo_val rfl (rv_assign rfl) rfl rfl ?_)
      refine wl_nil ?_
      refine wq_then ?_
      refine wc_block ?_
      have hlen : ∀ m, (it (fun σ => (sweep g.rules σ).2) m (mark0 g true)).length = g.names.length := fun m => it_good (Good := fun σ => σ.length = g.names.length) (fun σ hσ => by rw [sweep_len]; exact hσ) m _ (mark0_len g true)
      refine wc_loop (fun m l S => ∃ (n : Nat) (w1 : World), n ≤ g.names.length + 1 ∧ m = g.names.length + 1 - n ∧ l = [(1, .pointer (some ⟨b1, 0, none⟩)), (3, .slice (some ⟨b15, 0, none⟩) g.names.length g.names.length), (5, iv (n : Int))] ∧ S = ⟨w, G0, w1, [⟨b15, .cells (((it (fun σ => (sweep g.rules σ).2) n (mark0 g true))).map bv).toArray 4 (0, 0)⟩, ⟨b1, .cells (gC x g).toArray 60 (0, 0)⟩]⟩) ⟨_, _, ⟨0, _, by omega, rfl, rfl, rfl⟩, by repeat (first | exact sub_nil | refine sub_cons rfl ?_)⟩ ?_
      intro m l S hJ
      obtain ⟨n, w1, hn, rfl, rfl, rfl⟩ := hJ
      refine wc_seq ?_
      refine wc_seq ?_
      refine wc_region ?_
      refine wl_go rfl (wo_val rfl (rv_move rfl) rfl rfl ?_)
      refine wl_go rfl (wo_val rfl (rv_fieldAddr0 rfl) rfl rfl ?_)
      refine wl_go rfl (wo_val rfl (rv_load_own rfl rfl) rfl rfl ?_)
      refine wl_go rfl (wo_val rfl (rv_len rfl) rfl rfl ?_)
      refine wl_go rfl (wo_val rfl (rv_cmp_i rfl rfl rfl) rfl rfl ?_)
      refine wl_nil ?_
      refine wq_then ?_
      refine wc_cond rfl (fun hc29 => ?_) (fun hc29 => ?_)
      · simp only [decide_eq_true_eq, decide_eq_false_iff_not, Bool.not_eq_true', Bool.not_eq_false', bne_iff_ne, beq_iff_eq, bne_eq_false_iff_eq, beq_eq_false_iff_ne, Int.not_lt, Int.not_le] at hc29
        refine wc_skip ?_
        refine wq_then ?_
        refine wc_seq ?_
        refine wc_block ?_
        refine wc_seq ?_
        refine wc_region ?_
        refine wl_go rfl (wo_val rfl (rv_assign rfl) rfl rfl ?_)
        refine wl_nil ?_
        refine wq_then ?_
        refine wc_block ?_
        refine wc_loop (fun m l S => ∃ (k : Nat) (w1 : World), k ≤ g.rules.length ∧ m = g.rules.length - k ∧ l = [(1, .pointer (some ⟨b1, 0, none⟩)), (3, .slice (some ⟨b15, 0, none⟩) g.names.length g.names.length), (5, iv (n : Int)), (6, iv (k : Int))] ∧ S = ⟨w, G0, w1, [⟨b15, .cells (((sweep (g.rules.take k) (it (fun σ => (sweep g.rules σ).2) n (mark0 g true))).2).map bv).toArray 4 (0, 0)⟩, ⟨b1, .cells (gC x g).toArray 60 (0, 0)⟩]⟩) ⟨_, _, ⟨0, _, Nat.zero_le _, rfl, rfl, rfl⟩, by repeat (first | exact sub_nil | refine sub_cons rfl ?_)⟩ ?_
        intro m l S hJ
        obtain ⟨k, w1, hk, rfl, rfl, rfl⟩ := hJ
        refine wc_seq ?_
        refine wc_seq ?_
        refine wc_region ?_
        refine wl_go rfl (wo_val rfl (rv_move rfl) rfl rfl ?_)
        refine wl_go rfl (wo_val rfl (rv_fieldAddr rfl) rfl rfl ?_)
        refine wl_go rfl (wo_val rfl (rv_load_own rfl rfl) rfl rfl ?_)
        refine wl_go rfl (wo_val rfl (rv_len rfl) rfl rfl ?_)
        refine wl_go rfl (wo_val rfl (rv_cmp_i rfl rfl rfl) rfl rfl ?_)
        refine wl_nil ?_
        refine wq_then ?_
        refine wc_cond rfl (fun hc36 => ?_) (fun hc36 => ?_)
        · simp only [decide_eq_true_eq, decide_eq_false_iff_not, Bool.not_eq_true', Bool.not_eq_false', bne_iff_ne, beq_iff_eq, bne_eq_false_iff_eq, beq_eq_false_iff_ne, Int.not_lt, Int.not_le] at hc36
          obtain ⟨r, hr⟩ := getE (l := g.rules) (i := k) (by omega)
          obtain ⟨g0, o0, q, d, hrp, hcell, hrow⟩ := hg.rules.read hr
          have hfit := hok.fits (List.mem_of_getElem? hr)
          have hfp := hfit.pos
          have hfl := hfit.len
          obtain ⟨y, hy⟩ := getE hfp
          have hyd : r.headD 0 = y := by rw [List.headD_eq_head?_getD, List.head?_eq_getElem?, hy]; rfl
          have hyr := hfit.head.2
          rw [hyd] at hyr
          obtain ⟨g1, o1, rfl, hcell1⟩ := hrow.read (map_get hy)
          generalize hσ : (sweep (g.rules.take k) (it (fun σ => (sweep g.rules σ).2) n (mark0 g true))).2 = σ
          have hσl : σ.length = g.names.length := by rw [← hσ, sweep_len, hlen]
          refine wc_skip ?_
          refine wq_then ?_
          refine wc_seq ?_
          refine wc_block ?_
          refine wc_seq ?_
          refine wc_region ?_
          refine wl_go rfl (wo_val rfl (rv_assign rfl) rfl rfl ?_)
          refine wl_nil ?_
          refine wq_then ?_
          refine wc_seq ?_
          refine wc_seq ?_
          refine wc_region ?_
          refine wl_go rfl (wo_val rfl (rv_assign rfl) rfl rfl ?_)
          refine wl_nil ?_
          refine wq_then ?_
          refine wc_block ?_
          have e0 : ((r.take 1).drop 1).all (bg σ) = true := by rw [List.drop_eq_nil_of_le (by rw [List.length_take]; omega)]; rfl
          refine wc_loop (fun m l S => ∃ (j : Nat) (w1 : World), 1 ≤ j ∧ j ≤ r.length ∧ m = r.length - j ∧ l = [(1, .pointer (some ⟨b1, 0, none⟩)), (3, .slice (some ⟨b15, 0, none⟩) g.names.length g.names.length), (5, iv (n : Int)), (6, iv (k : Int)), (7, bv (((r.take j).drop 1).all (bg σ))), (8, iv (j : Int))] ∧ S = ⟨w, G0, w1, [⟨b15, .cells ((σ).map bv).toArray 4 (0, 0)⟩, ⟨b1, .cells (gC x g).toArray 60 (0, 0)⟩]⟩) ⟨_, _, ⟨1, _, Nat.le_refl _, hfp, rfl, by rw [e0], rfl⟩, by repeat (first | exact sub_nil | refine sub_cons rfl ?_)⟩ ?_
          intro m l S hJ
          obtain ⟨j, w1, hj1, hj, rfl, rfl, rfl⟩ := hJ
          refine wc_seq ?_
          refine wc_seq ?_
          refine wc_region ?_
          refine wl_go rfl (wo_val rfl (rv_move rfl) rfl rfl ?_)
          refine wl_go rfl (wo_val rfl (rv_fieldAddr rfl) rfl rfl ?_)
          refine wl_go rfl (wo_val rfl (rv_load_own (v := .slice (some ⟨g0, o0, none⟩) g.rules.length x.rc) rfl (by rw [← hrp]; rfl)) rfl rfl ?_)
          refine wl_go rfl (wo_val rfl (rv_move rfl) rfl rfl ?_)
          refine wl_go rfl (wo_val rfl (rv_indexAddr rfl rfl (by omega)) rfl rfl ?_)
          refine wl_go rfl (wo_val rfl (rv_load_cell rfl (fun w4 hs4 => hcell w4 (hs4.below rfl))) rfl rfl ?_)
          refine wl_go rfl (wo_val rfl (rv_len rfl) rfl rfl ?_)
          refine wl_go rfl (wo_val rfl (rv_cmp_i rfl rfl rfl) rfl rfl ?_)
          refine wl_nil ?_
          refine wq_then ?_
          refine wc_cond rfl (fun hc46 => ?_) (fun hc46 => ?_)
          · simp only [decide_eq_true_eq, decide_eq_false_iff_not, Bool.not_eq_true', Bool.not_eq_false', bne_iff_ne, beq_iff_eq, bne_eq_false_iff_eq, beq_eq_false_iff_ne, Int.not_lt, Int.not_le] at hc46
            obtain ⟨z, hz⟩ := getE (l := r) (i := j) (by omega)
            have hzr := hfit.all z (List.mem_of_getElem? hz)
            obtain ⟨_, _, ez, hcz⟩ := hrow.read (map_get hz)
            cases ez
            refine wc_skip ?_
            refine wq_then ?_
            refine wc_seq ?_
            refine wc_block ?_
            refine wc_region ?_
            refine wl_go rfl (wo_val rfl (rv_move rfl) rfl rfl ?_)
            refine wl_go rfl (wo_val rfl (rv_move rfl) rfl rfl ?_)
            refine wl_split (d := 50) rfl true (fun hg18_1 => ?_) (fun hg18_1 => ?_)
            · skip
              refine wl_want rfl rfl rfl rfl rfl hg18_1 (wo_val rfl (rv_move rfl) rfl rfl ?_)
              refine wl_want rfl rfl rfl rfl rfl hg18_1 (wo_val rfl (rv_fieldAddr rfl) rfl rfl ?_)
              refine wl_want rfl rfl rfl rfl rfl hg18_1 (wo_val rfl (rv_load_own (v := .slice (some ⟨g0, o0, none⟩) g.rules.length x.rc) rfl (by rw [← hrp]; rfl)) rfl rfl ?_)
              refine wl_want rfl rfl rfl rfl rfl hg18_1 (wo_val rfl (rv_move rfl) rfl rfl ?_)
              refine wl_want rfl rfl rfl rfl rfl hg18_1 (wo_val rfl (rv_indexAddr rfl rfl (by omega)) rfl rfl ?_)
              refine wl_want rfl rfl rfl rfl rfl hg18_1 (wo_val rfl (rv_load_cell rfl (fun w4 hs4 => hcell w4 (hs4.below rfl))) rfl rfl ?_)
              refine wl_want rfl rfl rfl rfl rfl hg18_1 (wo_val rfl (rv_move rfl) rfl rfl ?_)
              refine wl_want rfl rfl rfl rfl rfl hg18_1 (wo_val rfl (rv_indexAddr rfl rfl (by omega)) rfl rfl ?_)
              refine wl_want rfl rfl rfl rfl rfl hg18_1 (wo_val rfl (rv_load_cell rfl (fun w4 hs4 => hcz w4 (hs4.below rfl))) rfl rfl ?_)
              refine wl_want rfl rfl rfl rfl rfl hg18_1 (wo_val rfl (rv_indexAddr rfl rfl (by omega)) rfl rfl ?_)
              refine wl_want rfl rfl rfl rfl rfl hg18_1 (wo_val rfl (rv_load_own (v := bv (bg σ z)) rfl (bg_cell (by rw [hσl]; omega))) rfl rfl ?_)
              refine wl_go rfl (wo_val rfl (rv_pick_t rfl hg18_1 rfl) rfl rfl ?_)
              refine wl_go rfl (wo_val rfl (rv_assign rfl) rfl rfl ?_)
              refine wl_nil ?_
              refine wq_in_normal ?_
              refine wq_then ?_
              refine wc_region ?_
              refine wl_go rfl (wo_val rfl (rv_move rfl) rfl rfl ?_)
              refine wl_go rfl (wo_val rfl (rv_add rfl rfl (by omega)) rfl rfl ?_)
              refine wl_go rfl (wo_val rfl (rv_assign rfl) rfl rfl ?_)
              refine wl_nil ?_
              have e1 : ((r.take (j + 1)).drop 1).all (bg σ) = bg σ z := by
                rw [List.take_add_one, hz, List.drop_append_of_le_length (by rw [List.length_take]; omega), List.all_append, Option.toList_some, show ((r.take j).drop 1).all (bg σ) = true from hg18_1]; simp
              refine wq_round ⟨_, [(1, .pointer (some ⟨b1, 0, none⟩)), (3, .slice (some ⟨b15, 0, none⟩) g.names.length g.names.length), (5, iv (n : Int)), (6, iv (k : Int)), (7, bv (bg σ z)), (8, iv ((j + 1 : Nat) : Int))], ⟨j + 1, _, by omega, by omega, rfl, by rw [e1], rfl⟩, by omega, by repeat (first | exact sub_nil | refine sub_cons rfl ?_)⟩
            · skip
              refine wl_skip rfl rfl rfl rfl rfl hg18_1 rfl ?_
              refine wl_skip rfl rfl rfl rfl rfl hg18_1 rfl ?_
              refine wl_skip rfl rfl rfl rfl rfl hg18_1 rfl ?_
              refine wl_skip rfl rfl rfl rfl rfl hg18_1 rfl ?_
              refine wl_skip rfl rfl rfl rfl rfl hg18_1 rfl ?_
              refine wl_skip rfl rfl rfl rfl rfl hg18_1 rfl ?_
              refine wl_skip rfl rfl rfl rfl rfl hg18_1 rfl ?_
              refine wl_skip rfl rfl rfl rfl rfl hg18_1 rfl ?_
              refine wl_skip rfl rfl rfl rfl rfl hg18_1 rfl ?_
              refine wl_skip rfl rfl rfl rfl rfl hg18_1 rfl ?_
              refine wl_skip rfl rfl rfl rfl rfl hg18_1 rfl ?_
              refine wl_go rfl (wo_val rfl (rv_pick_f rfl hg18_1 rfl) rfl rfl ?_)
              refine wl_go rfl (wo_val rfl (rv_assign rfl) rfl rfl ?_)
              refine wl_nil ?_
              refine wq_in_normal ?_
              refine wq_then ?_
              refine wc_region ?_
              refine wl_go rfl (wo_val rfl (rv_move rfl) rfl rfl ?_)
              refine wl_go rfl (wo_val rfl (rv_add rfl rfl (by omega)) rfl rfl ?_)
              refine wl_go rfl (wo_val rfl (rv_assign rfl) rfl rfl ?_)
              refine wl_nil ?_
              have e1 : ((r.take (j + 1)).drop 1).all (bg σ) = false := by
                rw [List.take_add_one, hz, List.drop_append_of_le_length (by rw [List.length_take]; omega), List.all_append, Option.toList_some, show ((r.take j).drop 1).all (bg σ) = false from hg18_1]; rfl
              refine wq_round ⟨_, [(1, .pointer (some ⟨b1, 0, none⟩)), (3, .slice (some ⟨b15, 0, none⟩) g.names.length g.names.length), (5, iv (n : Int)), (6, iv (k : Int)), (7, bv (false)), (8, iv ((j + 1 : Nat) : Int))], ⟨j + 1, _, by omega, by omega, rfl, by rw [e1], rfl⟩, by omega, by repeat (first | exact sub_nil | refine sub_cons rfl ?_)⟩
          · simp only [decide_eq_true_eq, decide_eq_false_iff_not, Bool.not_eq_true', Bool.not_eq_false', bne_iff_ne, beq_iff_eq, bne_eq_false_iff_eq, beq_eq_false_iff_ne, Int.not_lt, Int.not_le] at hc46
            obtain rfl : j = r.length := by omega
            rw [List.take_length]
            refine wc_exit ?_
            refine wq_then_exit ?_
            refine wq_then_exit ?_
            refine wq_in_here ?_
            refine wq_then ?_
            refine wc_region_stage (by kernel_rfl) (by kernel_rfl) ?_
            refine ws_q (i := 0) rfl (by kernel_rfl) (rq_val rfl rfl rfl (rv_move rfl)) rfl rfl ?_
            refine ws_q (i := 1) rfl (by kernel_rfl) (rq_val rfl rfl rfl (rv_fieldAddr rfl)) rfl rfl ?_
            refine ws_q (i := 2) rfl (by kernel_rfl) (rq_val rfl rfl rfl (rv_load_own (v := .slice (some ⟨g0, o0, none⟩) g.rules.length x.rc) rfl (by rw [← hrp]; rfl))) rfl rfl ?_
            refine ws_q (i := 3) rfl (by kernel_rfl) (rq_val rfl rfl rfl (rv_move rfl)) rfl rfl ?_
            refine ws_q (i := 4) rfl (by kernel_rfl) (rq_val rfl rfl rfl (rv_indexAddr rfl rfl (by omega))) rfl rfl ?_
            refine ws_q (i := 5) rfl (by kernel_rfl) (rq_val rfl rfl rfl (rv_load_cell rfl (fun w4 hs4 => hcell w4 (hs4.below rfl)))) rfl rfl ?_
            refine ws_q (i := 6) rfl (by kernel_rfl) (rq_val rfl rfl rfl (rv_indexAddr rfl rfl (by omega))) rfl rfl ?_
            refine ws_q (i := 7) rfl (by kernel_rfl) (rq_val rfl rfl rfl (rv_load_cell rfl (fun w4 hs4 => hcell1 w4 (hs4.below rfl)))) rfl rfl ?_
            refine ws_q (i := 8) rfl (by kernel_rfl) (rq_val rfl rfl rfl (rv_move rfl)) rfl rfl ?_
            refine ws_q (i := 9) rfl (by kernel_rfl) (rq_val rfl rfl rfl (rv_fieldAddr rfl)) rfl rfl ?_
            refine ws_q (i := 10) rfl (by kernel_rfl) (rq_val rfl rfl rfl (rv_load_own (v := .slice (some ⟨g0, o0, none⟩) g.rules.length x.rc) rfl (by rw [← hrp]; rfl))) rfl rfl ?_
            refine ws_q (i := 11) rfl (by kernel_rfl) (rq_val rfl rfl rfl (rv_move rfl)) rfl rfl ?_
            refine ws_q (i := 12) rfl (by kernel_rfl) (rq_val rfl rfl rfl (rv_indexAddr rfl rfl (by omega))) rfl rfl ?_
            refine ws_q (i := 13) rfl (by kernel_rfl) (rq_val rfl rfl rfl (rv_load_cell rfl (fun w4 hs4 => hcell w4 (hs4.below rfl)))) rfl rfl ?_
            refine ws_q (i := 14) rfl (by kernel_rfl) (rq_val rfl rfl rfl (rv_indexAddr rfl rfl (by omega))) rfl rfl ?_
            refine ws_q (i := 15) rfl (by kernel_rfl) (rq_val rfl rfl rfl (rv_load_cell rfl (fun w4 hs4 => hcell1 w4 (hs4.below rfl)))) rfl rfl ?_
            refine ws_q (i := 16) rfl (by kernel_rfl) (rq_val rfl rfl rfl (rv_indexAddr rfl rfl (by omega))) rfl rfl ?_
            refine ws_q (i := 17) rfl (by kernel_rfl) (rq_val rfl rfl rfl (rv_load_own (v := bv (bg σ y)) rfl (bg_cell (by rw [hσl]; omega)))) rfl rfl ?_
            refine ws_q (i := 18) rfl (by kernel_rfl) (rq_val rfl rfl rfl (rv_move rfl)) rfl rfl ?_
            refine ws_split (d := 81) rfl true (fun hg19_18 => ?_) (fun hg19_18 => ?_)
            · skip
              refine ws_q (i := 19) rfl (by kernel_rfl) (rq_skip rfl rfl rfl rfl rfl rfl hg19_18) rfl rfl ?_
              refine ws_q (i := 20) rfl (by kernel_rfl) (rq_val rfl rfl rfl (rv_pick_t rfl hg19_18 rfl)) rfl rfl ?_
              refine ws_q (i := 21) rfl (by kernel_rfl) (rq_val rfl rfl rfl (rv_indexAddr rfl rfl (by omega))) rfl rfl ?_
              refine ws_w 22 rfl (by kernel_rfl) (by kernel_rfl) rfl (wo_store_at rfl rfl rfl rfl rfl rfl (by rw [List.length_map, hσl]; omega) ?_)
              rw [set_bv]
              refine wl_stage (pa_drop (by kernel_rfl) (pa_drop (by kernel_rfl) (pa_drop (by kernel_rfl) (pa_drop (by kernel_rfl) (pa_drop (by kernel_rfl) (pa_drop (by kernel_rfl) (pa_drop (by kernel_rfl) (pa_drop (by kernel_rfl) (pa_drop (by kernel_rfl) (pa_drop (by kernel_rfl) (pa_drop (by kernel_rfl) (pa_drop (by kernel_rfl) (pa_drop (by kernel_rfl) (pa_drop (by kernel_rfl) (pa_drop (by kernel_rfl) (pa_drop (by kernel_rfl) (pa_drop (by kernel_rfl) (pa_drop (by kernel_rfl) (pa_drop (by kernel_rfl) (pa_drop (by kernel_rfl) (pa_drop (by kernel_rfl) (pa_drop (by kernel_rfl) (pa_nil))))))))))))))))))))))) ?_
              refine ws_nil (by kernel_rfl) ?_
              refine wq_in_normal ?_
              refine wq_then ?_
              refine wc_region ?_
              refine wl_go rfl (wo_val rfl (rv_move rfl) rfl rfl ?_)
              refine wl_go rfl (wo_val rfl (rv_add rfl rfl (by omega)) rfl rfl ?_)
              refine wl_go rfl (wo_val rfl (rv_assign rfl) rfl rfl ?_)
              refine wl_nil ?_
              have e2 : σ.set y.toNat true = (sweep (g.rules.take (k + 1)) (it (fun σ => (sweep g.rules σ).2) n (mark0 g true))).2 := by
                rw [List.take_add_one, hr, Option.toList_some, sweep_snoc, hσ, ← step_or (by rw [hσl]; exact hok.ins r (List.mem_of_getElem? hr)), hyd, show bg σ y = true from hg19_18]; rfl
              rw [e2]
              exact wq_round ⟨_, _, ⟨k + 1, _, by omega, rfl, rfl, rfl⟩, by omega, by repeat (first | exact sub_nil | refine sub_cons rfl ?_)⟩
            · skip
              refine ws_q (i := 19) rfl (by kernel_rfl) (rq_want rfl rfl rfl rfl rfl rfl hg19_18 rfl (rv_move rfl)) rfl rfl ?_
              refine ws_q (i := 20) rfl (by kernel_rfl) (rq_val rfl rfl rfl (rv_pick_f rfl hg19_18 rfl)) rfl rfl ?_
              refine ws_q (i := 21) rfl (by kernel_rfl) (rq_val rfl rfl rfl (rv_indexAddr rfl rfl (by omega))) rfl rfl ?_
              refine ws_w 22 rfl (by kernel_rfl) (by kernel_rfl) rfl (wo_store_at rfl rfl rfl rfl rfl rfl (by rw [List.length_map, hσl]; omega) ?_)
              rw [set_bv]
              refine wl_stage (pa_drop (by kernel_rfl) (pa_drop (by kernel_rfl) (pa_drop (by kernel_rfl) (pa_drop (by kernel_rfl) (pa_drop (by kernel_rfl) (pa_drop (by kernel_rfl) (pa_drop (by kernel_rfl) (pa_drop (by kernel_rfl) (pa_drop (by kernel_rfl) (pa_drop (by kernel_rfl) (pa_drop (by kernel_rfl) (pa_drop (by kernel_rfl) (pa_drop (by kernel_rfl) (pa_drop (by kernel_rfl) (pa_drop (by kernel_rfl) (pa_drop (by kernel_rfl) (pa_drop (by kernel_rfl) (pa_drop (by kernel_rfl) (pa_drop (by kernel_rfl) (pa_drop (by kernel_rfl) (pa_drop (by kernel_rfl) (pa_drop (by kernel_rfl) (pa_nil))))))))))))))))))))))) ?_
              refine ws_nil (by kernel_rfl) ?_
              refine wq_in_normal ?_
              refine wq_then ?_
              refine wc_region ?_
              refine wl_go rfl (wo_val rfl (rv_move rfl) rfl rfl ?_)
              refine wl_go rfl (wo_val rfl (rv_add rfl rfl (by omega)) rfl rfl ?_)
              refine wl_go rfl (wo_val rfl (rv_assign rfl) rfl rfl ?_)
              refine wl_nil ?_
              have e2 : σ.set y.toNat ((r.drop 1).all (bg σ)) = (sweep (g.rules.take (k + 1)) (it (fun σ => (sweep g.rules σ).2) n (mark0 g true))).2 := by
                rw [List.take_add_one, hr, Option.toList_some, sweep_snoc, hσ, ← step_or (by rw [hσl]; exact hok.ins r (List.mem_of_getElem? hr)), hyd, show bg σ y = false from hg19_18, Bool.false_or]
              rw [e2]
              exact wq_round ⟨_, _, ⟨k + 1, _, by omega, rfl, rfl, rfl⟩, by omega, by repeat (first | exact sub_nil | refine sub_cons rfl ?_)⟩
        · simp only [decide_eq_true_eq, decide_eq_false_iff_not, Bool.not_eq_true', Bool.not_eq_false', bne_iff_ne, beq_iff_eq, bne_eq_false_iff_eq, beq_eq_false_iff_ne, Int.not_lt, Int.not_le] at hc36
          obtain rfl : k = g.rules.length := by omega
          rw [List.take_length]
          refine wc_exit ?_
          refine wq_then_exit ?_
          refine wq_then_exit ?_
          refine wq_in_here ?_
          refine wq_in_normal ?_
          refine wq_then ?_
          refine wc_region ?_
          refine wl_go rfl (wo_val rfl (rv_move rfl) rfl rfl ?_)
          refine wl_go rfl (wo_val rfl (rv_add rfl rfl (by omega)) rfl rfl ?_)
          refine wl_go rfl (wo_val rfl (rv_assign rfl) rfl rfl ?_)
          refine wl_nil ?_
          rw [← it_succ (fun σ => (sweep g.rules σ).2) n (mark0 g true)]
          exact wq_round ⟨_, _, ⟨n + 1, _, by omega, rfl, rfl, rfl⟩, by omega, by repeat (first | exact sub_nil | refine sub_cons rfl ?_)⟩
      · simp only [decide_eq_true_eq, decide_eq_false_iff_not, Bool.not_eq_true', Bool.not_eq_false', bne_iff_ne, beq_iff_eq, bne_eq_false_iff_eq, beq_eq_false_iff_ne, Int.not_lt, Int.not_le] at hc29
        obtain rfl : n = g.names.length + 1 := by omega
        refine wc_exit ?_
        refine wq_then_exit ?_
        refine wq_then_exit ?_
        refine wq_in_here ?_
        refine wq_then ?_
        refine wc_seq ?_
        refine wc_region ?_
        refine wl_go rfl (wo_val rfl (rv_move rfl) rfl rfl ?_)
        refine wl_go rfl (wo_val rfl (rv_assign rfl) rfl rfl ?_)
        refine wl_nil ?_
        refine wq_then ?_
        refine wc_ret ?_
        refine wq_ret1 rfl rfl (rr_tmp rfl) (fun w9 hs9 => ?_)
        have hml := markF_len hgood true
        have em : it (fun σ => (sweep g.rules σ).2) (g.names.length + 1) (mark0 g true) = markF g true := by unfold markF; rw [hgood]; rfl
        have ho := hs9.blk ⟨b15, _⟩ List.mem_cons_self
        rw [em] at ho
        refine ⟨some ⟨b15, 0, none⟩, g.names.length, by rw [hml], ?_, ?_, hs9.below rfl⟩
        · exact Rv.own ho (by rw [List.length_map, hml]; omega)
        · exact own_all hml ho (Nat.le_trans hw3 hb15) (by unfold maxLen; omega)
end Go.Proofs.Ytlppkbfkajionaa.Cm
