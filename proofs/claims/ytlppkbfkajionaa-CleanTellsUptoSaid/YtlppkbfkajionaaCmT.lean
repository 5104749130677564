/- The walks of grammars, the reference: reached. -/
import Derived.Test.YtlppkbfkajionaaCmS
namespace Go.Proofs.Ytlppkbfkajionaa.Cm
open Go Go.RowKit Gw Go.Shelf
set_option linter.unusedSimpArgs false
set_option linter.unusedVariables false
set_option linter.unusedSectionVars false
theorem mks_snoc (σ : List Bool) (l : List Int) (z : Int) : mks σ (l ++ [z]) = mk (mks σ l) z := by
  unfold mks; rw [List.foldl_append]; rfl
theorem mks_le {σ : List Bool} {l : List Int} (h : ∀ x ∈ l, 0 ≤ x ∧ x < (σ.length : Int)) : Le σ (mks σ l) := ⟨mks_len l σ, fun i hi => by rw [bg_mks l σ i h (by omega), hi, Bool.or_true]⟩
set_option maxHeartbeats 2000000 in
theorem rreached_calls (x : GS) (g : Gr) (p : Option Addr) (c : Nat) (rs : List (List Int)) (w : World) (hrr : Rr w p c rs) (hI : Ins g.names.length rs) (hst : 0 ≤ g.start ∧ g.start < (g.names.length : Int)) (hnm : g.names.length ≤ 128) : Calls Try.prog 139 #[.agg (gC x g).toArray, .slice p rs.length c] w fun e w' => ∃ p1 c1, e = .returned (.slice p1 g.names.length c1) ∧ w'.ownsRow w.heap.size 4 1 (.slice p1 g.names.length c1) g.names.length ((reachR rs g.start g.names.length).map bv) ∧ Below w.heap.size w w' := by
  have hcap := hrr.cap
  refine calls_start Try.func139 rfl (N := 60) rfl rfl _ (St.start _) rfl ?_
  refine wc_seq ?_
  refine wc_region ?_
  refine wl_go rfl (wo_box rfl rfl rfl rfl rfl (fun b2 hb2 => ?_))
  refine wl_go rfl (wo_val rfl (rv_assign rfl) rfl rfl ?_)
  refine wl_nil ?_
  refine wq_then ?_
  refine wc_seq ?_
  refine wc_region ?_
  refine wl_go rfl (wo_val rfl (rv_fieldAddr0 rfl) rfl rfl ?_)
  refine wl_go rfl (wo_val rfl (rv_load_own rfl rfl) rfl rfl ?_)
  refine wl_go rfl (wo_val rfl (rv_len rfl) rfl rfl ?_)
  refine wl_go rfl (wo_makeSlice (m := g.names.length) rfl rfl rfl rfl rfl (by omega) (fun b12 hb12 => ?_))
  rw [show List.replicate g.names.length (Value.bool false) = (List.replicate g.names.length false).map bv by rw [List.map_replicate]]
  refine wl_go rfl (wo_val rfl (rv_assign rfl) rfl rfl ?_)
  refine wl_nil ?_
  refine wq_then ?_
  refine wc_seq ?_
  refine wc_region ?_
  refine wl_go rfl (wo_val rfl (rv_move rfl) rfl rfl ?_)
  refine wl_go rfl (wo_val rfl (rv_fieldAddr rfl) rfl rfl ?_)
  refine wl_go rfl (wo_val rfl (rv_load_own rfl rfl) rfl rfl ?_)
  refine wl_go rfl (wo_val rfl (rv_indexAddr rfl rfl (by omega)) rfl rfl ?_)
  refine wl_go rfl (wo_store_at rfl rfl rfl rfl rfl rfl (by simp; omega) ?_)
  rw [map_mk]
  refine wl_nil ?_
  refine wq_then ?_
  refine wc_seq ?_
  refine wc_seq ?_
  refine wc_region ?_
  refine wl_go rfl (wo_val rfl (rv_assign rfl) rfl rfl ?_)
  refine wl_nil ?_
  refine wq_then ?_
  refine wc_block ?_
  have hlen : ∀ m, (it (rsw rs) m (mk (List.replicate g.names.length false) g.start)).length = g.names.length := fun m => it_good (Good := fun σ => σ.length = g.names.length) (fun σ hσ => by rw [rsw_len]; exact hσ) m _ (by rw [mk_len]; simp)
  refine wc_loop (fun m l S => ∃ (n : Nat) (w1 : World), n ≤ g.names.length + 1 ∧ m = g.names.length + 1 - n ∧ l = [(1, .slice p rs.length c), (2, .pointer (some ⟨b2, 0, none⟩)), (5, .slice (some ⟨b12, 0, none⟩) g.names.length g.names.length), (6, iv (n : Int))] ∧ S = ⟨w, G0, w1, [⟨b12, .cells (((it (rsw rs) n (mk (List.replicate g.names.length false) g.start))).map bv).toArray 4 (0, 0)⟩, ⟨b2, .cells (gC x g).toArray 60 (0, 0)⟩]⟩) ⟨_, _, ⟨0, _, by omega, rfl, rfl, rfl⟩, by repeat (first | exact sub_nil | refine sub_cons rfl ?_)⟩ ?_
  intro m l S hJ
  obtain ⟨n, w1, hn, rfl, rfl, rfl⟩ := hJ
  refine wc_seq ?_
  refine wc_seq ?_
  refine wc_region ?_
  refine wl_go rfl (wo_val rfl (rv_move rfl) rfl rfl ?_)
  refine wl_go rfl (wo_val rfl (rv_fieldAddr0 rfl) rfl rfl ?_)
  refine wl_go rfl (wo_val rfl (rv_load_own rfl rfl) rfl rfl ?_)
  refine wl_go rfl (wo_val rfl (rv_len rfl) rfl rfl ?_)
  refine wl_go rfl (wo_val rfl (rv_cmp_i rfl rfl rfl) rfl rfl ?_)
  refine wl_nil ?_
  refine wq_then ?_
  refine wc_cond rfl (fun hc21 => ?_) (fun hc21 => ?_)
  · simp only [decide_eq_true_eq, decide_eq_false_iff_not, Bool.not_eq_true', Bool.not_eq_false', bne_iff_ne, beq_iff_eq, bne_eq_false_iff_eq, beq_eq_false_iff_ne, Int.not_lt, Int.not_le] at hc21
    refine wc_skip ?_
    refine wq_then ?_
    refine wc_seq ?_
    refine wc_block ?_
    refine wc_seq ?_
    refine wc_region ?_
    refine wl_go rfl (wo_val rfl (rv_assign rfl) rfl rfl ?_)
    refine wl_nil ?_
    refine wq_then ?_
    refine wc_block ?_
    refine wc_loop (fun m l S => ∃ (k : Nat) (w1 : World), k ≤ rs.length ∧ m = rs.length - k ∧ l = [(1, .slice p rs.length c), (2, .pointer (some ⟨b2, 0, none⟩)), (5, .slice (some ⟨b12, 0, none⟩) g.names.length g.names.length), (6, iv (n : Int)), (7, iv (k : Int))] ∧ S = ⟨w, G0, w1, [⟨b12, .cells ((rsw (rs.take k) (it (rsw rs) n (mk (List.replicate g.names.length false) g.start))).map bv).toArray 4 (0, 0)⟩, ⟨b2, .cells (gC x g).toArray 60 (0, 0)⟩]⟩) ⟨_, _, ⟨0, _, Nat.zero_le _, rfl, rfl, rfl⟩, by repeat (first | exact sub_nil | refine sub_cons rfl ?_)⟩ ?_
    intro m l S hJ
    obtain ⟨k, w1, hk, rfl, rfl, rfl⟩ := hJ
    refine wc_seq ?_
    refine wc_seq ?_
    refine wc_region ?_
    refine wl_go rfl (wo_val rfl (rv_move rfl) rfl rfl ?_)
    refine wl_go rfl (wo_val rfl (rv_move rfl) rfl rfl ?_)
    refine wl_go rfl (wo_val rfl (rv_len rfl) rfl rfl ?_)
    refine wl_go rfl (wo_val rfl (rv_cmp_i rfl rfl rfl) rfl rfl ?_)
    refine wl_nil ?_
    refine wq_then ?_
    refine wc_cond rfl (fun hc27 => ?_) (fun hc27 => ?_)
    · simp only [decide_eq_true_eq, decide_eq_false_iff_not, Bool.not_eq_true', Bool.not_eq_false', bne_iff_ne, beq_iff_eq, bne_eq_false_iff_eq, beq_eq_false_iff_ne, Int.not_lt, Int.not_le] at hc27
      obtain ⟨r, hr⟩ := getE (l := rs) (i := k) (by omega)
      obtain ⟨g0, o0, q, d, hrp, hcell, hrow⟩ := hrr.read hr
      obtain rfl := hrp
      have hin := hI r (List.mem_of_getElem? hr)
      have hfp := hin.1
      obtain ⟨y, hy⟩ := getE hfp
      have hyd : r.headD 0 = y := by rw [List.headD_eq_head?_getD, List.head?_eq_getElem?, hy]; rfl
      have hyr := hin.head
      rw [hyd] at hyr
      obtain ⟨g1, o1, rfl, hcell1⟩ := hrow.read (map_get hy)
      have hcd := hrow.cap
      rw [List.length_map] at hcd
      generalize hσ : rsw (rs.take k) (it (rsw rs) n (mk (List.replicate g.names.length false) g.start)) = σ
      have hσl : σ.length = g.names.length := by rw [← hσ, rsw_len, hlen]
      refine wc_skip ?_
      refine wq_then ?_
      refine wc_seq ?_
      refine wc_block ?_
      refine wc_seq ?_
      refine wc_region ?_
      refine wl_go rfl (wo_val rfl (rv_assign rfl) rfl rfl ?_)
      refine wl_nil ?_
      refine wq_then ?_
      refine wc_block ?_
      refine wc_loop (fun m l S => ∃ (j : Nat) (ρ : List Bool) (w1 : World), 1 ≤ j ∧ j ≤ r.length ∧ ρ = mks σ ((r.take j).drop 1) ∧ (1 < j → bg σ y = true) ∧ m = r.length - j ∧ l = [(1, .slice (some ⟨g0, o0, none⟩) rs.length c), (2, .pointer (some ⟨b2, 0, none⟩)), (5, .slice (some ⟨b12, 0, none⟩) g.names.length g.names.length), (6, iv (n : Int)), (7, iv (k : Int)), (8, iv (j : Int))] ∧ S = ⟨w, G0, w1, [⟨b12, .cells ((ρ).map bv).toArray 4 (0, 0)⟩, ⟨b2, .cells (gC x g).toArray 60 (0, 0)⟩]⟩) ⟨_, _, ⟨1, σ, _, Nat.le_refl _, hfp, by rw [List.drop_eq_nil_of_le (by rw [List.length_take]; omega)]; rfl, fun h => by omega, rfl, rfl, rfl⟩, by repeat (first | exact sub_nil | refine sub_cons rfl ?_)⟩ ?_
      intro m l S hJ
      obtain ⟨j, ρ, w1, hj1, hj, hρ, hj2, rfl, rfl, rfl⟩ := hJ
      have hle : Le σ ρ := by rw [hρ]; exact mks_le (fun y hy => by rw [hσl]; exact hin.2 y (List.mem_of_mem_take (List.mem_of_mem_drop hy)))
      have hρl : ρ.length = g.names.length := by rw [hle.1, hσl]
      refine wc_seq ?_
      refine wc_seq ?_
      refine wc_region ?_
      refine wl_go rfl (wo_val rfl (rv_move rfl) rfl rfl ?_)
      refine wl_go rfl (wo_val rfl (rv_move rfl) rfl rfl ?_)
      refine wl_go rfl (wo_val rfl (rv_move rfl) rfl rfl ?_)
      refine wl_go rfl (wo_val rfl (rv_indexAddr rfl rfl (by omega)) rfl rfl ?_)
      refine wl_go rfl (wo_val rfl (rv_load_cell rfl (fun w4 hs4 => hcell w4 (hs4.below rfl))) rfl rfl ?_)
      refine wl_go rfl (wo_val rfl (rv_len rfl) rfl rfl ?_)
      refine wl_go rfl (wo_val rfl (rv_cmp_i rfl rfl rfl) rfl rfl ?_)
      refine wl_go rfl (wo_val rfl (rv_move rfl) rfl rfl ?_)
      refine wl_split (d := 37) rfl true (fun hg10_7 => ?_) (fun hg10_7 => ?_)
      · skip
        have hjl : (j : Int) < (r.length : Int) := by simpa using hg10_7
        refine wl_want rfl rfl rfl rfl rfl hg10_7 (wo_val rfl (rv_move rfl) rfl rfl ?_)
        refine wl_want rfl rfl rfl rfl rfl hg10_7 (wo_val rfl (rv_move rfl) rfl rfl ?_)
        refine wl_want rfl rfl rfl rfl rfl hg10_7 (wo_val rfl (rv_move rfl) rfl rfl ?_)
        refine wl_want rfl rfl rfl rfl rfl hg10_7 (wo_val rfl (rv_indexAddr rfl rfl (by omega)) rfl rfl ?_)
        refine wl_want rfl rfl rfl rfl rfl hg10_7 (wo_val rfl (rv_load_cell rfl (fun w4 hs4 => hcell w4 (hs4.below rfl))) rfl rfl ?_)
        refine wl_want rfl rfl rfl rfl rfl hg10_7 (wo_val rfl (rv_indexAddr rfl rfl (by omega)) rfl rfl ?_)
        refine wl_want rfl rfl rfl rfl rfl hg10_7 (wo_val rfl (rv_load_cell rfl (fun w4 hs4 => hcell1 w4 (hs4.below rfl))) rfl rfl ?_)
        refine wl_want rfl rfl rfl rfl rfl hg10_7 (wo_val rfl (rv_indexAddr rfl rfl (by omega)) rfl rfl ?_)
        refine wl_want rfl rfl rfl rfl rfl hg10_7 (wo_val rfl (rv_load_own (v := bv (bg ρ y)) rfl (bg_cell (by rw [hρl]; omega))) rfl rfl ?_)
        refine wl_go rfl (wo_val rfl (rv_pick_t rfl hg10_7 rfl) rfl rfl ?_)
        refine wl_nil ?_
        refine wq_then ?_
        refine wc_cond rfl (fun hc47 => ?_) (fun hc47 => ?_)
        · skip
          have hyt : bg ρ y = true := hc47
          obtain ⟨z, hz⟩ := getE (l := r) (i := j) (by omega)
          have hzr := hin.2 z (List.mem_of_getElem? hz)
          obtain ⟨_, _, ez, hcz⟩ := hrow.read (map_get hz)
          cases ez
          refine wc_skip ?_
          refine wq_then ?_
          refine wc_seq ?_
          refine wc_block ?_
          refine wc_region ?_
          refine wl_go rfl (wo_val rfl (rv_move rfl) rfl rfl ?_)
          refine wl_go rfl (wo_val rfl (rv_move rfl) rfl rfl ?_)
          refine wl_go rfl (wo_val rfl (rv_move rfl) rfl rfl ?_)
          refine wl_go rfl (wo_val rfl (rv_indexAddr rfl rfl (by omega)) rfl rfl ?_)
          refine wl_go rfl (wo_val rfl (rv_load_cell rfl (fun w4 hs4 => hcell w4 (hs4.below rfl))) rfl rfl ?_)
          refine wl_go rfl (wo_val rfl (rv_move rfl) rfl rfl ?_)
          refine wl_go rfl (wo_val rfl (rv_indexAddr rfl rfl (by omega)) rfl rfl ?_)
          refine wl_go rfl (wo_val rfl (rv_load_cell rfl (fun w4 hs4 => hcz w4 (hs4.below rfl))) rfl rfl ?_)
          refine wl_go rfl (wo_val rfl (rv_indexAddr rfl rfl (by omega)) rfl rfl ?_)
          refine wl_go rfl (wo_store_at rfl rfl rfl rfl rfl rfl (by rw [List.length_map, hρl]; omega) ?_)
          rw [map_mk]
          refine wl_nil ?_
          refine wq_in_normal ?_
          refine wq_then ?_
          refine wc_region ?_
          refine wl_go rfl (wo_val rfl (rv_move rfl) rfl rfl ?_)
          refine wl_go rfl (wo_val rfl (rv_add rfl rfl (by omega)) rfl rfl ?_)
          refine wl_go rfl (wo_val rfl (rv_assign rfl) rfl rfl ?_)
          refine wl_nil ?_
          refine wq_round ⟨_, _, ⟨j + 1, mk ρ z, _, by omega, by omega, ?_, fun _ => ?_, rfl, rfl, rfl⟩, by omega, by repeat (first | exact sub_nil | refine sub_cons rfl ?_)⟩
          · rw [List.take_add_one, hz, List.drop_append_of_le_length (by rw [List.length_take]; omega), Option.toList_some, mks_snoc, ← hρ]
          · by_cases e : j = 1
            · rw [hρ, e, List.drop_eq_nil_of_le (by rw [List.length_take]; omega)] at hyt; exact hyt
            · exact hj2 (by omega)
        · skip
          refine wc_exit ?_
          refine wq_then_exit ?_
          refine wq_then_exit ?_
          refine wq_in_here ?_
          refine wq_in_normal ?_
          refine wq_then ?_
          refine wc_region ?_
          refine wl_go rfl (wo_val rfl (rv_move rfl) rfl rfl ?_)
          refine wl_go rfl (wo_val rfl (rv_add rfl rfl (by omega)) rfl rfl ?_)
          refine wl_go rfl (wo_val rfl (rv_assign rfl) rfl rfl ?_)
          refine wl_nil ?_
          have e2 : ρ = rsw (rs.take (k + 1)) (it (rsw rs) n (mk (List.replicate g.names.length false) g.start)) := by
            rw [List.take_add_one, hr, Option.toList_some, rsw_snoc, hσ]
            unfold rstep
            rw [hyd]
            rw [if_neg (by intro h; rw [le_bg hle h] at hc47; cases hc47)]
            by_cases e : j = 1
            · rw [hρ, e, List.drop_eq_nil_of_le (by rw [List.length_take]; omega)]; rfl
            · have := hj2 (by omega)
              rw [le_bg hle this] at hc47; cases hc47
          rw [e2]
          exact wq_round ⟨_, _, ⟨k + 1, _, by omega, rfl, rfl, rfl⟩, by omega, by repeat (first | exact sub_nil | refine sub_cons rfl ?_)⟩
      · skip
        have hjl : (r.length : Int) ≤ (j : Int) := by simpa using hg10_7
        obtain rfl : j = r.length := by omega
        refine wl_skip rfl rfl rfl rfl rfl hg10_7 rfl ?_
        refine wl_skip rfl rfl rfl rfl rfl hg10_7 rfl ?_
        refine wl_skip rfl rfl rfl rfl rfl hg10_7 rfl ?_
        refine wl_skip rfl rfl rfl rfl rfl hg10_7 rfl ?_
        refine wl_skip rfl rfl rfl rfl rfl hg10_7 rfl ?_
        refine wl_skip rfl rfl rfl rfl rfl hg10_7 rfl ?_
        refine wl_skip rfl rfl rfl rfl rfl hg10_7 rfl ?_
        refine wl_skip rfl rfl rfl rfl rfl hg10_7 rfl ?_
        refine wl_skip rfl rfl rfl rfl rfl hg10_7 rfl ?_
        refine wl_go rfl (wo_val rfl (rv_pick_f rfl hg10_7 rfl) rfl rfl ?_)
        refine wl_nil ?_
        refine wq_then ?_
        refine wc_cond_f rfl rfl ?_
        refine wc_exit ?_
        refine wq_then_exit ?_
        refine wq_then_exit ?_
        refine wq_in_here ?_
        refine wq_in_normal ?_
        refine wq_then ?_
        refine wc_region ?_
        refine wl_go rfl (wo_val rfl (rv_move rfl) rfl rfl ?_)
        refine wl_go rfl (wo_val rfl (rv_add rfl rfl (by omega)) rfl rfl ?_)
        refine wl_go rfl (wo_val rfl (rv_assign rfl) rfl rfl ?_)
        refine wl_nil ?_
        have e2 : ρ = rsw (rs.take (k + 1)) (it (rsw rs) n (mk (List.replicate g.names.length false) g.start)) := by
          rw [List.take_add_one, hr, Option.toList_some, rsw_snoc, hσ]
          unfold rstep
          rw [hyd]
          rw [List.take_length] at hρ
          by_cases hb : bg σ y = true
          · rw [if_pos hb]; exact hρ
          · rw [if_neg hb, hρ, List.drop_eq_nil_of_le (by
              by_cases e : r.length = 1
              · omega
              · exact absurd (hj2 (by omega)) hb)]; rfl
        rw [e2]
        exact wq_round ⟨_, _, ⟨k + 1, _, by omega, rfl, rfl, rfl⟩, by omega, by repeat (first | exact sub_nil | refine sub_cons rfl ?_)⟩
    · simp only [decide_eq_true_eq, decide_eq_false_iff_not, Bool.not_eq_true', Bool.not_eq_false', bne_iff_ne, beq_iff_eq, bne_eq_false_iff_eq, beq_eq_false_iff_ne, Int.not_lt, Int.not_le] at hc27
      obtain rfl : k = rs.length := by omega
      rw [List.take_length]
      refine wc_exit ?_
      refine wq_then_exit ?_
      refine wq_then_exit ?_
      refine wq_in_here ?_
      refine wq_in_normal ?_
      refine wq_then ?_
      refine wc_region ?_
      refine wl_go rfl (wo_val rfl (rv_move rfl) rfl rfl ?_)
      refine wl_go rfl (wo_val rfl (rv_add rfl rfl (by omega)) rfl rfl ?_)
      refine wl_go rfl (wo_val rfl (rv_assign rfl) rfl rfl ?_)
      refine wl_nil ?_
      rw [← it_succ (rsw rs) n (mk (List.replicate g.names.length false) g.start)]
      exact wq_round ⟨_, _, ⟨n + 1, _, by omega, rfl, rfl, rfl⟩, by omega, by repeat (first | exact sub_nil | refine sub_cons rfl ?_)⟩
  · simp only [decide_eq_true_eq, decide_eq_false_iff_not, Bool.not_eq_true', Bool.not_eq_false', bne_iff_ne, beq_iff_eq, bne_eq_false_iff_eq, beq_eq_false_iff_ne, Int.not_lt, Int.not_le] at hc21
    obtain rfl : n = g.names.length + 1 := by omega
    refine wc_exit ?_
    refine wq_then_exit ?_
    refine wq_then_exit ?_
    refine wq_in_here ?_
    refine wq_then ?_
    refine wc_seq ?_
    refine wc_region ?_
    refine wl_go rfl (wo_val rfl (rv_move rfl) rfl rfl ?_)
    refine wl_go rfl (wo_val rfl (rv_assign rfl) rfl rfl ?_)
    refine wl_nil ?_
    refine wq_then ?_
    refine wc_ret ?_
    refine wq_ret1 rfl rfl (rr_tmp rfl) (fun w9 hs9 => ?_)
    have ho := hs9.blk ⟨b12, _⟩ List.mem_cons_self
    refine ⟨some ⟨b12, 0, none⟩, g.names.length, rfl, ?_, hs9.below rfl⟩
    have h9 := own_all (reachR_len rs g.start g.names.length) (show w9.heap[b12]? = some (.cells ((reachR rs g.start g.names.length).map bv).toArray 4 (0, 0)) from ho) hb12 (by unfold maxLen; omega)
    rw [reachR_len] at h9
    exact h9
end Go.Proofs.Ytlppkbfkajionaa.Cm
