/- The walks of grammars: marked symbols. -/
import Derived.Test.YtlppkbfkajionaaCmQ
import Derived.Test.YtlppkbfkajionaaCmE
namespace Go.Proofs.Ytlppkbfkajionaa.Cm
open Go Go.RowKit Gw Go.Shelf
set_option linter.unusedSimpArgs false
set_option linter.unusedVariables false
set_option linter.unusedSectionVars false
/-- a slice of marks, by a variable that holds it -/
structure Sg (w : World) (bp bo : Nat) (σ : List Bool) : Prop where
  p : w.heap[bp]? = some (.cells ([.slice (some ⟨bo, 0, none⟩) σ.length σ.length] : List Value).toArray 28 (0, 0))
  o : w.heap[bo]? = some (.cells (σ.map bv).toArray 4 (0, 0))
  lim : σ.length ≤ 1000000
theorem Sg.ne {w : World} {bp bo : Nat} {σ : List Bool} (h : Sg w bp bo σ) : bp ≠ bo := fun e => by
  subst e
  have h1 := h.p
  rw [h.o] at h1
  simp at h1
theorem Sg.same {w w1 : World} {bp bo : Nat} {σ : List Bool} (h : Sg w bp bo σ) (h1 : w1.heap[bp]? = w.heap[bp]?) (h2 : w1.heap[bo]? = w.heap[bo]?) : Sg w1 bp bo σ := ⟨by rw [h1]; exact h.p, by rw [h2]; exact h.o, h.lim⟩
theorem Sg.ltp {w : World} {bp bo : Nat} {σ : List Bool} (h : Sg w bp bo σ) : bp < w.heap.size := (Array.getElem?_eq_some_iff.1 h.p).1
theorem Sg.lto {w : World} {bp bo : Nat} {σ : List Bool} (h : Sg w bp bo σ) : bo < w.heap.size := (Array.getElem?_eq_some_iff.1 h.o).1
theorem Sg.below {w w1 : World} {bp bo : Nat} {σ : List Bool} (h : Sg w bp bo σ) (hb : Below w.heap.size w w1) : Sg w1 bp bo σ := h.same (hb.block _ h.ltp) (hb.block _ h.lto)
theorem Sg.cellp {w : World} {bp bo : Nat} {σ : List Bool} (h : Sg w bp bo σ) : w.cell? ⟨bp, 0, none⟩ = some (.slice (some ⟨bo, 0, none⟩) σ.length σ.length) := by
  rw [cell_blk h.p]; rfl
theorem bg_cell {σ : List Bool} {n : Int} (h : 0 ≤ n ∧ n < (σ.length : Int)) : (σ.map bv)[0 + n.toNat * 1]? = some (bv (bg σ n)) := by
  rw [Nat.zero_add, Nat.mul_one, List.getElem?_map, bg_get (by omega)]; rfl
theorem Sg.cell {w : World} {bp bo : Nat} {σ : List Bool} (h : Sg w bp bo σ) {n : Int} (hn : 0 ≤ n ∧ n < (σ.length : Int)) : w.cell? ⟨bo, 0 + n.toNat * 1, none⟩ = some (bv (bg σ n)) := by
  rw [cell_blk h.o]; exact bg_cell hn
theorem st_start1 {w : World} {b : Nat} {o : Obj} (h : w.heap[b]? = some o) : St ⟨w, ⟨[b], []⟩, w, [⟨b, o⟩]⟩ w :=
  ⟨rfl, rfl, rfl, Nat.le_refl _, Nat.le_refl _, fun _ _ _ => rfl, fun _ _ _ => rfl, List.pairwise_singleton _ _, fun x hx => (by simp at hx; subst hx; exact .inl (by simp)), fun x hx => (by simp at hx; subst hx; exact h)⟩
theorem st_startb (w : World) (b : Nat) : St ⟨w, ⟨[b], []⟩, w, []⟩ w :=
  ⟨rfl, rfl, rfl, Nat.le_refl _, Nat.le_refl _, fun _ _ _ => rfl, fun _ _ _ => rfl, .nil, fun x hx => (by cases hx), fun x hx => (by cases hx)⟩
theorem Sg.st {w w0 w4 : World} {bp bo : Nat} {σ τ : List Bool} {own : List Blk} {ds : List Deferred} (h : Sg w bp bo σ) (hs : St ⟨w, ⟨[bo], ds⟩, w0, own⟩ w4) (hb : w4.heap[bo]? = some (.cells (τ.map bv).toArray 4 (0, 0))) (hl : τ.length = σ.length) : Sg w4 bp bo τ :=
  ⟨by rw [(St.grown1 hs).block bp h.ltp (by simpa using h.ne), hl]; exact h.p, hb, by rw [hl]; exact h.lim⟩
theorem map_mk (σ : List Bool) (n : Int) : (σ.map bv).set (0 + n.toNat * 1) (bv true) = (mk σ n).map bv := by
  rw [Nat.zero_add, Nat.mul_one]; unfold mk; rw [List.map_set]
theorem m11_calls (bp bo : Nat) (σ : List Bool) (n : Int) (hn : 0 ≤ n ∧ n < (σ.length : Int)) (w : World) (hS : Sg w bp bo σ) : Calls Try.prog 149 #[iv n, .pointer (some ⟨bp, 0, none⟩)] w fun e w' => e = .returned (.bool (!bg σ n)) ∧ Below w.heap.size w w' := by
  refine calls_start Try.func149 rfl (N := 9) rfl rfl _ (St.start _) rfl ?_
  refine wc_seq ?_
  refine wc_region ?_
  refine wl_go rfl (wo_val rfl (rv_assign rfl) rfl rfl ?_)
  refine wl_nil ?_
  refine wq_then ?_
  refine wc_seq ?_
  refine wc_region ?_
  refine wl_go rfl (wo_val rfl (rv_load_cell rfl (fun w4 hs4 => (hS.below (hs4.below rfl)).cellp)) rfl rfl ?_)
  refine wl_go rfl (wo_val rfl (rv_move rfl) rfl rfl ?_)
  refine wl_go rfl (wo_val rfl (rv_indexAddr rfl rfl (by omega)) rfl rfl ?_)
  refine wl_go rfl (wo_val rfl (rv_load_cell rfl (fun w4 hs4 => (hS.below (hs4.below rfl)).cell hn)) rfl rfl ?_)
  refine wl_go rfl (wo_val rfl (rv_not rfl) rfl rfl ?_)
  refine wl_go rfl (wo_val rfl (rv_assign rfl) rfl rfl ?_)
  refine wl_nil ?_
  refine wq_then ?_
  refine wc_ret ?_
  refine wq_ret1 rfl rfl (rr_tmp rfl) (fun w9 hs9 => ?_)
  exact ⟨rfl, hs9.below rfl⟩
set_option maxHeartbeats 1000000 in
theorem m1_calls (bp bo : Nat) (σ : List Bool) (q : Option Addr) (d : Nat) (r : List Int) (w : World) (hS : Sg w bp bo σ) (hrv : Rv w q d (r.map iv)) (hin : In σ.length r) : Calls Try.prog 148 #[.slice q r.length d, .pointer (some ⟨bp, 0, none⟩)] w fun e w' => e = .returned (bv (step σ r).1) ∧ Sg w' bp bo (step σ r).2 ∧ w.grownBy w' (some bo) := by
  have hcap := hrv.cap
  rw [List.length_map] at hcap
  have hpos := hin.1
  obtain ⟨y, hy⟩ := getE hpos
  have hyd : r.headD 0 = y := by rw [List.headD_eq_head?_getD, List.head?_eq_getElem?, hy]; rfl
  have hyr := hin.head
  rw [hyd] at hyr
  obtain ⟨g1, o1, rfl, hc0⟩ := hrv.at_ 0 _ (map_get hy)
  have hK : ∀ {w0 w4 : World} {own : List Blk} {ds : List Deferred}, St ⟨w, ⟨[bo], ds⟩, w0, own⟩ w4 → Keep NoB w w4 := fun hs => keep_but (St.grown1 hs) hS.o (bools_not σ)
  have hint : ∀ u ∈ r.map iv, NoB u := fun u hu b e => by obtain ⟨z, _, rfl⟩ := List.mem_map.1 hu; cases e
  have hcell : ∀ {w0 w4 : World} {own : List Blk} {ds : List Deferred}, St ⟨w, ⟨[bo], ds⟩, w0, own⟩ w4 → w4.cell? ⟨g1, o1 + 0 * 1, none⟩ = some (iv y) := fun hs => hK hs _ _ _ (fun b e => by cases e) hc0
  have hSg : ∀ {w0 w4 : World} {ds : List Deferred}, St ⟨w, ⟨[bo], ds⟩, w0, [⟨bo, .cells (σ.map bv).toArray 4 (0, 0)⟩]⟩ w4 → Sg w4 bp bo σ := fun hs => hS.st hs (hs.blk ⟨bo, _⟩ (by simp)) rfl
  refine calls_start Try.func148 rfl (N := 21) rfl rfl _ (st_start1 hS.o) rfl ?_
  refine wc_seq ?_
  refine wc_region ?_
  refine wl_go rfl (wo_val rfl (rv_assign rfl) rfl rfl ?_)
  refine wl_nil ?_
  refine wq_then ?_
  refine wc_seq ?_
  refine wc_seq ?_
  refine wc_region_quiet (by kernel_rfl) (by kernel_rfl) ?_
  refine wk_val rfl rfl (rv_load_cell rfl (fun w4 hs4 => (hSg hs4).cellp)) rfl rfl ?_
  refine wk_val rfl rfl (rv_move rfl) rfl rfl ?_
  refine wk_val rfl rfl (rv_indexAddr rfl rfl (by omega)) rfl rfl ?_
  refine wk_val rfl rfl (rv_load_cell rfl (fun w4 hs4 => hcell hs4)) rfl rfl ?_
  refine wk_val rfl rfl (rv_indexAddr rfl rfl (by omega)) rfl rfl ?_
  refine wk_val rfl rfl (rv_load_own (v := bv (bg σ y)) rfl (bg_cell hyr)) rfl rfl ?_
  refine wk_val rfl rfl (rv_move rfl) rfl rfl ?_
  refine wk_split (d := 10) rfl true (fun hg1_6 => ?_) (fun hg1_6 => ?_)
  · skip
    have hs0 : step σ r = (false, σ) := by unfold step; rw [if_pos]; rw [hyd, show bg σ y = true from hg1_6]; rfl
    refine wk_skip rfl rfl rfl rfl rfl hg1_6 rfl ?_
    refine wk_skip rfl rfl rfl rfl rfl hg1_6 rfl ?_
    refine wk_skip rfl rfl rfl rfl rfl hg1_6 rfl ?_
    refine wk_skip rfl rfl rfl rfl rfl hg1_6 rfl ?_
    refine wk_val rfl rfl (rv_pick_t rfl hg1_6 rfl) rfl rfl ?_
    refine wk_nil ?_
    refine wq_then ?_
    refine wc_cond_t rfl rfl ?_
    refine wc_seq ?_
    refine wc_region ?_
    refine wl_go rfl (wo_val rfl (rv_assign rfl) rfl rfl ?_)
    refine wl_nil ?_
    refine wq_then ?_
    refine wc_ret ?_
    refine wq_then_ret ?_
    refine wq_ret1 rfl rfl (rr_tmp rfl) (fun w9 hs9 => ?_)
    rw [hs0]
    exact ⟨rfl, hSg hs9, St.grown1 hs9⟩
  · skip
    have hb0 : bg σ y = false := hg1_6
    refine wk_want rfl rfl rfl rfl rfl hg1_6 rfl (rv_move rfl) rfl rfl ?_
    refine wk_want rfl rfl rfl rfl rfl hg1_6 rfl (rv_slice (lv := 1) rfl ⟨.i64, 1, rfl, by omega, rfl⟩ (bnd_none) (by omega)) rfl rfl ?_
    refine wk_want rfl rfl rfl rfl rfl hg1_6 rfl (rv_makeFunc rfl rfl) rfl rfl ?_
    refine wk_call_want rfl rfl rfl rfl rfl hg1_6 rfl rfl (enters_of Try.func105 (by kernel_rfl) rfl) rfl rfl rfl (fun w hs => by
          have h := cont_calls 149 [.pointer (some ⟨bp, 0, none⟩)] (enters_of Try.func149 (by kernel_rfl) rfl) (fun n => !bg σ n) _ _ (r.drop 1) w (by have := (hrv.keep (hK hs) hint).drop 1 (by simp; omega); rw [← List.map_drop] at this; exact this) (fun n hn w5 hb5 => m11_calls bp bo σ n (hin.2 n (List.mem_of_mem_drop hn)) w5 ((hSg hs).below hb5))
          rw [List.length_drop] at h
          exact h) ?_
    refine wk_val rfl rfl (rv_pick_f rfl hg1_6 rfl) rfl rfl ?_
    refine wk_nil ?_
    refine wq_then ?_
    refine wc_cond rfl (fun hc15 => ?_) (fun hc15 => ?_)
    · skip
      have hs0 : step σ r = (false, σ) := by unfold step; rw [if_pos]; rw [show ((r.drop 1).any fun n => !bg σ n) = true from hc15, Bool.or_true]
      refine wc_seq ?_
      refine wc_region ?_
      refine wl_go rfl (wo_val rfl (rv_assign rfl) rfl rfl ?_)
      refine wl_nil ?_
      refine wq_then ?_
      refine wc_ret ?_
      refine wq_then_ret ?_
      refine wq_ret1 rfl rfl (rr_tmp rfl) (fun w9 hs9 => ?_)
      rw [hs0]
      exact ⟨rfl, hSg hs9, St.grown1 hs9⟩
    · skip
      have hs1 : step σ r = (true, mk σ (r.headD 0)) := by unfold step; rw [if_neg]; rw [hyd, hb0, show ((r.drop 1).any fun n => !bg σ n) = false from hc15]; simp
      refine wc_skip ?_
      refine wq_then ?_
      refine wc_seq ?_
      refine wc_region_stage (by kernel_rfl) (by kernel_rfl) ?_
      refine ws_q (i := 0) rfl (by kernel_rfl) (rq_val rfl rfl rfl (rv_load_cell rfl (fun w4 hs4 => (hSg hs4).cellp))) rfl rfl ?_
      refine ws_q (i := 1) rfl (by kernel_rfl) (rq_val rfl rfl rfl (rv_move rfl)) rfl rfl ?_
      refine ws_q (i := 2) rfl (by kernel_rfl) (rq_val rfl rfl rfl (rv_indexAddr rfl rfl (by omega))) rfl rfl ?_
      refine ws_q (i := 3) rfl (by kernel_rfl) (rq_val rfl rfl rfl (rv_load_cell rfl (fun w4 hs4 => hcell hs4))) rfl rfl ?_
      refine ws_q (i := 4) rfl (by kernel_rfl) (rq_val rfl rfl rfl (rv_indexAddr rfl rfl (by omega))) rfl rfl ?_
      refine ws_w 5 rfl (by kernel_rfl) (by kernel_rfl) rfl (wo_store_at rfl rfl rfl rfl rfl rfl (by rw [List.length_map]; omega) ?_)
      refine wl_stage (pa_drop (by kernel_rfl) (pa_drop (by kernel_rfl) (pa_drop (by kernel_rfl) (pa_drop (by kernel_rfl) (pa_drop (by kernel_rfl) (pa_nil)))))) ?_
      refine ws_nil (by kernel_rfl) ?_
      refine wq_then ?_
      refine wc_seq ?_
      refine wc_region ?_
      refine wl_go rfl (wo_val rfl (rv_assign rfl) rfl rfl ?_)
      refine wl_nil ?_
      refine wq_then ?_
      refine wc_ret ?_
      refine wq_ret1 rfl rfl (rr_tmp rfl) (fun w9 hs9 => ?_)
      rw [hs1, hyd]
      have hb9 : w9.heap[bo]? = some (.cells ((σ.map bv).set (0 + y.toNat * 1) (bv true)).toArray 4 (0, 0)) := hs9.blk ⟨bo, _⟩ (List.mem_singleton.2 rfl)
      rw [map_mk] at hb9
      exact ⟨rfl, hS.st hs9 hb9 (mk_len _ _), St.grown1 hs9⟩
theorem sgr {w w0 w4 : World} {bp bo b : Nat} {σ : List Bool} {ds : List Deferred} (h : Sg w0 bp bo σ) (hs : St ⟨w, ⟨[b], ds⟩, w0, []⟩ w4) : Sg w4 bp bo σ := h.same (hs.old0 _ h.ltp (fun x hx => by cases hx)) (hs.old0 _ h.lto (fun x hx => by cases hx))
set_option maxHeartbeats 1000000 in
theorem until_calls (bp bo : Nat) (σ0 : List Bool) (p : Option Addr) (c : Nat) (rs : List (List Int)) (w : World) (hS : Sg w bp bo σ0) (hrr : Rr w p c rs) (hin : ∀ r ∈ rs, In σ0.length r) : Calls Try.prog 147 #[.slice p rs.length c, .func (.func 148) #[] #[.pointer (some ⟨bp, 0, none⟩)]] w fun e w' => ∃ n, e = .returned (.tuple #[]) ∧ (sweep rs (it (fun σ => (sweep rs σ).2) n σ0)).1 = false ∧ Sg w' bp bo (it (fun σ => (sweep rs σ).2) n σ0) ∧ w.grownBy w' (some bo) := by
  have hcap := hrr.cap
  have hlen : ∀ n, (it (fun σ => (sweep rs σ).2) n σ0).length = σ0.length := fun n => it_good (Good := fun σ => σ.length = σ0.length) (fun σ hσ => by rw [sweep_len]; exact hσ) n _ rfl
  have hK : ∀ {w0 w4 : World} {own : List Blk} {ds : List Deferred}, St ⟨w, ⟨[bo], ds⟩, w0, own⟩ w4 → Keep NoB w w4 := fun hs => keep_but (St.grown1 hs) hS.o (bools_not σ0)
  refine calls_start Try.func147 rfl (N := 21) rfl rfl _ (st_startb w bo) rfl ?_
  refine wc_seq ?_
  refine wc_region ?_
  refine wl_go rfl (wo_val rfl (rv_assign rfl) rfl rfl ?_)
  refine wl_nil ?_
  refine wq_then ?_
  refine wc_block ?_
  refine wc_loop (fun m l S => ∃ (n : Nat) (more : Bool) (w1 : World), Sg w1 bp bo (it (fun σ => (sweep rs σ).2) n σ0) ∧ (more = false → (sweep rs (it (fun σ => (sweep rs σ).2) n σ0)).1 = false) ∧ m = (if more then falses (it (fun σ => (sweep rs σ).2) n σ0) + 1 else 0) ∧ l = [(0, .slice p rs.length c), (1, .func (.func 148) #[] #[.pointer (some ⟨bp, 0, none⟩)]), (4, bv more)] ∧ S = ⟨w, ⟨[bo], []⟩, w1, []⟩) ⟨_, _, ⟨0, true, _, hS, by simp, rfl, rfl, rfl⟩, by repeat (first | exact sub_nil | refine sub_cons rfl ?_)⟩ ?_
  intro m l S hJ
  obtain ⟨n, more, w1, hSn, hend, rfl, rfl, rfl⟩ := hJ
  refine wc_seq ?_
  refine wc_seq ?_
  refine wc_region ?_
  refine wl_go rfl (wo_val rfl (rv_move rfl) rfl rfl ?_)
  refine wl_nil ?_
  refine wq_then ?_
  refine wc_cond rfl (fun hc7 => ?_) (fun hc7 => ?_)
  · skip
    subst hc7
    refine wc_skip ?_
    refine wq_then ?_
    refine wc_block ?_
    refine wc_seq ?_
    refine wc_region ?_
    refine wl_go rfl (wo_val rfl (rv_assign rfl) rfl rfl ?_)
    refine wl_nil ?_
    refine wq_then ?_
    refine wc_seq ?_
    refine wc_region ?_
    refine wl_go rfl (wo_val rfl (rv_move rfl) rfl rfl ?_)
    refine wl_go rfl (wo_val rfl (rv_len rfl) rfl rfl ?_)
    refine wl_go rfl (wo_val rfl (rv_move rfl) rfl rfl ?_)
    refine wl_nil ?_
    refine wq_then ?_
    refine wc_block ?_
    refine wc_loop (fun m l S => ∃ (k : Nat) (w1 : World), k ≤ rs.length ∧ Sg w1 bp bo (sweep (rs.take k) (it (fun σ => (sweep rs σ).2) n σ0)).2 ∧ m = rs.length - k ∧ l = [(0, .slice p rs.length c), (1, .func (.func 148) #[] #[.pointer (some ⟨bp, 0, none⟩)]), (4, bv (sweep (rs.take k) (it (fun σ => (sweep rs σ).2) n σ0)).1), (8, .slice p rs.length c), (9, iv (rs.length : Int)), (10, iv (k : Int))] ∧ S = ⟨w, ⟨[bo], []⟩, w1, []⟩) ⟨_, _, ⟨0, _, Nat.zero_le _, hSn, rfl, rfl, rfl⟩, by repeat (first | exact sub_nil | refine sub_cons rfl ?_)⟩ ?_
    intro m l S hJ
    obtain ⟨k, w1, hk, hSk, rfl, rfl, rfl⟩ := hJ
    refine wc_seq ?_
    refine wc_region ?_
    refine wl_go rfl (wo_val rfl (rv_cmp_i rfl rfl rfl) rfl rfl ?_)
    refine wl_nil ?_
    refine wq_then ?_
    refine wc_seq ?_
    refine wc_cond rfl (fun hc11 => ?_) (fun hc11 => ?_)
    · simp only [decide_eq_true_eq, decide_eq_false_iff_not, Bool.not_eq_true', Bool.not_eq_false', bne_iff_ne, beq_iff_eq, bne_eq_false_iff_eq, beq_eq_false_iff_ne, Int.not_lt, Int.not_le] at hc11
      obtain ⟨r, hr⟩ := getE (l := rs) (i := k) (by omega)
      obtain ⟨g0, o0, q, d, hrp, hc, hv⟩ := hrr.at_ k r hr
      rw [hrp]
      generalize hσk : (sweep (rs.take k) (it (fun σ => (sweep rs σ).2) n σ0)).2 = σk at hSk
      have hσl : σk.length = σ0.length := by rw [← hσk, sweep_len, hlen]
      refine wc_skip ?_
      refine wq_then ?_
      refine wc_seq ?_
      refine wc_block ?_
      refine wc_seq ?_
      refine wc_region ?_
      refine wl_go rfl (wo_val rfl (rv_indexAddr rfl rfl (by omega)) rfl rfl ?_)
      refine wl_go rfl (wo_val rfl (rv_load_cell rfl (fun w4 hs4 => hK hs4 _ _ _ (fun b e => by cases e) hc)) rfl rfl ?_)
      refine wl_go rfl (wo_val rfl (rv_assign rfl) rfl rfl ?_)
      refine wl_nil ?_
      refine wq_then ?_
      refine wc_region ?_
      refine wl_go rfl (wo_val rfl (rv_move rfl) rfl rfl ?_)
      refine wl_go rfl (wo_val rfl (rv_move rfl) rfl rfl ?_)
      refine wl_go rfl (wo_call_mut (R := fun _ v w3 => v = bv (step σk r).1 ∧ Sg w3 bp bo (step σk r).2) (q := bo) (own2 := []) rfl rfl (enters_of Try.func148 (by kernel_rfl) rfl) rfl rfl rfl (.inr (by simp)) (fun x hx => by cases hx) .nil (fun w4 hs4 => (m1_calls bp bo σk q d r w4 (sgr hSk hs4) (hv.keep (hK hs4) (fun u hu b e => by obtain ⟨z, _, rfl⟩ := List.mem_map.1 hu; cases e)) (by rw [hσl]; exact hin r (List.mem_of_getElem? hr))).mono fun e w' h => ⟨_, h.1, ⟨rfl, h.2.1⟩, h.2.2⟩) (fun w2 v w3 hs2 hvv hg2 hm2 => ?_))
      obtain ⟨rfl, hS3⟩ := hvv
      refine wl_go rfl (wo_val rfl (rv_move rfl) rfl rfl ?_)
      refine wl_split (d := 17) rfl true (fun hg6_3 => ?_) (fun hg6_3 => ?_)
      · skip
        refine wl_skip rfl rfl rfl rfl rfl hg6_3 rfl ?_
        refine wl_go rfl (wo_val rfl (rv_pick_t rfl hg6_3 rfl) rfl rfl ?_)
        refine wl_go rfl (wo_val rfl (rv_assign rfl) rfl rfl ?_)
        refine wl_nil ?_
        refine wq_in_normal ?_
        refine wq_then ?_
        refine wc_region ?_
        refine wl_go rfl (wo_val rfl (rv_add rfl rfl (by omega)) rfl rfl ?_)
        refine wl_go rfl (wo_val rfl (rv_move rfl) rfl rfl ?_)
        refine wl_nil ?_
        have e1 : sweep (rs.take (k + 1)) (it (fun σ => (sweep rs σ).2) n σ0) = (true, (step σk r).2) := by
          rw [List.take_add_one, hr, Option.toList_some, sweep_snoc, hσk, show (step σk r).1 = true from hg6_3]; rfl
        refine wq_round ⟨_, [(0, .slice (some ⟨g0, o0, none⟩) rs.length c), (1, .func (.func 148) #[] #[.pointer (some ⟨bp, 0, none⟩)]), (4, bv (true)), (8, .slice (some ⟨g0, o0, none⟩) rs.length c), (9, iv (rs.length : Int)), (10, iv ((k + 1 : Nat) : Int))], ⟨k + 1, _, by omega, by rw [e1]; exact hS3, rfl, by first | (rw [e1]; done) | (rw [e1]; rfl), rfl⟩, by omega, by repeat (first | exact sub_nil | refine sub_cons rfl ?_)⟩
      · skip
        refine wl_want rfl rfl rfl rfl rfl hg6_3 (wo_val rfl (rv_move rfl) rfl rfl ?_)
        refine wl_go rfl (wo_val rfl (rv_pick_f rfl hg6_3 rfl) rfl rfl ?_)
        refine wl_go rfl (wo_val rfl (rv_assign rfl) rfl rfl ?_)
        refine wl_nil ?_
        refine wq_in_normal ?_
        refine wq_then ?_
        refine wc_region ?_
        refine wl_go rfl (wo_val rfl (rv_add rfl rfl (by omega)) rfl rfl ?_)
        refine wl_go rfl (wo_val rfl (rv_move rfl) rfl rfl ?_)
        refine wl_nil ?_
        have e1 : sweep (rs.take (k + 1)) (it (fun σ => (sweep rs σ).2) n σ0) = ((sweep (rs.take k) (it (fun σ => (sweep rs σ).2) n σ0)).1, (step σk r).2) := by
          rw [List.take_add_one, hr, Option.toList_some, sweep_snoc, hσk, show (step σk r).1 = false from hg6_3]; rfl
        refine wq_round ⟨_, [(0, .slice (some ⟨g0, o0, none⟩) rs.length c), (1, .func (.func 148) #[] #[.pointer (some ⟨bp, 0, none⟩)]), (4, bv ((sweep (rs.take k) (it (fun σ => (sweep rs σ).2) n σ0)).1)), (8, .slice (some ⟨g0, o0, none⟩) rs.length c), (9, iv (rs.length : Int)), (10, iv ((k + 1 : Nat) : Int))], ⟨k + 1, _, by omega, by rw [e1]; exact hS3, rfl, by first | (rw [e1]; done) | (rw [e1]; rfl), rfl⟩, by omega, by repeat (first | exact sub_nil | refine sub_cons rfl ?_)⟩
    · simp only [decide_eq_true_eq, decide_eq_false_iff_not, Bool.not_eq_true', Bool.not_eq_false', bne_iff_ne, beq_iff_eq, bne_eq_false_iff_eq, beq_eq_false_iff_ne, Int.not_lt, Int.not_le] at hc11
      obtain rfl : k = rs.length := by omega
      simp only [List.take_length] at hSk ⊢
      refine wc_exit ?_
      refine wq_then_exit ?_
      refine wq_then_exit ?_
      refine wq_in_here ?_
      refine wq_in_normal ?_
      have hin2 : ∀ r ∈ rs, In (it (fun σ => (sweep rs σ).2) n σ0).length r := fun r hr => by rw [hlen]; exact hin r hr
      obtain ⟨q1, q2, q3⟩ := sweep_le hin2
      refine wq_round ⟨_, _, ⟨n + 1, (sweep rs (it (fun σ => (sweep rs σ).2) n σ0)).1, _, by rw [it_succ]; exact hSk, fun h => by rw [it_succ, q2 h]; exact h, rfl, rfl, rfl⟩, ?_, by repeat (first | exact sub_nil | refine sub_cons rfl ?_)⟩
      rw [it_succ]
      by_cases hm : (sweep rs (it (fun σ => (sweep rs σ).2) n σ0)).1 = true
      · rw [if_pos hm, if_pos trivial]; have := q3 hm; omega
      · rw [if_neg hm, if_pos trivial]; omega
  · skip
    refine wc_exit ?_
    refine wq_then_exit ?_
    refine wq_then_exit ?_
    refine wq_in_here ?_
    refine wq_ret0n rfl rfl  (fun w9 hs9 => ?_)
    exact ⟨n, rfl, hend hc7, sgr hSn hs9, St.grown1 hs9⟩
end Go.Proofs.Ytlppkbfkajionaa.Cm
