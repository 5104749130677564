/- The walks of grammars: under. -/
import Derived.Test.YtlppkbfkajionaaCmG
namespace Go.Proofs.Ytlppkbfkajionaa.Cm
open Go Go.RowKit Gw Go.Shelf
set_option linter.unusedSimpArgs false
set_option linter.unusedVariables false
set_option linter.unusedSectionVars false
theorem drop_row {w : World} {g1 o1 d : Nat} {r : List Int} (hrow : Rv w (some ⟨g1, o1, none⟩) d (r.map iv)) (hp : 1 ≤ r.length) : ∃ g8 o8, (if d = 1 then (⟨g1, o1, none⟩ : Addr) else (⟨g1, o1, none⟩ : Addr).add (1 * 1)) = ⟨g8, o8, none⟩ ∧ Rv w (some ⟨g8, o8, none⟩) (d - 1) ((r.drop 1).map iv) := by
  have h := hrow.drop 1 (by simpa using hp)
  rw [← List.map_drop] at h
  by_cases h1 : d = 1
  · rw [if_pos h1] at h ⊢
    exact ⟨g1, o1, rfl, h⟩
  · rw [if_neg h1] at h ⊢
    rw [add_addr]
    rw [Option.map_some, add_addr] at h
    exact ⟨g1, _, rfl, h⟩
theorem ints_noB (r : List Int) : ∀ u ∈ r.map iv, NoB u := fun u hu b e => by obtain ⟨z, _, rfl⟩ := List.mem_map.1 hu; cases e
theorem bset {σ : List Bool} {n : Int} : (σ.map bv).set (0 + n.toNat * 1) (bv true) = (mk σ n).map bv := map_mk σ n
set_option maxHeartbeats 2000000 in
theorem under_calls (rs : List (List Int)) (p : Option Addr) (c : Nat) (N : Nat) : ∀ (M : Nat) (s : Int) (σ : List Bool) (bo : Nat) (w : World), falses σ < M → σ.length = N → N ≤ 1000000 → 0 ≤ s ∧ s < (N : Int) → Ins N rs → Rr w p c rs → w.heap[bo]? = some (.cells (σ.map bv).toArray 4 (0, 0)) → Calls Try.prog 106 #[.slice p rs.length c, iv s, .slice (some ⟨bo, 0, none⟩) N N] w fun e w' => ∃ τ, e = .returned (.tuple #[]) ∧ Und rs s σ τ ∧ w'.heap[bo]? = some (.cells (τ.map bv).toArray 4 (0, 0)) ∧ w.grownBy w' (some bo) := by
  intro M
  induction M with
  | zero => intro s σ bo w h; omega
  | succ M ih =>
  intro s σ bo w hf hN hNm hs hI hrr hbo
  subst hN
  have hcap := hrr.cap
  have hK : ∀ {w0 w4 : World} {own : List Blk} {ds : List Deferred}, St ⟨w, ⟨[bo], ds⟩, w0, own⟩ w4 → Keep NoB w w4 := fun hs => keep_but (St.grown1 hs) hbo (bools_not σ)
  refine calls_start Try.func106 rfl (N := 41) rfl rfl _ (st_start1 hbo) rfl ?_
  refine wc_seq ?_
  refine wc_seq ?_
  refine wc_region ?_
  refine wl_go rfl (wo_val rfl (rv_move rfl) rfl rfl ?_)
  refine wl_go rfl (wo_val rfl (rv_move rfl) rfl rfl ?_)
  refine wl_go rfl (wo_val rfl (rv_indexAddr rfl rfl (by omega)) rfl rfl ?_)
  refine wl_go rfl (wo_val rfl (rv_load_own (v := bv (bg σ s)) rfl (bg_cell hs)) rfl rfl ?_)
  refine wl_nil ?_
  refine wq_then ?_
  refine wc_cond rfl (fun hc13 => ?_) (fun hc13 => ?_)
  · skip
    have hU := und_already (rs := rs) hc13
    refine wc_ret ?_
    refine wq_then_ret ?_
    refine wq_ret0 rfl rfl  (fun w9 hs9 => ?_)
    exact ⟨σ, rfl, hU, hs9.blk ⟨bo, _⟩ List.mem_cons_self, St.grown1 hs9⟩
  · skip
    have hfs := falses_mk hs hc13
    refine wc_skip ?_
    refine wq_then ?_
    refine wc_seq ?_
    refine wc_region ?_
    refine wl_go rfl (wo_val rfl (rv_move rfl) rfl rfl ?_)
    refine wl_go rfl (wo_val rfl (rv_move rfl) rfl rfl ?_)
    refine wl_go rfl (wo_val rfl (rv_indexAddr rfl rfl (by omega)) rfl rfl ?_)
    refine wl_go rfl (wo_store_at rfl rfl rfl rfl rfl rfl (by rw [List.length_map]; omega) ?_)
    rw [map_mk]
    refine wl_nil ?_
    refine wq_then ?_
    refine wc_seq ?_
    refine wc_region ?_
    refine wl_go rfl (wo_val rfl (rv_move rfl) rfl rfl ?_)
    refine wl_go rfl (wo_val rfl (rv_len rfl) rfl rfl ?_)
    refine wl_go rfl (wo_val rfl (rv_move rfl) rfl rfl ?_)
    refine wl_nil ?_
    refine wq_then ?_
    refine wc_block ?_
    refine wc_loop (fun m l S => ∃ (k : Nat) (τ : List Bool) (w1 : World), k ≤ rs.length ∧ UL rs s σ τ ∧ (∀ r ∈ rs.take k, r.headD 0 = s → ∀ y ∈ r.drop 1, bg τ y = true) ∧ m = rs.length - k ∧ l = [(0, .slice p rs.length c), (1, iv s), (2, .slice (some ⟨bo, 0, none⟩) σ.length σ.length), (17, .slice p rs.length c), (18, iv (rs.length : Int)), (19, iv (k : Int))] ∧ S = ⟨w, ⟨[bo], []⟩, w1, [⟨bo, .cells (τ.map bv).toArray 4 (0, 0)⟩]⟩) ⟨_, _, ⟨0, mk σ s, _, Nat.zero_le _, ul_start rs s σ, by simp, rfl, rfl, rfl⟩, by repeat (first | exact sub_nil | refine sub_cons rfl ?_)⟩ ?_
    intro m l S hJ
    obtain ⟨k, τ, w1, hk, hUL, hdone, rfl, rfl, rfl⟩ := hJ
    refine wc_seq ?_
    refine wc_region ?_
    refine wl_go rfl (wo_val rfl (rv_cmp_i rfl rfl rfl) rfl rfl ?_)
    refine wl_nil ?_
    refine wq_then ?_
    refine wc_seq ?_
    refine wc_cond rfl (fun hc20 => ?_) (fun hc20 => ?_)
    · simp only [decide_eq_true_eq, decide_eq_false_iff_not, Bool.not_eq_true', Bool.not_eq_false', bne_iff_ne, beq_iff_eq, bne_eq_false_iff_eq, beq_eq_false_iff_ne, Int.not_lt, Int.not_le] at hc20
      obtain ⟨r, hr⟩ := getE (l := rs) (i := k) (by omega)
      have hrm := List.mem_of_getElem? hr
      obtain ⟨g0, o0, q, d, hrp, hc, hrow⟩ := hrr.at_ k r hr
      have hin := hI r hrm
      have hrp1 := hin.1
      obtain ⟨y0, hy0⟩ := getE hrp1
      have hyd : r.headD 0 = y0 := by rw [List.headD_eq_head?_getD, List.head?_eq_getElem?, hy0]; rfl
      obtain ⟨g1, o1, rfl, hc1⟩ := hrow.at_ 0 _ (map_get hy0)
      have hcd := hrow.cap
      rw [List.length_map] at hcd
      obtain ⟨g8, o8, e8, hdr⟩ := drop_row hrow hrp1
      have hdl : (r.drop 1).length = r.length - 1 := by rw [List.length_drop]
      obtain rfl := hrp
      refine wc_skip ?_
      refine wq_then ?_
      refine wc_seq ?_
      refine wc_block ?_
      refine wc_seq ?_
      refine wc_region ?_
      refine wl_go rfl (wo_val rfl (rv_indexAddr rfl rfl (by omega)) rfl rfl ?_)
      refine wl_go rfl (wo_val rfl (rv_load_cell rfl (fun w4 hs4 => hK hs4 _ _ _ (fun b e => by cases e) hc)) rfl rfl ?_)
      refine wl_go rfl (wo_val rfl (rv_assign rfl) rfl rfl ?_)
      refine wl_nil ?_
      refine wq_then ?_
      refine wc_seq ?_
      refine wc_seq ?_
      refine wc_region ?_
      refine wl_go rfl (wo_val rfl (rv_move rfl) rfl rfl ?_)
      refine wl_go rfl (wo_val rfl (rv_indexAddr rfl rfl (by omega)) rfl rfl ?_)
      refine wl_go rfl (wo_val rfl (rv_load_cell rfl (fun w4 hs4 => hK hs4 _ _ _ (fun b e => by cases e) hc1)) rfl rfl ?_)
      refine wl_go rfl (wo_val rfl (rv_move rfl) rfl rfl ?_)
      refine wl_go rfl (wo_val rfl (rv_cmp_i rfl rfl rfl) rfl rfl ?_)
      refine wl_nil ?_
      refine wq_then ?_
      refine wc_cond rfl (fun hc27 => ?_) (fun hc27 => ?_)
      · simp only [decide_eq_true_eq, decide_eq_false_iff_not, Bool.not_eq_true', Bool.not_eq_false', bne_iff_ne, beq_iff_eq, bne_eq_false_iff_eq, beq_eq_false_iff_ne, Int.not_lt, Int.not_le] at hc27
        refine wc_exit ?_
        refine wq_then_exit ?_
        refine wq_in_here ?_
        refine wq_then ?_
        refine wc_region ?_
        refine wl_go rfl (wo_val rfl (rv_add rfl rfl (by omega)) rfl rfl ?_)
        refine wl_go rfl (wo_val rfl (rv_move rfl) rfl rfl ?_)
        refine wl_nil ?_
        refine wq_round ⟨_, _, ⟨k + 1, τ, _, by omega, hUL, ?_, rfl, rfl, rfl⟩, by omega, by repeat (first | exact sub_nil | refine sub_cons rfl ?_)⟩
        intro r2 hr2 hh
        rw [List.take_add_one, hr] at hr2
        rcases List.mem_append.1 hr2 with h | h
        · exact hdone r2 h hh
        · simp at h; subst h; exact absurd (hyd.symm.trans hh) hc27
      · simp only [decide_eq_true_eq, decide_eq_false_iff_not, Bool.not_eq_true', Bool.not_eq_false', bne_iff_ne, beq_iff_eq, bne_eq_false_iff_eq, beq_eq_false_iff_ne, Int.not_lt, Int.not_le] at hc27
        refine wc_skip ?_
        refine wq_then ?_
        refine wc_seq ?_
        refine wc_region ?_
        refine wl_go rfl (wo_val rfl (rv_move rfl) rfl rfl ?_)
        refine wl_go rfl (wo_val rfl (rv_slice_some (lv := 1) rfl ⟨.i64, 1, rfl, by omega, rfl⟩ bnd_none (by omega)) rfl rfl ?_)
        rw [e8]
        refine wl_go rfl (wo_val rfl (rv_len rfl) rfl rfl ?_)
        refine wl_go rfl (wo_val rfl (rv_move rfl) rfl rfl ?_)
        refine wl_nil ?_
        refine wq_then ?_
        refine wc_block ?_
        refine wc_loop (fun m l S => ∃ (j : Nat) (ρ : List Bool) (w1 : World), j ≤ (r.drop 1).length ∧ UL rs s σ ρ ∧ Le τ ρ ∧ (∀ y ∈ (r.drop 1).take j, bg ρ y = true) ∧ m = (r.drop 1).length - j ∧ l = [(0, .slice (some ⟨g0, o0, none⟩) rs.length c), (1, iv s), (2, .slice (some ⟨bo, 0, none⟩) σ.length σ.length), (17, .slice (some ⟨g0, o0, none⟩) rs.length c), (18, iv (rs.length : Int)), (19, iv (k : Int)), (29, .slice (some ⟨g8, o8, none⟩) (r.length - 1) (d - 1)), (30, iv ((r.length - 1 : Nat) : Int)), (31, iv (j : Int))] ∧ S = ⟨w, ⟨[bo], []⟩, w1, [⟨bo, .cells (ρ.map bv).toArray 4 (0, 0)⟩]⟩) ⟨_, _, ⟨0, τ, _, Nat.zero_le _, hUL, le_refl _, by simp, rfl, rfl, rfl⟩, by repeat (first | exact sub_nil | refine sub_cons rfl ?_)⟩ ?_
        intro m l S hJ
        obtain ⟨j, ρ, w1, hj, hUL2, hle, hdone2, rfl, rfl, rfl⟩ := hJ
        refine wc_seq ?_
        refine wc_region ?_
        refine wl_go rfl (wo_val rfl (rv_cmp_i rfl rfl rfl) rfl rfl ?_)
        refine wl_nil ?_
        refine wq_then ?_
        refine wc_seq ?_
        refine wc_cond rfl (fun hc32 => ?_) (fun hc32 => ?_)
        · simp only [decide_eq_true_eq, decide_eq_false_iff_not, Bool.not_eq_true', Bool.not_eq_false', bne_iff_ne, beq_iff_eq, bne_eq_false_iff_eq, beq_eq_false_iff_ne, Int.not_lt, Int.not_le] at hc32
          obtain ⟨y, hy⟩ := getE (l := r.drop 1) (i := j) (by omega)
          have hym := List.mem_of_getElem? hy
          have hyr := hin.2 y (List.mem_of_mem_drop hym)
          obtain ⟨g9, o9, e9, hcy⟩ := hdr.at_ j _ (map_get hy)
          cases e9
          have hρl : ρ.length = σ.length := by rw [hUL2.le.1, mk_len]
          have hfr : falses ρ < M := by have := (falses_mono hUL2.le).1; omega
          refine wc_skip ?_
          refine wq_then ?_
          refine wc_seq ?_
          refine wc_block ?_
          refine wc_seq ?_
          refine wc_region ?_
          refine wl_go rfl (wo_val rfl (rv_indexAddr rfl rfl (by omega)) rfl rfl ?_)
          refine wl_go rfl (wo_val rfl (rv_load_cell rfl (fun w4 hs4 => hK hs4 _ _ _ (fun b e => by cases e) hcy)) rfl rfl ?_)
          refine wl_go rfl (wo_val rfl (rv_assign rfl) rfl rfl ?_)
          refine wl_nil ?_
          refine wq_then ?_
          refine wc_region ?_
          refine wl_go rfl (wo_val rfl (rv_move rfl) rfl rfl ?_)
          refine wl_go rfl (wo_val rfl (rv_move rfl) rfl rfl ?_)
          refine wl_go rfl (wo_val rfl (rv_move rfl) rfl rfl ?_)
          refine wl_go rfl (wo_call_own (R := fun w2 v w3 => ∃ ρ2, v = .tuple #[] ∧ Und rs y ρ ρ2 ∧ w3.heap[bo]? = some (.cells (ρ2.map bv).toArray 4 (0, 0))) (q := bo) (own2 := []) rfl rfl (enters_of Try.func106 (by kernel_rfl) rfl) rfl rfl rfl 0 rfl rfl (fun w4 hs4 => (ih y ρ bo w4 hfr hρl hNm hyr hI (hrr.keep (hK hs4)) (hs4.blk ⟨bo, _⟩ List.mem_cons_self)).mono fun e w' h => let ⟨ρ2, h1, h2, h3, h4⟩ := h; ⟨_, h1, ⟨ρ2, rfl, h2, h3⟩, h4⟩) (fun w2 v w3 hs2 hv hg2 hm2 hne2 => ?_))
          obtain ⟨ρ2, rfl, hU2, hb2⟩ := hv
          refine wl_adopt hb2 (.inl List.mem_cons_self) (fun x hx => by cases hx) ?_
          refine wl_nil ?_
          refine wq_in_normal ?_
          refine wq_then ?_
          refine wc_region ?_
          refine wl_go rfl (wo_val rfl (rv_add rfl rfl (by omega)) rfl rfl ?_)
          refine wl_go rfl (wo_val rfl (rv_move rfl) rfl rfl ?_)
          refine wl_nil ?_
          refine wq_round ⟨_, _, ⟨j + 1, ρ2, _, by omega, ul_call hUL2 hrm (hyd.trans hc27) hym hU2, le_trans hle hU2.le, ?_, rfl, rfl, rfl⟩, by omega, by repeat (first | exact sub_nil | refine sub_cons rfl ?_)⟩
          intro z hz
          rw [List.take_add_one, hy] at hz
          rcases List.mem_append.1 hz with h | h
          · exact le_bg hU2.le (hdone2 z h)
          · simp at h; subst h; exact hU2.mark
        · simp only [decide_eq_true_eq, decide_eq_false_iff_not, Bool.not_eq_true', Bool.not_eq_false', bne_iff_ne, beq_iff_eq, bne_eq_false_iff_eq, beq_eq_false_iff_ne, Int.not_lt, Int.not_le] at hc32
          obtain rfl : j = (r.drop 1).length := by omega
          simp only [List.take_length] at hdone2
          refine wc_exit ?_
          refine wq_then_exit ?_
          refine wq_then_exit ?_
          refine wq_in_here ?_
          refine wq_in_normal ?_
          refine wq_then ?_
          refine wc_region ?_
          refine wl_go rfl (wo_val rfl (rv_add rfl rfl (by omega)) rfl rfl ?_)
          refine wl_go rfl (wo_val rfl (rv_move rfl) rfl rfl ?_)
          refine wl_nil ?_
          refine wq_round ⟨_, _, ⟨k + 1, ρ, _, by omega, hUL2, ?_, rfl, rfl, rfl⟩, by omega, by repeat (first | exact sub_nil | refine sub_cons rfl ?_)⟩
          intro r2 hr2 hh
          rw [List.take_add_one, hr] at hr2
          rcases List.mem_append.1 hr2 with h | h
          · exact fun y hy => le_bg hle (hdone r2 h hh y hy)
          · simp at h; subst h; exact hdone2
    · simp only [decide_eq_true_eq, decide_eq_false_iff_not, Bool.not_eq_true', Bool.not_eq_false', bne_iff_ne, beq_iff_eq, bne_eq_false_iff_eq, beq_eq_false_iff_ne, Int.not_lt, Int.not_le] at hc20
      obtain rfl : k = rs.length := by omega
      simp only [List.take_length] at hdone
      refine wc_exit ?_
      refine wq_then_exit ?_
      refine wq_then_exit ?_
      refine wq_in_here ?_
      refine wq_ret0n rfl rfl  (fun w9 hs9 => ?_)
      exact ⟨τ, rfl, ul_end hs hUL hdone, hs9.blk ⟨bo, _⟩ List.mem_cons_self, St.grown1 hs9⟩
end Go.Proofs.Ytlppkbfkajionaa.Cm
