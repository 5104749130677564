/- The laws of words: Back. -/
import Derived.Test.YtlaolodnnjcgdaaDoorWdO
namespace Go.Proofs.YtlaolodnnjcgdaaDoor.Wd
open Go Go.RowKit Gw Go.Shelf
theorem mem_len (ws : List Wo) (x : Wo) (hx : x ∈ ws) : x.t.length ≤ (Lib.joinTail [32] (ws.map jn)).length := by
  have h1 : x.t.length ≤ (jn x).length := by unfold jn; split <;> simp <;> omega
  have h2 : (jn x).length ≤ (Lib.joinTail [32] (ws.map jn)).length := by
    unfold Lib.joinTail
    induction ws with
    | nil => cases hx
    | cons y r ih =>
      rw [List.map_cons, List.map_cons, List.flatten_cons, List.length_append, List.length_append]
      rcases List.mem_cons.1 hx with rfl | hx
      · omega
      · have := ih hx; omega
  omega
theorem back_len (s : Bs) (hs : s.length ≤ 500) : (∀ x ∈ (allOf s).1, x.t.length ≤ 70000) ∧ (joinW (allOf s).1).length ≤ 1000 := by
  obtain ⟨_, h2⟩ := wds_ok s.length s.length (sk false s)
  have hk := sk_length false s
  have e0 : words s = wds s.length s.length (sk false s) := rfl
  rw [← e0] at h2
  have hw : (allOf s).1 = (words s).1 ∨ (allOf s).1 = [] := by
    unfold allOf
    split
    · exact .inr rfl
    · generalize words s = z
      obtain ⟨ws, q⟩ := z
      cases q with
      | none => exact .inl rfl
      | some p => exact .inr rfl
  rcases hw with hw | hw
  · rw [← hw] at h2
    refine ⟨fun x hx => ?_, ?_⟩
    · have := mem_len _ x hx; omega
    · have := joinW_le (allOf s).1; omega
  · rw [hw]
    exact ⟨fun x hx => (by cases hx), by simp [joinW, Lib.join_nil]⟩
set_option maxHeartbeats 2000000 in
theorem lawBack_calls (s : Bs) (w : World) : Calls Tryd.prog 5 #[.string (toB s)] w fun e w' => e = .returned (.bool true) ∧ Below w.heap.size w w' := by
  refine calls_start Tryd.func5 rfl (N := 93) rfl rfl _ (St.start _) rfl ?_
  refine wc_seq ?_
  refine wc_region ?_
  refine wl_go rfl (wo_val rfl (rv_assign rfl) rfl rfl ?_)
  refine wl_nil ?_
  refine wq_then ?_
  refine wc_seq ?_
  refine wc_region ?_
  refine wl_go rfl (wo_call (R := fun _ v _ => v = _) rfl rfl (enters_of Tryd.func7 (by kernel_rfl) rfl) rfl rfl rfl (fun w hs => (awake_calls _).mono fun e w' h => ⟨_, h.1, rfl, h.2⟩) (fun w2w vw w3w hs2w hvw hb2w hm2w => ?_))
  subst hvw
  refine wl_go rfl (wo_val rfl (rv_assign rfl) rfl rfl ?_)
  refine wl_nil ?_
  refine wq_then ?_
  refine wc_seq ?_
  refine wc_seq ?_
  refine wc_region ?_
  refine wl_go rfl (wo_val rfl (rv_move rfl) rfl rfl ?_)
  refine wl_go rfl (wo_val rfl (rv_not rfl) rfl rfl ?_)
  refine wl_nil ?_
  refine wq_then ?_
  refine wc_cond_f rfl rfl ?_
  refine wc_skip ?_
  refine wq_then ?_
  refine wc_seq ?_
  refine wc_seq ?_
  refine wc_region ?_
  refine wl_go rfl (wo_val rfl (rv_move rfl) rfl rfl ?_)
  refine wl_go rfl (wo_val rfl (rb_len rfl) rfl rfl ?_)
  refine wl_go rfl (wo_val rfl (rv_cmp_i rfl rfl rfl) rfl rfl ?_)
  refine wl_nil ?_
  refine wq_then ?_
  refine wc_cond rfl (fun hc16 => ?_) (fun hc16 => ?_)
  · simp only [decide_eq_true_eq, decide_eq_false_iff_not, Bool.not_eq_true', Bool.not_eq_false', bne_iff_ne, beq_iff_eq, bne_eq_false_iff_eq, beq_eq_false_iff_ne, Int.not_lt, Int.not_le] at hc16
    refine wc_seq ?_
    refine wc_region ?_
    refine wl_go rfl (wo_val rfl (rv_assign rfl) rfl rfl ?_)
    refine wl_nil ?_
    refine wq_then ?_
    refine wc_ret ?_
    refine wq_then_ret ?_
    refine wq_ret1 rfl rfl (rr_tmp rfl) (fun w9 hs9 => ?_)
    exact ⟨rfl, hs9.below rfl⟩
  · simp only [decide_eq_true_eq, decide_eq_false_iff_not, Bool.not_eq_true', Bool.not_eq_false', bne_iff_ne, beq_iff_eq, bne_eq_false_iff_eq, beq_eq_false_iff_ne, Int.not_lt, Int.not_le] at hc16
    refine wc_skip ?_
    refine wq_then ?_
    refine wc_seq ?_
    refine wc_region ?_
    refine wl_go rfl (wo_val rfl (rv_move rfl) rfl rfl ?_)
    refine wl_go rfl (wo_call (R := fun w v w' => ∃ x, v = .tuple #[x, .int .i64 ((allOf s).2.1 : Int), .int .i64 ((allOf s).2.2 : Int)] ∧ w'.ownsRow w.heap.size 35 3 x (allOf s).1.length ((allOf s).1.flatMap woC)) rfl rfl (enters_of Tryd.func8 (by kernel_rfl) rfl) rfl rfl rfl (fun w4 hs4 => (All_calls s (by omega) w4).mono fun e w' ⟨x, h1, h2, h3⟩ => ⟨_, h1, ⟨x, rfl, h2⟩, h3⟩) (fun w2a v2a w3a hs2a hva hb2a hm2a => ?_))
    obtain ⟨xa, rfl, hxa⟩ := hva
    obtain ⟨pa, ca, rfl, hra⟩ := rd_of hxa
    refine wl_go rfl (wo_val rfl (rv_move rfl) rfl rfl ?_)
    refine wl_go rfl (wo_val rfl (rv_extract rfl rfl) rfl rfl ?_)
    refine wl_go rfl (wo_val rfl (rv_extract rfl rfl) rfl rfl ?_)
    refine wl_go rfl (wo_val rfl (rv_extract rfl rfl) rfl rfl ?_)
    refine wl_go rfl (wo_val rfl (rv_assign rfl) rfl rfl ?_)
    refine wl_go rfl (wo_val rfl (rv_assign rfl) rfl rfl ?_)
    refine wl_go rfl (wo_val rfl (rv_assign rfl) rfl rfl ?_)
    refine wl_nil ?_
    refine wq_then ?_
    refine wc_seq ?_
    refine wc_seq ?_
    refine wc_region ?_
    refine wl_go rfl (wo_val rfl (rv_move rfl) rfl rfl ?_)
    refine wl_go rfl (wo_val rfl (rv_cmp_i rfl rfl rfl) rfl rfl ?_)
    refine wl_nil ?_
    refine wq_then ?_
    refine wc_cond rfl (fun hc24 => ?_) (fun hc24 => ?_)
    · simp only [decide_eq_true_eq, decide_eq_false_iff_not, Bool.not_eq_true', Bool.not_eq_false', bne_iff_ne, beq_iff_eq, bne_eq_false_iff_eq, beq_eq_false_iff_ne, Int.not_lt, Int.not_le] at hc24
      obtain ⟨hb1, hb2⟩ := back_bad s (by omega) (fun e => by rw [e] at hc24; exact hc24 rfl)
      refine wc_seq ?_
      refine wc_region ?_
      refine wl_go rfl (wo_val rfl (rv_move rfl) rfl rfl ?_)
      refine wl_go rfl (wo_val rfl (rv_cmp_i rfl rfl rfl) rfl rfl ?_)
      refine wl_go rfl (wo_val rfl (rv_move rfl) rfl rfl ?_)
      refine wl_want rfl rfl rfl rfl rfl (decide_eq_true (by omega)) (wo_val rfl (rv_move rfl) rfl rfl ?_)
      refine wl_want rfl rfl rfl rfl rfl (decide_eq_true (by omega)) (wo_val rfl (rv_move rfl) rfl rfl ?_)
      refine wl_want rfl rfl rfl rfl rfl (decide_eq_true (by omega)) (wo_val rfl (rb_len rfl) rfl rfl ?_)
      refine wl_want rfl rfl rfl rfl rfl (decide_eq_true (by omega)) (wo_val rfl (rv_cmp_i rfl rfl rfl) rfl rfl ?_)
      refine wl_go rfl (wo_val rfl (rv_pick_t rfl (decide_eq_true (by omega)) rfl) rfl rfl ?_)
      refine wl_go rfl (wo_val rfl (rv_move rfl) rfl rfl ?_)
      refine wl_want rfl rfl rfl rfl rfl (decide_eq_true (by omega)) (wo_val rfl (rv_move rfl) rfl rfl ?_)
      refine wl_want rfl rfl rfl rfl rfl (decide_eq_true (by omega)) (wo_val rfl (rv_len rfl) rfl rfl ?_)
      refine wl_want rfl rfl rfl rfl rfl (decide_eq_true (by omega)) (wo_val rfl (rv_cmp_i rfl rfl rfl) rfl rfl ?_)
      refine wl_go rfl (wo_val rfl (rv_pick_t rfl (decide_eq_true (by omega)) rfl) rfl rfl ?_)
      refine wl_go rfl (wo_val rfl (rv_assign rfl) rfl rfl ?_)
      refine wl_nil ?_
      refine wq_then ?_
      refine wc_ret ?_
      refine wq_then_ret ?_
      refine wq_ret1 rfl rfl (rr_tmp rfl) (fun w9 hs9 => ?_)
      refine ⟨?_, hs9.below rfl⟩
      rw [hb2]; rfl
    · simp only [decide_eq_true_eq, decide_eq_false_iff_not, Bool.not_eq_true', Bool.not_eq_false', bne_iff_ne, beq_iff_eq, bne_eq_false_iff_eq, beq_eq_false_iff_ne, Int.not_lt, Int.not_le] at hc24
      obtain ⟨hp1, hp2, hp3, hp4⟩ := back_plain s (by omega) (by omega)
      have hlen := back_len s (by omega)
      refine wc_skip ?_
      refine wq_then ?_
      refine wc_seq ?_
      refine wc_region ?_
      refine wl_go rfl (wo_val rfl (rv_move rfl) rfl rfl ?_)
      refine wl_go rfl (wo_call (R := fun _ v _ => v = _) rfl rfl (enters_of Tryd.func16 (by kernel_rfl) rfl) rfl rfl rfl (fun w4 hs4 => (join_calls pa ca (allOf s).1 (by have := allOf_length s; omega) hlen.1 w4 (hra.now hs4)).mono fun e w' h => ⟨_, h.1, rfl, h.2⟩) (fun w2j v2j w3j hs2j hvj hb2j hm2j => ?_))
      subst hvj
      replace hra := hra.go hs2j hb2j
      refine wl_go rfl (wo_call (R := fun w v w' => ∃ x, v = .tuple #[x, .int .i64 ((allOf (joinW (allOf s).1)).2.1 : Int), .int .i64 ((allOf (joinW (allOf s).1)).2.2 : Int)] ∧ w'.ownsRow w.heap.size 35 3 x (allOf (joinW (allOf s).1)).1.length ((allOf (joinW (allOf s).1)).1.flatMap woC)) rfl rfl (enters_of Tryd.func8 (by kernel_rfl) rfl) rfl rfl rfl (fun w4 hs4 => (All_calls (joinW (allOf s).1) (by omega) w4).mono fun e w' ⟨x, h1, h2, h3⟩ => ⟨_, h1, ⟨x, rfl, h2⟩, h3⟩) (fun w2b v2b w3b hs2b hvb hb2b hm2b => ?_))
      obtain ⟨xb, rfl, hxb⟩ := hvb
      obtain ⟨pb, cb, rfl, hrb⟩ := rd_of hxb
      replace hra := hra.go hs2b hb2b
      refine wl_go rfl (wo_val rfl (rv_move rfl) rfl rfl ?_)
      refine wl_go rfl (wo_val rfl (rv_extract rfl rfl) rfl rfl ?_)
      refine wl_go rfl (wo_val rfl (rv_extract rfl rfl) rfl rfl ?_)
      refine wl_go rfl (wo_val rfl (rv_extract rfl rfl) rfl rfl ?_)
      refine wl_go rfl (wo_val rfl (rv_assign rfl) rfl rfl ?_)
      refine wl_go rfl (wo_val rfl (rv_assign rfl) rfl rfl ?_)
      refine wl_go rfl (wo_val rfl (rv_assign rfl) rfl rfl ?_)
      refine wl_nil ?_
      refine wq_then ?_
      refine wc_seq ?_
      refine wc_seq ?_
      refine wc_region ?_
      refine wl_go rfl (wo_val rfl (rv_assign rfl) rfl rfl ?_)
      refine wl_nil ?_
      refine wq_then ?_
      refine wc_block ?_
      refine wc_loop (fun m l S => ∃ (k : Nat), k ≤ (allOf s).1.length ∧ m = (allOf s).1.length - k ∧ l = [(0, .string (toB s)), (4, .slice pa (allOf s).1.length ca), (7, .slice pb (allOf (joinW (allOf s).1)).1.length cb), (8, .int .i64 ((allOf (joinW (allOf s).1)).2.1 : Int)), (10, .int .i64 (k : Int))] ∧ S = ⟨w, G0, w3b, []⟩) ⟨_, _, ⟨0, Nat.zero_le _, rfl, rfl, rfl⟩, by repeat (first | exact sub_nil | refine sub_cons rfl ?_)⟩ ?_
      intro m l S hJ
      obtain ⟨k, hk, rfl, rfl, rfl⟩ := hJ
      refine wc_seq ?_
      refine wc_seq ?_
      refine wc_region ?_
      refine wl_go rfl (wo_val rfl (rv_move rfl) rfl rfl ?_)
      refine wl_go rfl (wo_val rfl (rv_move rfl) rfl rfl ?_)
      refine wl_go rfl (wo_val rfl (rv_len rfl) rfl rfl ?_)
      refine wl_go rfl (wo_val rfl (rv_cmp_i rfl rfl rfl) rfl rfl ?_)
      refine wl_nil ?_
      refine wq_then ?_
      refine wc_cond rfl (fun hc48 => ?_) (fun hc48 => ?_)
      · simp only [decide_eq_true_eq, decide_eq_false_iff_not, Bool.not_eq_true', Bool.not_eq_false', bne_iff_ne, beq_iff_eq, bne_eq_false_iff_eq, beq_eq_false_iff_ne, Int.not_lt, Int.not_le] at hc48
        obtain ⟨x, hx⟩ : ∃ x, (allOf s).1[k]? = some x := ⟨_, List.getElem?_eq_getElem (by omega)⟩
        obtain ⟨g, o, rfl⟩ := hra.open_ (by omega)
        have hok := hp1 x (List.mem_of_getElem? hx)
        have hal := allOf_length s
        refine wc_skip ?_
        refine wq_then ?_
        refine wc_seq ?_
        refine wc_block ?_
        refine wc_seq ?_
        refine wc_region_quiet (by kernel_rfl) (by kernel_rfl) ?_
        refine wk_val rfl rfl (rv_move rfl) rfl rfl ?_
        refine wk_val rfl rfl (rv_move rfl) rfl rfl ?_
        refine wk_val rfl rfl (rv_indexAddr rfl rfl (by omega)) rfl rfl ?_
        refine wk_val rfl rfl (rv_fieldAddr0 rfl) rfl rfl ?_
        refine wk_val rfl rfl (rv_load_cell rfl (fun w4 hs4 => hra.cell (i := k) hx 0 rfl hs4)) rfl rfl ?_
        refine wk_val rfl rfl (rv_cmp_i rfl rfl rfl) rfl rfl ?_
        refine wk_val rfl rfl (rv_move rfl) rfl rfl ?_
        refine wk_split (d := 57) rfl true (fun hg13_6 => ?_) (fun hg13_6 => ?_)
        · skip
          have hx0 : x.k = 0 := by simpa using hg13_6
          have hnm := hok.name hx0
          refine wk_want rfl rfl rfl rfl rfl hg13_6 rfl (rv_move rfl) rfl rfl ?_
          refine wk_want rfl rfl rfl rfl rfl hg13_6 rfl (rv_move rfl) rfl rfl ?_
          refine wk_want rfl rfl rfl rfl rfl hg13_6 rfl (rv_indexAddr rfl rfl (by omega)) rfl rfl ?_
          refine wk_want rfl rfl rfl rfl rfl hg13_6 rfl (rv_fieldAddr rfl) rfl rfl ?_
          refine wk_want rfl rfl rfl rfl rfl hg13_6 rfl (rv_load_cell rfl (fun w4 hs4 => hra.cell (i := k) hx 1 rfl hs4)) rfl rfl ?_
          refine wk_call_want rfl rfl rfl rfl rfl hg13_6 rfl rfl (enters_of Tryd.func14 (by kernel_rfl) rfl) rfl rfl rfl (fun w hs => IsName_calls x.t (by have := hlen.1 x (List.mem_of_getElem? hx); omega) w) ?_
          refine wk_want rfl rfl rfl rfl rfl hg13_6 rfl (rv_not rfl) rfl rfl ?_
          refine wk_val rfl rfl (rv_pick_t rfl hg13_6 rfl) rfl rfl ?_
          refine wk_val rfl rfl (rv_move rfl) rfl rfl ?_
          refine wk_want rfl rfl rfl rfl rfl (by rw [hnm]; rfl) rfl (rv_move rfl) rfl rfl ?_
          refine wk_want rfl rfl rfl rfl rfl (by rw [hnm]; rfl) rfl (rv_cmp_i rfl rfl rfl) rfl rfl ?_
          refine wk_want rfl rfl rfl rfl rfl (by rw [hnm]; rfl) rfl (rv_move rfl) rfl rfl ?_
          refine wk_split (d := 69) rfl true (fun hg13_18 => ?_) (fun hg13_18 => ?_)
          · skip
            have hk0 : 0 < k := by have := of_decide_eq_true hg13_18; omega
            obtain ⟨y, hy⟩ : ∃ y, (allOf s).1[k - 1]? = some y := ⟨_, List.getElem?_eq_getElem (by omega)⟩
            have hat : ¬ (x.at_ : Int) ≤ (y.at_ : Int) := by
              have h1 := List.pairwise_iff_getElem.1 hp2 (k - 1) k (by omega) (by omega) (by omega)
              rw [(List.getElem?_eq_some_iff.1 hy).2, (List.getElem?_eq_some_iff.1 hx).2] at h1
              omega
            refine wk_want rfl rfl rfl rfl rfl hg13_18 rfl (rv_move rfl) rfl rfl ?_
            refine wk_want rfl rfl rfl rfl rfl hg13_18 rfl (rv_move rfl) rfl rfl ?_
            refine wk_want rfl rfl rfl rfl rfl hg13_18 rfl (rv_indexAddr rfl rfl (by omega)) rfl rfl ?_
            refine wk_want rfl rfl rfl rfl rfl hg13_18 rfl (rv_fieldAddr rfl) rfl rfl ?_
            refine wk_want rfl rfl rfl rfl rfl hg13_18 rfl (rv_load_cell rfl (fun w4 hs4 => hra.cell (i := k) hx 2 rfl hs4)) rfl rfl ?_
            refine wk_want rfl rfl rfl rfl rfl hg13_18 rfl (rv_move rfl) rfl rfl ?_
            refine wk_want rfl rfl rfl rfl rfl hg13_18 rfl (rv_move rfl) rfl rfl ?_
            refine wk_want rfl rfl rfl rfl rfl hg13_18 rfl (rv_sub rfl rfl (by omega)) rfl rfl ?_
            refine wk_want rfl rfl rfl rfl rfl hg13_18 rfl (rv_indexAddr rfl rfl (by omega)) rfl rfl ?_
            refine wk_want rfl rfl rfl rfl rfl hg13_18 rfl (rv_fieldAddr rfl) rfl rfl ?_
            refine wk_want rfl rfl rfl rfl rfl hg13_18 rfl (rv_load_cell rfl (fun w4 hs4 => by rw [show ((k : Int) - 1).toNat = k - 1 by omega]; exact hra.cell (i := k - 1) hy 2 rfl hs4)) rfl rfl ?_
            refine wk_want rfl rfl rfl rfl rfl hg13_18 rfl (rv_cmp_i rfl rfl rfl) rfl rfl ?_
            refine wk_want rfl rfl rfl rfl rfl (by rw [hnm]; rfl) rfl (rv_pick_t rfl hg13_18 rfl) rfl rfl ?_
            refine wk_val rfl rfl (rv_pick_f rfl (by rw [hnm]; rfl) rfl) rfl rfl ?_
            refine wk_nil ?_
            refine wq_then ?_
            refine wc_cond_f rfl (decide_eq_false hat) ?_
            refine wc_skip ?_
            refine wq_in_normal ?_
            refine wq_then ?_
            refine wc_region ?_
            refine wl_go rfl (wo_val rfl (rv_move rfl) rfl rfl ?_)
            refine wl_go rfl (wo_val rfl (rv_add rfl rfl (by omega)) rfl rfl ?_)
            refine wl_go rfl (wo_val rfl (rv_assign rfl) rfl rfl ?_)
            refine wl_nil ?_
            exact wq_round ⟨_, _, ⟨k + 1, by omega, rfl, rfl, rfl⟩, by omega, by repeat (first | exact sub_nil | refine sub_cons rfl ?_)⟩
          · skip
            refine wk_skip rfl rfl rfl rfl rfl hg13_18 rfl ?_
            refine wk_skip rfl rfl rfl rfl rfl hg13_18 rfl ?_
            refine wk_skip rfl rfl rfl rfl rfl hg13_18 rfl ?_
            refine wk_skip rfl rfl rfl rfl rfl hg13_18 rfl ?_
            refine wk_skip rfl rfl rfl rfl rfl hg13_18 rfl ?_
            refine wk_skip rfl rfl rfl rfl rfl hg13_18 rfl ?_
            refine wk_skip rfl rfl rfl rfl rfl hg13_18 rfl ?_
            refine wk_skip rfl rfl rfl rfl rfl hg13_18 rfl ?_
            refine wk_skip rfl rfl rfl rfl rfl hg13_18 rfl ?_
            refine wk_skip rfl rfl rfl rfl rfl hg13_18 rfl ?_
            refine wk_skip rfl rfl rfl rfl rfl hg13_18 rfl ?_
            refine wk_skip rfl rfl rfl rfl rfl hg13_18 rfl ?_
            refine wk_want rfl rfl rfl rfl rfl (by rw [hnm]; rfl) rfl (rv_pick_f rfl hg13_18 rfl) rfl rfl ?_
            refine wk_val rfl rfl (rv_pick_f rfl (by rw [hnm]; rfl) rfl) rfl rfl ?_
            refine wk_nil ?_
            refine wq_then ?_
            refine wc_cond_f rfl rfl ?_
            refine wc_skip ?_
            refine wq_in_normal ?_
            refine wq_then ?_
            refine wc_region ?_
            refine wl_go rfl (wo_val rfl (rv_move rfl) rfl rfl ?_)
            refine wl_go rfl (wo_val rfl (rv_add rfl rfl (by omega)) rfl rfl ?_)
            refine wl_go rfl (wo_val rfl (rv_assign rfl) rfl rfl ?_)
            refine wl_nil ?_
            exact wq_round ⟨_, _, ⟨k + 1, by omega, rfl, rfl, rfl⟩, by omega, by repeat (first | exact sub_nil | refine sub_cons rfl ?_)⟩
        · skip
          refine wk_skip rfl rfl rfl rfl rfl hg13_6 rfl ?_
          refine wk_skip rfl rfl rfl rfl rfl hg13_6 rfl ?_
          refine wk_skip rfl rfl rfl rfl rfl hg13_6 rfl ?_
          refine wk_skip rfl rfl rfl rfl rfl hg13_6 rfl ?_
          refine wk_skip rfl rfl rfl rfl rfl hg13_6 rfl ?_
          refine wk_skip rfl rfl rfl rfl rfl hg13_6 rfl ?_
          refine wk_skip rfl rfl rfl rfl rfl hg13_6 rfl ?_
          refine wk_val rfl rfl (rv_pick_f rfl hg13_6 rfl) rfl rfl ?_
          refine wk_val rfl rfl (rv_move rfl) rfl rfl ?_
          refine wk_want rfl rfl rfl rfl rfl rfl rfl (rv_move rfl) rfl rfl ?_
          refine wk_want rfl rfl rfl rfl rfl rfl rfl (rv_cmp_i rfl rfl rfl) rfl rfl ?_
          refine wk_want rfl rfl rfl rfl rfl rfl rfl (rv_move rfl) rfl rfl ?_
          refine wk_split (d := 69) rfl true (fun hg13_18 => ?_) (fun hg13_18 => ?_)
          · skip
            have hk0 : 0 < k := by have := of_decide_eq_true hg13_18; omega
            obtain ⟨y, hy⟩ : ∃ y, (allOf s).1[k - 1]? = some y := ⟨_, List.getElem?_eq_getElem (by omega)⟩
            have hat : ¬ (x.at_ : Int) ≤ (y.at_ : Int) := by
              have h1 := List.pairwise_iff_getElem.1 hp2 (k - 1) k (by omega) (by omega) (by omega)
              rw [(List.getElem?_eq_some_iff.1 hy).2, (List.getElem?_eq_some_iff.1 hx).2] at h1
              omega
            refine wk_want rfl rfl rfl rfl rfl hg13_18 rfl (rv_move rfl) rfl rfl ?_
            refine wk_want rfl rfl rfl rfl rfl hg13_18 rfl (rv_move rfl) rfl rfl ?_
            refine wk_want rfl rfl rfl rfl rfl hg13_18 rfl (rv_indexAddr rfl rfl (by omega)) rfl rfl ?_
            refine wk_want rfl rfl rfl rfl rfl hg13_18 rfl (rv_fieldAddr rfl) rfl rfl ?_
            refine wk_want rfl rfl rfl rfl rfl hg13_18 rfl (rv_load_cell rfl (fun w4 hs4 => hra.cell (i := k) hx 2 rfl hs4)) rfl rfl ?_
            refine wk_want rfl rfl rfl rfl rfl hg13_18 rfl (rv_move rfl) rfl rfl ?_
            refine wk_want rfl rfl rfl rfl rfl hg13_18 rfl (rv_move rfl) rfl rfl ?_
            refine wk_want rfl rfl rfl rfl rfl hg13_18 rfl (rv_sub rfl rfl (by omega)) rfl rfl ?_
            refine wk_want rfl rfl rfl rfl rfl hg13_18 rfl (rv_indexAddr rfl rfl (by omega)) rfl rfl ?_
            refine wk_want rfl rfl rfl rfl rfl hg13_18 rfl (rv_fieldAddr rfl) rfl rfl ?_
            refine wk_want rfl rfl rfl rfl rfl hg13_18 rfl (rv_load_cell rfl (fun w4 hs4 => by rw [show ((k : Int) - 1).toNat = k - 1 by omega]; exact hra.cell (i := k - 1) hy 2 rfl hs4)) rfl rfl ?_
            refine wk_want rfl rfl rfl rfl rfl hg13_18 rfl (rv_cmp_i rfl rfl rfl) rfl rfl ?_
            refine wk_want rfl rfl rfl rfl rfl rfl rfl (rv_pick_t rfl hg13_18 rfl) rfl rfl ?_
            refine wk_val rfl rfl (rv_pick_f rfl rfl rfl) rfl rfl ?_
            refine wk_nil ?_
            refine wq_then ?_
            refine wc_cond_f rfl (decide_eq_false hat) ?_
            refine wc_skip ?_
            refine wq_in_normal ?_
            refine wq_then ?_
            refine wc_region ?_
            refine wl_go rfl (wo_val rfl (rv_move rfl) rfl rfl ?_)
            refine wl_go rfl (wo_val rfl (rv_add rfl rfl (by omega)) rfl rfl ?_)
            refine wl_go rfl (wo_val rfl (rv_assign rfl) rfl rfl ?_)
            refine wl_nil ?_
            exact wq_round ⟨_, _, ⟨k + 1, by omega, rfl, rfl, rfl⟩, by omega, by repeat (first | exact sub_nil | refine sub_cons rfl ?_)⟩
          · skip
            refine wk_skip rfl rfl rfl rfl rfl hg13_18 rfl ?_
            refine wk_skip rfl rfl rfl rfl rfl hg13_18 rfl ?_
            refine wk_skip rfl rfl rfl rfl rfl hg13_18 rfl ?_
            refine wk_skip rfl rfl rfl rfl rfl hg13_18 rfl ?_
            refine wk_skip rfl rfl rfl rfl rfl hg13_18 rfl ?_
            refine wk_skip rfl rfl rfl rfl rfl hg13_18 rfl ?_
            refine wk_skip rfl rfl rfl rfl rfl hg13_18 rfl ?_
            refine wk_skip rfl rfl rfl rfl rfl hg13_18 rfl ?_
            refine wk_skip rfl rfl rfl rfl rfl hg13_18 rfl ?_
            refine wk_skip rfl rfl rfl rfl rfl hg13_18 rfl ?_
            refine wk_skip rfl rfl rfl rfl rfl hg13_18 rfl ?_
            refine wk_skip rfl rfl rfl rfl rfl hg13_18 rfl ?_
            refine wk_want rfl rfl rfl rfl rfl rfl rfl (rv_pick_f rfl hg13_18 rfl) rfl rfl ?_
            refine wk_val rfl rfl (rv_pick_f rfl rfl rfl) rfl rfl ?_
            refine wk_nil ?_
            refine wq_then ?_
            refine wc_cond_f rfl rfl ?_
            refine wc_skip ?_
            refine wq_in_normal ?_
            refine wq_then ?_
            refine wc_region ?_
            refine wl_go rfl (wo_val rfl (rv_move rfl) rfl rfl ?_)
            refine wl_go rfl (wo_val rfl (rv_add rfl rfl (by omega)) rfl rfl ?_)
            refine wl_go rfl (wo_val rfl (rv_assign rfl) rfl rfl ?_)
            refine wl_nil ?_
            exact wq_round ⟨_, _, ⟨k + 1, by omega, rfl, rfl, rfl⟩, by omega, by repeat (first | exact sub_nil | refine sub_cons rfl ?_)⟩
      · simp only [decide_eq_true_eq, decide_eq_false_iff_not, Bool.not_eq_true', Bool.not_eq_false', bne_iff_ne, beq_iff_eq, bne_eq_false_iff_eq, beq_eq_false_iff_ne, Int.not_lt, Int.not_le] at hc48
        refine wc_exit ?_
        refine wq_then_exit ?_
        refine wq_then_exit ?_
        refine wq_in_here ?_
        refine wq_then ?_
        refine wc_seq ?_
        refine wc_region ?_
        refine wl_go rfl (wo_val rfl (rv_move rfl) rfl rfl ?_)
        refine wl_go rfl (wo_val rfl (rv_cmp_i rfl rfl rfl) rfl rfl ?_)
        refine wl_go rfl (wo_val rfl (rv_move rfl) rfl rfl ?_)
        refine wl_want rfl rfl rfl rfl rfl (by rw [hp3]; rfl) (wo_val rfl (rv_move rfl) rfl rfl ?_)
        refine wl_want rfl rfl rfl rfl rfl (by rw [hp3]; rfl) (wo_call (R := fun w v w' => w'.ownsRow w.heap.size 45 3 v ((allOf s).1).length (((allOf s).1).flatMap woC)) rfl rfl (enters_of Tryd.func11 (by kernel_rfl) rfl) rfl rfl rfl (fun w4 hs4 => (plain_calls pa ca ((allOf s).1) (by have := allOf_length s; omega) w4 (hra.now hs4)).mono fun e w' ⟨x, h1, h2, h3⟩ => ⟨_, h1, h2, h3⟩) (fun w2c v2c w3c hs2c hvc hb2c hm2c => ?_))
        obtain ⟨pc, cc, rfl, hrc⟩ := rd_of hvc
        replace hrb := hrb.go hs2c hb2c
        refine wl_want rfl rfl rfl rfl rfl (by rw [hp3]; rfl) (wo_val rfl (rv_move rfl) rfl rfl ?_)
        refine wl_want rfl rfl rfl rfl rfl (by rw [hp3]; rfl) (wo_call (R := fun w v w' => w'.ownsRow w.heap.size 45 3 v ((allOf (joinW (allOf s).1)).1).length (((allOf (joinW (allOf s).1)).1).flatMap woC)) rfl rfl (enters_of Tryd.func11 (by kernel_rfl) rfl) rfl rfl rfl (fun w4 hs4 => (plain_calls pb cb ((allOf (joinW (allOf s).1)).1) (by have := allOf_length (joinW (allOf s).1); omega) w4 (hrb.now hs4)).mono fun e w' ⟨x, h1, h2, h3⟩ => ⟨_, h1, h2, h3⟩) (fun w2d v2d w3d hs2d hvd hb2d hm2d => ?_))
        obtain ⟨pd, cd, rfl, hrd⟩ := rd_of hvd
        replace hrc := hrc.go hs2d hb2d
        refine wl_want rfl rfl rfl rfl rfl (by rw [hp3]; rfl) (wo_call (R := fun _ v _ => v = _) rfl rfl (enters_of Tryd.func10 (by kernel_rfl) rfl) rfl rfl rfl (fun w4 hs4 => (same_calls pc pd cc cd ((allOf s).1) ((allOf (joinW (allOf s).1)).1) (by have := allOf_length s; omega) false w4 (hrc.now hs4) (hrd.now hs4)).mono fun e w' h => ⟨_, h.1, rfl, h.2⟩) (fun w2e v2e w3e hs2e hve hb2e hm2e => ?_))
        subst hve
        refine wl_go rfl (wo_val rfl (rv_pick_t rfl (by rw [hp3]; rfl) rfl) rfl rfl ?_)
        refine wl_go rfl (wo_val rfl (rv_assign rfl) rfl rfl ?_)
        refine wl_nil ?_
        refine wq_then ?_
        refine wc_ret ?_
        refine wq_ret1 rfl rfl (rr_tmp rfl) (fun w9 hs9 => ?_)
        refine ⟨?_, hs9.below rfl⟩
        rw [decide_eq_true hp4.symm]
end Go.Proofs.YtlaolodnnjcgdaaDoor.Wd
