/- The walks of words: first. -/
import Derived.Test.YtlaolodnnjcgdaaDoorWdC
namespace Go.Proofs.YtlaolodnnjcgdaaDoor.Wd
open Go Go.RowKit Gw Go.Shelf
abbrev wdC (k : Int) (t : Bs) (i : Int) : List Value := [.int .i64 k, .string (toB t), .int .i64 i]
theorem first_L {c : UInt8} (r : Bs) (h : isL c = true) : first (c :: r) = (0, (c :: r).takeWhile isN, if 32 < ((c :: r).takeWhile isN).length then 0 else ((c :: r).takeWhile isN).length) := by
  rw [first, if_pos h]
theorem first_D {c : UInt8} (r : Bs) (h0 : isL c = false) (h : isD c = true) : first (c :: r) = (1, (c :: r).takeWhile isD, if 4 < ((c :: r).takeWhile isD).length then 0 else ((c :: r).takeWhile isD).length) := by
  rw [first, if_neg (by simp [h0]), if_pos h]
theorem first_P {c : UInt8} {r : Bs} {k : Nat} (h0 : isL c = false) (h1 : isD c = false) (h : (c == 47) = true) (hp : pat r = some k) : first (c :: r) = (2, r.take k, k + 2) := by
  rw [first, if_neg (by simp [h0]), if_neg (by simp [h1]), if_pos h, hp]
theorem first_Q {c : UInt8} {r : Bs} (h0 : isL c = false) (h1 : isD c = false) (h : (c == 47) = true) (hp : pat r = none) : first (c :: r) = (0, [], 0) := by
  rw [first, if_neg (by simp [h0]), if_neg (by simp [h1]), if_pos h, hp]
theorem first_M {c : UInt8} (r : Bs) (h0 : isL c = false) (h1 : isD c = false) (h : (c == 47) = false) (h2 : isM c = true) : first (c :: r) = (3, [c], 1) := by
  rw [first, if_neg (by simp [h0]), if_neg (by simp [h1]), if_neg (by simp [h]), if_pos h2]
theorem first_0 {c : UInt8} (r : Bs) (h0 : isL c = false) (h1 : isD c = false) (h : (c == 47) = false) (h2 : isM c = false) : first (c :: r) = (0, [], 0) := by
  rw [first, if_neg (by simp [h0]), if_neg (by simp [h1]), if_neg (by simp [h]), if_neg (by simp [h2])]
theorem patN_pos {r : Bs} (h : 0 < patN r) : ∃ k, pat r = some k ∧ patN r = (k : Int) + 2 := by
  unfold patN at *
  cases hp : pat r with
  | none => rw [hp] at h; exact absurd h (by simp)
  | some k => exact ⟨k, rfl, rfl⟩
theorem patN_neg {r : Bs} (h : patN r ≤ 0) : pat r = none := by
  unfold patN at *
  cases hp : pat r with
  | none => rfl
  | some k => rw [hp] at h; simp only at h; omega
theorem patN_zero {r : Bs} (h : pat r = none) : patN r = 0 := by unfold patN; rw [h]
theorem ib_m (d : UInt8) : decide ((0 : Int) ≤ Lib.indexByte [58, 124, 59] (d.toNat : Int).toNat.toUInt8) = isM d := by
  have key : ∀ n : Fin 256, decide ((0 : Int) ≤ Lib.indexByte [58, 124, 59] (UInt8.ofNat n.val)) = isM (UInt8.ofNat n.val) := by decide +kernel
  have := key ⟨d.toNat, d.toNat_lt⟩
  simpa using this
set_option maxHeartbeats 1000000 in
theorem first_calls (c : UInt8) (r : Bs) (hsz : r.length ≤ 4611686018427387000) (w : World) : Calls Tryd.prog 27 #[.string (toB (c :: r))] w fun e w' => e = .returned (.tuple #[.agg (wdC (first (c :: r)).1 (first (c :: r)).2.1 0).toArray, .int .i64 (first (c :: r)).2.2]) ∧ Below w.heap.size w w' := by
  refine calls_start Tryd.func27 rfl (N := 62) rfl rfl _ (St.start _) rfl ?_
  have hcl : (c :: r).length = r.length + 1 := rfl
  refine wc_seq ?_
  refine wc_region ?_
  refine wl_go rfl (wo_alloc rfl rfl rfl (fun b2 hb2 => ?_))
  refine wl_go rfl (wo_val rfl (rv_assign rfl) rfl rfl ?_)
  refine wl_nil ?_
  refine wq_then ?_
  refine wc_seq ?_
  refine wc_region ?_
  refine wl_go rfl (wo_val rfl (rv_assign rfl) rfl rfl ?_)
  refine wl_nil ?_
  refine wq_then ?_
  refine wc_seq ?_
  refine wc_region ?_
  refine wl_go rfl (wo_val rfl (rv_build [] (trivial)) rfl rfl ?_)
  refine wl_go rfl (wo_alloc rfl rfl rfl (fun b5 hb5 => ?_))
  refine wl_go rfl (wo_st rfl rfl rfl rfl rfl rfl rfl ?_)
  refine wl_nil ?_
  refine wq_then ?_
  refine wc_seq ?_
  refine wc_seq ?_
  refine wc_region ?_
  refine wl_go rfl (wo_val rfl (rv_move rfl) rfl rfl ?_)
  refine wl_go rfl (wo_val rfl (rb_index rfl rfl (by omega) (b := c) rfl) rfl rfl ?_)
  refine wl_go rfl (wo_val rfl (rv_assign rfl) rfl rfl ?_)
  refine wl_nil ?_
  refine wq_then ?_
  refine wc_block ?_
  refine wc_seq ?_
  refine wc_region ?_
  refine wl_go rfl (wo_val rfl (rv_move rfl) rfl rfl ?_)
  refine wl_go rfl (wo_call (R := fun _ v _ => v = _) rfl rfl (enters_of Tryd.func26 (by kernel_rfl) rfl) rfl rfl rfl (fun w hs => (wletter_calls c _).mono fun e w' h => ⟨_, h.1, rfl, h.2⟩) (fun w2a va w3a hs2a hva hb2a hm2a => ?_))
  subst hva
  refine wl_go rfl (wo_val rfl (rv_assign rfl) rfl rfl ?_)
  refine wl_nil ?_
  refine wq_then ?_
  refine wc_cond rfl (fun hc11 => ?_) (fun hc11 => ?_)
  · skip
    refine wc_seq ?_
    refine wc_region ?_
    refine wl_go rfl (wo_val rfl (rv_move rfl) rfl rfl ?_)
    refine wl_go rfl (wo_val rfl (rv_move rfl) rfl rfl ?_)
    refine wl_go rfl (wo_call (R := fun _ v _ => v = _) rfl rfl (enters_of Tryd.func37 (by kernel_rfl) rfl) rfl rfl rfl (fun w hs => (while_calls (c :: r) (by rw [List.length_cons]; omega) _ isN (enters_of Tryd.func35 (by kernel_rfl) rfl) (fun c w => wname_calls c w) _).mono fun e w' h => ⟨_, h.1, rfl, h.2⟩) (fun w2b vb w3b hs2b hvb hb2b hm2b => ?_))
    subst hvb
    refine wl_go rfl (wo_val rfl (rv_fieldAddr rfl) rfl rfl ?_)
    refine wl_go rfl (wo_st rfl rfl rfl rfl rfl rfl rfl ?_)
    refine wl_nil ?_
    refine wq_then ?_
    refine wc_seq ?_
    refine wc_region ?_
    refine wl_go rfl (wo_val rfl (rv_fieldAddr rfl) rfl rfl ?_)
    refine wl_go rfl (wo_val rfl (rv_load_own rfl rfl) rfl rfl ?_)
    refine wl_go rfl (wo_val rfl (rb_len rfl) rfl rfl ?_)
    refine wl_go rfl (wo_val rfl (rv_cmp_i rfl rfl rfl) rfl rfl ?_)
    refine wl_nil ?_
    refine wq_then ?_
    refine wc_cond rfl (fun hc21 => ?_) (fun hc21 => ?_)
    · simp only [decide_eq_true_eq, decide_eq_false_iff_not, Bool.not_eq_true', Bool.not_eq_false', bne_iff_ne, beq_iff_eq, bne_eq_false_iff_eq, beq_eq_false_iff_ne, Int.not_lt, Int.not_le] at hc21
      rw [first_L r hc11, if_pos (by omega)]
      refine wc_seq ?_
      refine wc_region ?_
      refine wl_go rfl (wo_val rfl (rv_load_own_row rfl) rfl rfl ?_)
      refine wl_go rfl (wo_st rfl rfl rfl rfl rfl rfl rfl ?_)
      refine wl_go rfl (wo_val rfl (rv_assign rfl) rfl rfl ?_)
      refine wl_nil ?_
      refine wq_then ?_
      refine wc_ret ?_
      refine wq_in_ret ?_
      refine wq_then_ret ?_
      refine wq_ret2 rfl rfl (rr_row rfl) (rr_tmp rfl) (fun w9 hs9 => ?_)
      exact ⟨rfl, hs9.below rfl⟩
    · simp only [decide_eq_true_eq, decide_eq_false_iff_not, Bool.not_eq_true', Bool.not_eq_false', bne_iff_ne, beq_iff_eq, bne_eq_false_iff_eq, beq_eq_false_iff_ne, Int.not_lt, Int.not_le] at hc21
      rw [first_L r hc11, if_neg (by omega)]
      refine wc_skip ?_
      refine wq_in_normal ?_
      refine wq_then ?_
      refine wc_seq ?_
      refine wc_region_stage (by kernel_rfl) (by kernel_rfl) ?_
      refine ws_q (i := 0) rfl (by kernel_rfl) (rq_val rfl rfl rfl (rv_load_own_row rfl)) rfl rfl ?_
      refine ws_q (i := 1) rfl (by kernel_rfl) (rq_val rfl rfl rfl (rv_fieldAddr rfl)) rfl rfl ?_
      refine ws_q (i := 2) rfl (by kernel_rfl) (rq_val rfl rfl rfl (rv_load_own rfl rfl)) rfl rfl ?_
      refine ws_q (i := 3) rfl (by kernel_rfl) (rq_val rfl rfl rfl (rb_len rfl)) rfl rfl ?_
      refine ws_w 4 rfl (by kernel_rfl) (by kernel_rfl) rfl (wo_st rfl rfl rfl rfl rfl rfl rfl ?_)
      refine wl_stage (pa_keep (rq_val rfl rfl rfl (rb_len rfl)) (pa_keep (rq_val rfl rfl rfl (rv_load_own rfl rfl)) (pa_keep (rq_val rfl rfl rfl (rv_fieldAddr rfl)) (pa_drop (by kernel_rfl) (pa_nil))))) ?_
      refine ws_q (i := 5) rfl (by kernel_rfl) (rq_val rfl rfl rfl (rv_assign rfl)) rfl rfl ?_
      refine ws_nil (by kernel_rfl) ?_
      refine wq_then ?_
      refine wc_ret ?_
      refine wq_ret2 rfl rfl (rr_row rfl) (rr_tmp rfl) (fun w9 hs9 => ?_)
      exact ⟨rfl, hs9.below rfl⟩
  · skip
    refine wc_seq ?_
    refine wc_region ?_
    refine wl_go rfl (wo_val rfl (rv_move rfl) rfl rfl ?_)
    refine wl_go rfl (wo_call (R := fun _ v _ => v = _) rfl rfl (enters_of Tryd.func36 (by kernel_rfl) rfl) rfl rfl rfl (fun w hs => (wdigit_calls c _).mono fun e w' h => ⟨_, h.1, rfl, h.2⟩) (fun w2c vc w3c hs2c hvc hb2c hm2c => ?_))
    subst hvc
    refine wl_go rfl (wo_val rfl (rv_assign rfl) rfl rfl ?_)
    refine wl_nil ?_
    refine wq_then ?_
    refine wc_cond rfl (fun hc23 => ?_) (fun hc23 => ?_)
    · skip
      refine wc_seq ?_
      refine wc_region ?_
      refine wl_go rfl (wo_val rfl (rv_move rfl) rfl rfl ?_)
      refine wl_go rfl (wo_call (R := fun _ v _ => v = _) rfl rfl (enters_of Tryd.func37 (by kernel_rfl) rfl) rfl rfl rfl (fun w hs => (while_calls (c :: r) (by rw [List.length_cons]; omega) _ isD (enters_of Tryd.func36 (by kernel_rfl) rfl) (fun c w => wdigit_calls c w) _).mono fun e w' h => ⟨_, h.1, rfl, h.2⟩) (fun w2d vd w3d hs2d hvd hb2d hm2d => ?_))
      subst hvd
      refine wl_go rfl (wo_val rfl (rv_fieldAddr0 rfl) rfl rfl ?_)
      refine wl_go rfl (wo_st rfl rfl rfl rfl rfl rfl rfl ?_)
      refine wl_go rfl (wo_val rfl (rv_fieldAddr rfl) rfl rfl ?_)
      refine wl_go rfl (wo_st rfl rfl rfl rfl rfl rfl rfl ?_)
      refine wl_nil ?_
      refine wq_then ?_
      refine wc_seq ?_
      refine wc_region ?_
      refine wl_go rfl (wo_val rfl (rv_fieldAddr rfl) rfl rfl ?_)
      refine wl_go rfl (wo_val rfl (rv_load_own rfl rfl) rfl rfl ?_)
      refine wl_go rfl (wo_val rfl (rb_len rfl) rfl rfl ?_)
      refine wl_go rfl (wo_val rfl (rv_cmp_i rfl rfl rfl) rfl rfl ?_)
      refine wl_nil ?_
      refine wq_then ?_
      refine wc_cond rfl (fun hc33 => ?_) (fun hc33 => ?_)
      · simp only [decide_eq_true_eq, decide_eq_false_iff_not, Bool.not_eq_true', Bool.not_eq_false', bne_iff_ne, beq_iff_eq, bne_eq_false_iff_eq, beq_eq_false_iff_ne, Int.not_lt, Int.not_le] at hc33
        rw [first_D r hc11 hc23, if_pos (by omega)]
        refine wc_seq ?_
        refine wc_region ?_
        refine wl_go rfl (wo_val rfl (rv_load_own_row rfl) rfl rfl ?_)
        refine wl_go rfl (wo_st rfl rfl rfl rfl rfl rfl rfl ?_)
        refine wl_go rfl (wo_val rfl (rv_assign rfl) rfl rfl ?_)
        refine wl_nil ?_
        refine wq_then ?_
        refine wc_ret ?_
        refine wq_in_ret ?_
        refine wq_then_ret ?_
        refine wq_ret2 rfl rfl (rr_row rfl) (rr_tmp rfl) (fun w9 hs9 => ?_)
        exact ⟨rfl, hs9.below rfl⟩
      · simp only [decide_eq_true_eq, decide_eq_false_iff_not, Bool.not_eq_true', Bool.not_eq_false', bne_iff_ne, beq_iff_eq, bne_eq_false_iff_eq, beq_eq_false_iff_ne, Int.not_lt, Int.not_le] at hc33
        rw [first_D r hc11 hc23, if_neg (by omega)]
        refine wc_skip ?_
        refine wq_in_normal ?_
        refine wq_then ?_
        refine wc_seq ?_
        refine wc_region_stage (by kernel_rfl) (by kernel_rfl) ?_
        refine ws_q (i := 0) rfl (by kernel_rfl) (rq_val rfl rfl rfl (rv_load_own_row rfl)) rfl rfl ?_
        refine ws_q (i := 1) rfl (by kernel_rfl) (rq_val rfl rfl rfl (rv_fieldAddr rfl)) rfl rfl ?_
        refine ws_q (i := 2) rfl (by kernel_rfl) (rq_val rfl rfl rfl (rv_load_own rfl rfl)) rfl rfl ?_
        refine ws_q (i := 3) rfl (by kernel_rfl) (rq_val rfl rfl rfl (rb_len rfl)) rfl rfl ?_
        refine ws_w 4 rfl (by kernel_rfl) (by kernel_rfl) rfl (wo_st rfl rfl rfl rfl rfl rfl rfl ?_)
        refine wl_stage (pa_keep (rq_val rfl rfl rfl (rb_len rfl)) (pa_keep (rq_val rfl rfl rfl (rv_load_own rfl rfl)) (pa_keep (rq_val rfl rfl rfl (rv_fieldAddr rfl)) (pa_drop (by kernel_rfl) (pa_nil))))) ?_
        refine ws_q (i := 5) rfl (by kernel_rfl) (rq_val rfl rfl rfl (rv_assign rfl)) rfl rfl ?_
        refine ws_nil (by kernel_rfl) ?_
        refine wq_then ?_
        refine wc_ret ?_
        refine wq_ret2 rfl rfl (rr_row rfl) (rr_tmp rfl) (fun w9 hs9 => ?_)
        exact ⟨rfl, hs9.below rfl⟩
    · skip
      refine wc_seq ?_
      refine wc_region ?_
      refine wl_go rfl (wo_val rfl (rv_move rfl) rfl rfl ?_)
      refine wl_go rfl (wo_val rfl (rv_cmp_i rfl rfl rfl) rfl rfl ?_)
      refine wl_go rfl (wo_val rfl (rv_assign rfl) rfl rfl ?_)
      refine wl_nil ?_
      refine wq_then ?_
      refine wc_cond rfl (fun hc35 => ?_) (fun hc35 => ?_)
      · skip
        have e35 : (c == 47) = true := (beq_byte c 47).symm.trans hc35
        refine wc_seq ?_
        refine wc_region ?_
        refine wl_go rfl (wo_val rfl (rv_move rfl) rfl rfl ?_)
        refine wl_go rfl (wo_call (R := fun _ v _ => v = _) rfl rfl (enters_of Tryd.func38 (by kernel_rfl) rfl) rfl rfl rfl (fun w hs => (pattern_calls c r hsz _).mono fun e w' h => ⟨_, h.1, rfl, h.2⟩) (fun w2e ve w3e hs2e hve hb2e hm2e => ?_))
        subst hve
        refine wl_go rfl (wo_val rfl (rv_assign rfl) rfl rfl ?_)
        refine wl_nil ?_
        refine wq_then ?_
        refine wc_seq ?_
        refine wc_seq ?_
        refine wc_region ?_
        refine wl_go rfl (wo_val rfl (rv_move rfl) rfl rfl ?_)
        refine wl_go rfl (wo_val rfl (rv_cmp_i rfl rfl rfl) rfl rfl ?_)
        refine wl_nil ?_
        refine wq_then ?_
        refine wc_cond rfl (fun hc41 => ?_) (fun hc41 => ?_)
        · simp only [decide_eq_true_eq, decide_eq_false_iff_not, Bool.not_eq_true', Bool.not_eq_false', bne_iff_ne, beq_iff_eq, bne_eq_false_iff_eq, beq_eq_false_iff_ne, Int.not_lt, Int.not_le] at hc41
          obtain ⟨k, hk, hk2⟩ := patN_pos hc41
          have hkl := pat_lt r k hk
          rw [first_P hc11 hc23 e35 hk]
          refine wc_region_stage (by kernel_rfl) (by kernel_rfl) ?_
          refine ws_q (i := 0) rfl (by kernel_rfl) (rq_val rfl rfl rfl (rv_move rfl)) rfl rfl ?_
          refine ws_q (i := 1) rfl (by kernel_rfl) (rq_val rfl rfl rfl (rv_move rfl)) rfl rfl ?_
          refine ws_q (i := 2) rfl (by kernel_rfl) (rq_val rfl rfl rfl (rv_sub rfl rfl (by omega))) rfl rfl ?_
          refine ws_q (i := 3) rfl (by kernel_rfl) (rq_val rfl rfl rfl (rb_slice rfl (bnd_some rfl (by omega)) (bnd_some rfl (by omega)) (by omega))) rfl rfl ?_
          refine ws_q (i := 4) rfl (by kernel_rfl) (rq_val rfl rfl rfl (rv_fieldAddr0 rfl)) rfl rfl ?_
          refine ws_w 5 rfl (by kernel_rfl) (by kernel_rfl) rfl (wo_st rfl rfl rfl rfl rfl rfl rfl ?_)
          refine wl_stage (pa_drop (by kernel_rfl) (pa_keep (rq_val rfl rfl rfl (rb_slice rfl (bnd_some rfl (by omega)) (bnd_some rfl (by omega)) (by omega))) (pa_keep (rq_val rfl rfl rfl (rv_sub rfl rfl (by omega))) (pa_keep (rq_val rfl rfl rfl (rv_move rfl)) (pa_keep (rq_val rfl rfl rfl (rv_move rfl)) (pa_nil)))))) ?_
          refine ws_q (i := 6) rfl (by kernel_rfl) (rq_val rfl rfl rfl (rv_fieldAddr rfl)) rfl rfl ?_
          refine ws_w 7 rfl (by kernel_rfl) (by kernel_rfl) rfl (wo_st rfl rfl rfl rfl rfl rfl rfl ?_)
          refine wl_stage (pa_drop (by kernel_rfl) (pa_drop (by kernel_rfl) (pa_drop (by kernel_rfl) (pa_drop (by kernel_rfl) (pa_drop (by kernel_rfl) (pa_nil)))))) ?_
          refine ws_nil (by kernel_rfl) ?_
          refine wq_then ?_
          refine wc_seq ?_
          refine wc_region ?_
          refine wl_go rfl (wo_val rfl (rv_load_own_row rfl) rfl rfl ?_)
          refine wl_go rfl (wo_val rfl (rv_move rfl) rfl rfl ?_)
          refine wl_go rfl (wo_st rfl rfl rfl rfl rfl rfl rfl ?_)
          refine wl_go rfl (wo_val rfl (rv_assign rfl) rfl rfl ?_)
          refine wl_nil ?_
          refine wq_then ?_
          refine wc_ret ?_
          refine wq_in_ret ?_
          refine wq_then_ret ?_
          refine wq_ret2 rfl rfl (rr_row rfl) (rr_tmp rfl) (fun w9 hs9 => ?_)
          have e : List.drop (Int.toNat 1) (List.take (patN r - 1).toNat (c :: r)) = r.take k := by
            rw [hk2, show ((k : Int) + 2 - 1).toNat = k + 1 by omega]; rfl
          exact ⟨by rw [e, hk2]; rfl, hs9.below rfl⟩
        · simp only [decide_eq_true_eq, decide_eq_false_iff_not, Bool.not_eq_true', Bool.not_eq_false', bne_iff_ne, beq_iff_eq, bne_eq_false_iff_eq, beq_eq_false_iff_ne, Int.not_lt, Int.not_le] at hc41
          rw [first_Q hc11 hc23 e35 (patN_neg hc41)]
          refine wc_skip ?_
          refine wq_then ?_
          refine wc_seq ?_
          refine wc_region ?_
          refine wl_go rfl (wo_val rfl (rv_load_own_row rfl) rfl rfl ?_)
          refine wl_go rfl (wo_val rfl (rv_move rfl) rfl rfl ?_)
          refine wl_go rfl (wo_st rfl rfl rfl rfl rfl rfl rfl ?_)
          refine wl_go rfl (wo_val rfl (rv_assign rfl) rfl rfl ?_)
          refine wl_nil ?_
          refine wq_then ?_
          refine wc_ret ?_
          refine wq_in_ret ?_
          refine wq_then_ret ?_
          refine wq_ret2 rfl rfl (rr_row rfl) (rr_tmp rfl) (fun w9 hs9 => ?_)
          rw [patN_zero (patN_neg hc41)]
          exact ⟨rfl, hs9.below rfl⟩
      · skip
        have e35 : (c == 47) = false := (beq_byte c 47).symm.trans hc35
        refine wc_seq ?_
        refine wc_region ?_
        refine wl_go rfl (wo_val rfl (rv_move rfl) rfl rfl ?_)
        refine wl_go rfl (wo_call (R := fun _ v _ => v = _) rfl rfl (enters_of Tryd.func39 (by kernel_rfl) rfl) rfl rfl rfl (fun w hs => (Tryd.strings_IndexByte _ _ _).mono fun e w' h => ⟨_, h.1, rfl, h.2 ▸ Below.refl _ _⟩) (fun w2i vi w3i hs2i hvi hb2i hm2i => ?_))
        subst hvi
        refine wl_go rfl (wo_val rfl (rv_cmp_i rfl rfl rfl) rfl rfl ?_)
        refine wl_go rfl (wo_val rfl (rv_assign rfl) rfl rfl ?_)
        refine wl_nil ?_
        refine wq_then ?_
        refine wc_cond rfl (fun hc50 => ?_) (fun hc50 => ?_)
        · skip
          have e50 := (ib_m c).symm.trans hc50
          rw [first_M r hc11 hc23 e35 e50]
          refine wc_region_stage (by kernel_rfl) (by kernel_rfl) ?_
          refine ws_q (i := 0) rfl (by kernel_rfl) (rq_val rfl rfl rfl (rv_move rfl)) rfl rfl ?_
          refine ws_q (i := 1) rfl (by kernel_rfl) (rq_val rfl rfl rfl (rb_slice_to rfl rfl (by omega))) rfl rfl ?_
          refine ws_q (i := 2) rfl (by kernel_rfl) (rq_val rfl rfl rfl (rv_fieldAddr0 rfl)) rfl rfl ?_
          refine ws_w 3 rfl (by kernel_rfl) (by kernel_rfl) rfl (wo_st rfl rfl rfl rfl rfl rfl rfl ?_)
          refine wl_stage (pa_drop (by kernel_rfl) (pa_keep (rq_val rfl rfl rfl (rb_slice_to rfl rfl (by omega))) (pa_keep (rq_val rfl rfl rfl (rv_move rfl)) (pa_nil)))) ?_
          refine ws_q (i := 4) rfl (by kernel_rfl) (rq_val rfl rfl rfl (rv_fieldAddr rfl)) rfl rfl ?_
          refine ws_w 5 rfl (by kernel_rfl) (by kernel_rfl) rfl (wo_st rfl rfl rfl rfl rfl rfl rfl ?_)
          refine wl_stage (pa_drop (by kernel_rfl) (pa_drop (by kernel_rfl) (pa_drop (by kernel_rfl) (pa_nil)))) ?_
          refine ws_nil (by kernel_rfl) ?_
          refine wq_in_normal ?_
          refine wq_then ?_
          refine wc_seq ?_
          refine wc_region_stage (by kernel_rfl) (by kernel_rfl) ?_
          refine ws_q (i := 0) rfl (by kernel_rfl) (rq_val rfl rfl rfl (rv_load_own_row rfl)) rfl rfl ?_
          refine ws_q (i := 1) rfl (by kernel_rfl) (rq_val rfl rfl rfl (rv_fieldAddr rfl)) rfl rfl ?_
          refine ws_q (i := 2) rfl (by kernel_rfl) (rq_val rfl rfl rfl (rv_load_own rfl rfl)) rfl rfl ?_
          refine ws_q (i := 3) rfl (by kernel_rfl) (rq_val rfl rfl rfl (rb_len rfl)) rfl rfl ?_
          refine ws_w 4 rfl (by kernel_rfl) (by kernel_rfl) rfl (wo_st rfl rfl rfl rfl rfl rfl rfl ?_)
          refine wl_stage (pa_keep (rq_val rfl rfl rfl (rb_len rfl)) (pa_keep (rq_val rfl rfl rfl (rv_load_own rfl rfl)) (pa_keep (rq_val rfl rfl rfl (rv_fieldAddr rfl)) (pa_drop (by kernel_rfl) (pa_nil))))) ?_
          refine ws_q (i := 5) rfl (by kernel_rfl) (rq_val rfl rfl rfl (rv_assign rfl)) rfl rfl ?_
          refine ws_nil (by kernel_rfl) ?_
          refine wq_then ?_
          refine wc_ret ?_
          refine wq_ret2 rfl rfl (rr_row rfl) (rr_tmp rfl) (fun w9 hs9 => ?_)
          exact ⟨rfl, hs9.below rfl⟩
        · skip
          have e50 := (ib_m c).symm.trans hc50
          rw [first_0 r hc11 hc23 e35 e50]
          refine wc_skip ?_
          refine wq_in_normal ?_
          refine wq_then ?_
          refine wc_seq ?_
          refine wc_region_stage (by kernel_rfl) (by kernel_rfl) ?_
          refine ws_q (i := 0) rfl (by kernel_rfl) (rq_val rfl rfl rfl (rv_load_own_row rfl)) rfl rfl ?_
          refine ws_q (i := 1) rfl (by kernel_rfl) (rq_val rfl rfl rfl (rv_fieldAddr rfl)) rfl rfl ?_
          refine ws_q (i := 2) rfl (by kernel_rfl) (rq_val rfl rfl rfl (rv_load_own rfl rfl)) rfl rfl ?_
          refine ws_q (i := 3) rfl (by kernel_rfl) (rq_val rfl rfl rfl (rb_len rfl)) rfl rfl ?_
          refine ws_w 4 rfl (by kernel_rfl) (by kernel_rfl) rfl (wo_st rfl rfl rfl rfl rfl rfl rfl ?_)
          refine wl_stage (pa_keep (rq_val rfl rfl rfl (rb_len rfl)) (pa_keep (rq_val rfl rfl rfl (rv_load_own rfl rfl)) (pa_keep (rq_val rfl rfl rfl (rv_fieldAddr rfl)) (pa_drop (by kernel_rfl) (pa_nil))))) ?_
          refine ws_q (i := 5) rfl (by kernel_rfl) (rq_val rfl rfl rfl (rv_assign rfl)) rfl rfl ?_
          refine ws_nil (by kernel_rfl) ?_
          refine wq_then ?_
          refine wc_ret ?_
          refine wq_ret2 rfl rfl (rr_row rfl) (rr_tmp rfl) (fun w9 hs9 => ?_)
          exact ⟨rfl, hs9.below rfl⟩
end Go.Proofs.YtlaolodnnjcgdaaDoor.Wd
