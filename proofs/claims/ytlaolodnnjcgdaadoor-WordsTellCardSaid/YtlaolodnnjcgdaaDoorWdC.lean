/- The walks of words: skip, first. -/
import Derived.Test.YtlaolodnnjcgdaaDoorWdB
import Derived.Test.YtlaolodnnjcgdaaDoorGwG
namespace Go.Proofs.YtlaolodnnjcgdaaDoor.Wd
open Go Go.RowKit Gw Go.Shelf
theorem trim_calls (u : Bs) (w : World) : Calls Tryd.prog 43 #[.string (toB u), .string (toB [32, 9, 13, 10])] w fun e w' => e = .returned (.string (toB (u.dropWhile isSp))) ∧ Below w.heap.size w w' := by
  have h := Any.strings_TrimLeft_laid Tryd.lays161 (by kernel_rfl) (toB u) ⟨#[32, 9, 13, 10]⟩ w (by decide) (ascii_of_all (by decide))
  have e : Lib.trimLeftS (toB u).data.toList (ByteArray.mk #[32, 9, 13, 10]).data.toList = u.dropWhile isSp := by
    unfold Lib.trimLeftS
    show List.dropWhile _ u = _
    congr 1
    funext c
    show List.elem c [32, 9, 13, 10] = _
    simp only [isSp, List.elem]
    cases c == 32 <;> cases c == 9 <;> cases c == 13 <;> cases c == 10 <;> rfl
  rw [e] at h
  exact h
theorem sk_trim (s : Bs) : sk false s = sk false (s.dropWhile isSp) := by
  induction s with
  | nil => rfl
  | cons c r ih =>
    rw [List.dropWhile_cons]
    split
    · rename_i h
      rw [sk, if_pos h]; exact ih
    · rfl
theorem trim_head (s : Bs) (c : UInt8) (r : Bs) (h : s.dropWhile isSp = c :: r) : isSp c = false := by
  induction s with
  | nil => cases h
  | cons d q ih =>
    rw [List.dropWhile_cons] at h
    split at h
    · exact ih h
    · rename_i hd
      cases h
      simpa using hd
theorem sk_note : ∀ (r : Bs), sk true r = if Lib.indexByte r 10 < 0 then [] else sk false (r.drop (Lib.indexByte r 10).toNat)
  | [] => by simp [sk, Lib.indexByte]
  | c :: r => by
    rw [sk, Lib.indexByte]
    by_cases hc : c = 10
    · subst hc
      simp only [beq_self_eq_true, if_true]
      show _ = sk false (10 :: r)
      rw [sk, if_pos (by decide)]
    · have hb : (c == 10) = false := by simpa using hc
      simp only [hb, Bool.false_eq_true, if_false]
      rw [sk_note r]
      have hge := Lib.indexByte_ge r 10
      by_cases h1 : Lib.indexByte r 10 = -1
      · simp only [h1, beq_self_eq_true, if_true]
        rfl
      · have hb1 : (Lib.indexByte r 10 == -1) = false := by simpa using h1
        simp only [hb1, Bool.false_eq_true, if_false]
        rw [if_neg (by omega), if_neg (by omega)]
        rw [show (Lib.indexByte r 10 + 1).toNat = (Lib.indexByte r 10).toNat + 1 by omega, List.drop_succ_cons]
theorem sk_mark (r : Bs) : sk false (35 :: r) = if Lib.indexByte (35 :: r) 10 < 0 then [] else sk false ((35 :: r).drop (Lib.indexByte (35 :: r) 10).toNat) := by
  have h := sk_note (35 :: r)
  rw [sk, if_neg (by decide), if_pos (by decide)]
  rw [sk, if_neg (by decide)] at h
  exact h
theorem mark_pos (r : Bs) : Lib.indexByte (35 :: r) 10 ≠ 0 := by
  rw [Lib.indexByte, if_neg (by decide)]
  have := Lib.indexByte_ge r 10
  split
  · decide
  · rename_i h; have : Lib.indexByte r 10 ≠ -1 := by simpa using h
    omega
theorem index_le (s : Bs) (c : UInt8) : Lib.indexByte s c ≤ s.length := by
  induction s with
  | nil => simp [Lib.indexByte]
  | cons d r ih =>
    rw [Lib.indexByte]
    split
    · simp; omega
    · split
      · simp; omega
      · simp; omega
theorem skip_calls (s : Bs) (hs : s.length ≤ 4611686018427387904) (w : World) : Calls Tryd.prog 30 #[.string (toB s)] w fun e w' => e = .returned (.string (toB (sk false s))) ∧ Below w.heap.size w w' := by
  refine calls_start Tryd.func30 rfl (N := 21) rfl rfl _ (St.start _) rfl ?_
  refine wc_seq ?_
  refine wc_region ?_
  refine wl_go rfl (wo_val rfl (rv_assign rfl) rfl rfl ?_)
  refine wl_nil ?_
  refine wq_then ?_
  refine wc_block ?_
  refine wc_loop (fun m l S => ∃ (u : Bs) (w1 : World), sk false u = sk false s ∧ u.length ≤ s.length ∧ m = u.length ∧ l = [(0, .string (toB u))] ∧ S = ⟨w, G0, w1, []⟩) ⟨_, _, ⟨s, w, rfl, Nat.le_refl _, rfl, rfl, rfl⟩, by repeat (first | exact sub_nil | refine sub_cons rfl ?_)⟩ ?_
  intro m l S hJ
  obtain ⟨u, w1, hu, hul, rfl, rfl, rfl⟩ := hJ
  refine wc_block ?_
  refine wc_seq ?_
  refine wc_region ?_
  refine wl_go rfl (wo_val rfl (rv_move rfl) rfl rfl ?_)
  refine wl_go rfl (wo_call (R := fun _ v _ => v = _) rfl rfl (enters_of Tryd.func43 (by kernel_rfl) rfl) rfl rfl rfl (fun w hs => (trim_calls u _).mono fun e w' h => ⟨_, h.1, rfl, h.2⟩) (fun w2t vt w3t hs2t hvt hb2t hm2t => ?_))
  subst hvt
  have hsk := (sk_trim u).symm.trans hu
  have hle : (u.dropWhile isSp).length ≤ u.length := (List.dropWhile_sublist _).length_le
  have hth := trim_head u
  generalize u.dropWhile isSp = t at hsk hle hth ⊢
  refine wl_go rfl (wo_val rfl (rv_assign rfl) rfl rfl ?_)
  refine wl_nil ?_
  refine wq_then ?_
  refine wc_seq ?_
  refine wc_seq ?_
  refine wc_region ?_
  refine wl_go rfl (wo_val rfl (rv_move rfl) rfl rfl ?_)
  refine wl_go rfl (wo_val rfl (rb_eql (t := []) rfl rfl) rfl rfl ?_)
  refine wl_go rfl (wo_val rfl (rv_move rfl) rfl rfl ?_)
  refine wl_split (d := 8) rfl true (fun hg2_2 => ?_) (fun hg2_2 => ?_)
  · skip
    obtain rfl : t = [] := by simpa using hg2_2
    refine wl_skip rfl rfl rfl rfl rfl hg2_2 rfl ?_
    refine wl_skip rfl rfl rfl rfl rfl hg2_2 rfl ?_
    refine wl_skip rfl rfl rfl rfl rfl hg2_2 rfl ?_
    refine wl_go rfl (wo_val rfl (rv_pick_t rfl hg2_2 rfl) rfl rfl ?_)
    refine wl_nil ?_
    refine wq_then ?_
    refine wc_cond_t rfl rfl ?_
    refine wc_seq ?_
    refine wc_region ?_
    refine wl_go rfl (wo_val rfl (rv_move rfl) rfl rfl ?_)
    refine wl_go rfl (wo_val rfl (rv_assign rfl) rfl rfl ?_)
    refine wl_nil ?_
    refine wq_then ?_
    refine wc_ret ?_
    refine wq_then_ret ?_
    refine wq_in_ret ?_
    refine wq_then_ret ?_
    refine wq_in_ret ?_
    refine wq_ret1 rfl rfl (rr_tmp rfl) (fun w9 hs9 => ?_)
    rw [← hsk]
    exact ⟨rfl, hs9.below rfl⟩
  · skip
    obtain ⟨c, r, rfl⟩ : ∃ c r, t = c :: r := by
      cases t with
      | nil => cases hg2_2
      | cons c r => exact ⟨c, r, rfl⟩
    refine wl_want rfl rfl rfl rfl rfl hg2_2 (wo_val rfl (rv_move rfl) rfl rfl ?_)
    refine wl_want rfl rfl rfl rfl rfl hg2_2 (wo_val rfl (rb_index rfl rfl (by omega) (b := c) rfl) rfl rfl ?_)
    refine wl_want rfl rfl rfl rfl rfl hg2_2 (wo_val rfl (rv_cmp_i rfl rfl rfl) rfl rfl ?_)
    refine wl_go rfl (wo_val rfl (rv_pick_f rfl hg2_2 rfl) rfl rfl ?_)
    refine wl_nil ?_
    refine wq_then ?_
    refine wc_cond rfl (fun hc12 => ?_) (fun hc12 => ?_)
    · skip
      have h35 : (c == 35) = false := by
        rw [← beq_byte c 35]; simpa using hc12
      refine wc_seq ?_
      refine wc_region ?_
      refine wl_go rfl (wo_val rfl (rv_move rfl) rfl rfl ?_)
      refine wl_go rfl (wo_val rfl (rv_assign rfl) rfl rfl ?_)
      refine wl_nil ?_
      refine wq_then ?_
      refine wc_ret ?_
      refine wq_then_ret ?_
      refine wq_in_ret ?_
      refine wq_then_ret ?_
      refine wq_in_ret ?_
      refine wq_ret1 rfl rfl (rr_tmp rfl) (fun w9 hs9 => ?_)
      rw [← hsk, sk, if_neg (by rw [hth c r rfl]; simp), if_neg (by simp [h35])]
      exact ⟨rfl, hs9.below rfl⟩
    · skip
      have h35 : (c == 35) = true := by
        rw [← beq_byte c 35]; simpa using hc12
      obtain rfl : c = 35 := beq_iff_eq.1 h35
      refine wc_skip ?_
      refine wq_then ?_
      refine wc_seq ?_
      refine wc_region ?_
      refine wl_go rfl (wo_val rfl (rv_move rfl) rfl rfl ?_)
      refine wl_go rfl (wo_call (R := fun _ v _ => v = _) rfl rfl (enters_of Tryd.func39 (by kernel_rfl) rfl) rfl rfl rfl (fun w hs => (Tryd.strings_IndexByte _ _ _).mono fun e w' h => ⟨_, h.1, rfl, h.2 ▸ Below.refl _ _⟩) (fun w2i vi w3i hs2i hvi hb2i hm2i => ?_))
      subst hvi
      generalize hk : Lib.indexByte (toB (35 :: r)).data.toList (Int.toNat 10).toUInt8 = k
      change Lib.indexByte (35 :: r) 10 = k at hk
      have hkm := sk_mark r
      rw [hk] at hkm
      have hk0 : k ≠ 0 := hk ▸ mark_pos r
      have hkl : k ≤ (35 :: r).length := hk ▸ index_le (35 :: r) 10
      refine wl_go rfl (wo_val rfl (rv_assign rfl) rfl rfl ?_)
      refine wl_nil ?_
      refine wq_then ?_
      refine wc_seq ?_
      refine wc_seq ?_
      refine wc_region ?_
      refine wl_go rfl (wo_val rfl (rv_move rfl) rfl rfl ?_)
      refine wl_go rfl (wo_val rfl (rv_cmp_i rfl rfl rfl) rfl rfl ?_)
      refine wl_nil ?_
      refine wq_then ?_
      refine wc_cond rfl (fun hc17 => ?_) (fun hc17 => ?_)
      · simp only [decide_eq_true_eq, decide_eq_false_iff_not, Bool.not_eq_true', Bool.not_eq_false', bne_iff_ne, beq_iff_eq, bne_eq_false_iff_eq, beq_eq_false_iff_ne, Int.not_lt, Int.not_le] at hc17
        rw [if_pos hc17] at hkm
        refine wc_seq ?_
        refine wc_region ?_
        refine wl_go rfl (wo_val rfl (rv_assign rfl) rfl rfl ?_)
        refine wl_nil ?_
        refine wq_then ?_
        refine wc_ret ?_
        refine wq_then_ret ?_
        refine wq_in_ret ?_
        refine wq_then_ret ?_
        refine wq_in_ret ?_
        refine wq_ret1 rfl rfl (rr_tmp rfl) (fun w9 hs9 => ?_)
        rw [← hsk, hkm]
        exact ⟨rfl, hs9.below rfl⟩
      · simp only [decide_eq_true_eq, decide_eq_false_iff_not, Bool.not_eq_true', Bool.not_eq_false', bne_iff_ne, beq_iff_eq, bne_eq_false_iff_eq, beq_eq_false_iff_ne, Int.not_lt, Int.not_le] at hc17
        rw [if_neg (by omega)] at hkm
        refine wc_skip ?_
        refine wq_then ?_
        refine wc_region ?_
        refine wl_go rfl (wo_val rfl (rv_move rfl) rfl rfl ?_)
        refine wl_go rfl (wo_val rfl (rv_move rfl) rfl rfl ?_)
        refine wl_go rfl (wo_val rfl (rb_slice_from rfl rfl (by omega)) rfl rfl ?_)
        refine wl_go rfl (wo_val rfl (rv_assign rfl) rfl rfl ?_)
        refine wl_nil ?_
        refine wq_in_normal ?_
        refine wq_round ⟨_, _, ⟨(35 :: r).drop k.toNat, _, hkm ▸ hsk, ?_, rfl, rfl, rfl⟩, ?_, by repeat (first | exact sub_nil | refine sub_cons rfl ?_)⟩
        · rw [List.length_drop]; omega
        · rw [List.length_drop]; omega
end Go.Proofs.YtlaolodnnjcgdaaDoor.Wd
