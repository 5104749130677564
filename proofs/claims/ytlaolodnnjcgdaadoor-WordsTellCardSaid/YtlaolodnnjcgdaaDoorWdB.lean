/- The walks of words: pattern, skip. -/
import Derived.Test.YtlaolodnnjcgdaaDoorWdA
namespace Go.Proofs.YtlaolodnnjcgdaaDoor.Wd
open Go Go.RowKit Gw Go.Shelf
theorem ib_nl (d : UInt8) : decide ((0 : Int) ≤ Lib.indexByte [13, 10] (d.toNat : Int).toNat.toUInt8) = (d == 10 || d == 13) := by
  have key : ∀ n : Fin 256, decide ((0 : Int) ≤ Lib.indexByte [13, 10] (UInt8.ofNat n.val)) = (UInt8.ofNat n.val == 10 || UInt8.ofNat n.val == 13) := by decide +kernel
  have := key ⟨d.toNat, d.toNat_lt⟩
  simpa using this
theorem beq_byte (b c : UInt8) : ((b.toNat : Int) == (c.toNat : Int)) = (b == c) := by
  rw [Bool.eq_iff_iff, beq_iff_eq, beq_iff_eq]
  constructor
  · intro h
    exact UInt8.toNat_inj.1 (by omega)
  · rintro rfl; rfl
theorem pat_end (r : Bs) (k : Nat) (hk : r.length ≤ k) : pat (r.drop k) = none := by rw [List.drop_eq_nil_of_le hk]; rfl
theorem pat_slash (r : Bs) : pat (47 :: r) = some 0 := by cases r <;> rfl
theorem pat_esc (r : Bs) (d : UInt8) (hd : (d == 10 || d == 13) = false) : pat (92 :: d :: r) = (pat r).map (· + 2) := by
  rw [pat, if_neg (by decide), if_pos (by decide), if_neg (by simp [hd])]
theorem pat_esc_nl (r : Bs) (d : UInt8) (hd : (d == 10 || d == 13) = true) : pat (92 :: d :: r) = none := by
  rw [pat, if_neg (by decide), if_pos (by decide), if_pos hd]
theorem pat_nl (r : Bs) (c : UInt8) (h : (c == 13 || c == 10) = true) : pat (c :: r) = none := by
  have h47 : (c == 47) = false := by
    rw [Bool.or_eq_true, beq_iff_eq, beq_iff_eq] at h
    rcases h with rfl | rfl <;> decide
  have h92 : (c == 92) = false := by
    rw [Bool.or_eq_true, beq_iff_eq, beq_iff_eq] at h
    rcases h with rfl | rfl <;> decide
  cases r with
  | nil => simp [pat, h47]
  | cons d r => rw [pat, if_neg (by simp [h47]), if_neg (by simp [h92]), if_pos h]
theorem pat_plain (r : Bs) (c : UInt8) (h1 : (c == 47) = false) (h2 : (c == 92) = false) (h3 : (c == 13) = false) (h4 : (c == 10) = false) : pat (c :: r) = (pat r).map (· + 1) := by
  cases r with
  | nil => simp [pat, h1]
  | cons d r => rw [pat, if_neg (by simp [h1]), if_neg (by simp [h2]), if_neg (by simp [h3, h4])]
def patN (r : Bs) : Int := match pat r with
  | none => 0
  | some k => (k : Int) + 2
theorem patN_at (r : Bs) (k j : Nat) (h : pat r = (pat (r.drop k)).map (· + k)) (hj : pat (r.drop k) = some j) : patN r = (j + k : Int) + 2 := by
  unfold patN; rw [h, hj]; simp
theorem patN_none (r : Bs) (k : Nat) (h : pat r = (pat (r.drop k)).map (· + k)) (hj : pat (r.drop k) = none) : patN r = 0 := by
  unfold patN; rw [h, hj]; simp
theorem idx_cons {c d : UInt8} {r : Bs} {i : Int} {j : Nat} (hd : r[j]? = some d) (h : i.toNat = j + 1) : (c :: r)[i.toNat]? = some d := by rw [h]; simpa using hd
theorem drop_at {r : Bs} {k : Nat} {b : UInt8} (hb : r[k]? = some b) : r.drop k = b :: r.drop (k + 1) := by
  obtain ⟨h1, h2⟩ := List.getElem?_eq_some_iff.1 hb
  rw [List.drop_eq_getElem_cons h1, h2]
set_option maxHeartbeats 1000000 in
theorem pattern_calls (c0 : UInt8) (r : Bs) (hs : r.length ≤ 4611686018427387000) (w : World) : Calls Tryd.prog 38 #[.string (toB (c0 :: r))] w fun e w' => e = .returned (.int .i64 (patN r)) ∧ Below w.heap.size w w' := by
  refine calls_start Tryd.func38 rfl (N := 35) rfl rfl _ (St.start _) rfl ?_
  refine wc_seq ?_
  refine wc_region ?_
  refine wl_go rfl (wo_val rfl (rv_assign rfl) rfl rfl ?_)
  refine wl_nil ?_
  refine wq_then ?_
  refine wc_scope ?_
  refine wc_seq ?_
  refine wc_region ?_
  refine wl_go rfl (wo_val rfl (rv_assign rfl) rfl rfl ?_)
  refine wl_nil ?_
  refine wq_then ?_
  refine wc_seq ?_
  refine wc_label ?_
  refine wq_then ?_
  refine wc_seq ?_
  refine wc_block ?_
  refine wc_loop (fun m l S => ∃ (k : Nat) (w1 : World), k ≤ r.length + 1 ∧ pat r = (pat (r.drop k)).map (· + k) ∧ m = r.length + 1 - k ∧ l = [(0, .string (toB (c0 :: r))), (3, .int .i64 ((k + 1 : Nat) : Int))] ∧ S = ⟨w, G0, w1, []⟩) ⟨_, _, ⟨0, w, Nat.zero_le _, by simp, rfl, rfl, rfl⟩, by repeat (first | exact sub_nil | refine sub_cons rfl ?_)⟩ ?_
  intro m l S hJ
  obtain ⟨k, w1, hk, hp, rfl, rfl, rfl⟩ := hJ
  refine wc_seq ?_
  refine wc_seq ?_
  refine wc_region ?_
  refine wl_go rfl (wo_val rfl (rv_move rfl) rfl rfl ?_)
  refine wl_go rfl (wo_val rfl (rv_move rfl) rfl rfl ?_)
  refine wl_go rfl (wo_val rfl (rb_len rfl) rfl rfl ?_)
  refine wl_go rfl (wo_val rfl (rv_cmp_i rfl rfl rfl) rfl rfl ?_)
  refine wl_nil ?_
  refine wq_then ?_
  refine wc_cond rfl (fun hc7 => ?_) (fun hc7 => ?_)
  · simp only [decide_eq_true_eq, decide_eq_false_iff_not, Bool.not_eq_true', Bool.not_eq_false', bne_iff_ne, beq_iff_eq, bne_eq_false_iff_eq, beq_eq_false_iff_ne, Int.not_lt, Int.not_le] at hc7
    rw [List.length_cons] at hc7
    obtain ⟨b, hb⟩ : ∃ b, r[k]? = some b := ⟨_, List.getElem?_eq_getElem (by omega)⟩
    have hdr := drop_at hb
    refine wc_skip ?_
    refine wq_then ?_
    refine wc_seq ?_
    refine wc_block ?_
    refine wc_seq ?_
    refine wc_region ?_
    refine wl_go rfl (wo_val rfl (rv_move rfl) rfl rfl ?_)
    refine wl_go rfl (wo_val rfl (rv_move rfl) rfl rfl ?_)
    refine wl_go rfl (wo_val rfl (rb_index rfl rfl (by omega) (idx_cons hb (by omega))) rfl rfl ?_)
    refine wl_nil ?_
    refine wq_then ?_
    refine wc_block ?_
    refine wc_seq ?_
    refine wc_region ?_
    refine wl_go rfl (wo_val rfl (rv_cmp_i rfl rfl rfl) rfl rfl ?_)
    refine wl_go rfl (wo_val rfl (rv_assign rfl) rfl rfl ?_)
    refine wl_nil ?_
    refine wq_then ?_
    refine wc_cond rfl (fun hc13 => ?_) (fun hc13 => ?_)
    · skip
      have e13 : (b == 47) = true := (beq_byte b 47).symm.trans hc13
      refine wc_seq ?_
      refine wc_region ?_
      refine wl_go rfl (wo_val rfl (rv_move rfl) rfl rfl ?_)
      refine wl_go rfl (wo_val rfl (rv_add rfl rfl (by omega)) rfl rfl ?_)
      refine wl_go rfl (wo_val rfl (rv_assign rfl) rfl rfl ?_)
      refine wl_nil ?_
      refine wq_then ?_
      refine wc_ret ?_
      refine wq_in_ret ?_
      refine wq_in_ret ?_
      refine wq_then_ret ?_
      refine wq_then_ret ?_
      refine wq_in_ret ?_
      refine wq_then_ret ?_
      refine wq_scope_ret ?_
      refine wq_ret1 rfl rfl (rr_tmp rfl) (fun w9 hs9 => ?_)
      rw [patN_at r k 0 hp (by rw [hdr, beq_iff_eq.1 e13, pat_slash])]
      exact ⟨by congr 2; omega, hs9.below rfl⟩
    · skip
      have e13 : (b == 47) = false := (beq_byte b 47).symm.trans hc13
      refine wc_seq ?_
      refine wc_region ?_
      refine wl_go rfl (wo_val rfl (rv_cmp_i rfl rfl rfl) rfl rfl ?_)
      refine wl_go rfl (wo_val rfl (rv_assign rfl) rfl rfl ?_)
      refine wl_nil ?_
      refine wq_then ?_
      refine wc_cond rfl (fun hc17 => ?_) (fun hc17 => ?_)
      · skip
        have e17 : (b == 92) = true := (beq_byte b 92).symm.trans hc17
        refine wc_seq ?_
        refine wc_region ?_
        refine wl_go rfl (wo_val rfl (rv_move rfl) rfl rfl ?_)
        refine wl_go rfl (wo_val rfl (rv_add rfl rfl (by omega)) rfl rfl ?_)
        refine wl_go rfl (wo_val rfl (rv_assign rfl) rfl rfl ?_)
        refine wl_nil ?_
        refine wq_then ?_
        refine wc_seq ?_
        refine wc_region ?_
        refine wl_go rfl (wo_val rfl (rv_move rfl) rfl rfl ?_)
        refine wl_go rfl (wo_val rfl (rv_move rfl) rfl rfl ?_)
        refine wl_go rfl (wo_val rfl (rb_len rfl) rfl rfl ?_)
        refine wl_go rfl (wo_val rfl (rv_cmp_i rfl rfl rfl) rfl rfl ?_)
        refine wl_go rfl (wo_val rfl (rv_move rfl) rfl rfl ?_)
        refine wl_split (d := 25) rfl true (fun hg9_4 => ?_) (fun hg9_4 => ?_)
        · skip
          have hlt : k + 1 < r.length := by have := of_decide_eq_true hg9_4; rw [List.length_cons] at this; omega
          obtain ⟨d, hd⟩ : ∃ d, r[k + 1]? = some d := ⟨_, List.getElem?_eq_getElem hlt⟩
          rw [drop_at hd] at hdr
          refine wl_want rfl rfl rfl rfl rfl hg9_4 (wo_val rfl (rv_move rfl) rfl rfl ?_)
          refine wl_want rfl rfl rfl rfl rfl hg9_4 (wo_val rfl (rv_move rfl) rfl rfl ?_)
          refine wl_want rfl rfl rfl rfl rfl hg9_4 (wo_val rfl (rb_index rfl rfl (by omega) (idx_cons hd (by omega))) rfl rfl ?_)
          refine wl_want rfl rfl rfl rfl rfl hg9_4 (wo_call (R := fun _ v _ => v = _) rfl rfl (enters_of Tryd.func39 (by kernel_rfl) rfl) rfl rfl rfl (fun w hs => (Tryd.strings_IndexByte _ _ _).mono fun e w' h => ⟨_, h.1, rfl, h.2 ▸ Below.refl _ _⟩) (fun w2i vi w3i hs2i hvi hb2i hm2i => ?_))
          subst hvi
          refine wl_want rfl rfl rfl rfl rfl hg9_4 (wo_val rfl (rv_cmp_i rfl rfl rfl) rfl rfl ?_)
          refine wl_go rfl (wo_val rfl (rv_pick_t rfl hg9_4 rfl) rfl rfl ?_)
          refine wl_nil ?_
          refine wq_then ?_
          refine wc_cond rfl (fun hc31 => ?_) (fun hc31 => ?_)
          · skip
            have e31 := (ib_nl d).symm.trans hc31
            refine wc_exit ?_
            refine wq_in_other rfl ?_
            refine wq_in_other rfl ?_
            refine wq_then_exit ?_
            refine wq_then_exit ?_
            refine wq_in_here ?_
            refine wq_then ?_
            refine wc_seq ?_
            refine wc_region ?_
            refine wl_go rfl (wo_val rfl (rv_assign rfl) rfl rfl ?_)
            refine wl_nil ?_
            refine wq_then ?_
            refine wc_ret ?_
            refine wq_scope_ret ?_
            refine wq_ret1 rfl rfl (rr_tmp rfl) (fun w9 hs9 => ?_)
            rw [patN_none r k hp (by rw [hdr, beq_iff_eq.1 e17, pat_esc_nl _ _ e31])]
            exact ⟨rfl, hs9.below rfl⟩
          · skip
            have e31 := (ib_nl d).symm.trans hc31
            refine wc_skip ?_
            refine wq_in_normal ?_
            refine wq_in_normal ?_
            refine wq_then ?_
            refine wc_region ?_
            refine wl_go rfl (wo_val rfl (rv_move rfl) rfl rfl ?_)
            refine wl_go rfl (wo_val rfl (rv_add rfl rfl (by omega)) rfl rfl ?_)
            refine wl_go rfl (wo_val rfl (rv_assign rfl) rfl rfl ?_)
            refine wl_nil ?_
            refine wq_round ⟨_, _, ⟨k + 2, _, by omega, ?_, rfl, rfl, rfl⟩, by omega, by repeat (first | exact sub_nil | refine sub_cons rfl ?_)⟩
            rw [hp, hdr, beq_iff_eq.1 e17, pat_esc _ _ e31, Option.map_map]
            rw [show k + 2 = k + 1 + 1 by omega]
            congr 1
            funext x
            simp only [Function.comp_def]
            omega
        · skip
          have hge : r.length ≤ k + 1 := by have := of_decide_eq_false hg9_4; rw [List.length_cons] at this; omega
          rw [List.drop_eq_nil_of_le hge] at hdr
          refine wl_skip rfl rfl rfl rfl rfl hg9_4 rfl ?_
          refine wl_skip rfl rfl rfl rfl rfl hg9_4 rfl ?_
          refine wl_skip rfl rfl rfl rfl rfl hg9_4 rfl ?_
          refine wl_skip rfl rfl rfl rfl rfl hg9_4 rfl ?_
          refine wl_skip rfl rfl rfl rfl rfl hg9_4 rfl ?_
          refine wl_go rfl (wo_val rfl (rv_pick_f rfl hg9_4 rfl) rfl rfl ?_)
          refine wl_nil ?_
          refine wq_then ?_
          refine wc_cond_f rfl rfl ?_
          refine wc_skip ?_
          refine wq_in_normal ?_
          refine wq_in_normal ?_
          refine wq_then ?_
          refine wc_region ?_
          refine wl_go rfl (wo_val rfl (rv_move rfl) rfl rfl ?_)
          refine wl_go rfl (wo_val rfl (rv_add rfl rfl (by omega)) rfl rfl ?_)
          refine wl_go rfl (wo_val rfl (rv_assign rfl) rfl rfl ?_)
          refine wl_nil ?_
          refine wq_round ⟨_, _, ⟨k + 2, _, by omega, ?_, rfl, rfl, rfl⟩, by omega, by repeat (first | exact sub_nil | refine sub_cons rfl ?_)⟩
          rw [hp, hdr, beq_iff_eq.1 e17, pat_end r (k + 2) (by omega)]
          rfl
      · skip
        have e17 : (b == 92) = false := (beq_byte b 92).symm.trans hc17
        refine wc_seq ?_
        refine wc_seq ?_
        refine wc_region ?_
        refine wl_go rfl (wo_val rfl (rv_cmp_i rfl rfl rfl) rfl rfl ?_)
        refine wl_go rfl (wo_val rfl (rv_assign rfl) rfl rfl ?_)
        refine wl_nil ?_
        refine wq_then ?_
        refine wc_cond rfl (fun hc32a => ?_) (fun hc32a => ?_)
        · skip
          have e32 : (b == 13) = true := (beq_byte b 13).symm.trans hc32a
          refine wc_skip ?_
          refine wq_then ?_
          refine wc_cond_t rfl hc32a ?_
          refine wc_exit ?_
          refine wq_in_other rfl ?_
          refine wq_in_other rfl ?_
          refine wq_then_exit ?_
          refine wq_then_exit ?_
          refine wq_in_here ?_
          refine wq_then ?_
          refine wc_seq ?_
          refine wc_region ?_
          refine wl_go rfl (wo_val rfl (rv_assign rfl) rfl rfl ?_)
          refine wl_nil ?_
          refine wq_then ?_
          refine wc_ret ?_
          refine wq_scope_ret ?_
          refine wq_ret1 rfl rfl (rr_tmp rfl) (fun w9 hs9 => ?_)
          rw [patN_none r k hp (by rw [hdr]; exact pat_nl _ _ (by simp [e32]))]
          exact ⟨rfl, hs9.below rfl⟩
        · skip
          have e32 : (b == 13) = false := (beq_byte b 13).symm.trans hc32a
          refine wc_region ?_
          refine wl_go rfl (wo_val rfl (rv_cmp_i rfl rfl rfl) rfl rfl ?_)
          refine wl_go rfl (wo_val rfl (rv_assign rfl) rfl rfl ?_)
          refine wl_nil ?_
          refine wq_then ?_
          refine wc_cond rfl (fun hc32 => ?_) (fun hc32 => ?_)
          · skip
            have e33 : (b == 10) = true := (beq_byte b 10).symm.trans hc32
            refine wc_exit ?_
            refine wq_in_other rfl ?_
            refine wq_in_other rfl ?_
            refine wq_then_exit ?_
            refine wq_then_exit ?_
            refine wq_in_here ?_
            refine wq_then ?_
            refine wc_seq ?_
            refine wc_region ?_
            refine wl_go rfl (wo_val rfl (rv_assign rfl) rfl rfl ?_)
            refine wl_nil ?_
            refine wq_then ?_
            refine wc_ret ?_
            refine wq_scope_ret ?_
            refine wq_ret1 rfl rfl (rr_tmp rfl) (fun w9 hs9 => ?_)
            rw [patN_none r k hp (by rw [hdr]; exact pat_nl _ _ (by simp [e33]))]
            exact ⟨rfl, hs9.below rfl⟩
          · skip
            have e33 : (b == 10) = false := (beq_byte b 10).symm.trans hc32
            refine wc_skip ?_
            refine wq_in_normal ?_
            refine wq_in_normal ?_
            refine wq_then ?_
            refine wc_region ?_
            refine wl_go rfl (wo_val rfl (rv_move rfl) rfl rfl ?_)
            refine wl_go rfl (wo_val rfl (rv_add rfl rfl (by omega)) rfl rfl ?_)
            refine wl_go rfl (wo_val rfl (rv_assign rfl) rfl rfl ?_)
            refine wl_nil ?_
            refine wq_round ⟨_, _, ⟨k + 1, _, by omega, ?_, rfl, rfl, rfl⟩, by omega, by repeat (first | exact sub_nil | refine sub_cons rfl ?_)⟩
            rw [hp, hdr, pat_plain _ _ e13 e17 e32 e33, Option.map_map]
            congr 1
            funext x
            simp only [Function.comp_def]
            omega
  · simp only [decide_eq_true_eq, decide_eq_false_iff_not, Bool.not_eq_true', Bool.not_eq_false', bne_iff_ne, beq_iff_eq, bne_eq_false_iff_eq, beq_eq_false_iff_ne, Int.not_lt, Int.not_le] at hc7
    rw [List.length_cons] at hc7
    refine wc_exit ?_
    refine wq_then_exit ?_
    refine wq_then_exit ?_
    refine wq_in_here ?_
    refine wq_then ?_
    refine wc_seq ?_
    refine wc_region ?_
    refine wl_go rfl (wo_val rfl (rv_assign rfl) rfl rfl ?_)
    refine wl_nil ?_
    refine wq_then ?_
    refine wc_ret ?_
    refine wq_scope_ret ?_
    refine wq_ret1 rfl rfl (rr_tmp rfl) (fun w9 hs9 => ?_)
    rw [patN_none r k hp (pat_end r k (by omega))]
    exact ⟨rfl, hs9.below rfl⟩
end Go.Proofs.YtlaolodnnjcgdaaDoor.Wd
