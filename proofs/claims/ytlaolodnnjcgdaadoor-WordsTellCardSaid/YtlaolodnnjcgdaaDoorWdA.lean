/- The walks of words: letter, digit, while, pattern, skip, first. -/
import Derived.Test.YtlaolodnnjcgdaaDoorGwB
import Derived.Test.YtlaolodnnjcgdaaDoorGwTy
import Derived.Test.YtlaolodnnjcgdaaDoorWdP
import Derived.Test.YtlaolodnnjcgdaaDoorShelf
import Derived.Shelf.Abstract
namespace Go.Proofs.YtlaolodnnjcgdaaDoor.Wd
open Go Go.RowKit Gw Go.Shelf
theorem or32 (b : UInt8) : (((b.toNat : Int) == 95) || (decide (97 ≤ bits .or .u8 (b.toNat : Int) 32) && decide (bits .or .u8 (b.toNat : Int) 32 ≤ 122))) = isL b := by
  have key : ∀ n : Fin 256, (((n.val : Int) == 95) || (decide (97 ≤ bits .or .u8 (n.val : Int) 32) && decide (bits .or .u8 (n.val : Int) 32 ≤ 122))) = isL (UInt8.ofNat n.val) := by decide +kernel
  have := key ⟨b.toNat, b.toNat_lt⟩
  simpa using this
theorem wletter_calls (b : UInt8) (w : World) : Calls Tryd.prog 26 #[.int .u8 (b.toNat : Int)] w fun e w' => e = .returned (.bool (isL b)) ∧ Below w.heap.size w w' := by
  rw [← or32]
  refine calls_start Tryd.func26 rfl (N := 15) rfl rfl _ (St.start _) rfl ?_
  refine wc_seq ?_
  refine wc_region ?_
  refine wl_go rfl (wo_val rfl (rv_assign rfl) rfl rfl ?_)
  refine wl_nil ?_
  refine wq_then ?_
  refine wc_seq ?_
  refine wc_region ?_
  refine wl_go rfl (wo_val rfl (rv_move rfl) rfl rfl ?_)
  refine wl_go rfl (wo_val rfl (rv_cmp_i rfl rfl rfl) rfl rfl ?_)
  refine wl_go rfl (wo_val rfl (rv_move rfl) rfl rfl ?_)
  refine wl_split (d := 5) rfl true (fun hg1_2 => ?_) (fun hg1_2 => ?_)
  · skip
    refine wl_skip rfl rfl rfl rfl rfl hg1_2 rfl ?_
    refine wl_skip rfl rfl rfl rfl rfl hg1_2 rfl ?_
    refine wl_skip rfl rfl rfl rfl rfl hg1_2 rfl ?_
    refine wl_skip rfl rfl rfl rfl rfl hg1_2 rfl ?_
    refine wl_skip_u rfl rfl rfl rfl rfl rfl ?_
    refine wl_skip_u rfl rfl rfl rfl rfl rfl ?_
    refine wl_skip_u rfl rfl rfl rfl rfl rfl ?_
    refine wl_skip rfl rfl rfl rfl rfl hg1_2 rfl ?_
    refine wl_go rfl (wo_val rfl (rv_pick_t rfl hg1_2 rfl) rfl rfl ?_)
    refine wl_go rfl (wo_val rfl (rv_assign rfl) rfl rfl ?_)
    refine wl_nil ?_
    refine wq_then ?_
    refine wc_ret ?_
    refine wq_ret1 rfl rfl (rr_tmp rfl) (fun w9 hs9 => ?_)
    exact ⟨(by simp only [*, Bool.not_true, Bool.not_false, Bool.or_false, Bool.false_or, Bool.and_false, Bool.false_and, Bool.and_true, Bool.true_and, Bool.or_true, Bool.true_or]), hs9.below rfl⟩
  · skip
    refine wl_want rfl rfl rfl rfl rfl hg1_2 (wo_val rfl (rv_move rfl) rfl rfl ?_)
    refine wl_want rfl rfl rfl rfl rfl hg1_2 (wo_val rfl (rv_bits (by simp) rfl rfl) rfl rfl ?_)
    refine wl_want rfl rfl rfl rfl rfl hg1_2 (wo_val rfl (rv_cmp_i rfl rfl rfl) rfl rfl ?_)
    refine wl_want rfl rfl rfl rfl rfl hg1_2 (wo_val rfl (rv_move rfl) rfl rfl ?_)
    refine wl_split (d := 9) rfl true (fun hg1_6 => ?_) (fun hg1_6 => ?_)
    · skip
      refine wl_want rfl rfl rfl rfl rfl hg1_6 (wo_val rfl (rv_move rfl) rfl rfl ?_)
      refine wl_want rfl rfl rfl rfl rfl hg1_6 (wo_val rfl (rv_bits (by simp) rfl rfl) rfl rfl ?_)
      refine wl_want rfl rfl rfl rfl rfl hg1_6 (wo_val rfl (rv_cmp_i rfl rfl rfl) rfl rfl ?_)
      refine wl_want rfl rfl rfl rfl rfl hg1_2 (wo_val rfl (rv_pick_t rfl hg1_6 rfl) rfl rfl ?_)
      refine wl_go rfl (wo_val rfl (rv_pick_f rfl hg1_2 rfl) rfl rfl ?_)
      refine wl_go rfl (wo_val rfl (rv_assign rfl) rfl rfl ?_)
      refine wl_nil ?_
      refine wq_then ?_
      refine wc_ret ?_
      refine wq_ret1 rfl rfl (rr_tmp rfl) (fun w9 hs9 => ?_)
      exact ⟨(by simp only [*, Bool.not_true, Bool.not_false, Bool.or_false, Bool.false_or, Bool.and_false, Bool.false_and, Bool.and_true, Bool.true_and, Bool.or_true, Bool.true_or]), hs9.below rfl⟩
    · skip
      refine wl_skip rfl rfl rfl rfl rfl hg1_6 rfl ?_
      refine wl_skip rfl rfl rfl rfl rfl hg1_6 rfl ?_
      refine wl_skip rfl rfl rfl rfl rfl hg1_6 rfl ?_
      refine wl_want rfl rfl rfl rfl rfl hg1_2 (wo_val rfl (rv_pick_f rfl hg1_6 rfl) rfl rfl ?_)
      refine wl_go rfl (wo_val rfl (rv_pick_f rfl hg1_2 rfl) rfl rfl ?_)
      refine wl_go rfl (wo_val rfl (rv_assign rfl) rfl rfl ?_)
      refine wl_nil ?_
      refine wq_then ?_
      refine wc_ret ?_
      refine wq_ret1 rfl rfl (rr_tmp rfl) (fun w9 hs9 => ?_)
      exact ⟨(by simp only [*, Bool.not_true, Bool.not_false, Bool.or_false, Bool.false_or, Bool.and_false, Bool.false_and, Bool.and_true, Bool.true_and, Bool.or_true, Bool.true_or]), hs9.below rfl⟩
theorem dig_eq (b : UInt8) : (decide (48 ≤ (b.toNat : Int)) && decide ((b.toNat : Int) ≤ 57)) = isD b := by
  unfold isD
  rw [Bool.eq_iff_iff]
  simp [UInt8.le_iff_toNat_le]
  omega
theorem wdigit_calls (b : UInt8) (w : World) : Calls Tryd.prog 36 #[.int .u8 (b.toNat : Int)] w fun e w' => e = .returned (.bool (isD b)) ∧ Below w.heap.size w w' := by
  rw [← dig_eq]
  refine calls_start Tryd.func36 rfl (N := 9) rfl rfl _ (St.start _) rfl ?_
  refine wc_seq ?_
  refine wc_region ?_
  refine wl_go rfl (wo_val rfl (rv_assign rfl) rfl rfl ?_)
  refine wl_nil ?_
  refine wq_then ?_
  refine wc_seq ?_
  refine wc_region ?_
  refine wl_go rfl (wo_val rfl (rv_move rfl) rfl rfl ?_)
  refine wl_go rfl (wo_val rfl (rv_cmp_i rfl rfl rfl) rfl rfl ?_)
  refine wl_go rfl (wo_val rfl (rv_move rfl) rfl rfl ?_)
  refine wl_split (d := 5) rfl true (fun hg1_2 => ?_) (fun hg1_2 => ?_)
  · skip
    refine wl_want rfl rfl rfl rfl rfl hg1_2 (wo_val rfl (rv_move rfl) rfl rfl ?_)
    refine wl_want rfl rfl rfl rfl rfl hg1_2 (wo_val rfl (rv_cmp_i rfl rfl rfl) rfl rfl ?_)
    refine wl_go rfl (wo_val rfl (rv_pick_t rfl hg1_2 rfl) rfl rfl ?_)
    refine wl_go rfl (wo_val rfl (rv_assign rfl) rfl rfl ?_)
    refine wl_nil ?_
    refine wq_then ?_
    refine wc_ret ?_
    refine wq_ret1 rfl rfl (rr_tmp rfl) (fun w9 hs9 => ?_)
    exact ⟨(by simp only [*, Bool.not_true, Bool.not_false, Bool.or_false, Bool.false_or, Bool.and_false, Bool.false_and, Bool.and_true, Bool.true_and, Bool.or_true, Bool.true_or]), hs9.below rfl⟩
  · skip
    refine wl_skip rfl rfl rfl rfl rfl hg1_2 rfl ?_
    refine wl_skip rfl rfl rfl rfl rfl hg1_2 rfl ?_
    refine wl_go rfl (wo_val rfl (rv_pick_f rfl hg1_2 rfl) rfl rfl ?_)
    refine wl_go rfl (wo_val rfl (rv_assign rfl) rfl rfl ?_)
    refine wl_nil ?_
    refine wq_then ?_
    refine wc_ret ?_
    refine wq_ret1 rfl rfl (rr_tmp rfl) (fun w9 hs9 => ?_)
    exact ⟨(by simp only [*, Bool.not_true, Bool.not_false, Bool.or_false, Bool.false_or, Bool.and_false, Bool.false_and, Bool.and_true, Bool.true_and, Bool.or_true, Bool.true_or]), hs9.below rfl⟩
theorem wname_calls (b : UInt8) (w : World) : Calls Tryd.prog 35 #[.int .u8 (b.toNat : Int)] w fun e w' => e = .returned (.bool (isN b)) ∧ Below w.heap.size w w' := by
  refine calls_start Tryd.func35 rfl (N := 9) rfl rfl _ (St.start _) rfl ?_
  refine wc_seq ?_
  refine wc_region ?_
  refine wl_go rfl (wo_val rfl (rv_assign rfl) rfl rfl ?_)
  refine wl_nil ?_
  refine wq_then ?_
  refine wc_seq ?_
  refine wc_region ?_
  refine wl_go rfl (wo_val rfl (rv_move rfl) rfl rfl ?_)
  refine wl_go rfl (wo_call (R := fun _ v _ => v = _) rfl rfl (enters_of Tryd.func26 (by kernel_rfl) rfl) rfl rfl rfl (fun w hs => (wletter_calls b _).mono fun e w' h => ⟨_, h.1, rfl, h.2⟩) (fun w2 v w3 hs2 hv hb2 hm2 => ?_))
  subst hv
  refine wl_go rfl (wo_val rfl (rv_move rfl) rfl rfl ?_)
  refine wl_split (d := 5) rfl true (fun hg1_2 => ?_) (fun hg1_2 => ?_)
  · skip
    refine wl_skip rfl rfl rfl rfl rfl hg1_2 rfl ?_
    refine wl_skip rfl rfl rfl rfl rfl hg1_2 rfl ?_
    refine wl_go rfl (wo_val rfl (rv_pick_t rfl hg1_2 rfl) rfl rfl ?_)
    refine wl_go rfl (wo_val rfl (rv_assign rfl) rfl rfl ?_)
    refine wl_nil ?_
    refine wq_then ?_
    refine wc_ret ?_
    refine wq_ret1 rfl rfl (rr_tmp rfl) (fun w9 hs9 => ?_)
    unfold isN
    exact ⟨(by simp only [*, Bool.not_true, Bool.not_false, Bool.or_false, Bool.false_or, Bool.and_false, Bool.false_and, Bool.and_true, Bool.true_and, Bool.or_true, Bool.true_or]), hs9.below rfl⟩
  · skip
    refine wl_want rfl rfl rfl rfl rfl hg1_2 (wo_val rfl (rv_move rfl) rfl rfl ?_)
    refine wl_want rfl rfl rfl rfl rfl hg1_2 (wo_call (R := fun _ v _ => v = _) rfl rfl (enters_of Tryd.func36 (by kernel_rfl) rfl) rfl rfl rfl (fun w hs => (wdigit_calls b _).mono fun e w' h => ⟨_, h.1, rfl, h.2⟩) (fun w2b vb w3b hs2b hv hb2b hm2b => ?_))
    subst hv
    refine wl_go rfl (wo_val rfl (rv_pick_f rfl hg1_2 rfl) rfl rfl ?_)
    refine wl_go rfl (wo_val rfl (rv_assign rfl) rfl rfl ?_)
    refine wl_nil ?_
    refine wq_then ?_
    refine wc_ret ?_
    refine wq_ret1 rfl rfl (rr_tmp rfl) (fun w9 hs9 => ?_)
    unfold isN
    exact ⟨(by simp only [*, Bool.not_true, Bool.not_false, Bool.or_false, Bool.false_or, Bool.and_false, Bool.false_and, Bool.and_true, Bool.true_and, Bool.or_true, Bool.true_or]), hs9.below rfl⟩
theorem take_while_at (p : UInt8 → Bool) (s : Bs) (k : Nat) (b : UInt8) (hb : s[k]? = some b) (h : ∀ (j : Nat) c, j < k → s[j]? = some c → p c = true) (hp : p b = false) : s.takeWhile p = s.take k := by
  induction s generalizing k with
  | nil => simp at hb
  | cons c r ih =>
    cases k with
    | zero => simp at hb; subst hb; simp [hp]
    | succ k =>
      have h0 := h 0 c (by omega) rfl
      rw [List.takeWhile_cons, if_pos h0, List.take_succ_cons]
      rw [ih k (by simpa using hb) (fun j c hj hc => h (j + 1) c (by omega) (by simpa using hc))]
theorem take_while_all (p : UInt8 → Bool) (s : Bs) (h : ∀ (j : Nat) c, s[j]? = some c → p c = true) : s.takeWhile p = s := by
  induction s with
  | nil => rfl
  | cons c r ih => rw [List.takeWhile_cons, if_pos (h 0 c rfl), ih (fun j c hc => h (j + 1) c (by simpa using hc))]
theorem while_calls (s : Bs) (hs : s.length ≤ 4611686018427387904) (f : Nat) (p : UInt8 → Bool) (he : ∀ args w, (callFunc f args).run Tryd.prog w = .ok (.enter f args) w) (hp : ∀ (c : UInt8) w, Calls Tryd.prog f #[.int .u8 (c.toNat : Int)] w fun e w' => e = .returned (.bool (p c)) ∧ Below w.heap.size w w') (w : World) :
    Calls Tryd.prog 37 #[.string (toB s), .func (.func f) #[] #[]] w fun e w' => e = .returned (.string (toB (s.takeWhile p))) ∧ Below w.heap.size w w' := by
  refine calls_start Tryd.func37 rfl (N := 22) rfl rfl _ (St.start _) rfl ?_
  refine wc_seq ?_
  refine wc_region ?_
  refine wl_go rfl (wo_val rfl (rv_assign rfl) rfl rfl ?_)
  refine wl_nil ?_
  refine wq_then ?_
  refine wc_seq ?_
  refine wc_seq ?_
  refine wc_region ?_
  refine wl_go rfl (wo_val rfl (rv_move rfl) rfl rfl ?_)
  refine wl_go rfl (wo_val rfl (rb_len rfl) rfl rfl ?_)
  refine wl_go rfl (wo_val rfl (rv_move rfl) rfl rfl ?_)
  refine wl_nil ?_
  refine wq_then ?_
  refine wc_block ?_
  refine wc_loop (fun m l S => ∃ (k : Nat) (w1 : World), k ≤ s.length ∧ (∀ j c, j < k → s[j]? = some c → p c = true) ∧ m = s.length - k ∧ l = [(0, .string (toB s)), (1, .func (.func f) #[] #[]), (7, .int .i64 s.length), (8, .int .i64 k)] ∧ S = ⟨w, G0, w1, []⟩) ⟨_, _, ⟨0, w, Nat.zero_le _, fun j _ hj => absurd hj (by omega), rfl, rfl, rfl⟩, by repeat (first | exact sub_nil | refine sub_cons rfl ?_)⟩ ?_
  intro m l S hJ
  obtain ⟨k, w1, hk, hall, rfl, rfl, rfl⟩ := hJ
  refine wc_seq ?_
  refine wc_region ?_
  refine wl_go rfl (wo_val rfl (rv_cmp_i rfl rfl rfl) rfl rfl ?_)
  refine wl_nil ?_
  refine wq_then ?_
  refine wc_seq ?_
  refine wc_cond rfl (fun hc9 => ?_) (fun hc9 => ?_)
  · simp only [decide_eq_true_eq, decide_eq_false_iff_not, Bool.not_eq_true', Bool.not_eq_false', bne_iff_ne, beq_iff_eq, bne_eq_false_iff_eq, beq_eq_false_iff_ne, Int.not_lt, Int.not_le] at hc9
    obtain ⟨b, hb⟩ : ∃ b, s[k]? = some b := ⟨_, List.getElem?_eq_getElem (by omega)⟩
    refine wc_skip ?_
    refine wq_then ?_
    refine wc_seq ?_
    refine wc_block ?_
    refine wc_seq ?_
    refine wc_region ?_
    refine wl_go rfl (wo_val rfl (rv_move rfl) rfl rfl ?_)
    refine wl_go rfl (wo_val rfl (rv_assign rfl) rfl rfl ?_)
    refine wl_nil ?_
    refine wq_then ?_
    refine wc_seq ?_
    refine wc_region ?_
    refine wl_go rfl (wo_val rfl (rv_move rfl) rfl rfl ?_)
    refine wl_go rfl (wo_val rfl (rv_move rfl) rfl rfl ?_)
    refine wl_go rfl (wo_val rfl (rv_move rfl) rfl rfl ?_)
    refine wl_go rfl (wo_val rfl (rb_index rfl rfl (by omega) hb) rfl rfl ?_)
    refine wl_go rfl (wo_call (R := fun _ v _ => v = _) rfl rfl he rfl rfl rfl (fun w hs => (hp b _).mono fun e w' h => ⟨_, h.1, rfl, h.2⟩) (fun w2 v w3 hs2 hv hb2 hm2 => ?_))
    subst hv
    refine wl_go rfl (wo_val rfl (rv_not rfl) rfl rfl ?_)
    refine wl_nil ?_
    refine wq_then ?_
    refine wc_cond rfl (fun hc16 => ?_) (fun hc16 => ?_)
    · simp only [decide_eq_true_eq, decide_eq_false_iff_not, Bool.not_eq_true', Bool.not_eq_false', bne_iff_ne, beq_iff_eq, bne_eq_false_iff_eq, beq_eq_false_iff_ne, Int.not_lt, Int.not_le] at hc16
      refine wc_seq ?_
      refine wc_region ?_
      refine wl_go rfl (wo_val rfl (rv_move rfl) rfl rfl ?_)
      refine wl_go rfl (wo_val rfl (rv_move rfl) rfl rfl ?_)
      refine wl_go rfl (wo_val rfl (rb_slice_to rfl rfl (by omega)) rfl rfl ?_)
      refine wl_go rfl (wo_val rfl (rv_assign rfl) rfl rfl ?_)
      refine wl_nil ?_
      refine wq_then ?_
      refine wc_ret ?_
      refine wq_in_ret ?_
      refine wq_then_ret ?_
      refine wq_then_ret ?_
      refine wq_in_ret ?_
      refine wq_then_ret ?_
      refine wq_ret1 rfl rfl (rr_tmp rfl) (fun w9 hs9 => ?_)
      rw [take_while_at p s k b hb hall hc16]
      exact ⟨rfl, hs9.below rfl⟩
    · simp only [decide_eq_true_eq, decide_eq_false_iff_not, Bool.not_eq_true', Bool.not_eq_false', bne_iff_ne, beq_iff_eq, bne_eq_false_iff_eq, beq_eq_false_iff_ne, Int.not_lt, Int.not_le] at hc16
      refine wc_skip ?_
      refine wq_in_normal ?_
      refine wq_then ?_
      refine wc_region ?_
      refine wl_go rfl (wo_val rfl (rv_add rfl rfl (by omega)) rfl rfl ?_)
      refine wl_go rfl (wo_val rfl (rv_move rfl) rfl rfl ?_)
      refine wl_nil ?_
      refine wq_round ⟨_, _, ⟨k + 1, _, by omega, ?_, rfl, rfl, rfl⟩, by omega, by repeat (first | exact sub_nil | refine sub_cons rfl ?_)⟩
      intro j c hj hc
      by_cases h : j < k
      · exact hall j c h hc
      · obtain rfl : j = k := by omega
        rw [hb] at hc
        cases hc
        exact hc16
  · simp only [decide_eq_true_eq, decide_eq_false_iff_not, Bool.not_eq_true', Bool.not_eq_false', bne_iff_ne, beq_iff_eq, bne_eq_false_iff_eq, beq_eq_false_iff_ne, Int.not_lt, Int.not_le] at hc9
    refine wc_exit ?_
    refine wq_then_exit ?_
    refine wq_then_exit ?_
    refine wq_in_here ?_
    refine wq_then ?_
    refine wc_seq ?_
    refine wc_region ?_
    refine wl_go rfl (wo_val rfl (rv_move rfl) rfl rfl ?_)
    refine wl_go rfl (wo_val rfl (rv_assign rfl) rfl rfl ?_)
    refine wl_nil ?_
    refine wq_then ?_
    refine wc_ret ?_
    refine wq_ret1 rfl rfl (rr_tmp rfl) (fun w9 hs9 => ?_)
    rw [take_while_all p s (fun j c hc => hall j c (by have := (List.getElem?_eq_some_iff.1 hc).1; omega) hc)]
    exact ⟨rfl, hs9.below rfl⟩
end Go.Proofs.YtlaolodnnjcgdaaDoor.Wd
