/- The walks of the reference's words: letter, digit, skip, run, slash. -/
import Derived.Test.YtlaolodnnjcgdaaDoorWdG
namespace Go.Proofs.YtlaolodnnjcgdaaDoor.Wd
open Go Go.RowKit Gw Go.Shelf
theorem refL (b : UInt8) : (((decide (97 ≤ (b.toNat : Int)) && decide ((b.toNat : Int) ≤ 122)) || (decide (65 ≤ (b.toNat : Int)) && decide ((b.toNat : Int) ≤ 90))) || ((b.toNat : Int) == 95)) = isL b := by
  have key : ∀ n : Fin 256, (((decide (97 ≤ (n.val : Int)) && decide ((n.val : Int) ≤ 122)) || (decide (65 ≤ (n.val : Int)) && decide ((n.val : Int) ≤ 90))) || ((n.val : Int) == 95)) = isL (UInt8.ofNat n.val) := by decide +kernel
  have := key ⟨b.toNat, b.toNat_lt⟩
  simpa using this
theorem rletter_calls (b : UInt8) (w : World) : Calls Tryd.prog 20 #[.int .u8 (b.toNat : Int)] w fun e w' => e = .returned (.bool (isL b)) ∧ Below w.heap.size w w' := by
  rw [← refL]
  refine calls_start Tryd.func20 rfl (N := 21) rfl rfl _ (St.start _) rfl ?_
  refine wc_seq ?_
  refine wc_region ?_
  refine wl_go rfl (wo_val rfl (rv_assign rfl) rfl rfl ?_)
  refine wl_nil ?_
  refine wq_then ?_
  refine wc_seq ?_
  refine wc_region ?_
  refine wl_go rfl (wo_val rfl (rv_move rfl) rfl rfl ?_)
  refine wl_go rfl (wo_val rfl (rv_cmp_i rfl rfl rfl) rfl rfl ?_)
  refine wl_go rfl (wo_val rfl (rv_move rfl) rfl rfl ?_)
  refine wl_split (d := 5) rfl true (fun hg1_2 => ?_) (fun hg1_2 => ?_)
  · skip
    refine wl_want rfl rfl rfl rfl rfl hg1_2 (wo_val rfl (rv_move rfl) rfl rfl ?_)
    refine wl_want rfl rfl rfl rfl rfl hg1_2 (wo_val rfl (rv_cmp_i rfl rfl rfl) rfl rfl ?_)
    refine wl_go rfl (wo_val rfl (rv_pick_t rfl hg1_2 rfl) rfl rfl ?_)
    refine wl_go rfl (wo_val rfl (rv_move rfl) rfl rfl ?_)
    refine wl_split (d := 9) rfl true (fun hg1_6 => ?_) (fun hg1_6 => ?_)
    · skip
      refine wl_skip rfl rfl rfl rfl rfl hg1_6 rfl ?_
      refine wl_skip rfl rfl rfl rfl rfl hg1_6 rfl ?_
      refine wl_skip rfl rfl rfl rfl rfl hg1_6 rfl ?_
      refine wl_skip_u rfl rfl rfl rfl rfl rfl ?_
      refine wl_skip_u rfl rfl rfl rfl rfl rfl ?_
      refine wl_skip rfl rfl rfl rfl rfl hg1_6 rfl ?_
      refine wl_go rfl (wo_val rfl (rv_pick_t rfl hg1_6 rfl) rfl rfl ?_)
      refine wl_go rfl (wo_val rfl (rv_move rfl) rfl rfl ?_)
      refine wl_skip rfl rfl rfl rfl rfl rfl rfl ?_
      refine wl_skip rfl rfl rfl rfl rfl rfl rfl ?_
      refine wl_go rfl (wo_val rfl (rv_pick_t rfl rfl rfl) rfl rfl ?_)
      refine wl_go rfl (wo_val rfl (rv_assign rfl) rfl rfl ?_)
      refine wl_nil ?_
      refine wq_then ?_
      refine wc_ret ?_
      refine wq_ret1 rfl rfl (rr_tmp rfl) (fun w9 hs9 => ?_)
      exact ⟨(by simp only [*, Bool.not_true, Bool.not_false, Bool.or_false, Bool.false_or, Bool.and_false, Bool.false_and, Bool.and_true, Bool.true_and, Bool.or_true, Bool.true_or]), hs9.below rfl⟩
    · skip
      refine wl_want rfl rfl rfl rfl rfl hg1_6 (wo_val rfl (rv_move rfl) rfl rfl ?_)
      refine wl_want rfl rfl rfl rfl rfl hg1_6 (wo_val rfl (rv_cmp_i rfl rfl rfl) rfl rfl ?_)
      refine wl_want rfl rfl rfl rfl rfl hg1_6 (wo_val rfl (rv_move rfl) rfl rfl ?_)
      refine wl_split (d := 12) rfl true (fun hg1_9 => ?_) (fun hg1_9 => ?_)
      · skip
        refine wl_want rfl rfl rfl rfl rfl hg1_9 (wo_val rfl (rv_move rfl) rfl rfl ?_)
        refine wl_want rfl rfl rfl rfl rfl hg1_9 (wo_val rfl (rv_cmp_i rfl rfl rfl) rfl rfl ?_)
        refine wl_want rfl rfl rfl rfl rfl hg1_6 (wo_val rfl (rv_pick_t rfl hg1_9 rfl) rfl rfl ?_)
        refine wl_go rfl (wo_val rfl (rv_pick_f rfl hg1_6 rfl) rfl rfl ?_)
        refine wl_go rfl (wo_val rfl (rv_move rfl) rfl rfl ?_)
        refine wl_split (d := 17) rfl true (fun hg1_14 => ?_) (fun hg1_14 => ?_)
        · skip
          refine wl_skip rfl rfl rfl rfl rfl hg1_14 rfl ?_
          refine wl_skip rfl rfl rfl rfl rfl hg1_14 rfl ?_
          refine wl_go rfl (wo_val rfl (rv_pick_t rfl hg1_14 rfl) rfl rfl ?_)
          refine wl_go rfl (wo_val rfl (rv_assign rfl) rfl rfl ?_)
          refine wl_nil ?_
          refine wq_then ?_
          refine wc_ret ?_
          refine wq_ret1 rfl rfl (rr_tmp rfl) (fun w9 hs9 => ?_)
          exact ⟨(by simp only [*, Bool.not_true, Bool.not_false, Bool.or_false, Bool.false_or, Bool.and_false, Bool.false_and, Bool.and_true, Bool.true_and, Bool.or_true, Bool.true_or]), hs9.below rfl⟩
        · skip
          refine wl_want rfl rfl rfl rfl rfl hg1_14 (wo_val rfl (rv_move rfl) rfl rfl ?_)
          refine wl_want rfl rfl rfl rfl rfl hg1_14 (wo_val rfl (rv_cmp_i rfl rfl rfl) rfl rfl ?_)
          refine wl_go rfl (wo_val rfl (rv_pick_f rfl hg1_14 rfl) rfl rfl ?_)
          refine wl_go rfl (wo_val rfl (rv_assign rfl) rfl rfl ?_)
          refine wl_nil ?_
          refine wq_then ?_
          refine wc_ret ?_
          refine wq_ret1 rfl rfl (rr_tmp rfl) (fun w9 hs9 => ?_)
          exact ⟨(by simp only [*, Bool.not_true, Bool.not_false, Bool.or_false, Bool.false_or, Bool.and_false, Bool.false_and, Bool.and_true, Bool.true_and, Bool.or_true, Bool.true_or]), hs9.below rfl⟩
      · skip
        refine wl_skip rfl rfl rfl rfl rfl hg1_9 rfl ?_
        refine wl_skip rfl rfl rfl rfl rfl hg1_9 rfl ?_
        refine wl_want rfl rfl rfl rfl rfl hg1_6 (wo_val rfl (rv_pick_f rfl hg1_9 rfl) rfl rfl ?_)
        refine wl_go rfl (wo_val rfl (rv_pick_f rfl hg1_6 rfl) rfl rfl ?_)
        refine wl_go rfl (wo_val rfl (rv_move rfl) rfl rfl ?_)
        refine wl_want rfl rfl rfl rfl rfl rfl (wo_val rfl (rv_move rfl) rfl rfl ?_)
        refine wl_want rfl rfl rfl rfl rfl rfl (wo_val rfl (rv_cmp_i rfl rfl rfl) rfl rfl ?_)
        refine wl_go rfl (wo_val rfl (rv_pick_f rfl rfl rfl) rfl rfl ?_)
        refine wl_go rfl (wo_val rfl (rv_assign rfl) rfl rfl ?_)
        refine wl_nil ?_
        refine wq_then ?_
        refine wc_ret ?_
        refine wq_ret1 rfl rfl (rr_tmp rfl) (fun w9 hs9 => ?_)
        exact ⟨(by simp only [*, Bool.not_true, Bool.not_false, Bool.or_false, Bool.false_or, Bool.and_false, Bool.false_and, Bool.and_true, Bool.true_and, Bool.or_true, Bool.true_or]), hs9.below rfl⟩
  · skip
    refine wl_skip rfl rfl rfl rfl rfl hg1_2 rfl ?_
    refine wl_skip rfl rfl rfl rfl rfl hg1_2 rfl ?_
    refine wl_go rfl (wo_val rfl (rv_pick_f rfl hg1_2 rfl) rfl rfl ?_)
    refine wl_go rfl (wo_val rfl (rv_move rfl) rfl rfl ?_)
    refine wl_want rfl rfl rfl rfl rfl rfl (wo_val rfl (rv_move rfl) rfl rfl ?_)
    refine wl_want rfl rfl rfl rfl rfl rfl (wo_val rfl (rv_cmp_i rfl rfl rfl) rfl rfl ?_)
    refine wl_want rfl rfl rfl rfl rfl rfl (wo_val rfl (rv_move rfl) rfl rfl ?_)
    refine wl_split (d := 12) rfl true (fun hg1_9 => ?_) (fun hg1_9 => ?_)
    · skip
      refine wl_want rfl rfl rfl rfl rfl hg1_9 (wo_val rfl (rv_move rfl) rfl rfl ?_)
      refine wl_want rfl rfl rfl rfl rfl hg1_9 (wo_val rfl (rv_cmp_i rfl rfl rfl) rfl rfl ?_)
      refine wl_want rfl rfl rfl rfl rfl rfl (wo_val rfl (rv_pick_t rfl hg1_9 rfl) rfl rfl ?_)
      refine wl_go rfl (wo_val rfl (rv_pick_f rfl rfl rfl) rfl rfl ?_)
      refine wl_go rfl (wo_val rfl (rv_move rfl) rfl rfl ?_)
      refine wl_split (d := 17) rfl true (fun hg1_14 => ?_) (fun hg1_14 => ?_)
      · skip
        refine wl_skip rfl rfl rfl rfl rfl hg1_14 rfl ?_
        refine wl_skip rfl rfl rfl rfl rfl hg1_14 rfl ?_
        refine wl_go rfl (wo_val rfl (rv_pick_t rfl hg1_14 rfl) rfl rfl ?_)
        refine wl_go rfl (wo_val rfl (rv_assign rfl) rfl rfl ?_)
        refine wl_nil ?_
        refine wq_then ?_
        refine wc_ret ?_
        refine wq_ret1 rfl rfl (rr_tmp rfl) (fun w9 hs9 => ?_)
        exact ⟨(by simp only [*, Bool.not_true, Bool.not_false, Bool.or_false, Bool.false_or, Bool.and_false, Bool.false_and, Bool.and_true, Bool.true_and, Bool.or_true, Bool.true_or]), hs9.below rfl⟩
      · skip
        refine wl_want rfl rfl rfl rfl rfl hg1_14 (wo_val rfl (rv_move rfl) rfl rfl ?_)
        refine wl_want rfl rfl rfl rfl rfl hg1_14 (wo_val rfl (rv_cmp_i rfl rfl rfl) rfl rfl ?_)
        refine wl_go rfl (wo_val rfl (rv_pick_f rfl hg1_14 rfl) rfl rfl ?_)
        refine wl_go rfl (wo_val rfl (rv_assign rfl) rfl rfl ?_)
        refine wl_nil ?_
        refine wq_then ?_
        refine wc_ret ?_
        refine wq_ret1 rfl rfl (rr_tmp rfl) (fun w9 hs9 => ?_)
        exact ⟨(by simp only [*, Bool.not_true, Bool.not_false, Bool.or_false, Bool.false_or, Bool.and_false, Bool.false_and, Bool.and_true, Bool.true_and, Bool.or_true, Bool.true_or]), hs9.below rfl⟩
    · skip
      refine wl_skip rfl rfl rfl rfl rfl hg1_9 rfl ?_
      refine wl_skip rfl rfl rfl rfl rfl hg1_9 rfl ?_
      refine wl_want rfl rfl rfl rfl rfl rfl (wo_val rfl (rv_pick_f rfl hg1_9 rfl) rfl rfl ?_)
      refine wl_go rfl (wo_val rfl (rv_pick_f rfl rfl rfl) rfl rfl ?_)
      refine wl_go rfl (wo_val rfl (rv_move rfl) rfl rfl ?_)
      refine wl_want rfl rfl rfl rfl rfl rfl (wo_val rfl (rv_move rfl) rfl rfl ?_)
      refine wl_want rfl rfl rfl rfl rfl rfl (wo_val rfl (rv_cmp_i rfl rfl rfl) rfl rfl ?_)
      refine wl_go rfl (wo_val rfl (rv_pick_f rfl rfl rfl) rfl rfl ?_)
      refine wl_go rfl (wo_val rfl (rv_assign rfl) rfl rfl ?_)
      refine wl_nil ?_
      refine wq_then ?_
      refine wc_ret ?_
      refine wq_ret1 rfl rfl (rr_tmp rfl) (fun w9 hs9 => ?_)
      exact ⟨(by simp only [*, Bool.not_true, Bool.not_false, Bool.or_false, Bool.false_or, Bool.and_false, Bool.false_and, Bool.and_true, Bool.true_and, Bool.or_true, Bool.true_or]), hs9.below rfl⟩
theorem rdigit_calls (b : UInt8) (w : World) : Calls Tryd.prog 22 #[.int .u8 (b.toNat : Int)] w fun e w' => e = .returned (.bool (isD b)) ∧ Below w.heap.size w w' := by
  rw [← dig_eq]
  refine calls_start Tryd.func22 rfl (N := 9) rfl rfl _ (St.start _) rfl ?_
  refine wc_seq ?_
  refine wc_region ?_
  refine wl_go rfl (wo_val rfl (rv_assign rfl) rfl rfl ?_)
  refine wl_nil ?_
  refine wq_then ?_
  refine wc_seq ?_
  refine wc_region ?_
  refine wl_go rfl (wo_val rfl (rv_move rfl) rfl rfl ?_)
  refine wl_go rfl (wo_val rfl (rv_cmp_i rfl rfl rfl) rfl rfl ?_)
  refine wl_go rfl (wo_val rfl (rv_move rfl) rfl rfl ?_)
  refine wl_split (d := 5) rfl true (fun hg1_2 => ?_) (fun hg1_2 => ?_)
  · skip
    refine wl_want rfl rfl rfl rfl rfl hg1_2 (wo_val rfl (rv_move rfl) rfl rfl ?_)
    refine wl_want rfl rfl rfl rfl rfl hg1_2 (wo_val rfl (rv_cmp_i rfl rfl rfl) rfl rfl ?_)
    refine wl_go rfl (wo_val rfl (rv_pick_t rfl hg1_2 rfl) rfl rfl ?_)
    refine wl_go rfl (wo_val rfl (rv_assign rfl) rfl rfl ?_)
    refine wl_nil ?_
    refine wq_then ?_
    refine wc_ret ?_
    refine wq_ret1 rfl rfl (rr_tmp rfl) (fun w9 hs9 => ?_)
    exact ⟨(by simp only [*, Bool.not_true, Bool.not_false, Bool.or_false, Bool.false_or, Bool.and_false, Bool.false_and, Bool.and_true, Bool.true_and, Bool.or_true, Bool.true_or]), hs9.below rfl⟩
  · skip
    refine wl_skip rfl rfl rfl rfl rfl hg1_2 rfl ?_
    refine wl_skip rfl rfl rfl rfl rfl hg1_2 rfl ?_
    refine wl_go rfl (wo_val rfl (rv_pick_f rfl hg1_2 rfl) rfl rfl ?_)
    refine wl_go rfl (wo_val rfl (rv_assign rfl) rfl rfl ?_)
    refine wl_nil ?_
    refine wq_then ?_
    refine wc_ret ?_
    refine wq_ret1 rfl rfl (rr_tmp rfl) (fun w9 hs9 => ?_)
    exact ⟨(by simp only [*, Bool.not_true, Bool.not_false, Bool.or_false, Bool.false_or, Bool.and_false, Bool.false_and, Bool.and_true, Bool.true_and, Bool.or_true, Bool.true_or]), hs9.below rfl⟩
def runP (b : Bool) (c : UInt8) : Bool := isD c || (b && isL c)
theorem run_at (p : UInt8 → Bool) (s : Bs) (i k : Nat) (c : UInt8) (hc : (s.drop i)[k]? = some c) (h : ∀ (j : Nat) d, j < k → (s.drop i)[j]? = some d → p d = true) (hp : p c = false) : ((s.drop i).takeWhile p).length = k := by
  have hlt := (List.getElem?_eq_some_iff.1 hc).1
  rw [take_while_at p _ k c hc h hp, List.length_take]
  omega
theorem run_all (p : UInt8 → Bool) (s : Bs) (i k : Nat) (hk : i + k = s.length) (h : ∀ (j : Nat) d, j < k → (s.drop i)[j]? = some d → p d = true) : ((s.drop i).takeWhile p).length = k := by
  rw [take_while_all p _ (fun j d hd => h j d (by have := (List.getElem?_eq_some_iff.1 hd).1; rw [List.length_drop] at this; omega) hd), List.length_drop]
  omega
theorem rrun_calls (s : Bs) (hsz : s.length ≤ 4611686018427387000) (i : Nat) (hi : i ≤ s.length) (b : Bool) (w : World) : Calls Tryd.prog 21 #[.string (toB s), .int .i64 (i : Int), .bool b] w fun e w' => e = .returned (.int .i64 ((i + ((s.drop i).takeWhile (runP b)).length : Nat) : Int)) ∧ Below w.heap.size w w' := by
  refine calls_start Tryd.func21 rfl (N := 29) rfl rfl _ (St.start _) rfl ?_
  refine wc_seq ?_
  refine wc_region ?_
  refine wl_go rfl (wo_val rfl (rv_assign rfl) rfl rfl ?_)
  refine wl_nil ?_
  refine wq_then ?_
  refine wc_seq ?_
  refine wc_block ?_
  refine wc_loop (fun m l S => ∃ (k : Nat) (w1 : World), i + k ≤ s.length ∧ (∀ (j : Nat) d, j < k → (s.drop i)[j]? = some d → runP b d = true) ∧ m = s.length - (i + k) ∧ l = [(0, .string (toB s)), (1, .int .i64 ((i + k : Nat) : Int)), (2, .bool b)] ∧ S = ⟨w, G0, w1, []⟩) ⟨_, _, ⟨0, w, hi, fun j d hj => absurd hj (by omega), rfl, rfl, rfl⟩, by repeat (first | exact sub_nil | refine sub_cons rfl ?_)⟩ ?_
  intro m l S hJ
  obtain ⟨k, w1, hk, hall, rfl, rfl, rfl⟩ := hJ
  refine wc_seq ?_
  refine wc_seq ?_
  refine wc_region ?_
  refine wl_go rfl (wo_val rfl (rv_move rfl) rfl rfl ?_)
  refine wl_go rfl (wo_val rfl (rv_move rfl) rfl rfl ?_)
  refine wl_go rfl (wo_val rfl (rb_len rfl) rfl rfl ?_)
  refine wl_go rfl (wo_val rfl (rv_cmp_i rfl rfl rfl) rfl rfl ?_)
  refine wl_go rfl (wo_val rfl (rv_move rfl) rfl rfl ?_)
  refine wl_split (d := 11) rfl true (fun hg1_4 => ?_) (fun hg1_4 => ?_)
  · skip
    have hlt : i + k < s.length := by have := of_decide_eq_true hg1_4; omega
    obtain ⟨c, hc0⟩ : ∃ c, s[i + k]? = some c := ⟨_, List.getElem?_eq_getElem hlt⟩
    have hcd : (s.drop i)[k]? = some c := by rw [List.getElem?_drop]; exact hc0
    refine wl_want rfl rfl rfl rfl rfl hg1_4 (wo_val rfl (rv_move rfl) rfl rfl ?_)
    refine wl_want rfl rfl rfl rfl rfl hg1_4 (wo_val rfl (rv_move rfl) rfl rfl ?_)
    refine wl_want rfl rfl rfl rfl rfl hg1_4 (wo_val rfl (rb_index rfl rfl (by omega) hc0) rfl rfl ?_)
    refine wl_want rfl rfl rfl rfl rfl hg1_4 (wo_call (R := fun _ v _ => v = _) rfl rfl (enters_of Tryd.func22 (by kernel_rfl) rfl) rfl rfl rfl (fun w hs => (rdigit_calls c _).mono fun e w' h => ⟨_, h.1, rfl, h.2⟩) (fun w2a va w3a hs2a hva hb2a hm2a => ?_))
    subst hva
    refine wl_want rfl rfl rfl rfl rfl hg1_4 (wo_val rfl (rv_move rfl) rfl rfl ?_)
    refine wl_split (d := 16) rfl true (fun hg1_9 => ?_) (fun hg1_9 => ?_)
    · skip
      refine wl_skip rfl rfl rfl rfl rfl hg1_9 rfl ?_
      refine wl_skip rfl rfl rfl rfl rfl hg1_9 rfl ?_
      refine wl_skip_u rfl rfl rfl rfl rfl rfl ?_
      refine wl_skip_u rfl rfl rfl rfl rfl rfl ?_
      refine wl_skip_u rfl rfl rfl rfl rfl rfl ?_
      refine wl_skip_u rfl rfl rfl rfl rfl rfl ?_
      refine wl_skip rfl rfl rfl rfl rfl hg1_9 rfl ?_
      refine wl_want rfl rfl rfl rfl rfl hg1_4 (wo_val rfl (rv_pick_t rfl hg1_9 rfl) rfl rfl ?_)
      refine wl_go rfl (wo_val rfl (rv_pick_t rfl hg1_4 rfl) rfl rfl ?_)
      refine wl_nil ?_
      refine wq_then ?_
      refine wc_cond_t rfl rfl ?_
      refine wc_skip ?_
      refine wq_then ?_
      refine wc_block ?_
      refine wc_region ?_
      refine wl_go rfl (wo_val rfl (rv_move rfl) rfl rfl ?_)
      refine wl_go rfl (wo_val rfl (rv_add rfl rfl (by omega)) rfl rfl ?_)
      refine wl_go rfl (wo_val rfl (rv_assign rfl) rfl rfl ?_)
      refine wl_nil ?_
      refine wq_in_normal ?_
      refine wq_round ⟨_, _, ⟨k + 1, _, by omega, ?_, rfl, by rw [show i + (k + 1) = i + k + 1 by omega], rfl⟩, by omega, by repeat (first | exact sub_nil | refine sub_cons rfl ?_)⟩
      intro j d hj hd
      by_cases h : j < k
      · exact hall j d h hd
      · obtain rfl : j = k := by omega
        rw [hcd] at hd
        cases hd
        unfold runP; rw [hg1_9]; rfl
    · skip
      refine wl_want rfl rfl rfl rfl rfl hg1_9 (wo_val rfl (rv_move rfl) rfl rfl ?_)
      refine wl_want rfl rfl rfl rfl rfl hg1_9 (wo_val rfl (rv_move rfl) rfl rfl ?_)
      refine wl_split (d := 18) rfl true (fun hg1_11 => ?_) (fun hg1_11 => ?_)
      · skip
        refine wl_want rfl rfl rfl rfl rfl hg1_11 (wo_val rfl (rv_move rfl) rfl rfl ?_)
        refine wl_want rfl rfl rfl rfl rfl hg1_11 (wo_val rfl (rv_move rfl) rfl rfl ?_)
        refine wl_want rfl rfl rfl rfl rfl hg1_11 (wo_val rfl (rb_index rfl rfl (by omega) hc0) rfl rfl ?_)
        refine wl_want rfl rfl rfl rfl rfl hg1_11 (wo_call (R := fun _ v _ => v = _) rfl rfl (enters_of Tryd.func20 (by kernel_rfl) rfl) rfl rfl rfl (fun w hs => (rletter_calls c _).mono fun e w' h => ⟨_, h.1, rfl, h.2⟩) (fun w2b vb w3b hs2b hvb hb2b hm2b => ?_))
        subst hvb
        refine wl_want rfl rfl rfl rfl rfl hg1_9 (wo_val rfl (rv_pick_t rfl hg1_11 rfl) rfl rfl ?_)
        refine wl_want rfl rfl rfl rfl rfl hg1_4 (wo_val rfl (rv_pick_f rfl hg1_9 rfl) rfl rfl ?_)
        refine wl_go rfl (wo_val rfl (rv_pick_t rfl hg1_4 rfl) rfl rfl ?_)
        refine wl_nil ?_
        refine wq_then ?_
        refine wc_cond rfl (fun hc25 => ?_) (fun hc25 => ?_)
        · skip
          refine wc_skip ?_
          refine wq_then ?_
          refine wc_block ?_
          refine wc_region ?_
          refine wl_go rfl (wo_val rfl (rv_move rfl) rfl rfl ?_)
          refine wl_go rfl (wo_val rfl (rv_add rfl rfl (by omega)) rfl rfl ?_)
          refine wl_go rfl (wo_val rfl (rv_assign rfl) rfl rfl ?_)
          refine wl_nil ?_
          refine wq_in_normal ?_
          refine wq_round ⟨_, _, ⟨k + 1, _, by omega, ?_, rfl, by rw [show i + (k + 1) = i + k + 1 by omega], rfl⟩, by omega, by repeat (first | exact sub_nil | refine sub_cons rfl ?_)⟩
          intro j d hj hd
          by_cases h : j < k
          · exact hall j d h hd
          · obtain rfl : j = k := by omega
            rw [hcd] at hd
            cases hd
            unfold runP; rw [hg1_11, hc25]; simp
        · skip
          refine wc_exit ?_
          refine wq_then_exit ?_
          refine wq_then_exit ?_
          refine wq_in_here ?_
          refine wq_then ?_
          refine wc_seq ?_
          refine wc_region ?_
          refine wl_go rfl (wo_val rfl (rv_move rfl) rfl rfl ?_)
          refine wl_go rfl (wo_val rfl (rv_assign rfl) rfl rfl ?_)
          refine wl_nil ?_
          refine wq_then ?_
          refine wc_ret ?_
          refine wq_ret1 rfl rfl (rr_tmp rfl) (fun w9 hs9 => ?_)
          have hp : runP b c = false := by unfold runP; rw [hg1_9, hg1_11, hc25]; rfl
          rw [run_at (runP b) s i k c hcd hall hp]
          exact ⟨rfl, hs9.below rfl⟩
      · skip
        refine wl_skip rfl rfl rfl rfl rfl hg1_11 rfl ?_
        refine wl_skip rfl rfl rfl rfl rfl hg1_11 rfl ?_
        refine wl_skip rfl rfl rfl rfl rfl hg1_11 rfl ?_
        refine wl_skip rfl rfl rfl rfl rfl hg1_11 rfl ?_
        refine wl_want rfl rfl rfl rfl rfl hg1_9 (wo_val rfl (rv_pick_f rfl hg1_11 rfl) rfl rfl ?_)
        refine wl_want rfl rfl rfl rfl rfl hg1_4 (wo_val rfl (rv_pick_f rfl hg1_9 rfl) rfl rfl ?_)
        refine wl_go rfl (wo_val rfl (rv_pick_t rfl hg1_4 rfl) rfl rfl ?_)
        refine wl_nil ?_
        refine wq_then ?_
        refine wc_cond_f rfl rfl ?_
        refine wc_exit ?_
        refine wq_then_exit ?_
        refine wq_then_exit ?_
        refine wq_in_here ?_
        refine wq_then ?_
        refine wc_seq ?_
        refine wc_region ?_
        refine wl_go rfl (wo_val rfl (rv_move rfl) rfl rfl ?_)
        refine wl_go rfl (wo_val rfl (rv_assign rfl) rfl rfl ?_)
        refine wl_nil ?_
        refine wq_then ?_
        refine wc_ret ?_
        refine wq_ret1 rfl rfl (rr_tmp rfl) (fun w9 hs9 => ?_)
        have hp : runP b c = false := by unfold runP; rw [hg1_9, hg1_11]; rfl
        rw [run_at (runP b) s i k c hcd hall hp]
        exact ⟨rfl, hs9.below rfl⟩
  · skip
    have hge : s.length ≤ i + k := by have := of_decide_eq_false hg1_4; omega
    refine wl_skip rfl rfl rfl rfl rfl hg1_4 rfl ?_
    refine wl_skip rfl rfl rfl rfl rfl hg1_4 rfl ?_
    refine wl_skip rfl rfl rfl rfl rfl hg1_4 rfl ?_
    refine wl_skip rfl rfl rfl rfl rfl hg1_4 rfl ?_
    refine wl_skip rfl rfl rfl rfl rfl hg1_4 rfl ?_
    refine wl_skip_u rfl rfl rfl rfl rfl rfl ?_
    refine wl_skip_u rfl rfl rfl rfl rfl rfl ?_
    refine wl_skip_u rfl rfl rfl rfl rfl rfl ?_
    refine wl_skip_u rfl rfl rfl rfl rfl rfl ?_
    refine wl_skip_u rfl rfl rfl rfl rfl rfl ?_
    refine wl_skip_u rfl rfl rfl rfl rfl rfl ?_
    refine wl_skip_u rfl rfl rfl rfl rfl rfl ?_
    refine wl_skip rfl rfl rfl rfl rfl hg1_4 rfl ?_
    refine wl_go rfl (wo_val rfl (rv_pick_f rfl hg1_4 rfl) rfl rfl ?_)
    refine wl_nil ?_
    refine wq_then ?_
    refine wc_cond_f rfl rfl ?_
    refine wc_exit ?_
    refine wq_then_exit ?_
    refine wq_then_exit ?_
    refine wq_in_here ?_
    refine wq_then ?_
    refine wc_seq ?_
    refine wc_region ?_
    refine wl_go rfl (wo_val rfl (rv_move rfl) rfl rfl ?_)
    refine wl_go rfl (wo_val rfl (rv_assign rfl) rfl rfl ?_)
    refine wl_nil ?_
    refine wq_then ?_
    refine wc_ret ?_
    refine wq_ret1 rfl rfl (rr_tmp rfl) (fun w9 hs9 => ?_)
    rw [run_all (runP b) s i k (by omega) hall]
    exact ⟨rfl, hs9.below rfl⟩
theorem sk_sp (c : UInt8) (r : Bs) (h : isSp c = true) : sk false (c :: r) = sk false r := by rw [sk, if_pos h]
theorem sk_word (c : UInt8) (r : Bs) (h : isSp c = false) (h2 : (c == 35) = false) : sk false (c :: r) = c :: r := by rw [sk, if_neg (by simp [h]), if_neg (by simp [h2])]
theorem sk_hash (r : Bs) : sk false (35 :: r) = sk true (35 :: r) := by rw [sk, if_neg (by decide), if_pos (by decide), sk, if_neg (by decide)]
theorem sk_in (c : UInt8) (r : Bs) (h : (c == 10) = false) : sk true (c :: r) = sk true r := by rw [sk, if_neg (by simp [h])]
theorem sk_out (r : Bs) : sk true (10 :: r) = sk false (10 :: r) := by rw [sk, if_pos (by decide), sk, if_pos (by decide)]
theorem drop_cons {s : Bs} {k : Nat} {c : UInt8} (h : s[k]? = some c) : s.drop k = c :: s.drop (k + 1) := drop_at h
/-- where it goes on -/
def skI (s : Bs) (i : Nat) : Nat := s.length - (sk false (s.drop i)).length
theorem skI_at {s : Bs} {i k : Nat} {c : UInt8} (h : s[k]? = some c) (h1 : isSp c = false) (h2 : (c == 35) = false) (hk : sk false (s.drop k) = sk false (s.drop i)) : skI s i = k := by
  unfold skI
  rw [← hk, drop_cons h, sk_word c _ h1 h2, ← drop_cons h, List.length_drop]
  have := (List.getElem?_eq_some_iff.1 h).1
  omega
theorem skI_end {s : Bs} {i k : Nat} (hk1 : s.length ≤ k) (hk2 : k ≤ s.length) (hk : sk false (s.drop k) = sk false (s.drop i)) : skI s i = k := by
  unfold skI
  rw [← hk, List.drop_eq_nil_of_le hk1]
  simp [sk]
  omega
theorem skI_le (s : Bs) (i : Nat) : skI s i ≤ s.length := by unfold skI; omega
theorem rskip_calls (s : Bs) (hsz : s.length ≤ 4611686018427387000) (i : Nat) (hi : i ≤ s.length) (w : World) : Calls Tryd.prog 19 #[.string (toB s), .int .i64 (i : Int)] w fun e w' => e = .returned (.int .i64 (skI s i : Int)) ∧ Below w.heap.size w w' := by
  refine calls_start Tryd.func19 rfl (N := 35) rfl rfl _ (St.start _) rfl ?_
  refine wc_seq ?_
  refine wc_region ?_
  refine wl_go rfl (wo_val rfl (rv_assign rfl) rfl rfl ?_)
  refine wl_nil ?_
  refine wq_then ?_
  refine wc_seq ?_
  refine wc_block ?_
  refine wc_loop (fun m l S => ∃ (k : Nat) (w1 : World), k ≤ s.length ∧ sk false (s.drop k) = sk false (s.drop i) ∧ m = s.length - k ∧ l = [(0, .string (toB s)), (1, .int .i64 (k : Int))] ∧ S = ⟨w, G0, w1, []⟩) ⟨_, _, ⟨i, w, hi, rfl, rfl, rfl, rfl⟩, by repeat (first | exact sub_nil | refine sub_cons rfl ?_)⟩ ?_
  intro m l S hJ
  obtain ⟨k, w1, hk, hkk, rfl, rfl, rfl⟩ := hJ
  refine wc_seq ?_
  refine wc_seq ?_
  refine wc_region ?_
  refine wl_go rfl (wo_val rfl (rv_move rfl) rfl rfl ?_)
  refine wl_go rfl (wo_val rfl (rv_move rfl) rfl rfl ?_)
  refine wl_go rfl (wo_val rfl (rb_len rfl) rfl rfl ?_)
  refine wl_go rfl (wo_val rfl (rv_cmp_i rfl rfl rfl) rfl rfl ?_)
  refine wl_nil ?_
  refine wq_then ?_
  refine wc_cond rfl (fun hc8 => ?_) (fun hc8 => ?_)
  · simp only [decide_eq_true_eq, decide_eq_false_iff_not, Bool.not_eq_true', Bool.not_eq_false', bne_iff_ne, beq_iff_eq, bne_eq_false_iff_eq, beq_eq_false_iff_ne, Int.not_lt, Int.not_le] at hc8
    have hlt : k < s.length := by omega
    obtain ⟨c, hc0⟩ : ∃ c, s[k]? = some c := ⟨_, List.getElem?_eq_getElem hlt⟩
    refine wc_skip ?_
    refine wq_then ?_
    refine wc_block ?_
    refine wc_seq ?_
    refine wc_region ?_
    refine wl_go rfl (wo_val rfl (rv_move rfl) rfl rfl ?_)
    refine wl_go rfl (wo_val rfl (rv_move rfl) rfl rfl ?_)
    refine wl_go rfl (wo_val rfl (rb_index rfl rfl (by omega) hc0) rfl rfl ?_)
    refine wl_nil ?_
    refine wq_then ?_
    refine wc_block ?_
    refine wc_seq ?_
    refine wc_seq ?_
    refine wc_region ?_
    refine wl_go rfl (wo_val rfl (rv_cmp_i rfl rfl rfl) rfl rfl ?_)
    refine wl_go rfl (wo_val rfl (rv_assign rfl) rfl rfl ?_)
    refine wl_nil ?_
    refine wq_then ?_
    refine wc_cond rfl (fun hca => ?_) (fun hca => ?_)
    · skip
      have ehca : (c == 32) = true := (beq_byte c 32).symm.trans hca
      have hsp : isSp c = true := by unfold isSp; simp [ehca]
      refine wc_skip ?_
      refine wq_then ?_
      refine wc_cond_t rfl hca ?_
      refine wc_region ?_
      refine wl_go rfl (wo_val rfl (rv_move rfl) rfl rfl ?_)
      refine wl_go rfl (wo_val rfl (rv_add rfl rfl (by omega)) rfl rfl ?_)
      refine wl_go rfl (wo_val rfl (rv_assign rfl) rfl rfl ?_)
      refine wl_nil ?_
      refine wq_in_normal ?_
      refine wq_in_normal ?_
      refine wq_round ⟨_, _, ⟨k + 1, _, by omega, ?_, rfl, rfl, rfl⟩, by omega, by repeat (first | exact sub_nil | refine sub_cons rfl ?_)⟩
      rw [← hkk, drop_cons hc0, sk_sp c _ hsp]
    · skip
      have ehca : (c == 32) = false := (beq_byte c 32).symm.trans hca
      refine wc_seq ?_
      refine wc_region ?_
      refine wl_go rfl (wo_val rfl (rv_cmp_i rfl rfl rfl) rfl rfl ?_)
      refine wl_go rfl (wo_val rfl (rv_assign rfl) rfl rfl ?_)
      refine wl_nil ?_
      refine wq_then ?_
      refine wc_cond rfl (fun hcb => ?_) (fun hcb => ?_)
      · skip
        have ehcb : (c == 9) = true := (beq_byte c 9).symm.trans hcb
        have hsp : isSp c = true := by unfold isSp; simp [ehcb]
        refine wc_skip ?_
        refine wq_then ?_
        refine wc_cond_t rfl hcb ?_
        refine wc_region ?_
        refine wl_go rfl (wo_val rfl (rv_move rfl) rfl rfl ?_)
        refine wl_go rfl (wo_val rfl (rv_add rfl rfl (by omega)) rfl rfl ?_)
        refine wl_go rfl (wo_val rfl (rv_assign rfl) rfl rfl ?_)
        refine wl_nil ?_
        refine wq_in_normal ?_
        refine wq_in_normal ?_
        refine wq_round ⟨_, _, ⟨k + 1, _, by omega, ?_, rfl, rfl, rfl⟩, by omega, by repeat (first | exact sub_nil | refine sub_cons rfl ?_)⟩
        rw [← hkk, drop_cons hc0, sk_sp c _ hsp]
      · skip
        have ehcb : (c == 9) = false := (beq_byte c 9).symm.trans hcb
        refine wc_seq ?_
        refine wc_region ?_
        refine wl_go rfl (wo_val rfl (rv_cmp_i rfl rfl rfl) rfl rfl ?_)
        refine wl_go rfl (wo_val rfl (rv_assign rfl) rfl rfl ?_)
        refine wl_nil ?_
        refine wq_then ?_
        refine wc_cond rfl (fun hcc => ?_) (fun hcc => ?_)
        · skip
          have ehcc : (c == 10) = true := (beq_byte c 10).symm.trans hcc
          have hsp : isSp c = true := by unfold isSp; simp [ehcc]
          refine wc_skip ?_
          refine wq_then ?_
          refine wc_cond_t rfl hcc ?_
          refine wc_region ?_
          refine wl_go rfl (wo_val rfl (rv_move rfl) rfl rfl ?_)
          refine wl_go rfl (wo_val rfl (rv_add rfl rfl (by omega)) rfl rfl ?_)
          refine wl_go rfl (wo_val rfl (rv_assign rfl) rfl rfl ?_)
          refine wl_nil ?_
          refine wq_in_normal ?_
          refine wq_in_normal ?_
          refine wq_round ⟨_, _, ⟨k + 1, _, by omega, ?_, rfl, rfl, rfl⟩, by omega, by repeat (first | exact sub_nil | refine sub_cons rfl ?_)⟩
          rw [← hkk, drop_cons hc0, sk_sp c _ hsp]
        · skip
          have ehcc : (c == 10) = false := (beq_byte c 10).symm.trans hcc
          refine wc_region ?_
          refine wl_go rfl (wo_val rfl (rv_cmp_i rfl rfl rfl) rfl rfl ?_)
          refine wl_go rfl (wo_val rfl (rv_assign rfl) rfl rfl ?_)
          refine wl_nil ?_
          refine wq_then ?_
          refine wc_cond rfl (fun hcd => ?_) (fun hcd => ?_)
          · skip
            have ehcd : (c == 13) = true := (beq_byte c 13).symm.trans hcd
            have hsp : isSp c = true := by unfold isSp; simp [ehcd]
            refine wc_region ?_
            refine wl_go rfl (wo_val rfl (rv_move rfl) rfl rfl ?_)
            refine wl_go rfl (wo_val rfl (rv_add rfl rfl (by omega)) rfl rfl ?_)
            refine wl_go rfl (wo_val rfl (rv_assign rfl) rfl rfl ?_)
            refine wl_nil ?_
            refine wq_in_normal ?_
            refine wq_in_normal ?_
            refine wq_round ⟨_, _, ⟨k + 1, _, by omega, ?_, rfl, rfl, rfl⟩, by omega, by repeat (first | exact sub_nil | refine sub_cons rfl ?_)⟩
            rw [← hkk, drop_cons hc0, sk_sp c _ hsp]
          · skip
            have ehcd : (c == 13) = false := (beq_byte c 13).symm.trans hcd
            refine wc_seq ?_
            refine wc_region ?_
            refine wl_go rfl (wo_val rfl (rv_cmp_i rfl rfl rfl) rfl rfl ?_)
            refine wl_go rfl (wo_val rfl (rv_assign rfl) rfl rfl ?_)
            refine wl_nil ?_
            refine wq_then ?_
            refine wc_cond rfl (fun hc20 => ?_) (fun hc20 => ?_)
            · skip
              obtain rfl : c = 35 := beq_iff_eq.1 ((beq_byte c 35).symm.trans hc20)
              refine wc_block ?_
              refine wc_loop (fun m l S => ∃ (q : Nat) (w2 : World), k ≤ q ∧ q ≤ s.length ∧ sk true (s.drop q) = sk false (s.drop i) ∧ (q = k → s[q]? = some 35) ∧ m = s.length - q ∧ l = [(0, .string (toB s)), (1, .int .i64 (q : Int))] ∧ S = ⟨w, G0, w2, []⟩) ⟨_, _, ⟨k, _, Nat.le_refl _, hk, by rw [← hkk, drop_cons hc0, sk_hash], fun _ => hc0, rfl, rfl, rfl⟩, by repeat (first | exact sub_nil | refine sub_cons rfl ?_)⟩ ?_
              intro m l S hJ
              obtain ⟨q, w2, hkq, hq, hqk, hq35, rfl, rfl, rfl⟩ := hJ
              refine wc_seq ?_
              refine wc_seq ?_
              refine wc_region ?_
              refine wl_go rfl (wo_val rfl (rv_move rfl) rfl rfl ?_)
              refine wl_go rfl (wo_val rfl (rv_move rfl) rfl rfl ?_)
              refine wl_go rfl (wo_val rfl (rb_len rfl) rfl rfl ?_)
              refine wl_go rfl (wo_val rfl (rv_cmp_i rfl rfl rfl) rfl rfl ?_)
              refine wl_go rfl (wo_val rfl (rv_move rfl) rfl rfl ?_)
              refine wl_split (d := 26) rfl true (fun hg10_4 => ?_) (fun hg10_4 => ?_)
              · skip
                have hlt : q < s.length := by have := of_decide_eq_true hg10_4; omega
                obtain ⟨d, hd0⟩ : ∃ d, s[q]? = some d := ⟨_, List.getElem?_eq_getElem hlt⟩
                refine wl_want rfl rfl rfl rfl rfl hg10_4 (wo_val rfl (rv_move rfl) rfl rfl ?_)
                refine wl_want rfl rfl rfl rfl rfl hg10_4 (wo_val rfl (rv_move rfl) rfl rfl ?_)
                refine wl_want rfl rfl rfl rfl rfl hg10_4 (wo_val rfl (rb_index rfl rfl (by omega) hd0) rfl rfl ?_)
                refine wl_want rfl rfl rfl rfl rfl hg10_4 (wo_val rfl (rv_cmp_i rfl rfl rfl) rfl rfl ?_)
                refine wl_go rfl (wo_val rfl (rv_pick_t rfl hg10_4 rfl) rfl rfl ?_)
                refine wl_nil ?_
                refine wq_then ?_
                refine wc_cond rfl (fun hc31 => ?_) (fun hc31 => ?_)
                · skip
                  have e10 : (d == 10) = false := by rw [← beq_byte d 10]; simpa using hc31
                  refine wc_skip ?_
                  refine wq_then ?_
                  refine wc_block ?_
                  refine wc_region ?_
                  refine wl_go rfl (wo_val rfl (rv_move rfl) rfl rfl ?_)
                  refine wl_go rfl (wo_val rfl (rv_add rfl rfl (by omega)) rfl rfl ?_)
                  refine wl_go rfl (wo_val rfl (rv_assign rfl) rfl rfl ?_)
                  refine wl_nil ?_
                  refine wq_in_normal ?_
                  refine wq_round ⟨_, _, ⟨q + 1, _, by omega, by omega, ?_, by omega, rfl, rfl, rfl⟩, by omega, by repeat (first | exact sub_nil | refine sub_cons rfl ?_)⟩
                  rw [← hqk, drop_cons hd0, sk_in d _ e10]
                · skip
                  have e10 : (d == 10) = true := by rw [← beq_byte d 10]; simpa using hc31
                  refine wc_exit ?_
                  refine wq_then_exit ?_
                  refine wq_then_exit ?_
                  refine wq_in_here ?_
                  refine wq_in_normal ?_
                  refine wq_in_normal ?_
                  obtain rfl : d = 10 := beq_iff_eq.1 e10
                  refine wq_round ⟨_, _, ⟨q, _, hq, ?_, rfl, rfl, rfl⟩, ?_, by repeat (first | exact sub_nil | refine sub_cons rfl ?_)⟩
                  · rw [← hqk, drop_cons hd0, sk_out]
                  · have : q ≠ k := fun e => by have := hq35 e; rw [hd0] at this; cases this
                    omega
              · skip
                have hge : s.length ≤ q := by have := of_decide_eq_false hg10_4; omega
                refine wl_skip rfl rfl rfl rfl rfl hg10_4 rfl ?_
                refine wl_skip rfl rfl rfl rfl rfl hg10_4 rfl ?_
                refine wl_skip rfl rfl rfl rfl rfl hg10_4 rfl ?_
                refine wl_skip rfl rfl rfl rfl rfl hg10_4 rfl ?_
                refine wl_go rfl (wo_val rfl (rv_pick_f rfl hg10_4 rfl) rfl rfl ?_)
                refine wl_nil ?_
                refine wq_then ?_
                refine wc_cond_f rfl rfl ?_
                refine wc_exit ?_
                refine wq_then_exit ?_
                refine wq_then_exit ?_
                refine wq_in_here ?_
                refine wq_in_normal ?_
                refine wq_in_normal ?_
                refine wq_round ⟨_, _, ⟨q, _, hq, ?_, rfl, rfl, rfl⟩, ?_, by repeat (first | exact sub_nil | refine sub_cons rfl ?_)⟩
                · rw [← hqk, List.drop_eq_nil_of_le hge]; rfl
                · omega
            · skip
              have e35 : (c == 35) = false := (beq_byte c 35).symm.trans hc20
              have hsp : isSp c = false := by unfold isSp; rw [ehca, ehcb, ehcd, ehcc]; rfl
              refine wc_seq ?_
              refine wc_region ?_
              refine wl_go rfl (wo_val rfl (rv_move rfl) rfl rfl ?_)
              refine wl_go rfl (wo_val rfl (rv_assign rfl) rfl rfl ?_)
              refine wl_nil ?_
              refine wq_then ?_
              refine wc_ret ?_
              refine wq_in_ret ?_
              refine wq_in_ret ?_
              refine wq_then_ret ?_
              refine wq_in_ret ?_
              refine wq_then_ret ?_
              refine wq_ret1 rfl rfl (rr_tmp rfl) (fun w9 hs9 => ?_)
              rw [skI_at hc0 hsp e35 hkk]
              exact ⟨rfl, hs9.below rfl⟩
  · simp only [decide_eq_true_eq, decide_eq_false_iff_not, Bool.not_eq_true', Bool.not_eq_false', bne_iff_ne, beq_iff_eq, bne_eq_false_iff_eq, beq_eq_false_iff_ne, Int.not_lt, Int.not_le] at hc8
    refine wc_exit ?_
    refine wq_then_exit ?_
    refine wq_then_exit ?_
    refine wq_in_here ?_
    refine wq_then ?_
    refine wc_seq ?_
    refine wc_region ?_
    refine wl_go rfl (wo_val rfl (rv_move rfl) rfl rfl ?_)
    refine wl_go rfl (wo_val rfl (rv_assign rfl) rfl rfl ?_)
    refine wl_nil ?_
    refine wq_then ?_
    refine wc_ret ?_
    refine wq_ret1 rfl rfl (rr_tmp rfl) (fun w9 hs9 => ?_)
    rw [skI_end (by omega) hk hkk]
    exact ⟨rfl, hs9.below rfl⟩
/-- the closing slash, or -1 -/
def slI (s : Bs) (i : Nat) : Int := match pat (s.drop i) with
  | none => -1
  | some k => ((i + k : Nat) : Int)
theorem slI_at {s : Bs} {i k : Nat} {r : Bs} (hik : i ≤ k) (h : pat (s.drop i) = (pat (s.drop k)).map (· + (k - i))) (hd : s.drop k = 47 :: r) : slI s i = (k : Int) := by
  unfold slI
  rw [h, hd, pat_slash]
  simp only [Option.map_some]
  omega
theorem slI_none {s : Bs} {i k : Nat} (h : pat (s.drop i) = (pat (s.drop k)).map (· + (k - i))) (hd : pat (s.drop k) = none) : slI s i = -1 := by
  unfold slI
  rw [h, hd]
  rfl
theorem pat_one : pat [92] = none := rfl
theorem rslash_calls (s : Bs) (hsz : s.length ≤ 4611686018427387000) (i : Nat) (hi : i ≤ s.length) (w : World) : Calls Tryd.prog 23 #[.string (toB s), .int .i64 (i : Int)] w fun e w' => e = .returned (.int .i64 (slI s i)) ∧ Below w.heap.size w w' := by
  refine calls_start Tryd.func23 rfl (N := 50) rfl rfl _ (St.start _) rfl ?_
  refine wc_seq ?_
  refine wc_region ?_
  refine wl_go rfl (wo_val rfl (rv_assign rfl) rfl rfl ?_)
  refine wl_nil ?_
  refine wq_then ?_
  refine wc_seq ?_
  refine wc_block ?_
  refine wc_loop (fun m l S => ∃ (k : Nat) (w1 : World), i ≤ k ∧ k ≤ s.length + 1 ∧ pat (s.drop i) = (pat (s.drop k)).map (· + (k - i)) ∧ m = s.length + 2 - k ∧ l = [(0, .string (toB s)), (1, .int .i64 (k : Int))] ∧ S = ⟨w, G0, w1, []⟩) ⟨_, _, ⟨i, w, Nat.le_refl _, by omega, by simp, rfl, rfl, rfl⟩, by repeat (first | exact sub_nil | refine sub_cons rfl ?_)⟩ ?_
  intro m l S hJ
  obtain ⟨k, w1, hik, hk, hp, rfl, rfl, rfl⟩ := hJ
  refine wc_seq ?_
  refine wc_seq ?_
  refine wc_region ?_
  refine wl_go rfl (wo_val rfl (rv_move rfl) rfl rfl ?_)
  refine wl_go rfl (wo_val rfl (rv_move rfl) rfl rfl ?_)
  refine wl_go rfl (wo_val rfl (rb_len rfl) rfl rfl ?_)
  refine wl_go rfl (wo_val rfl (rv_cmp_i rfl rfl rfl) rfl rfl ?_)
  refine wl_go rfl (wo_val rfl (rv_move rfl) rfl rfl ?_)
  refine wl_split (d := 9) rfl true (fun hg1_4 => ?_) (fun hg1_4 => ?_)
  · skip
    have hlt : k < s.length := by have := of_decide_eq_true hg1_4; omega
    obtain ⟨c, hc0⟩ : ∃ c, s[k]? = some c := ⟨_, List.getElem?_eq_getElem hlt⟩
    have hdr := drop_cons hc0
    refine wl_want rfl rfl rfl rfl rfl hg1_4 (wo_val rfl (rv_move rfl) rfl rfl ?_)
    refine wl_want rfl rfl rfl rfl rfl hg1_4 (wo_val rfl (rv_move rfl) rfl rfl ?_)
    refine wl_want rfl rfl rfl rfl rfl hg1_4 (wo_val rfl (rb_index rfl rfl (by omega) hc0) rfl rfl ?_)
    refine wl_want rfl rfl rfl rfl rfl hg1_4 (wo_val rfl (rv_cmp_i rfl rfl rfl) rfl rfl ?_)
    refine wl_go rfl (wo_val rfl (rv_pick_t rfl hg1_4 rfl) rfl rfl ?_)
    refine wl_go rfl (wo_val rfl (rv_move rfl) rfl rfl ?_)
    refine wl_split (d := 15) rfl true (fun hg1_10 => ?_) (fun hg1_10 => ?_)
    · skip
      have e10 : (c == 10) = false := by rw [← beq_byte c 10]; simpa using hg1_10
      refine wl_want rfl rfl rfl rfl rfl hg1_10 (wo_val rfl (rv_move rfl) rfl rfl ?_)
      refine wl_want rfl rfl rfl rfl rfl hg1_10 (wo_val rfl (rv_move rfl) rfl rfl ?_)
      refine wl_want rfl rfl rfl rfl rfl hg1_10 (wo_val rfl (rb_index rfl rfl (by omega) hc0) rfl rfl ?_)
      refine wl_want rfl rfl rfl rfl rfl hg1_10 (wo_val rfl (rv_cmp_i rfl rfl rfl) rfl rfl ?_)
      refine wl_go rfl (wo_val rfl (rv_pick_t rfl hg1_10 rfl) rfl rfl ?_)
      refine wl_nil ?_
      refine wq_then ?_
      refine wc_cond rfl (fun hc20 => ?_) (fun hc20 => ?_)
      · skip
        have e13 : (c == 13) = false := by rw [← beq_byte c 13]; simpa using hc20
        refine wc_skip ?_
        refine wq_then ?_
        refine wc_block ?_
        refine wc_seq ?_
        refine wc_seq ?_
        refine wc_region ?_
        refine wl_go rfl (wo_val rfl (rv_move rfl) rfl rfl ?_)
        refine wl_go rfl (wo_val rfl (rv_move rfl) rfl rfl ?_)
        refine wl_go rfl (wo_val rfl (rb_index rfl rfl (by omega) hc0) rfl rfl ?_)
        refine wl_go rfl (wo_val rfl (rv_cmp_i rfl rfl rfl) rfl rfl ?_)
        refine wl_nil ?_
        refine wq_then ?_
        refine wc_cond rfl (fun hc24 => ?_) (fun hc24 => ?_)
        · skip
          have e47 : (c == 47) = true := (beq_byte c 47).symm.trans hc24
          refine wc_seq ?_
          refine wc_region ?_
          refine wl_go rfl (wo_val rfl (rv_move rfl) rfl rfl ?_)
          refine wl_go rfl (wo_val rfl (rv_assign rfl) rfl rfl ?_)
          refine wl_nil ?_
          refine wq_then ?_
          refine wc_ret ?_
          refine wq_then_ret ?_
          refine wq_in_ret ?_
          refine wq_then_ret ?_
          refine wq_in_ret ?_
          refine wq_then_ret ?_
          refine wq_ret1 rfl rfl (rr_tmp rfl) (fun w9 hs9 => ?_)
          rw [slI_at hik hp (by rw [hdr, beq_iff_eq.1 e47])]
          exact ⟨rfl, hs9.below rfl⟩
        · skip
          have e47 : (c == 47) = false := (beq_byte c 47).symm.trans hc24
          refine wc_skip ?_
          refine wq_then ?_
          refine wc_seq ?_
          refine wc_seq ?_
          refine wc_region ?_
          refine wl_go rfl (wo_val rfl (rv_move rfl) rfl rfl ?_)
          refine wl_go rfl (wo_val rfl (rv_move rfl) rfl rfl ?_)
          refine wl_go rfl (wo_val rfl (rb_index rfl rfl (by omega) hc0) rfl rfl ?_)
          refine wl_go rfl (wo_val rfl (rv_cmp_i rfl rfl rfl) rfl rfl ?_)
          refine wl_nil ?_
          refine wq_then ?_
          refine wc_cond rfl (fun hc29 => ?_) (fun hc29 => ?_)
          · skip
            have e92 : (c == 92) = true := (beq_byte c 92).symm.trans hc29
            refine wc_seq ?_
            refine wc_region ?_
            refine wl_go rfl (wo_val rfl (rv_move rfl) rfl rfl ?_)
            refine wl_go rfl (wo_val rfl (rv_add rfl rfl (by omega)) rfl rfl ?_)
            refine wl_go rfl (wo_val rfl (rv_assign rfl) rfl rfl ?_)
            refine wl_nil ?_
            refine wq_then ?_
            refine wc_seq ?_
            refine wc_region ?_
            refine wl_go rfl (wo_val rfl (rv_move rfl) rfl rfl ?_)
            refine wl_go rfl (wo_val rfl (rv_move rfl) rfl rfl ?_)
            refine wl_go rfl (wo_val rfl (rb_len rfl) rfl rfl ?_)
            refine wl_go rfl (wo_val rfl (rv_cmp_i rfl rfl rfl) rfl rfl ?_)
            refine wl_go rfl (wo_val rfl (rv_move rfl) rfl rfl ?_)
            refine wl_split (d := 36) rfl true (fun hg6_4 => ?_) (fun hg6_4 => ?_)
            · skip
              have hlt2 : k + 1 < s.length := by have := of_decide_eq_true hg6_4; omega
              obtain ⟨d, hd0⟩ : ∃ d, s[k + 1]? = some d := ⟨_, List.getElem?_eq_getElem hlt2⟩
              rw [drop_cons hd0] at hdr
              refine wl_want rfl rfl rfl rfl rfl hg6_4 (wo_val rfl (rv_move rfl) rfl rfl ?_)
              refine wl_want rfl rfl rfl rfl rfl hg6_4 (wo_val rfl (rv_move rfl) rfl rfl ?_)
              refine wl_want rfl rfl rfl rfl rfl hg6_4 (wo_val rfl (rb_index rfl rfl (by omega) (i := (k : Int) + 1) (by rw [show ((k : Int) + 1).toNat = k + 1 by omega]; exact hd0)) rfl rfl ?_)
              refine wl_want rfl rfl rfl rfl rfl hg6_4 (wo_val rfl (rv_cmp_i rfl rfl rfl) rfl rfl ?_)
              refine wl_want rfl rfl rfl rfl rfl hg6_4 (wo_val rfl (rv_move rfl) rfl rfl ?_)
              refine wl_split (d := 41) rfl true (fun hg6_9 => ?_) (fun hg6_9 => ?_)
              · skip
                have d10 : (d == 10) = true := (beq_byte d 10).symm.trans hg6_9
                refine wl_skip rfl rfl rfl rfl rfl hg6_9 rfl ?_
                refine wl_skip rfl rfl rfl rfl rfl hg6_9 rfl ?_
                refine wl_skip rfl rfl rfl rfl rfl hg6_9 rfl ?_
                refine wl_skip rfl rfl rfl rfl rfl hg6_9 rfl ?_
                refine wl_want rfl rfl rfl rfl rfl hg6_4 (wo_val rfl (rv_pick_t rfl hg6_9 rfl) rfl rfl ?_)
                refine wl_go rfl (wo_val rfl (rv_pick_t rfl hg6_4 rfl) rfl rfl ?_)
                refine wl_nil ?_
                refine wq_then ?_
                refine wc_cond_t rfl rfl ?_
                refine wc_seq ?_
                refine wc_region ?_
                refine wl_go rfl (wo_val rfl (rv_assign rfl) rfl rfl ?_)
                refine wl_nil ?_
                refine wq_then ?_
                refine wc_ret ?_
                refine wq_then_ret ?_
                refine wq_in_ret ?_
                refine wq_then_ret ?_
                refine wq_in_ret ?_
                refine wq_then_ret ?_
                refine wq_ret1 rfl rfl (rr_tmp rfl) (fun w9 hs9 => ?_)
                rw [slI_none hp (by rw [hdr, beq_iff_eq.1 e92]; exact pat_esc_nl _ _ (by rw [d10]; rfl))]
                exact ⟨rfl, hs9.below rfl⟩
              · skip
                have d10 : (d == 10) = false := (beq_byte d 10).symm.trans hg6_9
                refine wl_want rfl rfl rfl rfl rfl hg6_9 (wo_val rfl (rv_move rfl) rfl rfl ?_)
                refine wl_want rfl rfl rfl rfl rfl hg6_9 (wo_val rfl (rv_move rfl) rfl rfl ?_)
                refine wl_want rfl rfl rfl rfl rfl hg6_9 (wo_val rfl (rb_index rfl rfl (by omega) (i := (k : Int) + 1) (by rw [show ((k : Int) + 1).toNat = k + 1 by omega]; exact hd0)) rfl rfl ?_)
                refine wl_want rfl rfl rfl rfl rfl hg6_9 (wo_val rfl (rv_cmp_i rfl rfl rfl) rfl rfl ?_)
                refine wl_want rfl rfl rfl rfl rfl hg6_4 (wo_val rfl (rv_pick_f rfl hg6_9 rfl) rfl rfl ?_)
                refine wl_go rfl (wo_val rfl (rv_pick_t rfl hg6_4 rfl) rfl rfl ?_)
                refine wl_nil ?_
                refine wq_then ?_
                refine wc_cond rfl (fun hc47 => ?_) (fun hc47 => ?_)
                · skip
                  have d13 : (d == 13) = true := (beq_byte d 13).symm.trans hc47
                  refine wc_seq ?_
                  refine wc_region ?_
                  refine wl_go rfl (wo_val rfl (rv_assign rfl) rfl rfl ?_)
                  refine wl_nil ?_
                  refine wq_then ?_
                  refine wc_ret ?_
                  refine wq_then_ret ?_
                  refine wq_in_ret ?_
                  refine wq_then_ret ?_
                  refine wq_in_ret ?_
                  refine wq_then_ret ?_
                  refine wq_ret1 rfl rfl (rr_tmp rfl) (fun w9 hs9 => ?_)
                  rw [slI_none hp (by rw [hdr, beq_iff_eq.1 e92]; exact pat_esc_nl _ _ (by rw [d13]; simp))]
                  exact ⟨rfl, hs9.below rfl⟩
                · skip
                  have d13 : (d == 13) = false := (beq_byte d 13).symm.trans hc47
                  refine wc_skip ?_
                  refine wq_then ?_
                  refine wc_region ?_
                  refine wl_go rfl (wo_val rfl (rv_move rfl) rfl rfl ?_)
                  refine wl_go rfl (wo_val rfl (rv_add rfl rfl (by omega)) rfl rfl ?_)
                  refine wl_go rfl (wo_val rfl (rv_assign rfl) rfl rfl ?_)
                  refine wl_nil ?_
                  refine wq_in_normal ?_
                  refine wq_round ⟨_, _, ⟨k + 2, _, by omega, by omega, ?_, rfl, rfl, rfl⟩, by omega, by repeat (first | exact sub_nil | refine sub_cons rfl ?_)⟩
                  rw [hp, hdr, beq_iff_eq.1 e92, pat_esc _ _ (by rw [d10, d13]; rfl), Option.map_map]
                  congr 1
                  funext x
                  simp only [Function.comp_def]
                  omega
            · skip
              have hge2 : s.length ≤ k + 1 := by have := of_decide_eq_false hg6_4; omega
              rw [List.drop_eq_nil_of_le hge2] at hdr
              refine wl_skip rfl rfl rfl rfl rfl hg6_4 rfl ?_
              refine wl_skip rfl rfl rfl rfl rfl hg6_4 rfl ?_
              refine wl_skip rfl rfl rfl rfl rfl hg6_4 rfl ?_
              refine wl_skip rfl rfl rfl rfl rfl hg6_4 rfl ?_
              refine wl_skip rfl rfl rfl rfl rfl hg6_4 rfl ?_
              refine wl_skip_u rfl rfl rfl rfl rfl rfl ?_
              refine wl_skip_u rfl rfl rfl rfl rfl rfl ?_
              refine wl_skip_u rfl rfl rfl rfl rfl rfl ?_
              refine wl_skip_u rfl rfl rfl rfl rfl rfl ?_
              refine wl_skip rfl rfl rfl rfl rfl hg6_4 rfl ?_
              refine wl_go rfl (wo_val rfl (rv_pick_f rfl hg6_4 rfl) rfl rfl ?_)
              refine wl_nil ?_
              refine wq_then ?_
              refine wc_cond_f rfl rfl ?_
              refine wc_skip ?_
              refine wq_then ?_
              refine wc_region ?_
              refine wl_go rfl (wo_val rfl (rv_move rfl) rfl rfl ?_)
              refine wl_go rfl (wo_val rfl (rv_add rfl rfl (by omega)) rfl rfl ?_)
              refine wl_go rfl (wo_val rfl (rv_assign rfl) rfl rfl ?_)
              refine wl_nil ?_
              refine wq_in_normal ?_
              refine wq_round ⟨_, _, ⟨k + 2, _, by omega, by omega, ?_, rfl, rfl, rfl⟩, by omega, by repeat (first | exact sub_nil | refine sub_cons rfl ?_)⟩
              rw [hp, hdr, beq_iff_eq.1 e92, pat_one, pat_end s (k + 2) (by omega)]
              rfl
          · skip
            have e92 : (c == 92) = false := (beq_byte c 92).symm.trans hc29
            refine wc_skip ?_
            refine wq_then ?_
            refine wc_region ?_
            refine wl_go rfl (wo_val rfl (rv_move rfl) rfl rfl ?_)
            refine wl_go rfl (wo_val rfl (rv_add rfl rfl (by omega)) rfl rfl ?_)
            refine wl_go rfl (wo_val rfl (rv_assign rfl) rfl rfl ?_)
            refine wl_nil ?_
            refine wq_in_normal ?_
            refine wq_round ⟨_, _, ⟨k + 1, _, by omega, by omega, ?_, rfl, rfl, rfl⟩, by omega, by repeat (first | exact sub_nil | refine sub_cons rfl ?_)⟩
            rw [hp, hdr, pat_plain _ _ e47 e92 e13 e10, Option.map_map]
            congr 1
            funext x
            simp only [Function.comp_def]
            omega
      · skip
        have e13 : (c == 13) = true := by rw [← beq_byte c 13]; simpa using hc20
        refine wc_exit ?_
        refine wq_then_exit ?_
        refine wq_then_exit ?_
        refine wq_in_here ?_
        refine wq_then ?_
        refine wc_seq ?_
        refine wc_region ?_
        refine wl_go rfl (wo_val rfl (rv_assign rfl) rfl rfl ?_)
        refine wl_nil ?_
        refine wq_then ?_
        refine wc_ret ?_
        refine wq_ret1 rfl rfl (rr_tmp rfl) (fun w9 hs9 => ?_)
        rw [slI_none hp (by rw [hdr]; exact pat_nl _ _ (by rw [e13]; rfl))]
        exact ⟨rfl, hs9.below rfl⟩
    · skip
      have e10 : (c == 10) = true := by rw [← beq_byte c 10]; simpa using hg1_10
      refine wl_skip rfl rfl rfl rfl rfl hg1_10 rfl ?_
      refine wl_skip rfl rfl rfl rfl rfl hg1_10 rfl ?_
      refine wl_skip rfl rfl rfl rfl rfl hg1_10 rfl ?_
      refine wl_skip rfl rfl rfl rfl rfl hg1_10 rfl ?_
      refine wl_go rfl (wo_val rfl (rv_pick_f rfl hg1_10 rfl) rfl rfl ?_)
      refine wl_nil ?_
      refine wq_then ?_
      refine wc_cond_f rfl rfl ?_
      refine wc_exit ?_
      refine wq_then_exit ?_
      refine wq_then_exit ?_
      refine wq_in_here ?_
      refine wq_then ?_
      refine wc_seq ?_
      refine wc_region ?_
      refine wl_go rfl (wo_val rfl (rv_assign rfl) rfl rfl ?_)
      refine wl_nil ?_
      refine wq_then ?_
      refine wc_ret ?_
      refine wq_ret1 rfl rfl (rr_tmp rfl) (fun w9 hs9 => ?_)
      rw [slI_none hp (by rw [hdr]; exact pat_nl _ _ (by rw [e10]; simp))]
      exact ⟨rfl, hs9.below rfl⟩
  · skip
    have hge : s.length ≤ k := by have := of_decide_eq_false hg1_4; omega
    refine wl_skip rfl rfl rfl rfl rfl hg1_4 rfl ?_
    refine wl_skip rfl rfl rfl rfl rfl hg1_4 rfl ?_
    refine wl_skip rfl rfl rfl rfl rfl hg1_4 rfl ?_
    refine wl_skip rfl rfl rfl rfl rfl hg1_4 rfl ?_
    refine wl_go rfl (wo_val rfl (rv_pick_f rfl hg1_4 rfl) rfl rfl ?_)
    refine wl_go rfl (wo_val rfl (rv_move rfl) rfl rfl ?_)
    refine wl_skip rfl rfl rfl rfl rfl rfl rfl ?_
    refine wl_skip rfl rfl rfl rfl rfl rfl rfl ?_
    refine wl_skip rfl rfl rfl rfl rfl rfl rfl ?_
    refine wl_skip rfl rfl rfl rfl rfl rfl rfl ?_
    refine wl_go rfl (wo_val rfl (rv_pick_f rfl rfl rfl) rfl rfl ?_)
    refine wl_nil ?_
    refine wq_then ?_
    refine wc_cond_f rfl rfl ?_
    refine wc_exit ?_
    refine wq_then_exit ?_
    refine wq_then_exit ?_
    refine wq_in_here ?_
    refine wq_then ?_
    refine wc_seq ?_
    refine wc_region ?_
    refine wl_go rfl (wo_val rfl (rv_assign rfl) rfl rfl ?_)
    refine wl_nil ?_
    refine wq_then ?_
    refine wc_ret ?_
    refine wq_ret1 rfl rfl (rr_tmp rfl) (fun w9 hs9 => ?_)
    rw [slI_none hp (pat_end s k hge)]
    exact ⟨rfl, hs9.below rfl⟩
end Go.Proofs.YtlaolodnnjcgdaaDoor.Wd
