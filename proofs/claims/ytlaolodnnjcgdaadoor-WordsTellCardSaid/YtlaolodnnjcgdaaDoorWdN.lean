/- The laws of words: Line, All. -/
import Derived.Test.YtlaolodnnjcgdaaDoorWdM
namespace Go.Proofs.YtlaolodnnjcgdaaDoor.Wd
open Go Go.RowKit Gw Go.Shelf
def LN (s : Bs) (i : Int) : Int := 1 + ((s.take (cutAt s i)).count 10 : Int)
def CN (s : Bs) (i : Int) : Int := ((s.take (cutAt s i)).length : Int) - lastNl (s.take (cutAt s i))
theorem lineN_calls (s : Bs) (i : Int) (hsz : s.length ≤ 4611686018427387000) (w : World) : Calls Tryd.prog 12 #[.string (toB s), .int .i64 i] w fun e w' => e = .returned (.tuple #[.int .i64 (LN s i), .int .i64 (CN s i)]) ∧ Below w.heap.size w w' := Line_calls s i hsz w
theorem cut_nat {s : Bs} {k : Nat} (h : k ≤ s.length) : cutAt s (k : Int) = k := by unfold cutAt; omega
theorem line_bounds (s : Bs) (i : Int) : 1 ≤ LN s i ∧ LN s i ≤ 1 + s.length ∧ 0 ≤ CN s i ∧ CN s i ≤ 1 + s.length := by
  unfold LN CN
  have h1 : (s.take (cutAt s i)).count 10 ≤ (s.take (cutAt s i)).length := List.count_le_length
  have h2 : (s.take (cutAt s i)).length ≤ s.length := by rw [List.length_take]; omega
  rcases nl_spec (s.take (cutAt s i)) with ⟨h3, _⟩ | ⟨j, h3, h4, _⟩
  · omega
  · have := (List.getElem?_eq_some_iff.1 h4).1
    omega
theorem ln_step {s : Bs} {k : Nat} {c : UInt8} (hc : s[k]? = some c) : LN s ((k : Int) + 1) = LN s k + (if c = 10 then 1 else 0) ∧ CN s ((k : Int) + 1) = if c = 10 then 1 else CN s k + 1 := by
  have hk := (List.getElem?_eq_some_iff.1 hc).1
  have e : cutAt s ((k : Int) + 1) = k + 1 := by unfold cutAt; omega
  unfold LN CN
  rw [e, cut_nat (by omega), cnt_snoc hc, nl_snoc hc, List.length_take, List.length_take]
  split
  · constructor <;> omega
  · constructor <;> omega
theorem ln_zero (s : Bs) : LN s 0 = 1 ∧ CN s 0 = 1 := by
  have e : cutAt s 0 = 0 := by unfold cutAt; omega
  unfold LN CN
  rw [e]
  exact ⟨rfl, rfl⟩
theorem ln_far (s : Bs) : LN s ((s.length : Int) + 7) = LN s s.length ∧ CN s ((s.length : Int) + 7) = CN s s.length := by
  have e : cutAt s ((s.length : Int) + 7) = cutAt s s.length := by unfold cutAt; omega
  unfold LN CN
  rw [e]
  exact ⟨rfl, rfl⟩
set_option maxHeartbeats 1000000 in
theorem lawLine_calls (s : Bs) (w : World) : Calls Tryd.prog 6 #[.string (toB s)] w fun e w' => e = .returned (.bool true) ∧ Below w.heap.size w w' := by
  refine calls_start Tryd.func6 rfl (N := 107) rfl rfl _ (St.start _) rfl ?_
  refine wc_seq ?_
  refine wc_region ?_
  refine wl_go rfl (wo_val rfl (rv_assign rfl) rfl rfl ?_)
  refine wl_nil ?_
  refine wq_then ?_
  refine wc_seq ?_
  refine wc_region ?_
  refine wl_go rfl (wo_call (R := fun _ v _ => v = _) rfl rfl (enters_of Tryd.func7 (by kernel_rfl) rfl) rfl rfl rfl (fun w hs => (awake_calls _).mono fun e w' h => ⟨_, h.1, rfl, h.2⟩) (fun w2w vw w3w hs2w hvw hb2w hm2w => ?_))
  subst hvw
  refine wl_go rfl (wo_val rfl (rv_assign rfl) rfl rfl ?_)
  refine wl_nil ?_
  refine wq_then ?_
  refine wc_seq ?_
  refine wc_seq ?_
  refine wc_region ?_
  refine wl_go rfl (wo_val rfl (rv_move rfl) rfl rfl ?_)
  refine wl_go rfl (wo_val rfl (rv_not rfl) rfl rfl ?_)
  refine wl_nil ?_
  refine wq_then ?_
  refine wc_cond_f rfl rfl ?_
  refine wc_skip ?_
  refine wq_then ?_
  refine wc_seq ?_
  refine wc_seq ?_
  refine wc_region ?_
  refine wl_go rfl (wo_val rfl (rv_move rfl) rfl rfl ?_)
  refine wl_go rfl (wo_val rfl (rb_len rfl) rfl rfl ?_)
  refine wl_go rfl (wo_val rfl (rv_cmp_i rfl rfl rfl) rfl rfl ?_)
  refine wl_nil ?_
  refine wq_then ?_
  refine wc_cond rfl (fun hc20 => ?_) (fun hc20 => ?_)
  · simp only [decide_eq_true_eq, decide_eq_false_iff_not, Bool.not_eq_true', Bool.not_eq_false', bne_iff_ne, beq_iff_eq, bne_eq_false_iff_eq, beq_eq_false_iff_ne, Int.not_lt, Int.not_le] at hc20
    refine wc_seq ?_
    refine wc_region ?_
    refine wl_go rfl (wo_val rfl (rv_assign rfl) rfl rfl ?_)
    refine wl_nil ?_
    refine wq_then ?_
    refine wc_ret ?_
    refine wq_then_ret ?_
    refine wq_ret1 rfl rfl (rr_tmp rfl) (fun w9 hs9 => ?_)
    exact ⟨rfl, hs9.below rfl⟩
  · simp only [decide_eq_true_eq, decide_eq_false_iff_not, Bool.not_eq_true', Bool.not_eq_false', bne_iff_ne, beq_iff_eq, bne_eq_false_iff_eq, beq_eq_false_iff_ne, Int.not_lt, Int.not_le] at hc20
    refine wc_skip ?_
    refine wq_then ?_
    refine wc_seq ?_
    refine wc_seq ?_
    refine wc_region ?_
    refine wl_go rfl (wo_val rfl (rv_assign rfl) rfl rfl ?_)
    refine wl_nil ?_
    refine wq_then ?_
    refine wc_block ?_
    refine wc_loop (fun m l S => ∃ (k : Nat) (w1 : World), k ≤ s.length ∧ m = s.length - k ∧ l = [(0, .string (toB s)), (4, .int .i64 (k : Int))] ∧ S = ⟨w, G0, w1, []⟩) ⟨_, _, ⟨0, _, Nat.zero_le _, rfl, rfl, rfl⟩, by repeat (first | exact sub_nil | refine sub_cons rfl ?_)⟩ ?_
    intro m l S hJ
    obtain ⟨k, w1, hk, rfl, rfl, rfl⟩ := hJ
    refine wc_seq ?_
    refine wc_seq ?_
    refine wc_region ?_
    refine wl_go rfl (wo_val rfl (rv_move rfl) rfl rfl ?_)
    refine wl_go rfl (wo_val rfl (rv_move rfl) rfl rfl ?_)
    refine wl_go rfl (wo_val rfl (rb_len rfl) rfl rfl ?_)
    refine wl_go rfl (wo_val rfl (rv_cmp_i rfl rfl rfl) rfl rfl ?_)
    refine wl_nil ?_
    refine wq_then ?_
    refine wc_cond rfl (fun hc24 => ?_) (fun hc24 => ?_)
    · simp only [decide_eq_true_eq, decide_eq_false_iff_not, Bool.not_eq_true', Bool.not_eq_false', bne_iff_ne, beq_iff_eq, bne_eq_false_iff_eq, beq_eq_false_iff_ne, Int.not_lt, Int.not_le] at hc24
      obtain ⟨c, hc0⟩ : ∃ c, s[k]? = some c := ⟨_, List.getElem?_eq_getElem (by omega)⟩
      have hst := ln_step hc0
      refine wc_skip ?_
      refine wq_then ?_
      refine wc_seq ?_
      refine wc_block ?_
      refine wc_seq ?_
      refine wc_region ?_
      refine wl_go rfl (wo_val rfl (rv_move rfl) rfl rfl ?_)
      refine wl_go rfl (wo_val rfl (rv_move rfl) rfl rfl ?_)
      refine wl_go rfl (wo_call (R := fun _ v _ => v = _) rfl rfl (enters_of Tryd.func12 (by kernel_rfl) rfl) rfl rfl rfl (fun w hs => (lineN_calls s (k : Int) (by omega) _).mono fun e w' h => ⟨_, h.1, rfl, h.2⟩) (fun w2a va w3a hs2a hva hb2a hm2a => ?_))
      subst hva
      refine wl_go rfl (wo_val rfl (rv_move rfl) rfl rfl ?_)
      refine wl_go rfl (wo_val rfl (rv_extract rfl rfl) rfl rfl ?_)
      refine wl_go rfl (wo_val rfl (rv_extract rfl rfl) rfl rfl ?_)
      refine wl_go rfl (wo_val rfl (rv_assign rfl) rfl rfl ?_)
      refine wl_go rfl (wo_val rfl (rv_assign rfl) rfl rfl ?_)
      refine wl_nil ?_
      refine wq_then ?_
      refine wc_seq ?_
      refine wc_region ?_
      refine wl_go rfl (wo_val rfl (rv_move rfl) rfl rfl ?_)
      refine wl_go rfl (wo_val rfl (rv_move rfl) rfl rfl ?_)
      refine wl_go rfl (wo_val rfl (rv_add rfl rfl (by omega)) rfl rfl ?_)
      refine wl_go rfl (wo_call (R := fun _ v _ => v = _) rfl rfl (enters_of Tryd.func12 (by kernel_rfl) rfl) rfl rfl rfl (fun w hs => (lineN_calls s ((k : Int) + 1) (by omega) _).mono fun e w' h => ⟨_, h.1, rfl, h.2⟩) (fun w2b vb w3b hs2b hvb hb2b hm2b => ?_))
      subst hvb
      refine wl_go rfl (wo_val rfl (rv_move rfl) rfl rfl ?_)
      refine wl_go rfl (wo_val rfl (rv_extract rfl rfl) rfl rfl ?_)
      refine wl_go rfl (wo_val rfl (rv_extract rfl rfl) rfl rfl ?_)
      refine wl_go rfl (wo_val rfl (rv_assign rfl) rfl rfl ?_)
      refine wl_go rfl (wo_val rfl (rv_assign rfl) rfl rfl ?_)
      refine wl_nil ?_
      refine wq_then ?_
      refine wc_seq ?_
      refine wc_region ?_
      refine wl_go rfl (wo_val rfl (rv_move rfl) rfl rfl ?_)
      refine wl_go rfl (wo_val rfl (rv_move rfl) rfl rfl ?_)
      refine wl_go rfl (wo_val rfl (rb_index rfl rfl (by omega) hc0) rfl rfl ?_)
      refine wl_go rfl (wo_val rfl (rv_cmp_i rfl rfl rfl) rfl rfl ?_)
      refine wl_go rfl (wo_val rfl (rv_move rfl) rfl rfl ?_)
      refine wl_split (d := 44) rfl true (fun hg11_4 => ?_) (fun hg11_4 => ?_)
      · skip
        have e10 : c = 10 := beq_iff_eq.1 ((beq_byte c 10).symm.trans hg11_4)
        rw [if_pos e10, if_pos e10] at hst
        refine wl_want rfl rfl rfl rfl rfl hg11_4 (wo_val rfl (rv_move rfl) rfl rfl ?_)
        refine wl_want rfl rfl rfl rfl rfl hg11_4 (wo_val rfl (rv_move rfl) rfl rfl ?_)
        refine wl_want rfl rfl rfl rfl rfl hg11_4 (wo_val rfl (rv_add rfl rfl (by have := line_bounds s k; omega)) rfl rfl ?_)
        refine wl_want rfl rfl rfl rfl rfl hg11_4 (wo_val rfl (rv_cmp_i rfl rfl rfl) rfl rfl ?_)
        refine wl_want rfl rfl rfl rfl rfl hg11_4 (wo_val rfl (rv_move rfl) rfl rfl ?_)
        refine wl_want rfl rfl rfl rfl rfl (bne_eq_false_iff_eq.2 hst.1) (wo_val rfl (rv_move rfl) rfl rfl ?_)
        refine wl_want rfl rfl rfl rfl rfl (bne_eq_false_iff_eq.2 hst.1) (wo_val rfl (rv_cmp_i rfl rfl rfl) rfl rfl ?_)
        refine wl_want rfl rfl rfl rfl rfl hg11_4 (wo_val rfl (rv_pick_f rfl (bne_eq_false_iff_eq.2 hst.1) rfl) rfl rfl ?_)
        refine wl_go rfl (wo_val rfl (rv_pick_t rfl hg11_4 rfl) rfl rfl ?_)
        refine wl_go rfl (wo_val rfl (rv_move rfl) rfl rfl ?_)
        refine wl_want rfl rfl rfl rfl rfl (bne_eq_false_iff_eq.2 hst.2) (wo_val rfl (rv_move rfl) rfl rfl ?_)
        refine wl_want rfl rfl rfl rfl rfl (bne_eq_false_iff_eq.2 hst.2) (wo_val rfl (rv_move rfl) rfl rfl ?_)
        refine wl_want rfl rfl rfl rfl rfl (bne_eq_false_iff_eq.2 hst.2) (wo_val rfl (rb_index rfl rfl (by omega) hc0) rfl rfl ?_)
        refine wl_want rfl rfl rfl rfl rfl (bne_eq_false_iff_eq.2 hst.2) (wo_val rfl (rv_cmp_i rfl rfl rfl) rfl rfl ?_)
        refine wl_want rfl rfl rfl rfl rfl (bne_eq_false_iff_eq.2 hst.2) (wo_val rfl (rv_move rfl) rfl rfl ?_)
        refine wl_skip rfl rfl rfl rfl rfl (by rw [bne, hg11_4] <;> rfl) rfl ?_
        refine wl_skip rfl rfl rfl rfl rfl (by rw [bne, hg11_4] <;> rfl) rfl ?_
        refine wl_skip rfl rfl rfl rfl rfl (by rw [bne, hg11_4] <;> rfl) rfl ?_
        refine wl_skip rfl rfl rfl rfl rfl (by rw [bne, hg11_4] <;> rfl) rfl ?_
        refine wl_skip_u rfl rfl rfl rfl rfl rfl ?_
        refine wl_skip_u rfl rfl rfl rfl rfl rfl ?_
        refine wl_skip_u rfl rfl rfl rfl rfl rfl ?_
        refine wl_skip_u rfl rfl rfl rfl rfl rfl ?_
        refine wl_skip rfl rfl rfl rfl rfl (by rw [bne, hg11_4] <;> rfl) rfl ?_
        refine wl_want rfl rfl rfl rfl rfl (bne_eq_false_iff_eq.2 hst.2) (wo_val rfl (rv_pick_f rfl (by rw [bne, hg11_4] <;> rfl) rfl) rfl rfl ?_)
        refine wl_go rfl (wo_val rfl (rv_pick_f rfl (bne_eq_false_iff_eq.2 hst.2) rfl) rfl rfl ?_)
        refine wl_nil ?_
        refine wq_then ?_
        refine wc_cond_f rfl rfl ?_
        refine wc_skip ?_
        refine wq_in_normal ?_
        refine wq_then ?_
        refine wc_region ?_
        refine wl_go rfl (wo_val rfl (rv_move rfl) rfl rfl ?_)
        refine wl_go rfl (wo_val rfl (rv_add rfl rfl (by omega)) rfl rfl ?_)
        refine wl_go rfl (wo_val rfl (rv_assign rfl) rfl rfl ?_)
        refine wl_nil ?_
        exact wq_round ⟨_, _, ⟨k + 1, _, by omega, rfl, rfl, rfl⟩, by omega, by repeat (first | exact sub_nil | refine sub_cons rfl ?_)⟩
      · skip
        have e10 : ¬ c = 10 := fun e => by have := (beq_byte c 10).symm.trans hg11_4; rw [e] at this; cases this
        rw [if_neg e10, if_neg e10, Int.add_zero] at hst
        refine wl_skip rfl rfl rfl rfl rfl hg11_4 rfl ?_
        refine wl_skip rfl rfl rfl rfl rfl hg11_4 rfl ?_
        refine wl_skip rfl rfl rfl rfl rfl hg11_4 rfl ?_
        refine wl_skip rfl rfl rfl rfl rfl hg11_4 rfl ?_
        refine wl_skip rfl rfl rfl rfl rfl hg11_4 rfl ?_
        refine wl_skip_u rfl rfl rfl rfl rfl rfl ?_
        refine wl_skip_u rfl rfl rfl rfl rfl rfl ?_
        refine wl_skip rfl rfl rfl rfl rfl hg11_4 rfl ?_
        refine wl_go rfl (wo_val rfl (rv_pick_f rfl hg11_4 rfl) rfl rfl ?_)
        refine wl_go rfl (wo_val rfl (rv_move rfl) rfl rfl ?_)
        refine wl_want rfl rfl rfl rfl rfl rfl (wo_val rfl (rv_move rfl) rfl rfl ?_)
        refine wl_want rfl rfl rfl rfl rfl rfl (wo_val rfl (rv_move rfl) rfl rfl ?_)
        refine wl_want rfl rfl rfl rfl rfl rfl (wo_val rfl (rb_index rfl rfl (by omega) hc0) rfl rfl ?_)
        refine wl_want rfl rfl rfl rfl rfl rfl (wo_val rfl (rv_cmp_i rfl rfl rfl) rfl rfl ?_)
        refine wl_want rfl rfl rfl rfl rfl rfl (wo_val rfl (rv_move rfl) rfl rfl ?_)
        refine wl_want rfl rfl rfl rfl rfl (by rw [bne, hg11_4] <;> rfl) (wo_val rfl (rv_move rfl) rfl rfl ?_)
        refine wl_want rfl rfl rfl rfl rfl (by rw [bne, hg11_4] <;> rfl) (wo_val rfl (rv_move rfl) rfl rfl ?_)
        refine wl_want rfl rfl rfl rfl rfl (by rw [bne, hg11_4] <;> rfl) (wo_val rfl (rv_cmp_i rfl rfl rfl) rfl rfl ?_)
        refine wl_want rfl rfl rfl rfl rfl (by rw [bne, hg11_4] <;> rfl) (wo_val rfl (rv_move rfl) rfl rfl ?_)
        refine wl_want rfl rfl rfl rfl rfl (bne_eq_false_iff_eq.2 hst.1) (wo_val rfl (rv_move rfl) rfl rfl ?_)
        refine wl_want rfl rfl rfl rfl rfl (bne_eq_false_iff_eq.2 hst.1) (wo_val rfl (rv_move rfl) rfl rfl ?_)
        refine wl_want rfl rfl rfl rfl rfl (bne_eq_false_iff_eq.2 hst.1) (wo_val rfl (rv_add rfl rfl (by have := line_bounds s k; omega)) rfl rfl ?_)
        refine wl_want rfl rfl rfl rfl rfl (bne_eq_false_iff_eq.2 hst.1) (wo_val rfl (rv_cmp_i rfl rfl rfl) rfl rfl ?_)
        refine wl_want rfl rfl rfl rfl rfl (by rw [bne, hg11_4] <;> rfl) (wo_val rfl (rv_pick_f rfl (bne_eq_false_iff_eq.2 hst.1) rfl) rfl rfl ?_)
        refine wl_want rfl rfl rfl rfl rfl rfl (wo_val rfl (rv_pick_t rfl (by rw [bne, hg11_4] <;> rfl) rfl) rfl rfl ?_)
        refine wl_go rfl (wo_val rfl (rv_pick_f rfl rfl rfl) rfl rfl ?_)
        refine wl_nil ?_
        refine wq_then ?_
        refine wc_cond_f rfl (bne_eq_false_iff_eq.2 hst.2) ?_
        refine wc_skip ?_
        refine wq_in_normal ?_
        refine wq_then ?_
        refine wc_region ?_
        refine wl_go rfl (wo_val rfl (rv_move rfl) rfl rfl ?_)
        refine wl_go rfl (wo_val rfl (rv_add rfl rfl (by omega)) rfl rfl ?_)
        refine wl_go rfl (wo_val rfl (rv_assign rfl) rfl rfl ?_)
        refine wl_nil ?_
        exact wq_round ⟨_, _, ⟨k + 1, _, by omega, rfl, rfl, rfl⟩, by omega, by repeat (first | exact sub_nil | refine sub_cons rfl ?_)⟩
    · simp only [decide_eq_true_eq, decide_eq_false_iff_not, Bool.not_eq_true', Bool.not_eq_false', bne_iff_ne, beq_iff_eq, bne_eq_false_iff_eq, beq_eq_false_iff_ne, Int.not_lt, Int.not_le] at hc24
      refine wc_exit ?_
      refine wq_then_exit ?_
      refine wq_then_exit ?_
      refine wq_in_here ?_
      refine wq_then ?_
      refine wc_seq ?_
      refine wc_region ?_
      refine wl_go rfl (wo_val rfl (rv_move rfl) rfl rfl ?_)
      refine wl_go rfl (wo_call (R := fun _ v _ => v = _) rfl rfl (enters_of Tryd.func12 (by kernel_rfl) rfl) rfl rfl rfl (fun w hs => (lineN_calls s 0 (by omega) _).mono fun e w' h => ⟨_, h.1, rfl, h.2⟩) (fun w2c vc w3c hs2c hvc hb2c hm2c => ?_))
      subst hvc
      rw [(ln_zero s).1, (ln_zero s).2]
      refine wl_go rfl (wo_val rfl (rv_move rfl) rfl rfl ?_)
      refine wl_go rfl (wo_val rfl (rv_extract rfl rfl) rfl rfl ?_)
      refine wl_go rfl (wo_val rfl (rv_extract rfl rfl) rfl rfl ?_)
      refine wl_go rfl (wo_val rfl (rv_assign rfl) rfl rfl ?_)
      refine wl_go rfl (wo_val rfl (rv_assign rfl) rfl rfl ?_)
      refine wl_nil ?_
      refine wq_then ?_
      refine wc_seq ?_
      refine wc_region ?_
      refine wl_go rfl (wo_val rfl (rv_move rfl) rfl rfl ?_)
      refine wl_go rfl (wo_val rfl (rv_move rfl) rfl rfl ?_)
      refine wl_go rfl (wo_val rfl (rb_len rfl) rfl rfl ?_)
      refine wl_go rfl (wo_call (R := fun _ v _ => v = _) rfl rfl (enters_of Tryd.func12 (by kernel_rfl) rfl) rfl rfl rfl (fun w hs => (lineN_calls s (s.length : Int) (by omega) _).mono fun e w' h => ⟨_, h.1, rfl, h.2⟩) (fun w2d vd w3d hs2d hvd hb2d hm2d => ?_))
      subst hvd
      refine wl_go rfl (wo_val rfl (rv_move rfl) rfl rfl ?_)
      refine wl_go rfl (wo_val rfl (rv_extract rfl rfl) rfl rfl ?_)
      refine wl_go rfl (wo_val rfl (rv_extract rfl rfl) rfl rfl ?_)
      refine wl_go rfl (wo_val rfl (rv_assign rfl) rfl rfl ?_)
      refine wl_go rfl (wo_val rfl (rv_assign rfl) rfl rfl ?_)
      refine wl_nil ?_
      refine wq_then ?_
      refine wc_seq ?_
      refine wc_region ?_
      refine wl_go rfl (wo_val rfl (rv_move rfl) rfl rfl ?_)
      refine wl_go rfl (wo_val rfl (rv_move rfl) rfl rfl ?_)
      refine wl_go rfl (wo_val rfl (rb_len rfl) rfl rfl ?_)
      refine wl_go rfl (wo_val rfl (rv_add rfl rfl (by omega)) rfl rfl ?_)
      refine wl_go rfl (wo_call (R := fun _ v _ => v = _) rfl rfl (enters_of Tryd.func12 (by kernel_rfl) rfl) rfl rfl rfl (fun w hs => (lineN_calls s ((s.length : Int) + 7) (by omega) _).mono fun e w' h => ⟨_, h.1, rfl, h.2⟩) (fun w2e ve w3e hs2e hve hb2e hm2e => ?_))
      subst hve
      rw [(ln_far s).1, (ln_far s).2]
      refine wl_go rfl (wo_val rfl (rv_move rfl) rfl rfl ?_)
      refine wl_go rfl (wo_val rfl (rv_extract rfl rfl) rfl rfl ?_)
      refine wl_go rfl (wo_val rfl (rv_extract rfl rfl) rfl rfl ?_)
      refine wl_go rfl (wo_val rfl (rv_assign rfl) rfl rfl ?_)
      refine wl_go rfl (wo_val rfl (rv_assign rfl) rfl rfl ?_)
      refine wl_nil ?_
      refine wq_then ?_
      refine wc_seq ?_
      refine wc_region ?_
      refine wl_go rfl (wo_val rfl (rv_move rfl) rfl rfl ?_)
      refine wl_go rfl (wo_val rfl (rv_cmp_i rfl rfl rfl) rfl rfl ?_)
      refine wl_go rfl (wo_val rfl (rv_move rfl) rfl rfl ?_)
      refine wl_want rfl rfl rfl rfl rfl rfl (wo_val rfl (rv_move rfl) rfl rfl ?_)
      refine wl_want rfl rfl rfl rfl rfl rfl (wo_val rfl (rv_cmp_i rfl rfl rfl) rfl rfl ?_)
      refine wl_go rfl (wo_val rfl (rv_pick_t rfl rfl rfl) rfl rfl ?_)
      refine wl_go rfl (wo_val rfl (rv_move rfl) rfl rfl ?_)
      refine wl_want rfl rfl rfl rfl rfl rfl (wo_val rfl (rv_move rfl) rfl rfl ?_)
      refine wl_want rfl rfl rfl rfl rfl rfl (wo_val rfl (rv_move rfl) rfl rfl ?_)
      refine wl_want rfl rfl rfl rfl rfl rfl (wo_val rfl (rv_cmp_i rfl rfl rfl) rfl rfl ?_)
      refine wl_go rfl (wo_val rfl (rv_pick_t rfl rfl rfl) rfl rfl ?_)
      refine wl_go rfl (wo_val rfl (rv_move rfl) rfl rfl ?_)
      refine wl_want rfl rfl rfl rfl rfl (beq_self_eq_true _) (wo_val rfl (rv_move rfl) rfl rfl ?_)
      refine wl_want rfl rfl rfl rfl rfl (beq_self_eq_true _) (wo_val rfl (rv_move rfl) rfl rfl ?_)
      refine wl_want rfl rfl rfl rfl rfl (beq_self_eq_true _) (wo_val rfl (rv_cmp_i rfl rfl rfl) rfl rfl ?_)
      refine wl_go rfl (wo_val rfl (rv_pick_t rfl (beq_self_eq_true _) rfl) rfl rfl ?_)
      refine wl_go rfl (wo_val rfl (rv_assign rfl) rfl rfl ?_)
      refine wl_nil ?_
      refine wq_then ?_
      refine wc_ret ?_
      refine wq_ret1 rfl rfl (rr_tmp rfl) (fun w9 hs9 => ?_)
      refine ⟨?_, hs9.below rfl⟩
      rw [beq_self_eq_true]
theorem wds_length (L : Nat) : ∀ (n : Nat) (s : Bs), (wds L n s).1.length ≤ n
  | 0, s => by simp [wds]
  | n + 1, [] => by simp [wds]
  | n + 1, c :: r => by
    unfold wds
    simp only
    split
    · simp
    · have := wds_length L n (sk false ((c :: r).drop (first (c :: r)).2.2))
      simp
      omega
theorem allOf_length (s : Bs) : (allOf s).1.length ≤ s.length := by
  unfold allOf
  split
  · simp
  · have h := wds_length s.length s.length (sk false s)
    have e : words s = wds s.length s.length (sk false s) := rfl
    rw [← e] at h
    revert h
    generalize words s = x
    intro h
    obtain ⟨ws, p⟩ := x
    cases p with
    | none => exact h
    | some p => simp
set_option maxHeartbeats 1000000 in
theorem lawAll_calls (s : Bs) (w : World) : Calls Tryd.prog 3 #[.string (toB s)] w fun e w' => e = .returned (.bool true) ∧ Below w.heap.size w w' := by
  refine calls_start Tryd.func3 rfl (N := 42) rfl rfl _ (St.start _) rfl ?_
  refine wc_seq ?_
  refine wc_region ?_
  refine wl_go rfl (wo_val rfl (rv_assign rfl) rfl rfl ?_)
  refine wl_nil ?_
  refine wq_then ?_
  refine wc_seq ?_
  refine wc_region ?_
  refine wl_go rfl (wo_call (R := fun _ v _ => v = _) rfl rfl (enters_of Tryd.func7 (by kernel_rfl) rfl) rfl rfl rfl (fun w hs => (awake_calls _).mono fun e w' h => ⟨_, h.1, rfl, h.2⟩) (fun w2w vw w3w hs2w hvw hb2w hm2w => ?_))
  subst hvw
  refine wl_go rfl (wo_val rfl (rv_assign rfl) rfl rfl ?_)
  refine wl_nil ?_
  refine wq_then ?_
  refine wc_seq ?_
  refine wc_seq ?_
  refine wc_region ?_
  refine wl_go rfl (wo_val rfl (rv_move rfl) rfl rfl ?_)
  refine wl_go rfl (wo_val rfl (rv_not rfl) rfl rfl ?_)
  refine wl_nil ?_
  refine wq_then ?_
  refine wc_cond_f rfl rfl ?_
  refine wc_skip ?_
  refine wq_then ?_
  refine wc_seq ?_
  refine wc_seq ?_
  refine wc_region ?_
  refine wl_go rfl (wo_val rfl (rv_move rfl) rfl rfl ?_)
  refine wl_go rfl (wo_val rfl (rb_len rfl) rfl rfl ?_)
  refine wl_go rfl (wo_val rfl (rv_cmp_i rfl rfl rfl) rfl rfl ?_)
  refine wl_nil ?_
  refine wq_then ?_
  refine wc_cond rfl (fun hc15 => ?_) (fun hc15 => ?_)
  · simp only [decide_eq_true_eq, decide_eq_false_iff_not, Bool.not_eq_true', Bool.not_eq_false', bne_iff_ne, beq_iff_eq, bne_eq_false_iff_eq, beq_eq_false_iff_ne, Int.not_lt, Int.not_le] at hc15
    refine wc_seq ?_
    refine wc_region ?_
    refine wl_go rfl (wo_val rfl (rv_assign rfl) rfl rfl ?_)
    refine wl_nil ?_
    refine wq_then ?_
    refine wc_ret ?_
    refine wq_then_ret ?_
    refine wq_ret1 rfl rfl (rr_tmp rfl) (fun w9 hs9 => ?_)
    exact ⟨rfl, hs9.below rfl⟩
  · simp only [decide_eq_true_eq, decide_eq_false_iff_not, Bool.not_eq_true', Bool.not_eq_false', bne_iff_ne, beq_iff_eq, bne_eq_false_iff_eq, beq_eq_false_iff_ne, Int.not_lt, Int.not_le] at hc15
    refine wc_skip ?_
    refine wq_then ?_
    refine wc_seq ?_
    refine wc_region ?_
    refine wl_go rfl (wo_val rfl (rv_move rfl) rfl rfl ?_)
    refine wl_go rfl (wo_call (R := fun w v w' => ∃ x, v = .tuple #[x, .int .i64 ((allOf s).2.1 : Int), .int .i64 ((allOf s).2.2 : Int)] ∧ w'.ownsRow w.heap.size 35 3 x (allOf s).1.length ((allOf s).1.flatMap woC)) rfl rfl (enters_of Tryd.func8 (by kernel_rfl) rfl) rfl rfl rfl (fun w4 hs4 => (All_calls s (by omega) w4).mono fun e w' ⟨x, h1, h2, h3⟩ => ⟨_, h1, ⟨x, rfl, h2⟩, h3⟩) (fun w2a v2a w3a hs2a hva hb2a hm2a => ?_))
    obtain ⟨xa, rfl, hxa⟩ := hva
    obtain ⟨pa, ca, rfl, hra⟩ := rd_of hxa
    refine wl_go rfl (wo_val rfl (rv_move rfl) rfl rfl ?_)
    refine wl_go rfl (wo_val rfl (rv_extract rfl rfl) rfl rfl ?_)
    refine wl_go rfl (wo_val rfl (rv_extract rfl rfl) rfl rfl ?_)
    refine wl_go rfl (wo_val rfl (rv_extract rfl rfl) rfl rfl ?_)
    refine wl_go rfl (wo_val rfl (rv_assign rfl) rfl rfl ?_)
    refine wl_go rfl (wo_val rfl (rv_assign rfl) rfl rfl ?_)
    refine wl_go rfl (wo_val rfl (rv_assign rfl) rfl rfl ?_)
    refine wl_nil ?_
    refine wq_then ?_
    refine wc_seq ?_
    refine wc_region ?_
    refine wl_go rfl (wo_val rfl (rv_move rfl) rfl rfl ?_)
    refine wl_go rfl (wo_call (R := fun w v w' => ∃ x, v = .tuple #[x, .int .i64 ((allOf s).2.1 : Int), .int .i64 ((allOf s).2.2 : Int)] ∧ w'.ownsRow w.heap.size 45 3 x (allOf s).1.length ((allOf s).1.flatMap woC)) rfl rfl (enters_of Tryd.func9 (by kernel_rfl) rfl) rfl rfl rfl (fun w4 hs4 => (rAll_calls s (by omega) w4).mono fun e w' ⟨x, h1, h2, h3⟩ => ⟨_, h1, ⟨x, rfl, h2⟩, h3⟩) (fun w2b v2b w3b hs2b hvb hb2b hm2b => ?_))
    obtain ⟨xb, rfl, hxb⟩ := hvb
    obtain ⟨pb, cb, rfl, hrb⟩ := rd_of hxb
    replace hra := hra.go hs2b hb2b
    refine wl_go rfl (wo_val rfl (rv_move rfl) rfl rfl ?_)
    refine wl_go rfl (wo_val rfl (rv_extract rfl rfl) rfl rfl ?_)
    refine wl_go rfl (wo_val rfl (rv_extract rfl rfl) rfl rfl ?_)
    refine wl_go rfl (wo_val rfl (rv_extract rfl rfl) rfl rfl ?_)
    refine wl_go rfl (wo_val rfl (rv_assign rfl) rfl rfl ?_)
    refine wl_go rfl (wo_val rfl (rv_assign rfl) rfl rfl ?_)
    refine wl_go rfl (wo_val rfl (rv_assign rfl) rfl rfl ?_)
    refine wl_nil ?_
    refine wq_then ?_
    refine wc_seq ?_
    refine wc_region ?_
    refine wl_go rfl (wo_val rfl (rv_move rfl) rfl rfl ?_)
    refine wl_go rfl (wo_call (R := fun w v w' => w'.ownsRow w.heap.size 45 3 v ((allOf s).1).length (((allOf s).1).flatMap woC)) rfl rfl (enters_of Tryd.func11 (by kernel_rfl) rfl) rfl rfl rfl (fun w4 hs4 => (plain_calls pa ca ((allOf s).1) (by have := allOf_length s; omega) w4 (hra.now hs4)).mono fun e w' ⟨x, h1, h2, h3⟩ => ⟨_, h1, h2, h3⟩) (fun w2c v2c w3c hs2c hvc hb2c hm2c => ?_))
    obtain ⟨pc, cc, rfl, hrc⟩ := rd_of hvc
    replace hrb := hrb.go hs2c hb2c
    refine wl_go rfl (wo_val rfl (rv_move rfl) rfl rfl ?_)
    refine wl_go rfl (wo_call (R := fun _ v _ => v = _) rfl rfl (enters_of Tryd.func10 (by kernel_rfl) rfl) rfl rfl rfl (fun w4 hs4 => (same_calls pc pb cc cb ((allOf s).1) ((allOf s).1) (by have := allOf_length s; omega) true w4 (hrc.now hs4) (hrb.now hs4)).mono fun e w' h => ⟨_, h.1, rfl, h.2⟩) (fun w2d v2d w3d hs2d hvd hb2d hm2d => ?_))
    subst hvd
    refine wl_go rfl (wo_val rfl (rv_move rfl) rfl rfl ?_)
    refine wl_want rfl rfl rfl rfl rfl (decide_eq_true rfl) (wo_val rfl (rv_move rfl) rfl rfl ?_)
    refine wl_want rfl rfl rfl rfl rfl (decide_eq_true rfl) (wo_val rfl (rv_move rfl) rfl rfl ?_)
    refine wl_want rfl rfl rfl rfl rfl (decide_eq_true rfl) (wo_val rfl (rv_cmp_i rfl rfl rfl) rfl rfl ?_)
    refine wl_go rfl (wo_val rfl (rv_pick_t rfl (decide_eq_true rfl) rfl) rfl rfl ?_)
    refine wl_go rfl (wo_val rfl (rv_move rfl) rfl rfl ?_)
    refine wl_want rfl rfl rfl rfl rfl (beq_self_eq_true _) (wo_val rfl (rv_move rfl) rfl rfl ?_)
    refine wl_want rfl rfl rfl rfl rfl (beq_self_eq_true _) (wo_val rfl (rv_move rfl) rfl rfl ?_)
    refine wl_want rfl rfl rfl rfl rfl (beq_self_eq_true _) (wo_val rfl (rv_cmp_i rfl rfl rfl) rfl rfl ?_)
    refine wl_go rfl (wo_val rfl (rv_pick_t rfl (beq_self_eq_true _) rfl) rfl rfl ?_)
    refine wl_go rfl (wo_val rfl (rv_assign rfl) rfl rfl ?_)
    refine wl_nil ?_
    refine wq_then ?_
    refine wc_ret ?_
    refine wq_ret1 rfl rfl (rr_tmp rfl) (fun w9 hs9 => ?_)
    refine ⟨?_, hs9.below rfl⟩
    rw [beq_self_eq_true]
end Go.Proofs.YtlaolodnnjcgdaaDoor.Wd
