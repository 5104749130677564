/- The walks of BytesetMakes and BytesetJoins. -/
import Derived.Test.YtekodfpjoehooaaDoorAwake
namespace Go.Proofs.YtekodfpjoehooaaDoor.Bs
open Go.RowKit Mem Reg
theorem wp_eql_set {ops : Array Oper} {rest : List Oper} {o : Oper} {a : Act} {w : World} {Q : Exit → Act → World → Prop} (x y : Operand) (ty : TypeId) (ho : o.op = .binOp .eql 24 x y ty) (hw : Region.wanted o (yielded ops a.tmps) = true)
    (s t : BitVec 256) (hx : a.eval x = setV s) (hy : a.eval y = setV t)
    (h : wpList Tryd.prog ops Q rest (a.put o.dst (.bool (s == t))) w) : wpList Tryd.prog ops Q (o :: rest) a w := by
  unfold wpList
  rw [if_pos hw]
  refine .inl ?_
  unfold Oper.wp execOp
  simp only [ho, hx, hy, Sem.run_bind, Sem.run_pure, Result.andThen_ok, eqGuard_set, eql_set]
  exact h
theorem cutS_len (xs : List (BitVec 256)) : (cutS xs).length ≤ 256 := by
  rw [← outs_cut, outs_length]; exact reps_length xs 256
theorem cutS_small (xs : List (BitVec 256)) : (cutS xs).length * 4 ≤ 140737488355328 := by have := cutS_len xs; omega
set_option maxHeartbeats 3200000 in
set_option maxRecDepth 100000 in
theorem makes_calls (lo hi : Nat) (hlo : lo < 256) (hhi : hi < 256) (s : ByteArray) (w : World) (hT : Tab w) :
    Calls Tryd.prog 4 #[.int .u8 lo, .int .u8 hi, .string s] w fun e w' => e = .returned (.bool true) ∧ Below w.heap.size w w' := by
  go_enter Tryd.func4, Tryd.ntmps4
  by_cases hs : s.size ≤ 500
  · go_wp2_with (first | (go_at_call 8; refine (awake_calls _ hT).mono ?_; rintro e w1 ⟨rfl, hb1⟩) | (go_at_call 20; refine (range_calls lo hi hlo hhi _).mono ?_; rintro e w2 ⟨rfl, hb2⟩; have HB2 := Lib.hid (below_more hb1 hb1.size hb2)) |
      (go_at_call 21; refine (rrange_calls lo hi hlo hhi _).mono ?_; rintro e w3 ⟨rfl, hb3⟩; have HB3 := Lib.hid (below_more HB2.out HB2.out.size hb3)) |
      (refine wp_eql_set (.tmp 16) (.tmp 19) _ rfl rfl _ _ rfl rfl ?_; rw [beq_self_eq_true]) |
      (go_at_call 22; refine (of_calls s (by omega) _).mono ?_; rintro e w4 ⟨rfl, hb4⟩; have HB4 := Lib.hid (below_more HB3.out HB3.out.size hb4)) |
      (go_at_call 23; refine (rof_calls s (by omega) _).mono ?_; rintro e w5 ⟨rfl, hb5⟩; have HB5 := Lib.hid (below_more HB4.out HB4.out.size hb5)) |
      (refine wp_eql_set (.tmp 23) (.tmp 25) _ rfl rfl _ _ rfl rfl ?_; rw [beq_self_eq_true]))
    go_ret
    exact ⟨rfl, HB5.out⟩
  · go_wp2_with (first | (go_at_call 8; refine (awake_calls _ hT).mono ?_; rintro e w1 ⟨rfl, hb1⟩))
    go_ret
    exact ⟨rfl, hb1⟩
set_option maxHeartbeats 3200000 in
set_option maxRecDepth 100000 in
theorem joins_calls (v : Value) (xs : List (BitVec 256)) (w : World) (hv : Sets w v xs) (hT : Tab w) :
    Calls Tryd.prog 5 #[v] w fun e w' => e = .returned (.bool true) ∧ Below w.heap.size w w' := by
  have HV := Lib.hid hv
  obtain ⟨A, cap, rfl⟩ := hv.length
  clear hv
  go_enter Tryd.func5, Tryd.ntmps5
  by_cases hs : xs.length ≤ 12
  · go_wp2_with (first | (go_at_call 8; refine (awake_calls _ hT).mono ?_; rintro e w1 ⟨rfl, hb1⟩; have HB1 := Lib.hid hb1) |
      (go_at_call 24; refine (union_calls _ xs _ (HV.out.below setC_ne (Nat.le_refl _) HB1.out)).mono ?_; rintro e w2 ⟨rfl, hb2⟩; have HB2 := Lib.hid (below_more HB1.out HB1.out.size hb2)) |
      (go_at_call 25; refine (runion_calls _ xs _ (HV.out.below setC_ne (Nat.le_refl _) HB2.out)).mono ?_; rintro e w3 ⟨rfl, hb3⟩; have HB3 := Lib.hid (below_more HB2.out HB2.out.size hb3)) |
      (refine wp_eql_set (.tmp 11) (.tmp 13) _ rfl rfl _ _ rfl rfl ?_; rw [beq_self_eq_true]) |
      (go_at_call 26; refine (inter_calls _ xs _ (HV.out.below setC_ne (Nat.le_refl _) HB3.out) (by omega)).mono ?_; rintro e w4 ⟨rfl, hb4⟩; have HB4 := Lib.hid (below_more HB3.out HB3.out.size hb4)) |
      (go_at_call 27; refine (rinter_calls _ xs _ (HV.out.below setC_ne (Nat.le_refl _) HB4.out)).mono ?_; rintro e w5 ⟨rfl, hb5⟩; have HB5 := Lib.hid (below_more HB4.out HB4.out.size hb5)) |
      (refine wp_eql_set (.tmp 17) (.tmp 19) _ rfl rfl _ _ rfl rfl ?_; rw [beq_self_eq_true]) |
      (go_at_call 29; refine (cut_calls _ xs _ (HV.out.below setC_ne (Nat.le_refl _) HB5.out) (hT.below HB5.out)).mono ?_; rintro e w6 ⟨⟨v6, rfl, hown6⟩, hb6⟩; have HO6 := Lib.hid hown6; have HB6 := Lib.hid (below_more HB5.out HB5.out.size hb6); clear hown6) |
      (go_at_call 30; refine (rcut_calls _ xs _ (HV.out.below setC_ne (Nat.le_refl _) HB6.out)).mono ?_; rintro e w7 ⟨⟨v7, rfl, hown7⟩, hb7⟩; have HO7 := Lib.hid hown7; have HO6' := Lib.hid (own_below HO6.out hb7); have HB7 := Lib.hid (below_more HB6.out HB6.out.size hb7); clear hown7) |
      (go_at_call 28; refine (same_calls _ _ (cutS xs) (cutS xs) _ (sets_of_own HO6'.out rfl (cutS_small xs)) (sets_of_own HO7.out rfl (cutS_small xs))).mono ?_; rintro e w8 ⟨rfl, hb8⟩; rw [beq_self_eq_true]; have HB8 := Lib.hid (below_more HB7.out HB7.out.size hb8)))
    go_ret
    exact ⟨rfl, HB8.out⟩
  · go_wp2_with (first | (go_at_call 8; refine (awake_calls _ hT).mono ?_; rintro e w1 ⟨rfl, hb1⟩))
    go_ret
    exact ⟨rfl, hb1⟩
end Go.Proofs.YtekodfpjoehooaaDoor.Bs
