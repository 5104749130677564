/- The walks of rows, of its iterator, and of Ranges. -/
import Derived.RangeFuncNested
import Derived.RangeFuncBound
import Derived.RangeFuncCalls
import Derived.RangeFuncLeaves
import Derived.Shelf.Abstract
import Derived.Shelf.RegionOpen
import Derived.OwnWalkIn
import Derived.TacticsInMore
import Derived.LoopNIn
import Derived.LoopIn
import Derived.Test.YtekodfpjoehooaaDoorSetW7
namespace Go.Proofs.YtekodfpjoehooaaDoor.Bs
open Go.RowKit Go.Shelf Mem
attribute [local go_sem] Oper.semAt_some
theorem ld_set_in {F : Fence} {n : Nat} {ops : Array Oper} {rest : List Oper} {o : Oper} {a : Act} {w : World} {Q : Exit → Act → World → Prop} (hgd : o.guard = none) (x : Operand) (ho : o.op = .load 24 x)
    (g : Nat) (hx : a.eval x = .pointer (some ⟨g, 0, none⟩)) (s : BitVec 256) (t : TypeId) (hg : w.heap[g]? = some (.cells (setC s) t (0, 0)))
    (h : wpListIn F n Tryd.prog ops Q rest (a.put o.dst (setV s)) w) : wpListIn F n Tryd.prog ops Q (o :: rest) a w := by
  refine wpListIn_plain hgd fun K hK' => ?_
  unfold Oper.wpIn
  refine ⟨?_, ?_⟩
  · simp [Oper.about, ho]
  · rw [Oper.semAt_plain F _ _ (by rw [ho]; intro c hc'; cases hc')]
    unfold execOp
    simp only [ho, hx, Instr.loadAt, Instr.sureAddr, Sem.run_bind, Sem.run_pure, Result.andThen_ok, run_loadVar_row w g t 24 (setC s) (0, 0) _ hg undS rfl (infoS' s)]
    exact hK' _ _ h
theorem first_calls' (s : BitVec 256) (f : Nat) (h1 : f ≤ 256) (w : World) (hT : Tab w) :
    Calls Tryd.prog 9 #[setV s, .int .i64 f] w fun e w' => e = .returned (firstV (firstF s f)) ∧ Below w.heap.size w w' :=
  (first_calls s f (by omega) (by omega) w hT).mono fun e w' ⟨⟨o, ho, he⟩, hb⟩ => ⟨by rw [he, firstF_eq ho, Int.toNat_natCast], hb⟩
theorem rows_calls (s : BitVec 256) (w : World) :
    Calls Tryd.prog 33 #[setV s] w fun e w' => e = .returned (.func (.func 37) #[] #[.pointer (some ⟨w.heap.size, 0, none⟩)]) ∧ w' = w.alloc (.cells (setC s) 24) := by
  go_enter Tryd.func33, Tryd.ntmps33
  go_wp2_with (refine box_set rfl (.tmp 0) rfl s rfl ?_)
  go_ret
  exact ⟨rfl, rfl⟩
def pairV (x : Nat × Nat) : Value := .agg #[.int .u8 (x.1 : Int), .int .u8 (x.2 : Int)]
/-- what a round keeps -/
def Kpt (g n₀ : Nat) (W W' : World) : Prop := ∀ i, (i < n₀ ∨ i = g) → W'.heap[i]? = W.heap[i]?
theorem Kpt.trans {g n₀ : Nat} {A B C : World} (h : Kpt g n₀ A B) (k : Kpt g n₀ B C) : Kpt g n₀ A C := fun i hi => (k i hi).trans (h i hi)
theorem Tab.kpt {w w' : World} {g n₀ : Nat} (h : Tab w) (hk : Kpt g n₀ w w') (hn : 0 < n₀) : Tab w' := fun j hj => (World.cell?_of_block (hk _ (.inl hn))).trans (h j hj)
set_option maxRecDepth 100000 in
set_option maxHeartbeats 1000000 in
theorem rows1_in (n : Nat) (hn : 1 ≤ n) (l g n₀ : Nat) (s : BitVec 256) (J Jx : List (Nat × Nat) → World → Prop) (W : World)
    (hJ : AbidesFrom W.heap.size J)
    (hY : ∀ pre x W1, J pre W1 → pre.length < 256 → YieldAt Fence.wide (n - 1) Tryd.prog l #[pairV x] W1 fun e W' =>
      (e = .returned (.bool true) ∧ J (pre ++ [x]) W' ∧ Kpt g n₀ W1 W') ∨ (e = .returned (.bool false) ∧ Jx (pre ++ [x]) W'))
    (hg : W.heap[g]? = some (.cells (setC s) 24 (0, 0))) (hT : Tab W) (hn₀ : 0 < n₀) (h0 : J [] W) :
    CallsIn Fence.wide n Tryd.prog 37 #[.func (.yield l) #[] #[], .pointer (some ⟨g, 0, none⟩)] W fun e W' => (∃ v, e = .returned v) ∧
      ((∃ ys, ys = rowsS s ∧ J ys W') ∨ (∃ pre, pre <+: rowsS s ∧ Jx pre W')) := by
  refine callsIn_of_wp Tryd.func37 rfl trivial ?_ rfl
  simp only [Tryd.ntmps37, List.size_toArray, List.length_cons, List.length_nil, Nat.reduceAdd, Nat.reduceSub, Array.replicate_succ, Array.replicate_zero, List.push_toArray, List.append_toArray, List.nil_append, List.cons_append]
  have HY := Lib.hid hY
  have HJ := Lib.hid hJ
  clear hY hJ
  gi_wp2
  gi_loopw [3] (fun p wr => ∃ (pre : List (Nat × Nat)) (k f : Nat), p = .int .i64 f ∧ f ≤ 256 ∧ 257 ≤ k + f ∧ pre.length ≤ f ∧ pre ++ rowsF s k f = rowsS s ∧ wr.heap[g]? = some (.cells (setC s) 24 (0, 0)) ∧ Tab wr ∧ J pre wr)
    (fun p _ => (256 - intOf p).toNat)
  case atStart => exact ⟨[], 257, 0, rfl, by omega, by omega, by simp, rfl, hg, hT, h0⟩
  case round =>
    obtain ⟨pre, k, f, rfl, hf, hk, hl, hpre, hgr, hTr, hJr⟩ := hrel
    have HG := Lib.hid hgr
    have HT := Lib.hid hTr
    have HP := Lib.hid hpre
    clear hgr hTr hpre
    by_cases hlt : f < 256
    · cases hlo : firstF s f with
      | none =>
        have HL := Lib.hid hlo
        clear hlo
        gi_wp2_with (first | (refine ld_set_in rfl (.tmp 1) rfl _ rfl _ _ HG.out ?_) | (refine ⟨trivial, ?_⟩; gi_at_call 9; refine (callsIn_wide.2 (first_calls' s f hf _ HT.out)).mono ?_; rintro e w1 ⟨rfl, hb1⟩; rw [HL.out]; unfold firstV))
        refine bodyPost_ret (results_none rfl _ _ _) rfl ?_
        exact ⟨⟨_, rfl⟩, .inl ⟨pre, by rw [← HP.out, rowsF_none s k f HL.out, List.append_nil], HJ.out _ _ _ none hJr (grown_of_below (below_le hb1 (Nat.le_refl _)) none) (fun r e => by cases e)⟩⟩
      | some lo =>
        obtain ⟨hlo1, hlo2, hlo3, hlo4⟩ := row_end s f lo hlo
        obtain ⟨k, rfl⟩ : ∃ m, k = m + 1 := ⟨k - 1, by omega⟩
        have hR0 := rowsF_some s k f lo hlo
        have HL := Lib.hid hlo
        clear hlo
        cases he : firstF (~~~ s) lo with
        | none =>
          have HE := Lib.hid he
          clear he
          rw [HE.out] at hlo3 hlo4
          simp only [Option.getD_none] at hlo3 hlo4
          rw [HE.out] at hR0
          have HRR := Lib.hid hR0
          clear hR0
          have tok1 : True := trivial
          gi_wp2_with (first | (refine ld_set_in rfl (.tmp 1) rfl _ rfl _ _ HG.out ?_) | (refine ⟨trivial, ?_⟩; gi_at_call 9; have _t := tok1; refine (callsIn_wide.2 (first_calls' s f hf _ HT.out)).mono ?_; rintro e w1 ⟨rfl, hb1⟩; rw [HL.out]; unfold firstV; have HG1 := Lib.hid (below_all hb1 HG.out); have HT1 := Lib.hid (HT.out.below hb1); clear tok1 _t) |
            (refine ld_set_in rfl (.tmp 1) rfl _ rfl _ _ HG1.out ?_) | (refine ⟨trivial, ?_⟩; gi_at_call 18; refine (callsIn_wide.2 (not_calls s _)).mono ?_; rintro e w2 ⟨rfl, hb2⟩; have HG2 := Lib.hid (below_all hb2 HG1.out); have HT2 := Lib.hid (HT1.out.below hb2)) |
            (refine ⟨trivial, ?_⟩; gi_at_call 9; refine (callsIn_wide.2 (first_calls' (~~~ s) lo (by omega) _ HT2.out)).mono ?_; rintro e w3 ⟨rfl, hb3⟩; rw [HE.out]; unfold firstV; obtain ⟨fn, tmps, assign, body, hy, hR⟩ := HY.out pre (lo, 255) w3 (HJ.out _ _ _ none (HJ.out _ _ _ none (HJ.out _ _ _ none hJr (grown_of_below hb1 none) (fun r e => by cases e)) (grown_of_below hb2 none) (fun r e => by cases e)) (grown_of_below hb3 none) (fun r e => by cases e)) (by omega); change (Instr.yield l #[Value.agg #[Value.int IntKind.u8 (lo : Int), Value.int IntKind.u8 255]]).run Tryd.prog w3 = _ at hy))
          refine hR.mono ?_
          rintro e W3 (⟨rfl, hJ3, hk3⟩ | ⟨rfl, hJx3⟩)
          · gi_wp2
            refine ⟨⟨pre ++ [(lo, 255)], k, 256, rfl, by omega, by omega, by simp; omega, ?_, (hk3 g (.inr rfl)).trans (below_all hb3 HG2.out), (HT2.out.below hb3).kpt hk3 hn₀, hJ3⟩, by simp [intOf]; omega⟩
            rw [← HP.out, HRR.out, List.append_assoc]; rfl
          · gi_wp2
            refine bodyPost_ret (results_none rfl _ _ _) rfl ?_
            exact ⟨⟨_, rfl⟩, .inr ⟨pre ++ [(lo, 255)], ⟨rowsF s k 256, by rw [← HP.out, HRR.out, List.append_assoc]; rfl⟩, hJx3⟩⟩
        | some e =>
          have hee : e < 256 := by have := isFirst_firstF (~~~ s) lo; rw [he] at this; exact this.2.1
          have HE := Lib.hid he
          clear he
          rw [HE.out] at hlo3 hlo4
          simp only [Option.getD_some] at hlo3 hlo4
          obtain ⟨e, rfl⟩ : ∃ m, e = m + 1 := ⟨e - 1, by omega⟩
          rw [HE.out] at hR0
          have HRR := Lib.hid hR0
          clear hR0
          have tok1 : True := trivial
          gi_wp2_with (first | (refine ld_set_in rfl (.tmp 1) rfl _ rfl _ _ HG.out ?_) | (refine ⟨trivial, ?_⟩; gi_at_call 9; have _t := tok1; refine (callsIn_wide.2 (first_calls' s f hf _ HT.out)).mono ?_; rintro e0 w1 ⟨rfl, hb1⟩; rw [HL.out]; unfold firstV; have HG1 := Lib.hid (below_all hb1 HG.out); have HT1 := Lib.hid (HT.out.below hb1); clear tok1 _t) |
            (refine ld_set_in rfl (.tmp 1) rfl _ rfl _ _ HG1.out ?_) | (refine ⟨trivial, ?_⟩; gi_at_call 18; refine (callsIn_wide.2 (not_calls s _)).mono ?_; rintro e0 w2 ⟨rfl, hb2⟩; have HG2 := Lib.hid (below_all hb2 HG1.out); have HT2 := Lib.hid (HT1.out.below hb2)) |
            (refine ⟨trivial, ?_⟩; gi_at_call 9; refine (callsIn_wide.2 (first_calls' (~~~ s) lo (by omega) _ HT2.out)).mono ?_; rintro e0 w3 ⟨rfl, hb3⟩; rw [HE.out]; unfold firstV; obtain ⟨fn, tmps, assign, body, hy, hR⟩ := HY.out pre (lo, e) w3 (HJ.out _ _ _ none (HJ.out _ _ _ none (HJ.out _ _ _ none hJr (grown_of_below hb1 none) (fun r e => by cases e)) (grown_of_below hb2 none) (fun r e => by cases e)) (grown_of_below hb3 none) (fun r e => by cases e)) (by omega); change (Instr.yield l #[Value.agg #[Value.int IntKind.u8 (lo : Int), Value.int IntKind.u8 (e : Int)]]).run Tryd.prog w3 = _ at hy))
          refine hR.mono ?_
          rintro e0 W3 (⟨rfl, hJ3, hk3⟩ | ⟨rfl, hJx3⟩)
          · gi_wp2
            refine ⟨⟨pre ++ [(lo, e)], k, e + 1, by go_num, by omega, by omega, by simp; omega, ?_, (hk3 g (.inr rfl)).trans (below_all hb3 HG2.out), (HT2.out.below hb3).kpt hk3 hn₀, hJ3⟩, by simp [intOf]; omega⟩
            rw [← HP.out, HRR.out, List.append_assoc]; rfl
          · gi_wp2
            refine bodyPost_ret (results_none rfl _ _ _) rfl ?_
            exact ⟨⟨_, rfl⟩, .inr ⟨pre ++ [(lo, e)], ⟨rowsF s k (e + 1), by rw [← HP.out, HRR.out, List.append_assoc]; rfl⟩, hJx3⟩⟩
    · gi_wp2
      go_end0
      exact ⟨⟨_, rfl⟩, .inl ⟨pre, by rw [← HP.out, rowsF_big s k f (by omega), List.append_nil], hJr⟩⟩
end Go.Proofs.YtekodfpjoehooaaDoor.Bs
