/- Small runs over nodes and sets, for regions by debts; calls of function values with two arguments. -/
import Derived.Test.YtekodfpjoehooaaNodeW9
import Derived.Test.YtekodfpjoehooaaSeq
namespace Go.Proofs.Ytekodfpjoehooaa.Bs
open Go.RowKit Mem Reg
section
variable {w : World} {ρ : Operand → Value} {o : Oper}
theorem run_eql_set (x y : Operand) (ty' : TypeId) (ho : o.op = .binOp .eql 24 x y ty') (s t : BitVec 256) (hx : ρ x = setV s) (hy : ρ y = setV t) : (execOp ρ o).run Try.prog w = .ok (.value (.bool (s == t))) w := by
  unfold execOp
  simp only [ho, hx, hy, Sem.run_bind, Sem.run_pure, Result.andThen_ok, eqGuard_set, eql_set]
theorem run_neq_set (x y : Operand) (ty' : TypeId) (ho : o.op = .binOp .neq 24 x y ty') (s t : BitVec 256) (hx : ρ x = setV s) (hy : ρ y = setV t) : (execOp ρ o).run Try.prog w = .ok (.value (.bool (!(s == t)))) w := by
  unfold execOp
  simp only [ho, hx, hy, Sem.run_bind, Sem.run_pure, Result.andThen_ok, eqGuard_set, neq_set]
theorem run_load_st (x : Operand) (ho : o.op = .load 24 x) (b k : Nat) (hx : ρ x = .pointer (some ⟨b, k, none⟩)) (s : BitVec 256) (h : w.rangeAt b k (setC s).toList) : (execOp ρ o).run Try.prog w = .ok (.value (setV s)) w := by
  unfold execOp
  simp only [ho, hx, run_loadAt_mid w b k _ (setC s).toList _ h undS rfl (infoS' s), Sem.run_bind, Sem.run_pure, Result.andThen_ok]
  rfl
theorem run_load_nd (x : Operand) (ho : o.op = .load 28 x) (b k : Nat) (hx : ρ x = .pointer (some ⟨b, k, none⟩)) (op : Int) (s : BitVec 256) (mn mx : Int) (kv : Value) (h : w.rangeAt b k (ndC op s mn mx kv).toList) : (execOp ρ o).run Try.prog w = .ok (.value (ndV op s mn mx kv)) w := by
  obtain ⟨d, hd1, hd2⟩ := undN
  unfold execOp
  simp only [ho, hx, run_loadAt_mid w b k _ (ndC op s mn mx kv).toList d h hd1 hd2 (infoN op s mn mx kv), Sem.run_bind, Sem.run_pure, Result.andThen_ok]
  rfl
end
theorem run_load_st' (w : World) (b k : Nat) (s : BitVec 256) (h : w.rangeAt b k (setC s).toList) : ((do pure (.value (← Instr.loadAt 24 (.pointer (some ⟨b, k, none⟩)))) : Sem Next)).run Try.prog w = .ok (.value (setV s)) w := by
  simp only [run_loadAt_mid w b k _ (setC s).toList _ h undS rfl (infoS' s), Sem.run_bind, Sem.run_pure, Result.andThen_ok]
  rfl
theorem run_load_nd' (w : World) (b k : Nat) (op : Int) (s : BitVec 256) (mn mx : Int) (kv : Value) (h : w.rangeAt b k (ndC op s mn mx kv).toList) : ((do pure (.value (← Instr.loadAt 28 (.pointer (some ⟨b, k, none⟩)))) : Sem Next)).run Try.prog w = .ok (.value (ndV op s mn mx kv)) w := by
  obtain ⟨d, hd1, hd2⟩ := undN
  simp only [run_loadAt_mid w b k _ (ndC op s mn mx kv).toList d h hd1 hd2 (infoN op s mn mx kv), Sem.run_bind, Sem.run_pure, Result.andThen_ok]
  rfl
/-- a slice literal of two sets -/
theorem run_build_set2 (w : World) (s t : BitVec 256) : (Instr.buildSlice 47 2 #[(0, setV s), (1, setV t)]).run Try.prog w = .ok (.slice (some ⟨w.heap.size, 0, none⟩) 2 2) (w.alloc (.cells (setC s ++ setC t) 24)) := by
  obtain ⟨i0, hi, hz0, hz1, hz2⟩ := info_parts infoSet
  refine run_buildSlice w 47 24 2 _ (setC s ++ setC t) i0 _ undSets hi hz0 (by rw [hz1]; decide) (by rw [hz1]; decide) ?_
  simp only [hz1]
  unfold setV setC
  generalize (limN s 0 : Int) = a0
  generalize (limN s 1 : Int) = a1
  generalize (limN s 2 : Int) = a2
  generalize (limN s 3 : Int) = a3
  generalize (limN t 0 : Int) = b0
  generalize (limN t 1 : Int) = b1
  generalize (limN t 2 : Int) = b2
  generalize (limN t 3 : Int) = b3
  kernel_rfl
theorem sets_two {w : World} {g ty c : Nat} {s t : BitVec 256} (h : w.heap[g]? = some (.cells (setC s ++ setC t) ty (0, 0))) : Sets w (.slice (some ⟨g, 0, none⟩) 2 c) [s, t] := by
  refine ⟨some ⟨g, 0, none⟩, c, rfl, by simp, fun _ => ⟨g, 0, rfl, fun i x hx => ?_⟩⟩
  have h0 := range_row h
  intro j v hj
  rw [Nat.zero_add]
  have hj4 : j < 4 := (List.getElem?_eq_some_iff.1 hj).1
  match i, hx with
  | 0, hx =>
    cases hx
    have := h0 j v (by rw [Array.toList_append, List.getElem?_append_left (by rw [setL_length]; exact hj4)]; exact hj)
    simpa using this
  | 1, hx =>
    cases hx
    have := h0 (4 + j) v (by rw [Array.toList_append, List.getElem?_append_right (by rw [setL_length]; omega), setL_length, Nat.add_sub_cancel_left]; exact hj)
    simpa using this
  | i + 2, hx => simp at hx

theorem run_index_nd {w : World} {ρ : Operand → Value} {o : Oper} (x y : Operand) (ho : o.op = .indexAddr 26 x y) (g off n c k r : Nat) (hx : ρ x = .slice (some ⟨g, off, none⟩) n c) (hy : ρ y = .int .i64 (k : Int)) (hk : k < n) (hr : off + k * 8 = r) : (execOp ρ o).run Try.prog w = .ok (.value (.pointer (some ⟨g, r, none⟩))) w := by
  subst hr
  unfold execOp
  simp only [ho, hx, hy]
  go_simp
theorem nd_set {w : World} {g : Nat} {op : Int} {s : BitVec 256} {mn mx : Int} {kv : Value} {t : TypeId} (h : w.heap[g]? = some (.cells (ndC op s mn mx kv) t (0, 0))) : w.rangeAt g 1 (setC s).toList := by
  intro j v hj
  have hj4 : j < 4 := (List.getElem?_eq_some_iff.1 hj).1
  rw [cell_of_row w g _ _ _ _ h]
  rcases (by omega : j = 0 ∨ j = 1 ∨ j = 2 ∨ j = 3) with rfl | rfl | rfl | rfl <;> exact hj
/-- a call of a function's value, two arguments -/
theorem call_fn2 {ops : Array Oper} {rest : List Oper} {o : Oper} {a : Act} {w : World} {Q : Exit → Act → World → Prop} (hgd : o.guard = none) (x y z : Operand) (tys : Array TypeId) (ho : o.op = .call { callee := .value x, args := #[y, z], argTypes := tys })
    (F : FuncId) (bs : Array Value) (hx : a.eval x = .func (.func F) #[] bs) (he : ∀ args w, (callFunc F args).run Try.prog w = .ok (.enter F args) w) (yv zv : Value) (hy : a.eval y = yv) (hz : a.eval z = zv) (R : Ending → World → Prop) (hc : Calls Try.prog F (#[yv, zv] ++ bs) w R)
    (h : ∀ e w', R e w' → ∃ v, e = .returned v ∧ wpList Try.prog ops Q rest (a.put o.dst v) w') : wpList Try.prog ops Q (o :: rest) a w :=
  wpList_plain hgd fun K hK => by
    have all : ∀ ρ : Operand → Value, ρ x = .func (.func F) #[] bs → (execOp ρ o).run Try.prog w = .ok (.enter F (#[ρ y, ρ z] ++ bs)) w := fun ρ hρ => by
      unfold execOp
      simp [ho, resolve, hρ, Deferred.ofValue, invoke, go_sem, he]
    have hrun := all a.eval hx
    rw [hy, hz] at hrun
    unfold Oper.wp
    rw [hrun]
    refine hc.mono ?_
    intro e w' hR
    obtain ⟨v, rfl, h'⟩ := h e w' hR
    exact hK _ _ h'
/-- are two things the same? -/
noncomputable def eqB {α : Type} (a b : α) : Bool := @decide (a = b) (Classical.propDecidable _)
theorem eqB_true {α : Type} {a b : α} (h : a = b) : eqB a b = true := by unfold eqB; simp [h]
theorem eqB_false {α : Type} {a b : α} (h : a ≠ b) : eqB a b = false := by unfold eqB; simp [h]
theorem eqB_iff {α : Type} {a b : α} : eqB a b = true ↔ a = b := by unfold eqB; simp
theorem eqB_self {α : Type} (a : α) : eqB a a = true := eqB_true rfl
theorem eqB_mk (op op' : Int) (s s' : BitVec 256) (mn mn' mx mx' : Int) (ks ks' : List Nd) : eqB (Nd.mk op s mn mx ks) (Nd.mk op' s' mn' mx' ks') = ((op == op') && ((s == s') && ((mn == mn') && ((mx == mx') && eqB ks ks')))) := by
  rw [Bool.eq_iff_iff]
  simp [eqB_iff]
theorem take_eq_succ {α : Type} {xs ys : List α} {k : Nat} (h1 : k < xs.length) (h2 : k < ys.length) (h : xs.take k = ys.take k) (he : xs[k] = ys[k]) : xs.take (k + 1) = ys.take (k + 1) := by
  rw [List.take_succ_eq_append_getElem h1, List.take_succ_eq_append_getElem h2, h, he]
theorem ne_at {α : Type} {xs ys : List α} {k : Nat} (h1 : k < xs.length) (h2 : k < ys.length) (he : xs[k] ≠ ys[k]) : xs ≠ ys := by
  rintro rfl; exact he rfl
end Go.Proofs.Ytekodfpjoehooaa.Bs
