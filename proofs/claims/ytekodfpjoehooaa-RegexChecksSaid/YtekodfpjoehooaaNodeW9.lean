/- The walks of Set and of the reference's Set: not built yet. -/
import Derived.Test.YtekodfpjoehooaaNodeW8
namespace Go.Proofs.Ytekodfpjoehooaa.Bs
open Go.RowKit Mem
/-- a node of a set is built -/
theorem built_set (s : BitVec 256) : Try.prog.built 28 [(0, .int .i64 0), (1, setV s)] = some (ndC 0 s 0 0 (.slice none 0 0)) := by
  unfold setV setC ndC
  generalize (limN s 0 : Int) = a0
  generalize (limN s 1 : Int) = a1
  generalize (limN s 2 : Int) = a2
  generalize (limN s 3 : Int) = a3
  kernel_rfl
theorem build_nd_set {ops : Array Oper} {rest : List Oper} {o : Oper} {a : Act} {w : World} {Q : Exit → Act → World → Prop} (hgd : o.guard = none) (x : Operand) (ho : o.op = .build 28 #[(0, .const (.int .i64 0)), (1, x)])
    (s : BitVec 256) (hx : a.eval x = setV s) (h : wpList Try.prog ops Q rest (a.put o.dst (ndV 0 s 0 0 (.slice none 0 0))) w) : wpList Try.prog ops Q (o :: rest) a w := by
  have e : (Array.map (fun (p : Nat × Operand) => (p.1, a.eval p.2)) #[(0, .const (.int .i64 0)), (1, x)]).toList = [(0, .int .i64 0), (1, setV s)] := by
    simp only [List.map_toArray, List.map_cons, List.map_nil, hx]; rfl
  refine wpList_build hgd 28 _ ho ?_ ?_
  · show (Try.prog.built _ (Array.map (fun (p : Nat × Operand) => (p.1, a.eval p.2)) _).toList).isSome = true
    rw [e, built_set]; rfl
  · show wpList Try.prog ops Q rest (a.put o.dst (.agg ((Try.prog.built _ (Array.map (fun (p : Nat × Operand) => (p.1, a.eval p.2)) _).toList).getD #[]))) w
    rw [e, built_set]; exact h
set_option maxHeartbeats 3200000 in
set_option maxRecDepth 100000 in
theorem set_calls (s : BitVec 256) (w : World) :
    Calls Try.prog 14 #[setV s] w fun e w' => e = .returned (ndV 0 s 0 0 (.slice none 0 0)) ∧ Below w.heap.size w w' := by
  go_enter Try.func14, Try.ntmps14
  go_wp2_with (first | (refine box_set rfl (.tmp 0) rfl s rfl ?_) | (refine ld_set rfl (.tmp 1) rfl _ rfl s _ (heap_alloc2_old _ _ _) ?_) | (refine build_nd_set rfl (.tmp 3) rfl s rfl ?_) | (refine st_nd rfl (.tmp 2) (.tmp 4) rfl _ rfl 0 s 0 0 (.slice none 0 0) rfl rfl _ rfl _ (heap_alloc2_new _ _ _) ?_; intro w2 hg2 hgr2))
  exact ret_nd 2 rfl _ _ 0 s 0 0 _ rfl hg2 rfl ⟨rfl, (((Below.refl w.heap.size w).alloc (Nat.le_refl _) _).alloc (by simp) _).grown hgr2 (by simp; omega) (fun k e => by cases e; simp)⟩
set_option maxHeartbeats 3200000 in
set_option maxRecDepth 100000 in
theorem rset_calls (s : BitVec 256) (w : World) :
    Calls Try.prog 15 #[setV s] w fun e w' => e = .returned (ndV 0 s 0 0 (.slice none 0 0)) ∧ Below w.heap.size w w' := by
  go_enter Try.func15, Try.ntmps15
  go_wp2_with (first | (refine box_set rfl (.tmp 0) rfl s rfl ?_) | (refine ld_set rfl (.tmp 1) rfl _ rfl s _ (heap_alloc2_old _ _ _) ?_) | (refine build_nd_set rfl (.tmp 3) rfl s rfl ?_) | (refine st_nd rfl (.tmp 2) (.tmp 4) rfl _ rfl 0 s 0 0 (.slice none 0 0) rfl rfl _ rfl _ (heap_alloc2_new _ _ _) ?_; intro w2 hg2 hgr2))
  exact ret_nd 2 rfl _ _ 0 s 0 0 _ rfl hg2 rfl ⟨rfl, (((Below.refl w.heap.size w).alloc (Nat.le_refl _) _).alloc (by simp) _).grown hgr2 (by simp; omega) (fun k e => by cases e; simp)⟩
end Go.Proofs.Ytekodfpjoehooaa.Bs
