/- The walks of Not, Rep, and of the reference's Rep. -/
import Derived.Test.YtekodfpjoehooaaNodeW17
namespace Go.Proofs.Ytekodfpjoehooaa.Bs
open Go.RowKit Mem Reg
/-- a slice of one node -/
theorem kids_one {w : World} {Q : Nat → Prop} {g c ty : Nat} {op : Int} {s : BitVec 256} {mn mx : Int} {kv : Value} {ks : List Nd} (h : w.heap[g]? = some (.cells (ndC op s mn mx kv) ty (0, 0))) (hk : Kids w Q kv ks) (hq : Q g) : Kids w Q (.slice (some ⟨g, 0, none⟩) 1 c) [.mk op s mn mx ks] := by
  refine .mk (some ⟨g, 0, none⟩) c [.mk op s mn mx ks] (fun _ => kv) (by simp) (fun _ => ⟨g, 0, rfl, hq, fun i op' s' mn' mx' kk hi => ?_⟩) fun i op' s' mn' mx' kk hi => ?_
  · cases i with
    | zero => simp at hi; obtain ⟨rfl, rfl, rfl, rfl, rfl⟩ := hi; exact range_row h
    | succ i => simp at hi
  · cases i with
    | zero => simp at hi; obtain ⟨rfl, rfl, rfl, rfl, rfl⟩ := hi; exact hk
    | succ i => simp at hi
theorem sum_one (t : Nd) : ([t].map Nd.size).sum = t.size := by simp
set_option maxHeartbeats 3200000 in
set_option maxRecDepth 100000 in
theorem notN_calls (t : Nd) (hs : t.size ≤ 1000000) (Q : Nat → Prop) (v : Value) (w : World) (hv : NodeV w Q v t) :
    Calls Try.prog 20 #[v] w fun e w' => (∃ r, e = .returned (ndV 5 0#256 0 0 r) ∧ Kids w' (fun b => w.heap.size ≤ b) r [t]) ∧ Below w.heap.size w w' := by
  obtain ⟨op, st, mn, mx, ks⟩ := t
  obtain ⟨kv, rfl, hk⟩ := hv
  have HK := Lib.hid hk
  have HC := Lib.hid (of_calls 5 [.mk op st mn mx ks] (by rw [sum_one]; exact hs) (fun _ => True))
  clear hk hs
  have hb2 := below_alloc2 w (.cells (ndC op st mn mx kv) 28) (.cells (ndC 0 0#256 0 0 (.slice none 0 0)) 28)
  have hb3 : Below w.heap.size w (((w.alloc (.cells (ndC op st mn mx kv) 28)).alloc (.cells (ndC 0 0#256 0 0 (.slice none 0 0)) 28)).alloc (.cells (ndC op st mn mx kv) 28)) := hb2.alloc (by simp; omega) _
  have hg1 := below_all ((Below.refl _ ((w.alloc (.cells (ndC op st mn mx kv) 28)).alloc (.cells (ndC 0 0#256 0 0 (.slice none 0 0)) 28))).alloc (Nat.le_refl _) (.cells (ndC op st mn mx kv) 28)) (heap_alloc2_old w (.cells (ndC op st mn mx kv) 28) (.cells (ndC 0 0#256 0 0 (.slice none 0 0)) 28))
  have hg2 := below_all ((Below.refl _ ((w.alloc (.cells (ndC op st mn mx kv) 28)).alloc (.cells (ndC 0 0#256 0 0 (.slice none 0 0)) 28))).alloc (Nat.le_refl _) (.cells (ndC op st mn mx kv) 28)) (heap_alloc2_new w (.cells (ndC op st mn mx kv) 28) (.cells (ndC 0 0#256 0 0 (.slice none 0 0)) 28))
  have hg0 := heap_alloc2_old w (.cells (ndC op st mn mx kv) 28) (.cells (ndC 0 0#256 0 0 (.slice none 0 0)) 28)
  have hg3 : (((w.alloc (.cells (ndC op st mn mx kv) 28)).alloc (.cells (ndC 0 0#256 0 0 (.slice none 0 0)) 28)).alloc (.cells (ndC op st mn mx kv) 28)).heap[w.heap.size + 2]? = some (.cells (ndC op st mn mx kv) 28 (0, 0)) := by rw [show w.heap.size + 2 = ((w.alloc (.cells (ndC op st mn mx kv) 28)).alloc (.cells (ndC 0 0#256 0 0 (.slice none 0 0)) 28)).heap.size by simp]; exact heap_alloc_new _ _
  have hz3 : (((w.alloc (.cells (ndC op st mn mx kv) 28)).alloc (.cells (ndC 0 0#256 0 0 (.slice none 0 0)) 28)).alloc (.cells (ndC op st mn mx kv) 28)).heap.size = w.heap.size + 3 := by simp
  have HZ : Hid (ndC 0 0#256 0 0 (.slice none 0 0) = #[.int .i64 0, .int .u64 0, .int .u64 0, .int .u64 0, .int .u64 0, .int .i64 0, .int .i64 0, .slice none 0 0]) := Lib.hid rfl
  have hks : Kids (((w.alloc (.cells (ndC op st mn mx kv) 28)).alloc (.cells (ndC 0 0#256 0 0 (.slice none 0 0)) 28)).alloc (.cells (ndC op st mn mx kv) 28)) (fun _ => True) (.slice (some ⟨w.heap.size + 2, 0, none⟩) 1 1) [.mk op st mn mx ks] := kids_one hg3 ((HK.out.keep hb3).wide fun _ _ _ => trivial) trivial
  rw [HZ.out] at hb2 hb3 hg0 hg1 hg2 hg3 hz3 hks
  have HB3 := Lib.hid hb3
  have HG0 := Lib.hid hg0
  have HG1 := Lib.hid hg1
  have HG2 := Lib.hid hg2
  have HG3 := Lib.hid hg3
  have HKS := Lib.hid hks
  have hz3' := hz3
  clear hb2 hb3 hg0 hg1 hg2 hg3 hks hz3
  go_enter Try.func20, Try.ntmps20
  go_wp2_with (first | (refine box_nd rfl (.tmp 0) rfl op st mn mx _ rfl ?_) | (refine ld_nd_mid rfl (.tmp 1) rfl _ _ rfl _ _ _ _ _ (range_row HG0.out) ?_) | (refine build_nd1 rfl (.tmp 3) rfl op st mn mx kv rfl ?_) |
    (go_at_call 39; refine (HC.out _ _ HKS.out).mono ?_; rintro e w4 ⟨⟨r, rfl, hk4⟩, hb4⟩; have HK4 := Lib.hid hk4; have H4 := Lib.hid hk4.oneCell; have HB4 := Lib.hid hb4; have HG4 := Lib.hid (below_all hb4 HG2.out); clear hk4 hb4) |
    (refine st_nd rfl (.tmp 2) (.tmp 5) rfl _ rfl 5 0#256 0 0 r rfl H4.out _ rfl _ HG4.out ?_; intro w5 hg5 hgr5))
  have hz4 : w.heap.size + 3 ≤ w4.heap.size := by rw [← hz3']; exact HB4.out.size
  refine ret_nd 2 rfl _ _ 5 0#256 0 0 _ rfl hg5 rfl ⟨⟨_, rfl, HK4.out.move fun b hq hlt => ?_⟩, (below_more HB3.out (by omega) HB4.out).grown hgr5 (by omega) (fun k e => by simp only [Option.some.injEq] at e; omega)⟩
  rw [hz3'] at hq
  exact ⟨by omega, hgr5.block b hlt (fun e => by simp only [Option.some.injEq] at e; omega)⟩
set_option maxHeartbeats 3200000 in
set_option maxRecDepth 100000 in
theorem rep_calls (t : Nd) (least most : Int) (hs : t.size ≤ 1000000) (Q : Nat → Prop) (v : Value) (w : World) (hv : NodeV w Q v t) :
    Calls Try.prog 21 #[v, .int .i64 least, .int .i64 most] w fun e w' => (∃ r, e = .returned (ndV 3 0#256 least most r) ∧ Kids w' (fun b => w.heap.size ≤ b) r [t]) ∧ Below w.heap.size w w' := by
  obtain ⟨op, st, mn, mx, ks⟩ := t
  obtain ⟨kv, rfl, hk⟩ := hv
  have HK := Lib.hid hk
  have HC := Lib.hid (of_calls 3 [.mk op st mn mx ks] (by rw [sum_one]; exact hs) (fun _ => True))
  clear hk hs
  have hb2 := below_alloc2 w (.cells (ndC op st mn mx kv) 28) (.cells (ndC 0 0#256 0 0 (.slice none 0 0)) 28)
  have hb3 : Below w.heap.size w (((w.alloc (.cells (ndC op st mn mx kv) 28)).alloc (.cells (ndC 0 0#256 0 0 (.slice none 0 0)) 28)).alloc (.cells (ndC op st mn mx kv) 28)) := hb2.alloc (by simp; omega) _
  have hg1 := below_all ((Below.refl _ ((w.alloc (.cells (ndC op st mn mx kv) 28)).alloc (.cells (ndC 0 0#256 0 0 (.slice none 0 0)) 28))).alloc (Nat.le_refl _) (.cells (ndC op st mn mx kv) 28)) (heap_alloc2_old w (.cells (ndC op st mn mx kv) 28) (.cells (ndC 0 0#256 0 0 (.slice none 0 0)) 28))
  have hg2 := below_all ((Below.refl _ ((w.alloc (.cells (ndC op st mn mx kv) 28)).alloc (.cells (ndC 0 0#256 0 0 (.slice none 0 0)) 28))).alloc (Nat.le_refl _) (.cells (ndC op st mn mx kv) 28)) (heap_alloc2_new w (.cells (ndC op st mn mx kv) 28) (.cells (ndC 0 0#256 0 0 (.slice none 0 0)) 28))
  have hg0 := heap_alloc2_old w (.cells (ndC op st mn mx kv) 28) (.cells (ndC 0 0#256 0 0 (.slice none 0 0)) 28)
  have hg3 : (((w.alloc (.cells (ndC op st mn mx kv) 28)).alloc (.cells (ndC 0 0#256 0 0 (.slice none 0 0)) 28)).alloc (.cells (ndC op st mn mx kv) 28)).heap[w.heap.size + 2]? = some (.cells (ndC op st mn mx kv) 28 (0, 0)) := by rw [show w.heap.size + 2 = ((w.alloc (.cells (ndC op st mn mx kv) 28)).alloc (.cells (ndC 0 0#256 0 0 (.slice none 0 0)) 28)).heap.size by simp]; exact heap_alloc_new _ _
  have hz3 : (((w.alloc (.cells (ndC op st mn mx kv) 28)).alloc (.cells (ndC 0 0#256 0 0 (.slice none 0 0)) 28)).alloc (.cells (ndC op st mn mx kv) 28)).heap.size = w.heap.size + 3 := by simp
  have HZ : Hid (ndC 0 0#256 0 0 (.slice none 0 0) = #[.int .i64 0, .int .u64 0, .int .u64 0, .int .u64 0, .int .u64 0, .int .i64 0, .int .i64 0, .slice none 0 0]) := Lib.hid rfl
  have hks : Kids (((w.alloc (.cells (ndC op st mn mx kv) 28)).alloc (.cells (ndC 0 0#256 0 0 (.slice none 0 0)) 28)).alloc (.cells (ndC op st mn mx kv) 28)) (fun _ => True) (.slice (some ⟨w.heap.size + 2, 0, none⟩) 1 1) [.mk op st mn mx ks] := kids_one hg3 ((HK.out.keep hb3).wide fun _ _ _ => trivial) trivial
  rw [HZ.out] at hb2 hb3 hg0 hg1 hg2 hg3 hz3 hks
  have HB3 := Lib.hid hb3
  have HG0 := Lib.hid hg0
  have HG1 := Lib.hid hg1
  have HG2 := Lib.hid hg2
  have HG3 := Lib.hid hg3
  have HKS := Lib.hid hks
  have hz3' := hz3
  clear hb2 hb3 hg0 hg1 hg2 hg3 hks hz3
  go_enter Try.func21, Try.ntmps21
  go_upto_region 2 with (first | (refine box_nd rfl (.tmp 0) rfl op st mn mx _ rfl ?_) | (refine ld_nd_mid rfl (.tmp 3) rfl _ _ rfl _ _ _ _ _ (range_row HG0.out) ?_) | (refine build_nd1 rfl (.tmp 8) rfl op st mn mx kv rfl ?_) |
    (go_at_call 39; refine (HC.out _ _ HKS.out).mono ?_; rintro e w4 ⟨⟨r, rfl, hk4⟩, hb4⟩; have HK4 := Lib.hid hk4; have H4 := Lib.hid hk4.oneCell; have HB4 := Lib.hid hb4; have HG4 := Lib.hid (below_all hb4 HG2.out); clear hk4 hb4) |
    (refine st_nd rfl (.tmp 7) (.tmp 10) rfl _ rfl 3 0#256 0 0 r rfl H4.out _ rfl _ (heap_alloc_new _ _) ?_; intro w5 hg5 hgr5))
  have hz4 : w.heap.size + 3 ≤ w4.heap.size := by rw [← hz3']; exact HB4.out.size
  have hz5 : w4.heap.size + 1 ≤ w5.heap.size := by simpa using hgr5.size
  have hb5 : Below w4.heap.size w4 w5 := ((Below.refl _ _).alloc (Nat.le_refl _) _).grown hgr5 (by simp) (fun k e => by cases e; omega)
  have HG5 := Lib.hid (below_all hb5 HG4.out)
  have HB5 := Lib.hid (below_more (below_more HB3.out (by omega) HB4.out) (by omega) hb5)
  have hc5 : w5.cell? ⟨w4.heap.size, 5, none⟩ = some (.int .i64 0) := by rw [cell_of_row _ _ _ _ _ _ hg5]; rfl
  have hf5 := frozen_of_row w5 w4.heap.size 5 _ _ hg5
  have hc6 : w5.cell? ⟨w4.heap.size, 6, none⟩ = some (.int .i64 0) := by rw [cell_of_row _ _ _ _ _ _ hg5]; rfl
  have hf6 := frozen_of_row w5 w4.heap.size 6 _ _ hg5
  have HS6 : Hid (((w5.setCell ⟨w4.heap.size, 5, none⟩ (.int .i64 least)).setCell ⟨w4.heap.size, 6, none⟩ (.int .i64 most)).heap[w4.heap.size]? = some (.cells (ndC 3 0#256 least most r) 28 (0, 0))) := Lib.hid (heap_setCell_same _ _ 6 _ _ _ (heap_setCell_same _ _ 5 _ _ (.int .i64 least) hg5))
  have HGR6 := Lib.hid (grown_trans (grown_setCell w5 w4.heap.size 5 (.int .i64 least)) (grown_setCell _ w4.heap.size 6 (.int .i64 most)))
  have HG6 := Lib.hid (heap_kept HGR6.out HG5.out (fun e => by simp only [Option.some.injEq] at e; omega))
  have HB6 := Lib.hid (HB5.out.grown HGR6.out (by omega) (fun k e => by simp only [Option.some.injEq] at e; omega))
  have HK6 := Lib.hid (HK4.out.move (Q' := fun b => (((w.alloc (.cells (ndC op st mn mx kv) 28)).alloc (.cells (ndC 0 0#256 0 0 (.slice none 0 0)) 28)).alloc (.cells (ndC op st mn mx kv) 28)).heap.size ≤ b) fun b hq hlt => ⟨hq, (HGR6.out.block b (by omega) (fun e => by simp only [Option.some.injEq] at e; omega)).trans (hb5.block b hlt)⟩)
  rw [HZ.out] at HK6
  clear hg5 hgr5 hb5
  go_wp2_with (first | (refine ld_nd_mid rfl (.tmp 7) rfl _ _ rfl _ _ _ _ _ (range_row HS6.out) ?_) | (refine st_nd rfl (.tmp 6) (.tmp 15) rfl _ rfl 3 0#256 least most r rfl H4.out _ rfl _ HG6.out ?_; intro w7 hg7 hgr7))
  have hz6 : ((w5.setCell ⟨w4.heap.size, 5, none⟩ (.int .i64 least)).setCell ⟨w4.heap.size, 6, none⟩ (.int .i64 most)).heap.size = w5.heap.size := by simp
  refine ret_nd 6 rfl _ _ 3 0#256 least most _ rfl hg7 rfl ⟨⟨_, rfl, HK6.out.move fun b hq hlt => ?_⟩, HB6.out.grown hgr7 (by omega) (fun k e => by simp only [Option.some.injEq] at e; omega)⟩
  rw [hz3'] at hq
  exact ⟨by omega, hgr7.block b hlt (fun e => by simp only [Option.some.injEq] at e; omega)⟩
set_option maxHeartbeats 3200000 in
set_option maxRecDepth 100000 in
theorem rrep_calls (t : Nd) (least most : Int) (Q : Nat → Prop) (v : Value) (w : World) (hv : NodeV w Q v t) (hq : ∀ b, w.heap.size ≤ b → Q b) :
    Calls Try.prog 22 #[v, .int .i64 least, .int .i64 most] w fun e w' => (∃ r, e = .returned (ndV 3 0#256 least most r) ∧ Kids w' Q r [t]) ∧ Below w.heap.size w w' := by
  obtain ⟨op, st, mn, mx, ks⟩ := t
  obtain ⟨kv, rfl, hk⟩ := hv
  have HK := Lib.hid hk
  have HQ := Lib.hid hq
  clear hk
  have hb2 := below_alloc2 w (.cells (ndC op st mn mx kv) 28) (.cells (ndC 0 0#256 0 0 (.slice none 0 0)) 28)
  have hb3 : Below w.heap.size w (((w.alloc (.cells (ndC op st mn mx kv) 28)).alloc (.cells (ndC 0 0#256 0 0 (.slice none 0 0)) 28)).alloc (.cells (ndC op st mn mx kv) 28)) := hb2.alloc (by simp; omega) _
  have hg1 := below_all ((Below.refl _ ((w.alloc (.cells (ndC op st mn mx kv) 28)).alloc (.cells (ndC 0 0#256 0 0 (.slice none 0 0)) 28))).alloc (Nat.le_refl _) (.cells (ndC op st mn mx kv) 28)) (heap_alloc2_old w (.cells (ndC op st mn mx kv) 28) (.cells (ndC 0 0#256 0 0 (.slice none 0 0)) 28))
  have hg2 := below_all ((Below.refl _ ((w.alloc (.cells (ndC op st mn mx kv) 28)).alloc (.cells (ndC 0 0#256 0 0 (.slice none 0 0)) 28))).alloc (Nat.le_refl _) (.cells (ndC op st mn mx kv) 28)) (heap_alloc2_new w (.cells (ndC op st mn mx kv) 28) (.cells (ndC 0 0#256 0 0 (.slice none 0 0)) 28))
  have hg0 := heap_alloc2_old w (.cells (ndC op st mn mx kv) 28) (.cells (ndC 0 0#256 0 0 (.slice none 0 0)) 28)
  have hg3 : (((w.alloc (.cells (ndC op st mn mx kv) 28)).alloc (.cells (ndC 0 0#256 0 0 (.slice none 0 0)) 28)).alloc (.cells (ndC op st mn mx kv) 28)).heap[w.heap.size + 2]? = some (.cells (ndC op st mn mx kv) 28 (0, 0)) := by rw [show w.heap.size + 2 = ((w.alloc (.cells (ndC op st mn mx kv) 28)).alloc (.cells (ndC 0 0#256 0 0 (.slice none 0 0)) 28)).heap.size by simp]; exact heap_alloc_new _ _
  have hz3 : (((w.alloc (.cells (ndC op st mn mx kv) 28)).alloc (.cells (ndC 0 0#256 0 0 (.slice none 0 0)) 28)).alloc (.cells (ndC op st mn mx kv) 28)).heap.size = w.heap.size + 3 := by simp
  have HZ : Hid (ndC 0 0#256 0 0 (.slice none 0 0) = #[.int .i64 0, .int .u64 0, .int .u64 0, .int .u64 0, .int .u64 0, .int .i64 0, .int .i64 0, .slice none 0 0]) := Lib.hid rfl
  have hks : Kids (((w.alloc (.cells (ndC op st mn mx kv) 28)).alloc (.cells (ndC 0 0#256 0 0 (.slice none 0 0)) 28)).alloc (.cells (ndC op st mn mx kv) 28)) (fun b => Q b ∧ b ≠ w.heap.size + 1) (.slice (some ⟨w.heap.size + 2, 0, none⟩) 1 1) [.mk op st mn mx ks] := kids_one hg3 (HK.out.move fun b h hlt => ⟨⟨h, by omega⟩, hb3.block b hlt⟩) ⟨hq _ (by omega), by omega⟩
  rw [HZ.out] at hb2 hb3 hg0 hg1 hg2 hg3 hz3 hks
  have HB3 := Lib.hid hb3
  have HG0 := Lib.hid hg0
  have HG1 := Lib.hid hg1
  have HG2 := Lib.hid hg2
  have HG3 := Lib.hid hg3
  have HKS := Lib.hid hks
  have hz3' := hz3
  clear hb2 hb3 hg0 hg1 hg2 hg3 hks hz3
  clear hq
  go_enter Try.func22, Try.ntmps22
  go_wp2_with (first | (refine box_nd rfl (.tmp 0) rfl op st mn mx _ rfl ?_) | (refine ld_nd_mid rfl (.tmp 3) rfl _ _ rfl _ _ _ _ _ (range_row HG0.out) ?_) | (refine build_nd1 rfl (.tmp 9) rfl op st mn mx kv rfl ?_) |
    (refine st_nd rfl (.tmp 6) (.tmp 11) rfl _ rfl 3 0#256 least most (.slice (some ⟨w.heap.size + 2, 0, none⟩) 1 1) rfl rfl _ rfl _ HG2.out ?_; intro w5 hg5 hgr5))
  exact ret_nd 6 rfl _ _ 3 0#256 least most _ rfl hg5 rfl ⟨⟨_, rfl, HKS.out.move fun b hb hlt => ⟨hb.1, hgr5.block b hlt (fun e => by simp only [Option.some.injEq] at e; exact hb.2 e)⟩⟩, HB3.out.grown hgr5 (by simp; omega) (fun k e => by simp only [Option.some.injEq] at e; omega)⟩
end Go.Proofs.Ytekodfpjoehooaa.Bs
