/- The walks of Size and Bytes. -/
import Derived.Test.YtekodfpjoehooaaNodeW12
namespace Go.Proofs.Ytekodfpjoehooaa.Bs
open Go.RowKit Mem Reg
theorem tl_zero : tlC 0 0#256 = #[.int .i64 0, .int .u64 0, .int .u64 0, .int .u64 0, .int .u64 0] := rfl
theorem tl_cell {w : World} {g m : Nat} {s : BitVec 256} {t : TypeId} (h : w.heap[g]? = some (.cells (tlC m s) t (0, 0))) : w.cell? ⟨g, 0, none⟩ = some (.int .i64 m) := by
  rw [cell_of_row w g _ _ _ _ h]; rfl
/-- all over a node, by a new count -/
theorem all_new (t : Nd) (Q : Nat → Prop) (v : Value) (w0 w : World) (g : Nat) (hv : NodeV w0 Q v t) (hb : Below w0.heap.size w0 w) (hg : w0.heap.size ≤ g) (hs : t.size ≤ 4611686018427387904) (h : w.heap[g]? = some (.cells #[.int .i64 0, .int .u64 0, .int .u64 0, .int .u64 0, .int .u64 0] 58 (0, 0))) :
    Calls Try.prog 42 #[.pointer (some ⟨g, 0, none⟩), v] w fun e w' => e = .returned (.pointer (some ⟨g, 0, none⟩)) ∧ w'.heap[g]? = some (.cells (tlC t.size t.bytes) 58 (0, 0)) ∧ w.grownBy w' (some g) := by
  obtain ⟨op, st, mn, mx, ks⟩ := t
  obtain ⟨kv, rfl, hk⟩ := hv
  have h2 : NodeV w (fun b => b < w0.heap.size) (ndV op st mn mx kv) (.mk op st mn mx ks) := ⟨kv, rfl, hk.move fun b _ hlt => ⟨hlt, hb.block b hlt⟩⟩
  have h1 := all_aux _ (.mk op st mn mx ks) (Nat.le_refl _) _ _ g 58 0 0#256 w h2 (fun b hb e => by subst e; omega) (by omega) h
  rw [Nat.zero_add, BitVec.zero_or] at h1
  exact h1
set_option maxHeartbeats 3200000 in
set_option maxRecDepth 100000 in
theorem size_calls (t : Nd) (Q : Nat → Prop) (v : Value) (w : World) (hv : NodeV w Q v t) (hs : t.size ≤ 4611686018427387904) :
    Calls Try.prog 25 #[v] w fun e w' => e = .returned (.int .i64 (t.size : Int)) ∧ Below w.heap.size w w' := by
  have HALL := Lib.hid (all_new t Q v w)
  have HV := Lib.hid hv
  obtain ⟨op, st, mn, mx, ks⟩ := t
  obtain ⟨kv, rfl, hk⟩ := hv
  have hb2 := below_alloc2 w (.cells (ndC op st mn mx kv) 28) (.cells (tlC 0 0#256) 58)
  have hg1 := heap_alloc2_old w (.cells (ndC op st mn mx kv) 28) (.cells (tlC 0 0#256) 58)
  have hg2 := heap_alloc2_new w (.cells (ndC op st mn mx kv) 28) (.cells (tlC 0 0#256) 58)
  rw [tl_zero] at hb2 hg1 hg2
  have HB2 := Lib.hid hb2
  have HG1 := Lib.hid hg1
  have HG2 := Lib.hid hg2
  clear hb2 hg1 hg2 hk
  generalize Nd.mk op st mn mx ks = t at *
  generalize t.bytes = bs at *
  generalize t.size = n at *
  go_enter Try.func25, Try.ntmps25
  go_wp2_with (first | (refine box_nd rfl (.tmp 0) rfl op st mn mx _ rfl ?_) | (refine ld_nd_mid rfl (.tmp 1) rfl _ _ rfl _ _ _ _ _ (range_row HG1.out) ?_) |
    (go_at_call 42; refine (HALL.out _ _ HV.out HB2.out (by omega) hs HG2.out).mono ?_; rintro e w3 ⟨rfl, hg3, hgr3⟩; have hc3 := tl_cell hg3; have HG3 := Lib.hid hg3; have HGR3 := Lib.hid hgr3; clear hg3 hgr3))
  go_ret
  exact ⟨rfl, HB2.out.grown HGR3.out (by simp; omega) (fun k e => by simp only [Option.some.injEq] at e; omega)⟩
set_option maxHeartbeats 3200000 in
set_option maxRecDepth 100000 in
theorem bytes_calls (t : Nd) (Q : Nat → Prop) (v : Value) (w : World) (hv : NodeV w Q v t) (hs : t.size ≤ 4611686018427387904) :
    Calls Try.prog 27 #[v] w fun e w' => e = .returned (setV t.bytes) ∧ Below w.heap.size w w' := by
  have HALL := Lib.hid (all_new t Q v w)
  have HV := Lib.hid hv
  obtain ⟨op, st, mn, mx, ks⟩ := t
  obtain ⟨kv, rfl, hk⟩ := hv
  have hb3 := below_alloc3 w (.cells (ndC op st mn mx kv) 28) (.cells (setC 0#256) 24) (.cells (tlC 0 0#256) 58)
  have hg1 := below_all (((Below.refl _ ((w.alloc (.cells (ndC op st mn mx kv) 28)).alloc (.cells (setC 0#256) 24))).alloc (Nat.le_refl _) (.cells (tlC 0 0#256) 58))) (heap_alloc2_old w (.cells (ndC op st mn mx kv) 28) (.cells (setC 0#256) 24))
  have hg2 := below_all (((Below.refl _ ((w.alloc (.cells (ndC op st mn mx kv) 28)).alloc (.cells (setC 0#256) 24))).alloc (Nat.le_refl _) (.cells (tlC 0 0#256) 58))) (heap_alloc2_new w (.cells (ndC op st mn mx kv) 28) (.cells (setC 0#256) 24))
  have hg3 := heap_alloc_new ((w.alloc (.cells (ndC op st mn mx kv) 28)).alloc (.cells (setC 0#256) 24)) (.cells (tlC 0 0#256) 58)
  have hz : ((w.alloc (.cells (ndC op st mn mx kv) 28)).alloc (.cells (setC 0#256) 24)).heap.size = w.heap.size + 2 := by simp
  rw [hz] at hg3
  rw [tl_zero, setC_zero] at hb3 hg1 hg2 hg3
  have HB2 := Lib.hid hb3
  have HG1 := Lib.hid hg1
  have HG2 := Lib.hid hg2
  have HG3 := Lib.hid hg3
  clear hb3 hg1 hg2 hg3 hk
  generalize Nd.mk op st mn mx ks = t at *
  generalize t.bytes = bs at *
  generalize t.size = n at *
  go_enter Try.func27, Try.ntmps27
  go_wp2_with (first | (refine box_nd rfl (.tmp 0) rfl op st mn mx _ rfl ?_) | (refine ld_nd_mid rfl (.tmp 1) rfl _ _ rfl _ _ _ _ _ (range_row HG1.out) ?_) |
    (go_at_call 42; refine (HALL.out _ _ HV.out HB2.out (by omega) hs HG3.out).mono ?_; rintro e w3 ⟨rfl, hg4, hgr4⟩; have HG4 := Lib.hid hg4; have HGR4 := Lib.hid hgr4; have HS4 : Hid (w3.heap[w.heap.size + 1]? = some (.cells (setC 0#256) 24 (0, 0))) := Lib.hid (heap_kept hgr4 HG2.out (fun e => by simp only [Option.some.injEq] at e; omega)); clear hg4 hgr4) |
    (refine ld_set_mid rfl (.tmp 8) rfl _ 1 rfl bs (tl_set HG4.out) ?_) | (refine st_set rfl (.tmp 2) (.tmp 9) rfl _ rfl bs rfl 0#256 _ HS4.out ?_; intro w4 hg5 hgr5))
  have hz4 : w.heap.size + 3 ≤ w3.heap.size := by simpa using HGR4.out.size
  exact ret_set 2 rfl _ _ bs rfl hg5 rfl ⟨rfl, (HB2.out.grown HGR4.out (by simp; omega) (fun k e => by simp only [Option.some.injEq] at e; omega)).grown hgr5 (by omega) (fun k e => by simp only [Option.some.injEq] at e; omega)⟩
end Go.Proofs.Ytekodfpjoehooaa.Bs
