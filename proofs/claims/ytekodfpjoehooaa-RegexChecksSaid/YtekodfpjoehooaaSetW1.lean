/- The walks of the small functions on sets of bytes: Has, With, add. -/
import Derived.Test.YtekodfpjoehooaaProg
import Derived.Test.YtekodfpjoehooaaBits
import Derived.Test.YtekodfpjoehooaaOps
import Derived.WalkKit
import Derived.KernelRfl
import Derived.Below
import Derived.Lib.Hide
import Derived.Outline
import Derived.RegionTactic
import Derived.ChangeAlike
import Derived.BigRegion
namespace Go.Proofs.Ytekodfpjoehooaa.Bs
open Go.RowKit Mem
/-- its four cells -/
def setC (s : BitVec 256) : Array Value := #[.int .u64 (limN s 0), .int .u64 (limN s 1), .int .u64 (limN s 2), .int .u64 (limN s 3)]
/-- a set of bytes as a Go value -/
def setV (s : BitVec 256) : Value := .agg (setC s)
theorem setC_size (s : BitVec 256) : (setC s).size = 4 := rfl
theorem setC_one (s : BitVec 256) : (setC s).all (·.oneCell') = true := by simp [setC, Value.oneCell']
theorem setC_zero : setC 0#256 = #[.int .u64 0, .int .u64 0, .int .u64 0, .int .u64 0] := rfl
theorem infoS : (Try.prog.info? 24).map (·.size) = some 4 := by kernel_rfl
theorem infoS' (s : BitVec 256) : (Try.prog.info? 24).map (·.size) = some (setC s).size := infoS
theorem undS : Try.prog.underlying 24 = some (.array 4 22) := by kernel_rfl
/-- a whole set is loaded -/
theorem ld_set {ops : Array Oper} {rest : List Oper} {o : Oper} {a : Act} {w : World} {Q : Exit → Act → World → Prop} (hgd : o.guard = none) (x : Operand) (ho : o.op = .load 24 x)
    (g : Nat) (hx : a.eval x = .pointer (some ⟨g, 0, none⟩)) (s : BitVec 256) (t : TypeId) (hg : w.heap[g]? = some (.cells (setC s) t (0, 0)))
    (h : wpList Try.prog ops Q rest (a.put o.dst (setV s)) w) : wpList Try.prog ops Q (o :: rest) a w :=
  wpList_load_row hgd _ x ho g hx t (setC s) (0, 0) _ hg undS rfl (infoS' s) h
theorem ld_set_mid {ops : Array Oper} {rest : List Oper} {o : Oper} {a : Act} {w : World} {Q : Exit → Act → World → Prop} (hgd : o.guard = none) (x : Operand) (ho : o.op = .load 24 x)
    (b i : Nat) (hx : a.eval x = .pointer (some ⟨b, i, none⟩)) (s : BitVec 256) (hg : w.rangeAt b i (setC s).toList)
    (h : wpList Try.prog ops Q rest (a.put o.dst (setV s)) w) : wpList Try.prog ops Q (o :: rest) a w :=
  wpList_load_mid hgd _ x ho b i hx (setC s).toList _ hg undS rfl (infoS' s) h
/-- the same where the operation is guarded, and wanted -/
theorem ld_set_mid_g {ops : Array Oper} {rest : List Oper} {o : Oper} {a : Act} {w : World} {Q : Exit → Act → World → Prop} (x : Operand) (ho : o.op = .load 24 x) (hw : Region.wanted o (yielded ops a.tmps) = true)
    (b i : Nat) (hx : a.eval x = .pointer (some ⟨b, i, none⟩)) (s : BitVec 256) (hg : w.rangeAt b i (setC s).toList)
    (h : wpList Try.prog ops Q rest (a.put o.dst (setV s)) w) : wpList Try.prog ops Q (o :: rest) a w := by
  unfold wpList
  rw [if_pos hw]
  exact .inl (wp_load_mid _ x ho b i hx (setC s).toList _ hg undS rfl (infoS' s) h)
/-- a limb of a set's value -/
theorem idx_set {ops : Array Oper} {rest : List Oper} {o : Oper} {a : Act} {w : World} {Q : Exit → Act → World → Prop} (hgd : o.guard = none) (x i : Operand) (ho : o.op = .index 24 x i)
    (s : BitVec 256) (hx : a.eval x = setV s) (k : Nat) (hk : k < 4) (hi : a.eval i = .int .i64 k)
    (h : wpList Try.prog ops Q rest (a.put o.dst (.int .u64 (limN s k))) w) : wpList Try.prog ops Q (o :: rest) a w :=
  wpList_plain hgd fun K hK => by
    unfold Oper.wp execOp
    rcases (by omega : k = 0 ∨ k = 1 ∨ k = 2 ∨ k = 3) with rfl | rfl | rfl | rfl <;>
    · simp only [ho, hx, hi, setV, setC]
      go_simp
      exact hK _ _ h
theorem box_set {ops : Array Oper} {rest : List Oper} {o : Oper} {a : Act} {w : World} {Q : Exit → Act → World → Prop} (hgd : o.guard = none) (x : Operand) (ho : o.op = .box 24 x)
    (s : BitVec 256) (hx : a.eval x = setV s)
    (h : wpList Try.prog ops Q rest (a.put o.dst (.pointer (some ⟨w.heap.size, 0, none⟩))) (w.alloc (.cells (setC s) 24))) : wpList Try.prog ops Q (o :: rest) a w :=
  wpList_plain hgd fun K hK => by
    unfold Oper.wp execOp
    simp only [ho, hx, setV]
    go_simp
    exact hK _ _ h
theorem still_ld_set {ops : Array Oper} {rest : List Oper} {o : Oper} {a : Act} {w : World} {Q : Act → Prop} (hgd : o.guard = none) (x : Operand) (ho : o.op = .load 24 x)
    (g : Nat) (hx : a.eval x = .pointer (some ⟨g, 0, none⟩)) (s : BitVec 256) (t : TypeId) (hg : w.heap[g]? = some (.cells (setC s) t (0, 0)))
    (h : wpStill Try.prog ops w Q rest (a.put o.dst (setV s))) : wpStill Try.prog ops w Q (o :: rest) a :=
  wpStill_load_mid hgd _ x ho g 0 hx (setC s).toList _ (range_row hg) undS rfl (infoS' s) h
/-- a whole set is stored -/
theorem st_set {ops : Array Oper} {rest : List Oper} {o : Oper} {a : Act} {w : World} {Q : Exit → Act → World → Prop} (hgd : o.guard = none) (x y : Operand) (ho : o.op = .store 24 x y)
    (g : Nat) (hx : a.eval x = .pointer (some ⟨g, 0, none⟩)) (s : BitVec 256) (hy : a.eval y = setV s) (s0 : BitVec 256) (t : TypeId) (hg : w.heap[g]? = some (.cells (setC s0) t (0, 0)))
    (h : ∀ w', w'.heap[g]? = some (.cells (setC s) t (0, 0)) → w.grownBy w' (some g) → wpList Try.prog ops Q rest (a.put o.dst undef) w') : wpList Try.prog ops Q (o :: rest) a w :=
  wpList_store_row hgd _ x y ho g (setC s) hx hy t (setC s0) hg (infoS' s) (by rw [setC_size, setC_size]) (setC_one s)
    (h _ (setRow_heap w g (setC s0) (setC s) t (0, 0) hg) (grown_setRow w g (setC s)))
/-- a set is the result -/
theorem ret_set {fn : Func} {R : Ending → World → Prop} {a : Act} {w : World} (p : Tmp) (h : fn.results = #[.cell p 24]) (g : Nat) (t : TypeId) (s : BitVec 256)
    (hp : a.tmps.getD p undef = .pointer (some ⟨g, 0, none⟩)) (hg : w.heap[g]? = some (.cells (setC s) t (0, 0))) (hd : a.defers = []) (hR : R (.returned (setV s)) w) : bodyPost Try.prog fn R .ret a w :=
  bodyPost_ret (results_cell_row h a.tmps w g t (setC s) (0, 0) _ hp hg undS rfl (infoS' s)) hd hR
theorem quarter (b : Nat) (hb : b < 256) : b / 64 = 0 ∨ b / 64 = 1 ∨ b / 64 = 2 ∨ b / 64 = 3 := by omega
theorem rhas_calls (s : BitVec 256) (b : Nat) (hb : b < 256) (w : World) :
    Calls Try.prog 46 #[setV s, .int .u8 b] w fun e w' => e = .returned (.bool (s.getLsbD b)) ∧ Below w.heap.size w w' := by
  unfold setV setC
  rcases quarter b hb with h | h | h | h
  all_goals
    go_enter Try.func46, Try.ntmps46
    go_wp2
    go_ret
    rw [has_shr s b _ h]
    exact ⟨rfl, (Below.refl _ _).alloc (Nat.le_refl _) _⟩
theorem with_calls (s : BitVec 256) (b : Nat) (hb : b < 256) (w : World) :
    Calls Try.prog 35 #[setV s, .int .u8 b] w fun e w' => e = .returned (setV (s ||| bit b)) ∧ Below w.heap.size w w' := by
  unfold setV setC
  rcases quarter b hb with h | h | h | h
  · rw [← or_limb s b 0 h (by decide), or_limb_ne s b 1 (by omega) (by decide), or_limb_ne s b 2 (by omega) (by decide), or_limb_ne s b 3 (by omega) (by decide)]
    go_enter Try.func35, Try.ntmps35
    go_wp2
    exact bodyPost_ret (by simp [results, Try.results35, go_sem]) rfl ⟨rfl, ((Below.refl _ _).alloc (Nat.le_refl _) _).alloc (by simp) _⟩
  · rw [or_limb_ne s b 0 (by omega) (by decide), ← or_limb s b 1 h (by decide), or_limb_ne s b 2 (by omega) (by decide), or_limb_ne s b 3 (by omega) (by decide)]
    go_enter Try.func35, Try.ntmps35
    go_wp2
    exact bodyPost_ret (by simp [results, Try.results35, go_sem]) rfl ⟨rfl, ((Below.refl _ _).alloc (Nat.le_refl _) _).alloc (by simp) _⟩
  · rw [or_limb_ne s b 0 (by omega) (by decide), or_limb_ne s b 1 (by omega) (by decide), ← or_limb s b 2 h (by decide), or_limb_ne s b 3 (by omega) (by decide)]
    go_enter Try.func35, Try.ntmps35
    go_wp2
    exact bodyPost_ret (by simp [results, Try.results35, go_sem]) rfl ⟨rfl, ((Below.refl _ _).alloc (Nat.le_refl _) _).alloc (by simp) _⟩
  · rw [or_limb_ne s b 0 (by omega) (by decide), or_limb_ne s b 1 (by omega) (by decide), or_limb_ne s b 2 (by omega) (by decide), ← or_limb s b 3 h (by decide)]
    go_enter Try.func35, Try.ntmps35
    go_wp2
    exact bodyPost_ret (by simp [results, Try.results35, go_sem]) rfl ⟨rfl, ((Below.refl _ _).alloc (Nat.le_refl _) _).alloc (by simp) _⟩
theorem add_calls (s : BitVec 256) (b : Nat) (hb : b < 256) (g ty : Nat) (w : World) (hg : w.heap[g]? = some (.cells (setC s) ty (0, 0))) :
    Calls Try.prog 47 #[.pointer (some ⟨g, 0, none⟩), .int .u8 b] w fun e w' => e = .returned (.tuple #[]) ∧ w'.heap[g]? = some (.cells (setC (s ||| bit b)) ty (0, 0)) ∧ w.grownBy w' (some g) := by
  rcases quarter b hb with h | h | h | h
  · have hc : w.cell? ⟨g, 0, none⟩ = some (.int .u64 (limN s 0)) := by rw [cell_of_row w g _ _ _ _ hg]; rfl
    have hf : w.frozen? ⟨g, 0, none⟩ = false := by rw [frozen_of_row w g _ _ _ hg]
    replace hg := Lib.hid hg
    go_enter Try.func47, Try.ntmps47
    go_wp2
    go_region
    go_end0
    refine ⟨rfl, (heap_setCell_same w g 0 _ ty _ hg.out).trans ?_, grown_setCell_drew _ _ _ _⟩
    unfold setC
    rw [← or_limb s b 0 h (by decide), or_limb_ne s b 1 (by omega) (by decide), or_limb_ne s b 2 (by omega) (by decide), or_limb_ne s b 3 (by omega) (by decide)]
    rfl
  · have hc : w.cell? ⟨g, 1, none⟩ = some (.int .u64 (limN s 1)) := by rw [cell_of_row w g _ _ _ _ hg]; rfl
    have hf : w.frozen? ⟨g, 1, none⟩ = false := by rw [frozen_of_row w g _ _ _ hg]
    replace hg := Lib.hid hg
    go_enter Try.func47, Try.ntmps47
    go_wp2
    go_region
    go_end0
    refine ⟨rfl, (heap_setCell_same w g 1 _ ty _ hg.out).trans ?_, grown_setCell_drew _ _ _ _⟩
    unfold setC
    rw [or_limb_ne s b 0 (by omega) (by decide), ← or_limb s b 1 h (by decide), or_limb_ne s b 2 (by omega) (by decide), or_limb_ne s b 3 (by omega) (by decide)]
    rfl
  · have hc : w.cell? ⟨g, 2, none⟩ = some (.int .u64 (limN s 2)) := by rw [cell_of_row w g _ _ _ _ hg]; rfl
    have hf : w.frozen? ⟨g, 2, none⟩ = false := by rw [frozen_of_row w g _ _ _ hg]
    replace hg := Lib.hid hg
    go_enter Try.func47, Try.ntmps47
    go_wp2
    go_region
    go_end0
    refine ⟨rfl, (heap_setCell_same w g 2 _ ty _ hg.out).trans ?_, grown_setCell_drew _ _ _ _⟩
    unfold setC
    rw [or_limb_ne s b 0 (by omega) (by decide), or_limb_ne s b 1 (by omega) (by decide), ← or_limb s b 2 h (by decide), or_limb_ne s b 3 (by omega) (by decide)]
    rfl
  · have hc : w.cell? ⟨g, 3, none⟩ = some (.int .u64 (limN s 3)) := by rw [cell_of_row w g _ _ _ _ hg]; rfl
    have hf : w.frozen? ⟨g, 3, none⟩ = false := by rw [frozen_of_row w g _ _ _ hg]
    replace hg := Lib.hid hg
    go_enter Try.func47, Try.ntmps47
    go_wp2
    go_region
    go_end0
    refine ⟨rfl, (heap_setCell_same w g 3 _ ty _ hg.out).trans ?_, grown_setCell_drew _ _ _ _⟩
    unfold setC
    rw [or_limb_ne s b 0 (by omega) (by decide), or_limb_ne s b 1 (by omega) (by decide), or_limb_ne s b 2 (by omega) (by decide), ← or_limb s b 3 h (by decide)]
    rfl
end Go.Proofs.Ytekodfpjoehooaa.Bs
