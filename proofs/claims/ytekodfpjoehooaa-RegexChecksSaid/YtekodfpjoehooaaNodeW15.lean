/- The walk of counts. -/
import Derived.Test.YtekodfpjoehooaaNodeW14
namespace Go.Proofs.Ytekodfpjoehooaa.Bs
open Go.RowKit Mem Reg
/-- has a node as many kids, and as great numbers, as its kind may have? -/
def okN (op mn mx : Int) (n : Nat) : Bool :=
  decide (0 ≤ op ∧ op ≤ 5 ∧ ¬ (op = 0 ∧ n ≠ 0) ∧ ¬ ((op = 3 ∨ op = 5) ∧ n ≠ 1) ∧ 0 ≤ mn ∧ mn ≤ 32 ∧ mx ≤ 32 ∧ (mx < 0 ∨ mn ≤ mx))
def counts1 (w : World) (op : Int) (st : BitVec 256) (mn mx : Int) (ks : List Nd) (A : Option Addr) (cap : Nat) : List (Value → World → Prop) := [
  fun v _ => v = Value.pointer (some ⟨w.heap.size, 0, none⟩),
  fun v _ => v = Value.int .i64 op,
  fun v _ => v = Value.bool (decide ((op : Int) < 0)),
  fun v _ => v = Value.bool (decide ((op : Int) < 0)),
  fun v _ => (decide ((op : Int) < 0)) = false → v = Value.pointer (some ⟨w.heap.size, 0, none⟩),
  fun v _ => (decide ((op : Int) < 0)) = false → v = Value.int .i64 op,
  fun v _ => (decide ((op : Int) < 0)) = false → v = Value.bool (decide (5 < (op : Int))),
  fun v _ => v = Value.bool ((decide ((op : Int) < 0)) || (decide (5 < (op : Int)))),
  fun v _ => v = Value.bool ((decide ((op : Int) < 0)) || (decide (5 < (op : Int))))]
theorem counts1_keep (w : World) (op : Int) (st : BitVec 256) (mn mx : Int) (ks : List Nd) (A : Option Addr) (cap : Nat) : PredsKeep (counts1 w op st mn mx ks A cap) :=
  ⟨fun _ _ _ h _ => h,
  fun _ _ _ h _ => h,
  fun _ _ _ h _ => h,
  fun _ _ _ h _ => h,
  fun _ _ _ h _ => h,
  fun _ _ _ h _ => h,
  fun _ _ _ h _ => h,
  fun _ _ _ h _ => h,
  fun _ _ _ h _ => h, trivial⟩
def counts3 (w : World) (op : Int) (st : BitVec 256) (mn mx : Int) (ks : List Nd) (A : Option Addr) (cap : Nat) : List (Value → World → Prop) := [
  fun v _ => v = Value.pointer (some ⟨w.heap.size, 0, none⟩),
  fun v _ => v = Value.int .i64 op,
  fun v _ => v = Value.bool ((op : Int) == 0),
  fun v _ => v = Value.bool ((op : Int) == 0),
  fun v _ => ((op : Int) == 0) = true → v = Value.pointer (some ⟨w.heap.size, 7, none⟩),
  fun v _ => ((op : Int) == 0) = true → v = Value.slice A ks.length cap,
  fun v _ => ((op : Int) == 0) = true → v = Value.int .i64 (ks.length : Nat),
  fun v _ => ((op : Int) == 0) = true → v = Value.bool (((ks.length : Nat) : Int) != 0),
  fun v _ => v = Value.bool (((op : Int) == 0) && (((ks.length : Nat) : Int) != 0)),
  fun v _ => v = Value.bool (((op : Int) == 0) && (((ks.length : Nat) : Int) != 0))]
theorem counts3_keep (w : World) (op : Int) (st : BitVec 256) (mn mx : Int) (ks : List Nd) (A : Option Addr) (cap : Nat) : PredsKeep (counts3 w op st mn mx ks A cap) :=
  ⟨fun _ _ _ h _ => h,
  fun _ _ _ h _ => h,
  fun _ _ _ h _ => h,
  fun _ _ _ h _ => h,
  fun _ _ _ h _ => h,
  fun _ _ _ h _ => h,
  fun _ _ _ h _ => h,
  fun _ _ _ h _ => h,
  fun _ _ _ h _ => h,
  fun _ _ _ h _ => h, trivial⟩
def counts5 (w : World) (op : Int) (st : BitVec 256) (mn mx : Int) (ks : List Nd) (A : Option Addr) (cap : Nat) : List (Value → World → Prop) := [
  fun v _ => v = Value.pointer (some ⟨w.heap.size, 0, none⟩),
  fun v _ => v = Value.int .i64 op,
  fun v _ => v = Value.bool ((op : Int) == 3),
  fun v _ => v = Value.bool ((op : Int) == 3),
  fun v _ => ((op : Int) == 3) = false → v = Value.pointer (some ⟨w.heap.size, 0, none⟩),
  fun v _ => ((op : Int) == 3) = false → v = Value.int .i64 op,
  fun v _ => ((op : Int) == 3) = false → v = Value.bool ((op : Int) == 5),
  fun v _ => v = Value.bool (((op : Int) == 3) || ((op : Int) == 5)),
  fun v _ => v = Value.bool (((op : Int) == 3) || ((op : Int) == 5)),
  fun v _ => (((op : Int) == 3) || ((op : Int) == 5)) = true → v = Value.pointer (some ⟨w.heap.size, 7, none⟩),
  fun v _ => (((op : Int) == 3) || ((op : Int) == 5)) = true → v = Value.slice A ks.length cap,
  fun v _ => (((op : Int) == 3) || ((op : Int) == 5)) = true → v = Value.int .i64 (ks.length : Nat),
  fun v _ => (((op : Int) == 3) || ((op : Int) == 5)) = true → v = Value.bool (((ks.length : Nat) : Int) != 1),
  fun v _ => v = Value.bool ((((op : Int) == 3) || ((op : Int) == 5)) && (((ks.length : Nat) : Int) != 1)),
  fun v _ => v = Value.bool ((((op : Int) == 3) || ((op : Int) == 5)) && (((ks.length : Nat) : Int) != 1))]
theorem counts5_keep (w : World) (op : Int) (st : BitVec 256) (mn mx : Int) (ks : List Nd) (A : Option Addr) (cap : Nat) : PredsKeep (counts5 w op st mn mx ks A cap) :=
  ⟨fun _ _ _ h _ => h,
  fun _ _ _ h _ => h,
  fun _ _ _ h _ => h,
  fun _ _ _ h _ => h,
  fun _ _ _ h _ => h,
  fun _ _ _ h _ => h,
  fun _ _ _ h _ => h,
  fun _ _ _ h _ => h,
  fun _ _ _ h _ => h,
  fun _ _ _ h _ => h,
  fun _ _ _ h _ => h,
  fun _ _ _ h _ => h,
  fun _ _ _ h _ => h,
  fun _ _ _ h _ => h,
  fun _ _ _ h _ => h, trivial⟩
def counts7 (w : World) (op : Int) (st : BitVec 256) (mn mx : Int) (ks : List Nd) (A : Option Addr) (cap : Nat) : List (Value → World → Prop) := [
  fun v _ => v = Value.pointer (some ⟨w.heap.size, 5, none⟩),
  fun v _ => v = Value.int .i64 mn,
  fun v _ => v = Value.bool (decide (0 ≤ (mn : Int))),
  fun v _ => v = Value.bool (decide (0 ≤ (mn : Int))),
  fun v _ => (decide (0 ≤ (mn : Int))) = true → v = Value.pointer (some ⟨w.heap.size, 5, none⟩),
  fun v _ => (decide (0 ≤ (mn : Int))) = true → v = Value.int .i64 mn,
  fun v _ => (decide (0 ≤ (mn : Int))) = true → v = Value.bool (decide ((mn : Int) ≤ 32)),
  fun v _ => v = Value.bool ((decide (0 ≤ (mn : Int))) && (decide ((mn : Int) ≤ 32))),
  fun v _ => v = Value.bool ((decide (0 ≤ (mn : Int))) && (decide ((mn : Int) ≤ 32))),
  fun v _ => ((decide (0 ≤ (mn : Int))) && (decide ((mn : Int) ≤ 32))) = true → v = Value.pointer (some ⟨w.heap.size, 6, none⟩),
  fun v _ => ((decide (0 ≤ (mn : Int))) && (decide ((mn : Int) ≤ 32))) = true → v = Value.int .i64 mx,
  fun v _ => ((decide (0 ≤ (mn : Int))) && (decide ((mn : Int) ≤ 32))) = true → v = Value.bool (decide ((mx : Int) ≤ 32)),
  fun v _ => v = Value.bool (((decide (0 ≤ (mn : Int))) && (decide ((mn : Int) ≤ 32))) && (decide ((mx : Int) ≤ 32))),
  fun v _ => v = Value.bool (((decide (0 ≤ (mn : Int))) && (decide ((mn : Int) ≤ 32))) && (decide ((mx : Int) ≤ 32))),
  fun v _ => (((decide (0 ≤ (mn : Int))) && (decide ((mn : Int) ≤ 32))) && (decide ((mx : Int) ≤ 32))) = true → v = Value.pointer (some ⟨w.heap.size, 6, none⟩),
  fun v _ => (((decide (0 ≤ (mn : Int))) && (decide ((mn : Int) ≤ 32))) && (decide ((mx : Int) ≤ 32))) = true → v = Value.int .i64 mx,
  fun v _ => (((decide (0 ≤ (mn : Int))) && (decide ((mn : Int) ≤ 32))) && (decide ((mx : Int) ≤ 32))) = true → v = Value.bool (decide ((mx : Int) < 0)),
  fun v _ => ((((decide (0 ≤ (mn : Int))) && (decide ((mn : Int) ≤ 32))) && (decide ((mx : Int) ≤ 32))) = true → v = Value.bool (decide ((mx : Int) < 0))) ∧ (¬ ((((decide (0 ≤ (mn : Int))) && (decide ((mn : Int) ≤ 32))) && (decide ((mx : Int) ≤ 32))) = true) → v = undef),
  fun v _ => (((decide (0 ≤ (mn : Int))) && (decide ((mn : Int) ≤ 32))) && (decide ((mx : Int) ≤ 32))) = true ∧ (decide ((mx : Int) < 0)) = false → v = Value.pointer (some ⟨w.heap.size, 6, none⟩),
  fun v _ => (((decide (0 ≤ (mn : Int))) && (decide ((mn : Int) ≤ 32))) && (decide ((mx : Int) ≤ 32))) = true ∧ (decide ((mx : Int) < 0)) = false → v = Value.int .i64 mx,
  fun v _ => (((decide (0 ≤ (mn : Int))) && (decide ((mn : Int) ≤ 32))) && (decide ((mx : Int) ≤ 32))) = true ∧ (decide ((mx : Int) < 0)) = false → v = Value.pointer (some ⟨w.heap.size, 5, none⟩),
  fun v _ => (((decide (0 ≤ (mn : Int))) && (decide ((mn : Int) ≤ 32))) && (decide ((mx : Int) ≤ 32))) = true ∧ (decide ((mx : Int) < 0)) = false → v = Value.int .i64 mn,
  fun v _ => (((decide (0 ≤ (mn : Int))) && (decide ((mn : Int) ≤ 32))) && (decide ((mx : Int) ≤ 32))) = true ∧ (decide ((mx : Int) < 0)) = false → v = Value.bool (decide (mn ≤ (mx : Int))),
  fun v _ => (((decide (0 ≤ (mn : Int))) && (decide ((mn : Int) ≤ 32))) && (decide ((mx : Int) ≤ 32))) = true → v = Value.bool ((decide ((mx : Int) < 0)) || (decide (mn ≤ (mx : Int)))),
  fun v _ => v = Value.bool ((((decide (0 ≤ (mn : Int))) && (decide ((mn : Int) ≤ 32))) && (decide ((mx : Int) ≤ 32))) && ((decide ((mx : Int) < 0)) || (decide (mn ≤ (mx : Int))))),
  fun v _ => v = Value.bool ((((decide (0 ≤ (mn : Int))) && (decide ((mn : Int) ≤ 32))) && (decide ((mx : Int) ≤ 32))) && ((decide ((mx : Int) < 0)) || (decide (mn ≤ (mx : Int)))))]
theorem counts7_keep (w : World) (op : Int) (st : BitVec 256) (mn mx : Int) (ks : List Nd) (A : Option Addr) (cap : Nat) : PredsKeep (counts7 w op st mn mx ks A cap) :=
  ⟨fun _ _ _ h _ => h,
  fun _ _ _ h _ => h,
  fun _ _ _ h _ => h,
  fun _ _ _ h _ => h,
  fun _ _ _ h _ => h,
  fun _ _ _ h _ => h,
  fun _ _ _ h _ => h,
  fun _ _ _ h _ => h,
  fun _ _ _ h _ => h,
  fun _ _ _ h _ => h,
  fun _ _ _ h _ => h,
  fun _ _ _ h _ => h,
  fun _ _ _ h _ => h,
  fun _ _ _ h _ => h,
  fun _ _ _ h _ => h,
  fun _ _ _ h _ => h,
  fun _ _ _ h _ => h,
  fun _ _ _ h _ => h,
  fun _ _ _ h _ => h,
  fun _ _ _ h _ => h,
  fun _ _ _ h _ => h,
  fun _ _ _ h _ => h,
  fun _ _ _ h _ => h,
  fun _ _ _ h _ => h,
  fun _ _ _ h _ => h,
  fun _ _ _ h _ => h, trivial⟩
theorem okN_1 {op mn mx : Int} {n : Nat} (h : ((decide ((op : Int) < 0)) || (decide (5 < (op : Int)))) = true) : okN op mn mx n = false := by
  simp at h; simp [okN]; omega
theorem okN_3 {op mn mx : Int} {n : Nat} (h : (((op : Int) == 0) && (((n : Nat) : Int) != 0)) = true) : okN op mn mx n = false := by
  simp at h; simp [okN]; omega
theorem okN_5 {op mn mx : Int} {n : Nat} (h : ((((op : Int) == 3) || ((op : Int) == 5)) && (((n : Nat) : Int) != 1)) = true) : okN op mn mx n = false := by
  simp at h; simp [okN]; omega
theorem okN_7 {op mn mx : Int} {n : Nat} (h1 : ((decide ((op : Int) < 0)) || (decide (5 < (op : Int)))) = false) (h3 : (((op : Int) == 0) && (((n : Nat) : Int) != 0)) = false) (h5 : ((((op : Int) == 3) || ((op : Int) == 5)) && (((n : Nat) : Int) != 1)) = false) :
    okN op mn mx n = ((((decide (0 ≤ (mn : Int))) && (decide ((mn : Int) ≤ 32))) && (decide ((mx : Int) ≤ 32))) && ((decide ((mx : Int) < 0)) || (decide (mn ≤ (mx : Int))))) := by
  simp at h1 h3 h5
  rw [Bool.eq_iff_iff]
  simp [okN]
  omega
set_option maxHeartbeats 6400000 in
set_option maxRecDepth 100000 in
theorem counts_calls (op : Int) (st : BitVec 256) (mn mx : Int) (ks : List Nd) (Q : Nat → Prop) (v : Value) (w : World) (hv : NodeV w Q v (.mk op st mn mx ks)) :
    Calls Try.prog 51 #[v] w fun e w' => e = .returned (.bool (okN op mn mx ks.length)) ∧ Below w.heap.size w w' := by
  obtain ⟨kv, rfl, hk⟩ := hv
  obtain ⟨A, cap, rfl, hlen⟩ := hk.form
  clear hk
  go_enter Try.func51, Try.ntmps51
  go_upto_region 1 with (refine box_nd rfl (.tmp 0) rfl op st mn mx _ rfl ?_)
  have HB1 : Hid (Below w.heap.size w (w.alloc (.cells (ndC op st mn mx (.slice A ks.length cap)) 28))) := Lib.hid ((Below.refl _ _).alloc (Nat.le_refl _) _)
  have HG1 := Lib.hid (heap_alloc_new w (.cells (ndC op st mn mx (.slice A ks.length cap)) 28))
  generalize w.alloc (.cells (ndC op st mn mx (.slice A ks.length cap)) 28) = w1 at *
  refine region_seq (fun w' => Below w1.heap.size w1 w') (fun w1 w2 => Below w1.heap.size w1 w2) (predsT (counts1 w op st mn mx ks A cap)) (by kernel_rfl) (by kernel_rfl) (by kernel_rfl) (preds_keep _ (counts1_keep w op st mn mx ks A cap)) (Below.refl _ _) ?_ ?_
  · refine ⟨?_, ?_, ?_, ?_, ?_, ?_, ?_, ?_, ?_, trivial⟩
    · refine ob_val (fun _ => Below.refl _ _) fun a' w' hS hI hD => ⟨rfl, Value.pointer (some ⟨w.heap.size, 0, none⟩), ?_, rfl⟩
      have h0 : a'.tmps.getD 1 undef = Value.pointer (some ⟨w.heap.size, 0, none⟩) := hS.at rfl
      simp only [execOp, Act.eval, h0]
      clear h0
      go_simp
    · refine ob_val (fun _ => Below.refl _ _) fun a' w' hS hI hD => ⟨rfl, Value.int .i64 op, ?_, rfl⟩
      have h0 : a'.tmps.getD 4 undef = Value.pointer (some ⟨w.heap.size, 0, none⟩) := dep_at hD 0 (by kernel_rfl)
      have hc := (nd_cell (below_all hI HG1.out)).1
      exact run_load_cell _ (.tmp 4) rfl _ _ _ h0 hc _ Try.underlying3 rfl
    · refine ob_val (fun _ => Below.refl _ _) fun a' w' hS hI hD => ⟨rfl, Value.bool (decide ((op : Int) < 0)), ?_, rfl⟩
      have h0 : a'.tmps.getD 5 undef = Value.int .i64 op := dep_at hD 1 (by kernel_rfl)
      exact run_lss_i _ _ (.tmp 5) (.const (Value.int .i64 0)) rfl _ _ _ h0 (by rfl)
    · refine ob_val (fun _ => Below.refl _ _) fun a' w' hS hI hD => ⟨rfl, Value.bool (decide ((op : Int) < 0)), ?_, rfl⟩
      have h0 : a'.tmps.getD 6 undef = Value.bool (decide ((op : Int) < 0)) := dep_at hD 2 (by kernel_rfl)
      exact run_val (.tmp 6) (by first | exact .inl rfl | exact .inr rfl) _ h0
    · refine ob_when ((decide ((op : Int) < 0)) = false) (fun hc0 => ?_) (fun hn a' w' hS hI hD => ⟨unwanted (c := (decide ((op : Int) < 0))) rfl (dep_at hD 3 (by kernel_rfl)) hn, fun hc => absurd hc hn⟩)
      refine ob_val (fun _ => Below.refl _ _) fun a' w' hS hI hD => ⟨wanted_eq (c := (decide ((op : Int) < 0))) rfl (dep_at hD 3 (by kernel_rfl)) hc0, Value.pointer (some ⟨w.heap.size, 0, none⟩), ?_, fun _ => rfl⟩
      have h0 : a'.tmps.getD 1 undef = Value.pointer (some ⟨w.heap.size, 0, none⟩) := hS.at rfl
      simp only [execOp, Act.eval, h0]
      clear h0
      go_simp
    · refine ob_when ((decide ((op : Int) < 0)) = false) (fun hc0 => ?_) (fun hn a' w' hS hI hD => ⟨unwanted (c := (decide ((op : Int) < 0))) rfl (dep_at hD 3 (by kernel_rfl)) hn, fun hc => absurd hc hn⟩)
      refine ob_val (fun _ => Below.refl _ _) fun a' w' hS hI hD => ⟨wanted_eq (c := (decide ((op : Int) < 0))) rfl (dep_at hD 3 (by kernel_rfl)) hc0, Value.int .i64 op, ?_, fun _ => rfl⟩
      have h0 : ((decide ((op : Int) < 0)) = false → a'.tmps.getD 8 undef = Value.pointer (some ⟨w.heap.size, 0, none⟩)) := dep_at hD 4 (by kernel_rfl)
      replace h0 := h0 hc0
      have hc := (nd_cell (below_all hI HG1.out)).1
      exact run_load_cell _ (.tmp 8) rfl _ _ _ h0 hc _ Try.underlying3 rfl
    · refine ob_when ((decide ((op : Int) < 0)) = false) (fun hc0 => ?_) (fun hn a' w' hS hI hD => ⟨unwanted (c := (decide ((op : Int) < 0))) rfl (dep_at hD 3 (by kernel_rfl)) hn, fun hc => absurd hc hn⟩)
      refine ob_val (fun _ => Below.refl _ _) fun a' w' hS hI hD => ⟨wanted_eq (c := (decide ((op : Int) < 0))) rfl (dep_at hD 3 (by kernel_rfl)) hc0, Value.bool (decide (5 < (op : Int))), ?_, fun _ => rfl⟩
      have h0 : ((decide ((op : Int) < 0)) = false → a'.tmps.getD 9 undef = Value.int .i64 op) := dep_at hD 5 (by kernel_rfl)
      replace h0 := h0 hc0
      exact run_gtr_i _ _ (.tmp 9) (.const (Value.int .i64 5)) rfl _ _ _ h0 (by rfl)
    · refine ob_val (fun _ => Below.refl _ _) fun a' w' hS hI hD => ⟨rfl, Value.bool ((decide ((op : Int) < 0)) || (decide (5 < (op : Int)))), ?_, rfl⟩
      have h0 : a'.tmps.getD 7 undef = Value.bool (decide ((op : Int) < 0)) := dep_at hD 3 (by kernel_rfl)
      have h1 : ((decide ((op : Int) < 0)) = false → a'.tmps.getD 10 undef = Value.bool (decide (5 < (op : Int)))) := dep_at hD 6 (by kernel_rfl)
      replace h1 : (decide ((op : Int) < 0)) = false → a'.tmps.getD 10 undef = Value.bool (decide (5 < (op : Int))) := fun hC => h1 hC
      exact run_pick_or (.tmp 7) (.tmp 10) rfl rfl _ _ h0 h1
    · refine ob_val (fun _ => Below.refl _ _) fun a' w' hS hI hD => ⟨rfl, Value.bool ((decide ((op : Int) < 0)) || (decide (5 < (op : Int)))), ?_, rfl⟩
      have h0 : a'.tmps.getD 11 undef = Value.bool ((decide ((op : Int) < 0)) || (decide (5 < (op : Int)))) := dep_at hD 7 (by kernel_rfl)
      exact run_val (.tmp 11) (by first | exact .inl rfl | exact .inr rfl) _ h0
  · intro v w3 hI hT
    have hlast : v 8 = .bool ((decide ((op : Int) < 0)) || (decide (5 < (op : Int)))) := tall_at _ _ hT 8 (by decide) (by decide)
    have HB3 := Lib.hid (below_more HB1.out (by have := HB1.out.size; omega) hI)
    have HG1 := Lib.hid (below_all hI HG1.out)
    clear hT hI
    rcases hb : ((decide ((op : Int) < 0)) || (decide (5 < (op : Int)))) with _ | _
    · rw [hb] at hlast
      have HF1 := Lib.hid hb
      clear hb
      simp only [putAll, Act.put, List.setIfInBounds_toArray, List.set_cons_succ, List.set_cons_zero, Nat.reduceAdd, hlast]
      clear hlast
      go_upto_region 3 with (fail)
      refine region_seq (fun w' => Below w3.heap.size w3 w') (fun w1 w2 => Below w1.heap.size w1 w2) (predsT (counts3 w op st mn mx ks A cap)) (by kernel_rfl) (by kernel_rfl) (by kernel_rfl) (preds_keep _ (counts3_keep w op st mn mx ks A cap)) (Below.refl _ _) ?_ ?_
      · refine ⟨?_, ?_, ?_, ?_, ?_, ?_, ?_, ?_, ?_, ?_, trivial⟩
        · refine ob_val (fun _ => Below.refl _ _) fun a' w' hS hI hD => ⟨rfl, Value.pointer (some ⟨w.heap.size, 0, none⟩), ?_, rfl⟩
          have h0 : a'.tmps.getD 1 undef = Value.pointer (some ⟨w.heap.size, 0, none⟩) := hS.at rfl
          simp only [execOp, Act.eval, h0]
          clear h0
          go_simp
        · refine ob_val (fun _ => Below.refl _ _) fun a' w' hS hI hD => ⟨rfl, Value.int .i64 op, ?_, rfl⟩
          have h0 : a'.tmps.getD 13 undef = Value.pointer (some ⟨w.heap.size, 0, none⟩) := dep_at hD 0 (by kernel_rfl)
          have hc := (nd_cell (below_all hI HG1.out)).1
          exact run_load_cell _ (.tmp 13) rfl _ _ _ h0 hc _ Try.underlying3 rfl
        · refine ob_val (fun _ => Below.refl _ _) fun a' w' hS hI hD => ⟨rfl, Value.bool ((op : Int) == 0), ?_, rfl⟩
          have h0 : a'.tmps.getD 14 undef = Value.int .i64 op := dep_at hD 1 (by kernel_rfl)
          exact run_eql_i _ _ (.tmp 14) (.const (Value.int .i64 0)) rfl _ _ _ h0 (by rfl)
        · refine ob_val (fun _ => Below.refl _ _) fun a' w' hS hI hD => ⟨rfl, Value.bool ((op : Int) == 0), ?_, rfl⟩
          have h0 : a'.tmps.getD 15 undef = Value.bool ((op : Int) == 0) := dep_at hD 2 (by kernel_rfl)
          exact run_val (.tmp 15) (by first | exact .inl rfl | exact .inr rfl) _ h0
        · refine ob_when (((op : Int) == 0) = true) (fun hc0 => ?_) (fun hn a' w' hS hI hD => ⟨unwanted (c := ((op : Int) == 0)) rfl (dep_at hD 3 (by kernel_rfl)) hn, fun hc => absurd hc hn⟩)
          refine ob_val (fun _ => Below.refl _ _) fun a' w' hS hI hD => ⟨wanted_eq (c := ((op : Int) == 0)) rfl (dep_at hD 3 (by kernel_rfl)) hc0, Value.pointer (some ⟨w.heap.size, 7, none⟩), ?_, fun _ => rfl⟩
          have h0 : a'.tmps.getD 1 undef = Value.pointer (some ⟨w.heap.size, 0, none⟩) := hS.at rfl
          simp only [execOp, Act.eval, h0]
          clear h0
          go_simp
        · refine ob_when (((op : Int) == 0) = true) (fun hc0 => ?_) (fun hn a' w' hS hI hD => ⟨unwanted (c := ((op : Int) == 0)) rfl (dep_at hD 3 (by kernel_rfl)) hn, fun hc => absurd hc hn⟩)
          refine ob_val (fun _ => Below.refl _ _) fun a' w' hS hI hD => ⟨wanted_eq (c := ((op : Int) == 0)) rfl (dep_at hD 3 (by kernel_rfl)) hc0, Value.slice A ks.length cap, ?_, fun _ => rfl⟩
          have h0 : (((op : Int) == 0) = true → a'.tmps.getD 17 undef = Value.pointer (some ⟨w.heap.size, 7, none⟩)) := dep_at hD 4 (by kernel_rfl)
          replace h0 := h0 hc0
          have hc := (nd_cell (below_all hI HG1.out)).2.2.2
          exact run_load_cell _ (.tmp 17) rfl _ _ _ h0 hc _ Try.underlying26 rfl
        · refine ob_when (((op : Int) == 0) = true) (fun hc0 => ?_) (fun hn a' w' hS hI hD => ⟨unwanted (c := ((op : Int) == 0)) rfl (dep_at hD 3 (by kernel_rfl)) hn, fun hc => absurd hc hn⟩)
          refine ob_val (fun _ => Below.refl _ _) fun a' w' hS hI hD => ⟨wanted_eq (c := ((op : Int) == 0)) rfl (dep_at hD 3 (by kernel_rfl)) hc0, Value.int .i64 (ks.length : Nat), ?_, fun _ => rfl⟩
          have h0 : (((op : Int) == 0) = true → a'.tmps.getD 18 undef = Value.slice A ks.length cap) := dep_at hD 5 (by kernel_rfl)
          replace h0 := h0 hc0
          exact run_len_s _ (.tmp 18) rfl _ _ _ h0 _ Try.underlying26
        · refine ob_when (((op : Int) == 0) = true) (fun hc0 => ?_) (fun hn a' w' hS hI hD => ⟨unwanted (c := ((op : Int) == 0)) rfl (dep_at hD 3 (by kernel_rfl)) hn, fun hc => absurd hc hn⟩)
          refine ob_val (fun _ => Below.refl _ _) fun a' w' hS hI hD => ⟨wanted_eq (c := ((op : Int) == 0)) rfl (dep_at hD 3 (by kernel_rfl)) hc0, Value.bool (((ks.length : Nat) : Int) != 0), ?_, fun _ => rfl⟩
          have h0 : (((op : Int) == 0) = true → a'.tmps.getD 19 undef = Value.int .i64 (ks.length : Nat)) := dep_at hD 6 (by kernel_rfl)
          replace h0 := h0 hc0
          exact run_neq_i _ _ (.tmp 19) (.const (Value.int .i64 0)) rfl _ _ _ h0 (by rfl)
        · refine ob_val (fun _ => Below.refl _ _) fun a' w' hS hI hD => ⟨rfl, Value.bool (((op : Int) == 0) && (((ks.length : Nat) : Int) != 0)), ?_, rfl⟩
          have h0 : a'.tmps.getD 16 undef = Value.bool ((op : Int) == 0) := dep_at hD 3 (by kernel_rfl)
          have h1 : (((op : Int) == 0) = true → a'.tmps.getD 20 undef = Value.bool (((ks.length : Nat) : Int) != 0)) := dep_at hD 7 (by kernel_rfl)
          replace h1 : ((op : Int) == 0) = true → a'.tmps.getD 20 undef = Value.bool (((ks.length : Nat) : Int) != 0) := fun hC => h1 hC
          exact run_pick_and (.tmp 16) (.tmp 20) rfl rfl _ _ h0 h1
        · refine ob_val (fun _ => Below.refl _ _) fun a' w' hS hI hD => ⟨rfl, Value.bool (((op : Int) == 0) && (((ks.length : Nat) : Int) != 0)), ?_, rfl⟩
          have h0 : a'.tmps.getD 21 undef = Value.bool (((op : Int) == 0) && (((ks.length : Nat) : Int) != 0)) := dep_at hD 8 (by kernel_rfl)
          exact run_val (.tmp 21) (by first | exact .inl rfl | exact .inr rfl) _ h0
      · intro v w5 hI hT
        have hlast : v 9 = .bool (((op : Int) == 0) && (((ks.length : Nat) : Int) != 0)) := tall_at _ _ hT 9 (by decide) (by decide)
        have HB5 := Lib.hid (below_more HB3.out (by have := HB3.out.size; omega) hI)
        have HG1 := Lib.hid (below_all hI HG1.out)
        clear hT hI
        rcases hb : (((op : Int) == 0) && (((ks.length : Nat) : Int) != 0)) with _ | _
        · rw [hb] at hlast
          have HF3 := Lib.hid hb
          clear hb
          simp only [putAll, Act.put, List.setIfInBounds_toArray, List.set_cons_succ, List.set_cons_zero, Nat.reduceAdd, hlast]
          clear hlast
          go_upto_region 5 with (fail)
          refine region_seq (fun w' => Below w5.heap.size w5 w') (fun w1 w2 => Below w1.heap.size w1 w2) (predsT (counts5 w op st mn mx ks A cap)) (by kernel_rfl) (by kernel_rfl) (by kernel_rfl) (preds_keep _ (counts5_keep w op st mn mx ks A cap)) (Below.refl _ _) ?_ ?_
          · refine ⟨?_, ?_, ?_, ?_, ?_, ?_, ?_, ?_, ?_, ?_, ?_, ?_, ?_, ?_, ?_, trivial⟩
            · refine ob_val (fun _ => Below.refl _ _) fun a' w' hS hI hD => ⟨rfl, Value.pointer (some ⟨w.heap.size, 0, none⟩), ?_, rfl⟩
              have h0 : a'.tmps.getD 1 undef = Value.pointer (some ⟨w.heap.size, 0, none⟩) := hS.at rfl
              simp only [execOp, Act.eval, h0]
              clear h0
              go_simp
            · refine ob_val (fun _ => Below.refl _ _) fun a' w' hS hI hD => ⟨rfl, Value.int .i64 op, ?_, rfl⟩
              have h0 : a'.tmps.getD 23 undef = Value.pointer (some ⟨w.heap.size, 0, none⟩) := dep_at hD 0 (by kernel_rfl)
              have hc := (nd_cell (below_all hI HG1.out)).1
              exact run_load_cell _ (.tmp 23) rfl _ _ _ h0 hc _ Try.underlying3 rfl
            · refine ob_val (fun _ => Below.refl _ _) fun a' w' hS hI hD => ⟨rfl, Value.bool ((op : Int) == 3), ?_, rfl⟩
              have h0 : a'.tmps.getD 24 undef = Value.int .i64 op := dep_at hD 1 (by kernel_rfl)
              exact run_eql_i _ _ (.tmp 24) (.const (Value.int .i64 3)) rfl _ _ _ h0 (by rfl)
            · refine ob_val (fun _ => Below.refl _ _) fun a' w' hS hI hD => ⟨rfl, Value.bool ((op : Int) == 3), ?_, rfl⟩
              have h0 : a'.tmps.getD 25 undef = Value.bool ((op : Int) == 3) := dep_at hD 2 (by kernel_rfl)
              exact run_val (.tmp 25) (by first | exact .inl rfl | exact .inr rfl) _ h0
            · refine ob_when (((op : Int) == 3) = false) (fun hc0 => ?_) (fun hn a' w' hS hI hD => ⟨unwanted (c := ((op : Int) == 3)) rfl (dep_at hD 3 (by kernel_rfl)) hn, fun hc => absurd hc hn⟩)
              refine ob_val (fun _ => Below.refl _ _) fun a' w' hS hI hD => ⟨wanted_eq (c := ((op : Int) == 3)) rfl (dep_at hD 3 (by kernel_rfl)) hc0, Value.pointer (some ⟨w.heap.size, 0, none⟩), ?_, fun _ => rfl⟩
              have h0 : a'.tmps.getD 1 undef = Value.pointer (some ⟨w.heap.size, 0, none⟩) := hS.at rfl
              simp only [execOp, Act.eval, h0]
              clear h0
              go_simp
            · refine ob_when (((op : Int) == 3) = false) (fun hc0 => ?_) (fun hn a' w' hS hI hD => ⟨unwanted (c := ((op : Int) == 3)) rfl (dep_at hD 3 (by kernel_rfl)) hn, fun hc => absurd hc hn⟩)
              refine ob_val (fun _ => Below.refl _ _) fun a' w' hS hI hD => ⟨wanted_eq (c := ((op : Int) == 3)) rfl (dep_at hD 3 (by kernel_rfl)) hc0, Value.int .i64 op, ?_, fun _ => rfl⟩
              have h0 : (((op : Int) == 3) = false → a'.tmps.getD 27 undef = Value.pointer (some ⟨w.heap.size, 0, none⟩)) := dep_at hD 4 (by kernel_rfl)
              replace h0 := h0 hc0
              have hc := (nd_cell (below_all hI HG1.out)).1
              exact run_load_cell _ (.tmp 27) rfl _ _ _ h0 hc _ Try.underlying3 rfl
            · refine ob_when (((op : Int) == 3) = false) (fun hc0 => ?_) (fun hn a' w' hS hI hD => ⟨unwanted (c := ((op : Int) == 3)) rfl (dep_at hD 3 (by kernel_rfl)) hn, fun hc => absurd hc hn⟩)
              refine ob_val (fun _ => Below.refl _ _) fun a' w' hS hI hD => ⟨wanted_eq (c := ((op : Int) == 3)) rfl (dep_at hD 3 (by kernel_rfl)) hc0, Value.bool ((op : Int) == 5), ?_, fun _ => rfl⟩
              have h0 : (((op : Int) == 3) = false → a'.tmps.getD 28 undef = Value.int .i64 op) := dep_at hD 5 (by kernel_rfl)
              replace h0 := h0 hc0
              exact run_eql_i _ _ (.tmp 28) (.const (Value.int .i64 5)) rfl _ _ _ h0 (by rfl)
            · refine ob_val (fun _ => Below.refl _ _) fun a' w' hS hI hD => ⟨rfl, Value.bool (((op : Int) == 3) || ((op : Int) == 5)), ?_, rfl⟩
              have h0 : a'.tmps.getD 26 undef = Value.bool ((op : Int) == 3) := dep_at hD 3 (by kernel_rfl)
              have h1 : (((op : Int) == 3) = false → a'.tmps.getD 29 undef = Value.bool ((op : Int) == 5)) := dep_at hD 6 (by kernel_rfl)
              replace h1 : ((op : Int) == 3) = false → a'.tmps.getD 29 undef = Value.bool ((op : Int) == 5) := fun hC => h1 hC
              exact run_pick_or (.tmp 26) (.tmp 29) rfl rfl _ _ h0 h1
            · refine ob_val (fun _ => Below.refl _ _) fun a' w' hS hI hD => ⟨rfl, Value.bool (((op : Int) == 3) || ((op : Int) == 5)), ?_, rfl⟩
              have h0 : a'.tmps.getD 30 undef = Value.bool (((op : Int) == 3) || ((op : Int) == 5)) := dep_at hD 7 (by kernel_rfl)
              exact run_val (.tmp 30) (by first | exact .inl rfl | exact .inr rfl) _ h0
            · refine ob_when ((((op : Int) == 3) || ((op : Int) == 5)) = true) (fun hc0 => ?_) (fun hn a' w' hS hI hD => ⟨unwanted (c := (((op : Int) == 3) || ((op : Int) == 5))) rfl (dep_at hD 8 (by kernel_rfl)) hn, fun hc => absurd hc hn⟩)
              refine ob_val (fun _ => Below.refl _ _) fun a' w' hS hI hD => ⟨wanted_eq (c := (((op : Int) == 3) || ((op : Int) == 5))) rfl (dep_at hD 8 (by kernel_rfl)) hc0, Value.pointer (some ⟨w.heap.size, 7, none⟩), ?_, fun _ => rfl⟩
              have h0 : a'.tmps.getD 1 undef = Value.pointer (some ⟨w.heap.size, 0, none⟩) := hS.at rfl
              simp only [execOp, Act.eval, h0]
              clear h0
              go_simp
            · refine ob_when ((((op : Int) == 3) || ((op : Int) == 5)) = true) (fun hc0 => ?_) (fun hn a' w' hS hI hD => ⟨unwanted (c := (((op : Int) == 3) || ((op : Int) == 5))) rfl (dep_at hD 8 (by kernel_rfl)) hn, fun hc => absurd hc hn⟩)
              refine ob_val (fun _ => Below.refl _ _) fun a' w' hS hI hD => ⟨wanted_eq (c := (((op : Int) == 3) || ((op : Int) == 5))) rfl (dep_at hD 8 (by kernel_rfl)) hc0, Value.slice A ks.length cap, ?_, fun _ => rfl⟩
              have h0 : ((((op : Int) == 3) || ((op : Int) == 5)) = true → a'.tmps.getD 32 undef = Value.pointer (some ⟨w.heap.size, 7, none⟩)) := dep_at hD 9 (by kernel_rfl)
              replace h0 := h0 hc0
              have hc := (nd_cell (below_all hI HG1.out)).2.2.2
              exact run_load_cell _ (.tmp 32) rfl _ _ _ h0 hc _ Try.underlying26 rfl
            · refine ob_when ((((op : Int) == 3) || ((op : Int) == 5)) = true) (fun hc0 => ?_) (fun hn a' w' hS hI hD => ⟨unwanted (c := (((op : Int) == 3) || ((op : Int) == 5))) rfl (dep_at hD 8 (by kernel_rfl)) hn, fun hc => absurd hc hn⟩)
              refine ob_val (fun _ => Below.refl _ _) fun a' w' hS hI hD => ⟨wanted_eq (c := (((op : Int) == 3) || ((op : Int) == 5))) rfl (dep_at hD 8 (by kernel_rfl)) hc0, Value.int .i64 (ks.length : Nat), ?_, fun _ => rfl⟩
              have h0 : ((((op : Int) == 3) || ((op : Int) == 5)) = true → a'.tmps.getD 33 undef = Value.slice A ks.length cap) := dep_at hD 10 (by kernel_rfl)
              replace h0 := h0 hc0
              exact run_len_s _ (.tmp 33) rfl _ _ _ h0 _ Try.underlying26
            · refine ob_when ((((op : Int) == 3) || ((op : Int) == 5)) = true) (fun hc0 => ?_) (fun hn a' w' hS hI hD => ⟨unwanted (c := (((op : Int) == 3) || ((op : Int) == 5))) rfl (dep_at hD 8 (by kernel_rfl)) hn, fun hc => absurd hc hn⟩)
              refine ob_val (fun _ => Below.refl _ _) fun a' w' hS hI hD => ⟨wanted_eq (c := (((op : Int) == 3) || ((op : Int) == 5))) rfl (dep_at hD 8 (by kernel_rfl)) hc0, Value.bool (((ks.length : Nat) : Int) != 1), ?_, fun _ => rfl⟩
              have h0 : ((((op : Int) == 3) || ((op : Int) == 5)) = true → a'.tmps.getD 34 undef = Value.int .i64 (ks.length : Nat)) := dep_at hD 11 (by kernel_rfl)
              replace h0 := h0 hc0
              exact run_neq_i _ _ (.tmp 34) (.const (Value.int .i64 1)) rfl _ _ _ h0 (by rfl)
            · refine ob_val (fun _ => Below.refl _ _) fun a' w' hS hI hD => ⟨rfl, Value.bool ((((op : Int) == 3) || ((op : Int) == 5)) && (((ks.length : Nat) : Int) != 1)), ?_, rfl⟩
              have h0 : a'.tmps.getD 31 undef = Value.bool (((op : Int) == 3) || ((op : Int) == 5)) := dep_at hD 8 (by kernel_rfl)
              have h1 : ((((op : Int) == 3) || ((op : Int) == 5)) = true → a'.tmps.getD 35 undef = Value.bool (((ks.length : Nat) : Int) != 1)) := dep_at hD 12 (by kernel_rfl)
              replace h1 : (((op : Int) == 3) || ((op : Int) == 5)) = true → a'.tmps.getD 35 undef = Value.bool (((ks.length : Nat) : Int) != 1) := fun hC => h1 hC
              exact run_pick_and (.tmp 31) (.tmp 35) rfl rfl _ _ h0 h1
            · refine ob_val (fun _ => Below.refl _ _) fun a' w' hS hI hD => ⟨rfl, Value.bool ((((op : Int) == 3) || ((op : Int) == 5)) && (((ks.length : Nat) : Int) != 1)), ?_, rfl⟩
              have h0 : a'.tmps.getD 36 undef = Value.bool ((((op : Int) == 3) || ((op : Int) == 5)) && (((ks.length : Nat) : Int) != 1)) := dep_at hD 13 (by kernel_rfl)
              exact run_val (.tmp 36) (by first | exact .inl rfl | exact .inr rfl) _ h0
          · intro v w7 hI hT
            have hlast : v 14 = .bool ((((op : Int) == 3) || ((op : Int) == 5)) && (((ks.length : Nat) : Int) != 1)) := tall_at _ _ hT 14 (by decide) (by decide)
            have HB7 := Lib.hid (below_more HB5.out (by have := HB5.out.size; omega) hI)
            have HG1 := Lib.hid (below_all hI HG1.out)
            clear hT hI
            rcases hb : ((((op : Int) == 3) || ((op : Int) == 5)) && (((ks.length : Nat) : Int) != 1)) with _ | _
            · rw [hb] at hlast
              have HF5 := Lib.hid hb
              clear hb
              simp only [putAll, Act.put, List.setIfInBounds_toArray, List.set_cons_succ, List.set_cons_zero, Nat.reduceAdd, hlast]
              clear hlast
              go_upto_region 7 with (fail)
              refine region_seq (fun w' => Below w7.heap.size w7 w') (fun w1 w2 => Below w1.heap.size w1 w2) (predsT (counts7 w op st mn mx ks A cap)) (by kernel_rfl) (by kernel_rfl) (by kernel_rfl) (preds_keep _ (counts7_keep w op st mn mx ks A cap)) (Below.refl _ _) ?_ ?_
              · refine ⟨?_, ?_, ?_, ?_, ?_, ?_, ?_, ?_, ?_, ?_, ?_, ?_, ?_, ?_, ?_, ?_, ?_, ?_, ?_, ?_, ?_, ?_, ?_, ?_, ?_, ?_, trivial⟩
                · refine ob_val (fun _ => Below.refl _ _) fun a' w' hS hI hD => ⟨rfl, Value.pointer (some ⟨w.heap.size, 5, none⟩), ?_, rfl⟩
                  have h0 : a'.tmps.getD 1 undef = Value.pointer (some ⟨w.heap.size, 0, none⟩) := hS.at rfl
                  simp only [execOp, Act.eval, h0]
                  clear h0
                  go_simp
                · refine ob_val (fun _ => Below.refl _ _) fun a' w' hS hI hD => ⟨rfl, Value.int .i64 mn, ?_, rfl⟩
                  have h0 : a'.tmps.getD 37 undef = Value.pointer (some ⟨w.heap.size, 5, none⟩) := dep_at hD 0 (by kernel_rfl)
                  have hc := (nd_cell (below_all hI HG1.out)).2.1
                  exact run_load_cell _ (.tmp 37) rfl _ _ _ h0 hc _ Try.underlying3 rfl
                · refine ob_val (fun _ => Below.refl _ _) fun a' w' hS hI hD => ⟨rfl, Value.bool (decide (0 ≤ (mn : Int))), ?_, rfl⟩
                  have h0 : a'.tmps.getD 38 undef = Value.int .i64 mn := dep_at hD 1 (by kernel_rfl)
                  exact run_geq_i _ _ (.tmp 38) (.const (Value.int .i64 0)) rfl _ _ _ h0 (by rfl)
                · refine ob_val (fun _ => Below.refl _ _) fun a' w' hS hI hD => ⟨rfl, Value.bool (decide (0 ≤ (mn : Int))), ?_, rfl⟩
                  have h0 : a'.tmps.getD 39 undef = Value.bool (decide (0 ≤ (mn : Int))) := dep_at hD 2 (by kernel_rfl)
                  exact run_val (.tmp 39) (by first | exact .inl rfl | exact .inr rfl) _ h0
                · refine ob_when ((decide (0 ≤ (mn : Int))) = true) (fun hc0 => ?_) (fun hn a' w' hS hI hD => ⟨unwanted (c := (decide (0 ≤ (mn : Int)))) rfl (dep_at hD 3 (by kernel_rfl)) hn, fun hc => absurd hc hn⟩)
                  refine ob_val (fun _ => Below.refl _ _) fun a' w' hS hI hD => ⟨wanted_eq (c := (decide (0 ≤ (mn : Int)))) rfl (dep_at hD 3 (by kernel_rfl)) hc0, Value.pointer (some ⟨w.heap.size, 5, none⟩), ?_, fun _ => rfl⟩
                  have h0 : a'.tmps.getD 1 undef = Value.pointer (some ⟨w.heap.size, 0, none⟩) := hS.at rfl
                  simp only [execOp, Act.eval, h0]
                  clear h0
                  go_simp
                · refine ob_when ((decide (0 ≤ (mn : Int))) = true) (fun hc0 => ?_) (fun hn a' w' hS hI hD => ⟨unwanted (c := (decide (0 ≤ (mn : Int)))) rfl (dep_at hD 3 (by kernel_rfl)) hn, fun hc => absurd hc hn⟩)
                  refine ob_val (fun _ => Below.refl _ _) fun a' w' hS hI hD => ⟨wanted_eq (c := (decide (0 ≤ (mn : Int)))) rfl (dep_at hD 3 (by kernel_rfl)) hc0, Value.int .i64 mn, ?_, fun _ => rfl⟩
                  have h0 : ((decide (0 ≤ (mn : Int))) = true → a'.tmps.getD 41 undef = Value.pointer (some ⟨w.heap.size, 5, none⟩)) := dep_at hD 4 (by kernel_rfl)
                  replace h0 := h0 hc0
                  have hc := (nd_cell (below_all hI HG1.out)).2.1
                  exact run_load_cell _ (.tmp 41) rfl _ _ _ h0 hc _ Try.underlying3 rfl
                · refine ob_when ((decide (0 ≤ (mn : Int))) = true) (fun hc0 => ?_) (fun hn a' w' hS hI hD => ⟨unwanted (c := (decide (0 ≤ (mn : Int)))) rfl (dep_at hD 3 (by kernel_rfl)) hn, fun hc => absurd hc hn⟩)
                  refine ob_val (fun _ => Below.refl _ _) fun a' w' hS hI hD => ⟨wanted_eq (c := (decide (0 ≤ (mn : Int)))) rfl (dep_at hD 3 (by kernel_rfl)) hc0, Value.bool (decide ((mn : Int) ≤ 32)), ?_, fun _ => rfl⟩
                  have h0 : ((decide (0 ≤ (mn : Int))) = true → a'.tmps.getD 42 undef = Value.int .i64 mn) := dep_at hD 5 (by kernel_rfl)
                  replace h0 := h0 hc0
                  exact run_leq_i _ _ (.tmp 42) (.const (Value.int .i64 32)) rfl _ _ _ h0 (by rfl)
                · refine ob_val (fun _ => Below.refl _ _) fun a' w' hS hI hD => ⟨rfl, Value.bool ((decide (0 ≤ (mn : Int))) && (decide ((mn : Int) ≤ 32))), ?_, rfl⟩
                  have h0 : a'.tmps.getD 40 undef = Value.bool (decide (0 ≤ (mn : Int))) := dep_at hD 3 (by kernel_rfl)
                  have h1 : ((decide (0 ≤ (mn : Int))) = true → a'.tmps.getD 43 undef = Value.bool (decide ((mn : Int) ≤ 32))) := dep_at hD 6 (by kernel_rfl)
                  replace h1 : (decide (0 ≤ (mn : Int))) = true → a'.tmps.getD 43 undef = Value.bool (decide ((mn : Int) ≤ 32)) := fun hC => h1 hC
                  exact run_pick_and (.tmp 40) (.tmp 43) rfl rfl _ _ h0 h1
                · refine ob_val (fun _ => Below.refl _ _) fun a' w' hS hI hD => ⟨rfl, Value.bool ((decide (0 ≤ (mn : Int))) && (decide ((mn : Int) ≤ 32))), ?_, rfl⟩
                  have h0 : a'.tmps.getD 44 undef = Value.bool ((decide (0 ≤ (mn : Int))) && (decide ((mn : Int) ≤ 32))) := dep_at hD 7 (by kernel_rfl)
                  exact run_val (.tmp 44) (by first | exact .inl rfl | exact .inr rfl) _ h0
                · refine ob_when (((decide (0 ≤ (mn : Int))) && (decide ((mn : Int) ≤ 32))) = true) (fun hc0 => ?_) (fun hn a' w' hS hI hD => ⟨unwanted (c := ((decide (0 ≤ (mn : Int))) && (decide ((mn : Int) ≤ 32)))) rfl (dep_at hD 8 (by kernel_rfl)) hn, fun hc => absurd hc hn⟩)
                  refine ob_val (fun _ => Below.refl _ _) fun a' w' hS hI hD => ⟨wanted_eq (c := ((decide (0 ≤ (mn : Int))) && (decide ((mn : Int) ≤ 32)))) rfl (dep_at hD 8 (by kernel_rfl)) hc0, Value.pointer (some ⟨w.heap.size, 6, none⟩), ?_, fun _ => rfl⟩
                  have h0 : a'.tmps.getD 1 undef = Value.pointer (some ⟨w.heap.size, 0, none⟩) := hS.at rfl
                  simp only [execOp, Act.eval, h0]
                  clear h0
                  go_simp
                · refine ob_when (((decide (0 ≤ (mn : Int))) && (decide ((mn : Int) ≤ 32))) = true) (fun hc0 => ?_) (fun hn a' w' hS hI hD => ⟨unwanted (c := ((decide (0 ≤ (mn : Int))) && (decide ((mn : Int) ≤ 32)))) rfl (dep_at hD 8 (by kernel_rfl)) hn, fun hc => absurd hc hn⟩)
                  refine ob_val (fun _ => Below.refl _ _) fun a' w' hS hI hD => ⟨wanted_eq (c := ((decide (0 ≤ (mn : Int))) && (decide ((mn : Int) ≤ 32)))) rfl (dep_at hD 8 (by kernel_rfl)) hc0, Value.int .i64 mx, ?_, fun _ => rfl⟩
                  have h0 : (((decide (0 ≤ (mn : Int))) && (decide ((mn : Int) ≤ 32))) = true → a'.tmps.getD 46 undef = Value.pointer (some ⟨w.heap.size, 6, none⟩)) := dep_at hD 9 (by kernel_rfl)
                  replace h0 := h0 hc0
                  have hc := (nd_cell (below_all hI HG1.out)).2.2.1
                  exact run_load_cell _ (.tmp 46) rfl _ _ _ h0 hc _ Try.underlying3 rfl
                · refine ob_when (((decide (0 ≤ (mn : Int))) && (decide ((mn : Int) ≤ 32))) = true) (fun hc0 => ?_) (fun hn a' w' hS hI hD => ⟨unwanted (c := ((decide (0 ≤ (mn : Int))) && (decide ((mn : Int) ≤ 32)))) rfl (dep_at hD 8 (by kernel_rfl)) hn, fun hc => absurd hc hn⟩)
                  refine ob_val (fun _ => Below.refl _ _) fun a' w' hS hI hD => ⟨wanted_eq (c := ((decide (0 ≤ (mn : Int))) && (decide ((mn : Int) ≤ 32)))) rfl (dep_at hD 8 (by kernel_rfl)) hc0, Value.bool (decide ((mx : Int) ≤ 32)), ?_, fun _ => rfl⟩
                  have h0 : (((decide (0 ≤ (mn : Int))) && (decide ((mn : Int) ≤ 32))) = true → a'.tmps.getD 47 undef = Value.int .i64 mx) := dep_at hD 10 (by kernel_rfl)
                  replace h0 := h0 hc0
                  exact run_leq_i _ _ (.tmp 47) (.const (Value.int .i64 32)) rfl _ _ _ h0 (by rfl)
                · refine ob_val (fun _ => Below.refl _ _) fun a' w' hS hI hD => ⟨rfl, Value.bool (((decide (0 ≤ (mn : Int))) && (decide ((mn : Int) ≤ 32))) && (decide ((mx : Int) ≤ 32))), ?_, rfl⟩
                  have h0 : a'.tmps.getD 45 undef = Value.bool ((decide (0 ≤ (mn : Int))) && (decide ((mn : Int) ≤ 32))) := dep_at hD 8 (by kernel_rfl)
                  have h1 : (((decide (0 ≤ (mn : Int))) && (decide ((mn : Int) ≤ 32))) = true → a'.tmps.getD 48 undef = Value.bool (decide ((mx : Int) ≤ 32))) := dep_at hD 11 (by kernel_rfl)
                  replace h1 : ((decide (0 ≤ (mn : Int))) && (decide ((mn : Int) ≤ 32))) = true → a'.tmps.getD 48 undef = Value.bool (decide ((mx : Int) ≤ 32)) := fun hC => h1 hC
                  exact run_pick_and (.tmp 45) (.tmp 48) rfl rfl _ _ h0 h1
                · refine ob_val (fun _ => Below.refl _ _) fun a' w' hS hI hD => ⟨rfl, Value.bool (((decide (0 ≤ (mn : Int))) && (decide ((mn : Int) ≤ 32))) && (decide ((mx : Int) ≤ 32))), ?_, rfl⟩
                  have h0 : a'.tmps.getD 49 undef = Value.bool (((decide (0 ≤ (mn : Int))) && (decide ((mn : Int) ≤ 32))) && (decide ((mx : Int) ≤ 32))) := dep_at hD 12 (by kernel_rfl)
                  exact run_val (.tmp 49) (by first | exact .inl rfl | exact .inr rfl) _ h0
                · refine ob_when ((((decide (0 ≤ (mn : Int))) && (decide ((mn : Int) ≤ 32))) && (decide ((mx : Int) ≤ 32))) = true) (fun hc0 => ?_) (fun hn a' w' hS hI hD => ⟨unwanted (c := (((decide (0 ≤ (mn : Int))) && (decide ((mn : Int) ≤ 32))) && (decide ((mx : Int) ≤ 32)))) rfl (dep_at hD 13 (by kernel_rfl)) hn, fun hc => absurd hc hn⟩)
                  refine ob_val (fun _ => Below.refl _ _) fun a' w' hS hI hD => ⟨wanted_eq (c := (((decide (0 ≤ (mn : Int))) && (decide ((mn : Int) ≤ 32))) && (decide ((mx : Int) ≤ 32)))) rfl (dep_at hD 13 (by kernel_rfl)) hc0, Value.pointer (some ⟨w.heap.size, 6, none⟩), ?_, fun _ => rfl⟩
                  have h0 : a'.tmps.getD 1 undef = Value.pointer (some ⟨w.heap.size, 0, none⟩) := hS.at rfl
                  simp only [execOp, Act.eval, h0]
                  clear h0
                  go_simp
                · refine ob_when ((((decide (0 ≤ (mn : Int))) && (decide ((mn : Int) ≤ 32))) && (decide ((mx : Int) ≤ 32))) = true) (fun hc0 => ?_) (fun hn a' w' hS hI hD => ⟨unwanted (c := (((decide (0 ≤ (mn : Int))) && (decide ((mn : Int) ≤ 32))) && (decide ((mx : Int) ≤ 32)))) rfl (dep_at hD 13 (by kernel_rfl)) hn, fun hc => absurd hc hn⟩)
                  refine ob_val (fun _ => Below.refl _ _) fun a' w' hS hI hD => ⟨wanted_eq (c := (((decide (0 ≤ (mn : Int))) && (decide ((mn : Int) ≤ 32))) && (decide ((mx : Int) ≤ 32)))) rfl (dep_at hD 13 (by kernel_rfl)) hc0, Value.int .i64 mx, ?_, fun _ => rfl⟩
                  have h0 : ((((decide (0 ≤ (mn : Int))) && (decide ((mn : Int) ≤ 32))) && (decide ((mx : Int) ≤ 32))) = true → a'.tmps.getD 51 undef = Value.pointer (some ⟨w.heap.size, 6, none⟩)) := dep_at hD 14 (by kernel_rfl)
                  replace h0 := h0 hc0
                  have hc := (nd_cell (below_all hI HG1.out)).2.2.1
                  exact run_load_cell _ (.tmp 51) rfl _ _ _ h0 hc _ Try.underlying3 rfl
                · refine ob_when ((((decide (0 ≤ (mn : Int))) && (decide ((mn : Int) ≤ 32))) && (decide ((mx : Int) ≤ 32))) = true) (fun hc0 => ?_) (fun hn a' w' hS hI hD => ⟨unwanted (c := (((decide (0 ≤ (mn : Int))) && (decide ((mn : Int) ≤ 32))) && (decide ((mx : Int) ≤ 32)))) rfl (dep_at hD 13 (by kernel_rfl)) hn, fun hc => absurd hc hn⟩)
                  refine ob_val (fun _ => Below.refl _ _) fun a' w' hS hI hD => ⟨wanted_eq (c := (((decide (0 ≤ (mn : Int))) && (decide ((mn : Int) ≤ 32))) && (decide ((mx : Int) ≤ 32)))) rfl (dep_at hD 13 (by kernel_rfl)) hc0, Value.bool (decide ((mx : Int) < 0)), ?_, fun _ => rfl⟩
                  have h0 : ((((decide (0 ≤ (mn : Int))) && (decide ((mn : Int) ≤ 32))) && (decide ((mx : Int) ≤ 32))) = true → a'.tmps.getD 52 undef = Value.int .i64 mx) := dep_at hD 15 (by kernel_rfl)
                  replace h0 := h0 hc0
                  exact run_lss_i _ _ (.tmp 52) (.const (Value.int .i64 0)) rfl _ _ _ h0 (by rfl)
                · refine ob_when ((((decide (0 ≤ (mn : Int))) && (decide ((mn : Int) ≤ 32))) && (decide ((mx : Int) ≤ 32))) = true) (fun hc0 => ?_) (fun hn a' w' hS hI hD => ⟨unwanted (c := (((decide (0 ≤ (mn : Int))) && (decide ((mn : Int) ≤ 32))) && (decide ((mx : Int) ≤ 32)))) rfl (dep_at hD 13 (by kernel_rfl)) hn, ⟨fun hc => absurd hc hn, fun _ => rfl⟩⟩)
                  refine ob_val (fun _ => Below.refl _ _) fun a' w' hS hI hD => ⟨wanted_eq (c := (((decide (0 ≤ (mn : Int))) && (decide ((mn : Int) ≤ 32))) && (decide ((mx : Int) ≤ 32)))) rfl (dep_at hD 13 (by kernel_rfl)) hc0, Value.bool (decide ((mx : Int) < 0)), ?_, ⟨fun _ => rfl, fun hn => absurd ‹_› hn⟩⟩
                  have h0 : ((((decide (0 ≤ (mn : Int))) && (decide ((mn : Int) ≤ 32))) && (decide ((mx : Int) ≤ 32))) = true → a'.tmps.getD 53 undef = Value.bool (decide ((mx : Int) < 0))) := dep_at hD 16 (by kernel_rfl)
                  replace h0 := h0 hc0
                  exact run_val (.tmp 53) (by first | exact .inl rfl | exact .inr rfl) _ h0
                · refine ob_when ((((decide (0 ≤ (mn : Int))) && (decide ((mn : Int) ≤ 32))) && (decide ((mx : Int) ≤ 32))) = true ∧ (decide ((mx : Int) < 0)) = false) ?_ ?_
                  · rintro ⟨hc0, hc1⟩
                    refine ob_val (fun _ => Below.refl _ _) fun a' w' hS hI hD => ⟨wanted_eq (c := (decide ((mx : Int) < 0))) rfl ((show (((((decide (0 ≤ (mn : Int))) && (decide ((mn : Int) ≤ 32))) && (decide ((mx : Int) ≤ 32))) = true → slotV _ a' 17 = Value.bool (decide ((mx : Int) < 0))) ∧ (¬ ((((decide (0 ≤ (mn : Int))) && (decide ((mn : Int) ≤ 32))) && (decide ((mx : Int) ≤ 32))) = true) → slotV _ a' 17 = undef)) from dep_at hD 17 (by kernel_rfl)).1 hc0) hc1, Value.pointer (some ⟨w.heap.size, 6, none⟩), ?_, fun _ => rfl⟩
                    have h0 : a'.tmps.getD 1 undef = Value.pointer (some ⟨w.heap.size, 0, none⟩) := hS.at rfl
                    simp only [execOp, Act.eval, h0]
                    clear h0
                    go_simp
                  · intro hn a' w' hS hI hD
                    have hg : ((((decide (0 ≤ (mn : Int))) && (decide ((mn : Int) ≤ 32))) && (decide ((mx : Int) ≤ 32))) = true → slotV _ a' 17 = Value.bool (decide ((mx : Int) < 0))) ∧ (¬ ((((decide (0 ≤ (mn : Int))) && (decide ((mn : Int) ≤ 32))) && (decide ((mx : Int) ≤ 32))) = true) → slotV _ a' 17 = undef) := dep_at hD 17 (by kernel_rfl)
                    by_cases hcj : (((decide (0 ≤ (mn : Int))) && (decide ((mn : Int) ≤ 32))) && (decide ((mx : Int) ≤ 32))) = true
                    · exact ⟨unwanted (c := (decide ((mx : Int) < 0))) rfl (hg.1 hcj) (fun hq => hn (by simp only [hcj, hq, and_self])), fun hc => absurd hc hn⟩
                    · exact ⟨unwanted_u rfl (hg.2 hcj), fun hc => absurd hc hn⟩
                · refine ob_when ((((decide (0 ≤ (mn : Int))) && (decide ((mn : Int) ≤ 32))) && (decide ((mx : Int) ≤ 32))) = true ∧ (decide ((mx : Int) < 0)) = false) ?_ ?_
                  · rintro ⟨hc0, hc1⟩
                    refine ob_val (fun _ => Below.refl _ _) fun a' w' hS hI hD => ⟨wanted_eq (c := (decide ((mx : Int) < 0))) rfl ((show (((((decide (0 ≤ (mn : Int))) && (decide ((mn : Int) ≤ 32))) && (decide ((mx : Int) ≤ 32))) = true → slotV _ a' 17 = Value.bool (decide ((mx : Int) < 0))) ∧ (¬ ((((decide (0 ≤ (mn : Int))) && (decide ((mn : Int) ≤ 32))) && (decide ((mx : Int) ≤ 32))) = true) → slotV _ a' 17 = undef)) from dep_at hD 17 (by kernel_rfl)).1 hc0) hc1, Value.int .i64 mx, ?_, fun _ => rfl⟩
                    have h0 : ((((decide (0 ≤ (mn : Int))) && (decide ((mn : Int) ≤ 32))) && (decide ((mx : Int) ≤ 32))) = true ∧ (decide ((mx : Int) < 0)) = false → a'.tmps.getD 55 undef = Value.pointer (some ⟨w.heap.size, 6, none⟩)) := dep_at hD 18 (by kernel_rfl)
                    replace h0 := h0 ⟨hc0, hc1⟩
                    have hc := (nd_cell (below_all hI HG1.out)).2.2.1
                    exact run_load_cell _ (.tmp 55) rfl _ _ _ h0 hc _ Try.underlying3 rfl
                  · intro hn a' w' hS hI hD
                    have hg : ((((decide (0 ≤ (mn : Int))) && (decide ((mn : Int) ≤ 32))) && (decide ((mx : Int) ≤ 32))) = true → slotV _ a' 17 = Value.bool (decide ((mx : Int) < 0))) ∧ (¬ ((((decide (0 ≤ (mn : Int))) && (decide ((mn : Int) ≤ 32))) && (decide ((mx : Int) ≤ 32))) = true) → slotV _ a' 17 = undef) := dep_at hD 17 (by kernel_rfl)
                    by_cases hcj : (((decide (0 ≤ (mn : Int))) && (decide ((mn : Int) ≤ 32))) && (decide ((mx : Int) ≤ 32))) = true
                    · exact ⟨unwanted (c := (decide ((mx : Int) < 0))) rfl (hg.1 hcj) (fun hq => hn (by simp only [hcj, hq, and_self])), fun hc => absurd hc hn⟩
                    · exact ⟨unwanted_u rfl (hg.2 hcj), fun hc => absurd hc hn⟩
                · refine ob_when ((((decide (0 ≤ (mn : Int))) && (decide ((mn : Int) ≤ 32))) && (decide ((mx : Int) ≤ 32))) = true ∧ (decide ((mx : Int) < 0)) = false) ?_ ?_
                  · rintro ⟨hc0, hc1⟩
                    refine ob_val (fun _ => Below.refl _ _) fun a' w' hS hI hD => ⟨wanted_eq (c := (decide ((mx : Int) < 0))) rfl ((show (((((decide (0 ≤ (mn : Int))) && (decide ((mn : Int) ≤ 32))) && (decide ((mx : Int) ≤ 32))) = true → slotV _ a' 17 = Value.bool (decide ((mx : Int) < 0))) ∧ (¬ ((((decide (0 ≤ (mn : Int))) && (decide ((mn : Int) ≤ 32))) && (decide ((mx : Int) ≤ 32))) = true) → slotV _ a' 17 = undef)) from dep_at hD 17 (by kernel_rfl)).1 hc0) hc1, Value.pointer (some ⟨w.heap.size, 5, none⟩), ?_, fun _ => rfl⟩
                    have h0 : a'.tmps.getD 1 undef = Value.pointer (some ⟨w.heap.size, 0, none⟩) := hS.at rfl
                    simp only [execOp, Act.eval, h0]
                    clear h0
                    go_simp
                  · intro hn a' w' hS hI hD
                    have hg : ((((decide (0 ≤ (mn : Int))) && (decide ((mn : Int) ≤ 32))) && (decide ((mx : Int) ≤ 32))) = true → slotV _ a' 17 = Value.bool (decide ((mx : Int) < 0))) ∧ (¬ ((((decide (0 ≤ (mn : Int))) && (decide ((mn : Int) ≤ 32))) && (decide ((mx : Int) ≤ 32))) = true) → slotV _ a' 17 = undef) := dep_at hD 17 (by kernel_rfl)
                    by_cases hcj : (((decide (0 ≤ (mn : Int))) && (decide ((mn : Int) ≤ 32))) && (decide ((mx : Int) ≤ 32))) = true
                    · exact ⟨unwanted (c := (decide ((mx : Int) < 0))) rfl (hg.1 hcj) (fun hq => hn (by simp only [hcj, hq, and_self])), fun hc => absurd hc hn⟩
                    · exact ⟨unwanted_u rfl (hg.2 hcj), fun hc => absurd hc hn⟩
                · refine ob_when ((((decide (0 ≤ (mn : Int))) && (decide ((mn : Int) ≤ 32))) && (decide ((mx : Int) ≤ 32))) = true ∧ (decide ((mx : Int) < 0)) = false) ?_ ?_
                  · rintro ⟨hc0, hc1⟩
                    refine ob_val (fun _ => Below.refl _ _) fun a' w' hS hI hD => ⟨wanted_eq (c := (decide ((mx : Int) < 0))) rfl ((show (((((decide (0 ≤ (mn : Int))) && (decide ((mn : Int) ≤ 32))) && (decide ((mx : Int) ≤ 32))) = true → slotV _ a' 17 = Value.bool (decide ((mx : Int) < 0))) ∧ (¬ ((((decide (0 ≤ (mn : Int))) && (decide ((mn : Int) ≤ 32))) && (decide ((mx : Int) ≤ 32))) = true) → slotV _ a' 17 = undef)) from dep_at hD 17 (by kernel_rfl)).1 hc0) hc1, Value.int .i64 mn, ?_, fun _ => rfl⟩
                    have h0 : ((((decide (0 ≤ (mn : Int))) && (decide ((mn : Int) ≤ 32))) && (decide ((mx : Int) ≤ 32))) = true ∧ (decide ((mx : Int) < 0)) = false → a'.tmps.getD 57 undef = Value.pointer (some ⟨w.heap.size, 5, none⟩)) := dep_at hD 20 (by kernel_rfl)
                    replace h0 := h0 ⟨hc0, hc1⟩
                    have hc := (nd_cell (below_all hI HG1.out)).2.1
                    exact run_load_cell _ (.tmp 57) rfl _ _ _ h0 hc _ Try.underlying3 rfl
                  · intro hn a' w' hS hI hD
                    have hg : ((((decide (0 ≤ (mn : Int))) && (decide ((mn : Int) ≤ 32))) && (decide ((mx : Int) ≤ 32))) = true → slotV _ a' 17 = Value.bool (decide ((mx : Int) < 0))) ∧ (¬ ((((decide (0 ≤ (mn : Int))) && (decide ((mn : Int) ≤ 32))) && (decide ((mx : Int) ≤ 32))) = true) → slotV _ a' 17 = undef) := dep_at hD 17 (by kernel_rfl)
                    by_cases hcj : (((decide (0 ≤ (mn : Int))) && (decide ((mn : Int) ≤ 32))) && (decide ((mx : Int) ≤ 32))) = true
                    · exact ⟨unwanted (c := (decide ((mx : Int) < 0))) rfl (hg.1 hcj) (fun hq => hn (by simp only [hcj, hq, and_self])), fun hc => absurd hc hn⟩
                    · exact ⟨unwanted_u rfl (hg.2 hcj), fun hc => absurd hc hn⟩
                · refine ob_when ((((decide (0 ≤ (mn : Int))) && (decide ((mn : Int) ≤ 32))) && (decide ((mx : Int) ≤ 32))) = true ∧ (decide ((mx : Int) < 0)) = false) ?_ ?_
                  · rintro ⟨hc0, hc1⟩
                    refine ob_val (fun _ => Below.refl _ _) fun a' w' hS hI hD => ⟨wanted_eq (c := (decide ((mx : Int) < 0))) rfl ((show (((((decide (0 ≤ (mn : Int))) && (decide ((mn : Int) ≤ 32))) && (decide ((mx : Int) ≤ 32))) = true → slotV _ a' 17 = Value.bool (decide ((mx : Int) < 0))) ∧ (¬ ((((decide (0 ≤ (mn : Int))) && (decide ((mn : Int) ≤ 32))) && (decide ((mx : Int) ≤ 32))) = true) → slotV _ a' 17 = undef)) from dep_at hD 17 (by kernel_rfl)).1 hc0) hc1, Value.bool (decide (mn ≤ (mx : Int))), ?_, fun _ => rfl⟩
                    have h0 : ((((decide (0 ≤ (mn : Int))) && (decide ((mn : Int) ≤ 32))) && (decide ((mx : Int) ≤ 32))) = true ∧ (decide ((mx : Int) < 0)) = false → a'.tmps.getD 56 undef = Value.int .i64 mx) := dep_at hD 19 (by kernel_rfl)
                    replace h0 := h0 ⟨hc0, hc1⟩
                    have h1 : ((((decide (0 ≤ (mn : Int))) && (decide ((mn : Int) ≤ 32))) && (decide ((mx : Int) ≤ 32))) = true ∧ (decide ((mx : Int) < 0)) = false → a'.tmps.getD 58 undef = Value.int .i64 mn) := dep_at hD 21 (by kernel_rfl)
                    replace h1 := h1 ⟨hc0, hc1⟩
                    exact run_geq_i _ _ (.tmp 56) (.tmp 58) rfl _ _ _ h0 h1
                  · intro hn a' w' hS hI hD
                    have hg : ((((decide (0 ≤ (mn : Int))) && (decide ((mn : Int) ≤ 32))) && (decide ((mx : Int) ≤ 32))) = true → slotV _ a' 17 = Value.bool (decide ((mx : Int) < 0))) ∧ (¬ ((((decide (0 ≤ (mn : Int))) && (decide ((mn : Int) ≤ 32))) && (decide ((mx : Int) ≤ 32))) = true) → slotV _ a' 17 = undef) := dep_at hD 17 (by kernel_rfl)
                    by_cases hcj : (((decide (0 ≤ (mn : Int))) && (decide ((mn : Int) ≤ 32))) && (decide ((mx : Int) ≤ 32))) = true
                    · exact ⟨unwanted (c := (decide ((mx : Int) < 0))) rfl (hg.1 hcj) (fun hq => hn (by simp only [hcj, hq, and_self])), fun hc => absurd hc hn⟩
                    · exact ⟨unwanted_u rfl (hg.2 hcj), fun hc => absurd hc hn⟩
                · refine ob_when ((((decide (0 ≤ (mn : Int))) && (decide ((mn : Int) ≤ 32))) && (decide ((mx : Int) ≤ 32))) = true) (fun hc0 => ?_) (fun hn a' w' hS hI hD => ⟨unwanted (c := (((decide (0 ≤ (mn : Int))) && (decide ((mn : Int) ≤ 32))) && (decide ((mx : Int) ≤ 32)))) rfl (dep_at hD 13 (by kernel_rfl)) hn, fun hc => absurd hc hn⟩)
                  refine ob_val (fun _ => Below.refl _ _) fun a' w' hS hI hD => ⟨wanted_eq (c := (((decide (0 ≤ (mn : Int))) && (decide ((mn : Int) ≤ 32))) && (decide ((mx : Int) ≤ 32)))) rfl (dep_at hD 13 (by kernel_rfl)) hc0, Value.bool ((decide ((mx : Int) < 0)) || (decide (mn ≤ (mx : Int)))), ?_, fun _ => rfl⟩
                  have h0_ : ((((decide (0 ≤ (mn : Int))) && (decide ((mn : Int) ≤ 32))) && (decide ((mx : Int) ≤ 32))) = true → a'.tmps.getD 54 undef = Value.bool (decide ((mx : Int) < 0))) ∧ (¬ ((((decide (0 ≤ (mn : Int))) && (decide ((mn : Int) ≤ 32))) && (decide ((mx : Int) ≤ 32))) = true) → a'.tmps.getD 54 undef = undef) := (dep_at hD 17 (by kernel_rfl))
                  have h0 := h0_.1
                  replace h0 := h0 hc0
                  have h1 : ((((decide (0 ≤ (mn : Int))) && (decide ((mn : Int) ≤ 32))) && (decide ((mx : Int) ≤ 32))) = true ∧ (decide ((mx : Int) < 0)) = false → a'.tmps.getD 59 undef = Value.bool (decide (mn ≤ (mx : Int)))) := dep_at hD 22 (by kernel_rfl)
                  replace h1 : (decide ((mx : Int) < 0)) = false → a'.tmps.getD 59 undef = Value.bool (decide (mn ≤ (mx : Int))) := fun hC => h1 ⟨hc0, hC⟩
                  exact run_pick_or (.tmp 54) (.tmp 59) rfl rfl _ _ h0 h1
                · refine ob_val (fun _ => Below.refl _ _) fun a' w' hS hI hD => ⟨rfl, Value.bool ((((decide (0 ≤ (mn : Int))) && (decide ((mn : Int) ≤ 32))) && (decide ((mx : Int) ≤ 32))) && ((decide ((mx : Int) < 0)) || (decide (mn ≤ (mx : Int))))), ?_, rfl⟩
                  have h0 : a'.tmps.getD 50 undef = Value.bool (((decide (0 ≤ (mn : Int))) && (decide ((mn : Int) ≤ 32))) && (decide ((mx : Int) ≤ 32))) := dep_at hD 13 (by kernel_rfl)
                  have h1 : ((((decide (0 ≤ (mn : Int))) && (decide ((mn : Int) ≤ 32))) && (decide ((mx : Int) ≤ 32))) = true → a'.tmps.getD 60 undef = Value.bool ((decide ((mx : Int) < 0)) || (decide (mn ≤ (mx : Int))))) := dep_at hD 23 (by kernel_rfl)
                  replace h1 : (((decide (0 ≤ (mn : Int))) && (decide ((mn : Int) ≤ 32))) && (decide ((mx : Int) ≤ 32))) = true → a'.tmps.getD 60 undef = Value.bool ((decide ((mx : Int) < 0)) || (decide (mn ≤ (mx : Int)))) := fun hC => h1 hC
                  exact run_pick_and (.tmp 50) (.tmp 60) rfl rfl _ _ h0 h1
                · refine ob_val (fun _ => Below.refl _ _) fun a' w' hS hI hD => ⟨rfl, Value.bool ((((decide (0 ≤ (mn : Int))) && (decide ((mn : Int) ≤ 32))) && (decide ((mx : Int) ≤ 32))) && ((decide ((mx : Int) < 0)) || (decide (mn ≤ (mx : Int))))), ?_, rfl⟩
                  have h0 : a'.tmps.getD 61 undef = Value.bool ((((decide (0 ≤ (mn : Int))) && (decide ((mn : Int) ≤ 32))) && (decide ((mx : Int) ≤ 32))) && ((decide ((mx : Int) < 0)) || (decide (mn ≤ (mx : Int))))) := dep_at hD 24 (by kernel_rfl)
                  exact run_val (.tmp 61) (by first | exact .inl rfl | exact .inr rfl) _ h0
              · intro v w9 hI hT
                have hlast : v 25 = .bool ((((decide (0 ≤ (mn : Int))) && (decide ((mn : Int) ≤ 32))) && (decide ((mx : Int) ≤ 32))) && ((decide ((mx : Int) < 0)) || (decide (mn ≤ (mx : Int))))) := tall_at _ _ hT 25 (by decide) (by decide)
                have HB9 := Lib.hid (below_more HB7.out (by have := HB7.out.size; omega) hI)
                have HOK := Lib.hid (okN_7 (mn := mn) (mx := mx) HF1.out HF3.out HF5.out)
                clear hT hI
                simp only [putAll, Act.put, List.setIfInBounds_toArray, List.set_cons_succ, List.set_cons_zero, Nat.reduceAdd]
                have HL := Lib.hid hlast
                clear hlast
                go_wp2_with (fail)
                go_ret
                exact ⟨by rw [HOK.out, ← HL.out]; rfl, HB9.out⟩
            · rw [hb] at hlast
              have HN := Lib.hid (okN_5 (mn := mn) (mx := mx) hb)
              clear hb
              simp only [putAll, Act.put, List.setIfInBounds_toArray, List.set_cons_succ, List.set_cons_zero, Nat.reduceAdd, hlast]
              clear hlast
              go_wp2_with (fail)
              go_ret
              exact ⟨by rw [HN.out]; rfl, HB7.out⟩
        · rw [hb] at hlast
          have HN := Lib.hid (okN_3 (mn := mn) (mx := mx) hb)
          clear hb
          simp only [putAll, Act.put, List.setIfInBounds_toArray, List.set_cons_succ, List.set_cons_zero, Nat.reduceAdd, hlast]
          clear hlast
          go_wp2_with (fail)
          go_ret
          exact ⟨by rw [HN.out]; rfl, HB5.out⟩
    · rw [hb] at hlast
      have HN := Lib.hid (okN_1 (mn := mn) (mx := mx) (n := ks.length) hb)
      clear hb
      simp only [putAll, Act.put, List.setIfInBounds_toArray, List.set_cons_succ, List.set_cons_zero, Nat.reduceAdd, hlast]
      clear hlast
      go_wp2_with (fail)
      go_ret
      exact ⟨by rw [HN.out]; rfl, HB3.out⟩
end Go.Proofs.Ytekodfpjoehooaa.Bs
