/- The walks of the reference's may and Check. -/
import Derived.Test.YtekodfpjoehooaaNodeW16
namespace Go.Proofs.Ytekodfpjoehooaa.Bs
open Go.RowKit Mem Reg
def may1 (w : World) (op : Int) (st : BitVec 256) (mn mx : Int) (ks : List Nd) (A : Option Addr) (cap : Nat) (d : Int) : List (Value → World → Prop) := [
  fun v _ => v = Value.int .i64 d,
  fun v _ => v = Value.bool (decide (64 < (d : Int))),
  fun v _ => v = Value.bool (decide (64 < (d : Int))),
  fun v _ => (decide (64 < (d : Int))) = false → v = Value.pointer (some ⟨w.heap.size, 0, none⟩),
  fun v _ => (decide (64 < (d : Int))) = false → v = Value.int .i64 op,
  fun v _ => (decide (64 < (d : Int))) = false → v = Value.bool (decide ((op : Int) < 0)),
  fun v _ => v = Value.bool ((decide (64 < (d : Int))) || (decide ((op : Int) < 0))),
  fun v _ => v = Value.bool ((decide (64 < (d : Int))) || (decide ((op : Int) < 0))),
  fun v _ => ((decide (64 < (d : Int))) || (decide ((op : Int) < 0))) = false → v = Value.pointer (some ⟨w.heap.size, 0, none⟩),
  fun v _ => ((decide (64 < (d : Int))) || (decide ((op : Int) < 0))) = false → v = Value.int .i64 op,
  fun v _ => ((decide (64 < (d : Int))) || (decide ((op : Int) < 0))) = false → v = Value.bool (decide (5 < (op : Int))),
  fun v _ => v = Value.bool (((decide (64 < (d : Int))) || (decide ((op : Int) < 0))) || (decide (5 < (op : Int))))]
theorem may1_keep (w : World) (op : Int) (st : BitVec 256) (mn mx : Int) (ks : List Nd) (A : Option Addr) (cap : Nat) (d : Int) : PredsKeep (may1 w op st mn mx ks A cap d) :=
  ⟨fun _ _ _ h _ => h,
  fun _ _ _ h _ => h,
  fun _ _ _ h _ => h,
  fun _ _ _ h _ => h,
  fun _ _ _ h _ => h,
  fun _ _ _ h _ => h,
  fun _ _ _ h _ => h,
  fun _ _ _ h _ => h,
  fun _ _ _ h _ => h,
  fun _ _ _ h _ => h,
  fun _ _ _ h _ => h,
  fun _ _ _ h _ => h, trivial⟩
def may3 (w : World) (op : Int) (st : BitVec 256) (mn mx : Int) (ks : List Nd) (A : Option Addr) (cap : Nat) (d : Int) : List (Value → World → Prop) := [
  fun v _ => v = Value.pointer (some ⟨w.heap.size, 0, none⟩),
  fun v _ => v = Value.int .i64 op,
  fun v _ => v = Value.bool ((op : Int) == 0),
  fun v _ => v = Value.bool ((op : Int) == 0),
  fun v _ => ((op : Int) == 0) = true → v = Value.pointer (some ⟨w.heap.size, 7, none⟩),
  fun v _ => ((op : Int) == 0) = true → v = Value.slice A ks.length cap,
  fun v _ => ((op : Int) == 0) = true → v = Value.int .i64 (ks.length : Nat),
  fun v _ => ((op : Int) == 0) = true → v = Value.bool (decide (0 < ((ks.length : Nat) : Int))),
  fun v _ => v = Value.bool (((op : Int) == 0) && (decide (0 < ((ks.length : Nat) : Int)))),
  fun v _ => v = Value.bool (((op : Int) == 0) && (decide (0 < ((ks.length : Nat) : Int)))),
  fun v _ => (((op : Int) == 0) && (decide (0 < ((ks.length : Nat) : Int)))) = false → v = Value.pointer (some ⟨w.heap.size, 0, none⟩),
  fun v _ => (((op : Int) == 0) && (decide (0 < ((ks.length : Nat) : Int)))) = false → v = Value.int .i64 op,
  fun v _ => (((op : Int) == 0) && (decide (0 < ((ks.length : Nat) : Int)))) = false → v = Value.bool ((op : Int) == 3),
  fun v _ => ((((op : Int) == 0) && (decide (0 < ((ks.length : Nat) : Int)))) = false → v = Value.bool ((op : Int) == 3)) ∧ (¬ ((((op : Int) == 0) && (decide (0 < ((ks.length : Nat) : Int)))) = false) → v = undef),
  fun v _ => (((op : Int) == 0) && (decide (0 < ((ks.length : Nat) : Int)))) = false ∧ ((op : Int) == 3) = false → v = Value.pointer (some ⟨w.heap.size, 0, none⟩),
  fun v _ => (((op : Int) == 0) && (decide (0 < ((ks.length : Nat) : Int)))) = false ∧ ((op : Int) == 3) = false → v = Value.int .i64 op,
  fun v _ => (((op : Int) == 0) && (decide (0 < ((ks.length : Nat) : Int)))) = false ∧ ((op : Int) == 3) = false → v = Value.bool ((op : Int) == 5),
  fun v _ => (((op : Int) == 0) && (decide (0 < ((ks.length : Nat) : Int)))) = false → v = Value.bool (((op : Int) == 3) || ((op : Int) == 5)),
  fun v _ => ((((op : Int) == 0) && (decide (0 < ((ks.length : Nat) : Int)))) = false → v = Value.bool (((op : Int) == 3) || ((op : Int) == 5))) ∧ (¬ ((((op : Int) == 0) && (decide (0 < ((ks.length : Nat) : Int)))) = false) → v = undef),
  fun v _ => (((op : Int) == 0) && (decide (0 < ((ks.length : Nat) : Int)))) = false ∧ (((op : Int) == 3) || ((op : Int) == 5)) = true → v = Value.pointer (some ⟨w.heap.size, 7, none⟩),
  fun v _ => (((op : Int) == 0) && (decide (0 < ((ks.length : Nat) : Int)))) = false ∧ (((op : Int) == 3) || ((op : Int) == 5)) = true → v = Value.slice A ks.length cap,
  fun v _ => (((op : Int) == 0) && (decide (0 < ((ks.length : Nat) : Int)))) = false ∧ (((op : Int) == 3) || ((op : Int) == 5)) = true → v = Value.int .i64 (ks.length : Nat),
  fun v _ => (((op : Int) == 0) && (decide (0 < ((ks.length : Nat) : Int)))) = false ∧ (((op : Int) == 3) || ((op : Int) == 5)) = true → v = Value.bool (((ks.length : Nat) : Int) != 1),
  fun v _ => (((op : Int) == 0) && (decide (0 < ((ks.length : Nat) : Int)))) = false → v = Value.bool ((((op : Int) == 3) || ((op : Int) == 5)) && (((ks.length : Nat) : Int) != 1)),
  fun v _ => v = Value.bool ((((op : Int) == 0) && (decide (0 < ((ks.length : Nat) : Int)))) || ((((op : Int) == 3) || ((op : Int) == 5)) && (((ks.length : Nat) : Int) != 1)))]
theorem may3_keep (w : World) (op : Int) (st : BitVec 256) (mn mx : Int) (ks : List Nd) (A : Option Addr) (cap : Nat) (d : Int) : PredsKeep (may3 w op st mn mx ks A cap d) :=
  ⟨fun _ _ _ h _ => h,
  fun _ _ _ h _ => h,
  fun _ _ _ h _ => h,
  fun _ _ _ h _ => h,
  fun _ _ _ h _ => h,
  fun _ _ _ h _ => h,
  fun _ _ _ h _ => h,
  fun _ _ _ h _ => h,
  fun _ _ _ h _ => h,
  fun _ _ _ h _ => h,
  fun _ _ _ h _ => h,
  fun _ _ _ h _ => h,
  fun _ _ _ h _ => h,
  fun _ _ _ h _ => h,
  fun _ _ _ h _ => h,
  fun _ _ _ h _ => h,
  fun _ _ _ h _ => h,
  fun _ _ _ h _ => h,
  fun _ _ _ h _ => h,
  fun _ _ _ h _ => h,
  fun _ _ _ h _ => h,
  fun _ _ _ h _ => h,
  fun _ _ _ h _ => h,
  fun _ _ _ h _ => h,
  fun _ _ _ h _ => h, trivial⟩
def may5 (w : World) (op : Int) (st : BitVec 256) (mn mx : Int) (ks : List Nd) (A : Option Addr) (cap : Nat) (d : Int) : List (Value → World → Prop) := [
  fun v _ => v = Value.pointer (some ⟨w.heap.size, 5, none⟩),
  fun v _ => v = Value.int .i64 mn,
  fun v _ => v = Value.bool (decide ((mn : Int) < 0)),
  fun v _ => v = Value.bool (decide ((mn : Int) < 0)),
  fun v _ => (decide ((mn : Int) < 0)) = false → v = Value.pointer (some ⟨w.heap.size, 5, none⟩),
  fun v _ => (decide ((mn : Int) < 0)) = false → v = Value.int .i64 mn,
  fun v _ => (decide ((mn : Int) < 0)) = false → v = Value.bool (decide (32 < (mn : Int))),
  fun v _ => v = Value.bool ((decide ((mn : Int) < 0)) || (decide (32 < (mn : Int)))),
  fun v _ => v = Value.bool ((decide ((mn : Int) < 0)) || (decide (32 < (mn : Int)))),
  fun v _ => ((decide ((mn : Int) < 0)) || (decide (32 < (mn : Int)))) = false → v = Value.pointer (some ⟨w.heap.size, 6, none⟩),
  fun v _ => ((decide ((mn : Int) < 0)) || (decide (32 < (mn : Int)))) = false → v = Value.int .i64 mx,
  fun v _ => ((decide ((mn : Int) < 0)) || (decide (32 < (mn : Int)))) = false → v = Value.bool (decide (32 < (mx : Int))),
  fun v _ => v = Value.bool (((decide ((mn : Int) < 0)) || (decide (32 < (mn : Int)))) || (decide (32 < (mx : Int)))),
  fun v _ => v = Value.bool (((decide ((mn : Int) < 0)) || (decide (32 < (mn : Int)))) || (decide (32 < (mx : Int)))),
  fun v _ => (((decide ((mn : Int) < 0)) || (decide (32 < (mn : Int)))) || (decide (32 < (mx : Int)))) = false → v = Value.pointer (some ⟨w.heap.size, 6, none⟩),
  fun v _ => (((decide ((mn : Int) < 0)) || (decide (32 < (mn : Int)))) || (decide (32 < (mx : Int)))) = false → v = Value.int .i64 mx,
  fun v _ => (((decide ((mn : Int) < 0)) || (decide (32 < (mn : Int)))) || (decide (32 < (mx : Int)))) = false → v = Value.bool (decide (0 ≤ (mx : Int))),
  fun v _ => ((((decide ((mn : Int) < 0)) || (decide (32 < (mn : Int)))) || (decide (32 < (mx : Int)))) = false → v = Value.bool (decide (0 ≤ (mx : Int)))) ∧ (¬ ((((decide ((mn : Int) < 0)) || (decide (32 < (mn : Int)))) || (decide (32 < (mx : Int)))) = false) → v = undef),
  fun v _ => (((decide ((mn : Int) < 0)) || (decide (32 < (mn : Int)))) || (decide (32 < (mx : Int)))) = false ∧ (decide (0 ≤ (mx : Int))) = true → v = Value.pointer (some ⟨w.heap.size, 6, none⟩),
  fun v _ => (((decide ((mn : Int) < 0)) || (decide (32 < (mn : Int)))) || (decide (32 < (mx : Int)))) = false ∧ (decide (0 ≤ (mx : Int))) = true → v = Value.int .i64 mx,
  fun v _ => (((decide ((mn : Int) < 0)) || (decide (32 < (mn : Int)))) || (decide (32 < (mx : Int)))) = false ∧ (decide (0 ≤ (mx : Int))) = true → v = Value.pointer (some ⟨w.heap.size, 5, none⟩),
  fun v _ => (((decide ((mn : Int) < 0)) || (decide (32 < (mn : Int)))) || (decide (32 < (mx : Int)))) = false ∧ (decide (0 ≤ (mx : Int))) = true → v = Value.int .i64 mn,
  fun v _ => (((decide ((mn : Int) < 0)) || (decide (32 < (mn : Int)))) || (decide (32 < (mx : Int)))) = false ∧ (decide (0 ≤ (mx : Int))) = true → v = Value.bool (decide ((mx : Int) < mn)),
  fun v _ => (((decide ((mn : Int) < 0)) || (decide (32 < (mn : Int)))) || (decide (32 < (mx : Int)))) = false → v = Value.bool ((decide (0 ≤ (mx : Int))) && (decide ((mx : Int) < mn))),
  fun v _ => v = Value.bool ((((decide ((mn : Int) < 0)) || (decide (32 < (mn : Int)))) || (decide (32 < (mx : Int)))) || ((decide (0 ≤ (mx : Int))) && (decide ((mx : Int) < mn))))]
theorem may5_keep (w : World) (op : Int) (st : BitVec 256) (mn mx : Int) (ks : List Nd) (A : Option Addr) (cap : Nat) (d : Int) : PredsKeep (may5 w op st mn mx ks A cap d) :=
  ⟨fun _ _ _ h _ => h,
  fun _ _ _ h _ => h,
  fun _ _ _ h _ => h,
  fun _ _ _ h _ => h,
  fun _ _ _ h _ => h,
  fun _ _ _ h _ => h,
  fun _ _ _ h _ => h,
  fun _ _ _ h _ => h,
  fun _ _ _ h _ => h,
  fun _ _ _ h _ => h,
  fun _ _ _ h _ => h,
  fun _ _ _ h _ => h,
  fun _ _ _ h _ => h,
  fun _ _ _ h _ => h,
  fun _ _ _ h _ => h,
  fun _ _ _ h _ => h,
  fun _ _ _ h _ => h,
  fun _ _ _ h _ => h,
  fun _ _ _ h _ => h,
  fun _ _ _ h _ => h,
  fun _ _ _ h _ => h,
  fun _ _ _ h _ => h,
  fun _ _ _ h _ => h,
  fun _ _ _ h _ => h,
  fun _ _ _ h _ => h, trivial⟩
theorem okN_m3 {op mn mx : Int} {n : Nat} (h : ((((op : Int) == 0) && (decide (0 < (((n) : Nat) : Int)))) || ((((op : Int) == 3) || ((op : Int) == 5)) && ((((n) : Nat) : Int) != 1))) = true) : okN op mn mx n = false := by
  simp at h; simp [okN]; omega
theorem okN_m5 {op mn mx : Int} {n : Nat} (h : ((((decide ((mn : Int) < 0)) || (decide (32 < (mn : Int)))) || (decide (32 < (mx : Int)))) || ((decide (0 ≤ (mx : Int))) && (decide ((mx : Int) < mn)))) = true) : okN op mn mx n = false := by
  simp at h; simp [okN]; omega
theorem okN_m1 {d op mn mx : Int} {n : Nat} (hd : 0 < 65 - d) (h : (((decide (64 < (d : Int))) || (decide ((op : Int) < 0))) || (decide (5 < (op : Int)))) = true) : okN op mn mx n = false := by
  simp at h; simp [okN]; omega
theorem okN_m {d op mn mx : Int} {n : Nat} (h1 : (((decide (64 < (d : Int))) || (decide ((op : Int) < 0))) || (decide (5 < (op : Int)))) = false) (h3 : ((((op : Int) == 0) && (decide (0 < (((n) : Nat) : Int)))) || ((((op : Int) == 3) || ((op : Int) == 5)) && ((((n) : Nat) : Int) != 1))) = false) (h5 : ((((decide ((mn : Int) < 0)) || (decide (32 < (mn : Int)))) || (decide (32 < (mx : Int)))) || ((decide (0 ≤ (mx : Int))) && (decide ((mx : Int) < mn)))) = false) : okN op mn mx n = true ∧ 0 < 65 - d := by
  simp at h1 h3 h5; simp [okN]; omega
theorem may_1 {d op mn mx : Int} {st : BitVec 256} {ks : List Nd} (h : (((decide (64 < (d : Int))) || (decide ((op : Int) < 0))) || (decide (5 < (op : Int)))) = true) : Nd.may (65 - d).toNat (.mk op st mn mx ks) = false := by
  rw [may_int]
  by_cases h0 : 0 < 65 - d
  · rw [okN_m1 h0 h, Bool.and_false, Bool.false_and]
  · rw [decide_eq_false h0, Bool.false_and, Bool.false_and]
theorem may_3 {d op mn mx : Int} {st : BitVec 256} {ks : List Nd} (h : ((((op : Int) == 0) && (decide (0 < (((ks.length) : Nat) : Int)))) || ((((op : Int) == 3) || ((op : Int) == 5)) && ((((ks.length) : Nat) : Int) != 1))) = true) : Nd.may (65 - d).toNat (.mk op st mn mx ks) = false := by
  rw [may_int, okN_m3 h, Bool.and_false, Bool.false_and]
theorem may_5 {d op mn mx : Int} {st : BitVec 256} {ks : List Nd} (h : ((((decide ((mn : Int) < 0)) || (decide (32 < (mn : Int)))) || (decide (32 < (mx : Int)))) || ((decide (0 ≤ (mx : Int))) && (decide ((mx : Int) < mn)))) = true) : Nd.may (65 - d).toNat (.mk op st mn mx ks) = false := by
  rw [may_int, okN_m5 h, Bool.and_false, Bool.false_and]
theorem may_all {d op mn mx : Int} {st : BitVec 256} {ks : List Nd} (h1 : (((decide (64 < (d : Int))) || (decide ((op : Int) < 0))) || (decide (5 < (op : Int)))) = false) (h3 : ((((op : Int) == 0) && (decide (0 < (((ks.length) : Nat) : Int)))) || ((((op : Int) == 3) || ((op : Int) == 5)) && ((((ks.length) : Nat) : Int) != 1))) = false) (h5 : ((((decide ((mn : Int) < 0)) || (decide (32 < (mn : Int)))) || (decide (32 < (mx : Int)))) || ((decide (0 ≤ (mx : Int))) && (decide ((mx : Int) < mn)))) = false) : Nd.may (65 - d).toNat (.mk op st mn mx ks) = ks.all (Nd.may (65 - (d + 1)).toNat) := by
  obtain ⟨ho, hd⟩ := okN_m h1 h3 h5
  rw [may_int, not_any_not, ho, decide_eq_true hd, Bool.true_and, Bool.true_and, show 65 - d - 1 = 65 - (d + 1) by omega]
set_option maxHeartbeats 6400000 in
set_option maxRecDepth 100000 in
theorem may_aux (n : Nat) : ∀ (d : Int), (65 - d).toNat ≤ n → 0 ≤ d → d ≤ 1000 → ∀ (t : Nd) (Q : Nat → Prop) (v : Value) (w : World), NodeV w Q v t →
    Calls Try.prog 45 #[v, .int .i64 d] w fun e w' => e = .returned (.bool (t.may (65 - d).toNat)) ∧ Below w.heap.size w w' := by
  induction n with
  | zero =>
    intro d hdn h1 h2 t Q v w hv
    obtain ⟨op, st, mn, mx, ks⟩ := t
    obtain ⟨kv, rfl, hk⟩ := hv
    obtain ⟨A, cap, rfl, hlen⟩ := hk.form
    have HK := Lib.hid hk
    have HIH : Hid (∀ (i : Nat) (k : Nd), ks[i]? = some k → ∀ v w, d ≤ 64 → NodeV w Q v k → Calls Try.prog 45 #[v, .int .i64 (d + 1)] w fun e w' => e = .returned (.bool (k.may (65 - (d + 1)).toNat)) ∧ Below w.heap.size w w') := Lib.hid fun i k hi v w h64 => by omega
    have HDN := Lib.hid hdn
    clear hk  hdn
    go_enter Try.func45, Try.ntmps45
    go_upto_region 1 with (refine box_nd rfl (.tmp 0) rfl op st mn mx _ rfl ?_)
    have HB1 : Hid (Below w.heap.size w (w.alloc (.cells (ndC op st mn mx (.slice A ks.length cap)) 28))) := Lib.hid ((Below.refl _ _).alloc (Nat.le_refl _) _)
    have HG1 := Lib.hid (heap_alloc_new w (.cells (ndC op st mn mx (.slice A ks.length cap)) 28))
    generalize w.alloc (.cells (ndC op st mn mx (.slice A ks.length cap)) 28) = w1 at *
    refine region_seq (fun w' => Below w1.heap.size w1 w') (fun w1 w2 => Below w1.heap.size w1 w2) (predsT (may1 w op st mn mx ks A cap d)) (by kernel_rfl) (by kernel_rfl) (by kernel_rfl) (preds_keep _ (may1_keep w op st mn mx ks A cap d)) (Below.refl _ _) ?_ ?_
    · refine ⟨?_, ?_, ?_, ?_, ?_, ?_, ?_, ?_, ?_, ?_, ?_, ?_, trivial⟩
      · refine ob_val (fun _ => Below.refl _ _) fun a' w' hS hI hD => ⟨rfl, Value.int .i64 d, ?_, rfl⟩
        have h0 : a'.tmps.getD 1 undef = Value.int .i64 d := hS.at rfl
        exact run_val (.tmp 1) (by first | exact .inl rfl | exact .inr rfl) _ h0
      · refine ob_val (fun _ => Below.refl _ _) fun a' w' hS hI hD => ⟨rfl, Value.bool (decide (64 < (d : Int))), ?_, rfl⟩
        have h0 : a'.tmps.getD 7 undef = Value.int .i64 d := dep_at hD 0 (by kernel_rfl)
        exact run_gtr_i _ _ (.tmp 7) (.const (Value.int .i64 64)) rfl _ _ _ h0 (by rfl)
      · refine ob_val (fun _ => Below.refl _ _) fun a' w' hS hI hD => ⟨rfl, Value.bool (decide (64 < (d : Int))), ?_, rfl⟩
        have h0 : a'.tmps.getD 8 undef = Value.bool (decide (64 < (d : Int))) := dep_at hD 1 (by kernel_rfl)
        exact run_val (.tmp 8) (by first | exact .inl rfl | exact .inr rfl) _ h0
      · refine ob_when ((decide (64 < (d : Int))) = false) (fun hc0 => ?_) (fun hn a' w' hS hI hD => ⟨unwanted (c := (decide (64 < (d : Int)))) rfl (dep_at hD 2 (by kernel_rfl)) hn, fun hc => absurd hc hn⟩)
        refine ob_val (fun _ => Below.refl _ _) fun a' w' hS hI hD => ⟨wanted_eq (c := (decide (64 < (d : Int)))) rfl (dep_at hD 2 (by kernel_rfl)) hc0, Value.pointer (some ⟨w.heap.size, 0, none⟩), ?_, fun _ => rfl⟩
        have h0 : a'.tmps.getD 2 undef = Value.pointer (some ⟨w.heap.size, 0, none⟩) := hS.at rfl
        simp only [execOp, Act.eval, h0]
        clear h0
        go_simp
      · refine ob_when ((decide (64 < (d : Int))) = false) (fun hc0 => ?_) (fun hn a' w' hS hI hD => ⟨unwanted (c := (decide (64 < (d : Int)))) rfl (dep_at hD 2 (by kernel_rfl)) hn, fun hc => absurd hc hn⟩)
        refine ob_val (fun _ => Below.refl _ _) fun a' w' hS hI hD => ⟨wanted_eq (c := (decide (64 < (d : Int)))) rfl (dep_at hD 2 (by kernel_rfl)) hc0, Value.int .i64 op, ?_, fun _ => rfl⟩
        have h0 : ((decide (64 < (d : Int))) = false → a'.tmps.getD 10 undef = Value.pointer (some ⟨w.heap.size, 0, none⟩)) := dep_at hD 3 (by kernel_rfl)
        replace h0 := h0 hc0
        have hc : w'.cell? ⟨w.heap.size, 0, none⟩ = some (Value.int .i64 op) := (nd_cell (below_all hI HG1.out)).1
        exact run_load_cell _ (.tmp 10) rfl _ _ _ h0 hc _ Try.underlying3 rfl
      · refine ob_when ((decide (64 < (d : Int))) = false) (fun hc0 => ?_) (fun hn a' w' hS hI hD => ⟨unwanted (c := (decide (64 < (d : Int)))) rfl (dep_at hD 2 (by kernel_rfl)) hn, fun hc => absurd hc hn⟩)
        refine ob_val (fun _ => Below.refl _ _) fun a' w' hS hI hD => ⟨wanted_eq (c := (decide (64 < (d : Int)))) rfl (dep_at hD 2 (by kernel_rfl)) hc0, Value.bool (decide ((op : Int) < 0)), ?_, fun _ => rfl⟩
        have h0 : ((decide (64 < (d : Int))) = false → a'.tmps.getD 11 undef = Value.int .i64 op) := dep_at hD 4 (by kernel_rfl)
        replace h0 := h0 hc0
        exact run_lss_i _ _ (.tmp 11) (.const (Value.int .i64 0)) rfl _ _ _ h0 (by rfl)
      · refine ob_val (fun _ => Below.refl _ _) fun a' w' hS hI hD => ⟨rfl, Value.bool ((decide (64 < (d : Int))) || (decide ((op : Int) < 0))), ?_, rfl⟩
        have h0 : a'.tmps.getD 9 undef = Value.bool (decide (64 < (d : Int))) := dep_at hD 2 (by kernel_rfl)
        have h1 : ((decide (64 < (d : Int))) = false → a'.tmps.getD 12 undef = Value.bool (decide ((op : Int) < 0))) := dep_at hD 5 (by kernel_rfl)
        replace h1 : (decide (64 < (d : Int))) = false → a'.tmps.getD 12 undef = Value.bool (decide ((op : Int) < 0)) := fun hC => h1 hC
        exact run_pick_or (.tmp 9) (.tmp 12) rfl rfl _ _ h0 h1
      · refine ob_val (fun _ => Below.refl _ _) fun a' w' hS hI hD => ⟨rfl, Value.bool ((decide (64 < (d : Int))) || (decide ((op : Int) < 0))), ?_, rfl⟩
        have h0 : a'.tmps.getD 13 undef = Value.bool ((decide (64 < (d : Int))) || (decide ((op : Int) < 0))) := dep_at hD 6 (by kernel_rfl)
        exact run_val (.tmp 13) (by first | exact .inl rfl | exact .inr rfl) _ h0
      · refine ob_when (((decide (64 < (d : Int))) || (decide ((op : Int) < 0))) = false) (fun hc0 => ?_) (fun hn a' w' hS hI hD => ⟨unwanted (c := ((decide (64 < (d : Int))) || (decide ((op : Int) < 0)))) rfl (dep_at hD 7 (by kernel_rfl)) hn, fun hc => absurd hc hn⟩)
        refine ob_val (fun _ => Below.refl _ _) fun a' w' hS hI hD => ⟨wanted_eq (c := ((decide (64 < (d : Int))) || (decide ((op : Int) < 0)))) rfl (dep_at hD 7 (by kernel_rfl)) hc0, Value.pointer (some ⟨w.heap.size, 0, none⟩), ?_, fun _ => rfl⟩
        have h0 : a'.tmps.getD 2 undef = Value.pointer (some ⟨w.heap.size, 0, none⟩) := hS.at rfl
        simp only [execOp, Act.eval, h0]
        clear h0
        go_simp
      · refine ob_when (((decide (64 < (d : Int))) || (decide ((op : Int) < 0))) = false) (fun hc0 => ?_) (fun hn a' w' hS hI hD => ⟨unwanted (c := ((decide (64 < (d : Int))) || (decide ((op : Int) < 0)))) rfl (dep_at hD 7 (by kernel_rfl)) hn, fun hc => absurd hc hn⟩)
        refine ob_val (fun _ => Below.refl _ _) fun a' w' hS hI hD => ⟨wanted_eq (c := ((decide (64 < (d : Int))) || (decide ((op : Int) < 0)))) rfl (dep_at hD 7 (by kernel_rfl)) hc0, Value.int .i64 op, ?_, fun _ => rfl⟩
        have h0 : (((decide (64 < (d : Int))) || (decide ((op : Int) < 0))) = false → a'.tmps.getD 15 undef = Value.pointer (some ⟨w.heap.size, 0, none⟩)) := dep_at hD 8 (by kernel_rfl)
        replace h0 := h0 hc0
        have hc : w'.cell? ⟨w.heap.size, 0, none⟩ = some (Value.int .i64 op) := (nd_cell (below_all hI HG1.out)).1
        exact run_load_cell _ (.tmp 15) rfl _ _ _ h0 hc _ Try.underlying3 rfl
      · refine ob_when (((decide (64 < (d : Int))) || (decide ((op : Int) < 0))) = false) (fun hc0 => ?_) (fun hn a' w' hS hI hD => ⟨unwanted (c := ((decide (64 < (d : Int))) || (decide ((op : Int) < 0)))) rfl (dep_at hD 7 (by kernel_rfl)) hn, fun hc => absurd hc hn⟩)
        refine ob_val (fun _ => Below.refl _ _) fun a' w' hS hI hD => ⟨wanted_eq (c := ((decide (64 < (d : Int))) || (decide ((op : Int) < 0)))) rfl (dep_at hD 7 (by kernel_rfl)) hc0, Value.bool (decide (5 < (op : Int))), ?_, fun _ => rfl⟩
        have h0 : (((decide (64 < (d : Int))) || (decide ((op : Int) < 0))) = false → a'.tmps.getD 16 undef = Value.int .i64 op) := dep_at hD 9 (by kernel_rfl)
        replace h0 := h0 hc0
        exact run_gtr_i _ _ (.tmp 16) (.const (Value.int .i64 5)) rfl _ _ _ h0 (by rfl)
      · refine ob_val (fun _ => Below.refl _ _) fun a' w' hS hI hD => ⟨rfl, Value.bool (((decide (64 < (d : Int))) || (decide ((op : Int) < 0))) || (decide (5 < (op : Int)))), ?_, rfl⟩
        have h0 : a'.tmps.getD 14 undef = Value.bool ((decide (64 < (d : Int))) || (decide ((op : Int) < 0))) := dep_at hD 7 (by kernel_rfl)
        have h1 : (((decide (64 < (d : Int))) || (decide ((op : Int) < 0))) = false → a'.tmps.getD 17 undef = Value.bool (decide (5 < (op : Int)))) := dep_at hD 10 (by kernel_rfl)
        replace h1 : ((decide (64 < (d : Int))) || (decide ((op : Int) < 0))) = false → a'.tmps.getD 17 undef = Value.bool (decide (5 < (op : Int))) := fun hC => h1 hC
        exact run_pick_or (.tmp 14) (.tmp 17) rfl rfl _ _ h0 h1
    · intro v w3 hI hT
      have hlast : v 11 = .bool (((decide (64 < (d : Int))) || (decide ((op : Int) < 0))) || (decide (5 < (op : Int)))) := tall_at _ _ hT 11 (by decide) (by decide)
      have HB3 := Lib.hid (below_more HB1.out (by have := HB1.out.size; omega) hI)
      have HG1 := Lib.hid (below_all hI HG1.out)
      clear hT hI
      rcases hb : (((decide (64 < (d : Int))) || (decide ((op : Int) < 0))) || (decide (5 < (op : Int)))) with _ | _
      · rw [hb] at hlast
        have HF1 := Lib.hid hb
        clear hb
        simp only [putAll, Act.put, List.setIfInBounds_toArray, List.set_cons_succ, List.set_cons_zero, Nat.reduceAdd, hlast]
        clear hlast
        go_upto_region 3 with (fail)
        refine region_seq (fun w' => Below w3.heap.size w3 w') (fun w1 w2 => Below w1.heap.size w1 w2) (predsT (may3 w op st mn mx ks A cap d)) (by kernel_rfl) (by kernel_rfl) (by kernel_rfl) (preds_keep _ (may3_keep w op st mn mx ks A cap d)) (Below.refl _ _) ?_ ?_
        · refine ⟨?_, ?_, ?_, ?_, ?_, ?_, ?_, ?_, ?_, ?_, ?_, ?_, ?_, ?_, ?_, ?_, ?_, ?_, ?_, ?_, ?_, ?_, ?_, ?_, ?_, trivial⟩
          · refine ob_val (fun _ => Below.refl _ _) fun a' w' hS hI hD => ⟨rfl, Value.pointer (some ⟨w.heap.size, 0, none⟩), ?_, rfl⟩
            have h0 : a'.tmps.getD 2 undef = Value.pointer (some ⟨w.heap.size, 0, none⟩) := hS.at rfl
            simp only [execOp, Act.eval, h0]
            clear h0
            go_simp
          · refine ob_val (fun _ => Below.refl _ _) fun a' w' hS hI hD => ⟨rfl, Value.int .i64 op, ?_, rfl⟩
            have h0 : a'.tmps.getD 19 undef = Value.pointer (some ⟨w.heap.size, 0, none⟩) := dep_at hD 0 (by kernel_rfl)
            have hc : w'.cell? ⟨w.heap.size, 0, none⟩ = some (Value.int .i64 op) := (nd_cell (below_all hI HG1.out)).1
            exact run_load_cell _ (.tmp 19) rfl _ _ _ h0 hc _ Try.underlying3 rfl
          · refine ob_val (fun _ => Below.refl _ _) fun a' w' hS hI hD => ⟨rfl, Value.bool ((op : Int) == 0), ?_, rfl⟩
            have h0 : a'.tmps.getD 20 undef = Value.int .i64 op := dep_at hD 1 (by kernel_rfl)
            exact run_eql_i _ _ (.tmp 20) (.const (Value.int .i64 0)) rfl _ _ _ h0 (by rfl)
          · refine ob_val (fun _ => Below.refl _ _) fun a' w' hS hI hD => ⟨rfl, Value.bool ((op : Int) == 0), ?_, rfl⟩
            have h0 : a'.tmps.getD 21 undef = Value.bool ((op : Int) == 0) := dep_at hD 2 (by kernel_rfl)
            exact run_val (.tmp 21) (by first | exact .inl rfl | exact .inr rfl) _ h0
          · refine ob_when (((op : Int) == 0) = true) (fun hc0 => ?_) (fun hn a' w' hS hI hD => ⟨unwanted (c := ((op : Int) == 0)) rfl (dep_at hD 3 (by kernel_rfl)) hn, fun hc => absurd hc hn⟩)
            refine ob_val (fun _ => Below.refl _ _) fun a' w' hS hI hD => ⟨wanted_eq (c := ((op : Int) == 0)) rfl (dep_at hD 3 (by kernel_rfl)) hc0, Value.pointer (some ⟨w.heap.size, 7, none⟩), ?_, fun _ => rfl⟩
            have h0 : a'.tmps.getD 2 undef = Value.pointer (some ⟨w.heap.size, 0, none⟩) := hS.at rfl
            simp only [execOp, Act.eval, h0]
            clear h0
            go_simp
          · refine ob_when (((op : Int) == 0) = true) (fun hc0 => ?_) (fun hn a' w' hS hI hD => ⟨unwanted (c := ((op : Int) == 0)) rfl (dep_at hD 3 (by kernel_rfl)) hn, fun hc => absurd hc hn⟩)
            refine ob_val (fun _ => Below.refl _ _) fun a' w' hS hI hD => ⟨wanted_eq (c := ((op : Int) == 0)) rfl (dep_at hD 3 (by kernel_rfl)) hc0, Value.slice A ks.length cap, ?_, fun _ => rfl⟩
            have h0 : (((op : Int) == 0) = true → a'.tmps.getD 23 undef = Value.pointer (some ⟨w.heap.size, 7, none⟩)) := dep_at hD 4 (by kernel_rfl)
            replace h0 := h0 hc0
            have hc : w'.cell? ⟨w.heap.size, 7, none⟩ = some (Value.slice A ks.length cap) := (nd_cell (below_all hI HG1.out)).2.2.2
            exact run_load_cell _ (.tmp 23) rfl _ _ _ h0 hc _ Try.underlying26 rfl
          · refine ob_when (((op : Int) == 0) = true) (fun hc0 => ?_) (fun hn a' w' hS hI hD => ⟨unwanted (c := ((op : Int) == 0)) rfl (dep_at hD 3 (by kernel_rfl)) hn, fun hc => absurd hc hn⟩)
            refine ob_val (fun _ => Below.refl _ _) fun a' w' hS hI hD => ⟨wanted_eq (c := ((op : Int) == 0)) rfl (dep_at hD 3 (by kernel_rfl)) hc0, Value.int .i64 (ks.length : Nat), ?_, fun _ => rfl⟩
            have h0 : (((op : Int) == 0) = true → a'.tmps.getD 24 undef = Value.slice A ks.length cap) := dep_at hD 5 (by kernel_rfl)
            replace h0 := h0 hc0
            exact run_len_s _ (.tmp 24) rfl _ _ _ h0 _ Try.underlying26
          · refine ob_when (((op : Int) == 0) = true) (fun hc0 => ?_) (fun hn a' w' hS hI hD => ⟨unwanted (c := ((op : Int) == 0)) rfl (dep_at hD 3 (by kernel_rfl)) hn, fun hc => absurd hc hn⟩)
            refine ob_val (fun _ => Below.refl _ _) fun a' w' hS hI hD => ⟨wanted_eq (c := ((op : Int) == 0)) rfl (dep_at hD 3 (by kernel_rfl)) hc0, Value.bool (decide (0 < ((ks.length : Nat) : Int))), ?_, fun _ => rfl⟩
            have h0 : (((op : Int) == 0) = true → a'.tmps.getD 25 undef = Value.int .i64 (ks.length : Nat)) := dep_at hD 6 (by kernel_rfl)
            replace h0 := h0 hc0
            exact run_gtr_i _ _ (.tmp 25) (.const (Value.int .i64 0)) rfl _ _ _ h0 (by rfl)
          · refine ob_val (fun _ => Below.refl _ _) fun a' w' hS hI hD => ⟨rfl, Value.bool (((op : Int) == 0) && (decide (0 < ((ks.length : Nat) : Int)))), ?_, rfl⟩
            have h0 : a'.tmps.getD 22 undef = Value.bool ((op : Int) == 0) := dep_at hD 3 (by kernel_rfl)
            have h1 : (((op : Int) == 0) = true → a'.tmps.getD 26 undef = Value.bool (decide (0 < ((ks.length : Nat) : Int)))) := dep_at hD 7 (by kernel_rfl)
            replace h1 : ((op : Int) == 0) = true → a'.tmps.getD 26 undef = Value.bool (decide (0 < ((ks.length : Nat) : Int))) := fun hC => h1 hC
            exact run_pick_and (.tmp 22) (.tmp 26) rfl rfl _ _ h0 h1
          · refine ob_val (fun _ => Below.refl _ _) fun a' w' hS hI hD => ⟨rfl, Value.bool (((op : Int) == 0) && (decide (0 < ((ks.length : Nat) : Int)))), ?_, rfl⟩
            have h0 : a'.tmps.getD 27 undef = Value.bool (((op : Int) == 0) && (decide (0 < ((ks.length : Nat) : Int)))) := dep_at hD 8 (by kernel_rfl)
            exact run_val (.tmp 27) (by first | exact .inl rfl | exact .inr rfl) _ h0
          · refine ob_when ((((op : Int) == 0) && (decide (0 < ((ks.length : Nat) : Int)))) = false) (fun hc0 => ?_) (fun hn a' w' hS hI hD => ⟨unwanted (c := (((op : Int) == 0) && (decide (0 < ((ks.length : Nat) : Int))))) rfl (dep_at hD 9 (by kernel_rfl)) hn, fun hc => absurd hc hn⟩)
            refine ob_val (fun _ => Below.refl _ _) fun a' w' hS hI hD => ⟨wanted_eq (c := (((op : Int) == 0) && (decide (0 < ((ks.length : Nat) : Int))))) rfl (dep_at hD 9 (by kernel_rfl)) hc0, Value.pointer (some ⟨w.heap.size, 0, none⟩), ?_, fun _ => rfl⟩
            have h0 : a'.tmps.getD 2 undef = Value.pointer (some ⟨w.heap.size, 0, none⟩) := hS.at rfl
            simp only [execOp, Act.eval, h0]
            clear h0
            go_simp
          · refine ob_when ((((op : Int) == 0) && (decide (0 < ((ks.length : Nat) : Int)))) = false) (fun hc0 => ?_) (fun hn a' w' hS hI hD => ⟨unwanted (c := (((op : Int) == 0) && (decide (0 < ((ks.length : Nat) : Int))))) rfl (dep_at hD 9 (by kernel_rfl)) hn, fun hc => absurd hc hn⟩)
            refine ob_val (fun _ => Below.refl _ _) fun a' w' hS hI hD => ⟨wanted_eq (c := (((op : Int) == 0) && (decide (0 < ((ks.length : Nat) : Int))))) rfl (dep_at hD 9 (by kernel_rfl)) hc0, Value.int .i64 op, ?_, fun _ => rfl⟩
            have h0 : ((((op : Int) == 0) && (decide (0 < ((ks.length : Nat) : Int)))) = false → a'.tmps.getD 29 undef = Value.pointer (some ⟨w.heap.size, 0, none⟩)) := dep_at hD 10 (by kernel_rfl)
            replace h0 := h0 hc0
            have hc : w'.cell? ⟨w.heap.size, 0, none⟩ = some (Value.int .i64 op) := (nd_cell (below_all hI HG1.out)).1
            exact run_load_cell _ (.tmp 29) rfl _ _ _ h0 hc _ Try.underlying3 rfl
          · refine ob_when ((((op : Int) == 0) && (decide (0 < ((ks.length : Nat) : Int)))) = false) (fun hc0 => ?_) (fun hn a' w' hS hI hD => ⟨unwanted (c := (((op : Int) == 0) && (decide (0 < ((ks.length : Nat) : Int))))) rfl (dep_at hD 9 (by kernel_rfl)) hn, fun hc => absurd hc hn⟩)
            refine ob_val (fun _ => Below.refl _ _) fun a' w' hS hI hD => ⟨wanted_eq (c := (((op : Int) == 0) && (decide (0 < ((ks.length : Nat) : Int))))) rfl (dep_at hD 9 (by kernel_rfl)) hc0, Value.bool ((op : Int) == 3), ?_, fun _ => rfl⟩
            have h0 : ((((op : Int) == 0) && (decide (0 < ((ks.length : Nat) : Int)))) = false → a'.tmps.getD 30 undef = Value.int .i64 op) := dep_at hD 11 (by kernel_rfl)
            replace h0 := h0 hc0
            exact run_eql_i _ _ (.tmp 30) (.const (Value.int .i64 3)) rfl _ _ _ h0 (by rfl)
          · refine ob_when ((((op : Int) == 0) && (decide (0 < ((ks.length : Nat) : Int)))) = false) (fun hc0 => ?_) (fun hn a' w' hS hI hD => ⟨unwanted (c := (((op : Int) == 0) && (decide (0 < ((ks.length : Nat) : Int))))) rfl (dep_at hD 9 (by kernel_rfl)) hn, ⟨fun hc => absurd hc hn, fun _ => rfl⟩⟩)
            refine ob_val (fun _ => Below.refl _ _) fun a' w' hS hI hD => ⟨wanted_eq (c := (((op : Int) == 0) && (decide (0 < ((ks.length : Nat) : Int))))) rfl (dep_at hD 9 (by kernel_rfl)) hc0, Value.bool ((op : Int) == 3), ?_, ⟨fun _ => rfl, fun hn => absurd ‹_› hn⟩⟩
            have h0 : ((((op : Int) == 0) && (decide (0 < ((ks.length : Nat) : Int)))) = false → a'.tmps.getD 31 undef = Value.bool ((op : Int) == 3)) := dep_at hD 12 (by kernel_rfl)
            replace h0 := h0 hc0
            exact run_val (.tmp 31) (by first | exact .inl rfl | exact .inr rfl) _ h0
          · refine ob_when ((((op : Int) == 0) && (decide (0 < ((ks.length : Nat) : Int)))) = false ∧ ((op : Int) == 3) = false) ?_ ?_
            · rintro ⟨hc0, hc1⟩
              refine ob_val (fun _ => Below.refl _ _) fun a' w' hS hI hD => ⟨wanted_eq (c := ((op : Int) == 3)) rfl ((show (((((op : Int) == 0) && (decide (0 < ((ks.length : Nat) : Int)))) = false → slotV _ a' 13 = Value.bool ((op : Int) == 3)) ∧ (¬ ((((op : Int) == 0) && (decide (0 < ((ks.length : Nat) : Int)))) = false) → slotV _ a' 13 = undef)) from dep_at hD 13 (by kernel_rfl)).1 hc0) hc1, Value.pointer (some ⟨w.heap.size, 0, none⟩), ?_, fun _ => rfl⟩
              have h0 : a'.tmps.getD 2 undef = Value.pointer (some ⟨w.heap.size, 0, none⟩) := hS.at rfl
              simp only [execOp, Act.eval, h0]
              clear h0
              go_simp
            · intro hn a' w' hS hI hD
              have hg : ((((op : Int) == 0) && (decide (0 < ((ks.length : Nat) : Int)))) = false → slotV _ a' 13 = Value.bool ((op : Int) == 3)) ∧ (¬ ((((op : Int) == 0) && (decide (0 < ((ks.length : Nat) : Int)))) = false) → slotV _ a' 13 = undef) := dep_at hD 13 (by kernel_rfl)
              by_cases hcj : (((op : Int) == 0) && (decide (0 < ((ks.length : Nat) : Int)))) = false
              · exact ⟨unwanted (c := ((op : Int) == 3)) rfl (hg.1 hcj) (fun hq => hn (by simp only [hcj, hq, and_self])), fun hc => absurd hc hn⟩
              · exact ⟨unwanted_u rfl (hg.2 hcj), fun hc => absurd hc hn⟩
          · refine ob_when ((((op : Int) == 0) && (decide (0 < ((ks.length : Nat) : Int)))) = false ∧ ((op : Int) == 3) = false) ?_ ?_
            · rintro ⟨hc0, hc1⟩
              refine ob_val (fun _ => Below.refl _ _) fun a' w' hS hI hD => ⟨wanted_eq (c := ((op : Int) == 3)) rfl ((show (((((op : Int) == 0) && (decide (0 < ((ks.length : Nat) : Int)))) = false → slotV _ a' 13 = Value.bool ((op : Int) == 3)) ∧ (¬ ((((op : Int) == 0) && (decide (0 < ((ks.length : Nat) : Int)))) = false) → slotV _ a' 13 = undef)) from dep_at hD 13 (by kernel_rfl)).1 hc0) hc1, Value.int .i64 op, ?_, fun _ => rfl⟩
              have h0 : ((((op : Int) == 0) && (decide (0 < ((ks.length : Nat) : Int)))) = false ∧ ((op : Int) == 3) = false → a'.tmps.getD 33 undef = Value.pointer (some ⟨w.heap.size, 0, none⟩)) := dep_at hD 14 (by kernel_rfl)
              replace h0 := h0 ⟨hc0, hc1⟩
              have hc : w'.cell? ⟨w.heap.size, 0, none⟩ = some (Value.int .i64 op) := (nd_cell (below_all hI HG1.out)).1
              exact run_load_cell _ (.tmp 33) rfl _ _ _ h0 hc _ Try.underlying3 rfl
            · intro hn a' w' hS hI hD
              have hg : ((((op : Int) == 0) && (decide (0 < ((ks.length : Nat) : Int)))) = false → slotV _ a' 13 = Value.bool ((op : Int) == 3)) ∧ (¬ ((((op : Int) == 0) && (decide (0 < ((ks.length : Nat) : Int)))) = false) → slotV _ a' 13 = undef) := dep_at hD 13 (by kernel_rfl)
              by_cases hcj : (((op : Int) == 0) && (decide (0 < ((ks.length : Nat) : Int)))) = false
              · exact ⟨unwanted (c := ((op : Int) == 3)) rfl (hg.1 hcj) (fun hq => hn (by simp only [hcj, hq, and_self])), fun hc => absurd hc hn⟩
              · exact ⟨unwanted_u rfl (hg.2 hcj), fun hc => absurd hc hn⟩
          · refine ob_when ((((op : Int) == 0) && (decide (0 < ((ks.length : Nat) : Int)))) = false ∧ ((op : Int) == 3) = false) ?_ ?_
            · rintro ⟨hc0, hc1⟩
              refine ob_val (fun _ => Below.refl _ _) fun a' w' hS hI hD => ⟨wanted_eq (c := ((op : Int) == 3)) rfl ((show (((((op : Int) == 0) && (decide (0 < ((ks.length : Nat) : Int)))) = false → slotV _ a' 13 = Value.bool ((op : Int) == 3)) ∧ (¬ ((((op : Int) == 0) && (decide (0 < ((ks.length : Nat) : Int)))) = false) → slotV _ a' 13 = undef)) from dep_at hD 13 (by kernel_rfl)).1 hc0) hc1, Value.bool ((op : Int) == 5), ?_, fun _ => rfl⟩
              have h0 : ((((op : Int) == 0) && (decide (0 < ((ks.length : Nat) : Int)))) = false ∧ ((op : Int) == 3) = false → a'.tmps.getD 34 undef = Value.int .i64 op) := dep_at hD 15 (by kernel_rfl)
              replace h0 := h0 ⟨hc0, hc1⟩
              exact run_eql_i _ _ (.tmp 34) (.const (Value.int .i64 5)) rfl _ _ _ h0 (by rfl)
            · intro hn a' w' hS hI hD
              have hg : ((((op : Int) == 0) && (decide (0 < ((ks.length : Nat) : Int)))) = false → slotV _ a' 13 = Value.bool ((op : Int) == 3)) ∧ (¬ ((((op : Int) == 0) && (decide (0 < ((ks.length : Nat) : Int)))) = false) → slotV _ a' 13 = undef) := dep_at hD 13 (by kernel_rfl)
              by_cases hcj : (((op : Int) == 0) && (decide (0 < ((ks.length : Nat) : Int)))) = false
              · exact ⟨unwanted (c := ((op : Int) == 3)) rfl (hg.1 hcj) (fun hq => hn (by simp only [hcj, hq, and_self])), fun hc => absurd hc hn⟩
              · exact ⟨unwanted_u rfl (hg.2 hcj), fun hc => absurd hc hn⟩
          · refine ob_when ((((op : Int) == 0) && (decide (0 < ((ks.length : Nat) : Int)))) = false) (fun hc0 => ?_) (fun hn a' w' hS hI hD => ⟨unwanted (c := (((op : Int) == 0) && (decide (0 < ((ks.length : Nat) : Int))))) rfl (dep_at hD 9 (by kernel_rfl)) hn, fun hc => absurd hc hn⟩)
            refine ob_val (fun _ => Below.refl _ _) fun a' w' hS hI hD => ⟨wanted_eq (c := (((op : Int) == 0) && (decide (0 < ((ks.length : Nat) : Int))))) rfl (dep_at hD 9 (by kernel_rfl)) hc0, Value.bool (((op : Int) == 3) || ((op : Int) == 5)), ?_, fun _ => rfl⟩
            have h0_ : ((((op : Int) == 0) && (decide (0 < ((ks.length : Nat) : Int)))) = false → a'.tmps.getD 32 undef = Value.bool ((op : Int) == 3)) ∧ (¬ ((((op : Int) == 0) && (decide (0 < ((ks.length : Nat) : Int)))) = false) → a'.tmps.getD 32 undef = undef) := (dep_at hD 13 (by kernel_rfl))
            have h0 := h0_.1
            replace h0 := h0 hc0
            have h1 : ((((op : Int) == 0) && (decide (0 < ((ks.length : Nat) : Int)))) = false ∧ ((op : Int) == 3) = false → a'.tmps.getD 35 undef = Value.bool ((op : Int) == 5)) := dep_at hD 16 (by kernel_rfl)
            replace h1 : ((op : Int) == 3) = false → a'.tmps.getD 35 undef = Value.bool ((op : Int) == 5) := fun hC => h1 ⟨hc0, hC⟩
            exact run_pick_or (.tmp 32) (.tmp 35) rfl rfl _ _ h0 h1
          · refine ob_when ((((op : Int) == 0) && (decide (0 < ((ks.length : Nat) : Int)))) = false) (fun hc0 => ?_) (fun hn a' w' hS hI hD => ⟨unwanted (c := (((op : Int) == 0) && (decide (0 < ((ks.length : Nat) : Int))))) rfl (dep_at hD 9 (by kernel_rfl)) hn, ⟨fun hc => absurd hc hn, fun _ => rfl⟩⟩)
            refine ob_val (fun _ => Below.refl _ _) fun a' w' hS hI hD => ⟨wanted_eq (c := (((op : Int) == 0) && (decide (0 < ((ks.length : Nat) : Int))))) rfl (dep_at hD 9 (by kernel_rfl)) hc0, Value.bool (((op : Int) == 3) || ((op : Int) == 5)), ?_, ⟨fun _ => rfl, fun hn => absurd ‹_› hn⟩⟩
            have h0 : ((((op : Int) == 0) && (decide (0 < ((ks.length : Nat) : Int)))) = false → a'.tmps.getD 36 undef = Value.bool (((op : Int) == 3) || ((op : Int) == 5))) := dep_at hD 17 (by kernel_rfl)
            replace h0 := h0 hc0
            exact run_val (.tmp 36) (by first | exact .inl rfl | exact .inr rfl) _ h0
          · refine ob_when ((((op : Int) == 0) && (decide (0 < ((ks.length : Nat) : Int)))) = false ∧ (((op : Int) == 3) || ((op : Int) == 5)) = true) ?_ ?_
            · rintro ⟨hc0, hc1⟩
              refine ob_val (fun _ => Below.refl _ _) fun a' w' hS hI hD => ⟨wanted_eq (c := (((op : Int) == 3) || ((op : Int) == 5))) rfl ((show (((((op : Int) == 0) && (decide (0 < ((ks.length : Nat) : Int)))) = false → slotV _ a' 18 = Value.bool (((op : Int) == 3) || ((op : Int) == 5))) ∧ (¬ ((((op : Int) == 0) && (decide (0 < ((ks.length : Nat) : Int)))) = false) → slotV _ a' 18 = undef)) from dep_at hD 18 (by kernel_rfl)).1 hc0) hc1, Value.pointer (some ⟨w.heap.size, 7, none⟩), ?_, fun _ => rfl⟩
              have h0 : a'.tmps.getD 2 undef = Value.pointer (some ⟨w.heap.size, 0, none⟩) := hS.at rfl
              simp only [execOp, Act.eval, h0]
              clear h0
              go_simp
            · intro hn a' w' hS hI hD
              have hg : ((((op : Int) == 0) && (decide (0 < ((ks.length : Nat) : Int)))) = false → slotV _ a' 18 = Value.bool (((op : Int) == 3) || ((op : Int) == 5))) ∧ (¬ ((((op : Int) == 0) && (decide (0 < ((ks.length : Nat) : Int)))) = false) → slotV _ a' 18 = undef) := dep_at hD 18 (by kernel_rfl)
              by_cases hcj : (((op : Int) == 0) && (decide (0 < ((ks.length : Nat) : Int)))) = false
              · exact ⟨unwanted (c := (((op : Int) == 3) || ((op : Int) == 5))) rfl (hg.1 hcj) (fun hq => hn (by simp only [hcj, hq, and_self])), fun hc => absurd hc hn⟩
              · exact ⟨unwanted_u rfl (hg.2 hcj), fun hc => absurd hc hn⟩
          · refine ob_when ((((op : Int) == 0) && (decide (0 < ((ks.length : Nat) : Int)))) = false ∧ (((op : Int) == 3) || ((op : Int) == 5)) = true) ?_ ?_
            · rintro ⟨hc0, hc1⟩
              refine ob_val (fun _ => Below.refl _ _) fun a' w' hS hI hD => ⟨wanted_eq (c := (((op : Int) == 3) || ((op : Int) == 5))) rfl ((show (((((op : Int) == 0) && (decide (0 < ((ks.length : Nat) : Int)))) = false → slotV _ a' 18 = Value.bool (((op : Int) == 3) || ((op : Int) == 5))) ∧ (¬ ((((op : Int) == 0) && (decide (0 < ((ks.length : Nat) : Int)))) = false) → slotV _ a' 18 = undef)) from dep_at hD 18 (by kernel_rfl)).1 hc0) hc1, Value.slice A ks.length cap, ?_, fun _ => rfl⟩
              have h0 : ((((op : Int) == 0) && (decide (0 < ((ks.length : Nat) : Int)))) = false ∧ (((op : Int) == 3) || ((op : Int) == 5)) = true → a'.tmps.getD 38 undef = Value.pointer (some ⟨w.heap.size, 7, none⟩)) := dep_at hD 19 (by kernel_rfl)
              replace h0 := h0 ⟨hc0, hc1⟩
              have hc : w'.cell? ⟨w.heap.size, 7, none⟩ = some (Value.slice A ks.length cap) := (nd_cell (below_all hI HG1.out)).2.2.2
              exact run_load_cell _ (.tmp 38) rfl _ _ _ h0 hc _ Try.underlying26 rfl
            · intro hn a' w' hS hI hD
              have hg : ((((op : Int) == 0) && (decide (0 < ((ks.length : Nat) : Int)))) = false → slotV _ a' 18 = Value.bool (((op : Int) == 3) || ((op : Int) == 5))) ∧ (¬ ((((op : Int) == 0) && (decide (0 < ((ks.length : Nat) : Int)))) = false) → slotV _ a' 18 = undef) := dep_at hD 18 (by kernel_rfl)
              by_cases hcj : (((op : Int) == 0) && (decide (0 < ((ks.length : Nat) : Int)))) = false
              · exact ⟨unwanted (c := (((op : Int) == 3) || ((op : Int) == 5))) rfl (hg.1 hcj) (fun hq => hn (by simp only [hcj, hq, and_self])), fun hc => absurd hc hn⟩
              · exact ⟨unwanted_u rfl (hg.2 hcj), fun hc => absurd hc hn⟩
          · refine ob_when ((((op : Int) == 0) && (decide (0 < ((ks.length : Nat) : Int)))) = false ∧ (((op : Int) == 3) || ((op : Int) == 5)) = true) ?_ ?_
            · rintro ⟨hc0, hc1⟩
              refine ob_val (fun _ => Below.refl _ _) fun a' w' hS hI hD => ⟨wanted_eq (c := (((op : Int) == 3) || ((op : Int) == 5))) rfl ((show (((((op : Int) == 0) && (decide (0 < ((ks.length : Nat) : Int)))) = false → slotV _ a' 18 = Value.bool (((op : Int) == 3) || ((op : Int) == 5))) ∧ (¬ ((((op : Int) == 0) && (decide (0 < ((ks.length : Nat) : Int)))) = false) → slotV _ a' 18 = undef)) from dep_at hD 18 (by kernel_rfl)).1 hc0) hc1, Value.int .i64 (ks.length : Nat), ?_, fun _ => rfl⟩
              have h0 : ((((op : Int) == 0) && (decide (0 < ((ks.length : Nat) : Int)))) = false ∧ (((op : Int) == 3) || ((op : Int) == 5)) = true → a'.tmps.getD 39 undef = Value.slice A ks.length cap) := dep_at hD 20 (by kernel_rfl)
              replace h0 := h0 ⟨hc0, hc1⟩
              exact run_len_s _ (.tmp 39) rfl _ _ _ h0 _ Try.underlying26
            · intro hn a' w' hS hI hD
              have hg : ((((op : Int) == 0) && (decide (0 < ((ks.length : Nat) : Int)))) = false → slotV _ a' 18 = Value.bool (((op : Int) == 3) || ((op : Int) == 5))) ∧ (¬ ((((op : Int) == 0) && (decide (0 < ((ks.length : Nat) : Int)))) = false) → slotV _ a' 18 = undef) := dep_at hD 18 (by kernel_rfl)
              by_cases hcj : (((op : Int) == 0) && (decide (0 < ((ks.length : Nat) : Int)))) = false
              · exact ⟨unwanted (c := (((op : Int) == 3) || ((op : Int) == 5))) rfl (hg.1 hcj) (fun hq => hn (by simp only [hcj, hq, and_self])), fun hc => absurd hc hn⟩
              · exact ⟨unwanted_u rfl (hg.2 hcj), fun hc => absurd hc hn⟩
          · refine ob_when ((((op : Int) == 0) && (decide (0 < ((ks.length : Nat) : Int)))) = false ∧ (((op : Int) == 3) || ((op : Int) == 5)) = true) ?_ ?_
            · rintro ⟨hc0, hc1⟩
              refine ob_val (fun _ => Below.refl _ _) fun a' w' hS hI hD => ⟨wanted_eq (c := (((op : Int) == 3) || ((op : Int) == 5))) rfl ((show (((((op : Int) == 0) && (decide (0 < ((ks.length : Nat) : Int)))) = false → slotV _ a' 18 = Value.bool (((op : Int) == 3) || ((op : Int) == 5))) ∧ (¬ ((((op : Int) == 0) && (decide (0 < ((ks.length : Nat) : Int)))) = false) → slotV _ a' 18 = undef)) from dep_at hD 18 (by kernel_rfl)).1 hc0) hc1, Value.bool (((ks.length : Nat) : Int) != 1), ?_, fun _ => rfl⟩
              have h0 : ((((op : Int) == 0) && (decide (0 < ((ks.length : Nat) : Int)))) = false ∧ (((op : Int) == 3) || ((op : Int) == 5)) = true → a'.tmps.getD 40 undef = Value.int .i64 (ks.length : Nat)) := dep_at hD 21 (by kernel_rfl)
              replace h0 := h0 ⟨hc0, hc1⟩
              exact run_neq_i _ _ (.tmp 40) (.const (Value.int .i64 1)) rfl _ _ _ h0 (by rfl)
            · intro hn a' w' hS hI hD
              have hg : ((((op : Int) == 0) && (decide (0 < ((ks.length : Nat) : Int)))) = false → slotV _ a' 18 = Value.bool (((op : Int) == 3) || ((op : Int) == 5))) ∧ (¬ ((((op : Int) == 0) && (decide (0 < ((ks.length : Nat) : Int)))) = false) → slotV _ a' 18 = undef) := dep_at hD 18 (by kernel_rfl)
              by_cases hcj : (((op : Int) == 0) && (decide (0 < ((ks.length : Nat) : Int)))) = false
              · exact ⟨unwanted (c := (((op : Int) == 3) || ((op : Int) == 5))) rfl (hg.1 hcj) (fun hq => hn (by simp only [hcj, hq, and_self])), fun hc => absurd hc hn⟩
              · exact ⟨unwanted_u rfl (hg.2 hcj), fun hc => absurd hc hn⟩
          · refine ob_when ((((op : Int) == 0) && (decide (0 < ((ks.length : Nat) : Int)))) = false) (fun hc0 => ?_) (fun hn a' w' hS hI hD => ⟨unwanted (c := (((op : Int) == 0) && (decide (0 < ((ks.length : Nat) : Int))))) rfl (dep_at hD 9 (by kernel_rfl)) hn, fun hc => absurd hc hn⟩)
            refine ob_val (fun _ => Below.refl _ _) fun a' w' hS hI hD => ⟨wanted_eq (c := (((op : Int) == 0) && (decide (0 < ((ks.length : Nat) : Int))))) rfl (dep_at hD 9 (by kernel_rfl)) hc0, Value.bool ((((op : Int) == 3) || ((op : Int) == 5)) && (((ks.length : Nat) : Int) != 1)), ?_, fun _ => rfl⟩
            have h0_ : ((((op : Int) == 0) && (decide (0 < ((ks.length : Nat) : Int)))) = false → a'.tmps.getD 37 undef = Value.bool (((op : Int) == 3) || ((op : Int) == 5))) ∧ (¬ ((((op : Int) == 0) && (decide (0 < ((ks.length : Nat) : Int)))) = false) → a'.tmps.getD 37 undef = undef) := (dep_at hD 18 (by kernel_rfl))
            have h0 := h0_.1
            replace h0 := h0 hc0
            have h1 : ((((op : Int) == 0) && (decide (0 < ((ks.length : Nat) : Int)))) = false ∧ (((op : Int) == 3) || ((op : Int) == 5)) = true → a'.tmps.getD 41 undef = Value.bool (((ks.length : Nat) : Int) != 1)) := dep_at hD 22 (by kernel_rfl)
            replace h1 : (((op : Int) == 3) || ((op : Int) == 5)) = true → a'.tmps.getD 41 undef = Value.bool (((ks.length : Nat) : Int) != 1) := fun hC => h1 ⟨hc0, hC⟩
            exact run_pick_and (.tmp 37) (.tmp 41) rfl rfl _ _ h0 h1
          · refine ob_val (fun _ => Below.refl _ _) fun a' w' hS hI hD => ⟨rfl, Value.bool ((((op : Int) == 0) && (decide (0 < ((ks.length : Nat) : Int)))) || ((((op : Int) == 3) || ((op : Int) == 5)) && (((ks.length : Nat) : Int) != 1))), ?_, rfl⟩
            have h0 : a'.tmps.getD 28 undef = Value.bool (((op : Int) == 0) && (decide (0 < ((ks.length : Nat) : Int)))) := dep_at hD 9 (by kernel_rfl)
            have h1 : ((((op : Int) == 0) && (decide (0 < ((ks.length : Nat) : Int)))) = false → a'.tmps.getD 42 undef = Value.bool ((((op : Int) == 3) || ((op : Int) == 5)) && (((ks.length : Nat) : Int) != 1))) := dep_at hD 23 (by kernel_rfl)
            replace h1 : (((op : Int) == 0) && (decide (0 < ((ks.length : Nat) : Int)))) = false → a'.tmps.getD 42 undef = Value.bool ((((op : Int) == 3) || ((op : Int) == 5)) && (((ks.length : Nat) : Int) != 1)) := fun hC => h1 hC
            exact run_pick_or (.tmp 28) (.tmp 42) rfl rfl _ _ h0 h1
        · intro v w5 hI hT
          have hlast : v 24 = .bool ((((op : Int) == 0) && (decide (0 < (((ks.length) : Nat) : Int)))) || ((((op : Int) == 3) || ((op : Int) == 5)) && ((((ks.length) : Nat) : Int) != 1))) := tall_at _ _ hT 24 (by decide) (by decide)
          have HB5 := Lib.hid (below_more HB3.out (by have := HB3.out.size; omega) hI)
          have HG1 := Lib.hid (below_all hI HG1.out)
          clear hT hI
          rcases hb : ((((op : Int) == 0) && (decide (0 < (((ks.length) : Nat) : Int)))) || ((((op : Int) == 3) || ((op : Int) == 5)) && ((((ks.length) : Nat) : Int) != 1))) with _ | _
          · rw [hb] at hlast
            have HF3 := Lib.hid hb
            clear hb
            simp only [putAll, Act.put, List.setIfInBounds_toArray, List.set_cons_succ, List.set_cons_zero, Nat.reduceAdd, hlast]
            clear hlast
            go_upto_region 5 with (fail)
            refine region_seq (fun w' => Below w5.heap.size w5 w') (fun w1 w2 => Below w1.heap.size w1 w2) (predsT (may5 w op st mn mx ks A cap d)) (by kernel_rfl) (by kernel_rfl) (by kernel_rfl) (preds_keep _ (may5_keep w op st mn mx ks A cap d)) (Below.refl _ _) ?_ ?_
            · refine ⟨?_, ?_, ?_, ?_, ?_, ?_, ?_, ?_, ?_, ?_, ?_, ?_, ?_, ?_, ?_, ?_, ?_, ?_, ?_, ?_, ?_, ?_, ?_, ?_, ?_, trivial⟩
              · refine ob_val (fun _ => Below.refl _ _) fun a' w' hS hI hD => ⟨rfl, Value.pointer (some ⟨w.heap.size, 5, none⟩), ?_, rfl⟩
                have h0 : a'.tmps.getD 2 undef = Value.pointer (some ⟨w.heap.size, 0, none⟩) := hS.at rfl
                simp only [execOp, Act.eval, h0]
                clear h0
                go_simp
              · refine ob_val (fun _ => Below.refl _ _) fun a' w' hS hI hD => ⟨rfl, Value.int .i64 mn, ?_, rfl⟩
                have h0 : a'.tmps.getD 44 undef = Value.pointer (some ⟨w.heap.size, 5, none⟩) := dep_at hD 0 (by kernel_rfl)
                have hc : w'.cell? ⟨w.heap.size, 5, none⟩ = some (Value.int .i64 mn) := (nd_cell (below_all hI HG1.out)).2.1
                exact run_load_cell _ (.tmp 44) rfl _ _ _ h0 hc _ Try.underlying3 rfl
              · refine ob_val (fun _ => Below.refl _ _) fun a' w' hS hI hD => ⟨rfl, Value.bool (decide ((mn : Int) < 0)), ?_, rfl⟩
                have h0 : a'.tmps.getD 45 undef = Value.int .i64 mn := dep_at hD 1 (by kernel_rfl)
                exact run_lss_i _ _ (.tmp 45) (.const (Value.int .i64 0)) rfl _ _ _ h0 (by rfl)
              · refine ob_val (fun _ => Below.refl _ _) fun a' w' hS hI hD => ⟨rfl, Value.bool (decide ((mn : Int) < 0)), ?_, rfl⟩
                have h0 : a'.tmps.getD 46 undef = Value.bool (decide ((mn : Int) < 0)) := dep_at hD 2 (by kernel_rfl)
                exact run_val (.tmp 46) (by first | exact .inl rfl | exact .inr rfl) _ h0
              · refine ob_when ((decide ((mn : Int) < 0)) = false) (fun hc0 => ?_) (fun hn a' w' hS hI hD => ⟨unwanted (c := (decide ((mn : Int) < 0))) rfl (dep_at hD 3 (by kernel_rfl)) hn, fun hc => absurd hc hn⟩)
                refine ob_val (fun _ => Below.refl _ _) fun a' w' hS hI hD => ⟨wanted_eq (c := (decide ((mn : Int) < 0))) rfl (dep_at hD 3 (by kernel_rfl)) hc0, Value.pointer (some ⟨w.heap.size, 5, none⟩), ?_, fun _ => rfl⟩
                have h0 : a'.tmps.getD 2 undef = Value.pointer (some ⟨w.heap.size, 0, none⟩) := hS.at rfl
                simp only [execOp, Act.eval, h0]
                clear h0
                go_simp
              · refine ob_when ((decide ((mn : Int) < 0)) = false) (fun hc0 => ?_) (fun hn a' w' hS hI hD => ⟨unwanted (c := (decide ((mn : Int) < 0))) rfl (dep_at hD 3 (by kernel_rfl)) hn, fun hc => absurd hc hn⟩)
                refine ob_val (fun _ => Below.refl _ _) fun a' w' hS hI hD => ⟨wanted_eq (c := (decide ((mn : Int) < 0))) rfl (dep_at hD 3 (by kernel_rfl)) hc0, Value.int .i64 mn, ?_, fun _ => rfl⟩
                have h0 : ((decide ((mn : Int) < 0)) = false → a'.tmps.getD 48 undef = Value.pointer (some ⟨w.heap.size, 5, none⟩)) := dep_at hD 4 (by kernel_rfl)
                replace h0 := h0 hc0
                have hc : w'.cell? ⟨w.heap.size, 5, none⟩ = some (Value.int .i64 mn) := (nd_cell (below_all hI HG1.out)).2.1
                exact run_load_cell _ (.tmp 48) rfl _ _ _ h0 hc _ Try.underlying3 rfl
              · refine ob_when ((decide ((mn : Int) < 0)) = false) (fun hc0 => ?_) (fun hn a' w' hS hI hD => ⟨unwanted (c := (decide ((mn : Int) < 0))) rfl (dep_at hD 3 (by kernel_rfl)) hn, fun hc => absurd hc hn⟩)
                refine ob_val (fun _ => Below.refl _ _) fun a' w' hS hI hD => ⟨wanted_eq (c := (decide ((mn : Int) < 0))) rfl (dep_at hD 3 (by kernel_rfl)) hc0, Value.bool (decide (32 < (mn : Int))), ?_, fun _ => rfl⟩
                have h0 : ((decide ((mn : Int) < 0)) = false → a'.tmps.getD 49 undef = Value.int .i64 mn) := dep_at hD 5 (by kernel_rfl)
                replace h0 := h0 hc0
                exact run_gtr_i _ _ (.tmp 49) (.const (Value.int .i64 32)) rfl _ _ _ h0 (by rfl)
              · refine ob_val (fun _ => Below.refl _ _) fun a' w' hS hI hD => ⟨rfl, Value.bool ((decide ((mn : Int) < 0)) || (decide (32 < (mn : Int)))), ?_, rfl⟩
                have h0 : a'.tmps.getD 47 undef = Value.bool (decide ((mn : Int) < 0)) := dep_at hD 3 (by kernel_rfl)
                have h1 : ((decide ((mn : Int) < 0)) = false → a'.tmps.getD 50 undef = Value.bool (decide (32 < (mn : Int)))) := dep_at hD 6 (by kernel_rfl)
                replace h1 : (decide ((mn : Int) < 0)) = false → a'.tmps.getD 50 undef = Value.bool (decide (32 < (mn : Int))) := fun hC => h1 hC
                exact run_pick_or (.tmp 47) (.tmp 50) rfl rfl _ _ h0 h1
              · refine ob_val (fun _ => Below.refl _ _) fun a' w' hS hI hD => ⟨rfl, Value.bool ((decide ((mn : Int) < 0)) || (decide (32 < (mn : Int)))), ?_, rfl⟩
                have h0 : a'.tmps.getD 51 undef = Value.bool ((decide ((mn : Int) < 0)) || (decide (32 < (mn : Int)))) := dep_at hD 7 (by kernel_rfl)
                exact run_val (.tmp 51) (by first | exact .inl rfl | exact .inr rfl) _ h0
              · refine ob_when (((decide ((mn : Int) < 0)) || (decide (32 < (mn : Int)))) = false) (fun hc0 => ?_) (fun hn a' w' hS hI hD => ⟨unwanted (c := ((decide ((mn : Int) < 0)) || (decide (32 < (mn : Int))))) rfl (dep_at hD 8 (by kernel_rfl)) hn, fun hc => absurd hc hn⟩)
                refine ob_val (fun _ => Below.refl _ _) fun a' w' hS hI hD => ⟨wanted_eq (c := ((decide ((mn : Int) < 0)) || (decide (32 < (mn : Int))))) rfl (dep_at hD 8 (by kernel_rfl)) hc0, Value.pointer (some ⟨w.heap.size, 6, none⟩), ?_, fun _ => rfl⟩
                have h0 : a'.tmps.getD 2 undef = Value.pointer (some ⟨w.heap.size, 0, none⟩) := hS.at rfl
                simp only [execOp, Act.eval, h0]
                clear h0
                go_simp
              · refine ob_when (((decide ((mn : Int) < 0)) || (decide (32 < (mn : Int)))) = false) (fun hc0 => ?_) (fun hn a' w' hS hI hD => ⟨unwanted (c := ((decide ((mn : Int) < 0)) || (decide (32 < (mn : Int))))) rfl (dep_at hD 8 (by kernel_rfl)) hn, fun hc => absurd hc hn⟩)
                refine ob_val (fun _ => Below.refl _ _) fun a' w' hS hI hD => ⟨wanted_eq (c := ((decide ((mn : Int) < 0)) || (decide (32 < (mn : Int))))) rfl (dep_at hD 8 (by kernel_rfl)) hc0, Value.int .i64 mx, ?_, fun _ => rfl⟩
                have h0 : (((decide ((mn : Int) < 0)) || (decide (32 < (mn : Int)))) = false → a'.tmps.getD 53 undef = Value.pointer (some ⟨w.heap.size, 6, none⟩)) := dep_at hD 9 (by kernel_rfl)
                replace h0 := h0 hc0
                have hc : w'.cell? ⟨w.heap.size, 6, none⟩ = some (Value.int .i64 mx) := (nd_cell (below_all hI HG1.out)).2.2.1
                exact run_load_cell _ (.tmp 53) rfl _ _ _ h0 hc _ Try.underlying3 rfl
              · refine ob_when (((decide ((mn : Int) < 0)) || (decide (32 < (mn : Int)))) = false) (fun hc0 => ?_) (fun hn a' w' hS hI hD => ⟨unwanted (c := ((decide ((mn : Int) < 0)) || (decide (32 < (mn : Int))))) rfl (dep_at hD 8 (by kernel_rfl)) hn, fun hc => absurd hc hn⟩)
                refine ob_val (fun _ => Below.refl _ _) fun a' w' hS hI hD => ⟨wanted_eq (c := ((decide ((mn : Int) < 0)) || (decide (32 < (mn : Int))))) rfl (dep_at hD 8 (by kernel_rfl)) hc0, Value.bool (decide (32 < (mx : Int))), ?_, fun _ => rfl⟩
                have h0 : (((decide ((mn : Int) < 0)) || (decide (32 < (mn : Int)))) = false → a'.tmps.getD 54 undef = Value.int .i64 mx) := dep_at hD 10 (by kernel_rfl)
                replace h0 := h0 hc0
                exact run_gtr_i _ _ (.tmp 54) (.const (Value.int .i64 32)) rfl _ _ _ h0 (by rfl)
              · refine ob_val (fun _ => Below.refl _ _) fun a' w' hS hI hD => ⟨rfl, Value.bool (((decide ((mn : Int) < 0)) || (decide (32 < (mn : Int)))) || (decide (32 < (mx : Int)))), ?_, rfl⟩
                have h0 : a'.tmps.getD 52 undef = Value.bool ((decide ((mn : Int) < 0)) || (decide (32 < (mn : Int)))) := dep_at hD 8 (by kernel_rfl)
                have h1 : (((decide ((mn : Int) < 0)) || (decide (32 < (mn : Int)))) = false → a'.tmps.getD 55 undef = Value.bool (decide (32 < (mx : Int)))) := dep_at hD 11 (by kernel_rfl)
                replace h1 : ((decide ((mn : Int) < 0)) || (decide (32 < (mn : Int)))) = false → a'.tmps.getD 55 undef = Value.bool (decide (32 < (mx : Int))) := fun hC => h1 hC
                exact run_pick_or (.tmp 52) (.tmp 55) rfl rfl _ _ h0 h1
              · refine ob_val (fun _ => Below.refl _ _) fun a' w' hS hI hD => ⟨rfl, Value.bool (((decide ((mn : Int) < 0)) || (decide (32 < (mn : Int)))) || (decide (32 < (mx : Int)))), ?_, rfl⟩
                have h0 : a'.tmps.getD 56 undef = Value.bool (((decide ((mn : Int) < 0)) || (decide (32 < (mn : Int)))) || (decide (32 < (mx : Int)))) := dep_at hD 12 (by kernel_rfl)
                exact run_val (.tmp 56) (by first | exact .inl rfl | exact .inr rfl) _ h0
              · refine ob_when ((((decide ((mn : Int) < 0)) || (decide (32 < (mn : Int)))) || (decide (32 < (mx : Int)))) = false) (fun hc0 => ?_) (fun hn a' w' hS hI hD => ⟨unwanted (c := (((decide ((mn : Int) < 0)) || (decide (32 < (mn : Int)))) || (decide (32 < (mx : Int))))) rfl (dep_at hD 13 (by kernel_rfl)) hn, fun hc => absurd hc hn⟩)
                refine ob_val (fun _ => Below.refl _ _) fun a' w' hS hI hD => ⟨wanted_eq (c := (((decide ((mn : Int) < 0)) || (decide (32 < (mn : Int)))) || (decide (32 < (mx : Int))))) rfl (dep_at hD 13 (by kernel_rfl)) hc0, Value.pointer (some ⟨w.heap.size, 6, none⟩), ?_, fun _ => rfl⟩
                have h0 : a'.tmps.getD 2 undef = Value.pointer (some ⟨w.heap.size, 0, none⟩) := hS.at rfl
                simp only [execOp, Act.eval, h0]
                clear h0
                go_simp
              · refine ob_when ((((decide ((mn : Int) < 0)) || (decide (32 < (mn : Int)))) || (decide (32 < (mx : Int)))) = false) (fun hc0 => ?_) (fun hn a' w' hS hI hD => ⟨unwanted (c := (((decide ((mn : Int) < 0)) || (decide (32 < (mn : Int)))) || (decide (32 < (mx : Int))))) rfl (dep_at hD 13 (by kernel_rfl)) hn, fun hc => absurd hc hn⟩)
                refine ob_val (fun _ => Below.refl _ _) fun a' w' hS hI hD => ⟨wanted_eq (c := (((decide ((mn : Int) < 0)) || (decide (32 < (mn : Int)))) || (decide (32 < (mx : Int))))) rfl (dep_at hD 13 (by kernel_rfl)) hc0, Value.int .i64 mx, ?_, fun _ => rfl⟩
                have h0 : ((((decide ((mn : Int) < 0)) || (decide (32 < (mn : Int)))) || (decide (32 < (mx : Int)))) = false → a'.tmps.getD 58 undef = Value.pointer (some ⟨w.heap.size, 6, none⟩)) := dep_at hD 14 (by kernel_rfl)
                replace h0 := h0 hc0
                have hc : w'.cell? ⟨w.heap.size, 6, none⟩ = some (Value.int .i64 mx) := (nd_cell (below_all hI HG1.out)).2.2.1
                exact run_load_cell _ (.tmp 58) rfl _ _ _ h0 hc _ Try.underlying3 rfl
              · refine ob_when ((((decide ((mn : Int) < 0)) || (decide (32 < (mn : Int)))) || (decide (32 < (mx : Int)))) = false) (fun hc0 => ?_) (fun hn a' w' hS hI hD => ⟨unwanted (c := (((decide ((mn : Int) < 0)) || (decide (32 < (mn : Int)))) || (decide (32 < (mx : Int))))) rfl (dep_at hD 13 (by kernel_rfl)) hn, fun hc => absurd hc hn⟩)
                refine ob_val (fun _ => Below.refl _ _) fun a' w' hS hI hD => ⟨wanted_eq (c := (((decide ((mn : Int) < 0)) || (decide (32 < (mn : Int)))) || (decide (32 < (mx : Int))))) rfl (dep_at hD 13 (by kernel_rfl)) hc0, Value.bool (decide (0 ≤ (mx : Int))), ?_, fun _ => rfl⟩
                have h0 : ((((decide ((mn : Int) < 0)) || (decide (32 < (mn : Int)))) || (decide (32 < (mx : Int)))) = false → a'.tmps.getD 59 undef = Value.int .i64 mx) := dep_at hD 15 (by kernel_rfl)
                replace h0 := h0 hc0
                exact run_geq_i _ _ (.tmp 59) (.const (Value.int .i64 0)) rfl _ _ _ h0 (by rfl)
              · refine ob_when ((((decide ((mn : Int) < 0)) || (decide (32 < (mn : Int)))) || (decide (32 < (mx : Int)))) = false) (fun hc0 => ?_) (fun hn a' w' hS hI hD => ⟨unwanted (c := (((decide ((mn : Int) < 0)) || (decide (32 < (mn : Int)))) || (decide (32 < (mx : Int))))) rfl (dep_at hD 13 (by kernel_rfl)) hn, ⟨fun hc => absurd hc hn, fun _ => rfl⟩⟩)
                refine ob_val (fun _ => Below.refl _ _) fun a' w' hS hI hD => ⟨wanted_eq (c := (((decide ((mn : Int) < 0)) || (decide (32 < (mn : Int)))) || (decide (32 < (mx : Int))))) rfl (dep_at hD 13 (by kernel_rfl)) hc0, Value.bool (decide (0 ≤ (mx : Int))), ?_, ⟨fun _ => rfl, fun hn => absurd ‹_› hn⟩⟩
                have h0 : ((((decide ((mn : Int) < 0)) || (decide (32 < (mn : Int)))) || (decide (32 < (mx : Int)))) = false → a'.tmps.getD 60 undef = Value.bool (decide (0 ≤ (mx : Int)))) := dep_at hD 16 (by kernel_rfl)
                replace h0 := h0 hc0
                exact run_val (.tmp 60) (by first | exact .inl rfl | exact .inr rfl) _ h0
              · refine ob_when ((((decide ((mn : Int) < 0)) || (decide (32 < (mn : Int)))) || (decide (32 < (mx : Int)))) = false ∧ (decide (0 ≤ (mx : Int))) = true) ?_ ?_
                · rintro ⟨hc0, hc1⟩
                  refine ob_val (fun _ => Below.refl _ _) fun a' w' hS hI hD => ⟨wanted_eq (c := (decide (0 ≤ (mx : Int)))) rfl ((show (((((decide ((mn : Int) < 0)) || (decide (32 < (mn : Int)))) || (decide (32 < (mx : Int)))) = false → slotV _ a' 17 = Value.bool (decide (0 ≤ (mx : Int)))) ∧ (¬ ((((decide ((mn : Int) < 0)) || (decide (32 < (mn : Int)))) || (decide (32 < (mx : Int)))) = false) → slotV _ a' 17 = undef)) from dep_at hD 17 (by kernel_rfl)).1 hc0) hc1, Value.pointer (some ⟨w.heap.size, 6, none⟩), ?_, fun _ => rfl⟩
                  have h0 : a'.tmps.getD 2 undef = Value.pointer (some ⟨w.heap.size, 0, none⟩) := hS.at rfl
                  simp only [execOp, Act.eval, h0]
                  clear h0
                  go_simp
                · intro hn a' w' hS hI hD
                  have hg : ((((decide ((mn : Int) < 0)) || (decide (32 < (mn : Int)))) || (decide (32 < (mx : Int)))) = false → slotV _ a' 17 = Value.bool (decide (0 ≤ (mx : Int)))) ∧ (¬ ((((decide ((mn : Int) < 0)) || (decide (32 < (mn : Int)))) || (decide (32 < (mx : Int)))) = false) → slotV _ a' 17 = undef) := dep_at hD 17 (by kernel_rfl)
                  by_cases hcj : (((decide ((mn : Int) < 0)) || (decide (32 < (mn : Int)))) || (decide (32 < (mx : Int)))) = false
                  · exact ⟨unwanted (c := (decide (0 ≤ (mx : Int)))) rfl (hg.1 hcj) (fun hq => hn (by simp only [hcj, hq, and_self])), fun hc => absurd hc hn⟩
                  · exact ⟨unwanted_u rfl (hg.2 hcj), fun hc => absurd hc hn⟩
              · refine ob_when ((((decide ((mn : Int) < 0)) || (decide (32 < (mn : Int)))) || (decide (32 < (mx : Int)))) = false ∧ (decide (0 ≤ (mx : Int))) = true) ?_ ?_
                · rintro ⟨hc0, hc1⟩
                  refine ob_val (fun _ => Below.refl _ _) fun a' w' hS hI hD => ⟨wanted_eq (c := (decide (0 ≤ (mx : Int)))) rfl ((show (((((decide ((mn : Int) < 0)) || (decide (32 < (mn : Int)))) || (decide (32 < (mx : Int)))) = false → slotV _ a' 17 = Value.bool (decide (0 ≤ (mx : Int)))) ∧ (¬ ((((decide ((mn : Int) < 0)) || (decide (32 < (mn : Int)))) || (decide (32 < (mx : Int)))) = false) → slotV _ a' 17 = undef)) from dep_at hD 17 (by kernel_rfl)).1 hc0) hc1, Value.int .i64 mx, ?_, fun _ => rfl⟩
                  have h0 : ((((decide ((mn : Int) < 0)) || (decide (32 < (mn : Int)))) || (decide (32 < (mx : Int)))) = false ∧ (decide (0 ≤ (mx : Int))) = true → a'.tmps.getD 62 undef = Value.pointer (some ⟨w.heap.size, 6, none⟩)) := dep_at hD 18 (by kernel_rfl)
                  replace h0 := h0 ⟨hc0, hc1⟩
                  have hc : w'.cell? ⟨w.heap.size, 6, none⟩ = some (Value.int .i64 mx) := (nd_cell (below_all hI HG1.out)).2.2.1
                  exact run_load_cell _ (.tmp 62) rfl _ _ _ h0 hc _ Try.underlying3 rfl
                · intro hn a' w' hS hI hD
                  have hg : ((((decide ((mn : Int) < 0)) || (decide (32 < (mn : Int)))) || (decide (32 < (mx : Int)))) = false → slotV _ a' 17 = Value.bool (decide (0 ≤ (mx : Int)))) ∧ (¬ ((((decide ((mn : Int) < 0)) || (decide (32 < (mn : Int)))) || (decide (32 < (mx : Int)))) = false) → slotV _ a' 17 = undef) := dep_at hD 17 (by kernel_rfl)
                  by_cases hcj : (((decide ((mn : Int) < 0)) || (decide (32 < (mn : Int)))) || (decide (32 < (mx : Int)))) = false
                  · exact ⟨unwanted (c := (decide (0 ≤ (mx : Int)))) rfl (hg.1 hcj) (fun hq => hn (by simp only [hcj, hq, and_self])), fun hc => absurd hc hn⟩
                  · exact ⟨unwanted_u rfl (hg.2 hcj), fun hc => absurd hc hn⟩
              · refine ob_when ((((decide ((mn : Int) < 0)) || (decide (32 < (mn : Int)))) || (decide (32 < (mx : Int)))) = false ∧ (decide (0 ≤ (mx : Int))) = true) ?_ ?_
                · rintro ⟨hc0, hc1⟩
                  refine ob_val (fun _ => Below.refl _ _) fun a' w' hS hI hD => ⟨wanted_eq (c := (decide (0 ≤ (mx : Int)))) rfl ((show (((((decide ((mn : Int) < 0)) || (decide (32 < (mn : Int)))) || (decide (32 < (mx : Int)))) = false → slotV _ a' 17 = Value.bool (decide (0 ≤ (mx : Int)))) ∧ (¬ ((((decide ((mn : Int) < 0)) || (decide (32 < (mn : Int)))) || (decide (32 < (mx : Int)))) = false) → slotV _ a' 17 = undef)) from dep_at hD 17 (by kernel_rfl)).1 hc0) hc1, Value.pointer (some ⟨w.heap.size, 5, none⟩), ?_, fun _ => rfl⟩
                  have h0 : a'.tmps.getD 2 undef = Value.pointer (some ⟨w.heap.size, 0, none⟩) := hS.at rfl
                  simp only [execOp, Act.eval, h0]
                  clear h0
                  go_simp
                · intro hn a' w' hS hI hD
                  have hg : ((((decide ((mn : Int) < 0)) || (decide (32 < (mn : Int)))) || (decide (32 < (mx : Int)))) = false → slotV _ a' 17 = Value.bool (decide (0 ≤ (mx : Int)))) ∧ (¬ ((((decide ((mn : Int) < 0)) || (decide (32 < (mn : Int)))) || (decide (32 < (mx : Int)))) = false) → slotV _ a' 17 = undef) := dep_at hD 17 (by kernel_rfl)
                  by_cases hcj : (((decide ((mn : Int) < 0)) || (decide (32 < (mn : Int)))) || (decide (32 < (mx : Int)))) = false
                  · exact ⟨unwanted (c := (decide (0 ≤ (mx : Int)))) rfl (hg.1 hcj) (fun hq => hn (by simp only [hcj, hq, and_self])), fun hc => absurd hc hn⟩
                  · exact ⟨unwanted_u rfl (hg.2 hcj), fun hc => absurd hc hn⟩
              · refine ob_when ((((decide ((mn : Int) < 0)) || (decide (32 < (mn : Int)))) || (decide (32 < (mx : Int)))) = false ∧ (decide (0 ≤ (mx : Int))) = true) ?_ ?_
                · rintro ⟨hc0, hc1⟩
                  refine ob_val (fun _ => Below.refl _ _) fun a' w' hS hI hD => ⟨wanted_eq (c := (decide (0 ≤ (mx : Int)))) rfl ((show (((((decide ((mn : Int) < 0)) || (decide (32 < (mn : Int)))) || (decide (32 < (mx : Int)))) = false → slotV _ a' 17 = Value.bool (decide (0 ≤ (mx : Int)))) ∧ (¬ ((((decide ((mn : Int) < 0)) || (decide (32 < (mn : Int)))) || (decide (32 < (mx : Int)))) = false) → slotV _ a' 17 = undef)) from dep_at hD 17 (by kernel_rfl)).1 hc0) hc1, Value.int .i64 mn, ?_, fun _ => rfl⟩
                  have h0 : ((((decide ((mn : Int) < 0)) || (decide (32 < (mn : Int)))) || (decide (32 < (mx : Int)))) = false ∧ (decide (0 ≤ (mx : Int))) = true → a'.tmps.getD 64 undef = Value.pointer (some ⟨w.heap.size, 5, none⟩)) := dep_at hD 20 (by kernel_rfl)
                  replace h0 := h0 ⟨hc0, hc1⟩
                  have hc : w'.cell? ⟨w.heap.size, 5, none⟩ = some (Value.int .i64 mn) := (nd_cell (below_all hI HG1.out)).2.1
                  exact run_load_cell _ (.tmp 64) rfl _ _ _ h0 hc _ Try.underlying3 rfl
                · intro hn a' w' hS hI hD
                  have hg : ((((decide ((mn : Int) < 0)) || (decide (32 < (mn : Int)))) || (decide (32 < (mx : Int)))) = false → slotV _ a' 17 = Value.bool (decide (0 ≤ (mx : Int)))) ∧ (¬ ((((decide ((mn : Int) < 0)) || (decide (32 < (mn : Int)))) || (decide (32 < (mx : Int)))) = false) → slotV _ a' 17 = undef) := dep_at hD 17 (by kernel_rfl)
                  by_cases hcj : (((decide ((mn : Int) < 0)) || (decide (32 < (mn : Int)))) || (decide (32 < (mx : Int)))) = false
                  · exact ⟨unwanted (c := (decide (0 ≤ (mx : Int)))) rfl (hg.1 hcj) (fun hq => hn (by simp only [hcj, hq, and_self])), fun hc => absurd hc hn⟩
                  · exact ⟨unwanted_u rfl (hg.2 hcj), fun hc => absurd hc hn⟩
              · refine ob_when ((((decide ((mn : Int) < 0)) || (decide (32 < (mn : Int)))) || (decide (32 < (mx : Int)))) = false ∧ (decide (0 ≤ (mx : Int))) = true) ?_ ?_
                · rintro ⟨hc0, hc1⟩
                  refine ob_val (fun _ => Below.refl _ _) fun a' w' hS hI hD => ⟨wanted_eq (c := (decide (0 ≤ (mx : Int)))) rfl ((show (((((decide ((mn : Int) < 0)) || (decide (32 < (mn : Int)))) || (decide (32 < (mx : Int)))) = false → slotV _ a' 17 = Value.bool (decide (0 ≤ (mx : Int)))) ∧ (¬ ((((decide ((mn : Int) < 0)) || (decide (32 < (mn : Int)))) || (decide (32 < (mx : Int)))) = false) → slotV _ a' 17 = undef)) from dep_at hD 17 (by kernel_rfl)).1 hc0) hc1, Value.bool (decide ((mx : Int) < mn)), ?_, fun _ => rfl⟩
                  have h0 : ((((decide ((mn : Int) < 0)) || (decide (32 < (mn : Int)))) || (decide (32 < (mx : Int)))) = false ∧ (decide (0 ≤ (mx : Int))) = true → a'.tmps.getD 63 undef = Value.int .i64 mx) := dep_at hD 19 (by kernel_rfl)
                  replace h0 := h0 ⟨hc0, hc1⟩
                  have h1 : ((((decide ((mn : Int) < 0)) || (decide (32 < (mn : Int)))) || (decide (32 < (mx : Int)))) = false ∧ (decide (0 ≤ (mx : Int))) = true → a'.tmps.getD 65 undef = Value.int .i64 mn) := dep_at hD 21 (by kernel_rfl)
                  replace h1 := h1 ⟨hc0, hc1⟩
                  exact run_lss_i _ _ (.tmp 63) (.tmp 65) rfl _ _ _ h0 h1
                · intro hn a' w' hS hI hD
                  have hg : ((((decide ((mn : Int) < 0)) || (decide (32 < (mn : Int)))) || (decide (32 < (mx : Int)))) = false → slotV _ a' 17 = Value.bool (decide (0 ≤ (mx : Int)))) ∧ (¬ ((((decide ((mn : Int) < 0)) || (decide (32 < (mn : Int)))) || (decide (32 < (mx : Int)))) = false) → slotV _ a' 17 = undef) := dep_at hD 17 (by kernel_rfl)
                  by_cases hcj : (((decide ((mn : Int) < 0)) || (decide (32 < (mn : Int)))) || (decide (32 < (mx : Int)))) = false
                  · exact ⟨unwanted (c := (decide (0 ≤ (mx : Int)))) rfl (hg.1 hcj) (fun hq => hn (by simp only [hcj, hq, and_self])), fun hc => absurd hc hn⟩
                  · exact ⟨unwanted_u rfl (hg.2 hcj), fun hc => absurd hc hn⟩
              · refine ob_when ((((decide ((mn : Int) < 0)) || (decide (32 < (mn : Int)))) || (decide (32 < (mx : Int)))) = false) (fun hc0 => ?_) (fun hn a' w' hS hI hD => ⟨unwanted (c := (((decide ((mn : Int) < 0)) || (decide (32 < (mn : Int)))) || (decide (32 < (mx : Int))))) rfl (dep_at hD 13 (by kernel_rfl)) hn, fun hc => absurd hc hn⟩)
                refine ob_val (fun _ => Below.refl _ _) fun a' w' hS hI hD => ⟨wanted_eq (c := (((decide ((mn : Int) < 0)) || (decide (32 < (mn : Int)))) || (decide (32 < (mx : Int))))) rfl (dep_at hD 13 (by kernel_rfl)) hc0, Value.bool ((decide (0 ≤ (mx : Int))) && (decide ((mx : Int) < mn))), ?_, fun _ => rfl⟩
                have h0_ : ((((decide ((mn : Int) < 0)) || (decide (32 < (mn : Int)))) || (decide (32 < (mx : Int)))) = false → a'.tmps.getD 61 undef = Value.bool (decide (0 ≤ (mx : Int)))) ∧ (¬ ((((decide ((mn : Int) < 0)) || (decide (32 < (mn : Int)))) || (decide (32 < (mx : Int)))) = false) → a'.tmps.getD 61 undef = undef) := (dep_at hD 17 (by kernel_rfl))
                have h0 := h0_.1
                replace h0 := h0 hc0
                have h1 : ((((decide ((mn : Int) < 0)) || (decide (32 < (mn : Int)))) || (decide (32 < (mx : Int)))) = false ∧ (decide (0 ≤ (mx : Int))) = true → a'.tmps.getD 66 undef = Value.bool (decide ((mx : Int) < mn))) := dep_at hD 22 (by kernel_rfl)
                replace h1 : (decide (0 ≤ (mx : Int))) = true → a'.tmps.getD 66 undef = Value.bool (decide ((mx : Int) < mn)) := fun hC => h1 ⟨hc0, hC⟩
                exact run_pick_and (.tmp 61) (.tmp 66) rfl rfl _ _ h0 h1
              · refine ob_val (fun _ => Below.refl _ _) fun a' w' hS hI hD => ⟨rfl, Value.bool ((((decide ((mn : Int) < 0)) || (decide (32 < (mn : Int)))) || (decide (32 < (mx : Int)))) || ((decide (0 ≤ (mx : Int))) && (decide ((mx : Int) < mn)))), ?_, rfl⟩
                have h0 : a'.tmps.getD 57 undef = Value.bool (((decide ((mn : Int) < 0)) || (decide (32 < (mn : Int)))) || (decide (32 < (mx : Int)))) := dep_at hD 13 (by kernel_rfl)
                have h1 : ((((decide ((mn : Int) < 0)) || (decide (32 < (mn : Int)))) || (decide (32 < (mx : Int)))) = false → a'.tmps.getD 67 undef = Value.bool ((decide (0 ≤ (mx : Int))) && (decide ((mx : Int) < mn)))) := dep_at hD 23 (by kernel_rfl)
                replace h1 : (((decide ((mn : Int) < 0)) || (decide (32 < (mn : Int)))) || (decide (32 < (mx : Int)))) = false → a'.tmps.getD 67 undef = Value.bool ((decide (0 ≤ (mx : Int))) && (decide ((mx : Int) < mn))) := fun hC => h1 hC
                exact run_pick_or (.tmp 57) (.tmp 67) rfl rfl _ _ h0 h1
            · intro v w7 hI hT
              have hlast : v 24 = .bool ((((decide ((mn : Int) < 0)) || (decide (32 < (mn : Int)))) || (decide (32 < (mx : Int)))) || ((decide (0 ≤ (mx : Int))) && (decide ((mx : Int) < mn)))) := tall_at _ _ hT 24 (by decide) (by decide)
              have HB7 := Lib.hid (below_more HB5.out (by have := HB5.out.size; omega) hI)
              have HG1 := Lib.hid (below_all hI HG1.out)
              clear hT hI
              rcases hb : ((((decide ((mn : Int) < 0)) || (decide (32 < (mn : Int)))) || (decide (32 < (mx : Int)))) || ((decide (0 ≤ (mx : Int))) && (decide ((mx : Int) < mn)))) with _ | _
              · rw [hb] at hlast
                have HF5 := Lib.hid hb
                clear hb
                simp only [putAll, Act.put, List.setIfInBounds_toArray, List.set_cons_succ, List.set_cons_zero, Nat.reduceAdd, hlast]
                clear hlast
                have HMA := Lib.hid (may_all (st := st) HF1.out HF3.out HF5.out)
                clear HF3 HF5
                have hd64 : d ≤ 64 := by have := HF1.out; simp at this; omega
                clear HF1
                go_wp2_with (fail)
                go_loopw [5] (fun i wr => ∃ k : Nat, k ≤ ks.length ∧ i = .int .i64 k ∧ (ks.take k).all (Nd.may (65 - (d + 1)).toNat) = true ∧ wr.heap[w.heap.size]? = some (.cells (ndC op st mn mx (.slice A ks.length cap)) 28 (0, 0)) ∧ Below w.heap.size w wr) (fun i _ => ks.length - (intOf i).toNat)
                case atStart => exact ⟨0, Nat.zero_le _, rfl, by simp, HG1.out, HB7.out⟩
                case round =>
                  clear HG1 HB7
                  obtain ⟨k, hk, rfl, hall, hg, hB⟩ := hrel
                  have HG := Lib.hid hg
                  have HALL := Lib.hid hall
                  obtain ⟨_, _, _, hc7⟩ := nd_cell hg
                  have hsz := hB.size
                  clear hg hall
                  by_cases hlt : k < ks.length
                  · have hget := List.getElem?_eq_getElem hlt
                    have HAT := Lib.hid (all_take (Nd.may (65 - (d + 1)).toNat) ks k hlt)
                    have HNA : Hid (Nd.may (65 - (d + 1)).toNat ks[k] = false → ks.all (Nd.may (65 - (d + 1)).toNat) = false) := Lib.hid fun h => List.all_eq_false.2 ⟨_, List.getElem_mem hlt, by simp [h]⟩
                    have HIK := Lib.hid (fun v w h => HIH.out k _ hget v w hd64 h)
                    generalize ks[k] = x at *
                    obtain ⟨op1, s1, mn1, mx1, kk⟩ := x
                    obtain ⟨_, _, b, o, kv1, hA, hr, hkk⟩ := (HK.out.keep hB).at hget
                    cases hA
                    have HR := Lib.hid hr
                    have HV1 : Hid (NodeV wr Q (ndV op1 s1 mn1 mx1 kv1) (.mk op1 s1 mn1 mx1 kk)) := Lib.hid ⟨kv1, rfl, hkk⟩
                    clear hr hkk hget
                    generalize Nd.mk op1 s1 mn1 mx1 kk = x at *
                    have HCC := Lib.hid (HIK.out _ wr HV1.out)
                    rcases hp : x.may (65 - (d + 1)).toNat with _ | _
                    all_goals
                      have HP := Lib.hid hp
                      clear hp
                      go_wp2_with (first | (refine ld_nd_mid rfl (.tmp 79) rfl _ _ rfl _ _ _ _ _ HR.out ?_) | (go_at_call 45; refine HCC.out.mono ?_; rintro e w8 ⟨rfl, hb8⟩; rw [HP.out]; have HG8 := Lib.hid (below_all hb8 HG.out); have HB8 := Lib.hid (below_more hB hsz hb8)))
                      first
                        | (exact ⟨⟨k + 1, by omega, by go_num, by rw [HAT.out, HALL.out, HP.out]; rfl, HG8.out, HB8.out⟩, by simp [intOf]; omega⟩)
                        | (go_ret; exact ⟨by rw [HMA.out, HNA.out HP.out]; rfl, HB8.out⟩)
                  · obtain rfl : k = ks.length := by omega
                    go_wp2_with (fail)
                    go_ret
                    have h1 := HALL.out
                    rw [List.take_of_length_le (Nat.le_refl _)] at h1
                    exact ⟨by rw [HMA.out, h1]; rfl, hB⟩
              · rw [hb] at hlast
                have HN := Lib.hid (may_5 (d := d) (op := op) (ks := ks) (st := st) hb)
                clear hb
                simp only [putAll, Act.put, List.setIfInBounds_toArray, List.set_cons_succ, List.set_cons_zero, Nat.reduceAdd, hlast]
                clear hlast
                go_wp2_with (fail)
                go_ret
                exact ⟨by rw [HN.out]; rfl, HB7.out⟩
          · rw [hb] at hlast
            have HN := Lib.hid (may_3 (d := d) (mn := mn) (mx := mx) (st := st) hb)
            clear hb
            simp only [putAll, Act.put, List.setIfInBounds_toArray, List.set_cons_succ, List.set_cons_zero, Nat.reduceAdd, hlast]
            clear hlast
            go_wp2_with (fail)
            go_ret
            exact ⟨by rw [HN.out]; rfl, HB5.out⟩
      · rw [hb] at hlast
        have HN := Lib.hid (may_1 (mn := mn) (mx := mx) (ks := ks) (st := st) hb)
        clear hb
        simp only [putAll, Act.put, List.setIfInBounds_toArray, List.set_cons_succ, List.set_cons_zero, Nat.reduceAdd, hlast]
        clear hlast
        go_wp2_with (fail)
        go_ret
        exact ⟨by rw [HN.out]; rfl, HB3.out⟩
  | succ n IH =>
    intro d hdn h1 h2 t Q v w hv
    obtain ⟨op, st, mn, mx, ks⟩ := t
    obtain ⟨kv, rfl, hk⟩ := hv
    obtain ⟨A, cap, rfl, hlen⟩ := hk.form
    have HK := Lib.hid hk
    have HIH : Hid (∀ (i : Nat) (k : Nd), ks[i]? = some k → ∀ v w, d ≤ 64 → NodeV w Q v k → Calls Try.prog 45 #[v, .int .i64 (d + 1)] w fun e w' => e = .returned (.bool (k.may (65 - (d + 1)).toNat)) ∧ Below w.heap.size w w') := Lib.hid fun i k hi v w h64 h => IH (d + 1) (by omega) (by omega) (by omega) k Q v w h
    have HDN := Lib.hid hdn
    clear hk IH hdn
    go_enter Try.func45, Try.ntmps45
    go_upto_region 1 with (refine box_nd rfl (.tmp 0) rfl op st mn mx _ rfl ?_)
    have HB1 : Hid (Below w.heap.size w (w.alloc (.cells (ndC op st mn mx (.slice A ks.length cap)) 28))) := Lib.hid ((Below.refl _ _).alloc (Nat.le_refl _) _)
    have HG1 := Lib.hid (heap_alloc_new w (.cells (ndC op st mn mx (.slice A ks.length cap)) 28))
    generalize w.alloc (.cells (ndC op st mn mx (.slice A ks.length cap)) 28) = w1 at *
    refine region_seq (fun w' => Below w1.heap.size w1 w') (fun w1 w2 => Below w1.heap.size w1 w2) (predsT (may1 w op st mn mx ks A cap d)) (by kernel_rfl) (by kernel_rfl) (by kernel_rfl) (preds_keep _ (may1_keep w op st mn mx ks A cap d)) (Below.refl _ _) ?_ ?_
    · refine ⟨?_, ?_, ?_, ?_, ?_, ?_, ?_, ?_, ?_, ?_, ?_, ?_, trivial⟩
      · refine ob_val (fun _ => Below.refl _ _) fun a' w' hS hI hD => ⟨rfl, Value.int .i64 d, ?_, rfl⟩
        have h0 : a'.tmps.getD 1 undef = Value.int .i64 d := hS.at rfl
        exact run_val (.tmp 1) (by first | exact .inl rfl | exact .inr rfl) _ h0
      · refine ob_val (fun _ => Below.refl _ _) fun a' w' hS hI hD => ⟨rfl, Value.bool (decide (64 < (d : Int))), ?_, rfl⟩
        have h0 : a'.tmps.getD 7 undef = Value.int .i64 d := dep_at hD 0 (by kernel_rfl)
        exact run_gtr_i _ _ (.tmp 7) (.const (Value.int .i64 64)) rfl _ _ _ h0 (by rfl)
      · refine ob_val (fun _ => Below.refl _ _) fun a' w' hS hI hD => ⟨rfl, Value.bool (decide (64 < (d : Int))), ?_, rfl⟩
        have h0 : a'.tmps.getD 8 undef = Value.bool (decide (64 < (d : Int))) := dep_at hD 1 (by kernel_rfl)
        exact run_val (.tmp 8) (by first | exact .inl rfl | exact .inr rfl) _ h0
      · refine ob_when ((decide (64 < (d : Int))) = false) (fun hc0 => ?_) (fun hn a' w' hS hI hD => ⟨unwanted (c := (decide (64 < (d : Int)))) rfl (dep_at hD 2 (by kernel_rfl)) hn, fun hc => absurd hc hn⟩)
        refine ob_val (fun _ => Below.refl _ _) fun a' w' hS hI hD => ⟨wanted_eq (c := (decide (64 < (d : Int)))) rfl (dep_at hD 2 (by kernel_rfl)) hc0, Value.pointer (some ⟨w.heap.size, 0, none⟩), ?_, fun _ => rfl⟩
        have h0 : a'.tmps.getD 2 undef = Value.pointer (some ⟨w.heap.size, 0, none⟩) := hS.at rfl
        simp only [execOp, Act.eval, h0]
        clear h0
        go_simp
      · refine ob_when ((decide (64 < (d : Int))) = false) (fun hc0 => ?_) (fun hn a' w' hS hI hD => ⟨unwanted (c := (decide (64 < (d : Int)))) rfl (dep_at hD 2 (by kernel_rfl)) hn, fun hc => absurd hc hn⟩)
        refine ob_val (fun _ => Below.refl _ _) fun a' w' hS hI hD => ⟨wanted_eq (c := (decide (64 < (d : Int)))) rfl (dep_at hD 2 (by kernel_rfl)) hc0, Value.int .i64 op, ?_, fun _ => rfl⟩
        have h0 : ((decide (64 < (d : Int))) = false → a'.tmps.getD 10 undef = Value.pointer (some ⟨w.heap.size, 0, none⟩)) := dep_at hD 3 (by kernel_rfl)
        replace h0 := h0 hc0
        have hc : w'.cell? ⟨w.heap.size, 0, none⟩ = some (Value.int .i64 op) := (nd_cell (below_all hI HG1.out)).1
        exact run_load_cell _ (.tmp 10) rfl _ _ _ h0 hc _ Try.underlying3 rfl
      · refine ob_when ((decide (64 < (d : Int))) = false) (fun hc0 => ?_) (fun hn a' w' hS hI hD => ⟨unwanted (c := (decide (64 < (d : Int)))) rfl (dep_at hD 2 (by kernel_rfl)) hn, fun hc => absurd hc hn⟩)
        refine ob_val (fun _ => Below.refl _ _) fun a' w' hS hI hD => ⟨wanted_eq (c := (decide (64 < (d : Int)))) rfl (dep_at hD 2 (by kernel_rfl)) hc0, Value.bool (decide ((op : Int) < 0)), ?_, fun _ => rfl⟩
        have h0 : ((decide (64 < (d : Int))) = false → a'.tmps.getD 11 undef = Value.int .i64 op) := dep_at hD 4 (by kernel_rfl)
        replace h0 := h0 hc0
        exact run_lss_i _ _ (.tmp 11) (.const (Value.int .i64 0)) rfl _ _ _ h0 (by rfl)
      · refine ob_val (fun _ => Below.refl _ _) fun a' w' hS hI hD => ⟨rfl, Value.bool ((decide (64 < (d : Int))) || (decide ((op : Int) < 0))), ?_, rfl⟩
        have h0 : a'.tmps.getD 9 undef = Value.bool (decide (64 < (d : Int))) := dep_at hD 2 (by kernel_rfl)
        have h1 : ((decide (64 < (d : Int))) = false → a'.tmps.getD 12 undef = Value.bool (decide ((op : Int) < 0))) := dep_at hD 5 (by kernel_rfl)
        replace h1 : (decide (64 < (d : Int))) = false → a'.tmps.getD 12 undef = Value.bool (decide ((op : Int) < 0)) := fun hC => h1 hC
        exact run_pick_or (.tmp 9) (.tmp 12) rfl rfl _ _ h0 h1
      · refine ob_val (fun _ => Below.refl _ _) fun a' w' hS hI hD => ⟨rfl, Value.bool ((decide (64 < (d : Int))) || (decide ((op : Int) < 0))), ?_, rfl⟩
        have h0 : a'.tmps.getD 13 undef = Value.bool ((decide (64 < (d : Int))) || (decide ((op : Int) < 0))) := dep_at hD 6 (by kernel_rfl)
        exact run_val (.tmp 13) (by first | exact .inl rfl | exact .inr rfl) _ h0
      · refine ob_when (((decide (64 < (d : Int))) || (decide ((op : Int) < 0))) = false) (fun hc0 => ?_) (fun hn a' w' hS hI hD => ⟨unwanted (c := ((decide (64 < (d : Int))) || (decide ((op : Int) < 0)))) rfl (dep_at hD 7 (by kernel_rfl)) hn, fun hc => absurd hc hn⟩)
        refine ob_val (fun _ => Below.refl _ _) fun a' w' hS hI hD => ⟨wanted_eq (c := ((decide (64 < (d : Int))) || (decide ((op : Int) < 0)))) rfl (dep_at hD 7 (by kernel_rfl)) hc0, Value.pointer (some ⟨w.heap.size, 0, none⟩), ?_, fun _ => rfl⟩
        have h0 : a'.tmps.getD 2 undef = Value.pointer (some ⟨w.heap.size, 0, none⟩) := hS.at rfl
        simp only [execOp, Act.eval, h0]
        clear h0
        go_simp
      · refine ob_when (((decide (64 < (d : Int))) || (decide ((op : Int) < 0))) = false) (fun hc0 => ?_) (fun hn a' w' hS hI hD => ⟨unwanted (c := ((decide (64 < (d : Int))) || (decide ((op : Int) < 0)))) rfl (dep_at hD 7 (by kernel_rfl)) hn, fun hc => absurd hc hn⟩)
        refine ob_val (fun _ => Below.refl _ _) fun a' w' hS hI hD => ⟨wanted_eq (c := ((decide (64 < (d : Int))) || (decide ((op : Int) < 0)))) rfl (dep_at hD 7 (by kernel_rfl)) hc0, Value.int .i64 op, ?_, fun _ => rfl⟩
        have h0 : (((decide (64 < (d : Int))) || (decide ((op : Int) < 0))) = false → a'.tmps.getD 15 undef = Value.pointer (some ⟨w.heap.size, 0, none⟩)) := dep_at hD 8 (by kernel_rfl)
        replace h0 := h0 hc0
        have hc : w'.cell? ⟨w.heap.size, 0, none⟩ = some (Value.int .i64 op) := (nd_cell (below_all hI HG1.out)).1
        exact run_load_cell _ (.tmp 15) rfl _ _ _ h0 hc _ Try.underlying3 rfl
      · refine ob_when (((decide (64 < (d : Int))) || (decide ((op : Int) < 0))) = false) (fun hc0 => ?_) (fun hn a' w' hS hI hD => ⟨unwanted (c := ((decide (64 < (d : Int))) || (decide ((op : Int) < 0)))) rfl (dep_at hD 7 (by kernel_rfl)) hn, fun hc => absurd hc hn⟩)
        refine ob_val (fun _ => Below.refl _ _) fun a' w' hS hI hD => ⟨wanted_eq (c := ((decide (64 < (d : Int))) || (decide ((op : Int) < 0)))) rfl (dep_at hD 7 (by kernel_rfl)) hc0, Value.bool (decide (5 < (op : Int))), ?_, fun _ => rfl⟩
        have h0 : (((decide (64 < (d : Int))) || (decide ((op : Int) < 0))) = false → a'.tmps.getD 16 undef = Value.int .i64 op) := dep_at hD 9 (by kernel_rfl)
        replace h0 := h0 hc0
        exact run_gtr_i _ _ (.tmp 16) (.const (Value.int .i64 5)) rfl _ _ _ h0 (by rfl)
      · refine ob_val (fun _ => Below.refl _ _) fun a' w' hS hI hD => ⟨rfl, Value.bool (((decide (64 < (d : Int))) || (decide ((op : Int) < 0))) || (decide (5 < (op : Int)))), ?_, rfl⟩
        have h0 : a'.tmps.getD 14 undef = Value.bool ((decide (64 < (d : Int))) || (decide ((op : Int) < 0))) := dep_at hD 7 (by kernel_rfl)
        have h1 : (((decide (64 < (d : Int))) || (decide ((op : Int) < 0))) = false → a'.tmps.getD 17 undef = Value.bool (decide (5 < (op : Int)))) := dep_at hD 10 (by kernel_rfl)
        replace h1 : ((decide (64 < (d : Int))) || (decide ((op : Int) < 0))) = false → a'.tmps.getD 17 undef = Value.bool (decide (5 < (op : Int))) := fun hC => h1 hC
        exact run_pick_or (.tmp 14) (.tmp 17) rfl rfl _ _ h0 h1
    · intro v w3 hI hT
      have hlast : v 11 = .bool (((decide (64 < (d : Int))) || (decide ((op : Int) < 0))) || (decide (5 < (op : Int)))) := tall_at _ _ hT 11 (by decide) (by decide)
      have HB3 := Lib.hid (below_more HB1.out (by have := HB1.out.size; omega) hI)
      have HG1 := Lib.hid (below_all hI HG1.out)
      clear hT hI
      rcases hb : (((decide (64 < (d : Int))) || (decide ((op : Int) < 0))) || (decide (5 < (op : Int)))) with _ | _
      · rw [hb] at hlast
        have HF1 := Lib.hid hb
        clear hb
        simp only [putAll, Act.put, List.setIfInBounds_toArray, List.set_cons_succ, List.set_cons_zero, Nat.reduceAdd, hlast]
        clear hlast
        go_upto_region 3 with (fail)
        refine region_seq (fun w' => Below w3.heap.size w3 w') (fun w1 w2 => Below w1.heap.size w1 w2) (predsT (may3 w op st mn mx ks A cap d)) (by kernel_rfl) (by kernel_rfl) (by kernel_rfl) (preds_keep _ (may3_keep w op st mn mx ks A cap d)) (Below.refl _ _) ?_ ?_
        · refine ⟨?_, ?_, ?_, ?_, ?_, ?_, ?_, ?_, ?_, ?_, ?_, ?_, ?_, ?_, ?_, ?_, ?_, ?_, ?_, ?_, ?_, ?_, ?_, ?_, ?_, trivial⟩
          · refine ob_val (fun _ => Below.refl _ _) fun a' w' hS hI hD => ⟨rfl, Value.pointer (some ⟨w.heap.size, 0, none⟩), ?_, rfl⟩
            have h0 : a'.tmps.getD 2 undef = Value.pointer (some ⟨w.heap.size, 0, none⟩) := hS.at rfl
            simp only [execOp, Act.eval, h0]
            clear h0
            go_simp
          · refine ob_val (fun _ => Below.refl _ _) fun a' w' hS hI hD => ⟨rfl, Value.int .i64 op, ?_, rfl⟩
            have h0 : a'.tmps.getD 19 undef = Value.pointer (some ⟨w.heap.size, 0, none⟩) := dep_at hD 0 (by kernel_rfl)
            have hc : w'.cell? ⟨w.heap.size, 0, none⟩ = some (Value.int .i64 op) := (nd_cell (below_all hI HG1.out)).1
            exact run_load_cell _ (.tmp 19) rfl _ _ _ h0 hc _ Try.underlying3 rfl
          · refine ob_val (fun _ => Below.refl _ _) fun a' w' hS hI hD => ⟨rfl, Value.bool ((op : Int) == 0), ?_, rfl⟩
            have h0 : a'.tmps.getD 20 undef = Value.int .i64 op := dep_at hD 1 (by kernel_rfl)
            exact run_eql_i _ _ (.tmp 20) (.const (Value.int .i64 0)) rfl _ _ _ h0 (by rfl)
          · refine ob_val (fun _ => Below.refl _ _) fun a' w' hS hI hD => ⟨rfl, Value.bool ((op : Int) == 0), ?_, rfl⟩
            have h0 : a'.tmps.getD 21 undef = Value.bool ((op : Int) == 0) := dep_at hD 2 (by kernel_rfl)
            exact run_val (.tmp 21) (by first | exact .inl rfl | exact .inr rfl) _ h0
          · refine ob_when (((op : Int) == 0) = true) (fun hc0 => ?_) (fun hn a' w' hS hI hD => ⟨unwanted (c := ((op : Int) == 0)) rfl (dep_at hD 3 (by kernel_rfl)) hn, fun hc => absurd hc hn⟩)
            refine ob_val (fun _ => Below.refl _ _) fun a' w' hS hI hD => ⟨wanted_eq (c := ((op : Int) == 0)) rfl (dep_at hD 3 (by kernel_rfl)) hc0, Value.pointer (some ⟨w.heap.size, 7, none⟩), ?_, fun _ => rfl⟩
            have h0 : a'.tmps.getD 2 undef = Value.pointer (some ⟨w.heap.size, 0, none⟩) := hS.at rfl
            simp only [execOp, Act.eval, h0]
            clear h0
            go_simp
          · refine ob_when (((op : Int) == 0) = true) (fun hc0 => ?_) (fun hn a' w' hS hI hD => ⟨unwanted (c := ((op : Int) == 0)) rfl (dep_at hD 3 (by kernel_rfl)) hn, fun hc => absurd hc hn⟩)
            refine ob_val (fun _ => Below.refl _ _) fun a' w' hS hI hD => ⟨wanted_eq (c := ((op : Int) == 0)) rfl (dep_at hD 3 (by kernel_rfl)) hc0, Value.slice A ks.length cap, ?_, fun _ => rfl⟩
            have h0 : (((op : Int) == 0) = true → a'.tmps.getD 23 undef = Value.pointer (some ⟨w.heap.size, 7, none⟩)) := dep_at hD 4 (by kernel_rfl)
            replace h0 := h0 hc0
            have hc : w'.cell? ⟨w.heap.size, 7, none⟩ = some (Value.slice A ks.length cap) := (nd_cell (below_all hI HG1.out)).2.2.2
            exact run_load_cell _ (.tmp 23) rfl _ _ _ h0 hc _ Try.underlying26 rfl
          · refine ob_when (((op : Int) == 0) = true) (fun hc0 => ?_) (fun hn a' w' hS hI hD => ⟨unwanted (c := ((op : Int) == 0)) rfl (dep_at hD 3 (by kernel_rfl)) hn, fun hc => absurd hc hn⟩)
            refine ob_val (fun _ => Below.refl _ _) fun a' w' hS hI hD => ⟨wanted_eq (c := ((op : Int) == 0)) rfl (dep_at hD 3 (by kernel_rfl)) hc0, Value.int .i64 (ks.length : Nat), ?_, fun _ => rfl⟩
            have h0 : (((op : Int) == 0) = true → a'.tmps.getD 24 undef = Value.slice A ks.length cap) := dep_at hD 5 (by kernel_rfl)
            replace h0 := h0 hc0
            exact run_len_s _ (.tmp 24) rfl _ _ _ h0 _ Try.underlying26
          · refine ob_when (((op : Int) == 0) = true) (fun hc0 => ?_) (fun hn a' w' hS hI hD => ⟨unwanted (c := ((op : Int) == 0)) rfl (dep_at hD 3 (by kernel_rfl)) hn, fun hc => absurd hc hn⟩)
            refine ob_val (fun _ => Below.refl _ _) fun a' w' hS hI hD => ⟨wanted_eq (c := ((op : Int) == 0)) rfl (dep_at hD 3 (by kernel_rfl)) hc0, Value.bool (decide (0 < ((ks.length : Nat) : Int))), ?_, fun _ => rfl⟩
            have h0 : (((op : Int) == 0) = true → a'.tmps.getD 25 undef = Value.int .i64 (ks.length : Nat)) := dep_at hD 6 (by kernel_rfl)
            replace h0 := h0 hc0
            exact run_gtr_i _ _ (.tmp 25) (.const (Value.int .i64 0)) rfl _ _ _ h0 (by rfl)
          · refine ob_val (fun _ => Below.refl _ _) fun a' w' hS hI hD => ⟨rfl, Value.bool (((op : Int) == 0) && (decide (0 < ((ks.length : Nat) : Int)))), ?_, rfl⟩
            have h0 : a'.tmps.getD 22 undef = Value.bool ((op : Int) == 0) := dep_at hD 3 (by kernel_rfl)
            have h1 : (((op : Int) == 0) = true → a'.tmps.getD 26 undef = Value.bool (decide (0 < ((ks.length : Nat) : Int)))) := dep_at hD 7 (by kernel_rfl)
            replace h1 : ((op : Int) == 0) = true → a'.tmps.getD 26 undef = Value.bool (decide (0 < ((ks.length : Nat) : Int))) := fun hC => h1 hC
            exact run_pick_and (.tmp 22) (.tmp 26) rfl rfl _ _ h0 h1
          · refine ob_val (fun _ => Below.refl _ _) fun a' w' hS hI hD => ⟨rfl, Value.bool (((op : Int) == 0) && (decide (0 < ((ks.length : Nat) : Int)))), ?_, rfl⟩
            have h0 : a'.tmps.getD 27 undef = Value.bool (((op : Int) == 0) && (decide (0 < ((ks.length : Nat) : Int)))) := dep_at hD 8 (by kernel_rfl)
            exact run_val (.tmp 27) (by first | exact .inl rfl | exact .inr rfl) _ h0
          · refine ob_when ((((op : Int) == 0) && (decide (0 < ((ks.length : Nat) : Int)))) = false) (fun hc0 => ?_) (fun hn a' w' hS hI hD => ⟨unwanted (c := (((op : Int) == 0) && (decide (0 < ((ks.length : Nat) : Int))))) rfl (dep_at hD 9 (by kernel_rfl)) hn, fun hc => absurd hc hn⟩)
            refine ob_val (fun _ => Below.refl _ _) fun a' w' hS hI hD => ⟨wanted_eq (c := (((op : Int) == 0) && (decide (0 < ((ks.length : Nat) : Int))))) rfl (dep_at hD 9 (by kernel_rfl)) hc0, Value.pointer (some ⟨w.heap.size, 0, none⟩), ?_, fun _ => rfl⟩
            have h0 : a'.tmps.getD 2 undef = Value.pointer (some ⟨w.heap.size, 0, none⟩) := hS.at rfl
            simp only [execOp, Act.eval, h0]
            clear h0
            go_simp
          · refine ob_when ((((op : Int) == 0) && (decide (0 < ((ks.length : Nat) : Int)))) = false) (fun hc0 => ?_) (fun hn a' w' hS hI hD => ⟨unwanted (c := (((op : Int) == 0) && (decide (0 < ((ks.length : Nat) : Int))))) rfl (dep_at hD 9 (by kernel_rfl)) hn, fun hc => absurd hc hn⟩)
            refine ob_val (fun _ => Below.refl _ _) fun a' w' hS hI hD => ⟨wanted_eq (c := (((op : Int) == 0) && (decide (0 < ((ks.length : Nat) : Int))))) rfl (dep_at hD 9 (by kernel_rfl)) hc0, Value.int .i64 op, ?_, fun _ => rfl⟩
            have h0 : ((((op : Int) == 0) && (decide (0 < ((ks.length : Nat) : Int)))) = false → a'.tmps.getD 29 undef = Value.pointer (some ⟨w.heap.size, 0, none⟩)) := dep_at hD 10 (by kernel_rfl)
            replace h0 := h0 hc0
            have hc : w'.cell? ⟨w.heap.size, 0, none⟩ = some (Value.int .i64 op) := (nd_cell (below_all hI HG1.out)).1
            exact run_load_cell _ (.tmp 29) rfl _ _ _ h0 hc _ Try.underlying3 rfl
          · refine ob_when ((((op : Int) == 0) && (decide (0 < ((ks.length : Nat) : Int)))) = false) (fun hc0 => ?_) (fun hn a' w' hS hI hD => ⟨unwanted (c := (((op : Int) == 0) && (decide (0 < ((ks.length : Nat) : Int))))) rfl (dep_at hD 9 (by kernel_rfl)) hn, fun hc => absurd hc hn⟩)
            refine ob_val (fun _ => Below.refl _ _) fun a' w' hS hI hD => ⟨wanted_eq (c := (((op : Int) == 0) && (decide (0 < ((ks.length : Nat) : Int))))) rfl (dep_at hD 9 (by kernel_rfl)) hc0, Value.bool ((op : Int) == 3), ?_, fun _ => rfl⟩
            have h0 : ((((op : Int) == 0) && (decide (0 < ((ks.length : Nat) : Int)))) = false → a'.tmps.getD 30 undef = Value.int .i64 op) := dep_at hD 11 (by kernel_rfl)
            replace h0 := h0 hc0
            exact run_eql_i _ _ (.tmp 30) (.const (Value.int .i64 3)) rfl _ _ _ h0 (by rfl)
          · refine ob_when ((((op : Int) == 0) && (decide (0 < ((ks.length : Nat) : Int)))) = false) (fun hc0 => ?_) (fun hn a' w' hS hI hD => ⟨unwanted (c := (((op : Int) == 0) && (decide (0 < ((ks.length : Nat) : Int))))) rfl (dep_at hD 9 (by kernel_rfl)) hn, ⟨fun hc => absurd hc hn, fun _ => rfl⟩⟩)
            refine ob_val (fun _ => Below.refl _ _) fun a' w' hS hI hD => ⟨wanted_eq (c := (((op : Int) == 0) && (decide (0 < ((ks.length : Nat) : Int))))) rfl (dep_at hD 9 (by kernel_rfl)) hc0, Value.bool ((op : Int) == 3), ?_, ⟨fun _ => rfl, fun hn => absurd ‹_› hn⟩⟩
            have h0 : ((((op : Int) == 0) && (decide (0 < ((ks.length : Nat) : Int)))) = false → a'.tmps.getD 31 undef = Value.bool ((op : Int) == 3)) := dep_at hD 12 (by kernel_rfl)
            replace h0 := h0 hc0
            exact run_val (.tmp 31) (by first | exact .inl rfl | exact .inr rfl) _ h0
          · refine ob_when ((((op : Int) == 0) && (decide (0 < ((ks.length : Nat) : Int)))) = false ∧ ((op : Int) == 3) = false) ?_ ?_
            · rintro ⟨hc0, hc1⟩
              refine ob_val (fun _ => Below.refl _ _) fun a' w' hS hI hD => ⟨wanted_eq (c := ((op : Int) == 3)) rfl ((show (((((op : Int) == 0) && (decide (0 < ((ks.length : Nat) : Int)))) = false → slotV _ a' 13 = Value.bool ((op : Int) == 3)) ∧ (¬ ((((op : Int) == 0) && (decide (0 < ((ks.length : Nat) : Int)))) = false) → slotV _ a' 13 = undef)) from dep_at hD 13 (by kernel_rfl)).1 hc0) hc1, Value.pointer (some ⟨w.heap.size, 0, none⟩), ?_, fun _ => rfl⟩
              have h0 : a'.tmps.getD 2 undef = Value.pointer (some ⟨w.heap.size, 0, none⟩) := hS.at rfl
              simp only [execOp, Act.eval, h0]
              clear h0
              go_simp
            · intro hn a' w' hS hI hD
              have hg : ((((op : Int) == 0) && (decide (0 < ((ks.length : Nat) : Int)))) = false → slotV _ a' 13 = Value.bool ((op : Int) == 3)) ∧ (¬ ((((op : Int) == 0) && (decide (0 < ((ks.length : Nat) : Int)))) = false) → slotV _ a' 13 = undef) := dep_at hD 13 (by kernel_rfl)
              by_cases hcj : (((op : Int) == 0) && (decide (0 < ((ks.length : Nat) : Int)))) = false
              · exact ⟨unwanted (c := ((op : Int) == 3)) rfl (hg.1 hcj) (fun hq => hn (by simp only [hcj, hq, and_self])), fun hc => absurd hc hn⟩
              · exact ⟨unwanted_u rfl (hg.2 hcj), fun hc => absurd hc hn⟩
          · refine ob_when ((((op : Int) == 0) && (decide (0 < ((ks.length : Nat) : Int)))) = false ∧ ((op : Int) == 3) = false) ?_ ?_
            · rintro ⟨hc0, hc1⟩
              refine ob_val (fun _ => Below.refl _ _) fun a' w' hS hI hD => ⟨wanted_eq (c := ((op : Int) == 3)) rfl ((show (((((op : Int) == 0) && (decide (0 < ((ks.length : Nat) : Int)))) = false → slotV _ a' 13 = Value.bool ((op : Int) == 3)) ∧ (¬ ((((op : Int) == 0) && (decide (0 < ((ks.length : Nat) : Int)))) = false) → slotV _ a' 13 = undef)) from dep_at hD 13 (by kernel_rfl)).1 hc0) hc1, Value.int .i64 op, ?_, fun _ => rfl⟩
              have h0 : ((((op : Int) == 0) && (decide (0 < ((ks.length : Nat) : Int)))) = false ∧ ((op : Int) == 3) = false → a'.tmps.getD 33 undef = Value.pointer (some ⟨w.heap.size, 0, none⟩)) := dep_at hD 14 (by kernel_rfl)
              replace h0 := h0 ⟨hc0, hc1⟩
              have hc : w'.cell? ⟨w.heap.size, 0, none⟩ = some (Value.int .i64 op) := (nd_cell (below_all hI HG1.out)).1
              exact run_load_cell _ (.tmp 33) rfl _ _ _ h0 hc _ Try.underlying3 rfl
            · intro hn a' w' hS hI hD
              have hg : ((((op : Int) == 0) && (decide (0 < ((ks.length : Nat) : Int)))) = false → slotV _ a' 13 = Value.bool ((op : Int) == 3)) ∧ (¬ ((((op : Int) == 0) && (decide (0 < ((ks.length : Nat) : Int)))) = false) → slotV _ a' 13 = undef) := dep_at hD 13 (by kernel_rfl)
              by_cases hcj : (((op : Int) == 0) && (decide (0 < ((ks.length : Nat) : Int)))) = false
              · exact ⟨unwanted (c := ((op : Int) == 3)) rfl (hg.1 hcj) (fun hq => hn (by simp only [hcj, hq, and_self])), fun hc => absurd hc hn⟩
              · exact ⟨unwanted_u rfl (hg.2 hcj), fun hc => absurd hc hn⟩
          · refine ob_when ((((op : Int) == 0) && (decide (0 < ((ks.length : Nat) : Int)))) = false ∧ ((op : Int) == 3) = false) ?_ ?_
            · rintro ⟨hc0, hc1⟩
              refine ob_val (fun _ => Below.refl _ _) fun a' w' hS hI hD => ⟨wanted_eq (c := ((op : Int) == 3)) rfl ((show (((((op : Int) == 0) && (decide (0 < ((ks.length : Nat) : Int)))) = false → slotV _ a' 13 = Value.bool ((op : Int) == 3)) ∧ (¬ ((((op : Int) == 0) && (decide (0 < ((ks.length : Nat) : Int)))) = false) → slotV _ a' 13 = undef)) from dep_at hD 13 (by kernel_rfl)).1 hc0) hc1, Value.bool ((op : Int) == 5), ?_, fun _ => rfl⟩
              have h0 : ((((op : Int) == 0) && (decide (0 < ((ks.length : Nat) : Int)))) = false ∧ ((op : Int) == 3) = false → a'.tmps.getD 34 undef = Value.int .i64 op) := dep_at hD 15 (by kernel_rfl)
              replace h0 := h0 ⟨hc0, hc1⟩
              exact run_eql_i _ _ (.tmp 34) (.const (Value.int .i64 5)) rfl _ _ _ h0 (by rfl)
            · intro hn a' w' hS hI hD
              have hg : ((((op : Int) == 0) && (decide (0 < ((ks.length : Nat) : Int)))) = false → slotV _ a' 13 = Value.bool ((op : Int) == 3)) ∧ (¬ ((((op : Int) == 0) && (decide (0 < ((ks.length : Nat) : Int)))) = false) → slotV _ a' 13 = undef) := dep_at hD 13 (by kernel_rfl)
              by_cases hcj : (((op : Int) == 0) && (decide (0 < ((ks.length : Nat) : Int)))) = false
              · exact ⟨unwanted (c := ((op : Int) == 3)) rfl (hg.1 hcj) (fun hq => hn (by simp only [hcj, hq, and_self])), fun hc => absurd hc hn⟩
              · exact ⟨unwanted_u rfl (hg.2 hcj), fun hc => absurd hc hn⟩
          · refine ob_when ((((op : Int) == 0) && (decide (0 < ((ks.length : Nat) : Int)))) = false) (fun hc0 => ?_) (fun hn a' w' hS hI hD => ⟨unwanted (c := (((op : Int) == 0) && (decide (0 < ((ks.length : Nat) : Int))))) rfl (dep_at hD 9 (by kernel_rfl)) hn, fun hc => absurd hc hn⟩)
            refine ob_val (fun _ => Below.refl _ _) fun a' w' hS hI hD => ⟨wanted_eq (c := (((op : Int) == 0) && (decide (0 < ((ks.length : Nat) : Int))))) rfl (dep_at hD 9 (by kernel_rfl)) hc0, Value.bool (((op : Int) == 3) || ((op : Int) == 5)), ?_, fun _ => rfl⟩
            have h0_ : ((((op : Int) == 0) && (decide (0 < ((ks.length : Nat) : Int)))) = false → a'.tmps.getD 32 undef = Value.bool ((op : Int) == 3)) ∧ (¬ ((((op : Int) == 0) && (decide (0 < ((ks.length : Nat) : Int)))) = false) → a'.tmps.getD 32 undef = undef) := (dep_at hD 13 (by kernel_rfl))
            have h0 := h0_.1
            replace h0 := h0 hc0
            have h1 : ((((op : Int) == 0) && (decide (0 < ((ks.length : Nat) : Int)))) = false ∧ ((op : Int) == 3) = false → a'.tmps.getD 35 undef = Value.bool ((op : Int) == 5)) := dep_at hD 16 (by kernel_rfl)
            replace h1 : ((op : Int) == 3) = false → a'.tmps.getD 35 undef = Value.bool ((op : Int) == 5) := fun hC => h1 ⟨hc0, hC⟩
            exact run_pick_or (.tmp 32) (.tmp 35) rfl rfl _ _ h0 h1
          · refine ob_when ((((op : Int) == 0) && (decide (0 < ((ks.length : Nat) : Int)))) = false) (fun hc0 => ?_) (fun hn a' w' hS hI hD => ⟨unwanted (c := (((op : Int) == 0) && (decide (0 < ((ks.length : Nat) : Int))))) rfl (dep_at hD 9 (by kernel_rfl)) hn, ⟨fun hc => absurd hc hn, fun _ => rfl⟩⟩)
            refine ob_val (fun _ => Below.refl _ _) fun a' w' hS hI hD => ⟨wanted_eq (c := (((op : Int) == 0) && (decide (0 < ((ks.length : Nat) : Int))))) rfl (dep_at hD 9 (by kernel_rfl)) hc0, Value.bool (((op : Int) == 3) || ((op : Int) == 5)), ?_, ⟨fun _ => rfl, fun hn => absurd ‹_› hn⟩⟩
            have h0 : ((((op : Int) == 0) && (decide (0 < ((ks.length : Nat) : Int)))) = false → a'.tmps.getD 36 undef = Value.bool (((op : Int) == 3) || ((op : Int) == 5))) := dep_at hD 17 (by kernel_rfl)
            replace h0 := h0 hc0
            exact run_val (.tmp 36) (by first | exact .inl rfl | exact .inr rfl) _ h0
          · refine ob_when ((((op : Int) == 0) && (decide (0 < ((ks.length : Nat) : Int)))) = false ∧ (((op : Int) == 3) || ((op : Int) == 5)) = true) ?_ ?_
            · rintro ⟨hc0, hc1⟩
              refine ob_val (fun _ => Below.refl _ _) fun a' w' hS hI hD => ⟨wanted_eq (c := (((op : Int) == 3) || ((op : Int) == 5))) rfl ((show (((((op : Int) == 0) && (decide (0 < ((ks.length : Nat) : Int)))) = false → slotV _ a' 18 = Value.bool (((op : Int) == 3) || ((op : Int) == 5))) ∧ (¬ ((((op : Int) == 0) && (decide (0 < ((ks.length : Nat) : Int)))) = false) → slotV _ a' 18 = undef)) from dep_at hD 18 (by kernel_rfl)).1 hc0) hc1, Value.pointer (some ⟨w.heap.size, 7, none⟩), ?_, fun _ => rfl⟩
              have h0 : a'.tmps.getD 2 undef = Value.pointer (some ⟨w.heap.size, 0, none⟩) := hS.at rfl
              simp only [execOp, Act.eval, h0]
              clear h0
              go_simp
            · intro hn a' w' hS hI hD
              have hg : ((((op : Int) == 0) && (decide (0 < ((ks.length : Nat) : Int)))) = false → slotV _ a' 18 = Value.bool (((op : Int) == 3) || ((op : Int) == 5))) ∧ (¬ ((((op : Int) == 0) && (decide (0 < ((ks.length : Nat) : Int)))) = false) → slotV _ a' 18 = undef) := dep_at hD 18 (by kernel_rfl)
              by_cases hcj : (((op : Int) == 0) && (decide (0 < ((ks.length : Nat) : Int)))) = false
              · exact ⟨unwanted (c := (((op : Int) == 3) || ((op : Int) == 5))) rfl (hg.1 hcj) (fun hq => hn (by simp only [hcj, hq, and_self])), fun hc => absurd hc hn⟩
              · exact ⟨unwanted_u rfl (hg.2 hcj), fun hc => absurd hc hn⟩
          · refine ob_when ((((op : Int) == 0) && (decide (0 < ((ks.length : Nat) : Int)))) = false ∧ (((op : Int) == 3) || ((op : Int) == 5)) = true) ?_ ?_
            · rintro ⟨hc0, hc1⟩
              refine ob_val (fun _ => Below.refl _ _) fun a' w' hS hI hD => ⟨wanted_eq (c := (((op : Int) == 3) || ((op : Int) == 5))) rfl ((show (((((op : Int) == 0) && (decide (0 < ((ks.length : Nat) : Int)))) = false → slotV _ a' 18 = Value.bool (((op : Int) == 3) || ((op : Int) == 5))) ∧ (¬ ((((op : Int) == 0) && (decide (0 < ((ks.length : Nat) : Int)))) = false) → slotV _ a' 18 = undef)) from dep_at hD 18 (by kernel_rfl)).1 hc0) hc1, Value.slice A ks.length cap, ?_, fun _ => rfl⟩
              have h0 : ((((op : Int) == 0) && (decide (0 < ((ks.length : Nat) : Int)))) = false ∧ (((op : Int) == 3) || ((op : Int) == 5)) = true → a'.tmps.getD 38 undef = Value.pointer (some ⟨w.heap.size, 7, none⟩)) := dep_at hD 19 (by kernel_rfl)
              replace h0 := h0 ⟨hc0, hc1⟩
              have hc : w'.cell? ⟨w.heap.size, 7, none⟩ = some (Value.slice A ks.length cap) := (nd_cell (below_all hI HG1.out)).2.2.2
              exact run_load_cell _ (.tmp 38) rfl _ _ _ h0 hc _ Try.underlying26 rfl
            · intro hn a' w' hS hI hD
              have hg : ((((op : Int) == 0) && (decide (0 < ((ks.length : Nat) : Int)))) = false → slotV _ a' 18 = Value.bool (((op : Int) == 3) || ((op : Int) == 5))) ∧ (¬ ((((op : Int) == 0) && (decide (0 < ((ks.length : Nat) : Int)))) = false) → slotV _ a' 18 = undef) := dep_at hD 18 (by kernel_rfl)
              by_cases hcj : (((op : Int) == 0) && (decide (0 < ((ks.length : Nat) : Int)))) = false
              · exact ⟨unwanted (c := (((op : Int) == 3) || ((op : Int) == 5))) rfl (hg.1 hcj) (fun hq => hn (by simp only [hcj, hq, and_self])), fun hc => absurd hc hn⟩
              · exact ⟨unwanted_u rfl (hg.2 hcj), fun hc => absurd hc hn⟩
          · refine ob_when ((((op : Int) == 0) && (decide (0 < ((ks.length : Nat) : Int)))) = false ∧ (((op : Int) == 3) || ((op : Int) == 5)) = true) ?_ ?_
            · rintro ⟨hc0, hc1⟩
              refine ob_val (fun _ => Below.refl _ _) fun a' w' hS hI hD => ⟨wanted_eq (c := (((op : Int) == 3) || ((op : Int) == 5))) rfl ((show (((((op : Int) == 0) && (decide (0 < ((ks.length : Nat) : Int)))) = false → slotV _ a' 18 = Value.bool (((op : Int) == 3) || ((op : Int) == 5))) ∧ (¬ ((((op : Int) == 0) && (decide (0 < ((ks.length : Nat) : Int)))) = false) → slotV _ a' 18 = undef)) from dep_at hD 18 (by kernel_rfl)).1 hc0) hc1, Value.int .i64 (ks.length : Nat), ?_, fun _ => rfl⟩
              have h0 : ((((op : Int) == 0) && (decide (0 < ((ks.length : Nat) : Int)))) = false ∧ (((op : Int) == 3) || ((op : Int) == 5)) = true → a'.tmps.getD 39 undef = Value.slice A ks.length cap) := dep_at hD 20 (by kernel_rfl)
              replace h0 := h0 ⟨hc0, hc1⟩
              exact run_len_s _ (.tmp 39) rfl _ _ _ h0 _ Try.underlying26
            · intro hn a' w' hS hI hD
              have hg : ((((op : Int) == 0) && (decide (0 < ((ks.length : Nat) : Int)))) = false → slotV _ a' 18 = Value.bool (((op : Int) == 3) || ((op : Int) == 5))) ∧ (¬ ((((op : Int) == 0) && (decide (0 < ((ks.length : Nat) : Int)))) = false) → slotV _ a' 18 = undef) := dep_at hD 18 (by kernel_rfl)
              by_cases hcj : (((op : Int) == 0) && (decide (0 < ((ks.length : Nat) : Int)))) = false
              · exact ⟨unwanted (c := (((op : Int) == 3) || ((op : Int) == 5))) rfl (hg.1 hcj) (fun hq => hn (by simp only [hcj, hq, and_self])), fun hc => absurd hc hn⟩
              · exact ⟨unwanted_u rfl (hg.2 hcj), fun hc => absurd hc hn⟩
          · refine ob_when ((((op : Int) == 0) && (decide (0 < ((ks.length : Nat) : Int)))) = false ∧ (((op : Int) == 3) || ((op : Int) == 5)) = true) ?_ ?_
            · rintro ⟨hc0, hc1⟩
              refine ob_val (fun _ => Below.refl _ _) fun a' w' hS hI hD => ⟨wanted_eq (c := (((op : Int) == 3) || ((op : Int) == 5))) rfl ((show (((((op : Int) == 0) && (decide (0 < ((ks.length : Nat) : Int)))) = false → slotV _ a' 18 = Value.bool (((op : Int) == 3) || ((op : Int) == 5))) ∧ (¬ ((((op : Int) == 0) && (decide (0 < ((ks.length : Nat) : Int)))) = false) → slotV _ a' 18 = undef)) from dep_at hD 18 (by kernel_rfl)).1 hc0) hc1, Value.bool (((ks.length : Nat) : Int) != 1), ?_, fun _ => rfl⟩
              have h0 : ((((op : Int) == 0) && (decide (0 < ((ks.length : Nat) : Int)))) = false ∧ (((op : Int) == 3) || ((op : Int) == 5)) = true → a'.tmps.getD 40 undef = Value.int .i64 (ks.length : Nat)) := dep_at hD 21 (by kernel_rfl)
              replace h0 := h0 ⟨hc0, hc1⟩
              exact run_neq_i _ _ (.tmp 40) (.const (Value.int .i64 1)) rfl _ _ _ h0 (by rfl)
            · intro hn a' w' hS hI hD
              have hg : ((((op : Int) == 0) && (decide (0 < ((ks.length : Nat) : Int)))) = false → slotV _ a' 18 = Value.bool (((op : Int) == 3) || ((op : Int) == 5))) ∧ (¬ ((((op : Int) == 0) && (decide (0 < ((ks.length : Nat) : Int)))) = false) → slotV _ a' 18 = undef) := dep_at hD 18 (by kernel_rfl)
              by_cases hcj : (((op : Int) == 0) && (decide (0 < ((ks.length : Nat) : Int)))) = false
              · exact ⟨unwanted (c := (((op : Int) == 3) || ((op : Int) == 5))) rfl (hg.1 hcj) (fun hq => hn (by simp only [hcj, hq, and_self])), fun hc => absurd hc hn⟩
              · exact ⟨unwanted_u rfl (hg.2 hcj), fun hc => absurd hc hn⟩
          · refine ob_when ((((op : Int) == 0) && (decide (0 < ((ks.length : Nat) : Int)))) = false) (fun hc0 => ?_) (fun hn a' w' hS hI hD => ⟨unwanted (c := (((op : Int) == 0) && (decide (0 < ((ks.length : Nat) : Int))))) rfl (dep_at hD 9 (by kernel_rfl)) hn, fun hc => absurd hc hn⟩)
            refine ob_val (fun _ => Below.refl _ _) fun a' w' hS hI hD => ⟨wanted_eq (c := (((op : Int) == 0) && (decide (0 < ((ks.length : Nat) : Int))))) rfl (dep_at hD 9 (by kernel_rfl)) hc0, Value.bool ((((op : Int) == 3) || ((op : Int) == 5)) && (((ks.length : Nat) : Int) != 1)), ?_, fun _ => rfl⟩
            have h0_ : ((((op : Int) == 0) && (decide (0 < ((ks.length : Nat) : Int)))) = false → a'.tmps.getD 37 undef = Value.bool (((op : Int) == 3) || ((op : Int) == 5))) ∧ (¬ ((((op : Int) == 0) && (decide (0 < ((ks.length : Nat) : Int)))) = false) → a'.tmps.getD 37 undef = undef) := (dep_at hD 18 (by kernel_rfl))
            have h0 := h0_.1
            replace h0 := h0 hc0
            have h1 : ((((op : Int) == 0) && (decide (0 < ((ks.length : Nat) : Int)))) = false ∧ (((op : Int) == 3) || ((op : Int) == 5)) = true → a'.tmps.getD 41 undef = Value.bool (((ks.length : Nat) : Int) != 1)) := dep_at hD 22 (by kernel_rfl)
            replace h1 : (((op : Int) == 3) || ((op : Int) == 5)) = true → a'.tmps.getD 41 undef = Value.bool (((ks.length : Nat) : Int) != 1) := fun hC => h1 ⟨hc0, hC⟩
            exact run_pick_and (.tmp 37) (.tmp 41) rfl rfl _ _ h0 h1
          · refine ob_val (fun _ => Below.refl _ _) fun a' w' hS hI hD => ⟨rfl, Value.bool ((((op : Int) == 0) && (decide (0 < ((ks.length : Nat) : Int)))) || ((((op : Int) == 3) || ((op : Int) == 5)) && (((ks.length : Nat) : Int) != 1))), ?_, rfl⟩
            have h0 : a'.tmps.getD 28 undef = Value.bool (((op : Int) == 0) && (decide (0 < ((ks.length : Nat) : Int)))) := dep_at hD 9 (by kernel_rfl)
            have h1 : ((((op : Int) == 0) && (decide (0 < ((ks.length : Nat) : Int)))) = false → a'.tmps.getD 42 undef = Value.bool ((((op : Int) == 3) || ((op : Int) == 5)) && (((ks.length : Nat) : Int) != 1))) := dep_at hD 23 (by kernel_rfl)
            replace h1 : (((op : Int) == 0) && (decide (0 < ((ks.length : Nat) : Int)))) = false → a'.tmps.getD 42 undef = Value.bool ((((op : Int) == 3) || ((op : Int) == 5)) && (((ks.length : Nat) : Int) != 1)) := fun hC => h1 hC
            exact run_pick_or (.tmp 28) (.tmp 42) rfl rfl _ _ h0 h1
        · intro v w5 hI hT
          have hlast : v 24 = .bool ((((op : Int) == 0) && (decide (0 < (((ks.length) : Nat) : Int)))) || ((((op : Int) == 3) || ((op : Int) == 5)) && ((((ks.length) : Nat) : Int) != 1))) := tall_at _ _ hT 24 (by decide) (by decide)
          have HB5 := Lib.hid (below_more HB3.out (by have := HB3.out.size; omega) hI)
          have HG1 := Lib.hid (below_all hI HG1.out)
          clear hT hI
          rcases hb : ((((op : Int) == 0) && (decide (0 < (((ks.length) : Nat) : Int)))) || ((((op : Int) == 3) || ((op : Int) == 5)) && ((((ks.length) : Nat) : Int) != 1))) with _ | _
          · rw [hb] at hlast
            have HF3 := Lib.hid hb
            clear hb
            simp only [putAll, Act.put, List.setIfInBounds_toArray, List.set_cons_succ, List.set_cons_zero, Nat.reduceAdd, hlast]
            clear hlast
            go_upto_region 5 with (fail)
            refine region_seq (fun w' => Below w5.heap.size w5 w') (fun w1 w2 => Below w1.heap.size w1 w2) (predsT (may5 w op st mn mx ks A cap d)) (by kernel_rfl) (by kernel_rfl) (by kernel_rfl) (preds_keep _ (may5_keep w op st mn mx ks A cap d)) (Below.refl _ _) ?_ ?_
            · refine ⟨?_, ?_, ?_, ?_, ?_, ?_, ?_, ?_, ?_, ?_, ?_, ?_, ?_, ?_, ?_, ?_, ?_, ?_, ?_, ?_, ?_, ?_, ?_, ?_, ?_, trivial⟩
              · refine ob_val (fun _ => Below.refl _ _) fun a' w' hS hI hD => ⟨rfl, Value.pointer (some ⟨w.heap.size, 5, none⟩), ?_, rfl⟩
                have h0 : a'.tmps.getD 2 undef = Value.pointer (some ⟨w.heap.size, 0, none⟩) := hS.at rfl
                simp only [execOp, Act.eval, h0]
                clear h0
                go_simp
              · refine ob_val (fun _ => Below.refl _ _) fun a' w' hS hI hD => ⟨rfl, Value.int .i64 mn, ?_, rfl⟩
                have h0 : a'.tmps.getD 44 undef = Value.pointer (some ⟨w.heap.size, 5, none⟩) := dep_at hD 0 (by kernel_rfl)
                have hc : w'.cell? ⟨w.heap.size, 5, none⟩ = some (Value.int .i64 mn) := (nd_cell (below_all hI HG1.out)).2.1
                exact run_load_cell _ (.tmp 44) rfl _ _ _ h0 hc _ Try.underlying3 rfl
              · refine ob_val (fun _ => Below.refl _ _) fun a' w' hS hI hD => ⟨rfl, Value.bool (decide ((mn : Int) < 0)), ?_, rfl⟩
                have h0 : a'.tmps.getD 45 undef = Value.int .i64 mn := dep_at hD 1 (by kernel_rfl)
                exact run_lss_i _ _ (.tmp 45) (.const (Value.int .i64 0)) rfl _ _ _ h0 (by rfl)
              · refine ob_val (fun _ => Below.refl _ _) fun a' w' hS hI hD => ⟨rfl, Value.bool (decide ((mn : Int) < 0)), ?_, rfl⟩
                have h0 : a'.tmps.getD 46 undef = Value.bool (decide ((mn : Int) < 0)) := dep_at hD 2 (by kernel_rfl)
                exact run_val (.tmp 46) (by first | exact .inl rfl | exact .inr rfl) _ h0
              · refine ob_when ((decide ((mn : Int) < 0)) = false) (fun hc0 => ?_) (fun hn a' w' hS hI hD => ⟨unwanted (c := (decide ((mn : Int) < 0))) rfl (dep_at hD 3 (by kernel_rfl)) hn, fun hc => absurd hc hn⟩)
                refine ob_val (fun _ => Below.refl _ _) fun a' w' hS hI hD => ⟨wanted_eq (c := (decide ((mn : Int) < 0))) rfl (dep_at hD 3 (by kernel_rfl)) hc0, Value.pointer (some ⟨w.heap.size, 5, none⟩), ?_, fun _ => rfl⟩
                have h0 : a'.tmps.getD 2 undef = Value.pointer (some ⟨w.heap.size, 0, none⟩) := hS.at rfl
                simp only [execOp, Act.eval, h0]
                clear h0
                go_simp
              · refine ob_when ((decide ((mn : Int) < 0)) = false) (fun hc0 => ?_) (fun hn a' w' hS hI hD => ⟨unwanted (c := (decide ((mn : Int) < 0))) rfl (dep_at hD 3 (by kernel_rfl)) hn, fun hc => absurd hc hn⟩)
                refine ob_val (fun _ => Below.refl _ _) fun a' w' hS hI hD => ⟨wanted_eq (c := (decide ((mn : Int) < 0))) rfl (dep_at hD 3 (by kernel_rfl)) hc0, Value.int .i64 mn, ?_, fun _ => rfl⟩
                have h0 : ((decide ((mn : Int) < 0)) = false → a'.tmps.getD 48 undef = Value.pointer (some ⟨w.heap.size, 5, none⟩)) := dep_at hD 4 (by kernel_rfl)
                replace h0 := h0 hc0
                have hc : w'.cell? ⟨w.heap.size, 5, none⟩ = some (Value.int .i64 mn) := (nd_cell (below_all hI HG1.out)).2.1
                exact run_load_cell _ (.tmp 48) rfl _ _ _ h0 hc _ Try.underlying3 rfl
              · refine ob_when ((decide ((mn : Int) < 0)) = false) (fun hc0 => ?_) (fun hn a' w' hS hI hD => ⟨unwanted (c := (decide ((mn : Int) < 0))) rfl (dep_at hD 3 (by kernel_rfl)) hn, fun hc => absurd hc hn⟩)
                refine ob_val (fun _ => Below.refl _ _) fun a' w' hS hI hD => ⟨wanted_eq (c := (decide ((mn : Int) < 0))) rfl (dep_at hD 3 (by kernel_rfl)) hc0, Value.bool (decide (32 < (mn : Int))), ?_, fun _ => rfl⟩
                have h0 : ((decide ((mn : Int) < 0)) = false → a'.tmps.getD 49 undef = Value.int .i64 mn) := dep_at hD 5 (by kernel_rfl)
                replace h0 := h0 hc0
                exact run_gtr_i _ _ (.tmp 49) (.const (Value.int .i64 32)) rfl _ _ _ h0 (by rfl)
              · refine ob_val (fun _ => Below.refl _ _) fun a' w' hS hI hD => ⟨rfl, Value.bool ((decide ((mn : Int) < 0)) || (decide (32 < (mn : Int)))), ?_, rfl⟩
                have h0 : a'.tmps.getD 47 undef = Value.bool (decide ((mn : Int) < 0)) := dep_at hD 3 (by kernel_rfl)
                have h1 : ((decide ((mn : Int) < 0)) = false → a'.tmps.getD 50 undef = Value.bool (decide (32 < (mn : Int)))) := dep_at hD 6 (by kernel_rfl)
                replace h1 : (decide ((mn : Int) < 0)) = false → a'.tmps.getD 50 undef = Value.bool (decide (32 < (mn : Int))) := fun hC => h1 hC
                exact run_pick_or (.tmp 47) (.tmp 50) rfl rfl _ _ h0 h1
              · refine ob_val (fun _ => Below.refl _ _) fun a' w' hS hI hD => ⟨rfl, Value.bool ((decide ((mn : Int) < 0)) || (decide (32 < (mn : Int)))), ?_, rfl⟩
                have h0 : a'.tmps.getD 51 undef = Value.bool ((decide ((mn : Int) < 0)) || (decide (32 < (mn : Int)))) := dep_at hD 7 (by kernel_rfl)
                exact run_val (.tmp 51) (by first | exact .inl rfl | exact .inr rfl) _ h0
              · refine ob_when (((decide ((mn : Int) < 0)) || (decide (32 < (mn : Int)))) = false) (fun hc0 => ?_) (fun hn a' w' hS hI hD => ⟨unwanted (c := ((decide ((mn : Int) < 0)) || (decide (32 < (mn : Int))))) rfl (dep_at hD 8 (by kernel_rfl)) hn, fun hc => absurd hc hn⟩)
                refine ob_val (fun _ => Below.refl _ _) fun a' w' hS hI hD => ⟨wanted_eq (c := ((decide ((mn : Int) < 0)) || (decide (32 < (mn : Int))))) rfl (dep_at hD 8 (by kernel_rfl)) hc0, Value.pointer (some ⟨w.heap.size, 6, none⟩), ?_, fun _ => rfl⟩
                have h0 : a'.tmps.getD 2 undef = Value.pointer (some ⟨w.heap.size, 0, none⟩) := hS.at rfl
                simp only [execOp, Act.eval, h0]
                clear h0
                go_simp
              · refine ob_when (((decide ((mn : Int) < 0)) || (decide (32 < (mn : Int)))) = false) (fun hc0 => ?_) (fun hn a' w' hS hI hD => ⟨unwanted (c := ((decide ((mn : Int) < 0)) || (decide (32 < (mn : Int))))) rfl (dep_at hD 8 (by kernel_rfl)) hn, fun hc => absurd hc hn⟩)
                refine ob_val (fun _ => Below.refl _ _) fun a' w' hS hI hD => ⟨wanted_eq (c := ((decide ((mn : Int) < 0)) || (decide (32 < (mn : Int))))) rfl (dep_at hD 8 (by kernel_rfl)) hc0, Value.int .i64 mx, ?_, fun _ => rfl⟩
                have h0 : (((decide ((mn : Int) < 0)) || (decide (32 < (mn : Int)))) = false → a'.tmps.getD 53 undef = Value.pointer (some ⟨w.heap.size, 6, none⟩)) := dep_at hD 9 (by kernel_rfl)
                replace h0 := h0 hc0
                have hc : w'.cell? ⟨w.heap.size, 6, none⟩ = some (Value.int .i64 mx) := (nd_cell (below_all hI HG1.out)).2.2.1
                exact run_load_cell _ (.tmp 53) rfl _ _ _ h0 hc _ Try.underlying3 rfl
              · refine ob_when (((decide ((mn : Int) < 0)) || (decide (32 < (mn : Int)))) = false) (fun hc0 => ?_) (fun hn a' w' hS hI hD => ⟨unwanted (c := ((decide ((mn : Int) < 0)) || (decide (32 < (mn : Int))))) rfl (dep_at hD 8 (by kernel_rfl)) hn, fun hc => absurd hc hn⟩)
                refine ob_val (fun _ => Below.refl _ _) fun a' w' hS hI hD => ⟨wanted_eq (c := ((decide ((mn : Int) < 0)) || (decide (32 < (mn : Int))))) rfl (dep_at hD 8 (by kernel_rfl)) hc0, Value.bool (decide (32 < (mx : Int))), ?_, fun _ => rfl⟩
                have h0 : (((decide ((mn : Int) < 0)) || (decide (32 < (mn : Int)))) = false → a'.tmps.getD 54 undef = Value.int .i64 mx) := dep_at hD 10 (by kernel_rfl)
                replace h0 := h0 hc0
                exact run_gtr_i _ _ (.tmp 54) (.const (Value.int .i64 32)) rfl _ _ _ h0 (by rfl)
              · refine ob_val (fun _ => Below.refl _ _) fun a' w' hS hI hD => ⟨rfl, Value.bool (((decide ((mn : Int) < 0)) || (decide (32 < (mn : Int)))) || (decide (32 < (mx : Int)))), ?_, rfl⟩
                have h0 : a'.tmps.getD 52 undef = Value.bool ((decide ((mn : Int) < 0)) || (decide (32 < (mn : Int)))) := dep_at hD 8 (by kernel_rfl)
                have h1 : (((decide ((mn : Int) < 0)) || (decide (32 < (mn : Int)))) = false → a'.tmps.getD 55 undef = Value.bool (decide (32 < (mx : Int)))) := dep_at hD 11 (by kernel_rfl)
                replace h1 : ((decide ((mn : Int) < 0)) || (decide (32 < (mn : Int)))) = false → a'.tmps.getD 55 undef = Value.bool (decide (32 < (mx : Int))) := fun hC => h1 hC
                exact run_pick_or (.tmp 52) (.tmp 55) rfl rfl _ _ h0 h1
              · refine ob_val (fun _ => Below.refl _ _) fun a' w' hS hI hD => ⟨rfl, Value.bool (((decide ((mn : Int) < 0)) || (decide (32 < (mn : Int)))) || (decide (32 < (mx : Int)))), ?_, rfl⟩
                have h0 : a'.tmps.getD 56 undef = Value.bool (((decide ((mn : Int) < 0)) || (decide (32 < (mn : Int)))) || (decide (32 < (mx : Int)))) := dep_at hD 12 (by kernel_rfl)
                exact run_val (.tmp 56) (by first | exact .inl rfl | exact .inr rfl) _ h0
              · refine ob_when ((((decide ((mn : Int) < 0)) || (decide (32 < (mn : Int)))) || (decide (32 < (mx : Int)))) = false) (fun hc0 => ?_) (fun hn a' w' hS hI hD => ⟨unwanted (c := (((decide ((mn : Int) < 0)) || (decide (32 < (mn : Int)))) || (decide (32 < (mx : Int))))) rfl (dep_at hD 13 (by kernel_rfl)) hn, fun hc => absurd hc hn⟩)
                refine ob_val (fun _ => Below.refl _ _) fun a' w' hS hI hD => ⟨wanted_eq (c := (((decide ((mn : Int) < 0)) || (decide (32 < (mn : Int)))) || (decide (32 < (mx : Int))))) rfl (dep_at hD 13 (by kernel_rfl)) hc0, Value.pointer (some ⟨w.heap.size, 6, none⟩), ?_, fun _ => rfl⟩
                have h0 : a'.tmps.getD 2 undef = Value.pointer (some ⟨w.heap.size, 0, none⟩) := hS.at rfl
                simp only [execOp, Act.eval, h0]
                clear h0
                go_simp
              · refine ob_when ((((decide ((mn : Int) < 0)) || (decide (32 < (mn : Int)))) || (decide (32 < (mx : Int)))) = false) (fun hc0 => ?_) (fun hn a' w' hS hI hD => ⟨unwanted (c := (((decide ((mn : Int) < 0)) || (decide (32 < (mn : Int)))) || (decide (32 < (mx : Int))))) rfl (dep_at hD 13 (by kernel_rfl)) hn, fun hc => absurd hc hn⟩)
                refine ob_val (fun _ => Below.refl _ _) fun a' w' hS hI hD => ⟨wanted_eq (c := (((decide ((mn : Int) < 0)) || (decide (32 < (mn : Int)))) || (decide (32 < (mx : Int))))) rfl (dep_at hD 13 (by kernel_rfl)) hc0, Value.int .i64 mx, ?_, fun _ => rfl⟩
                have h0 : ((((decide ((mn : Int) < 0)) || (decide (32 < (mn : Int)))) || (decide (32 < (mx : Int)))) = false → a'.tmps.getD 58 undef = Value.pointer (some ⟨w.heap.size, 6, none⟩)) := dep_at hD 14 (by kernel_rfl)
                replace h0 := h0 hc0
                have hc : w'.cell? ⟨w.heap.size, 6, none⟩ = some (Value.int .i64 mx) := (nd_cell (below_all hI HG1.out)).2.2.1
                exact run_load_cell _ (.tmp 58) rfl _ _ _ h0 hc _ Try.underlying3 rfl
              · refine ob_when ((((decide ((mn : Int) < 0)) || (decide (32 < (mn : Int)))) || (decide (32 < (mx : Int)))) = false) (fun hc0 => ?_) (fun hn a' w' hS hI hD => ⟨unwanted (c := (((decide ((mn : Int) < 0)) || (decide (32 < (mn : Int)))) || (decide (32 < (mx : Int))))) rfl (dep_at hD 13 (by kernel_rfl)) hn, fun hc => absurd hc hn⟩)
                refine ob_val (fun _ => Below.refl _ _) fun a' w' hS hI hD => ⟨wanted_eq (c := (((decide ((mn : Int) < 0)) || (decide (32 < (mn : Int)))) || (decide (32 < (mx : Int))))) rfl (dep_at hD 13 (by kernel_rfl)) hc0, Value.bool (decide (0 ≤ (mx : Int))), ?_, fun _ => rfl⟩
                have h0 : ((((decide ((mn : Int) < 0)) || (decide (32 < (mn : Int)))) || (decide (32 < (mx : Int)))) = false → a'.tmps.getD 59 undef = Value.int .i64 mx) := dep_at hD 15 (by kernel_rfl)
                replace h0 := h0 hc0
                exact run_geq_i _ _ (.tmp 59) (.const (Value.int .i64 0)) rfl _ _ _ h0 (by rfl)
              · refine ob_when ((((decide ((mn : Int) < 0)) || (decide (32 < (mn : Int)))) || (decide (32 < (mx : Int)))) = false) (fun hc0 => ?_) (fun hn a' w' hS hI hD => ⟨unwanted (c := (((decide ((mn : Int) < 0)) || (decide (32 < (mn : Int)))) || (decide (32 < (mx : Int))))) rfl (dep_at hD 13 (by kernel_rfl)) hn, ⟨fun hc => absurd hc hn, fun _ => rfl⟩⟩)
                refine ob_val (fun _ => Below.refl _ _) fun a' w' hS hI hD => ⟨wanted_eq (c := (((decide ((mn : Int) < 0)) || (decide (32 < (mn : Int)))) || (decide (32 < (mx : Int))))) rfl (dep_at hD 13 (by kernel_rfl)) hc0, Value.bool (decide (0 ≤ (mx : Int))), ?_, ⟨fun _ => rfl, fun hn => absurd ‹_› hn⟩⟩
                have h0 : ((((decide ((mn : Int) < 0)) || (decide (32 < (mn : Int)))) || (decide (32 < (mx : Int)))) = false → a'.tmps.getD 60 undef = Value.bool (decide (0 ≤ (mx : Int)))) := dep_at hD 16 (by kernel_rfl)
                replace h0 := h0 hc0
                exact run_val (.tmp 60) (by first | exact .inl rfl | exact .inr rfl) _ h0
              · refine ob_when ((((decide ((mn : Int) < 0)) || (decide (32 < (mn : Int)))) || (decide (32 < (mx : Int)))) = false ∧ (decide (0 ≤ (mx : Int))) = true) ?_ ?_
                · rintro ⟨hc0, hc1⟩
                  refine ob_val (fun _ => Below.refl _ _) fun a' w' hS hI hD => ⟨wanted_eq (c := (decide (0 ≤ (mx : Int)))) rfl ((show (((((decide ((mn : Int) < 0)) || (decide (32 < (mn : Int)))) || (decide (32 < (mx : Int)))) = false → slotV _ a' 17 = Value.bool (decide (0 ≤ (mx : Int)))) ∧ (¬ ((((decide ((mn : Int) < 0)) || (decide (32 < (mn : Int)))) || (decide (32 < (mx : Int)))) = false) → slotV _ a' 17 = undef)) from dep_at hD 17 (by kernel_rfl)).1 hc0) hc1, Value.pointer (some ⟨w.heap.size, 6, none⟩), ?_, fun _ => rfl⟩
                  have h0 : a'.tmps.getD 2 undef = Value.pointer (some ⟨w.heap.size, 0, none⟩) := hS.at rfl
                  simp only [execOp, Act.eval, h0]
                  clear h0
                  go_simp
                · intro hn a' w' hS hI hD
                  have hg : ((((decide ((mn : Int) < 0)) || (decide (32 < (mn : Int)))) || (decide (32 < (mx : Int)))) = false → slotV _ a' 17 = Value.bool (decide (0 ≤ (mx : Int)))) ∧ (¬ ((((decide ((mn : Int) < 0)) || (decide (32 < (mn : Int)))) || (decide (32 < (mx : Int)))) = false) → slotV _ a' 17 = undef) := dep_at hD 17 (by kernel_rfl)
                  by_cases hcj : (((decide ((mn : Int) < 0)) || (decide (32 < (mn : Int)))) || (decide (32 < (mx : Int)))) = false
                  · exact ⟨unwanted (c := (decide (0 ≤ (mx : Int)))) rfl (hg.1 hcj) (fun hq => hn (by simp only [hcj, hq, and_self])), fun hc => absurd hc hn⟩
                  · exact ⟨unwanted_u rfl (hg.2 hcj), fun hc => absurd hc hn⟩
              · refine ob_when ((((decide ((mn : Int) < 0)) || (decide (32 < (mn : Int)))) || (decide (32 < (mx : Int)))) = false ∧ (decide (0 ≤ (mx : Int))) = true) ?_ ?_
                · rintro ⟨hc0, hc1⟩
                  refine ob_val (fun _ => Below.refl _ _) fun a' w' hS hI hD => ⟨wanted_eq (c := (decide (0 ≤ (mx : Int)))) rfl ((show (((((decide ((mn : Int) < 0)) || (decide (32 < (mn : Int)))) || (decide (32 < (mx : Int)))) = false → slotV _ a' 17 = Value.bool (decide (0 ≤ (mx : Int)))) ∧ (¬ ((((decide ((mn : Int) < 0)) || (decide (32 < (mn : Int)))) || (decide (32 < (mx : Int)))) = false) → slotV _ a' 17 = undef)) from dep_at hD 17 (by kernel_rfl)).1 hc0) hc1, Value.int .i64 mx, ?_, fun _ => rfl⟩
                  have h0 : ((((decide ((mn : Int) < 0)) || (decide (32 < (mn : Int)))) || (decide (32 < (mx : Int)))) = false ∧ (decide (0 ≤ (mx : Int))) = true → a'.tmps.getD 62 undef = Value.pointer (some ⟨w.heap.size, 6, none⟩)) := dep_at hD 18 (by kernel_rfl)
                  replace h0 := h0 ⟨hc0, hc1⟩
                  have hc : w'.cell? ⟨w.heap.size, 6, none⟩ = some (Value.int .i64 mx) := (nd_cell (below_all hI HG1.out)).2.2.1
                  exact run_load_cell _ (.tmp 62) rfl _ _ _ h0 hc _ Try.underlying3 rfl
                · intro hn a' w' hS hI hD
                  have hg : ((((decide ((mn : Int) < 0)) || (decide (32 < (mn : Int)))) || (decide (32 < (mx : Int)))) = false → slotV _ a' 17 = Value.bool (decide (0 ≤ (mx : Int)))) ∧ (¬ ((((decide ((mn : Int) < 0)) || (decide (32 < (mn : Int)))) || (decide (32 < (mx : Int)))) = false) → slotV _ a' 17 = undef) := dep_at hD 17 (by kernel_rfl)
                  by_cases hcj : (((decide ((mn : Int) < 0)) || (decide (32 < (mn : Int)))) || (decide (32 < (mx : Int)))) = false
                  · exact ⟨unwanted (c := (decide (0 ≤ (mx : Int)))) rfl (hg.1 hcj) (fun hq => hn (by simp only [hcj, hq, and_self])), fun hc => absurd hc hn⟩
                  · exact ⟨unwanted_u rfl (hg.2 hcj), fun hc => absurd hc hn⟩
              · refine ob_when ((((decide ((mn : Int) < 0)) || (decide (32 < (mn : Int)))) || (decide (32 < (mx : Int)))) = false ∧ (decide (0 ≤ (mx : Int))) = true) ?_ ?_
                · rintro ⟨hc0, hc1⟩
                  refine ob_val (fun _ => Below.refl _ _) fun a' w' hS hI hD => ⟨wanted_eq (c := (decide (0 ≤ (mx : Int)))) rfl ((show (((((decide ((mn : Int) < 0)) || (decide (32 < (mn : Int)))) || (decide (32 < (mx : Int)))) = false → slotV _ a' 17 = Value.bool (decide (0 ≤ (mx : Int)))) ∧ (¬ ((((decide ((mn : Int) < 0)) || (decide (32 < (mn : Int)))) || (decide (32 < (mx : Int)))) = false) → slotV _ a' 17 = undef)) from dep_at hD 17 (by kernel_rfl)).1 hc0) hc1, Value.pointer (some ⟨w.heap.size, 5, none⟩), ?_, fun _ => rfl⟩
                  have h0 : a'.tmps.getD 2 undef = Value.pointer (some ⟨w.heap.size, 0, none⟩) := hS.at rfl
                  simp only [execOp, Act.eval, h0]
                  clear h0
                  go_simp
                · intro hn a' w' hS hI hD
                  have hg : ((((decide ((mn : Int) < 0)) || (decide (32 < (mn : Int)))) || (decide (32 < (mx : Int)))) = false → slotV _ a' 17 = Value.bool (decide (0 ≤ (mx : Int)))) ∧ (¬ ((((decide ((mn : Int) < 0)) || (decide (32 < (mn : Int)))) || (decide (32 < (mx : Int)))) = false) → slotV _ a' 17 = undef) := dep_at hD 17 (by kernel_rfl)
                  by_cases hcj : (((decide ((mn : Int) < 0)) || (decide (32 < (mn : Int)))) || (decide (32 < (mx : Int)))) = false
                  · exact ⟨unwanted (c := (decide (0 ≤ (mx : Int)))) rfl (hg.1 hcj) (fun hq => hn (by simp only [hcj, hq, and_self])), fun hc => absurd hc hn⟩
                  · exact ⟨unwanted_u rfl (hg.2 hcj), fun hc => absurd hc hn⟩
              · refine ob_when ((((decide ((mn : Int) < 0)) || (decide (32 < (mn : Int)))) || (decide (32 < (mx : Int)))) = false ∧ (decide (0 ≤ (mx : Int))) = true) ?_ ?_
                · rintro ⟨hc0, hc1⟩
                  refine ob_val (fun _ => Below.refl _ _) fun a' w' hS hI hD => ⟨wanted_eq (c := (decide (0 ≤ (mx : Int)))) rfl ((show (((((decide ((mn : Int) < 0)) || (decide (32 < (mn : Int)))) || (decide (32 < (mx : Int)))) = false → slotV _ a' 17 = Value.bool (decide (0 ≤ (mx : Int)))) ∧ (¬ ((((decide ((mn : Int) < 0)) || (decide (32 < (mn : Int)))) || (decide (32 < (mx : Int)))) = false) → slotV _ a' 17 = undef)) from dep_at hD 17 (by kernel_rfl)).1 hc0) hc1, Value.int .i64 mn, ?_, fun _ => rfl⟩
                  have h0 : ((((decide ((mn : Int) < 0)) || (decide (32 < (mn : Int)))) || (decide (32 < (mx : Int)))) = false ∧ (decide (0 ≤ (mx : Int))) = true → a'.tmps.getD 64 undef = Value.pointer (some ⟨w.heap.size, 5, none⟩)) := dep_at hD 20 (by kernel_rfl)
                  replace h0 := h0 ⟨hc0, hc1⟩
                  have hc : w'.cell? ⟨w.heap.size, 5, none⟩ = some (Value.int .i64 mn) := (nd_cell (below_all hI HG1.out)).2.1
                  exact run_load_cell _ (.tmp 64) rfl _ _ _ h0 hc _ Try.underlying3 rfl
                · intro hn a' w' hS hI hD
                  have hg : ((((decide ((mn : Int) < 0)) || (decide (32 < (mn : Int)))) || (decide (32 < (mx : Int)))) = false → slotV _ a' 17 = Value.bool (decide (0 ≤ (mx : Int)))) ∧ (¬ ((((decide ((mn : Int) < 0)) || (decide (32 < (mn : Int)))) || (decide (32 < (mx : Int)))) = false) → slotV _ a' 17 = undef) := dep_at hD 17 (by kernel_rfl)
                  by_cases hcj : (((decide ((mn : Int) < 0)) || (decide (32 < (mn : Int)))) || (decide (32 < (mx : Int)))) = false
                  · exact ⟨unwanted (c := (decide (0 ≤ (mx : Int)))) rfl (hg.1 hcj) (fun hq => hn (by simp only [hcj, hq, and_self])), fun hc => absurd hc hn⟩
                  · exact ⟨unwanted_u rfl (hg.2 hcj), fun hc => absurd hc hn⟩
              · refine ob_when ((((decide ((mn : Int) < 0)) || (decide (32 < (mn : Int)))) || (decide (32 < (mx : Int)))) = false ∧ (decide (0 ≤ (mx : Int))) = true) ?_ ?_
                · rintro ⟨hc0, hc1⟩
                  refine ob_val (fun _ => Below.refl _ _) fun a' w' hS hI hD => ⟨wanted_eq (c := (decide (0 ≤ (mx : Int)))) rfl ((show (((((decide ((mn : Int) < 0)) || (decide (32 < (mn : Int)))) || (decide (32 < (mx : Int)))) = false → slotV _ a' 17 = Value.bool (decide (0 ≤ (mx : Int)))) ∧ (¬ ((((decide ((mn : Int) < 0)) || (decide (32 < (mn : Int)))) || (decide (32 < (mx : Int)))) = false) → slotV _ a' 17 = undef)) from dep_at hD 17 (by kernel_rfl)).1 hc0) hc1, Value.bool (decide ((mx : Int) < mn)), ?_, fun _ => rfl⟩
                  have h0 : ((((decide ((mn : Int) < 0)) || (decide (32 < (mn : Int)))) || (decide (32 < (mx : Int)))) = false ∧ (decide (0 ≤ (mx : Int))) = true → a'.tmps.getD 63 undef = Value.int .i64 mx) := dep_at hD 19 (by kernel_rfl)
                  replace h0 := h0 ⟨hc0, hc1⟩
                  have h1 : ((((decide ((mn : Int) < 0)) || (decide (32 < (mn : Int)))) || (decide (32 < (mx : Int)))) = false ∧ (decide (0 ≤ (mx : Int))) = true → a'.tmps.getD 65 undef = Value.int .i64 mn) := dep_at hD 21 (by kernel_rfl)
                  replace h1 := h1 ⟨hc0, hc1⟩
                  exact run_lss_i _ _ (.tmp 63) (.tmp 65) rfl _ _ _ h0 h1
                · intro hn a' w' hS hI hD
                  have hg : ((((decide ((mn : Int) < 0)) || (decide (32 < (mn : Int)))) || (decide (32 < (mx : Int)))) = false → slotV _ a' 17 = Value.bool (decide (0 ≤ (mx : Int)))) ∧ (¬ ((((decide ((mn : Int) < 0)) || (decide (32 < (mn : Int)))) || (decide (32 < (mx : Int)))) = false) → slotV _ a' 17 = undef) := dep_at hD 17 (by kernel_rfl)
                  by_cases hcj : (((decide ((mn : Int) < 0)) || (decide (32 < (mn : Int)))) || (decide (32 < (mx : Int)))) = false
                  · exact ⟨unwanted (c := (decide (0 ≤ (mx : Int)))) rfl (hg.1 hcj) (fun hq => hn (by simp only [hcj, hq, and_self])), fun hc => absurd hc hn⟩
                  · exact ⟨unwanted_u rfl (hg.2 hcj), fun hc => absurd hc hn⟩
              · refine ob_when ((((decide ((mn : Int) < 0)) || (decide (32 < (mn : Int)))) || (decide (32 < (mx : Int)))) = false) (fun hc0 => ?_) (fun hn a' w' hS hI hD => ⟨unwanted (c := (((decide ((mn : Int) < 0)) || (decide (32 < (mn : Int)))) || (decide (32 < (mx : Int))))) rfl (dep_at hD 13 (by kernel_rfl)) hn, fun hc => absurd hc hn⟩)
                refine ob_val (fun _ => Below.refl _ _) fun a' w' hS hI hD => ⟨wanted_eq (c := (((decide ((mn : Int) < 0)) || (decide (32 < (mn : Int)))) || (decide (32 < (mx : Int))))) rfl (dep_at hD 13 (by kernel_rfl)) hc0, Value.bool ((decide (0 ≤ (mx : Int))) && (decide ((mx : Int) < mn))), ?_, fun _ => rfl⟩
                have h0_ : ((((decide ((mn : Int) < 0)) || (decide (32 < (mn : Int)))) || (decide (32 < (mx : Int)))) = false → a'.tmps.getD 61 undef = Value.bool (decide (0 ≤ (mx : Int)))) ∧ (¬ ((((decide ((mn : Int) < 0)) || (decide (32 < (mn : Int)))) || (decide (32 < (mx : Int)))) = false) → a'.tmps.getD 61 undef = undef) := (dep_at hD 17 (by kernel_rfl))
                have h0 := h0_.1
                replace h0 := h0 hc0
                have h1 : ((((decide ((mn : Int) < 0)) || (decide (32 < (mn : Int)))) || (decide (32 < (mx : Int)))) = false ∧ (decide (0 ≤ (mx : Int))) = true → a'.tmps.getD 66 undef = Value.bool (decide ((mx : Int) < mn))) := dep_at hD 22 (by kernel_rfl)
                replace h1 : (decide (0 ≤ (mx : Int))) = true → a'.tmps.getD 66 undef = Value.bool (decide ((mx : Int) < mn)) := fun hC => h1 ⟨hc0, hC⟩
                exact run_pick_and (.tmp 61) (.tmp 66) rfl rfl _ _ h0 h1
              · refine ob_val (fun _ => Below.refl _ _) fun a' w' hS hI hD => ⟨rfl, Value.bool ((((decide ((mn : Int) < 0)) || (decide (32 < (mn : Int)))) || (decide (32 < (mx : Int)))) || ((decide (0 ≤ (mx : Int))) && (decide ((mx : Int) < mn)))), ?_, rfl⟩
                have h0 : a'.tmps.getD 57 undef = Value.bool (((decide ((mn : Int) < 0)) || (decide (32 < (mn : Int)))) || (decide (32 < (mx : Int)))) := dep_at hD 13 (by kernel_rfl)
                have h1 : ((((decide ((mn : Int) < 0)) || (decide (32 < (mn : Int)))) || (decide (32 < (mx : Int)))) = false → a'.tmps.getD 67 undef = Value.bool ((decide (0 ≤ (mx : Int))) && (decide ((mx : Int) < mn)))) := dep_at hD 23 (by kernel_rfl)
                replace h1 : (((decide ((mn : Int) < 0)) || (decide (32 < (mn : Int)))) || (decide (32 < (mx : Int)))) = false → a'.tmps.getD 67 undef = Value.bool ((decide (0 ≤ (mx : Int))) && (decide ((mx : Int) < mn))) := fun hC => h1 hC
                exact run_pick_or (.tmp 57) (.tmp 67) rfl rfl _ _ h0 h1
            · intro v w7 hI hT
              have hlast : v 24 = .bool ((((decide ((mn : Int) < 0)) || (decide (32 < (mn : Int)))) || (decide (32 < (mx : Int)))) || ((decide (0 ≤ (mx : Int))) && (decide ((mx : Int) < mn)))) := tall_at _ _ hT 24 (by decide) (by decide)
              have HB7 := Lib.hid (below_more HB5.out (by have := HB5.out.size; omega) hI)
              have HG1 := Lib.hid (below_all hI HG1.out)
              clear hT hI
              rcases hb : ((((decide ((mn : Int) < 0)) || (decide (32 < (mn : Int)))) || (decide (32 < (mx : Int)))) || ((decide (0 ≤ (mx : Int))) && (decide ((mx : Int) < mn)))) with _ | _
              · rw [hb] at hlast
                have HF5 := Lib.hid hb
                clear hb
                simp only [putAll, Act.put, List.setIfInBounds_toArray, List.set_cons_succ, List.set_cons_zero, Nat.reduceAdd, hlast]
                clear hlast
                have HMA := Lib.hid (may_all (st := st) HF1.out HF3.out HF5.out)
                clear HF3 HF5
                have hd64 : d ≤ 64 := by have := HF1.out; simp at this; omega
                clear HF1
                go_wp2_with (fail)
                go_loopw [5] (fun i wr => ∃ k : Nat, k ≤ ks.length ∧ i = .int .i64 k ∧ (ks.take k).all (Nd.may (65 - (d + 1)).toNat) = true ∧ wr.heap[w.heap.size]? = some (.cells (ndC op st mn mx (.slice A ks.length cap)) 28 (0, 0)) ∧ Below w.heap.size w wr) (fun i _ => ks.length - (intOf i).toNat)
                case atStart => exact ⟨0, Nat.zero_le _, rfl, by simp, HG1.out, HB7.out⟩
                case round =>
                  clear HG1 HB7
                  obtain ⟨k, hk, rfl, hall, hg, hB⟩ := hrel
                  have HG := Lib.hid hg
                  have HALL := Lib.hid hall
                  obtain ⟨_, _, _, hc7⟩ := nd_cell hg
                  have hsz := hB.size
                  clear hg hall
                  by_cases hlt : k < ks.length
                  · have hget := List.getElem?_eq_getElem hlt
                    have HAT := Lib.hid (all_take (Nd.may (65 - (d + 1)).toNat) ks k hlt)
                    have HNA : Hid (Nd.may (65 - (d + 1)).toNat ks[k] = false → ks.all (Nd.may (65 - (d + 1)).toNat) = false) := Lib.hid fun h => List.all_eq_false.2 ⟨_, List.getElem_mem hlt, by simp [h]⟩
                    have HIK := Lib.hid (fun v w h => HIH.out k _ hget v w hd64 h)
                    generalize ks[k] = x at *
                    obtain ⟨op1, s1, mn1, mx1, kk⟩ := x
                    obtain ⟨_, _, b, o, kv1, hA, hr, hkk⟩ := (HK.out.keep hB).at hget
                    cases hA
                    have HR := Lib.hid hr
                    have HV1 : Hid (NodeV wr Q (ndV op1 s1 mn1 mx1 kv1) (.mk op1 s1 mn1 mx1 kk)) := Lib.hid ⟨kv1, rfl, hkk⟩
                    clear hr hkk hget
                    generalize Nd.mk op1 s1 mn1 mx1 kk = x at *
                    have HCC := Lib.hid (HIK.out _ wr HV1.out)
                    rcases hp : x.may (65 - (d + 1)).toNat with _ | _
                    all_goals
                      have HP := Lib.hid hp
                      clear hp
                      go_wp2_with (first | (refine ld_nd_mid rfl (.tmp 79) rfl _ _ rfl _ _ _ _ _ HR.out ?_) | (go_at_call 45; refine HCC.out.mono ?_; rintro e w8 ⟨rfl, hb8⟩; rw [HP.out]; have HG8 := Lib.hid (below_all hb8 HG.out); have HB8 := Lib.hid (below_more hB hsz hb8)))
                      first
                        | (exact ⟨⟨k + 1, by omega, by go_num, by rw [HAT.out, HALL.out, HP.out]; rfl, HG8.out, HB8.out⟩, by simp [intOf]; omega⟩)
                        | (go_ret; exact ⟨by rw [HMA.out, HNA.out HP.out]; rfl, HB8.out⟩)
                  · obtain rfl : k = ks.length := by omega
                    go_wp2_with (fail)
                    go_ret
                    have h1 := HALL.out
                    rw [List.take_of_length_le (Nat.le_refl _)] at h1
                    exact ⟨by rw [HMA.out, h1]; rfl, hB⟩
              · rw [hb] at hlast
                have HN := Lib.hid (may_5 (d := d) (op := op) (ks := ks) (st := st) hb)
                clear hb
                simp only [putAll, Act.put, List.setIfInBounds_toArray, List.set_cons_succ, List.set_cons_zero, Nat.reduceAdd, hlast]
                clear hlast
                go_wp2_with (fail)
                go_ret
                exact ⟨by rw [HN.out]; rfl, HB7.out⟩
          · rw [hb] at hlast
            have HN := Lib.hid (may_3 (d := d) (mn := mn) (mx := mx) (st := st) hb)
            clear hb
            simp only [putAll, Act.put, List.setIfInBounds_toArray, List.set_cons_succ, List.set_cons_zero, Nat.reduceAdd, hlast]
            clear hlast
            go_wp2_with (fail)
            go_ret
            exact ⟨by rw [HN.out]; rfl, HB5.out⟩
      · rw [hb] at hlast
        have HN := Lib.hid (may_1 (mn := mn) (mx := mx) (ks := ks) (st := st) hb)
        clear hb
        simp only [putAll, Act.put, List.setIfInBounds_toArray, List.set_cons_succ, List.set_cons_zero, Nat.reduceAdd, hlast]
        clear hlast
        go_wp2_with (fail)
        go_ret
        exact ⟨by rw [HN.out]; rfl, HB3.out⟩
theorem may_calls (d : Int) (h1 : 0 ≤ d) (h2 : d ≤ 1000) (t : Nd) (Q : Nat → Prop) (v : Value) (w : World) (hv : NodeV w Q v t) :
    Calls Try.prog 45 #[v, .int .i64 d] w fun e w' => e = .returned (.bool (t.may (65 - d).toNat)) ∧ Below w.heap.size w w' := may_aux _ d (Nat.le_refl _) h1 h2 t Q v w hv
set_option maxHeartbeats 3200000 in
set_option maxRecDepth 100000 in
theorem rcheck_calls (t : Nd) (Q : Nat → Prop) (v : Value) (w : World) (hv : NodeV w Q v t) :
    Calls Try.prog 32 #[v] w fun e w' => e = .returned (.int .i64 t.check) ∧ Below w.heap.size w w' := by
  have HS := Lib.hid (fun w h => may_calls 1 (by decide) (by decide) t Q v w h)
  have HCK : Hid (t.check = if t.may 64 then 0 else 1) := Lib.hid rfl
  generalize t.check = ck at *
  have HV0 := Lib.hid hv
  obtain ⟨op, st, mn, mx, ks⟩ := t
  obtain ⟨kv, rfl, hk⟩ := hv
  have HV : Hid (∀ w', Below w.heap.size w w' → NodeV w' Q (ndV op st mn mx kv) (.mk op st mn mx ks)) := Lib.hid fun w' hb => HV0.out.keep hb
  clear hk HV0
  generalize Nd.mk op st mn mx ks = t at *
  rw [show (65 - (1 : Int)).toNat = 64 from rfl] at HS
  generalize t.may 64 = b at *
  cases b
  all_goals
    go_enter Try.func32, Try.ntmps32
    go_wp2_with (first | (refine box_nd rfl (.tmp 0) rfl op st mn mx _ rfl ?_) | (refine ld_nd_mid rfl (.tmp 1) rfl _ _ rfl _ _ _ _ _ (range_row (heap_alloc_new _ _)) ?_) |
      (go_at_call 45; refine (HS.out _ (HV.out _ ((Below.refl _ _).alloc (Nat.le_refl _) _))).mono ?_; rintro e w1 ⟨rfl, hb1⟩))
    go_ret
    exact ⟨by rw [HCK.out]; rfl, below_more ((Below.refl w.heap.size w).alloc (Nat.le_refl _) (.cells (ndC op st mn mx kv) 28)) (by simp) hb1⟩
end Go.Proofs.Ytekodfpjoehooaa.Bs
