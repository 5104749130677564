/- The walk of the reference's Same. -/
import Derived.Test.YtekodfpjoehooaaNodeW5
namespace Go.Proofs.Ytekodfpjoehooaa.Bs
open Go.RowKit Mem Reg
def rsameR (w : World) (op op' : Int) (s s' : BitVec 256) (mn mn' mx mx' : Int) (ks ks' : List Nd) (A A' : Option Addr) (cap cap' : Nat) : List (Value → World → Prop) := [
  fun v _ => v = Value.pointer (some ⟨w.heap.size, 0, none⟩),
  fun v _ => v = Value.int .i64 op,
  fun v _ => v = Value.pointer (some ⟨w.heap.size + 1, 0, none⟩),
  fun v _ => v = Value.int .i64 op',
  fun v _ => v = Value.bool ((op : Int) != op'),
  fun v _ => v = Value.bool ((op : Int) != op'),
  fun v _ => ((op : Int) != op') = false → v = Value.pointer (some ⟨w.heap.size, 1, none⟩),
  fun v _ => ((op : Int) != op') = false → v = setV s,
  fun v _ => ((op : Int) != op') = false → v = Value.pointer (some ⟨w.heap.size + 1, 1, none⟩),
  fun v _ => ((op : Int) != op') = false → v = setV s',
  fun v _ => ((op : Int) != op') = false → v = Value.bool (!(s == s')),
  fun v _ => v = Value.bool (((op : Int) != op') || (!(s == s'))),
  fun v _ => v = Value.bool (((op : Int) != op') || (!(s == s'))),
  fun v _ => (((op : Int) != op') || (!(s == s'))) = false → v = Value.pointer (some ⟨w.heap.size, 5, none⟩),
  fun v _ => (((op : Int) != op') || (!(s == s'))) = false → v = Value.int .i64 mn,
  fun v _ => (((op : Int) != op') || (!(s == s'))) = false → v = Value.pointer (some ⟨w.heap.size + 1, 5, none⟩),
  fun v _ => (((op : Int) != op') || (!(s == s'))) = false → v = Value.int .i64 mn',
  fun v _ => (((op : Int) != op') || (!(s == s'))) = false → v = Value.bool ((mn : Int) != mn'),
  fun v _ => v = Value.bool ((((op : Int) != op') || (!(s == s'))) || ((mn : Int) != mn')),
  fun v _ => v = Value.bool ((((op : Int) != op') || (!(s == s'))) || ((mn : Int) != mn')),
  fun v _ => ((((op : Int) != op') || (!(s == s'))) || ((mn : Int) != mn')) = false → v = Value.pointer (some ⟨w.heap.size, 6, none⟩),
  fun v _ => ((((op : Int) != op') || (!(s == s'))) || ((mn : Int) != mn')) = false → v = Value.int .i64 mx,
  fun v _ => ((((op : Int) != op') || (!(s == s'))) || ((mn : Int) != mn')) = false → v = Value.pointer (some ⟨w.heap.size + 1, 6, none⟩),
  fun v _ => ((((op : Int) != op') || (!(s == s'))) || ((mn : Int) != mn')) = false → v = Value.int .i64 mx',
  fun v _ => ((((op : Int) != op') || (!(s == s'))) || ((mn : Int) != mn')) = false → v = Value.bool ((mx : Int) != mx'),
  fun v _ => v = Value.bool (((((op : Int) != op') || (!(s == s'))) || ((mn : Int) != mn')) || ((mx : Int) != mx')),
  fun v _ => v = Value.bool (((((op : Int) != op') || (!(s == s'))) || ((mn : Int) != mn')) || ((mx : Int) != mx')),
  fun v _ => (((((op : Int) != op') || (!(s == s'))) || ((mn : Int) != mn')) || ((mx : Int) != mx')) = false → v = Value.pointer (some ⟨w.heap.size, 7, none⟩),
  fun v _ => (((((op : Int) != op') || (!(s == s'))) || ((mn : Int) != mn')) || ((mx : Int) != mx')) = false → v = Value.slice A ks.length cap,
  fun v _ => (((((op : Int) != op') || (!(s == s'))) || ((mn : Int) != mn')) || ((mx : Int) != mx')) = false → v = Value.int .i64 (ks.length : Nat),
  fun v _ => (((((op : Int) != op') || (!(s == s'))) || ((mn : Int) != mn')) || ((mx : Int) != mx')) = false → v = Value.pointer (some ⟨w.heap.size + 1, 7, none⟩),
  fun v _ => (((((op : Int) != op') || (!(s == s'))) || ((mn : Int) != mn')) || ((mx : Int) != mx')) = false → v = Value.slice A' ks'.length cap',
  fun v _ => (((((op : Int) != op') || (!(s == s'))) || ((mn : Int) != mn')) || ((mx : Int) != mx')) = false → v = Value.int .i64 (ks'.length : Nat),
  fun v _ => (((((op : Int) != op') || (!(s == s'))) || ((mn : Int) != mn')) || ((mx : Int) != mx')) = false → v = Value.bool (((ks.length : Nat) : Int) != (ks'.length : Nat)),
  fun v _ => v = Value.bool ((((((op : Int) != op') || (!(s == s'))) || ((mn : Int) != mn')) || ((mx : Int) != mx')) || (((ks.length : Nat) : Int) != (ks'.length : Nat)))]
theorem rsameR_keep (w : World) (op op' : Int) (s s' : BitVec 256) (mn mn' mx mx' : Int) (ks ks' : List Nd) (A A' : Option Addr) (cap cap' : Nat) : PredsKeep (rsameR w op op' s s' mn mn' mx mx' ks ks' A A' cap cap') :=
  ⟨fun _ _ _ h _ => h,
  fun _ _ _ h _ => h,
  fun _ _ _ h _ => h,
  fun _ _ _ h _ => h,
  fun _ _ _ h _ => h,
  fun _ _ _ h _ => h,
  fun _ _ _ h _ => h,
  fun _ _ _ h _ => h,
  fun _ _ _ h _ => h,
  fun _ _ _ h _ => h,
  fun _ _ _ h _ => h,
  fun _ _ _ h _ => h,
  fun _ _ _ h _ => h,
  fun _ _ _ h _ => h,
  fun _ _ _ h _ => h,
  fun _ _ _ h _ => h,
  fun _ _ _ h _ => h,
  fun _ _ _ h _ => h,
  fun _ _ _ h _ => h,
  fun _ _ _ h _ => h,
  fun _ _ _ h _ => h,
  fun _ _ _ h _ => h,
  fun _ _ _ h _ => h,
  fun _ _ _ h _ => h,
  fun _ _ _ h _ => h,
  fun _ _ _ h _ => h,
  fun _ _ _ h _ => h,
  fun _ _ _ h _ => h,
  fun _ _ _ h _ => h,
  fun _ _ _ h _ => h,
  fun _ _ _ h _ => h,
  fun _ _ _ h _ => h,
  fun _ _ _ h _ => h,
  fun _ _ _ h _ => h,
  fun _ _ _ h _ => h, trivial⟩
def rsame6 (w : World) (op1 op2 : Int) (s1 s2 : BitVec 256) (mn1 mn2 mx1 mx2 : Int) (kv1 kv2 : Value) (n n' : Nat) (b o cap b' o' cap' k : Nat) (r : Bool) : List (Value → World → Prop) := [
  fun v _ => v = Value.pointer (some ⟨w.heap.size, 7, none⟩),
  fun v _ => v = Value.slice (some ⟨b, o, none⟩) n cap,
  fun v _ => v = Value.int .i64 (k : Int),
  fun v _ => v = Value.pointer (some ⟨b, o + k * 8, none⟩),
  fun v _ => v = ndV op1 s1 mn1 mx1 (kv1),
  fun v _ => v = Value.pointer (some ⟨w.heap.size + 1, 7, none⟩),
  fun v _ => v = Value.slice (some ⟨b', o', none⟩) n' cap',
  fun v _ => v = Value.int .i64 (k : Int),
  fun v _ => v = Value.pointer (some ⟨b', o' + k * 8, none⟩),
  fun v _ => v = ndV op2 s2 mn2 mx2 (kv2),
  fun v _ => v = Value.bool r,
  fun v _ => v = Value.bool r]
theorem rsame6_keep (w : World) (op1 op2 : Int) (s1 s2 : BitVec 256) (mn1 mn2 mx1 mx2 : Int) (kv1 kv2 : Value) (n n' : Nat) (b o cap b' o' cap' k : Nat) (r : Bool) : PredsKeep (rsame6 w op1 op2 s1 s2 mn1 mn2 mx1 mx2 kv1 kv2 n n' b o cap b' o' cap' k r) :=
  ⟨fun _ _ _ h _ => h,
  fun _ _ _ h _ => h,
  fun _ _ _ h _ => h,
  fun _ _ _ h _ => h,
  fun _ _ _ h _ => h,
  fun _ _ _ h _ => h,
  fun _ _ _ h _ => h,
  fun _ _ _ h _ => h,
  fun _ _ _ h _ => h,
  fun _ _ _ h _ => h,
  fun _ _ _ h _ => h,
  fun _ _ _ h _ => h, trivial⟩
theorem neq_all {op op' : Int} {s s' : BitVec 256} {mn mn' mx mx' : Int} {n n' : Nat} (h : (((((op : Int) != op') || (!(s == s'))) || ((mn : Int) != mn')) || ((mx : Int) != mx') || (((n : Nat) : Int) != (n' : Nat))) = false) : op = op' ∧ s = s' ∧ mn = mn' ∧ mx = mx' ∧ n = n' := by
  simp at h
  obtain ⟨⟨⟨⟨h1, h2⟩, h3⟩, h4⟩, h5⟩ := h
  exact ⟨h1, h2, h3, h4, by omega⟩
theorem neq_some {op op' : Int} {s s' : BitVec 256} {mn mn' mx mx' : Int} {ks ks' : List Nd} (h : (((((op : Int) != op') || (!(s == s'))) || ((mn : Int) != mn')) || ((mx : Int) != mx') || (((ks.length : Nat) : Int) != (ks'.length : Nat))) = true) : Nd.mk op s mn mx ks ≠ Nd.mk op' s' mn' mx' ks' := by
  rintro e
  injection e with e1 e2 e3 e4 e5
  subst e1; subst e2; subst e3; subst e4; subst e5
  simp at h
set_option maxHeartbeats 6400000 in
set_option maxRecDepth 100000 in
theorem rsame_aux (n : Nat) : ∀ (t u : Nd), SizeOf.sizeOf t ≤ n → ∀ (Q : Nat → Prop) (v1 v2 : Value) (w : World), NodeV w Q v1 t → NodeV w Q v2 u →
    Calls Try.prog 13 #[v1, v2] w fun e w' => e = .returned (.bool (eqB t u)) ∧ Below w.heap.size w w' := by
  induction n with
  | zero => intro t u ht; obtain ⟨op, s, mn, mx, ks⟩ := t; simp only [Nd.mk.sizeOf_spec] at ht; omega
  | succ n IH =>
    intro t u ht Q v1 v2 w hv1 hv2
    obtain ⟨op, s, mn, mx, ks⟩ := t
    obtain ⟨op', s', mn', mx', ks'⟩ := u
    obtain ⟨kv, rfl, hk⟩ := hv1
    obtain ⟨kv', rfl, hk'⟩ := hv2
    obtain ⟨A, cap, rfl, hlen⟩ := hk.form
    obtain ⟨A', cap', rfl, hlen'⟩ := hk'.form
    have HK := Lib.hid hk
    have HK' := Lib.hid hk'
    have HIH : Hid (∀ (i : Nat) (k : Nd), ks[i]? = some k → ∀ u v1 v2 w, NodeV w Q v1 k → NodeV w Q v2 u → Calls Try.prog 13 #[v1, v2] w fun e w' => e = .returned (.bool (eqB k u)) ∧ Below w.heap.size w w') := Lib.hid fun i k hi u v1 v2 w h1 h2 => by
      have h3 := kid_lt op s mn mx ks k (List.mem_of_getElem? hi)
      exact IH k u (by omega) Q v1 v2 w h1 h2
    clear hk hk' IH ht
    go_enter Try.func13, Try.ntmps13
    go_upto_region 1 with (first | (refine box_nd rfl (.tmp 0) rfl op s mn mx _ rfl ?_) | (refine box_nd rfl (.tmp 1) rfl op' s' mn' mx' _ rfl ?_))
    have HB2 := Lib.hid (below_alloc2 w (.cells (ndC op s mn mx (.slice A ks.length cap)) 28) (.cells (ndC op' s' mn' mx' (.slice A' ks'.length cap')) 28))
    have HG1 := Lib.hid (heap_alloc2_old w (.cells (ndC op s mn mx (.slice A ks.length cap)) 28) (.cells (ndC op' s' mn' mx' (.slice A' ks'.length cap')) 28))
    have HG2 := Lib.hid (heap_alloc2_new w (.cells (ndC op s mn mx (.slice A ks.length cap)) 28) (.cells (ndC op' s' mn' mx' (.slice A' ks'.length cap')) 28))
    have hsz2 : w.heap.size + 2 ≤ ((w.alloc (.cells (ndC op s mn mx (.slice A ks.length cap)) 28)).alloc (.cells (ndC op' s' mn' mx' (.slice A' ks'.length cap')) 28)).heap.size := by simp
    generalize ((w.alloc (.cells (ndC op s mn mx (.slice A ks.length cap)) 28)).alloc (.cells (ndC op' s' mn' mx' (.slice A' ks'.length cap')) 28)) = w2 at *
    refine region_seq (fun w' => Below w2.heap.size w2 w') (fun w1 w2 => Below w1.heap.size w1 w2) (predsT (rsameR w op op' s s' mn mn' mx mx' ks ks' A A' cap cap')) (by kernel_rfl) (by kernel_rfl) (by kernel_rfl) (preds_keep _ (rsameR_keep w op op' s s' mn mn' mx mx' ks ks' A A' cap cap')) (Below.refl _ _) ?_ ?_
    · refine ⟨?_, ?_, ?_, ?_, ?_, ?_, ?_, ?_, ?_, ?_, ?_, ?_, ?_, ?_, ?_, ?_, ?_, ?_, ?_, ?_, ?_, ?_, ?_, ?_, ?_, ?_, ?_, ?_, ?_, ?_, ?_, ?_, ?_, ?_, ?_, trivial⟩
      · refine ob_val (fun _ => Below.refl _ _) fun a' w' hS hI hD => ⟨rfl, Value.pointer (some ⟨w.heap.size, 0, none⟩), ?_, rfl⟩
        have h0 : a'.tmps.getD 2 undef = Value.pointer (some ⟨w.heap.size, 0, none⟩) := hS.at rfl
        simp only [execOp, Act.eval, h0]
        clear h0
        go_simp
      · refine ob_val (fun _ => Below.refl _ _) fun a' w' hS hI hD => ⟨rfl, Value.int .i64 op, ?_, rfl⟩
        have h0 : a'.tmps.getD 7 undef = Value.pointer (some ⟨w.heap.size, 0, none⟩) := dep_at hD 0 (by kernel_rfl)
        have hc := (nd_cell (below_all hI HG1.out)).1
        exact run_load_cell _ (.tmp 7) rfl _ _ _ h0 hc _ Try.underlying3 rfl
      · refine ob_val (fun _ => Below.refl _ _) fun a' w' hS hI hD => ⟨rfl, Value.pointer (some ⟨w.heap.size + 1, 0, none⟩), ?_, rfl⟩
        have h0 : a'.tmps.getD 3 undef = Value.pointer (some ⟨w.heap.size + 1, 0, none⟩) := hS.at rfl
        simp only [execOp, Act.eval, h0]
        clear h0
        go_simp
      · refine ob_val (fun _ => Below.refl _ _) fun a' w' hS hI hD => ⟨rfl, Value.int .i64 op', ?_, rfl⟩
        have h0 : a'.tmps.getD 9 undef = Value.pointer (some ⟨w.heap.size + 1, 0, none⟩) := dep_at hD 2 (by kernel_rfl)
        have hc := (nd_cell (below_all hI HG2.out)).1
        exact run_load_cell _ (.tmp 9) rfl _ _ _ h0 hc _ Try.underlying3 rfl
      · refine ob_val (fun _ => Below.refl _ _) fun a' w' hS hI hD => ⟨rfl, Value.bool ((op : Int) != op'), ?_, rfl⟩
        have h0 : a'.tmps.getD 8 undef = Value.int .i64 op := dep_at hD 1 (by kernel_rfl)
        have h1 : a'.tmps.getD 10 undef = Value.int .i64 op' := dep_at hD 3 (by kernel_rfl)
        exact run_neq_i _ _ (.tmp 8) (.tmp 10) rfl _ _ _ h0 h1
      · refine ob_val (fun _ => Below.refl _ _) fun a' w' hS hI hD => ⟨rfl, Value.bool ((op : Int) != op'), ?_, rfl⟩
        have h0 : a'.tmps.getD 11 undef = Value.bool ((op : Int) != op') := dep_at hD 4 (by kernel_rfl)
        exact run_val (.tmp 11) (by first | exact .inl rfl | exact .inr rfl) _ h0
      · refine ob_when (((op : Int) != op') = false) (fun hc0 => ?_) (fun hn a' w' hS hI hD => ⟨unwanted (c := ((op : Int) != op')) rfl (dep_at hD 5 (by kernel_rfl)) hn, fun hc => absurd hc hn⟩)
        refine ob_val (fun _ => Below.refl _ _) fun a' w' hS hI hD => ⟨wanted_eq (c := ((op : Int) != op')) rfl (dep_at hD 5 (by kernel_rfl)) hc0, Value.pointer (some ⟨w.heap.size, 1, none⟩), ?_, fun _ => rfl⟩
        have h0 : a'.tmps.getD 2 undef = Value.pointer (some ⟨w.heap.size, 0, none⟩) := hS.at rfl
        simp only [execOp, Act.eval, h0]
        clear h0
        go_simp
      · refine ob_when (((op : Int) != op') = false) (fun hc0 => ?_) (fun hn a' w' hS hI hD => ⟨unwanted (c := ((op : Int) != op')) rfl (dep_at hD 5 (by kernel_rfl)) hn, fun hc => absurd hc hn⟩)
        refine ob_val (fun _ => Below.refl _ _) fun a' w' hS hI hD => ⟨wanted_eq (c := ((op : Int) != op')) rfl (dep_at hD 5 (by kernel_rfl)) hc0, setV s, ?_, fun _ => rfl⟩
        have h0 : (((op : Int) != op') = false → a'.tmps.getD 13 undef = Value.pointer (some ⟨w.heap.size, 1, none⟩)) := dep_at hD 6 (by kernel_rfl)
        replace h0 := h0 hc0
        simp only [execOp, Act.eval, h0]
        exact run_load_st' w' (w.heap.size) 1 s (nd_set (below_all hI HG1.out))
      · refine ob_when (((op : Int) != op') = false) (fun hc0 => ?_) (fun hn a' w' hS hI hD => ⟨unwanted (c := ((op : Int) != op')) rfl (dep_at hD 5 (by kernel_rfl)) hn, fun hc => absurd hc hn⟩)
        refine ob_val (fun _ => Below.refl _ _) fun a' w' hS hI hD => ⟨wanted_eq (c := ((op : Int) != op')) rfl (dep_at hD 5 (by kernel_rfl)) hc0, Value.pointer (some ⟨w.heap.size + 1, 1, none⟩), ?_, fun _ => rfl⟩
        have h0 : a'.tmps.getD 3 undef = Value.pointer (some ⟨w.heap.size + 1, 0, none⟩) := hS.at rfl
        simp only [execOp, Act.eval, h0]
        clear h0
        go_simp
      · refine ob_when (((op : Int) != op') = false) (fun hc0 => ?_) (fun hn a' w' hS hI hD => ⟨unwanted (c := ((op : Int) != op')) rfl (dep_at hD 5 (by kernel_rfl)) hn, fun hc => absurd hc hn⟩)
        refine ob_val (fun _ => Below.refl _ _) fun a' w' hS hI hD => ⟨wanted_eq (c := ((op : Int) != op')) rfl (dep_at hD 5 (by kernel_rfl)) hc0, setV s', ?_, fun _ => rfl⟩
        have h0 : (((op : Int) != op') = false → a'.tmps.getD 15 undef = Value.pointer (some ⟨w.heap.size + 1, 1, none⟩)) := dep_at hD 8 (by kernel_rfl)
        replace h0 := h0 hc0
        simp only [execOp, Act.eval, h0]
        exact run_load_st' w' (w.heap.size + 1) 1 s' (nd_set (below_all hI HG2.out))
      · refine ob_when (((op : Int) != op') = false) (fun hc0 => ?_) (fun hn a' w' hS hI hD => ⟨unwanted (c := ((op : Int) != op')) rfl (dep_at hD 5 (by kernel_rfl)) hn, fun hc => absurd hc hn⟩)
        refine ob_val (fun _ => Below.refl _ _) fun a' w' hS hI hD => ⟨wanted_eq (c := ((op : Int) != op')) rfl (dep_at hD 5 (by kernel_rfl)) hc0, Value.bool (!(s == s')), ?_, fun _ => rfl⟩
        have h0 : (((op : Int) != op') = false → a'.tmps.getD 14 undef = setV s) := dep_at hD 7 (by kernel_rfl)
        replace h0 := h0 hc0
        have h1 : (((op : Int) != op') = false → a'.tmps.getD 16 undef = setV s') := dep_at hD 9 (by kernel_rfl)
        replace h1 := h1 hc0
        exact run_neq_set (.tmp 14) (.tmp 16) _ rfl _ _ h0 h1
      · refine ob_val (fun _ => Below.refl _ _) fun a' w' hS hI hD => ⟨rfl, Value.bool (((op : Int) != op') || (!(s == s'))), ?_, rfl⟩
        have h0 : a'.tmps.getD 12 undef = Value.bool ((op : Int) != op') := dep_at hD 5 (by kernel_rfl)
        have h1 : (((op : Int) != op') = false → a'.tmps.getD 17 undef = Value.bool (!(s == s'))) := dep_at hD 10 (by kernel_rfl)
        replace h1 : ((op : Int) != op') = false → a'.tmps.getD 17 undef = Value.bool (!(s == s')) := fun hC => h1 hC
        exact run_pick_or (.tmp 12) (.tmp 17) rfl rfl _ _ h0 h1
      · refine ob_val (fun _ => Below.refl _ _) fun a' w' hS hI hD => ⟨rfl, Value.bool (((op : Int) != op') || (!(s == s'))), ?_, rfl⟩
        have h0 : a'.tmps.getD 18 undef = Value.bool (((op : Int) != op') || (!(s == s'))) := dep_at hD 11 (by kernel_rfl)
        exact run_val (.tmp 18) (by first | exact .inl rfl | exact .inr rfl) _ h0
      · refine ob_when ((((op : Int) != op') || (!(s == s'))) = false) (fun hc0 => ?_) (fun hn a' w' hS hI hD => ⟨unwanted (c := (((op : Int) != op') || (!(s == s')))) rfl (dep_at hD 12 (by kernel_rfl)) hn, fun hc => absurd hc hn⟩)
        refine ob_val (fun _ => Below.refl _ _) fun a' w' hS hI hD => ⟨wanted_eq (c := (((op : Int) != op') || (!(s == s')))) rfl (dep_at hD 12 (by kernel_rfl)) hc0, Value.pointer (some ⟨w.heap.size, 5, none⟩), ?_, fun _ => rfl⟩
        have h0 : a'.tmps.getD 2 undef = Value.pointer (some ⟨w.heap.size, 0, none⟩) := hS.at rfl
        simp only [execOp, Act.eval, h0]
        clear h0
        go_simp
      · refine ob_when ((((op : Int) != op') || (!(s == s'))) = false) (fun hc0 => ?_) (fun hn a' w' hS hI hD => ⟨unwanted (c := (((op : Int) != op') || (!(s == s')))) rfl (dep_at hD 12 (by kernel_rfl)) hn, fun hc => absurd hc hn⟩)
        refine ob_val (fun _ => Below.refl _ _) fun a' w' hS hI hD => ⟨wanted_eq (c := (((op : Int) != op') || (!(s == s')))) rfl (dep_at hD 12 (by kernel_rfl)) hc0, Value.int .i64 mn, ?_, fun _ => rfl⟩
        have h0 : ((((op : Int) != op') || (!(s == s'))) = false → a'.tmps.getD 20 undef = Value.pointer (some ⟨w.heap.size, 5, none⟩)) := dep_at hD 13 (by kernel_rfl)
        replace h0 := h0 hc0
        have hc := (nd_cell (below_all hI HG1.out)).2.1
        exact run_load_cell _ (.tmp 20) rfl _ _ _ h0 hc _ Try.underlying3 rfl
      · refine ob_when ((((op : Int) != op') || (!(s == s'))) = false) (fun hc0 => ?_) (fun hn a' w' hS hI hD => ⟨unwanted (c := (((op : Int) != op') || (!(s == s')))) rfl (dep_at hD 12 (by kernel_rfl)) hn, fun hc => absurd hc hn⟩)
        refine ob_val (fun _ => Below.refl _ _) fun a' w' hS hI hD => ⟨wanted_eq (c := (((op : Int) != op') || (!(s == s')))) rfl (dep_at hD 12 (by kernel_rfl)) hc0, Value.pointer (some ⟨w.heap.size + 1, 5, none⟩), ?_, fun _ => rfl⟩
        have h0 : a'.tmps.getD 3 undef = Value.pointer (some ⟨w.heap.size + 1, 0, none⟩) := hS.at rfl
        simp only [execOp, Act.eval, h0]
        clear h0
        go_simp
      · refine ob_when ((((op : Int) != op') || (!(s == s'))) = false) (fun hc0 => ?_) (fun hn a' w' hS hI hD => ⟨unwanted (c := (((op : Int) != op') || (!(s == s')))) rfl (dep_at hD 12 (by kernel_rfl)) hn, fun hc => absurd hc hn⟩)
        refine ob_val (fun _ => Below.refl _ _) fun a' w' hS hI hD => ⟨wanted_eq (c := (((op : Int) != op') || (!(s == s')))) rfl (dep_at hD 12 (by kernel_rfl)) hc0, Value.int .i64 mn', ?_, fun _ => rfl⟩
        have h0 : ((((op : Int) != op') || (!(s == s'))) = false → a'.tmps.getD 22 undef = Value.pointer (some ⟨w.heap.size + 1, 5, none⟩)) := dep_at hD 15 (by kernel_rfl)
        replace h0 := h0 hc0
        have hc := (nd_cell (below_all hI HG2.out)).2.1
        exact run_load_cell _ (.tmp 22) rfl _ _ _ h0 hc _ Try.underlying3 rfl
      · refine ob_when ((((op : Int) != op') || (!(s == s'))) = false) (fun hc0 => ?_) (fun hn a' w' hS hI hD => ⟨unwanted (c := (((op : Int) != op') || (!(s == s')))) rfl (dep_at hD 12 (by kernel_rfl)) hn, fun hc => absurd hc hn⟩)
        refine ob_val (fun _ => Below.refl _ _) fun a' w' hS hI hD => ⟨wanted_eq (c := (((op : Int) != op') || (!(s == s')))) rfl (dep_at hD 12 (by kernel_rfl)) hc0, Value.bool ((mn : Int) != mn'), ?_, fun _ => rfl⟩
        have h0 : ((((op : Int) != op') || (!(s == s'))) = false → a'.tmps.getD 21 undef = Value.int .i64 mn) := dep_at hD 14 (by kernel_rfl)
        replace h0 := h0 hc0
        have h1 : ((((op : Int) != op') || (!(s == s'))) = false → a'.tmps.getD 23 undef = Value.int .i64 mn') := dep_at hD 16 (by kernel_rfl)
        replace h1 := h1 hc0
        exact run_neq_i _ _ (.tmp 21) (.tmp 23) rfl _ _ _ h0 h1
      · refine ob_val (fun _ => Below.refl _ _) fun a' w' hS hI hD => ⟨rfl, Value.bool ((((op : Int) != op') || (!(s == s'))) || ((mn : Int) != mn')), ?_, rfl⟩
        have h0 : a'.tmps.getD 19 undef = Value.bool (((op : Int) != op') || (!(s == s'))) := dep_at hD 12 (by kernel_rfl)
        have h1 : ((((op : Int) != op') || (!(s == s'))) = false → a'.tmps.getD 24 undef = Value.bool ((mn : Int) != mn')) := dep_at hD 17 (by kernel_rfl)
        replace h1 : (((op : Int) != op') || (!(s == s'))) = false → a'.tmps.getD 24 undef = Value.bool ((mn : Int) != mn') := fun hC => h1 hC
        exact run_pick_or (.tmp 19) (.tmp 24) rfl rfl _ _ h0 h1
      · refine ob_val (fun _ => Below.refl _ _) fun a' w' hS hI hD => ⟨rfl, Value.bool ((((op : Int) != op') || (!(s == s'))) || ((mn : Int) != mn')), ?_, rfl⟩
        have h0 : a'.tmps.getD 25 undef = Value.bool ((((op : Int) != op') || (!(s == s'))) || ((mn : Int) != mn')) := dep_at hD 18 (by kernel_rfl)
        exact run_val (.tmp 25) (by first | exact .inl rfl | exact .inr rfl) _ h0
      · refine ob_when (((((op : Int) != op') || (!(s == s'))) || ((mn : Int) != mn')) = false) (fun hc0 => ?_) (fun hn a' w' hS hI hD => ⟨unwanted (c := ((((op : Int) != op') || (!(s == s'))) || ((mn : Int) != mn'))) rfl (dep_at hD 19 (by kernel_rfl)) hn, fun hc => absurd hc hn⟩)
        refine ob_val (fun _ => Below.refl _ _) fun a' w' hS hI hD => ⟨wanted_eq (c := ((((op : Int) != op') || (!(s == s'))) || ((mn : Int) != mn'))) rfl (dep_at hD 19 (by kernel_rfl)) hc0, Value.pointer (some ⟨w.heap.size, 6, none⟩), ?_, fun _ => rfl⟩
        have h0 : a'.tmps.getD 2 undef = Value.pointer (some ⟨w.heap.size, 0, none⟩) := hS.at rfl
        simp only [execOp, Act.eval, h0]
        clear h0
        go_simp
      · refine ob_when (((((op : Int) != op') || (!(s == s'))) || ((mn : Int) != mn')) = false) (fun hc0 => ?_) (fun hn a' w' hS hI hD => ⟨unwanted (c := ((((op : Int) != op') || (!(s == s'))) || ((mn : Int) != mn'))) rfl (dep_at hD 19 (by kernel_rfl)) hn, fun hc => absurd hc hn⟩)
        refine ob_val (fun _ => Below.refl _ _) fun a' w' hS hI hD => ⟨wanted_eq (c := ((((op : Int) != op') || (!(s == s'))) || ((mn : Int) != mn'))) rfl (dep_at hD 19 (by kernel_rfl)) hc0, Value.int .i64 mx, ?_, fun _ => rfl⟩
        have h0 : (((((op : Int) != op') || (!(s == s'))) || ((mn : Int) != mn')) = false → a'.tmps.getD 27 undef = Value.pointer (some ⟨w.heap.size, 6, none⟩)) := dep_at hD 20 (by kernel_rfl)
        replace h0 := h0 hc0
        have hc := (nd_cell (below_all hI HG1.out)).2.2.1
        exact run_load_cell _ (.tmp 27) rfl _ _ _ h0 hc _ Try.underlying3 rfl
      · refine ob_when (((((op : Int) != op') || (!(s == s'))) || ((mn : Int) != mn')) = false) (fun hc0 => ?_) (fun hn a' w' hS hI hD => ⟨unwanted (c := ((((op : Int) != op') || (!(s == s'))) || ((mn : Int) != mn'))) rfl (dep_at hD 19 (by kernel_rfl)) hn, fun hc => absurd hc hn⟩)
        refine ob_val (fun _ => Below.refl _ _) fun a' w' hS hI hD => ⟨wanted_eq (c := ((((op : Int) != op') || (!(s == s'))) || ((mn : Int) != mn'))) rfl (dep_at hD 19 (by kernel_rfl)) hc0, Value.pointer (some ⟨w.heap.size + 1, 6, none⟩), ?_, fun _ => rfl⟩
        have h0 : a'.tmps.getD 3 undef = Value.pointer (some ⟨w.heap.size + 1, 0, none⟩) := hS.at rfl
        simp only [execOp, Act.eval, h0]
        clear h0
        go_simp
      · refine ob_when (((((op : Int) != op') || (!(s == s'))) || ((mn : Int) != mn')) = false) (fun hc0 => ?_) (fun hn a' w' hS hI hD => ⟨unwanted (c := ((((op : Int) != op') || (!(s == s'))) || ((mn : Int) != mn'))) rfl (dep_at hD 19 (by kernel_rfl)) hn, fun hc => absurd hc hn⟩)
        refine ob_val (fun _ => Below.refl _ _) fun a' w' hS hI hD => ⟨wanted_eq (c := ((((op : Int) != op') || (!(s == s'))) || ((mn : Int) != mn'))) rfl (dep_at hD 19 (by kernel_rfl)) hc0, Value.int .i64 mx', ?_, fun _ => rfl⟩
        have h0 : (((((op : Int) != op') || (!(s == s'))) || ((mn : Int) != mn')) = false → a'.tmps.getD 29 undef = Value.pointer (some ⟨w.heap.size + 1, 6, none⟩)) := dep_at hD 22 (by kernel_rfl)
        replace h0 := h0 hc0
        have hc := (nd_cell (below_all hI HG2.out)).2.2.1
        exact run_load_cell _ (.tmp 29) rfl _ _ _ h0 hc _ Try.underlying3 rfl
      · refine ob_when (((((op : Int) != op') || (!(s == s'))) || ((mn : Int) != mn')) = false) (fun hc0 => ?_) (fun hn a' w' hS hI hD => ⟨unwanted (c := ((((op : Int) != op') || (!(s == s'))) || ((mn : Int) != mn'))) rfl (dep_at hD 19 (by kernel_rfl)) hn, fun hc => absurd hc hn⟩)
        refine ob_val (fun _ => Below.refl _ _) fun a' w' hS hI hD => ⟨wanted_eq (c := ((((op : Int) != op') || (!(s == s'))) || ((mn : Int) != mn'))) rfl (dep_at hD 19 (by kernel_rfl)) hc0, Value.bool ((mx : Int) != mx'), ?_, fun _ => rfl⟩
        have h0 : (((((op : Int) != op') || (!(s == s'))) || ((mn : Int) != mn')) = false → a'.tmps.getD 28 undef = Value.int .i64 mx) := dep_at hD 21 (by kernel_rfl)
        replace h0 := h0 hc0
        have h1 : (((((op : Int) != op') || (!(s == s'))) || ((mn : Int) != mn')) = false → a'.tmps.getD 30 undef = Value.int .i64 mx') := dep_at hD 23 (by kernel_rfl)
        replace h1 := h1 hc0
        exact run_neq_i _ _ (.tmp 28) (.tmp 30) rfl _ _ _ h0 h1
      · refine ob_val (fun _ => Below.refl _ _) fun a' w' hS hI hD => ⟨rfl, Value.bool (((((op : Int) != op') || (!(s == s'))) || ((mn : Int) != mn')) || ((mx : Int) != mx')), ?_, rfl⟩
        have h0 : a'.tmps.getD 26 undef = Value.bool ((((op : Int) != op') || (!(s == s'))) || ((mn : Int) != mn')) := dep_at hD 19 (by kernel_rfl)
        have h1 : (((((op : Int) != op') || (!(s == s'))) || ((mn : Int) != mn')) = false → a'.tmps.getD 31 undef = Value.bool ((mx : Int) != mx')) := dep_at hD 24 (by kernel_rfl)
        replace h1 : ((((op : Int) != op') || (!(s == s'))) || ((mn : Int) != mn')) = false → a'.tmps.getD 31 undef = Value.bool ((mx : Int) != mx') := fun hC => h1 hC
        exact run_pick_or (.tmp 26) (.tmp 31) rfl rfl _ _ h0 h1
      · refine ob_val (fun _ => Below.refl _ _) fun a' w' hS hI hD => ⟨rfl, Value.bool (((((op : Int) != op') || (!(s == s'))) || ((mn : Int) != mn')) || ((mx : Int) != mx')), ?_, rfl⟩
        have h0 : a'.tmps.getD 32 undef = Value.bool (((((op : Int) != op') || (!(s == s'))) || ((mn : Int) != mn')) || ((mx : Int) != mx')) := dep_at hD 25 (by kernel_rfl)
        exact run_val (.tmp 32) (by first | exact .inl rfl | exact .inr rfl) _ h0
      · refine ob_when ((((((op : Int) != op') || (!(s == s'))) || ((mn : Int) != mn')) || ((mx : Int) != mx')) = false) (fun hc0 => ?_) (fun hn a' w' hS hI hD => ⟨unwanted (c := (((((op : Int) != op') || (!(s == s'))) || ((mn : Int) != mn')) || ((mx : Int) != mx'))) rfl (dep_at hD 26 (by kernel_rfl)) hn, fun hc => absurd hc hn⟩)
        refine ob_val (fun _ => Below.refl _ _) fun a' w' hS hI hD => ⟨wanted_eq (c := (((((op : Int) != op') || (!(s == s'))) || ((mn : Int) != mn')) || ((mx : Int) != mx'))) rfl (dep_at hD 26 (by kernel_rfl)) hc0, Value.pointer (some ⟨w.heap.size, 7, none⟩), ?_, fun _ => rfl⟩
        have h0 : a'.tmps.getD 2 undef = Value.pointer (some ⟨w.heap.size, 0, none⟩) := hS.at rfl
        simp only [execOp, Act.eval, h0]
        clear h0
        go_simp
      · refine ob_when ((((((op : Int) != op') || (!(s == s'))) || ((mn : Int) != mn')) || ((mx : Int) != mx')) = false) (fun hc0 => ?_) (fun hn a' w' hS hI hD => ⟨unwanted (c := (((((op : Int) != op') || (!(s == s'))) || ((mn : Int) != mn')) || ((mx : Int) != mx'))) rfl (dep_at hD 26 (by kernel_rfl)) hn, fun hc => absurd hc hn⟩)
        refine ob_val (fun _ => Below.refl _ _) fun a' w' hS hI hD => ⟨wanted_eq (c := (((((op : Int) != op') || (!(s == s'))) || ((mn : Int) != mn')) || ((mx : Int) != mx'))) rfl (dep_at hD 26 (by kernel_rfl)) hc0, Value.slice A ks.length cap, ?_, fun _ => rfl⟩
        have h0 : ((((((op : Int) != op') || (!(s == s'))) || ((mn : Int) != mn')) || ((mx : Int) != mx')) = false → a'.tmps.getD 34 undef = Value.pointer (some ⟨w.heap.size, 7, none⟩)) := dep_at hD 27 (by kernel_rfl)
        replace h0 := h0 hc0
        have hc := (nd_cell (below_all hI HG1.out)).2.2.2
        exact run_load_cell _ (.tmp 34) rfl _ _ _ h0 hc _ Try.underlying26 rfl
      · refine ob_when ((((((op : Int) != op') || (!(s == s'))) || ((mn : Int) != mn')) || ((mx : Int) != mx')) = false) (fun hc0 => ?_) (fun hn a' w' hS hI hD => ⟨unwanted (c := (((((op : Int) != op') || (!(s == s'))) || ((mn : Int) != mn')) || ((mx : Int) != mx'))) rfl (dep_at hD 26 (by kernel_rfl)) hn, fun hc => absurd hc hn⟩)
        refine ob_val (fun _ => Below.refl _ _) fun a' w' hS hI hD => ⟨wanted_eq (c := (((((op : Int) != op') || (!(s == s'))) || ((mn : Int) != mn')) || ((mx : Int) != mx'))) rfl (dep_at hD 26 (by kernel_rfl)) hc0, Value.int .i64 (ks.length : Nat), ?_, fun _ => rfl⟩
        have h0 : ((((((op : Int) != op') || (!(s == s'))) || ((mn : Int) != mn')) || ((mx : Int) != mx')) = false → a'.tmps.getD 35 undef = Value.slice A ks.length cap) := dep_at hD 28 (by kernel_rfl)
        replace h0 := h0 hc0
        exact run_len_s _ (.tmp 35) rfl _ _ _ h0 _ Try.underlying26
      · refine ob_when ((((((op : Int) != op') || (!(s == s'))) || ((mn : Int) != mn')) || ((mx : Int) != mx')) = false) (fun hc0 => ?_) (fun hn a' w' hS hI hD => ⟨unwanted (c := (((((op : Int) != op') || (!(s == s'))) || ((mn : Int) != mn')) || ((mx : Int) != mx'))) rfl (dep_at hD 26 (by kernel_rfl)) hn, fun hc => absurd hc hn⟩)
        refine ob_val (fun _ => Below.refl _ _) fun a' w' hS hI hD => ⟨wanted_eq (c := (((((op : Int) != op') || (!(s == s'))) || ((mn : Int) != mn')) || ((mx : Int) != mx'))) rfl (dep_at hD 26 (by kernel_rfl)) hc0, Value.pointer (some ⟨w.heap.size + 1, 7, none⟩), ?_, fun _ => rfl⟩
        have h0 : a'.tmps.getD 3 undef = Value.pointer (some ⟨w.heap.size + 1, 0, none⟩) := hS.at rfl
        simp only [execOp, Act.eval, h0]
        clear h0
        go_simp
      · refine ob_when ((((((op : Int) != op') || (!(s == s'))) || ((mn : Int) != mn')) || ((mx : Int) != mx')) = false) (fun hc0 => ?_) (fun hn a' w' hS hI hD => ⟨unwanted (c := (((((op : Int) != op') || (!(s == s'))) || ((mn : Int) != mn')) || ((mx : Int) != mx'))) rfl (dep_at hD 26 (by kernel_rfl)) hn, fun hc => absurd hc hn⟩)
        refine ob_val (fun _ => Below.refl _ _) fun a' w' hS hI hD => ⟨wanted_eq (c := (((((op : Int) != op') || (!(s == s'))) || ((mn : Int) != mn')) || ((mx : Int) != mx'))) rfl (dep_at hD 26 (by kernel_rfl)) hc0, Value.slice A' ks'.length cap', ?_, fun _ => rfl⟩
        have h0 : ((((((op : Int) != op') || (!(s == s'))) || ((mn : Int) != mn')) || ((mx : Int) != mx')) = false → a'.tmps.getD 37 undef = Value.pointer (some ⟨w.heap.size + 1, 7, none⟩)) := dep_at hD 30 (by kernel_rfl)
        replace h0 := h0 hc0
        have hc := (nd_cell (below_all hI HG2.out)).2.2.2
        exact run_load_cell _ (.tmp 37) rfl _ _ _ h0 hc _ Try.underlying26 rfl
      · refine ob_when ((((((op : Int) != op') || (!(s == s'))) || ((mn : Int) != mn')) || ((mx : Int) != mx')) = false) (fun hc0 => ?_) (fun hn a' w' hS hI hD => ⟨unwanted (c := (((((op : Int) != op') || (!(s == s'))) || ((mn : Int) != mn')) || ((mx : Int) != mx'))) rfl (dep_at hD 26 (by kernel_rfl)) hn, fun hc => absurd hc hn⟩)
        refine ob_val (fun _ => Below.refl _ _) fun a' w' hS hI hD => ⟨wanted_eq (c := (((((op : Int) != op') || (!(s == s'))) || ((mn : Int) != mn')) || ((mx : Int) != mx'))) rfl (dep_at hD 26 (by kernel_rfl)) hc0, Value.int .i64 (ks'.length : Nat), ?_, fun _ => rfl⟩
        have h0 : ((((((op : Int) != op') || (!(s == s'))) || ((mn : Int) != mn')) || ((mx : Int) != mx')) = false → a'.tmps.getD 38 undef = Value.slice A' ks'.length cap') := dep_at hD 31 (by kernel_rfl)
        replace h0 := h0 hc0
        exact run_len_s _ (.tmp 38) rfl _ _ _ h0 _ Try.underlying26
      · refine ob_when ((((((op : Int) != op') || (!(s == s'))) || ((mn : Int) != mn')) || ((mx : Int) != mx')) = false) (fun hc0 => ?_) (fun hn a' w' hS hI hD => ⟨unwanted (c := (((((op : Int) != op') || (!(s == s'))) || ((mn : Int) != mn')) || ((mx : Int) != mx'))) rfl (dep_at hD 26 (by kernel_rfl)) hn, fun hc => absurd hc hn⟩)
        refine ob_val (fun _ => Below.refl _ _) fun a' w' hS hI hD => ⟨wanted_eq (c := (((((op : Int) != op') || (!(s == s'))) || ((mn : Int) != mn')) || ((mx : Int) != mx'))) rfl (dep_at hD 26 (by kernel_rfl)) hc0, Value.bool (((ks.length : Nat) : Int) != (ks'.length : Nat)), ?_, fun _ => rfl⟩
        have h0 : ((((((op : Int) != op') || (!(s == s'))) || ((mn : Int) != mn')) || ((mx : Int) != mx')) = false → a'.tmps.getD 36 undef = Value.int .i64 (ks.length : Nat)) := dep_at hD 29 (by kernel_rfl)
        replace h0 := h0 hc0
        have h1 : ((((((op : Int) != op') || (!(s == s'))) || ((mn : Int) != mn')) || ((mx : Int) != mx')) = false → a'.tmps.getD 39 undef = Value.int .i64 (ks'.length : Nat)) := dep_at hD 32 (by kernel_rfl)
        replace h1 := h1 hc0
        exact run_neq_i _ _ (.tmp 36) (.tmp 39) rfl _ _ _ h0 h1
      · refine ob_val (fun _ => Below.refl _ _) fun a' w' hS hI hD => ⟨rfl, Value.bool ((((((op : Int) != op') || (!(s == s'))) || ((mn : Int) != mn')) || ((mx : Int) != mx')) || (((ks.length : Nat) : Int) != (ks'.length : Nat))), ?_, rfl⟩
        have h0 : a'.tmps.getD 33 undef = Value.bool (((((op : Int) != op') || (!(s == s'))) || ((mn : Int) != mn')) || ((mx : Int) != mx')) := dep_at hD 26 (by kernel_rfl)
        have h1 : ((((((op : Int) != op') || (!(s == s'))) || ((mn : Int) != mn')) || ((mx : Int) != mx')) = false → a'.tmps.getD 40 undef = Value.bool (((ks.length : Nat) : Int) != (ks'.length : Nat))) := dep_at hD 33 (by kernel_rfl)
        replace h1 : (((((op : Int) != op') || (!(s == s'))) || ((mn : Int) != mn')) || ((mx : Int) != mx')) = false → a'.tmps.getD 40 undef = Value.bool (((ks.length : Nat) : Int) != (ks'.length : Nat)) := fun hC => h1 hC
        exact run_pick_or (.tmp 33) (.tmp 40) rfl rfl _ _ h0 h1
    · intro v w' hI hT
      have h34 : v 34 = .bool ((((((op : Int) != op') || (!(s == s'))) || ((mn : Int) != mn')) || ((mx : Int) != mx')) || (((ks.length : Nat) : Int) != (ks'.length : Nat))) := tall_at _ _ hT 34 (by decide) (by decide)
      have hsz' := hI.size
      have HBW := Lib.hid (below_more HB2.out (by omega) hI)
      have HG1' := Lib.hid (below_all hI HG1.out)
      have HG2' := Lib.hid (below_all hI HG2.out)
      clear hT HG1 HG2 hI HB2
      rcases hbad : (((((op : Int) != op') || (!(s == s'))) || ((mn : Int) != mn')) || ((mx : Int) != mx') || (((ks.length : Nat) : Int) != (ks'.length : Nat))) with _ | _
      · rw [hbad] at h34
        obtain ⟨rfl, rfl, rfl, rfl, hl⟩ := neq_all hbad
        clear hbad
        have HL := Lib.hid hl
        clear hl
        simp only [putAll, Act.put, List.setIfInBounds_toArray, List.set_cons_succ, List.set_cons_zero, Nat.reduceAdd]
        generalize v 0 = x0
        simp only [h34]
        have HH := Lib.hid h34
        clear h34 HH
        go_wp2_with (fail)
        go_loopw [5] (fun i wr => ∃ k : Nat, k ≤ ks.length ∧ i = .int .i64 k ∧ ks.take k = ks'.take k ∧ wr.heap[w.heap.size]? = some (.cells (ndC op s mn mx (.slice A ks.length cap)) 28 (0, 0)) ∧ wr.heap[w.heap.size + 1]? = some (.cells (ndC op s mn mx (.slice A' ks'.length cap')) 28 (0, 0)) ∧ Below w.heap.size w wr) (fun i _ => ks.length - (intOf i).toNat)
        case atStart => exact ⟨0, Nat.zero_le _, rfl, by simp, HG1'.out, HG2'.out, HBW.out⟩
        case round =>
          clear HG1' HG2' HBW hsz'
          obtain ⟨k, hk, rfl, htk, hg1, hg2, hB⟩ := hrel
          obtain ⟨_, _, _, hc7⟩ := nd_cell hg1
          obtain ⟨_, _, _, hd7⟩ := nd_cell hg2
          have HG1 := Lib.hid hg1
          have HG2 := Lib.hid hg2
          have HTK := Lib.hid htk
          have hsz := hB.size
          clear htk hg1 hg2
          by_cases hlt : k < ks.length
          · have hlt' : k < ks'.length := by have := HL.out; omega
            have hget := List.getElem?_eq_getElem hlt
            have hget' := List.getElem?_eq_getElem hlt'
            have HT := Lib.hid (HIH.out k _ hget)
            have HEQ := Lib.hid (take_eq_succ hlt hlt' HTK.out)
            have HNE := Lib.hid (ne_at hlt hlt')
            generalize ks[k] = x at *
            generalize ks'[k] = y at *
            obtain ⟨op1, s1, mn1, mx1, kk1⟩ := x
            obtain ⟨op2, s2, mn2, mx2, kk2⟩ := y
            obtain ⟨_, _, b, o, kv1, hA, hr, hkk⟩ := (HK.out.keep hB).at hget
            cases hA
            obtain ⟨_, _, b', o', kv2, hA', hr', hkk'⟩ := (HK'.out.keep hB).at hget'
            cases hA'
            have HR1 : Hid (∀ w1, Below wr.heap.size wr w1 → w1.rangeAt b (o + k * 8) (ndC op1 s1 mn1 mx1 kv1).toList) := Lib.hid fun w1 hb => range_cell hr (hb.block b (range_lt hr (ndC_ne _ _ _ _ _)))
            have HR2 : Hid (∀ w1, Below wr.heap.size wr w1 → w1.rangeAt b' (o' + k * 8) (ndC op2 s2 mn2 mx2 kv2).toList) := Lib.hid fun w1 hb => range_cell hr' (hb.block b' (range_lt hr' (ndC_ne _ _ _ _ _)))
            have HV1 : Hid (∀ w1, Below wr.heap.size wr w1 → NodeV w1 Q (ndV op1 s1 mn1 mx1 kv1) (.mk op1 s1 mn1 mx1 kk1)) := Lib.hid fun w1 hb => ⟨kv1, rfl, hkk.keep hb⟩
            have HV2 : Hid (∀ w1, Below wr.heap.size wr w1 → NodeV w1 Q (ndV op2 s2 mn2 mx2 kv2) (.mk op2 s2 mn2 mx2 kk2)) := Lib.hid fun w1 hb => ⟨kv2, rfl, hkk'.keep hb⟩
            clear hr hr' hkk hkk' hget hget'
            generalize Nd.mk op1 s1 mn1 mx1 kk1 = x at *
            generalize Nd.mk op2 s2 mn2 mx2 kk2 = y at *
            obtain ⟨r, hp⟩ : ∃ r, eqB x y = r := ⟨_, rfl⟩
            have HP := Lib.hid hp
            clear hp
            go_upto_region 6 with (fail)
            refine region_all (by kernel_rfl) (fun w' => Below wr.heap.size wr w') (fun w1 w2 => Below w1.heap.size w1 w2) (predsT (rsame6 w op1 op2 s1 s2 mn1 mn2 mx1 mx2 kv1 kv2 ks.length ks'.length b o cap b' o' cap' k r)) (by kernel_rfl) (by kernel_rfl) (by kernel_rfl) (preds_keep _ (rsame6_keep w op1 op2 s1 s2 mn1 mn2 mx1 mx2 kv1 kv2 ks.length ks'.length b o cap b' o' cap' k r)) (Below.refl _ _).drew ?_ ?_
            · refine ⟨?_, ?_, ?_, ?_, ?_, ?_, ?_, ?_, ?_, ?_, ?_, ?_, trivial⟩
              · refine ob_val (fun _ => Below.refl _ _) fun a' w' hS hI hD => ⟨rfl, Value.pointer (some ⟨w.heap.size, 7, none⟩), ?_, rfl⟩
                have h0 : a'.tmps.getD 2 undef = Value.pointer (some ⟨w.heap.size, 0, none⟩) := hS.at rfl
                simp only [execOp, Act.eval, h0]
                clear h0
                go_simp
              · refine ob_val (fun _ => Below.refl _ _) fun a' w' hS hI hD => ⟨rfl, Value.slice (some ⟨b, o, none⟩) ks.length cap, ?_, rfl⟩
                have h0 : a'.tmps.getD 49 undef = Value.pointer (some ⟨w.heap.size, 7, none⟩) := dep_at hD 0 (by kernel_rfl)
                have hc := (nd_cell (below_all hI HG1.out)).2.2.2
                exact run_load_cell _ (.tmp 49) rfl _ _ _ h0 hc _ Try.underlying26 rfl
              · refine ob_val (fun _ => Below.refl _ _) fun a' w' hS hI hD => ⟨rfl, Value.int .i64 (k : Int), ?_, rfl⟩
                have h0 : a'.tmps.getD 5 undef = Value.int .i64 (k : Int) := hS.at rfl
                exact run_val (.tmp 5) (by first | exact .inl rfl | exact .inr rfl) _ h0
              · refine ob_val (fun _ => Below.refl _ _) fun a' w' hS hI hD => ⟨rfl, Value.pointer (some ⟨b, o + k * 8, none⟩), ?_, rfl⟩
                have h0 : a'.tmps.getD 50 undef = Value.slice (some ⟨b, o, none⟩) ks.length cap := dep_at hD 1 (by kernel_rfl)
                have h1 : a'.tmps.getD 51 undef = Value.int .i64 (k : Int) := dep_at hD 2 (by kernel_rfl)
                simp only [execOp, Act.eval, h0, h1]
                clear h0 h1
                go_simp
              · refine ob_val (fun _ => Below.refl _ _) fun a' w' hS hI hD => ⟨rfl, ndV op1 s1 mn1 mx1 (kv1), ?_, rfl⟩
                have h0 : a'.tmps.getD 52 undef = Value.pointer (some ⟨b, o + k * 8, none⟩) := dep_at hD 3 (by kernel_rfl)
                simp only [execOp, Act.eval, h0]
                exact run_load_nd' w' b (o + k * 8) op1 s1 mn1 mx1 kv1 (HR1.out w' hI)
              · refine ob_val (fun _ => Below.refl _ _) fun a' w' hS hI hD => ⟨rfl, Value.pointer (some ⟨w.heap.size + 1, 7, none⟩), ?_, rfl⟩
                have h0 : a'.tmps.getD 3 undef = Value.pointer (some ⟨w.heap.size + 1, 0, none⟩) := hS.at rfl
                simp only [execOp, Act.eval, h0]
                clear h0
                go_simp
              · refine ob_val (fun _ => Below.refl _ _) fun a' w' hS hI hD => ⟨rfl, Value.slice (some ⟨b', o', none⟩) ks'.length cap', ?_, rfl⟩
                have h0 : a'.tmps.getD 54 undef = Value.pointer (some ⟨w.heap.size + 1, 7, none⟩) := dep_at hD 5 (by kernel_rfl)
                have hc := (nd_cell (below_all hI HG2.out)).2.2.2
                exact run_load_cell _ (.tmp 54) rfl _ _ _ h0 hc _ Try.underlying26 rfl
              · refine ob_val (fun _ => Below.refl _ _) fun a' w' hS hI hD => ⟨rfl, Value.int .i64 (k : Int), ?_, rfl⟩
                have h0 : a'.tmps.getD 5 undef = Value.int .i64 (k : Int) := hS.at rfl
                exact run_val (.tmp 5) (by first | exact .inl rfl | exact .inr rfl) _ h0
              · refine ob_val (fun _ => Below.refl _ _) fun a' w' hS hI hD => ⟨rfl, Value.pointer (some ⟨b', o' + k * 8, none⟩), ?_, rfl⟩
                have h0 : a'.tmps.getD 55 undef = Value.slice (some ⟨b', o', none⟩) ks'.length cap' := dep_at hD 6 (by kernel_rfl)
                have h1 : a'.tmps.getD 56 undef = Value.int .i64 (k : Int) := dep_at hD 7 (by kernel_rfl)
                simp only [execOp, Act.eval, h0, h1]
                clear h0 h1
                go_simp
              · refine ob_val (fun _ => Below.refl _ _) fun a' w' hS hI hD => ⟨rfl, ndV op2 s2 mn2 mx2 (kv2), ?_, rfl⟩
                have h0 : a'.tmps.getD 57 undef = Value.pointer (some ⟨b', o' + k * 8, none⟩) := dep_at hD 8 (by kernel_rfl)
                simp only [execOp, Act.eval, h0]
                exact run_load_nd' w' b' (o' + k * 8) op2 s2 mn2 mx2 kv2 (HR2.out w' hI)
              · refine ob_call fun a' w' hS hI hD => ⟨rfl, 13, #[ndV op1 s1 mn1 mx1 (kv1), ndV op2 s2 mn2 mx2 (kv2)], ?_, ?_⟩
                · have h0 : a'.tmps.getD 53 undef = ndV op1 s1 mn1 mx1 (kv1) := dep_at hD 4 (by kernel_rfl)
                  have h1 : a'.tmps.getD 58 undef = ndV op2 s2 mn2 mx2 (kv2) := dep_at hD 9 (by kernel_rfl)
                  rw [run_call 13 _ _ rfl (enters_of Try.func13 (by kernel_rfl) rfl)]
                  simp only [List.map_toArray, List.map_cons, List.map_nil, Act.eval, h0, h1]
                · have h0 : a'.tmps.getD 53 undef = ndV op1 s1 mn1 mx1 (kv1) := dep_at hD 4 (by kernel_rfl)
                  have h1 : a'.tmps.getD 58 undef = ndV op2 s2 mn2 mx2 (kv2) := dep_at hD 9 (by kernel_rfl)
                  exact (HT.out _ _ _ w' (HV1.out w' hI) (HV2.out w' hI)).mono fun e w'' ⟨he, hb⟩ => ⟨_, he, by rw [← HP.out]; rfl, hb, below_more hI hI.size hb⟩
              · refine ob_val (fun _ => Below.refl _ _) fun a' w' hS hI hD => ⟨rfl, Value.bool r, ?_, rfl⟩
                have h0 : a'.tmps.getD 59 undef = Value.bool r := dep_at hD 10 (by kernel_rfl)
                exact run_val (.tmp 59) (by first | exact .inl rfl | exact .inr rfl) _ h0
            · intro v3 w3 hI hT
              have h11 : v3 11 = .bool r := tall_at _ _ hT 11 (by decide) (by decide)
              have hsz3 := hI.size
              have HBW := Lib.hid (below_more hB (by omega) hI)
              have HG1' := Lib.hid (below_all hI HG1.out)
              have HG2' := Lib.hid (below_all hI HG2.out)
              clear hT HG1 HG2 hI hB
              simp only [putAll, Act.put, List.setIfInBounds_toArray, List.set_cons_succ, List.set_cons_zero, Nat.reduceAdd, h11]
              clear h11
              cases r
              · go_wp2_with (fail)
                go_ret
                exact ⟨by rw [eqB_false (fun e : Nd.mk op s mn mx ks = Nd.mk op s mn mx ks' => HNE.out (fun e2 => by rw [eqB_true e2] at HP; cases HP.out) (by injection e))]; rfl, HBW.out⟩
              · go_wp2_with (fail)
                exact ⟨⟨k + 1, by omega, by go_num, HEQ.out (eqB_iff.1 HP.out), HG1'.out, HG2'.out, HBW.out⟩, by simp [intOf]; omega⟩
          · obtain rfl : k = ks.length := by omega
            go_wp2_with (fail)
            go_ret
            have h1 := HTK.out
            rw [List.take_of_length_le (Nat.le_refl _), List.take_of_length_le (Nat.le_of_eq HL.out.symm)] at h1
            subst h1
            exact ⟨by rw [eqB_self]; rfl, hB⟩
      · rw [hbad] at h34
        have HN := Lib.hid (eqB_false (neq_some hbad))
        clear hbad
        simp only [putAll, Act.put, List.setIfInBounds_toArray, List.set_cons_succ, List.set_cons_zero, Nat.reduceAdd, h34]
        have HH := Lib.hid h34
        clear h34 HH
        go_wp2_with (fail)
        go_ret
        exact ⟨by rw [HN.out]; rfl, HBW.out⟩
theorem same_calls (t u : Nd) (Q : Nat → Prop) (v1 v2 : Value) (w : World) (h1 : NodeV w Q v1 t) (h2 : NodeV w Q v2 u) :
    Calls Try.prog 10 #[v1, v2] w fun e w' => e = .returned (.bool (eqB t u)) ∧ Below w.heap.size w w' := same_aux _ t u (Nat.le_refl _) Q v1 v2 w h1 h2
theorem rsame_calls (t u : Nd) (Q : Nat → Prop) (v1 v2 : Value) (w : World) (h1 : NodeV w Q v1 t) (h2 : NodeV w Q v2 u) :
    Calls Try.prog 13 #[v1, v2] w fun e w' => e = .returned (.bool (eqB t u)) ∧ Below w.heap.size w w' := rsame_aux _ t u (Nat.le_refl _) Q v1 v2 w h1 h2
end Go.Proofs.Ytekodfpjoehooaa.Bs
