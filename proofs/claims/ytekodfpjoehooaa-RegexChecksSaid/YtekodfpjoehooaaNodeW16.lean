/- The walks of shallow, its function, Check. -/
import Derived.Test.YtekodfpjoehooaaNodeW15
namespace Go.Proofs.Ytekodfpjoehooaa.Bs
open Go.RowKit Mem Reg
/-- may a pattern be, so deep at most? -/
def Nd.may : Nat → Nd → Bool
  | 0, _ => false
  | d + 1, .mk op _ mn mx ks => okN op mn mx ks.length && ks.all fun k => Nd.may d k
theorem not_any_not {α : Type} (p : α → Bool) (l : List α) : (!(l.any fun k => !(p k))) = l.all p := by
  induction l with
  | nil => rfl
  | cons x l ih => rw [List.any_cons, List.all_cons, ← ih]; cases p x <;> simp
theorem may_int (d : Int) (op : Int) (st : BitVec 256) (mn mx : Int) (ks : List Nd) : Nd.may d.toNat (.mk op st mn mx ks) = (((decide (0 < d)) && (okN op mn mx ks.length)) && (!(ks.any fun k => !(k.may (d - 1).toNat)))) := by
  rw [not_any_not]
  by_cases h : 0 < d
  · obtain ⟨n, hn⟩ : ∃ n : Nat, d.toNat = n + 1 := ⟨d.toNat - 1, by omega⟩
    rw [hn, show (d - 1).toNat = n by omega]
    simp [Nd.may, h]
  · rw [show d.toNat = 0 by omega]
    simp [Nd.may, h]
theorem shallow1_enters : ∀ args w, (callFunc 52 args).run Try.prog w = .ok (.enter 52 args) w := enters_of Try.func52 (by kernel_rfl) rfl
set_option maxHeartbeats 3200000 in
set_option maxRecDepth 100000 in
theorem shallow1_calls (Q : Nat → Prop) (k : Nd) (d : Int) (g t : Nat) (v : Value) (w : World) (hv : NodeV w Q v k) (h0 : 0 < d) (hd : d ≤ 1000) (hg : w.heap[g]? = some (.cells #[.int .i64 d] t (0, 0)))
    (hn : ∀ v w, NodeV w Q v k → Calls Try.prog 44 #[v, .int .i64 (d - 1)] w fun e w' => e = .returned (.bool (k.may (d - 1).toNat)) ∧ Below w.heap.size w w') :
    Calls Try.prog 52 #[v, .pointer (some ⟨g, 0, none⟩)] w fun e w' => e = .returned (.bool (!(k.may (d - 1).toNat))) ∧ Below w.heap.size w w' := by
  obtain ⟨op, s, mn, mx, ks⟩ := k
  obtain ⟨kv, rfl, hk⟩ := hv
  have hb : Below w.heap.size w (w.alloc (.cells (ndC op s mn mx kv) 28)) := (Below.refl _ _).alloc (Nat.le_refl _) _
  have HV : Hid (∀ w', Below w.heap.size w w' → NodeV w' Q (ndV op s mn mx kv) (.mk op s mn mx ks)) := Lib.hid fun w' hb => ⟨kv, rfl, hk.keep hb⟩
  have HN := Lib.hid hn
  have hc : (w.alloc (.cells (ndC op s mn mx kv) 28)).cell? ⟨g, 0, none⟩ = some (.int .i64 d) := by rw [cell_of_row _ g 0 _ _ _ (below_all hb hg)]; rfl
  clear hk hn hg hb
  generalize Nd.mk op s mn mx ks = t at *
  generalize t.may (d - 1).toNat = b at *
  go_enter Try.func52, Try.ntmps52
  go_wp2_with (first | (refine box_nd rfl (.tmp 0) rfl op s mn mx _ rfl ?_) | (refine ld_nd_mid rfl (.tmp 2) rfl _ _ rfl _ _ _ _ _ (range_row (heap_alloc_new _ _)) ?_) |
    (go_at_call 44; refine (HN.out _ _ (HV.out _ ((Below.refl _ _).alloc (Nat.le_refl _) _))).mono ?_; rintro e w1 ⟨rfl, hb1⟩))
  go_ret
  exact ⟨by cases b <;> rfl, below_more ((Below.refl w.heap.size w).alloc (Nat.le_refl _) (.cells (ndC op s mn mx kv) 28)) (by simp) hb1⟩
def shallowR (w : World) (op : Int) (st : BitVec 256) (mn mx : Int) (ks : List Nd) (A : Option Addr) (cap : Nat) (d : Int) : List (Value → World → Prop) := [
  fun v _ => v = Value.int .i64 d,
  fun v _ => v = Value.bool (decide (0 < (d : Int))),
  fun v _ => v = Value.bool (decide (0 < (d : Int))),
  fun v _ => (decide (0 < (d : Int))) = true → v = ndV op st mn mx (Value.slice A ks.length cap),
  fun v _ => (decide (0 < (d : Int))) = true → v = Value.bool (okN op mn mx ks.length),
  fun v _ => v = Value.bool ((decide (0 < (d : Int))) && (okN op mn mx ks.length)),
  fun v _ => v = Value.bool ((decide (0 < (d : Int))) && (okN op mn mx ks.length)),
  fun v _ => ((decide (0 < (d : Int))) && (okN op mn mx ks.length)) = true → v = Value.pointer (some ⟨w.heap.size, 7, none⟩),
  fun v _ => ((decide (0 < (d : Int))) && (okN op mn mx ks.length)) = true → v = Value.slice A ks.length cap,
  fun v _ => ((decide (0 < (d : Int))) && (okN op mn mx ks.length)) = true → v = Value.func (.func 52) #[] #[Value.pointer (some ⟨w.heap.size + 1, 0, none⟩)],
  fun v _ => ((decide (0 < (d : Int))) && (okN op mn mx ks.length)) = true → v = Value.bool (ks.any fun k => !(k.may (d - 1).toNat)),
  fun v _ => ((decide (0 < (d : Int))) && (okN op mn mx ks.length)) = true → v = Value.bool (!(ks.any fun k => !(k.may (d - 1).toNat))),
  fun v _ => v = Value.bool (((decide (0 < (d : Int))) && (okN op mn mx ks.length)) && (!(ks.any fun k => !(k.may (d - 1).toNat)))),
  fun v _ => v = Value.bool (((decide (0 < (d : Int))) && (okN op mn mx ks.length)) && (!(ks.any fun k => !(k.may (d - 1).toNat))))]
theorem shallowR_keep (w : World) (op : Int) (st : BitVec 256) (mn mx : Int) (ks : List Nd) (A : Option Addr) (cap : Nat) (d : Int) : PredsKeep (shallowR w op st mn mx ks A cap d) :=
  ⟨fun _ _ _ h _ => h,
  fun _ _ _ h _ => h,
  fun _ _ _ h _ => h,
  fun _ _ _ h _ => h,
  fun _ _ _ h _ => h,
  fun _ _ _ h _ => h,
  fun _ _ _ h _ => h,
  fun _ _ _ h _ => h,
  fun _ _ _ h _ => h,
  fun _ _ _ h _ => h,
  fun _ _ _ h _ => h,
  fun _ _ _ h _ => h,
  fun _ _ _ h _ => h,
  fun _ _ _ h _ => h, trivial⟩
set_option maxHeartbeats 6400000 in
set_option maxRecDepth 100000 in
theorem shallow_aux (n : Nat) : ∀ (d : Int), d.toNat ≤ n → -1000 ≤ d → d ≤ 1000 → ∀ (t : Nd) (Q : Nat → Prop) (v : Value) (w : World), NodeV w Q v t →
    Calls Try.prog 44 #[v, .int .i64 d] w fun e w' => e = .returned (.bool (t.may d.toNat)) ∧ Below w.heap.size w w' := by
  induction n with
  | zero =>
    intro d hdn h1 h2 t Q v w hv
    obtain ⟨op, st, mn, mx, ks⟩ := t
    have HV0 := Lib.hid hv
    obtain ⟨kv, rfl, hk⟩ := hv
    obtain ⟨A, cap, rfl, hlen⟩ := hk.form
    have HB2 := Lib.hid (below_alloc2 w (.cells (ndC op st mn mx (.slice A ks.length cap)) 28) (.cells #[.int .i64 d] 3))
    have HG1 := Lib.hid (heap_alloc2_old w (.cells (ndC op st mn mx (.slice A ks.length cap)) 28) (.cells #[.int .i64 d] 3))
    have HG2 := Lib.hid (heap_alloc2_new w (.cells (ndC op st mn mx (.slice A ks.length cap)) 28) (.cells #[.int .i64 d] 3))
    have hz2 : w.heap.size + 2 ≤ ((w.alloc (.cells (ndC op st mn mx (.slice A ks.length cap)) 28)).alloc (.cells #[.int .i64 d] 3)).heap.size := by simp
    have HV : Hid (∀ w', Below ((w.alloc (.cells (ndC op st mn mx (.slice A ks.length cap)) 28)).alloc (.cells #[.int .i64 d] 3)).heap.size ((w.alloc (.cells (ndC op st mn mx (.slice A ks.length cap)) 28)).alloc (.cells #[.int .i64 d] 3)) w' → NodeV w' Q (ndV op st mn mx (.slice A ks.length cap)) (.mk op st mn mx ks)) := Lib.hid fun w' hb => HV0.out.keep (below_more HB2.out (by omega) hb)
    have HCF : Hid (∀ w', Below ((w.alloc (.cells (ndC op st mn mx (.slice A ks.length cap)) 28)).alloc (.cells #[.int .i64 d] 3)).heap.size ((w.alloc (.cells (ndC op st mn mx (.slice A ks.length cap)) 28)).alloc (.cells #[.int .i64 d] 3)) w' → 0 < d → Calls Try.prog 40 #[.slice A ks.length cap, .func (.func 52) #[] #[.pointer (some ⟨w.heap.size + 1, 0, none⟩)]] w' fun e w'' => e = .returned (.bool (ks.any fun k => !(k.may (d - 1).toNat))) ∧ Below w'.heap.size w' w'') := Lib.hid fun w' hb h0 => by omega
    rw [may_int]
    have HD1 := Lib.hid h1
    have HD2 := Lib.hid h2
    clear hk HV0  hdn h1 h2
    go_enter Try.func44, Try.ntmps44
    go_upto_region 1 with (refine box_nd rfl (.tmp 0) rfl op st mn mx _ rfl ?_)
    generalize ((w.alloc (.cells (ndC op st mn mx (.slice A ks.length cap)) 28)).alloc (.cells #[.int .i64 d] 3)) = w2 at *
    refine region_seq (fun w' => Below w2.heap.size w2 w') (fun w1 w2 => Below w1.heap.size w1 w2) (predsT (shallowR w op st mn mx ks A cap d)) (by kernel_rfl) (by kernel_rfl) (by kernel_rfl) (preds_keep _ (shallowR_keep w op st mn mx ks A cap d)) (Below.refl _ _) ?_ ?_
    · refine ⟨?_, ?_, ?_, ?_, ?_, ?_, ?_, ?_, ?_, ?_, ?_, ?_, ?_, ?_, trivial⟩
      · refine ob_val (fun _ => Below.refl _ _) fun a' w' hS hI hD => ⟨rfl, Value.int .i64 d, ?_, rfl⟩
        have h0 : a'.tmps.getD 3 undef = Value.pointer (some ⟨w.heap.size + 1, 0, none⟩) := hS.at rfl
        have hc : w'.cell? ⟨w.heap.size + 1, 0, none⟩ = some (Value.int .i64 d) := (by rw [cell_of_row _ _ 0 _ _ _ (below_all hI HG2.out)]; rfl)
        exact run_load_cell _ (.tmp 3) rfl _ _ _ h0 hc _ Try.underlying3 rfl
      · refine ob_val (fun _ => Below.refl _ _) fun a' w' hS hI hD => ⟨rfl, Value.bool (decide (0 < (d : Int))), ?_, rfl⟩
        have h0 : a'.tmps.getD 5 undef = Value.int .i64 d := dep_at hD 0 (by kernel_rfl)
        exact run_gtr_i _ _ (.tmp 5) (.const (Value.int .i64 0)) rfl _ _ _ h0 (by rfl)
      · refine ob_val (fun _ => Below.refl _ _) fun a' w' hS hI hD => ⟨rfl, Value.bool (decide (0 < (d : Int))), ?_, rfl⟩
        have h0 : a'.tmps.getD 6 undef = Value.bool (decide (0 < (d : Int))) := dep_at hD 1 (by kernel_rfl)
        exact run_val (.tmp 6) (by first | exact .inl rfl | exact .inr rfl) _ h0
      · refine ob_when ((decide (0 < (d : Int))) = true) (fun hc0 => ?_) (fun hn a' w' hS hI hD => ⟨unwanted (c := (decide (0 < (d : Int)))) rfl (dep_at hD 2 (by kernel_rfl)) hn, fun hc => absurd hc hn⟩)
        refine ob_val (fun _ => Below.refl _ _) fun a' w' hS hI hD => ⟨wanted_eq (c := (decide (0 < (d : Int)))) rfl (dep_at hD 2 (by kernel_rfl)) hc0, ndV op st mn mx (Value.slice A ks.length cap), ?_, fun _ => rfl⟩
        have h0 : a'.tmps.getD 2 undef = Value.pointer (some ⟨w.heap.size, 0, none⟩) := hS.at rfl
        simp only [execOp, Act.eval, h0]
        exact run_load_nd' w' (w.heap.size) 0 op st mn mx _ (range_row (below_all hI HG1.out))
      · refine ob_when ((decide (0 < (d : Int))) = true) (fun hc0 => ?_) (fun hn a' w' hS hI hD => ⟨unwanted (c := (decide (0 < (d : Int)))) rfl (dep_at hD 2 (by kernel_rfl)) hn, fun hc => absurd hc hn⟩)
        refine ob_call fun a' w' hS hI hD => ⟨wanted_eq (c := (decide (0 < (d : Int)))) rfl (dep_at hD 2 (by kernel_rfl)) hc0, 51, #[ndV op st mn mx (Value.slice A ks.length cap)], ?_, ?_⟩
        · have h0 : ((decide (0 < (d : Int))) = true → a'.tmps.getD 8 undef = ndV op st mn mx (Value.slice A ks.length cap)) := dep_at hD 3 (by kernel_rfl)
          replace h0 := h0 hc0
          rw [run_call 51 _ _ rfl (enters_of Try.func51 (by kernel_rfl) rfl)]
          simp only [List.map_toArray, List.map_cons, List.map_nil, Act.eval, h0]
        · have h0 : ((decide (0 < (d : Int))) = true → a'.tmps.getD 8 undef = ndV op st mn mx (Value.slice A ks.length cap)) := dep_at hD 3 (by kernel_rfl)
          replace h0 := h0 hc0
          exact (counts_calls op st mn mx ks Q _ w' (HV.out w' hI)).mono fun e w'' ⟨he, hb⟩ => ⟨_, he, fun _ => rfl, hb, below_more hI hI.size hb⟩
      · refine ob_val (fun _ => Below.refl _ _) fun a' w' hS hI hD => ⟨rfl, Value.bool ((decide (0 < (d : Int))) && (okN op mn mx ks.length)), ?_, rfl⟩
        have h0 : a'.tmps.getD 7 undef = Value.bool (decide (0 < (d : Int))) := dep_at hD 2 (by kernel_rfl)
        have h1 : ((decide (0 < (d : Int))) = true → a'.tmps.getD 9 undef = Value.bool (okN op mn mx ks.length)) := dep_at hD 4 (by kernel_rfl)
        replace h1 : (decide (0 < (d : Int))) = true → a'.tmps.getD 9 undef = Value.bool (okN op mn mx ks.length) := fun hC => h1 hC
        exact run_pick_and (.tmp 7) (.tmp 9) rfl rfl _ _ h0 h1
      · refine ob_val (fun _ => Below.refl _ _) fun a' w' hS hI hD => ⟨rfl, Value.bool ((decide (0 < (d : Int))) && (okN op mn mx ks.length)), ?_, rfl⟩
        have h0 : a'.tmps.getD 10 undef = Value.bool ((decide (0 < (d : Int))) && (okN op mn mx ks.length)) := dep_at hD 5 (by kernel_rfl)
        exact run_val (.tmp 10) (by first | exact .inl rfl | exact .inr rfl) _ h0
      · refine ob_when (((decide (0 < (d : Int))) && (okN op mn mx ks.length)) = true) (fun hc0 => ?_) (fun hn a' w' hS hI hD => ⟨unwanted (c := ((decide (0 < (d : Int))) && (okN op mn mx ks.length))) rfl (dep_at hD 6 (by kernel_rfl)) hn, fun hc => absurd hc hn⟩)
        refine ob_val (fun _ => Below.refl _ _) fun a' w' hS hI hD => ⟨wanted_eq (c := ((decide (0 < (d : Int))) && (okN op mn mx ks.length))) rfl (dep_at hD 6 (by kernel_rfl)) hc0, Value.pointer (some ⟨w.heap.size, 7, none⟩), ?_, fun _ => rfl⟩
        have h0 : a'.tmps.getD 2 undef = Value.pointer (some ⟨w.heap.size, 0, none⟩) := hS.at rfl
        simp only [execOp, Act.eval, h0]
        clear h0
        go_simp
      · refine ob_when (((decide (0 < (d : Int))) && (okN op mn mx ks.length)) = true) (fun hc0 => ?_) (fun hn a' w' hS hI hD => ⟨unwanted (c := ((decide (0 < (d : Int))) && (okN op mn mx ks.length))) rfl (dep_at hD 6 (by kernel_rfl)) hn, fun hc => absurd hc hn⟩)
        refine ob_val (fun _ => Below.refl _ _) fun a' w' hS hI hD => ⟨wanted_eq (c := ((decide (0 < (d : Int))) && (okN op mn mx ks.length))) rfl (dep_at hD 6 (by kernel_rfl)) hc0, Value.slice A ks.length cap, ?_, fun _ => rfl⟩
        have h0 : (((decide (0 < (d : Int))) && (okN op mn mx ks.length)) = true → a'.tmps.getD 12 undef = Value.pointer (some ⟨w.heap.size, 7, none⟩)) := dep_at hD 7 (by kernel_rfl)
        replace h0 := h0 hc0
        have hc : w'.cell? ⟨w.heap.size, 7, none⟩ = some (Value.slice A ks.length cap) := (nd_cell (below_all hI HG1.out)).2.2.2
        exact run_load_cell _ (.tmp 12) rfl _ _ _ h0 hc _ Try.underlying26 rfl
      · refine ob_when (((decide (0 < (d : Int))) && (okN op mn mx ks.length)) = true) (fun hc0 => ?_) (fun hn a' w' hS hI hD => ⟨unwanted (c := ((decide (0 < (d : Int))) && (okN op mn mx ks.length))) rfl (dep_at hD 6 (by kernel_rfl)) hn, fun hc => absurd hc hn⟩)
        refine ob_val (fun _ => Below.refl _ _) fun a' w' hS hI hD => ⟨wanted_eq (c := ((decide (0 < (d : Int))) && (okN op mn mx ks.length))) rfl (dep_at hD 6 (by kernel_rfl)) hc0, Value.func (.func 52) #[] #[Value.pointer (some ⟨w.heap.size + 1, 0, none⟩)], ?_, fun _ => rfl⟩
        have h0 : a'.tmps.getD 3 undef = Value.pointer (some ⟨w.heap.size + 1, 0, none⟩) := hS.at rfl
        simp only [execOp, Act.eval, List.map_toArray, List.map_cons, List.map_nil, h0]
        rfl
      · refine ob_when (((decide (0 < (d : Int))) && (okN op mn mx ks.length)) = true) (fun hc0 => ?_) (fun hn a' w' hS hI hD => ⟨unwanted (c := ((decide (0 < (d : Int))) && (okN op mn mx ks.length))) rfl (dep_at hD 6 (by kernel_rfl)) hn, fun hc => absurd hc hn⟩)
        refine ob_call fun a' w' hS hI hD => ⟨wanted_eq (c := ((decide (0 < (d : Int))) && (okN op mn mx ks.length))) rfl (dep_at hD 6 (by kernel_rfl)) hc0, 40, #[Value.slice A ks.length cap, Value.func (.func 52) #[] #[Value.pointer (some ⟨w.heap.size + 1, 0, none⟩)]], ?_, ?_⟩
        · have h0 : (((decide (0 < (d : Int))) && (okN op mn mx ks.length)) = true → a'.tmps.getD 13 undef = Value.slice A ks.length cap) := dep_at hD 8 (by kernel_rfl)
          replace h0 := h0 hc0
          have h1 : (((decide (0 < (d : Int))) && (okN op mn mx ks.length)) = true → a'.tmps.getD 14 undef = Value.func (.func 52) #[] #[Value.pointer (some ⟨w.heap.size + 1, 0, none⟩)]) := dep_at hD 9 (by kernel_rfl)
          replace h1 := h1 hc0
          rw [run_call 40 _ _ rfl (enters_of Try.func40 (by kernel_rfl) rfl)]
          simp only [List.map_toArray, List.map_cons, List.map_nil, Act.eval, h0, h1]
        · have h0 : (((decide (0 < (d : Int))) && (okN op mn mx ks.length)) = true → a'.tmps.getD 13 undef = Value.slice A ks.length cap) := dep_at hD 8 (by kernel_rfl)
          replace h0 := h0 hc0
          have h1 : (((decide (0 < (d : Int))) && (okN op mn mx ks.length)) = true → a'.tmps.getD 14 undef = Value.func (.func 52) #[] #[Value.pointer (some ⟨w.heap.size + 1, 0, none⟩)]) := dep_at hD 9 (by kernel_rfl)
          replace h1 := h1 hc0
          exact (HCF.out w' hI (by simp at hc0; omega)).mono fun e w'' ⟨he, hb⟩ => ⟨_, he, fun _ => rfl, hb, below_more hI hI.size hb⟩
      · refine ob_when (((decide (0 < (d : Int))) && (okN op mn mx ks.length)) = true) (fun hc0 => ?_) (fun hn a' w' hS hI hD => ⟨unwanted (c := ((decide (0 < (d : Int))) && (okN op mn mx ks.length))) rfl (dep_at hD 6 (by kernel_rfl)) hn, fun hc => absurd hc hn⟩)
        refine ob_val (fun _ => Below.refl _ _) fun a' w' hS hI hD => ⟨wanted_eq (c := ((decide (0 < (d : Int))) && (okN op mn mx ks.length))) rfl (dep_at hD 6 (by kernel_rfl)) hc0, Value.bool (!(ks.any fun k => !(k.may (d - 1).toNat))), ?_, fun _ => rfl⟩
        have h0 : (((decide (0 < (d : Int))) && (okN op mn mx ks.length)) = true → a'.tmps.getD 15 undef = Value.bool (ks.any fun k => !(k.may (d - 1).toNat))) := dep_at hD 10 (by kernel_rfl)
        replace h0 := h0 hc0
        exact run_not _ (.tmp 15) rfl _ h0
      · refine ob_val (fun _ => Below.refl _ _) fun a' w' hS hI hD => ⟨rfl, Value.bool (((decide (0 < (d : Int))) && (okN op mn mx ks.length)) && (!(ks.any fun k => !(k.may (d - 1).toNat)))), ?_, rfl⟩
        have h0 : a'.tmps.getD 11 undef = Value.bool ((decide (0 < (d : Int))) && (okN op mn mx ks.length)) := dep_at hD 6 (by kernel_rfl)
        have h1 : (((decide (0 < (d : Int))) && (okN op mn mx ks.length)) = true → a'.tmps.getD 16 undef = Value.bool (!(ks.any fun k => !(k.may (d - 1).toNat)))) := dep_at hD 11 (by kernel_rfl)
        replace h1 : ((decide (0 < (d : Int))) && (okN op mn mx ks.length)) = true → a'.tmps.getD 16 undef = Value.bool (!(ks.any fun k => !(k.may (d - 1).toNat))) := fun hC => h1 hC
        exact run_pick_and (.tmp 11) (.tmp 16) rfl rfl _ _ h0 h1
      · refine ob_val (fun _ => Below.refl _ _) fun a' w' hS hI hD => ⟨rfl, Value.bool (((decide (0 < (d : Int))) && (okN op mn mx ks.length)) && (!(ks.any fun k => !(k.may (d - 1).toNat)))), ?_, rfl⟩
        have h0 : a'.tmps.getD 17 undef = Value.bool (((decide (0 < (d : Int))) && (okN op mn mx ks.length)) && (!(ks.any fun k => !(k.may (d - 1).toNat)))) := dep_at hD 12 (by kernel_rfl)
        exact run_val (.tmp 17) (by first | exact .inl rfl | exact .inr rfl) _ h0
    · intro v w' hI hT
      have h13 : v 13 = .bool (((decide (0 < d)) && (okN op mn mx ks.length)) && (!(ks.any fun k => !(k.may (d - 1).toNat)))) := tall_at _ _ hT 13 (by decide) (by decide)
      have H13 := Lib.hid h13
      have HBW := Lib.hid (below_more HB2.out (by omega) hI)
      clear h13 hT HG1 HG2 hI HB2
      simp only [putAll, Act.put, List.setIfInBounds_toArray, List.set_cons_succ, List.set_cons_zero, Nat.reduceAdd]
      go_wp2_with (fail)
      go_ret
      exact ⟨by rw [← H13.out]; rfl, HBW.out⟩
  | succ n IH =>
    intro d hdn h1 h2 t Q v w hv
    obtain ⟨op, st, mn, mx, ks⟩ := t
    have HV0 := Lib.hid hv
    obtain ⟨kv, rfl, hk⟩ := hv
    obtain ⟨A, cap, rfl, hlen⟩ := hk.form
    have HB2 := Lib.hid (below_alloc2 w (.cells (ndC op st mn mx (.slice A ks.length cap)) 28) (.cells #[.int .i64 d] 3))
    have HG1 := Lib.hid (heap_alloc2_old w (.cells (ndC op st mn mx (.slice A ks.length cap)) 28) (.cells #[.int .i64 d] 3))
    have HG2 := Lib.hid (heap_alloc2_new w (.cells (ndC op st mn mx (.slice A ks.length cap)) 28) (.cells #[.int .i64 d] 3))
    have hz2 : w.heap.size + 2 ≤ ((w.alloc (.cells (ndC op st mn mx (.slice A ks.length cap)) 28)).alloc (.cells #[.int .i64 d] 3)).heap.size := by simp
    have HV : Hid (∀ w', Below ((w.alloc (.cells (ndC op st mn mx (.slice A ks.length cap)) 28)).alloc (.cells #[.int .i64 d] 3)).heap.size ((w.alloc (.cells (ndC op st mn mx (.slice A ks.length cap)) 28)).alloc (.cells #[.int .i64 d] 3)) w' → NodeV w' Q (ndV op st mn mx (.slice A ks.length cap)) (.mk op st mn mx ks)) := Lib.hid fun w' hb => HV0.out.keep (below_more HB2.out (by omega) hb)
    have HCF : Hid (∀ w', Below ((w.alloc (.cells (ndC op st mn mx (.slice A ks.length cap)) 28)).alloc (.cells #[.int .i64 d] 3)).heap.size ((w.alloc (.cells (ndC op st mn mx (.slice A ks.length cap)) 28)).alloc (.cells #[.int .i64 d] 3)) w' → 0 < d → Calls Try.prog 40 #[.slice A ks.length cap, .func (.func 52) #[] #[.pointer (some ⟨w.heap.size + 1, 0, none⟩)]] w' fun e w'' => e = .returned (.bool (ks.any fun k => !(k.may (d - 1).toNat))) ∧ Below w'.heap.size w' w'') := Lib.hid fun w' hb h0 => by
      refine containsFunc_calls _ _ Q (fun k => !(k.may (d - 1).toNat)) _ ks w' shallow1_enters (hk.keep (below_more HB2.out (by omega) hb)) fun i k hi v w0 hv0 hb0 hw0 => ?_
      exact shallow1_calls Q k d (w.heap.size + 1) _ v w0 hv0 h0 h2 (below_all hb0 (below_all hb HG2.out)) fun v w1 hv1 => IH (d - 1) (by omega) (by omega) (by omega) k Q v w1 hv1
    rw [may_int]
    have HD1 := Lib.hid h1
    have HD2 := Lib.hid h2
    clear hk HV0 IH hdn h1 h2
    go_enter Try.func44, Try.ntmps44
    go_upto_region 1 with (refine box_nd rfl (.tmp 0) rfl op st mn mx _ rfl ?_)
    generalize ((w.alloc (.cells (ndC op st mn mx (.slice A ks.length cap)) 28)).alloc (.cells #[.int .i64 d] 3)) = w2 at *
    refine region_seq (fun w' => Below w2.heap.size w2 w') (fun w1 w2 => Below w1.heap.size w1 w2) (predsT (shallowR w op st mn mx ks A cap d)) (by kernel_rfl) (by kernel_rfl) (by kernel_rfl) (preds_keep _ (shallowR_keep w op st mn mx ks A cap d)) (Below.refl _ _) ?_ ?_
    · refine ⟨?_, ?_, ?_, ?_, ?_, ?_, ?_, ?_, ?_, ?_, ?_, ?_, ?_, ?_, trivial⟩
      · refine ob_val (fun _ => Below.refl _ _) fun a' w' hS hI hD => ⟨rfl, Value.int .i64 d, ?_, rfl⟩
        have h0 : a'.tmps.getD 3 undef = Value.pointer (some ⟨w.heap.size + 1, 0, none⟩) := hS.at rfl
        have hc : w'.cell? ⟨w.heap.size + 1, 0, none⟩ = some (Value.int .i64 d) := (by rw [cell_of_row _ _ 0 _ _ _ (below_all hI HG2.out)]; rfl)
        exact run_load_cell _ (.tmp 3) rfl _ _ _ h0 hc _ Try.underlying3 rfl
      · refine ob_val (fun _ => Below.refl _ _) fun a' w' hS hI hD => ⟨rfl, Value.bool (decide (0 < (d : Int))), ?_, rfl⟩
        have h0 : a'.tmps.getD 5 undef = Value.int .i64 d := dep_at hD 0 (by kernel_rfl)
        exact run_gtr_i _ _ (.tmp 5) (.const (Value.int .i64 0)) rfl _ _ _ h0 (by rfl)
      · refine ob_val (fun _ => Below.refl _ _) fun a' w' hS hI hD => ⟨rfl, Value.bool (decide (0 < (d : Int))), ?_, rfl⟩
        have h0 : a'.tmps.getD 6 undef = Value.bool (decide (0 < (d : Int))) := dep_at hD 1 (by kernel_rfl)
        exact run_val (.tmp 6) (by first | exact .inl rfl | exact .inr rfl) _ h0
      · refine ob_when ((decide (0 < (d : Int))) = true) (fun hc0 => ?_) (fun hn a' w' hS hI hD => ⟨unwanted (c := (decide (0 < (d : Int)))) rfl (dep_at hD 2 (by kernel_rfl)) hn, fun hc => absurd hc hn⟩)
        refine ob_val (fun _ => Below.refl _ _) fun a' w' hS hI hD => ⟨wanted_eq (c := (decide (0 < (d : Int)))) rfl (dep_at hD 2 (by kernel_rfl)) hc0, ndV op st mn mx (Value.slice A ks.length cap), ?_, fun _ => rfl⟩
        have h0 : a'.tmps.getD 2 undef = Value.pointer (some ⟨w.heap.size, 0, none⟩) := hS.at rfl
        simp only [execOp, Act.eval, h0]
        exact run_load_nd' w' (w.heap.size) 0 op st mn mx _ (range_row (below_all hI HG1.out))
      · refine ob_when ((decide (0 < (d : Int))) = true) (fun hc0 => ?_) (fun hn a' w' hS hI hD => ⟨unwanted (c := (decide (0 < (d : Int)))) rfl (dep_at hD 2 (by kernel_rfl)) hn, fun hc => absurd hc hn⟩)
        refine ob_call fun a' w' hS hI hD => ⟨wanted_eq (c := (decide (0 < (d : Int)))) rfl (dep_at hD 2 (by kernel_rfl)) hc0, 51, #[ndV op st mn mx (Value.slice A ks.length cap)], ?_, ?_⟩
        · have h0 : ((decide (0 < (d : Int))) = true → a'.tmps.getD 8 undef = ndV op st mn mx (Value.slice A ks.length cap)) := dep_at hD 3 (by kernel_rfl)
          replace h0 := h0 hc0
          rw [run_call 51 _ _ rfl (enters_of Try.func51 (by kernel_rfl) rfl)]
          simp only [List.map_toArray, List.map_cons, List.map_nil, Act.eval, h0]
        · have h0 : ((decide (0 < (d : Int))) = true → a'.tmps.getD 8 undef = ndV op st mn mx (Value.slice A ks.length cap)) := dep_at hD 3 (by kernel_rfl)
          replace h0 := h0 hc0
          exact (counts_calls op st mn mx ks Q _ w' (HV.out w' hI)).mono fun e w'' ⟨he, hb⟩ => ⟨_, he, fun _ => rfl, hb, below_more hI hI.size hb⟩
      · refine ob_val (fun _ => Below.refl _ _) fun a' w' hS hI hD => ⟨rfl, Value.bool ((decide (0 < (d : Int))) && (okN op mn mx ks.length)), ?_, rfl⟩
        have h0 : a'.tmps.getD 7 undef = Value.bool (decide (0 < (d : Int))) := dep_at hD 2 (by kernel_rfl)
        have h1 : ((decide (0 < (d : Int))) = true → a'.tmps.getD 9 undef = Value.bool (okN op mn mx ks.length)) := dep_at hD 4 (by kernel_rfl)
        replace h1 : (decide (0 < (d : Int))) = true → a'.tmps.getD 9 undef = Value.bool (okN op mn mx ks.length) := fun hC => h1 hC
        exact run_pick_and (.tmp 7) (.tmp 9) rfl rfl _ _ h0 h1
      · refine ob_val (fun _ => Below.refl _ _) fun a' w' hS hI hD => ⟨rfl, Value.bool ((decide (0 < (d : Int))) && (okN op mn mx ks.length)), ?_, rfl⟩
        have h0 : a'.tmps.getD 10 undef = Value.bool ((decide (0 < (d : Int))) && (okN op mn mx ks.length)) := dep_at hD 5 (by kernel_rfl)
        exact run_val (.tmp 10) (by first | exact .inl rfl | exact .inr rfl) _ h0
      · refine ob_when (((decide (0 < (d : Int))) && (okN op mn mx ks.length)) = true) (fun hc0 => ?_) (fun hn a' w' hS hI hD => ⟨unwanted (c := ((decide (0 < (d : Int))) && (okN op mn mx ks.length))) rfl (dep_at hD 6 (by kernel_rfl)) hn, fun hc => absurd hc hn⟩)
        refine ob_val (fun _ => Below.refl _ _) fun a' w' hS hI hD => ⟨wanted_eq (c := ((decide (0 < (d : Int))) && (okN op mn mx ks.length))) rfl (dep_at hD 6 (by kernel_rfl)) hc0, Value.pointer (some ⟨w.heap.size, 7, none⟩), ?_, fun _ => rfl⟩
        have h0 : a'.tmps.getD 2 undef = Value.pointer (some ⟨w.heap.size, 0, none⟩) := hS.at rfl
        simp only [execOp, Act.eval, h0]
        clear h0
        go_simp
      · refine ob_when (((decide (0 < (d : Int))) && (okN op mn mx ks.length)) = true) (fun hc0 => ?_) (fun hn a' w' hS hI hD => ⟨unwanted (c := ((decide (0 < (d : Int))) && (okN op mn mx ks.length))) rfl (dep_at hD 6 (by kernel_rfl)) hn, fun hc => absurd hc hn⟩)
        refine ob_val (fun _ => Below.refl _ _) fun a' w' hS hI hD => ⟨wanted_eq (c := ((decide (0 < (d : Int))) && (okN op mn mx ks.length))) rfl (dep_at hD 6 (by kernel_rfl)) hc0, Value.slice A ks.length cap, ?_, fun _ => rfl⟩
        have h0 : (((decide (0 < (d : Int))) && (okN op mn mx ks.length)) = true → a'.tmps.getD 12 undef = Value.pointer (some ⟨w.heap.size, 7, none⟩)) := dep_at hD 7 (by kernel_rfl)
        replace h0 := h0 hc0
        have hc : w'.cell? ⟨w.heap.size, 7, none⟩ = some (Value.slice A ks.length cap) := (nd_cell (below_all hI HG1.out)).2.2.2
        exact run_load_cell _ (.tmp 12) rfl _ _ _ h0 hc _ Try.underlying26 rfl
      · refine ob_when (((decide (0 < (d : Int))) && (okN op mn mx ks.length)) = true) (fun hc0 => ?_) (fun hn a' w' hS hI hD => ⟨unwanted (c := ((decide (0 < (d : Int))) && (okN op mn mx ks.length))) rfl (dep_at hD 6 (by kernel_rfl)) hn, fun hc => absurd hc hn⟩)
        refine ob_val (fun _ => Below.refl _ _) fun a' w' hS hI hD => ⟨wanted_eq (c := ((decide (0 < (d : Int))) && (okN op mn mx ks.length))) rfl (dep_at hD 6 (by kernel_rfl)) hc0, Value.func (.func 52) #[] #[Value.pointer (some ⟨w.heap.size + 1, 0, none⟩)], ?_, fun _ => rfl⟩
        have h0 : a'.tmps.getD 3 undef = Value.pointer (some ⟨w.heap.size + 1, 0, none⟩) := hS.at rfl
        simp only [execOp, Act.eval, List.map_toArray, List.map_cons, List.map_nil, h0]
        rfl
      · refine ob_when (((decide (0 < (d : Int))) && (okN op mn mx ks.length)) = true) (fun hc0 => ?_) (fun hn a' w' hS hI hD => ⟨unwanted (c := ((decide (0 < (d : Int))) && (okN op mn mx ks.length))) rfl (dep_at hD 6 (by kernel_rfl)) hn, fun hc => absurd hc hn⟩)
        refine ob_call fun a' w' hS hI hD => ⟨wanted_eq (c := ((decide (0 < (d : Int))) && (okN op mn mx ks.length))) rfl (dep_at hD 6 (by kernel_rfl)) hc0, 40, #[Value.slice A ks.length cap, Value.func (.func 52) #[] #[Value.pointer (some ⟨w.heap.size + 1, 0, none⟩)]], ?_, ?_⟩
        · have h0 : (((decide (0 < (d : Int))) && (okN op mn mx ks.length)) = true → a'.tmps.getD 13 undef = Value.slice A ks.length cap) := dep_at hD 8 (by kernel_rfl)
          replace h0 := h0 hc0
          have h1 : (((decide (0 < (d : Int))) && (okN op mn mx ks.length)) = true → a'.tmps.getD 14 undef = Value.func (.func 52) #[] #[Value.pointer (some ⟨w.heap.size + 1, 0, none⟩)]) := dep_at hD 9 (by kernel_rfl)
          replace h1 := h1 hc0
          rw [run_call 40 _ _ rfl (enters_of Try.func40 (by kernel_rfl) rfl)]
          simp only [List.map_toArray, List.map_cons, List.map_nil, Act.eval, h0, h1]
        · have h0 : (((decide (0 < (d : Int))) && (okN op mn mx ks.length)) = true → a'.tmps.getD 13 undef = Value.slice A ks.length cap) := dep_at hD 8 (by kernel_rfl)
          replace h0 := h0 hc0
          have h1 : (((decide (0 < (d : Int))) && (okN op mn mx ks.length)) = true → a'.tmps.getD 14 undef = Value.func (.func 52) #[] #[Value.pointer (some ⟨w.heap.size + 1, 0, none⟩)]) := dep_at hD 9 (by kernel_rfl)
          replace h1 := h1 hc0
          exact (HCF.out w' hI (by simp at hc0; omega)).mono fun e w'' ⟨he, hb⟩ => ⟨_, he, fun _ => rfl, hb, below_more hI hI.size hb⟩
      · refine ob_when (((decide (0 < (d : Int))) && (okN op mn mx ks.length)) = true) (fun hc0 => ?_) (fun hn a' w' hS hI hD => ⟨unwanted (c := ((decide (0 < (d : Int))) && (okN op mn mx ks.length))) rfl (dep_at hD 6 (by kernel_rfl)) hn, fun hc => absurd hc hn⟩)
        refine ob_val (fun _ => Below.refl _ _) fun a' w' hS hI hD => ⟨wanted_eq (c := ((decide (0 < (d : Int))) && (okN op mn mx ks.length))) rfl (dep_at hD 6 (by kernel_rfl)) hc0, Value.bool (!(ks.any fun k => !(k.may (d - 1).toNat))), ?_, fun _ => rfl⟩
        have h0 : (((decide (0 < (d : Int))) && (okN op mn mx ks.length)) = true → a'.tmps.getD 15 undef = Value.bool (ks.any fun k => !(k.may (d - 1).toNat))) := dep_at hD 10 (by kernel_rfl)
        replace h0 := h0 hc0
        exact run_not _ (.tmp 15) rfl _ h0
      · refine ob_val (fun _ => Below.refl _ _) fun a' w' hS hI hD => ⟨rfl, Value.bool (((decide (0 < (d : Int))) && (okN op mn mx ks.length)) && (!(ks.any fun k => !(k.may (d - 1).toNat)))), ?_, rfl⟩
        have h0 : a'.tmps.getD 11 undef = Value.bool ((decide (0 < (d : Int))) && (okN op mn mx ks.length)) := dep_at hD 6 (by kernel_rfl)
        have h1 : (((decide (0 < (d : Int))) && (okN op mn mx ks.length)) = true → a'.tmps.getD 16 undef = Value.bool (!(ks.any fun k => !(k.may (d - 1).toNat)))) := dep_at hD 11 (by kernel_rfl)
        replace h1 : ((decide (0 < (d : Int))) && (okN op mn mx ks.length)) = true → a'.tmps.getD 16 undef = Value.bool (!(ks.any fun k => !(k.may (d - 1).toNat))) := fun hC => h1 hC
        exact run_pick_and (.tmp 11) (.tmp 16) rfl rfl _ _ h0 h1
      · refine ob_val (fun _ => Below.refl _ _) fun a' w' hS hI hD => ⟨rfl, Value.bool (((decide (0 < (d : Int))) && (okN op mn mx ks.length)) && (!(ks.any fun k => !(k.may (d - 1).toNat)))), ?_, rfl⟩
        have h0 : a'.tmps.getD 17 undef = Value.bool (((decide (0 < (d : Int))) && (okN op mn mx ks.length)) && (!(ks.any fun k => !(k.may (d - 1).toNat)))) := dep_at hD 12 (by kernel_rfl)
        exact run_val (.tmp 17) (by first | exact .inl rfl | exact .inr rfl) _ h0
    · intro v w' hI hT
      have h13 : v 13 = .bool (((decide (0 < d)) && (okN op mn mx ks.length)) && (!(ks.any fun k => !(k.may (d - 1).toNat)))) := tall_at _ _ hT 13 (by decide) (by decide)
      have H13 := Lib.hid h13
      have HBW := Lib.hid (below_more HB2.out (by omega) hI)
      clear h13 hT HG1 HG2 hI HB2
      simp only [putAll, Act.put, List.setIfInBounds_toArray, List.set_cons_succ, List.set_cons_zero, Nat.reduceAdd]
      go_wp2_with (fail)
      go_ret
      exact ⟨by rw [← H13.out]; rfl, HBW.out⟩
theorem shallow_calls (d : Int) (h1 : -1000 ≤ d) (h2 : d ≤ 1000) (t : Nd) (Q : Nat → Prop) (v : Value) (w : World) (hv : NodeV w Q v t) :
    Calls Try.prog 44 #[v, .int .i64 d] w fun e w' => e = .returned (.bool (t.may d.toNat)) ∧ Below w.heap.size w w' := shallow_aux _ d (Nat.le_refl _) h1 h2 t Q v w hv
/-- what Check tells -/
def Nd.check (t : Nd) : Int := if t.may 64 then 0 else 1
set_option maxHeartbeats 3200000 in
set_option maxRecDepth 100000 in
theorem check_calls (t : Nd) (Q : Nat → Prop) (v : Value) (w : World) (hv : NodeV w Q v t) :
    Calls Try.prog 31 #[v] w fun e w' => e = .returned (.int .i64 t.check) ∧ Below w.heap.size w w' := by
  have HS := Lib.hid (fun w h => shallow_calls 64 (by decide) (by decide) t Q v w h)
  have HCK : Hid (t.check = if t.may 64 then 0 else 1) := Lib.hid rfl
  generalize t.check = ck at *
  have HV0 := Lib.hid hv
  obtain ⟨op, st, mn, mx, ks⟩ := t
  obtain ⟨kv, rfl, hk⟩ := hv
  have HV : Hid (∀ w', Below w.heap.size w w' → NodeV w' Q (ndV op st mn mx kv) (.mk op st mn mx ks)) := Lib.hid fun w' hb => HV0.out.keep hb
  clear hk HV0
  generalize Nd.mk op st mn mx ks = t at *
  rw [show (64 : Int).toNat = 64 from rfl] at HS
  generalize t.may 64 = b at *
  cases b
  all_goals
    go_enter Try.func31, Try.ntmps31
    go_wp2_with (first | (refine box_nd rfl (.tmp 0) rfl op st mn mx _ rfl ?_) | (refine ld_nd_mid rfl (.tmp 1) rfl _ _ rfl _ _ _ _ _ (range_row (heap_alloc_new _ _)) ?_) |
      (go_at_call 44; refine (HS.out _ (HV.out _ ((Below.refl _ _).alloc (Nat.le_refl _) _))).mono ?_; rintro e w1 ⟨rfl, hb1⟩))
    go_ret
    exact ⟨by rw [HCK.out]; rfl, below_more ((Below.refl w.heap.size w).alloc (Nat.le_refl _) (.cells (ndC op st mn mx kv) 28)) (by simp) hb1⟩
end Go.Proofs.Ytekodfpjoehooaa.Bs
