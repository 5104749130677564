/- The walk of RegexTells. -/
import Derived.Test.YtekodfpjoehooaaNodeW24
namespace Go.Proofs.Ytekodfpjoehooaa.Bs
open Go.RowKit Mem Reg
def tells8 (gx gy : Nat) (t u : Nd) (rx ry : Value) : List (Value → World → Prop) := [
  fun v _ => v = ndV t.op t.set t.mn t.mx rx,
  fun v _ => v = Value.bool t.null,
  fun v _ => v = ndV t.op t.set t.mn t.mx rx,
  fun v _ => v = Value.bool t.null,
  fun v _ => v = Value.bool true,
  fun v _ => v = Value.bool true,
  fun v _ => v = ndV t.op t.set t.mn t.mx rx,
  fun v _ => v = Value.int .i64 (t.size : Int),
  fun v _ => v = ndV t.op t.set t.mn t.mx rx,
  fun v _ => v = Value.int .i64 (t.size : Int),
  fun v _ => v = Value.bool true,
  fun v _ => v = Value.bool true,
  fun v _ => v = Value.bool true,
  fun v _ => v = ndV t.op t.set t.mn t.mx rx,
  fun v _ => v = setV (t.bytes),
  fun v _ => v = ndV t.op t.set t.mn t.mx rx,
  fun v _ => v = setV (t.bytes),
  fun v _ => v = Value.bool true,
  fun v _ => v = Value.bool true,
  fun v _ => v = Value.bool true,
  fun v _ => v = ndV t.op t.set t.mn t.mx rx,
  fun v _ => v = ndV u.op u.set u.mn u.mx ry,
  fun v _ => v = Value.bool (eqB t u),
  fun v _ => v = ndV t.op t.set t.mn t.mx rx,
  fun v _ => v = ndV u.op u.set u.mn u.mx ry,
  fun v _ => v = Value.bool (eqB t u),
  fun v _ => v = Value.bool true,
  fun v _ => v = Value.bool true,
  fun v _ => v = Value.bool true,
  fun v _ => v = ndV t.op t.set t.mn t.mx rx,
  fun vv ww => NodeV ww (fun _ => True) vv (Nd.back t),
  fun v _ => v = ndV t.op t.set t.mn t.mx rx,
  fun vv ww => NodeV ww (fun _ => True) vv (Nd.back t),
  fun v _ => v = Value.bool true,
  fun v _ => v = Value.bool true,
  fun v _ => v = Value.bool true]
theorem tells8_keep (gx gy : Nat) (t u : Nd) (rx ry : Value) : PredsKeep (tells8 gx gy t u rx ry) :=
  ⟨fun _ _ _ h _ => h,
  fun _ _ _ h _ => h,
  fun _ _ _ h _ => h,
  fun _ _ _ h _ => h,
  fun _ _ _ h _ => h,
  fun _ _ _ h _ => h,
  fun _ _ _ h _ => h,
  fun _ _ _ h _ => h,
  fun _ _ _ h _ => h,
  fun _ _ _ h _ => h,
  fun _ _ _ h _ => h,
  fun _ _ _ h _ => h,
  fun _ _ _ h _ => h,
  fun _ _ _ h _ => h,
  fun _ _ _ h _ => h,
  fun _ _ _ h _ => h,
  fun _ _ _ h _ => h,
  fun _ _ _ h _ => h,
  fun _ _ _ h _ => h,
  fun _ _ _ h _ => h,
  fun _ _ _ h _ => h,
  fun _ _ _ h _ => h,
  fun _ _ _ h _ => h,
  fun _ _ _ h _ => h,
  fun _ _ _ h _ => h,
  fun _ _ _ h _ => h,
  fun _ _ _ h _ => h,
  fun _ _ _ h _ => h,
  fun _ _ _ h _ => h,
  fun _ _ _ h _ => h,
  fun _ _ _ h hE => NodeV.keep h hE,
  fun _ _ _ h _ => h,
  fun _ _ _ h hE => NodeV.keep h hE,
  fun _ _ _ h _ => h,
  fun _ _ _ h _ => h,
  fun _ _ _ h _ => h, trivial⟩
set_option maxHeartbeats 6400000 in
set_option maxRecDepth 100000 in
theorem tells_long (a b : ByteArray) (ha : a.size ≤ 9223372036854775807) (hb : b.size ≤ 9223372036854775807) (h : ¬ (a.size ≤ 60 ∧ b.size ≤ 60)) (w : World) :
    Calls Try.prog 4 #[.string a, .string b] w fun e w' => e = .returned (.bool true) ∧ Below w.heap.size w w' := by
  by_cases h1 : a.size ≤ 60
  · have h2 : ¬ b.size ≤ 60 := by omega
    have e1 : decide ((60 : Int) < (a.size : Int)) = false := decide_eq_false (by omega)
    have e2 : decide ((60 : Int) < (b.size : Int)) = true := decide_eq_true (by omega)
    clear h h1 h2
    go_enter Try.func4, Try.ntmps4
    go_wp2_with (go_at_call 8; refine (awake_calls _).mono ?_; rintro e w1 ⟨rfl, hb1⟩)
    go_ret
    exact ⟨rfl, hb1⟩
  · have e1 : decide ((60 : Int) < (a.size : Int)) = true := decide_eq_true (by omega)
    clear h h1
    go_enter Try.func4, Try.ntmps4
    go_wp2_with (go_at_call 8; refine (awake_calls _).mono ?_; rintro e w1 ⟨rfl, hb1⟩)
    go_ret
    exact ⟨rfl, hb1⟩
set_option maxHeartbeats 6400000 in
set_option maxRecDepth 100000 in
theorem tells_short (a b : ByteArray) (ha : a.size ≤ 60) (hb : b.size ≤ 60) (w : World) :
    Calls Try.prog 4 #[.string a, .string b] w fun e w' => e = .returned (.bool true) ∧ Below w.heap.size w w' := by
  have e1 : decide ((60 : Int) < (a.size : Int)) = false := decide_eq_false (by omega)
  have e2 : decide ((60 : Int) < (b.size : Int)) = false := decide_eq_false (by omega)
  go_enter Try.func4, Try.ntmps4
  have tok1 : True := trivial
  go_upto_region 8 with (first | (go_at_call 8; refine (awake_calls _).mono ?_; rintro e w1 ⟨rfl, hb1⟩; have HB1 := Lib.hid hb1; have hz1 := hb1.size; clear hb1) |
    (have tk := tok1; go_at_call 9; refine (make_calls a (by omega) _).mono ?_; clear tk tok1; rintro e w2 ⟨⟨t, rx, hst, rfl, hkt⟩, hb2⟩; have HKX := Lib.hid hkt; have HOX := Lib.hid hkt.oneCell; have HB2 := Lib.hid (below_more HB1.out hz1 hb2); have hz2 := hb2.size; clear hkt hb2) |
    (refine st_nd rfl (.tmp 6) (.tmp 20) rfl _ rfl t.op t.set t.mn t.mx rx rfl HOX.out _ rfl _ (heap_alloc_new _ _) ?_; intro w3 hg3 hgr3; have HB23 : Hid (Below w2.heap.size w2 w3) := Lib.hid (((Below.refl _ _).alloc (Nat.le_refl _) _).grown hgr3 (by simp) (fun k e => by cases e; omega)); have HGX3 := Lib.hid hg3; have HKX3 := Lib.hid (HKX.out.keep HB23.out); have hz3 : w2.heap.size + 1 ≤ w3.heap.size := (by simpa using hgr3.size); have HB3 := Lib.hid (below_more HB2.out (by omega) HB23.out); clear hg3 hgr3; have tok2 : True := trivial) |
    (have tk := tok2; go_at_call 9; refine (make_calls b (by omega) _).mono ?_; clear tk tok2; rintro e w4 ⟨⟨u, ry, hsu, rfl, hku⟩, hb4⟩; have HKY := Lib.hid hku; have HOY := Lib.hid hku.oneCell; have HGX4 := Lib.hid (below_all hb4 HGX3.out); have HKX4 := Lib.hid (HKX3.out.keep hb4); have hz4 := hb4.size; have HB4 := Lib.hid (below_more HB3.out (by omega) hb4); clear hku hb4) |
    (refine st_nd rfl (.tmp 7) (.tmp 22) rfl _ rfl u.op u.set u.mn u.mx ry rfl HOY.out _ rfl _ (heap_alloc_new _ _) ?_; intro w5 hg5 hgr5; have HB45 : Hid (Below w4.heap.size w4 w5) := Lib.hid (((Below.refl _ _).alloc (Nat.le_refl _) _).grown hgr5 (by simp) (fun k e => by cases e; omega)); have HGY := Lib.hid hg5; have HGX := Lib.hid (below_all HB45.out HGX4.out); have HKX5 := Lib.hid (HKX4.out.keep HB45.out); have HKY5 := Lib.hid (HKY.out.keep HB45.out); have hz5 : w4.heap.size + 1 ≤ w5.heap.size := (by simpa using hgr5.size); have HB5 := Lib.hid (below_more HB4.out (by omega) HB45.out); clear hg5 hgr5))
  have HNX : Hid (∀ w', Below w5.heap.size w5 w' → NodeV w' (fun _ => True) (ndV t.op t.set t.mn t.mx rx) t) := Lib.hid fun w' hb => nodeV_of (t, rx) ((HKX5.out.keep hb).wide fun _ _ _ => trivial)
  have HNY : Hid (∀ w', Below w5.heap.size w5 w' → NodeV w' (fun _ => True) (ndV u.op u.set u.mn u.mx ry) u) := Lib.hid fun w' hb => nodeV_of (u, ry) ((HKY5.out.keep hb).wide fun _ _ _ => trivial)
  have hz : w.heap.size ≤ w5.heap.size := by omega
  clear HB1 HB2 HB23 HB3 HB4 HB45 HGX3 HGX4 HKX HKX3 HKX4 HKX5 HKY HKY5 HOX HOY e1 e2
  generalize w2.heap.size = gx at *
  generalize w4.heap.size = gy at *
  refine region_all (by kernel_rfl) (fun w' => Below w5.heap.size w5 w') (fun w1 w2 => Below w1.heap.size w1 w2) (predsT (tells8 gx gy t u rx ry)) (by kernel_rfl) (by kernel_rfl) (by kernel_rfl) (preds_keep _ (tells8_keep gx gy t u rx ry)) (Below.refl _ _).drew ?_ ?_
  · refine ⟨?_, ?_, ?_, ?_, ?_, ?_, ?_, ?_, ?_, ?_, ?_, ?_, ?_, ?_, ?_, ?_, ?_, ?_, ?_, ?_, ?_, ?_, ?_, ?_, ?_, ?_, ?_, ?_, ?_, ?_, ?_, ?_, ?_, ?_, ?_, ?_, trivial⟩
    · refine ob_val (fun _ => Below.refl _ _) fun a' w' hS hI hD => ⟨rfl, ndV t.op t.set t.mn t.mx rx, ?_, rfl⟩
      have h0 : a'.tmps.getD 6 undef = Value.pointer (some ⟨gx, 0, none⟩) := hS.at rfl
      simp only [execOp, Act.eval, h0]
      exact run_load_nd' w' gx 0 t.op t.set t.mn t.mx rx (range_row (below_all hI HGX.out))
    · refine ob_call fun a' w' hS hI hD => ⟨rfl, 23, #[ndV t.op t.set t.mn t.mx rx], ?_, ?_⟩
      · have h0 : a'.tmps.getD 23 undef = ndV t.op t.set t.mn t.mx rx := dep_at hD 0 (by kernel_rfl)
        rw [run_call 23 _ _ rfl (enters_of Try.func23 (by kernel_rfl) rfl)]
        simp only [List.map_toArray, List.map_cons, List.map_nil, Act.eval, h0]
      · have h0 : a'.tmps.getD 23 undef = ndV t.op t.set t.mn t.mx rx := dep_at hD 0 (by kernel_rfl)
        exact (null_calls t _ _ w' (HNX.out w' hI)).mono fun e w'' ⟨he, hb⟩ => ⟨_, he, rfl, hb, below_more hI hI.size hb⟩
    · refine ob_val (fun _ => Below.refl _ _) fun a' w' hS hI hD => ⟨rfl, ndV t.op t.set t.mn t.mx rx, ?_, rfl⟩
      have h0 : a'.tmps.getD 6 undef = Value.pointer (some ⟨gx, 0, none⟩) := hS.at rfl
      simp only [execOp, Act.eval, h0]
      exact run_load_nd' w' gx 0 t.op t.set t.mn t.mx rx (range_row (below_all hI HGX.out))
    · refine ob_call fun a' w' hS hI hD => ⟨rfl, 24, #[ndV t.op t.set t.mn t.mx rx], ?_, ?_⟩
      · have h0 : a'.tmps.getD 25 undef = ndV t.op t.set t.mn t.mx rx := dep_at hD 2 (by kernel_rfl)
        rw [run_call 24 _ _ rfl (enters_of Try.func24 (by kernel_rfl) rfl)]
        simp only [List.map_toArray, List.map_cons, List.map_nil, Act.eval, h0]
      · have h0 : a'.tmps.getD 25 undef = ndV t.op t.set t.mn t.mx rx := dep_at hD 2 (by kernel_rfl)
        exact (rnull_calls t _ _ w' (HNX.out w' hI)).mono fun e w'' ⟨he, hb⟩ => ⟨_, he, rfl, hb, below_more hI hI.size hb⟩
    · refine ob_val (fun _ => Below.refl _ _) fun a' w' hS hI hD => ⟨rfl, Value.bool true, ?_, rfl⟩
      have h0 : a'.tmps.getD 24 undef = Value.bool t.null := dep_at hD 1 (by kernel_rfl)
      have h1 : a'.tmps.getD 26 undef = Value.bool t.null := dep_at hD 3 (by kernel_rfl)
      exact (run_eql_b _ _ (.tmp 24) (.tmp 26) rfl _ _ h0 h1 (by kernel_rfl)).trans (by simp)
    · refine ob_val (fun _ => Below.refl _ _) fun a' w' hS hI hD => ⟨rfl, Value.bool true, ?_, rfl⟩
      have h0 : a'.tmps.getD 27 undef = Value.bool true := dep_at hD 4 (by kernel_rfl)
      exact run_val (.tmp 27) (by first | exact .inl rfl | exact .inr rfl) _ h0
    · refine ob_val (fun _ => Below.refl _ _) fun a' w' hS hI hD => ⟨wanted_eq (c := true) rfl (dep_at hD 5 (by kernel_rfl)) rfl, ndV t.op t.set t.mn t.mx rx, ?_, rfl⟩
      have h0 : a'.tmps.getD 6 undef = Value.pointer (some ⟨gx, 0, none⟩) := hS.at rfl
      simp only [execOp, Act.eval, h0]
      exact run_load_nd' w' gx 0 t.op t.set t.mn t.mx rx (range_row (below_all hI HGX.out))
    · refine ob_call fun a' w' hS hI hD => ⟨wanted_eq (c := true) rfl (dep_at hD 5 (by kernel_rfl)) rfl, 25, #[ndV t.op t.set t.mn t.mx rx], ?_, ?_⟩
      · have h0 : a'.tmps.getD 29 undef = ndV t.op t.set t.mn t.mx rx := dep_at hD 6 (by kernel_rfl)
        rw [run_call 25 _ _ rfl (enters_of Try.func25 (by kernel_rfl) rfl)]
        simp only [List.map_toArray, List.map_cons, List.map_nil, Act.eval, h0]
      · have h0 : a'.tmps.getD 29 undef = ndV t.op t.set t.mn t.mx rx := dep_at hD 6 (by kernel_rfl)
        exact (size_calls t _ _ w' (HNX.out w' hI) (by omega)).mono fun e w'' ⟨he, hb⟩ => ⟨_, he, rfl, hb, below_more hI hI.size hb⟩
    · refine ob_val (fun _ => Below.refl _ _) fun a' w' hS hI hD => ⟨wanted_eq (c := true) rfl (dep_at hD 5 (by kernel_rfl)) rfl, ndV t.op t.set t.mn t.mx rx, ?_, rfl⟩
      have h0 : a'.tmps.getD 6 undef = Value.pointer (some ⟨gx, 0, none⟩) := hS.at rfl
      simp only [execOp, Act.eval, h0]
      exact run_load_nd' w' gx 0 t.op t.set t.mn t.mx rx (range_row (below_all hI HGX.out))
    · refine ob_call fun a' w' hS hI hD => ⟨wanted_eq (c := true) rfl (dep_at hD 5 (by kernel_rfl)) rfl, 26, #[ndV t.op t.set t.mn t.mx rx], ?_, ?_⟩
      · have h0 : a'.tmps.getD 31 undef = ndV t.op t.set t.mn t.mx rx := dep_at hD 8 (by kernel_rfl)
        rw [run_call 26 _ _ rfl (enters_of Try.func26 (by kernel_rfl) rfl)]
        simp only [List.map_toArray, List.map_cons, List.map_nil, Act.eval, h0]
      · have h0 : a'.tmps.getD 31 undef = ndV t.op t.set t.mn t.mx rx := dep_at hD 8 (by kernel_rfl)
        exact (rsize_calls t _ _ w' (HNX.out w' hI) (by omega)).mono fun e w'' ⟨he, hb⟩ => ⟨_, he, rfl, hb, below_more hI hI.size hb⟩
    · refine ob_val (fun _ => Below.refl _ _) fun a' w' hS hI hD => ⟨wanted_eq (c := true) rfl (dep_at hD 5 (by kernel_rfl)) rfl, Value.bool true, ?_, rfl⟩
      have h0 : a'.tmps.getD 30 undef = Value.int .i64 (t.size : Int) := dep_at hD 7 (by kernel_rfl)
      have h1 : a'.tmps.getD 32 undef = Value.int .i64 (t.size : Int) := dep_at hD 9 (by kernel_rfl)
      exact (run_eql_i _ _ (.tmp 30) (.tmp 32) rfl _ _ _ h0 h1).trans (by simp)
    · refine ob_val (fun _ => Below.refl _ _) fun a' w' hS hI hD => ⟨rfl, Value.bool true, ?_, rfl⟩
      have h0 : a'.tmps.getD 28 undef = Value.bool true := dep_at hD 5 (by kernel_rfl)
      have h1 : a'.tmps.getD 33 undef = Value.bool true := dep_at hD 10 (by kernel_rfl)
      simp only [execOp, Act.eval, h0, h1]
      rfl
    · refine ob_val (fun _ => Below.refl _ _) fun a' w' hS hI hD => ⟨rfl, Value.bool true, ?_, rfl⟩
      have h0 : a'.tmps.getD 34 undef = Value.bool true := dep_at hD 11 (by kernel_rfl)
      exact run_val (.tmp 34) (by first | exact .inl rfl | exact .inr rfl) _ h0
    · refine ob_val (fun _ => Below.refl _ _) fun a' w' hS hI hD => ⟨wanted_eq (c := true) rfl (dep_at hD 12 (by kernel_rfl)) rfl, ndV t.op t.set t.mn t.mx rx, ?_, rfl⟩
      have h0 : a'.tmps.getD 6 undef = Value.pointer (some ⟨gx, 0, none⟩) := hS.at rfl
      simp only [execOp, Act.eval, h0]
      exact run_load_nd' w' gx 0 t.op t.set t.mn t.mx rx (range_row (below_all hI HGX.out))
    · refine ob_call fun a' w' hS hI hD => ⟨wanted_eq (c := true) rfl (dep_at hD 12 (by kernel_rfl)) rfl, 27, #[ndV t.op t.set t.mn t.mx rx], ?_, ?_⟩
      · have h0 : a'.tmps.getD 36 undef = ndV t.op t.set t.mn t.mx rx := dep_at hD 13 (by kernel_rfl)
        rw [run_call 27 _ _ rfl (enters_of Try.func27 (by kernel_rfl) rfl)]
        simp only [List.map_toArray, List.map_cons, List.map_nil, Act.eval, h0]
      · have h0 : a'.tmps.getD 36 undef = ndV t.op t.set t.mn t.mx rx := dep_at hD 13 (by kernel_rfl)
        exact (bytes_calls t _ _ w' (HNX.out w' hI) (by omega)).mono fun e w'' ⟨he, hb⟩ => ⟨_, he, rfl, hb, below_more hI hI.size hb⟩
    · refine ob_val (fun _ => Below.refl _ _) fun a' w' hS hI hD => ⟨wanted_eq (c := true) rfl (dep_at hD 12 (by kernel_rfl)) rfl, ndV t.op t.set t.mn t.mx rx, ?_, rfl⟩
      have h0 : a'.tmps.getD 6 undef = Value.pointer (some ⟨gx, 0, none⟩) := hS.at rfl
      simp only [execOp, Act.eval, h0]
      exact run_load_nd' w' gx 0 t.op t.set t.mn t.mx rx (range_row (below_all hI HGX.out))
    · refine ob_call fun a' w' hS hI hD => ⟨wanted_eq (c := true) rfl (dep_at hD 12 (by kernel_rfl)) rfl, 28, #[ndV t.op t.set t.mn t.mx rx], ?_, ?_⟩
      · have h0 : a'.tmps.getD 38 undef = ndV t.op t.set t.mn t.mx rx := dep_at hD 15 (by kernel_rfl)
        rw [run_call 28 _ _ rfl (enters_of Try.func28 (by kernel_rfl) rfl)]
        simp only [List.map_toArray, List.map_cons, List.map_nil, Act.eval, h0]
      · have h0 : a'.tmps.getD 38 undef = ndV t.op t.set t.mn t.mx rx := dep_at hD 15 (by kernel_rfl)
        exact (rbytes_calls t _ _ w' (HNX.out w' hI)).mono fun e w'' ⟨he, hb⟩ => ⟨_, he, rfl, hb, below_more hI hI.size hb⟩
    · refine ob_val (fun _ => Below.refl _ _) fun a' w' hS hI hD => ⟨wanted_eq (c := true) rfl (dep_at hD 12 (by kernel_rfl)) rfl, Value.bool true, ?_, rfl⟩
      have h0 : a'.tmps.getD 37 undef = setV (t.bytes) := dep_at hD 14 (by kernel_rfl)
      have h1 : a'.tmps.getD 39 undef = setV (t.bytes) := dep_at hD 16 (by kernel_rfl)
      exact (run_eql_set (.tmp 37) (.tmp 39) _ rfl _ _ h0 h1).trans (by simp)
    · refine ob_val (fun _ => Below.refl _ _) fun a' w' hS hI hD => ⟨rfl, Value.bool true, ?_, rfl⟩
      have h0 : a'.tmps.getD 35 undef = Value.bool true := dep_at hD 12 (by kernel_rfl)
      have h1 : a'.tmps.getD 40 undef = Value.bool true := dep_at hD 17 (by kernel_rfl)
      simp only [execOp, Act.eval, h0, h1]
      rfl
    · refine ob_val (fun _ => Below.refl _ _) fun a' w' hS hI hD => ⟨rfl, Value.bool true, ?_, rfl⟩
      have h0 : a'.tmps.getD 41 undef = Value.bool true := dep_at hD 18 (by kernel_rfl)
      exact run_val (.tmp 41) (by first | exact .inl rfl | exact .inr rfl) _ h0
    · refine ob_val (fun _ => Below.refl _ _) fun a' w' hS hI hD => ⟨wanted_eq (c := true) rfl (dep_at hD 19 (by kernel_rfl)) rfl, ndV t.op t.set t.mn t.mx rx, ?_, rfl⟩
      have h0 : a'.tmps.getD 6 undef = Value.pointer (some ⟨gx, 0, none⟩) := hS.at rfl
      simp only [execOp, Act.eval, h0]
      exact run_load_nd' w' gx 0 t.op t.set t.mn t.mx rx (range_row (below_all hI HGX.out))
    · refine ob_val (fun _ => Below.refl _ _) fun a' w' hS hI hD => ⟨wanted_eq (c := true) rfl (dep_at hD 19 (by kernel_rfl)) rfl, ndV u.op u.set u.mn u.mx ry, ?_, rfl⟩
      have h0 : a'.tmps.getD 7 undef = Value.pointer (some ⟨gy, 0, none⟩) := hS.at rfl
      simp only [execOp, Act.eval, h0]
      exact run_load_nd' w' gy 0 u.op u.set u.mn u.mx ry (range_row (below_all hI HGY.out))
    · refine ob_call fun a' w' hS hI hD => ⟨wanted_eq (c := true) rfl (dep_at hD 19 (by kernel_rfl)) rfl, 10, #[ndV t.op t.set t.mn t.mx rx, ndV u.op u.set u.mn u.mx ry], ?_, ?_⟩
      · have h0 : a'.tmps.getD 43 undef = ndV t.op t.set t.mn t.mx rx := dep_at hD 20 (by kernel_rfl)
        have h1 : a'.tmps.getD 44 undef = ndV u.op u.set u.mn u.mx ry := dep_at hD 21 (by kernel_rfl)
        rw [run_call 10 _ _ rfl (enters_of Try.func10 (by kernel_rfl) rfl)]
        simp only [List.map_toArray, List.map_cons, List.map_nil, Act.eval, h0, h1]
      · have h0 : a'.tmps.getD 43 undef = ndV t.op t.set t.mn t.mx rx := dep_at hD 20 (by kernel_rfl)
        have h1 : a'.tmps.getD 44 undef = ndV u.op u.set u.mn u.mx ry := dep_at hD 21 (by kernel_rfl)
        exact (same_calls t u _ _ _ w' (HNX.out w' hI) (HNY.out w' hI)).mono fun e w'' ⟨he, hb⟩ => ⟨_, he, rfl, hb, below_more hI hI.size hb⟩
    · refine ob_val (fun _ => Below.refl _ _) fun a' w' hS hI hD => ⟨wanted_eq (c := true) rfl (dep_at hD 19 (by kernel_rfl)) rfl, ndV t.op t.set t.mn t.mx rx, ?_, rfl⟩
      have h0 : a'.tmps.getD 6 undef = Value.pointer (some ⟨gx, 0, none⟩) := hS.at rfl
      simp only [execOp, Act.eval, h0]
      exact run_load_nd' w' gx 0 t.op t.set t.mn t.mx rx (range_row (below_all hI HGX.out))
    · refine ob_val (fun _ => Below.refl _ _) fun a' w' hS hI hD => ⟨wanted_eq (c := true) rfl (dep_at hD 19 (by kernel_rfl)) rfl, ndV u.op u.set u.mn u.mx ry, ?_, rfl⟩
      have h0 : a'.tmps.getD 7 undef = Value.pointer (some ⟨gy, 0, none⟩) := hS.at rfl
      simp only [execOp, Act.eval, h0]
      exact run_load_nd' w' gy 0 u.op u.set u.mn u.mx ry (range_row (below_all hI HGY.out))
    · refine ob_call fun a' w' hS hI hD => ⟨wanted_eq (c := true) rfl (dep_at hD 19 (by kernel_rfl)) rfl, 13, #[ndV t.op t.set t.mn t.mx rx, ndV u.op u.set u.mn u.mx ry], ?_, ?_⟩
      · have h0 : a'.tmps.getD 46 undef = ndV t.op t.set t.mn t.mx rx := dep_at hD 23 (by kernel_rfl)
        have h1 : a'.tmps.getD 47 undef = ndV u.op u.set u.mn u.mx ry := dep_at hD 24 (by kernel_rfl)
        rw [run_call 13 _ _ rfl (enters_of Try.func13 (by kernel_rfl) rfl)]
        simp only [List.map_toArray, List.map_cons, List.map_nil, Act.eval, h0, h1]
      · have h0 : a'.tmps.getD 46 undef = ndV t.op t.set t.mn t.mx rx := dep_at hD 23 (by kernel_rfl)
        have h1 : a'.tmps.getD 47 undef = ndV u.op u.set u.mn u.mx ry := dep_at hD 24 (by kernel_rfl)
        exact (rsame_calls t u _ _ _ w' (HNX.out w' hI) (HNY.out w' hI)).mono fun e w'' ⟨he, hb⟩ => ⟨_, he, rfl, hb, below_more hI hI.size hb⟩
    · refine ob_val (fun _ => Below.refl _ _) fun a' w' hS hI hD => ⟨wanted_eq (c := true) rfl (dep_at hD 19 (by kernel_rfl)) rfl, Value.bool true, ?_, rfl⟩
      have h0 : a'.tmps.getD 45 undef = Value.bool (eqB t u) := dep_at hD 22 (by kernel_rfl)
      have h1 : a'.tmps.getD 48 undef = Value.bool (eqB t u) := dep_at hD 25 (by kernel_rfl)
      exact (run_eql_b _ _ (.tmp 45) (.tmp 48) rfl _ _ h0 h1 (by kernel_rfl)).trans (by simp)
    · refine ob_val (fun _ => Below.refl _ _) fun a' w' hS hI hD => ⟨rfl, Value.bool true, ?_, rfl⟩
      have h0 : a'.tmps.getD 42 undef = Value.bool true := dep_at hD 19 (by kernel_rfl)
      have h1 : a'.tmps.getD 49 undef = Value.bool true := dep_at hD 26 (by kernel_rfl)
      simp only [execOp, Act.eval, h0, h1]
      rfl
    · refine ob_val (fun _ => Below.refl _ _) fun a' w' hS hI hD => ⟨rfl, Value.bool true, ?_, rfl⟩
      have h0 : a'.tmps.getD 50 undef = Value.bool true := dep_at hD 27 (by kernel_rfl)
      exact run_val (.tmp 50) (by first | exact .inl rfl | exact .inr rfl) _ h0
    · refine ob_val (fun _ => Below.refl _ _) fun a' w' hS hI hD => ⟨wanted_eq (c := true) rfl (dep_at hD 28 (by kernel_rfl)) rfl, ndV t.op t.set t.mn t.mx rx, ?_, rfl⟩
      have h0 : a'.tmps.getD 6 undef = Value.pointer (some ⟨gx, 0, none⟩) := hS.at rfl
      simp only [execOp, Act.eval, h0]
      exact run_load_nd' w' gx 0 t.op t.set t.mn t.mx rx (range_row (below_all hI HGX.out))
    · refine ob_call fun a' w' hS hI hD => ⟨wanted_eq (c := true) rfl (dep_at hD 28 (by kernel_rfl)) rfl, 29, #[ndV t.op t.set t.mn t.mx rx], ?_, ?_⟩
      · have h0 : a'.tmps.getD 52 undef = ndV t.op t.set t.mn t.mx rx := dep_at hD 29 (by kernel_rfl)
        rw [run_call 29 _ _ rfl (enters_of Try.func29 (by kernel_rfl) rfl)]
        simp only [List.map_toArray, List.map_cons, List.map_nil, Act.eval, h0]
      · have h0 : a'.tmps.getD 52 undef = ndV t.op t.set t.mn t.mx rx := dep_at hD 29 (by kernel_rfl)
        exact (back_calls t (by omega) _ _ w' (HNX.out w' hI)).mono fun e w'' ⟨⟨r, he, hk⟩, hb⟩ => ⟨_, he, nodeV_of ((Nd.back t), r) (hk.wide fun _ _ _ => trivial), hb, below_more hI hI.size hb⟩
    · refine ob_val (fun _ => Below.refl _ _) fun a' w' hS hI hD => ⟨wanted_eq (c := true) rfl (dep_at hD 28 (by kernel_rfl)) rfl, ndV t.op t.set t.mn t.mx rx, ?_, rfl⟩
      have h0 : a'.tmps.getD 6 undef = Value.pointer (some ⟨gx, 0, none⟩) := hS.at rfl
      simp only [execOp, Act.eval, h0]
      exact run_load_nd' w' gx 0 t.op t.set t.mn t.mx rx (range_row (below_all hI HGX.out))
    · refine ob_call fun a' w' hS hI hD => ⟨wanted_eq (c := true) rfl (dep_at hD 28 (by kernel_rfl)) rfl, 30, #[ndV t.op t.set t.mn t.mx rx], ?_, ?_⟩
      · have h0 : a'.tmps.getD 54 undef = ndV t.op t.set t.mn t.mx rx := dep_at hD 31 (by kernel_rfl)
        rw [run_call 30 _ _ rfl (enters_of Try.func30 (by kernel_rfl) rfl)]
        simp only [List.map_toArray, List.map_cons, List.map_nil, Act.eval, h0]
      · have h0 : a'.tmps.getD 54 undef = ndV t.op t.set t.mn t.mx rx := dep_at hD 31 (by kernel_rfl)
        exact (rback_calls t (by omega) _ _ w' (HNX.out w' hI)).mono fun e w'' ⟨⟨r, he, hk⟩, hb⟩ => ⟨_, he, nodeV_of ((Nd.back t), r) (hk.wide fun _ _ _ => trivial), hb, below_more hI hI.size hb⟩
    · refine ob_call fun a' w' hS hI hD => ⟨wanted_eq (c := true) rfl (dep_at hD 28 (by kernel_rfl)) rfl, 13, #[a'.tmps.getD 53 undef, a'.tmps.getD 55 undef], ?_, ?_⟩
      · rw [run_call 13 _ _ rfl (enters_of Try.func13 (by kernel_rfl) rfl)]
        simp only [List.map_toArray, List.map_cons, List.map_nil, Act.eval]
      · have h0 : NodeV w' (fun _ => True) (a'.tmps.getD 53 undef) (Nd.back t) := dep_at hD 30 (by kernel_rfl)
        have h1 : NodeV w' (fun _ => True) (a'.tmps.getD 55 undef) (Nd.back t) := dep_at hD 32 (by kernel_rfl)
        exact (rsame_calls _ _ _ _ _ w' h0 h1).mono fun e w'' ⟨he, hb⟩ => ⟨_, he, congrArg Value.bool (eqB_self _), hb, below_more hI hI.size hb⟩
    · refine ob_val (fun _ => Below.refl _ _) fun a' w' hS hI hD => ⟨rfl, Value.bool true, ?_, rfl⟩
      have h0 : a'.tmps.getD 51 undef = Value.bool true := dep_at hD 28 (by kernel_rfl)
      have h1 : a'.tmps.getD 56 undef = Value.bool true := dep_at hD 33 (by kernel_rfl)
      simp only [execOp, Act.eval, h0, h1]
      rfl
    · refine ob_val (fun _ => Below.refl _ _) fun a' w' hS hI hD => ⟨rfl, Value.bool true, ?_, rfl⟩
      have h0 : a'.tmps.getD 57 undef = Value.bool true := dep_at hD 34 (by kernel_rfl)
      exact run_val (.tmp 57) (by first | exact .inl rfl | exact .inr rfl) _ h0
  · intro v w6 hI hT
    have h35 : v 35 = .bool true := tall_at _ _ hT 35 (by decide) (by decide)
    have HBW := Lib.hid (below_more HB5.out hz hI)
    clear hT hI HGX HGY HNX HNY HB5
    simp only [putAll, Act.put, List.setIfInBounds_toArray, List.set_cons_succ, List.set_cons_zero, Nat.reduceAdd, h35]
    clear h35
    go_wp2_with (fail)
    go_ret
    exact ⟨rfl, HBW.out⟩
theorem tells_calls (a b : ByteArray) (ha : a.size ≤ 9223372036854775807) (hb : b.size ≤ 9223372036854775807) (w : World) :
    Calls Try.prog 4 #[.string a, .string b] w fun e w' => e = .returned (.bool true) ∧ Below w.heap.size w w' := by
  by_cases h : a.size ≤ 60 ∧ b.size ≤ 60
  · exact tells_short a b h.1 h.2 w
  · exact tells_long a b ha hb h w
end Go.Proofs.Ytekodfpjoehooaa.Bs
