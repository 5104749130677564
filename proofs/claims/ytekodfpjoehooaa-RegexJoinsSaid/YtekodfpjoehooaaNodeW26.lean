/- The walk of RegexBack. -/
import Derived.Test.YtekodfpjoehooaaNodeW24
namespace Go.Proofs.Ytekodfpjoehooaa.Bs
open Go.RowKit Mem Reg
theorem not_null (t : Nd) : (Nd.mk 5 0#256 0 0 [t]).null = !t.null := by rw [null_mk]; simp [nullOp]
def back8 (gx gy : Nat) (t : Nd) (rx ry : Value) : List (Value → World → Prop) := [
  fun v _ => v = ndV (Nd.back t).op (Nd.back t).set (Nd.back t).mn (Nd.back t).mx ry,
  fun vv ww => NodeV ww (fun _ => True) vv (Nd.back (Nd.back t)),
  fun v _ => v = ndV t.op t.set t.mn t.mx rx,
  fun v _ => v = Value.bool true,
  fun v _ => v = Value.bool true,
  fun v _ => v = ndV (Nd.back t).op (Nd.back t).set (Nd.back t).mn (Nd.back t).mx ry,
  fun v _ => v = Value.int .i64 (t.size : Int),
  fun v _ => v = ndV t.op t.set t.mn t.mx rx,
  fun v _ => v = Value.int .i64 (t.size : Int),
  fun v _ => v = Value.bool true,
  fun v _ => v = Value.bool true,
  fun v _ => v = Value.bool true,
  fun v _ => v = ndV (Nd.back t).op (Nd.back t).set (Nd.back t).mn (Nd.back t).mx ry,
  fun v _ => v = setV (t.bytes),
  fun v _ => v = ndV t.op t.set t.mn t.mx rx,
  fun v _ => v = setV (t.bytes),
  fun v _ => v = Value.bool true,
  fun v _ => v = Value.bool true,
  fun v _ => v = Value.bool true,
  fun v _ => v = ndV (Nd.back t).op (Nd.back t).set (Nd.back t).mn (Nd.back t).mx ry,
  fun v _ => v = Value.bool t.null,
  fun v _ => v = ndV t.op t.set t.mn t.mx rx,
  fun v _ => v = Value.bool t.null,
  fun v _ => v = Value.bool true,
  fun v _ => v = Value.bool true,
  fun v _ => v = Value.bool true,
  fun v _ => v = ndV (Nd.back t).op (Nd.back t).set (Nd.back t).mn (Nd.back t).mx ry,
  fun v _ => v = Value.int .i64 t.check,
  fun v _ => v = ndV t.op t.set t.mn t.mx rx,
  fun v _ => v = Value.int .i64 t.check,
  fun v _ => v = Value.bool true,
  fun v _ => v = Value.bool true,
  fun v _ => v = Value.bool true,
  fun v _ => v = ndV t.op t.set t.mn t.mx rx,
  fun vv ww => NodeV ww (fun _ => True) vv (Nd.mk 5 0#256 0 0 [t]),
  fun v _ => v = Value.bool (!t.null),
  fun v _ => v = ndV t.op t.set t.mn t.mx rx,
  fun v _ => v = Value.bool t.null,
  fun v _ => v = Value.bool true,
  fun v _ => v = Value.bool true,
  fun v _ => v = Value.bool true]
theorem back8_keep (gx gy : Nat) (t : Nd) (rx ry : Value) : PredsKeep (back8 gx gy t rx ry) :=
  ⟨fun _ _ _ h _ => h,
  fun _ _ _ h hE => NodeV.keep h hE,
  fun _ _ _ h _ => h,
  fun _ _ _ h _ => h,
  fun _ _ _ h _ => h,
  fun _ _ _ h _ => h,
  fun _ _ _ h _ => h,
  fun _ _ _ h _ => h,
  fun _ _ _ h _ => h,
  fun _ _ _ h _ => h,
  fun _ _ _ h _ => h,
  fun _ _ _ h _ => h,
  fun _ _ _ h _ => h,
  fun _ _ _ h _ => h,
  fun _ _ _ h _ => h,
  fun _ _ _ h _ => h,
  fun _ _ _ h _ => h,
  fun _ _ _ h _ => h,
  fun _ _ _ h _ => h,
  fun _ _ _ h _ => h,
  fun _ _ _ h _ => h,
  fun _ _ _ h _ => h,
  fun _ _ _ h _ => h,
  fun _ _ _ h _ => h,
  fun _ _ _ h _ => h,
  fun _ _ _ h _ => h,
  fun _ _ _ h _ => h,
  fun _ _ _ h _ => h,
  fun _ _ _ h _ => h,
  fun _ _ _ h _ => h,
  fun _ _ _ h _ => h,
  fun _ _ _ h _ => h,
  fun _ _ _ h _ => h,
  fun _ _ _ h _ => h,
  fun _ _ _ h hE => NodeV.keep h hE,
  fun _ _ _ h _ => h,
  fun _ _ _ h _ => h,
  fun _ _ _ h _ => h,
  fun _ _ _ h _ => h,
  fun _ _ _ h _ => h,
  fun _ _ _ h _ => h, trivial⟩
set_option maxHeartbeats 6400000 in
set_option maxRecDepth 100000 in
theorem backl_calls (a : ByteArray) (ha : a.size ≤ 9223372036854775807) (w : World) :
    Calls Try.prog 6 #[.string a] w fun e w' => e = .returned (.bool true) ∧ Below w.heap.size w w' := by
  by_cases h1 : a.size ≤ 60
  · have e1 : decide ((60 : Int) < (a.size : Int)) = false := decide_eq_false (by omega)
    go_enter Try.func6, Try.ntmps6
    go_upto_region 8 with (first | (go_at_call 8; refine (awake_calls _).mono ?_; rintro e w1 ⟨rfl, hb1⟩; have HB1 := Lib.hid hb1; have hz1 := hb1.size; clear hb1) |
      (go_at_call 9; refine (make_calls a (by omega) _).mono ?_; rintro e w2 ⟨⟨t, rx, hst, rfl, hkt⟩, hb2⟩; have HKX := Lib.hid hkt; have HOX := Lib.hid hkt.oneCell; have HB2 := Lib.hid (below_more HB1.out hz1 hb2); have hz2 := hb2.size; clear hkt hb2) |
      (refine st_nd rfl (.tmp 4) (.tmp 13) rfl _ rfl t.op t.set t.mn t.mx rx rfl HOX.out _ rfl _ (heap_alloc_new _ _) ?_; intro w3 hg3 hgr3; have HB23 : Hid (Below w2.heap.size w2 w3) := Lib.hid (((Below.refl _ _).alloc (Nat.le_refl _) _).grown hgr3 (by simp) (fun k e => by cases e; omega)); have HGX3 := Lib.hid hg3; have HKX3 := Lib.hid (HKX.out.keep HB23.out); have hz3 : w2.heap.size + 1 ≤ w3.heap.size := (by simpa using hgr3.size); have HB3 := Lib.hid (below_more HB2.out (by omega) HB23.out); have HNX3 := Lib.hid (nodeV_of (t, rx) (HKX3.out.wide (Q' := fun _ => True) fun _ _ _ => trivial)); clear hg3 hgr3) |
      (refine ld_nd_mid rfl (.tmp 4) rfl _ _ rfl _ _ _ _ _ (range_row HGX3.out) ?_) |
      (go_at_call 29; refine (back_calls t (by omega) _ _ _ HNX3.out).mono ?_; rintro e w5 ⟨⟨ry, rfl, hku⟩, hb5⟩; have HKY := Lib.hid hku; have HOY := Lib.hid hku.oneCell; have HGX5 := Lib.hid (below_all hb5 HGX3.out); have HKX5 := Lib.hid (HKX3.out.keep hb5); have hz5 := hb5.size; have HB5 := Lib.hid (below_more HB3.out (by omega) hb5); clear hku hb5) |
      (refine st_nd rfl (.tmp 5) (.tmp 15) rfl _ rfl (Nd.back t).op (Nd.back t).set (Nd.back t).mn (Nd.back t).mx ry rfl HOY.out _ rfl _ (heap_alloc_new _ _) ?_; intro w4 hg4 hgr4; have HB54 : Hid (Below w5.heap.size w5 w4) := Lib.hid (((Below.refl _ _).alloc (Nat.le_refl _) _).grown hgr4 (by simp) (fun k e => by cases e; omega)); have HGY := Lib.hid hg4; have HGX := Lib.hid (below_all HB54.out HGX5.out); have HKX4 := Lib.hid (HKX5.out.keep HB54.out); have HKY4 := Lib.hid (HKY.out.keep HB54.out); have hz4 : w5.heap.size + 1 ≤ w4.heap.size := (by simpa using hgr4.size); have HB4 := Lib.hid (below_more HB5.out (by omega) HB54.out); clear hg4 hgr4))
    have HNX : Hid (∀ w', Below w4.heap.size w4 w' → NodeV w' (fun _ => True) (ndV t.op t.set t.mn t.mx rx) t) := Lib.hid fun w' hb => nodeV_of (t, rx) ((HKX4.out.keep hb).wide fun _ _ _ => trivial)
    have HNY : Hid (∀ w', Below w4.heap.size w4 w' → NodeV w' (fun _ => True) (ndV (Nd.back t).op (Nd.back t).set (Nd.back t).mn (Nd.back t).mx ry) (Nd.back t)) := Lib.hid fun w' hb => nodeV_of (Nd.back t, ry) ((HKY4.out.keep hb).wide fun _ _ _ => trivial)
    have hz : w.heap.size ≤ w4.heap.size := by omega
    clear HB1 HB2 HB23 HB3 HB5 HB54 HGX3 HGX5 HKX HKX3 HKX4 HKX5 HKY HKY4 HOX HOY e1 HNX3
    generalize w2.heap.size = gx at *
    generalize w5.heap.size = gy at *
    refine region_all (by kernel_rfl) (fun w' => Below w4.heap.size w4 w') (fun w1 w2 => Below w1.heap.size w1 w2) (predsT (back8 gx gy t rx ry)) (by kernel_rfl) (by kernel_rfl) (by kernel_rfl) (preds_keep _ (back8_keep gx gy t rx ry)) (Below.refl _ _).drew ?_ ?_
    · refine ⟨?_, ?_, ?_, ?_, ?_, ?_, ?_, ?_, ?_, ?_, ?_, ?_, ?_, ?_, ?_, ?_, ?_, ?_, ?_, ?_, ?_, ?_, ?_, ?_, ?_, ?_, ?_, ?_, ?_, ?_, ?_, ?_, ?_, ?_, ?_, ?_, ?_, ?_, ?_, ?_, ?_, trivial⟩
      · refine ob_val (fun _ => Below.refl _ _) fun a' w' hS hI hD => ⟨rfl, ndV (Nd.back t).op (Nd.back t).set (Nd.back t).mn (Nd.back t).mx ry, ?_, rfl⟩
        have h0 : a'.tmps.getD 5 undef = Value.pointer (some ⟨gy, 0, none⟩) := hS.at rfl
        simp only [execOp, Act.eval, h0]
        exact run_load_nd' w' gy 0 (Nd.back t).op (Nd.back t).set (Nd.back t).mn (Nd.back t).mx ry (range_row (below_all hI HGY.out))
      · refine ob_call fun a' w' hS hI hD => ⟨rfl, 29, #[ndV (Nd.back t).op (Nd.back t).set (Nd.back t).mn (Nd.back t).mx ry], ?_, ?_⟩
        · have h0 : a'.tmps.getD 16 undef = ndV (Nd.back t).op (Nd.back t).set (Nd.back t).mn (Nd.back t).mx ry := dep_at hD 0 (by kernel_rfl)
          rw [run_call 29 _ _ rfl (enters_of Try.func29 (by kernel_rfl) rfl)]
          simp only [List.map_toArray, List.map_cons, List.map_nil, Act.eval, h0]
        · have h0 : a'.tmps.getD 16 undef = ndV (Nd.back t).op (Nd.back t).set (Nd.back t).mn (Nd.back t).mx ry := dep_at hD 0 (by kernel_rfl)
          exact (back_calls t.back (by rw [Nd.back_size]; omega) _ _ w' (HNY.out w' hI)).mono fun e w'' ⟨⟨r, he, hk⟩, hb⟩ => ⟨_, he, nodeV_of ((Nd.back (Nd.back t)), r) (hk.wide fun _ _ _ => trivial), hb, below_more hI hI.size hb⟩
      · refine ob_val (fun _ => Below.refl _ _) fun a' w' hS hI hD => ⟨rfl, ndV t.op t.set t.mn t.mx rx, ?_, rfl⟩
        have h0 : a'.tmps.getD 4 undef = Value.pointer (some ⟨gx, 0, none⟩) := hS.at rfl
        simp only [execOp, Act.eval, h0]
        exact run_load_nd' w' gx 0 t.op t.set t.mn t.mx rx (range_row (below_all hI HGX.out))
      · refine ob_call fun a' w' hS hI hD => ⟨rfl, 10, #[a'.tmps.getD 17 undef, ndV t.op t.set t.mn t.mx rx], ?_, ?_⟩
        · have h1 : a'.tmps.getD 18 undef = ndV t.op t.set t.mn t.mx rx := dep_at hD 2 (by kernel_rfl)
          rw [run_call 10 _ _ rfl (enters_of Try.func10 (by kernel_rfl) rfl)]
          simp only [List.map_toArray, List.map_cons, List.map_nil, Act.eval, h1]
        · have h0 : NodeV w' (fun _ => True) (a'.tmps.getD 17 undef) (Nd.back (Nd.back t)) := dep_at hD 1 (by kernel_rfl)
          have h1 : a'.tmps.getD 18 undef = ndV t.op t.set t.mn t.mx rx := dep_at hD 2 (by kernel_rfl)
          exact (same_calls _ t _ _ _ w' h0 (HNX.out w' hI)).mono fun e w'' ⟨he, hb⟩ => ⟨_, he, congrArg Value.bool (eqB_true t.back_back), hb, below_more hI hI.size hb⟩
      · refine ob_val (fun _ => Below.refl _ _) fun a' w' hS hI hD => ⟨rfl, Value.bool true, ?_, rfl⟩
        have h0 : a'.tmps.getD 19 undef = Value.bool true := dep_at hD 3 (by kernel_rfl)
        exact run_val (.tmp 19) (by first | exact .inl rfl | exact .inr rfl) _ h0
      · refine ob_val (fun _ => Below.refl _ _) fun a' w' hS hI hD => ⟨wanted_eq (c := true) rfl (dep_at hD 4 (by kernel_rfl)) rfl, ndV (Nd.back t).op (Nd.back t).set (Nd.back t).mn (Nd.back t).mx ry, ?_, rfl⟩
        have h0 : a'.tmps.getD 5 undef = Value.pointer (some ⟨gy, 0, none⟩) := hS.at rfl
        simp only [execOp, Act.eval, h0]
        exact run_load_nd' w' gy 0 (Nd.back t).op (Nd.back t).set (Nd.back t).mn (Nd.back t).mx ry (range_row (below_all hI HGY.out))
      · refine ob_call fun a' w' hS hI hD => ⟨wanted_eq (c := true) rfl (dep_at hD 4 (by kernel_rfl)) rfl, 25, #[ndV (Nd.back t).op (Nd.back t).set (Nd.back t).mn (Nd.back t).mx ry], ?_, ?_⟩
        · have h0 : a'.tmps.getD 21 undef = ndV (Nd.back t).op (Nd.back t).set (Nd.back t).mn (Nd.back t).mx ry := dep_at hD 5 (by kernel_rfl)
          rw [run_call 25 _ _ rfl (enters_of Try.func25 (by kernel_rfl) rfl)]
          simp only [List.map_toArray, List.map_cons, List.map_nil, Act.eval, h0]
        · have h0 : a'.tmps.getD 21 undef = ndV (Nd.back t).op (Nd.back t).set (Nd.back t).mn (Nd.back t).mx ry := dep_at hD 5 (by kernel_rfl)
          exact (size_calls t.back _ _ w' (HNY.out w' hI) (by rw [Nd.back_size]; omega)).mono fun e w'' ⟨he, hb⟩ => ⟨_, he, congrArg (fun n : Nat => Value.int .i64 (n : Int)) t.back_size, hb, below_more hI hI.size hb⟩
      · refine ob_val (fun _ => Below.refl _ _) fun a' w' hS hI hD => ⟨wanted_eq (c := true) rfl (dep_at hD 4 (by kernel_rfl)) rfl, ndV t.op t.set t.mn t.mx rx, ?_, rfl⟩
        have h0 : a'.tmps.getD 4 undef = Value.pointer (some ⟨gx, 0, none⟩) := hS.at rfl
        simp only [execOp, Act.eval, h0]
        exact run_load_nd' w' gx 0 t.op t.set t.mn t.mx rx (range_row (below_all hI HGX.out))
      · refine ob_call fun a' w' hS hI hD => ⟨wanted_eq (c := true) rfl (dep_at hD 4 (by kernel_rfl)) rfl, 25, #[ndV t.op t.set t.mn t.mx rx], ?_, ?_⟩
        · have h0 : a'.tmps.getD 23 undef = ndV t.op t.set t.mn t.mx rx := dep_at hD 7 (by kernel_rfl)
          rw [run_call 25 _ _ rfl (enters_of Try.func25 (by kernel_rfl) rfl)]
          simp only [List.map_toArray, List.map_cons, List.map_nil, Act.eval, h0]
        · have h0 : a'.tmps.getD 23 undef = ndV t.op t.set t.mn t.mx rx := dep_at hD 7 (by kernel_rfl)
          exact (size_calls t _ _ w' (HNX.out w' hI) (by omega)).mono fun e w'' ⟨he, hb⟩ => ⟨_, he, rfl, hb, below_more hI hI.size hb⟩
      · refine ob_val (fun _ => Below.refl _ _) fun a' w' hS hI hD => ⟨wanted_eq (c := true) rfl (dep_at hD 4 (by kernel_rfl)) rfl, Value.bool true, ?_, rfl⟩
        have h0 : a'.tmps.getD 22 undef = Value.int .i64 (t.size : Int) := dep_at hD 6 (by kernel_rfl)
        have h1 : a'.tmps.getD 24 undef = Value.int .i64 (t.size : Int) := dep_at hD 8 (by kernel_rfl)
        exact (run_eql_i _ _ (.tmp 22) (.tmp 24) rfl _ _ _ h0 h1).trans (by simp)
      · refine ob_val (fun _ => Below.refl _ _) fun a' w' hS hI hD => ⟨rfl, Value.bool true, ?_, rfl⟩
        have h0 : a'.tmps.getD 20 undef = Value.bool true := dep_at hD 4 (by kernel_rfl)
        have h1 : a'.tmps.getD 25 undef = Value.bool true := dep_at hD 9 (by kernel_rfl)
        simp only [execOp, Act.eval, h0, h1]
        rfl
      · refine ob_val (fun _ => Below.refl _ _) fun a' w' hS hI hD => ⟨rfl, Value.bool true, ?_, rfl⟩
        have h0 : a'.tmps.getD 26 undef = Value.bool true := dep_at hD 10 (by kernel_rfl)
        exact run_val (.tmp 26) (by first | exact .inl rfl | exact .inr rfl) _ h0
      · refine ob_val (fun _ => Below.refl _ _) fun a' w' hS hI hD => ⟨wanted_eq (c := true) rfl (dep_at hD 11 (by kernel_rfl)) rfl, ndV (Nd.back t).op (Nd.back t).set (Nd.back t).mn (Nd.back t).mx ry, ?_, rfl⟩
        have h0 : a'.tmps.getD 5 undef = Value.pointer (some ⟨gy, 0, none⟩) := hS.at rfl
        simp only [execOp, Act.eval, h0]
        exact run_load_nd' w' gy 0 (Nd.back t).op (Nd.back t).set (Nd.back t).mn (Nd.back t).mx ry (range_row (below_all hI HGY.out))
      · refine ob_call fun a' w' hS hI hD => ⟨wanted_eq (c := true) rfl (dep_at hD 11 (by kernel_rfl)) rfl, 27, #[ndV (Nd.back t).op (Nd.back t).set (Nd.back t).mn (Nd.back t).mx ry], ?_, ?_⟩
        · have h0 : a'.tmps.getD 28 undef = ndV (Nd.back t).op (Nd.back t).set (Nd.back t).mn (Nd.back t).mx ry := dep_at hD 12 (by kernel_rfl)
          rw [run_call 27 _ _ rfl (enters_of Try.func27 (by kernel_rfl) rfl)]
          simp only [List.map_toArray, List.map_cons, List.map_nil, Act.eval, h0]
        · have h0 : a'.tmps.getD 28 undef = ndV (Nd.back t).op (Nd.back t).set (Nd.back t).mn (Nd.back t).mx ry := dep_at hD 12 (by kernel_rfl)
          exact (bytes_calls t.back _ _ w' (HNY.out w' hI) (by rw [Nd.back_size]; omega)).mono fun e w'' ⟨he, hb⟩ => ⟨_, he, congrArg setV t.back_bytes, hb, below_more hI hI.size hb⟩
      · refine ob_val (fun _ => Below.refl _ _) fun a' w' hS hI hD => ⟨wanted_eq (c := true) rfl (dep_at hD 11 (by kernel_rfl)) rfl, ndV t.op t.set t.mn t.mx rx, ?_, rfl⟩
        have h0 : a'.tmps.getD 4 undef = Value.pointer (some ⟨gx, 0, none⟩) := hS.at rfl
        simp only [execOp, Act.eval, h0]
        exact run_load_nd' w' gx 0 t.op t.set t.mn t.mx rx (range_row (below_all hI HGX.out))
      · refine ob_call fun a' w' hS hI hD => ⟨wanted_eq (c := true) rfl (dep_at hD 11 (by kernel_rfl)) rfl, 27, #[ndV t.op t.set t.mn t.mx rx], ?_, ?_⟩
        · have h0 : a'.tmps.getD 30 undef = ndV t.op t.set t.mn t.mx rx := dep_at hD 14 (by kernel_rfl)
          rw [run_call 27 _ _ rfl (enters_of Try.func27 (by kernel_rfl) rfl)]
          simp only [List.map_toArray, List.map_cons, List.map_nil, Act.eval, h0]
        · have h0 : a'.tmps.getD 30 undef = ndV t.op t.set t.mn t.mx rx := dep_at hD 14 (by kernel_rfl)
          exact (bytes_calls t _ _ w' (HNX.out w' hI) (by omega)).mono fun e w'' ⟨he, hb⟩ => ⟨_, he, rfl, hb, below_more hI hI.size hb⟩
      · refine ob_val (fun _ => Below.refl _ _) fun a' w' hS hI hD => ⟨wanted_eq (c := true) rfl (dep_at hD 11 (by kernel_rfl)) rfl, Value.bool true, ?_, rfl⟩
        have h0 : a'.tmps.getD 29 undef = setV (t.bytes) := dep_at hD 13 (by kernel_rfl)
        have h1 : a'.tmps.getD 31 undef = setV (t.bytes) := dep_at hD 15 (by kernel_rfl)
        exact (run_eql_set (.tmp 29) (.tmp 31) _ rfl _ _ h0 h1).trans (by simp)
      · refine ob_val (fun _ => Below.refl _ _) fun a' w' hS hI hD => ⟨rfl, Value.bool true, ?_, rfl⟩
        have h0 : a'.tmps.getD 27 undef = Value.bool true := dep_at hD 11 (by kernel_rfl)
        have h1 : a'.tmps.getD 32 undef = Value.bool true := dep_at hD 16 (by kernel_rfl)
        simp only [execOp, Act.eval, h0, h1]
        rfl
      · refine ob_val (fun _ => Below.refl _ _) fun a' w' hS hI hD => ⟨rfl, Value.bool true, ?_, rfl⟩
        have h0 : a'.tmps.getD 33 undef = Value.bool true := dep_at hD 17 (by kernel_rfl)
        exact run_val (.tmp 33) (by first | exact .inl rfl | exact .inr rfl) _ h0
      · refine ob_val (fun _ => Below.refl _ _) fun a' w' hS hI hD => ⟨wanted_eq (c := true) rfl (dep_at hD 18 (by kernel_rfl)) rfl, ndV (Nd.back t).op (Nd.back t).set (Nd.back t).mn (Nd.back t).mx ry, ?_, rfl⟩
        have h0 : a'.tmps.getD 5 undef = Value.pointer (some ⟨gy, 0, none⟩) := hS.at rfl
        simp only [execOp, Act.eval, h0]
        exact run_load_nd' w' gy 0 (Nd.back t).op (Nd.back t).set (Nd.back t).mn (Nd.back t).mx ry (range_row (below_all hI HGY.out))
      · refine ob_call fun a' w' hS hI hD => ⟨wanted_eq (c := true) rfl (dep_at hD 18 (by kernel_rfl)) rfl, 23, #[ndV (Nd.back t).op (Nd.back t).set (Nd.back t).mn (Nd.back t).mx ry], ?_, ?_⟩
        · have h0 : a'.tmps.getD 35 undef = ndV (Nd.back t).op (Nd.back t).set (Nd.back t).mn (Nd.back t).mx ry := dep_at hD 19 (by kernel_rfl)
          rw [run_call 23 _ _ rfl (enters_of Try.func23 (by kernel_rfl) rfl)]
          simp only [List.map_toArray, List.map_cons, List.map_nil, Act.eval, h0]
        · have h0 : a'.tmps.getD 35 undef = ndV (Nd.back t).op (Nd.back t).set (Nd.back t).mn (Nd.back t).mx ry := dep_at hD 19 (by kernel_rfl)
          exact (null_calls t.back _ _ w' (HNY.out w' hI)).mono fun e w'' ⟨he, hb⟩ => ⟨_, he, congrArg Value.bool (t.back_null), hb, below_more hI hI.size hb⟩
      · refine ob_val (fun _ => Below.refl _ _) fun a' w' hS hI hD => ⟨wanted_eq (c := true) rfl (dep_at hD 18 (by kernel_rfl)) rfl, ndV t.op t.set t.mn t.mx rx, ?_, rfl⟩
        have h0 : a'.tmps.getD 4 undef = Value.pointer (some ⟨gx, 0, none⟩) := hS.at rfl
        simp only [execOp, Act.eval, h0]
        exact run_load_nd' w' gx 0 t.op t.set t.mn t.mx rx (range_row (below_all hI HGX.out))
      · refine ob_call fun a' w' hS hI hD => ⟨wanted_eq (c := true) rfl (dep_at hD 18 (by kernel_rfl)) rfl, 23, #[ndV t.op t.set t.mn t.mx rx], ?_, ?_⟩
        · have h0 : a'.tmps.getD 37 undef = ndV t.op t.set t.mn t.mx rx := dep_at hD 21 (by kernel_rfl)
          rw [run_call 23 _ _ rfl (enters_of Try.func23 (by kernel_rfl) rfl)]
          simp only [List.map_toArray, List.map_cons, List.map_nil, Act.eval, h0]
        · have h0 : a'.tmps.getD 37 undef = ndV t.op t.set t.mn t.mx rx := dep_at hD 21 (by kernel_rfl)
          exact (null_calls t _ _ w' (HNX.out w' hI)).mono fun e w'' ⟨he, hb⟩ => ⟨_, he, rfl, hb, below_more hI hI.size hb⟩
      · refine ob_val (fun _ => Below.refl _ _) fun a' w' hS hI hD => ⟨wanted_eq (c := true) rfl (dep_at hD 18 (by kernel_rfl)) rfl, Value.bool true, ?_, rfl⟩
        have h0 : a'.tmps.getD 36 undef = Value.bool t.null := dep_at hD 20 (by kernel_rfl)
        have h1 : a'.tmps.getD 38 undef = Value.bool t.null := dep_at hD 22 (by kernel_rfl)
        exact (run_eql_b _ _ (.tmp 36) (.tmp 38) rfl _ _ h0 h1 (by kernel_rfl)).trans (by simp)
      · refine ob_val (fun _ => Below.refl _ _) fun a' w' hS hI hD => ⟨rfl, Value.bool true, ?_, rfl⟩
        have h0 : a'.tmps.getD 34 undef = Value.bool true := dep_at hD 18 (by kernel_rfl)
        have h1 : a'.tmps.getD 39 undef = Value.bool true := dep_at hD 23 (by kernel_rfl)
        simp only [execOp, Act.eval, h0, h1]
        rfl
      · refine ob_val (fun _ => Below.refl _ _) fun a' w' hS hI hD => ⟨rfl, Value.bool true, ?_, rfl⟩
        have h0 : a'.tmps.getD 40 undef = Value.bool true := dep_at hD 24 (by kernel_rfl)
        exact run_val (.tmp 40) (by first | exact .inl rfl | exact .inr rfl) _ h0
      · refine ob_val (fun _ => Below.refl _ _) fun a' w' hS hI hD => ⟨wanted_eq (c := true) rfl (dep_at hD 25 (by kernel_rfl)) rfl, ndV (Nd.back t).op (Nd.back t).set (Nd.back t).mn (Nd.back t).mx ry, ?_, rfl⟩
        have h0 : a'.tmps.getD 5 undef = Value.pointer (some ⟨gy, 0, none⟩) := hS.at rfl
        simp only [execOp, Act.eval, h0]
        exact run_load_nd' w' gy 0 (Nd.back t).op (Nd.back t).set (Nd.back t).mn (Nd.back t).mx ry (range_row (below_all hI HGY.out))
      · refine ob_call fun a' w' hS hI hD => ⟨wanted_eq (c := true) rfl (dep_at hD 25 (by kernel_rfl)) rfl, 31, #[ndV (Nd.back t).op (Nd.back t).set (Nd.back t).mn (Nd.back t).mx ry], ?_, ?_⟩
        · have h0 : a'.tmps.getD 42 undef = ndV (Nd.back t).op (Nd.back t).set (Nd.back t).mn (Nd.back t).mx ry := dep_at hD 26 (by kernel_rfl)
          rw [run_call 31 _ _ rfl (enters_of Try.func31 (by kernel_rfl) rfl)]
          simp only [List.map_toArray, List.map_cons, List.map_nil, Act.eval, h0]
        · have h0 : a'.tmps.getD 42 undef = ndV (Nd.back t).op (Nd.back t).set (Nd.back t).mn (Nd.back t).mx ry := dep_at hD 26 (by kernel_rfl)
          exact (check_calls t.back _ _ w' (HNY.out w' hI)).mono fun e w'' ⟨he, hb⟩ => ⟨_, he, congrArg (Value.int .i64) t.back_check, hb, below_more hI hI.size hb⟩
      · refine ob_val (fun _ => Below.refl _ _) fun a' w' hS hI hD => ⟨wanted_eq (c := true) rfl (dep_at hD 25 (by kernel_rfl)) rfl, ndV t.op t.set t.mn t.mx rx, ?_, rfl⟩
        have h0 : a'.tmps.getD 4 undef = Value.pointer (some ⟨gx, 0, none⟩) := hS.at rfl
        simp only [execOp, Act.eval, h0]
        exact run_load_nd' w' gx 0 t.op t.set t.mn t.mx rx (range_row (below_all hI HGX.out))
      · refine ob_call fun a' w' hS hI hD => ⟨wanted_eq (c := true) rfl (dep_at hD 25 (by kernel_rfl)) rfl, 31, #[ndV t.op t.set t.mn t.mx rx], ?_, ?_⟩
        · have h0 : a'.tmps.getD 44 undef = ndV t.op t.set t.mn t.mx rx := dep_at hD 28 (by kernel_rfl)
          rw [run_call 31 _ _ rfl (enters_of Try.func31 (by kernel_rfl) rfl)]
          simp only [List.map_toArray, List.map_cons, List.map_nil, Act.eval, h0]
        · have h0 : a'.tmps.getD 44 undef = ndV t.op t.set t.mn t.mx rx := dep_at hD 28 (by kernel_rfl)
          exact (check_calls t _ _ w' (HNX.out w' hI)).mono fun e w'' ⟨he, hb⟩ => ⟨_, he, rfl, hb, below_more hI hI.size hb⟩
      · refine ob_val (fun _ => Below.refl _ _) fun a' w' hS hI hD => ⟨wanted_eq (c := true) rfl (dep_at hD 25 (by kernel_rfl)) rfl, Value.bool true, ?_, rfl⟩
        have h0 : a'.tmps.getD 43 undef = Value.int .i64 t.check := dep_at hD 27 (by kernel_rfl)
        have h1 : a'.tmps.getD 45 undef = Value.int .i64 t.check := dep_at hD 29 (by kernel_rfl)
        exact (run_eql_i _ _ (.tmp 43) (.tmp 45) rfl _ _ _ h0 h1).trans (by simp)
      · refine ob_val (fun _ => Below.refl _ _) fun a' w' hS hI hD => ⟨rfl, Value.bool true, ?_, rfl⟩
        have h0 : a'.tmps.getD 41 undef = Value.bool true := dep_at hD 25 (by kernel_rfl)
        have h1 : a'.tmps.getD 46 undef = Value.bool true := dep_at hD 30 (by kernel_rfl)
        simp only [execOp, Act.eval, h0, h1]
        rfl
      · refine ob_val (fun _ => Below.refl _ _) fun a' w' hS hI hD => ⟨rfl, Value.bool true, ?_, rfl⟩
        have h0 : a'.tmps.getD 47 undef = Value.bool true := dep_at hD 31 (by kernel_rfl)
        exact run_val (.tmp 47) (by first | exact .inl rfl | exact .inr rfl) _ h0
      · refine ob_val (fun _ => Below.refl _ _) fun a' w' hS hI hD => ⟨wanted_eq (c := true) rfl (dep_at hD 32 (by kernel_rfl)) rfl, ndV t.op t.set t.mn t.mx rx, ?_, rfl⟩
        have h0 : a'.tmps.getD 4 undef = Value.pointer (some ⟨gx, 0, none⟩) := hS.at rfl
        simp only [execOp, Act.eval, h0]
        exact run_load_nd' w' gx 0 t.op t.set t.mn t.mx rx (range_row (below_all hI HGX.out))
      · refine ob_call fun a' w' hS hI hD => ⟨wanted_eq (c := true) rfl (dep_at hD 32 (by kernel_rfl)) rfl, 20, #[ndV t.op t.set t.mn t.mx rx], ?_, ?_⟩
        · have h0 : a'.tmps.getD 49 undef = ndV t.op t.set t.mn t.mx rx := dep_at hD 33 (by kernel_rfl)
          rw [run_call 20 _ _ rfl (enters_of Try.func20 (by kernel_rfl) rfl)]
          simp only [List.map_toArray, List.map_cons, List.map_nil, Act.eval, h0]
        · have h0 : a'.tmps.getD 49 undef = ndV t.op t.set t.mn t.mx rx := dep_at hD 33 (by kernel_rfl)
          exact (notN_calls t (by omega) _ _ w' (HNX.out w' hI)).mono fun e w'' ⟨⟨r, he, hk⟩, hb⟩ => ⟨_, he, ⟨r, rfl, hk.wide fun _ _ _ => trivial⟩, hb, below_more hI hI.size hb⟩
      · refine ob_call fun a' w' hS hI hD => ⟨wanted_eq (c := true) rfl (dep_at hD 32 (by kernel_rfl)) rfl, 23, #[a'.tmps.getD 50 undef], ?_, ?_⟩
        · rw [run_call 23 _ _ rfl (enters_of Try.func23 (by kernel_rfl) rfl)]
          simp only [List.map_toArray, List.map_cons, List.map_nil, Act.eval]
        · have h0 : NodeV w' (fun _ => True) (a'.tmps.getD 50 undef) (Nd.mk 5 0#256 0 0 [t]) := dep_at hD 34 (by kernel_rfl)
          exact (null_calls _ _ _ w' h0).mono fun e w'' ⟨he, hb⟩ => ⟨_, he, congrArg Value.bool (not_null t), hb, below_more hI hI.size hb⟩
      · refine ob_val (fun _ => Below.refl _ _) fun a' w' hS hI hD => ⟨wanted_eq (c := true) rfl (dep_at hD 32 (by kernel_rfl)) rfl, ndV t.op t.set t.mn t.mx rx, ?_, rfl⟩
        have h0 : a'.tmps.getD 4 undef = Value.pointer (some ⟨gx, 0, none⟩) := hS.at rfl
        simp only [execOp, Act.eval, h0]
        exact run_load_nd' w' gx 0 t.op t.set t.mn t.mx rx (range_row (below_all hI HGX.out))
      · refine ob_call fun a' w' hS hI hD => ⟨wanted_eq (c := true) rfl (dep_at hD 32 (by kernel_rfl)) rfl, 23, #[ndV t.op t.set t.mn t.mx rx], ?_, ?_⟩
        · have h0 : a'.tmps.getD 52 undef = ndV t.op t.set t.mn t.mx rx := dep_at hD 36 (by kernel_rfl)
          rw [run_call 23 _ _ rfl (enters_of Try.func23 (by kernel_rfl) rfl)]
          simp only [List.map_toArray, List.map_cons, List.map_nil, Act.eval, h0]
        · have h0 : a'.tmps.getD 52 undef = ndV t.op t.set t.mn t.mx rx := dep_at hD 36 (by kernel_rfl)
          exact (null_calls t _ _ w' (HNX.out w' hI)).mono fun e w'' ⟨he, hb⟩ => ⟨_, he, rfl, hb, below_more hI hI.size hb⟩
      · refine ob_val (fun _ => Below.refl _ _) fun a' w' hS hI hD => ⟨wanted_eq (c := true) rfl (dep_at hD 32 (by kernel_rfl)) rfl, Value.bool true, ?_, rfl⟩
        have h0 : a'.tmps.getD 51 undef = Value.bool (!t.null) := dep_at hD 35 (by kernel_rfl)
        have h1 : a'.tmps.getD 53 undef = Value.bool t.null := dep_at hD 37 (by kernel_rfl)
        exact (run_neq_b _ _ (.tmp 51) (.tmp 53) rfl _ _ h0 h1 (by kernel_rfl)).trans (by cases t.null <;> rfl)
      · refine ob_val (fun _ => Below.refl _ _) fun a' w' hS hI hD => ⟨rfl, Value.bool true, ?_, rfl⟩
        have h0 : a'.tmps.getD 48 undef = Value.bool true := dep_at hD 32 (by kernel_rfl)
        have h1 : a'.tmps.getD 54 undef = Value.bool true := dep_at hD 38 (by kernel_rfl)
        simp only [execOp, Act.eval, h0, h1]
        rfl
      · refine ob_val (fun _ => Below.refl _ _) fun a' w' hS hI hD => ⟨rfl, Value.bool true, ?_, rfl⟩
        have h0 : a'.tmps.getD 55 undef = Value.bool true := dep_at hD 39 (by kernel_rfl)
        exact run_val (.tmp 55) (by first | exact .inl rfl | exact .inr rfl) _ h0
    · intro v w6 hI hT
      have h40 : v 40 = .bool true := tall_at _ _ hT 40 (by decide) (by decide)
      have HBW := Lib.hid (below_more HB4.out hz hI)
      clear hT hI HGX HGY HNX HNY HB4
      simp only [putAll, Act.put, List.setIfInBounds_toArray, List.set_cons_succ, List.set_cons_zero, Nat.reduceAdd, h40]
      clear h40
      go_wp2_with (fail)
      go_ret
      exact ⟨rfl, HBW.out⟩
  · have e1 : decide ((60 : Int) < (a.size : Int)) = true := decide_eq_true (by omega)
    clear h1
    go_enter Try.func6, Try.ntmps6
    go_wp2_with (go_at_call 8; refine (awake_calls _).mono ?_; rintro e w1 ⟨rfl, hb1⟩)
    go_ret
    exact ⟨rfl, hb1⟩
end Go.Proofs.Ytekodfpjoehooaa.Bs
