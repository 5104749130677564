/- The walk of RegexJoins. -/
import Derived.Test.YtekodfpjoehooaaNodeW26
namespace Go.Proofs.Ytekodfpjoehooaa.Bs
open Go.RowKit Mem Reg
def NodeAt (W : World) (v : Value) (t : Nd) : Prop := ∀ w', Below W.heap.size W w' → NodeV w' (fun _ => True) v t
def KidsAt (W : World) (v : Value) (ks : List Nd) : Prop := ∀ w', Below W.heap.size W w' → Kids w' (fun _ => True) v ks
theorem NodeAt.later {W W' : World} {v : Value} {t : Nd} (h : NodeAt W v t) (hb : Below W.heap.size W W') : NodeAt W' v t := fun w' hb' => h w' (below_more hb hb.size hb')
theorem KidsAt.later {W W' : World} {v : Value} {ks : List Nd} (h : KidsAt W v ks) (hb : Below W.heap.size W W') : KidsAt W' v ks := fun w' hb' => h w' (below_more hb hb.size hb')
theorem null_cat (t u : Nd) : (Nd.mk 1 0#256 0 0 [t, u]).null = (t.null && u.null) := by rw [null_mk]; simp [nullOp]
theorem null_and (t u : Nd) : (Nd.mk 4 0#256 0 0 [t, u]).null = (t.null && u.null) := by rw [null_mk]; simp [nullOp]
theorem null_alt (t u : Nd) : (Nd.mk 2 0#256 0 0 [t, u]).null = (t.null || u.null) := by rw [null_mk]; simp [nullOp]
theorem null_rep1 (t : Nd) : (Nd.mk 3 0#256 1 3 [t]).null = t.null := by rw [null_mk]; simp [nullOp]
theorem null_rep0 (t : Nd) : (Nd.mk 3 0#256 0 3 [t]).null = true := by rw [null_mk]; simp [nullOp]
theorem size_two (op : Int) (t u : Nd) : (Nd.mk op 0#256 0 0 [t, u]).size = 1 + t.size + u.size := by rw [size_mk]; simp; omega
theorem size_one (op : Int) (t : Nd) : (Nd.mk op 0#256 0 0 [t]).size = 1 + t.size := by rw [size_mk]; simp
theorem bytes_and (t u : Nd) : (Nd.mk 4 0#256 0 0 [t, u]).bytes = unionS [t.bytes, u.bytes] := by rw [bytes_mk]; simp [unionS]
theorem run_alloc_set {w : World} {ρ : Operand → Value} {o : Oper} (ho : o.op = .alloc 24) : (execOp ρ o).run Try.prog w = .ok (.value (.pointer (some ⟨w.heap.size, 0, none⟩))) (w.alloc (.cells (setC 0#256) 24)) := by
  unfold execOp
  simp only [ho]
  go_simp
  rfl
def joins10 (_w7 : World) (_gx _gy _gs : Nat) (t u : Nd) (rx ry : Value) : List (Value → World → Prop) := [
  fun v _ => v = ndV t.op t.set t.mn t.mx rx,
  fun v _ => v = Value.int .i64 ((t.size : Nat) : Int),
  fun v _ => v = Value.int .i64 ((1 + t.size : Nat) : Int),
  fun v _ => v = ndV u.op u.set u.mn u.mx ry,
  fun v _ => v = Value.int .i64 ((u.size : Nat) : Int),
  fun v _ => v = Value.int .i64 ((1 + t.size + u.size : Nat) : Int),
  fun v _ => v = Value.int .i64 ((1 + t.size + u.size : Nat) : Int)]
theorem joins10_keep (w7 : World) (gx gy gs : Nat) (t u : Nd) (rx ry : Value) : PredsKeep (joins10 w7 gx gy 0 t u rx ry) :=
  ⟨fun _ _ _ h _ => h,
  fun _ _ _ h _ => h,
  fun _ _ _ h _ => h,
  fun _ _ _ h _ => h,
  fun _ _ _ h _ => h,
  fun _ _ _ h _ => h,
  fun _ _ _ h _ => h, trivial⟩
def joins11 (w8 : World) (gx _gy _gs : Nat) (t u : Nd) (rx ry : Value) : List (Value → World → Prop) := [
  fun v _ => v = ndV t.op t.set t.mn t.mx rx,
  fun v _ => v = setV (t.bytes),
  fun v _ => v = ndV u.op u.set u.mn u.mx ry,
  fun v _ => v = setV (u.bytes),
  fun vv ww => Sets ww vv [(t.bytes), (u.bytes)],
  fun v _ => v = setV (unionS [t.bytes, u.bytes]),
  fun vv ww => ∃ gx, vv = Value.pointer (some ⟨gx, 0, none⟩) ∧ w8.heap.size ≤ gx ∧ ww.heap[gx]? = some (.cells (setC 0#256) 24 (0, 0))]
theorem joins11_keep (w8 : World) (gx gy gs : Nat) (t u : Nd) (rx ry : Value) : PredsKeep (joins11 w8 gx gy 0 t u rx ry) :=
  ⟨fun _ _ _ h _ => h,
  fun _ _ _ h _ => h,
  fun _ _ _ h _ => h,
  fun _ _ _ h _ => h,
  fun _ _ _ h hE => Row.below h setC_ne (Nat.le_refl _) hE,
  fun _ _ _ h _ => h,
  fun _ _ _ h hE => h.imp fun _ h => ⟨h.1, h.2.1, below_all hE h.2.2⟩, trivial⟩
def joins12 (_w10 : World) (_gx _gy _gs : Nat) (t u : Nd) (rx ry : Value) : List (Value → World → Prop) := [
  fun v _ => v = ndV t.op t.set t.mn t.mx rx,
  fun v _ => v = ndV u.op u.set u.mn u.mx ry,
  fun vv ww => Kids ww (fun _ => True) vv [t, u],
  fun vv ww => NodeV ww (fun _ => True) vv (Nd.mk 1 0#256 0 0 [t, u]),
  fun v _ => v = Value.bool (t.null && u.null),
  fun v _ => v = Value.bool t.null,
  fun v _ => v = Value.bool t.null,
  fun v _ => t.null = true → v = Value.bool u.null,
  fun v _ => v = Value.bool (t.null && u.null),
  fun v _ => v = Value.bool false,
  fun v _ => v = Value.bool false,
  fun v _ => v = ndV t.op t.set t.mn t.mx rx,
  fun v _ => v = ndV u.op u.set u.mn u.mx ry,
  fun vv ww => Kids ww (fun _ => True) vv [t, u],
  fun vv ww => NodeV ww (fun _ => True) vv (Nd.mk 4 0#256 0 0 [t, u]),
  fun v _ => v = Value.bool (t.null && u.null),
  fun v _ => v = Value.bool t.null,
  fun v _ => v = Value.bool t.null,
  fun v _ => t.null = true → v = Value.bool u.null,
  fun v _ => v = Value.bool (t.null && u.null),
  fun v _ => v = Value.bool false,
  fun v _ => v = Value.bool false,
  fun v _ => v = Value.bool false,
  fun v _ => v = ndV t.op t.set t.mn t.mx rx,
  fun v _ => v = ndV u.op u.set u.mn u.mx ry,
  fun vv ww => Kids ww (fun _ => True) vv [t, u],
  fun vv ww => NodeV ww (fun _ => True) vv (Nd.mk 2 0#256 0 0 [t, u]),
  fun v _ => v = Value.bool (t.null || u.null),
  fun v _ => v = Value.bool t.null,
  fun v _ => v = Value.bool t.null,
  fun v _ => t.null = false → v = Value.bool u.null,
  fun v _ => v = Value.bool (t.null || u.null),
  fun v _ => v = Value.bool false,
  fun v _ => v = Value.bool false,
  fun v _ => v = Value.bool false,
  fun v _ => v = ndV t.op t.set t.mn t.mx rx,
  fun vv ww => NodeV ww (fun _ => True) vv (Nd.mk 3 0#256 1 3 [t]),
  fun v _ => v = Value.bool t.null,
  fun v _ => v = Value.bool t.null,
  fun v _ => v = Value.bool false,
  fun v _ => v = Value.bool false,
  fun v _ => v = Value.bool false,
  fun v _ => v = ndV t.op t.set t.mn t.mx rx,
  fun vv ww => NodeV ww (fun _ => True) vv (Nd.mk 3 0#256 0 3 [t]),
  fun v _ => v = Value.bool true,
  fun v _ => v = Value.bool false,
  fun v _ => v = Value.bool false]
theorem joins12_keep (w10 : World) (gx gy gs : Nat) (t u : Nd) (rx ry : Value) : PredsKeep (joins12 w10 gx gy 0 t u rx ry) :=
  ⟨fun _ _ _ h _ => h,
  fun _ _ _ h _ => h,
  fun _ _ _ h hE => Kids.keep h hE,
  fun _ _ _ h hE => NodeV.keep h hE,
  fun _ _ _ h _ => h,
  fun _ _ _ h _ => h,
  fun _ _ _ h _ => h,
  fun _ _ _ h _ => h,
  fun _ _ _ h _ => h,
  fun _ _ _ h _ => h,
  fun _ _ _ h _ => h,
  fun _ _ _ h _ => h,
  fun _ _ _ h _ => h,
  fun _ _ _ h hE => Kids.keep h hE,
  fun _ _ _ h hE => NodeV.keep h hE,
  fun _ _ _ h _ => h,
  fun _ _ _ h _ => h,
  fun _ _ _ h _ => h,
  fun _ _ _ h _ => h,
  fun _ _ _ h _ => h,
  fun _ _ _ h _ => h,
  fun _ _ _ h _ => h,
  fun _ _ _ h _ => h,
  fun _ _ _ h _ => h,
  fun _ _ _ h _ => h,
  fun _ _ _ h hE => Kids.keep h hE,
  fun _ _ _ h hE => NodeV.keep h hE,
  fun _ _ _ h _ => h,
  fun _ _ _ h _ => h,
  fun _ _ _ h _ => h,
  fun _ _ _ h _ => h,
  fun _ _ _ h _ => h,
  fun _ _ _ h _ => h,
  fun _ _ _ h _ => h,
  fun _ _ _ h _ => h,
  fun _ _ _ h _ => h,
  fun _ _ _ h hE => NodeV.keep h hE,
  fun _ _ _ h _ => h,
  fun _ _ _ h _ => h,
  fun _ _ _ h _ => h,
  fun _ _ _ h _ => h,
  fun _ _ _ h _ => h,
  fun _ _ _ h _ => h,
  fun _ _ _ h hE => NodeV.keep h hE,
  fun _ _ _ h _ => h,
  fun _ _ _ h _ => h,
  fun _ _ _ h _ => h, trivial⟩
def joins14 (_w11 : World) (_gx _gy _gs : Nat) (t u : Nd) (rx ry : Value) : List (Value → World → Prop) := [
  fun v _ => v = ndV t.op t.set t.mn t.mx rx,
  fun v _ => v = ndV u.op u.set u.mn u.mx ry,
  fun vv ww => Kids ww (fun _ => True) vv [t, u],
  fun vv ww => NodeV ww (fun _ => True) vv (Nd.mk 1 0#256 0 0 [t, u]),
  fun v _ => v = Value.int .i64 ((1 + t.size + u.size : Nat) : Int),
  fun v _ => v = Value.int .i64 ((1 + t.size + u.size : Nat) : Int),
  fun v _ => v = Value.bool true,
  fun v _ => v = Value.bool true,
  fun v _ => v = ndV t.op t.set t.mn t.mx rx,
  fun v _ => v = ndV u.op u.set u.mn u.mx ry,
  fun vv ww => Kids ww (fun _ => True) vv [t, u],
  fun vv ww => NodeV ww (fun _ => True) vv (Nd.mk 2 0#256 0 0 [t, u]),
  fun v _ => v = Value.int .i64 ((1 + t.size + u.size : Nat) : Int),
  fun v _ => v = Value.int .i64 ((1 + t.size + u.size : Nat) : Int),
  fun v _ => v = Value.bool true,
  fun v _ => v = Value.bool true,
  fun v _ => v = Value.bool true,
  fun v _ => v = ndV t.op t.set t.mn t.mx rx,
  fun vv ww => NodeV ww (fun _ => True) vv (Nd.mk 5 0#256 0 0 [t]),
  fun v _ => v = Value.int .i64 ((1 + t.size : Nat) : Int),
  fun v _ => v = ndV t.op t.set t.mn t.mx rx,
  fun v _ => v = Value.int .i64 ((t.size : Nat) : Int),
  fun v _ => v = Value.int .i64 ((1 + t.size : Nat) : Int),
  fun v _ => v = Value.bool true,
  fun v _ => v = Value.bool true,
  fun v _ => v = Value.bool true,
  fun v _ => v = ndV t.op t.set t.mn t.mx rx,
  fun v _ => v = ndV u.op u.set u.mn u.mx ry,
  fun vv ww => Kids ww (fun _ => True) vv [t, u],
  fun vv ww => NodeV ww (fun _ => True) vv (Nd.mk 4 0#256 0 0 [t, u]),
  fun v _ => v = setV (unionS [t.bytes, u.bytes]),
  fun v _ => v = setV (unionS [t.bytes, u.bytes]),
  fun v _ => v = Value.bool true,
  fun v _ => v = Value.bool true,
  fun v _ => v = Value.bool true]
theorem joins14_keep (w11 : World) (gx gy gs : Nat) (t u : Nd) (rx ry : Value) : PredsKeep (joins14 w11 gx gy gs t u rx ry) :=
  ⟨fun _ _ _ h _ => h,
  fun _ _ _ h _ => h,
  fun _ _ _ h hE => Kids.keep h hE,
  fun _ _ _ h hE => NodeV.keep h hE,
  fun _ _ _ h _ => h,
  fun _ _ _ h _ => h,
  fun _ _ _ h _ => h,
  fun _ _ _ h _ => h,
  fun _ _ _ h _ => h,
  fun _ _ _ h _ => h,
  fun _ _ _ h hE => Kids.keep h hE,
  fun _ _ _ h hE => NodeV.keep h hE,
  fun _ _ _ h _ => h,
  fun _ _ _ h _ => h,
  fun _ _ _ h _ => h,
  fun _ _ _ h _ => h,
  fun _ _ _ h _ => h,
  fun _ _ _ h _ => h,
  fun _ _ _ h hE => NodeV.keep h hE,
  fun _ _ _ h _ => h,
  fun _ _ _ h _ => h,
  fun _ _ _ h _ => h,
  fun _ _ _ h _ => h,
  fun _ _ _ h _ => h,
  fun _ _ _ h _ => h,
  fun _ _ _ h _ => h,
  fun _ _ _ h _ => h,
  fun _ _ _ h _ => h,
  fun _ _ _ h hE => Kids.keep h hE,
  fun _ _ _ h hE => NodeV.keep h hE,
  fun _ _ _ h _ => h,
  fun _ _ _ h _ => h,
  fun _ _ _ h _ => h,
  fun _ _ _ h _ => h,
  fun _ _ _ h _ => h, trivial⟩
set_option maxHeartbeats 6400000 in
set_option maxRecDepth 100000 in
theorem joins_long (a b : ByteArray) (ha : a.size ≤ 9223372036854775807) (hb : b.size ≤ 9223372036854775807) (h : ¬ (a.size ≤ 40 ∧ b.size ≤ 40)) (w : World) :
    Calls Try.prog 7 #[.string a, .string b] w fun e w' => e = .returned (.bool true) ∧ Below w.heap.size w w' := by
  by_cases h1 : a.size ≤ 40
  · have h2 : ¬ b.size ≤ 40 := by omega
    have e1 : decide ((40 : Int) < (a.size : Int)) = false := decide_eq_false (by omega)
    have e2 : decide ((40 : Int) < (b.size : Int)) = true := decide_eq_true (by omega)
    clear h h1 h2
    go_enter Try.func7, Try.ntmps7
    go_wp2_with (go_at_call 8; refine (awake_calls _).mono ?_; rintro e w1 ⟨rfl, hb1⟩)
    go_ret
    exact ⟨rfl, hb1⟩
  · have e1 : decide ((40 : Int) < (a.size : Int)) = true := decide_eq_true (by omega)
    clear h h1
    go_enter Try.func7, Try.ntmps7
    go_wp2_with (go_at_call 8; refine (awake_calls _).mono ?_; rintro e w1 ⟨rfl, hb1⟩)
    go_ret
    exact ⟨rfl, hb1⟩
set_option maxHeartbeats 6400000 in
set_option maxRecDepth 100000 in
theorem joins_short (a b : ByteArray) (ha : a.size ≤ 40) (hb : b.size ≤ 40) (w : World) :
    Calls Try.prog 7 #[.string a, .string b] w fun e w' => e = .returned (.bool true) ∧ Below w.heap.size w w' := by
  have e1 : decide ((40 : Int) < (a.size : Int)) = false := decide_eq_false (by omega)
  have e2 : decide ((40 : Int) < (b.size : Int)) = false := decide_eq_false (by omega)
  go_enter Try.func7, Try.ntmps7
  have tok1 : True := trivial
  go_upto_region 8 with (first | (go_at_call 8; refine (awake_calls _).mono ?_; rintro e w1 ⟨rfl, hb1⟩; have HB1 := Lib.hid hb1; have hz1 := hb1.size; clear hb1) |
    (have tk := tok1; go_at_call 9; refine (make_calls a (by omega) _).mono ?_; clear tk tok1; rintro e w2 ⟨⟨t, rx, hst, rfl, hkt⟩, hb2⟩; have HKX := Lib.hid hkt; have HOX := Lib.hid hkt.oneCell; have HB2 := Lib.hid (below_more HB1.out hz1 hb2); have hz2 := hb2.size; clear hkt hb2) |
    (refine st_nd rfl (.tmp 6) (.tmp 24) rfl _ rfl t.op t.set t.mn t.mx rx rfl HOX.out _ rfl _ (heap_alloc_new _ _) ?_; intro w3 hg3 hgr3; have HB23 : Hid (Below w2.heap.size w2 w3) := Lib.hid (((Below.refl _ _).alloc (Nat.le_refl _) _).grown hgr3 (by simp) (fun k e => by cases e; omega)); have HGX3 := Lib.hid hg3; have HKX3 := Lib.hid (HKX.out.keep HB23.out); have hz3 : w2.heap.size + 1 ≤ w3.heap.size := (by simpa using hgr3.size); have HB3 := Lib.hid (below_more HB2.out (by omega) HB23.out); clear hg3 hgr3; have tok2 : True := trivial) |
    (have tk := tok2; go_at_call 9; refine (make_calls b (by omega) _).mono ?_; clear tk tok2; rintro e w4 ⟨⟨u, ry, hsu, rfl, hku⟩, hb4⟩; have HKY := Lib.hid hku; have HOY := Lib.hid hku.oneCell; have HGX4 := Lib.hid (below_all hb4 HGX3.out); have HKX4 := Lib.hid (HKX3.out.keep hb4); have hz4 := hb4.size; have HB4 := Lib.hid (below_more HB3.out (by omega) hb4); clear hku hb4) |
    (refine st_nd rfl (.tmp 7) (.tmp 26) rfl _ rfl u.op u.set u.mn u.mx ry rfl HOY.out _ rfl _ (heap_alloc_new _ _) ?_; intro w5 hg5 hgr5; have HB45 : Hid (Below w4.heap.size w4 w5) := Lib.hid (((Below.refl _ _).alloc (Nat.le_refl _) _).grown hgr5 (by simp) (fun k e => by cases e; omega)); have HGY := Lib.hid hg5; have HGX := Lib.hid (below_all HB45.out HGX4.out); have HKX5 := Lib.hid (HKX4.out.keep HB45.out); have HKY5 := Lib.hid (HKY.out.keep HB45.out); have hz5 : w4.heap.size + 1 ≤ w5.heap.size := (by simpa using hgr5.size); have HB5 := Lib.hid (below_more HB4.out (by omega) HB45.out); clear hg5 hgr5))
  have HNX : Hid (NodeAt w5 (ndV t.op t.set t.mn t.mx rx) t) := Lib.hid fun w' hb => nodeV_of (t, rx) ((HKX5.out.keep hb).wide fun _ _ _ => trivial)
  have HNY : Hid (NodeAt w5 (ndV u.op u.set u.mn u.mx ry) u) := Lib.hid fun w' hb => nodeV_of (u, ry) ((HKY5.out.keep hb).wide fun _ _ _ => trivial)
  clear HKX HKY
  have HKX : Hid (KidsAt w5 rx t.kids) := Lib.hid fun w' hb => (HKX5.out.keep hb).wide fun _ _ _ => trivial
  have HKY : Hid (KidsAt w5 ry u.kids) := Lib.hid fun w' hb => (HKY5.out.keep hb).wide fun _ _ _ => trivial
  have hz : w.heap.size ≤ w5.heap.size := by omega
  clear HB1 HB2 HB23 HB3 HB4 HB45 HGX3 HGX4 HKX3 HKX4 HKX5 HKY5 HOX HOY e1 e2
  generalize w2.heap.size = gx at *
  generalize w4.heap.size = gy at *
  go_upto_region 9 with (first | (refine ld_nd_mid rfl (.tmp 6) rfl _ _ rfl _ _ _ _ _ (range_row HGX.out) ?_) |
    (go_at_call 23; refine (null_calls t _ _ _ (HNX.out _ (Below.refl _ _))).mono ?_; rintro e w6 ⟨rfl, hb6⟩))
  have hz6 : w.heap.size ≤ w6.heap.size := by have := hb6.size; omega
  have HB6 := Lib.hid (below_more HB5.out hz hb6)
  have HNX := Lib.hid (HNX.out.later hb6)
  have HNY := Lib.hid (HNY.out.later hb6)
  have HKX := Lib.hid (HKX.out.later hb6)
  have HKY := Lib.hid (HKY.out.later hb6)
  have HGX := Lib.hid (below_all hb6 HGX.out)
  have HGY := Lib.hid (below_all hb6 HGY.out)
  clear hb6
  go_upto_region 10 with (first | (refine ld_nd_mid rfl (.tmp 7) rfl _ _ rfl _ _ _ _ _ (range_row HGY.out) ?_) |
    (go_at_call 23; refine (null_calls u _ _ _ (HNY.out _ (Below.refl _ _))).mono ?_; rintro e w7 ⟨rfl, hb7⟩))
  have hz7 : w.heap.size ≤ w7.heap.size := by have := hb7.size; omega
  have HB7 := Lib.hid (below_more HB6.out hz6 hb7)
  have HNX := Lib.hid (HNX.out.later hb7)
  have HNY := Lib.hid (HNY.out.later hb7)
  have HKX := Lib.hid (HKX.out.later hb7)
  have HKY := Lib.hid (HKY.out.later hb7)
  have HGX := Lib.hid (below_all hb7 HGX.out)
  have HGY := Lib.hid (below_all hb7 HGY.out)
  clear hb7
  refine region_all (by kernel_rfl) (fun w' => Below w7.heap.size w7 w') (fun w1 w2 => Below w1.heap.size w1 w2) (predsT (joins10 w7 gx gy 0 t u rx ry)) (by kernel_rfl) (by kernel_rfl) (by kernel_rfl) (preds_keep _ (joins10_keep w7 gx gy 0 t u rx ry)) (Below.refl _ _).drew ?_ ?_
  · refine ⟨?_, ?_, ?_, ?_, ?_, ?_, ?_, trivial⟩
    · refine ob_val (fun _ => Below.refl _ _) fun a' w' hS hI hD => ⟨rfl, ndV t.op t.set t.mn t.mx rx, ?_, rfl⟩
      have h0 : a'.tmps.getD 6 undef = Value.pointer (some ⟨gx, 0, none⟩) := hS.at rfl
      simp only [execOp, Act.eval, h0]
      exact run_load_nd' w' gx 0 t.op t.set t.mn t.mx rx (range_row (below_all hI HGX.out))
    · refine ob_call fun a' w' hS hI hD => ⟨rfl, 25, #[ndV t.op t.set t.mn t.mx rx], ?_, ?_⟩
      · have h0 : a'.tmps.getD 31 undef = ndV t.op t.set t.mn t.mx rx := dep_at hD 0 (by kernel_rfl)
        rw [run_call 25 _ _ rfl (enters_of Try.func25 (by kernel_rfl) rfl)]
        simp only [List.map_toArray, List.map_cons, List.map_nil, Act.eval, h0]
      · have h0 : a'.tmps.getD 31 undef = ndV t.op t.set t.mn t.mx rx := dep_at hD 0 (by kernel_rfl)
        exact (size_calls t _ _ w' (HNX.out w' hI) (by omega)).mono fun e w'' ⟨he, hb⟩ => ⟨_, he, rfl, hb, below_more hI hI.size hb⟩
    · refine ob_val (fun _ => Below.refl _ _) fun a' w' hS hI hD => ⟨rfl, Value.int .i64 ((1 + t.size : Nat) : Int), ?_, rfl⟩
      have h0 : a'.tmps.getD 32 undef = Value.int .i64 ((t.size : Nat) : Int) := dep_at hD 1 (by kernel_rfl)
      exact run_add_i _ _ (.const (.int .i64 1)) (.tmp 32) rfl _ _ _ rfl h0 (by omega) (by omega) (by omega)
    · refine ob_val (fun _ => Below.refl _ _) fun a' w' hS hI hD => ⟨rfl, ndV u.op u.set u.mn u.mx ry, ?_, rfl⟩
      have h0 : a'.tmps.getD 7 undef = Value.pointer (some ⟨gy, 0, none⟩) := hS.at rfl
      simp only [execOp, Act.eval, h0]
      exact run_load_nd' w' gy 0 u.op u.set u.mn u.mx ry (range_row (below_all hI HGY.out))
    · refine ob_call fun a' w' hS hI hD => ⟨rfl, 25, #[ndV u.op u.set u.mn u.mx ry], ?_, ?_⟩
      · have h0 : a'.tmps.getD 34 undef = ndV u.op u.set u.mn u.mx ry := dep_at hD 3 (by kernel_rfl)
        rw [run_call 25 _ _ rfl (enters_of Try.func25 (by kernel_rfl) rfl)]
        simp only [List.map_toArray, List.map_cons, List.map_nil, Act.eval, h0]
      · have h0 : a'.tmps.getD 34 undef = ndV u.op u.set u.mn u.mx ry := dep_at hD 3 (by kernel_rfl)
        exact (size_calls u _ _ w' (HNY.out w' hI) (by omega)).mono fun e w'' ⟨he, hb⟩ => ⟨_, he, rfl, hb, below_more hI hI.size hb⟩
    · refine ob_val (fun _ => Below.refl _ _) fun a' w' hS hI hD => ⟨rfl, Value.int .i64 ((1 + t.size + u.size : Nat) : Int), ?_, rfl⟩
      have h0 : a'.tmps.getD 33 undef = Value.int .i64 ((1 + t.size : Nat) : Int) := dep_at hD 2 (by kernel_rfl)
      have h1 : a'.tmps.getD 35 undef = Value.int .i64 ((u.size : Nat) : Int) := dep_at hD 4 (by kernel_rfl)
      exact run_add_i _ _ (.tmp 33) (.tmp 35) rfl _ _ _ h0 h1 (by omega) (by omega) (by omega)
    · refine ob_val (fun _ => Below.refl _ _) fun a' w' hS hI hD => ⟨rfl, Value.int .i64 ((1 + t.size + u.size : Nat) : Int), ?_, rfl⟩
      have h0 : a'.tmps.getD 36 undef = Value.int .i64 ((1 + t.size + u.size : Nat) : Int) := dep_at hD 5 (by kernel_rfl)
      exact run_val (.tmp 36) (by first | exact .inl rfl | exact .inr rfl) _ h0
  · intro v w8 hI hT
    have h6 : v 6 = .int .i64 ((1 + t.size + u.size : Nat) : Int) := tall_at _ _ hT 6 (by decide) (by decide)
    have hz8 : w.heap.size ≤ w8.heap.size := by have := hI.size; omega
    have HB8 := Lib.hid (below_more HB7.out hz7 hI)
    have HNX := Lib.hid (HNX.out.later hI)
    have HNY := Lib.hid (HNY.out.later hI)
    have HKX := Lib.hid (HKX.out.later hI)
    have HKY := Lib.hid (HKY.out.later hI)
    have HGX := Lib.hid (below_all hI HGX.out)
    have HGY := Lib.hid (below_all hI HGY.out)
    clear hT hI
    simp only [List.take_succ_cons, List.take_zero, List.drop_succ_cons, List.drop_zero, putAll, Act.put, List.setIfInBounds_toArray, List.set_cons_succ, List.set_cons_zero, Nat.reduceAdd, h6]
    clear h6
    go_upto_region 11 with (fail)
    refine region_tail 7 (by kernel_rfl) (fun w' => Below w8.heap.size w8 w') (fun w1 w2 => Below w1.heap.size w1 w2) (predsT (joins11 w8 gx gy 0 t u rx ry)) (by kernel_rfl) (by kernel_rfl) (by kernel_rfl) (by kernel_rfl) (preds_keep _ (joins11_keep w8 gx gy 0 t u rx ry)) (Below.refl _ _).drew ?_ ?_
    · refine ⟨?_, ?_, ?_, ?_, ?_, ?_, ?_, trivial⟩
      · refine ob_val (fun _ => Below.refl _ _) fun a' w' hS hI hD => ⟨rfl, ndV t.op t.set t.mn t.mx rx, ?_, rfl⟩
        have h0 : a'.tmps.getD 6 undef = Value.pointer (some ⟨gx, 0, none⟩) := hS.at rfl
        simp only [execOp, Act.eval, h0]
        exact run_load_nd' w' gx 0 t.op t.set t.mn t.mx rx (range_row (below_all hI HGX.out))
      · refine ob_call fun a' w' hS hI hD => ⟨rfl, 27, #[ndV t.op t.set t.mn t.mx rx], ?_, ?_⟩
        · have h0 : a'.tmps.getD 37 undef = ndV t.op t.set t.mn t.mx rx := dep_at hD 0 (by kernel_rfl)
          rw [run_call 27 _ _ rfl (enters_of Try.func27 (by kernel_rfl) rfl)]
          simp only [List.map_toArray, List.map_cons, List.map_nil, Act.eval, h0]
        · have h0 : a'.tmps.getD 37 undef = ndV t.op t.set t.mn t.mx rx := dep_at hD 0 (by kernel_rfl)
          exact (bytes_calls t _ _ w' (HNX.out w' hI) (by omega)).mono fun e w'' ⟨he, hb⟩ => ⟨_, he, rfl, hb, below_more hI hI.size hb⟩
      · refine ob_val (fun _ => Below.refl _ _) fun a' w' hS hI hD => ⟨rfl, ndV u.op u.set u.mn u.mx ry, ?_, rfl⟩
        have h0 : a'.tmps.getD 7 undef = Value.pointer (some ⟨gy, 0, none⟩) := hS.at rfl
        simp only [execOp, Act.eval, h0]
        exact run_load_nd' w' gy 0 u.op u.set u.mn u.mx ry (range_row (below_all hI HGY.out))
      · refine ob_call fun a' w' hS hI hD => ⟨rfl, 27, #[ndV u.op u.set u.mn u.mx ry], ?_, ?_⟩
        · have h0 : a'.tmps.getD 39 undef = ndV u.op u.set u.mn u.mx ry := dep_at hD 2 (by kernel_rfl)
          rw [run_call 27 _ _ rfl (enters_of Try.func27 (by kernel_rfl) rfl)]
          simp only [List.map_toArray, List.map_cons, List.map_nil, Act.eval, h0]
        · have h0 : a'.tmps.getD 39 undef = ndV u.op u.set u.mn u.mx ry := dep_at hD 2 (by kernel_rfl)
          exact (bytes_calls u _ _ w' (HNY.out w' hI) (by omega)).mono fun e w'' ⟨he, hb⟩ => ⟨_, he, rfl, hb, below_more hI hI.size hb⟩
      · refine ob_new fun a' w' hS hI hD => ⟨rfl, .slice (some ⟨w'.heap.size, 0, none⟩) 2 2, w'.alloc (.cells (setC (t.bytes) ++ setC (u.bytes)) 24), ?_, sets_two (heap_alloc_new _ _), (Below.refl _ _).alloc (Nat.le_refl _) _, hI.alloc hI.size _⟩
        have h0 : a'.tmps.getD 38 undef = setV (t.bytes) := dep_at hD 1 (by kernel_rfl)
        have h1 : a'.tmps.getD 40 undef = setV (u.bytes) := dep_at hD 3 (by kernel_rfl)
        simp only [execOp, Act.eval, List.map_toArray, List.map_cons, List.map_nil, h0, h1, Sem.run_bind, Sem.run_pure, Result.andThen_ok, run_build_set2]
      · refine ob_call fun a' w' hS hI hD => ⟨rfl, 33, #[a'.tmps.getD 41 undef], ?_, ?_⟩
        · rw [run_call 33 _ _ rfl (enters_of Try.func33 (by kernel_rfl) rfl)]
          simp only [List.map_toArray, List.map_cons, List.map_nil, Act.eval]
        · have h0 : Sets w' (a'.tmps.getD 41 undef) [(t.bytes), (u.bytes)] := dep_at hD 4 (by kernel_rfl)
          exact (runion_calls _ _ w' h0).mono fun e w'' ⟨he, hb⟩ => ⟨_, he, rfl, hb, below_more hI hI.size hb⟩
      · refine ob_new fun a' w' hS hI hD => ⟨rfl, .pointer (some ⟨w'.heap.size, 0, none⟩), w'.alloc (.cells (setC 0#256) 24), run_alloc_set rfl, ⟨_, rfl, hI.size, heap_alloc_new _ _⟩, (Below.refl _ _).alloc (Nat.le_refl _) _, hI.alloc hI.size _⟩
    · intro v2 w9 hI hT
      have h5 : v2 5 = setV (unionS [t.bytes, u.bytes]) := tall_at _ _ hT 5 (by decide) (by decide)
      have h6 : ∃ gs, v2 6 = Value.pointer (some ⟨gs, 0, none⟩) ∧ w8.heap.size ≤ gs ∧ w9.heap[gs]? = some (.cells (setC 0#256) 24 (0, 0)) := tall_at _ _ hT 6 (by decide) (by decide)
      obtain ⟨gs, h6, hgs, hcs⟩ := h6
      have HI9 := Lib.hid hI
      have HCS := Lib.hid hcs
      have hz9 := hI.size
      clear hT hI hcs
      simp only [List.take_succ_cons, List.take_zero, List.drop_succ_cons, List.drop_zero, putAll, Act.put, List.setIfInBounds_toArray, List.set_cons_succ, List.set_cons_zero, Nat.reduceAdd, h5, h6]
      clear h5 h6
      refine st_set rfl (.tmp 11) (.tmp 42) rfl _ rfl (unionS [t.bytes, u.bytes]) rfl 0#256 _ HCS.out ?_
      intro w10 hg10 hgr10
      have HGS := Lib.hid hg10
      have hb10 : Below w8.heap.size w8 w10 := HI9.out.grown hgr10 hz9 (fun k e => by simp only [Option.some.injEq] at e; omega)
      have hz10 : w.heap.size ≤ w10.heap.size := by have := hb10.size; omega
      have HB10 := Lib.hid (below_more HB8.out hz8 hb10)
      have HNX := Lib.hid (HNX.out.later hb10)
      have HNY := Lib.hid (HNY.out.later hb10)
      have HKX := Lib.hid (HKX.out.later hb10)
      have HKY := Lib.hid (HKY.out.later hb10)
      have HGX := Lib.hid (below_all hb10 HGX.out)
      have HGY := Lib.hid (below_all hb10 HGY.out)
      clear hg10 hgr10 hb10 HI9 HCS
      go_upto_region 12 with (fail)
      refine region_seq (fun w' => Below w10.heap.size w10 w') (fun w1 w2 => Below w1.heap.size w1 w2) (predsT (joins12 w10 gx gy 0 t u rx ry)) (by kernel_rfl) (by kernel_rfl) (by kernel_rfl) (preds_keep _ (joins12_keep w10 gx gy 0 t u rx ry)) (Below.refl _ _) ?_ ?_
      · refine ⟨?_, ?_, ?_, ?_, ?_, ?_, ?_, ?_, ?_, ?_, ?_, ?_, ?_, ?_, ?_, ?_, ?_, ?_, ?_, ?_, ?_, ?_, ?_, ?_, ?_, ?_, ?_, ?_, ?_, ?_, ?_, ?_, ?_, ?_, ?_, ?_, ?_, ?_, ?_, ?_, ?_, ?_, ?_, ?_, ?_, ?_, ?_, trivial⟩
        · refine ob_val (fun _ => Below.refl _ _) fun a' w' hS hI hD => ⟨rfl, ndV t.op t.set t.mn t.mx rx, ?_, rfl⟩
          have h0 : a'.tmps.getD 6 undef = Value.pointer (some ⟨gx, 0, none⟩) := hS.at rfl
          simp only [execOp, Act.eval, h0]
          exact run_load_nd' w' gx 0 t.op t.set t.mn t.mx rx (range_row (below_all hI HGX.out))
        · refine ob_val (fun _ => Below.refl _ _) fun a' w' hS hI hD => ⟨rfl, ndV u.op u.set u.mn u.mx ry, ?_, rfl⟩
          have h0 : a'.tmps.getD 7 undef = Value.pointer (some ⟨gy, 0, none⟩) := hS.at rfl
          simp only [execOp, Act.eval, h0]
          exact run_load_nd' w' gy 0 u.op u.set u.mn u.mx ry (range_row (below_all hI HGY.out))
        · refine ob_new fun a' w' hS hI hD => ⟨rfl, .slice (some ⟨w'.heap.size, 0, none⟩) 2 2, w'.alloc (.cells (ndC t.op t.set t.mn t.mx rx ++ ndC u.op u.set u.mn u.mx ry) 28), ?_, kids_two (a := (t, rx)) (b := (u, ry)) (heap_alloc_new _ _) (((HKX.out w' hI).keep ((Below.refl _ _).alloc (Nat.le_refl _) _))) (((HKY.out w' hI).keep ((Below.refl _ _).alloc (Nat.le_refl _) _))) trivial, (Below.refl _ _).alloc (Nat.le_refl _) _, hI.alloc hI.size _⟩
          have h0 : a'.tmps.getD 43 undef = ndV t.op t.set t.mn t.mx rx := dep_at hD 0 (by kernel_rfl)
          have h1 : a'.tmps.getD 44 undef = ndV u.op u.set u.mn u.mx ry := dep_at hD 1 (by kernel_rfl)
          simp only [execOp, Act.eval, List.map_toArray, List.map_cons, List.map_nil, h0, h1, Sem.run_bind, Sem.run_pure, Result.andThen_ok, run_build_nd2]
        · refine ob_call fun a' w' hS hI hD => ⟨rfl, 16, #[a'.tmps.getD 45 undef], ?_, ?_⟩
          · rw [run_call 16 _ _ rfl (enters_of Try.func16 (by kernel_rfl) rfl)]
            simp only [List.map_toArray, List.map_cons, List.map_nil, Act.eval]
          · have h0 : Kids w' (fun _ => True) (a'.tmps.getD 45 undef) [t, u] := dep_at hD 2 (by kernel_rfl)
            exact (cat_calls [t, u] (by simp only [List.map_cons, List.map_nil, List.sum_cons, List.sum_nil]; omega) _ _ w' h0).mono fun e w'' ⟨⟨r, he, hk⟩, hb⟩ => ⟨_, he, ⟨r, rfl, hk.wide fun _ _ _ => trivial⟩, hb, below_more hI hI.size hb⟩
        · refine ob_call fun a' w' hS hI hD => ⟨rfl, 23, #[a'.tmps.getD 46 undef], ?_, ?_⟩
          · rw [run_call 23 _ _ rfl (enters_of Try.func23 (by kernel_rfl) rfl)]
            simp only [List.map_toArray, List.map_cons, List.map_nil, Act.eval]
          · have h0 : NodeV w' (fun _ => True) (a'.tmps.getD 46 undef) (Nd.mk 1 0#256 0 0 [t, u]) := dep_at hD 3 (by kernel_rfl)
            exact (null_calls _ _ _ w' h0).mono fun e w'' ⟨he, hb⟩ => ⟨_, he, congrArg Value.bool (null_cat t u), hb, below_more hI hI.size hb⟩
        · refine ob_val (fun _ => Below.refl _ _) fun a' w' hS hI hD => ⟨rfl, Value.bool t.null, ?_, rfl⟩
          have h0 : a'.tmps.getD 8 undef = Value.bool t.null := hS.at rfl
          exact run_val (.tmp 8) (by first | exact .inl rfl | exact .inr rfl) _ h0
        · refine ob_val (fun _ => Below.refl _ _) fun a' w' hS hI hD => ⟨rfl, Value.bool t.null, ?_, rfl⟩
          have h0 : a'.tmps.getD 48 undef = Value.bool t.null := dep_at hD 5 (by kernel_rfl)
          exact run_val (.tmp 48) (by first | exact .inl rfl | exact .inr rfl) _ h0
        · refine ob_when (t.null = true) (fun hc0 => ?_) (fun hn a' w' hS hI hD => ⟨unwanted (c := (t.null)) rfl (dep_at hD 6 (by kernel_rfl)) hn, fun hc => absurd hc hn⟩)
          refine ob_val (fun _ => Below.refl _ _) fun a' w' hS hI hD => ⟨wanted_eq (c := (t.null)) rfl (dep_at hD 6 (by kernel_rfl)) hc0, Value.bool u.null, ?_, fun _ => rfl⟩
          have h0 : a'.tmps.getD 9 undef = Value.bool u.null := hS.at rfl
          exact run_val (.tmp 9) (by first | exact .inl rfl | exact .inr rfl) _ h0
        · refine ob_val (fun _ => Below.refl _ _) fun a' w' hS hI hD => ⟨rfl, Value.bool (t.null && u.null), ?_, rfl⟩
          have h0 : a'.tmps.getD 49 undef = Value.bool t.null := dep_at hD 6 (by kernel_rfl)
          have h1 : (t.null = true → a'.tmps.getD 50 undef = Value.bool u.null) := dep_at hD 7 (by kernel_rfl)
          replace h1 : t.null = true → a'.tmps.getD 50 undef = Value.bool u.null := fun hC => h1 hC
          exact run_pick_and (.tmp 49) (.tmp 50) rfl rfl _ _ h0 h1
        · refine ob_val (fun _ => Below.refl _ _) fun a' w' hS hI hD => ⟨rfl, Value.bool false, ?_, rfl⟩
          have h0 : a'.tmps.getD 47 undef = Value.bool (t.null && u.null) := dep_at hD 4 (by kernel_rfl)
          have h1 : a'.tmps.getD 51 undef = Value.bool (t.null && u.null) := dep_at hD 8 (by kernel_rfl)
          exact (run_neq_b _ _ (.tmp 47) (.tmp 51) rfl _ _ h0 h1 (by kernel_rfl)).trans (by simp)
        · refine ob_val (fun _ => Below.refl _ _) fun a' w' hS hI hD => ⟨rfl, Value.bool false, ?_, rfl⟩
          have h0 : a'.tmps.getD 52 undef = Value.bool false := dep_at hD 9 (by kernel_rfl)
          exact run_val (.tmp 52) (by first | exact .inl rfl | exact .inr rfl) _ h0
        · refine ob_val (fun _ => Below.refl _ _) fun a' w' hS hI hD => ⟨wanted_eq (c := false) rfl (dep_at hD 10 (by kernel_rfl)) rfl, ndV t.op t.set t.mn t.mx rx, ?_, rfl⟩
          have h0 : a'.tmps.getD 6 undef = Value.pointer (some ⟨gx, 0, none⟩) := hS.at rfl
          simp only [execOp, Act.eval, h0]
          exact run_load_nd' w' gx 0 t.op t.set t.mn t.mx rx (range_row (below_all hI HGX.out))
        · refine ob_val (fun _ => Below.refl _ _) fun a' w' hS hI hD => ⟨wanted_eq (c := false) rfl (dep_at hD 10 (by kernel_rfl)) rfl, ndV u.op u.set u.mn u.mx ry, ?_, rfl⟩
          have h0 : a'.tmps.getD 7 undef = Value.pointer (some ⟨gy, 0, none⟩) := hS.at rfl
          simp only [execOp, Act.eval, h0]
          exact run_load_nd' w' gy 0 u.op u.set u.mn u.mx ry (range_row (below_all hI HGY.out))
        · refine ob_new fun a' w' hS hI hD => ⟨wanted_eq (c := false) rfl (dep_at hD 10 (by kernel_rfl)) rfl, .slice (some ⟨w'.heap.size, 0, none⟩) 2 2, w'.alloc (.cells (ndC t.op t.set t.mn t.mx rx ++ ndC u.op u.set u.mn u.mx ry) 28), ?_, kids_two (a := (t, rx)) (b := (u, ry)) (heap_alloc_new _ _) (((HKX.out w' hI).keep ((Below.refl _ _).alloc (Nat.le_refl _) _))) (((HKY.out w' hI).keep ((Below.refl _ _).alloc (Nat.le_refl _) _))) trivial, (Below.refl _ _).alloc (Nat.le_refl _) _, hI.alloc hI.size _⟩
          have h0 : a'.tmps.getD 54 undef = ndV t.op t.set t.mn t.mx rx := dep_at hD 11 (by kernel_rfl)
          have h1 : a'.tmps.getD 55 undef = ndV u.op u.set u.mn u.mx ry := dep_at hD 12 (by kernel_rfl)
          simp only [execOp, Act.eval, List.map_toArray, List.map_cons, List.map_nil, h0, h1, Sem.run_bind, Sem.run_pure, Result.andThen_ok, run_build_nd2]
        · refine ob_call fun a' w' hS hI hD => ⟨wanted_eq (c := false) rfl (dep_at hD 10 (by kernel_rfl)) rfl, 19, #[a'.tmps.getD 56 undef], ?_, ?_⟩
          · rw [run_call 19 _ _ rfl (enters_of Try.func19 (by kernel_rfl) rfl)]
            simp only [List.map_toArray, List.map_cons, List.map_nil, Act.eval]
          · have h0 : Kids w' (fun _ => True) (a'.tmps.getD 56 undef) [t, u] := dep_at hD 13 (by kernel_rfl)
            exact (and_calls [t, u] (by simp only [List.map_cons, List.map_nil, List.sum_cons, List.sum_nil]; omega) _ _ w' h0).mono fun e w'' ⟨⟨r, he, hk⟩, hb⟩ => ⟨_, he, ⟨r, rfl, hk.wide fun _ _ _ => trivial⟩, hb, below_more hI hI.size hb⟩
        · refine ob_call fun a' w' hS hI hD => ⟨wanted_eq (c := false) rfl (dep_at hD 10 (by kernel_rfl)) rfl, 23, #[a'.tmps.getD 57 undef], ?_, ?_⟩
          · rw [run_call 23 _ _ rfl (enters_of Try.func23 (by kernel_rfl) rfl)]
            simp only [List.map_toArray, List.map_cons, List.map_nil, Act.eval]
          · have h0 : NodeV w' (fun _ => True) (a'.tmps.getD 57 undef) (Nd.mk 4 0#256 0 0 [t, u]) := dep_at hD 14 (by kernel_rfl)
            exact (null_calls _ _ _ w' h0).mono fun e w'' ⟨he, hb⟩ => ⟨_, he, congrArg Value.bool (null_and t u), hb, below_more hI hI.size hb⟩
        · refine ob_val (fun _ => Below.refl _ _) fun a' w' hS hI hD => ⟨wanted_eq (c := false) rfl (dep_at hD 10 (by kernel_rfl)) rfl, Value.bool t.null, ?_, rfl⟩
          have h0 : a'.tmps.getD 8 undef = Value.bool t.null := hS.at rfl
          exact run_val (.tmp 8) (by first | exact .inl rfl | exact .inr rfl) _ h0
        · refine ob_val (fun _ => Below.refl _ _) fun a' w' hS hI hD => ⟨wanted_eq (c := false) rfl (dep_at hD 10 (by kernel_rfl)) rfl, Value.bool t.null, ?_, rfl⟩
          have h0 : a'.tmps.getD 59 undef = Value.bool t.null := dep_at hD 16 (by kernel_rfl)
          exact run_val (.tmp 59) (by first | exact .inl rfl | exact .inr rfl) _ h0
        · refine ob_when (t.null = true) (fun hc0 => ?_) (fun hn a' w' hS hI hD => ⟨unwanted (c := (t.null)) rfl (dep_at hD 17 (by kernel_rfl)) hn, fun hc => absurd hc hn⟩)
          refine ob_val (fun _ => Below.refl _ _) fun a' w' hS hI hD => ⟨wanted_eq (c := (t.null)) rfl (dep_at hD 17 (by kernel_rfl)) hc0, Value.bool u.null, ?_, fun _ => rfl⟩
          have h0 : a'.tmps.getD 9 undef = Value.bool u.null := hS.at rfl
          exact run_val (.tmp 9) (by first | exact .inl rfl | exact .inr rfl) _ h0
        · refine ob_val (fun _ => Below.refl _ _) fun a' w' hS hI hD => ⟨wanted_eq (c := false) rfl (dep_at hD 10 (by kernel_rfl)) rfl, Value.bool (t.null && u.null), ?_, rfl⟩
          have h0 : a'.tmps.getD 60 undef = Value.bool t.null := dep_at hD 17 (by kernel_rfl)
          have h1 : (t.null = true → a'.tmps.getD 61 undef = Value.bool u.null) := dep_at hD 18 (by kernel_rfl)
          replace h1 : t.null = true → a'.tmps.getD 61 undef = Value.bool u.null := fun hC => h1 hC
          exact run_pick_and (.tmp 60) (.tmp 61) rfl rfl _ _ h0 h1
        · refine ob_val (fun _ => Below.refl _ _) fun a' w' hS hI hD => ⟨wanted_eq (c := false) rfl (dep_at hD 10 (by kernel_rfl)) rfl, Value.bool false, ?_, rfl⟩
          have h0 : a'.tmps.getD 58 undef = Value.bool (t.null && u.null) := dep_at hD 15 (by kernel_rfl)
          have h1 : a'.tmps.getD 62 undef = Value.bool (t.null && u.null) := dep_at hD 19 (by kernel_rfl)
          exact (run_neq_b _ _ (.tmp 58) (.tmp 62) rfl _ _ h0 h1 (by kernel_rfl)).trans (by simp)
        · refine ob_val (fun _ => Below.refl _ _) fun a' w' hS hI hD => ⟨rfl, Value.bool false, ?_, rfl⟩
          have h0 : a'.tmps.getD 53 undef = Value.bool false := dep_at hD 10 (by kernel_rfl)
          have h1 : a'.tmps.getD 63 undef = Value.bool false := dep_at hD 20 (by kernel_rfl)
          simp only [execOp, Act.eval, h0, h1]
          rfl
        · refine ob_val (fun _ => Below.refl _ _) fun a' w' hS hI hD => ⟨rfl, Value.bool false, ?_, rfl⟩
          have h0 : a'.tmps.getD 64 undef = Value.bool false := dep_at hD 21 (by kernel_rfl)
          exact run_val (.tmp 64) (by first | exact .inl rfl | exact .inr rfl) _ h0
        · refine ob_val (fun _ => Below.refl _ _) fun a' w' hS hI hD => ⟨wanted_eq (c := false) rfl (dep_at hD 22 (by kernel_rfl)) rfl, ndV t.op t.set t.mn t.mx rx, ?_, rfl⟩
          have h0 : a'.tmps.getD 6 undef = Value.pointer (some ⟨gx, 0, none⟩) := hS.at rfl
          simp only [execOp, Act.eval, h0]
          exact run_load_nd' w' gx 0 t.op t.set t.mn t.mx rx (range_row (below_all hI HGX.out))
        · refine ob_val (fun _ => Below.refl _ _) fun a' w' hS hI hD => ⟨wanted_eq (c := false) rfl (dep_at hD 22 (by kernel_rfl)) rfl, ndV u.op u.set u.mn u.mx ry, ?_, rfl⟩
          have h0 : a'.tmps.getD 7 undef = Value.pointer (some ⟨gy, 0, none⟩) := hS.at rfl
          simp only [execOp, Act.eval, h0]
          exact run_load_nd' w' gy 0 u.op u.set u.mn u.mx ry (range_row (below_all hI HGY.out))
        · refine ob_new fun a' w' hS hI hD => ⟨wanted_eq (c := false) rfl (dep_at hD 22 (by kernel_rfl)) rfl, .slice (some ⟨w'.heap.size, 0, none⟩) 2 2, w'.alloc (.cells (ndC t.op t.set t.mn t.mx rx ++ ndC u.op u.set u.mn u.mx ry) 28), ?_, kids_two (a := (t, rx)) (b := (u, ry)) (heap_alloc_new _ _) (((HKX.out w' hI).keep ((Below.refl _ _).alloc (Nat.le_refl _) _))) (((HKY.out w' hI).keep ((Below.refl _ _).alloc (Nat.le_refl _) _))) trivial, (Below.refl _ _).alloc (Nat.le_refl _) _, hI.alloc hI.size _⟩
          have h0 : a'.tmps.getD 66 undef = ndV t.op t.set t.mn t.mx rx := dep_at hD 23 (by kernel_rfl)
          have h1 : a'.tmps.getD 67 undef = ndV u.op u.set u.mn u.mx ry := dep_at hD 24 (by kernel_rfl)
          simp only [execOp, Act.eval, List.map_toArray, List.map_cons, List.map_nil, h0, h1, Sem.run_bind, Sem.run_pure, Result.andThen_ok, run_build_nd2]
        · refine ob_call fun a' w' hS hI hD => ⟨wanted_eq (c := false) rfl (dep_at hD 22 (by kernel_rfl)) rfl, 18, #[a'.tmps.getD 68 undef], ?_, ?_⟩
          · rw [run_call 18 _ _ rfl (enters_of Try.func18 (by kernel_rfl) rfl)]
            simp only [List.map_toArray, List.map_cons, List.map_nil, Act.eval]
          · have h0 : Kids w' (fun _ => True) (a'.tmps.getD 68 undef) [t, u] := dep_at hD 25 (by kernel_rfl)
            exact (alt_calls [t, u] (by simp only [List.map_cons, List.map_nil, List.sum_cons, List.sum_nil]; omega) _ _ w' h0).mono fun e w'' ⟨⟨r, he, hk⟩, hb⟩ => ⟨_, he, ⟨r, rfl, hk.wide fun _ _ _ => trivial⟩, hb, below_more hI hI.size hb⟩
        · refine ob_call fun a' w' hS hI hD => ⟨wanted_eq (c := false) rfl (dep_at hD 22 (by kernel_rfl)) rfl, 23, #[a'.tmps.getD 69 undef], ?_, ?_⟩
          · rw [run_call 23 _ _ rfl (enters_of Try.func23 (by kernel_rfl) rfl)]
            simp only [List.map_toArray, List.map_cons, List.map_nil, Act.eval]
          · have h0 : NodeV w' (fun _ => True) (a'.tmps.getD 69 undef) (Nd.mk 2 0#256 0 0 [t, u]) := dep_at hD 26 (by kernel_rfl)
            exact (null_calls _ _ _ w' h0).mono fun e w'' ⟨he, hb⟩ => ⟨_, he, congrArg Value.bool (null_alt t u), hb, below_more hI hI.size hb⟩
        · refine ob_val (fun _ => Below.refl _ _) fun a' w' hS hI hD => ⟨wanted_eq (c := false) rfl (dep_at hD 22 (by kernel_rfl)) rfl, Value.bool t.null, ?_, rfl⟩
          have h0 : a'.tmps.getD 8 undef = Value.bool t.null := hS.at rfl
          exact run_val (.tmp 8) (by first | exact .inl rfl | exact .inr rfl) _ h0
        · refine ob_val (fun _ => Below.refl _ _) fun a' w' hS hI hD => ⟨wanted_eq (c := false) rfl (dep_at hD 22 (by kernel_rfl)) rfl, Value.bool t.null, ?_, rfl⟩
          have h0 : a'.tmps.getD 71 undef = Value.bool t.null := dep_at hD 28 (by kernel_rfl)
          exact run_val (.tmp 71) (by first | exact .inl rfl | exact .inr rfl) _ h0
        · refine ob_when (t.null = false) (fun hc0 => ?_) (fun hn a' w' hS hI hD => ⟨unwanted (c := (t.null)) rfl (dep_at hD 29 (by kernel_rfl)) hn, fun hc => absurd hc hn⟩)
          refine ob_val (fun _ => Below.refl _ _) fun a' w' hS hI hD => ⟨wanted_eq (c := (t.null)) rfl (dep_at hD 29 (by kernel_rfl)) hc0, Value.bool u.null, ?_, fun _ => rfl⟩
          have h0 : a'.tmps.getD 9 undef = Value.bool u.null := hS.at rfl
          exact run_val (.tmp 9) (by first | exact .inl rfl | exact .inr rfl) _ h0
        · refine ob_val (fun _ => Below.refl _ _) fun a' w' hS hI hD => ⟨wanted_eq (c := false) rfl (dep_at hD 22 (by kernel_rfl)) rfl, Value.bool (t.null || u.null), ?_, rfl⟩
          have h0 : a'.tmps.getD 72 undef = Value.bool t.null := dep_at hD 29 (by kernel_rfl)
          have h1 : (t.null = false → a'.tmps.getD 73 undef = Value.bool u.null) := dep_at hD 30 (by kernel_rfl)
          replace h1 : t.null = false → a'.tmps.getD 73 undef = Value.bool u.null := fun hC => h1 hC
          exact run_pick_or (.tmp 72) (.tmp 73) rfl rfl _ _ h0 h1
        · refine ob_val (fun _ => Below.refl _ _) fun a' w' hS hI hD => ⟨wanted_eq (c := false) rfl (dep_at hD 22 (by kernel_rfl)) rfl, Value.bool false, ?_, rfl⟩
          have h0 : a'.tmps.getD 70 undef = Value.bool (t.null || u.null) := dep_at hD 27 (by kernel_rfl)
          have h1 : a'.tmps.getD 74 undef = Value.bool (t.null || u.null) := dep_at hD 31 (by kernel_rfl)
          exact (run_neq_b _ _ (.tmp 70) (.tmp 74) rfl _ _ h0 h1 (by kernel_rfl)).trans (by simp)
        · refine ob_val (fun _ => Below.refl _ _) fun a' w' hS hI hD => ⟨rfl, Value.bool false, ?_, rfl⟩
          have h0 : a'.tmps.getD 65 undef = Value.bool false := dep_at hD 22 (by kernel_rfl)
          have h1 : a'.tmps.getD 75 undef = Value.bool false := dep_at hD 32 (by kernel_rfl)
          simp only [execOp, Act.eval, h0, h1]
          rfl
        · refine ob_val (fun _ => Below.refl _ _) fun a' w' hS hI hD => ⟨rfl, Value.bool false, ?_, rfl⟩
          have h0 : a'.tmps.getD 76 undef = Value.bool false := dep_at hD 33 (by kernel_rfl)
          exact run_val (.tmp 76) (by first | exact .inl rfl | exact .inr rfl) _ h0
        · refine ob_val (fun _ => Below.refl _ _) fun a' w' hS hI hD => ⟨wanted_eq (c := false) rfl (dep_at hD 34 (by kernel_rfl)) rfl, ndV t.op t.set t.mn t.mx rx, ?_, rfl⟩
          have h0 : a'.tmps.getD 6 undef = Value.pointer (some ⟨gx, 0, none⟩) := hS.at rfl
          simp only [execOp, Act.eval, h0]
          exact run_load_nd' w' gx 0 t.op t.set t.mn t.mx rx (range_row (below_all hI HGX.out))
        · refine ob_call fun a' w' hS hI hD => ⟨wanted_eq (c := false) rfl (dep_at hD 34 (by kernel_rfl)) rfl, 21, #[ndV t.op t.set t.mn t.mx rx, Value.int .i64 1, Value.int .i64 3], ?_, ?_⟩
          · have h0 : a'.tmps.getD 78 undef = ndV t.op t.set t.mn t.mx rx := dep_at hD 35 (by kernel_rfl)
            rw [run_call 21 _ _ rfl (enters_of Try.func21 (by kernel_rfl) rfl)]
            simp only [List.map_toArray, List.map_cons, List.map_nil, Act.eval, h0]
          · have h0 : a'.tmps.getD 78 undef = ndV t.op t.set t.mn t.mx rx := dep_at hD 35 (by kernel_rfl)
            exact (rep_calls t 1 3 (by omega) _ _ w' (HNX.out w' hI)).mono fun e w'' ⟨⟨r, he, hk⟩, hb⟩ => ⟨_, he, ⟨r, rfl, hk.wide fun _ _ _ => trivial⟩, hb, below_more hI hI.size hb⟩
        · refine ob_call fun a' w' hS hI hD => ⟨wanted_eq (c := false) rfl (dep_at hD 34 (by kernel_rfl)) rfl, 23, #[a'.tmps.getD 79 undef], ?_, ?_⟩
          · rw [run_call 23 _ _ rfl (enters_of Try.func23 (by kernel_rfl) rfl)]
            simp only [List.map_toArray, List.map_cons, List.map_nil, Act.eval]
          · have h0 : NodeV w' (fun _ => True) (a'.tmps.getD 79 undef) (Nd.mk 3 0#256 1 3 [t]) := dep_at hD 36 (by kernel_rfl)
            exact (null_calls _ _ _ w' h0).mono fun e w'' ⟨he, hb⟩ => ⟨_, he, congrArg Value.bool (null_rep1 t), hb, below_more hI hI.size hb⟩
        · refine ob_val (fun _ => Below.refl _ _) fun a' w' hS hI hD => ⟨wanted_eq (c := false) rfl (dep_at hD 34 (by kernel_rfl)) rfl, Value.bool t.null, ?_, rfl⟩
          have h0 : a'.tmps.getD 8 undef = Value.bool t.null := hS.at rfl
          exact run_val (.tmp 8) (by first | exact .inl rfl | exact .inr rfl) _ h0
        · refine ob_val (fun _ => Below.refl _ _) fun a' w' hS hI hD => ⟨wanted_eq (c := false) rfl (dep_at hD 34 (by kernel_rfl)) rfl, Value.bool false, ?_, rfl⟩
          have h0 : a'.tmps.getD 80 undef = Value.bool t.null := dep_at hD 37 (by kernel_rfl)
          have h1 : a'.tmps.getD 81 undef = Value.bool t.null := dep_at hD 38 (by kernel_rfl)
          exact (run_neq_b _ _ (.tmp 80) (.tmp 81) rfl _ _ h0 h1 (by kernel_rfl)).trans (by simp)
        · refine ob_val (fun _ => Below.refl _ _) fun a' w' hS hI hD => ⟨rfl, Value.bool false, ?_, rfl⟩
          have h0 : a'.tmps.getD 77 undef = Value.bool false := dep_at hD 34 (by kernel_rfl)
          have h1 : a'.tmps.getD 82 undef = Value.bool false := dep_at hD 39 (by kernel_rfl)
          simp only [execOp, Act.eval, h0, h1]
          rfl
        · refine ob_val (fun _ => Below.refl _ _) fun a' w' hS hI hD => ⟨rfl, Value.bool false, ?_, rfl⟩
          have h0 : a'.tmps.getD 83 undef = Value.bool false := dep_at hD 40 (by kernel_rfl)
          exact run_val (.tmp 83) (by first | exact .inl rfl | exact .inr rfl) _ h0
        · refine ob_val (fun _ => Below.refl _ _) fun a' w' hS hI hD => ⟨wanted_eq (c := false) rfl (dep_at hD 41 (by kernel_rfl)) rfl, ndV t.op t.set t.mn t.mx rx, ?_, rfl⟩
          have h0 : a'.tmps.getD 6 undef = Value.pointer (some ⟨gx, 0, none⟩) := hS.at rfl
          simp only [execOp, Act.eval, h0]
          exact run_load_nd' w' gx 0 t.op t.set t.mn t.mx rx (range_row (below_all hI HGX.out))
        · refine ob_call fun a' w' hS hI hD => ⟨wanted_eq (c := false) rfl (dep_at hD 41 (by kernel_rfl)) rfl, 21, #[ndV t.op t.set t.mn t.mx rx, Value.int .i64 0, Value.int .i64 3], ?_, ?_⟩
          · have h0 : a'.tmps.getD 85 undef = ndV t.op t.set t.mn t.mx rx := dep_at hD 42 (by kernel_rfl)
            rw [run_call 21 _ _ rfl (enters_of Try.func21 (by kernel_rfl) rfl)]
            simp only [List.map_toArray, List.map_cons, List.map_nil, Act.eval, h0]
          · have h0 : a'.tmps.getD 85 undef = ndV t.op t.set t.mn t.mx rx := dep_at hD 42 (by kernel_rfl)
            exact (rep_calls t 0 3 (by omega) _ _ w' (HNX.out w' hI)).mono fun e w'' ⟨⟨r, he, hk⟩, hb⟩ => ⟨_, he, ⟨r, rfl, hk.wide fun _ _ _ => trivial⟩, hb, below_more hI hI.size hb⟩
        · refine ob_call fun a' w' hS hI hD => ⟨wanted_eq (c := false) rfl (dep_at hD 41 (by kernel_rfl)) rfl, 23, #[a'.tmps.getD 86 undef], ?_, ?_⟩
          · rw [run_call 23 _ _ rfl (enters_of Try.func23 (by kernel_rfl) rfl)]
            simp only [List.map_toArray, List.map_cons, List.map_nil, Act.eval]
          · have h0 : NodeV w' (fun _ => True) (a'.tmps.getD 86 undef) (Nd.mk 3 0#256 0 3 [t]) := dep_at hD 43 (by kernel_rfl)
            exact (null_calls _ _ _ w' h0).mono fun e w'' ⟨he, hb⟩ => ⟨_, he, congrArg Value.bool (null_rep0 t), hb, below_more hI hI.size hb⟩
        · refine ob_val (fun _ => Below.refl _ _) fun a' w' hS hI hD => ⟨wanted_eq (c := false) rfl (dep_at hD 41 (by kernel_rfl)) rfl, Value.bool false, ?_, rfl⟩
          have h0 : a'.tmps.getD 87 undef = Value.bool true := dep_at hD 44 (by kernel_rfl)
          simp only [execOp, Act.eval, h0]
          rfl
        · refine ob_val (fun _ => Below.refl _ _) fun a' w' hS hI hD => ⟨rfl, Value.bool false, ?_, rfl⟩
          have h0 : a'.tmps.getD 84 undef = Value.bool false := dep_at hD 41 (by kernel_rfl)
          have h1 : a'.tmps.getD 88 undef = Value.bool false := dep_at hD 45 (by kernel_rfl)
          simp only [execOp, Act.eval, h0, h1]
          rfl
      · intro v3 w11 hI hT
        have h46 : v3 46 = .bool false := tall_at _ _ hT 46 (by decide) (by decide)
        have hz11 : w.heap.size ≤ w11.heap.size := by have := hI.size; omega
        have HB11 := Lib.hid (below_more HB10.out hz10 hI)
        have HNX := Lib.hid (HNX.out.later hI)
        have HNY := Lib.hid (HNY.out.later hI)
        have HKX := Lib.hid (HKX.out.later hI)
        have HKY := Lib.hid (HKY.out.later hI)
        have HGX := Lib.hid (below_all hI HGX.out)
        have HGY := Lib.hid (below_all hI HGY.out)
        have HGS := Lib.hid (below_all hI HGS.out)
        clear hT hI
        simp only [List.take_succ_cons, List.take_zero, List.drop_succ_cons, List.drop_zero, putAll, Act.put, List.setIfInBounds_toArray, List.set_cons_succ, List.set_cons_zero, Nat.reduceAdd, h46]
        clear h46
        go_upto_region 14 with (fail)
        refine region_all (by kernel_rfl) (fun w' => Below w11.heap.size w11 w') (fun w1 w2 => Below w1.heap.size w1 w2) (predsT (joins14 w11 gx gy gs t u rx ry)) (by kernel_rfl) (by kernel_rfl) (by kernel_rfl) (preds_keep _ (joins14_keep w11 gx gy gs t u rx ry)) (Below.refl _ _).drew ?_ ?_
        · refine ⟨?_, ?_, ?_, ?_, ?_, ?_, ?_, ?_, ?_, ?_, ?_, ?_, ?_, ?_, ?_, ?_, ?_, ?_, ?_, ?_, ?_, ?_, ?_, ?_, ?_, ?_, ?_, ?_, ?_, ?_, ?_, ?_, ?_, ?_, ?_, trivial⟩
          · refine ob_val (fun _ => Below.refl _ _) fun a' w' hS hI hD => ⟨rfl, ndV t.op t.set t.mn t.mx rx, ?_, rfl⟩
            have h0 : a'.tmps.getD 6 undef = Value.pointer (some ⟨gx, 0, none⟩) := hS.at rfl
            simp only [execOp, Act.eval, h0]
            exact run_load_nd' w' gx 0 t.op t.set t.mn t.mx rx (range_row (below_all hI HGX.out))
          · refine ob_val (fun _ => Below.refl _ _) fun a' w' hS hI hD => ⟨rfl, ndV u.op u.set u.mn u.mx ry, ?_, rfl⟩
            have h0 : a'.tmps.getD 7 undef = Value.pointer (some ⟨gy, 0, none⟩) := hS.at rfl
            simp only [execOp, Act.eval, h0]
            exact run_load_nd' w' gy 0 u.op u.set u.mn u.mx ry (range_row (below_all hI HGY.out))
          · refine ob_new fun a' w' hS hI hD => ⟨rfl, .slice (some ⟨w'.heap.size, 0, none⟩) 2 2, w'.alloc (.cells (ndC t.op t.set t.mn t.mx rx ++ ndC u.op u.set u.mn u.mx ry) 28), ?_, kids_two (a := (t, rx)) (b := (u, ry)) (heap_alloc_new _ _) (((HKX.out w' hI).keep ((Below.refl _ _).alloc (Nat.le_refl _) _))) (((HKY.out w' hI).keep ((Below.refl _ _).alloc (Nat.le_refl _) _))) trivial, (Below.refl _ _).alloc (Nat.le_refl _) _, hI.alloc hI.size _⟩
            have h0 : a'.tmps.getD 90 undef = ndV t.op t.set t.mn t.mx rx := dep_at hD 0 (by kernel_rfl)
            have h1 : a'.tmps.getD 91 undef = ndV u.op u.set u.mn u.mx ry := dep_at hD 1 (by kernel_rfl)
            simp only [execOp, Act.eval, List.map_toArray, List.map_cons, List.map_nil, h0, h1, Sem.run_bind, Sem.run_pure, Result.andThen_ok, run_build_nd2]
          · refine ob_call fun a' w' hS hI hD => ⟨rfl, 16, #[a'.tmps.getD 92 undef], ?_, ?_⟩
            · rw [run_call 16 _ _ rfl (enters_of Try.func16 (by kernel_rfl) rfl)]
              simp only [List.map_toArray, List.map_cons, List.map_nil, Act.eval]
            · have h0 : Kids w' (fun _ => True) (a'.tmps.getD 92 undef) [t, u] := dep_at hD 2 (by kernel_rfl)
              exact (cat_calls [t, u] (by simp only [List.map_cons, List.map_nil, List.sum_cons, List.sum_nil]; omega) _ _ w' h0).mono fun e w'' ⟨⟨r, he, hk⟩, hb⟩ => ⟨_, he, ⟨r, rfl, hk.wide fun _ _ _ => trivial⟩, hb, below_more hI hI.size hb⟩
          · refine ob_call fun a' w' hS hI hD => ⟨rfl, 25, #[a'.tmps.getD 93 undef], ?_, ?_⟩
            · rw [run_call 25 _ _ rfl (enters_of Try.func25 (by kernel_rfl) rfl)]
              simp only [List.map_toArray, List.map_cons, List.map_nil, Act.eval]
            · have h0 : NodeV w' (fun _ => True) (a'.tmps.getD 93 undef) (Nd.mk 1 0#256 0 0 [t, u]) := dep_at hD 3 (by kernel_rfl)
              exact (size_calls (Nd.mk 1 0#256 0 0 [t, u]) _ _ w' h0 (by rw [size_two]; omega)).mono fun e w'' ⟨he, hb⟩ => ⟨_, he, congrArg (fun n : Nat => Value.int .i64 (n : Int)) (size_two 1 t u), hb, below_more hI hI.size hb⟩
          · refine ob_val (fun _ => Below.refl _ _) fun a' w' hS hI hD => ⟨rfl, Value.int .i64 ((1 + t.size + u.size : Nat) : Int), ?_, rfl⟩
            have h0 : a'.tmps.getD 10 undef = Value.int .i64 ((1 + t.size + u.size : Nat) : Int) := hS.at rfl
            exact run_val (.tmp 10) (by first | exact .inl rfl | exact .inr rfl) _ h0
          · refine ob_val (fun _ => Below.refl _ _) fun a' w' hS hI hD => ⟨rfl, Value.bool true, ?_, rfl⟩
            have h0 : a'.tmps.getD 94 undef = Value.int .i64 ((1 + t.size + u.size : Nat) : Int) := dep_at hD 4 (by kernel_rfl)
            have h1 : a'.tmps.getD 95 undef = Value.int .i64 ((1 + t.size + u.size : Nat) : Int) := dep_at hD 5 (by kernel_rfl)
            exact (run_eql_i _ _ (.tmp 94) (.tmp 95) rfl _ _ _ h0 h1).trans (by simp)
          · refine ob_val (fun _ => Below.refl _ _) fun a' w' hS hI hD => ⟨rfl, Value.bool true, ?_, rfl⟩
            have h0 : a'.tmps.getD 96 undef = Value.bool true := dep_at hD 6 (by kernel_rfl)
            exact run_val (.tmp 96) (by first | exact .inl rfl | exact .inr rfl) _ h0
          · refine ob_val (fun _ => Below.refl _ _) fun a' w' hS hI hD => ⟨wanted_eq (c := true) rfl (dep_at hD 7 (by kernel_rfl)) rfl, ndV t.op t.set t.mn t.mx rx, ?_, rfl⟩
            have h0 : a'.tmps.getD 6 undef = Value.pointer (some ⟨gx, 0, none⟩) := hS.at rfl
            simp only [execOp, Act.eval, h0]
            exact run_load_nd' w' gx 0 t.op t.set t.mn t.mx rx (range_row (below_all hI HGX.out))
          · refine ob_val (fun _ => Below.refl _ _) fun a' w' hS hI hD => ⟨wanted_eq (c := true) rfl (dep_at hD 7 (by kernel_rfl)) rfl, ndV u.op u.set u.mn u.mx ry, ?_, rfl⟩
            have h0 : a'.tmps.getD 7 undef = Value.pointer (some ⟨gy, 0, none⟩) := hS.at rfl
            simp only [execOp, Act.eval, h0]
            exact run_load_nd' w' gy 0 u.op u.set u.mn u.mx ry (range_row (below_all hI HGY.out))
          · refine ob_new fun a' w' hS hI hD => ⟨wanted_eq (c := true) rfl (dep_at hD 7 (by kernel_rfl)) rfl, .slice (some ⟨w'.heap.size, 0, none⟩) 2 2, w'.alloc (.cells (ndC t.op t.set t.mn t.mx rx ++ ndC u.op u.set u.mn u.mx ry) 28), ?_, kids_two (a := (t, rx)) (b := (u, ry)) (heap_alloc_new _ _) (((HKX.out w' hI).keep ((Below.refl _ _).alloc (Nat.le_refl _) _))) (((HKY.out w' hI).keep ((Below.refl _ _).alloc (Nat.le_refl _) _))) trivial, (Below.refl _ _).alloc (Nat.le_refl _) _, hI.alloc hI.size _⟩
            have h0 : a'.tmps.getD 98 undef = ndV t.op t.set t.mn t.mx rx := dep_at hD 8 (by kernel_rfl)
            have h1 : a'.tmps.getD 99 undef = ndV u.op u.set u.mn u.mx ry := dep_at hD 9 (by kernel_rfl)
            simp only [execOp, Act.eval, List.map_toArray, List.map_cons, List.map_nil, h0, h1, Sem.run_bind, Sem.run_pure, Result.andThen_ok, run_build_nd2]
          · refine ob_call fun a' w' hS hI hD => ⟨wanted_eq (c := true) rfl (dep_at hD 7 (by kernel_rfl)) rfl, 18, #[a'.tmps.getD 100 undef], ?_, ?_⟩
            · rw [run_call 18 _ _ rfl (enters_of Try.func18 (by kernel_rfl) rfl)]
              simp only [List.map_toArray, List.map_cons, List.map_nil, Act.eval]
            · have h0 : Kids w' (fun _ => True) (a'.tmps.getD 100 undef) [t, u] := dep_at hD 10 (by kernel_rfl)
              exact (alt_calls [t, u] (by simp only [List.map_cons, List.map_nil, List.sum_cons, List.sum_nil]; omega) _ _ w' h0).mono fun e w'' ⟨⟨r, he, hk⟩, hb⟩ => ⟨_, he, ⟨r, rfl, hk.wide fun _ _ _ => trivial⟩, hb, below_more hI hI.size hb⟩
          · refine ob_call fun a' w' hS hI hD => ⟨wanted_eq (c := true) rfl (dep_at hD 7 (by kernel_rfl)) rfl, 25, #[a'.tmps.getD 101 undef], ?_, ?_⟩
            · rw [run_call 25 _ _ rfl (enters_of Try.func25 (by kernel_rfl) rfl)]
              simp only [List.map_toArray, List.map_cons, List.map_nil, Act.eval]
            · have h0 : NodeV w' (fun _ => True) (a'.tmps.getD 101 undef) (Nd.mk 2 0#256 0 0 [t, u]) := dep_at hD 11 (by kernel_rfl)
              exact (size_calls (Nd.mk 2 0#256 0 0 [t, u]) _ _ w' h0 (by rw [size_two]; omega)).mono fun e w'' ⟨he, hb⟩ => ⟨_, he, congrArg (fun n : Nat => Value.int .i64 (n : Int)) (size_two 2 t u), hb, below_more hI hI.size hb⟩
          · refine ob_val (fun _ => Below.refl _ _) fun a' w' hS hI hD => ⟨wanted_eq (c := true) rfl (dep_at hD 7 (by kernel_rfl)) rfl, Value.int .i64 ((1 + t.size + u.size : Nat) : Int), ?_, rfl⟩
            have h0 : a'.tmps.getD 10 undef = Value.int .i64 ((1 + t.size + u.size : Nat) : Int) := hS.at rfl
            exact run_val (.tmp 10) (by first | exact .inl rfl | exact .inr rfl) _ h0
          · refine ob_val (fun _ => Below.refl _ _) fun a' w' hS hI hD => ⟨wanted_eq (c := true) rfl (dep_at hD 7 (by kernel_rfl)) rfl, Value.bool true, ?_, rfl⟩
            have h0 : a'.tmps.getD 102 undef = Value.int .i64 ((1 + t.size + u.size : Nat) : Int) := dep_at hD 12 (by kernel_rfl)
            have h1 : a'.tmps.getD 103 undef = Value.int .i64 ((1 + t.size + u.size : Nat) : Int) := dep_at hD 13 (by kernel_rfl)
            exact (run_eql_i _ _ (.tmp 102) (.tmp 103) rfl _ _ _ h0 h1).trans (by simp)
          · refine ob_val (fun _ => Below.refl _ _) fun a' w' hS hI hD => ⟨rfl, Value.bool true, ?_, rfl⟩
            have h0 : a'.tmps.getD 97 undef = Value.bool true := dep_at hD 7 (by kernel_rfl)
            have h1 : a'.tmps.getD 104 undef = Value.bool true := dep_at hD 14 (by kernel_rfl)
            simp only [execOp, Act.eval, h0, h1]
            rfl
          · refine ob_val (fun _ => Below.refl _ _) fun a' w' hS hI hD => ⟨rfl, Value.bool true, ?_, rfl⟩
            have h0 : a'.tmps.getD 105 undef = Value.bool true := dep_at hD 15 (by kernel_rfl)
            exact run_val (.tmp 105) (by first | exact .inl rfl | exact .inr rfl) _ h0
          · refine ob_val (fun _ => Below.refl _ _) fun a' w' hS hI hD => ⟨wanted_eq (c := true) rfl (dep_at hD 16 (by kernel_rfl)) rfl, ndV t.op t.set t.mn t.mx rx, ?_, rfl⟩
            have h0 : a'.tmps.getD 6 undef = Value.pointer (some ⟨gx, 0, none⟩) := hS.at rfl
            simp only [execOp, Act.eval, h0]
            exact run_load_nd' w' gx 0 t.op t.set t.mn t.mx rx (range_row (below_all hI HGX.out))
          · refine ob_call fun a' w' hS hI hD => ⟨wanted_eq (c := true) rfl (dep_at hD 16 (by kernel_rfl)) rfl, 20, #[ndV t.op t.set t.mn t.mx rx], ?_, ?_⟩
            · have h0 : a'.tmps.getD 107 undef = ndV t.op t.set t.mn t.mx rx := dep_at hD 17 (by kernel_rfl)
              rw [run_call 20 _ _ rfl (enters_of Try.func20 (by kernel_rfl) rfl)]
              simp only [List.map_toArray, List.map_cons, List.map_nil, Act.eval, h0]
            · have h0 : a'.tmps.getD 107 undef = ndV t.op t.set t.mn t.mx rx := dep_at hD 17 (by kernel_rfl)
              exact (notN_calls t (by omega) _ _ w' (HNX.out w' hI)).mono fun e w'' ⟨⟨r, he, hk⟩, hb⟩ => ⟨_, he, ⟨r, rfl, hk.wide fun _ _ _ => trivial⟩, hb, below_more hI hI.size hb⟩
          · refine ob_call fun a' w' hS hI hD => ⟨wanted_eq (c := true) rfl (dep_at hD 16 (by kernel_rfl)) rfl, 25, #[a'.tmps.getD 108 undef], ?_, ?_⟩
            · rw [run_call 25 _ _ rfl (enters_of Try.func25 (by kernel_rfl) rfl)]
              simp only [List.map_toArray, List.map_cons, List.map_nil, Act.eval]
            · have h0 : NodeV w' (fun _ => True) (a'.tmps.getD 108 undef) (Nd.mk 5 0#256 0 0 [t]) := dep_at hD 18 (by kernel_rfl)
              exact (size_calls (Nd.mk 5 0#256 0 0 [t]) _ _ w' h0 (by rw [size_one]; omega)).mono fun e w'' ⟨he, hb⟩ => ⟨_, he, congrArg (fun n : Nat => Value.int .i64 (n : Int)) (size_one 5 t), hb, below_more hI hI.size hb⟩
          · refine ob_val (fun _ => Below.refl _ _) fun a' w' hS hI hD => ⟨wanted_eq (c := true) rfl (dep_at hD 16 (by kernel_rfl)) rfl, ndV t.op t.set t.mn t.mx rx, ?_, rfl⟩
            have h0 : a'.tmps.getD 6 undef = Value.pointer (some ⟨gx, 0, none⟩) := hS.at rfl
            simp only [execOp, Act.eval, h0]
            exact run_load_nd' w' gx 0 t.op t.set t.mn t.mx rx (range_row (below_all hI HGX.out))
          · refine ob_call fun a' w' hS hI hD => ⟨wanted_eq (c := true) rfl (dep_at hD 16 (by kernel_rfl)) rfl, 25, #[ndV t.op t.set t.mn t.mx rx], ?_, ?_⟩
            · have h0 : a'.tmps.getD 110 undef = ndV t.op t.set t.mn t.mx rx := dep_at hD 20 (by kernel_rfl)
              rw [run_call 25 _ _ rfl (enters_of Try.func25 (by kernel_rfl) rfl)]
              simp only [List.map_toArray, List.map_cons, List.map_nil, Act.eval, h0]
            · have h0 : a'.tmps.getD 110 undef = ndV t.op t.set t.mn t.mx rx := dep_at hD 20 (by kernel_rfl)
              exact (size_calls t _ _ w' (HNX.out w' hI) (by omega)).mono fun e w'' ⟨he, hb⟩ => ⟨_, he, rfl, hb, below_more hI hI.size hb⟩
          · refine ob_val (fun _ => Below.refl _ _) fun a' w' hS hI hD => ⟨wanted_eq (c := true) rfl (dep_at hD 16 (by kernel_rfl)) rfl, Value.int .i64 ((1 + t.size : Nat) : Int), ?_, rfl⟩
            have h0 : a'.tmps.getD 111 undef = Value.int .i64 ((t.size : Nat) : Int) := dep_at hD 21 (by kernel_rfl)
            exact run_add_i _ _ (.const (.int .i64 1)) (.tmp 111) rfl _ _ _ rfl h0 (by omega) (by omega) (by omega)
          · refine ob_val (fun _ => Below.refl _ _) fun a' w' hS hI hD => ⟨wanted_eq (c := true) rfl (dep_at hD 16 (by kernel_rfl)) rfl, Value.bool true, ?_, rfl⟩
            have h0 : a'.tmps.getD 109 undef = Value.int .i64 ((1 + t.size : Nat) : Int) := dep_at hD 19 (by kernel_rfl)
            have h1 : a'.tmps.getD 112 undef = Value.int .i64 ((1 + t.size : Nat) : Int) := dep_at hD 22 (by kernel_rfl)
            exact (run_eql_i _ _ (.tmp 109) (.tmp 112) rfl _ _ _ h0 h1).trans (by simp)
          · refine ob_val (fun _ => Below.refl _ _) fun a' w' hS hI hD => ⟨rfl, Value.bool true, ?_, rfl⟩
            have h0 : a'.tmps.getD 106 undef = Value.bool true := dep_at hD 16 (by kernel_rfl)
            have h1 : a'.tmps.getD 113 undef = Value.bool true := dep_at hD 23 (by kernel_rfl)
            simp only [execOp, Act.eval, h0, h1]
            rfl
          · refine ob_val (fun _ => Below.refl _ _) fun a' w' hS hI hD => ⟨rfl, Value.bool true, ?_, rfl⟩
            have h0 : a'.tmps.getD 114 undef = Value.bool true := dep_at hD 24 (by kernel_rfl)
            exact run_val (.tmp 114) (by first | exact .inl rfl | exact .inr rfl) _ h0
          · refine ob_val (fun _ => Below.refl _ _) fun a' w' hS hI hD => ⟨wanted_eq (c := true) rfl (dep_at hD 25 (by kernel_rfl)) rfl, ndV t.op t.set t.mn t.mx rx, ?_, rfl⟩
            have h0 : a'.tmps.getD 6 undef = Value.pointer (some ⟨gx, 0, none⟩) := hS.at rfl
            simp only [execOp, Act.eval, h0]
            exact run_load_nd' w' gx 0 t.op t.set t.mn t.mx rx (range_row (below_all hI HGX.out))
          · refine ob_val (fun _ => Below.refl _ _) fun a' w' hS hI hD => ⟨wanted_eq (c := true) rfl (dep_at hD 25 (by kernel_rfl)) rfl, ndV u.op u.set u.mn u.mx ry, ?_, rfl⟩
            have h0 : a'.tmps.getD 7 undef = Value.pointer (some ⟨gy, 0, none⟩) := hS.at rfl
            simp only [execOp, Act.eval, h0]
            exact run_load_nd' w' gy 0 u.op u.set u.mn u.mx ry (range_row (below_all hI HGY.out))
          · refine ob_new fun a' w' hS hI hD => ⟨wanted_eq (c := true) rfl (dep_at hD 25 (by kernel_rfl)) rfl, .slice (some ⟨w'.heap.size, 0, none⟩) 2 2, w'.alloc (.cells (ndC t.op t.set t.mn t.mx rx ++ ndC u.op u.set u.mn u.mx ry) 28), ?_, kids_two (a := (t, rx)) (b := (u, ry)) (heap_alloc_new _ _) (((HKX.out w' hI).keep ((Below.refl _ _).alloc (Nat.le_refl _) _))) (((HKY.out w' hI).keep ((Below.refl _ _).alloc (Nat.le_refl _) _))) trivial, (Below.refl _ _).alloc (Nat.le_refl _) _, hI.alloc hI.size _⟩
            have h0 : a'.tmps.getD 116 undef = ndV t.op t.set t.mn t.mx rx := dep_at hD 26 (by kernel_rfl)
            have h1 : a'.tmps.getD 117 undef = ndV u.op u.set u.mn u.mx ry := dep_at hD 27 (by kernel_rfl)
            simp only [execOp, Act.eval, List.map_toArray, List.map_cons, List.map_nil, h0, h1, Sem.run_bind, Sem.run_pure, Result.andThen_ok, run_build_nd2]
          · refine ob_call fun a' w' hS hI hD => ⟨wanted_eq (c := true) rfl (dep_at hD 25 (by kernel_rfl)) rfl, 19, #[a'.tmps.getD 118 undef], ?_, ?_⟩
            · rw [run_call 19 _ _ rfl (enters_of Try.func19 (by kernel_rfl) rfl)]
              simp only [List.map_toArray, List.map_cons, List.map_nil, Act.eval]
            · have h0 : Kids w' (fun _ => True) (a'.tmps.getD 118 undef) [t, u] := dep_at hD 28 (by kernel_rfl)
              exact (and_calls [t, u] (by simp only [List.map_cons, List.map_nil, List.sum_cons, List.sum_nil]; omega) _ _ w' h0).mono fun e w'' ⟨⟨r, he, hk⟩, hb⟩ => ⟨_, he, ⟨r, rfl, hk.wide fun _ _ _ => trivial⟩, hb, below_more hI hI.size hb⟩
          · refine ob_call fun a' w' hS hI hD => ⟨wanted_eq (c := true) rfl (dep_at hD 25 (by kernel_rfl)) rfl, 27, #[a'.tmps.getD 119 undef], ?_, ?_⟩
            · rw [run_call 27 _ _ rfl (enters_of Try.func27 (by kernel_rfl) rfl)]
              simp only [List.map_toArray, List.map_cons, List.map_nil, Act.eval]
            · have h0 : NodeV w' (fun _ => True) (a'.tmps.getD 119 undef) (Nd.mk 4 0#256 0 0 [t, u]) := dep_at hD 29 (by kernel_rfl)
              exact (bytes_calls (Nd.mk 4 0#256 0 0 [t, u]) _ _ w' h0 (by rw [size_two]; omega)).mono fun e w'' ⟨he, hb⟩ => ⟨_, he, congrArg setV (bytes_and t u), hb, below_more hI hI.size hb⟩
          · refine ob_val (fun _ => Below.refl _ _) fun a' w' hS hI hD => ⟨wanted_eq (c := true) rfl (dep_at hD 25 (by kernel_rfl)) rfl, setV (unionS [t.bytes, u.bytes]), ?_, rfl⟩
            have h0 : a'.tmps.getD 11 undef = Value.pointer (some ⟨gs, 0, none⟩) := hS.at rfl
            simp only [execOp, Act.eval, h0]
            exact run_load_st' w' gs 0 _ (range_row (below_all hI HGS.out))
          · refine ob_val (fun _ => Below.refl _ _) fun a' w' hS hI hD => ⟨wanted_eq (c := true) rfl (dep_at hD 25 (by kernel_rfl)) rfl, Value.bool true, ?_, rfl⟩
            have h0 : a'.tmps.getD 120 undef = setV (unionS [t.bytes, u.bytes]) := dep_at hD 30 (by kernel_rfl)
            have h1 : a'.tmps.getD 121 undef = setV (unionS [t.bytes, u.bytes]) := dep_at hD 31 (by kernel_rfl)
            exact (run_eql_set (.tmp 120) (.tmp 121) _ rfl _ _ h0 h1).trans (by simp)
          · refine ob_val (fun _ => Below.refl _ _) fun a' w' hS hI hD => ⟨rfl, Value.bool true, ?_, rfl⟩
            have h0 : a'.tmps.getD 115 undef = Value.bool true := dep_at hD 25 (by kernel_rfl)
            have h1 : a'.tmps.getD 122 undef = Value.bool true := dep_at hD 32 (by kernel_rfl)
            simp only [execOp, Act.eval, h0, h1]
            rfl
          · refine ob_val (fun _ => Below.refl _ _) fun a' w' hS hI hD => ⟨rfl, Value.bool true, ?_, rfl⟩
            have h0 : a'.tmps.getD 123 undef = Value.bool true := dep_at hD 33 (by kernel_rfl)
            exact run_val (.tmp 123) (by first | exact .inl rfl | exact .inr rfl) _ h0
        · intro v4 w12 hI hT
          have h34 : v4 34 = .bool true := tall_at _ _ hT 34 (by decide) (by decide)
          have HBW := Lib.hid (below_more HB11.out hz11 hI)
          clear hT hI HGX HGY HGS HNX HNY HKX HKY HB11
          simp only [List.take_succ_cons, List.take_zero, List.drop_succ_cons, List.drop_zero, putAll, Act.put, List.setIfInBounds_toArray, List.set_cons_succ, List.set_cons_zero, Nat.reduceAdd, h34]
          clear h34
          go_wp2_with (fail)
          go_ret
          exact ⟨rfl, HBW.out⟩
theorem joins_calls (a b : ByteArray) (ha : a.size ≤ 9223372036854775807) (hb : b.size ≤ 9223372036854775807) (w : World) :
    Calls Try.prog 7 #[.string a, .string b] w fun e w' => e = .returned (.bool true) ∧ Below w.heap.size w w' := by
  by_cases h : a.size ≤ 40 ∧ b.size ≤ 40
  · exact joins_short a b h.1 h.2 w
  · exact joins_long a b ha hb h w
end Go.Proofs.Ytekodfpjoehooaa.Bs
