/- The walk of RegexChecks. -/
import Derived.Test.YtekodfpjoehooaaNodeW24
namespace Go.Proofs.Ytekodfpjoehooaa.Bs
open Go.RowKit Mem Reg
section
variable {w : World} {ρ : Operand → Value} {o : Oper}
theorem run_index_int (x y : Operand) (ho : o.op = .indexAddr 41 x y) (g off n c k r : Nat) (hx : ρ x = .slice (some ⟨g, off, none⟩) n c) (hy : ρ y = .int .i64 (k : Int)) (hk : k < n) (hr : off + k = r) : (execOp ρ o).run Try.prog w = .ok (.value (.pointer (some ⟨g, r, none⟩))) w := by
  subst hr
  unfold execOp
  simp only [ho, hx, hy]
  go_simp
theorem run_build4 (x0 x2 x3 x4 : Operand) (ho : o.op = .build 28 #[(0, x0), (2, x2), (3, x3), (4, x4)]) (op mn mx : Int) (kv : Value) (h0 : ρ x0 = .int .i64 op) (h2 : ρ x2 = .int .i64 mn) (h3 : ρ x3 = .int .i64 mx) (h4 : ρ x4 = kv) (A : Option Addr) (n c : Nat) (hkv : kv = .slice A n c) :
    (execOp ρ o).run Try.prog w = .ok (.value (ndV op 0#256 mn mx kv)) w := by
  subst hkv
  unfold execOp
  simp only [ho, List.map_toArray, List.map_cons, List.map_nil, h0, h2, h3, h4]
  go_simp
  try rfl
end
theorem run_build_nd1 (w : World) (op : Int) (s : BitVec 256) (mn mx : Int) (kv : Value) : (Instr.buildSlice 26 1 #[(0, ndV op s mn mx kv)]).run Try.prog w = .ok (.slice (some ⟨w.heap.size, 0, none⟩) 1 1) (w.alloc (.cells (ndC op s mn mx kv) 28)) := by
  obtain ⟨i0, hi, hz0, hz1, hz2⟩ := info_parts infoNd
  refine run_buildSlice w 26 28 1 _ (ndC op s mn mx kv) i0 _ undNds hi hz0 (by rw [hz1]; decide) (by rw [hz1]; decide) ?_
  simp only [hz1]
  unfold ndV ndC
  generalize (limN s 0 : Int) = a0
  generalize (limN s 1 : Int) = a1
  generalize (limN s 2 : Int) = a2
  generalize (limN s 3 : Int) = a3
  kernel_rfl
def checks10 (w9 : World) (b o n cap k _gx : Nat) (zs : List Int) (t : Nd) (rx : Value) : List (Value → World → Prop) := [
  fun v _ => v = Value.slice (some ⟨b, o, none⟩) n cap,
  fun v _ => v = Value.int .i64 (k : Int),
  fun v _ => v = Value.pointer (some ⟨b, o + k, none⟩),
  fun v _ => v = Value.int .i64 (zs.getD k 0),
  fun v _ => v = Value.slice (some ⟨b, o, none⟩) n cap,
  fun v _ => v = Value.int .i64 (k : Int),
  fun v _ => v = Value.int .i64 ((k + 1 : Nat) : Int),
  fun v _ => v = Value.pointer (some ⟨b, o + (k + 1), none⟩),
  fun v _ => v = Value.int .i64 (zs.getD (k + 1) 0),
  fun v _ => v = Value.slice (some ⟨b, o, none⟩) n cap,
  fun v _ => v = Value.int .i64 (k : Int),
  fun v _ => v = Value.int .i64 ((k + 2 : Nat) : Int),
  fun v _ => v = Value.pointer (some ⟨b, o + (k + 2), none⟩),
  fun v _ => v = Value.int .i64 (zs.getD (k + 2) 0),
  fun v _ => v = ndV t.op t.set t.mn t.mx rx,
  fun vv ww => ∃ gb, vv = Value.slice (some ⟨gb, 0, none⟩) 1 1 ∧ w9.heap.size ≤ gb ∧ ww.heap[gb]? = some (.cells (ndC t.op t.set t.mn t.mx rx) 28 (0, 0)),
  fun vv ww => ∃ gb, vv = ndV (zs.getD k 0) 0#256 (zs.getD (k + 1) 0) (zs.getD (k + 2) 0) (Value.slice (some ⟨gb, 0, none⟩) 1 1) ∧ w9.heap.size ≤ gb ∧ ww.heap[gb]? = some (.cells (ndC t.op t.set t.mn t.mx rx) 28 (0, 0))]
theorem checks10_keep (w9 : World) (b o n cap k gx : Nat) (zs : List Int) (t : Nd) (rx : Value) : PredsKeep (checks10 w9 b o n cap k gx zs t rx) :=
  ⟨fun _ _ _ h _ => h,
  fun _ _ _ h _ => h,
  fun _ _ _ h _ => h,
  fun _ _ _ h _ => h,
  fun _ _ _ h _ => h,
  fun _ _ _ h _ => h,
  fun _ _ _ h _ => h,
  fun _ _ _ h _ => h,
  fun _ _ _ h _ => h,
  fun _ _ _ h _ => h,
  fun _ _ _ h _ => h,
  fun _ _ _ h _ => h,
  fun _ _ _ h _ => h,
  fun _ _ _ h _ => h,
  fun _ _ _ h _ => h,
  fun _ _ _ h hE => h.imp fun _ h => ⟨h.1, h.2.1, below_all hE h.2.2⟩,
  fun _ _ _ h hE => h.imp fun _ h => ⟨h.1, h.2.1, below_all hE h.2.2⟩, trivial⟩
def checks17 (_gx : Nat) (t : Nd) (rx : Value) : List (Value → World → Prop) := [
  fun v _ => v = ndV t.op t.set t.mn t.mx rx,
  fun v _ => v = Value.int .i64 t.check,
  fun v _ => v = ndV t.op t.set t.mn t.mx rx,
  fun v _ => v = Value.int .i64 t.check,
  fun v _ => v = Value.bool true,
  fun v _ => v = Value.bool true]
theorem checks17_keep (gx : Nat) (t : Nd) (rx : Value) : PredsKeep (checks17 gx t rx) :=
  ⟨fun _ _ _ h _ => h,
  fun _ _ _ h _ => h,
  fun _ _ _ h _ => h,
  fun _ _ _ h _ => h,
  fun _ _ _ h _ => h,
  fun _ _ _ h _ => h, trivial⟩
theorem own_form {w : World} {base n : Nat} {v : Value} {xs : List Value} (h : w.ownsRow base 28 8 v (n + 1) xs) : ∃ g c, v = .slice (some ⟨g, 0, none⟩) (n + 1) c ∧ base ≤ g ∧ g < w.heap.size := by
  rcases h.2 with ⟨_, h0⟩ | ⟨g, c, cur, rfl, hb, hg, _⟩
  · omega
  · exact ⟨g, c, rfl, hb, heap_lt hg⟩
theorem own_one {w : World} {base gb : Nat} (x : NV) (h : w.heap[gb]? = some (.cells (ndC x.1.op x.1.set x.1.mn x.1.mx x.2) 28 (0, 0))) (hb : base ≤ gb) : w.ownsRow base 28 8 (.slice (some ⟨gb, 0, none⟩) 1 1) 1 (flat ndL [x]) :=
  ⟨rfl, .inr ⟨gb, 1, _, rfl, hb, h, Nat.le_refl _, by unfold maxLen; omega, rfl, rfl⟩⟩
/-- whole numbers in memory -/
def Nums (w : World) (v : Value) (zs : List Int) : Prop := ∃ A cap, v = .slice A zs.length cap ∧ (0 < zs.length → ∃ b o, A = some ⟨b, o, none⟩ ∧ b < w.heap.size ∧ ∀ k, k < zs.length → w.cell? ⟨b, o + k, none⟩ = some (.int .i64 (zs.getD k 0)))
/-- some pattern in a variable -/
def SomeNd (w : World) (gx : Nat) : Prop := ∃ (t : Nd) (rx : Value), w.heap[gx]? = some (.cells (ndC t.op t.set t.mn t.mx rx) 28 (0, 0)) ∧ Kids w (fun b => b ≠ gx) rx t.kids
set_option maxHeartbeats 6400000 in
set_option maxRecDepth 100000 in
theorem checks_long (a : ByteArray) (v : Value) (zs : List Int) (deep : Int) (ha : a.size ≤ 9223372036854775807) (hz : zs.length ≤ 9223372036854775807) (w : World) (hv : Nums w v zs) (h : ¬ (a.size ≤ 40 ∧ zs.length ≤ 30)) :
    Calls Try.prog 5 #[.string a, v, .int .i64 deep] w fun e w' => e = .returned (.bool true) ∧ Below w.heap.size w w' := by
  obtain ⟨A, cap, rfl, _⟩ := hv
  by_cases h1 : a.size ≤ 40
  · have h2 : ¬ zs.length ≤ 30 := by omega
    have e1 : decide ((40 : Int) < (a.size : Int)) = false := decide_eq_false (by omega)
    have e2 : decide ((30 : Int) < (zs.length : Int)) = true := decide_eq_true (by omega)
    clear h h1 h2
    go_enter Try.func5, Try.ntmps5
    go_wp2_with (go_at_call 8; refine (awake_calls _).mono ?_; rintro e w1 ⟨rfl, hb1⟩)
    go_ret
    exact ⟨rfl, hb1⟩
  · have e1 : decide ((40 : Int) < (a.size : Int)) = true := decide_eq_true (by omega)
    clear h h1
    go_enter Try.func5, Try.ntmps5
    go_wp2_with (go_at_call 8; refine (awake_calls _).mono ?_; rintro e w1 ⟨rfl, hb1⟩)
    go_ret
    exact ⟨rfl, hb1⟩
set_option maxHeartbeats 6400000 in
set_option maxRecDepth 100000 in
theorem checks_short (a : ByteArray) (v : Value) (zs : List Int) (deep : Int) (ha : a.size ≤ 40) (hzl : zs.length ≤ 30) (w : World) (hv : Nums w v zs) :
    Calls Try.prog 5 #[.string a, v, .int .i64 deep] w fun e w' => e = .returned (.bool true) ∧ Below w.heap.size w w' := by
  obtain ⟨A, cap, rfl, hv⟩ := hv
  have e1 : decide ((40 : Int) < (a.size : Int)) = false := decide_eq_false (by omega)
  have e2 : decide ((30 : Int) < (zs.length : Int)) = false := decide_eq_false (by omega)
  have HZ := Lib.hid hv
  clear hv
  go_enter Try.func5, Try.ntmps5
  go_upto_region 7 with (first | (go_at_call 8; refine (awake_calls _).mono ?_; rintro e w1 ⟨rfl, hb1⟩; have HB1 := Lib.hid hb1; have hz1 := hb1.size; clear hb1) |
    (go_at_call 9; refine (make_calls a (by omega) _).mono ?_; rintro e w2 ⟨⟨t, rx, hst, rfl, hkt⟩, hb2⟩; have HKX := Lib.hid hkt; have HOX := Lib.hid hkt.oneCell; have HB2 := Lib.hid (below_more HB1.out hz1 hb2); have hz2 := hb2.size; clear hkt hb2) |
    (refine st_nd rfl (.tmp 8) (.tmp 23) rfl _ rfl t.op t.set t.mn t.mx rx rfl HOX.out _ rfl _ (heap_alloc_new _ _) ?_; intro w3 hg3 hgr3; have HB23 : Hid (Below w2.heap.size w2 w3) := Lib.hid (((Below.refl _ _).alloc (Nat.le_refl _) _).grown hgr3 (by simp) (fun k e => by cases e; omega)); have HGX3 := Lib.hid hg3; have hz3 : w2.heap.size + 1 ≤ w3.heap.size := (by simpa using hgr3.size); have HB3 := Lib.hid (below_more HB2.out (by omega) HB23.out); clear hg3 hgr3))
  have HSN : Hid (SomeNd w3 w2.heap.size) := Lib.hid ⟨t, rx, HGX3.out, HKX.out.move fun b hb hlt => ⟨by omega, HB23.out.block b hlt⟩⟩
  have hgx : w.heap.size ≤ w2.heap.size := by omega
  clear HB1 HB2 HB23 HKX HOX HGX3 e1 e2 hst
  generalize w2.heap.size = gx at *
  go_wp2_with (fail)
  go_loopw [9] (fun i wr => ∃ k : Nat, k ≤ zs.length + 2 ∧ i = .int .i64 k ∧ SomeNd wr gx ∧ Below w.heap.size w wr) (fun i _ => zs.length + 3 - (intOf i).toNat)
  case atStart => exact ⟨0, Nat.zero_le _, rfl, HSN.out, HB3.out⟩
  case round =>
    clear HSN HB3
    obtain ⟨k, hk, rfl, hsn, hB⟩ := hrel
    have HSN := Lib.hid hsn
    clear hsn
    by_cases hlt : k + 2 < zs.length
    · obtain ⟨b, o, rfl, hbl, hcz⟩ := HZ.out (by omega)
      obtain ⟨t, rx, hgt, hkt⟩ := HSN.out
      have HGX := Lib.hid hgt
      have HKT := Lib.hid hkt
      have hzr := hB.size
      have hgxl := heap_lt hgt
      have HCZ : Hid (∀ w', Below wr.heap.size wr w' → ∀ j, j < zs.length → w'.cell? ⟨b, o + j, none⟩ = some (.int .i64 (zs.getD j 0))) := Lib.hid fun w' hb j hj => by
        rw [World.cell?_of_block (a := ⟨b, o + j, none⟩) (hb.block b (by omega)), World.cell?_of_block (a := ⟨b, o + j, none⟩) (hB.block b hbl)]
        exact hcz j hj
      clear hgt hkt HSN hcz
      go_upto_region 10 with (fail)
      refine region_tail 17 (by kernel_rfl) (fun w' => Below wr.heap.size wr w') (fun w1 w2 => Below w1.heap.size w1 w2) (predsT (checks10 wr b o zs.length cap k gx zs t rx)) (by kernel_rfl) (by kernel_rfl) (by kernel_rfl) (by kernel_rfl) (preds_keep _ (checks10_keep wr b o zs.length cap k gx zs t rx)) (Below.refl _ _).drew ?_ ?_
      · refine ⟨?_, ?_, ?_, ?_, ?_, ?_, ?_, ?_, ?_, ?_, ?_, ?_, ?_, ?_, ?_, ?_, ?_, trivial⟩
        · refine ob_val (fun _ => Below.refl _ _) fun a' w' hS hI hD => ⟨rfl, Value.slice (some ⟨b, o, none⟩) zs.length cap, ?_, rfl⟩
          have h0 : a'.tmps.getD 1 undef = Value.slice (some ⟨b, o, none⟩) zs.length cap := hS.at rfl
          exact run_val (.tmp 1) (by first | exact .inl rfl | exact .inr rfl) _ h0
        · refine ob_val (fun _ => Below.refl _ _) fun a' w' hS hI hD => ⟨rfl, Value.int .i64 (k : Int), ?_, rfl⟩
          have h0 : a'.tmps.getD 9 undef = Value.int .i64 (k : Int) := hS.at rfl
          exact run_val (.tmp 9) (by first | exact .inl rfl | exact .inr rfl) _ h0
        · refine ob_val (fun _ => Below.refl _ _) fun a' w' hS hI hD => ⟨rfl, Value.pointer (some ⟨b, o + k, none⟩), ?_, rfl⟩
          have h0 : a'.tmps.getD 31 undef = Value.slice (some ⟨b, o, none⟩) zs.length cap := dep_at hD 0 (by kernel_rfl)
          have h1 : a'.tmps.getD 32 undef = Value.int .i64 (k : Int) := dep_at hD 1 (by kernel_rfl)
          exact run_index_int (.tmp 31) (.tmp 32) rfl _ _ _ _ k _ h0 h1 (by omega) (by omega)
        · refine ob_val (fun _ => Below.refl _ _) fun a' w' hS hI hD => ⟨rfl, Value.int .i64 (zs.getD k 0), ?_, rfl⟩
          have h0 : a'.tmps.getD 33 undef = Value.pointer (some ⟨b, o + k, none⟩) := dep_at hD 2 (by kernel_rfl)
          have hc : w'.cell? ⟨b, o + k, none⟩ = some (Value.int .i64 (zs.getD k 0)) := HCZ.out w' hI k (by omega)
          exact run_load_cell _ (.tmp 33) rfl _ _ _ h0 hc _ Try.underlying3 rfl
        · refine ob_val (fun _ => Below.refl _ _) fun a' w' hS hI hD => ⟨rfl, Value.slice (some ⟨b, o, none⟩) zs.length cap, ?_, rfl⟩
          have h0 : a'.tmps.getD 1 undef = Value.slice (some ⟨b, o, none⟩) zs.length cap := hS.at rfl
          exact run_val (.tmp 1) (by first | exact .inl rfl | exact .inr rfl) _ h0
        · refine ob_val (fun _ => Below.refl _ _) fun a' w' hS hI hD => ⟨rfl, Value.int .i64 (k : Int), ?_, rfl⟩
          have h0 : a'.tmps.getD 9 undef = Value.int .i64 (k : Int) := hS.at rfl
          exact run_val (.tmp 9) (by first | exact .inl rfl | exact .inr rfl) _ h0
        · refine ob_val (fun _ => Below.refl _ _) fun a' w' hS hI hD => ⟨rfl, Value.int .i64 ((k + 1 : Nat) : Int), ?_, rfl⟩
          have h0 : a'.tmps.getD 36 undef = Value.int .i64 (k : Int) := dep_at hD 5 (by kernel_rfl)
          exact run_add_i _ _ (.tmp 36) (.const (.int .i64 1)) rfl _ _ _ h0 rfl (by omega) (by omega) (by omega)
        · refine ob_val (fun _ => Below.refl _ _) fun a' w' hS hI hD => ⟨rfl, Value.pointer (some ⟨b, o + (k + 1), none⟩), ?_, rfl⟩
          have h0 : a'.tmps.getD 35 undef = Value.slice (some ⟨b, o, none⟩) zs.length cap := dep_at hD 4 (by kernel_rfl)
          have h1 : a'.tmps.getD 37 undef = Value.int .i64 ((k + 1 : Nat) : Int) := dep_at hD 6 (by kernel_rfl)
          exact run_index_int (.tmp 35) (.tmp 37) rfl _ _ _ _ (k + 1) _ h0 h1 (by omega) (by omega)
        · refine ob_val (fun _ => Below.refl _ _) fun a' w' hS hI hD => ⟨rfl, Value.int .i64 (zs.getD (k + 1) 0), ?_, rfl⟩
          have h0 : a'.tmps.getD 38 undef = Value.pointer (some ⟨b, o + (k + 1), none⟩) := dep_at hD 7 (by kernel_rfl)
          have hc : w'.cell? ⟨b, o + (k + 1), none⟩ = some (Value.int .i64 (zs.getD (k + 1) 0)) := HCZ.out w' hI (k + 1) (by omega)
          exact run_load_cell _ (.tmp 38) rfl _ _ _ h0 hc _ Try.underlying3 rfl
        · refine ob_val (fun _ => Below.refl _ _) fun a' w' hS hI hD => ⟨rfl, Value.slice (some ⟨b, o, none⟩) zs.length cap, ?_, rfl⟩
          have h0 : a'.tmps.getD 1 undef = Value.slice (some ⟨b, o, none⟩) zs.length cap := hS.at rfl
          exact run_val (.tmp 1) (by first | exact .inl rfl | exact .inr rfl) _ h0
        · refine ob_val (fun _ => Below.refl _ _) fun a' w' hS hI hD => ⟨rfl, Value.int .i64 (k : Int), ?_, rfl⟩
          have h0 : a'.tmps.getD 9 undef = Value.int .i64 (k : Int) := hS.at rfl
          exact run_val (.tmp 9) (by first | exact .inl rfl | exact .inr rfl) _ h0
        · refine ob_val (fun _ => Below.refl _ _) fun a' w' hS hI hD => ⟨rfl, Value.int .i64 ((k + 2 : Nat) : Int), ?_, rfl⟩
          have h0 : a'.tmps.getD 41 undef = Value.int .i64 (k : Int) := dep_at hD 10 (by kernel_rfl)
          exact run_add_i _ _ (.tmp 41) (.const (.int .i64 2)) rfl _ _ _ h0 rfl (by omega) (by omega) (by omega)
        · refine ob_val (fun _ => Below.refl _ _) fun a' w' hS hI hD => ⟨rfl, Value.pointer (some ⟨b, o + (k + 2), none⟩), ?_, rfl⟩
          have h0 : a'.tmps.getD 40 undef = Value.slice (some ⟨b, o, none⟩) zs.length cap := dep_at hD 9 (by kernel_rfl)
          have h1 : a'.tmps.getD 42 undef = Value.int .i64 ((k + 2 : Nat) : Int) := dep_at hD 11 (by kernel_rfl)
          exact run_index_int (.tmp 40) (.tmp 42) rfl _ _ _ _ (k + 2) _ h0 h1 (by omega) (by omega)
        · refine ob_val (fun _ => Below.refl _ _) fun a' w' hS hI hD => ⟨rfl, Value.int .i64 (zs.getD (k + 2) 0), ?_, rfl⟩
          have h0 : a'.tmps.getD 43 undef = Value.pointer (some ⟨b, o + (k + 2), none⟩) := dep_at hD 12 (by kernel_rfl)
          have hc : w'.cell? ⟨b, o + (k + 2), none⟩ = some (Value.int .i64 (zs.getD (k + 2) 0)) := HCZ.out w' hI (k + 2) (by omega)
          exact run_load_cell _ (.tmp 43) rfl _ _ _ h0 hc _ Try.underlying3 rfl
        · refine ob_val (fun _ => Below.refl _ _) fun a' w' hS hI hD => ⟨rfl, ndV t.op t.set t.mn t.mx rx, ?_, rfl⟩
          have h0 : a'.tmps.getD 8 undef = Value.pointer (some ⟨gx, 0, none⟩) := hS.at rfl
          simp only [execOp, Act.eval, h0]
          exact run_load_nd' w' gx 0 t.op t.set t.mn t.mx rx (range_row (below_all hI HGX.out))
        · refine ob_new fun a' w' hS hI hD => ⟨rfl, .slice (some ⟨w'.heap.size, 0, none⟩) 1 1, w'.alloc (.cells (ndC t.op t.set t.mn t.mx rx) 28), ?_, ⟨_, rfl, hI.size, heap_alloc_new _ _⟩, (Below.refl _ _).alloc (Nat.le_refl _) _, hI.alloc hI.size _⟩
          have h0 : a'.tmps.getD 45 undef = ndV t.op t.set t.mn t.mx rx := dep_at hD 14 (by kernel_rfl)
          simp only [execOp, Act.eval, List.map_toArray, List.map_cons, List.map_nil, h0, Sem.run_bind, Sem.run_pure, Result.andThen_ok, run_build_nd1]
        · refine ob_val (fun _ => Below.refl _ _) fun a' w' hS hI hD => ?_
          have h0 : a'.tmps.getD 34 undef = Value.int .i64 (zs.getD k 0) := dep_at hD 3 (by kernel_rfl)
          have h1 : a'.tmps.getD 39 undef = Value.int .i64 (zs.getD (k + 1) 0) := dep_at hD 8 (by kernel_rfl)
          have h2 : a'.tmps.getD 44 undef = Value.int .i64 (zs.getD (k + 2) 0) := dep_at hD 13 (by kernel_rfl)
          have h3 : ∃ gb, (a'.tmps.getD 46 undef) = Value.slice (some ⟨gb, 0, none⟩) 1 1 ∧ wr.heap.size ≤ gb ∧ w'.heap[gb]? = some (.cells (ndC t.op t.set t.mn t.mx rx) 28 (0, 0)) := dep_at hD 15 (by kernel_rfl)
          obtain ⟨gb, hb0, hb1, hb2⟩ := h3
          exact ⟨rfl, _, run_build4 (.tmp 34) (.tmp 39) (.tmp 44) (.tmp 46) rfl _ _ _ _ h0 h1 h2 hb0 _ _ _ rfl, ⟨gb, rfl, hb1, hb2⟩⟩
      · intro v w10 hI hT
        have h16 : ∃ gb, v 16 = ndV (zs.getD k 0) 0#256 (zs.getD (k + 1) 0) (zs.getD (k + 2) 0) (Value.slice (some ⟨gb, 0, none⟩) 1 1) ∧ wr.heap.size ≤ gb ∧ w10.heap[gb]? = some (.cells (ndC t.op t.set t.mn t.mx rx) 28 (0, 0)) := tall_at _ _ hT 16 (by decide) (by decide)
        obtain ⟨gb, h16, hgb, hcb⟩ := h16
        have HI10 := Lib.hid hI
        have HCB := Lib.hid hcb
        have hz10 := hI.size
        have HGX10 := Lib.hid (below_all hI HGX.out)
        clear hT hI hcb
        obtain ⟨z0, hz0⟩ : ∃ z0, zs.getD k 0 = z0 := ⟨_, rfl⟩
        have HZ0 := Lib.hid hz0
        rw [hz0] at h16
        clear hz0
        generalize zs.getD (k + 1) 0 = z1 at *
        generalize zs.getD (k + 2) 0 = z2 at *
        simp only [List.take_succ_cons, List.take_zero, List.drop_succ_cons, List.drop_zero, putAll, Act.put, List.setIfInBounds_toArray, List.set_cons_succ, List.set_cons_zero, Nat.reduceAdd, h16]
        clear h16
        refine st_nd rfl (.tmp 8) (.tmp 47) rfl _ rfl z0 0#256 z1 z2 (Value.slice (some ⟨gb, 0, none⟩) 1 1) rfl rfl _ rfl _ HGX10.out ?_
        intro w11 hg11 hgr11
        have HGN := Lib.hid hg11
        have hb11 : ∀ b', b' ≠ gx → b' < wr.heap.size → w11.heap[b']? = wr.heap[b']? := fun b' hne hlt' => (hgr11.block b' (by omega) (fun e => by simp only [Option.some.injEq] at e; exact hne e)).trans (HI10.out.block b' hlt')
        have HK11 := Lib.hid (HKT.out.move (Q' := fun b => b ≠ gx) fun b' hne hlt' => ⟨hne, hb11 b' hne hlt'⟩)
        have HK11T := Lib.hid (HKT.out.move (Q' := fun b => b ≠ gx ∧ b < wr.heap.size) fun b' hne hlt' => ⟨⟨hne, hlt'⟩, hb11 b' hne hlt'⟩)
        have HCB11 := Lib.hid (heap_kept hgr11 HCB.out (fun e => by simp only [Option.some.injEq] at e; omega))
        have HKO := Lib.hid (kids_one' (c := 1) (t, rx) HCB11.out HK11.out (show gb ≠ gx by omega))
        have hz11 : wr.heap.size ≤ w11.heap.size := by have := hgr11.size; omega
        have HB11 := Lib.hid ((below_more hB hzr HI10.out).grown hgr11 (by omega) (fun k e => by simp only [Option.some.injEq] at e; omega))
        have hck : w11.cell? ⟨b, o + k, none⟩ = some (.int .i64 z0) := by
          rw [World.cell?_of_block (a := ⟨b, o + k, none⟩) (hgr11.block b (by omega) (fun e => by simp only [Option.some.injEq] at e; omega))]
          have := HCZ.out w10 HI10.out k (by omega)
          rw [HZ0.out] at this
          exact this
        have hc7 := (nd_cell HGN.out).2.2.2
        have HO11 := Lib.hid (own_one (base := wr.heap.size) (t, rx) HCB11.out hgb)
        have hbk : k < zs.length := by omega
        clear hg11 hgr11 hb11 HI10 HCB HGX10 HGX HKT HCZ
        have hbn : Below w11.heap.size w11 (w11.alloc (.cells (ndC 0 0#256 0 0 (.slice none 0 0)) 28)) := (Below.refl _ _).alloc (Nat.le_refl _) _
        have HBN := Lib.hid hbn
        clear hbn
        go_wp2_with (first | (refine build_nd1 rfl (.tmp 56) rfl 0 0#256 0 0 (.slice none 0 0) rfl ?_) |
          (refine append_nd_at rfl (.tmp 55) (.tmp 57) (by rfl) wr.heap.size (.slice (some ⟨gb, 0, none⟩) 1 1) [(t, rx)] 1 (by rfl) (HO11.out.alloc _) rfl (Nd.mk 0 0#256 0 0 [], .slice none 0 0) rfl w11.heap.size 1 (by rfl) (heap_alloc_new _ _) (by simp) (Nat.le_trans hz11 HBN.out.size) ?_; intro v13 w13 hown13 hgr13 _; obtain ⟨g13, c13, hv13, hbg13, hlg13⟩ := own_form hown13; subst hv13; have HO13 := Lib.hid hown13; have HGR13 := Lib.hid hgr13;
            have HGX13 := Lib.hid (heap_kept hgr13 (below_all HBN.out HGN.out) (fun e => by simp only [Value.ownBlock, Option.some.injEq] at e; omega)); have hf13 := frozen_of_row w13 gx 7 _ _ HGX13.out; have hc13 := (nd_cell HGX13.out).2.2.2; have hz13 : w11.heap.size + 1 ≤ w13.heap.size := (by simpa using hgr13.size); clear hown13 hgr13))
        · have hblk : ∀ b', b' ≠ gx → b' < w11.heap.size → b' ≠ gb → w13.heap[b']? = w11.heap[b']? := fun b' _ hl hnb => (HGR13.out.block b' (by simp; omega) (fun e => by simp only [Value.ownBlock, Option.some.injEq] at e; exact hnb e)).trans (HBN.out.block b' hl)
          have hkt13 : Kids w13 (fun b => b ≠ gx) rx t.kids := HK11T.out.move (Q' := fun b => b ≠ gx) fun b' hn hl => ⟨hn.1, hblk b' hn.1 hl (by omega)⟩
          have hkk : Kids w13 (fun b => b ≠ gx) (.slice (some ⟨g13, 0, none⟩) 2 c13) ([(t, rx), (Nd.mk 0 0#256 0 0 [], Value.slice none 0 0)].map (fun x : NV => x.1)) := Kids.of_own HO13.out rfl (by simp) (fun g hg => by simp only [Value.ownBlock, Option.some.injEq] at hg; omega) fun x hx => by
            simp only [List.mem_cons, List.mem_nil_iff, or_false] at hx
            rcases hx with rfl | rfl
            · exact hkt13
            · exact Kids.nil _ _
          have hgs := grown_setCell w13 gx 7 (.slice (some ⟨g13, 0, none⟩) (1 + 1) c13)
          have hg14 := heap_setCell_same w13 gx 7 _ _ (.slice (some ⟨g13, 0, none⟩) (1 + 1) c13) HGX13.out
          exact ⟨⟨k + 3, by omega, by go_num, ⟨.mk z0 0#256 z1 z2 [t, .mk 0 0#256 0 0 []], _, hg14, hkk.grown hgs (fun b hb e => by simp only [Option.some.injEq] at e; exact hb e)⟩, (((below_more HB11.out (by omega) HBN.out).grown HGR13.out (by simp; omega) (fun k e => by simp only [Value.ownBlock, Option.some.injEq] at e; omega))).grown hgs (by omega) (fun k e => by simp only [Option.some.injEq] at e; omega)⟩, by simp [intOf]; omega⟩
        · exact ⟨⟨k + 3, by omega, by go_num, ⟨.mk z0 0#256 z1 z2 [t], _, HGN.out, HKO.out⟩, HB11.out⟩, by simp [intOf]; omega⟩
    · go_wp2_with (fail)
      go_loopw [10] (fun i wr => ∃ k : Nat, k ≤ 70 ∧ i = .int .i64 k ∧ SomeNd wr gx ∧ Below w.heap.size w wr) (fun i _ => 71 - (intOf i).toNat)
      case atStart => exact ⟨0, Nat.zero_le _, rfl, HSN.out, hB⟩
      case round =>
        clear HSN hB hk
        obtain ⟨k, hk, rfl, hsn, hB⟩ := hrel
        obtain ⟨t, rx, hgt, hkt⟩ := hsn
        have HGX := Lib.hid hgt
        have HKT := Lib.hid hkt
        have hzr := hB.size
        have hgxl := heap_lt hgt
        clear hgt hkt
        by_cases h1 : (k : Int) < deep ∧ (k : Int) < 70
        · have e1 : decide ((k : Int) < deep) = true := decide_eq_true h1.1
          have e2 : decide ((k : Int) < 70) = true := decide_eq_true h1.2
          have HBN : Hid (Below wr.heap.size wr (wr.alloc (.cells (ndC t.op t.set t.mn t.mx rx) 28))) := Lib.hid ((Below.refl _ _).alloc (Nat.le_refl _) _)
          have HK4 := Lib.hid (kids_one' (c := 1) (t, rx) (heap_alloc_new wr (.cells (ndC t.op t.set t.mn t.mx rx) 28)) (HKT.out.keep HBN.out) (show wr.heap.size ≠ gx by omega))
          have hk70 : k < 70 := by omega
          clear h1
          go_wp2_with (first | (refine ld_nd_mid rfl (.tmp 8) rfl _ _ rfl _ _ _ _ _ (range_row HGX.out) ?_) | (refine build_nd1 rfl (.tmp 69) rfl t.op t.set t.mn t.mx rx rfl ?_) |
            (go_at_call 17; refine (many_calls 5 (some ⟨wr.heap.size, 0, none⟩) 1 1 _).mono ?_; rintro e w5 ⟨rfl, hb5⟩; have HK5 := Lib.hid (HK4.out.keep hb5); have HG5 := Lib.hid (below_all hb5 (below_all HBN.out HGX.out)); have hz5 : wr.heap.size + 1 ≤ w5.heap.size := (by simpa using hb5.size); have HB5 := Lib.hid (below_more (below_more hB (by omega) HBN.out) (by simp; omega) hb5); clear hb5) |
            (refine st_nd rfl (.tmp 8) (.tmp 71) rfl _ rfl 5 0#256 0 0 (.slice (some ⟨wr.heap.size, 0, none⟩) 1 1) rfl rfl _ rfl _ HG5.out ?_; intro w6 hg6 hgr6; have HG6 := Lib.hid hg6; have HGR6 := Lib.hid hgr6; clear hg6 hgr6))
          exact ⟨⟨k + 1, by omega, by go_num, ⟨.mk 5 0#256 0 0 [t], _, HG6.out, HK5.out.grown HGR6.out (fun b hb e => by simp only [Option.some.injEq] at e; exact hb e)⟩, HB5.out.grown HGR6.out (by omega) (fun k e => by simp only [Option.some.injEq] at e; omega)⟩, by simp [intOf]; omega⟩
        · have HNX : Hid (∀ w', Below wr.heap.size wr w' → NodeV w' (fun _ => True) (ndV t.op t.set t.mn t.mx rx) t) := Lib.hid fun w' hb => nodeV_of (t, rx) ((HKT.out.keep hb).wide fun _ _ _ => trivial)
          by_cases hd : (k : Int) < deep
          case' pos =>
            have e1 : decide ((k : Int) < deep) = true := decide_eq_true hd
            have e2 : decide ((k : Int) < 70) = false := decide_eq_false (fun h => h1 ⟨hd, h⟩)
            clear h1 hd
          case' neg =>
            have e1 : decide ((k : Int) < deep) = false := decide_eq_false hd
            clear h1 hd
          all_goals
            go_upto_region 17 with (fail)
            refine region_all (by kernel_rfl) (fun w' => Below wr.heap.size wr w') (fun w1 w2 => Below w1.heap.size w1 w2) (predsT (checks17 gx t rx)) (by kernel_rfl) (by kernel_rfl) (by kernel_rfl) (preds_keep _ (checks17_keep gx t rx)) (Below.refl _ _).drew ?_ ?_
            · refine ⟨?_, ?_, ?_, ?_, ?_, ?_, trivial⟩
              · refine ob_val (fun _ => Below.refl _ _) fun a' w' hS hI hD => ⟨rfl, ndV t.op t.set t.mn t.mx rx, ?_, rfl⟩
                have h0 : a'.tmps.getD 8 undef = Value.pointer (some ⟨gx, 0, none⟩) := hS.at rfl
                simp only [execOp, Act.eval, h0]
                exact run_load_nd' w' gx 0 t.op t.set t.mn t.mx rx (range_row (below_all hI HGX.out))
              · refine ob_call fun a' w' hS hI hD => ⟨rfl, 31, #[ndV t.op t.set t.mn t.mx rx], ?_, ?_⟩
                · have h0 : a'.tmps.getD 72 undef = ndV t.op t.set t.mn t.mx rx := dep_at hD 0 (by kernel_rfl)
                  rw [run_call 31 _ _ rfl (enters_of Try.func31 (by kernel_rfl) rfl)]
                  simp only [List.map_toArray, List.map_cons, List.map_nil, Act.eval, h0]
                · have h0 : a'.tmps.getD 72 undef = ndV t.op t.set t.mn t.mx rx := dep_at hD 0 (by kernel_rfl)
                  exact (check_calls t _ _ w' (HNX.out w' hI)).mono fun e w'' ⟨he, hb⟩ => ⟨_, he, rfl, hb, below_more hI hI.size hb⟩
              · refine ob_val (fun _ => Below.refl _ _) fun a' w' hS hI hD => ⟨rfl, ndV t.op t.set t.mn t.mx rx, ?_, rfl⟩
                have h0 : a'.tmps.getD 8 undef = Value.pointer (some ⟨gx, 0, none⟩) := hS.at rfl
                simp only [execOp, Act.eval, h0]
                exact run_load_nd' w' gx 0 t.op t.set t.mn t.mx rx (range_row (below_all hI HGX.out))
              · refine ob_call fun a' w' hS hI hD => ⟨rfl, 32, #[ndV t.op t.set t.mn t.mx rx], ?_, ?_⟩
                · have h0 : a'.tmps.getD 74 undef = ndV t.op t.set t.mn t.mx rx := dep_at hD 2 (by kernel_rfl)
                  rw [run_call 32 _ _ rfl (enters_of Try.func32 (by kernel_rfl) rfl)]
                  simp only [List.map_toArray, List.map_cons, List.map_nil, Act.eval, h0]
                · have h0 : a'.tmps.getD 74 undef = ndV t.op t.set t.mn t.mx rx := dep_at hD 2 (by kernel_rfl)
                  exact (rcheck_calls t _ _ w' (HNX.out w' hI)).mono fun e w'' ⟨he, hb⟩ => ⟨_, he, rfl, hb, below_more hI hI.size hb⟩
              · refine ob_val (fun _ => Below.refl _ _) fun a' w' hS hI hD => ⟨rfl, Value.bool true, ?_, rfl⟩
                have h0 : a'.tmps.getD 73 undef = Value.int .i64 t.check := dep_at hD 1 (by kernel_rfl)
                have h1 : a'.tmps.getD 75 undef = Value.int .i64 t.check := dep_at hD 3 (by kernel_rfl)
                exact (run_eql_i _ _ (.tmp 73) (.tmp 75) rfl _ _ _ h0 h1).trans (by simp)
              · refine ob_val (fun _ => Below.refl _ _) fun a' w' hS hI hD => ⟨rfl, Value.bool true, ?_, rfl⟩
                have h0 : a'.tmps.getD 76 undef = Value.bool true := dep_at hD 4 (by kernel_rfl)
                exact run_val (.tmp 76) (by first | exact .inl rfl | exact .inr rfl) _ h0
            · intro v w10 hI hT
              have h5 : v 5 = .bool true := tall_at _ _ hT 5 (by decide) (by decide)
              have HBW := Lib.hid (below_more hB hzr hI)
              clear hT hI
              simp only [List.take_succ_cons, List.take_zero, List.drop_succ_cons, List.drop_zero, putAll, Act.put, List.setIfInBounds_toArray, List.set_cons_succ, List.set_cons_zero, Nat.reduceAdd, h5]
              clear h5
              go_wp2_with (fail)
              go_ret
              exact ⟨rfl, HBW.out⟩
theorem checks_calls (a : ByteArray) (v : Value) (zs : List Int) (deep : Int) (ha : a.size ≤ 9223372036854775807) (hz : zs.length ≤ 9223372036854775807) (w : World) (hv : Nums w v zs) :
    Calls Try.prog 5 #[.string a, v, .int .i64 deep] w fun e w' => e = .returned (.bool true) ∧ Below w.heap.size w w' := by
  by_cases h : a.size ≤ 40 ∧ zs.length ≤ 30
  · exact checks_short a v zs deep h.1 h.2 w hv
  · exact checks_long a v zs deep ha hz w hv h
end Go.Proofs.Ytekodfpjoehooaa.Bs
