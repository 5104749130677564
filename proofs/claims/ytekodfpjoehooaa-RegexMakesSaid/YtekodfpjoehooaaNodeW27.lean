/- The walk of RegexMakes. -/
import Derived.Test.YtekodfpjoehooaaNodeW24
namespace Go.Proofs.Ytekodfpjoehooaa.Bs
open Go.RowKit Mem Reg
theorem kids_first {w : World} {Q : Nat → Prop} {A : Option Addr} {c : Nat} {t u : Nd} (h : Kids w Q (.slice A 2 c) [t, u]) : Kids w Q (.slice A 1 c) [t] := by
  generalize hv : Value.slice A 2 c = v at h
  generalize hl : [t, u] = l at h
  cases h with
  | mk A' cap ks kv hlen hc hr =>
    subst hl
    cases hv
    refine .mk A c [t] kv (by simp) (fun _ => ?_) fun i op s mn mx kk hi => hr i op s mn mx kk (by cases i with
      | zero => simpa using hi
      | succ i => simp at hi)
    obtain ⟨b, o, rfl, hq, hcell⟩ := hc (by simp)
    exact ⟨b, o, rfl, hq, fun i op s mn mx kk hi => hcell i op s mn mx kk (by cases i with
      | zero => simpa using hi
      | succ i => simp at hi)⟩
section
variable {w : World} {ρ : Operand → Value} {o : Oper}
theorem run_sl_head (x y : Operand) (ho : o.op = .slice 26 x none (some y) none) (g n c : Nat) (hx : ρ x = .slice (some ⟨g, 0, none⟩) n c) (h : Nat) (hy : ρ y = .int .i64 (h : Int)) (hh : h ≤ c) (hc : 0 < c) : (execOp ρ o).run Try.prog w = .ok (.value (.slice (some ⟨g, 0, none⟩) h c)) w := by
  have h1 : (h : Int) ≤ (c : Int) := by omega
  have h2 : (0 : Int) ≤ (h : Int) := by omega
  have hne : c ≠ 0 := by omega
  unfold execOp
  simp only [ho, hx, Option.map_some, Option.map_none, hy]
  go_simp
theorem run_len_str (ty : TypeId) (x : Operand) (ho : o.op = .call { callee := .builtin .len, args := #[x], argTypes := #[ty] }) (s : ByteArray) (hx : ρ x = .string s) (hu : Try.prog.underlying ty = some .string) : (execOp ρ o).run Try.prog w = .ok (.value (.int .i64 s.size)) w := by
  unfold execOp
  simp only [ho]
  go_simp
end
/-- a slice literal of two nodes -/
theorem build_nd2 {ops : Array Oper} {rest : List Oper} {o : Oper} {a : Act} {w : World} {Q : Exit → Act → World → Prop} (hgd : o.guard = none) (x y : Operand) (ho : o.op = .buildSlice 26 2 #[(0, x), (1, y)])
    (op : Int) (s : BitVec 256) (mn mx : Int) (kv : Value) (op' : Int) (s' : BitVec 256) (mn' mx' : Int) (kv' : Value) (hx : a.eval x = ndV op s mn mx kv) (hy : a.eval y = ndV op' s' mn' mx' kv')
    (h : wpList Try.prog ops Q rest (a.put o.dst (.slice (some ⟨w.heap.size, 0, none⟩) 2 2)) (w.alloc (.cells (ndC op s mn mx kv ++ ndC op' s' mn' mx' kv') 28))) : wpList Try.prog ops Q (o :: rest) a w :=
  wpList_plain hgd fun K hK => by
    unfold Oper.wp execOp
    simp only [ho, List.map_toArray, List.map_cons, List.map_nil, hx, hy, Sem.run_bind, Sem.run_pure, Result.andThen_ok, run_build_nd2]
    exact hK _ _ h
def makes9 (a b : ByteArray) (s : BitVec 256) (gx gy gs g2 : Nat) (t u : Nd) (rx ry : Value) : List (Value → World → Prop) := [
  fun v _ => v = Value.string a,
  fun vv ww => NodeV ww (fun _ => True) vv (Nd.mk 1 0#256 0 0 (a.data.toList.map litN)),
  fun v _ => v = Value.string a,
  fun vv ww => NodeV ww (fun _ => True) vv (Nd.mk 1 0#256 0 0 (a.data.toList.map litN)),
  fun v _ => v = Value.bool true,
  fun v _ => v = Value.bool true,
  fun v _ => v = Value.string a,
  fun vv ww => NodeV ww (fun _ => True) vv (Nd.mk 1 0#256 0 0 (a.data.toList.map litN)),
  fun v _ => v = Value.string a,
  fun vv ww => NodeV ww (fun _ => True) vv (Nd.mk 1 0#256 0 0 (a.data.toList.map litN)),
  fun v _ => v = Value.bool true,
  fun v _ => v = Value.bool true,
  fun v _ => v = Value.bool true,
  fun v _ => v = setV s,
  fun v _ => v = ndV 0 s 0 0 (Value.slice none 0 0),
  fun v _ => v = setV s,
  fun v _ => v = ndV 0 s 0 0 (Value.slice none 0 0),
  fun v _ => v = Value.bool true,
  fun v _ => v = Value.bool true,
  fun v _ => v = Value.bool true,
  fun v _ => v = ndV t.op t.set t.mn t.mx rx,
  fun v _ => v = ndV u.op u.set u.mn u.mx ry,
  fun vv ww => Kids ww (fun _ => True) vv [t, u],
  fun vv ww => NodeV ww (fun _ => True) vv (Nd.mk 1 0#256 0 0 [t, u]),
  fun v _ => v = Value.slice (some ⟨g2, 0, none⟩) 2 2,
  fun vv ww => NodeV ww (fun _ => True) vv (Nd.mk 1 0#256 0 0 [t, u]),
  fun v _ => v = Value.bool true,
  fun v _ => v = Value.bool true,
  fun v _ => v = Value.bool true,
  fun v _ => v = ndV t.op t.set t.mn t.mx rx,
  fun v _ => v = ndV u.op u.set u.mn u.mx ry,
  fun vv ww => Kids ww (fun _ => True) vv [t, u],
  fun vv ww => NodeV ww (fun _ => True) vv (Nd.mk 2 0#256 0 0 [t, u]),
  fun v _ => v = Value.slice (some ⟨g2, 0, none⟩) 2 2,
  fun vv ww => NodeV ww (fun _ => True) vv (Nd.mk 2 0#256 0 0 [t, u]),
  fun v _ => v = Value.bool true,
  fun v _ => v = Value.bool true,
  fun v _ => v = Value.bool true,
  fun v _ => v = ndV t.op t.set t.mn t.mx rx,
  fun v _ => v = ndV u.op u.set u.mn u.mx ry,
  fun vv ww => Kids ww (fun _ => True) vv [t, u],
  fun vv ww => NodeV ww (fun _ => True) vv (Nd.mk 4 0#256 0 0 [t, u]),
  fun v _ => v = Value.slice (some ⟨g2, 0, none⟩) 2 2,
  fun vv ww => NodeV ww (fun _ => True) vv (Nd.mk 4 0#256 0 0 [t, u]),
  fun v _ => v = Value.bool true,
  fun v _ => v = Value.bool true,
  fun v _ => v = Value.bool true,
  fun v _ => v = ndV t.op t.set t.mn t.mx rx,
  fun vv ww => NodeV ww (fun _ => True) vv (Nd.mk 5 0#256 0 0 [t]),
  fun v _ => v = Value.slice (some ⟨g2, 0, none⟩) 2 2,
  fun v _ => v = Value.slice (some ⟨g2, 0, none⟩) 1 2,
  fun vv ww => NodeV ww (fun _ => True) vv (Nd.mk 5 0#256 0 0 [t]),
  fun v _ => v = Value.bool true,
  fun v _ => v = Value.bool true,
  fun v _ => v = Value.bool true,
  fun v _ => v = ndV t.op t.set t.mn t.mx rx,
  fun v _ => v = Value.string b,
  fun v _ => v = Value.int .i64 (b.size : Int),
  fun vv ww => NodeV ww (fun _ => True) vv (Nd.mk 3 0#256 (b.size : Int) (-1) [t]),
  fun v _ => v = ndV t.op t.set t.mn t.mx rx,
  fun v _ => v = Value.string b,
  fun v _ => v = Value.int .i64 (b.size : Int),
  fun vv ww => NodeV ww (fun _ => True) vv (Nd.mk 3 0#256 (b.size : Int) (-1) [t]),
  fun v _ => v = Value.bool true,
  fun v _ => v = Value.bool true,
  fun v _ => v = Value.bool true]
theorem makes9_keep (a b : ByteArray) (s : BitVec 256) (gx gy gs g2 : Nat) (t u : Nd) (rx ry : Value) : PredsKeep (makes9 a b s gx gy gs g2 t u rx ry) :=
  ⟨fun _ _ _ h _ => h,
  fun _ _ _ h hE => NodeV.keep h hE,
  fun _ _ _ h _ => h,
  fun _ _ _ h hE => NodeV.keep h hE,
  fun _ _ _ h _ => h,
  fun _ _ _ h _ => h,
  fun _ _ _ h _ => h,
  fun _ _ _ h hE => NodeV.keep h hE,
  fun _ _ _ h _ => h,
  fun _ _ _ h hE => NodeV.keep h hE,
  fun _ _ _ h _ => h,
  fun _ _ _ h _ => h,
  fun _ _ _ h _ => h,
  fun _ _ _ h _ => h,
  fun _ _ _ h _ => h,
  fun _ _ _ h _ => h,
  fun _ _ _ h _ => h,
  fun _ _ _ h _ => h,
  fun _ _ _ h _ => h,
  fun _ _ _ h _ => h,
  fun _ _ _ h _ => h,
  fun _ _ _ h _ => h,
  fun _ _ _ h hE => Kids.keep h hE,
  fun _ _ _ h hE => NodeV.keep h hE,
  fun _ _ _ h _ => h,
  fun _ _ _ h hE => NodeV.keep h hE,
  fun _ _ _ h _ => h,
  fun _ _ _ h _ => h,
  fun _ _ _ h _ => h,
  fun _ _ _ h _ => h,
  fun _ _ _ h _ => h,
  fun _ _ _ h hE => Kids.keep h hE,
  fun _ _ _ h hE => NodeV.keep h hE,
  fun _ _ _ h _ => h,
  fun _ _ _ h hE => NodeV.keep h hE,
  fun _ _ _ h _ => h,
  fun _ _ _ h _ => h,
  fun _ _ _ h _ => h,
  fun _ _ _ h _ => h,
  fun _ _ _ h _ => h,
  fun _ _ _ h hE => Kids.keep h hE,
  fun _ _ _ h hE => NodeV.keep h hE,
  fun _ _ _ h _ => h,
  fun _ _ _ h hE => NodeV.keep h hE,
  fun _ _ _ h _ => h,
  fun _ _ _ h _ => h,
  fun _ _ _ h _ => h,
  fun _ _ _ h _ => h,
  fun _ _ _ h hE => NodeV.keep h hE,
  fun _ _ _ h _ => h,
  fun _ _ _ h _ => h,
  fun _ _ _ h hE => NodeV.keep h hE,
  fun _ _ _ h _ => h,
  fun _ _ _ h _ => h,
  fun _ _ _ h _ => h,
  fun _ _ _ h _ => h,
  fun _ _ _ h _ => h,
  fun _ _ _ h _ => h,
  fun _ _ _ h hE => NodeV.keep h hE,
  fun _ _ _ h _ => h,
  fun _ _ _ h _ => h,
  fun _ _ _ h _ => h,
  fun _ _ _ h hE => NodeV.keep h hE,
  fun _ _ _ h _ => h,
  fun _ _ _ h _ => h,
  fun _ _ _ h _ => h, trivial⟩
set_option maxHeartbeats 6400000 in
set_option maxRecDepth 100000 in
theorem makes_long (a b : ByteArray) (s : BitVec 256) (ha : a.size ≤ 9223372036854775807) (hb : b.size ≤ 9223372036854775807) (h : ¬ (a.size ≤ 60 ∧ b.size ≤ 60)) (w : World) :
    Calls Try.prog 3 #[.string a, .string b, setV s] w fun e w' => e = .returned (.bool true) ∧ Below w.heap.size w w' := by
  have hb0 : Below w.heap.size w (w.alloc (.cells (setC s) 24)) := (Below.refl _ _).alloc (Nat.le_refl _) _
  by_cases h1 : a.size ≤ 60
  · have h2 : ¬ b.size ≤ 60 := by omega
    have e1 : decide ((60 : Int) < (a.size : Int)) = false := decide_eq_false (by omega)
    have e2 : decide ((60 : Int) < (b.size : Int)) = true := decide_eq_true (by omega)
    clear h h1 h2
    go_enter Try.func3, Try.ntmps3
    go_wp2_with (first | (refine box_set rfl (.tmp 2) rfl s rfl ?_) | (go_at_call 8; refine (awake_calls _).mono ?_; rintro e w1 ⟨rfl, hb1⟩))
    go_ret
    exact ⟨rfl, below_more hb0 (by simp) hb1⟩
  · have e1 : decide ((60 : Int) < (a.size : Int)) = true := decide_eq_true (by omega)
    clear h h1
    go_enter Try.func3, Try.ntmps3
    go_wp2_with (first | (refine box_set rfl (.tmp 2) rfl s rfl ?_) | (go_at_call 8; refine (awake_calls _).mono ?_; rintro e w1 ⟨rfl, hb1⟩))
    go_ret
    exact ⟨rfl, below_more hb0 (by simp) hb1⟩
set_option maxHeartbeats 6400000 in
set_option maxRecDepth 100000 in
theorem makes_short (a b : ByteArray) (s : BitVec 256) (ha : a.size ≤ 60) (hb : b.size ≤ 60) (w : World) :
    Calls Try.prog 3 #[.string a, .string b, setV s] w fun e w' => e = .returned (.bool true) ∧ Below w.heap.size w w' := by
  have e1 : decide ((60 : Int) < (a.size : Int)) = false := decide_eq_false (by omega)
  have e2 : decide ((60 : Int) < (b.size : Int)) = false := decide_eq_false (by omega)
  have HB0 : Hid (Below w.heap.size w (w.alloc (.cells (setC s) 24))) := Lib.hid ((Below.refl _ _).alloc (Nat.le_refl _) _)
  have HGS0 := Lib.hid (heap_alloc_new w (.cells (setC s) 24))
  have hz0 : (w.alloc (.cells (setC s) 24)).heap.size = w.heap.size + 1 := by simp
  go_enter Try.func3, Try.ntmps3
  have tok1 : True := trivial
  go_upto_region 8 with (first | (refine box_set rfl (.tmp 2) rfl s rfl ?_) | (go_at_call 8; refine (awake_calls _).mono ?_; rintro e w1 ⟨rfl, hb1⟩; have HB1 := Lib.hid (below_more HB0.out (by omega) hb1); have HGS1 := Lib.hid (below_all hb1 HGS0.out); have hz1 : w.heap.size + 1 ≤ w1.heap.size := (by have := hb1.size; omega); clear hb1) |
    (have tk := tok1; go_at_call 9; refine (make_calls a (by omega) _).mono ?_; clear tk tok1; rintro e w2 ⟨⟨t, rx, hst, rfl, hkt⟩, hb2⟩; have HKX := Lib.hid hkt; have HOX := Lib.hid hkt.oneCell; have HGS2 := Lib.hid (below_all hb2 HGS1.out); have HB2 := Lib.hid (below_more HB1.out (by omega) hb2); have hz2 := hb2.size; clear hkt hb2) |
    (refine st_nd rfl (.tmp 8) (.tmp 23) rfl _ rfl t.op t.set t.mn t.mx rx rfl HOX.out _ rfl _ (heap_alloc_new _ _) ?_; intro w3 hg3 hgr3; have HB23 : Hid (Below w2.heap.size w2 w3) := Lib.hid (((Below.refl _ _).alloc (Nat.le_refl _) _).grown hgr3 (by simp) (fun k e => by cases e; omega)); have HGX3 := Lib.hid hg3; have HGS3 := Lib.hid (below_all HB23.out HGS2.out); have HKX3 := Lib.hid (HKX.out.keep HB23.out); have hz3 : w2.heap.size + 1 ≤ w3.heap.size := (by simpa using hgr3.size); have HB3 := Lib.hid (below_more HB2.out (by omega) HB23.out); clear hg3 hgr3; have tok2 : True := trivial) |
    (have tk := tok2; go_at_call 9; refine (make_calls b (by omega) _).mono ?_; clear tk tok2; rintro e w4 ⟨⟨u, ry, hsu, rfl, hku⟩, hb4⟩; have HKY := Lib.hid hku; have HOY := Lib.hid hku.oneCell; have HGX4 := Lib.hid (below_all hb4 HGX3.out); have HGS4 := Lib.hid (below_all hb4 HGS3.out); have HKX4 := Lib.hid (HKX3.out.keep hb4); have hz4 := hb4.size; have HB4 := Lib.hid (below_more HB3.out (by omega) hb4); clear hku hb4) |
    (refine st_nd rfl (.tmp 9) (.tmp 25) rfl _ rfl u.op u.set u.mn u.mx ry rfl HOY.out _ rfl _ (heap_alloc_new _ _) ?_; intro w5 hg5 hgr5; have HB45 : Hid (Below w4.heap.size w4 w5) := Lib.hid (((Below.refl _ _).alloc (Nat.le_refl _) _).grown hgr5 (by simp) (fun k e => by cases e; omega)); have HGY5 := Lib.hid hg5; have HGX5 := Lib.hid (below_all HB45.out HGX4.out); have HGS5 := Lib.hid (below_all HB45.out HGS4.out); have HKX5 := Lib.hid (HKX4.out.keep HB45.out); have HKY5 := Lib.hid (HKY.out.keep HB45.out); have hz5 : w4.heap.size + 1 ≤ w5.heap.size := (by simpa using hgr5.size); have HB5 := Lib.hid (below_more HB4.out (by omega) HB45.out); clear hg5 hgr5))
  clear HB0 HGS0 HB1 HGS1 HB2 HGS2 HB23 HB3 HGS3 HB4 HGS4 HB45 HGX3 HGX4 HKX HKX3 HKX4 HKY HOX HOY e1 e2
  go_upto_region 9 with (first | (refine ld_nd_mid rfl (.tmp 8) rfl _ _ rfl _ _ _ _ _ (range_row HGX5.out) ?_) | (refine ld_nd_mid rfl (.tmp 9) rfl _ _ rfl _ _ _ _ _ (range_row HGY5.out) ?_) | (refine build_nd2 rfl (.tmp 26) (.tmp 27) rfl t.op t.set t.mn t.mx rx u.op u.set u.mn u.mx ry rfl rfl ?_))
  have hb6 : Below w5.heap.size w5 (w5.alloc (.cells (ndC t.op t.set t.mn t.mx rx ++ ndC u.op u.set u.mn u.mx ry) 28)) := (Below.refl _ _).alloc (Nat.le_refl _) _
  have hg2 := heap_alloc_new w5 (.cells (ndC t.op t.set t.mn t.mx rx ++ ndC u.op u.set u.mn u.mx ry) 28)
  have hz6 : (w5.alloc (.cells (ndC t.op t.set t.mn t.mx rx ++ ndC u.op u.set u.mn u.mx ry) 28)).heap.size = w5.heap.size + 1 := by simp
  generalize w5.alloc (.cells (ndC t.op t.set t.mn t.mx rx ++ ndC u.op u.set u.mn u.mx ry) 28) = w6 at *
  have HKX6 := Lib.hid (HKX5.out.keep hb6)
  have HKY6 := Lib.hid (HKY5.out.keep hb6)
  have HNX : Hid (∀ w', Below w6.heap.size w6 w' → NodeV w' (fun _ => True) (ndV t.op t.set t.mn t.mx rx) t) := Lib.hid fun w' hb => nodeV_of (t, rx) ((HKX6.out.keep hb).wide fun _ _ _ => trivial)
  have HNY : Hid (∀ w', Below w6.heap.size w6 w' → NodeV w' (fun _ => True) (ndV u.op u.set u.mn u.mx ry) u) := Lib.hid fun w' hb => nodeV_of (u, ry) ((HKY6.out.keep hb).wide fun _ _ _ => trivial)
  have HKX : Hid (∀ w', Below w6.heap.size w6 w' → Kids w' (fun _ => True) rx t.kids) := Lib.hid fun w' hb => (HKX6.out.keep hb).wide fun _ _ _ => trivial
  have HKY : Hid (∀ w', Below w6.heap.size w6 w' → Kids w' (fun _ => True) ry u.kids) := Lib.hid fun w' hb => (HKY6.out.keep hb).wide fun _ _ _ => trivial
  have HK2 : Hid (∀ w', Below w6.heap.size w6 w' → Kids w' (fun _ => True) (.slice (some ⟨w5.heap.size, 0, none⟩) 2 2) [t, u]) := Lib.hid fun w' hb => kids_two (a := (t, rx)) (b := (u, ry)) (below_all hb hg2) (HKX.out w' hb) (HKY.out w' hb) trivial
  have HGX := Lib.hid (below_all hb6 HGX5.out)
  have HGY := Lib.hid (below_all hb6 HGY5.out)
  have HGS := Lib.hid (below_all hb6 HGS5.out)
  have HB6 := Lib.hid (below_more HB5.out (by omega) hb6)
  have hz : w.heap.size ≤ w6.heap.size := by omega
  have hla : a.size ≤ 1000 := by omega
  clear hb6 hg2 HKX5 HKY5 HKX6 HKY6 HGX5 HGY5 HGS5 HB5 hz6
  generalize w2.heap.size = gx at *
  generalize w4.heap.size = gy at *
  generalize w5.heap.size = g2 at *
  obtain ⟨gs, hgs⟩ : ∃ gs, w.heap.size = gs := ⟨_, rfl⟩
  rw [hgs] at HGS ⊢
  refine region_all (by kernel_rfl) (fun w' => Below w6.heap.size w6 w') (fun w1 w2 => Below w1.heap.size w1 w2) (predsT (makes9 a b s gx gy gs g2 t u rx ry)) (by kernel_rfl) (by kernel_rfl) (by kernel_rfl) (preds_keep _ (makes9_keep a b s gx gy gs g2 t u rx ry)) (Below.refl _ _).drew ?_ ?_
  · refine ⟨?_, ?_, ?_, ?_, ?_, ?_, ?_, ?_, ?_, ?_, ?_, ?_, ?_, ?_, ?_, ?_, ?_, ?_, ?_, ?_, ?_, ?_, ?_, ?_, ?_, ?_, ?_, ?_, ?_, ?_, ?_, ?_, ?_, ?_, ?_, ?_, ?_, ?_, ?_, ?_, ?_, ?_, ?_, ?_, ?_, ?_, ?_, ?_, ?_, ?_, ?_, ?_, ?_, ?_, ?_, ?_, ?_, ?_, ?_, ?_, ?_, ?_, ?_, ?_, ?_, ?_, trivial⟩
    · refine ob_val (fun _ => Below.refl _ _) fun a' w' hS hI hD => ⟨rfl, Value.string a, ?_, rfl⟩
      have h0 : a'.tmps.getD 0 undef = Value.string a := hS.at rfl
      exact run_val (.tmp 0) (by first | exact .inl rfl | exact .inr rfl) _ h0
    · refine ob_call fun a' w' hS hI hD => ⟨rfl, 11, #[Value.string a], ?_, ?_⟩
      · have h0 : a'.tmps.getD 29 undef = Value.string a := dep_at hD 0 (by kernel_rfl)
        rw [run_call 11 _ _ rfl (enters_of Try.func11 (by kernel_rfl) rfl)]
        simp only [List.map_toArray, List.map_cons, List.map_nil, Act.eval, h0]
      · have h0 : a'.tmps.getD 29 undef = Value.string a := dep_at hD 0 (by kernel_rfl)
        exact (lit_calls a hla w').mono fun e w'' ⟨⟨r, he, hk⟩, hb⟩ => ⟨_, he, ⟨r, rfl, hk.wide fun _ _ _ => trivial⟩, hb, below_more hI hI.size hb⟩
    · refine ob_val (fun _ => Below.refl _ _) fun a' w' hS hI hD => ⟨rfl, Value.string a, ?_, rfl⟩
      have h0 : a'.tmps.getD 0 undef = Value.string a := hS.at rfl
      exact run_val (.tmp 0) (by first | exact .inl rfl | exact .inr rfl) _ h0
    · refine ob_call fun a' w' hS hI hD => ⟨rfl, 12, #[Value.string a], ?_, ?_⟩
      · have h0 : a'.tmps.getD 31 undef = Value.string a := dep_at hD 2 (by kernel_rfl)
        rw [run_call 12 _ _ rfl (enters_of Try.func12 (by kernel_rfl) rfl)]
        simp only [List.map_toArray, List.map_cons, List.map_nil, Act.eval, h0]
      · have h0 : a'.tmps.getD 31 undef = Value.string a := dep_at hD 2 (by kernel_rfl)
        exact (rlit_calls a hla w').mono fun e w'' ⟨⟨r, he, hk⟩, hb⟩ => ⟨_, he, ⟨r, rfl, hk.wide fun _ _ _ => trivial⟩, hb, below_more hI hI.size hb⟩
    · refine ob_call fun a' w' hS hI hD => ⟨rfl, 10, #[a'.tmps.getD 30 undef, a'.tmps.getD 32 undef], ?_, ?_⟩
      · rw [run_call 10 _ _ rfl (enters_of Try.func10 (by kernel_rfl) rfl)]
        simp only [List.map_toArray, List.map_cons, List.map_nil, Act.eval]
      · have h0 : NodeV w' (fun _ => True) (a'.tmps.getD 30 undef) (Nd.mk 1 0#256 0 0 (a.data.toList.map litN)) := dep_at hD 1 (by kernel_rfl)
        have h1 : NodeV w' (fun _ => True) (a'.tmps.getD 32 undef) (Nd.mk 1 0#256 0 0 (a.data.toList.map litN)) := dep_at hD 3 (by kernel_rfl)
        exact (same_calls _ _ _ _ _ w' h0 h1).mono fun e w'' ⟨he, hb⟩ => ⟨_, he, congrArg Value.bool (eqB_self _), hb, below_more hI hI.size hb⟩
    · refine ob_val (fun _ => Below.refl _ _) fun a' w' hS hI hD => ⟨rfl, Value.bool true, ?_, rfl⟩
      have h0 : a'.tmps.getD 33 undef = Value.bool true := dep_at hD 4 (by kernel_rfl)
      exact run_val (.tmp 33) (by first | exact .inl rfl | exact .inr rfl) _ h0
    · refine ob_val (fun _ => Below.refl _ _) fun a' w' hS hI hD => ⟨wanted_eq (c := true) rfl (dep_at hD 5 (by kernel_rfl)) rfl, Value.string a, ?_, rfl⟩
      have h0 : a'.tmps.getD 0 undef = Value.string a := hS.at rfl
      exact run_val (.tmp 0) (by first | exact .inl rfl | exact .inr rfl) _ h0
    · refine ob_call fun a' w' hS hI hD => ⟨wanted_eq (c := true) rfl (dep_at hD 5 (by kernel_rfl)) rfl, 11, #[Value.string a], ?_, ?_⟩
      · have h0 : a'.tmps.getD 35 undef = Value.string a := dep_at hD 6 (by kernel_rfl)
        rw [run_call 11 _ _ rfl (enters_of Try.func11 (by kernel_rfl) rfl)]
        simp only [List.map_toArray, List.map_cons, List.map_nil, Act.eval, h0]
      · have h0 : a'.tmps.getD 35 undef = Value.string a := dep_at hD 6 (by kernel_rfl)
        exact (lit_calls a hla w').mono fun e w'' ⟨⟨r, he, hk⟩, hb⟩ => ⟨_, he, ⟨r, rfl, hk.wide fun _ _ _ => trivial⟩, hb, below_more hI hI.size hb⟩
    · refine ob_val (fun _ => Below.refl _ _) fun a' w' hS hI hD => ⟨wanted_eq (c := true) rfl (dep_at hD 5 (by kernel_rfl)) rfl, Value.string a, ?_, rfl⟩
      have h0 : a'.tmps.getD 0 undef = Value.string a := hS.at rfl
      exact run_val (.tmp 0) (by first | exact .inl rfl | exact .inr rfl) _ h0
    · refine ob_call fun a' w' hS hI hD => ⟨wanted_eq (c := true) rfl (dep_at hD 5 (by kernel_rfl)) rfl, 12, #[Value.string a], ?_, ?_⟩
      · have h0 : a'.tmps.getD 37 undef = Value.string a := dep_at hD 8 (by kernel_rfl)
        rw [run_call 12 _ _ rfl (enters_of Try.func12 (by kernel_rfl) rfl)]
        simp only [List.map_toArray, List.map_cons, List.map_nil, Act.eval, h0]
      · have h0 : a'.tmps.getD 37 undef = Value.string a := dep_at hD 8 (by kernel_rfl)
        exact (rlit_calls a hla w').mono fun e w'' ⟨⟨r, he, hk⟩, hb⟩ => ⟨_, he, ⟨r, rfl, hk.wide fun _ _ _ => trivial⟩, hb, below_more hI hI.size hb⟩
    · refine ob_call fun a' w' hS hI hD => ⟨wanted_eq (c := true) rfl (dep_at hD 5 (by kernel_rfl)) rfl, 13, #[a'.tmps.getD 36 undef, a'.tmps.getD 38 undef], ?_, ?_⟩
      · rw [run_call 13 _ _ rfl (enters_of Try.func13 (by kernel_rfl) rfl)]
        simp only [List.map_toArray, List.map_cons, List.map_nil, Act.eval]
      · have h0 : NodeV w' (fun _ => True) (a'.tmps.getD 36 undef) (Nd.mk 1 0#256 0 0 (a.data.toList.map litN)) := dep_at hD 7 (by kernel_rfl)
        have h1 : NodeV w' (fun _ => True) (a'.tmps.getD 38 undef) (Nd.mk 1 0#256 0 0 (a.data.toList.map litN)) := dep_at hD 9 (by kernel_rfl)
        exact (rsame_calls _ _ _ _ _ w' h0 h1).mono fun e w'' ⟨he, hb⟩ => ⟨_, he, congrArg Value.bool (eqB_self _), hb, below_more hI hI.size hb⟩
    · refine ob_val (fun _ => Below.refl _ _) fun a' w' hS hI hD => ⟨rfl, Value.bool true, ?_, rfl⟩
      have h0 : a'.tmps.getD 34 undef = Value.bool true := dep_at hD 5 (by kernel_rfl)
      have h1 : a'.tmps.getD 39 undef = Value.bool true := dep_at hD 10 (by kernel_rfl)
      simp only [execOp, Act.eval, h0, h1]
      rfl
    · refine ob_val (fun _ => Below.refl _ _) fun a' w' hS hI hD => ⟨rfl, Value.bool true, ?_, rfl⟩
      have h0 : a'.tmps.getD 40 undef = Value.bool true := dep_at hD 11 (by kernel_rfl)
      exact run_val (.tmp 40) (by first | exact .inl rfl | exact .inr rfl) _ h0
    · refine ob_val (fun _ => Below.refl _ _) fun a' w' hS hI hD => ⟨wanted_eq (c := true) rfl (dep_at hD 12 (by kernel_rfl)) rfl, setV s, ?_, rfl⟩
      have h0 : a'.tmps.getD 5 undef = Value.pointer (some ⟨gs, 0, none⟩) := hS.at rfl
      simp only [execOp, Act.eval, h0]
      exact run_load_st' w' gs 0 s (range_row (below_all hI HGS.out))
    · refine ob_call fun a' w' hS hI hD => ⟨wanted_eq (c := true) rfl (dep_at hD 12 (by kernel_rfl)) rfl, 14, #[setV s], ?_, ?_⟩
      · have h0 : a'.tmps.getD 42 undef = setV s := dep_at hD 13 (by kernel_rfl)
        rw [run_call 14 _ _ rfl (enters_of Try.func14 (by kernel_rfl) rfl)]
        simp only [List.map_toArray, List.map_cons, List.map_nil, Act.eval, h0]
      · have h0 : a'.tmps.getD 42 undef = setV s := dep_at hD 13 (by kernel_rfl)
        exact (set_calls s w').mono fun e w'' ⟨he, hb⟩ => ⟨_, he, rfl, hb, below_more hI hI.size hb⟩
    · refine ob_val (fun _ => Below.refl _ _) fun a' w' hS hI hD => ⟨wanted_eq (c := true) rfl (dep_at hD 12 (by kernel_rfl)) rfl, setV s, ?_, rfl⟩
      have h0 : a'.tmps.getD 5 undef = Value.pointer (some ⟨gs, 0, none⟩) := hS.at rfl
      simp only [execOp, Act.eval, h0]
      exact run_load_st' w' gs 0 s (range_row (below_all hI HGS.out))
    · refine ob_call fun a' w' hS hI hD => ⟨wanted_eq (c := true) rfl (dep_at hD 12 (by kernel_rfl)) rfl, 15, #[setV s], ?_, ?_⟩
      · have h0 : a'.tmps.getD 44 undef = setV s := dep_at hD 15 (by kernel_rfl)
        rw [run_call 15 _ _ rfl (enters_of Try.func15 (by kernel_rfl) rfl)]
        simp only [List.map_toArray, List.map_cons, List.map_nil, Act.eval, h0]
      · have h0 : a'.tmps.getD 44 undef = setV s := dep_at hD 15 (by kernel_rfl)
        exact (rset_calls s w').mono fun e w'' ⟨he, hb⟩ => ⟨_, he, rfl, hb, below_more hI hI.size hb⟩
    · refine ob_call fun a' w' hS hI hD => ⟨wanted_eq (c := true) rfl (dep_at hD 12 (by kernel_rfl)) rfl, 13, #[ndV 0 s 0 0 (Value.slice none 0 0), ndV 0 s 0 0 (Value.slice none 0 0)], ?_, ?_⟩
      · have h0 : a'.tmps.getD 43 undef = ndV 0 s 0 0 (Value.slice none 0 0) := dep_at hD 14 (by kernel_rfl)
        have h1 : a'.tmps.getD 45 undef = ndV 0 s 0 0 (Value.slice none 0 0) := dep_at hD 16 (by kernel_rfl)
        rw [run_call 13 _ _ rfl (enters_of Try.func13 (by kernel_rfl) rfl)]
        simp only [List.map_toArray, List.map_cons, List.map_nil, Act.eval, h0, h1]
      · have h0 : a'.tmps.getD 43 undef = ndV 0 s 0 0 (Value.slice none 0 0) := dep_at hD 14 (by kernel_rfl)
        have h1 : a'.tmps.getD 45 undef = ndV 0 s 0 0 (Value.slice none 0 0) := dep_at hD 16 (by kernel_rfl)
        exact (rsame_calls (Nd.mk 0 s 0 0 []) (Nd.mk 0 s 0 0 []) (fun _ => True) _ _ w' ⟨_, rfl, Kids.nil _ _⟩ ⟨_, rfl, Kids.nil _ _⟩).mono fun e w'' ⟨he, hb⟩ => ⟨_, he, congrArg Value.bool (eqB_self _), hb, below_more hI hI.size hb⟩
    · refine ob_val (fun _ => Below.refl _ _) fun a' w' hS hI hD => ⟨rfl, Value.bool true, ?_, rfl⟩
      have h0 : a'.tmps.getD 41 undef = Value.bool true := dep_at hD 12 (by kernel_rfl)
      have h1 : a'.tmps.getD 46 undef = Value.bool true := dep_at hD 17 (by kernel_rfl)
      simp only [execOp, Act.eval, h0, h1]
      rfl
    · refine ob_val (fun _ => Below.refl _ _) fun a' w' hS hI hD => ⟨rfl, Value.bool true, ?_, rfl⟩
      have h0 : a'.tmps.getD 47 undef = Value.bool true := dep_at hD 18 (by kernel_rfl)
      exact run_val (.tmp 47) (by first | exact .inl rfl | exact .inr rfl) _ h0
    · refine ob_val (fun _ => Below.refl _ _) fun a' w' hS hI hD => ⟨wanted_eq (c := true) rfl (dep_at hD 19 (by kernel_rfl)) rfl, ndV t.op t.set t.mn t.mx rx, ?_, rfl⟩
      have h0 : a'.tmps.getD 8 undef = Value.pointer (some ⟨gx, 0, none⟩) := hS.at rfl
      simp only [execOp, Act.eval, h0]
      exact run_load_nd' w' gx 0 t.op t.set t.mn t.mx rx (range_row (below_all hI HGX.out))
    · refine ob_val (fun _ => Below.refl _ _) fun a' w' hS hI hD => ⟨wanted_eq (c := true) rfl (dep_at hD 19 (by kernel_rfl)) rfl, ndV u.op u.set u.mn u.mx ry, ?_, rfl⟩
      have h0 : a'.tmps.getD 9 undef = Value.pointer (some ⟨gy, 0, none⟩) := hS.at rfl
      simp only [execOp, Act.eval, h0]
      exact run_load_nd' w' gy 0 u.op u.set u.mn u.mx ry (range_row (below_all hI HGY.out))
    · refine ob_new fun a' w' hS hI hD => ⟨wanted_eq (c := true) rfl (dep_at hD 19 (by kernel_rfl)) rfl, .slice (some ⟨w'.heap.size, 0, none⟩) 2 2, w'.alloc (.cells (ndC t.op t.set t.mn t.mx rx ++ ndC u.op u.set u.mn u.mx ry) 28), ?_, kids_two (a := (t, rx)) (b := (u, ry)) (heap_alloc_new _ _) (((HKX.out w' hI).keep ((Below.refl _ _).alloc (Nat.le_refl _) _))) (((HKY.out w' hI).keep ((Below.refl _ _).alloc (Nat.le_refl _) _))) trivial, (Below.refl _ _).alloc (Nat.le_refl _) _, hI.alloc hI.size _⟩
      have h0 : a'.tmps.getD 49 undef = ndV t.op t.set t.mn t.mx rx := dep_at hD 20 (by kernel_rfl)
      have h1 : a'.tmps.getD 50 undef = ndV u.op u.set u.mn u.mx ry := dep_at hD 21 (by kernel_rfl)
      simp only [execOp, Act.eval, List.map_toArray, List.map_cons, List.map_nil, h0, h1, Sem.run_bind, Sem.run_pure, Result.andThen_ok, run_build_nd2]
    · refine ob_call fun a' w' hS hI hD => ⟨wanted_eq (c := true) rfl (dep_at hD 19 (by kernel_rfl)) rfl, 16, #[a'.tmps.getD 51 undef], ?_, ?_⟩
      · rw [run_call 16 _ _ rfl (enters_of Try.func16 (by kernel_rfl) rfl)]
        simp only [List.map_toArray, List.map_cons, List.map_nil, Act.eval]
      · have h0 : Kids w' (fun _ => True) (a'.tmps.getD 51 undef) [t, u] := dep_at hD 22 (by kernel_rfl)
        exact (cat_calls [t, u] (by simp only [List.map_cons, List.map_nil, List.sum_cons, List.sum_nil]; omega) _ _ w' h0).mono fun e w'' ⟨⟨r, he, hk⟩, hb⟩ => ⟨_, he, ⟨r, rfl, hk.wide fun _ _ _ => trivial⟩, hb, below_more hI hI.size hb⟩
    · refine ob_val (fun _ => Below.refl _ _) fun a' w' hS hI hD => ⟨wanted_eq (c := true) rfl (dep_at hD 19 (by kernel_rfl)) rfl, Value.slice (some ⟨g2, 0, none⟩) 2 2, ?_, rfl⟩
      have h0 : a'.tmps.getD 10 undef = Value.slice (some ⟨g2, 0, none⟩) 2 2 := hS.at rfl
      exact run_val (.tmp 10) (by first | exact .inl rfl | exact .inr rfl) _ h0
    · refine ob_call fun a' w' hS hI hD => ⟨wanted_eq (c := true) rfl (dep_at hD 19 (by kernel_rfl)) rfl, 17, #[Value.int .i64 1, Value.slice (some ⟨g2, 0, none⟩) 2 2], ?_, ?_⟩
      · have h1 : a'.tmps.getD 53 undef = Value.slice (some ⟨g2, 0, none⟩) 2 2 := dep_at hD 24 (by kernel_rfl)
        rw [run_call 17 _ _ rfl (enters_of Try.func17 (by kernel_rfl) rfl)]
        simp only [List.map_toArray, List.map_cons, List.map_nil, Act.eval, h1]
      · have h1 : a'.tmps.getD 53 undef = Value.slice (some ⟨g2, 0, none⟩) 2 2 := dep_at hD 24 (by kernel_rfl)
        exact (many_calls 1 (some ⟨g2, 0, none⟩) 2 2 w').mono fun e w'' ⟨he, hb⟩ => ⟨_, he, ⟨_, rfl, ((HK2.out w' hI)).keep hb⟩, hb, below_more hI hI.size hb⟩
    · refine ob_call fun a' w' hS hI hD => ⟨wanted_eq (c := true) rfl (dep_at hD 19 (by kernel_rfl)) rfl, 13, #[a'.tmps.getD 52 undef, a'.tmps.getD 54 undef], ?_, ?_⟩
      · rw [run_call 13 _ _ rfl (enters_of Try.func13 (by kernel_rfl) rfl)]
        simp only [List.map_toArray, List.map_cons, List.map_nil, Act.eval]
      · have h0 : NodeV w' (fun _ => True) (a'.tmps.getD 52 undef) (Nd.mk 1 0#256 0 0 [t, u]) := dep_at hD 23 (by kernel_rfl)
        have h1 : NodeV w' (fun _ => True) (a'.tmps.getD 54 undef) (Nd.mk 1 0#256 0 0 [t, u]) := dep_at hD 25 (by kernel_rfl)
        exact (rsame_calls _ _ _ _ _ w' h0 h1).mono fun e w'' ⟨he, hb⟩ => ⟨_, he, congrArg Value.bool (eqB_self _), hb, below_more hI hI.size hb⟩
    · refine ob_val (fun _ => Below.refl _ _) fun a' w' hS hI hD => ⟨rfl, Value.bool true, ?_, rfl⟩
      have h0 : a'.tmps.getD 48 undef = Value.bool true := dep_at hD 19 (by kernel_rfl)
      have h1 : a'.tmps.getD 55 undef = Value.bool true := dep_at hD 26 (by kernel_rfl)
      simp only [execOp, Act.eval, h0, h1]
      rfl
    · refine ob_val (fun _ => Below.refl _ _) fun a' w' hS hI hD => ⟨rfl, Value.bool true, ?_, rfl⟩
      have h0 : a'.tmps.getD 56 undef = Value.bool true := dep_at hD 27 (by kernel_rfl)
      exact run_val (.tmp 56) (by first | exact .inl rfl | exact .inr rfl) _ h0
    · refine ob_val (fun _ => Below.refl _ _) fun a' w' hS hI hD => ⟨wanted_eq (c := true) rfl (dep_at hD 28 (by kernel_rfl)) rfl, ndV t.op t.set t.mn t.mx rx, ?_, rfl⟩
      have h0 : a'.tmps.getD 8 undef = Value.pointer (some ⟨gx, 0, none⟩) := hS.at rfl
      simp only [execOp, Act.eval, h0]
      exact run_load_nd' w' gx 0 t.op t.set t.mn t.mx rx (range_row (below_all hI HGX.out))
    · refine ob_val (fun _ => Below.refl _ _) fun a' w' hS hI hD => ⟨wanted_eq (c := true) rfl (dep_at hD 28 (by kernel_rfl)) rfl, ndV u.op u.set u.mn u.mx ry, ?_, rfl⟩
      have h0 : a'.tmps.getD 9 undef = Value.pointer (some ⟨gy, 0, none⟩) := hS.at rfl
      simp only [execOp, Act.eval, h0]
      exact run_load_nd' w' gy 0 u.op u.set u.mn u.mx ry (range_row (below_all hI HGY.out))
    · refine ob_new fun a' w' hS hI hD => ⟨wanted_eq (c := true) rfl (dep_at hD 28 (by kernel_rfl)) rfl, .slice (some ⟨w'.heap.size, 0, none⟩) 2 2, w'.alloc (.cells (ndC t.op t.set t.mn t.mx rx ++ ndC u.op u.set u.mn u.mx ry) 28), ?_, kids_two (a := (t, rx)) (b := (u, ry)) (heap_alloc_new _ _) (((HKX.out w' hI).keep ((Below.refl _ _).alloc (Nat.le_refl _) _))) (((HKY.out w' hI).keep ((Below.refl _ _).alloc (Nat.le_refl _) _))) trivial, (Below.refl _ _).alloc (Nat.le_refl _) _, hI.alloc hI.size _⟩
      have h0 : a'.tmps.getD 58 undef = ndV t.op t.set t.mn t.mx rx := dep_at hD 29 (by kernel_rfl)
      have h1 : a'.tmps.getD 59 undef = ndV u.op u.set u.mn u.mx ry := dep_at hD 30 (by kernel_rfl)
      simp only [execOp, Act.eval, List.map_toArray, List.map_cons, List.map_nil, h0, h1, Sem.run_bind, Sem.run_pure, Result.andThen_ok, run_build_nd2]
    · refine ob_call fun a' w' hS hI hD => ⟨wanted_eq (c := true) rfl (dep_at hD 28 (by kernel_rfl)) rfl, 18, #[a'.tmps.getD 60 undef], ?_, ?_⟩
      · rw [run_call 18 _ _ rfl (enters_of Try.func18 (by kernel_rfl) rfl)]
        simp only [List.map_toArray, List.map_cons, List.map_nil, Act.eval]
      · have h0 : Kids w' (fun _ => True) (a'.tmps.getD 60 undef) [t, u] := dep_at hD 31 (by kernel_rfl)
        exact (alt_calls [t, u] (by simp only [List.map_cons, List.map_nil, List.sum_cons, List.sum_nil]; omega) _ _ w' h0).mono fun e w'' ⟨⟨r, he, hk⟩, hb⟩ => ⟨_, he, ⟨r, rfl, hk.wide fun _ _ _ => trivial⟩, hb, below_more hI hI.size hb⟩
    · refine ob_val (fun _ => Below.refl _ _) fun a' w' hS hI hD => ⟨wanted_eq (c := true) rfl (dep_at hD 28 (by kernel_rfl)) rfl, Value.slice (some ⟨g2, 0, none⟩) 2 2, ?_, rfl⟩
      have h0 : a'.tmps.getD 10 undef = Value.slice (some ⟨g2, 0, none⟩) 2 2 := hS.at rfl
      exact run_val (.tmp 10) (by first | exact .inl rfl | exact .inr rfl) _ h0
    · refine ob_call fun a' w' hS hI hD => ⟨wanted_eq (c := true) rfl (dep_at hD 28 (by kernel_rfl)) rfl, 17, #[Value.int .i64 2, Value.slice (some ⟨g2, 0, none⟩) 2 2], ?_, ?_⟩
      · have h1 : a'.tmps.getD 62 undef = Value.slice (some ⟨g2, 0, none⟩) 2 2 := dep_at hD 33 (by kernel_rfl)
        rw [run_call 17 _ _ rfl (enters_of Try.func17 (by kernel_rfl) rfl)]
        simp only [List.map_toArray, List.map_cons, List.map_nil, Act.eval, h1]
      · have h1 : a'.tmps.getD 62 undef = Value.slice (some ⟨g2, 0, none⟩) 2 2 := dep_at hD 33 (by kernel_rfl)
        exact (many_calls 2 (some ⟨g2, 0, none⟩) 2 2 w').mono fun e w'' ⟨he, hb⟩ => ⟨_, he, ⟨_, rfl, ((HK2.out w' hI)).keep hb⟩, hb, below_more hI hI.size hb⟩
    · refine ob_call fun a' w' hS hI hD => ⟨wanted_eq (c := true) rfl (dep_at hD 28 (by kernel_rfl)) rfl, 13, #[a'.tmps.getD 61 undef, a'.tmps.getD 63 undef], ?_, ?_⟩
      · rw [run_call 13 _ _ rfl (enters_of Try.func13 (by kernel_rfl) rfl)]
        simp only [List.map_toArray, List.map_cons, List.map_nil, Act.eval]
      · have h0 : NodeV w' (fun _ => True) (a'.tmps.getD 61 undef) (Nd.mk 2 0#256 0 0 [t, u]) := dep_at hD 32 (by kernel_rfl)
        have h1 : NodeV w' (fun _ => True) (a'.tmps.getD 63 undef) (Nd.mk 2 0#256 0 0 [t, u]) := dep_at hD 34 (by kernel_rfl)
        exact (rsame_calls _ _ _ _ _ w' h0 h1).mono fun e w'' ⟨he, hb⟩ => ⟨_, he, congrArg Value.bool (eqB_self _), hb, below_more hI hI.size hb⟩
    · refine ob_val (fun _ => Below.refl _ _) fun a' w' hS hI hD => ⟨rfl, Value.bool true, ?_, rfl⟩
      have h0 : a'.tmps.getD 57 undef = Value.bool true := dep_at hD 28 (by kernel_rfl)
      have h1 : a'.tmps.getD 64 undef = Value.bool true := dep_at hD 35 (by kernel_rfl)
      simp only [execOp, Act.eval, h0, h1]
      rfl
    · refine ob_val (fun _ => Below.refl _ _) fun a' w' hS hI hD => ⟨rfl, Value.bool true, ?_, rfl⟩
      have h0 : a'.tmps.getD 65 undef = Value.bool true := dep_at hD 36 (by kernel_rfl)
      exact run_val (.tmp 65) (by first | exact .inl rfl | exact .inr rfl) _ h0
    · refine ob_val (fun _ => Below.refl _ _) fun a' w' hS hI hD => ⟨wanted_eq (c := true) rfl (dep_at hD 37 (by kernel_rfl)) rfl, ndV t.op t.set t.mn t.mx rx, ?_, rfl⟩
      have h0 : a'.tmps.getD 8 undef = Value.pointer (some ⟨gx, 0, none⟩) := hS.at rfl
      simp only [execOp, Act.eval, h0]
      exact run_load_nd' w' gx 0 t.op t.set t.mn t.mx rx (range_row (below_all hI HGX.out))
    · refine ob_val (fun _ => Below.refl _ _) fun a' w' hS hI hD => ⟨wanted_eq (c := true) rfl (dep_at hD 37 (by kernel_rfl)) rfl, ndV u.op u.set u.mn u.mx ry, ?_, rfl⟩
      have h0 : a'.tmps.getD 9 undef = Value.pointer (some ⟨gy, 0, none⟩) := hS.at rfl
      simp only [execOp, Act.eval, h0]
      exact run_load_nd' w' gy 0 u.op u.set u.mn u.mx ry (range_row (below_all hI HGY.out))
    · refine ob_new fun a' w' hS hI hD => ⟨wanted_eq (c := true) rfl (dep_at hD 37 (by kernel_rfl)) rfl, .slice (some ⟨w'.heap.size, 0, none⟩) 2 2, w'.alloc (.cells (ndC t.op t.set t.mn t.mx rx ++ ndC u.op u.set u.mn u.mx ry) 28), ?_, kids_two (a := (t, rx)) (b := (u, ry)) (heap_alloc_new _ _) (((HKX.out w' hI).keep ((Below.refl _ _).alloc (Nat.le_refl _) _))) (((HKY.out w' hI).keep ((Below.refl _ _).alloc (Nat.le_refl _) _))) trivial, (Below.refl _ _).alloc (Nat.le_refl _) _, hI.alloc hI.size _⟩
      have h0 : a'.tmps.getD 67 undef = ndV t.op t.set t.mn t.mx rx := dep_at hD 38 (by kernel_rfl)
      have h1 : a'.tmps.getD 68 undef = ndV u.op u.set u.mn u.mx ry := dep_at hD 39 (by kernel_rfl)
      simp only [execOp, Act.eval, List.map_toArray, List.map_cons, List.map_nil, h0, h1, Sem.run_bind, Sem.run_pure, Result.andThen_ok, run_build_nd2]
    · refine ob_call fun a' w' hS hI hD => ⟨wanted_eq (c := true) rfl (dep_at hD 37 (by kernel_rfl)) rfl, 19, #[a'.tmps.getD 69 undef], ?_, ?_⟩
      · rw [run_call 19 _ _ rfl (enters_of Try.func19 (by kernel_rfl) rfl)]
        simp only [List.map_toArray, List.map_cons, List.map_nil, Act.eval]
      · have h0 : Kids w' (fun _ => True) (a'.tmps.getD 69 undef) [t, u] := dep_at hD 40 (by kernel_rfl)
        exact (and_calls [t, u] (by simp only [List.map_cons, List.map_nil, List.sum_cons, List.sum_nil]; omega) _ _ w' h0).mono fun e w'' ⟨⟨r, he, hk⟩, hb⟩ => ⟨_, he, ⟨r, rfl, hk.wide fun _ _ _ => trivial⟩, hb, below_more hI hI.size hb⟩
    · refine ob_val (fun _ => Below.refl _ _) fun a' w' hS hI hD => ⟨wanted_eq (c := true) rfl (dep_at hD 37 (by kernel_rfl)) rfl, Value.slice (some ⟨g2, 0, none⟩) 2 2, ?_, rfl⟩
      have h0 : a'.tmps.getD 10 undef = Value.slice (some ⟨g2, 0, none⟩) 2 2 := hS.at rfl
      exact run_val (.tmp 10) (by first | exact .inl rfl | exact .inr rfl) _ h0
    · refine ob_call fun a' w' hS hI hD => ⟨wanted_eq (c := true) rfl (dep_at hD 37 (by kernel_rfl)) rfl, 17, #[Value.int .i64 4, Value.slice (some ⟨g2, 0, none⟩) 2 2], ?_, ?_⟩
      · have h1 : a'.tmps.getD 71 undef = Value.slice (some ⟨g2, 0, none⟩) 2 2 := dep_at hD 42 (by kernel_rfl)
        rw [run_call 17 _ _ rfl (enters_of Try.func17 (by kernel_rfl) rfl)]
        simp only [List.map_toArray, List.map_cons, List.map_nil, Act.eval, h1]
      · have h1 : a'.tmps.getD 71 undef = Value.slice (some ⟨g2, 0, none⟩) 2 2 := dep_at hD 42 (by kernel_rfl)
        exact (many_calls 4 (some ⟨g2, 0, none⟩) 2 2 w').mono fun e w'' ⟨he, hb⟩ => ⟨_, he, ⟨_, rfl, ((HK2.out w' hI)).keep hb⟩, hb, below_more hI hI.size hb⟩
    · refine ob_call fun a' w' hS hI hD => ⟨wanted_eq (c := true) rfl (dep_at hD 37 (by kernel_rfl)) rfl, 13, #[a'.tmps.getD 70 undef, a'.tmps.getD 72 undef], ?_, ?_⟩
      · rw [run_call 13 _ _ rfl (enters_of Try.func13 (by kernel_rfl) rfl)]
        simp only [List.map_toArray, List.map_cons, List.map_nil, Act.eval]
      · have h0 : NodeV w' (fun _ => True) (a'.tmps.getD 70 undef) (Nd.mk 4 0#256 0 0 [t, u]) := dep_at hD 41 (by kernel_rfl)
        have h1 : NodeV w' (fun _ => True) (a'.tmps.getD 72 undef) (Nd.mk 4 0#256 0 0 [t, u]) := dep_at hD 43 (by kernel_rfl)
        exact (rsame_calls _ _ _ _ _ w' h0 h1).mono fun e w'' ⟨he, hb⟩ => ⟨_, he, congrArg Value.bool (eqB_self _), hb, below_more hI hI.size hb⟩
    · refine ob_val (fun _ => Below.refl _ _) fun a' w' hS hI hD => ⟨rfl, Value.bool true, ?_, rfl⟩
      have h0 : a'.tmps.getD 66 undef = Value.bool true := dep_at hD 37 (by kernel_rfl)
      have h1 : a'.tmps.getD 73 undef = Value.bool true := dep_at hD 44 (by kernel_rfl)
      simp only [execOp, Act.eval, h0, h1]
      rfl
    · refine ob_val (fun _ => Below.refl _ _) fun a' w' hS hI hD => ⟨rfl, Value.bool true, ?_, rfl⟩
      have h0 : a'.tmps.getD 74 undef = Value.bool true := dep_at hD 45 (by kernel_rfl)
      exact run_val (.tmp 74) (by first | exact .inl rfl | exact .inr rfl) _ h0
    · refine ob_val (fun _ => Below.refl _ _) fun a' w' hS hI hD => ⟨wanted_eq (c := true) rfl (dep_at hD 46 (by kernel_rfl)) rfl, ndV t.op t.set t.mn t.mx rx, ?_, rfl⟩
      have h0 : a'.tmps.getD 8 undef = Value.pointer (some ⟨gx, 0, none⟩) := hS.at rfl
      simp only [execOp, Act.eval, h0]
      exact run_load_nd' w' gx 0 t.op t.set t.mn t.mx rx (range_row (below_all hI HGX.out))
    · refine ob_call fun a' w' hS hI hD => ⟨wanted_eq (c := true) rfl (dep_at hD 46 (by kernel_rfl)) rfl, 20, #[ndV t.op t.set t.mn t.mx rx], ?_, ?_⟩
      · have h0 : a'.tmps.getD 76 undef = ndV t.op t.set t.mn t.mx rx := dep_at hD 47 (by kernel_rfl)
        rw [run_call 20 _ _ rfl (enters_of Try.func20 (by kernel_rfl) rfl)]
        simp only [List.map_toArray, List.map_cons, List.map_nil, Act.eval, h0]
      · have h0 : a'.tmps.getD 76 undef = ndV t.op t.set t.mn t.mx rx := dep_at hD 47 (by kernel_rfl)
        exact (notN_calls t (by omega) _ _ w' (HNX.out w' hI)).mono fun e w'' ⟨⟨r, he, hk⟩, hb⟩ => ⟨_, he, ⟨r, rfl, hk.wide fun _ _ _ => trivial⟩, hb, below_more hI hI.size hb⟩
    · refine ob_val (fun _ => Below.refl _ _) fun a' w' hS hI hD => ⟨wanted_eq (c := true) rfl (dep_at hD 46 (by kernel_rfl)) rfl, Value.slice (some ⟨g2, 0, none⟩) 2 2, ?_, rfl⟩
      have h0 : a'.tmps.getD 10 undef = Value.slice (some ⟨g2, 0, none⟩) 2 2 := hS.at rfl
      exact run_val (.tmp 10) (by first | exact .inl rfl | exact .inr rfl) _ h0
    · refine ob_val (fun _ => Below.refl _ _) fun a' w' hS hI hD => ⟨wanted_eq (c := true) rfl (dep_at hD 46 (by kernel_rfl)) rfl, Value.slice (some ⟨g2, 0, none⟩) 1 2, ?_, rfl⟩
      have h0 : a'.tmps.getD 78 undef = Value.slice (some ⟨g2, 0, none⟩) 2 2 := dep_at hD 49 (by kernel_rfl)
      exact run_sl_head (.tmp 78) (.const (.int .i64 1)) rfl _ _ _ h0 1 rfl (by decide) (by decide)
    · refine ob_call fun a' w' hS hI hD => ⟨wanted_eq (c := true) rfl (dep_at hD 46 (by kernel_rfl)) rfl, 17, #[Value.int .i64 5, Value.slice (some ⟨g2, 0, none⟩) 1 2], ?_, ?_⟩
      · have h1 : a'.tmps.getD 79 undef = Value.slice (some ⟨g2, 0, none⟩) 1 2 := dep_at hD 50 (by kernel_rfl)
        rw [run_call 17 _ _ rfl (enters_of Try.func17 (by kernel_rfl) rfl)]
        simp only [List.map_toArray, List.map_cons, List.map_nil, Act.eval, h1]
      · have h1 : a'.tmps.getD 79 undef = Value.slice (some ⟨g2, 0, none⟩) 1 2 := dep_at hD 50 (by kernel_rfl)
        exact (many_calls 5 (some ⟨g2, 0, none⟩) 1 2 w').mono fun e w'' ⟨he, hb⟩ => ⟨_, he, ⟨_, rfl, ((kids_first (HK2.out w' hI))).keep hb⟩, hb, below_more hI hI.size hb⟩
    · refine ob_call fun a' w' hS hI hD => ⟨wanted_eq (c := true) rfl (dep_at hD 46 (by kernel_rfl)) rfl, 13, #[a'.tmps.getD 77 undef, a'.tmps.getD 80 undef], ?_, ?_⟩
      · rw [run_call 13 _ _ rfl (enters_of Try.func13 (by kernel_rfl) rfl)]
        simp only [List.map_toArray, List.map_cons, List.map_nil, Act.eval]
      · have h0 : NodeV w' (fun _ => True) (a'.tmps.getD 77 undef) (Nd.mk 5 0#256 0 0 [t]) := dep_at hD 48 (by kernel_rfl)
        have h1 : NodeV w' (fun _ => True) (a'.tmps.getD 80 undef) (Nd.mk 5 0#256 0 0 [t]) := dep_at hD 51 (by kernel_rfl)
        exact (rsame_calls _ _ _ _ _ w' h0 h1).mono fun e w'' ⟨he, hb⟩ => ⟨_, he, congrArg Value.bool (eqB_self _), hb, below_more hI hI.size hb⟩
    · refine ob_val (fun _ => Below.refl _ _) fun a' w' hS hI hD => ⟨rfl, Value.bool true, ?_, rfl⟩
      have h0 : a'.tmps.getD 75 undef = Value.bool true := dep_at hD 46 (by kernel_rfl)
      have h1 : a'.tmps.getD 81 undef = Value.bool true := dep_at hD 52 (by kernel_rfl)
      simp only [execOp, Act.eval, h0, h1]
      rfl
    · refine ob_val (fun _ => Below.refl _ _) fun a' w' hS hI hD => ⟨rfl, Value.bool true, ?_, rfl⟩
      have h0 : a'.tmps.getD 82 undef = Value.bool true := dep_at hD 53 (by kernel_rfl)
      exact run_val (.tmp 82) (by first | exact .inl rfl | exact .inr rfl) _ h0
    · refine ob_val (fun _ => Below.refl _ _) fun a' w' hS hI hD => ⟨wanted_eq (c := true) rfl (dep_at hD 54 (by kernel_rfl)) rfl, ndV t.op t.set t.mn t.mx rx, ?_, rfl⟩
      have h0 : a'.tmps.getD 8 undef = Value.pointer (some ⟨gx, 0, none⟩) := hS.at rfl
      simp only [execOp, Act.eval, h0]
      exact run_load_nd' w' gx 0 t.op t.set t.mn t.mx rx (range_row (below_all hI HGX.out))
    · refine ob_val (fun _ => Below.refl _ _) fun a' w' hS hI hD => ⟨wanted_eq (c := true) rfl (dep_at hD 54 (by kernel_rfl)) rfl, Value.string b, ?_, rfl⟩
      have h0 : a'.tmps.getD 1 undef = Value.string b := hS.at rfl
      exact run_val (.tmp 1) (by first | exact .inl rfl | exact .inr rfl) _ h0
    · refine ob_val (fun _ => Below.refl _ _) fun a' w' hS hI hD => ⟨wanted_eq (c := true) rfl (dep_at hD 54 (by kernel_rfl)) rfl, Value.int .i64 (b.size : Int), ?_, rfl⟩
      have h0 : a'.tmps.getD 85 undef = Value.string b := dep_at hD 56 (by kernel_rfl)
      exact run_len_str _ (.tmp 85) rfl _ h0 Try.underlying9
    · refine ob_call fun a' w' hS hI hD => ⟨wanted_eq (c := true) rfl (dep_at hD 54 (by kernel_rfl)) rfl, 21, #[ndV t.op t.set t.mn t.mx rx, Value.int .i64 (b.size : Int), Value.int IntKind.i64 (-1)], ?_, ?_⟩
      · have h0 : a'.tmps.getD 84 undef = ndV t.op t.set t.mn t.mx rx := dep_at hD 55 (by kernel_rfl)
        have h1 : a'.tmps.getD 86 undef = Value.int .i64 (b.size : Int) := dep_at hD 57 (by kernel_rfl)
        rw [run_call 21 _ _ rfl (enters_of Try.func21 (by kernel_rfl) rfl)]
        simp only [List.map_toArray, List.map_cons, List.map_nil, Act.eval, h0, h1]
      · have h0 : a'.tmps.getD 84 undef = ndV t.op t.set t.mn t.mx rx := dep_at hD 55 (by kernel_rfl)
        have h1 : a'.tmps.getD 86 undef = Value.int .i64 (b.size : Int) := dep_at hD 57 (by kernel_rfl)
        exact (rep_calls t b.size (-1) (by omega) _ _ w' (HNX.out w' hI)).mono fun e w'' ⟨⟨r, he, hk⟩, hb⟩ => ⟨_, he, ⟨r, rfl, hk.wide fun _ _ _ => trivial⟩, hb, below_more hI hI.size hb⟩
    · refine ob_val (fun _ => Below.refl _ _) fun a' w' hS hI hD => ⟨wanted_eq (c := true) rfl (dep_at hD 54 (by kernel_rfl)) rfl, ndV t.op t.set t.mn t.mx rx, ?_, rfl⟩
      have h0 : a'.tmps.getD 8 undef = Value.pointer (some ⟨gx, 0, none⟩) := hS.at rfl
      simp only [execOp, Act.eval, h0]
      exact run_load_nd' w' gx 0 t.op t.set t.mn t.mx rx (range_row (below_all hI HGX.out))
    · refine ob_val (fun _ => Below.refl _ _) fun a' w' hS hI hD => ⟨wanted_eq (c := true) rfl (dep_at hD 54 (by kernel_rfl)) rfl, Value.string b, ?_, rfl⟩
      have h0 : a'.tmps.getD 1 undef = Value.string b := hS.at rfl
      exact run_val (.tmp 1) (by first | exact .inl rfl | exact .inr rfl) _ h0
    · refine ob_val (fun _ => Below.refl _ _) fun a' w' hS hI hD => ⟨wanted_eq (c := true) rfl (dep_at hD 54 (by kernel_rfl)) rfl, Value.int .i64 (b.size : Int), ?_, rfl⟩
      have h0 : a'.tmps.getD 89 undef = Value.string b := dep_at hD 60 (by kernel_rfl)
      exact run_len_str _ (.tmp 89) rfl _ h0 Try.underlying9
    · refine ob_call fun a' w' hS hI hD => ⟨wanted_eq (c := true) rfl (dep_at hD 54 (by kernel_rfl)) rfl, 22, #[ndV t.op t.set t.mn t.mx rx, Value.int .i64 (b.size : Int), Value.int IntKind.i64 (-1)], ?_, ?_⟩
      · have h0 : a'.tmps.getD 88 undef = ndV t.op t.set t.mn t.mx rx := dep_at hD 59 (by kernel_rfl)
        have h1 : a'.tmps.getD 90 undef = Value.int .i64 (b.size : Int) := dep_at hD 61 (by kernel_rfl)
        rw [run_call 22 _ _ rfl (enters_of Try.func22 (by kernel_rfl) rfl)]
        simp only [List.map_toArray, List.map_cons, List.map_nil, Act.eval, h0, h1]
      · have h0 : a'.tmps.getD 88 undef = ndV t.op t.set t.mn t.mx rx := dep_at hD 59 (by kernel_rfl)
        have h1 : a'.tmps.getD 90 undef = Value.int .i64 (b.size : Int) := dep_at hD 61 (by kernel_rfl)
        exact (rrep_calls t b.size (-1) _ _ w' (HNX.out w' hI) (fun _ _ => trivial)).mono fun e w'' ⟨⟨r, he, hk⟩, hb⟩ => ⟨_, he, ⟨r, rfl, hk.wide fun _ _ _ => trivial⟩, hb, below_more hI hI.size hb⟩
    · refine ob_call fun a' w' hS hI hD => ⟨wanted_eq (c := true) rfl (dep_at hD 54 (by kernel_rfl)) rfl, 13, #[a'.tmps.getD 87 undef, a'.tmps.getD 91 undef], ?_, ?_⟩
      · rw [run_call 13 _ _ rfl (enters_of Try.func13 (by kernel_rfl) rfl)]
        simp only [List.map_toArray, List.map_cons, List.map_nil, Act.eval]
      · have h0 : NodeV w' (fun _ => True) (a'.tmps.getD 87 undef) (Nd.mk 3 0#256 (b.size : Int) (-1) [t]) := dep_at hD 58 (by kernel_rfl)
        have h1 : NodeV w' (fun _ => True) (a'.tmps.getD 91 undef) (Nd.mk 3 0#256 (b.size : Int) (-1) [t]) := dep_at hD 62 (by kernel_rfl)
        exact (rsame_calls _ _ _ _ _ w' h0 h1).mono fun e w'' ⟨he, hb⟩ => ⟨_, he, congrArg Value.bool (eqB_self _), hb, below_more hI hI.size hb⟩
    · refine ob_val (fun _ => Below.refl _ _) fun a' w' hS hI hD => ⟨rfl, Value.bool true, ?_, rfl⟩
      have h0 : a'.tmps.getD 83 undef = Value.bool true := dep_at hD 54 (by kernel_rfl)
      have h1 : a'.tmps.getD 92 undef = Value.bool true := dep_at hD 63 (by kernel_rfl)
      simp only [execOp, Act.eval, h0, h1]
      rfl
    · refine ob_val (fun _ => Below.refl _ _) fun a' w' hS hI hD => ⟨rfl, Value.bool true, ?_, rfl⟩
      have h0 : a'.tmps.getD 93 undef = Value.bool true := dep_at hD 64 (by kernel_rfl)
      exact run_val (.tmp 93) (by first | exact .inl rfl | exact .inr rfl) _ h0
  · intro v w7 hI hT
    have h65 : v 65 = .bool true := tall_at _ _ hT 65 (Nat.zero_le _) (of_decide_eq_true (by kernel_rfl))
    have HBW := Lib.hid (below_more HB6.out hz hI)
    clear hT hI HGX HGY HGS HNX HNY HKX HKY HK2 HB6
    simp only [List.append, List.toList_toArray, putAll, Act.put, List.setIfInBounds_toArray, List.set_cons_succ, List.set_cons_zero, Nat.reduceAdd, h65]
    clear h65
    go_wp2_with (fail)
    go_ret
    rw [← hgs]
    exact ⟨rfl, HBW.out⟩
theorem makes_calls (a b : ByteArray) (s : BitVec 256) (ha : a.size ≤ 9223372036854775807) (hb : b.size ≤ 9223372036854775807) (w : World) :
    Calls Try.prog 3 #[.string a, .string b, setV s] w fun e w' => e = .returned (.bool true) ∧ Below w.heap.size w w' := by
  by_cases h : a.size ≤ 60 ∧ b.size ≤ 60
  · exact makes_short a b s h.1 h.2 w
  · exact makes_long a b s ha hb h w
end Go.Proofs.Ytekodfpjoehooaa.Bs
