/- The walk of awake. -/
import Derived.Test.YtekodfpjoehooaaNodeW23
import Derived.Test.YtekodfpjoehooaaNodeA
namespace Go.Proofs.Ytekodfpjoehooaa.Bs
open Go.RowKit Mem Reg
def awake2 (w3 : World) (g1 : Nat) (rA : Value) : List (Value → World → Prop) := [
  fun v _ => v = ndV 3 0#256 0 (-1) rA,
  fun v _ => v = setV sX,
  fun v _ => v = ndV 0 sX 0 0 (Value.slice none 0 0),
  fun vv ww => Kids ww (fun _ => True) vv [tA, tS],
  fun vv ww => ∃ r, vv = ndV 1 0#256 0 0 r ∧ Kids ww (fun _ => True) r [tA, tS],
  fun vv ww => ∃ gx, vv = Value.pointer (some ⟨gx, 0, none⟩) ∧ w3.heap.size ≤ gx ∧ ww.heap[gx]? = some (.cells (ndC 0 0#256 0 0 (.slice none 0 0)) 28 (0, 0))]
theorem awake2_keep (w3 : World) (g1 : Nat) (rA : Value) : PredsKeep (awake2 w3 g1 rA) :=
  ⟨fun _ _ _ h _ => h,
  fun _ _ _ h _ => h,
  fun _ _ _ h _ => h,
  fun _ _ _ h hE => Kids.keep h hE,
  fun _ _ _ h hE => h.imp fun _ h => ⟨h.1, h.2.keep hE⟩,
  fun _ _ _ h hE => h.imp fun _ h => ⟨h.1, h.2.1, below_all hE h.2.2⟩, trivial⟩
def awake3 (g1 g2 : Nat) (rA rB : Value) : List (Value → World → Prop) := [
  fun v _ => v = ndV 3 0#256 0 (-1) rA,
  fun v _ => v = Value.bool true,
  fun v _ => v = Value.bool true,
  fun v _ => v = ndV 3 0#256 0 (-1) rA,
  fun vv ww => NodeV ww (fun _ => True) vv (Nd.mk 5 0#256 0 0 [tA]),
  fun v _ => v = Value.bool false,
  fun v _ => v = Value.bool true,
  fun v _ => v = Value.bool true,
  fun v _ => v = Value.bool true,
  fun v _ => v = ndV 1 0#256 0 0 rB,
  fun v _ => v = Value.int .i64 5,
  fun v _ => v = Value.bool true,
  fun v _ => v = Value.bool true,
  fun v _ => v = Value.bool true,
  fun v _ => v = ndV 1 0#256 0 0 rB,
  fun vv ww => NodeV ww (fun _ => True) vv (Nd.back tB),
  fun vv ww => NodeV ww (fun _ => True) vv (Nd.back tB.back),
  fun v _ => v = ndV 1 0#256 0 0 rB,
  fun v _ => v = Value.bool true,
  fun v _ => v = Value.bool true,
  fun v _ => v = Value.bool true,
  fun v _ => v = ndV 1 0#256 0 0 rB,
  fun vv ww => NodeV ww (fun _ => True) vv (Nd.back tB),
  fun v _ => v = ndV 1 0#256 0 0 rB,
  fun v _ => v = Value.bool false,
  fun v _ => v = Value.bool true,
  fun v _ => v = Value.bool true,
  fun v _ => v = Value.bool true,
  fun v _ => v = ndV 1 0#256 0 0 rB,
  fun v _ => v = Value.int .i64 0,
  fun v _ => v = Value.bool true,
  fun v _ => v = Value.bool true,
  fun v _ => v = Value.bool true,
  fun v _ => v = ndV 3 0#256 0 (-1) rA,
  fun vv ww => NodeV ww (fun _ => True) vv (Nd.mk 3 0#256 3 2 [tA]),
  fun v _ => v = Value.int .i64 1,
  fun v _ => v = Value.bool true,
  fun v _ => v = Value.bool true,
  fun v _ => v = Value.bool true,
  fun v _ => v = ndV 3 0#256 0 (-1) rA,
  fun v _ => v = setV (bit 97),
  fun v _ => v = setV (bit 97),
  fun v _ => v = Value.bool true,
  fun v _ => v = Value.bool true,
  fun v _ => v = Value.bool true,
  fun v _ => v = ndV 3 0#256 0 (-1) rA,
  fun v _ => v = ndV 1 0#256 0 0 rB,
  fun vv ww => Kids ww (fun _ => True) vv [tA, tB],
  fun vv ww => NodeV ww (fun _ => True) vv (Nd.mk 2 0#256 0 0 [tA, tB]),
  fun vv ww => ∃ A9 c9, vv = Value.slice A9 2 c9,
  fun v _ => v = Value.int .i64 2,
  fun v _ => v = Value.bool true,
  fun v _ => v = Value.bool true,
  fun v _ => v = Value.bool true,
  fun vv ww => NodeV ww (fun _ => True) vv (Nd.mk 4 0#256 0 0 []),
  fun v _ => v = Value.int .i64 4,
  fun v _ => v = Value.bool true,
  fun v _ => v = Value.bool true,
  fun v _ => v = Value.bool true]
theorem awake3_keep (g1 g2 : Nat) (rA rB : Value) : PredsKeep (awake3 g1 g2 rA rB) :=
  ⟨fun _ _ _ h _ => h,
  fun _ _ _ h _ => h,
  fun _ _ _ h _ => h,
  fun _ _ _ h _ => h,
  fun _ _ _ h hE => NodeV.keep h hE,
  fun _ _ _ h _ => h,
  fun _ _ _ h _ => h,
  fun _ _ _ h _ => h,
  fun _ _ _ h _ => h,
  fun _ _ _ h _ => h,
  fun _ _ _ h _ => h,
  fun _ _ _ h _ => h,
  fun _ _ _ h _ => h,
  fun _ _ _ h _ => h,
  fun _ _ _ h _ => h,
  fun _ _ _ h hE => NodeV.keep h hE,
  fun _ _ _ h hE => NodeV.keep h hE,
  fun _ _ _ h _ => h,
  fun _ _ _ h _ => h,
  fun _ _ _ h _ => h,
  fun _ _ _ h _ => h,
  fun _ _ _ h _ => h,
  fun _ _ _ h hE => NodeV.keep h hE,
  fun _ _ _ h _ => h,
  fun _ _ _ h _ => h,
  fun _ _ _ h _ => h,
  fun _ _ _ h _ => h,
  fun _ _ _ h _ => h,
  fun _ _ _ h _ => h,
  fun _ _ _ h _ => h,
  fun _ _ _ h _ => h,
  fun _ _ _ h _ => h,
  fun _ _ _ h _ => h,
  fun _ _ _ h _ => h,
  fun _ _ _ h hE => NodeV.keep h hE,
  fun _ _ _ h _ => h,
  fun _ _ _ h _ => h,
  fun _ _ _ h _ => h,
  fun _ _ _ h _ => h,
  fun _ _ _ h _ => h,
  fun _ _ _ h _ => h,
  fun _ _ _ h _ => h,
  fun _ _ _ h _ => h,
  fun _ _ _ h _ => h,
  fun _ _ _ h _ => h,
  fun _ _ _ h _ => h,
  fun _ _ _ h _ => h,
  fun _ _ _ h hE => Kids.keep h hE,
  fun _ _ _ h hE => NodeV.keep h hE,
  fun _ _ _ h hE => h,
  fun _ _ _ h _ => h,
  fun _ _ _ h _ => h,
  fun _ _ _ h _ => h,
  fun _ _ _ h _ => h,
  fun _ _ _ h hE => NodeV.keep h hE,
  fun _ _ _ h _ => h,
  fun _ _ _ h _ => h,
  fun _ _ _ h _ => h,
  fun _ _ _ h _ => h, trivial⟩
set_option maxHeartbeats 6400000 in
set_option maxRecDepth 100000 in
theorem awake_calls (w : World) : Calls Try.prog 8 #[] w fun e w' => e = .returned (.bool true) ∧ Below w.heap.size w w' := by
  go_enter Try.func8, Try.ntmps8
  go_upto_region 2 with (first | (go_at_call 11; refine (lit_calls ⟨#[97]⟩ (by decide) _).mono ?_; rintro e w1 ⟨⟨r1, rfl, hk1⟩, hb1⟩; have HK1 := Lib.hid hk1; have HB1 := Lib.hid hb1; clear hk1 hb1) |
    (go_at_call 21; refine (rep_calls tL 0 (-1) (by rw [tL_size]; decide) (fun _ => True) _ _ ⟨_, rfl, HK1.out.wide fun _ _ _ => trivial⟩).mono ?_; rintro e w2 ⟨⟨rA, rfl, hk2⟩, hb2⟩; have HK2 := Lib.hid hk2; have H2 := Lib.hid hk2.oneCell; have HB2 := Lib.hid (below_more HB1.out HB1.out.size hb2); have hz2 := HB2.out.size; clear hk2 hb2) |
    (refine st_nd rfl (.tmp 1) (.tmp 4) rfl _ rfl 3 0#256 0 (-1) rA rfl H2.out _ rfl _ (heap_alloc_new _ _) ?_; intro w3 hg3 hgr3))
  have hb3 : Below w2.heap.size w2 w3 := ((Below.refl _ _).alloc (Nat.le_refl _) _).grown hgr3 (by simp) (fun k e => by cases e; omega)
  have hz3 : w2.heap.size + 1 ≤ w3.heap.size := by simpa using hgr3.size
  have HB3 := Lib.hid (below_more HB2.out hz2 hb3)
  have HG1 := Lib.hid hg3
  have HKA : Hid (Kids w3 (fun _ => True) rA [tL]) := Lib.hid ((HK2.out.keep hb3).wide fun _ _ _ => trivial)
  clear hg3 hgr3 hb3 HK1 HB1 HK2 HB2
  generalize w2.heap.size = g1 at *
  refine region_tail 6 (by kernel_rfl) (fun w' => Below w3.heap.size w3 w') (fun w1 w2 => Below w1.heap.size w1 w2) (predsT (awake2 w3 g1 rA)) (by kernel_rfl) (by kernel_rfl) (by kernel_rfl) (by kernel_rfl) (preds_keep _ (awake2_keep w3 g1 rA)) (Below.refl _ _).drew ?_ ?_
  · refine ⟨?_, ?_, ?_, ?_, ?_, ?_, trivial⟩
    · refine ob_val (fun _ => Below.refl _ _) fun a' w' hS hI hD => ⟨rfl, ndV 3 0#256 0 (-1) rA, ?_, rfl⟩
      have h0 : a'.tmps.getD 1 undef = Value.pointer (some ⟨g1, 0, none⟩) := hS.at rfl
      simp only [execOp, Act.eval, h0]
      exact run_load_nd' w' g1 0 3 0#256 0 (-1) _ (range_row (below_all hI HG1.out))
    · refine ob_val (fun _ => Below.refl _ _) fun a' w' hS hI hD => ⟨rfl, setV sX, ?_, rfl⟩
      rw [sX_val]
      simp only [execOp, Act.eval]
      kernel_rfl
    · refine ob_call fun a' w' hS hI hD => ⟨rfl, 14, #[setV sX], ?_, ?_⟩
      · have h0 : a'.tmps.getD 6 undef = setV sX := dep_at hD 1 (by kernel_rfl)
        rw [run_call 14 _ _ rfl (enters_of Try.func14 (by kernel_rfl) rfl)]
        simp only [List.map_toArray, List.map_cons, List.map_nil, Act.eval, h0]
      · have h0 : a'.tmps.getD 6 undef = setV sX := dep_at hD 1 (by kernel_rfl)
        exact (set_calls sX w').mono fun e w'' ⟨he, hb⟩ => ⟨_, he, rfl, hb, below_more hI hI.size hb⟩
    · refine ob_new fun a' w' hS hI hD => ⟨rfl, .slice (some ⟨w'.heap.size, 0, none⟩) 2 2, w'.alloc (.cells (ndC 3 0#256 0 (-1) rA ++ ndC 0 sX 0 0 (Value.slice none 0 0)) 28), ?_, kids_two (a := (tA, rA)) (b := (tS, Value.slice none 0 0)) (heap_alloc_new _ _) (((HKA.out.keep hI).keep ((Below.refl _ _).alloc (Nat.le_refl _) _))) (Kids.nil _ _) trivial, (Below.refl _ _).alloc (Nat.le_refl _) _, hI.alloc hI.size _⟩
      have h0 : a'.tmps.getD 5 undef = ndV 3 0#256 0 (-1) rA := dep_at hD 0 (by kernel_rfl)
      have h1 : a'.tmps.getD 7 undef = ndV 0 sX 0 0 (Value.slice none 0 0) := dep_at hD 2 (by kernel_rfl)
      simp only [execOp, Act.eval, List.map_toArray, List.map_cons, List.map_nil, h0, h1, Sem.run_bind, Sem.run_pure, Result.andThen_ok, run_build_nd2]
    · refine ob_call fun a' w' hS hI hD => ⟨rfl, 16, #[a'.tmps.getD 8 undef], ?_, ?_⟩
      · rw [run_call 16 _ _ rfl (enters_of Try.func16 (by kernel_rfl) rfl)]
        simp only [List.map_toArray, List.map_cons, List.map_nil, Act.eval]
      · have h0 : Kids w' (fun _ => True) (a'.tmps.getD 8 undef) [tA, tS] := dep_at hD 3 (by kernel_rfl)
        exact (cat_calls [tA, tS] (by simp [tA_size, tS_size]) _ _ w' h0).mono fun e w'' ⟨⟨r, he, hk⟩, hb⟩ => ⟨_, he, ⟨r, rfl, hk.wide fun _ _ _ => trivial⟩, hb, below_more hI hI.size hb⟩
    · refine ob_new fun a' w' hS hI hD => ⟨rfl, .pointer (some ⟨w'.heap.size, 0, none⟩), w'.alloc (.cells (ndC 0 0#256 0 0 (.slice none 0 0)) 28), run_alloc_nd rfl, ⟨_, rfl, hI.size, heap_alloc_new _ _⟩, (Below.refl _ _).alloc (Nat.le_refl _) _, hI.alloc hI.size _⟩
  · intro v w4 hI hT
    have h4 : ∃ r, v 4 = ndV 1 0#256 0 0 r ∧ Kids w4 (fun _ => True) r [tA, tS] := tall_at _ _ hT 4 (by decide) (by decide)
    have h5 : ∃ gx, v 5 = Value.pointer (some ⟨gx, 0, none⟩) ∧ w3.heap.size ≤ gx ∧ w4.heap[gx]? = some (.cells (ndC 0 0#256 0 0 (.slice none 0 0)) 28 (0, 0)) := tall_at _ _ hT 5 (by decide) (by decide)
    obtain ⟨rB, h4, hkB⟩ := h4
    obtain ⟨g2, h5, hg2, hcx⟩ := h5
    have HKB := Lib.hid (kids_avoid hkB hcx tB_nz)
    have H4 := Lib.hid hkB.oneCell
    have HCX := Lib.hid hcx
    have HI4 := Lib.hid hI
    have hz4 := hI.size
    clear hT hI hkB hcx
    simp only [List.take_succ_cons, List.take_zero, List.drop_succ_cons, List.drop_zero, putAll, Act.put, List.setIfInBounds_toArray, List.set_cons_succ, List.set_cons_zero, Nat.reduceAdd, h4, h5]
    clear h4 h5
    refine st_nd rfl (.tmp 2) (.tmp 9) rfl _ rfl 1 0#256 0 0 rB rfl H4.out _ rfl _ HCX.out ?_
    intro w5 hg5 hgr5
    have HB35 : Below w3.heap.size w3 w5 := HI4.out.grown hgr5 hz4 (fun k e => by simp only [Option.some.injEq] at e; omega)
    have HKB5 : Hid (Kids w5 (fun _ => True) rB [tA, tS]) := Lib.hid (HKB.out.move fun b hb hlt => ⟨trivial, hgr5.block b hlt (fun e => by simp only [Option.some.injEq] at e; exact hb.2 e)⟩)
    have HKA5 := Lib.hid (HKA.out.keep HB35)
    have HG15 := Lib.hid (below_all HB35 HG1.out)
    have HG2 := Lib.hid hg5
    have HB5 := Lib.hid (below_more HB3.out (by omega) HB35)
    have hz5 := HB5.out.size
    clear HKB HCX HI4 hg5 hgr5 HB35 HKA HG1 HB3
    have HKA := HKA5
    have HKB := HKB5
    have HG1 := HG15
    clear HKA5 HKB5 HG15
    have HNA : Hid (∀ w', Below w5.heap.size w5 w' → NodeV w' (fun _ => True) (ndV 3 0#256 0 (-1) rA) tA) := Lib.hid fun w' hb => ⟨rA, rfl, HKA.out.keep hb⟩
    have HNB : Hid (∀ w', Below w5.heap.size w5 w' → NodeV w' (fun _ => True) (ndV 1 0#256 0 0 rB) tB) := Lib.hid fun w' hb => ⟨rB, rfl, HKB.out.keep hb⟩
    go_upto_region 3 with (fail)
    refine region_all (by kernel_rfl) (fun w' => Below w5.heap.size w5 w') (fun w1 w2 => Below w1.heap.size w1 w2) (predsT (awake3 g1 g2 rA rB)) (by kernel_rfl) (by kernel_rfl) (by kernel_rfl) (preds_keep _ (awake3_keep g1 g2 rA rB)) (Below.refl _ _).drew ?_ ?_
    · refine ⟨?_, ?_, ?_, ?_, ?_, ?_, ?_, ?_, ?_, ?_, ?_, ?_, ?_, ?_, ?_, ?_, ?_, ?_, ?_, ?_, ?_, ?_, ?_, ?_, ?_, ?_, ?_, ?_, ?_, ?_, ?_, ?_, ?_, ?_, ?_, ?_, ?_, ?_, ?_, ?_, ?_, ?_, ?_, ?_, ?_, ?_, ?_, ?_, ?_, ?_, ?_, ?_, ?_, ?_, ?_, ?_, ?_, ?_, ?_, trivial⟩
      · refine ob_val (fun _ => Below.refl _ _) fun a' w' hS hI hD => ⟨rfl, ndV 3 0#256 0 (-1) rA, ?_, rfl⟩
        have h0 : a'.tmps.getD 1 undef = Value.pointer (some ⟨g1, 0, none⟩) := hS.at rfl
        simp only [execOp, Act.eval, h0]
        exact run_load_nd' w' g1 0 3 0#256 0 (-1) _ (range_row (below_all hI HG1.out))
      · refine ob_call fun a' w' hS hI hD => ⟨rfl, 23, #[ndV 3 0#256 0 (-1) rA], ?_, ?_⟩
        · have h0 : a'.tmps.getD 10 undef = ndV 3 0#256 0 (-1) rA := dep_at hD 0 (by kernel_rfl)
          rw [run_call 23 _ _ rfl (enters_of Try.func23 (by kernel_rfl) rfl)]
          simp only [List.map_toArray, List.map_cons, List.map_nil, Act.eval, h0]
        · have h0 : a'.tmps.getD 10 undef = ndV 3 0#256 0 (-1) rA := dep_at hD 0 (by kernel_rfl)
          exact (null_calls tA _ _ w' (HNA.out w' hI)).mono fun e w'' ⟨he, hb⟩ => ⟨_, he, congrArg Value.bool (tA_null), hb, below_more hI hI.size hb⟩
      · refine ob_val (fun _ => Below.refl _ _) fun a' w' hS hI hD => ⟨rfl, Value.bool true, ?_, rfl⟩
        have h0 : a'.tmps.getD 11 undef = Value.bool true := dep_at hD 1 (by kernel_rfl)
        exact run_val (.tmp 11) (by first | exact .inl rfl | exact .inr rfl) _ h0
      · refine ob_val (fun _ => Below.refl _ _) fun a' w' hS hI hD => ⟨wanted_eq (c := true) rfl (dep_at hD 2 (by kernel_rfl)) rfl, ndV 3 0#256 0 (-1) rA, ?_, rfl⟩
        have h0 : a'.tmps.getD 1 undef = Value.pointer (some ⟨g1, 0, none⟩) := hS.at rfl
        simp only [execOp, Act.eval, h0]
        exact run_load_nd' w' g1 0 3 0#256 0 (-1) _ (range_row (below_all hI HG1.out))
      · refine ob_call fun a' w' hS hI hD => ⟨wanted_eq (c := true) rfl (dep_at hD 2 (by kernel_rfl)) rfl, 20, #[ndV 3 0#256 0 (-1) rA], ?_, ?_⟩
        · have h0 : a'.tmps.getD 13 undef = ndV 3 0#256 0 (-1) rA := dep_at hD 3 (by kernel_rfl)
          rw [run_call 20 _ _ rfl (enters_of Try.func20 (by kernel_rfl) rfl)]
          simp only [List.map_toArray, List.map_cons, List.map_nil, Act.eval, h0]
        · have h0 : a'.tmps.getD 13 undef = ndV 3 0#256 0 (-1) rA := dep_at hD 3 (by kernel_rfl)
          exact (notN_calls tA (by rw [tA_size]; decide) _ _ w' (HNA.out w' hI)).mono fun e w'' ⟨⟨r, he, hk⟩, hb⟩ => ⟨_, he, ⟨r, rfl, hk.wide fun _ _ _ => trivial⟩, hb, below_more hI hI.size hb⟩
      · refine ob_call fun a' w' hS hI hD => ⟨wanted_eq (c := true) rfl (dep_at hD 2 (by kernel_rfl)) rfl, 23, #[a'.tmps.getD 14 undef], ?_, ?_⟩
        · rw [run_call 23 _ _ rfl (enters_of Try.func23 (by kernel_rfl) rfl)]
          simp only [List.map_toArray, List.map_cons, List.map_nil, Act.eval]
        · have h0 : NodeV w' (fun _ => True) (a'.tmps.getD 14 undef) (Nd.mk 5 0#256 0 0 [tA]) := dep_at hD 4 (by kernel_rfl)
          exact (null_calls _ _ _ w' h0).mono fun e w'' ⟨he, hb⟩ => ⟨_, he, congrArg Value.bool (tA_not_null), hb, below_more hI hI.size hb⟩
      · refine ob_val (fun _ => Below.refl _ _) fun a' w' hS hI hD => ⟨wanted_eq (c := true) rfl (dep_at hD 2 (by kernel_rfl)) rfl, Value.bool true, ?_, rfl⟩
        have h0 : a'.tmps.getD 15 undef = Value.bool false := dep_at hD 5 (by kernel_rfl)
        simp only [execOp, Act.eval, h0]
        rfl
      · refine ob_val (fun _ => Below.refl _ _) fun a' w' hS hI hD => ⟨rfl, Value.bool true, ?_, rfl⟩
        have h0 : a'.tmps.getD 12 undef = Value.bool true := dep_at hD 2 (by kernel_rfl)
        have h1 : a'.tmps.getD 16 undef = Value.bool true := dep_at hD 6 (by kernel_rfl)
        simp only [execOp, Act.eval, h0, h1]
        rfl
      · refine ob_val (fun _ => Below.refl _ _) fun a' w' hS hI hD => ⟨rfl, Value.bool true, ?_, rfl⟩
        have h0 : a'.tmps.getD 17 undef = Value.bool true := dep_at hD 7 (by kernel_rfl)
        exact run_val (.tmp 17) (by first | exact .inl rfl | exact .inr rfl) _ h0
      · refine ob_val (fun _ => Below.refl _ _) fun a' w' hS hI hD => ⟨wanted_eq (c := true) rfl (dep_at hD 8 (by kernel_rfl)) rfl, ndV 1 0#256 0 0 rB, ?_, rfl⟩
        have h0 : a'.tmps.getD 2 undef = Value.pointer (some ⟨g2, 0, none⟩) := hS.at rfl
        simp only [execOp, Act.eval, h0]
        exact run_load_nd' w' g2 0 1 0#256 0 0 _ (range_row (below_all hI HG2.out))
      · refine ob_call fun a' w' hS hI hD => ⟨wanted_eq (c := true) rfl (dep_at hD 8 (by kernel_rfl)) rfl, 25, #[ndV 1 0#256 0 0 rB], ?_, ?_⟩
        · have h0 : a'.tmps.getD 19 undef = ndV 1 0#256 0 0 rB := dep_at hD 9 (by kernel_rfl)
          rw [run_call 25 _ _ rfl (enters_of Try.func25 (by kernel_rfl) rfl)]
          simp only [List.map_toArray, List.map_cons, List.map_nil, Act.eval, h0]
        · have h0 : a'.tmps.getD 19 undef = ndV 1 0#256 0 0 rB := dep_at hD 9 (by kernel_rfl)
          exact (size_calls tB _ _ w' (HNB.out w' hI) (by rw [tB_size]; decide)).mono fun e w'' ⟨he, hb⟩ => ⟨_, he, congrArg (fun n : Nat => Value.int .i64 (n : Int)) tB_size, hb, below_more hI hI.size hb⟩
      · refine ob_val (fun _ => Below.refl _ _) fun a' w' hS hI hD => ⟨wanted_eq (c := true) rfl (dep_at hD 8 (by kernel_rfl)) rfl, Value.bool true, ?_, rfl⟩
        have h0 : a'.tmps.getD 20 undef = Value.int .i64 5 := dep_at hD 10 (by kernel_rfl)
        exact (run_eql_i _ _ (.tmp 20) (.const (Value.int .i64 5)) rfl _ _ _ h0 (by rfl)).trans (by simp)
      · refine ob_val (fun _ => Below.refl _ _) fun a' w' hS hI hD => ⟨rfl, Value.bool true, ?_, rfl⟩
        have h0 : a'.tmps.getD 18 undef = Value.bool true := dep_at hD 8 (by kernel_rfl)
        have h1 : a'.tmps.getD 21 undef = Value.bool true := dep_at hD 11 (by kernel_rfl)
        simp only [execOp, Act.eval, h0, h1]
        rfl
      · refine ob_val (fun _ => Below.refl _ _) fun a' w' hS hI hD => ⟨rfl, Value.bool true, ?_, rfl⟩
        have h0 : a'.tmps.getD 22 undef = Value.bool true := dep_at hD 12 (by kernel_rfl)
        exact run_val (.tmp 22) (by first | exact .inl rfl | exact .inr rfl) _ h0
      · refine ob_val (fun _ => Below.refl _ _) fun a' w' hS hI hD => ⟨wanted_eq (c := true) rfl (dep_at hD 13 (by kernel_rfl)) rfl, ndV 1 0#256 0 0 rB, ?_, rfl⟩
        have h0 : a'.tmps.getD 2 undef = Value.pointer (some ⟨g2, 0, none⟩) := hS.at rfl
        simp only [execOp, Act.eval, h0]
        exact run_load_nd' w' g2 0 1 0#256 0 0 _ (range_row (below_all hI HG2.out))
      · refine ob_call fun a' w' hS hI hD => ⟨wanted_eq (c := true) rfl (dep_at hD 13 (by kernel_rfl)) rfl, 29, #[ndV 1 0#256 0 0 rB], ?_, ?_⟩
        · have h0 : a'.tmps.getD 24 undef = ndV 1 0#256 0 0 rB := dep_at hD 14 (by kernel_rfl)
          rw [run_call 29 _ _ rfl (enters_of Try.func29 (by kernel_rfl) rfl)]
          simp only [List.map_toArray, List.map_cons, List.map_nil, Act.eval, h0]
        · have h0 : a'.tmps.getD 24 undef = ndV 1 0#256 0 0 rB := dep_at hD 14 (by kernel_rfl)
          exact (back_calls tB (by rw [tB_size]; decide) _ _ w' (HNB.out w' hI)).mono fun e w'' ⟨⟨r, he, hk⟩, hb⟩ => ⟨_, he, nodeV_of ((Nd.back tB), r) (hk.wide fun _ _ _ => trivial), hb, below_more hI hI.size hb⟩
      · refine ob_call fun a' w' hS hI hD => ⟨wanted_eq (c := true) rfl (dep_at hD 13 (by kernel_rfl)) rfl, 29, #[a'.tmps.getD 25 undef], ?_, ?_⟩
        · rw [run_call 29 _ _ rfl (enters_of Try.func29 (by kernel_rfl) rfl)]
          simp only [List.map_toArray, List.map_cons, List.map_nil, Act.eval]
        · have h0 : NodeV w' (fun _ => True) (a'.tmps.getD 25 undef) (Nd.back tB) := dep_at hD 15 (by kernel_rfl)
          exact (back_calls tB.back (by rw [Nd.back_size, tB_size]; decide) _ _ w' h0).mono fun e w'' ⟨⟨r, he, hk⟩, hb⟩ => ⟨_, he, nodeV_of ((Nd.back tB.back), r) (hk.wide fun _ _ _ => trivial), hb, below_more hI hI.size hb⟩
      · refine ob_val (fun _ => Below.refl _ _) fun a' w' hS hI hD => ⟨wanted_eq (c := true) rfl (dep_at hD 13 (by kernel_rfl)) rfl, ndV 1 0#256 0 0 rB, ?_, rfl⟩
        have h0 : a'.tmps.getD 2 undef = Value.pointer (some ⟨g2, 0, none⟩) := hS.at rfl
        simp only [execOp, Act.eval, h0]
        exact run_load_nd' w' g2 0 1 0#256 0 0 _ (range_row (below_all hI HG2.out))
      · refine ob_call fun a' w' hS hI hD => ⟨wanted_eq (c := true) rfl (dep_at hD 13 (by kernel_rfl)) rfl, 10, #[a'.tmps.getD 26 undef, ndV 1 0#256 0 0 rB], ?_, ?_⟩
        · have h1 : a'.tmps.getD 27 undef = ndV 1 0#256 0 0 rB := dep_at hD 17 (by kernel_rfl)
          rw [run_call 10 _ _ rfl (enters_of Try.func10 (by kernel_rfl) rfl)]
          simp only [List.map_toArray, List.map_cons, List.map_nil, Act.eval, h1]
        · have h0 : NodeV w' (fun _ => True) (a'.tmps.getD 26 undef) (Nd.back tB.back) := dep_at hD 16 (by kernel_rfl)
          have h1 : a'.tmps.getD 27 undef = ndV 1 0#256 0 0 rB := dep_at hD 17 (by kernel_rfl)
          exact (same_calls _ tB _ _ _ w' h0 (HNB.out w' hI)).mono fun e w'' ⟨he, hb⟩ => ⟨_, he, congrArg Value.bool (tB_back_eq), hb, below_more hI hI.size hb⟩
      · refine ob_val (fun _ => Below.refl _ _) fun a' w' hS hI hD => ⟨rfl, Value.bool true, ?_, rfl⟩
        have h0 : a'.tmps.getD 23 undef = Value.bool true := dep_at hD 13 (by kernel_rfl)
        have h1 : a'.tmps.getD 28 undef = Value.bool true := dep_at hD 18 (by kernel_rfl)
        simp only [execOp, Act.eval, h0, h1]
        rfl
      · refine ob_val (fun _ => Below.refl _ _) fun a' w' hS hI hD => ⟨rfl, Value.bool true, ?_, rfl⟩
        have h0 : a'.tmps.getD 29 undef = Value.bool true := dep_at hD 19 (by kernel_rfl)
        exact run_val (.tmp 29) (by first | exact .inl rfl | exact .inr rfl) _ h0
      · refine ob_val (fun _ => Below.refl _ _) fun a' w' hS hI hD => ⟨wanted_eq (c := true) rfl (dep_at hD 20 (by kernel_rfl)) rfl, ndV 1 0#256 0 0 rB, ?_, rfl⟩
        have h0 : a'.tmps.getD 2 undef = Value.pointer (some ⟨g2, 0, none⟩) := hS.at rfl
        simp only [execOp, Act.eval, h0]
        exact run_load_nd' w' g2 0 1 0#256 0 0 _ (range_row (below_all hI HG2.out))
      · refine ob_call fun a' w' hS hI hD => ⟨wanted_eq (c := true) rfl (dep_at hD 20 (by kernel_rfl)) rfl, 29, #[ndV 1 0#256 0 0 rB], ?_, ?_⟩
        · have h0 : a'.tmps.getD 31 undef = ndV 1 0#256 0 0 rB := dep_at hD 21 (by kernel_rfl)
          rw [run_call 29 _ _ rfl (enters_of Try.func29 (by kernel_rfl) rfl)]
          simp only [List.map_toArray, List.map_cons, List.map_nil, Act.eval, h0]
        · have h0 : a'.tmps.getD 31 undef = ndV 1 0#256 0 0 rB := dep_at hD 21 (by kernel_rfl)
          exact (back_calls tB (by rw [tB_size]; decide) _ _ w' (HNB.out w' hI)).mono fun e w'' ⟨⟨r, he, hk⟩, hb⟩ => ⟨_, he, nodeV_of ((Nd.back tB), r) (hk.wide fun _ _ _ => trivial), hb, below_more hI hI.size hb⟩
      · refine ob_val (fun _ => Below.refl _ _) fun a' w' hS hI hD => ⟨wanted_eq (c := true) rfl (dep_at hD 20 (by kernel_rfl)) rfl, ndV 1 0#256 0 0 rB, ?_, rfl⟩
        have h0 : a'.tmps.getD 2 undef = Value.pointer (some ⟨g2, 0, none⟩) := hS.at rfl
        simp only [execOp, Act.eval, h0]
        exact run_load_nd' w' g2 0 1 0#256 0 0 _ (range_row (below_all hI HG2.out))
      · refine ob_call fun a' w' hS hI hD => ⟨wanted_eq (c := true) rfl (dep_at hD 20 (by kernel_rfl)) rfl, 10, #[a'.tmps.getD 32 undef, ndV 1 0#256 0 0 rB], ?_, ?_⟩
        · have h1 : a'.tmps.getD 33 undef = ndV 1 0#256 0 0 rB := dep_at hD 23 (by kernel_rfl)
          rw [run_call 10 _ _ rfl (enters_of Try.func10 (by kernel_rfl) rfl)]
          simp only [List.map_toArray, List.map_cons, List.map_nil, Act.eval, h1]
        · have h0 : NodeV w' (fun _ => True) (a'.tmps.getD 32 undef) (Nd.back tB) := dep_at hD 22 (by kernel_rfl)
          have h1 : a'.tmps.getD 33 undef = ndV 1 0#256 0 0 rB := dep_at hD 23 (by kernel_rfl)
          exact (same_calls _ tB _ _ _ w' h0 (HNB.out w' hI)).mono fun e w'' ⟨he, hb⟩ => ⟨_, he, congrArg Value.bool (tB_back_ne), hb, below_more hI hI.size hb⟩
      · refine ob_val (fun _ => Below.refl _ _) fun a' w' hS hI hD => ⟨wanted_eq (c := true) rfl (dep_at hD 20 (by kernel_rfl)) rfl, Value.bool true, ?_, rfl⟩
        have h0 : a'.tmps.getD 34 undef = Value.bool false := dep_at hD 24 (by kernel_rfl)
        simp only [execOp, Act.eval, h0]
        rfl
      · refine ob_val (fun _ => Below.refl _ _) fun a' w' hS hI hD => ⟨rfl, Value.bool true, ?_, rfl⟩
        have h0 : a'.tmps.getD 30 undef = Value.bool true := dep_at hD 20 (by kernel_rfl)
        have h1 : a'.tmps.getD 35 undef = Value.bool true := dep_at hD 25 (by kernel_rfl)
        simp only [execOp, Act.eval, h0, h1]
        rfl
      · refine ob_val (fun _ => Below.refl _ _) fun a' w' hS hI hD => ⟨rfl, Value.bool true, ?_, rfl⟩
        have h0 : a'.tmps.getD 36 undef = Value.bool true := dep_at hD 26 (by kernel_rfl)
        exact run_val (.tmp 36) (by first | exact .inl rfl | exact .inr rfl) _ h0
      · refine ob_val (fun _ => Below.refl _ _) fun a' w' hS hI hD => ⟨wanted_eq (c := true) rfl (dep_at hD 27 (by kernel_rfl)) rfl, ndV 1 0#256 0 0 rB, ?_, rfl⟩
        have h0 : a'.tmps.getD 2 undef = Value.pointer (some ⟨g2, 0, none⟩) := hS.at rfl
        simp only [execOp, Act.eval, h0]
        exact run_load_nd' w' g2 0 1 0#256 0 0 _ (range_row (below_all hI HG2.out))
      · refine ob_call fun a' w' hS hI hD => ⟨wanted_eq (c := true) rfl (dep_at hD 27 (by kernel_rfl)) rfl, 31, #[ndV 1 0#256 0 0 rB], ?_, ?_⟩
        · have h0 : a'.tmps.getD 38 undef = ndV 1 0#256 0 0 rB := dep_at hD 28 (by kernel_rfl)
          rw [run_call 31 _ _ rfl (enters_of Try.func31 (by kernel_rfl) rfl)]
          simp only [List.map_toArray, List.map_cons, List.map_nil, Act.eval, h0]
        · have h0 : a'.tmps.getD 38 undef = ndV 1 0#256 0 0 rB := dep_at hD 28 (by kernel_rfl)
          exact (check_calls tB _ _ w' (HNB.out w' hI)).mono fun e w'' ⟨he, hb⟩ => ⟨_, he, congrArg (Value.int .i64) tB_check, hb, below_more hI hI.size hb⟩
      · refine ob_val (fun _ => Below.refl _ _) fun a' w' hS hI hD => ⟨wanted_eq (c := true) rfl (dep_at hD 27 (by kernel_rfl)) rfl, Value.bool true, ?_, rfl⟩
        have h0 : a'.tmps.getD 39 undef = Value.int .i64 0 := dep_at hD 29 (by kernel_rfl)
        exact (run_eql_i _ _ (.tmp 39) (.const (Value.int .i64 0)) rfl _ _ _ h0 (by rfl)).trans (by simp)
      · refine ob_val (fun _ => Below.refl _ _) fun a' w' hS hI hD => ⟨rfl, Value.bool true, ?_, rfl⟩
        have h0 : a'.tmps.getD 37 undef = Value.bool true := dep_at hD 27 (by kernel_rfl)
        have h1 : a'.tmps.getD 40 undef = Value.bool true := dep_at hD 30 (by kernel_rfl)
        simp only [execOp, Act.eval, h0, h1]
        rfl
      · refine ob_val (fun _ => Below.refl _ _) fun a' w' hS hI hD => ⟨rfl, Value.bool true, ?_, rfl⟩
        have h0 : a'.tmps.getD 41 undef = Value.bool true := dep_at hD 31 (by kernel_rfl)
        exact run_val (.tmp 41) (by first | exact .inl rfl | exact .inr rfl) _ h0
      · refine ob_val (fun _ => Below.refl _ _) fun a' w' hS hI hD => ⟨wanted_eq (c := true) rfl (dep_at hD 32 (by kernel_rfl)) rfl, ndV 3 0#256 0 (-1) rA, ?_, rfl⟩
        have h0 : a'.tmps.getD 1 undef = Value.pointer (some ⟨g1, 0, none⟩) := hS.at rfl
        simp only [execOp, Act.eval, h0]
        exact run_load_nd' w' g1 0 3 0#256 0 (-1) _ (range_row (below_all hI HG1.out))
      · refine ob_call fun a' w' hS hI hD => ⟨wanted_eq (c := true) rfl (dep_at hD 32 (by kernel_rfl)) rfl, 21, #[ndV 3 0#256 0 (-1) rA, Value.int .i64 3, Value.int .i64 2], ?_, ?_⟩
        · have h0 : a'.tmps.getD 43 undef = ndV 3 0#256 0 (-1) rA := dep_at hD 33 (by kernel_rfl)
          rw [run_call 21 _ _ rfl (enters_of Try.func21 (by kernel_rfl) rfl)]
          simp only [List.map_toArray, List.map_cons, List.map_nil, Act.eval, h0]
        · have h0 : a'.tmps.getD 43 undef = ndV 3 0#256 0 (-1) rA := dep_at hD 33 (by kernel_rfl)
          exact (rep_calls tA 3 2 (by rw [tA_size]; decide) _ _ w' (HNA.out w' hI)).mono fun e w'' ⟨⟨r, he, hk⟩, hb⟩ => ⟨_, he, ⟨r, rfl, hk.wide fun _ _ _ => trivial⟩, hb, below_more hI hI.size hb⟩
      · refine ob_call fun a' w' hS hI hD => ⟨wanted_eq (c := true) rfl (dep_at hD 32 (by kernel_rfl)) rfl, 31, #[a'.tmps.getD 44 undef], ?_, ?_⟩
        · rw [run_call 31 _ _ rfl (enters_of Try.func31 (by kernel_rfl) rfl)]
          simp only [List.map_toArray, List.map_cons, List.map_nil, Act.eval]
        · have h0 : NodeV w' (fun _ => True) (a'.tmps.getD 44 undef) (Nd.mk 3 0#256 3 2 [tA]) := dep_at hD 34 (by kernel_rfl)
          exact (check_calls _ _ _ w' h0).mono fun e w'' ⟨he, hb⟩ => ⟨_, he, congrArg (Value.int .i64) tA_rep_check, hb, below_more hI hI.size hb⟩
      · refine ob_val (fun _ => Below.refl _ _) fun a' w' hS hI hD => ⟨wanted_eq (c := true) rfl (dep_at hD 32 (by kernel_rfl)) rfl, Value.bool true, ?_, rfl⟩
        have h0 : a'.tmps.getD 45 undef = Value.int .i64 1 := dep_at hD 35 (by kernel_rfl)
        exact (run_eql_i _ _ (.tmp 45) (.const (Value.int .i64 1)) rfl _ _ _ h0 (by rfl)).trans (by simp)
      · refine ob_val (fun _ => Below.refl _ _) fun a' w' hS hI hD => ⟨rfl, Value.bool true, ?_, rfl⟩
        have h0 : a'.tmps.getD 42 undef = Value.bool true := dep_at hD 32 (by kernel_rfl)
        have h1 : a'.tmps.getD 46 undef = Value.bool true := dep_at hD 36 (by kernel_rfl)
        simp only [execOp, Act.eval, h0, h1]
        rfl
      · refine ob_val (fun _ => Below.refl _ _) fun a' w' hS hI hD => ⟨rfl, Value.bool true, ?_, rfl⟩
        have h0 : a'.tmps.getD 47 undef = Value.bool true := dep_at hD 37 (by kernel_rfl)
        exact run_val (.tmp 47) (by first | exact .inl rfl | exact .inr rfl) _ h0
      · refine ob_val (fun _ => Below.refl _ _) fun a' w' hS hI hD => ⟨wanted_eq (c := true) rfl (dep_at hD 38 (by kernel_rfl)) rfl, ndV 3 0#256 0 (-1) rA, ?_, rfl⟩
        have h0 : a'.tmps.getD 1 undef = Value.pointer (some ⟨g1, 0, none⟩) := hS.at rfl
        simp only [execOp, Act.eval, h0]
        exact run_load_nd' w' g1 0 3 0#256 0 (-1) _ (range_row (below_all hI HG1.out))
      · refine ob_call fun a' w' hS hI hD => ⟨wanted_eq (c := true) rfl (dep_at hD 38 (by kernel_rfl)) rfl, 27, #[ndV 3 0#256 0 (-1) rA], ?_, ?_⟩
        · have h0 : a'.tmps.getD 49 undef = ndV 3 0#256 0 (-1) rA := dep_at hD 39 (by kernel_rfl)
          rw [run_call 27 _ _ rfl (enters_of Try.func27 (by kernel_rfl) rfl)]
          simp only [List.map_toArray, List.map_cons, List.map_nil, Act.eval, h0]
        · have h0 : a'.tmps.getD 49 undef = ndV 3 0#256 0 (-1) rA := dep_at hD 39 (by kernel_rfl)
          exact (bytes_calls tA _ _ w' (HNA.out w' hI) (by rw [tA_size]; decide)).mono fun e w'' ⟨he, hb⟩ => ⟨_, he, congrArg setV tA_bytes, hb, below_more hI hI.size hb⟩
      · refine ob_call fun a' w' hS hI hD => ⟨wanted_eq (c := true) rfl (dep_at hD 38 (by kernel_rfl)) rfl, 34, #[Value.string { data := #[97] }], ?_, ?_⟩
        · rw [run_call 34 _ _ rfl (enters_of Try.func34 (by kernel_rfl) rfl)]
          simp only [List.map_toArray, List.map_cons, List.map_nil, Act.eval]
        · exact (rof_calls ⟨#[97]⟩ (by decide) w').mono fun e w'' ⟨he, hb⟩ => ⟨_, he, congrArg setV of_a, hb, below_more hI hI.size hb⟩
      · refine ob_val (fun _ => Below.refl _ _) fun a' w' hS hI hD => ⟨wanted_eq (c := true) rfl (dep_at hD 38 (by kernel_rfl)) rfl, Value.bool true, ?_, rfl⟩
        have h0 : a'.tmps.getD 50 undef = setV (bit 97) := dep_at hD 40 (by kernel_rfl)
        have h1 : a'.tmps.getD 51 undef = setV (bit 97) := dep_at hD 41 (by kernel_rfl)
        exact (run_eql_set (.tmp 50) (.tmp 51) _ rfl _ _ h0 h1).trans (by simp)
      · refine ob_val (fun _ => Below.refl _ _) fun a' w' hS hI hD => ⟨rfl, Value.bool true, ?_, rfl⟩
        have h0 : a'.tmps.getD 48 undef = Value.bool true := dep_at hD 38 (by kernel_rfl)
        have h1 : a'.tmps.getD 52 undef = Value.bool true := dep_at hD 42 (by kernel_rfl)
        simp only [execOp, Act.eval, h0, h1]
        rfl
      · refine ob_val (fun _ => Below.refl _ _) fun a' w' hS hI hD => ⟨rfl, Value.bool true, ?_, rfl⟩
        have h0 : a'.tmps.getD 53 undef = Value.bool true := dep_at hD 43 (by kernel_rfl)
        exact run_val (.tmp 53) (by first | exact .inl rfl | exact .inr rfl) _ h0
      · refine ob_val (fun _ => Below.refl _ _) fun a' w' hS hI hD => ⟨wanted_eq (c := true) rfl (dep_at hD 44 (by kernel_rfl)) rfl, ndV 3 0#256 0 (-1) rA, ?_, rfl⟩
        have h0 : a'.tmps.getD 1 undef = Value.pointer (some ⟨g1, 0, none⟩) := hS.at rfl
        simp only [execOp, Act.eval, h0]
        exact run_load_nd' w' g1 0 3 0#256 0 (-1) _ (range_row (below_all hI HG1.out))
      · refine ob_val (fun _ => Below.refl _ _) fun a' w' hS hI hD => ⟨wanted_eq (c := true) rfl (dep_at hD 44 (by kernel_rfl)) rfl, ndV 1 0#256 0 0 rB, ?_, rfl⟩
        have h0 : a'.tmps.getD 2 undef = Value.pointer (some ⟨g2, 0, none⟩) := hS.at rfl
        simp only [execOp, Act.eval, h0]
        exact run_load_nd' w' g2 0 1 0#256 0 0 _ (range_row (below_all hI HG2.out))
      · refine ob_new fun a' w' hS hI hD => ⟨wanted_eq (c := true) rfl (dep_at hD 44 (by kernel_rfl)) rfl, .slice (some ⟨w'.heap.size, 0, none⟩) 2 2, w'.alloc (.cells (ndC 3 0#256 0 (-1) rA ++ ndC 1 0#256 0 0 rB) 28), ?_, kids_two (a := (tA, rA)) (b := (tB, rB)) (heap_alloc_new _ _) (((HKA.out.keep hI).keep ((Below.refl _ _).alloc (Nat.le_refl _) _))) (((HKB.out.keep hI).keep ((Below.refl _ _).alloc (Nat.le_refl _) _))) trivial, (Below.refl _ _).alloc (Nat.le_refl _) _, hI.alloc hI.size _⟩
        have h0 : a'.tmps.getD 55 undef = ndV 3 0#256 0 (-1) rA := dep_at hD 45 (by kernel_rfl)
        have h1 : a'.tmps.getD 56 undef = ndV 1 0#256 0 0 rB := dep_at hD 46 (by kernel_rfl)
        simp only [execOp, Act.eval, List.map_toArray, List.map_cons, List.map_nil, h0, h1, Sem.run_bind, Sem.run_pure, Result.andThen_ok, run_build_nd2]
      · refine ob_call fun a' w' hS hI hD => ⟨wanted_eq (c := true) rfl (dep_at hD 44 (by kernel_rfl)) rfl, 18, #[a'.tmps.getD 57 undef], ?_, ?_⟩
        · rw [run_call 18 _ _ rfl (enters_of Try.func18 (by kernel_rfl) rfl)]
          simp only [List.map_toArray, List.map_cons, List.map_nil, Act.eval]
        · have h0 : Kids w' (fun _ => True) (a'.tmps.getD 57 undef) [tA, tB] := dep_at hD 47 (by kernel_rfl)
          exact (alt_calls [tA, tB] (by simp [tA_size, tB_size]) _ _ w' h0).mono fun e w'' ⟨⟨r, he, hk⟩, hb⟩ => ⟨_, he, ⟨r, rfl, hk.wide fun _ _ _ => trivial⟩, hb, below_more hI hI.size hb⟩
      · refine ob_val (fun _ => Below.refl _ _) fun a' w' hS hI hD => ?_
        have h0 : NodeV w' (fun _ => True) (a'.tmps.getD 58 undef) (Nd.mk 2 0#256 0 0 [tA, tB]) := dep_at hD 48 (by kernel_rfl)
        obtain ⟨kv, hv, hk⟩ := h0
        obtain ⟨A9, c9, rfl, _⟩ := hk.form
        exact ⟨wanted_eq (c := true) rfl (dep_at hD 44 (by kernel_rfl)) rfl, .slice A9 2 c9, run_field_kids (.tmp 58) rfl _ _ _ _ _ hv, ⟨A9, c9, rfl⟩⟩
      · refine ob_val (fun _ => Below.refl _ _) fun a' w' hS hI hD => ?_
        have h0 : ∃ A9 c9, (a'.tmps.getD 59 undef) = Value.slice A9 2 c9 := dep_at hD 49 (by kernel_rfl)
        obtain ⟨A9, c9, hv⟩ := h0
        exact ⟨wanted_eq (c := true) rfl (dep_at hD 44 (by kernel_rfl)) rfl, .int .i64 2, run_len_s _ (.tmp 59) rfl _ 2 _ hv _ Try.underlying26, rfl⟩
      · refine ob_val (fun _ => Below.refl _ _) fun a' w' hS hI hD => ⟨wanted_eq (c := true) rfl (dep_at hD 44 (by kernel_rfl)) rfl, Value.bool true, ?_, rfl⟩
        have h0 : a'.tmps.getD 60 undef = Value.int .i64 2 := dep_at hD 50 (by kernel_rfl)
        exact (run_eql_i _ _ (.tmp 60) (.const (Value.int .i64 2)) rfl _ _ _ h0 (by rfl)).trans (by simp)
      · refine ob_val (fun _ => Below.refl _ _) fun a' w' hS hI hD => ⟨rfl, Value.bool true, ?_, rfl⟩
        have h0 : a'.tmps.getD 54 undef = Value.bool true := dep_at hD 44 (by kernel_rfl)
        have h1 : a'.tmps.getD 61 undef = Value.bool true := dep_at hD 51 (by kernel_rfl)
        simp only [execOp, Act.eval, h0, h1]
        rfl
      · refine ob_val (fun _ => Below.refl _ _) fun a' w' hS hI hD => ⟨rfl, Value.bool true, ?_, rfl⟩
        have h0 : a'.tmps.getD 62 undef = Value.bool true := dep_at hD 52 (by kernel_rfl)
        exact run_val (.tmp 62) (by first | exact .inl rfl | exact .inr rfl) _ h0
      · refine ob_call fun a' w' hS hI hD => ⟨wanted_eq (c := true) rfl (dep_at hD 53 (by kernel_rfl)) rfl, 19, #[Value.slice none 0 0], ?_, ?_⟩
        · rw [run_call 19 _ _ rfl (enters_of Try.func19 (by kernel_rfl) rfl)]
          simp only [List.map_toArray, List.map_cons, List.map_nil, Act.eval]
        · exact (and_calls [] (by simp) (fun _ => True) (Value.slice none 0 0) w' (Kids.nil _ _)).mono fun e w'' ⟨⟨r, he, hk⟩, hb⟩ => ⟨_, he, ⟨r, rfl, hk.wide fun _ _ _ => trivial⟩, hb, below_more hI hI.size hb⟩
      · refine ob_val (fun _ => Below.refl _ _) fun a' w' hS hI hD => ?_
        have h0 : NodeV w' (fun _ => True) (a'.tmps.getD 64 undef) (Nd.mk 4 0#256 0 0 []) := dep_at hD 54 (by kernel_rfl)
        obtain ⟨kv, hv, hk⟩ := h0
        exact ⟨wanted_eq (c := true) rfl (dep_at hD 53 (by kernel_rfl)) rfl, .int .i64 4, run_field_op (.tmp 64) rfl _ _ _ _ _ hv, rfl⟩
      · refine ob_val (fun _ => Below.refl _ _) fun a' w' hS hI hD => ⟨wanted_eq (c := true) rfl (dep_at hD 53 (by kernel_rfl)) rfl, Value.bool true, ?_, rfl⟩
        have h0 : a'.tmps.getD 65 undef = Value.int .i64 4 := dep_at hD 55 (by kernel_rfl)
        exact (run_eql_i _ _ (.tmp 65) (.const (Value.int .i64 4)) rfl _ _ _ h0 (by rfl)).trans (by simp)
      · refine ob_val (fun _ => Below.refl _ _) fun a' w' hS hI hD => ⟨rfl, Value.bool true, ?_, rfl⟩
        have h0 : a'.tmps.getD 63 undef = Value.bool true := dep_at hD 53 (by kernel_rfl)
        have h1 : a'.tmps.getD 66 undef = Value.bool true := dep_at hD 56 (by kernel_rfl)
        simp only [execOp, Act.eval, h0, h1]
        rfl
      · refine ob_val (fun _ => Below.refl _ _) fun a' w' hS hI hD => ⟨rfl, Value.bool true, ?_, rfl⟩
        have h0 : a'.tmps.getD 67 undef = Value.bool true := dep_at hD 57 (by kernel_rfl)
        exact run_val (.tmp 67) (by first | exact .inl rfl | exact .inr rfl) _ h0
    · intro v w6 hI hT
      have h58 : v 58 = .bool true := tall_at _ _ hT 58 (by decide) (by decide)
      have HBW := Lib.hid (below_more HB5.out hz5 hI)
      clear hT hI HG1 HG2 HKA HKB HNA HNB HB5
      simp only [putAll, Act.put, List.setIfInBounds_toArray, List.set_cons_succ, List.set_cons_zero, Nat.reduceAdd, h58]
      clear h58
      go_wp2_with (fail)
      go_ret
      exact ⟨rfl, HBW.out⟩
end Go.Proofs.Ytekodfpjoehooaa.Bs
