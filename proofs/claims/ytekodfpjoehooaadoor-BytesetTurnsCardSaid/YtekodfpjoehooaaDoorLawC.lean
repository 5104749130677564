/- The walk of BytesetTells. -/
import Derived.Test.YtekodfpjoehooaaDoorLawA
import Derived.Test.YtekodfpjoehooaaDoorTurnsP
namespace Go.Proofs.YtekodfpjoehooaaDoor.Bs
open Go.RowKit Mem Reg
def tellsPs (s : BitVec 256) (x _g1 : Nat) (fb : Int) (fi : Bool) : List (Value → World → Prop) := [
  fun v _ => v = setV s,
  fun v _ => v = Value.int .u8 (x : Int),
  fun v _ => v = Value.bool (s.getLsbD x),
  fun v _ => v = setV s,
  fun v _ => v = Value.int .u8 (x : Int),
  fun v _ => v = Value.bool (s.getLsbD x),
  fun v _ => v = Value.bool true,
  fun v _ => v = Value.bool true,
  fun v _ => v = setV s,
  fun v _ => v = Value.int .i64 (countS s : Int),
  fun v _ => v = setV s,
  fun v _ => v = Value.int .i64 (countS s : Int),
  fun v _ => v = Value.bool true,
  fun v _ => v = Value.bool true,
  fun v _ => v = Value.bool true,
  fun v _ => v = Value.int .u8 fb,
  fun v _ => v = Value.int .u8 fb,
  fun v _ => v = Value.bool true,
  fun v _ => v = Value.bool true,
  fun v _ => v = Value.bool true,
  fun v _ => v = Value.bool fi,
  fun v _ => v = Value.bool fi,
  fun v _ => v = Value.bool true,
  fun v _ => v = Value.bool true,
  fun v _ => v = Value.bool true,
  fun v _ => v = setV s,
  fun v w => Row w 2 pairL v (rowsS s),
  fun v _ => v = setV s,
  fun v w => Row w 2 pairL v (rowsS s),
  fun v _ => v = Value.bool true,
  fun v _ => v = Value.bool true,
  fun v _ => v = Value.bool true,
  fun v _ => v = setV s,
  fun v _ => v = setV (~~~s),
  fun v _ => v = setV s,
  fun v _ => v = setV (~~~s),
  fun v _ => v = Value.bool true,
  fun v _ => v = Value.bool true,
  fun v _ => v = Value.bool true]
theorem tellsPs_keep (s : BitVec 256) (x g1 : Nat) (fb : Int) (fi : Bool) : PredsKeep (tellsPs s x g1 fb fi) :=
  ⟨fun _ _ _ h _ => h,
  fun _ _ _ h _ => h,
  fun _ _ _ h _ => h,
  fun _ _ _ h _ => h,
  fun _ _ _ h _ => h,
  fun _ _ _ h _ => h,
  fun _ _ _ h _ => h,
  fun _ _ _ h _ => h,
  fun _ _ _ h _ => h,
  fun _ _ _ h _ => h,
  fun _ _ _ h _ => h,
  fun _ _ _ h _ => h,
  fun _ _ _ h _ => h,
  fun _ _ _ h _ => h,
  fun _ _ _ h _ => h,
  fun _ _ _ h _ => h,
  fun _ _ _ h _ => h,
  fun _ _ _ h _ => h,
  fun _ _ _ h _ => h,
  fun _ _ _ h _ => h,
  fun _ _ _ h _ => h,
  fun _ _ _ h _ => h,
  fun _ _ _ h _ => h,
  fun _ _ _ h _ => h,
  fun _ _ _ h _ => h,
  fun _ _ _ h _ => h,
  fun _ _ _ h hE => Row.below h pairL_ne (Nat.le_refl _) hE,
  fun _ _ _ h _ => h,
  fun _ _ _ h hE => Row.below h pairL_ne (Nat.le_refl _) hE,
  fun _ _ _ h _ => h,
  fun _ _ _ h _ => h,
  fun _ _ _ h _ => h,
  fun _ _ _ h _ => h,
  fun _ _ _ h _ => h,
  fun _ _ _ h _ => h,
  fun _ _ _ h _ => h,
  fun _ _ _ h _ => h,
  fun _ _ _ h _ => h,
  fun _ _ _ h _ => h, trivial⟩
theorem rranges_row (s : BitVec 256) (w : World) : Calls Tryd.prog 17 #[setV s] w fun e w' => (∃ v, e = .returned v ∧ Row w' 2 pairL v (rowsS s)) ∧ Below w.heap.size w w' := by
  refine (rranges_calls s w).mono ?_
  rintro e w' ⟨⟨v, he, hown⟩, hb⟩
  exact ⟨⟨v, he, Row.own hown pairL_length rfl (rowsS_small s)⟩, hb⟩
theorem ranges_row (s : BitVec 256) (w : World) (hT : Tab w) : Calls Tryd.prog 16 #[setV s] w fun e w' => (∃ v, e = .returned v ∧ Row w' 2 pairL v (rowsS s)) ∧ Below w.heap.size w w' := by
  refine (ranges_calls s w hT).mono ?_
  rintro e w' ⟨v, he, hown, hb⟩
  exact ⟨⟨v, he, Row.own hown pairL_length rfl (rowsS_small s)⟩, hb⟩
set_option maxHeartbeats 3200000 in
set_option maxRecDepth 100000 in
theorem tells_calls (s : BitVec 256) (x : Nat) (f : Int) (hx : x < 256) (h0 : -9223372036854775808 ≤ f) (h1 : f ≤ 9223372036854775807) (w : World) (hT : Tab w) :
    Calls Tryd.prog 3 #[setV s, .int .u8 x, .int .i64 f] w fun e w' => e = .returned (.bool true) ∧ Below w.heap.size w w' := by
  obtain ⟨fb, fi, hfv⟩ : ∃ (fb : Int) (fi : Bool), firstV (firstF s f.toNat) = .tuple #[.int .u8 fb, .bool fi] := ⟨_, _, rfl⟩
  have HF1 : Hid (∀ w, Tab w → Calls Tryd.prog 9 #[setV s, .int .i64 f] w fun e w' => e = .returned (.tuple #[.int .u8 fb, .bool fi]) ∧ Below w.heap.size w w') := Lib.hid fun w hT => by
    refine (first_calls s f h0 h1 w hT).mono ?_
    rintro e w' ⟨⟨o, ho, he⟩, hb⟩
    exact ⟨by rw [he, firstF_eq ho, hfv], hb⟩
  have HF2 : Hid (∀ w, Calls Tryd.prog 10 #[setV s, .int .i64 f] w fun e w' => e = .returned (.tuple #[.int .u8 fb, .bool fi]) ∧ Below w.heap.size w w') := Lib.hid fun w => by
    refine (rfirst_calls s f h0 h1 w).mono ?_
    rintro e w' ⟨⟨o, ho, he⟩, hb⟩
    exact ⟨by rw [he, firstF_eq ho, hfv], hb⟩
  clear hfv
  go_enter Tryd.func3, Tryd.ntmps3
  go_wp2_with (first | (refine box_set rfl (.tmp 0) rfl s rfl ?_) | (go_at_call 8; refine (awake_calls _ (hT.below ((Below.refl _ _).alloc (Nat.le_refl _) _))).mono ?_; rintro e w1 ⟨rfl, hb1⟩; have HG1 := Lib.hid (below_all hb1 (heap_alloc_new w (.cells (setC s) 24))); have HB1 := Lib.hid (below_more ((Below.refl w.heap.size w).alloc (Nat.le_refl _) (.cells (setC s) 24)) (by simp) hb1)) |
    (refine ld_set rfl (.tmp 3) rfl _ rfl _ _ HG1.out ?_) | (go_at_call 9; refine (HF1.out _ (hT.below HB1.out)).mono ?_; rintro e w2 ⟨rfl, hb2⟩; have HG2 := Lib.hid (below_all hb2 HG1.out); have HB2 := Lib.hid (below_more HB1.out HB1.out.size hb2)) |
    (refine ld_set rfl (.tmp 3) rfl _ rfl _ _ HG2.out ?_) | (go_at_call 10; refine (HF2.out _).mono ?_; rintro e w3 ⟨rfl, hb3⟩; have HG3 := Lib.hid (below_all hb3 HG2.out); have HB3 := Lib.hid (below_more HB2.out HB2.out.size hb3)))
  have HT3 := Lib.hid (hT.below HB3.out)
  clear hb1 hb2 hb3 HG1 HG2 HB1 HB2 HF1 HF2 hT
  generalize w.heap.size = g1 at HG3 ⊢
  refine region_all (by kernel_rfl) (fun w' => Below w3.heap.size w3 w') (fun w1 w2 => Below w1.heap.size w1 w2) (predsT (tellsPs s x g1 fb fi)) (by kernel_rfl) (by kernel_rfl) (by kernel_rfl) (preds_keep _ (tellsPs_keep s x g1 fb fi)) (Below.refl _ _).drew ?_ ?_
  · refine ⟨?_, ?_, ?_, ?_, ?_, ?_, ?_, ?_, ?_, ?_, ?_, ?_, ?_, ?_, ?_, ?_, ?_, ?_, ?_, ?_, ?_, ?_, ?_, ?_, ?_, ?_, ?_, ?_, ?_, ?_, ?_, ?_, ?_, ?_, ?_, ?_, ?_, ?_, ?_, trivial⟩
    · refine ob_val (fun _ => Below.refl _ _) fun a' w' hS hI hD => ⟨rfl, setV s, ?_, rfl⟩
      have h0 : a'.tmps.getD 3 undef = Value.pointer (some ⟨g1, 0, none⟩) := hS.at rfl
      simp only [execOp, Act.eval, h0]
      exact run_load_set w' g1 0 s (range_row (below_all hI HG3.out))
    · refine ob_val (fun _ => Below.refl _ _) fun a' w' hS hI hD => ⟨rfl, Value.int .u8 (x : Int), ?_, rfl⟩
      have h0 : a'.tmps.getD 1 undef = Value.int .u8 (x : Int) := hS.at rfl
      simp only [execOp, Act.eval, h0]
      rfl
    · refine ob_call fun a' w' hS hI hD => ⟨rfl, 11, #[setV s, .int .u8 x], ?_, ?_⟩
      · have h0 : a'.tmps.getD 27 undef = setV s := dep_at hD 0 (by kernel_rfl)
        have h1 : a'.tmps.getD 28 undef = Value.int .u8 (x : Int) := dep_at hD 1 (by kernel_rfl)
        rw [run_call 11 _ _ rfl (enters_of Tryd.func11 (by kernel_rfl) rfl)]
        simp only [List.map_toArray, List.map_cons, List.map_nil, Act.eval, h0, h1]
      · exact (has_calls s x hx w').mono fun e w'' ⟨he, hb⟩ => ⟨_, he, rfl, hb, below_more hI hI.size hb⟩
    · refine ob_val (fun _ => Below.refl _ _) fun a' w' hS hI hD => ⟨rfl, setV s, ?_, rfl⟩
      have h0 : a'.tmps.getD 3 undef = Value.pointer (some ⟨g1, 0, none⟩) := hS.at rfl
      simp only [execOp, Act.eval, h0]
      exact run_load_set w' g1 0 s (range_row (below_all hI HG3.out))
    · refine ob_val (fun _ => Below.refl _ _) fun a' w' hS hI hD => ⟨rfl, Value.int .u8 (x : Int), ?_, rfl⟩
      have h0 : a'.tmps.getD 1 undef = Value.int .u8 (x : Int) := hS.at rfl
      simp only [execOp, Act.eval, h0]
      rfl
    · refine ob_call fun a' w' hS hI hD => ⟨rfl, 12, #[setV s, .int .u8 x], ?_, ?_⟩
      · have h0 : a'.tmps.getD 30 undef = setV s := dep_at hD 3 (by kernel_rfl)
        have h1 : a'.tmps.getD 31 undef = Value.int .u8 (x : Int) := dep_at hD 4 (by kernel_rfl)
        rw [run_call 12 _ _ rfl (enters_of Tryd.func12 (by kernel_rfl) rfl)]
        simp only [List.map_toArray, List.map_cons, List.map_nil, Act.eval, h0, h1]
      · exact (rhas_calls s x hx w').mono fun e w'' ⟨he, hb⟩ => ⟨_, he, rfl, hb, below_more hI hI.size hb⟩
    · refine ob_val (fun _ => Below.refl _ _) fun a' w' hS hI hD => ⟨rfl, Value.bool true, ?_, rfl⟩
      have h0 : a'.tmps.getD 29 undef = Value.bool (s.getLsbD x) := dep_at hD 2 (by kernel_rfl)
      have h1 : a'.tmps.getD 32 undef = Value.bool (s.getLsbD x) := dep_at hD 5 (by kernel_rfl)
      simp only [execOp, Act.eval, h0, h1]
      clear h0 h1
      go_simp
    · refine ob_val (fun _ => Below.refl _ _) fun a' w' hS hI hD => ⟨rfl, Value.bool true, ?_, rfl⟩
      have h0 : a'.tmps.getD 33 undef = Value.bool true := dep_at hD 6 (by kernel_rfl)
      simp only [execOp, Act.eval, h0]
      rfl
    · refine ob_val (fun _ => Below.refl _ _) fun a' w' hS hI hD => ⟨wanted_at rfl (dep_at hD 7 (by kernel_rfl)), setV s, ?_, rfl⟩
      have h0 : a'.tmps.getD 3 undef = Value.pointer (some ⟨g1, 0, none⟩) := hS.at rfl
      simp only [execOp, Act.eval, h0]
      exact run_load_set w' g1 0 s (range_row (below_all hI HG3.out))
    · refine ob_call fun a' w' hS hI hD => ⟨wanted_at rfl (dep_at hD 7 (by kernel_rfl)), 13, #[setV s], ?_, ?_⟩
      · have h0 : a'.tmps.getD 35 undef = setV s := dep_at hD 8 (by kernel_rfl)
        rw [run_call 13 _ _ rfl (enters_of Tryd.func13 (by kernel_rfl) rfl)]
        simp only [List.map_toArray, List.map_cons, List.map_nil, Act.eval, h0]
      · exact (count_calls s w').mono fun e w'' ⟨he, hb⟩ => ⟨_, he, rfl, hb, below_more hI hI.size hb⟩
    · refine ob_val (fun _ => Below.refl _ _) fun a' w' hS hI hD => ⟨wanted_at rfl (dep_at hD 7 (by kernel_rfl)), setV s, ?_, rfl⟩
      have h0 : a'.tmps.getD 3 undef = Value.pointer (some ⟨g1, 0, none⟩) := hS.at rfl
      simp only [execOp, Act.eval, h0]
      exact run_load_set w' g1 0 s (range_row (below_all hI HG3.out))
    · refine ob_call fun a' w' hS hI hD => ⟨wanted_at rfl (dep_at hD 7 (by kernel_rfl)), 14, #[setV s], ?_, ?_⟩
      · have h0 : a'.tmps.getD 37 undef = setV s := dep_at hD 10 (by kernel_rfl)
        rw [run_call 14 _ _ rfl (enters_of Tryd.func14 (by kernel_rfl) rfl)]
        simp only [List.map_toArray, List.map_cons, List.map_nil, Act.eval, h0]
      · exact (rcount_calls s w').mono fun e w'' ⟨he, hb⟩ => ⟨_, he, rfl, hb, below_more hI hI.size hb⟩
    · refine ob_val (fun _ => Below.refl _ _) fun a' w' hS hI hD => ⟨wanted_at rfl (dep_at hD 7 (by kernel_rfl)), Value.bool true, ?_, rfl⟩
      have h0 : a'.tmps.getD 36 undef = Value.int .i64 (countS s : Int) := dep_at hD 9 (by kernel_rfl)
      have h1 : a'.tmps.getD 38 undef = Value.int .i64 (countS s : Int) := dep_at hD 11 (by kernel_rfl)
      simp only [execOp, Act.eval, h0, h1]
      clear h0 h1
      go_simp
    · refine ob_val (fun _ => Below.refl _ _) fun a' w' hS hI hD => ⟨rfl, Value.bool true, ?_, rfl⟩
      have h0 : a'.tmps.getD 34 undef = Value.bool true := dep_at hD 7 (by kernel_rfl)
      have h1 : a'.tmps.getD 39 undef = Value.bool true := dep_at hD 12 (by kernel_rfl)
      simp only [execOp, Act.eval, h0, h1]
      rfl
    · refine ob_val (fun _ => Below.refl _ _) fun a' w' hS hI hD => ⟨rfl, Value.bool true, ?_, rfl⟩
      have h0 : a'.tmps.getD 40 undef = Value.bool true := dep_at hD 13 (by kernel_rfl)
      simp only [execOp, Act.eval, h0]
      rfl
    · refine ob_val (fun _ => Below.refl _ _) fun a' w' hS hI hD => ⟨wanted_at rfl (dep_at hD 14 (by kernel_rfl)), Value.int .u8 fb, ?_, rfl⟩
      have h0 : a'.tmps.getD 8 undef = Value.int .u8 fb := hS.at rfl
      simp only [execOp, Act.eval, h0]
      rfl
    · refine ob_val (fun _ => Below.refl _ _) fun a' w' hS hI hD => ⟨wanted_at rfl (dep_at hD 14 (by kernel_rfl)), Value.int .u8 fb, ?_, rfl⟩
      have h0 : a'.tmps.getD 10 undef = Value.int .u8 fb := hS.at rfl
      simp only [execOp, Act.eval, h0]
      rfl
    · refine ob_val (fun _ => Below.refl _ _) fun a' w' hS hI hD => ⟨wanted_at rfl (dep_at hD 14 (by kernel_rfl)), Value.bool true, ?_, rfl⟩
      have h0 : a'.tmps.getD 42 undef = Value.int .u8 fb := dep_at hD 15 (by kernel_rfl)
      have h1 : a'.tmps.getD 43 undef = Value.int .u8 fb := dep_at hD 16 (by kernel_rfl)
      simp only [execOp, Act.eval, h0, h1]
      clear h0 h1
      go_simp
    · refine ob_val (fun _ => Below.refl _ _) fun a' w' hS hI hD => ⟨rfl, Value.bool true, ?_, rfl⟩
      have h0 : a'.tmps.getD 41 undef = Value.bool true := dep_at hD 14 (by kernel_rfl)
      have h1 : a'.tmps.getD 44 undef = Value.bool true := dep_at hD 17 (by kernel_rfl)
      simp only [execOp, Act.eval, h0, h1]
      rfl
    · refine ob_val (fun _ => Below.refl _ _) fun a' w' hS hI hD => ⟨rfl, Value.bool true, ?_, rfl⟩
      have h0 : a'.tmps.getD 45 undef = Value.bool true := dep_at hD 18 (by kernel_rfl)
      simp only [execOp, Act.eval, h0]
      rfl
    · refine ob_val (fun _ => Below.refl _ _) fun a' w' hS hI hD => ⟨wanted_at rfl (dep_at hD 19 (by kernel_rfl)), Value.bool fi, ?_, rfl⟩
      have h0 : a'.tmps.getD 9 undef = Value.bool fi := hS.at rfl
      simp only [execOp, Act.eval, h0]
      rfl
    · refine ob_val (fun _ => Below.refl _ _) fun a' w' hS hI hD => ⟨wanted_at rfl (dep_at hD 19 (by kernel_rfl)), Value.bool fi, ?_, rfl⟩
      have h0 : a'.tmps.getD 11 undef = Value.bool fi := hS.at rfl
      simp only [execOp, Act.eval, h0]
      rfl
    · refine ob_val (fun _ => Below.refl _ _) fun a' w' hS hI hD => ⟨wanted_at rfl (dep_at hD 19 (by kernel_rfl)), Value.bool true, ?_, rfl⟩
      have h0 : a'.tmps.getD 47 undef = Value.bool fi := dep_at hD 20 (by kernel_rfl)
      have h1 : a'.tmps.getD 48 undef = Value.bool fi := dep_at hD 21 (by kernel_rfl)
      simp only [execOp, Act.eval, h0, h1]
      clear h0 h1
      go_simp
    · refine ob_val (fun _ => Below.refl _ _) fun a' w' hS hI hD => ⟨rfl, Value.bool true, ?_, rfl⟩
      have h0 : a'.tmps.getD 46 undef = Value.bool true := dep_at hD 19 (by kernel_rfl)
      have h1 : a'.tmps.getD 49 undef = Value.bool true := dep_at hD 22 (by kernel_rfl)
      simp only [execOp, Act.eval, h0, h1]
      rfl
    · refine ob_val (fun _ => Below.refl _ _) fun a' w' hS hI hD => ⟨rfl, Value.bool true, ?_, rfl⟩
      have h0 : a'.tmps.getD 50 undef = Value.bool true := dep_at hD 23 (by kernel_rfl)
      simp only [execOp, Act.eval, h0]
      rfl
    · refine ob_val (fun _ => Below.refl _ _) fun a' w' hS hI hD => ⟨wanted_at rfl (dep_at hD 24 (by kernel_rfl)), setV s, ?_, rfl⟩
      have h0 : a'.tmps.getD 3 undef = Value.pointer (some ⟨g1, 0, none⟩) := hS.at rfl
      simp only [execOp, Act.eval, h0]
      exact run_load_set w' g1 0 s (range_row (below_all hI HG3.out))
    · refine ob_call fun a' w' hS hI hD => ⟨wanted_at rfl (dep_at hD 24 (by kernel_rfl)), 16, #[setV s], ?_, ?_⟩
      · have h0 : a'.tmps.getD 52 undef = setV s := dep_at hD 25 (by kernel_rfl)
        rw [run_call 16 _ _ rfl (enters_of Tryd.func16 (by kernel_rfl) rfl)]
        simp only [List.map_toArray, List.map_cons, List.map_nil, Act.eval, h0]
      · exact (ranges_row s w' (HT3.out.below hI)).mono fun e w'' ⟨⟨v, he, hv⟩, hb⟩ => ⟨v, he, hv, hb, below_more hI hI.size hb⟩
    · refine ob_val (fun _ => Below.refl _ _) fun a' w' hS hI hD => ⟨wanted_at rfl (dep_at hD 24 (by kernel_rfl)), setV s, ?_, rfl⟩
      have h0 : a'.tmps.getD 3 undef = Value.pointer (some ⟨g1, 0, none⟩) := hS.at rfl
      simp only [execOp, Act.eval, h0]
      exact run_load_set w' g1 0 s (range_row (below_all hI HG3.out))
    · refine ob_call fun a' w' hS hI hD => ⟨wanted_at rfl (dep_at hD 24 (by kernel_rfl)), 17, #[setV s], ?_, ?_⟩
      · have h0 : a'.tmps.getD 54 undef = setV s := dep_at hD 27 (by kernel_rfl)
        rw [run_call 17 _ _ rfl (enters_of Tryd.func17 (by kernel_rfl) rfl)]
        simp only [List.map_toArray, List.map_cons, List.map_nil, Act.eval, h0]
      · exact (rranges_row s w').mono fun e w'' ⟨⟨v, he, hv⟩, hb⟩ => ⟨v, he, hv, hb, below_more hI hI.size hb⟩
    · refine ob_call fun a' w' hS hI hD => ⟨wanted_at rfl (dep_at hD 24 (by kernel_rfl)), 15, #[a'.tmps.getD 53 undef, a'.tmps.getD 55 undef], ?_, ?_⟩
      · rw [run_call 15 _ _ rfl (enters_of Tryd.func15 (by kernel_rfl) rfl)]
        simp only [List.map_toArray, List.map_cons, List.map_nil, Act.eval]
      · have h0 : Row w' 2 pairL (a'.tmps.getD 53 undef) (rowsS s) := dep_at hD 26 (by kernel_rfl)
        have h1 : Row w' 2 pairL (a'.tmps.getD 55 undef) (rowsS s) := dep_at hD 28 (by kernel_rfl)
        have hc := rowsEq_calls _ _ _ _ w' h0 h1
        rw [beq_self_eq_true] at hc
        exact hc.mono fun e w'' ⟨he, hb⟩ => ⟨_, he, rfl, hb, below_more hI hI.size hb⟩
    · refine ob_val (fun _ => Below.refl _ _) fun a' w' hS hI hD => ⟨rfl, Value.bool true, ?_, rfl⟩
      have h0 : a'.tmps.getD 51 undef = Value.bool true := dep_at hD 24 (by kernel_rfl)
      have h1 : a'.tmps.getD 56 undef = Value.bool true := dep_at hD 29 (by kernel_rfl)
      simp only [execOp, Act.eval, h0, h1]
      rfl
    · refine ob_val (fun _ => Below.refl _ _) fun a' w' hS hI hD => ⟨rfl, Value.bool true, ?_, rfl⟩
      have h0 : a'.tmps.getD 57 undef = Value.bool true := dep_at hD 30 (by kernel_rfl)
      simp only [execOp, Act.eval, h0]
      rfl
    · refine ob_val (fun _ => Below.refl _ _) fun a' w' hS hI hD => ⟨wanted_at rfl (dep_at hD 31 (by kernel_rfl)), setV s, ?_, rfl⟩
      have h0 : a'.tmps.getD 3 undef = Value.pointer (some ⟨g1, 0, none⟩) := hS.at rfl
      simp only [execOp, Act.eval, h0]
      exact run_load_set w' g1 0 s (range_row (below_all hI HG3.out))
    · refine ob_call fun a' w' hS hI hD => ⟨wanted_at rfl (dep_at hD 31 (by kernel_rfl)), 18, #[setV s], ?_, ?_⟩
      · have h0 : a'.tmps.getD 59 undef = setV s := dep_at hD 32 (by kernel_rfl)
        rw [run_call 18 _ _ rfl (enters_of Tryd.func18 (by kernel_rfl) rfl)]
        simp only [List.map_toArray, List.map_cons, List.map_nil, Act.eval, h0]
      · exact (not_calls s w').mono fun e w'' ⟨he, hb⟩ => ⟨_, he, rfl, hb, below_more hI hI.size hb⟩
    · refine ob_val (fun _ => Below.refl _ _) fun a' w' hS hI hD => ⟨wanted_at rfl (dep_at hD 31 (by kernel_rfl)), setV s, ?_, rfl⟩
      have h0 : a'.tmps.getD 3 undef = Value.pointer (some ⟨g1, 0, none⟩) := hS.at rfl
      simp only [execOp, Act.eval, h0]
      exact run_load_set w' g1 0 s (range_row (below_all hI HG3.out))
    · refine ob_call fun a' w' hS hI hD => ⟨wanted_at rfl (dep_at hD 31 (by kernel_rfl)), 19, #[setV s], ?_, ?_⟩
      · have h0 : a'.tmps.getD 61 undef = setV s := dep_at hD 34 (by kernel_rfl)
        rw [run_call 19 _ _ rfl (enters_of Tryd.func19 (by kernel_rfl) rfl)]
        simp only [List.map_toArray, List.map_cons, List.map_nil, Act.eval, h0]
      · exact (rnot_calls s w').mono fun e w'' ⟨he, hb⟩ => ⟨_, he, rfl, hb, below_more hI hI.size hb⟩
    · refine ob_val (fun _ => Below.refl _ _) fun a' w' hS hI hD => ⟨wanted_at rfl (dep_at hD 31 (by kernel_rfl)), Value.bool true, ?_, rfl⟩
      have h0 : a'.tmps.getD 60 undef = setV (~~~s) := dep_at hD 33 (by kernel_rfl)
      have h1 : a'.tmps.getD 62 undef = setV (~~~s) := dep_at hD 35 (by kernel_rfl)
      simp only [execOp, Act.eval, h0, h1, Sem.run_bind, Sem.run_pure, Result.andThen_ok, eqGuard_set, eql_set, beq_self_eq_true]
    · refine ob_val (fun _ => Below.refl _ _) fun a' w' hS hI hD => ⟨rfl, Value.bool true, ?_, rfl⟩
      have h0 : a'.tmps.getD 58 undef = Value.bool true := dep_at hD 31 (by kernel_rfl)
      have h1 : a'.tmps.getD 63 undef = Value.bool true := dep_at hD 36 (by kernel_rfl)
      simp only [execOp, Act.eval, h0, h1]
      rfl
    · refine ob_val (fun _ => Below.refl _ _) fun a' w' hS hI hD => ⟨rfl, Value.bool true, ?_, rfl⟩
      have h0 : a'.tmps.getD 64 undef = Value.bool true := dep_at hD 37 (by kernel_rfl)
      simp only [execOp, Act.eval, h0]
      rfl
  · intro v w' hI hT
    have h38 : v 38 = .bool true := tall_at _ _ hT 38 (by decide) (by decide)
    have H38 := Lib.hid h38
    have HBW := Lib.hid (below_more HB3.out HB3.out.size hI)
    clear h38 hT HB3 HG3 hI
    simp only [putAll, Act.put, List.setIfInBounds_toArray, List.set_cons_succ, List.set_cons_zero, Nat.reduceAdd]
    go_wp2_with (fail)
    go_ret
    exact ⟨by rw [H38.out]; rfl, HBW.out⟩
end Go.Proofs.YtekodfpjoehooaaDoor.Bs
