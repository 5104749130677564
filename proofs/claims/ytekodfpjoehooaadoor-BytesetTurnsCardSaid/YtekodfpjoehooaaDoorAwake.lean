/- The walk of awake. -/
import Derived.Test.YtekodfpjoehooaaDoorSetW13
import Derived.Test.YtekodfpjoehooaaDoorSetW14
import Derived.Test.YtekodfpjoehooaaDoorSetW9
namespace Go.Proofs.YtekodfpjoehooaaDoor.Bs
open Go.RowKit Mem Reg
def sA : BitVec 256 := unionS [ofS [97, 99, 101], rangeS 98 98]
theorem sA_rows : rowsS sA = [(97, 99), (101, 101)] := by kernel_rfl
theorem sA_count : countS sA = 4 := by kernel_rfl
theorem sA_not : countS (~~~sA) = 252 := by kernel_rfl
theorem sA_all : countS (interS []) = 256 := by kernel_rfl
theorem sA_has : sA.getLsbD 97 = true := by kernel_rfl
theorem sA_inter : interS [sA, ofS [97, 120]] = ofS [97] := by kernel_rfl
theorem sA_first : firstF sA 100 = some 101 := by kernel_rfl
theorem sA_cut : cutS [sA] = [~~~sA, sA] := by kernel_rfl
theorem sets_one {w : World} {g ty c : Nat} {s : BitVec 256} (h : w.heap[g]? = some (.cells (setC s) ty (0, 0))) : Sets w (.slice (some ⟨g, 0, none⟩) 1 c) [s] := by
  refine ⟨some ⟨g, 0, none⟩, c, rfl, by simp, fun _ => ⟨g, 0, rfl, fun i x hx => ?_⟩⟩
  match i, hx with
  | 0, hx =>
    cases hx
    simpa using range_row h
  | i + 1, hx => simp at hx
theorem ace_calls (w : World) : Calls Tryd.prog 22 #[.string { data := #[97, 99, 101] }] w fun e w' => e = .returned (setV (ofS [97, 99, 101])) ∧ Below w.heap.size w w' :=
  of_calls { data := #[97, 99, 101] } (by decide) w
theorem b_calls (w : World) : Calls Tryd.prog 20 #[.int .u8 98, .int .u8 98] w fun e w' => e = .returned (setV (rangeS 98 98)) ∧ Below w.heap.size w w' :=
  range_calls 98 98 (by decide) (by decide) w
theorem sA_union (v : Value) (w : World) (h : Sets w v [ofS [97, 99, 101], rangeS 98 98]) : Calls Tryd.prog 24 #[v] w fun e w' => e = .returned (setV sA) ∧ Below w.heap.size w w' := union_calls v _ w h
theorem sA_first_calls (w : World) (hT : Tab w) : Calls Tryd.prog 9 #[setV sA, .int .i64 100] w fun e w' => e = .returned (.tuple #[.int .u8 101, .bool true]) ∧ Below w.heap.size w w' := by
  have h := first_calls' sA 100 (by decide) w hT
  rw [sA_first] at h
  exact h
theorem sA_cut_calls (v : Value) (w : World) (h : Sets w v [sA]) (hT : Tab w) : Calls Tryd.prog 29 #[v] w fun e w' => (∃ r, e = .returned r ∧ w'.ownsRow w.heap.size 24 4 r 2 (flat setL [~~~sA, sA])) ∧ Below w.heap.size w w' := by
  have h := cut_calls v [sA] w h hT
  rw [sA_cut] at h
  exact h
/-- what each operation tells, of a list -/
def predsT (Ps : List (Value → World → Prop)) (i : Nat) (v : Value) (w : World) : Prop := (Ps.getD i fun _ _ => False) v w
def PredsKeep : List (Value → World → Prop) → Prop
  | [] => True
  | p :: r => (∀ v w1 w2, p v w1 → Below w1.heap.size w1 w2 → p v w2) ∧ PredsKeep r
theorem preds_keep (Ps : List (Value → World → Prop)) (h : PredsKeep Ps) : ∀ i v w1 w2, predsT Ps i v w1 → Below w1.heap.size w1 w2 → predsT Ps i v w2 := by
  induction Ps with
  | nil => intro i v w1 w2 h; exact h.elim
  | cons p r ih =>
    intro i v w1 w2 hp hb
    cases i with
    | zero => exact h.1 v w1 w2 hp hb
    | succ i => exact ih h.2 i v w1 w2 hp hb
theorem dep_at {ops : Array Oper} {T : Nat → Value → World → Prop} {a : Act} {w : World} {ks : List Nat} (h : DepAll ops T a w ks) (k : Nat) (hk : ks.contains k = true) : T k (slotV ops a k) w := by
  induction ks with
  | nil => simp at hk
  | cons x r ih =>
    by_cases hx : k = x
    · subst hx; exact h.1
    · refine ih h.2 ?_
      simpa [hx] using hk
theorem wanted_at {ops : Array Oper} {o : Oper} {a : Act} {k : Nat} (hg : o.guard = some (k, true)) (h : slotV ops a k = .bool true) : Region.wanted o (yielded ops a.tmps) = true := by
  unfold Region.wanted
  rw [hg]
  unfold slotV at h
  unfold yielded
  cases hd : (ops[k]?).bind (·.dst) with
  | none => rw [hd] at h; cases h
  | some d =>
    rw [hd] at h
    have h : a.tmps.getD d undef = .bool true := h
    rw [Array.getD_eq_getD_getElem?] at h
    cases ht : a.tmps[d]? with
    | none => rw [ht] at h; cases h
    | some v => rw [ht] at h; simp only [Option.getD_some] at h; subst h; simp [hd, ht]
theorem tall_at {T : Nat → Value → World → Prop} {v : Nat → Value} {w : World} : ∀ (n i : Nat), TAll T v w n i → ∀ j, i ≤ j → j < i + n → T j (v j) w
  | 0, _, _, _, _, _ => by omega
  | n + 1, i, h, j, h1, h2 => by
    by_cases hj : i = j
    · subst hj; exact h.1
    · exact tall_at n (i + 1) h.2 j (by omega) (by omega)
theorem run_build_pairs (w : World) : (Instr.buildSlice 31 2 #[(0, .agg #[.int .u8 97, .int .u8 99]), (1, .agg #[.int .u8 101, .int .u8 101])]).run Tryd.prog w = .ok (.slice (some ⟨w.heap.size, 0, none⟩) 2 2) (w.alloc (.cells #[.int .u8 97, .int .u8 99, .int .u8 101, .int .u8 101] 44)) := by
  obtain ⟨i0, hi, hz0, hz1, hz2⟩ := info_parts infoPair
  refine run_buildSlice w 31 44 2 _ #[.int .u8 97, .int .u8 99, .int .u8 101, .int .u8 101] i0 _ undPairs hi hz0 (by rw [hz1]; decide) (by rw [hz1]; decide) ?_
  simp only [hz1]
  kernel_rfl
theorem pairs_two {w : World} {g ty c : Nat} (h : w.heap[g]? = some (.cells #[.int .u8 97, .int .u8 99, .int .u8 101, .int .u8 101] ty (0, 0))) : Row w 2 pairL (.slice (some ⟨g, 0, none⟩) 2 c) [(97, 99), (101, 101)] := by
  refine ⟨some ⟨g, 0, none⟩, c, rfl, by simp, fun _ => ⟨g, 0, rfl, fun i x hx => ?_⟩⟩
  have h0 := range_row h
  intro j v hj
  rw [Nat.zero_add]
  match i, hx, j, hj with
  | 0, hx, 0, hj => cases hx; cases hj; exact h0 0 _ rfl
  | 0, hx, 1, hj => cases hx; cases hj; exact h0 1 _ rfl
  | 0, hx, j + 2, hj => cases hx; simp [pairL] at hj
  | 1, hx, 0, hj => cases hx; cases hj; exact h0 2 _ rfl
  | 1, hx, 1, hj => cases hx; cases hj; exact h0 3 _ rfl
  | 1, hx, j + 2, hj => cases hx; simp [pairL] at hj
  | i + 2, hx, _, _ => simp at hx
theorem sA_ranges_calls (w : World) (hT : Tab w) : Calls Tryd.prog 16 #[setV sA] w fun e w' => (∃ v, e = .returned v ∧ Row w' 2 pairL v [(97, 99), (101, 101)]) ∧ Below w.heap.size w w' := by
  refine (ranges_calls sA w hT).mono ?_
  rintro e w' ⟨v, he, hown, hb⟩
  rw [sA_rows] at hown
  exact ⟨⟨v, he, Row.own hown pairL_length rfl (by simp)⟩, hb⟩
def awakePs (_g1 g4 c4 : Nat) : List (Value → World → Prop) := [
  fun v _ => v = setV sA,
  fun v w => Row w 2 pairL v [(97, 99), (101, 101)],
  fun v _ => v = Value.agg #[.int .u8 97, .int .u8 99],
  fun v _ => v = Value.agg #[.int .u8 101, .int .u8 101],
  fun v w => Row w 2 pairL v [(97, 99), (101, 101)],
  fun v _ => v = Value.bool true,
  fun v _ => v = Value.bool true,
  fun v _ => v = setV sA,
  fun v _ => v = Value.bool true,
  fun v _ => v = Value.bool true,
  fun v _ => v = Value.bool true,
  fun v _ => v = setV sA,
  fun v _ => v = Value.int .i64 4,
  fun v _ => v = Value.bool true,
  fun v _ => v = Value.bool true,
  fun v _ => v = Value.bool true,
  fun v _ => v = Value.int .u8 101,
  fun v _ => v = Value.bool true,
  fun v _ => v = Value.bool true,
  fun v _ => v = Value.bool true,
  fun v _ => v = Value.bool true,
  fun v _ => v = Value.bool true,
  fun v _ => v = Value.bool true,
  fun v _ => v = setV sA,
  fun v _ => v = setV (~~~sA),
  fun v _ => v = Value.int .i64 252,
  fun v _ => v = Value.bool true,
  fun v _ => v = Value.bool true,
  fun v _ => v = Value.bool true,
  fun v _ => v = setV (interS []),
  fun v _ => v = Value.int .i64 256,
  fun v _ => v = Value.bool true,
  fun v _ => v = Value.bool true,
  fun v _ => v = Value.bool true,
  fun v _ => v = setV sA,
  fun v _ => v = setV (ofS [97, 120]),
  fun v w => Sets w v [sA, ofS [97, 120]],
  fun v _ => v = setV (ofS [97]),
  fun v _ => v = setV (ofS [97]),
  fun v _ => v = Value.bool true,
  fun v _ => v = Value.bool true,
  fun v _ => v = Value.bool true,
  fun v _ => v = Value.slice (some ⟨g4, 0, none⟩) 2 c4,
  fun v _ => v = Value.int .i64 2,
  fun v _ => v = Value.bool true,
  fun v _ => v = Value.bool true,
  fun v _ => v = Value.bool true,
  fun v _ => v = Value.slice (some ⟨g4, 0, none⟩) 2 c4,
  fun v _ => v = Value.pointer (some ⟨g4, 4, none⟩),
  fun v _ => v = setV sA,
  fun v _ => v = setV sA,
  fun v _ => v = Value.bool true,
  fun v _ => v = Value.bool true,
  fun v _ => v = Value.bool true]
theorem awakePs_keep (g1 g4 c4 : Nat) : PredsKeep (awakePs g1 g4 c4) :=
  ⟨fun _ _ _ h _ => h,
  fun _ _ _ h hE => Row.below h pairL_ne (Nat.le_refl _) hE,
  fun _ _ _ h _ => h,
  fun _ _ _ h _ => h,
  fun _ _ _ h hE => Row.below h pairL_ne (Nat.le_refl _) hE,
  fun _ _ _ h _ => h,
  fun _ _ _ h _ => h,
  fun _ _ _ h _ => h,
  fun _ _ _ h _ => h,
  fun _ _ _ h _ => h,
  fun _ _ _ h _ => h,
  fun _ _ _ h _ => h,
  fun _ _ _ h _ => h,
  fun _ _ _ h _ => h,
  fun _ _ _ h _ => h,
  fun _ _ _ h _ => h,
  fun _ _ _ h _ => h,
  fun _ _ _ h _ => h,
  fun _ _ _ h _ => h,
  fun _ _ _ h _ => h,
  fun _ _ _ h _ => h,
  fun _ _ _ h _ => h,
  fun _ _ _ h _ => h,
  fun _ _ _ h _ => h,
  fun _ _ _ h _ => h,
  fun _ _ _ h _ => h,
  fun _ _ _ h _ => h,
  fun _ _ _ h _ => h,
  fun _ _ _ h _ => h,
  fun _ _ _ h _ => h,
  fun _ _ _ h _ => h,
  fun _ _ _ h _ => h,
  fun _ _ _ h _ => h,
  fun _ _ _ h _ => h,
  fun _ _ _ h _ => h,
  fun _ _ _ h _ => h,
  fun _ _ _ h hE => Row.below h setC_ne (Nat.le_refl _) hE,
  fun _ _ _ h _ => h,
  fun _ _ _ h _ => h,
  fun _ _ _ h _ => h,
  fun _ _ _ h _ => h,
  fun _ _ _ h _ => h,
  fun _ _ _ h _ => h,
  fun _ _ _ h _ => h,
  fun _ _ _ h _ => h,
  fun _ _ _ h _ => h,
  fun _ _ _ h _ => h,
  fun _ _ _ h _ => h,
  fun _ _ _ h _ => h,
  fun _ _ _ h _ => h,
  fun _ _ _ h _ => h,
  fun _ _ _ h _ => h,
  fun _ _ _ h _ => h,
  fun _ _ _ h _ => h, trivial⟩
set_option maxHeartbeats 3200000 in
set_option maxRecDepth 100000 in
theorem awake_calls (w : World) (hT : Tab w) :
    Calls Tryd.prog 8 #[] w fun e w' => e = .returned (.bool true) ∧ Below w.heap.size w w' := by
  go_enter Tryd.func8, Tryd.ntmps8
  go_wp2_with (first | (go_at_call 22; refine (ace_calls _).mono ?_; rintro e w1 ⟨rfl, hb1⟩) | (go_at_call 20; refine (b_calls _).mono ?_; rintro e w2 ⟨rfl, hb2⟩; have HB2 := Lib.hid (below_more hb1 hb1.size hb2)) |
    (refine build_set2 rfl (.tmp 5) (.tmp 6) rfl _ _ rfl rfl ?_) | (go_at_call 24; refine (sA_union _ _ (sets_two (heap_alloc_new _ _))).mono ?_; rintro e w3 ⟨rfl, hb3⟩; have HB3 := Lib.hid (below_more (HB2.out.alloc HB2.out.size _) (by have := HB2.out.size; simp; omega) hb3)) |
    (refine st_set rfl (.tmp 1) (.tmp 8) rfl _ rfl _ rfl 0#256 _ (heap_alloc_new _ _) ?_; intro w4 hg4 hgr4; have HG4 := Lib.hid hg4; have HB4 : Hid (Below w.heap.size w w4) := Lib.hid ((HB3.out.alloc HB3.out.size _).grown hgr4 (by have := HB3.out.size; simp; omega) (fun k e => by cases e; exact HB3.out.size)); clear hg4 hgr4; have HT4 := Lib.hid (hT.below HB4.out)) |
    (go_at_call 9; refine (sA_first_calls _ HT4.out).mono ?_; rintro e w5 ⟨rfl, hb5⟩; have HG5 := Lib.hid (below_all hb5 HG4.out); have HB5 := Lib.hid (below_more HB4.out HB4.out.size hb5); have HT5 := Lib.hid (HT4.out.below hb5)) |
    (refine ld_set rfl (.tmp 1) rfl _ rfl _ _ HG4.out ?_) | (refine ld_set rfl (.tmp 1) rfl _ rfl _ _ HG5.out ?_) |
    (refine build_set1 rfl (.tmp 14) rfl _ rfl ?_) | (go_at_call 29; refine (sA_cut_calls _ _ (sets_one (heap_alloc_new _ _)) (HT5.out.below ((Below.refl _ _).alloc (Nat.le_refl _) _))).mono ?_; rintro e w6 ⟨⟨v4, rfl, hown6⟩, hb6⟩; have HG6 := Lib.hid (below_all hb6 (heap_alloc (o' := .cells (setC sA) 24) HG5.out)); have HB6 := Lib.hid (below_more (HB5.out.alloc HB5.out.size (.cells (setC sA) 24)) (by have := HB5.out.size; simp; omega) hb6); have HO6 := Lib.hid hown6; clear hown6))
  have HT6 := Lib.hid (hT.below HB6.out)
  obtain ⟨g4, c4, rfl, hg4⟩ := own_form HO6.out (by decide)
  have HR4 : Hid (∀ w', Below w6.heap.size w6 w' → w'.rangeAt g4 4 (setC sA).toList) := Lib.hid fun w' hb => own_range (own_below HO6.out hb) rfl 1 sA rfl
  clear hg4 hb1 hb2 hb3 hb5 hb6 HO6 HG4 HG5 HB2 HB3 HB4 HB5 HT4 HT5
  generalize w3.heap.size = g1 at *
  refine region_all (by kernel_rfl) (fun w' => Below w6.heap.size w6 w') (fun w1 w2 => Below w1.heap.size w1 w2) (predsT (awakePs g1 g4 c4)) (by kernel_rfl) (by kernel_rfl) (by kernel_rfl) (preds_keep _ (awakePs_keep g1 g4 c4)) (Below.refl _ _).drew ?_ ?_
  · refine ⟨?_, ?_, ?_, ?_, ?_, ?_, ?_, ?_, ?_, ?_, ?_, ?_, ?_, ?_, ?_, ?_, ?_, ?_, ?_, ?_, ?_, ?_, ?_, ?_, ?_, ?_, ?_, ?_, ?_, ?_, ?_, ?_, ?_, ?_, ?_, ?_, ?_, ?_, ?_, ?_, ?_, ?_, ?_, ?_, ?_, ?_, ?_, ?_, ?_, ?_, ?_, ?_, ?_, ?_, trivial⟩
    · refine ob_val (fun _ => Below.refl _ _) fun a' w' hS hI hD => ⟨rfl, setV sA, ?_, rfl⟩
      have h0 : a'.tmps.getD 1 undef = Value.pointer (some ⟨g1, 0, none⟩) := hS.at rfl
      simp only [execOp, Act.eval, h0]
      exact run_load_set w' g1 0 sA (range_row (below_all hI HG6.out))
    · refine ob_call fun a' w' hS hI hD => ⟨rfl, 16, #[setV sA], ?_, ?_⟩
      · have h0 : a'.tmps.getD 17 undef = setV sA := dep_at hD 0 (by kernel_rfl)
        rw [run_call 16 _ _ rfl (enters_of Tryd.func16 (by kernel_rfl) rfl)]
        simp only [List.map_toArray, List.map_cons, List.map_nil, Act.eval, h0]
      · have h0 : a'.tmps.getD 17 undef = setV sA := dep_at hD 0 (by kernel_rfl)
        exact (sA_ranges_calls w' (HT6.out.below hI)).mono fun e w'' ⟨⟨v, he, hv⟩, hb⟩ => ⟨v, he, hv, hb, below_more hI hI.size hb⟩
    · refine ob_val (fun _ => Below.refl _ _) fun a' w' hS hI hD => ⟨rfl, Value.agg #[.int .u8 97, .int .u8 99], ?_, rfl⟩
      simp only [execOp, Act.eval]
      kernel_rfl
    · refine ob_val (fun _ => Below.refl _ _) fun a' w' hS hI hD => ⟨rfl, Value.agg #[.int .u8 101, .int .u8 101], ?_, rfl⟩
      simp only [execOp, Act.eval]
      kernel_rfl
    · refine ob_new fun a' w' hS hI hD => ⟨rfl, .slice (some ⟨w'.heap.size, 0, none⟩) 2 2, w'.alloc (.cells #[.int .u8 97, .int .u8 99, .int .u8 101, .int .u8 101] 44), ?_, pairs_two (heap_alloc_new _ _), (Below.refl _ _).alloc (Nat.le_refl _) _, hI.alloc hI.size _⟩
      have h0 : a'.tmps.getD 19 undef = Value.agg #[.int .u8 97, .int .u8 99] := dep_at hD 2 (by kernel_rfl)
      have h1 : a'.tmps.getD 20 undef = Value.agg #[.int .u8 101, .int .u8 101] := dep_at hD 3 (by kernel_rfl)
      simp only [execOp, Act.eval, List.map_toArray, List.map_cons, List.map_nil, h0, h1, Sem.run_bind, Sem.run_pure, Result.andThen_ok, run_build_pairs]
    · refine ob_call fun a' w' hS hI hD => ⟨rfl, 15, #[a'.tmps.getD 18 undef, a'.tmps.getD 21 undef], ?_, ?_⟩
      · have h0 : Row w' 2 pairL (a'.tmps.getD 18 undef) [(97, 99), (101, 101)] := dep_at hD 1 (by kernel_rfl)
        have h1 : Row w' 2 pairL (a'.tmps.getD 21 undef) [(97, 99), (101, 101)] := dep_at hD 4 (by kernel_rfl)
        rw [run_call 15 _ _ rfl (enters_of Tryd.func15 (by kernel_rfl) rfl)]
        simp only [List.map_toArray, List.map_cons, List.map_nil, Act.eval]
      · have h0 : Row w' 2 pairL (a'.tmps.getD 18 undef) [(97, 99), (101, 101)] := dep_at hD 1 (by kernel_rfl)
        have h1 : Row w' 2 pairL (a'.tmps.getD 21 undef) [(97, 99), (101, 101)] := dep_at hD 4 (by kernel_rfl)
        exact (rowsEq_calls _ _ _ _ w' h0 h1).mono fun e w'' ⟨he, hb⟩ => ⟨_, he, rfl, hb, below_more hI hI.size hb⟩
    · refine ob_val (fun _ => Below.refl _ _) fun a' w' hS hI hD => ⟨rfl, Value.bool true, ?_, rfl⟩
      have h0 : a'.tmps.getD 22 undef = Value.bool true := dep_at hD 5 (by kernel_rfl)
      simp only [execOp, Act.eval, h0]
      rfl
    · refine ob_val (fun _ => Below.refl _ _) fun a' w' hS hI hD => ⟨wanted_at rfl (dep_at hD 6 (by kernel_rfl)), setV sA, ?_, rfl⟩
      have h0 : a'.tmps.getD 1 undef = Value.pointer (some ⟨g1, 0, none⟩) := hS.at rfl
      simp only [execOp, Act.eval, h0]
      exact run_load_set w' g1 0 sA (range_row (below_all hI HG6.out))
    · refine ob_call fun a' w' hS hI hD => ⟨wanted_at rfl (dep_at hD 6 (by kernel_rfl)), 11, #[setV sA, .int .u8 97], ?_, ?_⟩
      · have h0 : a'.tmps.getD 24 undef = setV sA := dep_at hD 7 (by kernel_rfl)
        rw [run_call 11 _ _ rfl (enters_of Tryd.func11 (by kernel_rfl) rfl)]
        simp only [List.map_toArray, List.map_cons, List.map_nil, Act.eval, h0]
      · have h0 : a'.tmps.getD 24 undef = setV sA := dep_at hD 7 (by kernel_rfl)
        have hc := has_calls sA 97 (by decide) w'
        rw [sA_has] at hc
        exact hc.mono fun e w'' ⟨he, hb⟩ => ⟨_, he, rfl, hb, below_more hI hI.size hb⟩
    · refine ob_val (fun _ => Below.refl _ _) fun a' w' hS hI hD => ⟨rfl, Value.bool true, ?_, rfl⟩
      have h0 : a'.tmps.getD 23 undef = Value.bool true := dep_at hD 6 (by kernel_rfl)
      have h1 : a'.tmps.getD 25 undef = Value.bool true := dep_at hD 8 (by kernel_rfl)
      simp only [execOp, Act.eval, h0, h1]
      rfl
    · refine ob_val (fun _ => Below.refl _ _) fun a' w' hS hI hD => ⟨rfl, Value.bool true, ?_, rfl⟩
      have h0 : a'.tmps.getD 26 undef = Value.bool true := dep_at hD 9 (by kernel_rfl)
      simp only [execOp, Act.eval, h0]
      rfl
    · refine ob_val (fun _ => Below.refl _ _) fun a' w' hS hI hD => ⟨wanted_at rfl (dep_at hD 10 (by kernel_rfl)), setV sA, ?_, rfl⟩
      have h0 : a'.tmps.getD 1 undef = Value.pointer (some ⟨g1, 0, none⟩) := hS.at rfl
      simp only [execOp, Act.eval, h0]
      exact run_load_set w' g1 0 sA (range_row (below_all hI HG6.out))
    · refine ob_call fun a' w' hS hI hD => ⟨wanted_at rfl (dep_at hD 10 (by kernel_rfl)), 13, #[setV sA], ?_, ?_⟩
      · have h0 : a'.tmps.getD 28 undef = setV sA := dep_at hD 11 (by kernel_rfl)
        rw [run_call 13 _ _ rfl (enters_of Tryd.func13 (by kernel_rfl) rfl)]
        simp only [List.map_toArray, List.map_cons, List.map_nil, Act.eval, h0]
      · have h0 : a'.tmps.getD 28 undef = setV sA := dep_at hD 11 (by kernel_rfl)
        have hc := count_calls sA w'
        rw [sA_count] at hc
        exact hc.mono fun e w'' ⟨he, hb⟩ => ⟨_, he, rfl, hb, below_more hI hI.size hb⟩
    · refine ob_val (fun _ => Below.refl _ _) fun a' w' hS hI hD => ⟨wanted_at rfl (dep_at hD 10 (by kernel_rfl)), Value.bool true, ?_, rfl⟩
      have h0 : a'.tmps.getD 29 undef = Value.int .i64 4 := dep_at hD 12 (by kernel_rfl)
      simp only [execOp, Act.eval, h0]
      clear h0
      go_simp
    · refine ob_val (fun _ => Below.refl _ _) fun a' w' hS hI hD => ⟨rfl, Value.bool true, ?_, rfl⟩
      have h0 : a'.tmps.getD 27 undef = Value.bool true := dep_at hD 10 (by kernel_rfl)
      have h1 : a'.tmps.getD 30 undef = Value.bool true := dep_at hD 13 (by kernel_rfl)
      simp only [execOp, Act.eval, h0, h1]
      rfl
    · refine ob_val (fun _ => Below.refl _ _) fun a' w' hS hI hD => ⟨rfl, Value.bool true, ?_, rfl⟩
      have h0 : a'.tmps.getD 31 undef = Value.bool true := dep_at hD 14 (by kernel_rfl)
      simp only [execOp, Act.eval, h0]
      rfl
    · refine ob_val (fun _ => Below.refl _ _) fun a' w' hS hI hD => ⟨wanted_at rfl (dep_at hD 15 (by kernel_rfl)), Value.int .u8 101, ?_, rfl⟩
      have h0 : a'.tmps.getD 2 undef = Value.int .u8 101 := hS.at rfl
      simp only [execOp, Act.eval, h0]
      rfl
    · refine ob_val (fun _ => Below.refl _ _) fun a' w' hS hI hD => ⟨wanted_at rfl (dep_at hD 15 (by kernel_rfl)), Value.bool true, ?_, rfl⟩
      have h0 : a'.tmps.getD 33 undef = Value.int .u8 101 := dep_at hD 16 (by kernel_rfl)
      simp only [execOp, Act.eval, h0]
      clear h0
      go_simp
    · refine ob_val (fun _ => Below.refl _ _) fun a' w' hS hI hD => ⟨rfl, Value.bool true, ?_, rfl⟩
      have h0 : a'.tmps.getD 32 undef = Value.bool true := dep_at hD 15 (by kernel_rfl)
      have h1 : a'.tmps.getD 34 undef = Value.bool true := dep_at hD 17 (by kernel_rfl)
      simp only [execOp, Act.eval, h0, h1]
      rfl
    · refine ob_val (fun _ => Below.refl _ _) fun a' w' hS hI hD => ⟨rfl, Value.bool true, ?_, rfl⟩
      have h0 : a'.tmps.getD 35 undef = Value.bool true := dep_at hD 18 (by kernel_rfl)
      simp only [execOp, Act.eval, h0]
      rfl
    · refine ob_val (fun _ => Below.refl _ _) fun a' w' hS hI hD => ⟨wanted_at rfl (dep_at hD 19 (by kernel_rfl)), Value.bool true, ?_, rfl⟩
      have h0 : a'.tmps.getD 3 undef = Value.bool true := hS.at rfl
      simp only [execOp, Act.eval, h0]
      rfl
    · refine ob_val (fun _ => Below.refl _ _) fun a' w' hS hI hD => ⟨rfl, Value.bool true, ?_, rfl⟩
      have h0 : a'.tmps.getD 36 undef = Value.bool true := dep_at hD 19 (by kernel_rfl)
      have h1 : a'.tmps.getD 37 undef = Value.bool true := dep_at hD 20 (by kernel_rfl)
      simp only [execOp, Act.eval, h0, h1]
      rfl
    · refine ob_val (fun _ => Below.refl _ _) fun a' w' hS hI hD => ⟨rfl, Value.bool true, ?_, rfl⟩
      have h0 : a'.tmps.getD 38 undef = Value.bool true := dep_at hD 21 (by kernel_rfl)
      simp only [execOp, Act.eval, h0]
      rfl
    · refine ob_val (fun _ => Below.refl _ _) fun a' w' hS hI hD => ⟨wanted_at rfl (dep_at hD 22 (by kernel_rfl)), setV sA, ?_, rfl⟩
      have h0 : a'.tmps.getD 1 undef = Value.pointer (some ⟨g1, 0, none⟩) := hS.at rfl
      simp only [execOp, Act.eval, h0]
      exact run_load_set w' g1 0 sA (range_row (below_all hI HG6.out))
    · refine ob_call fun a' w' hS hI hD => ⟨wanted_at rfl (dep_at hD 22 (by kernel_rfl)), 18, #[setV sA], ?_, ?_⟩
      · have h0 : a'.tmps.getD 40 undef = setV sA := dep_at hD 23 (by kernel_rfl)
        rw [run_call 18 _ _ rfl (enters_of Tryd.func18 (by kernel_rfl) rfl)]
        simp only [List.map_toArray, List.map_cons, List.map_nil, Act.eval, h0]
      · have h0 : a'.tmps.getD 40 undef = setV sA := dep_at hD 23 (by kernel_rfl)
        exact (not_calls sA w').mono fun e w'' ⟨he, hb⟩ => ⟨_, he, rfl, hb, below_more hI hI.size hb⟩
    · refine ob_call fun a' w' hS hI hD => ⟨wanted_at rfl (dep_at hD 22 (by kernel_rfl)), 13, #[setV (~~~sA)], ?_, ?_⟩
      · have h0 : a'.tmps.getD 41 undef = setV (~~~sA) := dep_at hD 24 (by kernel_rfl)
        rw [run_call 13 _ _ rfl (enters_of Tryd.func13 (by kernel_rfl) rfl)]
        simp only [List.map_toArray, List.map_cons, List.map_nil, Act.eval, h0]
      · have h0 : a'.tmps.getD 41 undef = setV (~~~sA) := dep_at hD 24 (by kernel_rfl)
        have hc := count_calls (~~~sA) w'
        rw [sA_not] at hc
        exact hc.mono fun e w'' ⟨he, hb⟩ => ⟨_, he, rfl, hb, below_more hI hI.size hb⟩
    · refine ob_val (fun _ => Below.refl _ _) fun a' w' hS hI hD => ⟨wanted_at rfl (dep_at hD 22 (by kernel_rfl)), Value.bool true, ?_, rfl⟩
      have h0 : a'.tmps.getD 42 undef = Value.int .i64 252 := dep_at hD 25 (by kernel_rfl)
      simp only [execOp, Act.eval, h0]
      clear h0
      go_simp
    · refine ob_val (fun _ => Below.refl _ _) fun a' w' hS hI hD => ⟨rfl, Value.bool true, ?_, rfl⟩
      have h0 : a'.tmps.getD 39 undef = Value.bool true := dep_at hD 22 (by kernel_rfl)
      have h1 : a'.tmps.getD 43 undef = Value.bool true := dep_at hD 26 (by kernel_rfl)
      simp only [execOp, Act.eval, h0, h1]
      rfl
    · refine ob_val (fun _ => Below.refl _ _) fun a' w' hS hI hD => ⟨rfl, Value.bool true, ?_, rfl⟩
      have h0 : a'.tmps.getD 44 undef = Value.bool true := dep_at hD 27 (by kernel_rfl)
      simp only [execOp, Act.eval, h0]
      rfl
    · refine ob_call fun a' w' hS hI hD => ⟨wanted_at rfl (dep_at hD 28 (by kernel_rfl)), 26, #[.slice none 0 0], ?_, ?_⟩
      · rw [run_call 26 _ _ rfl (enters_of Tryd.func26 (by kernel_rfl) rfl)]
        simp only [List.map_toArray, List.map_cons, List.map_nil, Act.eval]
      · exact (inter_calls _ [] w' (Row.nil _ _ _) (by simp)).mono fun e w'' ⟨he, hb⟩ => ⟨_, he, rfl, hb, below_more hI hI.size hb⟩
    · refine ob_call fun a' w' hS hI hD => ⟨wanted_at rfl (dep_at hD 28 (by kernel_rfl)), 13, #[setV (interS [])], ?_, ?_⟩
      · have h0 : a'.tmps.getD 46 undef = setV (interS []) := dep_at hD 29 (by kernel_rfl)
        rw [run_call 13 _ _ rfl (enters_of Tryd.func13 (by kernel_rfl) rfl)]
        simp only [List.map_toArray, List.map_cons, List.map_nil, Act.eval, h0]
      · have h0 : a'.tmps.getD 46 undef = setV (interS []) := dep_at hD 29 (by kernel_rfl)
        have hc := count_calls (interS []) w'
        rw [sA_all] at hc
        exact hc.mono fun e w'' ⟨he, hb⟩ => ⟨_, he, rfl, hb, below_more hI hI.size hb⟩
    · refine ob_val (fun _ => Below.refl _ _) fun a' w' hS hI hD => ⟨wanted_at rfl (dep_at hD 28 (by kernel_rfl)), Value.bool true, ?_, rfl⟩
      have h0 : a'.tmps.getD 47 undef = Value.int .i64 256 := dep_at hD 30 (by kernel_rfl)
      simp only [execOp, Act.eval, h0]
      clear h0
      go_simp
    · refine ob_val (fun _ => Below.refl _ _) fun a' w' hS hI hD => ⟨rfl, Value.bool true, ?_, rfl⟩
      have h0 : a'.tmps.getD 45 undef = Value.bool true := dep_at hD 28 (by kernel_rfl)
      have h1 : a'.tmps.getD 48 undef = Value.bool true := dep_at hD 31 (by kernel_rfl)
      simp only [execOp, Act.eval, h0, h1]
      rfl
    · refine ob_val (fun _ => Below.refl _ _) fun a' w' hS hI hD => ⟨rfl, Value.bool true, ?_, rfl⟩
      have h0 : a'.tmps.getD 49 undef = Value.bool true := dep_at hD 32 (by kernel_rfl)
      simp only [execOp, Act.eval, h0]
      rfl
    · refine ob_val (fun _ => Below.refl _ _) fun a' w' hS hI hD => ⟨wanted_at rfl (dep_at hD 33 (by kernel_rfl)), setV sA, ?_, rfl⟩
      have h0 : a'.tmps.getD 1 undef = Value.pointer (some ⟨g1, 0, none⟩) := hS.at rfl
      simp only [execOp, Act.eval, h0]
      exact run_load_set w' g1 0 sA (range_row (below_all hI HG6.out))
    · refine ob_call fun a' w' hS hI hD => ⟨wanted_at rfl (dep_at hD 33 (by kernel_rfl)), 22, #[.string { data := #[97, 120] }], ?_, ?_⟩
      · rw [run_call 22 _ _ rfl (enters_of Tryd.func22 (by kernel_rfl) rfl)]
        simp only [List.map_toArray, List.map_cons, List.map_nil, Act.eval]
      · exact (of_calls { data := #[97, 120] } (by decide) w').mono fun e w'' ⟨he, hb⟩ => ⟨_, he, rfl, hb, below_more hI hI.size hb⟩
    · refine ob_new fun a' w' hS hI hD => ⟨wanted_at rfl (dep_at hD 33 (by kernel_rfl)), .slice (some ⟨w'.heap.size, 0, none⟩) 2 2, w'.alloc (.cells (setC sA ++ setC (ofS [97, 120])) 24), ?_, sets_two (heap_alloc_new _ _), (Below.refl _ _).alloc (Nat.le_refl _) _, hI.alloc hI.size _⟩
      have h0 : a'.tmps.getD 51 undef = setV sA := dep_at hD 34 (by kernel_rfl)
      have h1 : a'.tmps.getD 52 undef = setV (ofS [97, 120]) := dep_at hD 35 (by kernel_rfl)
      simp only [execOp, Act.eval, List.map_toArray, List.map_cons, List.map_nil, h0, h1, Sem.run_bind, Sem.run_pure, Result.andThen_ok, run_build_set2]
    · refine ob_call fun a' w' hS hI hD => ⟨wanted_at rfl (dep_at hD 33 (by kernel_rfl)), 26, #[a'.tmps.getD 53 undef], ?_, ?_⟩
      · have h0 : Sets w' (a'.tmps.getD 53 undef) [sA, ofS [97, 120]] := dep_at hD 36 (by kernel_rfl)
        rw [run_call 26 _ _ rfl (enters_of Tryd.func26 (by kernel_rfl) rfl)]
        simp only [List.map_toArray, List.map_cons, List.map_nil, Act.eval]
      · have h0 : Sets w' (a'.tmps.getD 53 undef) [sA, ofS [97, 120]] := dep_at hD 36 (by kernel_rfl)
        have hc := inter_calls _ _ w' h0 (by simp)
        rw [sA_inter] at hc
        exact hc.mono fun e w'' ⟨he, hb⟩ => ⟨_, he, rfl, hb, below_more hI hI.size hb⟩
    · refine ob_call fun a' w' hS hI hD => ⟨wanted_at rfl (dep_at hD 33 (by kernel_rfl)), 22, #[.string { data := #[97] }], ?_, ?_⟩
      · rw [run_call 22 _ _ rfl (enters_of Tryd.func22 (by kernel_rfl) rfl)]
        simp only [List.map_toArray, List.map_cons, List.map_nil, Act.eval]
      · exact (of_calls { data := #[97] } (by decide) w').mono fun e w'' ⟨he, hb⟩ => ⟨_, he, rfl, hb, below_more hI hI.size hb⟩
    · refine ob_val (fun _ => Below.refl _ _) fun a' w' hS hI hD => ⟨wanted_at rfl (dep_at hD 33 (by kernel_rfl)), Value.bool true, ?_, rfl⟩
      have h0 : a'.tmps.getD 54 undef = setV (ofS [97]) := dep_at hD 37 (by kernel_rfl)
      have h1 : a'.tmps.getD 55 undef = setV (ofS [97]) := dep_at hD 38 (by kernel_rfl)
      simp only [execOp, Act.eval, h0, h1, Sem.run_bind, Sem.run_pure, Result.andThen_ok, eqGuard_set, eql_set, beq_self_eq_true]
    · refine ob_val (fun _ => Below.refl _ _) fun a' w' hS hI hD => ⟨rfl, Value.bool true, ?_, rfl⟩
      have h0 : a'.tmps.getD 50 undef = Value.bool true := dep_at hD 33 (by kernel_rfl)
      have h1 : a'.tmps.getD 56 undef = Value.bool true := dep_at hD 39 (by kernel_rfl)
      simp only [execOp, Act.eval, h0, h1]
      rfl
    · refine ob_val (fun _ => Below.refl _ _) fun a' w' hS hI hD => ⟨rfl, Value.bool true, ?_, rfl⟩
      have h0 : a'.tmps.getD 57 undef = Value.bool true := dep_at hD 40 (by kernel_rfl)
      simp only [execOp, Act.eval, h0]
      rfl
    · refine ob_val (fun _ => Below.refl _ _) fun a' w' hS hI hD => ⟨wanted_at rfl (dep_at hD 41 (by kernel_rfl)), Value.slice (some ⟨g4, 0, none⟩) 2 c4, ?_, rfl⟩
      have h0 : a'.tmps.getD 4 undef = Value.slice (some ⟨g4, 0, none⟩) 2 c4 := hS.at rfl
      simp only [execOp, Act.eval, h0]
      rfl
    · refine ob_val (fun _ => Below.refl _ _) fun a' w' hS hI hD => ⟨wanted_at rfl (dep_at hD 41 (by kernel_rfl)), Value.int .i64 2, ?_, rfl⟩
      have h0 : a'.tmps.getD 59 undef = Value.slice (some ⟨g4, 0, none⟩) 2 c4 := dep_at hD 42 (by kernel_rfl)
      simp only [execOp]
      go_simp
    · refine ob_val (fun _ => Below.refl _ _) fun a' w' hS hI hD => ⟨wanted_at rfl (dep_at hD 41 (by kernel_rfl)), Value.bool true, ?_, rfl⟩
      have h0 : a'.tmps.getD 60 undef = Value.int .i64 2 := dep_at hD 43 (by kernel_rfl)
      simp only [execOp, Act.eval, h0]
      clear h0
      go_simp
    · refine ob_val (fun _ => Below.refl _ _) fun a' w' hS hI hD => ⟨rfl, Value.bool true, ?_, rfl⟩
      have h0 : a'.tmps.getD 58 undef = Value.bool true := dep_at hD 41 (by kernel_rfl)
      have h1 : a'.tmps.getD 61 undef = Value.bool true := dep_at hD 44 (by kernel_rfl)
      simp only [execOp, Act.eval, h0, h1]
      rfl
    · refine ob_val (fun _ => Below.refl _ _) fun a' w' hS hI hD => ⟨rfl, Value.bool true, ?_, rfl⟩
      have h0 : a'.tmps.getD 62 undef = Value.bool true := dep_at hD 45 (by kernel_rfl)
      simp only [execOp, Act.eval, h0]
      rfl
    · refine ob_val (fun _ => Below.refl _ _) fun a' w' hS hI hD => ⟨wanted_at rfl (dep_at hD 46 (by kernel_rfl)), Value.slice (some ⟨g4, 0, none⟩) 2 c4, ?_, rfl⟩
      have h0 : a'.tmps.getD 4 undef = Value.slice (some ⟨g4, 0, none⟩) 2 c4 := hS.at rfl
      simp only [execOp, Act.eval, h0]
      rfl
    · refine ob_val (fun _ => Below.refl _ _) fun a' w' hS hI hD => ⟨wanted_at rfl (dep_at hD 46 (by kernel_rfl)), Value.pointer (some ⟨g4, 4, none⟩), ?_, rfl⟩
      have h0 : a'.tmps.getD 64 undef = Value.slice (some ⟨g4, 0, none⟩) 2 c4 := dep_at hD 47 (by kernel_rfl)
      simp only [execOp, Act.eval, h0]
      clear h0
      go_simp
    · refine ob_val (fun _ => Below.refl _ _) fun a' w' hS hI hD => ⟨wanted_at rfl (dep_at hD 46 (by kernel_rfl)), setV sA, ?_, rfl⟩
      have h0 : a'.tmps.getD 65 undef = Value.pointer (some ⟨g4, 4, none⟩) := dep_at hD 48 (by kernel_rfl)
      simp only [execOp, Act.eval, h0]
      exact run_load_set w' g4 4 sA (HR4.out w' hI)
    · refine ob_val (fun _ => Below.refl _ _) fun a' w' hS hI hD => ⟨wanted_at rfl (dep_at hD 46 (by kernel_rfl)), setV sA, ?_, rfl⟩
      have h0 : a'.tmps.getD 1 undef = Value.pointer (some ⟨g1, 0, none⟩) := hS.at rfl
      simp only [execOp, Act.eval, h0]
      exact run_load_set w' g1 0 sA (range_row (below_all hI HG6.out))
    · refine ob_val (fun _ => Below.refl _ _) fun a' w' hS hI hD => ⟨wanted_at rfl (dep_at hD 46 (by kernel_rfl)), Value.bool true, ?_, rfl⟩
      have h0 : a'.tmps.getD 66 undef = setV sA := dep_at hD 49 (by kernel_rfl)
      have h1 : a'.tmps.getD 67 undef = setV sA := dep_at hD 50 (by kernel_rfl)
      simp only [execOp, Act.eval, h0, h1, Sem.run_bind, Sem.run_pure, Result.andThen_ok, eqGuard_set, eql_set, beq_self_eq_true]
    · refine ob_val (fun _ => Below.refl _ _) fun a' w' hS hI hD => ⟨rfl, Value.bool true, ?_, rfl⟩
      have h0 : a'.tmps.getD 63 undef = Value.bool true := dep_at hD 46 (by kernel_rfl)
      have h1 : a'.tmps.getD 68 undef = Value.bool true := dep_at hD 51 (by kernel_rfl)
      simp only [execOp, Act.eval, h0, h1]
      rfl
    · refine ob_val (fun _ => Below.refl _ _) fun a' w' hS hI hD => ⟨rfl, Value.bool true, ?_, rfl⟩
      have h0 : a'.tmps.getD 69 undef = Value.bool true := dep_at hD 52 (by kernel_rfl)
      simp only [execOp, Act.eval, h0]
      rfl
  · intro v w' hI hT
    have h53 : v 53 = .bool true := tall_at _ _ hT 53 (by decide) (by decide)
    have H53 := Lib.hid h53
    have HBW := Lib.hid (below_more HB6.out HB6.out.size hI)
    clear h53 hT HR4 HT6 HB6 HG6 hI
    simp only [putAll, Act.put, List.setIfInBounds_toArray, List.set_cons_succ, List.set_cons_zero, Nat.reduceAdd]
    go_wp2_with (fail)
    go_ret
    exact ⟨by rw [H53.out]; rfl, HBW.out⟩
end Go.Proofs.YtekodfpjoehooaaDoor.Bs
