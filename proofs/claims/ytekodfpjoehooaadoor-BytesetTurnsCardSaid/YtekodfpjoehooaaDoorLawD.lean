/- The walk of BytesetTurns. -/
import Derived.Test.YtekodfpjoehooaaDoorLawA
import Derived.Test.YtekodfpjoehooaaDoorLawC
namespace Go.Proofs.YtekodfpjoehooaaDoor.Bs
open Go.RowKit Mem Reg
theorem wanted_atf {ops : Array Oper} {o : Oper} {a : Act} {k : Nat} (hg : o.guard = some (k, false)) (h : slotV ops a k = .bool false) : Region.wanted o (yielded ops a.tmps) = true := by
  unfold Region.wanted
  rw [hg]
  unfold slotV at h
  unfold yielded
  cases hd : (ops[k]?).bind (·.dst) with
  | none => rw [hd] at h; cases h
  | some d =>
    rw [hd] at h
    have h : a.tmps.getD d undef = .bool false := h
    rw [Array.getD_eq_getD_getElem?] at h
    cases ht : a.tmps[d]? with
    | none => rw [ht] at h; cases h
    | some v => rw [ht] at h; simp only [Option.getD_some] at h; subst h; simp [hd, ht]
def turns4 (a b : BitVec 256) : List (Value → World → Prop) := [
  fun v _ => v = setV a,
  fun v _ => v = setV b,
  fun v w => Sets w v [a, b],
  fun v _ => v = setV (unionS [a, b]),
  fun v _ => v = setV (~~~(unionS [a, b])),
  fun v _ => v = setV a,
  fun v _ => v = setV (~~~a),
  fun v _ => v = setV b,
  fun v _ => v = setV (~~~b),
  fun v w => Sets w v [~~~a, ~~~b],
  fun v _ => v = setV (~~~(unionS [a, b])),
  fun v _ => v = Value.bool false,
  fun v _ => v = Value.bool false,
  fun v _ => v = setV a,
  fun v _ => v = setV (~~~a),
  fun v _ => v = setV a,
  fun v _ => v = setV a,
  fun v _ => v = Value.bool false,
  fun v _ => v = Value.bool false]
theorem turns4_keep (a b : BitVec 256) : PredsKeep (turns4 a b) :=
  ⟨fun _ _ _ h _ => h,
  fun _ _ _ h _ => h,
  fun _ _ _ h hE => Row.below h setC_ne (Nat.le_refl _) hE,
  fun _ _ _ h _ => h,
  fun _ _ _ h _ => h,
  fun _ _ _ h _ => h,
  fun _ _ _ h _ => h,
  fun _ _ _ h _ => h,
  fun _ _ _ h _ => h,
  fun _ _ _ h hE => Row.below h setC_ne (Nat.le_refl _) hE,
  fun _ _ _ h _ => h,
  fun _ _ _ h _ => h,
  fun _ _ _ h _ => h,
  fun _ _ _ h _ => h,
  fun _ _ _ h _ => h,
  fun _ _ _ h _ => h,
  fun _ _ _ h _ => h,
  fun _ _ _ h _ => h,
  fun _ _ _ h _ => h, trivial⟩
def turns11 (u : BitVec 256) (g3 n c3 k r1 r2 : Nat) : List (Value → World → Prop) := [
  fun v _ => v = setV u,
  fun v _ => v = Value.slice (some ⟨g3, 0, none⟩) n c3,
  fun v _ => v = Value.int .i64 (k : Int),
  fun v _ => v = Value.pointer (some ⟨g3, k * 2, none⟩),
  fun v _ => v = Value.pointer (some ⟨g3, k * 2, none⟩),
  fun v _ => v = Value.int .u8 (r1 : Int),
  fun v _ => v = Value.slice (some ⟨g3, 0, none⟩) n c3,
  fun v _ => v = Value.int .i64 (k : Int),
  fun v _ => v = Value.pointer (some ⟨g3, k * 2, none⟩),
  fun v _ => v = Value.pointer (some ⟨g3, k * 2 + 1, none⟩),
  fun v _ => v = Value.int .u8 (r2 : Int),
  fun v _ => v = setV (rangeS r1 r2),
  fun v w => Sets w v [u, rangeS r1 r2],
  fun v _ => v = setV (unionS [u, rangeS r1 r2])]
theorem turns11_keep (u : BitVec 256) (g3 n c3 k r1 r2 : Nat) : PredsKeep (turns11 u g3 n c3 k r1 r2) :=
  ⟨fun _ _ _ h _ => h,
  fun _ _ _ h _ => h,
  fun _ _ _ h _ => h,
  fun _ _ _ h _ => h,
  fun _ _ _ h _ => h,
  fun _ _ _ h _ => h,
  fun _ _ _ h _ => h,
  fun _ _ _ h _ => h,
  fun _ _ _ h _ => h,
  fun _ _ _ h _ => h,
  fun _ _ _ h _ => h,
  fun _ _ _ h _ => h,
  fun _ _ _ h hE => Row.below h setC_ne (Nat.le_refl _) hE,
  fun _ _ _ h _ => h, trivial⟩
def turns19 (a x : BitVec 256) (g9 n c9 k : Nat) : List (Value → World → Prop) := [
  fun v _ => v = Value.slice (some ⟨g9, 0, none⟩) n c9,
  fun v _ => v = Value.int .i64 (k : Int),
  fun v _ => v = Value.pointer (some ⟨g9, k * 4, none⟩),
  fun v _ => v = setV x,
  fun v _ => v = setV a,
  fun v w => Sets w v [x, a],
  fun v _ => v = setV (interS [x, a]),
  fun v _ => v = Value.slice (some ⟨g9, 0, none⟩) n c9,
  fun v _ => v = Value.int .i64 (k : Int),
  fun v _ => v = Value.pointer (some ⟨g9, k * 4, none⟩),
  fun v _ => v = setV x,
  fun v _ => v = Value.bool (interS [x, a] == x)]
theorem turns19_keep (a x : BitVec 256) (g9 n c9 k : Nat) : PredsKeep (turns19 a x g9 n c9 k) :=
  ⟨fun _ _ _ h _ => h,
  fun _ _ _ h _ => h,
  fun _ _ _ h _ => h,
  fun _ _ _ h _ => h,
  fun _ _ _ h _ => h,
  fun _ _ _ h hE => Row.below h setC_ne (Nat.le_refl _) hE,
  fun _ _ _ h _ => h,
  fun _ _ _ h _ => h,
  fun _ _ _ h _ => h,
  fun _ _ _ h _ => h,
  fun _ _ _ h _ => h,
  fun _ _ _ h _ => h, trivial⟩
def turns20 (u x : BitVec 256) (g9 n c9 k : Nat) : List (Value → World → Prop) := [
  fun v _ => v = setV u,
  fun v _ => v = Value.slice (some ⟨g9, 0, none⟩) n c9,
  fun v _ => v = Value.int .i64 (k : Int),
  fun v _ => v = Value.pointer (some ⟨g9, k * 4, none⟩),
  fun v _ => v = setV x,
  fun v w => Sets w v [u, x],
  fun v _ => v = setV (unionS [u, x])]
theorem turns20_keep (u x : BitVec 256) (g9 n c9 k : Nat) : PredsKeep (turns20 u x g9 n c9 k) :=
  ⟨fun _ _ _ h _ => h,
  fun _ _ _ h _ => h,
  fun _ _ _ h _ => h,
  fun _ _ _ h _ => h,
  fun _ _ _ h _ => h,
  fun _ _ _ h hE => Row.below h setC_ne (Nat.le_refl _) hE,
  fun _ _ _ h _ => h, trivial⟩
set_option maxHeartbeats 6400000 in
set_option maxRecDepth 100000 in
theorem turns_calls (a b : BitVec 256) (w : World) (hT : Tab w) :
    Calls Tryd.prog 6 #[setV a, setV b] w fun e w' => e = .returned (.bool true) ∧ Below w.heap.size w w' := by
  go_enter Tryd.func6, Tryd.ntmps6
  go_wp2_with (first | (refine box_set rfl (.tmp 0) rfl a rfl ?_) | (refine box_set rfl (.tmp 1) rfl b rfl ?_) | (go_at_call 8; refine (awake_calls _ (hT.below (((Below.refl _ _).alloc (Nat.le_refl _) _).alloc (by simp) _))).mono ?_; rintro e w1 ⟨rfl, hb1⟩))
  have hga := below_all hb1 (heap_alloc2_old w (.cells (setC a) 24) (.cells (setC b) 24))
  have hgb := below_all hb1 (heap_alloc2_new w (.cells (setC a) 24) (.cells (setC b) 24))
  have hB1 := below_more (below_alloc2 w (.cells (setC a) 24) (.cells (setC b) 24)) (by simp; omega) hb1
  have HGA := Lib.hid hga
  have HGB := Lib.hid hgb
  have HB1 := Lib.hid hB1
  have hs1 : w.heap.size + 2 ≤ w1.heap.size := by have := hb1.size; simpa using this
  clear hb1 hga hgb hB1
  refine region_all (by kernel_rfl) (fun w' => Below w1.heap.size w1 w') (fun w1 w2 => Below w1.heap.size w1 w2) (predsT (turns4 a b)) (by kernel_rfl) (by kernel_rfl) (by kernel_rfl) (preds_keep _ (turns4_keep a b)) (Below.refl _ _).drew ?_ ?_
  · refine ⟨?_, ?_, ?_, ?_, ?_, ?_, ?_, ?_, ?_, ?_, ?_, ?_, ?_, ?_, ?_, ?_, ?_, ?_, ?_, trivial⟩
    · refine ob_val (fun _ => Below.refl _ _) fun a' w' hS hI hD => ⟨rfl, setV a, ?_, rfl⟩
      have h0 : a'.tmps.getD 2 undef = Value.pointer (some ⟨w.heap.size, 0, none⟩) := hS.at rfl
      simp only [execOp, Act.eval, h0]
      exact run_load_set w' _ 0 a (range_row (below_all hI HGA.out))
    · refine ob_val (fun _ => Below.refl _ _) fun a' w' hS hI hD => ⟨rfl, setV b, ?_, rfl⟩
      have h0 : a'.tmps.getD 3 undef = Value.pointer (some ⟨w.heap.size + 1, 0, none⟩) := hS.at rfl
      simp only [execOp, Act.eval, h0]
      exact run_load_set w' _ 0 b (range_row (below_all hI HGB.out))
    · refine ob_new fun a' w' hS hI hD => ⟨rfl, .slice (some ⟨w'.heap.size, 0, none⟩) 2 2, w'.alloc (.cells (setC (a) ++ setC (b)) 24), ?_, sets_two (heap_alloc_new _ _), (Below.refl _ _).alloc (Nat.le_refl _) _, hI.alloc hI.size _⟩
      have h0 : a'.tmps.getD 16 undef = setV a := dep_at hD 0 (by kernel_rfl)
      have h1 : a'.tmps.getD 17 undef = setV b := dep_at hD 1 (by kernel_rfl)
      simp only [execOp, Act.eval, List.map_toArray, List.map_cons, List.map_nil, h0, h1, Sem.run_bind, Sem.run_pure, Result.andThen_ok, run_build_set2]
    · refine ob_call fun a' w' hS hI hD => ⟨rfl, 24, #[a'.tmps.getD 18 undef], ?_, ?_⟩
      · rw [run_call 24 _ _ rfl (enters_of Tryd.func24 (by kernel_rfl) rfl)]
        simp only [List.map_toArray, List.map_cons, List.map_nil, Act.eval]
      · have h0 : Sets w' (a'.tmps.getD 18 undef) [a, b] := dep_at hD 2 (by kernel_rfl)
        exact (union_calls _ _ w' h0).mono fun e w'' ⟨he, hb⟩ => ⟨_, he, rfl, hb, below_more hI hI.size hb⟩
    · refine ob_call fun a' w' hS hI hD => ⟨rfl, 18, #[setV (unionS [a, b])], ?_, ?_⟩
      · have h0 : a'.tmps.getD 19 undef = setV (unionS [a, b]) := dep_at hD 3 (by kernel_rfl)
        rw [run_call 18 _ _ rfl (enters_of Tryd.func18 (by kernel_rfl) rfl)]
        simp only [List.map_toArray, List.map_cons, List.map_nil, Act.eval, h0]
      · exact (not_calls (unionS [a, b]) w').mono fun e w'' ⟨he, hb⟩ => ⟨_, he, rfl, hb, below_more hI hI.size hb⟩
    · refine ob_val (fun _ => Below.refl _ _) fun a' w' hS hI hD => ⟨rfl, setV a, ?_, rfl⟩
      have h0 : a'.tmps.getD 2 undef = Value.pointer (some ⟨w.heap.size, 0, none⟩) := hS.at rfl
      simp only [execOp, Act.eval, h0]
      exact run_load_set w' _ 0 a (range_row (below_all hI HGA.out))
    · refine ob_call fun a' w' hS hI hD => ⟨rfl, 18, #[setV a], ?_, ?_⟩
      · have h0 : a'.tmps.getD 21 undef = setV a := dep_at hD 5 (by kernel_rfl)
        rw [run_call 18 _ _ rfl (enters_of Tryd.func18 (by kernel_rfl) rfl)]
        simp only [List.map_toArray, List.map_cons, List.map_nil, Act.eval, h0]
      · exact (not_calls a w').mono fun e w'' ⟨he, hb⟩ => ⟨_, he, rfl, hb, below_more hI hI.size hb⟩
    · refine ob_val (fun _ => Below.refl _ _) fun a' w' hS hI hD => ⟨rfl, setV b, ?_, rfl⟩
      have h0 : a'.tmps.getD 3 undef = Value.pointer (some ⟨w.heap.size + 1, 0, none⟩) := hS.at rfl
      simp only [execOp, Act.eval, h0]
      exact run_load_set w' _ 0 b (range_row (below_all hI HGB.out))
    · refine ob_call fun a' w' hS hI hD => ⟨rfl, 18, #[setV b], ?_, ?_⟩
      · have h0 : a'.tmps.getD 23 undef = setV b := dep_at hD 7 (by kernel_rfl)
        rw [run_call 18 _ _ rfl (enters_of Tryd.func18 (by kernel_rfl) rfl)]
        simp only [List.map_toArray, List.map_cons, List.map_nil, Act.eval, h0]
      · exact (not_calls b w').mono fun e w'' ⟨he, hb⟩ => ⟨_, he, rfl, hb, below_more hI hI.size hb⟩
    · refine ob_new fun a' w' hS hI hD => ⟨rfl, .slice (some ⟨w'.heap.size, 0, none⟩) 2 2, w'.alloc (.cells (setC (~~~a) ++ setC (~~~b)) 24), ?_, sets_two (heap_alloc_new _ _), (Below.refl _ _).alloc (Nat.le_refl _) _, hI.alloc hI.size _⟩
      have h0 : a'.tmps.getD 22 undef = setV (~~~a) := dep_at hD 6 (by kernel_rfl)
      have h1 : a'.tmps.getD 24 undef = setV (~~~b) := dep_at hD 8 (by kernel_rfl)
      simp only [execOp, Act.eval, List.map_toArray, List.map_cons, List.map_nil, h0, h1, Sem.run_bind, Sem.run_pure, Result.andThen_ok, run_build_set2]
    · refine ob_call fun a' w' hS hI hD => ⟨rfl, 26, #[a'.tmps.getD 25 undef], ?_, ?_⟩
      · rw [run_call 26 _ _ rfl (enters_of Tryd.func26 (by kernel_rfl) rfl)]
        simp only [List.map_toArray, List.map_cons, List.map_nil, Act.eval]
      · have h0 : Sets w' (a'.tmps.getD 25 undef) [~~~a, ~~~b] := dep_at hD 9 (by kernel_rfl)
        have hc := inter_calls _ _ w' h0 (by simp)
        rw [deMorgan] at hc
        exact hc.mono fun e w'' ⟨he, hb⟩ => ⟨_, he, rfl, hb, below_more hI hI.size hb⟩
    · refine ob_val (fun _ => Below.refl _ _) fun a' w' hS hI hD => ⟨rfl, Value.bool false, ?_, rfl⟩
      have h0 : a'.tmps.getD 20 undef = setV (~~~(unionS [a, b])) := dep_at hD 4 (by kernel_rfl)
      have h1 : a'.tmps.getD 26 undef = setV (~~~(unionS [a, b])) := dep_at hD 10 (by kernel_rfl)
      simp only [execOp, Act.eval, h0, h1, Sem.run_bind, Sem.run_pure, Result.andThen_ok, eqGuard_set, neq_set, beq_self_eq_true, Bool.not_true]
    · refine ob_val (fun _ => Below.refl _ _) fun a' w' hS hI hD => ⟨rfl, Value.bool false, ?_, rfl⟩
      have h0 : a'.tmps.getD 27 undef = Value.bool false := dep_at hD 11 (by kernel_rfl)
      simp only [execOp, Act.eval, h0]
      rfl
    · refine ob_val (fun _ => Below.refl _ _) fun a' w' hS hI hD => ⟨wanted_atf rfl (dep_at hD 12 (by kernel_rfl)), setV a, ?_, rfl⟩
      have h0 : a'.tmps.getD 2 undef = Value.pointer (some ⟨w.heap.size, 0, none⟩) := hS.at rfl
      simp only [execOp, Act.eval, h0]
      exact run_load_set w' _ 0 a (range_row (below_all hI HGA.out))
    · refine ob_call fun a' w' hS hI hD => ⟨wanted_atf rfl (dep_at hD 12 (by kernel_rfl)), 18, #[setV a], ?_, ?_⟩
      · have h0 : a'.tmps.getD 29 undef = setV a := dep_at hD 13 (by kernel_rfl)
        rw [run_call 18 _ _ rfl (enters_of Tryd.func18 (by kernel_rfl) rfl)]
        simp only [List.map_toArray, List.map_cons, List.map_nil, Act.eval, h0]
      · exact (not_calls a w').mono fun e w'' ⟨he, hb⟩ => ⟨_, he, rfl, hb, below_more hI hI.size hb⟩
    · refine ob_call fun a' w' hS hI hD => ⟨wanted_atf rfl (dep_at hD 12 (by kernel_rfl)), 18, #[setV (~~~a)], ?_, ?_⟩
      · have h0 : a'.tmps.getD 30 undef = setV (~~~a) := dep_at hD 14 (by kernel_rfl)
        rw [run_call 18 _ _ rfl (enters_of Tryd.func18 (by kernel_rfl) rfl)]
        simp only [List.map_toArray, List.map_cons, List.map_nil, Act.eval, h0]
      · have hc := not_calls (~~~a) w'
        rw [BitVec.not_not] at hc
        exact hc.mono fun e w'' ⟨he, hb⟩ => ⟨_, he, rfl, hb, below_more hI hI.size hb⟩
    · refine ob_val (fun _ => Below.refl _ _) fun a' w' hS hI hD => ⟨wanted_atf rfl (dep_at hD 12 (by kernel_rfl)), setV a, ?_, rfl⟩
      have h0 : a'.tmps.getD 2 undef = Value.pointer (some ⟨w.heap.size, 0, none⟩) := hS.at rfl
      simp only [execOp, Act.eval, h0]
      exact run_load_set w' _ 0 a (range_row (below_all hI HGA.out))
    · refine ob_val (fun _ => Below.refl _ _) fun a' w' hS hI hD => ⟨wanted_atf rfl (dep_at hD 12 (by kernel_rfl)), Value.bool false, ?_, rfl⟩
      have h0 : a'.tmps.getD 31 undef = setV a := dep_at hD 15 (by kernel_rfl)
      have h1 : a'.tmps.getD 32 undef = setV a := dep_at hD 16 (by kernel_rfl)
      simp only [execOp, Act.eval, h0, h1, Sem.run_bind, Sem.run_pure, Result.andThen_ok, eqGuard_set, neq_set, beq_self_eq_true, Bool.not_true]
    · refine ob_val (fun _ => Below.refl _ _) fun a' w' hS hI hD => ⟨rfl, Value.bool false, ?_, rfl⟩
      have h0 : a'.tmps.getD 28 undef = Value.bool false := dep_at hD 12 (by kernel_rfl)
      have h1 : a'.tmps.getD 33 undef = Value.bool false := dep_at hD 17 (by kernel_rfl)
      simp only [execOp, Act.eval, h0, h1]
      rfl
  · intro v w2 hI hT2
    have h18 : v 18 = .bool false := tall_at _ _ hT2 18 (by decide) (by decide)
    have HGA2 := Lib.hid (below_all hI HGA.out)
    have HGB2 := Lib.hid (below_all hI HGB.out)
    have HB2 := Lib.hid (below_more HB1.out HB1.out.size hI)
    have hs2 : w.heap.size + 2 ≤ w2.heap.size := Nat.le_trans hs1 hI.size
    simp only [putAll, Act.put, List.setIfInBounds_toArray, List.set_cons_succ, List.set_cons_zero, Nat.reduceAdd, h18]
    clear h18 hT2 hI HB1 HGA HGB hs1
    have HT2 := Lib.hid (hT.below HB2.out)
    go_wp2_with (first | (refine ld_set rfl (.tmp 2) rfl _ rfl _ _ (heap_alloc (o' := .cells (setC 0#256) 24) HGA2.out) ?_) | (go_at_call 16; refine (ranges_calls a _ (HT2.out.below ((Below.refl _ _).alloc (Nat.le_refl _) _))).mono ?_; rintro e w3 ⟨v3, rfl, hown3, hb3⟩))
    have hz3 : w2.heap.size + 1 ≤ w3.heap.size := by simpa using hb3.size
    have hgs3 := below_all hb3 (heap_alloc_new w2 (.cells (setC 0#256) 24))
    have hga3 := below_all hb3 (heap_alloc (o' := .cells (setC 0#256) 24) HGA2.out)
    have hgb3 := below_all hb3 (heap_alloc (o' := .cells (setC 0#256) 24) HGB2.out)
    have hB3 : Below w.heap.size w w3 := below_more (HB2.out.alloc (by omega) (.cells (setC 0#256) 24)) (by simp; omega) hb3
    have hO3 := own_mono hown3 (base' := w2.heap.size + 1) (by simp)
    have HRU := Lib.hid (rowsU_rows a)
    have HRB := Lib.hid (rowsS_bytes a)
    have HRS := Lib.hid (rowsU_snoc (rowsS a))
    have hrl : (rowsS a).length ≤ 257 := rowsF_length a 257 0
    clear hb3 hown3 HGA2 HGB2 HB2 HT2
    generalize rowsS a = rs at *
    obtain ⟨A3, c3, hv3⟩ := own_shape hO3
    subst hv3
    go_loopw [8] (fun i wr => ∃ k : Nat, k ≤ rs.length ∧ i = .int .i64 k ∧ wr.heap[w2.heap.size]? = some (.cells (setC (rowsU (rs.take k))) 24 (0, 0)) ∧ wr.heap[w.heap.size]? = some (.cells (setC a) 24 (0, 0)) ∧
      wr.heap[w.heap.size + 1]? = some (.cells (setC b) 24 (0, 0)) ∧ wr.ownsRow (w2.heap.size + 1) 44 2 (.slice A3 rs.length c3) rs.length (flat pairL rs) ∧ Below w.heap.size w wr) (fun i _ => rs.length - (intOf i).toNat)
    case atStart => exact ⟨0, Nat.zero_le _, rfl, hgs3, hga3, hgb3, hO3, hB3⟩
    case round =>
      obtain ⟨k, hk, rfl, hgs, hga, hgb, hown, hB⟩ := hrel
      have HGS := Lib.hid hgs
      have HGA := Lib.hid hga
      have HGB := Lib.hid hgb
      have HO := Lib.hid hown
      have HB := Lib.hid hB
      have hwr := heap_lt hgs
      clear hgs hga hgb hown hB
      by_cases hlt : k < rs.length
      · obtain ⟨g3, c', hA, hg3⟩ := own_form HO.out (by omega)
        cases hA
        have HSN := Lib.hid (HRS.out k hlt)
        obtain ⟨hr1, hr2⟩ := HRB.out rs[k] (List.getElem_mem hlt)
        have hget := List.getElem?_eq_getElem hlt
        generalize rs[k] = r at *
        obtain ⟨r1, r2⟩ := r
        have HC0 : Hid (∀ w', Below wr.heap.size wr w' → w'.cell? ⟨g3, k * 2, none⟩ = some (.int .u8 (r1 : Int)) ∧ w'.cell? ⟨g3, k * 2 + 1, none⟩ = some (.int .u8 (r2 : Int))) := Lib.hid fun w' hb' => by
          have e0 := flat_get pairL 2 pairL_length rs k _ hget 0 _ rfl
          have e1 := flat_get pairL 2 pairL_length rs k _ hget 1 _ rfl
          exact ⟨by rw [(own_below HO.out hb').cellAt _ (by omega)]; exact e0, by rw [(own_below HO.out hb').cellAt _ (by omega)]; exact e1⟩
        clear hget
        have hr1' : r1 < 256 := hr1
        have hr2' : r2 < 256 := hr2
        clear hr1 hr2 hgs3 hga3 hgb3 hB3 hO3
        generalize rowsU (rs.take k) = u at *
        go_wp2_with (fail)
        refine region_tail 14 (by kernel_rfl) (fun w' => Below wr.heap.size wr w') (fun w1 w2 => Below w1.heap.size w1 w2) (predsT (turns11 u g3 rs.length c3 k r1 r2)) (by kernel_rfl) (by kernel_rfl) (by kernel_rfl) (by kernel_rfl) (preds_keep _ (turns11_keep u g3 rs.length c3 k r1 r2)) (Below.refl _ _).drew ?_ ?_
        · refine ⟨?_, ?_, ?_, ?_, ?_, ?_, ?_, ?_, ?_, ?_, ?_, ?_, ?_, ?_, trivial⟩
          · refine ob_val (fun _ => Below.refl _ _) fun a' w' hS hI hD => ⟨rfl, setV u, ?_, rfl⟩
            have h0 : a'.tmps.getD 6 undef = Value.pointer (some ⟨w2.heap.size, 0, none⟩) := hS.at rfl
            simp only [execOp, Act.eval, h0]
            exact run_load_set w' _ 0 u (range_row (below_all hI HGS.out))
          · refine ob_val (fun _ => Below.refl _ _) fun a' w' hS hI hD => ⟨rfl, Value.slice (some ⟨g3, 0, none⟩) rs.length c3, ?_, rfl⟩
            have h0 : a'.tmps.getD 7 undef = Value.slice (some ⟨g3, 0, none⟩) rs.length c3 := hS.at rfl
            simp only [execOp, Act.eval, h0]
            rfl
          · refine ob_val (fun _ => Below.refl _ _) fun a' w' hS hI hD => ⟨rfl, Value.int .i64 (k : Int), ?_, rfl⟩
            have h0 : a'.tmps.getD 8 undef = Value.int .i64 (k : Int) := hS.at rfl
            simp only [execOp, Act.eval, h0]
            rfl
          · refine ob_val (fun _ => Below.refl _ _) fun a' w' hS hI hD => ⟨rfl, Value.pointer (some ⟨g3, k * 2, none⟩), ?_, rfl⟩
            have h0 : a'.tmps.getD 44 undef = Value.slice (some ⟨g3, 0, none⟩) rs.length c3 := dep_at hD 1 (by kernel_rfl)
            have h1 : a'.tmps.getD 45 undef = Value.int .i64 (k : Int) := dep_at hD 2 (by kernel_rfl)
            simp only [execOp, Act.eval, h0, h1]
            clear h0 h1
            go_simp
          · refine ob_val (fun _ => Below.refl _ _) fun a' w' hS hI hD => ⟨rfl, Value.pointer (some ⟨g3, k * 2, none⟩), ?_, rfl⟩
            have h0 : a'.tmps.getD 46 undef = Value.pointer (some ⟨g3, k * 2, none⟩) := dep_at hD 3 (by kernel_rfl)
            simp only [execOp, Act.eval, h0]
            clear h0
            go_simp
          · refine ob_val (fun _ => Below.refl _ _) fun a' w' hS hI hD => ⟨rfl, Value.int .u8 (r1 : Int), ?_, rfl⟩
            have h0 : a'.tmps.getD 47 undef = Value.pointer (some ⟨g3, k * 2, none⟩) := dep_at hD 4 (by kernel_rfl)
            simp only [execOp, Act.eval, h0]
            clear h0
            have hc := (HC0.out w' hI).1
            go_simp
          · refine ob_val (fun _ => Below.refl _ _) fun a' w' hS hI hD => ⟨rfl, Value.slice (some ⟨g3, 0, none⟩) rs.length c3, ?_, rfl⟩
            have h0 : a'.tmps.getD 7 undef = Value.slice (some ⟨g3, 0, none⟩) rs.length c3 := hS.at rfl
            simp only [execOp, Act.eval, h0]
            rfl
          · refine ob_val (fun _ => Below.refl _ _) fun a' w' hS hI hD => ⟨rfl, Value.int .i64 (k : Int), ?_, rfl⟩
            have h0 : a'.tmps.getD 8 undef = Value.int .i64 (k : Int) := hS.at rfl
            simp only [execOp, Act.eval, h0]
            rfl
          · refine ob_val (fun _ => Below.refl _ _) fun a' w' hS hI hD => ⟨rfl, Value.pointer (some ⟨g3, k * 2, none⟩), ?_, rfl⟩
            have h0 : a'.tmps.getD 49 undef = Value.slice (some ⟨g3, 0, none⟩) rs.length c3 := dep_at hD 6 (by kernel_rfl)
            have h1 : a'.tmps.getD 50 undef = Value.int .i64 (k : Int) := dep_at hD 7 (by kernel_rfl)
            simp only [execOp, Act.eval, h0, h1]
            clear h0 h1
            go_simp
          · refine ob_val (fun _ => Below.refl _ _) fun a' w' hS hI hD => ⟨rfl, Value.pointer (some ⟨g3, k * 2 + 1, none⟩), ?_, rfl⟩
            have h0 : a'.tmps.getD 51 undef = Value.pointer (some ⟨g3, k * 2, none⟩) := dep_at hD 8 (by kernel_rfl)
            simp only [execOp, Act.eval, h0]
            clear h0
            go_simp
          · refine ob_val (fun _ => Below.refl _ _) fun a' w' hS hI hD => ⟨rfl, Value.int .u8 (r2 : Int), ?_, rfl⟩
            have h0 : a'.tmps.getD 52 undef = Value.pointer (some ⟨g3, k * 2 + 1, none⟩) := dep_at hD 9 (by kernel_rfl)
            simp only [execOp, Act.eval, h0]
            clear h0
            have hc := (HC0.out w' hI).2
            go_simp
          · refine ob_call fun a' w' hS hI hD => ⟨rfl, 20, #[.int .u8 (r1 : Int), .int .u8 (r2 : Int)], ?_, ?_⟩
            · have h0 : a'.tmps.getD 48 undef = Value.int .u8 (r1 : Int) := dep_at hD 5 (by kernel_rfl)
              have h1 : a'.tmps.getD 53 undef = Value.int .u8 (r2 : Int) := dep_at hD 10 (by kernel_rfl)
              rw [run_call 20 _ _ rfl (enters_of Tryd.func20 (by kernel_rfl) rfl)]
              simp only [List.map_toArray, List.map_cons, List.map_nil, Act.eval, h0, h1]
            · exact (range_calls r1 r2 hr1' hr2' w').mono fun e w'' ⟨he, hb⟩ => ⟨_, he, rfl, hb, below_more hI hI.size hb⟩
          · refine ob_new fun a' w' hS hI hD => ⟨rfl, .slice (some ⟨w'.heap.size, 0, none⟩) 2 2, w'.alloc (.cells (setC (u) ++ setC (rangeS r1 r2)) 24), ?_, sets_two (heap_alloc_new _ _), (Below.refl _ _).alloc (Nat.le_refl _) _, hI.alloc hI.size _⟩
            have h0 : a'.tmps.getD 43 undef = setV u := dep_at hD 0 (by kernel_rfl)
            have h1 : a'.tmps.getD 54 undef = setV (rangeS r1 r2) := dep_at hD 11 (by kernel_rfl)
            simp only [execOp, Act.eval, List.map_toArray, List.map_cons, List.map_nil, h0, h1, Sem.run_bind, Sem.run_pure, Result.andThen_ok, run_build_set2]
          · refine ob_call fun a' w' hS hI hD => ⟨rfl, 24, #[a'.tmps.getD 55 undef], ?_, ?_⟩
            · rw [run_call 24 _ _ rfl (enters_of Tryd.func24 (by kernel_rfl) rfl)]
              simp only [List.map_toArray, List.map_cons, List.map_nil, Act.eval]
            · have h0 : Sets w' (a'.tmps.getD 55 undef) [u, rangeS r1 r2] := dep_at hD 12 (by kernel_rfl)
              exact (union_calls _ _ w' h0).mono fun e w'' ⟨he, hb⟩ => ⟨_, he, rfl, hb, below_more hI hI.size hb⟩
        · intro v4 w4 hI hT4
          have H13 : v4 13 = setV (unionS [u, rangeS r1 r2]) := tall_at _ _ hT4 13 (by decide) (by decide)
          have G4 := below_all hI HGS.out
          simp only [List.take_succ_cons, List.take_zero, List.drop_succ_cons, List.drop_zero, putAll, Act.put, List.setIfInBounds_toArray, List.set_cons_succ, List.set_cons_zero, Nat.reduceAdd]
          refine st_set rfl (.tmp 6) (.tmp 56) rfl w2.heap.size rfl _ H13 _ _ G4 ?_
          intro w5 hg5 hgr5
          have hga5 := heap_kept hgr5 (below_all hI HGA.out) (by simp; omega)
          have hgb5 := heap_kept hgr5 (below_all hI HGB.out) (by simp; omega)
          have hO5 := (own_below HO.out hI).kept hgr5 (Classical.or_iff_not_imp_left.2 fun _ e => own_ne HO.out (Nat.lt_succ_self w2.heap.size) e.symm)
          have hB5 := (below_more HB.out HB.out.size hI).grown hgr5 (by have := hI.size; have := HB.out.size; omega) (fun k e => by cases e; omega)
          have G5 := Lib.hid hg5
          have GA5 := Lib.hid hga5
          have GB5 := Lib.hid hgb5
          have O5 := Lib.hid hO5
          have B5 := Lib.hid hB5
          clear hg5 hga5 hgb5 hO5 hB5 hgr5 G4 H13 hT4 hI HC0
          unfold wpList
          dsimp only [Act.put]
          go_wp2_with (fail)
          exact ⟨⟨k + 1, by omega, by go_num, by rw [HSN.out]; exact G5.out, GA5.out, GB5.out, O5.out, B5.out⟩, by simp [intOf]; omega⟩
      · obtain rfl : k = rs.length := by omega
        rw [List.take_of_length_le (Nat.le_refl _), HRU.out] at HGS
        have HT4 := Lib.hid (hT.below HB.out)
        clear HRU HRB HRS HO hgs3 hga3 hgb3 hB3 hO3
        obtain ⟨wo, rfl⟩ : ∃ wo : World, wo = wr := ⟨_, rfl⟩
        go_wp2_with (first | (refine ld_set rfl (.tmp 2) rfl _ rfl _ _ HGA.out ?_) | (refine ld_set rfl (.tmp 3) rfl _ rfl _ _ HGB.out ?_) | (refine build_set2 rfl (.tmp 57) (.tmp 58) rfl _ _ rfl rfl ?_) |
          (go_at_call 29; refine (cut_calls _ [a, b] _ (sets_two (heap_alloc_new _ _)) (HT4.out.below ((Below.refl _ _).alloc (Nat.le_refl _) _))).mono ?_; rintro e w6 ⟨⟨v9, rfl, hown6⟩, hb6⟩))
        have hz6 : wo.heap.size + 1 ≤ w6.heap.size := by simpa using hb6.size
        have hga6 := below_all hb6 (heap_alloc (o' := .cells (setC a ++ setC b) 24) HGA.out)
        have hgs6 := below_all hb6 (heap_alloc (o' := .cells (setC a ++ setC b) 24) HGS.out)
        have hB6 : Below w.heap.size w w6 := below_more (HB.out.alloc HB.out.size (.cells (setC a ++ setC b) 24)) (by have := HB.out.size; simp; omega) hb6
        have hO6 := own_mono hown6 (base' := wo.heap.size + 1) (by simp)
        have HSC := Lib.hid (sumC_cut [a, b])
        have HWI := Lib.hid (within_cut a [a, b] (by simp))
        have HC4 := Lib.hid (cut_four a b)
        have HSS := Lib.hid (sumC_snoc (cutS [a, b]))
        have HWS := Lib.hid (within_snoc a (cutS [a, b]))
        clear hb6 hown6 HGA HGB HGS HT4
        generalize cutS [a, b] = ps at *
        have hc4 := HC4.out
        obtain ⟨A9, c9, hv9⟩ := own_shape hO6
        subst hv9
        have HO6 := Lib.hid hO6
        have HGA6 := Lib.hid hga6
        have HGS6 := Lib.hid hgs6
        have HB6 := Lib.hid hB6
        have hs6 := hB6.size
        have hn9 : w6.heap.size + 0 = w6.heap.size := rfl
        go_loopw [10, 12] (fun n i wi => ∃ (k m : Nat), k ≤ ps.length ∧ i = .int .i64 k ∧ n = .int .i64 m ∧ m = sumC (ps.take k) ∧ m ≤ 256 * k ∧ wi.heap[w6.heap.size]? = some (.cells (setC (within a (ps.take k))) 24 (0, 0)) ∧ Below w6.heap.size w6 wi) (fun _ i _ => ps.length - (intOf i).toNat)
        case atStart => exact ⟨0, 0, Nat.zero_le _, rfl, rfl, rfl, Nat.zero_le _, by rw [show within a (ps.take 0) = 0#256 from rfl]; exact heap_alloc_new w6 (.cells (setC 0#256) 24), (Below.refl _ _).alloc (Nat.le_refl _) _⟩
        case round =>
          obtain ⟨k, m, hk, rfl, rfl, hm, hm2, hgw, hBi⟩ := hrel
          have HM := Lib.hid hm
          have HGW := Lib.hid hgw
          have hwi := heap_lt hgw
          clear hm hgw
          by_cases hlt9 : k < ps.length
          · obtain ⟨g9, c', hA, hg9⟩ := own_form HO6.out (by omega)
            cases hA
            have HSN := Lib.hid (HSS.out k hlt9)
            have HWN := Lib.hid (HWS.out k hlt9)
            have hget := List.getElem?_eq_getElem hlt9
            have hcx := countS_le ps[k]
            generalize ps[k] = x at *
            have HX := Lib.hid (own_range (own_below HO6.out hBi) rfl k x hget)
            generalize hcxe : countS x = cx at *
            have HCX := Lib.hid hcxe
            clear hcxe
            generalize within a (ps.take k) = u at *
            have HCC : Hid (∀ w : World, Calls Tryd.prog 13 #[setV x] w fun e w' => e = .returned (.int .i64 cx) ∧ Below w.heap.size w w') := Lib.hid fun w => by
              have := count_calls x w
              rw [HCX.out] at this
              exact this
            go_wp2_with (first | (refine ld_set_mid rfl (.tmp 70) rfl _ _ rfl _ HX.out ?_) | (go_at_call 13; refine (HCC.out _).mono ?_; rintro e w7 ⟨rfl, hb7⟩))
            have HX7 : Hid (∀ w', Below w7.heap.size w7 w' → w'.rangeAt g9 (k * 4) (setC x).toList) := Lib.hid fun w' hb => own_range (own_below (own_below (own_below HO6.out hBi) hb7) hb) rfl k x hget
            have HGA7 := Lib.hid (below_all hb7 (below_all hBi HGA6.out))
            have HGW7 := Lib.hid (below_all hb7 HGW.out)
            have HB7 := Lib.hid (below_more hBi hBi.size hb7)
            have hs7 := HB7.out.size
            clear hget HX HCC hb7 hBi hwi HGW
            refine region_all (by kernel_rfl) (fun w' => Below w7.heap.size w7 w') (fun w1 w2 => Below w1.heap.size w1 w2) (predsT (turns19 a x g9 ps.length c9 k)) (by kernel_rfl) (by kernel_rfl) (by kernel_rfl) (preds_keep _ (turns19_keep a x g9 ps.length c9 k)) (Below.refl _ _).drew ?_ ?_
            · refine ⟨?_, ?_, ?_, ?_, ?_, ?_, ?_, ?_, ?_, ?_, ?_, ?_, trivial⟩
              · refine ob_val (fun _ => Below.refl _ _) fun a' w' hS hI hD => ⟨rfl, Value.slice (some ⟨g9, 0, none⟩) ps.length c9, ?_, rfl⟩
                have h0 : a'.tmps.getD 9 undef = Value.slice (some ⟨g9, 0, none⟩) ps.length c9 := hS.at rfl
                simp only [execOp, Act.eval, h0]
                rfl
              · refine ob_val (fun _ => Below.refl _ _) fun a' w' hS hI hD => ⟨rfl, Value.int .i64 (k : Int), ?_, rfl⟩
                have h0 : a'.tmps.getD 12 undef = Value.int .i64 (k : Int) := hS.at rfl
                simp only [execOp, Act.eval, h0]
                rfl
              · refine ob_val (fun _ => Below.refl _ _) fun a' w' hS hI hD => ⟨rfl, Value.pointer (some ⟨g9, k * 4, none⟩), ?_, rfl⟩
                have h0 : a'.tmps.getD 74 undef = Value.slice (some ⟨g9, 0, none⟩) ps.length c9 := dep_at hD 0 (by kernel_rfl)
                have h1 : a'.tmps.getD 75 undef = Value.int .i64 (k : Int) := dep_at hD 1 (by kernel_rfl)
                simp only [execOp, Act.eval, h0, h1]
                clear h0 h1
                go_simp
              · refine ob_val (fun _ => Below.refl _ _) fun a' w' hS hI hD => ⟨rfl, setV x, ?_, rfl⟩
                have h0 : a'.tmps.getD 76 undef = Value.pointer (some ⟨g9, k * 4, none⟩) := dep_at hD 2 (by kernel_rfl)
                simp only [execOp, Act.eval, h0]
                exact run_load_set w' g9 (k * 4) x (HX7.out w' hI)
              · refine ob_val (fun _ => Below.refl _ _) fun a' w' hS hI hD => ⟨rfl, setV a, ?_, rfl⟩
                have h0 : a'.tmps.getD 2 undef = Value.pointer (some ⟨w.heap.size, 0, none⟩) := hS.at rfl
                simp only [execOp, Act.eval, h0]
                exact run_load_set w' _ 0 a (range_row (below_all hI HGA7.out))
              · refine ob_new fun a' w' hS hI hD => ⟨rfl, .slice (some ⟨w'.heap.size, 0, none⟩) 2 2, w'.alloc (.cells (setC (x) ++ setC (a)) 24), ?_, sets_two (heap_alloc_new _ _), (Below.refl _ _).alloc (Nat.le_refl _) _, hI.alloc hI.size _⟩
                have h0 : a'.tmps.getD 77 undef = setV x := dep_at hD 3 (by kernel_rfl)
                have h1 : a'.tmps.getD 78 undef = setV a := dep_at hD 4 (by kernel_rfl)
                simp only [execOp, Act.eval, List.map_toArray, List.map_cons, List.map_nil, h0, h1, Sem.run_bind, Sem.run_pure, Result.andThen_ok, run_build_set2]
              · refine ob_call fun a' w' hS hI hD => ⟨rfl, 26, #[a'.tmps.getD 79 undef], ?_, ?_⟩
                · rw [run_call 26 _ _ rfl (enters_of Tryd.func26 (by kernel_rfl) rfl)]
                  simp only [List.map_toArray, List.map_cons, List.map_nil, Act.eval]
                · have h0 : Sets w' (a'.tmps.getD 79 undef) [x, a] := dep_at hD 5 (by kernel_rfl)
                  exact (inter_calls _ _ w' h0 (by simp)).mono fun e w'' ⟨he, hb⟩ => ⟨_, he, rfl, hb, below_more hI hI.size hb⟩
              · refine ob_val (fun _ => Below.refl _ _) fun a' w' hS hI hD => ⟨rfl, Value.slice (some ⟨g9, 0, none⟩) ps.length c9, ?_, rfl⟩
                have h0 : a'.tmps.getD 9 undef = Value.slice (some ⟨g9, 0, none⟩) ps.length c9 := hS.at rfl
                simp only [execOp, Act.eval, h0]
                rfl
              · refine ob_val (fun _ => Below.refl _ _) fun a' w' hS hI hD => ⟨rfl, Value.int .i64 (k : Int), ?_, rfl⟩
                have h0 : a'.tmps.getD 12 undef = Value.int .i64 (k : Int) := hS.at rfl
                simp only [execOp, Act.eval, h0]
                rfl
              · refine ob_val (fun _ => Below.refl _ _) fun a' w' hS hI hD => ⟨rfl, Value.pointer (some ⟨g9, k * 4, none⟩), ?_, rfl⟩
                have h0 : a'.tmps.getD 81 undef = Value.slice (some ⟨g9, 0, none⟩) ps.length c9 := dep_at hD 7 (by kernel_rfl)
                have h1 : a'.tmps.getD 82 undef = Value.int .i64 (k : Int) := dep_at hD 8 (by kernel_rfl)
                simp only [execOp, Act.eval, h0, h1]
                clear h0 h1
                go_simp
              · refine ob_val (fun _ => Below.refl _ _) fun a' w' hS hI hD => ⟨rfl, setV x, ?_, rfl⟩
                have h0 : a'.tmps.getD 83 undef = Value.pointer (some ⟨g9, k * 4, none⟩) := dep_at hD 9 (by kernel_rfl)
                simp only [execOp, Act.eval, h0]
                exact run_load_set w' g9 (k * 4) x (HX7.out w' hI)
              · refine ob_val (fun _ => Below.refl _ _) fun a' w' hS hI hD => ⟨rfl, Value.bool (interS [x, a] == x), ?_, rfl⟩
                have h0 : a'.tmps.getD 80 undef = setV (interS [x, a]) := dep_at hD 6 (by kernel_rfl)
                have h1 : a'.tmps.getD 84 undef = setV x := dep_at hD 10 (by kernel_rfl)
                simp only [execOp, Act.eval, h0, h1, Sem.run_bind, Sem.run_pure, Result.andThen_ok, eqGuard_set, eql_set]
            · intro v8 w8 hI hT8
              have h11 : v8 11 = .bool (interS [x, a] == x) := tall_at _ _ hT8 11 (by decide) (by decide)
              have HX8 : Hid (∀ w', Below w8.heap.size w8 w' → w'.rangeAt g9 (k * 4) (setC x).toList) := Lib.hid fun w' hb => HX7.out w' (below_more hI hI.size hb)
              have HGA8 := Lib.hid (below_all hI HGA7.out)
              have HGW8 := Lib.hid (below_all hI HGW7.out)
              have HB8 := Lib.hid (below_more HB7.out HB7.out.size hI)
              clear hT8 hI HX7 HGA7 HGW7 HB7 hs7
              generalize hq : (interS [x, a] == x) = q at *
              simp only [putAll, Act.put, List.setIfInBounds_toArray, List.set_cons_succ, List.set_cons_zero, Nat.reduceAdd, h11]
              clear h11 hq
              cases q
              · go_wp2_with (fail)
                exact ⟨⟨k + 1, m + cx, by omega, by go_num, by go_num, by rw [HSN.out, HM.out], by omega, by rw [HWN.out]; exact HGW8.out, HB8.out⟩, by simp [intOf]; omega⟩
              · go_wp2_with (fail)
                refine region_tail 7 (by kernel_rfl) (fun w' => Below w8.heap.size w8 w') (fun w1 w2 => Below w1.heap.size w1 w2) (predsT (turns20 u x g9 ps.length c9 k)) (by kernel_rfl) (by kernel_rfl) (by kernel_rfl) (by kernel_rfl) (preds_keep _ (turns20_keep u x g9 ps.length c9 k)) (Below.refl _ _).drew ?_ ?_
                · refine ⟨?_, ?_, ?_, ?_, ?_, ?_, ?_, trivial⟩
                  · refine ob_val (fun _ => Below.refl _ _) fun a' w' hS hI hD => ⟨rfl, setV u, ?_, rfl⟩
                    have h0 : a'.tmps.getD 11 undef = Value.pointer (some ⟨w6.heap.size, 0, none⟩) := hS.at rfl
                    simp only [execOp, Act.eval, h0]
                    exact run_load_set w' _ 0 u (range_row (below_all hI HGW8.out))
                  · refine ob_val (fun _ => Below.refl _ _) fun a' w' hS hI hD => ⟨rfl, Value.slice (some ⟨g9, 0, none⟩) ps.length c9, ?_, rfl⟩
                    have h0 : a'.tmps.getD 9 undef = Value.slice (some ⟨g9, 0, none⟩) ps.length c9 := hS.at rfl
                    simp only [execOp, Act.eval, h0]
                    rfl
                  · refine ob_val (fun _ => Below.refl _ _) fun a' w' hS hI hD => ⟨rfl, Value.int .i64 (k : Int), ?_, rfl⟩
                    have h0 : a'.tmps.getD 12 undef = Value.int .i64 (k : Int) := hS.at rfl
                    simp only [execOp, Act.eval, h0]
                    rfl
                  · refine ob_val (fun _ => Below.refl _ _) fun a' w' hS hI hD => ⟨rfl, Value.pointer (some ⟨g9, k * 4, none⟩), ?_, rfl⟩
                    have h0 : a'.tmps.getD 87 undef = Value.slice (some ⟨g9, 0, none⟩) ps.length c9 := dep_at hD 1 (by kernel_rfl)
                    have h1 : a'.tmps.getD 88 undef = Value.int .i64 (k : Int) := dep_at hD 2 (by kernel_rfl)
                    simp only [execOp, Act.eval, h0, h1]
                    clear h0 h1
                    go_simp
                  · refine ob_val (fun _ => Below.refl _ _) fun a' w' hS hI hD => ⟨rfl, setV x, ?_, rfl⟩
                    have h0 : a'.tmps.getD 89 undef = Value.pointer (some ⟨g9, k * 4, none⟩) := dep_at hD 3 (by kernel_rfl)
                    simp only [execOp, Act.eval, h0]
                    exact run_load_set w' g9 (k * 4) x (HX8.out w' hI)
                  · refine ob_new fun a' w' hS hI hD => ⟨rfl, .slice (some ⟨w'.heap.size, 0, none⟩) 2 2, w'.alloc (.cells (setC (u) ++ setC (x)) 24), ?_, sets_two (heap_alloc_new _ _), (Below.refl _ _).alloc (Nat.le_refl _) _, hI.alloc hI.size _⟩
                    have h0 : a'.tmps.getD 86 undef = setV u := dep_at hD 0 (by kernel_rfl)
                    have h1 : a'.tmps.getD 90 undef = setV x := dep_at hD 4 (by kernel_rfl)
                    simp only [execOp, Act.eval, List.map_toArray, List.map_cons, List.map_nil, h0, h1, Sem.run_bind, Sem.run_pure, Result.andThen_ok, run_build_set2]
                  · refine ob_call fun a' w' hS hI hD => ⟨rfl, 24, #[a'.tmps.getD 91 undef], ?_, ?_⟩
                    · rw [run_call 24 _ _ rfl (enters_of Tryd.func24 (by kernel_rfl) rfl)]
                      simp only [List.map_toArray, List.map_cons, List.map_nil, Act.eval]
                    · have h0 : Sets w' (a'.tmps.getD 91 undef) [u, x] := dep_at hD 5 (by kernel_rfl)
                      exact (union_calls _ _ w' h0).mono fun e w'' ⟨he, hb⟩ => ⟨_, he, rfl, hb, below_more hI hI.size hb⟩
                · intro v9 w9 hI hT9
                  have H6 : v9 6 = setV (unionS [u, x]) := tall_at _ _ hT9 6 (by decide) (by decide)
                  have G9 := below_all hI HGW8.out
                  simp only [List.take_succ_cons, List.take_zero, List.drop_succ_cons, List.drop_zero, putAll, Act.put, List.setIfInBounds_toArray, List.set_cons_succ, List.set_cons_zero, Nat.reduceAdd]
                  refine st_set rfl (.tmp 11) (.tmp 92) rfl w6.heap.size rfl _ H6 _ _ G9 ?_
                  intro w10 hg10 hgr10
                  have hB10 := (below_more HB8.out HB8.out.size hI).grown hgr10 (by have := hI.size; have := HB8.out.size; omega) (fun k e => by cases e; omega)
                  have G10 := Lib.hid hg10
                  have B10 := Lib.hid hB10
                  clear hg10 hB10 hgr10 G9 H6 hT9 hI HX8 HGA8 HGW8 HB8
                  unfold wpList
                  dsimp only [Act.put]
                  go_wp2_with (fail)
                  exact ⟨⟨k + 1, m + cx, by omega, by go_num, by go_num, by rw [HSN.out, HM.out], by omega, by rw [HWN.out]; exact G10.out, B10.out⟩, by simp [intOf]; omega⟩
          · obtain rfl : k = ps.length := by omega
            rw [List.take_of_length_le (Nat.le_refl _), HWI.out] at HGW
            have hm256 : m = 256 := by rw [HM.out, List.take_of_length_le (Nat.le_refl _), HSC.out]
            subst hm256
            have HGA7 := Lib.hid (below_all hBi HGA6.out)
            have HGS7 := Lib.hid (below_all hBi HGS6.out)
            have HBF := Lib.hid (below_more HB6.out HB6.out.size hBi)
            have hps : (ps.length : Int) ≤ 4 := by omega
            clear HM HSC HWI HC4 HSS HWS HO6 HGA6 HGS6 HB6 hBi hga6 hgs6 hB6 hO6
            go_wp2_with (first | (refine ld_set rfl (.tmp 6) rfl _ rfl _ _ HGS7.out ?_) | (refine ld_set rfl (.tmp 2) rfl _ rfl _ _ HGA7.out ?_) | (refine wp_eql_set (.tmp 93) (.tmp 94) _ rfl rfl _ _ rfl rfl ?_; rw [beq_self_eq_true]) |
              (refine ld_set_mid_g (.tmp 11) rfl rfl _ _ rfl _ (range_row HGW.out) ?_) | (refine ld_set_mid_g (.tmp 2) rfl rfl _ _ rfl _ (range_row HGA7.out) ?_) | (refine wp_eql_set (.tmp 101) (.tmp 102) _ rfl rfl _ _ rfl rfl ?_; rw [beq_self_eq_true]))
            go_ret
            exact ⟨rfl, HBF.out⟩
end Go.Proofs.YtekodfpjoehooaaDoor.Bs
