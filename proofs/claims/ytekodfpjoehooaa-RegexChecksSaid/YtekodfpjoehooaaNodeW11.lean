/- The walks of (*tally).see, (*walk).all, Size, Bytes. -/
import Derived.Test.YtekodfpjoehooaaNodeW10
namespace Go.Proofs.Ytekodfpjoehooaa.Bs
open Go.RowKit Mem Reg
/-- what has been counted -/
def tlC (m : Nat) (s : BitVec 256) : Array Value := #[.int .i64 m, .int .u64 (limN s 0), .int .u64 (limN s 1), .int .u64 (limN s 2), .int .u64 (limN s 3)]
theorem tl_set {w : World} {g m : Nat} {s : BitVec 256} {t : TypeId} (h : w.heap[g]? = some (.cells (tlC m s) t (0, 0))) : w.rangeAt g 1 (setC s).toList := by
  intro j v hj
  have hj4 : j < 4 := (List.getElem?_eq_some_iff.1 hj).1
  rw [cell_of_row w g _ _ _ _ h]
  rcases (by omega : j = 0 ∨ j = 1 ∨ j = 2 ∨ j = 3) with rfl | rfl | rfl | rfl <;> exact hj
theorem tl_there {w : World} {g m : Nat} {s : BitVec 256} {t : TypeId} (h : w.heap[g]? = some (.cells (tlC m s) t (0, 0))) : w.there g 1 4 := by
  intro j hj
  rw [cell_of_row w g _ _ _ _ h, frozen_of_row w g _ _ _ h]
  rcases (by omega : j = 0 ∨ j = 1 ∨ j = 2 ∨ j = 3) with rfl | rfl | rfl | rfl <;> exact ⟨rfl, rfl⟩
theorem tl_store {w : World} {g m : Nat} {s st : BitVec 256} {t : TypeId} (h : w.heap[g]? = some (.cells (tlC m s) t (0, 0))) : (w.setCells g 1 (setC st).toList).heap[g]? = some (.cells (tlC m st) t (0, 0)) := by
  have h1 := heap_setCell_same w g 1 _ _ (.int .u64 (limN st 0)) h
  have h2 := heap_setCell_same _ g 2 _ _ (.int .u64 (limN st 1)) h1
  have h3 := heap_setCell_same _ g 3 _ _ (.int .u64 (limN st 2)) h2
  exact heap_setCell_same _ g 4 _ _ (.int .u64 (limN st 3)) h3
theorem tl_grown (w : World) (g : Nat) (st : BitVec 256) : w.grownBy (w.setCells g 1 (setC st).toList) (some g) :=
  grown_trans (grown_trans (grown_trans (grown_setCell w g 1 _) (grown_setCell _ g 2 _)) (grown_setCell _ g 3 _)) (grown_setCell _ g 4 _)
def seeS (op : Int) (s st : BitVec 256) : BitVec 256 := if op = 0 then s ||| st else s
theorem union_two (s st : BitVec 256) : unionS [s, st] = s ||| st := by simp [unionS]
def seeR (w : World) (g : Nat) (s st : BitVec 256) : List (Value → World → Prop) := [
  fun v _ => v = Value.pointer (some ⟨g, 0, none⟩),
  fun v _ => v = Value.pointer (some ⟨g, 0, none⟩),
  fun v _ => v = Value.pointer (some ⟨g, 0, none⟩),
  fun v _ => v = Value.pointer (some ⟨g, 1, none⟩),
  fun v _ => v = setV s,
  fun v _ => v = Value.pointer (some ⟨w.heap.size, 1, none⟩),
  fun v _ => v = setV st,
  fun v w => Sets w v [s, st],
  fun v _ => v = setV (unionS [s, st]),
  fun v _ => v = Value.pointer (some ⟨g, 0, none⟩),
  fun v _ => v = Value.pointer (some ⟨g, 1, none⟩)]
theorem seeR_keep (w : World) (g : Nat) (s st : BitVec 256) : PredsKeep (seeR w g s st) :=
  ⟨fun _ _ _ h _ => h,
  fun _ _ _ h _ => h,
  fun _ _ _ h _ => h,
  fun _ _ _ h _ => h,
  fun _ _ _ h _ => h,
  fun _ _ _ h _ => h,
  fun _ _ _ h _ => h,
  fun _ _ _ h hE => Row.below h setC_ne (Nat.le_refl _) hE,
  fun _ _ _ h _ => h,
  fun _ _ _ h _ => h,
  fun _ _ _ h _ => h, trivial⟩
set_option maxHeartbeats 3200000 in
set_option maxRecDepth 100000 in
theorem see_calls (m g ty : Nat) (s : BitVec 256) (op : Int) (st : BitVec 256) (mn mx : Int) (kv : Value) (hm : m ≤ 4611686018427387904) (w : World) (hg : w.heap[g]? = some (.cells (tlC m s) ty (0, 0))) :
    Calls Try.prog 50 #[.pointer (some ⟨g, 0, none⟩), ndV op st mn mx kv] w fun e w' => e = .returned (.tuple #[]) ∧ w'.heap[g]? = some (.cells (tlC (m + 1) (seeS op s st)) ty (0, 0)) ∧ w.grownBy w' (some g) := by
  have hlt := heap_lt hg
  have HG := Lib.hid hg
  have HB0 : Hid (Below w.heap.size w (w.alloc (.cells (ndC op st mn mx kv) 28))) := Lib.hid ((Below.refl _ _).alloc (Nat.le_refl _) _)
  have hg1 := below_all HB0.out hg
  have hn1 := heap_alloc_new w (.cells (ndC op st mn mx kv) 28)
  have hc0 : (w.alloc (.cells (ndC op st mn mx kv) 28)).cell? ⟨g, 0, none⟩ = some (.int .i64 m) := by rw [cell_of_row _ g _ _ _ _ hg1]; rfl
  have hf0 : (w.alloc (.cells (ndC op st mn mx kv) 28)).frozen? ⟨g, 0, none⟩ = false := frozen_of_row _ g _ _ _ hg1
  have hz0 : (w.setCell ⟨g, 0, none⟩ (.int .i64 ((m : Int) + 1))).heap.size = w.heap.size := by simp
  have HGS : Hid ((w.setCell ⟨g, 0, none⟩ (.int .i64 ((m : Int) + 1))).heap[g]? = some (.cells (tlC (m + 1) s) ty (0, 0))) := Lib.hid (by rw [heap_setCell_same w g 0 _ _ (.int .i64 ((m : Int) + 1)) hg]; simp [tlC])
  have hbn : Below (w.setCell ⟨g, 0, none⟩ (.int .i64 ((m : Int) + 1))).heap.size (w.setCell ⟨g, 0, none⟩ (.int .i64 ((m : Int) + 1))) ((w.setCell ⟨g, 0, none⟩ (.int .i64 ((m : Int) + 1))).alloc (.cells (ndC op st mn mx kv) 28)) := (Below.refl _ _).alloc (Nat.le_refl _) _
  have HG2 := Lib.hid (below_all hbn HGS.out)
  have HGR : Hid (w.grownBy ((w.setCell ⟨g, 0, none⟩ (.int .i64 ((m : Int) + 1))).alloc (.cells (ndC op st mn mx kv) 28)) (some g)) := Lib.hid (grown_trans (grown_setCell w g 0 _) (grown_of_below hbn (some g)))
  have HN2 : Hid (((w.setCell ⟨g, 0, none⟩ (.int .i64 ((m : Int) + 1))).alloc (.cells (ndC op st mn mx kv) 28)).heap[w.heap.size]? = some (.cells (ndC op st mn mx kv) 28 (0, 0))) := Lib.hid (by rw [← hz0]; exact heap_alloc_new _ _)
  have hz2 : ((w.setCell ⟨g, 0, none⟩ (.int .i64 ((m : Int) + 1))).alloc (.cells (ndC op st mn mx kv) 28)).heap.size = w.heap.size + 1 := by simp
  have hop := (nd_cell HN2.out).1
  clear hg hg1 hn1 hbn HGS hz0
  go_enter Try.func50, Try.ntmps50
  go_upto_region 2 with (refine box_nd rfl (.tmp 1) rfl op st mn mx _ rfl ?_)
  generalize (w.setCell ⟨g, 0, none⟩ (.int .i64 ((m : Int) + 1))).alloc (.cells (ndC op st mn mx kv) 28) = w3 at *
  by_cases h0 : op = 0
  · subst h0
    have HG3 := HG2
    have HN3 := HN2
    clear HG2 HN2 hc0 hf0
    go_upto_region 3 with (fail)
    refine region_tail 11 (by kernel_rfl) (fun w' => Below w3.heap.size w3 w') (fun w1 w2 => Below w1.heap.size w1 w2) (predsT (seeR w g s st)) (by kernel_rfl) (by kernel_rfl) (by kernel_rfl) (by kernel_rfl) (preds_keep _ (seeR_keep w g s st)) (Below.refl _ _).drew ?_ ?_
    · refine ⟨?_, ?_, ?_, ?_, ?_, ?_, ?_, ?_, ?_, ?_, ?_, trivial⟩
      · refine ob_val (fun _ => Below.refl _ _) fun a' w' hS hI hD => ⟨rfl, Value.pointer (some ⟨g, 0, none⟩), ?_, rfl⟩
        have h0 : a'.tmps.getD 0 undef = Value.pointer (some ⟨g, 0, none⟩) := hS.at rfl
        exact run_val (.tmp 0) (by first | exact .inl rfl | exact .inr rfl) _ h0
      · refine ob_val (fun _ => Below.refl _ _) fun a' w' hS hI hD => ⟨rfl, Value.pointer (some ⟨g, 0, none⟩), ?_, rfl⟩
        have h0 : a'.tmps.getD 0 undef = Value.pointer (some ⟨g, 0, none⟩) := hS.at rfl
        exact run_val (.tmp 0) (by first | exact .inl rfl | exact .inr rfl) _ h0
      · refine ob_val (fun _ => Below.refl _ _) fun a' w' hS hI hD => ⟨rfl, Value.pointer (some ⟨g, 0, none⟩), ?_, rfl⟩
        have h0 : a'.tmps.getD 15 undef = Value.pointer (some ⟨g, 0, none⟩) := dep_at hD 1 (by kernel_rfl)
        simp only [execOp, Act.eval, h0]
        rfl
      · refine ob_val (fun _ => Below.refl _ _) fun a' w' hS hI hD => ⟨rfl, Value.pointer (some ⟨g, 1, none⟩), ?_, rfl⟩
        have h0 : a'.tmps.getD 16 undef = Value.pointer (some ⟨g, 0, none⟩) := dep_at hD 2 (by kernel_rfl)
        simp only [execOp, Act.eval, h0]
        clear h0
        go_simp
      · refine ob_val (fun _ => Below.refl _ _) fun a' w' hS hI hD => ⟨rfl, setV s, ?_, rfl⟩
        have h0 : a'.tmps.getD 17 undef = Value.pointer (some ⟨g, 1, none⟩) := dep_at hD 3 (by kernel_rfl)
        simp only [execOp, Act.eval, h0]
        exact run_load_st' w' g 1 s (tl_set (below_all hI HG3.out))
      · refine ob_val (fun _ => Below.refl _ _) fun a' w' hS hI hD => ⟨rfl, Value.pointer (some ⟨w.heap.size, 1, none⟩), ?_, rfl⟩
        have h0 : a'.tmps.getD 3 undef = Value.pointer (some ⟨w.heap.size, 0, none⟩) := hS.at rfl
        simp only [execOp, Act.eval, h0]
        clear h0
        go_simp
      · refine ob_val (fun _ => Below.refl _ _) fun a' w' hS hI hD => ⟨rfl, setV st, ?_, rfl⟩
        have h0 : a'.tmps.getD 19 undef = Value.pointer (some ⟨w.heap.size, 1, none⟩) := dep_at hD 5 (by kernel_rfl)
        simp only [execOp, Act.eval, h0]
        exact run_load_st' w' (w.heap.size) 1 st (nd_set (below_all hI HN3.out))
      · refine ob_new fun a' w' hS hI hD => ⟨rfl, .slice (some ⟨w'.heap.size, 0, none⟩) 2 2, w'.alloc (.cells (setC s ++ setC st) 24), ?_, sets_two (heap_alloc_new _ _), (Below.refl _ _).alloc (Nat.le_refl _) _, hI.alloc hI.size _⟩
        have h0 : a'.tmps.getD 18 undef = setV s := dep_at hD 4 (by kernel_rfl)
        have h1 : a'.tmps.getD 20 undef = setV st := dep_at hD 6 (by kernel_rfl)
        simp only [execOp, Act.eval, List.map_toArray, List.map_cons, List.map_nil, h0, h1, Sem.run_bind, Sem.run_pure, Result.andThen_ok, run_build_set2]
      · refine ob_call fun a' w' hS hI hD => ⟨rfl, 53, #[a'.tmps.getD 21 undef], ?_, ?_⟩
        · rw [run_call 53 _ _ rfl (enters_of Try.func53 (by kernel_rfl) rfl)]
          simp only [List.map_toArray, List.map_cons, List.map_nil, Act.eval]
        · have h0 : Sets w' (a'.tmps.getD 21 undef) [s, st] := dep_at hD 7 (by kernel_rfl)
          exact (union_calls _ _ w' h0).mono fun e w'' ⟨he, hb⟩ => ⟨_, he, rfl, hb, below_more hI hI.size hb⟩
      · refine ob_val (fun _ => Below.refl _ _) fun a' w' hS hI hD => ⟨rfl, Value.pointer (some ⟨g, 0, none⟩), ?_, rfl⟩
        have h0 : a'.tmps.getD 14 undef = Value.pointer (some ⟨g, 0, none⟩) := dep_at hD 0 (by kernel_rfl)
        simp only [execOp, Act.eval, h0]
        rfl
      · refine ob_val (fun _ => Below.refl _ _) fun a' w' hS hI hD => ⟨rfl, Value.pointer (some ⟨g, 1, none⟩), ?_, rfl⟩
        have h0 : a'.tmps.getD 23 undef = Value.pointer (some ⟨g, 0, none⟩) := dep_at hD 9 (by kernel_rfl)
        simp only [execOp, Act.eval, h0]
        clear h0
        go_simp
    · intro v w' hI hT
      have h10 : v 10 = .pointer (some ⟨g, 1, none⟩) := tall_at _ _ hT 10 (by decide) (by decide)
      have h8 : v 8 = setV (unionS [s, st]) := tall_at _ _ hT 8 (by decide) (by decide)
      have HGa := Lib.hid (below_all hI HG3.out)
      have HGRa := Lib.hid (grown_trans HGR.out (grown_of_below hI (some g)))
      clear hT hI HG3 HN3 HGR
      simp only [List.take_succ_cons, List.take_zero, List.drop_succ_cons, List.drop_zero, putAll, Act.put, List.setIfInBounds_toArray, List.set_cons_succ, List.set_cons_zero, Nat.reduceAdd, h8, h10]
      refine wpList_store_mid rfl _ (.tmp 24) (.tmp 22) rfl g 1 (setC (unionS [s, st])) rfl rfl (tl_there HGa.out) (infoS' _) (setC_one _) ?_
      go_wp2_with (fail)
      go_end0
      refine ⟨rfl, ?_, grown_trans HGRa.out (tl_grown w' g _)⟩
      unfold seeS
      rw [if_pos rfl, ← union_two]
      exact tl_store HGa.out
  · have h0b : (op == 0) = false := by simpa using h0
    have HNE := Lib.hid h0
    clear h0
    go_wp2_with (fail)
    go_end0
    refine ⟨rfl, ?_, HGR.out⟩
    unfold seeS
    rw [if_neg HNE.out]
    exact HG2.out
end Go.Proofs.Ytekodfpjoehooaa.Bs
