/- The walks of Not and Union. -/
import Derived.Test.YtekodfpjoehooaaSetW2
namespace Go.Proofs.Ytekodfpjoehooaa.Bs
open Go.RowKit Mem
/-- two sets' limbs, the first i of the second one -/
def mix (i : Nat) (s t : BitVec 256) : Array Value := #[.int .u64 (if 0 < i then limN t 0 else limN s 0), .int .u64 (if 1 < i then limN t 1 else limN s 1), .int .u64 (if 2 < i then limN t 2 else limN s 2), .int .u64 (if 3 < i then limN t 3 else limN s 3)]
theorem mix_zero (s t : BitVec 256) : mix 0 s t = setC s := rfl
theorem mix_four (s t : BitVec 256) : mix 4 s t = setC t := rfl
theorem mix_step (k : Nat) (s t : BitVec 256) (hk : k < 4) : (mix k s t).setIfInBounds k (.int .u64 (limN t k)) = mix (k + 1) s t := by
  rcases (by omega : k = 0 ∨ k = 1 ∨ k = 2 ∨ k = 3) with rfl | rfl | rfl | rfl <;> rfl
theorem mix_get (k : Nat) (s t : BitVec 256) (hk : k < 4) : (mix k s t)[k]? = some (.int .u64 (limN s k)) := by
  rcases (by omega : k = 0 ∨ k = 1 ∨ k = 2 ∨ k = 3) with rfl | rfl | rfl | rfl <;> rfl
theorem setC_get (k : Nat) (s : BitVec 256) (hk : k < 4) : (setC s)[k]? = some (.int .u64 (limN s k)) := by
  rcases (by omega : k = 0 ∨ k = 1 ∨ k = 2 ∨ k = 3) with rfl | rfl | rfl | rfl <;> rfl
/-- a slice of sets that reads as a list -/
abbrev Sets (w : World) (v : Value) (xs : List (BitVec 256)) : Prop := Row w 4 (fun s => (setC s).toList) v xs
def unionS (xs : List (BitVec 256)) : BitVec 256 := xs.foldl (· ||| ·) 0#256
theorem unionS_snoc (xs : List (BitVec 256)) (k : Nat) (h : k < xs.length) : unionS (xs.take (k + 1)) = unionS (xs.take k) ||| xs[k] := by
  unfold unionS; rw [List.take_succ_eq_append_getElem h, List.foldl_append]; rfl
theorem setC_ne (s : BitVec 256) : (setC s).toList ≠ [] := by simp [setC]
theorem union_calls (v : Value) (xs : List (BitVec 256)) (w : World) (hv : Sets w v xs) :
    Calls Try.prog 53 #[v] w fun e w' => e = .returned (setV (unionS xs)) ∧ Below w.heap.size w w' := by
  have HV := Lib.hid hv
  have hbound : xs.length * 4 ≤ 140737488355328 := let ⟨_, _, _, h, _⟩ := hv; h
  obtain ⟨A, cap, rfl⟩ := hv.length
  clear hv
  go_enter Try.func53, Try.ntmps53
  go_wp2
  go_loopw [9] (fun i wr => ∃ k : Nat, k ≤ xs.length ∧ i = .int .i64 k ∧ wr.heap[w.heap.size]? = some (.cells (setC 0#256) 24 (0, 0)) ∧
      wr.heap[w.heap.size + 1]? = some (.cells (setC (unionS (xs.take k))) 24 (0, 0)) ∧ Below w.heap.size w wr) (fun i _ => xs.length - (intOf i).toNat)
  case atStart => exact ⟨0, Nat.zero_le _, rfl, heap_alloc2_old _ _ _, (heap_alloc2_new w (.cells (setC 0#256) 24) (.cells (setC 0#256) 24)), ((Below.refl _ _).alloc (Nat.le_refl _) _).alloc (by simp) _⟩
  case round =>
    obtain ⟨wo, rfl⟩ : ∃ wo : World, wo = wr := ⟨_, rfl⟩
    obtain ⟨k, hk, rfl, hg0, hg1, hB⟩ := hrel
    have HG0 := Lib.hid hg0
    have HG1 := Lib.hid hg1
    have hsz := hB.size
    clear hg0 hg1
    by_cases hlt : k < xs.length
    · have HVr := Lib.hid (HV.out.below setC_ne (Nat.le_refl _) hB)
      obtain ⟨_, _, b, o, hA, hr⟩ := HVr.out.at (List.getElem?_eq_getElem hlt)
      cases hA
      have HR := Lib.hid hr
      clear hr
      have HS := Lib.hid (unionS_snoc xs k hlt)
      generalize xs[k] = x at *
      go_wp2_with (first | (refine ld_set_mid rfl (.tmp 11) rfl _ _ rfl _ HR.out ?_) | (refine st_set rfl (.tmp 5) _ rfl _ rfl _ rfl 0#256 _ (heap_alloc_new _ _) ?_; intro wx hx hgx))
      have hx0 : Below w.heap.size w wx := (hB.alloc hsz _).grown hgx (by simp; omega) (fun k e => by cases e; omega)
      have HX := Lib.hid hx
      have HX0 := Lib.hid (heap_kept hgx (heap_alloc (o' := .cells #[.int .u64 0, .int .u64 0, .int .u64 0, .int .u64 0] 24) HG0.out) (by have := heap_lt HG0.out; simp; omega))
      have HX1 := Lib.hid (heap_kept hgx (heap_alloc (o' := .cells #[.int .u64 0, .int .u64 0, .int .u64 0, .int .u64 0] 24) HG1.out) (by have := heap_lt HG1.out; simp; omega))
      have hw1 : w.heap.size + 1 < wo.heap.size := heap_lt HG1.out
      clear hx hgx
      obtain ⟨gx, hgx⟩ : ∃ gx, gx = wo.heap.size := ⟨_, rfl⟩
      rw [← hgx] at HX hw1 ⊢
      have HGX := Lib.hid hgx
      clear hgx
      generalize unionS (xs.take k) = s0 at *
      go_loopw [13] (fun i wi => ∃ j : Nat, j ≤ 4 ∧ i = .int .i64 j ∧ wi.heap[w.heap.size]? = some (.cells (setC 0#256) 24 (0, 0)) ∧
        wi.heap[w.heap.size + 1]? = some (.cells (mix j s0 (s0 ||| x)) 24 (0, 0)) ∧ wi.heap[gx]? = some (.cells (setC x) 24 (0, 0)) ∧ Below w.heap.size w wi) (fun i _ => (4 - intOf i).toNat)
      case atStart => exact ⟨0, Nat.zero_le _, rfl, HX0.out, HX1.out, HX.out, hx0⟩
      case round =>
        obtain ⟨j, hj, rfl, hi0, hi1, hi2, hBi⟩ := hrel
        have HI0 := Lib.hid hi0
        have HI1 := Lib.hid hi1
        have HI2 := Lib.hid hi2
        clear hi0 hi1 hi2
        by_cases hj4 : j < 4
        · have hc1 : wr.cell? ⟨w.heap.size + 1, j, none⟩ = some (.int .u64 (limN s0 j)) := by rw [cell_of_row wr _ _ _ _ _ HI1.out]; exact mix_get j _ _ hj4
          have hf1 : wr.frozen? ⟨w.heap.size + 1, j, none⟩ = false := frozen_of_row wr _ _ _ _ HI1.out
          have hc2 : wr.cell? ⟨gx, j, none⟩ = some (.int .u64 (limN x j)) := by rw [cell_of_row wr _ _ _ _ _ HI2.out]; exact setC_get j _ hj4
          go_wp2_with (fail)
          go_region
          go_wp2_with (fail)
          rw [or_limbs]
          have hs := heap_setCell_same wr (w.heap.size + 1) j (mix j s0 (s0 ||| x)) 24 (.int .u64 (limN (s0 ||| x) j)) HI1.out
          rw [mix_step j _ _ hj4] at hs
          have hgr := grown_setCell_drew wr (w.heap.size + 1) j (.int .u64 (limN (s0 ||| x) j))
          exact ⟨⟨j + 1, by omega, by go_num, heap_kept hgr HI0.out (by simp), hs, heap_kept hgr HI2.out (by simp; omega), hBi.grown hgr hBi.size (fun k e => by cases e; omega)⟩, by simp [intOf]; omega⟩
        · obtain rfl : j = 4 := by omega
          rw [mix_four] at HI1
          go_wp2_with (fail)
          exact ⟨⟨k + 1, by omega, by go_num, HI0.out, by rw [HS.out]; exact HI1.out, hBi⟩, by simp [intOf]; omega⟩
    · go_wp2_with (first | (refine ld_set rfl (.tmp 3) rfl _ rfl _ _ HG1.out ?_) | (refine st_set rfl (.tmp 2) _ rfl _ rfl _ rfl _ _ HG0.out ?_; intro w' hg' hgr))
      refine ret_set 2 rfl _ _ _ rfl hg' rfl ⟨?_, hB.grown hgr hsz (fun k e => by cases e; omega)⟩
      rw [List.take_of_length_le (by omega)]
end Go.Proofs.Ytekodfpjoehooaa.Bs
