/- The walks of Not and Union. -/
import Derived.Test.YtekodfpjoehooaaDoorSetW2
namespace Go.Proofs.YtekodfpjoehooaaDoor.Bs
open Go.RowKit Mem
/-- two sets' limbs, the first i of the second one -/
def mix (i : Nat) (s t : BitVec 256) : Array Value := #[.int .u64 (if 0 < i then limN t 0 else limN s 0), .int .u64 (if 1 < i then limN t 1 else limN s 1), .int .u64 (if 2 < i then limN t 2 else limN s 2), .int .u64 (if 3 < i then limN t 3 else limN s 3)]
theorem mix_zero (s t : BitVec 256) : mix 0 s t = setC s := rfl
theorem mix_four (s t : BitVec 256) : mix 4 s t = setC t := rfl
theorem mix_step (k : Nat) (s t : BitVec 256) (hk : k < 4) : (mix k s t).setIfInBounds k (.int .u64 (limN t k)) = mix (k + 1) s t := by
  rcases (by omega : k = 0 ∨ k = 1 ∨ k = 2 ∨ k = 3) with rfl | rfl | rfl | rfl <;> rfl
theorem mix_get (k : Nat) (s t : BitVec 256) (hk : k < 4) : (mix k s t)[k]? = some (.int .u64 (limN s k)) := by
  rcases (by omega : k = 0 ∨ k = 1 ∨ k = 2 ∨ k = 3) with rfl | rfl | rfl | rfl <;> rfl
theorem setC_get (k : Nat) (s : BitVec 256) (hk : k < 4) : (setC s)[k]? = some (.int .u64 (limN s k)) := by
  rcases (by omega : k = 0 ∨ k = 1 ∨ k = 2 ∨ k = 3) with rfl | rfl | rfl | rfl <;> rfl
theorem not_calls (s : BitVec 256) (w : World) :
    Calls Tryd.prog 18 #[setV s] w fun e w' => e = .returned (setV (~~~ s)) ∧ Below w.heap.size w w' := by
  go_enter Tryd.func18, Tryd.ntmps18
  unfold setV
  go_wp2
  go_loopw [4] (fun i wr => ∃ k : Nat, k ≤ 4 ∧ i = .int .i64 k ∧ wr.heap[w.heap.size]? = some (.cells (mix k s (~~~ s)) 24 (0, 0)) ∧
      wr.heap[w.heap.size + 1]? = some (.cells (setC 0#256) 24 (0, 0)) ∧ Below w.heap.size w wr) (fun i _ => (4 - intOf i).toNat)
  case atStart => exact ⟨0, Nat.zero_le _, rfl, heap_alloc2_old _ _ _, heap_alloc2_new _ _ _, ((Below.refl _ _).alloc (Nat.le_refl _) _).alloc (by simp) _⟩
  case round =>
    obtain ⟨k, hk, rfl, hg0, hg1, hB⟩ := hrel
    have HG0 := Lib.hid hg0
    have HG1 := Lib.hid hg1
    have hsz := hB.size
    clear hg0 hg1
    by_cases hlt : k < 4
    · have hcell : wr.cell? ⟨w.heap.size, k, none⟩ = some (.int .u64 (limN s k)) := by
        rw [cell_of_row wr _ _ _ _ _ HG0.out]
        exact mix_get k _ _ hlt
      have hfr : wr.frozen? ⟨w.heap.size, k, none⟩ = false := frozen_of_row wr _ _ _ _ HG0.out
      go_wp2
      have hs := heap_setCell_same wr w.heap.size k (mix k s (~~~ s)) 24 (.int .u64 (limN (~~~ s) k)) HG0.out
      rw [mix_step k _ _ hlt] at hs
      rw [xor_limb s k hlt]
      exact ⟨⟨k + 1, by omega, by go_num, hs, heap_kept (grown_setCell _ _ _ _) HG1.out (by simp), hB.setCell (p := ⟨w.heap.size, k, none⟩) (Nat.le_refl _) _⟩, by simp [intOf]; omega⟩
    · obtain rfl : k = 4 := by omega
      rw [mix_four] at HG0
      go_wp2_with (first | (refine ld_set rfl (.tmp 1) rfl _ rfl _ _ HG0.out ?_) | (refine st_set rfl (.tmp 2) _ rfl _ rfl _ rfl _ _ HG1.out ?_; intro w' hg' hgr))
      exact ret_set 2 rfl _ _ _ rfl hg' rfl ⟨rfl, hB.grown hgr hsz (fun k e => by cases e; omega)⟩
/-- a slice of sets that reads as a list -/
abbrev Sets (w : World) (v : Value) (xs : List (BitVec 256)) : Prop := Row w 4 (fun s => (setC s).toList) v xs
def unionS (xs : List (BitVec 256)) : BitVec 256 := xs.foldl (· ||| ·) 0#256
theorem unionS_snoc (xs : List (BitVec 256)) (k : Nat) (h : k < xs.length) : unionS (xs.take (k + 1)) = unionS (xs.take k) ||| xs[k] := by
  unfold unionS; rw [List.take_succ_eq_append_getElem h, List.foldl_append]; rfl
theorem setC_ne (s : BitVec 256) : (setC s).toList ≠ [] := by simp [setC]
theorem union_calls (v : Value) (xs : List (BitVec 256)) (w : World) (hv : Sets w v xs) :
    Calls Tryd.prog 24 #[v] w fun e w' => e = .returned (setV (unionS xs)) ∧ Below w.heap.size w w' := by
  have HV := Lib.hid hv
  have hbound : xs.length * 4 ≤ 140737488355328 := let ⟨_, _, _, h, _⟩ := hv; h
  obtain ⟨A, cap, rfl⟩ := hv.length
  clear hv
  go_enter Tryd.func24, Tryd.ntmps24
  go_wp2
  go_loopw [9] (fun i wr => ∃ k : Nat, k ≤ xs.length ∧ i = .int .i64 k ∧ wr.heap[w.heap.size]? = some (.cells (setC 0#256) 24 (0, 0)) ∧
      wr.heap[w.heap.size + 1]? = some (.cells (setC (unionS (xs.take k))) 24 (0, 0)) ∧ Below w.heap.size w wr) (fun i _ => xs.length - (intOf i).toNat)
  case atStart => exact ⟨0, Nat.zero_le _, rfl, heap_alloc2_old _ _ _, (heap_alloc2_new w (.cells (setC 0#256) 24) (.cells (setC 0#256) 24)), ((Below.refl _ _).alloc (Nat.le_refl _) _).alloc (by simp) _⟩
  case round =>
    obtain ⟨wo, rfl⟩ : ∃ wo : World, wo = wr := ⟨_, rfl⟩
    obtain ⟨k, hk, rfl, hg0, hg1, hB⟩ := hrel
    have HG0 := Lib.hid hg0
    have HG1 := Lib.hid hg1
    have hsz := hB.size
    clear hg0 hg1
    by_cases hlt : k < xs.length
    · have HVr := Lib.hid (HV.out.below setC_ne (Nat.le_refl _) hB)
      obtain ⟨_, _, b, o, hA, hr⟩ := HVr.out.at (List.getElem?_eq_getElem hlt)
      cases hA
      have HR := Lib.hid hr
      clear hr
      have HS := Lib.hid (unionS_snoc xs k hlt)
      generalize xs[k] = x at *
      go_wp2_with (first | (refine ld_set_mid rfl (.tmp 11) rfl _ _ rfl _ HR.out ?_) | (refine st_set rfl (.tmp 5) _ rfl _ rfl _ rfl 0#256 _ (heap_alloc_new _ _) ?_; intro wx hx hgx))
      have hx0 : Below w.heap.size w wx := (hB.alloc hsz _).grown hgx (by simp; omega) (fun k e => by cases e; omega)
      have HX := Lib.hid hx
      have HX0 := Lib.hid (heap_kept hgx (heap_alloc (o' := .cells #[.int .u64 0, .int .u64 0, .int .u64 0, .int .u64 0] 24) HG0.out) (by have := heap_lt HG0.out; simp; omega))
      have HX1 := Lib.hid (heap_kept hgx (heap_alloc (o' := .cells #[.int .u64 0, .int .u64 0, .int .u64 0, .int .u64 0] 24) HG1.out) (by have := heap_lt HG1.out; simp; omega))
      have hw1 : w.heap.size + 1 < wo.heap.size := heap_lt HG1.out
      clear hx hgx
      obtain ⟨gx, hgx⟩ : ∃ gx, gx = wo.heap.size := ⟨_, rfl⟩
      rw [← hgx] at HX hw1 ⊢
      have HGX := Lib.hid hgx
      clear hgx
      generalize unionS (xs.take k) = s0 at *
      go_loopw [13] (fun i wi => ∃ j : Nat, j ≤ 4 ∧ i = .int .i64 j ∧ wi.heap[w.heap.size]? = some (.cells (setC 0#256) 24 (0, 0)) ∧
        wi.heap[w.heap.size + 1]? = some (.cells (mix j s0 (s0 ||| x)) 24 (0, 0)) ∧ wi.heap[gx]? = some (.cells (setC x) 24 (0, 0)) ∧ Below w.heap.size w wi) (fun i _ => (4 - intOf i).toNat)
      case atStart => exact ⟨0, Nat.zero_le _, rfl, HX0.out, HX1.out, HX.out, hx0⟩
      case round =>
        obtain ⟨j, hj, rfl, hi0, hi1, hi2, hBi⟩ := hrel
        have HI0 := Lib.hid hi0
        have HI1 := Lib.hid hi1
        have HI2 := Lib.hid hi2
        clear hi0 hi1 hi2
        by_cases hj4 : j < 4
        · have hc1 : wr.cell? ⟨w.heap.size + 1, j, none⟩ = some (.int .u64 (limN s0 j)) := by rw [cell_of_row wr _ _ _ _ _ HI1.out]; exact mix_get j _ _ hj4
          have hf1 : wr.frozen? ⟨w.heap.size + 1, j, none⟩ = false := frozen_of_row wr _ _ _ _ HI1.out
          have hc2 : wr.cell? ⟨gx, j, none⟩ = some (.int .u64 (limN x j)) := by rw [cell_of_row wr _ _ _ _ _ HI2.out]; exact setC_get j _ hj4
          go_wp2_with (fail)
          go_region
          go_wp2_with (fail)
          rw [or_limbs]
          have hs := heap_setCell_same wr (w.heap.size + 1) j (mix j s0 (s0 ||| x)) 24 (.int .u64 (limN (s0 ||| x) j)) HI1.out
          rw [mix_step j _ _ hj4] at hs
          have hgr := grown_setCell_drew wr (w.heap.size + 1) j (.int .u64 (limN (s0 ||| x) j))
          exact ⟨⟨j + 1, by omega, by go_num, heap_kept hgr HI0.out (by simp), hs, heap_kept hgr HI2.out (by simp; omega), hBi.grown hgr hBi.size (fun k e => by cases e; omega)⟩, by simp [intOf]; omega⟩
        · obtain rfl : j = 4 := by omega
          rw [mix_four] at HI1
          go_wp2_with (fail)
          exact ⟨⟨k + 1, by omega, by go_num, HI0.out, by rw [HS.out]; exact HI1.out, hBi⟩, by simp [intOf]; omega⟩
    · go_wp2_with (first | (refine ld_set rfl (.tmp 3) rfl _ rfl _ _ HG1.out ?_) | (refine st_set rfl (.tmp 2) _ rfl _ rfl _ rfl _ _ HG0.out ?_; intro w' hg' hgr))
      refine ret_set 2 rfl _ _ _ rfl hg' rfl ⟨?_, hB.grown hgr hsz (fun k e => by cases e; omega)⟩
      rw [List.take_of_length_le (by omega)]
set_option maxRecDepth 100000 in
theorem rnot_calls (s : BitVec 256) (w : World) :
    Calls Tryd.prog 19 #[setV s] w fun e w' => e = .returned (setV (~~~ s)) ∧ Below w.heap.size w w' := by
  have e256 : build (fun b => !s.getLsbD b) 256 = ~~~ s := by
    apply BitVec.eq_of_getLsbD_eq
    intro i hi
    rw [build_getLsbD _ _ _ hi, BitVec.getLsbD_not]
  have HE := Lib.hid e256
  clear e256
  go_enter Tryd.func19, Tryd.ntmps19
  go_wp2_with (refine box_set rfl (.tmp 0) rfl s rfl ?_)
  go_loopw [4] (fun i wr => ∃ k : Nat, k ≤ 256 ∧ i = .int .i64 k ∧ wr.heap[w.heap.size]? = some (.cells (setC s) 24 (0, 0)) ∧ wr.heap[w.heap.size + 1]? = some (.cells (setC 0#256) 24 (0, 0)) ∧
      wr.heap[w.heap.size + 2]? = some (.cells (setC (build (fun b => !s.getLsbD b) k)) 24 (0, 0)) ∧ Below w.heap.size w wr) (fun i _ => (256 - intOf i).toNat)
  case atStart =>
    have z0 : (#[.int .u64 0, .int .u64 0, .int .u64 0, .int .u64 0] : Array Value) = setC 0#256 := rfl
    rw [z0]
    exact ⟨0, Nat.zero_le _, rfl, heap_alloc (heap_alloc2_old _ _ _), heap_alloc (heap_alloc2_new _ _ _), heap_alloc3_new _ _ _ _, below_alloc3 _ _ _ _⟩
  case round =>
    obtain ⟨k, hk, rfl, hg0, hg1, hg2, hB⟩ := hrel
    have HG0 := Lib.hid hg0
    have HG1 := Lib.hid hg1
    have HG2 := Lib.hid hg2
    have hsz := hB.size
    clear hg0 hg1 hg2
    by_cases hlt : k < 256
    · have HBS := Lib.hid (build_succ (fun b => !s.getLsbD b) k)
      cases hb : s.getLsbD k
      all_goals
        have HGB := Lib.hid hb
        clear hb
        go_wp2_with (first | (refine ld_set rfl (.tmp 1) rfl _ rfl _ _ HG0.out ?_) | (go_at_call 12; refine (rhas_calls s k (by omega) _).mono ?_; rintro e w1 ⟨rfl, hb1⟩; rw [HGB.out]; have HG3 := Lib.hid (below_all hb1 HG2.out); have hb2 := below_more hB hsz hb1; have hs1 := hb2.size) | (refine ld_set rfl (.tmp 3) rfl _ rfl _ _ HG3.out ?_) |
          (go_at_call 34; refine (with_calls _ k (by omega) _).mono ?_; rintro e w2 ⟨rfl, hb3⟩; have HG4 := Lib.hid (below_all hb3 HG3.out)) | (refine st_set rfl (.tmp 3) _ rfl _ rfl _ rfl _ _ HG4.out ?_; intro w3 hg3 hgr))
        have hbs : build (fun b => !s.getLsbD b) (k + 1) = _ := (HBS.out).trans (by rw [HGB.out])
        first
          | exact ⟨⟨k + 1, by omega, by go_num, below_all hb1 HG0.out, below_all hb1 HG1.out, by rw [hbs]; exact HG3.out, hb2⟩, by simp [intOf]; omega⟩
          | exact ⟨⟨k + 1, by omega, by go_num, heap_kept hgr (below_all hb3 (below_all hb1 HG0.out)) (by simp <;> omega), heap_kept hgr (below_all hb3 (below_all hb1 HG1.out)) (by simp <;> omega), by rw [hbs]; exact hg3, (below_more hb2 hs1 hb3).grown hgr (by have := hb3.size; omega) (fun k e => by cases e; omega)⟩, by simp [intOf]; omega⟩
    · obtain rfl : k = 256 := by omega
      rw [HE.out] at HG2
      go_wp2_with (first | (refine ld_set rfl (.tmp 3) rfl _ rfl _ _ HG2.out ?_) | (refine st_set rfl (.tmp 2) _ rfl _ rfl _ rfl _ _ HG1.out ?_; intro w' hg' hgr))
      exact ret_set 2 rfl _ _ _ rfl hg' rfl ⟨rfl, hB.grown hgr hsz (fun k e => by cases e; omega)⟩
end Go.Proofs.YtekodfpjoehooaaDoor.Bs
