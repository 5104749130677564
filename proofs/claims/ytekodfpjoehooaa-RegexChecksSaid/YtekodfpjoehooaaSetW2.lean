/- The walks of Range and Of. -/
import Derived.Test.YtekodfpjoehooaaSetW1
import Derived.Deep.LoopGhost
import Derived.OwnWalk
namespace Go.Proofs.Ytekodfpjoehooaa.Bs
open Go.RowKit Mem
theorem range_calls (lo hi : Nat) (hlo : lo < 256) (hhi : hi < 256) (w : World) :
    Calls Try.prog 38 #[.int .u8 lo, .int .u8 hi] w fun e w' => e = .returned (setV (rangeS lo hi)) ∧ Below w.heap.size w w' := by
  go_enter Try.func38, Try.ntmps38
  go_wp2
  go_loopw [6] (fun i wr => ∃ b : Nat, lo ≤ b ∧ (b ≤ hi + 1 ∨ b = lo) ∧ i = .int .i64 b ∧ wr.heap[w.heap.size]? = some (.cells (setC 0#256) 24 (0, 0)) ∧
      wr.heap[w.heap.size + 1]? = some (.cells (setC (build (fun b => decide (lo ≤ b)) b)) 24 (0, 0)) ∧ Below w.heap.size w wr) (fun i _ => (257 - intOf i).toNat)
  case atStart =>
    exact ⟨lo, Nat.le_refl _, .inr rfl, rfl, heap_alloc2_old _ _ _, by rw [range_empty lo lo (Nat.le_refl _)]; exact heap_alloc2_new _ _ _, ((Below.refl _ _).alloc (Nat.le_refl _) _).alloc (by simp) _⟩
  case round =>
    obtain ⟨b, hb1, hb2, rfl, hg0, hg1, hB⟩ := hrel
    have HG0 := Lib.hid hg0
    have HG1 := Lib.hid hg1
    have hsz := hB.size
    clear hg0 hg1
    by_cases hlt : b ≤ hi
    · go_wp2_with (go_at_call 47; refine (add_calls _ b (by omega) _ _ _ HG1.out).mono ?_; rintro e w' ⟨rfl, hg1', hgr⟩)
      refine ⟨⟨b + 1, by omega, .inl (by omega), by go_num, heap_kept hgr HG0.out (by simp), ?_, hB.grown hgr hsz (fun k e => by cases e; omega)⟩, by simp [intOf]; omega⟩
      rw [build_succ, if_pos (by simpa using hb1)]; exact hg1'
    · go_wp2_with (first | (refine ld_set rfl (.tmp 5) rfl _ rfl _ _ HG1.out ?_) | (refine st_set rfl (.tmp 4) _ rfl _ rfl _ rfl _ _ HG0.out ?_; intro w' hg' hgr))
      refine ret_set 4 rfl _ _ _ rfl hg' rfl ⟨?_, hB.grown hgr hsz (fun k e => by cases e; omega)⟩
      have e : build (fun b => decide (lo ≤ b)) b = rangeS lo hi := by
        unfold rangeS
        rcases hb2 with h | h
        · rw [show b = hi + 1 by omega]
        · rw [range_empty lo b (by omega), range_empty lo (hi + 1) (by omega)]
      rw [e]
theorem rrange_calls (lo hi : Nat) (hlo : lo < 256) (hhi : hi < 256) (w : World) :
    Calls Try.prog 36 #[.int .u8 lo, .int .u8 hi] w fun e w' => e = .returned (setV (rangeS lo hi)) ∧ Below w.heap.size w w' := by
  go_enter Try.func36, Try.ntmps36
  go_wp2
  go_loopw [6] (fun i wr => ∃ b : Nat, lo ≤ b ∧ (b ≤ hi + 1 ∨ b = lo) ∧ i = .int .i64 b ∧ wr.heap[w.heap.size]? = some (.cells (setC 0#256) 24 (0, 0)) ∧
      wr.heap[w.heap.size + 1]? = some (.cells (setC (build (fun b => decide (lo ≤ b)) b)) 24 (0, 0)) ∧ Below w.heap.size w wr) (fun i _ => (257 - intOf i).toNat)
  case atStart =>
    exact ⟨lo, Nat.le_refl _, .inr rfl, rfl, heap_alloc2_old _ _ _, by rw [range_empty lo lo (Nat.le_refl _)]; exact heap_alloc2_new _ _ _, ((Below.refl _ _).alloc (Nat.le_refl _) _).alloc (by simp) _⟩
  case round =>
    obtain ⟨b, hb1, hb2, rfl, hg0, hg1, hB⟩ := hrel
    have HG0 := Lib.hid hg0
    have HG1 := Lib.hid hg1
    have hsz := hB.size
    clear hg0 hg1
    by_cases hlt : b ≤ hi
    · go_wp2_with (first | (refine ld_set rfl (.tmp 5) rfl _ rfl _ _ HG1.out ?_) | (go_at_call 35; refine (with_calls _ b (by omega) _).mono ?_; rintro e w1 ⟨rfl, hb1⟩; have HG2 := Lib.hid (below_all hb1 HG1.out)) | (refine st_set rfl (.tmp 5) _ rfl _ rfl _ rfl _ _ HG2.out ?_; intro w2 hg2 hgr))
      refine ⟨⟨b + 1, by omega, .inl (by omega), by go_num, heap_kept hgr (below_all hb1 HG0.out) (by simp), ?_, (below_more hB hsz hb1).grown hgr (by have := hb1.size; omega) (fun k e => by cases e; omega)⟩, by simp [intOf]; omega⟩
      rw [build_succ, if_pos (by simp; omega)]; exact hg2
    · go_wp2_with (first | (refine ld_set rfl (.tmp 5) rfl _ rfl _ _ HG1.out ?_) | (refine st_set rfl (.tmp 4) _ rfl _ rfl _ rfl _ _ HG0.out ?_; intro w' hg' hgr))
      refine ret_set 4 rfl _ _ _ rfl hg' rfl ⟨?_, hB.grown hgr hsz (fun k e => by cases e; omega)⟩
      have e : build (fun b => decide (lo ≤ b)) b = rangeS lo hi := by
        unfold rangeS
        rcases hb2 with h | h
        · rw [show b = hi + 1 by omega]
        · rw [range_empty lo b (by omega), range_empty lo (hi + 1) (by omega)]
      rw [e]
theorem take_snoc (l : List UInt8) (k : Nat) (h : k < l.length) : l.take (k + 1) = l.take k ++ [l.getD k 0] := by
  rw [List.take_succ_eq_append_getElem h, List.getD_eq_getElem?_getD, List.getElem?_eq_getElem h]; rfl
theorem ofS_take (l : List UInt8) (k : Nat) (h : k < l.length) : ofS (l.take (k + 1)) = ofS (l.take k) ||| bit (l.getD k 0).toNat := by rw [take_snoc l k h, ofS_snoc]
theorem ofS_byte (s : ByteArray) (k : Nat) (h : k < s.size) : ofS (s.data.toList.take (k + 1)) = ofS (s.data.toList.take k) ||| bit s[k].toNat := by
  rw [ofS_take _ _ (by rw [Array.length_toList]; exact h)]
  have : s.data.toList.getD k 0 = s[k] := by rw [List.getD_eq_getElem?_getD, List.getElem?_eq_getElem (by rw [Array.length_toList]; exact h)]; rfl
  rw [this]
theorem rof_calls (s : ByteArray) (hs : s.size ≤ 140737488351232) (w : World) :
    Calls Try.prog 34 #[.string s] w fun e w' => e = .returned (setV (ofS s.data.toList)) ∧ Below w.heap.size w w' := by
  have hlen : s.data.toList.length = s.size := by rw [Array.length_toList]; rfl
  have HL := Lib.hid hlen
  clear hlen
  go_enter Try.func34, Try.ntmps34
  go_wp2
  go_loopw [4] (fun i wr => ∃ k : Nat, k ≤ s.size ∧ i = .int .i64 k ∧ wr.heap[w.heap.size]? = some (.cells (setC 0#256) 24 (0, 0)) ∧
      wr.heap[w.heap.size + 1]? = some (.cells (setC (ofS (s.data.toList.take k))) 24 (0, 0)) ∧ Below w.heap.size w wr) (fun i _ => s.size - (intOf i).toNat)
  case atStart => exact ⟨0, Nat.zero_le _, rfl, heap_alloc2_old _ _ _, by rw [show ofS (List.take 0 s.data.toList) = 0#256 from rfl]; exact heap_alloc2_new _ _ _, ((Below.refl _ _).alloc (Nat.le_refl _) _).alloc (by simp) _⟩
  case round =>
    obtain ⟨k, hk, rfl, hg0, hg1, hB⟩ := hrel
    have HG0 := Lib.hid hg0
    have HG1 := Lib.hid hg1
    have hsz := hB.size
    clear hg0 hg1
    by_cases hlt : k < s.size
    · have hb := UInt8.toNat_lt s[k]
      go_wp2_with (fail)
      go_still_tail 4, (by kernel_rfl)
      have HS := Lib.hid (ofS_byte s k hlt)
      refine still_ld_set rfl (.tmp 3) rfl _ rfl _ _ HG1.out ?_
      repeat still_step
      refine wpStill_nil ?_
      change wpList _ _ _ _ _ wr.drew
      replace hB : Below w.heap.size w wr.drew := hB.drew
      replace hsz : w.heap.size ≤ wr.drew.heap.size := hsz
      replace HG0 : Hid (wr.drew.heap[w.heap.size]? = _) := Lib.hid HG0.out
      replace HG1 : Hid (wr.drew.heap[w.heap.size + 1]? = _) := Lib.hid HG1.out
      generalize wr.drew = wd at *
      go_wp2_with (first | (go_at_call 35; refine (with_calls _ s[k].toNat (by omega) _).mono ?_; rintro e w1 ⟨rfl, hb1⟩; have HG2 := Lib.hid (below_all hb1 HG1.out)) | (refine st_set rfl (.tmp 3) _ rfl _ rfl _ rfl _ _ HG2.out ?_; intro w2 hg2 hgr))
      exact ⟨⟨k + 1, by omega, by go_num, heap_kept hgr (below_all hb1 HG0.out) (by simp), by rw [HS.out]; exact hg2, (below_more hB hsz hb1).grown hgr (by have := hb1.size; omega) (fun k e => by cases e; omega)⟩, by simp [intOf]; omega⟩
    · go_wp2_with (first | (refine ld_set rfl (.tmp 3) rfl _ rfl _ _ HG1.out ?_) | (refine st_set rfl (.tmp 2) _ rfl _ rfl _ rfl _ _ HG0.out ?_; intro w' hg' hgr))
      refine ret_set 2 rfl _ _ _ rfl hg' rfl ⟨?_, hB.grown hgr hsz (fun k e => by cases e; omega)⟩
      rw [List.take_of_length_le (by rw [HL.out]; omega)]
end Go.Proofs.Ytekodfpjoehooaa.Bs
