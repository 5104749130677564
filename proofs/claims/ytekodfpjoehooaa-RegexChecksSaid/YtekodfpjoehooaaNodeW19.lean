/- The walks of Lit and of the reference's Lit. -/
import Derived.Test.YtekodfpjoehooaaNodeRow
namespace Go.Proofs.Ytekodfpjoehooaa.Bs
open Go.RowKit Mem Reg
/-- the pattern of one byte -/
def litN (b : UInt8) : Nd := .mk 0 (bit b.toNat) 0 0 []
def litV (b : UInt8) : NV := (litN b, .slice none 0 0)
theorem rangeS_one (b : Nat) (hb : b < 256) : rangeS b b = bit b := by
  have h := range_empty b b (Nat.le_refl _)
  unfold rangeS
  unfold build at h ⊢
  rw [List.range_succ, List.foldl_append, h]
  simp
theorem map_fst_lit (l : List UInt8) : (l.map litV).map (·.1) = l.map litN := by simp [litV]
theorem lit_sum (l : List UInt8) : ((l.map litN).map Nd.size).sum = l.length := by
  induction l with
  | nil => rfl
  | cons b l ih => simp only [List.map_cons, List.sum_cons, ih, litN, size_mk, List.map_nil, List.sum_nil, List.length_cons]; omega
theorem lit_snoc (s : ByteArray) (k : Nat) (h : k < s.size) : (s.data.toList.take (k + 1)).map litV = (s.data.toList.take k).map litV ++ [litV s[k]] := by
  rw [List.take_succ_eq_append_getElem (by rw [Array.length_toList]; exact h), List.map_append]; rfl
set_option maxHeartbeats 3200000 in
set_option maxRecDepth 100000 in
theorem rlit_calls (s : ByteArray) (hs : s.size ≤ 1000) (w : World) :
    Calls Try.prog 12 #[.string s] w fun e w' => (∃ r, e = .returned (ndV 1 0#256 0 0 r) ∧ Kids w' (fun b => w.heap.size ≤ b) r (s.data.toList.map litN)) ∧ Below w.heap.size w w' := by
  have HL : Hid (s.data.toList.length = s.size) := Lib.hid (by rw [Array.length_toList]; rfl)
  have HB1 : Hid (Below w.heap.size w (w.alloc (.cells (ndC 0 0#256 0 0 (.slice none 0 0)) 28))) := Lib.hid ((Below.refl _ _).alloc (Nat.le_refl _) _)
  have HG1 := Lib.hid (heap_alloc_new w (.cells (ndC 0 0#256 0 0 (.slice none 0 0)) 28))
  go_enter Try.func12, Try.ntmps12
  go_wp2
  go_loopw [3, 4] (fun v i wr => ∃ k : Nat, k ≤ s.size ∧ i = .int .i64 k ∧ NRow wr (w.heap.size + 1) v ((s.data.toList.take k).map litV) ∧ wr.heap[w.heap.size]? = some (.cells (ndC 0 0#256 0 0 (.slice none 0 0)) 28 (0, 0)) ∧ Below w.heap.size w wr) (fun _ i _ => s.size - (intOf i).toNat)
  case atStart => exact ⟨0, Nat.zero_le _, rfl, NRow.nil _ _, HG1.out, HB1.out⟩
  case round =>
    clear HG1 HB1
    obtain ⟨k, hk, rfl, hrow, hg, hB⟩ := hrel
    have HR := Lib.hid hrow
    have HG := Lib.hid hg
    have hzr : w.heap.size + 1 ≤ wr.heap.size := by have := heap_lt hg; omega
    clear hrow hg
    by_cases hlt : k < s.size
    · have hb := UInt8.toNat_lt s[k]
      have HS := Lib.hid (lit_snoc s k hlt)
      have HLN : Hid (((s.data.toList.take k).map litV).length = k) := Lib.hid (by have := HL.out; simp; omega)
      obtain ⟨v0, hv0⟩ : ∃ v0, u3 = v0 := ⟨_, rfl⟩
      clear hv0
      go_wp2_with (first | (go_at_call 35; refine (with_calls 0#256 s[k].toNat (by omega) _).mono ?_; rintro e w1 ⟨rfl, hb1⟩; rw [BitVec.zero_or]) | (go_at_call 15; refine (rset_calls (bit s[k].toNat) _).mono ?_; rintro e w2 ⟨rfl, hb2⟩; have HB2 := Lib.hid (below_more hb1 hb1.size hb2); have hz2 := HB2.out.size; clear hb1 hb2) |
        (refine build_nd1 rfl (.tmp 17) rfl 0 (bit s[k].toNat) 0 0 (.slice none 0 0) rfl ?_) |
        (refine append_row rfl (.tmp 11) (.tmp 18) rfl (w.heap.size + 1) _ _ rfl ((HR.out.keep HB2.out).keep ((Below.refl _ _).alloc (Nat.le_refl _) _)) (by simp; omega) (litV s[k]) (Kids.nil _ _) _ _ rfl (heap_alloc_new _ _) (by rw [HLN.out]; omega) ?_; intro v4 w4 hrow4 hgr4; have HR4 := Lib.hid hrow4; have HGR4 := Lib.hid hgr4; clear hrow4 hgr4))
      have hbn : Below w2.heap.size w2 (w2.alloc (.cells (ndC 0 (bit s[k].toNat) 0 0 (.slice none 0 0)) 28)) := (Below.refl _ _).alloc (Nat.le_refl _) _
      have hb5 := below_more (below_more hB (by omega) HB2.out) (by omega) hbn
      refine ⟨⟨k + 1, by omega, by go_num, by rw [HS.out]; exact HR4.out, heap_kept HGR4.out (below_all hbn (below_all HB2.out HG.out)) (fun e => by have := HR.out.low (Nat.le_refl _) _ e.symm; omega), hb5.grown HGR4.out (by simp; omega) (HR.out.low (by omega))⟩, by simp [intOf]; omega⟩
    · obtain rfl : k = s.size := by omega
      have HT : Hid (s.data.toList.take s.size = s.data.toList) := Lib.hid (List.take_of_length_le (by rw [HL.out]; omega))
      rw [HT.out] at HR
      have HKS := Lib.hid (HR.out.kids (by simp; have := HL.out; simp at this; omega))
      rw [map_fst_lit] at HKS
      obtain ⟨A, c, hA, _⟩ := HKS.out.form
      subst hA
      rw [List.length_map, HL.out] at HKS
      go_wp2_with (first | (go_at_call 17; refine (many_calls 1 A _ c _).mono ?_; rintro e w2 ⟨rfl, hb2⟩; have HB2 := Lib.hid hb2; have HG2 := Lib.hid (below_all hb2 HG.out); have hz2 := hb2.size; clear hb2) |
        (refine st_nd rfl (.tmp 2) (.tmp 21) rfl _ rfl 1 0#256 0 0 _ rfl rfl _ rfl _ HG2.out ?_; intro w5 hg5 hgr5))
      exact ret_nd 2 rfl _ _ 1 0#256 0 0 _ rfl hg5 rfl ⟨⟨_, rfl, (HKS.out.keep HB2.out).move fun b hb hlt => ⟨by omega, hgr5.block b hlt (fun e => by simp only [Option.some.injEq] at e; omega)⟩⟩, (below_more hB (by omega) HB2.out).grown hgr5 (by omega) (fun k e => by simp only [Option.some.injEq] at e; omega)⟩
set_option maxHeartbeats 3200000 in
set_option maxRecDepth 100000 in
theorem lit_calls (s : ByteArray) (hs : s.size ≤ 1000) (w : World) :
    Calls Try.prog 11 #[.string s] w fun e w' => (∃ r, e = .returned (ndV 1 0#256 0 0 r) ∧ Kids w' (fun b => w.heap.size ≤ b) r (s.data.toList.map litN)) ∧ Below w.heap.size w w' := by
  have HL : Hid (s.data.toList.length = s.size) := Lib.hid (by rw [Array.length_toList]; rfl)
  have HB1 : Hid (Below w.heap.size w (w.alloc (.cells (ndC 0 0#256 0 0 (.slice none 0 0)) 28))) := Lib.hid ((Below.refl _ _).alloc (Nat.le_refl _) _)
  have HG1 := Lib.hid (heap_alloc_new w (.cells (ndC 0 0#256 0 0 (.slice none 0 0)) 28))
  have HBY : Hid (∀ j (h : j < s.size), s.data.toList.getD j 0 = s[j]) := Lib.hid fun j h => by rw [List.getD_eq_getElem?_getD, List.getElem?_eq_getElem (by rw [Array.length_toList]; exact h)]; rfl
  go_enter Try.func11, Try.ntmps11
  go_wp2_with (refine wpList_str_bytes rfl 9 52 5 (.tmp 6) rfl s rfl Try.underlying9 Try.underlying52 Try.underlying5 ?_; intro w1 c hb1 hz1 hc1; have HC := Lib.hid hc1; have HBB := Lib.hid hb1; clear hc1 hb1)
  have he : ∀ o, (w.alloc o).heap.size = w.heap.size + 1 := fun o => by simp
  rw [he] at hz1
  have HC' : Hid (∀ j, j < s.size → w1.cell? ⟨w.heap.size + 1, j, none⟩ = some (.int .u8 (s.data.toList.getD j 0).toNat)) := Lib.hid fun j hj => by
    have h := HC.out j hj
    rw [he] at h
    exact h
  have HG1' := Lib.hid (below_all HBB.out HG1.out)
  have HB1' := Lib.hid (below_more HB1.out (by simp) HBB.out)
  clear HC HG1 HB1 HBB he
  go_loopw [3, 9] (fun v i wr => ∃ k : Nat, k ≤ s.size ∧ i = .int .i64 k ∧ NRow wr (w.heap.size + 2) v ((s.data.toList.take k).map litV) ∧ wr.heap[w.heap.size]? = some (.cells (ndC 0 0#256 0 0 (.slice none 0 0)) 28 (0, 0)) ∧ wr.heap[w.heap.size + 1]? = w1.heap[w.heap.size + 1]? ∧ Below w.heap.size w wr) (fun _ i _ => s.size - (intOf i).toNat)
  case atStart => exact ⟨0, Nat.zero_le _, rfl, NRow.nil _ _, HG1'.out, rfl, HB1'.out⟩
  case round =>
    clear HG1' HB1'
    obtain ⟨k, hk, rfl, hrow, hg, hby, hB⟩ := hrel
    have HR := Lib.hid hrow
    have HG := Lib.hid hg
    have HBK := Lib.hid hby
    clear hrow hg hby
    by_cases hlt : k < s.size
    · have hb := UInt8.toNat_lt s[k]
      have HS := Lib.hid (lit_snoc s k hlt)
      have HLN : Hid (((s.data.toList.take k).map litV).length = k) := Lib.hid (by have := HL.out; simp; omega)
      have hck : wr.cell? ⟨w.heap.size + 1, k, none⟩ = some (.int .u8 s[k].toNat) := by
        rw [World.cell?_of_block (a := ⟨w.heap.size + 1, k, none⟩) HBK.out, HC'.out k hlt, HBY.out k hlt]
      have hzr : w.heap.size + 2 ≤ wr.heap.size := by
        have h1 := World.block_lt_of_cell? wr _ hck
        have h2 : w.heap.size + 1 < wr.heap.size := h1
        omega
      generalize s[k] = bb at *
      have HRG : Hid (setV (rangeS bb.toNat bb.toNat) = setV (bit bb.toNat)) := Lib.hid (by rw [rangeS_one _ hb])
      go_wp2_with (first | (go_at_call 38; refine (range_calls bb.toNat bb.toNat hb hb _).mono ?_; rintro e w2 ⟨rfl, hb1⟩; rw [HRG.out]) | (go_at_call 14; refine (set_calls (bit bb.toNat) _).mono ?_; rintro e w3 ⟨rfl, hb2⟩; have HB2 := Lib.hid (below_more hb1 hb1.size hb2); have hz2 := HB2.out.size; clear hb1 hb2) |
        (refine build_nd1 rfl (.tmp 17) rfl 0 (bit bb.toNat) 0 0 (.slice none 0 0) rfl ?_) |
        (refine append_row rfl (.tmp 13) (.tmp 18) rfl (w.heap.size + 2) _ _ rfl ((HR.out.keep HB2.out).keep ((Below.refl _ _).alloc (Nat.le_refl _) _)) (by simp; omega) (litV bb) (Kids.nil _ _) _ _ rfl (heap_alloc_new _ _) (by rw [HLN.out]; omega) ?_; intro v4 w4 hrow4 hgr4; have HR4 := Lib.hid hrow4; have HGR4 := Lib.hid hgr4; clear hrow4 hgr4))
      have hbn : Below w3.heap.size w3 (w3.alloc (.cells (ndC 0 (bit bb.toNat) 0 0 (.slice none 0 0)) 28)) := (Below.refl _ _).alloc (Nat.le_refl _) _
      have hb5 := below_more (below_more hB (by omega) HB2.out) (by omega) hbn
      have hbr := below_more HB2.out HB2.out.size hbn
      refine ⟨⟨k + 1, by omega, by go_num, by rw [HS.out]; exact HR4.out, heap_kept HGR4.out (below_all hbr HG.out) (fun e => by have := HR.out.low (Nat.le_refl _) _ e.symm; omega), ?_, hb5.grown HGR4.out (by simp; omega) (HR.out.low (by omega))⟩, by simp [intOf]; omega⟩
      rw [HGR4.out.block _ (by simp; omega) (fun e => by have := HR.out.low (Nat.le_refl _) _ e.symm; omega), hbr.block _ (by omega)]
      exact HBK.out
    · obtain rfl : k = s.size := by omega
      have hzr : w.heap.size + 1 ≤ wr.heap.size := by have := heap_lt HG.out; omega
      have HT : Hid (s.data.toList.take s.size = s.data.toList) := Lib.hid (List.take_of_length_le (by rw [HL.out]; omega))
      rw [HT.out] at HR
      have HKS := Lib.hid (HR.out.kids (by simp; have := HL.out; simp at this; omega))
      rw [map_fst_lit] at HKS
      obtain ⟨A, c2, hA, _⟩ := HKS.out.form
      subst hA
      have HSM : Hid (((s.data.toList.map litN).map Nd.size).sum ≤ 1000000) := Lib.hid (by rw [lit_sum, HL.out]; omega)
      rw [List.length_map, HL.out] at HKS
      go_wp2_with (first | (go_at_call 39; refine (of_calls 1 _ HSM.out _ _ _ HKS.out).mono ?_; rintro e w2 ⟨⟨r, rfl, hk2⟩, hb2⟩; have HB2 := Lib.hid hb2; have HK2 := Lib.hid hk2; have H2 := Lib.hid hk2.oneCell; have HG2 := Lib.hid (below_all hb2 HG.out); have hz2 := hb2.size; clear hb2 hk2) |
        (refine st_nd rfl (.tmp 2) (.tmp 22) rfl _ rfl 1 0#256 0 0 _ rfl H2.out _ rfl _ HG2.out ?_; intro w5 hg5 hgr5))
      exact ret_nd 2 rfl _ _ 1 0#256 0 0 _ rfl hg5 rfl ⟨⟨_, rfl, HK2.out.move fun b hb hlt => ⟨by omega, hgr5.block b hlt (fun e => by simp only [Option.some.injEq] at e; omega)⟩⟩, (below_more hB (by omega) HB2.out).grown hgr5 (by omega) (fun k e => by simp only [Option.some.injEq] at e; omega)⟩
end Go.Proofs.Ytekodfpjoehooaa.Bs
