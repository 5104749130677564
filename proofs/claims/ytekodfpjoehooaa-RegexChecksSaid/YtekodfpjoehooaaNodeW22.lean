/- The walk of the reference's Back. -/
import Derived.Test.YtekodfpjoehooaaNodeW21
namespace Go.Proofs.Ytekodfpjoehooaa.Bs
open Go.RowKit Mem Reg
theorem backKs_length (op : Int) (ks : List Nd) : (backKs op ks).length = ks.length := by
  unfold backKs; split <;> simp
theorem backKs_get (op : Int) (ks : List Nd) (k m : Nat) (hk : k < ks.length) (hm : m = if op = 1 then ks.length - 1 - k else k) (hml : m < ks.length) : (backKs op ks).take (k + 1) = (backKs op ks).take k ++ [(ks[m]).back] := by
  rw [List.take_succ_eq_append_getElem (by rw [backKs_length]; exact hk)]
  congr 2
  subst hm
  unfold backKs
  by_cases h : op = 1
  · simp only [h, if_true]
    rw [List.getElem_reverse]
    simp
  · simp only [h, if_false]
    simp
set_option maxHeartbeats 6400000 in
set_option maxRecDepth 100000 in
theorem rback_aux (n : Nat) : ∀ (t : Nd), SizeOf.sizeOf t ≤ n → t.size ≤ 1000000 → ∀ (Q : Nat → Prop) (v : Value) (w : World), NodeV w Q v t →
    Calls Try.prog 30 #[v] w fun e w' => (∃ r, e = .returned (ndV t.back.op t.back.set t.back.mn t.back.mx r) ∧ Kids w' (fun b => w.heap.size ≤ b) r t.back.kids) ∧ Below w.heap.size w w' := by
  induction n with
  | zero => intro t ht; obtain ⟨op, s, mn, mx, ks⟩ := t; simp only [Nd.mk.sizeOf_spec] at ht; omega
  | succ n IH =>
    intro t ht hsz Q v w hv
    obtain ⟨op, st, mn, mx, ks⟩ := t
    obtain ⟨kv, rfl, hk⟩ := hv
    obtain ⟨A, cap, rfl, hlen⟩ := hk.form
    have HK := Lib.hid hk
    have HIH : Hid (∀ i k, ks[i]? = some k → ∀ v w, NodeV w Q v k → Calls Try.prog 30 #[v] w fun e w' => (∃ r, e = .returned (ndV k.back.op k.back.set k.back.mn k.back.mx r) ∧ Kids w' (fun b => w.heap.size ≤ b) r k.back.kids) ∧ Below w.heap.size w w') := Lib.hid fun i k hi v w hv => by
      have hm := List.mem_of_getElem? hi
      have h1 := kid_lt op st mn mx ks k hm
      have h2 := le_sum_mem _ _ (List.mem_map_of_mem (f := Nd.size) hm)
      rw [size_mk] at hsz
      exact IH k (by omega) (by omega) Q v w hv
    have hln := kids_len_le op st mn mx ks
    have hln : ks.length ≤ 1000000 := by omega
    have HBK : Hid ((Nd.mk op st mn mx ks).back = .mk op st mn mx (backKs op ks)) := Lib.hid (back_mk' op st mn mx ks)
    rw [HBK.out]
    simp only [Nd.op, Nd.set, Nd.mn, Nd.mx, Nd.kids]
    have HBL := Lib.hid (backKs_length op ks)
    have HBG := Lib.hid (backKs_get op ks)
    generalize backKs op ks = bks at *
    have HZ : Hid (ndC 0 0#256 0 0 (.slice none 0 0) = #[.int .i64 0, .int .u64 0, .int .u64 0, .int .u64 0, .int .u64 0, .int .i64 0, .int .i64 0, .slice none 0 0]) := Lib.hid rfl
    have hb2 := below_alloc2 w (.cells (ndC op st mn mx (.slice A ks.length cap)) 28) (.cells (ndC 0 0#256 0 0 (.slice none 0 0)) 28)
    have hg1 := heap_alloc2_old w (.cells (ndC op st mn mx (.slice A ks.length cap)) 28) (.cells (ndC 0 0#256 0 0 (.slice none 0 0)) 28)
    have hg2 := heap_alloc2_new w (.cells (ndC op st mn mx (.slice A ks.length cap)) 28) (.cells (ndC 0 0#256 0 0 (.slice none 0 0)) 28)
    rw [HZ.out] at hb2 hg1 hg2
    have HB2 := Lib.hid hb2
    have HG1 := Lib.hid hg1
    have HG2 := Lib.hid hg2
    clear hk IH ht hsz hb2 hg1 hg2
    go_enter Try.func30, Try.ntmps30
    go_wp2_with (refine box_nd rfl (.tmp 0) rfl op st mn mx _ rfl ?_)
    go_loopw [3, 4] (fun v i wr => ∃ (k : Nat) (xs : List NV), k ≤ ks.length ∧ i = .int .i64 k ∧ xs.map (·.1) = bks.take k ∧ NRow wr (w.heap.size + 2) v xs ∧ wr.heap[w.heap.size]? = some (.cells (ndC op st mn mx (.slice A ks.length cap)) 28 (0, 0)) ∧ wr.heap[w.heap.size + 1]? = some (.cells (ndC 0 0#256 0 0 (.slice none 0 0)) 28 (0, 0)) ∧ Below w.heap.size w wr) (fun _ i _ => ks.length - (intOf i).toNat)
    case atStart => exact ⟨0, [], Nat.zero_le _, rfl, by simp, NRow.nil _ _, HG1.out, HG2.out, HB2.out⟩
    case round =>
      clear HG1 HG2 HB2
      obtain ⟨k, xs, hk, rfl, hxs, hrow, hg1, hg2, hB⟩ := hrel
      have HXS := Lib.hid hxs
      have HR := Lib.hid hrow
      have HG1 := Lib.hid hg1
      have HG2 := Lib.hid hg2
      obtain ⟨hop, _, _, hc7⟩ := nd_cell hg1
      have hzr : w.heap.size + 2 ≤ wr.heap.size := by have := heap_lt hg2; omega
      have HXL : Hid (xs.length = k) := Lib.hid (by have := congrArg List.length hxs; simp [HBL.out] at this; omega)
      clear hxs hrow hg1 hg2
      by_cases hlt : k < ks.length
      · by_cases h1 : op = 1
        case' pos =>
          have h1b : (op == 1) = true := by simpa using h1
          obtain ⟨m, hm⟩ : ∃ m : Nat, (ks.length : Int) - 1 - k = m := ⟨ks.length - 1 - k, by omega⟩
          have hml : m < ks.length := by omega
          have HTB := Lib.hid (HBG.out k m hlt (by rw [if_pos h1]; omega) hml)
          clear h1
          have HM := Lib.hid hm
          clear hm
          go_upto_region 8 with (fail)
          rw [HM.out]
          clear HM
        case' neg =>
          have h1b : (op == 1) = false := by simpa using h1
          obtain ⟨m, hm⟩ : ∃ m : Nat, k = m := ⟨k, rfl⟩
          have hml : m < ks.length := by omega
          have HTB := Lib.hid (HBG.out k m hlt (by rw [if_neg h1]; omega) hml)
          clear h1
          have HM := Lib.hid hm
          clear hm
          go_upto_region 8 with (fail)
          simp only [show Value.int .i64 (k : Int) = Value.int .i64 (m : Int) by rw [HM.out]]
        all_goals
          have hget := List.getElem?_eq_getElem hml
          have HIK := Lib.hid (HIH.out m _ hget)
          generalize ks[m] = x at *
          obtain ⟨op1, s1, mn1, mx1, kk⟩ := x
          obtain ⟨_, _, b, o, kv1, hA, hr, hkk⟩ := (HK.out.keep hB).at hget
          cases hA
          have HRG := Lib.hid hr
          have H1 := Lib.hid hkk.oneCell
          have HV1 : Hid (∀ w1, Below wr.heap.size wr w1 → NodeV w1 Q (ndV op1 s1 mn1 mx1 kv1) (.mk op1 s1 mn1 mx1 kk)) := Lib.hid fun w1 hb => ⟨kv1, rfl, hkk.keep hb⟩
          clear hr hkk hget
          generalize Nd.mk op1 s1 mn1 mx1 kk = x at *
          generalize x.back = y at *
          go_wp2_with (first | (refine ld_nd_mid rfl (.tmp 27) rfl _ _ rfl _ _ _ _ _ HRG.out ?_) |
            (go_at_call 30; refine (HIK.out _ _ (HV1.out _ (Below.refl _ _))).mono ?_; rintro e w2 ⟨⟨r, rfl, hk2⟩, hb2⟩; have HK2 := Lib.hid hk2; have HB2 := Lib.hid hb2; have hz2 := hb2.size; clear hk2 hb2) |
            (refine build_nd1 rfl (.tmp 29) rfl y.op y.set y.mn y.mx r rfl ?_) |
            (refine append_row rfl (.tmp 23) (.tmp 30) rfl (w.heap.size + 2) _ xs rfl ((HR.out.keep HB2.out).keep ((Below.refl _ _).alloc (Nat.le_refl _) _)) (by simp; omega) (y, r) ((HK2.out.keep ((Below.refl _ _).alloc (Nat.le_refl _) _)).wide (fun b hb _ => ⟨by omega, fun e => by have := (HR.out.lt b e.symm).2; omega⟩)) _ _ rfl (heap_alloc_new _ _) (by rw [HXL.out]; omega) ?_; intro v4 w4 hrow4 hgr4; have HR4 := Lib.hid hrow4; have HGR4 := Lib.hid hgr4; clear hrow4 hgr4))
          have hbn : Below w2.heap.size w2 (w2.alloc (.cells (ndC y.op y.set y.mn y.mx r) 28)) := (Below.refl _ _).alloc (Nat.le_refl _) _
          have hbr := below_more HB2.out HB2.out.size hbn
          have hb5 := below_more hB (by omega) hbr
          try (have hkm := HM.out; subst hkm)
          have hlow : ∀ g, some g = u3.ownBlock → w.heap.size + 2 ≤ g := fun g e => (HR.out.lt g e.symm).1
          refine ⟨⟨k + 1, xs ++ [(y, r)], by omega, by go_num, by rw [List.map_append, HXS.out, HTB.out]; rfl, HR4.out, heap_kept HGR4.out (below_all hbr HG1.out) (fun e => by have := hlow _ e; omega), heap_kept HGR4.out (below_all hbr HG2.out) (fun e => by have := hlow _ e; omega), hb5.grown HGR4.out (by simp; omega) (HR.out.low (by omega))⟩, by simp [intOf]; omega⟩
      · obtain rfl : k = ks.length := by omega
        rw [List.take_of_length_le (Nat.le_of_eq HBL.out)] at HXS
        obtain ⟨A2, c2, rfl⟩ := HR.out.form
        have hf3 := frozen_of_row wr w.heap.size 7 _ _ HG1.out
        have HG3 : Hid ((wr.setCell ⟨w.heap.size, 7, none⟩ (.slice A2 xs.length c2)).heap[w.heap.size]? = some (.cells (ndC op st mn mx (.slice A2 xs.length c2)) 28 (0, 0))) := Lib.hid (heap_setCell_same _ _ 7 _ _ _ HG1.out)
        have HGR3 := Lib.hid (grown_setCell wr w.heap.size 7 (.slice A2 xs.length c2))
        have HG4 := Lib.hid (heap_kept HGR3.out HG2.out (fun e => by simp only [Option.some.injEq] at e; omega))
        have HBX := Lib.hid (hB.grown HGR3.out (by have := hB.size; omega) (fun k e => by simp only [Option.some.injEq] at e; omega))
        have hz3 : (wr.setCell ⟨w.heap.size, 7, none⟩ (.slice A2 xs.length c2)).heap.size = wr.heap.size := by simp
        go_wp2_with (first | (refine ld_nd_mid rfl (.tmp 1) rfl _ _ rfl _ _ _ _ _ (range_row HG3.out) ?_) | (refine st_nd rfl (.tmp 2) (.tmp 34) rfl _ rfl op st mn mx _ rfl rfl _ rfl _ HG4.out ?_; intro w5 hg5 hgr5))
        have HROW3 := HR.out.grown HGR3.out (by omega)
        have HROW4 := HROW3.grown hgr5 (by omega)
        have hks := (HROW4.kids (by simp [HXL.out]; omega)).wide (Q' := fun b => w.heap.size ≤ b) fun b hb _ => by omega
        rw [HXS.out] at hks
        exact ret_nd 2 rfl _ _ op st mn mx _ rfl hg5 rfl ⟨⟨_, rfl, hks⟩, HBX.out.grown hgr5 (by omega) (fun k e => by simp only [Option.some.injEq] at e; omega)⟩
theorem rback_calls (t : Nd) (hs : t.size ≤ 1000000) (Q : Nat → Prop) (v : Value) (w : World) (hv : NodeV w Q v t) :
    Calls Try.prog 30 #[v] w fun e w' => (∃ r, e = .returned (ndV t.back.op t.back.set t.back.mn t.back.mx r) ∧ Kids w' (fun b => w.heap.size ≤ b) r t.back.kids) ∧ Below w.heap.size w w' := rback_aux _ t (Nat.le_refl _) hs Q v w hv
end Go.Proofs.Ytekodfpjoehooaa.Bs
