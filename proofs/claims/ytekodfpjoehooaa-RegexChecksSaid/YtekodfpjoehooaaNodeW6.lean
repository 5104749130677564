/- The walk of copied. -/
import Derived.Test.YtekodfpjoehooaaNodeMem
namespace Go.Proofs.Ytekodfpjoehooaa.Bs
open Go.RowKit Mem
theorem ndC_one (op : Int) (s : BitVec 256) (mn mx : Int) (kv : Value) (h : kv.oneCell' = true) : (ndC op s mn mx kv).all (·.oneCell') = true := by
  simp [ndC, Value.oneCell'] at h ⊢; exact h
/-- a whole node is stored -/
theorem st_nd {ops : Array Oper} {rest : List Oper} {o : Oper} {a : Act} {w : World} {Q : Exit → Act → World → Prop} (hgd : o.guard = none) (x y : Operand) (ho : o.op = .store 28 x y)
    (g : Nat) (hx : a.eval x = .pointer (some ⟨g, 0, none⟩)) (op : Int) (s : BitVec 256) (mn mx : Int) (kv : Value) (hy : a.eval y = ndV op s mn mx kv) (hkv : kv.oneCell' = true) (cs0 : Array Value) (h8 : cs0.size = 8) (t : TypeId) (hg : w.heap[g]? = some (.cells cs0 t (0, 0)))
    (h : ∀ w', w'.heap[g]? = some (.cells (ndC op s mn mx kv) t (0, 0)) → w.grownBy w' (some g) → wpList Try.prog ops Q rest (a.put o.dst undef) w') : wpList Try.prog ops Q (o :: rest) a w :=
  wpList_store_row hgd _ x y ho g (ndC op s mn mx kv) hx hy t cs0 hg (infoN op s mn mx kv) (by rw [ndC_size, h8]) (ndC_one op s mn mx kv hkv)
    (h _ (setRow_heap w g cs0 (ndC op s mn mx kv) t (0, 0) hg) (grown_setRow w g (ndC op s mn mx kv)))
theorem size_pos (t : Nd) : 1 ≤ t.size := by
  obtain ⟨op, s, mn, mx, ks⟩ := t
  rw [size_mk]; omega
theorem len_le_sum (ks : List Nd) : ks.length ≤ (ks.map Nd.size).sum := by
  induction ks with
  | nil => simp
  | cons k ks ih => have := size_pos k; simp; omega
set_option maxHeartbeats 3200000 in
set_option maxRecDepth 100000 in
theorem copied_aux (n : Nat) : ∀ (ks : List Nd), SizeOf.sizeOf ks ≤ n → (ks.map Nd.size).sum ≤ 1000000 → ∀ (Q : Nat → Prop) (v : Value) (w : World), Kids w Q v ks →
    Calls Try.prog 48 #[v] w fun e w' => (∃ r, e = .returned r ∧ Kids w' (fun b => w.heap.size ≤ b) r ks) ∧ Below w.heap.size w w' := by
  induction n with
  | zero =>
    intro ks h
    cases ks <;> simp at h
  | succ n IH =>
    intro ks hn hsum Q v w hk
    obtain ⟨A, cap, rfl, hlen⟩ := hk.form
    have HK := Lib.hid hk
    have hll := len_le_sum ks
    have HIH : Hid (∀ (i : Nat) op s mn mx kk, ks[i]? = some (.mk op s mn mx kk) → ∀ v w, Kids w Q v kk → Calls Try.prog 48 #[v] w fun e w' => (∃ r, e = .returned r ∧ Kids w' (fun b => w.heap.size ≤ b) r kk) ∧ Below w.heap.size w w') := Lib.hid fun i op s mn mx kk hi v w hv => by
      have hm := List.mem_of_getElem? hi
      have h1 := List.sizeOf_lt_of_mem hm
      simp only [Nd.mk.sizeOf_spec] at h1
      refine IH kk (by omega) ?_ Q v w hv
      have h2 := le_sum_mem _ _ (List.mem_map_of_mem (f := Nd.size) hm)
      rw [size_mk] at h2
      omega
    clear hk IH hn
    go_enter Try.func48, Try.ntmps48
    go_wp2
    go_loopw [3, 8] (fun v i wr => ∃ (k : Nat) (xs : List NV), k ≤ ks.length ∧ i = .int .i64 k ∧ xs.length = k ∧ xs.map (·.1) = ks.take k ∧ wr.ownsRow w.heap.size 28 8 v k (flat ndL xs) ∧
      (∀ x, x ∈ xs → Kids wr (fun b => w.heap.size ≤ b ∧ some b ≠ v.ownBlock) x.2 x.1.kids) ∧ Below w.heap.size w wr) (fun _ i _ => ks.length - (intOf i).toNat)
    case atStart => exact ⟨0, [], Nat.zero_le _, rfl, rfl, rfl, World.ownsRow_nil _ _ _ _, by simp, Below.refl _ _⟩
    case round =>
      obtain ⟨k, xs, hk, rfl, hxl, hxs, hown, hkk, hB⟩ := hrel
      have HO := Lib.hid hown
      have HX := Lib.hid hxs
      have HKK := Lib.hid hkk
      have HXL := Lib.hid hxl
      have hsz := hB.size
      clear hown hxs hkk hxl
      by_cases hlt : k < ks.length
      · have hget := List.getElem?_eq_getElem hlt
        have HTK : Hid (ks.take (k + 1) = ks.take k ++ [ks[k]]) := Lib.hid (List.take_succ_eq_append_getElem hlt)
        generalize ks[k] = x at *
        obtain ⟨op, s, mn, mx, kk⟩ := x
        obtain ⟨_, _, b, o, kv1, hA, hr, hkk⟩ := (HK.out.keep hB).at hget
        cases hA
        have HR := Lib.hid hr
        have HC := Lib.hid (fun v w => HIH.out k op s mn mx kk hget v w)
        have H1 := Lib.hid hkk.oneCell
        have HK1 := Lib.hid hkk
        clear hr hkk hget
        go_wp2_with (first | (refine ld_nd_mid rfl (.tmp 10) rfl _ _ rfl _ _ _ _ _ HR.out ?_) | (refine st_nd rfl (.tmp 5) (.tmp 11) rfl _ rfl op s mn mx kv1 rfl H1.out _ rfl _ (heap_alloc_new _ _) ?_; intro w1 hg1 hgr1; have hc7 := (nd_cell hg1).2.2.2; have HG1 := Lib.hid hg1; have HB1 : Hid (Below wr.heap.size wr w1) := Lib.hid (((Below.refl _ _).alloc (Nat.le_refl _) _).grown hgr1 (by simp) (fun k e => by cases e; omega)); have hz1 : wr.heap.size + 1 ≤ w1.heap.size := (by simpa using hgr1.size); clear hg1 hgr1) |
          (go_at_call 48; refine (HC.out kv1 w1 (HK1.out.keep HB1.out)).mono ?_; rintro e w2 ⟨⟨r1, rfl, hk2⟩, hb2⟩; obtain ⟨A1, c1, hr1, _⟩ := hk2.form; subst hr1; have HK2 := Lib.hid hk2; have HG2 := Lib.hid (below_all hb2 HG1.out); have hc72 := (nd_cell HG2.out).2.2.2; have hf72 := frozen_of_row w2 _ 7 _ _ HG2.out; have HB2 := Lib.hid (below_more HB1.out HB1.out.size hb2); have hz2 := hb2.size;
            have HG3 : Hid ((w2.setCell ⟨wr.heap.size, 7, none⟩ (.slice A1 kk.length c1)).heap[wr.heap.size]? = some (.cells (ndC op s mn mx (.slice A1 kk.length c1)) 28 (0, 0))) := Lib.hid (heap_setCell_same w2 wr.heap.size 7 _ _ (.slice A1 kk.length c1) HG2.out); have HGS := Lib.hid (grown_setCell w2 wr.heap.size 7 (.slice A1 kk.length c1));
            have HO3 := Lib.hid ((own_below HO.out HB2.out).kept HGS.out (own_new HO.out (Nat.le_refl _)));
            have HB3 : Hid (Below wr.heap.size wr (w2.setCell ⟨wr.heap.size, 7, none⟩ (.slice A1 kk.length c1))) := Lib.hid (HB2.out.grown HGS.out HB2.out.size (fun k e => by cases e; omega)); clear hk2 hb2) |
          (refine ld_nd_mid rfl (.tmp 5) rfl _ _ rfl op s mn mx (.slice A1 kk.length c1) (range_row HG3.out) ?_) | (refine build_nd1 rfl (.tmp 17) rfl op s mn mx (.slice A1 kk.length c1) rfl ?_) |
          (refine append_nd_at rfl (.tmp 16) (.tmp 18) rfl w.heap.size _ xs k rfl (HO3.out.alloc _) HXL.out.symm (.mk op s mn mx kk, (.slice A1 kk.length c1)) HK2.out.oneCell _ _ rfl (heap_alloc_new _ _) (by have := HXL.out; omega) (by have := HB3.out.size; simp at this ⊢; omega) ?_; intro v4 w4 hown4 hgr4 hat4))
        have hz3 : w2.heap.size = (w2.setCell ⟨wr.heap.size, 7, none⟩ (.slice A1 kk.length c1)).heap.size := by simp
        generalize w2.setCell ⟨wr.heap.size, 7, none⟩ (.slice A1 kk.length c1) = w3 at *
        have hBc : Below wr.heap.size wr (w3.alloc (.cells (ndC op s mn mx (.slice A1 kk.length c1)) 28)) := HB3.out.alloc HB3.out.size _
        have hzc : (w3.alloc (.cells (ndC op s mn mx (.slice A1 kk.length c1)) 28)).heap.size = w3.heap.size + 1 := by simp
        have hlu : ∀ g, u3.ownBlock = some g → g < wr.heap.size := fun g hg => (HO.out.lt g hg).2
        refine ⟨⟨k + 1, xs ++ [(.mk op s mn mx kk, (.slice A1 kk.length c1))], by omega, by go_num, by simp [HXL.out], by rw [List.map_append, HX.out, HTK.out]; rfl, hown4, fun x hx => ?_, (below_more hB hsz hBc).grown hgr4 (by have := hBc.size; omega) (own_base HO.out _ (Nat.le_refl _))⟩, by simp [intOf]; omega⟩
        rcases List.mem_append.1 hx with hx | hx
        · refine (HKK.out x hx).move fun b hq hlt => ⟨⟨hq.1, fun e => ?_⟩, ?_⟩
          · rcases hat4 with h | h
            · rw [h] at e; exact hq.2 e
            · rw [h, hzc] at e; have := HB3.out.size; simp only [Option.some.injEq] at e; omega
          · rw [hgr4.block b (by have := hBc.size; omega) hq.2, hBc.block b hlt]
        · simp only [List.mem_singleton] at hx
          subst hx
          refine HK2.out.move fun b hq hlt => ⟨⟨by have := hB.size; omega, fun e => ?_⟩, ?_⟩
          · rcases hat4 with h | h
            · rw [h] at e; have := hlu b e.symm; omega
            · rw [h, hzc] at e; simp only [Option.some.injEq] at e; omega
          · rw [hgr4.block b (by omega) (fun e => by have := hlu b e.symm; omega), ((Below.refl w3.heap.size w3).alloc (Nat.le_refl _) (.cells (ndC op s mn mx (.slice A1 kk.length c1)) 28)).block b (by omega), HGS.out.block b hlt (fun e => by simp only [Option.some.injEq] at e; omega)]
      · obtain rfl : k = ks.length := by omega
        go_wp2_with (fail)
        go_ret
        rw [List.take_of_length_le (Nat.le_refl _)] at HX
        refine ⟨⟨_, rfl, ?_⟩, hB⟩
        have h := Kids.of_own (Q := fun b => w.heap.size ≤ b) HO.out HXL.out (by omega) (fun g hg => (HO.out.lt g hg).1) (fun x hx => (HKK.out x hx).wide fun b hb _ => hb.1)
        rw [HX.out] at h
        exact h
end Go.Proofs.Ytekodfpjoehooaa.Bs
