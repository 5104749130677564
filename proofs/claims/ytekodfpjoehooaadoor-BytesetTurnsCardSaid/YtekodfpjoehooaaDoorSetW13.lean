/- The walk of the reference's Ranges. -/
import Derived.Test.YtekodfpjoehooaaDoorSetW10
import Derived.Test.YtekodfpjoehooaaDoorRangesP
import Derived.Test.YtekodfpjoehooaaDoorMem2
namespace Go.Proofs.YtekodfpjoehooaaDoor.Bs
open Go.RowKit Mem
theorem undPairs : Tryd.prog.underlying 31 = some (.slice 44) := by kernel_rfl
theorem pairL_length (x : Nat × Nat) : (pairL x).length = 2 := rfl
/-- 'append(out, x)' of one pair to a row of the call's own -/
theorem append_pair {ops : Array Oper} {rest : List Oper} {o : Oper} {a : Act} {w : World} {Q : Exit → Act → World → Prop} (hgd : o.guard = none) (s x : Operand)
    (ho : o.op = .call { callee := .builtin .append, args := #[s, x], argTypes := #[31, 31] })
    (base : Nat) (v : Value) (xs : List (Nat × Nat)) (n : Nat) (hs : a.eval s = v) (hown : w.ownsRow base 44 2 v n (flat pairL xs)) (hn : n = xs.length)
    (y : Nat × Nat) (g c : Nat) (hx : a.eval x = .slice (some ⟨g, 0, none⟩) 1 c) (hg : w.heap[g]? = some (.cells #[.int .u8 (y.1 : Int), .int .u8 (y.2 : Int)] 44 (0, 0)))
    (hb : (xs.length + 1) * 2 ≤ 140737488355328) (hbase : base ≤ w.heap.size)
    (h : ∀ v' w', w'.ownsRow base 44 2 v' (n + 1) (flat pairL (xs ++ [y])) → w.grownBy w' v.ownBlock → wpList Tryd.prog ops Q rest (a.put o.dst v') w') : wpList Tryd.prog ops Q (o :: rest) a w := by
  obtain ⟨i0, hi, hz0, hz1, hz2⟩ := info_parts infoPair
  subst hn
  refine wpList_append_own w hgd s x 31 ho base 44 i0 _ 2 2 undPairs hi hz0 hz1 hz2 rfl (by decide) v _ _ hs hown ⟨g, 0, none⟩ 1 c (pairL y) hx rfl ?_ ?_ (by unfold maxLen; omega) hb hbase ?_
  · intro j u hj
    rw [Addr.add_mid]
    exact range_row hg j u hj
  · intro u hu
    simp [pairL] at hu
    rcases hu with rfl | rfl <;> rfl
  · intro v' w' hown' hgr _
    exact h v' w' (by rw [flat_snoc]; exact hown') hgr
theorem flat_pair_set (xs : List (Nat × Nat)) (r : Nat × Nat) (k : Nat) : (flat pairL (xs ++ [r])).set (xs.length * 2 + 1) (.int .u8 (k : Int)) = flat pairL (xs ++ [(r.1, k)]) := by
  rw [flat_snoc, flat_snoc]
  have h := flat_length pairL 2 pairL_length xs
  rw [List.set_append_right _ _ (by omega), h, Nat.add_sub_cancel_left]
  rfl
set_option maxHeartbeats 3200000 in
set_option maxRecDepth 100000 in
theorem rranges_calls (s : BitVec 256) (w : World) :
    Calls Tryd.prog 17 #[setV s] w fun e w' => (∃ v, e = .returned v ∧ w'.ownsRow w.heap.size 44 2 v (rowsS s).length (flat pairL (rowsS s))) ∧ Below w.heap.size w w' := by
  go_enter Tryd.func17, Tryd.ntmps17
  go_wp2_with (refine box_set rfl (.tmp 0) rfl s rfl ?_)
  go_loopw [3, 4] (fun v i wr => ∃ (k : Nat) (acc : List (Nat × Nat)), k ≤ 256 ∧ i = .int .i64 k ∧ acc.length ≤ k ∧ (∀ r, r ∈ acc → r.2 < 256) ∧ runR s (256 - k) k acc = rowsS s ∧ wr.heap[w.heap.size]? = some (.cells (setC s) 24 (0, 0)) ∧
      wr.ownsRow (w.heap.size + 1) 44 2 v acc.length (flat pairL acc) ∧ Below w.heap.size w wr) (fun _ i _ => (256 - intOf i).toNat)
  case atStart => exact ⟨0, [], by omega, rfl, Nat.le_refl _, by simp, runR_all s, heap_alloc_new _ _, World.ownsRow_nil _ _ _ _, (Below.refl _ _).alloc (Nat.le_refl _) _⟩
  case round =>
    obtain ⟨k, acc, hk, rfl, hal, hlt2, hrun, hg0, hown, hB⟩ := hrel
    have HG0 := Lib.hid hg0
    have HO := Lib.hid hown
    have HL2 := Lib.hid hlt2
    have HRUN := Lib.hid hrun
    have hsz := hB.size
    have hw0 := heap_lt hg0
    clear hg0 hown hrun hlt2
    by_cases hlt : k < 256
    · have HST := Lib.hid (HRUN.out.symm.trans (runR_step s k acc hlt))
      cases hb : s.getLsbD k
      · have HE := Lib.hid (stepR_no s acc k hb)
        have HSB := Lib.hid hb
        clear hb
        go_wp2_with (first | (refine ld_set rfl (.tmp 1) rfl _ rfl _ _ HG0.out ?_) | (go_at_call 12; refine (rhas_calls s k (by omega) _).mono ?_; rintro e w1 ⟨rfl, hb1⟩; rw [HSB.out]))
        exact ⟨⟨k + 1, acc, by omega, by go_num, by omega, HL2.out, by rw [HST.out, HE.out], below_all hb1 HG0.out, own_below HO.out hb1, below_more hB hsz hb1⟩, by simp [intOf]; omega⟩
      · rcases List.eq_nil_or_concat acc with rfl | ⟨acc', r, rfl⟩
        · have HE := Lib.hid (stepR_nil s k hb)
          have HSB := Lib.hid hb
          clear hb
          obtain ⟨A, cap, rfl⟩ := own_shape HO.out
          go_wp2_with (first | (refine ld_set rfl (.tmp 1) rfl _ rfl _ _ HG0.out ?_) | (go_at_call 12; refine (rhas_calls s k (by omega) _).mono ?_; rintro e w1 ⟨rfl, hb1⟩; rw [HSB.out]; have HO1 := Lib.hid (own_below HO.out hb1)) |
            (refine append_pair rfl (.tmp 38) (.tmp 44) rfl (w.heap.size + 1) _ [] 0 rfl (HO1.out.alloc _) rfl (k, k) _ _ rfl (heap_alloc_new _ _) (by simp) (by have := hb1.size; simp; omega) ?_; intro v' w2 hown2 hgr2))
          have hz1 := hb1.size
          exact ⟨⟨k + 1, [(k, k)], by omega, by go_num, by simp, by simp; omega, by rw [HST.out, HE.out], heap_kept hgr2 (heap_alloc (below_all hb1 HG0.out)) (own_ne HO.out (by omega)), hown2,
            ((below_more hB hsz hb1).alloc (by omega) _).grown hgr2 (by simp; omega) (own_base HO.out _ (by omega))⟩, by simp [intOf]; omega⟩
        · rw [List.concat_eq_append] at *
          have hr2 := HL2.out r (by simp)
          have hlen : (acc' ++ [r]).length = acc'.length + 1 := by simp
          rw [hlen] at hal
          rw [hlen] at HO
          obtain ⟨g, cap, rfl, hgb⟩ := own_form HO.out (by omega)
          have HCELL : Hid (∀ w', Below wr.heap.size wr w' → w'.cell? ⟨g, acc'.length * 2 + 1, none⟩ = some (.int .u8 (r.2 : Int))) := Lib.hid fun w' hb' => by
            rw [(own_below HO.out hb').cellAt _ (by omega)]
            exact flat_get pairL 2 pairL_length _ acc'.length r (by simp) 1 _ rfl
          by_cases hr : r.2 + 1 = k
          · have HE := Lib.hid (stepR_on s acc' r k hb hr)
            have HSB := Lib.hid hb
            have hd : ((r.2 : Int) == (k : Int) - 1) = true := by simp; omega
            clear hb hr
            go_wp2_with (first | (refine ld_set rfl (.tmp 1) rfl _ rfl _ _ HG0.out ?_) | (go_at_call 12; refine (rhas_calls s k (by omega) _).mono ?_; rintro e w1 ⟨rfl, hb1⟩; rw [HSB.out]; have HO1 := Lib.hid (own_below HO.out hb1); have hcell := HCELL.out _ hb1; have hfz := HO1.out.frozenAt (acc'.length * 2 + 1)))
            obtain ⟨hst, hgs⟩ := HO1.out.stored (acc'.length * 2 + 1) (.int .u8 (k : Int))
            rw [flat_pair_set] at hst
            have hz1 := hb1.size
            exact ⟨⟨k + 1, acc' ++ [(r.1, k)], by omega, by go_num, by simp; omega, fun x hx => by
                rcases List.mem_append.1 hx with hx | hx
                · exact HL2.out x (by simp [hx])
                · simp at hx; subst hx; exact hlt, by rw [HST.out, HE.out], heap_kept hgs (below_all hb1 HG0.out) (by simp; omega), by simpa using hst, (below_more hB hsz hb1).grown hgs (by omega) (fun j e => by cases e; omega)⟩, by simp [intOf]; omega⟩
          · have HE := Lib.hid (stepR_new s acc' r k hb hr)
            have HSB := Lib.hid hb
            have hd : ((r.2 : Int) == (k : Int) - 1) = false := by simp; omega
            clear hb hr
            go_wp2_with (first | (refine ld_set rfl (.tmp 1) rfl _ rfl _ _ HG0.out ?_) | (go_at_call 12; refine (rhas_calls s k (by omega) _).mono ?_; rintro e w1 ⟨rfl, hb1⟩; rw [HSB.out]; have HO1 := Lib.hid (own_below HO.out hb1); have hcell := HCELL.out _ hb1) |
              (refine append_pair rfl (.tmp 38) (.tmp 44) rfl (w.heap.size + 1) _ (acc' ++ [r]) (acc'.length + 1) rfl (HO1.out.alloc _) hlen.symm (k, k) _ _ rfl (heap_alloc_new _ _) (by simp; omega) (by have := hb1.size; simp; omega) ?_; intro v' w2 hown2 hgr2))
            have hz1 := hb1.size
            exact ⟨⟨k + 1, acc' ++ [r] ++ [(k, k)], by omega, by go_num, by simp; omega, fun x hx => by
                rcases List.mem_append.1 hx with hx | hx
                · exact HL2.out x hx
                · simp at hx; subst hx; exact hlt, by rw [HST.out, HE.out], heap_kept hgr2 (heap_alloc (below_all hb1 HG0.out)) (own_ne HO.out (by omega)), by simpa using hown2,
              ((below_more hB hsz hb1).alloc (by omega) _).grown hgr2 (by simp; omega) (own_base HO.out _ (by omega))⟩, by simp [intOf]; omega⟩
    · obtain rfl : k = 256 := by omega
      go_wp2_with (fail)
      go_ret
      have h := HO.out
      have h2 : acc = rowsS s := HRUN.out
      rw [h2] at h
      exact ⟨⟨_, rfl, own_mono h (by omega)⟩, hB⟩
end Go.Proofs.YtekodfpjoehooaaDoor.Bs
