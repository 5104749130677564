/- The walk of the reference's Cut. -/
import Derived.Test.YtekodfpjoehooaaDoorSetW12
import Derived.Test.YtekodfpjoehooaaDoorCutR
import Derived.Test.YtekodfpjoehooaaDoorMem2
import Derived.Maps.AppendAt
namespace Go.Proofs.YtekodfpjoehooaaDoor.Bs
open Go.RowKit Mem
abbrev u8L (b : Nat) : List Value := [.int .u8 (b : Int)]
theorem u8L_length (b : Nat) : (u8L b).length = 1 := rfl
theorem infoU8 : (Tryd.prog.info? 5).map (fun i => (i.zero, i.size, i.bytes)) = some (some (.int .u8 0), 1, 1) := by kernel_rfl
theorem undU8s : Tryd.prog.underlying 54 = some (.slice 5) := by kernel_rfl
/-- two rows of the call's own in different blocks -/
def Apart (v v' : Value) : Prop := ∀ g, v.ownBlock = some g → v'.ownBlock ≠ some g
theorem Apart.kept {v v' : Value} (h : Apart v v') : v'.ownBlock = none ∨ v'.ownBlock ≠ v.ownBlock := by
  cases hv : v'.ownBlock with
  | none => exact .inl rfl
  | some g => exact .inr fun e => h g e.symm hv
theorem Apart.symm {v v' : Value} (h : Apart v v') : Apart v' v := fun g h1 h2 => h g h2 h1
/-- 'append(out, x)' of one set, and where the row lies then -/
theorem append_set_at {ops : Array Oper} {rest : List Oper} {o : Oper} {a : Act} {w : World} {Q : Exit → Act → World → Prop} (hgd : o.guard = none) (s x : Operand)
    (ho : o.op = .call { callee := .builtin .append, args := #[s, x], argTypes := #[38, 38] })
    (base : Nat) (v : Value) (xs : List (BitVec 256)) (n : Nat) (hs : a.eval s = v) (hown : w.ownsRow base 24 4 v n (flat setL xs)) (hn : n = xs.length)
    (y : BitVec 256) (g c : Nat) (hx : a.eval x = .slice (some ⟨g, 0, none⟩) 1 c) (hg : w.heap[g]? = some (.cells (setC y) 24 (0, 0)))
    (hb : (xs.length + 1) * 32 ≤ 140737488355328) (hbase : base ≤ w.heap.size)
    (h : ∀ v' w', w'.ownsRow base 24 4 v' (n + 1) (flat setL (xs ++ [y])) → w.grownBy w' v.ownBlock → (v'.ownBlock = v.ownBlock ∨ v'.ownBlock = some w.heap.size) → wpList Tryd.prog ops Q rest (a.put o.dst v') w') : wpList Tryd.prog ops Q (o :: rest) a w := by
  obtain ⟨i0, hi, hz0, hz1, hz2⟩ := info_parts infoSet
  subst hn
  refine wpList_append_own_at w hgd s x 38 ho base 24 i0 _ 4 32 undSets hi hz0 hz1 hz2 rfl (by decide) v _ _ hs hown ⟨g, 0, none⟩ 1 c (setL y) hx rfl ?_ (setL_one y) (by unfold maxLen; omega) hb hbase ?_
  · intro j u hj
    rw [Addr.add_mid]
    exact range_row hg j u hj
  · intro v' w' hown' hgr _ hat
    exact h v' w' (by rw [flat_snoc]; exact hown') hgr hat
/-- 'append(low, x)' of one byte -/
theorem append_u8_at {ops : Array Oper} {rest : List Oper} {o : Oper} {a : Act} {w : World} {Q : Exit → Act → World → Prop} (hgd : o.guard = none) (s x : Operand)
    (ho : o.op = .call { callee := .builtin .append, args := #[s, x], argTypes := #[54, 54] })
    (base : Nat) (v : Value) (xs : List Nat) (n : Nat) (hs : a.eval s = v) (hown : w.ownsRow base 5 1 v n (flat u8L xs)) (hn : n = xs.length)
    (y : Nat) (g c : Nat) (hx : a.eval x = .slice (some ⟨g, 0, none⟩) 1 c) (hg : w.heap[g]? = some (.cells #[.int .u8 (y : Int)] 5 (0, 0)))
    (hb : (xs.length + 1) * 1 ≤ 140737488355328) (hbase : base ≤ w.heap.size)
    (h : ∀ v' w', w'.ownsRow base 5 1 v' (n + 1) (flat u8L (xs ++ [y])) → w.grownBy w' v.ownBlock → (v'.ownBlock = v.ownBlock ∨ v'.ownBlock = some w.heap.size) → wpList Tryd.prog ops Q rest (a.put o.dst v') w') : wpList Tryd.prog ops Q (o :: rest) a w := by
  obtain ⟨i0, hi, hz0, hz1, hz2⟩ := info_parts infoU8
  subst hn
  refine wpList_append_own_at w hgd s x 54 ho base 5 i0 _ 1 1 undU8s hi hz0 hz1 hz2 rfl (by decide) v _ _ hs hown ⟨g, 0, none⟩ 1 c (u8L y) hx rfl ?_ (by intro u hu; simp at hu; subst hu; rfl) (by unfold maxLen; omega) hb hbase ?_
  · intro j u hj
    rw [Addr.add_mid]
    exact range_row hg j u hj
  · intro v' w' hown' hgr _ hat
    exact h v' w' (by rw [flat_snoc]; exact hown') hgr hat
/-- a whole set is stored into the middle of a row of the call's own -/
theorem st_set_own {ops : Array Oper} {rest : List Oper} {o : Oper} {a : Act} {w : World} {Q : Exit → Act → World → Prop} (hgd : o.guard = none) (x y : Operand) (ho : o.op = .store 24 x y)
    (base g n cap : Nat) (xs : List (BitVec 256)) (hown : w.ownsRow base 24 4 (.slice (some ⟨g, 0, none⟩) n cap) n (flat setL xs)) (hn : n = xs.length) (j : Nat) (hj : j < n)
    (hx : a.eval x = .pointer (some ⟨g, j * 4, none⟩)) (s : BitVec 256) (hy : a.eval y = setV s)
    (h : ∀ w', w'.ownsRow base 24 4 (.slice (some ⟨g, 0, none⟩) n cap) n (flat setL (xs.set j s)) → w.grownBy w' (some g) → wpList Tryd.prog ops Q rest (a.put o.dst undef) w') : wpList Tryd.prog ops Q (o :: rest) a w := by
  subst hn
  refine wpList_store_mid hgd _ x y ho g (j * 4) (setC s) hx hy (own_there hown j hj) (infoS' s) (setC_one s) ?_
  obtain ⟨h1, h2⟩ := own_setCells (setC s).toList (j * 4) w _ hown
  rw [flat_set setL 4 setL_length xs j s hj] at h1
  exact h _ h1 h2
theorem own_range {w : World} {base g n cap : Nat} {xs : List (BitVec 256)} (h : w.ownsRow base 24 4 (.slice (some ⟨g, 0, none⟩) n cap) n (flat setL xs)) (hn : n = xs.length) (j : Nat) (x : BitVec 256) (hx : xs[j]? = some x) : w.rangeAt g (j * 4) (setC x).toList := by
  intro i v hi
  have h1 := flat_get setL 4 setL_length xs j x hx i v hi
  have hj := (List.getElem?_eq_some_iff.1 hx).1
  have hi4 : i < 4 := (List.getElem?_eq_some_iff.1 hi).1
  rw [h.cellAt _ (by omega)]
  exact h1
theorem apart_at {w : World} {base : Nat} {e : TypeId} {k n : Nat} {v v' u : Value} {xs : List Value} (hv : v'.ownBlock = v.ownBlock ∨ v'.ownBlock = some w.heap.size) (hap : Apart v u) (hu : w.ownsRow base e k u n xs) : Apart v' u := by
  intro g h1 h2
  rcases hv with h | h
  · exact hap g (h ▸ h1) h2
  · rw [h] at h1
    cases h1
    exact Nat.lt_irrefl _ (hu.lt _ h2).2
set_option maxHeartbeats 3200000 in
set_option maxRecDepth 100000 in
theorem rcut_calls (v : Value) (xs : List (BitVec 256)) (w : World) (hv : Sets w v xs) :
    Calls Tryd.prog 30 #[v] w fun e w' => (∃ r, e = .returned r ∧ w'.ownsRow w.heap.size 24 4 r (cutS xs).length (flat setL (cutS xs))) ∧ Below w.heap.size w w' := by
  have HV := Lib.hid hv
  have hlen : xs.length * 4 ≤ 140737488355328 := let ⟨_, _, _, h, _⟩ := hv; h
  obtain ⟨A, cap, rfl⟩ := hv.length
  clear hv
  go_enter Tryd.func30, Tryd.ntmps30
  go_wp2
  go_loopw [3, 4, 5] (fun vo vl i wr => ∃ k : Nat, k ≤ 256 ∧ i = .int .i64 k ∧ wr.ownsRow w.heap.size 24 4 vo (outs xs k).length (flat setL (outs xs k)) ∧
      wr.ownsRow w.heap.size 5 1 vl (reps xs k).length (flat u8L (reps xs k)) ∧ Apart vo vl ∧ Below w.heap.size w wr) (fun _ _ i _ => (256 - intOf i).toNat)
  case atStart => exact ⟨0, by omega, rfl, World.ownsRow_nil _ _ _ _, World.ownsRow_nil _ _ _ _, fun g h => by simp [Value.ownBlock] at h, Below.refl _ _⟩
  case round =>
    obtain ⟨wo, rfl⟩ : ∃ wo : World, wo = wr := ⟨_, rfl⟩
    obtain ⟨k, hk, rfl, ho, hl, hap, hB⟩ := hrel
    have HO := Lib.hid ho
    have HL := Lib.hid hl
    have HAP := Lib.hid hap
    have hsz := hB.size
    clear ho hl hap
    by_cases hlt : k < 256
    · have hd : decide ((k : Int) < 256) = true := by simp; omega
      have HOL := Lib.hid (outs_length xs k)
      have hll := reps_length xs k
      have HMEM : Hid (∀ r, r ∈ reps xs k → r < 256) := Lib.hid fun r hr => by have := (mem_reps.1 hr).1; omega
      have HNEW := Lib.hid (outs_new xs k)
      have HOLD := Lib.hid (outs_old xs k)
      generalize outs xs k = out at *
      generalize reps xs k = low at *
      obtain ⟨Al, capl, hvl⟩ := own_shape HL.out
      subst hvl
      go_wp2_with (fail)
      go_loopw [6, 7] (fun c i wi => ∃ j : Nat, j ≤ low.length ∧ i = .int .i64 j ∧ c = .int .i64 (lastF (fun i => al xs (low.getD i 0) k) j) ∧ Below wo.heap.size wo wi) (fun _ i _ => low.length - (intOf i).toNat)
      case atStart => exact ⟨0, Nat.zero_le _, rfl, rfl, Below.refl _ _⟩
      case round =>
        obtain ⟨j, hj, rfl, rfl, hBi⟩ := hrel
        have hszi := hBi.size
        by_cases hj4 : j < low.length
        · obtain ⟨gl, cl, hA, hgl⟩ := own_form HL.out (by omega)
          cases hA
          have hcell : wr.cell? ⟨gl, j, none⟩ = some (.int .u8 ((low.getD j 0 : Nat) : Int)) := by
            have h1 := (own_below HL.out hBi).cellAt j (by omega)
            have h2 := flat_get u8L 1 u8L_length low j _ (List.getElem?_eq_getElem hj4) 0 _ rfl
            rw [Nat.mul_one, Nat.add_zero] at h2
            rw [h1, h2, List.getD_eq_getElem?_getD, List.getElem?_eq_getElem hj4]; rfl
          have hlow : low.getD j 0 < 256 := by
            rw [List.getD_eq_getElem?_getD, List.getElem?_eq_getElem hj4]; exact HMEM.out _ (List.getElem_mem hj4)
          have HLF : Hid (lastF (fun i => al xs (low.getD i 0) k) (j + 1) = if al xs (low.getD j 0) k then (j : Int) else lastF (fun i => al xs (low.getD i 0) k) j) := Lib.hid rfl
          generalize lastF (fun i => al xs (low.getD i 0) k) j = lf at *
          have HVr := Lib.hid (HV.out.below setC_ne (Nat.le_refl _) (below_more hB hsz hBi))
          generalize low.getD j 0 = lj at *
          cases hal : al xs lj k
          all_goals
            have HAL := Lib.hid hal
            clear hal
            go_wp2_with (go_at_call 36; refine (alike_calls _ xs lj k (by omega) (by omega) _ HVr.out).mono ?_; rintro e w1 ⟨rfl, hb1⟩; rw [show (xs.all fun s => s.getLsbD lj == s.getLsbD k) = _ from HAL.out])
            exact ⟨⟨j + 1, by omega, by go_num, by rw [HLF.out, HAL.out]; rfl, below_more hBi hszi hb1⟩, by simp [intOf]; omega⟩
        · obtain rfl : j = low.length := by omega
          have hsome := lastF_some (fun i => al xs (low.getD i 0) k) low.length
          generalize lastF (fun i => al xs (low.getD i 0) k) low.length = lf at *
          have HLi := Lib.hid (own_below HL.out hBi)
          have HOi := Lib.hid (own_below HO.out hBi)
          have HBi := Lib.hid (below_more hB hsz hBi)
          by_cases hlf : lf = -1
          · obtain ⟨e1, e2⟩ := HNEW.out hlf
            have E1 := Lib.hid e1
            have E2 := Lib.hid e2
            clear e1 e2 hsome HNEW HOLD HMEM
            subst hlf
            obtain ⟨b0, hb0⟩ : ∃ b0, 0#256 ||| bit k = b0 := ⟨_, rfl⟩
            have HWI : Hid (∀ w : World, Calls Tryd.prog 34 #[setV 0#256, .int .u8 (k : Int)] w fun e w' => e = .returned (setV b0) ∧ Below w.heap.size w w') := Lib.hid fun w => by
              have := with_calls 0#256 k hlt w
              rw [hb0] at this
              exact this
            rw [hb0] at E2
            clear hb0
            go_wp2_with (first | (go_at_call 34; refine (HWI.out _).mono ?_; rintro e w1 ⟨rfl, hb1⟩; have HO1 := Lib.hid (own_below HOi.out hb1); have HL1 := Lib.hid (own_below HLi.out hb1); have HB1 := Lib.hid (below_more HBi.out HBi.out.size hb1); have hs1 : w.heap.size ≤ w1.heap.size := HB1.out.size) |
              (refine build_set1 rfl (.tmp 33) rfl b0 rfl ?_) |
              (refine append_set_at rfl (.tmp 29) (.tmp 34) rfl w.heap.size _ out out.length rfl (HO1.out.alloc _) rfl b0 _ _ rfl (heap_alloc_new _ _) (by have := HOL.out; omega) (by simp; omega) ?_; intro v2 w2 hown2 hgr2 hat2; have HO2 := Lib.hid hown2; have HL2 := Lib.hid ((HL1.out.alloc (.cells (setC b0) 24)).kept hgr2 HAP.out.kept); have HAP2 := Lib.hid (apart_at hat2 HAP.out (HL1.out.alloc (.cells (setC b0) 24))); have HB2 : Hid (Below w.heap.size w w2) := Lib.hid ((HB1.out.alloc hs1 _).grown hgr2 (by simp; omega) (own_base HO1.out _ (Nat.le_refl _))); have hs2 : w.heap.size ≤ w2.heap.size := HB2.out.size; clear hown2 hgr2 hat2) |
              (refine append_u8_at rfl (.tmp 36) (.tmp 39) rfl w.heap.size _ low low.length rfl (HL2.out.alloc _) rfl k _ _ rfl (heap_alloc_new _ _) (by omega) (by simp; omega) ?_; intro v3 w3 hown3 hgr3 hat3; have HL3 := Lib.hid hown3; have HO3 := Lib.hid ((HO2.out.alloc (.cells #[.int .u8 (k : Int)] 5)).kept hgr3 HAP2.out.symm.kept); have HAP3 := Lib.hid (apart_at hat3 HAP2.out.symm (HO2.out.alloc (.cells #[.int .u8 (k : Int)] 5))); have HB3 : Hid (Below w.heap.size w w3) := Lib.hid ((HB2.out.alloc hs2 _).grown hgr3 (by simp; omega) (own_base HL2.out _ (Nat.le_refl _))); clear hown3 hgr3 hat3))
            exact ⟨⟨k + 1, by omega, by go_num, by rw [E2.out]; simpa using HO3.out, by rw [E1.out]; simpa using HL3.out, HAP3.out.symm, HB3.out⟩, by simp [intOf]; omega⟩
          · obtain ⟨j, hj, hpj, rfl⟩ := hsome hlf
            obtain ⟨e1, e2⟩ := HOLD.out j hj hpj
            have E1 := Lib.hid e1
            have E2 := Lib.hid e2
            clear e1 e2 hsome HNEW HOLD HMEM hlf hpj
            have hjo : j < out.length := by have := HOL.out; omega
            obtain ⟨g, cg, rfl, hgb⟩ := own_form HOi.out (by omega)
            have hx0 : out[j]? = some (out.getD j 0#256) := by rw [List.getD_eq_getElem?_getD, List.getElem?_eq_getElem hjo]; rfl
            have HX0 := Lib.hid hx0
            have HJO := Lib.hid hjo
            clear hx0
            generalize out.getD j 0#256 = y at *
            obtain ⟨b0, hb0⟩ : ∃ b0, y ||| bit k = b0 := ⟨_, rfl⟩
            have HWI : Hid (∀ w : World, Calls Tryd.prog 34 #[setV y, .int .u8 (k : Int)] w fun e w' => e = .returned (setV b0) ∧ Below w.heap.size w w') := Lib.hid fun w => by
              have := with_calls y k hlt w
              rw [hb0] at this
              exact this
            rw [hb0] at E2
            clear hb0
            go_wp2_with (first | (refine ld_set_mid rfl (.tmp 45) rfl _ _ rfl y (own_range HOi.out rfl j y HX0.out) ?_) |
              (go_at_call 34; refine (HWI.out _).mono ?_; rintro e w1 ⟨rfl, hb1⟩; have HO1 := Lib.hid (own_below HOi.out hb1); have HL1 := Lib.hid (own_below HLi.out hb1); have HB1 := Lib.hid (below_more HBi.out HBi.out.size hb1); have hs1 : w.heap.size ≤ w1.heap.size := HB1.out.size) |
              (refine st_set_own rfl (.tmp 50) (.tmp 49) rfl w.heap.size g out.length cg out HO1.out rfl j HJO.out rfl b0 rfl ?_; intro w2 hown2 hgr2; have HO2 := Lib.hid hown2; have HL2 := Lib.hid (HL1.out.kept hgr2 (by simpa [Value.ownBlock] using HAP.out.kept)); have HB2 : Hid (Below w.heap.size w w2) := Lib.hid (HB1.out.grown hgr2 hs1 (fun k e => by cases e; omega)); clear hown2 hgr2))
            exact ⟨⟨k + 1, by omega, by go_num, by rw [E2.out]; simpa using HO2.out, by rw [E1.out]; exact HL2.out, HAP.out, HB2.out⟩, by simp [intOf]; omega⟩
    · obtain rfl : k = 256 := by omega
      go_wp2_with (fail)
      go_ret
      have h := HO.out
      rw [outs_cut] at h
      exact ⟨⟨_, rfl, h⟩, hB⟩
end Go.Proofs.YtekodfpjoehooaaDoor.Bs
