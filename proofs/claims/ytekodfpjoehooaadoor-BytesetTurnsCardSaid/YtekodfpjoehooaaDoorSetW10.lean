/- Equality of sets; the walks of Same, Rows and alike. -/
import Derived.Test.YtekodfpjoehooaaDoorSetW9
import Derived.BigQuiet
import Derived.Deep.QuietTactic
namespace Go.Proofs.YtekodfpjoehooaaDoor.Bs
open Go.RowKit Mem
theorem undU64 : Tryd.prog.underlying 22 = some (.int .u64) := by kernel_rfl
theorem szU64 (w : World) : (sizeOf 22).run Tryd.prog w = .ok 1 w := by kernel_rfl
theorem limbs_beq (s t : BitVec 256) : ([(limN s 0 : Int), limN s 1, limN s 2, limN s 3] == [(limN t 0 : Int), limN t 1, limN t 2, limN t 3]) = (s == t) := by
  rw [Bool.eq_iff_iff, beq_iff_eq, beq_iff_eq]
  constructor
  · intro h
    simp only [List.cons.injEq, Int.natCast_inj, and_true] at h
    exact limN_inj s t h.1 h.2.1 h.2.2.1 h.2.2.2
  · rintro rfl; rfl
theorem eql_set (s t : BitVec 256) (w : World) : (binOp .eql 24 (setV s) (setV t)).run Tryd.prog w = .ok (.bool (s == t)) w := by
  have h := run_eql_ints w 24 22 4 .u64 undS undU64 szU64 [(limN s 0 : Int), limN s 1, limN s 2, limN s 3] [(limN t 0 : Int), limN t 1, limN t 2, limN t 3] rfl rfl
  rw [limbs_beq] at h
  exact h
theorem neq_set (s t : BitVec 256) (w : World) : (binOp .neq 24 (setV s) (setV t)).run Tryd.prog w = .ok (.bool (!(s == t))) w := by
  have h := run_neq_ints w 24 22 4 .u64 undS undU64 szU64 [(limN s 0 : Int), limN s 1, limN s 2, limN s 3] [(limN t 0 : Int), limN t 1, limN t 2, limN t 3] rfl rfl
  rw [limbs_beq] at h
  exact h
theorem eqGuard_set (op : BinOp) (x y : Operand) (s t : BitVec 256) (w : World) : (eqGuard op 24 x y (setV s) (setV t)).run Tryd.prog w = .ok () w :=
  run_eqGuard_agg w op 24 x y (setC s) (setC t) Tryd.eqGuardType24
theorem still_neq_set {ops : Array Oper} {rest : List Oper} {o : Oper} {a : Act} {w : World} {Q : Act → Prop} (hgd : o.guard = none) (x y : Operand) (ty : TypeId) (ho : o.op = .binOp .neq 24 x y ty)
    (s t : BitVec 256) (hx : a.eval x = setV s) (hy : a.eval y = setV t)
    (h : wpStill Tryd.prog ops w Q rest (a.put o.dst (.bool (!(s == t))))) : wpStill Tryd.prog ops w Q (o :: rest) a := by
  refine wpStill_val hgd _ ?_ h
  unfold execOp
  simp only [ho, hx, hy, Sem.run_bind, Sem.run_pure, Result.andThen_ok, eqGuard_set, neq_set]
theorem still_ld_set_mid {ops : Array Oper} {rest : List Oper} {o : Oper} {a : Act} {w : World} {Q : Act → Prop} (hgd : o.guard = none) (x : Operand) (ho : o.op = .load 24 x)
    (b i : Nat) (hx : a.eval x = .pointer (some ⟨b, i, none⟩)) (s : BitVec 256) (hg : w.rangeAt b i (setC s).toList)
    (h : wpStill Tryd.prog ops w Q rest (a.put o.dst (setV s))) : wpStill Tryd.prog ops w Q (o :: rest) a :=
  wpStill_load_mid hgd _ x ho b i hx (setC s).toList _ hg undS rfl (infoS' s) h
/-- how far two rows are the same -/
theorem beq_take {α : Type} [BEq α] [LawfulBEq α] (xs ys : List α) (k : Nat) (h : xs.take k = ys.take k) (hx : k < xs.length) (hy : k < ys.length) : xs.take (k + 1) = ys.take (k + 1) ↔ xs[k] = ys[k] := by
  rw [List.take_succ_eq_append_getElem hx, List.take_succ_eq_append_getElem hy, h]
  constructor
  · intro e; simpa using List.append_cancel_left e
  · intro e; rw [e]
set_option maxRecDepth 100000 in
theorem same_calls (v1 v2 : Value) (xs ys : List (BitVec 256)) (w : World) (h1 : Sets w v1 xs) (h2 : Sets w v2 ys) :
    Calls Tryd.prog 28 #[v1, v2] w fun e w' => e = .returned (.bool (xs == ys)) ∧ Below w.heap.size w w' := by
  have hb1 : xs.length * 4 ≤ 140737488355328 := let ⟨_, _, _, h, _⟩ := h1; h
  have hb2 : ys.length * 4 ≤ 140737488355328 := let ⟨_, _, _, h, _⟩ := h2; h
  obtain ⟨A1, c1, rfl⟩ := h1.length
  obtain ⟨A2, c2, rfl⟩ := h2.length
  have H1 := Lib.hid h1
  have H2 := Lib.hid h2
  clear h1 h2
  by_cases hl : xs.length = ys.length
  · have HL := Lib.hid hl
    have hlb : ((xs.length : Int) != ys.length) = false := by simp [hl]
    clear hl
    go_enter Tryd.func28, Tryd.ntmps28
    go_wp2
    go_loopw [5] (fun i wr => ∃ k : Nat, k ≤ xs.length ∧ i = .int .i64 k ∧ xs.take k = ys.take k ∧ Below w.heap.size w wr) (fun i _ => xs.length - (intOf i).toNat)
    case atStart => exact ⟨0, Nat.zero_le _, rfl, by simp, Below.refl _ _⟩
    case round =>
      obtain ⟨k, hk, rfl, htk, hB⟩ := hrel
      have HTK := Lib.hid htk
      clear htk
      by_cases hlt : k < xs.length
      · have hlt2 : k < ys.length := by have := HL.out; omega
        obtain ⟨_, _, b1, o1, hA1, hr1⟩ := (H1.out.below setC_ne (Nat.le_refl _) hB).at (List.getElem?_eq_getElem hlt)
        obtain ⟨_, _, b2, o2, hA2, hr2⟩ := (H2.out.below setC_ne (Nat.le_refl _) hB).at (List.getElem?_eq_getElem hlt2)
        cases hA1
        cases hA2
        have HR1 := Lib.hid hr1
        have HR2 := Lib.hid hr2
        clear hr1 hr2
        have HEQ := Lib.hid (beq_take xs ys k HTK.out hlt hlt2)
        have HNE := Lib.hid (fun e : xs = ys => show xs[k] = ys[k] by subst e; rfl)
        generalize xs[k] = x at *
        generalize ys[k] = y at *
        go_wp2_with (fail)
        refine wp_region_still_lit (by kernel_rfl) (by kernel_rfl) ?_
        repeat still_step
        refine still_ld_set_mid rfl (.tmp 19) rfl _ _ rfl x HR1.out ?_
        repeat still_step
        refine still_ld_set_mid rfl (.tmp 23) rfl _ _ rfl y HR2.out ?_
        refine still_neq_set rfl (.tmp 20) (.tmp 24) _ rfl x y rfl rfl ?_
        refine wpStill_nil ?_
        have hBd := hB.drew
        cases hxy : (x == y)
        · have HXY := Lib.hid hxy
          clear hxy
          go_wp2_with (fail)
          go_ret
          refine ⟨?_, hBd⟩
          have hne : (xs == ys) = false := beq_eq_false_iff_ne.2 fun e => by rw [HNE.out e] at HXY; exact absurd HXY.out (by simp)
          rw [hne]
          rfl
        · obtain rfl : x = y := by simpa using hxy
          clear hxy
          go_wp2_with (fail)
          exact ⟨⟨k + 1, by omega, by go_num, HEQ.out.2 rfl, hBd⟩, by simp [intOf]; omega⟩
      · go_wp2
        go_ret
        have h1 := HTK.out
        rw [List.take_of_length_le (by omega), List.take_of_length_le (by have := HL.out; omega)] at h1
        exact ⟨by rw [beq_iff_eq.2 h1]; rfl, hB⟩
  · have hlb : ((xs.length : Int) != ys.length) = true := by rw [bne_iff_ne]; omega
    have hne : (xs == ys) = false := beq_eq_false_iff_ne.2 fun e => hl (by rw [e])
    rw [hne]
    clear hne hl
    go_enter Tryd.func28, Tryd.ntmps28
    go_wp2
    go_ret
    exact ⟨rfl, Below.refl _ _⟩
theorem pairL_ne (x : Nat × Nat) : pairL x ≠ [] := by simp [pairL]
theorem infoPair2 : (Tryd.prog.info? 44).map (·.size) = some 2 := by kernel_rfl
theorem undPair : Tryd.prog.underlying 44 = some (.array 2 5) := by kernel_rfl
theorem undU8 : Tryd.prog.underlying 5 = some (.int .u8) := by kernel_rfl
theorem szU8 (w : World) : (sizeOf 5).run Tryd.prog w = .ok 1 w := by kernel_rfl
theorem neq_pair (s t : Nat × Nat) (w : World) : (binOp .neq 44 (pairV s) (pairV t)).run Tryd.prog w = .ok (.bool (!(s == t))) w := by
  have h := run_neq_ints w 44 5 2 .u8 undPair undU8 szU8 [(s.1 : Int), s.2] [(t.1 : Int), t.2] rfl rfl
  have e : ([(s.1 : Int), s.2] == [(t.1 : Int), t.2]) = (s == t) := by
    rw [Bool.eq_iff_iff, beq_iff_eq, beq_iff_eq]
    constructor
    · intro h
      simp only [List.cons.injEq, Int.natCast_inj, and_true] at h
      exact Prod.ext h.1 h.2
    · rintro rfl; rfl
  rw [e] at h
  exact h
theorem still_neq_pair {ops : Array Oper} {rest : List Oper} {o : Oper} {a : Act} {w : World} {Q : Act → Prop} (hgd : o.guard = none) (x y : Operand) (ty : TypeId) (ho : o.op = .binOp .neq 44 x y ty)
    (s t : Nat × Nat) (hx : a.eval x = pairV s) (hy : a.eval y = pairV t)
    (h : wpStill Tryd.prog ops w Q rest (a.put o.dst (.bool (!(s == t))))) : wpStill Tryd.prog ops w Q (o :: rest) a := by
  refine wpStill_val hgd _ ?_ h
  unfold execOp
  simp only [ho, hx, hy, Sem.run_bind, Sem.run_pure, Result.andThen_ok, neq_pair]
  rw [show (eqGuard .neq 44 x y (pairV s) (pairV t)).run Tryd.prog w = .ok () w from run_eqGuard_agg w .neq 44 x y _ _ Tryd.eqGuardType44]
  rfl
theorem still_ld_pair_mid {ops : Array Oper} {rest : List Oper} {o : Oper} {a : Act} {w : World} {Q : Act → Prop} (hgd : o.guard = none) (x : Operand) (ho : o.op = .load 44 x)
    (b i : Nat) (hx : a.eval x = .pointer (some ⟨b, i, none⟩)) (s : Nat × Nat) (hg : w.rangeAt b i (pairL s))
    (h : wpStill Tryd.prog ops w Q rest (a.put o.dst (pairV s))) : wpStill Tryd.prog ops w Q (o :: rest) a :=
  wpStill_load_mid hgd _ x ho b i hx (pairL s) _ hg undPair rfl infoPair2 h
set_option maxRecDepth 100000 in
theorem rowsEq_calls (v1 v2 : Value) (xs ys : List (Nat × Nat)) (w : World) (h1 : Row w 2 pairL v1 xs) (h2 : Row w 2 pairL v2 ys) :
    Calls Tryd.prog 15 #[v1, v2] w fun e w' => e = .returned (.bool (xs == ys)) ∧ Below w.heap.size w w' := by
  have hb1 : xs.length * 2 ≤ 140737488355328 := let ⟨_, _, _, h, _⟩ := h1; h
  have hb2 : ys.length * 2 ≤ 140737488355328 := let ⟨_, _, _, h, _⟩ := h2; h
  obtain ⟨A1, c1, rfl⟩ := h1.length
  obtain ⟨A2, c2, rfl⟩ := h2.length
  have H1 := Lib.hid h1
  have H2 := Lib.hid h2
  clear h1 h2
  by_cases hl : xs.length = ys.length
  · have HL := Lib.hid hl
    have hlb : ((xs.length : Int) != ys.length) = false := by simp [hl]
    clear hl
    go_enter Tryd.func15, Tryd.ntmps15
    go_wp2
    go_loopw [5] (fun i wr => ∃ k : Nat, k ≤ xs.length ∧ i = .int .i64 k ∧ xs.take k = ys.take k ∧ Below w.heap.size w wr) (fun i _ => xs.length - (intOf i).toNat)
    case atStart => exact ⟨0, Nat.zero_le _, rfl, by simp, Below.refl _ _⟩
    case round =>
      obtain ⟨k, hk, rfl, htk, hB⟩ := hrel
      have HTK := Lib.hid htk
      clear htk
      by_cases hlt : k < xs.length
      · have hlt2 : k < ys.length := by have := HL.out; omega
        obtain ⟨_, _, b1, o1, hA1, hr1⟩ := (H1.out.below pairL_ne (Nat.le_refl _) hB).at (List.getElem?_eq_getElem hlt)
        obtain ⟨_, _, b2, o2, hA2, hr2⟩ := (H2.out.below pairL_ne (Nat.le_refl _) hB).at (List.getElem?_eq_getElem hlt2)
        cases hA1
        cases hA2
        have HR1 := Lib.hid hr1
        have HR2 := Lib.hid hr2
        clear hr1 hr2
        have HEQ := Lib.hid (beq_take xs ys k HTK.out hlt hlt2)
        have HNE := Lib.hid (fun e : xs = ys => show xs[k] = ys[k] by subst e; rfl)
        generalize xs[k] = x at *
        generalize ys[k] = y at *
        go_wp2_with (fail)
        refine wp_region_still_lit (by kernel_rfl) (by kernel_rfl) ?_
        repeat still_step
        refine still_ld_pair_mid rfl (.tmp 19) rfl _ _ rfl x HR1.out ?_
        repeat still_step
        refine still_ld_pair_mid rfl (.tmp 23) rfl _ _ rfl y HR2.out ?_
        refine still_neq_pair rfl (.tmp 20) (.tmp 24) _ rfl x y rfl rfl ?_
        refine wpStill_nil ?_
        have hBd := hB.drew
        cases hxy : (x == y)
        · have HXY := Lib.hid hxy
          clear hxy
          go_wp2_with (fail)
          go_ret
          refine ⟨?_, hBd⟩
          have hne : (xs == ys) = false := beq_eq_false_iff_ne.2 fun e => by rw [HNE.out e] at HXY; exact absurd HXY.out (by simp)
          rw [hne]
          rfl
        · obtain rfl : x = y := by simpa using hxy
          clear hxy
          go_wp2_with (fail)
          exact ⟨⟨k + 1, by omega, by go_num, HEQ.out.2 rfl, hBd⟩, by simp [intOf]; omega⟩
      · go_wp2
        go_ret
        have h1 := HTK.out
        rw [List.take_of_length_le (by omega), List.take_of_length_le (by have := HL.out; omega)] at h1
        exact ⟨by rw [beq_iff_eq.2 h1]; rfl, hB⟩
  · have hlb : ((xs.length : Int) != ys.length) = true := by rw [bne_iff_ne]; omega
    have hne : (xs == ys) = false := beq_eq_false_iff_ne.2 fun e => hl (by rw [e])
    rw [hne]
    clear hne hl
    go_enter Tryd.func15, Tryd.ntmps15
    go_wp2
    go_ret
    exact ⟨rfl, Below.refl _ _⟩
end Go.Proofs.YtekodfpjoehooaaDoor.Bs
