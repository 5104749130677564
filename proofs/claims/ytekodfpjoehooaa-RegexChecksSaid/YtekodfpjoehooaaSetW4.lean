/- Slices of sets that a call makes itself; the walks of Inter, and of the reference's Union and Inter. -/
import Derived.Test.YtekodfpjoehooaaSetW3
import Derived.Great.BuildSlice
namespace Go.Proofs.Ytekodfpjoehooaa.Bs
open Go.RowKit Mem
abbrev setL (s : BitVec 256) : List Value := (setC s).toList
theorem setL_length (s : BitVec 256) : (setL s).length = 4 := rfl
theorem infoSet : (Try.prog.info? 24).map (fun i => (i.zero, i.size, i.bytes)) = some (some (.agg #[.int .u64 0, .int .u64 0, .int .u64 0, .int .u64 0]), 4, 32) := by kernel_rfl
theorem undSets : Try.prog.underlying 47 = some (.slice 24) := by kernel_rfl
theorem setL_one (s : BitVec 256) : ∀ u ∈ setL s, u.oneCell' = true := by
  intro u hu
  simp [setL, setC] at hu
  rcases hu with rfl | rfl | rfl | rfl <;> rfl
theorem build_set1 {ops : Array Oper} {rest : List Oper} {o : Oper} {a : Act} {w : World} {Q : Exit → Act → World → Prop} (hgd : o.guard = none) (x : Operand) (ho : o.op = .buildSlice 47 1 #[(0, x)])
    (s : BitVec 256) (hx : a.eval x = setV s)
    (h : wpList Try.prog ops Q rest (a.put o.dst (.slice (some ⟨w.heap.size, 0, none⟩) 1 1)) (w.alloc (.cells (setC s) 24))) : wpList Try.prog ops Q (o :: rest) a w := by
  obtain ⟨i0, hi, hz0, hz1, hz2⟩ := info_parts infoSet
  refine wpList_buildSlice hgd 47 24 1 #[(0, x)] ho (setC s) i0 _ undSets hi hz0 (by rw [hz1]; decide) (by rw [hz1]; decide) ?_ h
  simp only [List.map_toArray, List.map_cons, List.map_nil, hx, hz1]
  unfold setV setC
  generalize (limN s 0 : Int) = a0
  generalize (limN s 1 : Int) = a1
  generalize (limN s 2 : Int) = a2
  generalize (limN s 3 : Int) = a3
  kernel_rfl
/-- 'append(out, x)' of one set to a row of the call's own -/
theorem append_set {ops : Array Oper} {rest : List Oper} {o : Oper} {a : Act} {w : World} {Q : Exit → Act → World → Prop} (hgd : o.guard = none) (s x : Operand)
    (ho : o.op = .call { callee := .builtin .append, args := #[s, x], argTypes := #[47, 47] })
    (base : Nat) (v : Value) (xs : List (BitVec 256)) (n : Nat) (hs : a.eval s = v) (hown : w.ownsRow base 24 4 v n (flat setL xs)) (hn : n = xs.length)
    (y : BitVec 256) (g c : Nat) (hx : a.eval x = .slice (some ⟨g, 0, none⟩) 1 c) (hg : w.heap[g]? = some (.cells (setC y) 24 (0, 0)))
    (hb : (xs.length + 1) * 32 ≤ 140737488355328) (hbase : base ≤ w.heap.size)
    (h : ∀ v' w', w'.ownsRow base 24 4 v' (n + 1) (flat setL (xs ++ [y])) → w.grownBy w' v.ownBlock → wpList Try.prog ops Q rest (a.put o.dst v') w') : wpList Try.prog ops Q (o :: rest) a w := by
  obtain ⟨i0, hi, hz0, hz1, hz2⟩ := info_parts infoSet
  subst hn
  refine wpList_append_own w hgd s x 47 ho base 24 i0 _ 4 32 undSets hi hz0 hz1 hz2 rfl (by decide) v _ _ hs hown ⟨g, 0, none⟩ 1 c (setL y) hx rfl ?_ (setL_one y) (by unfold maxLen; omega) hb hbase ?_
  · intro j u hj
    rw [Addr.add_mid]
    exact range_row hg j u hj
  · intro v' w' hown' hgr _
    exact h v' w' (by rw [flat_snoc]; exact hown') hgr
theorem interS_aux (xs : List (BitVec 256)) (k : Nat) (h : k < xs.length) : (xs.take (k + 1)).map (~~~ ·) = (xs.take k).map (~~~ ·) ++ [~~~ xs[k]] := by
  rw [List.take_succ_eq_append_getElem h, List.map_append]; rfl
def interS (xs : List (BitVec 256)) : BitVec 256 := ~~~ (unionS (xs.map (~~~ ·)))
theorem sets_of_own {w : World} {base n : Nat} {v : Value} {xs : List (BitVec 256)} (h : w.ownsRow base 24 4 v n (flat setL xs)) (hn : xs.length = n) (hb : xs.length * 4 ≤ 140737488355328) : Sets w v xs :=
  Row.own h setL_length hn hb
set_option maxRecDepth 100000 in
theorem runion_calls (v : Value) (xs : List (BitVec 256)) (w : World) (hv : Sets w v xs) :
    Calls Try.prog 33 #[v] w fun e w' => e = .returned (setV (unionS xs)) ∧ Below w.heap.size w w' := by
  have HV := Lib.hid hv
  have hbound : xs.length * 4 ≤ 140737488355328 := let ⟨_, _, _, h, _⟩ := hv; h
  obtain ⟨A, cap, rfl⟩ := hv.length
  clear hv
  go_enter Try.func33, Try.ntmps33
  go_wp2
  go_loopw [4] (fun i wr => ∃ k : Nat, k ≤ xs.length ∧ i = .int .i64 k ∧ wr.heap[w.heap.size]? = some (.cells (setC 0#256) 24 (0, 0)) ∧
      wr.heap[w.heap.size + 1]? = some (.cells (setC (unionS (xs.take k))) 24 (0, 0)) ∧ Below w.heap.size w wr) (fun i _ => xs.length - (intOf i).toNat)
  case atStart => exact ⟨0, Nat.zero_le _, rfl, heap_alloc2_old _ _ _, heap_alloc2_new w (.cells (setC 0#256) 24) (.cells (setC 0#256) 24), below_alloc2 _ _ _⟩
  case round =>
    obtain ⟨wo, rfl⟩ : ∃ wo : World, wo = wr := ⟨_, rfl⟩
    obtain ⟨k, hk, rfl, hg0, hg1, hB⟩ := hrel
    have HG0 := Lib.hid hg0
    have HG1 := Lib.hid hg1
    have hsz := hB.size
    clear hg0 hg1
    by_cases hlt : k < xs.length
    · go_wp2_with (fail)
      have HS := Lib.hid (unionS_snoc xs k hlt)
      have HX := Lib.hid (List.getElem?_eq_getElem hlt)
      generalize xs[k] = x at *
      generalize unionS (xs.take k) = s0 at *
      have e256 : s0 ||| build (fun b => x.getLsbD b) 256 = s0 ||| x := by
        congr 1
        apply BitVec.eq_of_getLsbD_eq
        intro i hi
        rw [build_getLsbD _ _ _ hi]; simp [hi]
      have HE := Lib.hid e256
      clear e256
      go_loopw [5] (fun i wi => ∃ j : Nat, j ≤ 256 ∧ i = .int .i64 j ∧ wi.heap[w.heap.size]? = some (.cells (setC 0#256) 24 (0, 0)) ∧
        wi.heap[w.heap.size + 1]? = some (.cells (setC (s0 ||| build (fun b => x.getLsbD b) j)) 24 (0, 0)) ∧ Below w.heap.size w wi) (fun i _ => (256 - intOf i).toNat)
      case atStart => exact ⟨0, Nat.zero_le _, rfl, HG0.out, by rw [build_zero, BitVec.or_zero]; exact HG1.out, hB⟩
      case round =>
        obtain ⟨j, hj, rfl, hi0, hi1, hBi⟩ := hrel
        have HI0 := Lib.hid hi0
        have HI1 := Lib.hid hi1
        have hszi := hBi.size
        clear hi0 hi1
        by_cases hj4 : j < 256
        · have HVr := Lib.hid (HV.out.below setC_ne (Nat.le_refl _) hBi)
          obtain ⟨_, _, b, o, hA, hr⟩ := HVr.out.at HX.out
          cases hA
          have HR := Lib.hid hr
          clear hr
          have HBS := Lib.hid (build_succ (fun b => x.getLsbD b) j)
          cases hb : x.getLsbD j
          all_goals
            have HGB := Lib.hid hb
            clear hb
            go_wp2_with (first | (refine ld_set_mid rfl (.tmp 18) rfl _ _ rfl _ HR.out ?_) | (go_at_call 46; refine (rhas_calls x j (by omega) _).mono ?_; rintro e w1 ⟨rfl, hb1⟩; rw [HGB.out]; have HG3 := Lib.hid (below_all hb1 HI1.out); have hb2 := below_more hBi hszi hb1; have hs1 := hb2.size) | (refine ld_set rfl (.tmp 3) rfl _ rfl _ _ HG3.out ?_) |
              (go_at_call 35; refine (with_calls _ j (by omega) _).mono ?_; rintro e w2 ⟨rfl, hb3⟩; have HG4 := Lib.hid (below_all hb3 HG3.out)) | (refine st_set rfl (.tmp 3) _ rfl _ rfl _ rfl _ _ HG4.out ?_; intro w3 hg3 hgr))
            have hbs : build (fun b => x.getLsbD b) (j + 1) = _ := (HBS.out).trans (by rw [HGB.out])
            first
              | exact ⟨⟨j + 1, by omega, by go_num, below_all hb1 HI0.out, by rw [hbs]; exact HG3.out, hb2⟩, by simp [intOf]; omega⟩
              | exact ⟨⟨j + 1, by omega, by go_num, heap_kept hgr (below_all hb3 (below_all hb1 HI0.out)) (by simp <;> omega), by rw [hbs, if_pos rfl, ← BitVec.or_assoc]; exact hg3, (below_more hb2 hs1 hb3).grown hgr (by have := hb3.size; omega) (fun k e => by cases e; omega)⟩, by simp [intOf]; omega⟩
        · obtain rfl : j = 256 := by omega
          rw [HE.out] at HI1
          go_wp2_with (fail)
          exact ⟨⟨k + 1, by omega, by go_num, HI0.out, by rw [HS.out]; exact HI1.out, hBi⟩, by simp [intOf]; omega⟩
    · go_wp2_with (first | (refine ld_set rfl (.tmp 3) rfl _ rfl _ _ HG1.out ?_) | (refine st_set rfl (.tmp 2) _ rfl _ rfl _ rfl _ _ HG0.out ?_; intro w' hg' hgr))
      refine ret_set 2 rfl _ _ _ rfl hg' rfl ⟨?_, hB.grown hgr hsz (fun k e => by cases e; omega)⟩
      rw [List.take_of_length_le (by omega)]
end Go.Proofs.Ytekodfpjoehooaa.Bs
