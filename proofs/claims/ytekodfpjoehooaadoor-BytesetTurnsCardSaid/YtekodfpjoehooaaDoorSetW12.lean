/- The walk of Cut. -/
import Derived.Test.YtekodfpjoehooaaDoorSetW11
import Derived.Test.YtekodfpjoehooaaDoorCutP
import Derived.Deep.LoopGhost
namespace Go.Proofs.YtekodfpjoehooaaDoor.Bs
open Go.RowKit Mem Reg
theorem wp_neq_set {ops : Array Oper} {rest : List Oper} {o : Oper} {a : Act} {w : World} {Q : Exit → Act → World → Prop} (hgd : o.guard = none) (x y : Operand) (ty : TypeId) (ho : o.op = .binOp .neq 24 x y ty)
    (s t : BitVec 256) (hx : a.eval x = setV s) (hy : a.eval y = setV t)
    (h : wpList Tryd.prog ops Q rest (a.put o.dst (.bool (!(s == t)))) w) : wpList Tryd.prog ops Q (o :: rest) a w :=
  wpList_plain hgd fun K hK => by
    unfold Oper.wp execOp
    simp only [ho, hx, hy, Sem.run_bind, Sem.run_pure, Result.andThen_ok, eqGuard_set, neq_set]
    exact hK _ _ h
/-- a slice literal of two sets -/
theorem run_build_set2 (w : World) (s t : BitVec 256) : (Instr.buildSlice 38 2 #[(0, setV s), (1, setV t)]).run Tryd.prog w = .ok (.slice (some ⟨w.heap.size, 0, none⟩) 2 2) (w.alloc (.cells (setC s ++ setC t) 24)) := by
  obtain ⟨i0, hi, hz0, hz1, hz2⟩ := info_parts infoSet
  refine run_buildSlice w 38 24 2 _ (setC s ++ setC t) i0 _ undSets hi hz0 (by rw [hz1]; decide) (by rw [hz1]; decide) ?_
  simp only [hz1]
  unfold setV setC
  generalize (limN s 0 : Int) = a0
  generalize (limN s 1 : Int) = a1
  generalize (limN s 2 : Int) = a2
  generalize (limN s 3 : Int) = a3
  generalize (limN t 0 : Int) = b0
  generalize (limN t 1 : Int) = b1
  generalize (limN t 2 : Int) = b2
  generalize (limN t 3 : Int) = b3
  kernel_rfl
theorem build_set2 {ops : Array Oper} {rest : List Oper} {o : Oper} {a : Act} {w : World} {Q : Exit → Act → World → Prop} (hgd : o.guard = none) (x y : Operand) (ho : o.op = .buildSlice 38 2 #[(0, x), (1, y)])
    (s t : BitVec 256) (hx : a.eval x = setV s) (hy : a.eval y = setV t)
    (h : wpList Tryd.prog ops Q rest (a.put o.dst (.slice (some ⟨w.heap.size, 0, none⟩) 2 2)) (w.alloc (.cells (setC s ++ setC t) 24))) : wpList Tryd.prog ops Q (o :: rest) a w :=
  wpList_plain hgd fun K hK => by
    unfold Oper.wp execOp
    simp only [ho, List.map_toArray, List.map_cons, List.map_nil, hx, hy, Sem.run_bind, Sem.run_pure, Result.andThen_ok, run_build_set2]
    exact hK _ _ h
theorem sets_two {w : World} {g ty c : Nat} {s t : BitVec 256} (h : w.heap[g]? = some (.cells (setC s ++ setC t) ty (0, 0))) : Sets w (.slice (some ⟨g, 0, none⟩) 2 c) [s, t] := by
  refine ⟨some ⟨g, 0, none⟩, c, rfl, by simp, fun _ => ⟨g, 0, rfl, fun i x hx => ?_⟩⟩
  have h0 := range_row h
  intro j v hj
  rw [Nat.zero_add]
  have hj4 : j < 4 := (List.getElem?_eq_some_iff.1 hj).1
  match i, hx with
  | 0, hx =>
    cases hx
    have := h0 j v (by rw [Array.toList_append, List.getElem?_append_left (by rw [setL_length]; exact hj4)]; exact hj)
    simpa using this
  | 1, hx =>
    cases hx
    have := h0 (4 + j) v (by rw [Array.toList_append, List.getElem?_append_right (by rw [setL_length]; omega), setL_length, Nat.add_sub_cancel_left]; exact hj)
    simpa using this
  | i + 2, hx => simp at hx
theorem notz_calls (w : World) : Calls Tryd.prog 18 #[setV 0#256] w fun e w' => e = .returned (setV fullS) ∧ Below w.heap.size w w' := not_calls 0#256 w
theorem own_nil_flat (w : World) (base : Nat) : w.ownsRow base 24 4 (.slice none 0 0) 0 (flat setL []) := World.ownsRow_nil _ _ _ _
set_option maxHeartbeats 3200000 in
set_option maxRecDepth 100000 in
theorem cut_calls (v : Value) (xs : List (BitVec 256)) (w : World) (hv : Sets w v xs) (hT : Tab w) :
    Calls Tryd.prog 29 #[v] w fun e w' => (∃ r, e = .returned r ∧ w'.ownsRow w.heap.size 24 4 r (cutS xs).length (flat setL (cutS xs))) ∧ Below w.heap.size w w' := by
  have HV := Lib.hid hv
  have hlen : xs.length * 4 ≤ 140737488355328 := let ⟨_, _, _, h, _⟩ := hv; h
  obtain ⟨A, cap, rfl⟩ := hv.length
  clear hv
  go_enter Tryd.func29, Tryd.ntmps29
  go_wp2_with (first | (go_at_call 18; refine (notz_calls _).mono ?_; rintro e w1 ⟨rfl, hb1⟩) | (refine st_set rfl (.tmp 4) (.tmp 11) rfl _ rfl _ rfl 0#256 _ (heap_alloc_new _ _) ?_; intro w2 hg2 hgr))
  have hz1 := hb1.size
  have hb2 : Below w.heap.size w w2 := (hb1.alloc hz1 _).grown hgr (by simp; omega) (fun k e => by cases e; omega)
  have hz2 : w1.heap.size + 1 ≤ w2.heap.size := by simpa using hgr.size
  clear hgr hb1
  generalize w1.heap.size = g at *
  dsimp only [Act.put]
  go_loopg [3] 257 (fun k v wr => ∃ (acc : List (BitVec 256)) (p : BitVec 256), acc.length + k = 257 ∧ countS p < k ∧ acc ++ cutF xs k p = cutS xs ∧ wr.heap[g]? = some (.cells (setC p) 24 (0, 0)) ∧
      wr.ownsRow (g + 1) 24 4 v acc.length (flat setL acc) ∧ Below w.heap.size w wr)
  case atStart => exact ⟨[], fullS, rfl, Nat.lt_succ_of_le (countS_le _), rfl, hg2, own_nil_flat _ _, hb2⟩
  case round =>
    obtain ⟨acc, p, hal, hcp, hcut, hgp, hown, hB⟩ := hrel
    have HGP := Lib.hid hgp
    have HO := Lib.hid hown
    have HC := Lib.hid hcut
    have hsz := hB.size
    have hw0 := heap_lt hgp
    clear hgp hown hcut
    have HT := Lib.hid (hT.below hB)
    by_cases hp : p = 0#256
    · have hz : (!(p == 0#256)) = false := by rw [hp]; decide
      have HZ := Lib.hid hz
      have hce : acc = cutS xs := by rw [← HC.out, hp, cutF_zero, List.append_nil]
      clear hz hp HC
      go_wp2_with (first | (refine ld_set rfl (.tmp 4) rfl _ rfl _ _ HGP.out ?_) | (refine wp_neq_set rfl (.tmp 12) (.tmp 13) _ rfl p 0#256 rfl rfl ?_; rw [HZ.out]))
      go_ret
      have h := HO.out
      rw [hce] at h
      exact ⟨⟨_, rfl, own_mono h (by omega)⟩, hB⟩
    · have hz : (!(p == 0#256)) = true := by simpa using hp
      have HZ := Lib.hid hz
      obtain ⟨b, hb0, hb1, hb2, _⟩ := first_some p hp
      have HST : Hid (∀ k, cutF xs (k + 1) p = partS xs b p :: cutF xs k (restS xs b p)) := Lib.hid fun k => cutF_step xs k p b hp hb0
      have HLT := Lib.hid (rest_less xs b p hb1 hb2)
      have HF0 : Hid (firstV (firstF p 0) = .tuple #[.int .u8 (b : Int), .bool true]) := Lib.hid (by rw [hb0]; rfl)
      clear hz hp hb0 hb2
      go_wp2_with (first | (refine ld_set rfl (.tmp 4) rfl _ rfl _ _ HGP.out ?_) | (refine wp_neq_set rfl (.tmp 12) (.tmp 13) _ rfl p 0#256 rfl rfl ?_; rw [HZ.out]) | (go_at_call 9; refine (first_calls' p 0 (by omega) _ HT.out).mono ?_; rintro e w3 ⟨rfl, hb3⟩; rw [HF0.out]; have HGP3 := Lib.hid (below_all hb3 HGP.out)) |
        (refine ld_set rfl (.tmp 4) rfl _ rfl _ _ HGP3.out ?_) | (refine st_set rfl (.tmp 7) (.tmp 20) rfl _ rfl _ rfl 0#256 _ (heap_alloc_new _ _) ?_; intro w4 hg4 hgr4))
      obtain ⟨wo, rfl⟩ : ∃ wo : World, wo = wr := ⟨_, rfl⟩
      have hz3 := hb3.size
      have hb4 : Below w3.heap.size w3 w4 := ((Below.refl _ _).alloc (Nat.le_refl _) _).grown hgr4 (by simp) (fun k e => by cases e; omega)
      have HB3 := Lib.hid (below_more hB hsz hb3)
      clear hgr4
      go_loopw [23] (fun i wi => ∃ k : Nat, k ≤ xs.length ∧ i = .int .i64 k ∧ wi.heap[w3.heap.size]? = some (.cells (setC (partS (xs.take k) b p)) 24 (0, 0)) ∧ Below w3.heap.size w3 wi) (fun i _ => xs.length - (intOf i).toNat)
      case atStart => exact ⟨0, Nat.zero_le _, rfl, hg4, hb4⟩
      case round =>
        obtain ⟨k, hk, rfl, hgq, hBi⟩ := hrel
        have HQ := Lib.hid hgq
        have hqlt := heap_lt hgq
        have hszi := hBi.size
        clear hgq
        by_cases hlt : k < xs.length
        · have HVr := Lib.hid (HV.out.below setC_ne (Nat.le_refl _) (below_more HB3.out (by omega) hBi))
          obtain ⟨_, _, bb, o, hA, hr⟩ := HVr.out.at (List.getElem?_eq_getElem hlt)
          cases hA
          have HR := Lib.hid hr
          clear hr
          have HPS := Lib.hid (partS_snoc xs b p k hlt)
          generalize xs[k] = x at *
          generalize partS (xs.take k) b p = q at *
          have hside : sideS x b = if x.getLsbD b then x else ~~~x := rfl
          generalize sideS x b = y at *
          cases hxb : x.getLsbD b
          all_goals
            have HXB := Lib.hid hxb
            rw [hxb] at hside
            have HS := Lib.hid hside
            clear hside hxb
            go_wp2_with (first | (refine ld_set_mid rfl (.tmp 25) rfl _ _ rfl _ HR.out ?_) |
              (refine st_set rfl (.tmp 9) (.tmp 26) rfl _ rfl _ rfl 0#256 _ (heap_alloc_new _ _) ?_; intro w5 hg5 hgr5; have HX5 := Lib.hid hg5; have HQ5 := Lib.hid (heap_kept hgr5 (heap_alloc HQ.out) (by simp; omega)); have hz5 := hgr5.size; have HB5 : Hid (Below w3.heap.size w3 w5) := Lib.hid ((hBi.alloc hszi _).grown hgr5 (by simp; omega) (fun k e => by cases e; omega)); clear hg5 hgr5) |
              (refine ld_set rfl (.tmp 9) rfl _ rfl _ _ HX5.out ?_) |
              (go_at_call 11; refine (has_calls x b (by omega) _).mono ?_; rintro e w6 ⟨rfl, hb6⟩; rw [HXB.out]; have HX6 := Lib.hid (below_all hb6 HX5.out); have HQ6 := Lib.hid (below_all hb6 HQ5.out); have HB6 := Lib.hid (below_more HB5.out HB5.out.size hb6)) |
              (refine ld_set rfl (.tmp 9) rfl _ rfl _ _ HX8.out ?_) |
              (refine ld_set rfl (.tmp 7) rfl _ rfl _ _ HQ8.out ?_) |
              (refine ld_set rfl (.tmp 9) rfl _ rfl _ _ HX6.out ?_) |
              (go_at_call 18; refine (not_calls x _).mono ?_; rintro e w7 ⟨rfl, hb7⟩; have HX7 := Lib.hid (below_all hb7 HX6.out); have HQ7 := Lib.hid (below_all hb7 HQ6.out); have HB7 := Lib.hid (below_more HB6.out HB6.out.size hb7)) |
              (refine st_set rfl (.tmp 9) (.tmp 32) rfl _ rfl _ rfl _ _ HX7.out ?_; intro w8 hg8 hgr8; have HX8 := Lib.hid hg8; have HQ8 := Lib.hid (heap_kept hgr8 HQ7.out (by simp; omega)); have HB8 : Hid (Below w3.heap.size w3 w8) := Lib.hid (HB7.out.grown hgr8 HB7.out.size (fun k e => by cases e; omega)); clear hg8 hgr8) |
              (refine ld_set rfl (.tmp 7) rfl _ rfl _ _ HQ6.out ?_) |
              (refine build_set2 rfl (.tmp 33) (.tmp 34) rfl _ _ rfl rfl ?_) |
              (go_at_call 26; refine (inter_calls _ [q, _] _ (sets_two (heap_alloc_new _ _)) (by simp)).mono ?_; rintro e w9 ⟨rfl, hb9⟩) |
              (refine st_set rfl (.tmp 7) (.tmp 36) rfl _ rfl _ rfl _ _ (below_all hb9 (heap_alloc HQ6.out)) ?_; intro w10 hg10 hgr10) |
              (refine st_set rfl (.tmp 7) (.tmp 36) rfl _ rfl _ rfl _ _ (below_all hb9 (heap_alloc HQ8.out)) ?_; intro w10 hg10 hgr10))
            first
              | exact ⟨⟨k + 1, by omega, by go_num, by rw [HPS.out, HS.out]; exact hg10, (below_more (HB6.out.alloc HB6.out.size _) (by have := HB6.out.size; simp; omega) hb9).grown hgr10 (by have := hb9.size; have := HB6.out.size; simp at *; omega) (fun k e => by cases e; omega)⟩, by simp [intOf]; omega⟩
              | exact ⟨⟨k + 1, by omega, by go_num, by rw [HPS.out, HS.out]; exact hg10, (below_more (HB8.out.alloc HB8.out.size _) (by have := HB8.out.size; simp; omega) hb9).grown hgr10 (by have := hb9.size; have := HB8.out.size; simp at *; omega) (fun k e => by cases e; omega)⟩, by simp [intOf]; omega⟩
        · obtain rfl : k = xs.length := by omega
          rw [List.take_of_length_le (Nat.le_refl _)] at HQ
          have hcut' : acc ++ (partS xs b p :: cutF xs (gk - 1) (restS xs b p)) = cutS xs := by
            rw [← HST.out, show gk - 1 + 1 = gk by omega]; exact HC.out
          have HC' := Lib.hid hcut'
          have hle' : countS (restS xs b p) < gk - 1 := by have := HLT.out; omega
          have HLE := Lib.hid hle'
          have HRS : Hid (interS [p, ~~~(partS xs b p)] = restS xs b p) := Lib.hid rfl
          clear hcut' hle' HST HC HLT
          have h3 := own_below HO.out hb3
          have HO3 := Lib.hid (own_below h3 hBi)
          have HGPi := Lib.hid (below_all hBi HGP3.out)
          have hne : some w3.heap.size ≠ u3.ownBlock := fun e => by rcases own_new h3 (Nat.le_refl _) with h | h <;> rw [← e] at h <;> simp at h
          have HNE := Lib.hid hne
          clear hne h3
          generalize partS xs b p = q at *
          go_wp2_with (first | (refine ld_set rfl (.tmp 7) rfl _ rfl _ _ HQ.out ?_) | (refine build_set1 rfl (.tmp 39) rfl _ rfl ?_) |
            (refine append_set rfl (.tmp 38) (.tmp 40) rfl (g + 1) _ acc acc.length rfl (HO3.out.alloc _) rfl q _ _ rfl (heap_alloc_new _ _) (by omega) (by simp; omega) ?_; intro v' w11 hown11 hgr11))
          have hzr := hgr11.size
          have hg11 := heap_kept hgr11 (heap_alloc (o' := .cells (setC q) 24) HGPi.out) (own_ne HO3.out (by omega))
          have hq11 := heap_kept hgr11 (heap_alloc (o' := .cells (setC q) 24) HQ.out) HNE.out
          have hB11 := ((below_more HB3.out HB3.out.size hBi).alloc (by have := HB3.out.size; omega) (.cells (setC q) 24)).grown hgr11 (by have := HB3.out.size; simp; omega) (own_base HO3.out _ (by omega))
          have G11 := Lib.hid hg11
          have Q11 := Lib.hid hq11
          have B11 := Lib.hid hB11
          have O11 := Lib.hid hown11
          clear hg11 hq11 hB11 hown11 hgr11 hzr HGPi HGP3 HQ HNE HO3 HO HGP
          refine region_tail 5 (by kernel_rfl) (fun w' => Below w11.heap.size w11 w') (fun w1 w2 => Below w1.heap.size w1 w2) (fun i v w => match i with | 0 => v = setV p | 1 => v = setV q | 2 => v = setV (~~~q) | 3 => Sets w v [p, ~~~q] | _ => v = setV (interS [p, ~~~q]))
            (by kernel_rfl) (by kernel_rfl) (by kernel_rfl) (by kernel_rfl) ?_ (Below.refl _ _).drew ?_ ?_
          · intro i v w1 w2 h hE
            match i, h with
            | 0, h => exact h
            | 1, h => exact h
            | 2, h => exact h
            | 3, h => exact Row.below h setC_ne (Nat.le_refl _) hE
            | i + 4, h => exact h
          · refine ⟨?_, ?_, ?_, ?_, ?_, trivial⟩
            · refine ob_val (fun _ => Below.refl _ _) fun a' w' hS hI hD => ⟨rfl, setV p, ?_, rfl⟩
              have h0 : a'.tmps.getD 4 undef = Value.pointer (some ⟨g, 0, none⟩) := hS.at rfl
              simp only [execOp, Act.eval, h0]
              exact run_load_set w' g 0 p (range_row (below_all hI G11.out))
            · refine ob_val (fun _ => Below.refl _ _) fun a' w' hS hI hD => ⟨rfl, setV q, ?_, rfl⟩
              have h0 : a'.tmps.getD 7 undef = Value.pointer (some ⟨w3.heap.size, 0, none⟩) := hS.at rfl
              simp only [execOp, Act.eval, h0]
              exact run_load_set w' _ 0 q (range_row (below_all hI Q11.out))
            · refine ob_call fun a' w' hS hI hD => ⟨rfl, 18, #[setV q], ?_, (not_calls q w').mono fun e w'' ⟨he, hb⟩ => ⟨_, he, rfl, hb, below_more hI hI.size hb⟩⟩
              have h3 : a'.tmps.getD 43 undef = setV q := hD.1
              rw [run_call 18 _ _ rfl (enters_of Tryd.func18 (by kernel_rfl) rfl)]
              simp only [List.map_toArray, List.map_cons, List.map_nil, Act.eval, h3]
            · refine ob_new fun a' w' hS hI hD => ⟨rfl, .slice (some ⟨w'.heap.size, 0, none⟩) 2 2, w'.alloc (.cells (setC p ++ setC (~~~q)) 24), ?_, sets_two (heap_alloc_new _ _), (Below.refl _ _).alloc (Nat.le_refl _) _, hI.alloc hI.size _⟩
              have h0 : a'.tmps.getD 42 undef = setV p := hD.1
              have h1 : a'.tmps.getD 44 undef = setV (~~~q) := hD.2.1
              simp only [execOp, Act.eval, List.map_toArray, List.map_cons, List.map_nil, h0, h1, Sem.run_bind, Sem.run_pure, Result.andThen_ok, run_build_set2]
            · refine ob_call fun a' w' hS hI hD => ⟨rfl, 26, #[a'.tmps.getD 45 undef], ?_, (inter_calls _ [p, ~~~q] w' hD.1 (by simp)).mono fun e w'' ⟨he, hb⟩ => ⟨_, he, rfl, hb, below_more hI hI.size hb⟩⟩
              rw [run_call 26 _ _ rfl (enters_of Tryd.func26 (by kernel_rfl) rfl)]
              simp only [List.map_toArray, List.map_cons, List.map_nil, Act.eval]
          · intro v w' hI hT
            obtain ⟨h0, h1, h2, h3, h4, _⟩ := hT
            have H4 : v 4 = setV (interS [p, ~~~q]) := h4
            have G12 := below_all hI G11.out
            refine st_set rfl (.tmp 4) (.tmp 46) rfl g (by rfl) _ (by exact H4) _ _ G12 ?_
            intro w12 hg12 hgr12
            have hbw := B11.out.size
            have hown' := (own_below O11.out hI).kept hgr12 (Classical.or_iff_not_imp_left.2 fun _ e => own_ne O11.out (Nat.lt_succ_self g) e.symm)
            have hB12 := (below_more B11.out B11.out.size hI).grown hgr12 (by have := hI.size; omega) (fun k e => by cases e; omega)
            have OW := Lib.hid hown'
            have GW := Lib.hid hg12
            have BW := Lib.hid hB12
            clear hown' hg12 hB12 hgr12 G12 H4 h0 h1 h2 h3 h4
            unfold wpList
            simp only [List.take_succ_cons, List.take_zero, putAll, Act.put, List.setIfInBounds_toArray, List.set_cons_succ, List.set_cons_zero, Nat.reduceAdd]
            go_wp2_with (fail)
            go_roundg (gk - 1)
            case measure => omega
            case rel => exact ⟨acc ++ [q], restS xs b p, by simp; omega, HLE.out, by rw [List.append_assoc]; exact HC'.out, by rw [← HRS.out]; exact GW.out, by simpa using OW.out, BW.out⟩
end Go.Proofs.YtekodfpjoehooaaDoor.Bs
