/- The walk of Ranges. -/
import Derived.Test.YtekodfpjoehooaaDoorSetW8
import Derived.Maps.AppendAt
namespace Go.Proofs.YtekodfpjoehooaaDoor.Bs
open Go.RowKit Go.Shelf Mem
attribute [local go_sem] Oper.semAt_some
theorem box_set_in {F : Fence} {n : Nat} {ops : Array Oper} {rest : List Oper} {o : Oper} {a : Act} {w : World} {Q : Exit → Act → World → Prop} (hgd : o.guard = none) (x : Operand) (ho : o.op = .box 24 x)
    (s : BitVec 256) (hx : a.eval x = setV s)
    (h : wpListIn F n Tryd.prog ops Q rest (a.put o.dst (.pointer (some ⟨w.heap.size, 0, none⟩))) (w.alloc (.cells (setC s) 24))) : wpListIn F n Tryd.prog ops Q (o :: rest) a w := by
  refine wpListIn_plain hgd fun K hK' => ?_
  unfold Oper.wpIn
  refine ⟨?_, ?_⟩
  · simp [Oper.about, ho]
  · rw [Oper.semAt_plain F _ _ (by rw [ho]; intro c hc'; cases hc')]
    unfold execOp
    simp only [ho, hx, setV]
    go_simp
    exact hK' _ _ h
def pairL (x : Nat × Nat) : List Value := [.int .u8 (x.1 : Int), .int .u8 (x.2 : Int)]
theorem own_abides {W W' : World} {base : Nat} {e : TypeId} {k n : Nat} {v : Value} {xs : List Value} {row : Option Nat} (h : W.ownsRow base e k v n xs) (hg : W.grownBy W' row) (hr : ∀ r, row = some r → ∃ o : Obj, W.heap[r]? = some o ∧ o.isCells = false) : W'.ownsRow base e k v n xs := by
  refine h.kept hg ?_
  cases hv : v.ownBlock with
  | none => exact .inl rfl
  | some b =>
    refine .inr fun e => ?_
    obtain ⟨o, ho, hc⟩ := hr b e.symm
    rcases h.2 with ⟨rfl, _⟩ | ⟨g, cap, cur, rfl, _, hgg, _⟩
    · simp [Value.ownBlock] at hv
    · simp [Value.ownBlock] at hv
      subst hv
      rw [hgg] at ho
      cases ho
      simp [Obj.isCells] at hc
theorem heap_abides {W W' : World} {g : Nat} {c : Array Value} {t : TypeId} {fr : Nat × Nat} {row : Option Nat} (h : W.heap[g]? = some (.cells c t fr)) (hg : W.grownBy W' row) (hr : ∀ r, row = some r → ∃ o : Obj, W.heap[r]? = some o ∧ o.isCells = false) : W'.heap[g]? = some (.cells c t fr) := by
  refine heap_kept hg h fun e => ?_
  obtain ⟨o, ho, hc⟩ := hr g e.symm
  rw [h] at ho
  cases ho
  simp [Obj.isCells] at hc
theorem infoPair : (Tryd.prog.info? 44).map (fun i => (i.zero, i.size, i.bytes)) = some (some (.agg #[.int .u8 0, .int .u8 0]), 2, 2) := by kernel_rfl
set_option maxRecDepth 100000 in
set_option maxHeartbeats 1000000 in
theorem ranges_calls (s : BitVec 256) (w : World) (hT : Tab w) :
    Calls Tryd.prog 16 #[setV s] w fun e w' => ∃ v, e = .returned v ∧ w'.ownsRow w.heap.size 44 2 v (rowsS s).length (flat pairL (rowsS s)) ∧ Below w.heap.size w w' := by
  refine (callsIn_wide (n := 5)).1 ?_
  have h1 : 1 ≤ 5 := by omega
  have ht0 : 0 < w.heap.size := World.block_lt_of_cell? w _ (hT 0 (by omega))
  have HT := Lib.hid hT
  clear hT
  obtain ⟨i0, hi, hz0, hz1, hz2⟩ := info_parts infoPair
  refine callsIn_of_wp_marks Tryd.func16 rfl trivial ?_ rfl
  simp only [Tryd.ntmps16, List.size_toArray, List.length_cons, List.length_nil, Nat.reduceAdd, Nat.reduceSub, Array.replicate_succ, Array.replicate_zero, List.push_toArray, List.append_toArray, List.nil_append, List.cons_append]
  gi_wp2_with (first | (refine box_set_in rfl (.tmp 0) rfl s rfl ?_) | (refine ld_set_in rfl (.tmp 1) rfl _ rfl s _ (heap_alloc2_old _ _ _) ?_) | (refine ⟨trivial, ?_⟩; gi_at_call 33; refine (callsIn_wide.2 (rows_calls s _)).mono ?_; rintro e w' ⟨rfl, rfl⟩))
  have bB := below_alloc3 w (.cells (setC s) 24) (.cells #[.slice none 0 0] 31) (.cells (setC s) 24)
  have b2 := heap_alloc3_new w (.cells (setC s) 24) (.cells #[.slice none 0 0] 31) (.cells (setC s) 24)
  have b1 := heap_alloc (o' := .cells (setC s) 24) (heap_alloc2_new w (.cells (setC s) 24) (.cells #[.slice none 0 0] 31))
  have hsz : (((w.alloc (.cells (setC s) 24)).alloc (.cells #[.slice none 0 0] 31)).alloc (.cells (setC s) 24)).heap.size = w.heap.size + 3 := by simp
  generalize ((w.alloc (.cells (setC s) 24)).alloc (.cells #[.slice none 0 0] 31)).alloc (.cells (setC s) 24) = w0 at *
  have HTw := HT.out.below (below_le bB (Nat.le_refl _))
  refine wpIn_rangeFunc_ownH rfl h1 (gf := 37) (lb := #[.pointer (some ⟨w.heap.size + 2, 0, none⟩)]) rfl trivial (enters_of Tryd.func37 (by kernel_rfl) rfl)
    (encs := fun x => #[Value.agg #[.int .u8 (x.1 : Int), .int .u8 (x.2 : Int)]]) (Kp := Kpt (w.heap.size + 2) w.heap.size) (S := fun ys => ys = rowsS s) (Sp := fun pre => pre <+: rowsS s) (N := 256) (w0 := w0)
    (fun l J Jx W hW hJ hJx hY h0 => rows1_in 4 (by omega) l (w.heap.size + 2) w.heap.size s J Jx W hJ hY (below_all hW b2) (HTw.below hW) ht0 h0)
    Kpt.trans (fun W l o o' hl _ _ _ i hi => World.putObj_heap_other (by omega)) (Below.refl _ _) (fun _ => rfl)
    (fun pre W => (∃ v, W.heap[w.heap.size + 1]? = some (.cells #[v] 31 (0, 0)) ∧ W.ownsRow (w.heap.size + 3) 44 2 v pre.length (flat pairL pre)) ∧ Below w.heap.size w W ∧ w.heap.size + 3 ≤ W.heap.size)
    (fun _ _ _ => False)
    (OwnFrom.and (fun st A B row hs hg hr => by
      obtain ⟨v, h1, h2⟩ := hs
      exact ⟨v, heap_abides h1 hg (fun r e => (hr r e).2), own_abides h2 hg (fun r e => (hr r e).2)⟩) (OwnFrom.and (ownFrom_below (Nat.le_refl _) (by omega)) (fun st A B row hs hg hr => Nat.le_trans hs hg.size)))
    (fun _ _ _ _ _ hs _ _ => hs)
    ⟨⟨_, b1, World.ownsRow_nil _ _ _ _⟩, bB, by omega⟩
    (fun x a' W => ∃ Bx, w.heap.size + 3 ≤ Bx ∧ W.heap[Bx]? = some (.cells #[.int .u8 (x.1 : Int), .int .u8 (x.2 : Int)] 44 (0, 0)) ∧
      a' = { tmps := #[setV s, .pointer (some ⟨w.heap.size, 0, none⟩), .slice none 0 0, .pointer (some ⟨w.heap.size + 1, 0, none⟩), .pointer (some ⟨Bx, 0, none⟩), setV s, .func (.func 37) #[] #[.pointer (some ⟨w.heap.size + 2, 0, none⟩)], .agg #[.int .u8 (x.1 : Int), .int .u8 (x.2 : Int)], undef, undef, undef, undef, undef], defers := [] })
    (fun x a' st A B row hs hg hr => by
      obtain ⟨Bx, h1, h2, h3⟩ := hs
      exact ⟨Bx, h1, heap_abides h2 hg (fun r e => (hr r e).2), h3⟩) ?assign ?body ?done ?stop
  case assign =>
    rintro l pre x W K ⟨⟨v, hv1, hv2⟩, hB, hW3⟩ hK
    have hB1 := hB.size
    gi_wp2
    refine hK _ _ ((KeepsOthers.alloc _ _).from _) (fun i hi => Go.heap_alloc_old _ _ _ (by omega)) ⟨⟨v, heap_alloc hv1, hv2.alloc _⟩, hB.alloc hB1 _, by simp; omega⟩ ⟨W.heap.size, by omega, heap_alloc_new _ _, rfl⟩
  case body =>
    rintro l pre x a' W hl ⟨r, hr⟩ ⟨⟨v, hv, hrow⟩, hB, hW3⟩ ⟨Bx, hBx, hx, rfl⟩ hlt
    have hc : W.cell? ⟨w.heap.size + 1, 0, none⟩ = some v := by rw [cell_of_row W _ _ _ _ _ hv]; rfl
    have hx0 : W.cell? ⟨Bx, 0, none⟩ = some (.int .u8 (x.1 : Int)) := by rw [cell_of_row W _ _ _ _ _ hx]; rfl
    have hx1 : W.cell? ⟨Bx, 1, none⟩ = some (.int .u8 (x.2 : Int)) := by rw [cell_of_row W _ _ _ _ _ hx]; rfl
    have HV := Lib.hid hv
    have HRW := Lib.hid hrow
    have HX := Lib.hid hx
    clear hv hrow hx hr
    gi_wp2_with (gi_at_builtin; refine wpListIn_append_own _ rfl _ _ 31 rfl (w.heap.size + 3) 44 i0 _ 2 2 Tryd.underlying31 hi hz0 hz1 hz2 rfl (by decide) _ _ _ rfl (HRW.out.alloc _) ⟨W.heap.size, 0, none⟩ 1 1 (pairL x) rfl rfl (fun j u hj => by rw [Addr.add_mid]; exact range_row (heap_alloc_new _ _) j u hj) (by intro u hu; simp [pairL] at hu; rcases hu with rfl | rfl <;> rfl) (by unfold maxLen; omega) (by omega) (by simp; omega) ?_; intro v' w1 hown' hgrow _; obtain ⟨g', cap', rfl⟩ := ownsRow_succ hown'; have HO := Lib.hid hown'; have HG := Lib.hid hgrow; have HV1 := Lib.hid (heap_kept hgrow (heap_alloc HV.out) (own_ne HRW.out (by omega))); clear hown' hgrow; have hc1 : w1.cell? ⟨w.heap.size + 1, 0, none⟩ = some v := (by rw [cell_of_row w1 _ _ _ _ _ HV1.out]; rfl); have hf1 := frozen_of_row w1 _ 0 _ _ HV1.out)
    have hs := heap_setCell_same w1 (w.heap.size + 1) 0 _ _ (.slice (some ⟨g', 0, none⟩) (pre.length + 1) cap') HV1.out
    have hgs := grown_setCell w1 (w.heap.size + 1) 0 (.slice (some ⟨g', 0, none⟩) (pre.length + 1) cap')
    have hz1 := HG.out.size
    simp at hz1
    have hk1 : KeepsOthers W (W.alloc (.cells #[.int .u8 (x.1 : Int), .int .u8 (x.2 : Int)] 44)) := KeepsOthers.alloc _ _
    have hk2 : KeepsOthers _ w1 := KeepsOthers.of_grownBy HG.out (fun j o hj ho => by obtain ⟨c, t, fr, rfl⟩ := own_cells (HRW.out.alloc _) j o hj ho; rfl)
    refine ⟨((hk1.trans hk2).trans (KeepsOthers.setCell _ _ _)).from _, fun i hi => ?_, ⟨_, hs, ?_⟩, ?_, by simp; omega⟩
    · rw [heap_setCell_other w1 _ i _ (by simp; omega), HG.out.block i (by simp; omega) (own_ne HRW.out (by omega))]
      exact Go.heap_alloc_old _ _ _ (by omega)
    · rw [List.length_append, flat_snoc]
      exact own_other HO.out hgs (by omega)
    · exact (((hB.alloc hB.size _).grown HG.out (by simp; omega) (own_base HRW.out _ (by omega))).grown hgs (by omega) (fun k e => by cases e; omega))
  case done =>
    rintro D ys W hD rfl ⟨⟨v, hv, hrow⟩, hB, hW3⟩ hK
    have hc : W.cell? ⟨w.heap.size + 1, 0, none⟩ = some v := by rw [cell_of_row W _ _ _ _ _ hv]; rfl
    gi_wp2
    refine ⟨by simp, .inl ⟨_, _, rfl, run_takeDeferred hK, ?_⟩⟩
    exact ⟨_, results_tmp rfl _ _ _, v, rfl, ownsRow_putObj (own_mono hrow (by omega)) _ hK rfl, hB.trans (belowK_b (w := w) (Nat.le_refl _) W D _ _ (by omega) hK rfl rfl)⟩
  case stop =>
    rintro D c pre W _ _ h _
    exact h.elim
end Go.Proofs.YtekodfpjoehooaaDoor.Bs
