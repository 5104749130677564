/- The laws of the walk: regions that draw their order (quiet ones; those whose last operations write), appends, names of worlds. Over any program. -/
import Derived.Test.YtlppkbfkajionaaGwS
import Derived.StillTail
namespace Go.Proofs.Ytlppkbfkajionaa.Gw
open Go Go.RowKit
set_option linter.unusedSimpArgs false
set_option linter.unusedVariables false
set_option linter.unusedSectionVars false
section
variable {P : Program} {r : Option Nat} {n : Nat} {ops : Array Oper} {Q : Exit → Act → World → Prop} {N : Nat} {l : List (Nat × Value)} {ds : List Deferred} {W w0 : World} {gs : Gx} {own : List Blk} {rest : List Oper} {o : Oper} {S : Sx}
theorem St.drewn {w : World} (h : St S w) : St S { w with drawn := w.drawn + 1 } := ⟨h.os, h.tape, h.output, h.sizeW, h.size0, h.oldW, h.old0, h.apart, h.base, h.blk⟩
/-- a quiet region's operations, in the order of the text -/
def WK (P : Program) (n : Nat) (ops : Array Oper) (Q : Exit → Act → World → Prop) (N : Nat) (rest : List Oper) (l : List (Nat × Value)) (S : Sx) : Prop :=
  ∀ a, Ag S.gs.ds N l a → wpQuietIn (FW none) n P ops (St S) (fun a' => ∀ w', St S w' → Q .normal a' w') rest a
theorem wc_region_quiet {id : Nat} {os : List Oper} (hm : P.follows .mixedOrders = true) (hB : Region.lexB .any os.toArray = true) (h : WK P n os.toArray Q N os l S) : WC P none n (.region id os.toArray true) Q N l S := fun a w ha hs =>
  wpIn_region_quiet (C := St S) rfl hm hB hs.drewn (by simpa using h a ha)
theorem wk_nil (h : WQ Q .normal N l S) : WK P n ops Q N [] l S := fun a ha => fun w' hs => h a w' ha hs
theorem wk_val {op : Op} {d : Nat} {v : Value} (hg : o.guard = none) (ho : o.op = op) (h : RV P l S op v) (hd : o.dst = some d) (hN : Nat.ble (d + 1) N = true) (next : WK P n ops Q N rest ((d, v) :: l) S) : WK P n ops Q N (o :: rest) l S := fun a ha => by
  refine ⟨fun _ _ _ _ => trivial, ?_⟩
  rw [if_pos (by simp only [Region.wanted, hg])]
  refine ⟨v, fun w hs => ?_, ?_⟩
  · unfold Oper.quietAtIn
    rw [h.2 N a w o ho ha hs]
    exact ⟨rfl, rfl⟩
  · rw [hd]; exact next _ (ha.put hN v)
theorem wk_call {f d : Nat} {c : Operand} {xs : List Operand} {tys : Array TypeId} {args fi ca : List Value} {v : Value}
    (hg : o.guard = none) (ho : o.op = .call { callee := .value c, args := xs.toArray, argTypes := tys }) (hcal : ev l c = some (.func (.func f) fi.toArray ca.toArray)) (he : ∀ args w, (callFunc f args).run P w = .ok (.enter f args) w) (hargs : evsO l xs = some args) (hd : o.dst = some d) (hN : Nat.ble (d + 1) N = true)
    (hc : ∀ w, St S w → Calls P f (fi ++ args ++ ca).toArray w (fun e w' => e = .returned v ∧ Below w.heap.size w w'))
    (next : WK P n ops Q N rest ((d, v) :: l) S) : WK P n ops Q N (o :: rest) l S := fun a ha => by
  refine ⟨fun _ _ _ _ => trivial, ?_⟩
  rw [if_pos (by simp only [Region.wanted, hg])]
  refine ⟨v, fun w hs => ?_, ?_⟩
  · unfold Oper.quietAtIn
    rw [run_call_of ha ho hcal he hargs]
    refine ⟨rfl, fun h => absurd h (by simp), callsIn_wide.2 ((hc w hs).mono fun e w' ⟨h1, h2⟩ => ⟨h1, hs.more h2⟩)⟩
  · rw [hd]; exact next _ (ha.put hN v)
theorem wk_split {d : Nat} {b : Bool} (hb : getO l d = some (.bool b)) (want : Bool) (h1 : b = want → WK P n ops Q N rest l S) (h2 : b = !want → WK P n ops Q N rest l S) : WK P n ops Q N rest l S := by
  by_cases h : b = want
  · exact h1 h
  · exact h2 (by cases b <;> cases want <;> simp_all)
theorem wl_split {d : Nat} {b : Bool} (hb : getO l d = some (.bool b)) (want : Bool) (h1 : b = want → WL P r n ops Q N rest l S) (h2 : b = !want → WL P r n ops Q N rest l S) : WL P r n ops Q N rest l S := by
  by_cases h : b = want
  · exact h1 h
  · exact h2 (by cases b <;> cases want <;> simp_all)
theorem wk_want {op : Op} {d j dj : Nat} {want b : Bool} {oj : Oper} {v : Value} (hg : o.guard = some (j, want)) (hj : ops[j]? = some oj) (hdj : oj.dst = some dj) (hM : Nat.ble (dj + 1) N = true) (hb : getO l dj = some (.bool b)) (he : b = want) (ho : o.op = op) (h : RV P l S op v) (hd : o.dst = some d) (hN : Nat.ble (d + 1) N = true) (next : WK P n ops Q N rest ((d, v) :: l) S) : WK P n ops Q N (o :: rest) l S := fun a ha => by
  have hM := Nat.le_of_ble_eq_true hM
  refine ⟨fun _ _ _ _ => trivial, ?_⟩
  rw [wanted_of hg hj hdj (ha.slot _ _ hb) (by rw [ha.size]; omega), if_pos (by subst he; cases b <;> rfl)]
  refine ⟨v, fun w hs => ?_, ?_⟩
  · unfold Oper.quietAtIn
    rw [h.2 N a w o ho ha hs]
    exact ⟨rfl, rfl⟩
  · rw [hd]; exact next _ (ha.put hN v)
theorem wk_call_want {f d j dj : Nat} {want b : Bool} {oj : Oper} {c : Operand} {xs : List Operand} {tys : Array TypeId} {args fi ca : List Value} {v : Value}
    (hg : o.guard = some (j, want)) (hj : ops[j]? = some oj) (hdj : oj.dst = some dj) (hM : Nat.ble (dj + 1) N = true) (hb : getO l dj = some (.bool b)) (hbe : b = want)
    (ho : o.op = .call { callee := .value c, args := xs.toArray, argTypes := tys }) (hcal : ev l c = some (.func (.func f) fi.toArray ca.toArray)) (he : ∀ args w, (callFunc f args).run P w = .ok (.enter f args) w) (hargs : evsO l xs = some args) (hd : o.dst = some d) (hN : Nat.ble (d + 1) N = true)
    (hc : ∀ w, St S w → Calls P f (fi ++ args ++ ca).toArray w (fun e w' => e = .returned v ∧ Below w.heap.size w w'))
    (next : WK P n ops Q N rest ((d, v) :: l) S) : WK P n ops Q N (o :: rest) l S := fun a ha => by
  have hM := Nat.le_of_ble_eq_true hM
  refine ⟨fun _ _ _ _ => trivial, ?_⟩
  rw [wanted_of hg hj hdj (ha.slot _ _ hb) (by rw [ha.size]; omega), if_pos (by subst hbe; cases b <;> rfl)]
  refine ⟨v, fun w hs => ?_, ?_⟩
  · unfold Oper.quietAtIn
    rw [run_call_of ha ho hcal he hargs]
    refine ⟨rfl, fun h => absurd h (by simp), callsIn_wide.2 ((hc w hs).mono fun e w' ⟨h1, h2⟩ => ⟨h1, hs.more h2⟩)⟩
  · rw [hd]; exact next _ (ha.put hN v)
theorem wk_skip {j d : Nat} {want b : Bool} {oj : Oper} (hg : o.guard = some (j, want)) (hj : ops[j]? = some oj) (hdj : oj.dst = some d) (hN : Nat.ble (d + 1) N = true) (hb : getO l d = some (.bool b)) (hne : b = !want)
    (hM : (match o.dst with | some d => Nat.ble (d + 1) N | none => true) = true) (h : WK P n ops Q N rest (skipL l o.dst) S) : WK P n ops Q N (o :: rest) l S := fun a ha => by
  have hN := Nat.le_of_ble_eq_true hN
  refine ⟨fun _ _ _ _ => trivial, ?_⟩
  rw [wanted_of hg hj hdj (ha.slot _ _ hb) (by rw [ha.size]; omega), if_neg (by subst hne; cases want <;> simp)]
  refine h _ ?_
  cases hd : o.dst with
  | none => exact ha
  | some d' => rw [hd] at hM; exact ha.put hM _
theorem wk_skip_u {j d : Nat} {want : Bool} {oj : Oper} (hg : o.guard = some (j, want)) (hj : ops[j]? = some oj) (hdj : oj.dst = some d) (hN : Nat.ble (d + 1) N = true) (hb : getO l d = some undef)
    (hM : (match o.dst with | some d => Nat.ble (d + 1) N | none => true) = true) (h : WK P n ops Q N rest (skipL l o.dst) S) : WK P n ops Q N (o :: rest) l S := fun a ha => by
  have hN := Nat.le_of_ble_eq_true hN
  refine ⟨fun _ _ _ _ => trivial, ?_⟩
  rw [if_neg (by
    rw [wanted_u hg hj hdj (ha.slot _ _ hb) (by rw [ha.size]; omega)]; simp)]
  refine h _ ?_
  cases hd : o.dst with
  | none => exact ha
  | some d' => rw [hd] at hM; exact ha.put hM _
/-- an operation that writes -/
def RW (P : Program) (l : List (Nat × Value)) (S : Sx) (op : Op) (S' : Sx) : Prop :=
  plainOp op = true ∧ S'.gs = S.gs ∧ ∀ (N : Nat) (a : Act) (w : World) (o : Oper), o.op = op → Ag S.gs.ds N l a → St S w → ∃ w1, (execOp a.eval o).run P w = .ok .skip w1 ∧ St S' w1
theorem wo_rw {op : Op} {S' : Sx} (ho : o.op = op) (h : RW P l S op S') (hd : o.dst = none) (next : WL P r n ops Q N rest l S') : WO P r n ops Q N o rest l S :=
  wo_to0 ho h.1 hd fun a w ha hs => let ⟨w1, h1, h2⟩ := h.2.2 N a w o ho ha hs; ⟨w1, h1, S', h.2.1, h2, next⟩
theorem rw_store {T sz k b i : Nat} {x y : Operand} {v : Value} {xs cs cs' : List Value} {t : TypeId} {own' : List Blk} [hZ : TSz P T sz] (hx : ev l x = some (.pointer (some ⟨b, k, none⟩))) (hy : ev l y = some v) (hv : v.cells = xs.toArray) (hl : xs.length = sz) (h1 : (xs.all fun u => u.oneCell') = true)
    [hB : HasB own b i (.cells cs.toArray t (0, 0))] [hS : Spl cs k xs cs'] [hU : UpdB own b (.cells cs'.toArray t (0, 0)) own'] : RW P l ⟨W, gs, w0, own⟩ (.store T x y) ⟨W, gs, w0, own'⟩ := ⟨rfl, rfl, fun N a w o ho ha hs => by
    have hb := hs.at hB.h
    obtain ⟨e1, e2, e3, e4, e5, cs2, e6, e7, e8⟩ := setCells_blk (t := t) xs k w cs hb hS.h2
    have ec : cs2 = cs' := by
      apply List.ext_getElem?
      intro j
      rw [e8 j, hS.h j]
    subst ec
    obtain ⟨i', o0, hi', he⟩ := hU.h
    refine ⟨w.setCells b k xs, ?_, ?_⟩
    · have hst := run_storeCells_cells (P := P) b k xs 0 w (fun j hj => by
          rw [Nat.add_zero, cell_blk hb, List.getElem?_eq_getElem (by have := hS.h2; omega)]; rfl) (fun j hj => by simp [World.frozen?, hb]) (fun u hu => List.all_eq_true.1 h1 u hu)
      unfold execOp
      simp only [ho, ha.ev hx, ha.ev hy, Instr.storeAt, Instr.sureAddr, Sem.run_bind, Sem.run_pure, Result.andThen_ok, storeVar, hv, run_size_of (P := P) (T := T)]
      rw [if_neg (by simp [hl])]
      simp only [Nat.add_zero] at hst
      simp only [hst, Result.andThen_ok, Sem.run_bind, Sem.run_pure]
    · subst he
      exact hs.write (x := ⟨b, o0⟩) hi' _ e1 e2 e3 (by omega) (fun b' _ hb' => e5 b' hb') e6⟩
/-- the first field -/
theorem rv_fieldAddr0 {T f ft sz : Nat} [hT : TFld P T f 0 ft sz] {x : Operand} {b k : Nat} (hx : ev l x = some (.pointer (some ⟨b, k, none⟩))) : RV P l S (.fieldAddr T x f) (.pointer (some ⟨b, k, none⟩)) := rv_fieldAddr (off := 0) hx
theorem wo_bs {T e sz bytes d len : Nat} {parts : List (Nat × Operand)} (ps : List (List Value)) {cs : List Value} (ho : o.op = .buildSlice T len parts.toArray) (hd : o.dst = some d) (hN : Nat.ble (d + 1) N = true) [hT : TSl P T e] [hE : TEl P e sz bytes] (hp : cellsL l sz parts 0 ps) (hlen : ps.length = len) [hC : CatC ps cs] (hsm : Nat.ble (len * sz) 16777216 = true)
    (next : ∀ b, w0.heap.size ≤ b → WL P r n ops Q N rest ((d, .slice (some ⟨b, 0, none⟩) len len) :: l) ⟨W, gs, w0, ⟨b, .cells cs.toArray e (0, 0)⟩ :: own⟩) : WO P r n ops Q N o rest l ⟨W, gs, w0, own⟩ := wo_buildSlice ps hp hlen hsm ho hd hN next
theorem wo_st {T sz k b i : Nat} {x y : Operand} {v : Value} {xs cs cs' : List Value} {t : TypeId} {own' : List Blk} (ho : o.op = .store T x y) (hd : o.dst = none) [hZ : TSz P T sz] (hx : ev l x = some (.pointer (some ⟨b, k, none⟩))) (hy : ev l y = some v) (hv : v.cells = xs.toArray) (hl : xs.length = sz) (h1 : (xs.all fun u => u.oneCell') = true)
    [hB : HasB own b i (.cells cs.toArray t (0, 0))] [hS : Spl cs k xs cs'] [hU : UpdB own b (.cells cs'.toArray t (0, 0)) own']
    (next : WL P r n ops Q N rest l ⟨W, gs, w0, own'⟩) : WO P r n ops Q N o rest l ⟨W, gs, w0, own⟩ := wo_store hx hy hv hl h1 ho hd next
/-- the first operations of a region that draws; the others write, each behind the one ahead of it -/
def WT (P : Program) (ops : Array Oper) (Q : Exit → Act → World → Prop) (N : Nat) (tail head : List Oper) (l : List (Nat × Value)) (S : Sx) : Prop :=
  ∀ a w, Ag S.gs.ds N l a → St S w → wpStill P ops w (fun a' => wpList P ops Q tail a' w) head a
def WU (P : Program) (ops : Array Oper) (Q : Exit → Act → World → Prop) (N : Nat) (tail : List Oper) (l : List (Nat × Value)) (S : Sx) : Prop :=
  ∀ a w, Ag S.gs.ds N l a → St S w → wpList P ops Q tail a w
theorem wc_region_tail {id : Nat} {os : List Oper} (k : Nat) (hm : P.follows .mixedOrders = true) (hB : Region.lexTailB .any os.toArray k = true) (h : WT P os.toArray Q N (os.drop k) (os.take k) l S) : WC P none n (.region id os.toArray true) Q N l S := fun a w ha hs =>
  wpIn_wide.2 (wp_region_still_tail k hm hB (h a _ ha hs.drewn))
theorem wt_nil {tail : List Oper} (h : WU P ops Q N tail l S) : WT P ops Q N tail [] l S := fun a w ha hs => wpStill_nil (h a w ha hs)
theorem wt_val {tail : List Oper} {op : Op} {d : Nat} {v : Value} (hg : o.guard = none) (ho : o.op = op) (h : RV P l S op v) (hd : o.dst = some d) (hN : Nat.ble (d + 1) N = true) (next : WT P ops Q N tail rest ((d, v) :: l) S) : WT P ops Q N tail (o :: rest) l S := fun a w ha hs => by
  unfold wpStill
  rw [if_pos (by simp only [Region.wanted, hg])]
  unfold Oper.still
  rw [h.2 N a w o ho ha hs]
  refine ⟨rfl, ?_⟩
  rw [hd]
  exact next _ w (ha.put hN v) hs
theorem wt_val_want {tail : List Oper} {op : Op} {d j dj : Nat} {want b : Bool} {oj : Oper} {v : Value} (hg : o.guard = some (j, want)) (hj : ops[j]? = some oj) (hdj : oj.dst = some dj) (hM : Nat.ble (dj + 1) N = true) (hb : getO l dj = some (.bool b)) (he : b = want) (ho : o.op = op) (h : RV P l S op v) (hd : o.dst = some d) (hN : Nat.ble (d + 1) N = true) (next : WT P ops Q N tail rest ((d, v) :: l) S) : WT P ops Q N tail (o :: rest) l S := fun a w ha hs => by
  have hM := Nat.le_of_ble_eq_true hM
  unfold wpStill
  rw [wanted_of hg hj hdj (ha.slot _ _ hb) (by rw [ha.size]; omega), if_pos (by subst he; cases b <;> rfl)]
  unfold Oper.still
  rw [h.2 N a w o ho ha hs]
  refine ⟨rfl, ?_⟩
  rw [hd]
  exact next _ w (ha.put hN v) hs
theorem wt_split {tail : List Oper} {d : Nat} {b : Bool} (hb : getO l d = some (.bool b)) (want : Bool) (h1 : b = want → WT P ops Q N tail rest l S) (h2 : b = !want → WT P ops Q N tail rest l S) : WT P ops Q N tail rest l S := by
  by_cases h : b = want
  · exact h1 h
  · exact h2 (by cases b <;> cases want <;> simp_all)
theorem wt_skip {tail : List Oper} {j d : Nat} {want b : Bool} {oj : Oper} (hg : o.guard = some (j, want)) (hj : ops[j]? = some oj) (hdj : oj.dst = some d) (hN : Nat.ble (d + 1) N = true) (hb : getO l d = some (.bool b)) (hne : b = !want)
    (hM : (match o.dst with | some d => Nat.ble (d + 1) N | none => true) = true) (h : WT P ops Q N tail rest (skipL l o.dst) S) : WT P ops Q N tail (o :: rest) l S := fun a w ha hs => by
  have hN := Nat.le_of_ble_eq_true hN
  unfold wpStill
  rw [wanted_of hg hj hdj (ha.slot _ _ hb) (by rw [ha.size]; omega), if_neg (by subst hne; cases want <;> simp)]
  refine h _ w ?_ hs
  cases hd : o.dst with
  | none => exact ha
  | some d' => rw [hd] at hM; exact ha.put hM _
theorem wu_nil (h : WQ Q .normal N l S) : WU P ops Q N [] l S := fun a w ha hs => h a w ha hs
theorem wu_rw {op : Op} {S' : Sx} (hg : o.guard = none) (ho : o.op = op) (h : RW P l S op S') (hd : o.dst = none) (next : WU P ops Q N rest l S') : WU P ops Q N (o :: rest) l S := fun a w ha hs => by
  obtain ⟨w1, h1, h2⟩ := h.2.2 N a w o ho ha hs
  unfold wpList
  rw [if_pos (by simp only [Region.wanted, hg])]
  refine .inl ?_
  unfold Oper.wp
  rw [h1]
  show wpList _ _ _ _ (a.put o.dst undef) w1
  rw [hd]
  exact next _ w1 (by rw [h.2.1]; exact ha) h2
theorem wu_val {op : Op} {d : Nat} {v : Value} (hg : o.guard = none) (ho : o.op = op) (h : RV P l S op v) (hd : o.dst = some d) (hN : Nat.ble (d + 1) N = true) (next : WU P ops Q N rest ((d, v) :: l) S) : WU P ops Q N (o :: rest) l S := fun a w ha hs => by
  unfold wpList
  rw [if_pos (by simp only [Region.wanted, hg])]
  refine .inl ?_
  unfold Oper.wp
  rw [h.2 N a w o ho ha hs]
  show wpList _ _ _ _ (a.put o.dst v) w
  rw [hd]
  exact next _ w (ha.put hN v) hs
/-- the world gets a name; newer own blocks are let go -/
theorem St.rename {w : World} (h : St ⟨W, gs, w0, own⟩ w) {own2 : List Blk} (hsub : ∃ pre, pre ++ own2 = own) : St ⟨W, gs, w, own2⟩ w := by
  obtain ⟨pre, rfl⟩ := hsub
  have hs : ∀ x ∈ own2, x ∈ pre ++ own2 := fun x hx => by simp [hx]
  exact ⟨h.os, h.tape, h.output, Nat.le_trans h.sizeW h.size0, Nat.le_refl _, h.oldW, fun _ _ _ => rfl, (List.pairwise_append.1 h.apart).2.1, fun x hx => h.base x (hs x hx), fun x hx => h.blk x (hs x hx)⟩
theorem wl_name (own2 : List Blk) (hsub : ∃ pre, pre ++ own2 = own) (next : ∀ w1, St ⟨W, gs, w0, own⟩ w1 → WL P r n ops Q N rest l ⟨W, gs, w1, own2⟩) : WL P r n ops Q N rest l ⟨W, gs, w0, own⟩ := fun a w ha hs => next w hs a w ha (hs.rename hsub)
theorem wc_name {c : Code} (own2 : List Blk) (hsub : ∃ pre, pre ++ own2 = own) (next : ∀ w1, St ⟨W, gs, w0, own⟩ w1 → WC P r n c Q N l ⟨W, gs, w1, own2⟩) : WC P r n c Q N l ⟨W, gs, w0, own⟩ := fun a w ha hs => next w hs a w ha (hs.rename hsub)
theorem wq_name {e : Exit} (own2 : List Blk) (hsub : ∃ pre, pre ++ own2 = own) (next : ∀ w1, St ⟨W, gs, w0, own⟩ w1 → WQ Q e N l ⟨W, gs, w1, own2⟩) : WQ Q e N l ⟨W, gs, w0, own⟩ := fun a w ha hs => next w hs a w ha (hs.rename hsub)
/-- a row of the call's own, in the state's world by name; none of the own blocks -/
structure Rw (S : Sx) (e sz : Nat) (v : Value) (k : Nat) (xs : List Value) : Prop where
  own : S.w0.ownsRow S.W.heap.size e sz v k xs
  off : ∀ z ∈ S.own, v.ownBlock ≠ some z.b
theorem Rw.nil (S : Sx) (e sz : Nat) : Rw S e sz (.slice none 0 0) 0 [] := ⟨World.ownsRow_nil _ _ _ _, fun z _ h => by simp [Value.ownBlock] at h⟩
theorem Rw.lt {e sz k : Nat} {v : Value} {xs : List Value} (h : Rw S e sz v k xs) : ∀ b, v.ownBlock = some b → S.W.heap.size ≤ b ∧ b < S.w0.heap.size := World.ownsRow.lt h.own
theorem Rw.cons {e sz k : Nat} {v : Value} {xs : List Value} {x : Blk} (h : Rw ⟨W, gs, w0, own⟩ e sz v k xs) (hx : w0.heap.size ≤ x.b) : Rw ⟨W, gs, w0, x :: own⟩ e sz v k xs := ⟨h.own, fun z hz e => by
  rcases List.mem_cons.1 hz with rfl | hz
  · have := (h.lt _ e).2; simp at this; omega
  · exact h.off z hz e⟩
theorem own_moved {base : Nat} {e sz k : Nat} {v : Value} {xs : List Value} {w w1 : World} (h : w.ownsRow base e sz v k xs) (hb : ∀ b, v.ownBlock = some b → w1.heap[b]? = w.heap[b]?) : w1.ownsRow base e sz v k xs := by
  obtain ⟨h1, h2⟩ := h
  refine ⟨h1, ?_⟩
  rcases h2 with h2 | ⟨g, cap, cur, hv, hg, hh, r⟩
  · exact .inl h2
  · exact .inr ⟨g, cap, cur, hv, hg, by rw [hb g (by rw [hv]; rfl)]; exact hh, r⟩
theorem Rw.at {e sz k : Nat} {v : Value} {xs : List Value} (h : Rw S e sz v k xs) {w : World} (hs : St S w) : w.ownsRow S.W.heap.size e sz v k xs :=
  own_moved h.own fun b hb => hs.old0 b (h.lt b hb).2 fun x hx e => h.off x hx (by rw [hb, e])
/-- a row stays, the world having gone on -/
theorem Rw.move {e sz k : Nat} {v : Value} {xs : List Value} {own2 : List Blk} {w1 : World} {q : Option Nat} (h : Rw ⟨W, gs, w0, own⟩ e sz v k xs) (hm : Moved ⟨W, gs, w0, own⟩ q w1) (hq : ∀ b, v.ownBlock = some b → some b ≠ q) (hsub : ∃ pre, pre ++ own2 = own) : Rw ⟨W, gs, w1, own2⟩ e sz v k xs := by
  obtain ⟨pre, rfl⟩ := hsub
  exact ⟨own_moved h.own fun b hb => hm.block b (h.lt b hb).2 (fun x hx e => h.off x hx (by rw [hb, e])) (hq b hb), fun z hz => h.off z (by simp [hz])⟩
theorem wo_append {T e sz bytes d m c : Nat} {x y : Operand} {v : Value} {k b i : Nat} {xs cs news : List Value} {fr : Nat × Nat} {t : TypeId} [hT : TSl P T e] [hE : TEl P e sz bytes] (hx : ev l x = some v) (hy : ev l y = some (.slice (some ⟨b, 0, none⟩) m c))
    [hB : HasB own b i (.cells cs.toArray t fr)] (hnews : news = cs) (hl : news.length = m * sz) (h1 : (news.all fun u => u.oneCell') = true) (own2 : List Blk) (hsub : ∃ pre, pre ++ own2 = own)
    (hR : Rw ⟨W, gs, w0, own⟩ e sz v k xs) (hk : k + m ≤ maxLen ∧ (k + m) * bytes ≤ 140737488355328)
    (ho : o.op = .call { callee := .builtin .append, args := #[x, y], argTypes := #[T, T] }) (hd : o.dst = some d) (hN : Nat.ble (d + 1) N = true)
    (next : ∀ v' w1, Rw ⟨W, gs, w1, own2⟩ e sz v' (k + m) (xs ++ news) → Moved ⟨W, gs, w0, own⟩ v.ownBlock w1 → (v'.ownBlock = v.ownBlock ∨ ∃ g, v'.ownBlock = some g ∧ w0.heap.size ≤ g) → WL P r n ops Q N rest ((d, v') :: l) ⟨W, gs, w1, own2⟩) : WO P r n ops Q N o rest l ⟨W, gs, w0, own⟩ :=
  wo_to ho rfl hd hN fun a w ha hs => by
    subst hnews
    obtain ⟨i, z, hi, hz, hsz, hby, hzs, hpos⟩ := hE.h
    have hz' : i.zero = some z := by simpa [hi] using hz
    have hsz' : i.size = sz := by simpa [hi] using hsz
    have hby' : i.bytes = bytes := by simpa [hi] using hby
    have hb := hs.at hB.h
    obtain ⟨v', w1, hr, h2, h3, _, h5⟩ := run_append_own_at (P := P) (w := w) W.heap.size T o.type e i z sz bytes hT.h hi hz' hsz' hby' hzs hpos v k xs (hR.at hs) ⟨b, 0, none⟩ m c news hl (fun j u hj => by rw [Addr.add_mid, cell_blk hb]; simpa using hj) (fun u hu => List.all_eq_true.1 h1 u hu) hk.1 hk.2 (Nat.le_trans hs.sizeW hs.size0)
    have hblk : ∀ x ∈ own, w1.heap[x.b]? = w.heap[x.b]? := fun x hx => h3.block x.b (hs.lt hx) (fun e => hR.off x hx e.symm)
    have hS1 : St ⟨W, gs, w1, own⟩ w1 := by
      refine ⟨h3.os.trans hs.os, h3.tape.trans hs.tape, h3.output.trans hs.output, Nat.le_trans (Nat.le_trans hs.sizeW hs.size0) h3.size, Nat.le_refl _, fun q hq hg => ?_, fun _ _ _ => rfl, hs.apart, hs.base, fun x hx => (hblk x hx).trans (hs.blk x hx)⟩
      have hlt : q < w.heap.size := Nat.lt_of_lt_of_le hq (Nat.le_trans hs.sizeW hs.size0)
      rw [h3.block q hlt (fun e => by have := (hR.lt q e.symm).1; simp at this hq; omega)]
      exact hs.oldW q hq hg
    have hmv : Moved ⟨W, gs, w0, own⟩ v.ownBlock w1 := ⟨Nat.le_trans hs.size0 h3.size, fun q hq hx hne => (h3.block q (Nat.lt_of_lt_of_le hq hs.size0) hne).trans (hs.old0 q hq hx)⟩
    have hoff : ∀ z ∈ own, v'.ownBlock ≠ some z.b := fun z hz e => by
      rcases h5 with h5 | h5
      · exact hR.off z hz (by rw [← h5]; exact e)
      · rw [h5] at e; have := hs.lt hz; simp at e; omega
    obtain ⟨pre, rfl⟩ := hsub
    refine ⟨v', w1, ?_, ⟨W, gs, w1, own2⟩, rfl, hS1.rename ⟨pre, rfl⟩, next v' w1 ⟨h2, fun z hz => hoff z (by simp [hz])⟩ hmv ?_⟩
    · unfold execOp
      simp only [ho, resolve, invoke, builtin, Sem.run_bind, Sem.run_pure, Result.andThen_ok, List.map_toArray, List.map_cons, List.map_nil, ha.ev hx, ha.ev hy, hr]
    · rcases h5 with h5 | h5
      · exact .inl h5
      · exact .inr ⟨_, h5, hs.size0⟩
end
end Go.Proofs.Ytlppkbfkajionaa.Gw
