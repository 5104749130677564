/- The laws of the walk: own blocks, rows, calls. Over any program. -/
import Derived.Test.YtlppkbfkajionaaGwV
import Derived.Laws.IdiomCopy
import Derived.Laws.Tables
import Derived.Laws.OwnMore
import Derived.Maps.AppendAt
namespace Go.Proofs.Ytlppkbfkajionaa.Gw
open Go Go.RowKit
set_option linter.unusedSimpArgs false
set_option linter.unusedVariables false
set_option linter.unusedSectionVars false
/-- an own block, by its number -/
class HasB (own : List Blk) (b : Nat) (i : outParam Nat) (o : outParam Obj) : Prop where h : own[i]? = some ⟨b, o⟩
instance (priority := high) hasB_head (b : Nat) (o : Obj) (r : List Blk) : HasB (⟨b, o⟩ :: r) b 0 o := ⟨rfl⟩
instance (priority := low) hasB_tail (b i : Nat) (o : Obj) (y : Blk) (r : List Blk) [h : HasB r b i o] : HasB (y :: r) b (i + 1) o := ⟨by simpa using h.h⟩
class UpdB (own : List Blk) (b : Nat) (o : Obj) (own' : outParam (List Blk)) : Prop where h : ∃ i o0, own[i]? = some ⟨b, o0⟩ ∧ own' = own.set i ⟨b, o⟩
instance (priority := high) updB_head (b : Nat) (o o0 : Obj) (r : List Blk) : UpdB (⟨b, o0⟩ :: r) b o (⟨b, o⟩ :: r) := ⟨⟨0, o0, rfl, rfl⟩⟩
instance (priority := low) updB_tail (b : Nat) (o : Obj) (y : Blk) (r r' : List Blk) [h : UpdB r b o r'] : UpdB (y :: r) b o (y :: r') := ⟨let ⟨i, o0, h1, h2⟩ := h.h; ⟨i + 1, o0, by simpa using h1, by rw [h2]; rfl⟩⟩
/-- operands' values -/
def evsO (l : List (Nat × Value)) : List Operand → Option (List Value)
  | [] => some []
  | x :: xs => match ev l x, evsO l xs with
    | some v, some vs => some (v :: vs)
    | _, _ => none
/-- some cells are changed -/
class Spl (cs : List Value) (k : Nat) (xs : List Value) (cs' : outParam (List Value)) : Prop where
  h : ∀ j, cs'[j]? = if k ≤ j ∧ j < k + xs.length then xs[j - k]? else cs[j]?
  h2 : k + xs.length ≤ cs.length
  h3 : cs'.length = cs.length
instance (priority := high) spl_nil (cs : List Value) : Spl cs 0 [] cs := ⟨fun j => by simp, by simp, rfl⟩
instance spl_here (c x : Value) (cs xs cs' : List Value) [h : Spl cs 0 xs cs'] : Spl (c :: cs) 0 (x :: xs) (x :: cs') := ⟨fun j => by
  cases j with
  | zero => simp
  | succ j =>
    have := h.h j
    simp only [List.getElem?_cons_succ, this, Nat.zero_le, Nat.zero_add, true_and, List.length_cons, Nat.add_lt_add_iff_right, Nat.sub_zero]
    , by have := h.h2; simp at this ⊢; omega, by simp [h.h3]⟩
instance spl_there (c : Value) (k : Nat) (cs xs cs' : List Value) [h : Spl cs k xs cs'] : Spl (c :: cs) (k + 1) xs (c :: cs') := ⟨fun j => by
  cases j with
  | zero => simp
  | succ j =>
    have := h.h j
    simp only [List.getElem?_cons_succ, this, Nat.add_le_add_iff_right]
    by_cases h1 : k ≤ j ∧ j < k + xs.length
    · rw [if_pos h1, if_pos (by omega), show j + 1 - (k + 1) = j - k by omega]
    · rw [if_neg h1, if_neg (by omega)]
    , by have := h.h2; simp at this ⊢; omega, by simp [h.h3]⟩
/-- some cells -/
class Tk (cs : List Value) (k n : Nat) (xs : outParam (List Value)) : Prop where
  h : xs.length = n
  h2 : ∀ j v, xs[j]? = some v → cs[k + j]? = some v
instance (priority := high) tk_nil (cs : List Value) : Tk cs 0 0 [] := ⟨rfl, fun j v h => by simp at h⟩
instance tk_here (c : Value) (n : Nat) (cs xs : List Value) [h : Tk cs 0 n xs] : Tk (c :: cs) 0 (n + 1) (c :: xs) := ⟨by simp [h.h], fun j v hj => by
  cases j with
  | zero => simpa using hj
  | succ j => simp only [List.getElem?_cons_succ] at hj; have := h.h2 j v hj; simp only [Nat.zero_add] at this ⊢; simpa using this⟩
instance tk_there (c : Value) (k n : Nat) (cs xs : List Value) [h : Tk cs k n xs] : Tk (c :: cs) (k + 1) n xs := ⟨h.h, fun j v hj => by
  have := h.h2 j v hj
  rw [show k + 1 + j = (k + j) + 1 by omega]; simpa using this⟩
section
variable {P : Program} {r : Option Nat} {n : Nat} {ops : Array Oper} {Q : Exit → Act → World → Prop} {N : Nat} {l : List (Nat × Value)} {ds : List Deferred} {W w0 : World} {gs : Gx} {own : List Blk} {rest : List Oper} {o : Oper} {S : Sx}
theorem St.at {w : World} (h : St ⟨W, gs, w0, own⟩ w) {b i : Nat} {o : Obj} (hB : own[i]? = some ⟨b, o⟩) : w.heap[b]? = some o := h.blk ⟨b, o⟩ (List.mem_of_getElem? hB)
theorem cell_blk {w : World} {b : Nat} {cs : List Value} {t : TypeId} {fr : Nat × Nat} (h : w.heap[b]? = some (.cells cs.toArray t fr)) (k : Nat) : w.cell? ⟨b, k, none⟩ = cs[k]? := by
  simp [World.cell?, h]
theorem rv_load_cell {T : Nat} [hT : TRow P T false] {x : Operand} {b k : Nat} {v : Value} (hx : ev l x = some (.pointer (some ⟨b, k, none⟩))) (hc : ∀ w, St S w → w.cell? ⟨b, k, none⟩ = some v) : RV P l S (.load T x) v := ⟨rfl, fun N a w o ho ha hs => by
  have h := hc w hs
  unfold execOp
  simp only [ho, ha.ev hx, Instr.loadAt, Instr.sureAddr, Sem.run_bind, Sem.run_pure, Result.andThen_ok, loadVar, run_isAgg hT.h]
  simp [h, go_sem]⟩
theorem rv_load_range {T sz : Nat} [hT : TRow P T true] [hZ : TSz P T sz] {x : Operand} {b k : Nat} {xs : List Value} (hx : ev l x = some (.pointer (some ⟨b, k, none⟩))) (hl : xs.length = sz) (hc : ∀ w, St S w → w.rangeAt b k xs) : RV P l S (.load T x) (.agg xs.toArray) := ⟨rfl, fun N a w o ho ha hs => by
  obtain ⟨d, h1, h2⟩ := hT.h
  have h := run_loadVar_mid (P := P) w b k T xs d (hc w hs) h1 h2 (by rw [hZ.h, hl])
  unfold execOp
  simp only [ho, ha.ev hx, Instr.loadAt, Instr.sureAddr, Sem.run_bind, Sem.run_pure, Result.andThen_ok, h]⟩
theorem rv_load_own {T : Nat} [TRow P T false] {x : Operand} {b k i : Nat} {cs : List Value} {t : TypeId} {fr : Nat × Nat} {v : Value} (hx : ev l x = some (.pointer (some ⟨b, k, none⟩))) [hB : HasB own b i (.cells cs.toArray t fr)] (hv : cs[k]? = some v) : RV P l ⟨W, gs, w0, own⟩ (.load T x) v :=
  rv_load_cell hx fun w hs => by rw [cell_blk (hs.at hB.h)]; exact hv
theorem rv_load_own_row {T sz : Nat} [TRow P T true] [TSz P T sz] {x : Operand} {b k i : Nat} {cs xs : List Value} {t : TypeId} {fr : Nat × Nat} (hx : ev l x = some (.pointer (some ⟨b, k, none⟩))) [hB : HasB own b i (.cells cs.toArray t fr)] [hk : Tk cs k sz xs] : RV P l ⟨W, gs, w0, own⟩ (.load T x) (.agg xs.toArray) :=
  rv_load_range hx hk.h fun w hs j v hj => by rw [cell_blk (hs.at hB.h)]; exact hk.h2 j v hj
theorem run_zero {T : Nat} {z : List Value} {s : Bool} [h : TZ P T z s] (w : World) : ∃ v, (zeroValue T).run P w = .ok v w ∧ v.cells = z.toArray := by
  obtain ⟨v, h1, h2, _⟩ := h.h
  cases hi : P.info? T with
  | none => simp [hi] at h1
  | some i =>
    have hz : i.zero = some v := by simpa [hi] using h1
    exact ⟨v, by unfold zeroValue; rw [Sem.run_bind, run_info hi w]; simp only [Result.andThen_ok, hz]; rfl, h2⟩
theorem run_newRow (w : World) (T : TypeId) (cs : Array Value) : (newRow T cs).run P w = .ok ⟨w.heap.size, 0, none⟩ (w.alloc (.cells cs T)) := rfl
/-- a variable is made -/
theorem wo_alloc {T d : Nat} {z : List Value} {s : Bool} [hZ : TZ P T z s] (ho : o.op = .alloc T) (hd : o.dst = some d) (hN : Nat.ble (d + 1) N = true)
    (next : ∀ b, w0.heap.size ≤ b → WL P r n ops Q N rest ((d, .pointer (some ⟨b, 0, none⟩)) :: l) ⟨W, gs, w0, ⟨b, .cells z.toArray T (0, 0)⟩ :: own⟩) : WO P r n ops Q N o rest l ⟨W, gs, w0, own⟩ :=
  wo_to ho rfl hd hN fun a w ha hs => by
    obtain ⟨v, h1, h2⟩ := run_zero (P := P) (T := T) w
    refine ⟨.pointer (some ⟨w.heap.size, 0, none⟩), w.alloc (.cells z.toArray T), ?_, ⟨W, gs, w0, ⟨w.heap.size, _⟩ :: own⟩, rfl, hs.alloc _, next _ hs.size0⟩
    unfold execOp
    simp only [ho, Instr.alloc, Sem.run_bind, h1, Result.andThen_ok, newVar, run_newRow, h2, Sem.run_pure]
theorem wo_box {T d : Nat} {x : Operand} {v : Value} {cs : List Value} (hx : ev l x = some v) (hv : v.cells = cs.toArray) (ho : o.op = .box T x) (hd : o.dst = some d) (hN : Nat.ble (d + 1) N = true)
    (next : ∀ b, w0.heap.size ≤ b → WL P r n ops Q N rest ((d, .pointer (some ⟨b, 0, none⟩)) :: l) ⟨W, gs, w0, ⟨b, .cells cs.toArray T (0, 0)⟩ :: own⟩) : WO P r n ops Q N o rest l ⟨W, gs, w0, own⟩ :=
  wo_to ho rfl hd hN fun a w ha hs => by
    refine ⟨.pointer (some ⟨w.heap.size, 0, none⟩), w.alloc (.cells cs.toArray T), ?_, ⟨W, gs, w0, ⟨w.heap.size, _⟩ :: own⟩, rfl, hs.alloc _, next _ hs.size0⟩
    unfold execOp
    simp only [ho, ha.ev hx, Instr.box, Sem.run_bind, newVar, run_newRow, hv, Result.andThen_ok, Sem.run_pure]
theorem setCells_blk {b : Nat} {t : TypeId} : ∀ (xs : List Value) (k : Nat) (w : World) (cs : List Value), w.heap[b]? = some (.cells cs.toArray t (0, 0)) → k + xs.length ≤ cs.length →
    (w.setCells b k xs).os = w.os ∧ (w.setCells b k xs).tape = w.tape ∧ (w.setCells b k xs).output = w.output ∧ (w.setCells b k xs).heap.size = w.heap.size ∧ (∀ b', b' ≠ b → (w.setCells b k xs).heap[b']? = w.heap[b']?) ∧
    ∃ cs' : List Value, (w.setCells b k xs).heap[b]? = some (.cells cs'.toArray t (0, 0)) ∧ cs'.length = cs.length ∧ ∀ j, cs'[j]? = if k ≤ j ∧ j < k + xs.length then xs[j - k]? else cs[j]?
  | [], k, w, cs, h, hk => ⟨rfl, rfl, rfl, rfl, fun _ _ => rfl, cs, h, rfl, fun j => by simp only [List.length_nil, Nat.add_zero]; rw [if_neg (by omega)]⟩
  | x :: xs, k, w, cs, h, hk => by
    simp only [List.length_cons] at hk
    have h1 : (w.setCell ⟨b, k, none⟩ x).heap[b]? = some (.cells (cs.set k x).toArray t (0, 0)) := by
      simp only [World.setCell, Array.getElem?_modify, if_true, h, Option.map_some]
      simp
    obtain ⟨e1, e2, e3, e4, e5, cs', e6, e7, e8⟩ := setCells_blk xs (k + 1) (w.setCell ⟨b, k, none⟩ x) (cs.set k x) h1 (by simp; omega)
    refine ⟨e1, e2, e3, by rw [World.setCells, e4]; simp [World.setCell], fun b' hb' => ?_, cs', e6, by simpa using e7, fun j => ?_⟩
    · rw [World.setCells, e5 b' hb']; exact Below.heap_setCell _ _ _ _ hb'
    · rw [e8 j]
      simp only [List.length_cons]
      by_cases hj : k = j
      · subst hj
        rw [if_neg (by omega), if_pos (by omega), List.getElem?_set, if_pos rfl, if_pos (by omega)]
        simp
      · by_cases hj2 : k + 1 ≤ j ∧ j < k + 1 + xs.length
        · rw [if_pos hj2, if_pos (by omega), show j - k = (j - (k + 1)) + 1 by omega]
          simp
        · rw [if_neg hj2, if_neg (by omega), List.getElem?_set_ne hj]
theorem run_size_of {T sz : Nat} [h : TSz P T sz] (w : World) : (sizeOf T).run P w = .ok sz w := run_size h.h w
/-- a store into an own block -/
theorem wo_store {T sz k b i : Nat} {x y : Operand} {v : Value} {xs cs cs' : List Value} {t : TypeId} {own' : List Blk} [hZ : TSz P T sz] (hx : ev l x = some (.pointer (some ⟨b, k, none⟩))) (hy : ev l y = some v) (hv : v.cells = xs.toArray) (hl : xs.length = sz) (h1 : (xs.all fun u => u.oneCell') = true)
    [hB : HasB own b i (.cells cs.toArray t (0, 0))] [hS : Spl cs k xs cs'] [hU : UpdB own b (.cells cs'.toArray t (0, 0)) own'] (ho : o.op = .store T x y) (hd : o.dst = none)
    (next : WL P r n ops Q N rest l ⟨W, gs, w0, own'⟩) : WO P r n ops Q N o rest l ⟨W, gs, w0, own⟩ :=
  wo_to0 ho rfl hd fun a w ha hs => by
    have hb := hs.at hB.h
    obtain ⟨e1, e2, e3, e4, e5, cs2, e6, e7, e8⟩ := setCells_blk (t := t) xs k w cs hb hS.h2
    have ec : cs2 = cs' := by
      apply List.ext_getElem?
      intro j
      rw [e8 j, hS.h j]
    subst ec
    obtain ⟨i', o0, hi', he⟩ := hU.h
    refine ⟨w.setCells b k xs, ?_, ⟨W, gs, w0, own'⟩, rfl, ?_, next⟩
    · have hst := run_storeCells_cells (P := P) b k xs 0 w (fun j hj => by
          rw [Nat.add_zero, cell_blk hb, List.getElem?_eq_getElem (by have := hS.h2; omega)]; rfl) (fun j hj => by simp [World.frozen?, hb]) (fun u hu => List.all_eq_true.1 h1 u hu)
      unfold execOp
      simp only [ho, ha.ev hx, ha.ev hy, Instr.storeAt, Instr.sureAddr, Sem.run_bind, Sem.run_pure, Result.andThen_ok, storeVar, hv, run_size_of (P := P) (T := T)]
      rw [if_neg (by simp [hl])]
      simp only [Nat.add_zero] at hst
      simp only [hst, Result.andThen_ok, Sem.run_bind, Sem.run_pure]
    · subst he
      exact hs.write (x := ⟨b, o0⟩) hi' _ e1 e2 e3 (by omega) (fun b' _ hb' => e5 b' hb') e6
/-- what a world owes to one by name: blocks that are neither own nor among some others lie as they lay -/
structure Moved (S : Sx) (k : Option Nat) (w1 : World) : Prop where
  size : S.w0.heap.size ≤ w1.heap.size
  block : ∀ b, b < S.w0.heap.size → (∀ x ∈ S.own, x.b ≠ b) → some b ≠ k → w1.heap[b]? = S.w0.heap[b]?
theorem St.moved {w : World} (h : St S w) (k : Option Nat) : Moved S k w := ⟨h.size0, fun b h1 h2 _ => h.old0 b h1 h2⟩
theorem St.moved_below {w w1 : World} (h : St S w) (hb : Below w.heap.size w w1) (k : Option Nat) : Moved S k w1 := (h.more hb).moved k
theorem evs_of {a : Act} (ha : Ag ds N l a) : ∀ (xs : List Operand) (vs : List Value), evsO l xs = some vs → xs.map a.eval = vs
  | [], vs, h => by simp only [evsO, Option.some.injEq] at h; subst h; rfl
  | x :: xs, vs, h => by
    unfold evsO at h
    split at h
    · rename_i v us h1 h2
      simp only [Option.some.injEq] at h
      subst h
      simp only [List.map_cons, ha.ev h1, evs_of ha xs us h2]
    · cases h
theorem run_call_of {f : Nat} {c : Operand} {xs : List Operand} {tys : Array TypeId} {args fi ca : List Value} {a : Act} {w : World} (ha : Ag ds N l a) (ho : o.op = .call { callee := .value c, args := xs.toArray, argTypes := tys }) (hcal : ev l c = some (.func (.func f) fi.toArray ca.toArray))
    (he : ∀ args w, (callFunc f args).run P w = .ok (.enter f args) w) (hargs : evsO l xs = some args) : (execOp a.eval o).run P w = .ok (.enter f (fi ++ args ++ ca).toArray) w := by
  have h1 := evs_of ha xs args hargs
  have h2 := ha.ev hcal
  unfold execOp
  simp only [ho, resolve, h2, Deferred.ofValue, Sem.run_bind, Sem.run_pure, Result.andThen_ok, invoke, he]
  simp only [List.map_toArray, h1, List.append_toArray]
theorem rv_makeFunc {fn : Fn} {fi ca : List Operand} {fv cv : List Value} (hf : evsO l fi = some fv) (hc : evsO l ca = some cv) : RV P l S (.makeFunc fn fi.toArray ca.toArray) (.func fn fv.toArray cv.toArray) := ⟨rfl, fun N a w o ho ha hs => by
  unfold execOp
  simp only [ho, List.map_toArray, evs_of ha _ _ hf, evs_of ha _ _ hc, Instr.makeFunc, Sem.run_bind, Sem.run_pure, Result.andThen_ok]⟩
/-- a call of a Go function, by its contract -/
theorem wo_call_ {f : Nat} {c : Operand} {xs : List Operand} {tys : Array TypeId} {args fi ca : List Value} {R : World → Value → World → Prop}
    (ho : o.op = .call { callee := .value c, args := xs.toArray, argTypes := tys }) (hcal : ev l c = some (.func (.func f) fi.toArray ca.toArray)) (he : ∀ args w, (callFunc f args).run P w = .ok (.enter f args) w) (hargs : evsO l xs = some args)
    (hc : ∀ w, St S w → Calls P f (fi ++ args ++ ca).toArray w (fun e w' => ∃ v, e = .returned v ∧ R w v w'))
    (next : ∀ a w v w1, Ag S.gs.ds N l a → St S w → R w v w1 → wpListIn (FW r) n P ops Q rest (a.put o.dst v) w1) : WO P r n ops Q N o rest l S := fun a w ha hs => by
  refine ⟨fun _ _ => trivial, ?_⟩
  rw [show o.semAt (FW r).round a.eval = execOp a.eval o from sem_plain (op := .call { callee := .value c, args := xs.toArray, argTypes := tys }) rfl ho _, run_call_of ha ho hcal he hargs]
  refine ⟨fun h => absurd h (by simp), ?_⟩
  have h2 : CallsIn (FW r) (n - 1) P f (fi ++ args ++ ca).toArray w (fun e w' => ∃ v, e = .returned v ∧ R w v w') := by
    have h3 := callsIn_wide (n := n - 1) |>.2 (hc w hs)
    cases r with
    | none => exact h3
    | some k => exact h3
  refine h2.mono fun e w' hq => ?_
  obtain ⟨v, rfl, hR⟩ := hq
  exact next a w v w' ha hs hR
theorem wo_call {f d : Nat} {c : Operand} {xs : List Operand} {tys : Array TypeId} {args fi ca : List Value} {R : World → Value → World → Prop}
    (ho : o.op = .call { callee := .value c, args := xs.toArray, argTypes := tys }) (hcal : ev l c = some (.func (.func f) fi.toArray ca.toArray)) (he : ∀ args w, (callFunc f args).run P w = .ok (.enter f args) w) (hargs : evsO l xs = some args) (hd : o.dst = some d) (hN : Nat.ble (d + 1) N = true)
    (hc : ∀ w, St S w → Calls P f (fi ++ args ++ ca).toArray w (fun e w' => ∃ v, e = .returned v ∧ R w v w' ∧ Below w.heap.size w w'))
    (next : ∀ w v w1, St S w → R w v w1 → Below w.heap.size w w1 → Moved S none w1 → WL P r n ops Q N rest ((d, v) :: l) ⟨S.W, S.gs, w1, S.own⟩) : WO P r n ops Q N o rest l S :=
  wo_call_ (R := fun w v w' => R w v w' ∧ Below w.heap.size w w') ho hcal he hargs hc fun a w v w1 ha hs hR => by
    rw [hd]
    exact next w v w1 hs hR.1 hR.2 (hs.moved_below hR.2 none) _ w1 (ha.put hN v) (hs.more hR.2).name
end
end Go.Proofs.Ytlppkbfkajionaa.Gw
