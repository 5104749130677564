/- The laws of the walk: indexes, slices, slice literals, appends, quiet regions. Over any program. -/
import Derived.Test.YtlppkbfkajionaaGwR
namespace Go.Proofs.Ytlppkbfkajionaa.Gw
open Go Go.RowKit
set_option linter.unusedSimpArgs false
set_option linter.unusedVariables false
set_option linter.unusedSectionVars false
class CatC (ps : List (List Value)) (cs : outParam (List Value)) : Prop where h : ps.flatten = cs
class AppC (xs ys : List Value) (zs : outParam (List Value)) : Prop where h : xs ++ ys = zs
instance app_nil (ys : List Value) : AppC [] ys ys := ⟨rfl⟩
instance app_cons (x : Value) (xs ys zs : List Value) [h : AppC xs ys zs] : AppC (x :: xs) ys (x :: zs) := ⟨by simp [h.h]⟩
instance cat_nil : CatC [] [] := ⟨rfl⟩
instance cat_cons (xs ys zs : List Value) (ps : List (List Value)) [h : CatC ps ys] [h2 : AppC xs ys zs] : CatC (xs :: ps) zs := ⟨by simp [h.h, h2.h]⟩
def cellsL (l : List (Nat × Value)) (sz : Nat) : List (Nat × Operand) → Nat → List (List Value) → Prop
  | [], _, [] => True
  | (i, x) :: r, k, xs :: s => i = k ∧ xs.length = sz ∧ (∃ v, ev l x = some v ∧ v.cells = xs.toArray) ∧ cellsL l sz r (k + 1) s
  | _, _, _ => False
section
variable {P : Program} {r : Option Nat} {n : Nat} {ops : Array Oper} {Q : Exit → Act → World → Prop} {N : Nat} {l : List (Nat × Value)} {ds : List Deferred} {W w0 : World} {gs : Gx} {own : List Blk} {rest : List Oper} {o : Oper} {S : Sx}
theorem rv_indexAddr {T e sz : Nat} [hT : TSl P T e] [hZ : TSz P e sz] {x y : Operand} {b k m c : Nat} {kd : IntKind} {i : Int} (hx : ev l x = some (.slice (some ⟨b, k, none⟩) m c)) (hy : ev l y = some (.int kd i)) (h : 0 ≤ i ∧ i < m) :
    RV P l S (.indexAddr T x y) (.pointer (some ⟨b, k + i.toNat * sz, none⟩)) := ⟨rfl, fun N a w o ho ha hs => by
  unfold execOp
  simp only [ho, ha.ev hx, ha.ev hy, Instr.indexAt, asIntOf, Sem.run_bind, Sem.run_pure, Result.andThen_ok, run_underlying hT.h]
  rw [if_pos h]
  simp only [Sem.run_bind, run_size_of (P := P) (T := e), Result.andThen_ok, Sem.run_pure, add_addr]⟩
theorem rv_indexAddr_arr {T e sz k0 : Nat} [hT : TArr P T k0 e] [hZ : TSz P e sz] {x y : Operand} {b k : Nat} {kd : IntKind} {i : Int} (hx : ev l x = some (.pointer (some ⟨b, k, none⟩))) (hy : ev l y = some (.int kd i)) (h : 0 ≤ i ∧ i < k0) :
    RV P l S (.indexAddr T x y) (.pointer (some ⟨b, k + i.toNat * sz, none⟩)) := ⟨rfl, fun N a w o ho ha hs => by
  unfold execOp
  simp only [ho, ha.ev hx, ha.ev hy, Instr.indexAt, Instr.sureAddr, asIntOf, Sem.run_bind, Sem.run_pure, Result.andThen_ok, run_underlying hT.h]
  rw [if_pos h]
  simp only [Sem.run_bind, run_size_of (P := P) (T := e), Result.andThen_ok, Sem.run_pure, add_addr]⟩
/-- a bound of a slice expression -/
def bnd (l : List (Nat × Value)) (x : Option Operand) (d : Nat) (v : Nat) : Prop := match x with
  | none => v = d
  | some y => ∃ k i, ev l y = some (.int k i) ∧ 0 ≤ i ∧ i.toNat = v
theorem bnd_none {d : Nat} : bnd l none d d := rfl
theorem bnd_some {x : Operand} {k : IntKind} {i : Int} {d : Nat} (hx : ev l x = some (.int k i)) (h : 0 ≤ i) : bnd l (some x) d i.toNat := ⟨k, i, hx, h, rfl⟩
theorem run_bound {x : Operand} {a : Act} (ha : Ag ds N l a) {v d y : Nat} (h : bnd l (some x) d v) (hv : v ≤ y) (code : BoundsCode) (w : World) : (Instr.sliceBound (a.eval x) y code).run P w = .ok v w := by
  obtain ⟨k, i, hx, h0, h1⟩ := h
  unfold Instr.sliceBound
  simp only [ha.ev hx, asIntOf, Sem.run_bind, Sem.run_pure, Result.andThen_ok]
  rw [if_pos ⟨h0, by omega⟩, h1]
  rfl
theorem run_bounds {lo hi : Option Operand} {a : Act} (ha : Ag ds N l a) {isS : Bool} {len cap lv hv : Nat} (h1 : bnd l lo 0 lv) (h2 : bnd l hi len hv) (hle : lv ≤ hv) (hc : hv ≤ cap) (w : World) : (Instr.sliceBounds isS len cap (lo.map a.eval) (hi.map a.eval) none).run P w = .ok (lv, hv, cap) w := by
  unfold Instr.sliceBounds
  cases hi with
  | none =>
    have e : hv = len := h2
    subst e
    cases lo with
    | none =>
      have e : lv = 0 := h1
      subst e
      simp [Sem.run_bind, Sem.run_pure]
    | some x => simp [Sem.run_bind, Sem.run_pure, run_bound (P := P) ha h1 hle]
  | some y =>
    cases lo with
    | none =>
      have e : lv = 0 := h1
      subst e
      simp [Sem.run_bind, Sem.run_pure, run_bound (P := P) ha h2 hc]
    | some x => simp [Sem.run_bind, Sem.run_pure, run_bound (P := P) ha h2 hc, run_bound (P := P) ha h1 hle]
theorem rv_slice_s {T : Nat} [hT : TStr P T] {x : Operand} {lo hi : Option Operand} {s : ByteArray} {lv hv : Nat} (hx : ev l x = some (.string s)) (h1 : bnd l lo 0 lv) (h2 : bnd l hi s.size hv) (hle : lv ≤ hv ∧ hv ≤ s.size) :
    RV P l S (.slice T x lo hi none) (.string (s.extract lv hv)) := ⟨rfl, fun N a w o ho ha hs => by
  unfold execOp
  simp only [ho, ha.ev hx, Instr.sliceAt, Sem.run_bind, run_underlying hT.h, Result.andThen_ok, Instr.slice, Option.map_none, Option.isSome_none, Bool.false_eq_true, if_false, run_bounds (P := P) ha h1 h2 hle.1 hle.2, Sem.run_pure]⟩
theorem rv_slice {T e sz : Nat} [hT : TSl P T e] [hZ : TSz P e sz] {x : Operand} {lo hi : Option Operand} {A : Option Addr} {m c lv hv : Nat} (hx : ev l x = some (.slice A m c)) (h1 : bnd l lo 0 lv) (h2 : bnd l hi m hv) (hle : lv ≤ hv ∧ hv ≤ c) :
    RV P l S (.slice T x lo hi none) (.slice (if c = lv then A else A.map (·.add (lv * sz))) (hv - lv) (c - lv)) := ⟨rfl, fun N a w o ho ha hs => by
  unfold execOp
  simp only [ho, ha.ev hx, Instr.sliceAt, Sem.run_bind, run_underlying hT.h, Result.andThen_ok, Instr.slice, Option.map_none, run_bounds (P := P) ha h1 h2 hle.1 hle.2, run_size_of (P := P) (T := e), Sem.run_pure]⟩
theorem rv_minmax {b : Builtin} {T T' : Nat} {x y : Operand} {k : IntKind} {m p q : Int} [hT : TInt P T k] (hx : ev l x = some (.int k m)) (hy : ev l y = some (.int k p)) (hb : (match b with | .min => some (if p < m then p else m) | .max => some (if m < p then p else m) | _ => none) = some q) :
    RV P l S (.call { callee := .builtin b, args := #[x, y], argTypes := #[T, T'] }) (.int k q) := ⟨rfl, fun N a w o ho ha hs => by
  have hu := hT.h
  have hx' := ha.ev hx
  have hy' := ha.ev hy
  unfold execOp
  simp only [ho]
  generalize a.eval = ρ at hx' hy' ⊢
  cases b <;> simp only [Option.some.injEq, reduceCtorEq] at hb <;> subst hb
  · go_simp
  · go_simp⟩
theorem rv_index_row {T e k0 : Nat} [hT : TArr P T k0 e] [hR : TRow P e false] [hZ : TSz P e 1] {x y : Operand} {cs : List Value} {kd : IntKind} {i : Int} {v : Value} (hx : ev l x = some (.agg cs.toArray)) (hy : ev l y = some (.int kd i)) (h : 0 ≤ i ∧ i < k0) (hv : cs[i.toNat]? = some v) : RV P l S (.index T x y) v := ⟨rfl, fun N a w o ho ha hs => by
  unfold execOp
  simp only [ho, ha.ev hx, ha.ev hy, Instr.index, asIntOf, Sem.run_bind, Sem.run_pure, Result.andThen_ok, run_underlying hT.h]
  rw [if_pos h]
  simp only [Sem.run_bind, run_size_of (P := P) (T := e), Result.andThen_ok, part, run_isAgg hR.h, Nat.mul_one]
  simp [hv]⟩
/-- a slice literal, all its elements told -/
theorem fill_seq (sz : Nat) : ∀ (vs : List (Nat × Value)) (ps : List (List Value)) (k : Nat) (pre tail : List Value), vs.length = ps.length → pre.length = k * sz → tail.length = ps.length * sz →
    (∀ (i : Nat) j x y, vs[i]? = some (j, x) → ps[i]? = some y → j = k + i ∧ x.cells = y.toArray ∧ y.length = sz) → Instr.fill (fun i => some (i * sz, sz)) (pre ++ tail).toArray vs = some (pre ++ ps.flatten).toArray
  | [], [], k, pre, tail, _, _, ht, _ => by
    simp only [List.length_nil, Nat.zero_mul] at ht
    obtain rfl := List.eq_nil_of_length_eq_zero ht
    rfl
  | (j, x) :: vs, y :: ps, k, pre, tail, hl, hp, ht, h => by
    obtain ⟨hj0, hx, hy⟩ := h 0 j x y rfl rfl
    rw [Nat.add_zero] at hj0
    subst hj0
    simp only [Nat.add_zero, List.length_cons, Nat.add_mul, Nat.one_mul] at *
    obtain ⟨t1, t2, rfl, h1⟩ : ∃ t1 t2, tail = t1 ++ t2 ∧ t1.length = sz := ⟨tail.take sz, tail.drop sz, by simp, by simp; omega⟩
    have hsp : Spl (pre ++ (t1 ++ t2)) (j * sz) y (pre ++ (y ++ t2)) := ⟨fun i => by
      by_cases hi : j * sz ≤ i ∧ i < j * sz + y.length
      · rw [if_pos hi, List.getElem?_append_right (by omega), List.getElem?_append_left (by omega), hp]
      · rw [if_neg hi]
        by_cases hj2 : i < j * sz
        · rw [List.getElem?_append_left (by omega), List.getElem?_append_left (by omega)]
        · rw [List.getElem?_append_right (by omega), List.getElem?_append_right (by omega), List.getElem?_append_right (by omega), List.getElem?_append_right (by omega), hy, h1], by simp; omega, by simp; omega⟩
    unfold Instr.fill
    simp only [hx]
    rw [if_neg (by simp; omega)]
    rw [fold_spl (j * sz) y (pre ++ (t1 ++ t2)) (pre ++ (y ++ t2))]
    have := fill_seq sz vs ps (j + 1) (pre ++ y) t2 (by omega) (by simp [Nat.add_mul]; omega) (by simp at ht; omega) (fun i j x y hx hy => by
      have := h (i + 1) j x y (by simpa using hx) (by simpa using hy)
      exact ⟨by omega, this.2⟩)
    simpa using this
  | [], _ :: _, _, _, _, h, _, _, _ => by simp at h
  | _ :: _, [], _, _, _, h, _, _, _ => by simp at h
theorem cellsL_eval {a : Act} (ha : Ag ds N l a) (sz : Nat) : ∀ (parts : List (Nat × Operand)) (k : Nat) (ps : List (List Value)), cellsL l sz parts k ps → parts.length = ps.length ∧ ∀ (i : Nat) j x y, (parts.map fun (i, x) => (i, a.eval x))[i]? = some (j, x) → ps[i]? = some y → j = k + i ∧ x.cells = y.toArray ∧ y.length = sz
  | [], _, [], _ => ⟨rfl, fun i j x y h => by simp at h⟩
  | (i, x) :: parts, k, xs :: ps, h => by
    obtain ⟨rfl, hl, ⟨v, hv, hc⟩, h3⟩ := h
    obtain ⟨e1, e2⟩ := cellsL_eval ha sz parts (i + 1) ps h3
    refine ⟨by simpa using e1, fun m j x' y hx hy => ?_⟩
    cases m with
    | zero =>
      simp only [List.map_cons, List.getElem?_cons_zero, Option.some.injEq, Prod.mk.injEq] at hx hy
      obtain ⟨rfl, rfl⟩ := hx
      subst hy
      exact ⟨rfl, by rw [ha.ev hv]; exact hc, hl⟩
    | succ m =>
      have := e2 m j x' y (by simpa using hx) (by simpa using hy)
      exact ⟨by omega, this.2⟩
  | [], _, _ :: _, h => h.elim
  | _ :: _, _, [], h => h.elim
theorem wo_buildSlice {T e sz bytes d len : Nat} {parts : List (Nat × Operand)} (ps : List (List Value)) {cs : List Value} [hT : TSl P T e] [hE : TEl P e sz bytes] (hp : cellsL l sz parts 0 ps) (hlen : ps.length = len) [hC : CatC ps cs] (hsm : Nat.ble (len * sz) 16777216 = true)
    (ho : o.op = .buildSlice T len parts.toArray) (hd : o.dst = some d) (hN : Nat.ble (d + 1) N = true)
    (next : ∀ b, w0.heap.size ≤ b → WL P r n ops Q N rest ((d, .slice (some ⟨b, 0, none⟩) len len) :: l) ⟨W, gs, w0, ⟨b, .cells cs.toArray e (0, 0)⟩ :: own⟩) : WO P r n ops Q N o rest l ⟨W, gs, w0, own⟩ :=
  wo_to ho rfl hd hN fun a w ha hs => by
    have hsm := Nat.le_of_ble_eq_true hsm
    obtain ⟨i, v, hi, hz, hsz, hby, hzs, hpos⟩ := hE.h
    obtain ⟨e1, e2⟩ := cellsL_eval ha sz parts 0 ps hp
    have hz' : i.zero = some v := by simpa [hi] using hz
    have hsz' : (sizeOf e).run P w = .ok sz w := run_size hsz w
    have hzr : (zeroValue e).run P w = .ok v w := by unfold zeroValue; rw [Sem.run_bind, run_info hi w]; simp only [Result.andThen_ok, hz']; rfl
    refine ⟨.slice (some ⟨w.heap.size, 0, none⟩) len len, w.alloc (.cells cs.toArray e), ?_, ⟨W, gs, w0, ⟨w.heap.size, _⟩ :: own⟩, rfl, hs.alloc _, next _ hs.size0⟩
    unfold execOp
    simp only [ho, Instr.buildSlice, Sem.run_bind, run_underlying hT.h, Result.andThen_ok, hsz', List.map_toArray]
    rw [if_neg (by omega)]
    have key : ∀ zs : Array Value, zs.size = len * sz → Instr.fill (fun i => some (i * sz, sz)) zs ((List.map (fun (x : Nat × Operand) => (x.1, a.eval x.2)) parts)) = some cs.toArray := by
      intro zs hzz
      have h1 := fill_seq sz (List.map (fun (x : Nat × Operand) => (x.1, a.eval x.2)) parts) ps 0 [] zs.toList (by simpa using e1) (by simp) (by simpa [hlen] using hzz) (fun i j x y hx hy => by have := e2 i j x y hx hy; exact ⟨by omega, this.2⟩)
      rw [hC.h] at h1
      simpa using h1
    by_cases h0 : len * sz = 0
    · rw [if_pos h0]
      simp only [Sem.run_bind, Sem.run_pure, Result.andThen_ok]
      rw [key _ (by simp)]
      simp only [Sem.run_bind, run_newRow, Result.andThen_ok, Sem.run_pure]
    · rw [if_neg h0]
      simp only [Sem.run_bind, hzr, Sem.run_pure, Result.andThen_ok]
      rw [key _ (by simp)]
      simp only [Sem.run_bind, run_newRow, Result.andThen_ok, Sem.run_pure]
end
end Go.Proofs.Ytlppkbfkajionaa.Gw
