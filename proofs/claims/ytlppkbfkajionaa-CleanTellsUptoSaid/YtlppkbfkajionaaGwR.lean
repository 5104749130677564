/- The laws of the walk: where a call begins and ends; literals, indexes, slices, appends. Over any program. -/
import Derived.Test.YtlppkbfkajionaaGwM
import Derived.Sort.QuietThIn
namespace Go.Proofs.Ytlppkbfkajionaa.Gw
open Go Go.RowKit
set_option linter.unusedSimpArgs false
set_option linter.unusedVariables false
set_option linter.unusedSectionVars false
class Ln (xs : List Value) (n : outParam Nat) : Prop where h : xs.length = n
instance ln_nil : Ln [] 0 := ⟨rfl⟩
instance ln_cons (x : Value) (xs : List Value) (n : Nat) [h : Ln xs n] : Ln (x :: xs) (n + 1) := ⟨by simp [h.h]⟩
def argL : List Value → Nat → List (Nat × Value)
  | [], _ => []
  | v :: r, i => (i, v) :: argL r (i + 1)
theorem argL_get : ∀ (args : List Value) (i t : Nat) (v : Value), getO (argL args i) t = some v → i ≤ t ∧ args[t - i]? = some v
  | [], _, _, _, h => by simp [argL, getO] at h
  | x :: r, i, t, v, h => by
    unfold argL getO at h
    cases hb : Nat.beq i t with
    | true =>
      rw [hb] at h
      obtain rfl := Nat.eq_of_beq_eq_true hb
      obtain rfl := Option.some.inj h
      exact ⟨Nat.le_refl _, by simp⟩
    | false =>
      rw [hb] at h
      obtain ⟨h1, h2⟩ := argL_get r (i + 1) t v h
      exact ⟨by omega, by rw [show t - i = (t - (i + 1)) + 1 by omega]; simpa using h2⟩
theorem ag_start (args : List Value) (N : Nat) (hN : args.length ≤ N) : Ag [] N (argL args 0) { tmps := args.toArray ++ Array.replicate (N - args.toArray.size) undef, defers := [] } := by
  refine ⟨rfl, by simp; omega, fun t v h => ?_⟩
  obtain ⟨_, h2⟩ := argL_get args 0 t v h
  simp only [Nat.sub_zero] at h2
  have hlt := (List.getElem?_eq_some_iff.1 h2).1
  rw [Array.getD_eq_getD_getElem?, Array.getElem?_append_left (by simpa using hlt)]
  simp [h2]
section
variable {P : Program} {r : Option Nat} {n : Nat} {ops : Array Oper} {Q : Exit → Act → World → Prop} {N : Nat} {l : List (Nat × Value)} {ds : List Deferred} {W w0 : World} {gs : Gx} {own : List Blk} {rest : List Oper} {o : Oper} {S : Sx}
theorem calls_start {f : FuncId} {fn : Func} {c : Code} {args : List Value} {w : World} {R : Ending → World → Prop} (hf : P.funcs[f]? = some fn) (hb : fn.body = some c) (hNt : fn.ntmps = N) (hN : Nat.ble args.length N = true) (S : Sx) (hS : St S w) (hd0 : S.gs.ds = [])
    (h : WC P none 0 c (bodyPost P fn R) N (argL args 0) S) : Calls P f args.toArray w R := by
  subst hNt
  refine (callsIn_wide (n := 0)).1 ?_
  exact callsIn_of_wp hf hb trivial (h _ w (by rw [hd0]; exact ag_start args fn.ntmps (Nat.le_of_ble_eq_true hN)) hS) rfl
/-- a result -/
def RVal (P : Program) (N : Nat) (l : List (Nat × Value)) (S : Sx) (x : ResultVar) (v : Value) : Prop :=
  ∀ a w, Ag S.gs.ds N l a → St S w → (match x with | .tmp t => (pure (a.tmps.getD t undef) : Sem Value) | .cell b t => do loadVar t (← asAddr (a.tmps.getD b undef))).run P w = .ok v w
theorem rr_tmp {t : Nat} {v : Value} (h : getO l t = some v) : RVal P N l S (.tmp t) v := fun a w ha hs => by
  show Sem.run P (Sem.pure _) w = _
  rw [ha.slot t v h]; rfl
theorem rr_cell {b k T i : Nat} [hT : TRow P T false] {c : Nat} {cs : List Value} {t : TypeId} {fr : Nat × Nat} {v : Value} (h : getO l c = some (.pointer (some ⟨b, k, none⟩))) [hB : HasB own b i (.cells cs.toArray t fr)] (hv : cs[k]? = some v) : RVal P N l ⟨W, gs, w0, own⟩ (.cell c T) v := fun a w ha hs => by
  have hc : w.cell? ⟨b, k, none⟩ = some v := by rw [cell_blk (hs.at hB.h)]; exact hv
  show Sem.run P (do loadVar T (← asAddr (a.tmps.getD c undef))) w = _
  rw [ha.slot c _ h]
  simp only [asAddr, Sem.run_bind, Sem.run_pure, Result.andThen_ok, loadVar, run_isAgg hT.h]
  simp [hc, go_sem]
theorem rr_row {b k T sz i : Nat} [hT : TRow P T true] [hZ : TSz P T sz] {c : Nat} {cs xs : List Value} {t : TypeId} {fr : Nat × Nat} (h : getO l c = some (.pointer (some ⟨b, k, none⟩))) [hB : HasB own b i (.cells cs.toArray t fr)] [hk : Tk cs k sz xs] : RVal P N l ⟨W, gs, w0, own⟩ (.cell c T) (.agg xs.toArray) := fun a w ha hs => by
  obtain ⟨d, h1, h2⟩ := hT.h
  have hr : w.rangeAt b k xs := fun j v hj => by rw [cell_blk (hs.at hB.h)]; exact hk.h2 j v hj
  have h3 := run_loadVar_mid (P := P) w b k T xs d hr h1 h2 (by rw [hZ.h, hk.h])
  show Sem.run P (do loadVar T (← asAddr (a.tmps.getD c undef))) w = _
  rw [ha.slot c _ h]
  simp only [asAddr, Sem.run_bind, Sem.run_pure, Result.andThen_ok, h3]
theorem run_mapM_list {α : Type} (f : α → Sem Value) : ∀ (xs : List α) (vs : List Value) (w : World), xs.length = vs.length → (∀ (i : Nat) x v, xs[i]? = some x → vs[i]? = some v → (f x).run P w = .ok v w) → (xs.mapM f).run P w = .ok vs w
  | [], [], w, _, _ => rfl
  | x :: xs, v :: vs, w, hl, h => by
    rw [List.mapM_cons]
    show Sem.run P (Sem.bind (f x) _) w = _
    have h1 := h 0 x v rfl rfl
    have h2 := run_mapM_list f xs vs w (by simpa using hl) (fun i y u hy hu => h (i + 1) y u (by simpa using hy) (by simpa using hu))
    show Sem.run P ((f x) >>= fun b => (List.mapM f xs) >>= fun bs => pure (b :: bs)) w = _
    simp only [Sem.run_bind, h1, Result.andThen_ok, h2, Sem.run_pure]
  | [], v :: vs, w, hl, _ => by simp at hl
  | x :: xs, [], w, hl, _ => by simp at hl
theorem run_toArr {α : Type} (f : α → Sem Value) (xs : List α) (vs : List Value) (w : World) (hl : xs.length = vs.length) (h : ∀ (i : Nat) x v, xs[i]? = some x → vs[i]? = some v → (f x).run P w = .ok v w) : (List.toArray <$> xs.mapM f : Sem (Array Value)).run P w = .ok vs.toArray w := by
  show Sem.run P ((List.mapM f xs) >>= fun x => pure (List.toArray x)) w = _
  rw [Sem.run_bind, run_mapM_list f xs vs w hl h]
  rfl
theorem run_results {fn : Func} {rs : List ResultVar} (hrs : fn.results = rs.toArray) (vs : List Value) (hl : rs.length = vs.length) {a : Act} {w : World} (ha : Ag S.gs.ds N l a) (hs : St S w) (h : ∀ (i : Nat) x v, rs[i]? = some x → vs[i]? = some v → RVal P N l S x v) :
    (results fn a.tmps).run P w = .ok (if vs.length = 1 then vs.headD undef else .tuple vs.toArray) w := by
  unfold results
  rw [hrs, List.mapM_toArray, Sem.run_bind, run_toArr (P := P) _ rs vs w hl (fun i x v hx hv => ?_)]
  · simp only [Result.andThen_ok, Sem.run_pure]
    cases vs with
    | nil => rfl
    | cons v vs => cases vs with
      | nil => rfl
      | cons u vs => simp
  · have := h i x v hx hv a w ha hs
    cases x <;> exact this
theorem wq_ret1 {fn : Func} {R : Ending → World → Prop} {x : ResultVar} {v : Value} (hd0 : S.gs.ds = []) (hrs : fn.results = [x].toArray) (h : RVal P N l S x v) (hR : ∀ w, St S w → R (.returned v) w) : WQ (bodyPost P fn R) .ret N l S := fun a w ha hs =>
  ⟨ha.defers.trans hd0, v, (by
    have := run_results (P := P) hrs [v] rfl ha hs (fun i y u hy hu => by cases i with
    | zero => simp at hy hu; subst hy; subst hu; exact h
    | succ i => simp at hy)
    simpa using this), hR w hs⟩
theorem wq_ret1n {fn : Func} {R : Ending → World → Prop} {x : ResultVar} {v : Value} (hd0 : S.gs.ds = []) (hrs : fn.results = [x].toArray) (h : RVal P N l S x v) (hR : ∀ w, St S w → R (.returned v) w) : WQ (bodyPost P fn R) .normal N l S := wq_ret1 hd0 hrs h hR
theorem wq_ret0 {fn : Func} {R : Ending → World → Prop} (hd0 : S.gs.ds = []) (hrs : fn.results = [].toArray) (hR : ∀ w, St S w → R (.returned (.tuple #[])) w) : WQ (bodyPost P fn R) .ret N l S := fun a w ha hs =>
  ⟨ha.defers.trans hd0, _, (by
    have := run_results (P := P) hrs [] rfl ha hs (fun i y u hy hu => by simp at hy)
    simpa using this), hR w hs⟩
theorem wq_ret0n {fn : Func} {R : Ending → World → Prop} (hd0 : S.gs.ds = []) (hrs : fn.results = [].toArray) (hR : ∀ w, St S w → R (.returned (.tuple #[])) w) : WQ (bodyPost P fn R) .normal N l S := wq_ret0 (P := P) hd0 hrs hR
theorem wq_ret2 {fn : Func} {R : Ending → World → Prop} {x y : ResultVar} {v u : Value} (hd0 : S.gs.ds = []) (hrs : fn.results = [x, y].toArray) (h1 : RVal P N l S x v) (h2 : RVal P N l S y u) (hR : ∀ w, St S w → R (.returned (.tuple #[v, u])) w) : WQ (bodyPost P fn R) .ret N l S := fun a w ha hs =>
  ⟨ha.defers.trans hd0, _, (by
    have := run_results (P := P) hrs [v, u] rfl ha hs (fun i y u hy hu => by
    match i, hy, hu with
    | 0, hy, hu => simp at hy hu; subst hy; subst hu; exact h1
    | 1, hy, hu => simp at hy hu; subst hy; subst hu; exact h2
    | i + 2, hy, hu => simp at hy)
    simpa using this), hR w hs⟩
theorem wq_ret3 {fn : Func} {R : Ending → World → Prop} {x y z : ResultVar} {v u t : Value} (hd0 : S.gs.ds = []) (hrs : fn.results = [x, y, z].toArray) (h1 : RVal P N l S x v) (h2 : RVal P N l S y u) (h3 : RVal P N l S z t) (hR : ∀ w, St S w → R (.returned (.tuple #[v, u, t])) w) : WQ (bodyPost P fn R) .ret N l S := fun a w ha hs =>
  ⟨ha.defers.trans hd0, _, (by
    have := run_results (P := P) hrs [v, u, t] rfl ha hs (fun i y u hy hu => by
    match i, hy, hu with
    | 0, hy, hu => simp at hy hu; subst hy; subst hu; exact h1
    | 1, hy, hu => simp at hy hu; subst hy; subst hu; exact h2
    | 2, hy, hu => simp at hy hu; subst hy; subst hu; exact h3
    | i + 3, hy, hu => simp at hy)
    simpa using this), hR w hs⟩
/-- parts of a literal -/
def PartsV (l : List (Nat × Value)) : List (Nat × Operand) → List (Nat × List Value) → Prop
  | [], [] => True
  | (i, x) :: r, (j, xs) :: s => i = j ∧ (∃ v, ev l x = some v ∧ v.cells = xs.toArray) ∧ PartsV l r s
  | _, _ => False
class BuildC (P : Program) (T : Nat) (z : List Value) (ps : List (Nat × List Value)) (cs : outParam (List Value)) : Prop where
  h : ∀ fs places, P.underlying T = some (.struct fs) → (∀ (i : Nat) fd, fs[i]? = some fd → ∃ s, (P.info? fd.type).map (·.size) = some s ∧ places i = some (fd.offset, s)) → ∀ vs : List (Nat × Value), vs.length = ps.length → (∀ (i : Nat) j x y, vs[i]? = some (j, x) → ps[i]? = some y → j = y.1 ∧ x.cells = y.2.toArray) → Instr.fill places z.toArray vs = some cs.toArray
instance (priority := high) build_nil (P : Program) (T : Nat) (z : List Value) : BuildC P T z [] z := ⟨fun fs places _ _ vs hl _ => by
  obtain rfl : vs = [] := by simpa using hl
  rfl⟩
theorem fold_spl (off : Nat) (xs cs c1 : List Value) [h : Spl cs off xs c1] : (xs.toArray.zipIdx.foldl (fun a (c, j) => a.setIfInBounds (off + j) c) cs.toArray) = c1.toArray := by
  have key : ∀ (xs : List Value) (k : Nat) (a : List Value), off + k + xs.length ≤ a.length → (xs.zipIdx k).foldl (fun a (c, j) => a.setIfInBounds (off + j) c) a.toArray = ((List.range a.length).map fun j => if off + k ≤ j ∧ j < off + k + xs.length then xs.getD (j - (off + k)) undef else a.getD j undef).toArray := by
    intro xs
    induction xs with
    | nil =>
      intro k a _
      simp only [List.zipIdx_nil, List.foldl_nil, List.length_nil, Nat.add_zero]
      congr 1
      apply List.ext_getElem?
      intro j
      simp only [List.getElem?_map, List.getElem?_range]
      by_cases hj : j < a.length
      · simp [hj, List.getElem?_range, show ¬ (off + k ≤ j ∧ j < off + k) by omega]
      · simp [hj, List.getElem?_eq_none (Nat.le_of_not_lt hj)]
    | cons x xs ih =>
      intro k a hk
      simp only [List.length_cons] at hk
      simp only [List.zipIdx_cons, List.foldl_cons, List.setIfInBounds_toArray]
      rw [ih (k + 1) (a.set (off + k) x) (by simp; omega)]
      congr 1
      apply List.ext_getElem?
      intro j
      simp only [List.length_set, List.getElem?_map]
      by_cases hj : j < a.length
      · simp only [List.getElem?_range hj, Option.map_some, List.length_cons, Option.some.injEq]
        by_cases h1 : off + k = j
        · subst h1
          rw [if_neg (by omega), if_pos (by omega)]
          simp [List.getD, List.getElem?_set, hj]
        · by_cases h2 : off + (k + 1) ≤ j ∧ j < off + (k + 1) + xs.length
          · rw [if_pos h2, if_pos (by omega), show j - (off + k) = (j - (off + (k + 1))) + 1 by omega]
            simp [List.getD]
          · rw [if_neg h2, if_neg (by omega)]
            simp [List.getD, List.getElem?_set_ne h1]
      · rw [List.getElem?_eq_none (by simp; omega)]
        simp [hj]
  have h2 := h.h2
  have := key xs 0 cs (by simpa using h2)
  have e : xs.toArray.zipIdx = (xs.zipIdx 0).toArray := by simp
  rw [e, List.foldl_toArray, this]
  congr 1
  apply List.ext_getElem?
  intro j
  rw [h.h j]
  simp only [Nat.add_zero, List.getElem?_map]
  by_cases hj : j < cs.length
  · simp only [List.getElem?_range hj, Option.map_some]
    by_cases h1 : off ≤ j ∧ j < off + xs.length
    · rw [if_pos h1, if_pos h1]
      simp [List.getD, List.getElem?_eq_getElem (show j - off < xs.length by omega)]
    · rw [if_neg h1, if_neg h1]
      simp [List.getD, hj]
  · rw [if_neg (by omega), List.getElem?_eq_none (Nat.le_of_not_lt hj), List.getElem?_eq_none (by simp; omega)]
    simp
instance build_cons (P : Program) (T f off ft sz : Nat) (z xs c1 : List Value) (ps : List (Nat × List Value)) (cs : List Value) [hT : TFld P T f off ft sz] [hL : Ln xs sz] [hS : Spl z off xs c1] [hB : BuildC P T c1 ps cs] : BuildC P T z ((f, xs) :: ps) cs := ⟨fun fs places hu hp vs hl hv => by
  obtain ⟨fs', fd, h1, h2, h3, h4, h5, _⟩ := hT.h
  rw [hu] at h1
  obtain rfl : fs = fs' := by simpa using h1
  obtain ⟨s, hs1, hs2⟩ := hp f fd h2
  rw [h4, h5] at hs1
  obtain rfl : sz = s := by simpa using hs1
  cases vs with
  | nil => simp at hl
  | cons v vs =>
    obtain ⟨j, x⟩ := v
    obtain ⟨rfl, hx⟩ := hv 0 j x (f, xs) rfl rfl
    unfold Instr.fill
    rw [hs2]
    simp only [hx, h3]
    have hsz : xs.toArray.size = sz := by simpa using hL.h
    have h6 := hS.h2
    rw [if_neg (by simp [hL.h]; rw [hL.h] at h6; omega)]
    rw [fold_spl off xs z c1]
    exact hB.h fs places hu hp vs (by simpa using hl) (fun i j x y hx hy => hv (i + 1) j x y (by simpa using hx) (by simpa using hy))⟩
theorem run_mapM_places (fs : Array Field) (w : World) (h : ∀ (i : Nat) fd, fs[i]? = some fd → ∃ s, (P.info? fd.type).map (·.size) = some s) :
    ∃ places : Array (Nat × Nat), (fs.mapM (m := Sem) fun f => do pure (f.offset, ← sizeOf f.type)).run P w = .ok places w ∧ ∀ (i : Nat) fd, fs[i]? = some fd → ∃ s, (P.info? fd.type).map (·.size) = some s ∧ places[i]? = some (fd.offset, s) := by
  have key : ∀ (xs : List Field), (∀ (i : Nat) fd, xs[i]? = some fd → ∃ s, (P.info? fd.type).map (·.size) = some s) → ∃ ps : List (Nat × Nat), (xs.mapM (m := Sem) fun f => do pure (f.offset, ← sizeOf f.type)).run P w = .ok ps w ∧ ∀ (i : Nat) fd, xs[i]? = some fd → ∃ s, (P.info? fd.type).map (·.size) = some s ∧ ps[i]? = some (fd.offset, s) := by
    intro xs
    induction xs with
    | nil => intro _; exact ⟨[], rfl, fun i fd h => by simp at h⟩
    | cons x xs ih =>
      intro h
      obtain ⟨ps, h1, h2⟩ := ih (fun i fd hi => h (i + 1) fd (by simpa using hi))
      obtain ⟨s, hs⟩ := h 0 x rfl
      refine ⟨(x.offset, s) :: ps, ?_, fun i fd hi => ?_⟩
      · rw [List.mapM_cons]
        show Sem.run P ((do pure (x.offset, ← sizeOf x.type)) >>= fun b => (List.mapM _ xs) >>= fun bs => pure (b :: bs)) w = _
        simp only [Sem.run_bind, run_size hs, Result.andThen_ok, Sem.run_pure, h1]
      · cases i with
        | zero => simp at hi; subst hi; exact ⟨s, hs, rfl⟩
        | succ i => simp at hi; obtain ⟨s', h3, h4⟩ := h2 i fd hi; exact ⟨s', h3, by simpa using h4⟩
  obtain ⟨ps, h1, h2⟩ := key fs.toList (fun i fd hi => h i fd (by simpa using hi))
  refine ⟨ps.toArray, ?_, fun i fd hi => ?_⟩
  · rw [Array.mapM_eq_mapM_toList]
    show Sem.run P ((List.mapM _ fs.toList) >>= fun x => pure (List.toArray x)) w = _
    rw [Sem.run_bind, h1]
    rfl
  · obtain ⟨s, h3, h4⟩ := h2 i fd (by simpa using hi)
    exact ⟨s, h3, by simpa using h4⟩
theorem parts_eval {a : Act} (ha : Ag ds N l a) : ∀ (parts : List (Nat × Operand)) (ps : List (Nat × List Value)), PartsV l parts ps → (parts.map fun (i, x) => (i, a.eval x)).length = ps.length ∧ ∀ (i : Nat) j x y, (parts.map fun (i, x) => (i, a.eval x))[i]? = some (j, x) → ps[i]? = some y → j = y.1 ∧ x.cells = y.2.toArray
  | [], [], _ => ⟨rfl, fun i j x y h => by simp at h⟩
  | (i, x) :: parts, (j, xs) :: ps, h => by
    obtain ⟨rfl, ⟨v, hv, hc⟩, h3⟩ := h
    obtain ⟨e1, e2⟩ := parts_eval ha parts ps h3
    refine ⟨by simpa using e1, fun k j x' y hx hy => ?_⟩
    cases k with
    | zero =>
      simp only [List.map_cons, List.getElem?_cons_zero, Option.some.injEq, Prod.mk.injEq] at hx hy
      obtain ⟨rfl, rfl⟩ := hx
      subst hy
      exact ⟨rfl, by rw [ha.ev hv]; exact hc⟩
    | succ k => exact e2 k j x' y (by simpa using hx) (by simpa using hy)
  | [], _ :: _, h => h.elim
  | _ :: _, [], h => h.elim
/-- every field's type has a size -/
class TFS (P : Program) (T : Nat) : Prop where h : ∃ fs, P.underlying T = some (.struct fs) ∧ ∀ (i : Nat) fd, fs[i]? = some fd → ∃ s, (P.info? fd.type).map (·.size) = some s
theorem rv_build {T : Nat} {z cs : List Value} {s : Bool} {parts : List (Nat × Operand)} (ps : List (Nat × List Value)) [hZ : TZ P T z s] [hF : TFS P T] (hp : PartsV l parts ps) [hB : BuildC P T z ps cs] : RV P l S (.build T parts.toArray) (.agg cs.toArray) := ⟨rfl, fun N a w o ho ha hs => by
  obtain ⟨fs, hu, hsz⟩ := hF.h
  obtain ⟨v, h1, h2⟩ := run_zero (P := P) (T := T) w
  obtain ⟨places, h3, h4⟩ := run_mapM_places (P := P) fs w hsz
  obtain ⟨e1, e2⟩ := parts_eval ha parts ps hp
  have hf := hB.h fs (places[·]?) hu h4 _ e1 e2
  unfold execOp
  simp only [ho, Instr.build, Sem.run_bind, h1, Result.andThen_ok, run_underlying hu, h3, h2, List.map_toArray, hf]
  rfl⟩
end
end Go.Proofs.Ytlppkbfkajionaa.Gw
