/- The laws of the walk: iterators, and ranges over them. Over any program. -/
import Derived.Test.YtlppkbfkajionaaGwG
import Derived.RangeFuncNested
import Derived.RangeFuncLeaves
import Derived.RangeFuncBound
import Derived.RangeFuncCalls
namespace Go.Proofs.Ytlppkbfkajionaa.Gw
open Go Go.RowKit
set_option linter.unusedSimpArgs false
set_option linter.unusedVariables false
set_option linter.unusedSectionVars false
section
variable {P : Program} {r : Option Nat} {n : Nat} {ops : Array Oper} {Q : Exit → Act → World → Prop} {N : Nat} {l : List (Nat × Value)} {ds : List Deferred} {W w0 : World} {gs : Gx} {own : List Blk} {rest : List Oper} {o : Oper} {S : Sx}
theorem iter_start {f : FuncId} {fn : Func} {c : Code} {args : List Value} {w : World} {R : Ending → World → Prop} (hf : P.funcs[f]? = some fn) (hb : fn.body = some c) (hNt : fn.ntmps = N) (hN : Nat.ble args.length N = true) (S : Sx) (hS : St S w) (hd0 : S.gs.ds = [])
    (h : WC P none n c (bodyPost P fn R) N (argL args 0) S) : CallsIn (FW none) n P f args.toArray w R := by
  subst hNt
  exact callsIn_of_wp hf hb trivial (h _ w (by rw [hd0]; exact ag_start args fn.ntmps (Nat.le_of_ble_eq_true hN)) hS) rfl
theorem iter_arr {f : FuncId} {args : Array Value} (l : List Value) {w : World} {R : Ending → World → Prop} (h : args = l.toArray) (h2 : CallsIn (FW none) n P f l.toArray w R) : CallsIn (FW none) n P f args w R := h ▸ h2
theorem callsM_start (n : Nat) {f : FuncId} {fn : Func} {c : Code} {args : List Value} {w : World} {R : Ending → World → Prop} (hf : P.funcs[f]? = some fn) (hb : fn.body = some c) (hNt : fn.ntmps = N) (hN : Nat.ble args.length N = true) (S : Sx) (hS : St S w) (hd0 : S.gs.ds = [])
    (h : WC P none n c (bodyPostM (FW none) n P fn R) N (argL args 0) S) : Calls P f args.toArray w R := by
  subst hNt
  refine (callsIn_wide (n := n)).1 ?_
  exact callsIn_of_wp_marks hf hb trivial (h _ w (by rw [hd0]; exact ag_start args fn.ntmps (Nat.le_of_ble_eq_true hN)) hS) rfl
theorem St.grown {w : World} (h : St S w) (hg : S.gs.bs = []) (row : Option Nat) : S.W.grownBy w row :=
  have hb := h.below hg
  ⟨hb.os, hb.tape, hb.output, hb.size, fun k hk _ => hb.block k hk⟩
/-- a call of yield -/
theorem wo_yield {l0 d : Nat} {c : Operand} {xs : List Operand} {tys : Array TypeId} {args : List Value} {R : World → Ending → World → Prop}
    (ho : o.op = .call { callee := .value c, args := xs.toArray, argTypes := tys }) (hcal : ev l c = some (.func (.yield l0) #[] #[])) (hargs : evsO l xs = some args) (hd : o.dst = some d) (hN : Nat.ble (d + 1) N = true)
    (hY : ∀ w, St S w → YieldAt (FW none) (n - 1) P l0 args.toArray w (R w)) (hR : ∀ w e w', R w e w' → ∃ b, e = .returned (.bool b))
    (next : ∀ w b w', St S w → R w (.returned (.bool b)) w' → WL P none n ops Q N rest ((d, .bool b) :: l) ⟨w', ⟨[], S.gs.ds⟩, w', []⟩) : WO P none n ops Q N o rest l S := fun a w ha hs => by
  refine ⟨fun _ _ => trivial, ?_⟩
  obtain ⟨fn, tmps, assign, body, hy, hRd⟩ := hY w hs
  have h1 := evs_of ha xs args hargs
  have h2 := ha.ev hcal
  have hrun : (execOp a.eval o).run P w = .ok (.round l0 fn tmps assign body) w := by
    unfold execOp
    simp only [ho, resolve, h2, Deferred.ofValue, Sem.run_bind, Sem.run_pure, Result.andThen_ok, invoke]
    simp only [List.map_toArray, h1]
    simpa using hy
  rw [show o.semAt (FW none).round a.eval = execOp a.eval o from rfl, hrun]
  refine ⟨fun h => absurd h (by simp), hRd.mono fun e w' hq => ?_⟩
  obtain ⟨b, rfl⟩ := hR w e w' hq
  show wpListIn _ _ _ _ _ _ (a.put o.dst (.bool b)) w'
  rw [hd]
  have h3 := ha.put hN (.bool b)
  exact next w b w' hs hq _ w' ⟨h3.defers, h3.size, h3.slot⟩ ⟨rfl, rfl, rfl, Nat.le_refl _, Nat.le_refl _, fun _ _ _ => rfl, fun _ _ _ => rfl, .nil, fun x hx => (by cases hx), fun x hx => (by cases hx)⟩
/-- a loop's variables, set -/
def parL (l : List (Nat × Value)) : List Nat → List Value → List (Nat × Value)
  | p :: ps, v :: vs => parL ((p, v) :: l) ps vs
  | _, _ => l
theorem ag_par {a : Act} : ∀ (ps : List Nat) (vs : List Value) (l : List (Nat × Value)) (tmps : Array Value), (∀ p ∈ ps, p < N) → Ag [] N l { tmps := tmps, defers := [] } → Ag [] N (parL l ps vs) { tmps := (ps.zip vs).foldl (fun t (p, v) => t.setIfInBounds p v) tmps, defers := [] }
  | [], _, l, tmps, _, h => h
  | _ :: _, [], l, tmps, _, h => h
  | p :: ps, v :: vs, l, tmps, hp, h => by
    have h1 := h.put (d := p) (Nat.ble_eq_true_of_le (hp p (by simp))) v
    exact ag_par (a := a) ps vs ((p, v) :: l) (tmps.setIfInBounds p v) (fun q hq => hp q (by simp [hq])) h1
abbrev mkD (D : Nat) : Deferred := { target := .collected D, args := #[] }
section
variable {α : Type}
/-- what holds between two rounds -/
def Ib (S : Sx) (J : List α → List Blk → World → Prop) (pre : List α) (W : World) : Prop :=
  ∃ own, own.map (·.b) = S.own.map (·.b) ∧ (∀ x ∈ own, x.o.isCells = true) ∧ J pre own W ∧ St ⟨S.W, ⟨S.gs.bs, []⟩, W, own⟩ W
/-- what speaks of cells alone -/
def ClJ (B : Nat) (J : List α → List Blk → World → Prop) : Prop :=
  ∀ pre own W W' row, J pre own W → W.grownBy W' row → (∀ r, row = some r → B ≤ r ∧ ∃ o : Obj, W.heap[r]? = some o ∧ o.isCells = false) → J pre own W'
theorem St.grow {bs : List Nat} {W W' : World} {row : Option Nat} {B : Nat} (h : St ⟨S.W, ⟨bs, []⟩, W, own⟩ W) (hc : ∀ x ∈ own, x.o.isCells = true) (hB : S.W.heap.size ≤ B) (hg : W.grownBy W' row) (hr : ∀ r, row = some r → B ≤ r ∧ ∃ o : Obj, W.heap[r]? = some o ∧ o.isCells = false) : St ⟨S.W, ⟨bs, []⟩, W', own⟩ W' := by
  refine ⟨hg.os.trans h.os, hg.tape.trans h.tape, hg.output.trans h.output, Nat.le_trans h.sizeW hg.size, Nat.le_refl _, fun b hb hn => ?_, fun _ _ _ => rfl, h.apart, h.base, fun x hx => ?_⟩
  · have := h.sizeW
    rw [hg.block b (by simp at hb this; omega) (fun e => by have := (hr b e.symm).1; simp at hb; omega)]
    exact h.oldW b hb hn
  · rw [hg.block x.b (h.lt hx) (fun e => by
      obtain ⟨_, o, ho, hno⟩ := hr x.b e.symm
      rw [h.blk x hx] at ho
      cases ho
      rw [hc x hx] at hno; cases hno)]
    exact h.blk x hx
theorem ib_own {B : Nat} {J : List α → List Blk → World → Prop} (hB : S.W.heap.size ≤ B) (hJ : ClJ B J) : OwnFrom B (Ib S J) := fun pre W W' row ⟨own, h1, h2, h3, h4⟩ hg hr =>
  ⟨own, h1, h2, hJ pre own W W' row h3 hg hr, h4.grow h2 hB hg hr⟩
/-- what the assignment to a loop's variables leaves -/
def Axx (S : Sx) (N B : Nat) (A : α → List (Nat × Value) → List Blk → Prop) (x : α) (a' : Act) (W : World) : Prop :=
  ∃ lx ownx, A x lx ownx ∧ (∀ y ∈ ownx, y.o.isCells = true ∧ B ≤ y.b) ∧ ownx.Pairwise (fun x y => x.b ≠ y.b) ∧ Ag [] N lx a' ∧ ∀ y ∈ ownx, W.heap[y.b]? = some y.o
theorem axx_own {B : Nat} {A : α → List (Nat × Value) → List Blk → Prop} (x : α) (a' : Act) : OwnFrom B (fun (_ : Unit) W => Axx S N B A x a' W) := fun _ W W' row ⟨lx, ownx, h1, h2, h3, h4, h5⟩ hg hr =>
  ⟨lx, ownx, h1, h2, h3, h4, fun y hy => by
    have hy5 := h5 y hy
    rw [hg.block y.b (Array.getElem?_eq_some_iff.1 hy5).1 (fun e => by
      obtain ⟨_, o, ho, hno⟩ := hr y.b e.symm
      rw [hy5] at ho
      cases ho
      rw [(h2 y hy).1] at hno; cases hno)]
    exact hy5⟩
theorem wc_rangeFunc {g : Operand} {ps : List Nat} {assign body : Code} {gf : Nat} {lb : Array Value} (hg : ev l g = some (.func (.func gf) #[] lb)) (eg : ∀ args w, (callFunc gf args).run P w = .ok (.enter gf args) w) (h1 : 1 ≤ n)
    {encs : α → List Value} {Kp : World → World → Prop} {Sd Sp : List α → Prop} {Nn : Nat}
    (hseq : ∀ w, St S w → SeqStopsK (FW none) (n - 1) P gf lb (fun x => (encs x).toArray) Kp Sd Sp Nn w)
    (hKt : ∀ {A B C : World}, Kp A B → Kp B C → Kp A C) (hKb : ∀ (W : World) (l : Nat) (o o' : Obj), S.w0.heap.size ≤ l → W.heap[l]? = some o → Kp W (W.putObj l o')) (hKg : ∀ W W' : World, W.grownBy W' none → Kp W W')
    (hps : ∀ x, (encs x).length = ps.length) (hps2 : ∀ p ∈ ps, p < N)
    (J : List α → List Blk → World → Prop) (Jx : Code → List α → List Blk → World → Prop) (hJ : ClJ S.w0.heap.size J) (hJx : ∀ c, ClJ S.w0.heap.size (Jx c)) (hcells : ∀ x ∈ S.own, x.o.isCells = true) (h0 : ∀ w, St S w → J [] S.own w)
    (A : α → List (Nat × Value) → List Blk → Prop)
    (hassign : ∀ lp B pre x own w0, S.w0.heap.size ≤ B → B ≤ w0.heap.size → own.map (·.b) = S.own.map (·.b) → J pre own w0 →
      WC P (some lp) (n - 1 - 1) assign (Exit.then (fun a' w' => ∃ lx ownx, A x lx ownx ∧ (∀ y ∈ ownx, y.o.isCells = true ∧ w0.heap.size ≤ y.b) ∧ Ag [] N lx a' ∧ St ⟨S.W, ⟨S.gs.bs, []⟩, w0, ownx ++ own⟩ w') (fun _ _ _ => False)) N (parL l ps (encs x)) ⟨S.W, ⟨S.gs.bs, []⟩, w0, own⟩)
    (hbody : ∀ lp B pre x own lx ownx w0, S.w0.heap.size ≤ B → B ≤ w0.heap.size → own.map (·.b) = S.own.map (·.b) → J pre own w0 → A x lx ownx → pre.length < Nn → (∀ y ∈ ownx ++ own, w0.heap[y.b]? = some y.o ∧ y.o.isCells = true) →
      WC P (some lp) (n - 1 - 1) body (ownPostG B Kp (Ib S J) (fun c => Ib S (Jx c)) (pre ++ [x]) w0) N lx ⟨S.W, ⟨S.gs.bs, []⟩, w0, ownx ++ own⟩)
    (hdone : ∀ D xs own w0, S.w0.heap.size ≤ D → w0.heap[D]? = some (.deferred (some [])) → own.map (·.b) = S.own.map (·.b) → Sd xs → J xs own w0 → WQ Q .normal N l ⟨S.W, ⟨S.gs.bs, mkD D :: S.gs.ds⟩, w0, ⟨D, .deferred (some [])⟩ :: own⟩)
    (hstop : ∀ D c xs own w0, S.w0.heap.size ≤ D → w0.heap[D]? = some (.deferred (some [])) → own.map (·.b) = S.own.map (·.b) → Sp xs → Jx c xs own w0 → WC P none n c Q N l ⟨S.W, ⟨S.gs.bs, mkD D :: S.gs.ds⟩, w0, ⟨D, .deferred (some [])⟩ :: own⟩) :
    WC P none n (.rangeFunc g ps.toArray assign body) Q N l S := by
  intro a w ha hs
  have hB0 : S.w0.heap.size ≤ w.heap.size := hs.size0
  have hBW : S.W.heap.size ≤ w.heap.size := Nat.le_trans hs.sizeW hs.size0
  have clW : ∀ {J : List α → List Blk → World → Prop}, ClJ S.w0.heap.size J → ClJ w.heap.size J := fun h pre own W W' row hj hg hr => h pre own W W' row hj hg (fun r e => ⟨Nat.le_trans hB0 (hr r e).1, (hr r e).2⟩)
  have hSn : St ⟨S.W, ⟨S.gs.bs, []⟩, w, S.own⟩ w := ⟨hs.os, hs.tape, hs.output, hBW, Nat.le_refl _, hs.oldW, fun _ _ _ => rfl, hs.apart, hs.base, hs.blk⟩
  have hids : ∀ {own : List Blk}, own.map (·.b) = S.own.map (·.b) → ∀ x ∈ own, x.b < w.heap.size := fun h x hx => by
    have hm : x.b ∈ S.own.map (·.b) := h ▸ List.mem_map_of_mem hx
    obtain ⟨y, hy, e⟩ := List.mem_map.1 hm
    exact e ▸ hs.lt hy
  have hmark : ∀ (D : Nat) (own : List Blk) (W : World), w.heap.size ≤ D → own.map (·.b) = S.own.map (·.b) → (∀ x ∈ own, x.o.isCells = true) → W.heap[D]? = some (.deferred (some [])) → St ⟨S.W, ⟨S.gs.bs, []⟩, W, own⟩ W → St ⟨S.W, ⟨S.gs.bs, mkD D :: S.gs.ds⟩, W, ⟨D, .deferred (some [])⟩ :: own⟩ W := fun D own W hD hi hc hK h =>
    ⟨h.os, h.tape, h.output, h.sizeW, h.size0, h.oldW, fun _ _ _ => rfl, List.pairwise_cons.2 ⟨fun y hy => by have := hids hi y hy; show D ≠ y.b; omega, h.apart⟩, fun y hy => by
      rcases List.mem_cons.1 hy with rfl | hy
      · exact .inr (Nat.le_trans hBW hD)
      · exact h.base y hy, fun y hy => by
      rcases List.mem_cons.1 hy with rfl | hy
      · exact hK
      · exact h.blk y hy⟩
  refine wpIn_rangeFunc_ownH (F := FW none) rfl h1 (ha.ev hg) trivial eg (hseq w hs) hKt (fun W l o o' hl ho _ _ => hKb W l o o' (Nat.le_trans hB0 hl) ho) (Below.refl _ _) (fun x => by simpa using hps x)
    (fun pre W => Ib S J pre W ∧ w.heap.size ≤ W.heap.size) (fun c => Ib S (Jx c)) (fun pre A B row h hg hr => ⟨ib_own hBW (clW hJ) pre A B row h.1 hg hr, Nat.le_trans h.2 hg.size⟩) (fun c => ib_own hBW (clW (hJx c))) ⟨⟨S.own, rfl, hcells, h0 w hs, hSn⟩, Nat.le_refl _⟩ (Axx S N w.heap.size A) (fun x a' => axx_own x a') ?_ ?_ ?_ ?_
  · rintro lp pre x W0 K ⟨⟨own, h1, h2, h3, h4⟩, hsz⟩ hK
    have hfold : ((ps.toArray.zip (encs x).toArray).foldl (fun t (p, v) => t.setIfInBounds p v) a.tmps) = (ps.zip (encs x)).foldl (fun t (p, v) => t.setIfInBounds p v) a.tmps := by
      simp
    have hag : Ag [] N (parL l ps (encs x)) { tmps := (ps.toArray.zip (encs x).toArray).foldl (fun t (p, v) => t.setIfInBounds p v) a.tmps, defers := [] } := by
      rw [hfold]
      exact ag_par (a := a) ps (encs x) l a.tmps hps2 ⟨rfl, ha.size, ha.slot⟩
    refine wpIn_mono (hassign lp w.heap.size pre x own W0 hB0 hsz h1 h3 _ W0 hag h4) ?_
    rintro e a' W' hq
    cases e with
    | normal =>
      obtain ⟨lx, ownx, hA, hc, hAg, hSt⟩ := hq
      have hgr : W0.grownBy W' none := ⟨hSt.os.trans h4.os.symm, hSt.tape.trans h4.tape.symm, hSt.output.trans h4.output.symm, hSt.size0, fun k hk _ => by
        by_cases hko : ∃ y ∈ own, y.b = k
        · obtain ⟨y, hy, rfl⟩ := hko
          rw [h4.blk y hy]
          exact hSt.blk y (by simp [hy])
        · refine hSt.old0 k hk fun y hy e => ?_
          rcases List.mem_append.1 hy with hy | hy
          · have := (hc y hy).2; omega
          · exact hko ⟨y, hy, e⟩⟩
      refine hK a' W' (KeepsFrom.of_grownBy hgr (fun j e => by cases e)) (hKg _ _ hgr) ⟨⟨own, h1, h2, hJ pre own W0 W' none h3 hgr (fun r e => by cases e), h4.grow h2 hBW hgr (fun r e => by cases e)⟩, Nat.le_trans hsz hgr.size⟩ ⟨lx, ownx, hA, fun y hy => ⟨(hc y hy).1, Nat.le_trans hsz (hc y hy).2⟩, (List.pairwise_append.1 hSt.apart).1, hAg, fun y hy => hSt.blk y (by simp [hy])⟩
    | _ => exact hq
  · rintro lp pre x a' W0 hlp _ ⟨⟨own, h1, h2, h3, h4⟩, hsz⟩ ⟨lx, ownx, hA, hc, hap, hAg, hblk⟩ hlen
    refine wpIn_mono (hbody lp w.heap.size pre x own lx ownx W0 hB0 hsz h1 h3 hA hlen (fun y hy => ?_) a' W0 hAg ⟨h4.os, h4.tape, h4.output, h4.sizeW, Nat.le_refl _, h4.oldW, fun _ _ _ => rfl, ?_, fun y hy => ?_, fun y hy => ?_⟩) fun e a2 w2 hq => ?_
    · rcases List.mem_append.1 hy with hy | hy
      · exact ⟨hblk y hy, (hc y hy).1⟩
      · exact ⟨h4.blk y hy, h2 y hy⟩
    · refine List.pairwise_append.2 ⟨hap, h4.apart, fun y hy z hz e => ?_⟩
      have h5 := (hc y hy).2
      have h6 := hids h1 z hz
      omega
    · rcases List.mem_append.1 hy with hy | hy
      · exact .inr (Nat.le_trans hBW (hc y hy).2)
      · exact h4.base y hy
    · rcases List.mem_append.1 hy with hy | hy
      · exact hblk y hy
      · exact h4.blk y hy
    · cases e with
      | normal => exact ⟨hq.1, hq.2.1, hq.2.2, Nat.le_trans hsz hq.1.size⟩
      | _ => exact hq
  · rintro D xs W0 hD hS ⟨⟨own, h1, h2, h3, h4⟩, _⟩ hK
    exact hdone D xs own W0 (Nat.le_trans hB0 hD) hK h1 hS h3 _ W0 ⟨by rw [ha.defers], ha.size, ha.slot⟩ (hmark D own W0 hD h1 h2 hK h4)
  · rintro D c xs W0 hD hS ⟨own, h1, h2, h3, h4⟩ hK
    exact hstop D c xs own W0 (Nat.le_trans hB0 hD) hK h1 hS h3 _ W0 ⟨by rw [ha.defers], ha.size, ha.slot⟩ (hmark D own W0 hD h1 h2 hK h4)
theorem wq_assign {A : List (Nat × Value) → List Blk → Prop} {lx : List (Nat × Value)} {ownx : List Blk} {K : Exit → Act → World → Prop} {bs : List Nat} (hA : A lx ownx) (hc : ∀ y ∈ ownx, y.o.isCells = true ∧ w0.heap.size ≤ y.b) (hl : Sub l lx) :
    WQ (Exit.then (fun a' w' => ∃ lx ownx, A lx ownx ∧ (∀ y ∈ ownx, y.o.isCells = true ∧ w0.heap.size ≤ y.b) ∧ Ag [] N lx a' ∧ St ⟨W, ⟨bs, []⟩, w0, ownx ++ own⟩ w') K) .normal N l ⟨W, ⟨bs, []⟩, w0, ownx ++ own⟩ := fun a w ha hs => ⟨lx, ownx, hA, hc, ha.weak hl, hs⟩
theorem wq_rb_normal {B : Nat} {Kp : World → World → Prop} {I : List α → World → Prop} {Ix : Code → List α → World → Prop} {xs : List α} {W0 : World} (h : ∀ w, St S w → KeepsFrom B W0 w ∧ Kp W0 w ∧ I xs w) : WQ (ownPostG B Kp I Ix xs W0) .normal N l S := fun _ w _ hs => h w hs
theorem wq_rb_ret {B : Nat} {Kp : World → World → Prop} {I : List α → World → Prop} {Ix : Code → List α → World → Prop} {xs : List α} {W0 : World} (h : ∀ w, St S w → KeepsFrom B W0 w ∧ Ix .ret xs w) : WQ (ownPostG B Kp I Ix xs W0) .ret N l S := fun _ w _ hs => h w hs
theorem wq_rb_exit {B id : Nat} {Kp : World → World → Prop} {I : List α → World → Prop} {Ix : Code → List α → World → Prop} {xs : List α} {W0 : World} (h : ∀ w, St S w → KeepsFrom B W0 w ∧ Ix (.exit id) xs w) : WQ (ownPostG B Kp I Ix xs W0) (.exit id) N l S := fun _ w _ hs => h w hs
/-- a round that goes by one other world keeps what is no cells -/
theorem keeps_via {B : Nat} {W0 w1 w : World} {W' W'' : World} {gs gs' : Gx} {own own' : List Blk} {k : Option Nat} (hc : ∀ y ∈ own, ∀ o, W0.heap[y.b]? = some o → o.isCells = true) (hi : ∀ x ∈ own', ∃ y ∈ own, y.b = x.b) (hm : Moved ⟨W', gs, W0, own⟩ k w1) (hk : ∀ b, k = some b → ∀ o, W0.heap[b]? = some o → o.isCells = true) (hs : St ⟨W'', gs', w1, own'⟩ w) : KeepsFrom B W0 w := by
  refine ⟨Nat.le_trans hm.size hs.size0, fun i o _ hi' ho => ?_⟩
  have hlt := (Array.getElem?_eq_some_iff.1 hi').1
  have hno : ∀ y ∈ own, y.b ≠ i := fun y hy e => by rw [hc y hy o (e ▸ hi')] at ho; cases ho
  have h1 := hm.block i hlt hno (fun e => by rw [hk i e.symm o hi'] at ho; cases ho)
  rw [hs.old0 i (Nat.lt_of_lt_of_le hlt hm.size) (fun x hx e => by obtain ⟨y, hy, e2⟩ := hi x hx; exact hno y hy (e2.trans e)), h1]
  exact hi'
theorem keeps_here {B : Nat} {W0 w W' : World} {gs : Gx} {own : List Blk} (hc : ∀ y ∈ own, ∀ o, W0.heap[y.b]? = some o → o.isCells = true) (hs : St ⟨W', gs, W0, own⟩ w) : KeepsFrom B W0 w :=
  ⟨hs.size0, fun i o _ hi ho => by rw [hs.old0 i (Array.getElem?_eq_some_iff.1 hi).1 (fun y hy e => by rw [hc y hy o (e ▸ hi)] at ho; cases ho)]; exact hi⟩
theorem Rw.cells {e sz k : Nat} {v : Value} {xs : List Value} (h : Rw ⟨W, gs, w0, own⟩ e sz v k xs) : ∀ b, v.ownBlock = some b → ∀ o, w0.heap[b]? = some o → o.isCells = true := fun b hb o ho => by
  obtain ⟨_, h2⟩ := h.own
  rcases h2 with ⟨rfl, _⟩ | ⟨g, cap, cur, rfl, _, hh, _⟩
  · cases hb
  · cases hb
    have e : w0.heap[g]? = some _ := hh
    rw [e] at ho
    cases ho; rfl
/-- a row abides what leaves cells alone -/
theorem Rw.grown {e sz k : Nat} {v : Value} {xs : List Value} {W1 W2 : World} {row : Option Nat} (h : Rw ⟨W, gs, W1, own⟩ e sz v k xs) (hg : W1.grownBy W2 row) (hr : ∀ r, row = some r → ∃ o : Obj, W1.heap[r]? = some o ∧ o.isCells = false) : Rw ⟨W, gs, W2, own⟩ e sz v k xs :=
  ⟨h.own.kept hg (by
    cases hv : v.ownBlock with
    | none => exact .inl rfl
    | some b => exact .inr (fun e2 => by
        obtain ⟨o, ho, hn⟩ := hr b e2.symm
        rw [h.cells b hv o ho] at hn; cases hn)), h.off⟩
end
theorem cells_ids {W0 : World} {own0 own : List Blk} (hb : ∀ y ∈ own0, W0.heap[y.b]? = some y.o ∧ y.o.isCells = true) (h : own.map (·.b) = own0.map (·.b)) : ∀ y ∈ own, ∀ o, W0.heap[y.b]? = some o → o.isCells = true := fun y hy o ho => by
  have hm : y.b ∈ own0.map (·.b) := h ▸ List.mem_map_of_mem hy
  obtain ⟨z, hz, e⟩ := List.mem_map.1 hm
  have h1 := hb z hz
  rw [e, ho] at h1
  cases h1.1
  exact h1.2
/-- own blocks that hold what they held: nothing has turned -/
theorem same_of {w : World} (hs : St ⟨W, gs, w0, own⟩ w) (hb : ∀ y ∈ own, w0.heap[y.b]? = some y.o ∧ y.o.isCells = true) (b : Nat) (hlt : b < w0.heap.size) : w.heap[b]? = w0.heap[b]? := by
  by_cases h : ∃ y ∈ own, y.b = b
  · obtain ⟨y, hy, rfl⟩ := h
    rw [(hb y hy).1]; exact hs.blk y hy
  · exact hs.old0 b hlt fun y hy e => h ⟨y, hy, e⟩
theorem Rw.same {e sz k : Nat} {v : Value} {xs : List Value} {w : World} {own1 : List Blk} {gs' : Gx} (h : Rw ⟨W, gs, w0, own⟩ e sz v k xs) (hs : St ⟨W, gs', w0, own1⟩ w) (hb : ∀ y ∈ own1, w0.heap[y.b]? = some y.o ∧ y.o.isCells = true) : Rw ⟨W, gs, w, own⟩ e sz v k xs :=
  ⟨own_moved h.own fun b hb' => same_of hs hb b (h.lt b hb').2, h.off⟩
theorem Rw.form {e sz k : Nat} {v : Value} {xs : List Value} (h : Rw S e sz v k xs) : ∃ p n c, v = .slice p n c := by
  obtain ⟨_, h2⟩ := h.own
  rcases h2 with ⟨rfl, _⟩ | ⟨g, cap, cur, rfl, _⟩
  · exact ⟨_, _, _, rfl⟩
  · exact ⟨_, _, _, rfl⟩
theorem Rw.not_at {e sz k b : Nat} {v : Value} {xs : List Value} {c : Array Value} {ty : TypeId} {fr : Nat × Nat} (h : Rw ⟨W, gs, w0, own⟩ e sz v k xs) (hb : w0.heap[b]? = some (.cells c ty fr)) (hne : ty ≠ e) : v.ownBlock ≠ some b := fun hv => by
  obtain ⟨_, h2⟩ := h.own
  rcases h2 with ⟨rfl, _⟩ | ⟨g, cap, cur, rfl, _, hh, _⟩
  · cases hv
  · cases hv
    have e2 : w0.heap[g]? = some _ := hh
    rw [e2] at hb
    cases hb
    exact hne rfl
/-- a row, the own blocks by their numbers alone -/
theorem Rw.ids {e sz k : Nat} {v : Value} {xs : List Value} {gs' : Gx} {own' : List Blk} (h : Rw ⟨W, gs, w0, own⟩ e sz v k xs) (hi : own'.map (·.b) = own.map (·.b)) : Rw ⟨W, gs', w0, own'⟩ e sz v k xs := ⟨h.own, fun z hz => by
  have hm : z.b ∈ own.map (·.b) := hi ▸ List.mem_map_of_mem hz
  obtain ⟨y, hy, e⟩ := List.mem_map.1 hm
  exact e ▸ h.off y hy⟩
theorem Rw.call {W' w1 : World} {gs' : Gx} {own' : List Blk} {e sz k : Nat} {v : Value} {xs : List Value} (h : Rw ⟨W, gs, w0, own⟩ e sz v k xs) (hm : Moved ⟨W', gs', w0, own'⟩ none w1) (hi : own'.map (·.b) = own.map (·.b)) : Rw ⟨W, gs, w1, own⟩ e sz v k xs :=
  ⟨own_moved h.own fun b hb => hm.block b (h.lt b hb).2 (fun x hx e => by
    have hm2 : x.b ∈ own.map (·.b) := hi ▸ List.mem_map_of_mem hx
    obtain ⟨y, hy, e2⟩ := List.mem_map.1 hm2
    exact h.off y hy (by rw [hb, e2]; exact congrArg some e.symm)) (by simp), h.off⟩
/-- a new block beside a row, whatever it holds -/
theorem Rw.beside {b : Nat} {e sz k : Nat} {v : Value} {xs : List Value} (h : Rw ⟨W, gs, w0, own⟩ e sz v k xs) (hb : w0.heap.size ≤ b) : Rw ⟨W, gs, w0, ⟨b, .cells #[] 0 (0, 0)⟩ :: own⟩ e sz v k xs := h.cons (x := ⟨b, .cells #[] 0 (0, 0)⟩) hb
theorem Rw.mark {e sz k D : Nat} {v : Value} {xs : List Value} {gs' : Gx} {o : Obj} {d : Option (List Deferred)} (h : Rw ⟨W, gs, w0, own⟩ e sz v k xs) (hD : w0.heap[D]? = some (.deferred d)) : Rw ⟨W, gs', w0, ⟨D, o⟩ :: own⟩ e sz v k xs := ⟨h.own, fun z hz => by
  rcases List.mem_cons.1 hz with rfl | hz
  · intro e2
    have := h.cells _ e2 _ hD
    cases this
  · exact h.off z hz⟩
/-- a function's end, where a loop over an iterator has left its mark -/
theorem bodyM_of {fn : Func} {R : Ending → World → Prop} {a : Act} {w : World} {D : Nat} (hd : a.defers = [mkD D]) (hK : w.heap[D]? = some (.deferred (some []))) (h : bodyPost P fn R .ret { a with defers := [] } (w.putObj D (.deferred none))) : bodyPostM (FW none) n P fn R .ret a w := by
  show LeavesInM (FW none) n P fn a.tmps R a.defers .returning w
  rw [hd]
  obtain ⟨_, v, h1, h2⟩ := h
  exact ⟨by simp, .inl ⟨D, _, rfl, run_takeDeferred hK, v, h1, h2⟩⟩
theorem wq_retM {fn : Func} {R : Ending → World → Prop} {bs : List Nat} {D i : Nat} {own' : List Blk} [hB : HasB own D i (.deferred (some []))] [hU : UpdB own D (.deferred none) own'] (h : WQ (bodyPost P fn R) .ret N l ⟨W, ⟨bs, []⟩, w0, own'⟩) : WQ (bodyPostM (FW none) n P fn R) .ret N l ⟨W, ⟨bs, [mkD D]⟩, w0, own⟩ := fun a w ha hs => by
  have hK : w.heap[D]? = some (.deferred (some [])) := hs.blk ⟨D, _⟩ (List.mem_of_getElem? hB.h)
  refine bodyM_of ha.defers hK (h _ _ ⟨rfl, ha.size, ha.slot⟩ ?_)
  obtain ⟨i', o0, hi', he⟩ := hU.h
  have hlt := (Array.getElem?_eq_some_iff.1 hK).1
  have := hs.write (x := ⟨D, o0⟩) (w1 := w.putObj D (.deferred none)) hi' (.deferred none) rfl rfl rfl (by simp) (fun b _ hb => World.putObj_heap_other hb) (World.putObj_heap_same hlt)
  rw [he]
  exact ⟨this.os, this.tape, this.output, this.sizeW, this.size0, this.oldW, this.old0, this.apart, this.base, this.blk⟩
theorem wq_retMn {fn : Func} {R : Ending → World → Prop} {bs : List Nat} {D i : Nat} {own' : List Blk} [hB : HasB own D i (.deferred (some []))] [hU : UpdB own D (.deferred none) own'] (h : WQ (bodyPost P fn R) .ret N l ⟨W, ⟨bs, []⟩, w0, own'⟩) : WQ (bodyPostM (FW none) n P fn R) .normal N l ⟨W, ⟨bs, [mkD D]⟩, w0, own⟩ := wq_retM h
theorem wq_retM0 {fn : Func} {R : Ending → World → Prop} (hd : S.gs.ds = []) (h : WQ (bodyPost P fn R) .ret N l S) : WQ (bodyPostM (FW none) n P fn R) .ret N l S := fun a w ha hs => by
  show LeavesInM (FW none) n P fn a.tmps R a.defers .returning w
  rw [ha.defers, hd]
  obtain ⟨_, v, h1, h2⟩ := h a w ha hs
  exact ⟨v, h1, h2⟩
theorem wq_retM0n {fn : Func} {R : Ending → World → Prop} (hd : S.gs.ds = []) (h : WQ (bodyPost P fn R) .ret N l S) : WQ (bodyPostM (FW none) n P fn R) .normal N l S := wq_retM0 hd h
theorem rb_slice_as {T : Nat} [TStr P T] {x : Operand} {lo hi : Option Operand} {s t : List UInt8} {lv hv : Nat} (hx : ev l x = some (.string (toB s))) (h1 : bnd l lo 0 lv) (h2 : bnd l hi s.length hv) (hle : lv ≤ hv ∧ hv ≤ s.length) (he : (s.take hv).drop lv = t) : RV P l S (.slice T x lo hi none) (.string (toB t)) := he ▸ rb_slice hx h1 h2 hle
end
end Go.Proofs.Ytlppkbfkajionaa.Gw
