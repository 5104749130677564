/- The laws of the walk: code, and plain operations. Over any program. -/
import Derived.Test.YtlppkbfkajionaaGw
namespace Go.Proofs.Ytlppkbfkajionaa.Gw
open Go Go.RowKit
set_option linter.unusedSimpArgs false
set_option linter.unusedVariables false
set_option linter.unusedSectionVars false
/-- the fence of a round, or of none -/
abbrev FW (r : Option Nat) : Fence := { fn := fun _ => True, depth := none, alive := false, round := r }
def WL (P : Program) (r : Option Nat) (n : Nat) (ops : Array Oper) (Q : Exit → Act → World → Prop) (N : Nat) (rest : List Oper) (l : List (Nat × Value)) (S : Sx) : Prop :=
  ∀ a w, Ag S.gs.ds N l a → St S w → wpListIn (FW r) n P ops Q rest a w
def WO (P : Program) (r : Option Nat) (n : Nat) (ops : Array Oper) (Q : Exit → Act → World → Prop) (N : Nat) (o : Oper) (rest : List Oper) (l : List (Nat × Value)) (S : Sx) : Prop :=
  ∀ a w, Ag S.gs.ds N l a → St S w → o.wpIn (FW r) n P a w (wpListIn (FW r) n P ops Q rest) Q
def WC (P : Program) (r : Option Nat) (n : Nat) (c : Code) (Q : Exit → Act → World → Prop) (N : Nat) (l : List (Nat × Value)) (S : Sx) : Prop :=
  ∀ a w, Ag S.gs.ds N l a → St S w → c.wpIn (FW r) n P Q a w
def WQ (Q : Exit → Act → World → Prop) (e : Exit) (N : Nat) (l : List (Nat × Value)) (S : Sx) : Prop := ∀ a w, Ag S.gs.ds N l a → St S w → Q e a w
section
variable {P : Program} {r : Option Nat} {n : Nat} {ops : Array Oper} {Q : Exit → Act → World → Prop} {N : Nat} {l : List (Nat × Value)} {S : Sx} {rest : List Oper} {o : Oper}
theorem wc_seq {x y : Code} (h : WC P r n x (Exit.then (y.wpIn (FW r) n P Q) Q) N l S) : WC P r n (.seq x y) Q N l S := fun a w ha hs => wpIn_seq (h a w ha hs)
theorem wq_then {y : Code} {Q' : Exit → Act → World → Prop} (h : WC P r n y Q N l S) : WQ (Exit.then (y.wpIn (FW r) n P Q) Q') .normal N l S := fun a w ha hs => h a w ha hs
theorem wq_then_ret {K : Act → World → Prop} (h : WQ Q .ret N l S) : WQ (Exit.then K Q) .ret N l S := fun a w ha hs => h a w ha hs
theorem wq_then_exit {K : Act → World → Prop} {id : Nat} (h : WQ Q (.exit id) N l S) : WQ (Exit.then K Q) (.exit id) N l S := fun a w ha hs => h a w ha hs
theorem wc_skip (h : WQ Q .normal N l S) : WC P r n .skip Q N l S := fun a w ha hs => wpIn_skip (h a w ha hs)
theorem wc_ret (h : WQ Q .ret N l S) : WC P r n .ret Q N l S := fun a w ha hs => wpIn_ret (h a w ha hs)
theorem wc_exit {id : Nat} (h : WQ Q (.exit id) N l S) : WC P r n (.exit id) Q N l S := fun a w ha hs => wpIn_exit (h a w ha hs)
theorem wc_label {id : Nat} (h : WQ Q .normal N l S) : WC P r n (.label id) Q N l S := fun a w ha hs => wpIn_label (h a w ha hs)
theorem wc_block {id : Nat} {c : Code} (h : WC P r n c (Exit.inBlock id Q) N l S) : WC P r n (.block id c) Q N l S := fun a w ha hs => wpIn_block (h a w ha hs)
theorem wq_in_normal {id : Nat} (h : WQ Q .normal N l S) : WQ (Exit.inBlock id Q) .normal N l S := fun a w ha hs => h a w ha hs
theorem wq_in_ret {id : Nat} (h : WQ Q .ret N l S) : WQ (Exit.inBlock id Q) .ret N l S := fun a w ha hs => h a w ha hs
theorem wq_in_here {id : Nat} (h : WQ Q .normal N l S) : WQ (Exit.inBlock id Q) (.exit id) N l S := fun a w ha hs => by
  show (if id = id then Q .normal a w else Q (.exit id) a w)
  rw [if_pos rfl]; exact h a w ha hs
theorem wq_in_other {id id' : Nat} (hne : Nat.beq id' id = false) (h : WQ Q (.exit id') N l S) : WQ (Exit.inBlock id Q) (.exit id') N l S := fun a w ha hs => by
  show (if id' = id then Q .normal a w else Q (.exit id') a w)
  rw [if_neg (fun e => by subst e; rw [Nat.beq_refl] at hne; exact absurd hne (by simp))]; exact h a w ha hs
theorem wc_cond {c : Operand} {x y : Code} {b : Bool} (hc : ev l c = some (.bool b)) (h1 : b = true → WC P r n x Q N l S) (h2 : b = false → WC P r n y Q N l S) : WC P r n (.cond c x y) Q N l S :=
  fun a w ha hs => wpIn_cond_split (ha.ev hc) (fun h => h1 h a w ha hs) (fun h => h2 h a w ha hs)
theorem wc_cond_t {c : Operand} {x y : Code} {b : Bool} (hc : ev l c = some (.bool b)) (hb : b = true) (h1 : WC P r n x Q N l S) : WC P r n (.cond c x y) Q N l S :=
  wc_cond hc (fun _ => h1) (fun h => by rw [hb] at h; cases h)
theorem wc_cond_f {c : Operand} {x y : Code} {b : Bool} (hc : ev l c = some (.bool b)) (hb : b = false) (h2 : WC P r n y Q N l S) : WC P r n (.cond c x y) Q N l S :=
  wc_cond hc (fun h => by rw [hb] at h; cases h) (fun _ => h2)
/-- ways meet: what is known behind a piece of code -/
theorem wc_cut {c : Code} (I : List (Nat × Value) → Sx → Prop) (h : WC P r n c (fun e a w => match e with | .normal => (∃ l' S', I l' S' ∧ Ag S'.gs.ds N l' a ∧ St S' w) | e => Q e a w) N l S)
    (next : ∀ l' S', I l' S' → WQ Q .normal N l' S') : WC P r n c Q N l S := fun a w ha hs => wpIn_mono (h a w ha hs) fun e a' w' hq => by
  cases e with
  | normal => obtain ⟨l', S', hI, ha', hs'⟩ := hq; exact next l' S' hI a' w' ha' hs'
  | _ => exact hq
theorem wq_cut {I : List (Nat × Value) → Sx → Prop} {Q' : Exit → Act → World → Prop} (h : ∃ l', I l' S ∧ Sub l l') : WQ (fun e a w => match e with | .normal => (∃ l' S', I l' S' ∧ Ag S'.gs.ds N l' a ∧ St S' w) | e => Q' e a w) .normal N l S :=
  fun a w ha hs => let ⟨l', hI, hl⟩ := h; ⟨l', S, hI, ha.weak hl, hs⟩
theorem wq_cut_ret {I : Act → World → Prop} (h : WQ Q .ret N l S) : WQ (fun e a w => match e with | .normal => I a w | e => Q e a w) .ret N l S := fun a w ha hs => h a w ha hs
theorem wq_cut_exit {I : Act → World → Prop} {id : Nat} (h : WQ Q (.exit id) N l S) : WQ (fun e a w => match e with | .normal => I a w | e => Q e a w) (.exit id) N l S := fun a w ha hs => h a w ha hs
/-- a loop: what holds at each round's head, with a number that sinks -/
theorem wc_loop {c : Code} (J : Nat → List (Nat × Value) → Sx → Prop) (h0 : ∃ m l0, J m l0 S ∧ Sub l l0)
    (round : ∀ m l S, J m l S → WC P r n c (Exit.then (fun a w => ∃ m' l' S', m' < m ∧ J m' l' S' ∧ Ag S'.gs.ds N l' a ∧ St S' w) Q) N l S) : WC P r n (.loop c) Q N l S := by
  obtain ⟨m, l0, h0, hl⟩ := h0
  intro a w ha hs
  intro b k cs hro hb hr
  have key : ∀ m a w l S, J m l S → Ag S.gs.ds N l a → St S w → ∃ e a' w', Q e a' w' ∧ ArrivesIn (Machine.fenced P (FW r)) P (lone (b.atR a (.code c :: .inLoop c :: k)) cs w) b k cs e a' w' := by
    intro m
    induction m using Nat.strongRecOn with
    | _ m ih =>
      intro a w l S hJ ha hs
      obtain ⟨e, a₁, w₁, hq, harr⟩ := round m l S hJ a w ha hs b (.inLoop c :: k) cs hro hb hr
      cases e with
      | normal =>
        obtain ⟨m', l', S', hlt, hJ', ha', hs'⟩ := hq
        obtain ⟨e₂, a₂, w₂, hq₂, harr₂⟩ := ih m' hlt a₁ w₁ l' S' hJ' ha' hs'
        exact ⟨e₂, a₂, w₂, hq₂, .of_steps (StepsIn.trans harr (.one (fenced_calm hb hr rfl) stepR_inLoop)) harr₂⟩
      | exit id => exact ⟨_, a₁, w₁, hq, .pass (x := .inLoop c) rfl (fun _ _ => .inl (by simp)) harr⟩
      | goto l => exact ⟨_, a₁, w₁, hq, .pass (x := .inLoop c) rfl (fun _ _ => .inl (by simp)) harr⟩
      | ret => exact ⟨_, a₁, w₁, hq, .pass (x := .inLoop c) rfl (fun _ _ => .inl (by simp)) harr⟩
      | panic ch => exact ⟨_, a₁, w₁, hq, .pass (x := .inLoop c) rfl (fun _ _ => .inl (by simp)) harr⟩
      | outgrown => exact ⟨_, a₁, w₁, hq, .pass (x := .inLoop c) rfl (fun _ _ => .inl (by simp)) harr⟩
  obtain ⟨e, a', w', hq, harr⟩ := key m a w l0 S h0 (ha.weak hl) hs
  exact ⟨e, a', w', hq, .of_steps (.one (fenced_calm hb hr rfl) stepR_loop) harr⟩
theorem wq_round {J : Nat → List (Nat × Value) → Sx → Prop} {m : Nat} (h : ∃ m' l', J m' l' S ∧ m' < m ∧ Sub l l') :
    WQ (Exit.then (fun a w => ∃ m' l' S', m' < m ∧ J m' l' S' ∧ Ag S'.gs.ds N l' a ∧ St S' w) Q) .normal N l S := fun a w ha hs => let ⟨m', l', hJ, hm, hl⟩ := h; ⟨m', l', S, hm, hJ, ha.weak hl, hs⟩
/-- a plain region -/
theorem wc_region {id : Nat} {os : List Oper} (h : WL P r n os.toArray Q N os l S) : WC P r n (.region id os.toArray false) Q N l S := fun a w ha hs => wpIn_region_lit (h a w ha hs)
theorem wl_nil (h : WQ Q .normal N l S) : WL P r n ops Q N [] l S := fun a w ha hs => wpListIn_nil (h a w ha hs)
theorem wl_go (hg : o.guard = none) (h : WO P r n ops Q N o rest l S) : WL P r n ops Q N (o :: rest) l S := fun a w ha hs => by
  unfold wpListIn
  rw [if_pos (by simp only [Region.wanted, hg])]
  exact h a w ha hs
def skipL (l : List (Nat × Value)) : Option Nat → List (Nat × Value)
  | none => l
  | some d => (d, undef) :: l
theorem wanted_of {a : Act} {j d : Nat} {want b : Bool} {oj : Oper} (hg : o.guard = some (j, want)) (hj : ops[j]? = some oj) (hd : oj.dst = some d) (hb : a.tmps.getD d undef = .bool b) (hN : d < a.tmps.size) : Region.wanted o (yielded ops a.tmps) = (b == want) := by
  have e : yielded ops a.tmps j = some b := by
    unfold yielded
    have hd' : (ops[j]?).bind (·.dst) = some d := by rw [hj]; exact hd
    rw [hd']
    have h1 : a.tmps[d]? = some (.bool b) := by
      rw [Array.getElem?_eq_getElem hN]
      rw [Array.getD_eq_getD_getElem?, Array.getElem?_eq_getElem hN] at hb
      exact congrArg some hb
    simp [h1]
  unfold Region.wanted
  rw [hg]
  simp only [e]
  cases b <;> cases want <;> rfl
theorem wl_skip {j d : Nat} {want b : Bool} {oj : Oper} (hg : o.guard = some (j, want)) (hj : ops[j]? = some oj) (hdj : oj.dst = some d) (hN : Nat.ble (d + 1) N = true) (hb : getO l d = some (.bool b)) (hne : b = !want)
    (hM : (match o.dst with | some d => Nat.ble (d + 1) N | none => true) = true) (h : WL P r n ops Q N rest (skipL l o.dst) S) : WL P r n ops Q N (o :: rest) l S := fun a w ha hs => by
  have hN := Nat.le_of_ble_eq_true hN
  unfold wpListIn
  rw [wanted_of hg hj hdj (ha.slot _ _ hb) (by rw [ha.size]; omega), if_neg (by subst hne; cases want <;> simp)]
  refine ⟨fun _ _ => trivial, h _ w ?_ hs⟩
  cases hd : o.dst with
  | none => exact ha
  | some d' => rw [hd] at hM; exact ha.put hM _
theorem wl_want {j d : Nat} {want b : Bool} {oj : Oper} (hg : o.guard = some (j, want)) (hj : ops[j]? = some oj) (hdj : oj.dst = some d) (hN : Nat.ble (d + 1) N = true) (hb : getO l d = some (.bool b)) (he : b = want)
    (h : WO P r n ops Q N o rest l S) : WL P r n ops Q N (o :: rest) l S := fun a w ha hs => by
  have hN := Nat.le_of_ble_eq_true hN
  unfold wpListIn
  rw [wanted_of hg hj hdj (ha.slot _ _ hb) (by rw [ha.size]; omega), if_pos (by subst he; cases b <;> rfl)]
  exact h a w ha hs
theorem wanted_u {a : Act} {j d : Nat} {want : Bool} {oj : Oper} (hg : o.guard = some (j, want)) (hj : ops[j]? = some oj) (hd : oj.dst = some d) (hb : a.tmps.getD d undef = undef) (hN : d < a.tmps.size) : Region.wanted o (yielded ops a.tmps) = false := by
  have e : yielded ops a.tmps j = none := by
    unfold yielded
    have hd' : (ops[j]?).bind (·.dst) = some d := by rw [hj]; exact hd
    rw [hd']
    have h1 : a.tmps[d]? = some undef := by
      rw [Array.getElem?_eq_getElem hN]
      rw [Array.getD_eq_getD_getElem?, Array.getElem?_eq_getElem hN] at hb
      exact congrArg some hb
    simp [h1, undef]
  unfold Region.wanted
  rw [hg]
  simp only [e]
  rfl
/-- a guard whose own operation was passed over -/
theorem wl_skip_u {j d : Nat} {want : Bool} {oj : Oper} (hg : o.guard = some (j, want)) (hj : ops[j]? = some oj) (hdj : oj.dst = some d) (hN : Nat.ble (d + 1) N = true) (hb : getO l d = some undef)
    (hM : (match o.dst with | some d => Nat.ble (d + 1) N | none => true) = true) (h : WL P r n ops Q N rest (skipL l o.dst) S) : WL P r n ops Q N (o :: rest) l S := fun a w ha hs => by
  have hN := Nat.le_of_ble_eq_true hN
  unfold wpListIn
  rw [if_neg (by rw [wanted_u hg hj hdj (ha.slot _ _ hb) (by rw [ha.size]; omega)]; simp)]
  refine ⟨fun _ _ => trivial, h _ w ?_ hs⟩
  cases hd : o.dst with
  | none => exact ha
  | some d' => rw [hd] at hM; exact ha.put hM _
def plainOp : Op → Bool
  | .defer _ => false
  | _ => true
/-- an operation that yields a value, whatever the world of the state, and leaves it -/
def RV (P : Program) (l : List (Nat × Value)) (S : Sx) (op : Op) (v : Value) : Prop :=
  plainOp op = true ∧ ∀ (N : Nat) (a : Act) (w : World) (o : Oper), o.op = op → Ag S.gs.ds N l a → St S w → (execOp a.eval o).run P w = .ok (.value v) w
theorem sem_plain {op : Op} (hp : plainOp op = true) (ho : o.op = op) (ρ : Operand → Value) : o.semAt r ρ = execOp ρ o :=
  Oper.semAt_eq r ρ o fun c hc => by rw [ho] at hc; subst hc; simp [plainOp] at hp
theorem wo_val {op : Op} {d : Nat} {v : Value} (ho : o.op = op) (h : RV P l S op v) (hd : o.dst = some d) (hN : Nat.ble (d + 1) N = true) (next : WL P r n ops Q N rest ((d, v) :: l) S) : WO P r n ops Q N o rest l S := fun a w ha hs => by
  refine ⟨fun _ _ => trivial, ?_⟩
  rw [show o.semAt (FW r).round a.eval = execOp a.eval o from sem_plain h.1 ho _, h.2 N a w o ho ha hs]
  show wpListIn _ _ _ _ _ _ (a.put o.dst v) w
  rw [hd]
  exact next _ w (ha.put hN v) hs
theorem wo_val0 {op : Op} {v : Value} (ho : o.op = op) (h : RV P l S op v) (hd : o.dst = none) (next : WL P r n ops Q N rest l S) : WO P r n ops Q N o rest l S := fun a w ha hs => by
  refine ⟨fun _ _ => trivial, ?_⟩
  rw [show o.semAt (FW r).round a.eval = execOp a.eval o from sem_plain h.1 ho _, h.2 N a w o ho ha hs]
  show wpListIn _ _ _ _ _ _ (a.put o.dst v) w
  rw [hd]
  exact next _ w ha hs
/-- an operation that goes to another world -/
theorem wo_to {op : Op} {d : Nat} (ho : o.op = op) (hp : plainOp op = true) (hd : o.dst = some d) (hN : Nat.ble (d + 1) N = true)
    (h : ∀ a w, Ag S.gs.ds N l a → St S w → ∃ v w1, (execOp a.eval o).run P w = .ok (.value v) w1 ∧ ∃ S', S'.gs = S.gs ∧ St S' w1 ∧ WL P r n ops Q N rest ((d, v) :: l) S') : WO P r n ops Q N o rest l S := fun a w ha hs => by
  refine ⟨fun _ _ => trivial, ?_⟩
  obtain ⟨v, w1, hr, S', he, hs', next⟩ := h a w ha hs
  rw [show o.semAt (FW r).round a.eval = execOp a.eval o from sem_plain hp ho _, hr]
  show wpListIn _ _ _ _ _ _ (a.put o.dst v) w1
  rw [hd]
  exact next _ w1 (by rw [he]; exact ha.put hN v) hs'
theorem wo_to0 {op : Op} (ho : o.op = op) (hp : plainOp op = true) (hd : o.dst = none)
    (h : ∀ a w, Ag S.gs.ds N l a → St S w → ∃ w1, (execOp a.eval o).run P w = .ok .skip w1 ∧ ∃ S', S'.gs = S.gs ∧ St S' w1 ∧ WL P r n ops Q N rest l S') : WO P r n ops Q N o rest l S := fun a w ha hs => by
  refine ⟨fun _ _ => trivial, ?_⟩
  obtain ⟨w1, hr, S', he, hs', next⟩ := h a w ha hs
  rw [show o.semAt (FW r).round a.eval = execOp a.eval o from sem_plain hp ho _, hr]
  show wpListIn _ _ _ _ _ _ (a.put o.dst undef) w1
  rw [hd]
  exact next _ w1 (by rw [he]; exact ha) hs'
end
end Go.Proofs.Ytlppkbfkajionaa.Gw
