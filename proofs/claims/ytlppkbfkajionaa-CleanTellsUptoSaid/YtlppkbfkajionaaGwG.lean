/- The laws of the walk: a region that draws its order, whatever it does: operations are met one by one; what is still to come while others write is shown again. Over any program. -/
import Derived.Test.YtlppkbfkajionaaGwB
import Derived.OrdersIn
namespace Go.Proofs.Ytlppkbfkajionaa.Gw
open Go Go.RowKit
set_option linter.unusedSimpArgs false
set_option linter.unusedVariables false
set_option linter.unusedSectionVars false
section
variable {ops : Array Oper}
def depsOf (o : Oper) : List Nat := (o.after.toList.filter (Region.binds .any ·)).map (·.on)
/-- an operation and all that it waits for -/
def marks (ops : Array Oper) (n : Nat) : List Nat := (List.range n).reverse.foldl (fun acc j => if acc.any (fun i => match ops[i]? with
  | some o => (depsOf o).contains j
  | none => false) then j :: acc else acc) [n]
theorem marks_listed {listed : Array Bool} {n : Nat} (hn : ∀ (o : Oper), ops[n]? = some o → ∀ k ∈ depsOf o, listed.getD k false = true)
    (hdc : ∀ (i : Nat) (o : Oper), ops[i]? = some o → listed.getD i false = true → ∀ k ∈ depsOf o, listed.getD k false = true) : ∀ j ∈ marks ops n, j = n ∨ listed.getD j false = true := by
  have h : ∀ (l acc : List Nat), (∀ j ∈ acc, j = n ∨ listed.getD j false = true) → ∀ j ∈ l.foldl (fun acc j => if acc.any (fun i => match ops[i]? with
      | some o => (depsOf o).contains j
      | none => false) then j :: acc else acc) acc, j = n ∨ listed.getD j false = true := by
    intro l
    induction l with
    | nil => intro acc h; exact h
    | cons x l ih =>
      intro acc h
      rw [List.foldl_cons]
      refine ih _ ?_
      split
      · rename_i hx
        intro j hj
        rcases List.mem_cons.1 hj with rfl | hj
        · obtain ⟨i, hi, hc⟩ := List.any_eq_true.1 hx
          cases ho : ops[i]? with
          | none => rw [ho] at hc; simp at hc
          | some o =>
            rw [ho] at hc
            have hm : j ∈ depsOf o := by simpa using hc
            rcases h i hi with rfl | hl
            · exact .inr (hn o ho j hm)
            · exact .inr (hdc i o ho hl j hm)
        · exact h j hj
      · exact h
  exact h _ [n] (fun j hj => .inl (by simpa using hj))
def distinctB (ops : Array Oper) : Bool := (List.range ops.size).all fun i => (List.range ops.size).all fun j =>
  Nat.beq i j || (match (ops[i]?).bind (·.dst), (ops[j]?).bind (·.dst) with
    | some d, some e => !(Nat.beq d e)
    | _, _ => true)
def backB (ops : Array Oper) : Bool := (List.range ops.size).all fun i => match ops[i]? with
  | some o => (depsOf o).all fun k => Nat.blt k i
  | none => true
def inB (ops : Array Oper) (n : Nat) : Bool := ops.toList.all fun o => match o.dst with
  | some d => Nat.blt d n
  | none => true
def okB (ops : Array Oper) (N : Nat) : Bool := distinctB ops && backB ops && inB ops N && Region.noSelect ops
theorem distinct_spec (h : distinctB ops = true) {i j : Nat} {oi oj : Oper} (hi : ops[i]? = some oi) (hj : ops[j]? = some oj) (hij : i ≠ j) {d e : Tmp} (hd : oi.dst = some d) (he : oj.dst = some e) : d ≠ e := by
  have h1 := List.all_eq_true.1 h i (List.mem_range.2 (Array.getElem?_eq_some_iff.1 hi).1)
  have h2 := List.all_eq_true.1 h1 j (List.mem_range.2 (Array.getElem?_eq_some_iff.1 hj).1)
  simp only [hi, hj, Option.bind_some, hd, he, Bool.or_eq_true, Bool.not_eq_true'] at h2
  rcases h2 with h2 | h2
  · exact absurd (Nat.eq_of_beq_eq_true h2) hij
  · rintro rfl; rw [Nat.beq_refl] at h2; cases h2
theorem back_spec (h : backB ops = true) {i : Nat} {o : Oper} (ho : ops[i]? = some o) : ∀ k ∈ depsOf o, k < i := by
  have h1 := List.all_eq_true.1 h i (List.mem_range.2 (Array.getElem?_eq_some_iff.1 ho).1)
  simp only [ho] at h1
  intro k hk
  have := List.all_eq_true.1 h1 k hk
  exact Nat.le_of_ble_eq_true this
theorem in_spec {n : Nat} (h : inB ops n = true) {i : Nat} {o : Oper} (ho : ops[i]? = some o) {d : Tmp} (hd : o.dst = some d) : d < n := by
  have hm : o ∈ ops.toList := by
    obtain ⟨h1, h2⟩ := Array.getElem?_eq_some_iff.1 ho
    rw [← h2]; simp
  have := List.all_eq_true.1 h o hm
  rw [hd] at this
  exact Nat.le_of_ble_eq_true this
/-- how many are still to come -/
def left : List Bool → Nat
  | [] => 0
  | b :: l => (if b then 0 else 1) + left l
theorem left_set : ∀ (l : List Bool) (i : Nat), l[i]? = some false → left (l.set i true) + 1 = left l
  | [], i, h => by simp at h
  | b :: l, 0, h => by
    simp only [List.getElem?_cons_zero, Option.some.injEq] at h
    subst h
    simp [left, Nat.add_comm]
  | b :: l, i + 1, h => by
    simp only [List.getElem?_cons_succ] at h
    have := left_set l i h
    simp only [List.set_cons_succ, left]
    omega
theorem left_zero : ∀ (l : List Bool), left l = 0 → ∀ i, i < l.length → l[i]? = some true
  | [], _, i, h => by simp at h
  | b :: l, h0, 0, _ => by
    cases b with
    | true => rfl
    | false => simp [left] at h0
  | b :: l, h0, i + 1, h => by
    simp only [left] at h0
    simp only [List.getElem?_cons_succ]
    exact left_zero l (by omega) i (by simpa using h)
/-- nothing is ready: all have been -/
theorem all_listed (hback : backB ops = true) {listed : Array Bool} (hs : listed.size = ops.size) (hr : Region.ready .any ops listed = []) : ∀ i, i < ops.size → listed.getD i false = true := by
  intro i
  induction i using Nat.strongRecOn with
  | _ i ih =>
    intro hi
    cases hl : listed.getD i false with
    | true => rfl
    | false =>
      exfalso
      have hmem : i ∈ Region.ready .any ops listed := by
        refine mem_ready.2 ⟨?_, ops[i], Array.getElem?_eq_getElem hi, fun e he hb => ?_⟩
        · have hlt : i < listed.size := by omega
          simp [hlt] at hl ⊢
          exact hl
        · have hk : e.on ∈ depsOf ops[i] := List.mem_map.2 ⟨e, List.mem_filter.2 ⟨by simpa using he, hb⟩, rfl⟩
          have := back_spec hback (Array.getElem?_eq_getElem hi) _ hk
          exact ih _ this (by omega)
      rw [hr] at hmem
      cases hmem
/-- two frames that agree where an operation looks -/
theorem exec_looks {o : Oper} (hs : ∀ cs b, o.op ≠ .select cs b) {a b : Act} (h : ∀ t ∈ o.looksAt ops, a.tmps.getD t undef = b.tmps.getD t undef) : execOp a.eval o = execOp b.eval o :=
  execOp_congr o hs fun x hx => by
    cases x with
    | tmp t => exact h t (List.mem_append_left _ (List.mem_filterMap.2 ⟨.tmp t, by simpa using hx, rfl⟩))
    | _ => rfl
theorem wanted_looks {o : Oper} {a b : Act} (hsz : a.tmps.size = b.tmps.size) (h : ∀ t ∈ o.looksAt ops, a.tmps.getD t undef = b.tmps.getD t undef) : Region.wanted o (yielded ops a.tmps) = Region.wanted o (yielded ops b.tmps) := by
  unfold Region.wanted
  cases hg : o.guard with
  | none => rfl
  | some gw =>
    obtain ⟨g, want⟩ := gw
    have hy : yielded ops a.tmps g = yielded ops b.tmps g := by
      unfold yielded
      cases ht : (ops[g]?).bind (·.dst) with
      | none => rfl
      | some t =>
        have hm : t ∈ o.looksAt ops := List.mem_append_right _ (by simp [hg, ht])
        have := h t hm
        have e : a.tmps[t]? = b.tmps[t]? := by
          rcases Nat.lt_or_ge t a.tmps.size with hlt | hge
          · have hlt' : t < b.tmps.size := hsz ▸ hlt
            simp only [Array.getD_eq_getD_getElem?, Array.getElem?_eq_getElem hlt, Array.getElem?_eq_getElem hlt', Option.getD_some] at this ⊢
            exact congrArg some this
          · rw [Array.getElem?_eq_none hge, Array.getElem?_eq_none (hsz ▸ hge)]
        simp [e]
    simp only [hy]
theorem letsOut_no {K : Act → World → Prop} (h : LetsOut (fun e a w => match e with | .normal => K a w | _ => False)) : False := let ⟨_, _, h⟩ := h; h
/-- an operation at one frame, as at another one -/
theorem wpIn_as {P : Program} {r : Option Nat} {n : Nat} {o : Oper} {a b : Act} {w : World} {K : Act → World → Prop} {Q : Exit → Act → World → Prop} (hsem : execOp a.eval o = execOp b.eval o) (hsm : o.semAt r a.eval = o.semAt r b.eval) (hds : a.defers = b.defers)
    (h : o.wpIn (FW r) n P b w K (fun e a w => match e with | .normal => K a w | _ => False)) : o.wpIn (FW r) n P a w (fun a' w' => ∃ v ds, a' = ({ a with defers := ds } : Act).put o.dst v ∧ K (({ b with defers := ds } : Act).put o.dst v) w') Q := by
  unfold Oper.wpIn at *
  refine ⟨fun _ _ => trivial, ?_⟩
  obtain ⟨_, h⟩ := h
  rw [show (FW r).round = r from rfl] at *
  rw [hsm]
  have ea : ({ a with defers := b.defers } : Act) = a := by rw [← hds]
  generalize (o.semAt r b.eval).run P w = x at *
  cases x with
  | ok y w' =>
    cases y <;> simp only [Oper.uponIn] at h ⊢
    case value u => exact ⟨u, b.defers, by rw [ea], h⟩
    case skip => exact ⟨undef, b.defers, by rw [ea], h⟩
    case defer d => exact ⟨undef, d :: b.defers, by rw [hds], h⟩
    case enter f args => exact ⟨h.1, h.2.mono fun e w'' he => by
      cases e with
      | returned v => exact ⟨v, b.defers, by rw [ea], he⟩
      | panicked c => exact he.elim
      | outgrown => exact (letsOut_no he).elim⟩
    case row f args => exact ⟨h.1, RowsIn.mono h.2 fun v w'' he => ⟨v, b.defers, by rw [ea], he⟩⟩
    case round => exact ⟨h.1, RoundIn.mono h.2 fun e w'' he => by
      cases e with
      | returned v => exact ⟨v, b.defers, by rw [ea], he⟩
      | panicked c => exact he.elim
      | outgrown => exact (letsOut_no he).elim⟩
    all_goals exact h
  | halt y w' => cases y <;> simp only [Oper.uponIn] at h ⊢
end
section
variable {P : Program} {r : Option Nat} {n : Nat} {ops : Array Oper} {Q : Exit → Act → World → Prop} {N : Nat} {l : List (Nat × Value)} {S : Sx} {Pr : List Nat}
/-- an operation that may come at any time of a state: it yields a value and leaves the state -/
def RQ (P : Program) (r : Option Nat) (n : Nat) (ops : Array Oper) (N : Nat) (l : List (Nat × Value)) (S : Sx) (i : Nat) (o : Oper) (v : Value) : Prop :=
  ∀ a w, Ag S.gs.ds N l a → St S w → wpOpIn (FW r) n P ops (fun e a' w' => match e with | .normal => a' = a.put o.dst v ∧ St S w' | _ => False) i (fun a' w' => a' = a.put o.dst v ∧ St S w') a w
/-- what may be said of an operation behind whatever has been -/
structure At (ops : Array Oper) (a0 : Act) (V : Nat → Value) (Prx : List Nat) (ds : List Deferred) (N : Nat) (i : Nat) (listed : Array Bool) (a : Act) : Prop where
  size : a.tmps.size = N
  defers : a.defers = ds
  not : listed.getD i false = false
  closed : ∀ (j : Nat) (o : Oper), ops[j]? = some o → listed.getD j false = true → ∀ k ∈ depsOf o, listed.getD k false = true
  deps : ∀ (o : Oper), ops[i]? = some o → ∀ k ∈ depsOf o, listed.getD k false = true
  vals : ∀ j ∈ Prx, listed.getD j false = true → ∀ (o : Oper) d, ops[j]? = some o → o.dst = some d → a.tmps.getD d undef = V j
  rest : ∀ t, (∀ (j : Nat) (o : Oper), listed.getD j false = true → ops[j]? = some o → o.dst ≠ some t) → a.tmps.getD t undef = a0.tmps.getD t undef
structure Hx (P : Program) (r : Option Nat) (n : Nat) (ops : Array Oper) (N : Nat) (a0 star : Act) (V : Nat → Value) (Pr : List Nat) (pf : List (Nat × (Sx → Prop))) : Prop where
  sj : ∀ j ∈ Pr, ∀ (o : Oper) d, ops[j]? = some o → o.dst = some d → star.tmps.getD d undef = V j
  s0 : ∀ t, (∀ j ∈ Pr, ∀ (o : Oper), ops[j]? = some o → o.dst ≠ some t) → star.tmps.getD t undef = a0.tmps.getD t undef
  pin : ∀ x ∈ pf, x.1 ∈ Pr
  facts : ∀ x ∈ pf, ∃ o Prx, ops[x.1]? = some o ∧ (∀ j ∈ Prx, j ∈ Pr) ∧ ∀ S listed a w Q, x.2 S → At ops a0 V Prx S.gs.ds N x.1 listed a → St S w → wpOpIn (FW r) n P ops Q x.1 (fun a' w' => a' = a.put o.dst (V x.1) ∧ St S w') a w
structure Cx (ops : Array Oper) (a0 star : Act) (V : Nat → Value) (Pr : List Nat) (pf : List (Nat × (Sx → Prop))) (S : Sx) (listed : Array Bool) (a : Act) : Prop where
  size : listed.size = ops.size
  sub : ∀ j, listed.getD j false = true → j ∈ Pr
  wr : ∀ j ∈ Pr, (∀ x ∈ pf, x.1 ≠ j) → listed.getD j false = true
  closed : ∀ (j : Nat) (o : Oper), ops[j]? = some o → listed.getD j false = true → ∀ k ∈ depsOf o, listed.getD k false = true
  vals : ∀ j, listed.getD j false = true → ∀ (o : Oper) d, ops[j]? = some o → o.dst = some d → a.tmps.getD d undef = V j
  rest : ∀ t, (∀ (j : Nat) (o : Oper), listed.getD j false = true → ops[j]? = some o → o.dst ≠ some t) → a.tmps.getD t undef = a0.tmps.getD t undef
  defers : a.defers = star.defers
  tsz : a.tmps.size = star.tmps.size
  live : ∀ x ∈ pf, listed.getD x.1 false = false → x.2 S
/-- the operations Pr have been met; each of pf may still come, as long as what is said of it holds of the state -/
def WS (P : Program) (r : Option Nat) (n : Nat) (ops : Array Oper) (Q : Exit → Act → World → Prop) (N : Nat) (Pr : List Nat) (pf : List (Nat × (Sx → Prop))) (l : List (Nat × Value)) (S : Sx) : Prop :=
  okB ops N = true → ∀ a0 star V, Ag S.gs.ds N l star → Hx P r n ops N a0 star V Pr pf → ∀ fuel listed a w, left listed.toList ≤ fuel → Cx ops a0 star V Pr pf S listed a → St S w → wpAnyIn (FW r) n P .any ops Q fuel listed a w
theorem ok_spec (h : okB ops N = true) : distinctB ops = true ∧ backB ops = true ∧ inB ops N = true ∧ Region.noSelect ops = true := by
  simp only [okB, Bool.and_eq_true] at h
  exact ⟨h.1.1.1, h.1.1.2, h.1.2, h.2⟩
theorem wc_region_stage {id : Nat} {os : List Oper} (hm : P.follows .mixedOrders = true) (hok : okB os.toArray N = true) (h : WS P r n os.toArray Q N [] [] l S) : WC P r n (.region id os.toArray true) Q N l S := fun a w ha hs => by
  refine wpIn_region_any hm ?_
  have hl : ∀ n, left (List.replicate n false) = n := by
    intro n
    induction n with
    | zero => rfl
    | succ n ih => simp [List.replicate_succ, left, ih]; omega
  have hrep : ∀ i, (Array.replicate os.toArray.size false).getD i false = false := fun i => by
    generalize os.toArray.size = k
    rcases Nat.lt_or_ge i k with h' | h' <;> simp [h']
  refine h hok a a (fun _ => undef) ha ⟨fun j hj => (by cases hj), fun _ _ => rfl, fun x hx => (by cases hx), fun x hx => (by cases hx)⟩ _ _ a _ (by simp [hl]) ⟨by simp, fun j hj => ?_, fun j hj => (by cases hj), fun j o _ hj => ?_, fun j hj => ?_, fun _ _ => rfl, rfl, rfl, fun x hx => (by cases hx)⟩ hs.drewn
  all_goals (rw [hrep] at hj; cases hj)
/-- may an operation's operands be read as if all that was met had been? -/
def useB (ops : Array Oper) (Pr : List Nat) (i : Nat) : Bool := !(Pr.contains i) && (match ops[i]? with
  | some o => (o.looksAt ops).all fun t => (List.range ops.size).all fun j => match (ops[j]?).bind (·.dst) with
    | some d => !(Nat.beq d t) || (if Pr.contains j then (marks ops i).contains j else Nat.beq j i || (marks ops j).contains i)
    | none => true
  | none => false)
theorem use_spec {i : Nat} {o : Oper} (hi : ops[i]? = some o) (h : useB ops Pr i = true) : i ∉ Pr ∧ ∀ t ∈ o.looksAt ops, ∀ (j : Nat) (oj : Oper), ops[j]? = some oj → oj.dst = some t → (j ∈ Pr → j ∈ marks ops i) ∧ (j ∉ Pr → j = i ∨ i ∈ marks ops j) := by
  unfold useB at h
  rw [hi] at h
  simp only [Bool.and_eq_true, Bool.not_eq_true'] at h
  refine ⟨fun hc => by rw [List.contains_iff_mem.2 hc] at h; exact absurd h.1 (by simp), fun t ht j oj hj hd => ?_⟩
  have h1 := List.all_eq_true.1 h.2 t ht
  have h2 := List.all_eq_true.1 h1 j (List.mem_range.2 (Array.getElem?_eq_some_iff.1 hj).1)
  simp only [hj, Option.bind_some, hd, Nat.beq_refl, Bool.not_true, Bool.false_or] at h2
  constructor
  · intro hp
    rw [if_pos (by simpa using hp)] at h2
    simpa using h2
  · intro hp
    rw [if_neg (by simpa using hp)] at h2
    simp only [Bool.or_eq_true] at h2
    rcases h2 with h2 | h2
    · exact .inl (Nat.eq_of_beq_eq_true h2)
    · exact .inr (by simpa using h2)
/-- an operation looks at the same as in the frame in which all that was met had been -/
theorem looks_same {a0 star a : Act} {V : Nat → Value} {ds : List Deferred} {i : Nat} {o : Oper} {listed : Array Bool} (hi : ops[i]? = some o) (hu : useB ops Pr i = true)
    (sj : ∀ j ∈ Pr, ∀ (o : Oper) d, ops[j]? = some o → o.dst = some d → star.tmps.getD d undef = V j) (s0 : ∀ t, (∀ j ∈ Pr, ∀ (o : Oper), ops[j]? = some o → o.dst ≠ some t) → star.tmps.getD t undef = a0.tmps.getD t undef)
    (hA : At ops a0 V Pr ds N i listed a) : ∀ t ∈ o.looksAt ops, a.tmps.getD t undef = star.tmps.getD t undef := by
  intro t ht
  obtain ⟨h1, h2⟩ := use_spec hi hu
  by_cases hc : ∃ j oj, j ∈ Pr ∧ ops[j]? = some oj ∧ oj.dst = some t
  · obtain ⟨j, oj, hjP, hj, hd⟩ := hc
    have hm := (h2 t ht j oj hj hd).1 hjP
    rcases marks_listed (fun o' ho' => hA.deps o' ho') hA.closed j hm with e | hl
    · subst e; exact absurd hjP h1
    · rw [hA.vals j hjP hl oj t hj hd, sj j hjP oj t hj hd]
  · rw [s0 t (fun j hj oj ho hd => hc ⟨j, oj, hj, ho, hd⟩)]
    refine hA.rest t fun j oj hl ho hd => ?_
    have hjP : j ∉ Pr := fun hp => hc ⟨j, oj, hp, ho, hd⟩
    rcases (h2 t ht j oj ho hd).2 hjP with e | hm
    · subst e; rw [hA.not] at hl; cases hl
    · rcases marks_listed (fun o' ho' => hA.closed j o' ho' hl) hA.closed i hm with e | hl'
      · subst e; rw [hA.not] at hl; cases hl
      · rw [hA.not] at hl'; cases hl'
theorem put_as {star a : Act} {ds : List Deferred} {dst : Option Tmp} {u v : Value} (hd : ∀ d, dst = some d → d < star.tmps.size) (hds : a.defers = star.defers) (h : ({ star with defers := ds } : Act).put dst u = star.put dst v) : ({ a with defers := ds } : Act).put dst u = a.put dst v := by
  cases dst with
  | none =>
    have e : ds = star.defers := congrArg Act.defers h
    show ({ a with defers := ds } : Act) = a
    rw [e, ← hds]
  | some d =>
    have e : ds = star.defers := congrArg Act.defers h
    have e2 := congrArg (fun x : Act => x.tmps.getD d undef) h
    have hlt := hd d rfl
    simp [Act.put, hlt] at e2
    subst e2
    rw [e, ← hds]
theorem fact_of {a0 star a : Act} {V : Nat → Value} {i : Nat} {o : Oper} {v : Value} {listed : Array Bool} {w : World} (hok : okB ops N = true) (hi : ops[i]? = some o) (hu : useB ops Pr i = true) (hsz : star.tmps.size = N) (hl : Ag S.gs.ds N l star)
    (sj : ∀ j ∈ Pr, ∀ (o : Oper) d, ops[j]? = some o → o.dst = some d → star.tmps.getD d undef = V j) (s0 : ∀ t, (∀ j ∈ Pr, ∀ (o : Oper), ops[j]? = some o → o.dst ≠ some t) → star.tmps.getD t undef = a0.tmps.getD t undef)
    (hA : At ops a0 V Pr S.gs.ds N i listed a) (hs : St S w) (h : RQ P r n ops N l S i o v) : wpOpIn (FW r) n P ops Q i (fun a' w' => a' = a.put o.dst v ∧ St S w') a w := by
  obtain ⟨_, _, hin, hsel⟩ := ok_spec hok
  have hlk := looks_same hi hu sj s0 hA
  have hns : ∀ cs b, o.op ≠ .select cs b := fun cs b => Region.noSelect_spec hsel i o cs b hi
  have he := exec_looks hns hlk
  have hw := wanted_looks (o := o) (hA.size.trans hsz.symm) hlk
  have hds : a.defers = star.defers := hA.defers.trans hl.defers.symm
  have hdl : ∀ d, o.dst = some d → d < star.tmps.size := fun d hd => by rw [hsz]; exact in_spec hin hi hd
  have h1 := h star w hl hs
  unfold wpOpIn at *
  simp only [hi] at *
  rw [hw]
  split
  · rename_i hwt
    rw [if_pos hwt] at h1
    have hsm : o.semAt r a.eval = o.semAt r star.eval := by
      unfold Oper.semAt
      split
      · rename_i c hc
        have := resolve_congr (ρ := a.eval) (ρ' := star.eval) c o.type (fun x hx => by
          cases x with
          | tmp t => exact hlk t (List.mem_append_left _ (List.mem_filterMap.2 ⟨.tmp t, by simpa [hc, Op.operands] using hx, rfl⟩))
          | _ => rfl)
        rw [this]
      · exact he
    refine Oper.wpIn_mono ?_ (wpIn_as (Q := Q) he hsm hds h1)
    rintro a' w' ⟨u, ds, rfl, h2, h3⟩
    exact ⟨put_as hdl hds h2, h3⟩
  · rename_i hwt
    rw [if_neg hwt] at h1
    refine ⟨fun _ _ => trivial, ?_, h1.2.2⟩
    exact put_as (ds := star.defers) hdl hds h1.2.1 |> fun e => by rw [← hds] at e; exact e
theorem slot_ne {a : Act} {dst : Option Tmp} {t : Tmp} {v : Value} (h : dst ≠ some t) : (a.put dst v).tmps.getD t undef = a.tmps.getD t undef := by
  cases dst with
  | none => rfl
  | some d => simp [Act.put, Array.getElem?_setIfInBounds_ne (show d ≠ t from fun e => h (by rw [e]))]
theorem slot_same {a : Act} {d : Tmp} {v : Value} (h : d < a.tmps.size) : (a.put (some d) v).tmps.getD d undef = v := by simp [Act.put, h]
theorem size_put (a : Act) (d : Option Tmp) (v : Value) : (a.put d v).tmps.size = a.tmps.size := by cases d <;> simp [Act.put]
theorem defers_put (a : Act) (d : Option Tmp) (v : Value) : (a.put d v).defers = a.defers := by cases d <;> rfl
theorem ready_facts {listed : Array Bool} {i : Nat} (hs : listed.size = ops.size) (hr : i ∈ Region.ready .any ops listed) : listed.getD i false = false ∧ ∃ o, ops[i]? = some o ∧ ∀ k ∈ depsOf o, listed.getD k false = true := by
  obtain ⟨h0, o, ho, hall⟩ := mem_ready.1 hr
  have hi := (Array.getElem?_eq_some_iff.1 ho).1
  have hlt : i < listed.size := by omega
  refine ⟨by simp [hlt] at h0 ⊢; exact h0, o, ho, fun j hj => ?_⟩
  obtain ⟨e, he, rfl⟩ := List.mem_map.1 hj
  obtain ⟨he1, he2⟩ := List.mem_filter.1 he
  exact hall e (by simpa using he1) he2
theorem left_less {listed : Array Bool} {i fuel : Nat} (hs : i < listed.size) (h : listed.getD i false = false) (hl : left listed.toList ≤ fuel + 1) : left (listed.setIfInBounds i true).toList ≤ fuel := by
  have h1 : listed.toList[i]? = some false := by simp [hs] at h ⊢; exact h
  have := left_set _ _ h1
  rw [Array.toList_setIfInBounds]
  omega
theorem no_ready {listed : Array Bool} {i : Nat} (hs : i < listed.size) (h : listed.getD i false = false) : 0 < left listed.toList := by
  rcases Nat.eq_zero_or_pos (left listed.toList) with e | e
  · have := left_zero _ e i (by simpa using hs)
    simp [hs] at h this
    rw [h] at this; cases this
  · exact e
section
variable {a0 star a : Act} {V : Nat → Value} {pf : List (Nat × (Sx → Prop))} {listed : Array Bool} {i : Nat} {o : Oper}
theorem Cx.at_ {ds : List Deferred} (C : Cx ops a0 star V Pr pf S listed a) (hd : star.defers = ds) (hN : star.tmps.size = N) (hn : listed.getD i false = false) (hdep : ∀ (o : Oper), ops[i]? = some o → ∀ k ∈ depsOf o, listed.getD k false = true) {Prx : List Nat} : At ops a0 V Prx ds N i listed a :=
  ⟨C.tsz.trans hN, C.defers.trans hd, hn, C.closed, hdep, fun j _ hl => C.vals j hl, C.rest⟩
theorem Cx.put (C : Cx ops a0 star V Pr pf S listed a) (hok : okB ops N = true) (hN : star.tmps.size = N) (ho : ops[i]? = some o) (hP : i ∈ Pr) (hn : listed.getD i false = false) (hdep : ∀ k ∈ depsOf o, listed.getD k false = true) {v : Value} (hv : V i = v) : Cx ops a0 star V Pr pf S (listed.setIfInBounds i true) (a.put o.dst v) := by
  obtain ⟨hdist, _, hin, _⟩ := ok_spec hok
  have hi : i < listed.size := by rw [C.size]; exact (Array.getElem?_eq_some_iff.1 ho).1
  have hself : (listed.setIfInBounds i true).getD i false = true := by simp [hi]
  have hup : ∀ j, listed.getD j false = true → (listed.setIfInBounds i true).getD j false = true := fun j hj => getD_set_true hj
  have hdown : ∀ j, (listed.setIfInBounds i true).getD j false = true → j = i ∨ listed.getD j false = true := fun j hj => by
    by_cases e : i = j
    · exact .inl e.symm
    · rw [getD_set_ne false e] at hj; exact .inr hj
  refine ⟨by simpa using C.size, fun j hj => ?_, fun j hj hx => hup _ (C.wr j hj hx), fun j oj hj hl k hk => ?_, fun j hl oj d hj hd => ?_, fun t ht => ?_, (defers_put _ _ _).trans C.defers, (size_put _ _ _).trans C.tsz, fun x hx hl => C.live x hx ?_⟩
  · rcases hdown j hj with rfl | h
    · exact hP
    · exact C.sub j h
  · rcases hdown j hl with rfl | h
    · obtain rfl : oj = o := Option.some.inj (hj.symm.trans ho)
      exact hup _ (hdep k hk)
    · exact hup _ (C.closed j oj hj h k hk)
  · by_cases e : j = i
    · subst e
      obtain rfl : oj = o := Option.some.inj (hj.symm.trans ho)
      rw [hd, slot_same (by rw [C.tsz, hN]; exact in_spec hin ho hd), hv]
    · rcases hdown j hl with h | h
      · exact absurd h e
      · rw [slot_ne (fun e2 => distinct_spec hdist ho hj (fun e3 => e e3.symm) e2 hd rfl)]
        exact C.vals j h oj d hj hd
  · rw [slot_ne (ht i o hself ho)]
    exact C.rest t fun j oj hl => ht j oj (hup _ hl)
  · cases hc : listed.getD x.1 false with
    | false => rfl
    | true => rw [hup _ hc] at hl; cases hl
/-- a pending operation comes -/
theorem pend_step {fuel : Nat} {w : World} (hok : okB ops N = true) (ha : Ag S.gs.ds N l star) (H : Hx P r n ops N a0 star V Pr pf) (C : Cx ops a0 star V Pr pf S listed a) (hs : St S w) (hr : i ∈ Region.ready .any ops listed) (hP : i ∈ Pr)
    (hl : left listed.toList ≤ fuel + 1) (ih : ∀ listed a w, left listed.toList ≤ fuel → Cx ops a0 star V Pr pf S listed a → St S w → wpAnyIn (FW r) n P .any ops Q fuel listed a w) : wpOpIn (FW r) n P ops Q i (wpAnyIn (FW r) n P .any ops Q fuel (listed.setIfInBounds i true)) a w := by
  obtain ⟨hn, o, ho, hdep⟩ := ready_facts C.size hr
  have hi : i < listed.size := by rw [C.size]; exact (Array.getElem?_eq_some_iff.1 ho).1
  have hq : ∃ x ∈ pf, x.1 = i := by
    apply Classical.byContradiction
    intro hc
    have := C.wr i hP fun x hx e => hc ⟨x, hx, e⟩
    rw [hn] at this; cases this
  obtain ⟨x, hx, rfl⟩ := hq
  obtain ⟨o', Prx, ho', _, hf⟩ := H.facts x hx
  obtain rfl : o' = o := Option.some.inj (ho'.symm.trans ho)
  refine wpOpIn_mono ?_ (hf S listed a w Q (C.live x hx hn) (C.at_ ha.defers ha.size hn (fun o2 h2 => by obtain rfl : o2 = o' := Option.some.inj (h2.symm.trans ho); exact hdep)) hs)
  rintro a' w' ⟨rfl, hs'⟩
  exact ih _ _ _ (left_less hi hn hl) (C.put hok ha.size ho hP hn hdep rfl) hs'
end
theorem ws_q {i d : Nat} {o : Oper} {v : Value} {pf : List (Nat × (Sx → Prop))} (hi : ops[i]? = some o) (hu : useB ops Pr i = true) (h : RQ P r n ops N l S i o v) (hd : o.dst = some d) (hN : Nat.ble (d + 1) N = true)
    (next : WS P r n ops Q N (i :: Pr) ((i, fun S => RQ P r n ops N l S i o v) :: pf) ((d, v) :: l) S) : WS P r n ops Q N Pr pf l S := by
  intro hok a0 star V ha H fuel listed a w hl C hs
  have hnP : i ∉ Pr := (use_spec hi hu).1
  obtain ⟨hdist, _, hin, _⟩ := ok_spec hok
  obtain ⟨V', hV', hVi⟩ : ∃ V' : Nat → Value, (∀ j, j ≠ i → V' j = V j) ∧ V' i = v := ⟨fun j => if j = i then v else V j, fun j h => if_neg h, if_pos rfl⟩
  have hV : ∀ j ∈ Pr, V' j = V j := fun j hj => hV' j (fun e => by subst e; exact hnP hj)
  have hne : ∀ j, listed.getD j false = true → j ≠ i := fun j hj e => by subst e; exact hnP (C.sub _ hj)
  have hlt : d < star.tmps.size := by rw [ha.size]; exact in_spec hin hi hd
  refine next hok a0 (star.put (some d) v) V' (ha.put hN v) ⟨fun j hj oj e hoj he => ?_, fun t ht => ?_, fun x hx => ?_, fun x hx => ?_⟩ fuel listed a w hl ⟨C.size, fun j hj => List.mem_cons_of_mem _ (C.sub j hj), fun j hj hx => ?_, C.closed, fun j hj oj e hoj he => ?_, C.rest, C.defers.trans (defers_put _ _ _).symm, C.tsz.trans (size_put _ _ _).symm, fun x hx hlx => ?_⟩ hs
  · rcases List.mem_cons.1 hj with rfl | hj
    · obtain rfl : oj = o := Option.some.inj (hoj.symm.trans hi)
      obtain rfl : e = d := Option.some.inj (he.symm.trans hd)
      rw [slot_same hlt, hVi]
    · rw [slot_ne (fun e2 => distinct_spec hdist hi hoj (fun e3 => by subst e3; exact hnP hj) hd (he.trans e2.symm) rfl), hV j hj]
      exact H.sj j hj oj e hoj he
  · rw [slot_ne (fun e2 => ht i (by simp) o hi (hd.trans e2))]
    exact H.s0 t fun j hj => ht j (List.mem_cons_of_mem _ hj)
  · rcases List.mem_cons.1 hx with rfl | hx
    · simp
    · exact List.mem_cons_of_mem _ (H.pin x hx)
  · rcases List.mem_cons.1 hx with rfl | hx
    · refine ⟨o, Pr, hi, fun j hj => List.mem_cons_of_mem _ hj, fun S' listed' a' w' Q' hf hA hs' => ?_⟩
      have hd2 : ({ star with defers := S'.gs.ds } : Act).tmps = star.tmps := rfl
      simp only [hVi]
      have hA2 : At ops a0 V Pr S'.gs.ds N i listed' a' := ⟨hA.size, hA.defers, hA.not, hA.closed, hA.deps, fun j hj hl' oj e hoj he => by rw [hA.vals j hj hl' oj e hoj he]; exact hV j hj, hA.rest⟩
      exact fact_of (star := { star with defers := S'.gs.ds }) hok hi hu ha.size ⟨rfl, ha.size, ha.slot⟩ H.sj H.s0 hA2 hs' hf
    · obtain ⟨o', Prx, ho', hsub, hf⟩ := H.facts x hx
      refine ⟨o', Prx, ho', fun j hj => List.mem_cons_of_mem _ (hsub j hj), fun S' listed' a' w' Q' hf' hA hs' => ?_⟩
      rw [hV _ (H.pin x hx)]
      exact hf S' listed' a' w' Q' hf' ⟨hA.size, hA.defers, hA.not, hA.closed, hA.deps, fun j hj hl' oj e hoj he => by rw [hA.vals j hj hl' oj e hoj he]; exact hV j (hsub j hj), hA.rest⟩ hs'
  · rcases List.mem_cons.1 hj with rfl | hj
    · exact absurd rfl (hx _ List.mem_cons_self)
    · exact C.wr j hj fun x hx' => hx x (List.mem_cons_of_mem _ hx')
  · rw [C.vals j hj oj e hoj he]; exact (hV' j (hne j hj)).symm
  · rcases List.mem_cons.1 hx with rfl | hx
    · exact h
    · exact C.live x hx hlx
abbrev No (K : Act → World → Prop) : Exit → Act → World → Prop := fun e a w => match e with | .normal => K a w | _ => False
/-- what may still come holds of the new state; or has been -/
def PAll (ops : Array Oper) (e : Nat) : List (Nat × (Sx → Prop)) → Sx → List (Nat × (Sx → Prop)) → Prop
  | [], _, pf' => pf' = []
  | (i, f) :: pf, S, pf' => ((marks ops e).contains i = true ∧ PAll ops e pf S pf') ∨ (∃ q, pf' = (i, f) :: q ∧ f S ∧ PAll ops e pf S q)
theorem pa_nil {e : Nat} : PAll ops e [] S [] := rfl
theorem pa_drop {e i : Nat} {f : Sx → Prop} {pf q : List (Nat × (Sx → Prop))} (h : (marks ops e).contains i = true) (hr : PAll ops e pf S q) : PAll ops e ((i, f) :: pf) S q := .inl ⟨h, hr⟩
theorem pa_keep {e i : Nat} {f : Sx → Prop} {pf q : List (Nat × (Sx → Prop))} (h : f S) (hr : PAll ops e pf S q) : PAll ops e ((i, f) :: pf) S ((i, f) :: q) := .inr ⟨q, rfl, h, hr⟩
theorem pall_sub {e : Nat} : ∀ {pf q : List (Nat × (Sx → Prop))}, PAll ops e pf S q → (∀ x ∈ q, x ∈ pf ∧ x.2 S) ∧ ∀ x ∈ pf, x.1 ∈ marks ops e ∨ x ∈ q
  | [], q, h => by
    obtain rfl : q = [] := h
    exact ⟨fun x hx => (by cases hx), fun x hx => (by cases hx)⟩
  | (i, f) :: pf, q, h => by
    rcases h with ⟨h1, h2⟩ | ⟨q', rfl, h1, h2⟩
    · obtain ⟨h3, h4⟩ := pall_sub h2
      refine ⟨fun x hx => ⟨List.mem_cons_of_mem _ (h3 x hx).1, (h3 x hx).2⟩, fun x hx => ?_⟩
      rcases List.mem_cons.1 hx with rfl | hx
      · exact .inl (by simpa using h1)
      · exact h4 x hx
    · obtain ⟨h3, h4⟩ := pall_sub h2
      refine ⟨fun x hx => ?_, fun x hx => ?_⟩
      · rcases List.mem_cons.1 hx with rfl | hx
        · exact ⟨List.mem_cons_self, h1⟩
        · exact ⟨List.mem_cons_of_mem _ (h3 x hx).1, (h3 x hx).2⟩
      · rcases List.mem_cons.1 hx with rfl | hx
        · exact .inr List.mem_cons_self
        · rcases h4 x hx with h | h
          · exact .inl h
          · exact .inr (List.mem_cons_of_mem _ h)
def Kx (P : Program) (r : Option Nat) (n : Nat) (ops : Array Oper) (Q : Exit → Act → World → Prop) (N e : Nat) (Pr : List Nat) (pf : List (Nat × (Sx → Prop))) (b : Act) (w : World) : Prop :=
  ∃ l' S' pf', Ag S'.gs.ds N l' b ∧ St S' w ∧ PAll ops e pf S' pf' ∧ WS P r n ops Q N (e :: Pr) pf' l' S'
theorem wl_stage {e : Nat} {pf pf' : List (Nat × (Sx → Prop))} (hp : PAll ops e pf S pf') (h : WS P r n ops Q N (e :: Pr) pf' l S) : WL P r n ops (No (Kx P r n ops Q N e Pr pf)) N [] l S := fun a w ha hs => wpListIn_nil (Q := No _) ⟨l, S, pf', ha, hs, hp, h⟩
/-- one of some operations comes next: all others wait for one of them -/
def nextB (ops : Array Oper) (Pr es : List Nat) : Bool := (List.range ops.size).all fun j => Pr.contains j || es.any fun e => (marks ops j).contains e
def Cand (P : Program) (r : Option Nat) (n : Nat) (ops : Array Oper) (Q : Exit → Act → World → Prop) (N : Nat) (Pr : List Nat) (pf : List (Nat × (Sx → Prop))) (l : List (Nat × Value)) (S : Sx) (e : Nat) : Prop :=
  ∃ o, ops[e]? = some o ∧ useB ops Pr e = true ∧ (∀ a, Ag S.gs.ds N l a → Region.wanted o (yielded ops a.tmps) = true) ∧ WO P r n ops (No (Kx P r n ops Q N e Pr pf)) N o [] l S
theorem ws_ws (es : List Nat) {pf : List (Nat × (Sx → Prop))} (hne : es ≠ []) (hc : nextB ops Pr es = true) (h : ∀ e ∈ es, Cand P r n ops Q N Pr pf l S e) : WS P r n ops Q N Pr pf l S := by
  intro hok a0 star V ha H fuel
  obtain ⟨hdist, hback, hin, hsel⟩ := ok_spec hok
  have some_left : ∀ listed a, Cx ops a0 star V Pr pf S listed a → ∃ i, i < listed.size ∧ listed.getD i false = false := by
    intro listed a C
    obtain ⟨e, he⟩ := List.exists_mem_of_ne_nil es hne
    obtain ⟨o, ho, hu, _⟩ := h e he
    refine ⟨e, by rw [C.size]; exact (Array.getElem?_eq_some_iff.1 ho).1, ?_⟩
    cases hl : listed.getD e false with
    | false => rfl
    | true => exact absurd (C.sub e hl) (use_spec ho hu).1
  induction fuel with
  | zero =>
    intro listed a w hl C hs
    obtain ⟨i, h1, h2⟩ := some_left listed a C
    have := no_ready h1 h2
    omega
  | succ fuel ih =>
    intro listed a w hl C hs
    refine ⟨fun hr => ?_, fun i hi => ?_⟩
    · obtain ⟨i, h1, h2⟩ := some_left listed a C
      rw [all_listed hback C.size hr i (by rw [← C.size]; exact h1)] at h2
      cases h2
    · by_cases hP : i ∈ Pr
      · exact pend_step hok ha H C hs hi hP hl fun listed a w => ih listed a w
      · obtain ⟨hn, o, ho, hdep⟩ := ready_facts C.size hi
        have hil : i < listed.size := by rw [C.size]; exact (Array.getElem?_eq_some_iff.1 ho).1
        have hdep' : ∀ (o2 : Oper), ops[i]? = some o2 → ∀ k ∈ depsOf o2, listed.getD k false = true := fun o2 h2 => by obtain rfl : o2 = o := Option.some.inj (h2.symm.trans ho); exact hdep
        have hie : i ∈ es := by
          have h1 := List.all_eq_true.1 hc i (List.mem_range.2 (Array.getElem?_eq_some_iff.1 ho).1)
          simp only [Bool.or_eq_true, List.contains_iff_mem, List.any_eq_true] at h1
          rcases h1 with h1 | ⟨e, he, hm⟩
          · exact absurd h1 hP
          · obtain ⟨oe, hoe, hue, _⟩ := h e he
            rcases marks_listed hdep' C.closed e hm with h2 | h2
            · exact h2 ▸ he
            · exact absurd (C.sub e h2) (use_spec hoe hue).1
        obtain ⟨o', ho', hu, hwn, hwo⟩ := h i hie
        obtain rfl : o' = o := Option.some.inj (ho'.symm.trans ho)
        have hlk := looks_same ho hu H.sj H.s0 (C.at_ ha.defers ha.size hn hdep')
        have hsm : o'.semAt r a.eval = o'.semAt r star.eval := by
          unfold Oper.semAt
          split
          · rename_i c hcc
            have := resolve_congr (ρ := a.eval) (ρ' := star.eval) c o'.type (fun x hx => by
              cases x with
              | tmp t => exact hlk t (List.mem_append_left _ (List.mem_filterMap.2 ⟨.tmp t, by simpa [hcc, Op.operands] using hx, rfl⟩))
              | _ => rfl)
            rw [this]
          · exact exec_looks (fun cs b => Region.noSelect_spec hsel i o' cs b ho) hlk
        have hds : a.defers = star.defers := C.defers
        have hw0 : Region.wanted o' (yielded ops a.tmps) = true := (wanted_looks C.tsz hlk).trans (hwn star ha)
        have h1 := hwo star w ha hs
        have h2 := Oper.wpIn_mono (K' := Kx P r n ops Q N i Pr pf) (fun b wb hb => hb) h1
        unfold wpOpIn
        simp only [ho]
        rw [if_pos hw0]
        refine Oper.wpIn_mono ?_ (wpIn_as (Q := Q) (exec_looks (fun cs b => Region.noSelect_spec hsel i o' cs b ho) hlk) hsm hds h2)
        rintro a' w' ⟨u, ds, rfl, l', S', pf', ha', hs', hpa, hnext⟩
        obtain ⟨hp1, hp2⟩ := pall_sub hpa
        have hnP : i ∉ Pr := hP
        obtain ⟨V', hV', hVi⟩ : ∃ V' : Nat → Value, (∀ j, j ≠ i → V' j = V j) ∧ V' i = u := ⟨fun j => if j = i then u else V j, fun j h => if_neg h, if_pos rfl⟩
        have hV : ∀ j ∈ Pr, V' j = V j := fun j hj => hV' j (fun e => by subst e; exact hnP hj)
        have hself : (listed.setIfInBounds i true).getD i false = true := by simp [hil]
        have hup : ∀ j, listed.getD j false = true → (listed.setIfInBounds i true).getD j false = true := fun j hj => getD_set_true hj
        have hdown : ∀ j, (listed.setIfInBounds i true).getD j false = true → j = i ∨ listed.getD j false = true := fun j hj => by
          by_cases e : i = j
          · exact .inl e.symm
          · rw [getD_set_ne false e] at hj; exact .inr hj
        have hmk : ∀ j ∈ marks ops i, (listed.setIfInBounds i true).getD j false = true := fun j hj => by
          rcases marks_listed hdep' C.closed j hj with e | e
          · subst e; exact hself
          · exact hup j e
        refine hnext hok a0 (({ star with defers := ds } : Act).put o'.dst u) V' ha' ⟨fun j hj oj d hoj hd => ?_, fun t ht => ?_, fun x hx => List.mem_cons_of_mem _ (H.pin x (hp1 x hx).1), fun x hx => ?_⟩ fuel _ _ w' (left_less hil hn hl) ⟨by simpa using C.size, fun j hj => ?_, fun j hj hx => ?_, fun j oj hoj hlj k hk => ?_, fun j hlj oj d hoj hd => ?_, fun t ht => ?_, (defers_put ({ a with defers := ds } : Act) _ _).trans (defers_put ({ star with defers := ds } : Act) _ _).symm, ((size_put ({ a with defers := ds } : Act) _ _).trans C.tsz).trans (size_put ({ star with defers := ds } : Act) _ _).symm, fun x hx _ => (hp1 x hx).2⟩ hs'
        · rcases List.mem_cons.1 hj with rfl | hj
          · obtain rfl : oj = o' := Option.some.inj (hoj.symm.trans ho)
            rw [hd, slot_same (a := ({ star with defers := ds } : Act)) (show d < star.tmps.size by rw [ha.size]; exact in_spec hin ho hd), hVi]
          · rw [slot_ne (fun e2 => distinct_spec hdist ho hoj (fun e3 => by subst e3; exact hnP hj) e2 hd rfl), hV j hj]
            exact H.sj j hj oj d hoj hd
        · rw [slot_ne (ht i (by simp) o' ho)]
          exact H.s0 t fun j hj => ht j (List.mem_cons_of_mem _ hj)
        · obtain ⟨o2, Prx, ho2, hsub, hf⟩ := H.facts x (hp1 x hx).1
          refine ⟨o2, Prx, ho2, fun j hj => List.mem_cons_of_mem _ (hsub j hj), fun S' listed' a' w' Q' hf' hA hs' => ?_⟩
          rw [hV _ (H.pin x (hp1 x hx).1)]
          exact hf S' listed' a' w' Q' hf' ⟨hA.size, hA.defers, hA.not, hA.closed, hA.deps, fun j hj hl' oj e hoj he => by rw [hA.vals j hj hl' oj e hoj he]; exact hV j (hsub j hj), hA.rest⟩ hs'
        · rcases hdown j hj with rfl | h
          · simp
          · exact List.mem_cons_of_mem _ (C.sub j h)
        · rcases List.mem_cons.1 hj with rfl | hj
          · exact hself
          · by_cases hq : ∃ x ∈ pf, x.1 = j
            · obtain ⟨x, hxp, rfl⟩ := hq
              rcases hp2 x hxp with hm | hm
              · exact hmk _ hm
              · exact absurd rfl (hx x hm)
            · exact hup j (C.wr j hj fun x hx' e => hq ⟨x, hx', e⟩)
        · rcases hdown j hlj with rfl | h
          · obtain rfl : oj = o' := Option.some.inj (hoj.symm.trans ho)
            exact hup _ (hdep k hk)
          · exact hup _ (C.closed j oj hoj h k hk)
        · by_cases e : j = i
          · subst e
            obtain rfl : oj = o' := Option.some.inj (hoj.symm.trans ho)
            rw [hd, slot_same (a := ({ a with defers := ds } : Act)) (show d < a.tmps.size by rw [C.tsz, ha.size]; exact in_spec hin ho hd), hVi]
          · rcases hdown j hlj with h | h
            · exact absurd h e
            · rw [slot_ne (fun e2 => distinct_spec hdist ho hoj (fun e3 => e e3.symm) e2 hd rfl), hV' j e]
              exact C.vals j h oj d hoj hd
        · rw [slot_ne (ht i o' hself ho)]
          exact C.rest t fun j oj hlj => ht j oj (hup _ hlj)
theorem ws_nil {pf : List (Nat × (Sx → Prop))} (hall : ((List.range ops.size).all fun j => Pr.contains j) = true) (h : WQ Q .normal N l S) : WS P r n ops Q N Pr pf l S := by
  intro hok a0 star V ha H fuel
  obtain ⟨hdist, hback, hin, hsel⟩ := ok_spec hok
  have fin : ∀ listed a w, Cx ops a0 star V Pr pf S listed a → St S w → (∀ i, i < ops.size → listed.getD i false = true) → Q .normal a w := by
    intro listed a w C hs hal
    have e : ∀ t, a.tmps.getD t undef = star.tmps.getD t undef := by
      intro t
      by_cases hc : ∃ (j : Nat) (o : Oper), ops[j]? = some o ∧ o.dst = some t
      · obtain ⟨j, o, hj, hd⟩ := hc
        have hl := hal j (Array.getElem?_eq_some_iff.1 hj).1
        rw [C.vals j hl o t hj hd, H.sj j (C.sub j hl) o t hj hd]
      · rw [C.rest t fun j o _ ho hd => hc ⟨j, o, ho, hd⟩, H.s0 t fun j _ o ho hd => hc ⟨j, o, ho, hd⟩]
    exact h a w ⟨C.defers.trans ha.defers, C.tsz.trans ha.size, fun t v ht => (e t).trans (ha.slot t v ht)⟩ hs
  induction fuel with
  | zero =>
    intro listed a w hl C hs
    have hal : ∀ i, i < ops.size → listed.getD i false = true := fun i hi => by
      have := left_zero listed.toList (by omega) i (by simpa [C.size] using hi)
      have hlt : i < listed.size := by rw [C.size]; exact hi
      simp [hlt] at this ⊢
      exact this
    have hr : Region.ready .any ops listed = [] := by
      cases hr : Region.ready .any ops listed with
      | nil => rfl
      | cons i is =>
        exfalso
        have hm : i ∈ Region.ready .any ops listed := by rw [hr]; simp
        obtain ⟨hn, o, ho, _⟩ := ready_facts C.size hm
        rw [hal i (Array.getElem?_eq_some_iff.1 ho).1] at hn
        cases hn
    exact ⟨hr, fin listed a w C hs hal⟩
  | succ fuel ih =>
    intro listed a w hl C hs
    refine ⟨fun hr => fin listed a w C hs (all_listed hback C.size hr), fun i hi => ?_⟩
    have hP : i ∈ Pr := by
      obtain ⟨hn, o, ho, _⟩ := ready_facts C.size hi
      have := List.all_eq_true.1 hall i (List.mem_range.2 (Array.getElem?_eq_some_iff.1 ho).1)
      simpa using this
    exact pend_step hok ha H C hs hi hP hl fun listed a w => ih listed a w
/-- one operation comes next -/
theorem ws_w (e : Nat) {o : Oper} {pf : List (Nat × (Sx → Prop))} (ho : ops[e]? = some o) (hc : nextB ops Pr [e] = true) (hu : useB ops Pr e = true) (hg : o.guard = none) (h : WO P r n ops (No (Kx P r n ops Q N e Pr pf)) N o [] l S) : WS P r n ops Q N Pr pf l S :=
  ws_ws [e] (by simp) hc fun e' he => by
    obtain rfl : e' = e := by simpa using he
    exact ⟨o, ho, hu, fun a _ => by simp only [Region.wanted, hg], h⟩
theorem ws_w2 (e f : Nat) {o o2 : Oper} {pf : List (Nat × (Sx → Prop))} (ho : ops[e]? = some o) (ho2 : ops[f]? = some o2) (hc : nextB ops Pr [e, f] = true) (hu : useB ops Pr e = true) (hu2 : useB ops Pr f = true) (hg : o.guard = none) (hg2 : o2.guard = none) (h : WO P r n ops (No (Kx P r n ops Q N e Pr pf)) N o [] l S) (h2 : WO P r n ops (No (Kx P r n ops Q N f Pr pf)) N o2 [] l S) : WS P r n ops Q N Pr pf l S :=
  ws_ws [e, f] (by simp) hc fun e' he => by
    have he : e' = e ∨ e' = f := by simpa using he
    rcases he with rfl | rfl
    · exact ⟨o, ho, hu, fun a _ => by simp only [Region.wanted, hg], h⟩
    · exact ⟨o2, ho2, hu2, fun a _ => by simp only [Region.wanted, hg2], h2⟩
theorem ws_w_want (e : Nat) {o oj : Oper} {j dj : Nat} {want b : Bool} {pf : List (Nat × (Sx → Prop))} (ho : ops[e]? = some o) (hc : nextB ops Pr [e] = true) (hu : useB ops Pr e = true) (hg : o.guard = some (j, want)) (hj : ops[j]? = some oj) (hdj : oj.dst = some dj) (hM : Nat.ble (dj + 1) N = true) (hb : getO l dj = some (.bool b)) (hbe : b = want) (h : WO P r n ops (No (Kx P r n ops Q N e Pr pf)) N o [] l S) : WS P r n ops Q N Pr pf l S :=
  ws_ws [e] (by simp) hc fun e' he => by
    obtain rfl : e' = e := by simpa using he
    have hM := Nat.le_of_ble_eq_true hM
    exact ⟨o, ho, hu, fun a ha => by rw [wanted_of hg hj hdj (ha.slot _ _ hb) (by rw [ha.size]; omega)]; subst hbe; cases b <;> rfl, h⟩
theorem ws_split {d : Nat} {b : Bool} {pf : List (Nat × (Sx → Prop))} (hb : getO l d = some (.bool b)) (want : Bool) (h1 : b = want → WS P r n ops Q N Pr pf l S) (h2 : b = !want → WS P r n ops Q N Pr pf l S) : WS P r n ops Q N Pr pf l S := by
  by_cases h : b = want
  · exact h1 h
  · exact h2 (by cases b <;> cases want <;> simp_all)
section
variable {i : Nat} {o : Oper} {v : Value}
theorem rq_of (hi : ops[i]? = some o) (hw : ∀ a, Ag S.gs.ds N l a → Region.wanted o (yielded ops a.tmps) = true) {op : Op} (ho : o.op = op) (h : RV P l S op v) : RQ P r n ops N l S i o v := fun a w ha hs => by
  unfold wpOpIn
  simp only [hi]
  rw [if_pos (hw a ha)]
  refine ⟨fun _ _ => trivial, ?_⟩
  rw [show o.semAt (FW r).round a.eval = execOp a.eval o from sem_plain h.1 ho _, h.2 N a w o ho ha hs]
  exact ⟨rfl, hs⟩
theorem rq_val (hi : ops[i]? = some o) (hg : o.guard = none) {op : Op} (ho : o.op = op) (h : RV P l S op v) : RQ P r n ops N l S i o v := rq_of hi (fun a _ => by simp only [Region.wanted, hg]) ho h
theorem rq_want {oj : Oper} {j dj : Nat} {want b : Bool} (hi : ops[i]? = some o) (hg : o.guard = some (j, want)) (hj : ops[j]? = some oj) (hdj : oj.dst = some dj) (hM : Nat.ble (dj + 1) N = true) (hb : getO l dj = some (.bool b)) (hbe : b = want) {op : Op} (ho : o.op = op) (h : RV P l S op v) : RQ P r n ops N l S i o v :=
  rq_of hi (fun a ha => by have hM := Nat.le_of_ble_eq_true hM; rw [wanted_of hg hj hdj (ha.slot _ _ hb) (by rw [ha.size]; omega)]; subst hbe; cases b <;> rfl) ho h
theorem rq_skip {oj : Oper} {j dj : Nat} {want b : Bool} (hi : ops[i]? = some o) (hg : o.guard = some (j, want)) (hj : ops[j]? = some oj) (hdj : oj.dst = some dj) (hM : Nat.ble (dj + 1) N = true) (hb : getO l dj = some (.bool b)) (hbe : b = !want) : RQ P r n ops N l S i o undef := fun a w ha hs => by
  have hM := Nat.le_of_ble_eq_true hM
  unfold wpOpIn
  simp only [hi]
  rw [wanted_of hg hj hdj (ha.slot _ _ hb) (by rw [ha.size]; omega), if_neg (by subst hbe; cases want <;> simp)]
  refine ⟨?_, ?_, hs⟩ <;> intros <;> first | trivial | rfl
theorem rq_skip_u {oj : Oper} {j dj : Nat} {want : Bool} (hi : ops[i]? = some o) (hg : o.guard = some (j, want)) (hj : ops[j]? = some oj) (hdj : oj.dst = some dj) (hM : Nat.ble (dj + 1) N = true) (hb : getO l dj = some undef) : RQ P r n ops N l S i o undef := fun a w ha hs => by
  have hM := Nat.le_of_ble_eq_true hM
  unfold wpOpIn
  simp only [hi]
  rw [if_neg (by rw [wanted_u hg hj hdj (ha.slot _ _ hb) (by rw [ha.size]; omega)]; simp)]
  refine ⟨?_, ?_, hs⟩ <;> intros <;> first | trivial | rfl
theorem rq_call_of {f : Nat} {c : Operand} {xs : List Operand} {tys : Array TypeId} {args fi ca : List Value} (hi : ops[i]? = some o) (hw : ∀ a, Ag S.gs.ds N l a → Region.wanted o (yielded ops a.tmps) = true)
    (ho : o.op = .call { callee := .value c, args := xs.toArray, argTypes := tys }) (hcal : ev l c = some (.func (.func f) fi.toArray ca.toArray)) (he : ∀ args w, (callFunc f args).run P w = .ok (.enter f args) w) (hargs : evsO l xs = some args)
    (hc : ∀ w, St S w → Calls P f (fi ++ args ++ ca).toArray w (fun e w' => e = .returned v ∧ Below w.heap.size w w')) : RQ P r n ops N l S i o v := fun a w ha hs => by
  unfold wpOpIn
  simp only [hi]
  rw [if_pos (hw a ha)]
  refine ⟨fun _ _ => trivial, ?_⟩
  rw [show o.semAt (FW r).round a.eval = execOp a.eval o from sem_plain (op := .call { callee := .value c, args := xs.toArray, argTypes := tys }) rfl ho _, run_call_of ha ho hcal he hargs]
  refine ⟨fun h => absurd h (by simp), ?_⟩
  have h2 : CallsIn (FW r) (n - 1) P f (fi ++ args ++ ca).toArray w (fun e w' => e = .returned v ∧ Below w.heap.size w w') := by
    have h3 := callsIn_wide (n := n - 1) |>.2 (hc w hs)
    cases r with
    | none => exact h3
    | some k => exact h3
  refine h2.mono fun e w' hq => ?_
  obtain ⟨rfl, hb⟩ := hq
  exact ⟨rfl, hs.more hb⟩
theorem rq_call {f : Nat} {c : Operand} {xs : List Operand} {tys : Array TypeId} {args fi ca : List Value} (hi : ops[i]? = some o) (hg : o.guard = none)
    (ho : o.op = .call { callee := .value c, args := xs.toArray, argTypes := tys }) (hcal : ev l c = some (.func (.func f) fi.toArray ca.toArray)) (he : ∀ args w, (callFunc f args).run P w = .ok (.enter f args) w) (hargs : evsO l xs = some args)
    (hc : ∀ w, St S w → Calls P f (fi ++ args ++ ca).toArray w (fun e w' => e = .returned v ∧ Below w.heap.size w w')) : RQ P r n ops N l S i o v := rq_call_of hi (fun a _ => by simp only [Region.wanted, hg]) ho hcal he hargs hc
theorem rq_call_want {f : Nat} {oj : Oper} {j dj : Nat} {want b : Bool} {c : Operand} {xs : List Operand} {tys : Array TypeId} {args fi ca : List Value} (hi : ops[i]? = some o) (hg : o.guard = some (j, want)) (hj : ops[j]? = some oj) (hdj : oj.dst = some dj) (hM : Nat.ble (dj + 1) N = true) (hb : getO l dj = some (.bool b)) (hbe : b = want)
    (ho : o.op = .call { callee := .value c, args := xs.toArray, argTypes := tys }) (hcal : ev l c = some (.func (.func f) fi.toArray ca.toArray)) (he : ∀ args w, (callFunc f args).run P w = .ok (.enter f args) w) (hargs : evsO l xs = some args)
    (hc : ∀ w, St S w → Calls P f (fi ++ args ++ ca).toArray w (fun e w' => e = .returned v ∧ Below w.heap.size w w')) : RQ P r n ops N l S i o v :=
  rq_call_of hi (fun a ha => by have hM := Nat.le_of_ble_eq_true hM; rw [wanted_of hg hj hdj (ha.slot _ _ hb) (by rw [ha.size]; omega)]; subst hbe; cases b <;> rfl) ho hcal he hargs hc
end
end
end Go.Proofs.Ytlppkbfkajionaa.Gw
