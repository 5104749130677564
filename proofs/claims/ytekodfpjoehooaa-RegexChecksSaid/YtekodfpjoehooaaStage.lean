/- A region that draws its order and writes: the writers stand in one order; what holds of the world hangs on how many have been. Over any program. -/
import Derived.Test.YtekodfpjoehooaaSeq
namespace Go.Proofs.Ytekodfpjoehooaa.Reg
open Go Go.RowKit
section
variable {P : Program} {ops : Array Oper}
/-- do the writers stand in one order? -/
def ordB (ops : Array Oper) : List Nat → Bool
  | x :: y :: r => decide (x < y) && (marks ops y).contains x && ordB ops (y :: r)
  | _ => true
/-- may an operation come when k writers have been? -/
def allowedB (ops : Array Oper) (Ws : List Nat) (i k : Nat) : Bool := (List.range Ws.length).all fun j => match Ws[j]? with
  | some x => if j < k then !(marks ops x).contains i else x == i || !(marks ops i).contains x
  | none => true
def ObS (P : Program) (ops : Array Oper) (Ws : List Nat) (a : Act) (I : Nat → World → Prop) (Ex : World → World → Prop) (T : Nat → Value → World → Prop) (i : Nat) (o : Oper) : Prop :=
  ∀ k a' w', k ≤ Ws.length → allowedB ops Ws i k = true → Same ops a a' → I k w' → DepAll ops T a' w' (depsOf o) →
    (Region.wanted o (yielded ops a'.tmps) = true ∧ o.wp P a' w' (fun a'' w'' => ∃ v, a'' = a'.put o.dst v ∧ T i (res o v) w'' ∧ Ex w' w'' ∧ I (if Ws.contains i then k + 1 else k) w'') (fun _ _ _ => False)) ∨
    (Region.wanted o (yielded ops a'.tmps) = false ∧ T i undef w' ∧ Ws.contains i = false)
theorem marks_self (n : Nat) : n ∈ marks ops n := by
  have h : ∀ (l acc : List Nat), n ∈ acc → n ∈ l.foldl (fun acc j => if acc.any (fun i => match ops[i]? with
      | some o => (depsOf o).contains j
      | none => false) then j :: acc else acc) acc := by
    intro l
    induction l with
    | nil => intro acc h; exact h
    | cons x l ih =>
      intro acc h
      rw [List.foldl_cons]
      refine ih _ ?_
      split
      · exact List.mem_cons_of_mem _ h
      · exact h
  exact h _ [n] (by simp)
theorem ord_pair : ∀ (Ws : List Nat), ordB ops Ws = true → ∀ j x y, Ws[j]? = some x → Ws[j + 1]? = some y → x < y ∧ x ∈ marks ops y
  | [], _, j, x, y, hx, _ => by simp at hx
  | [_], _, j, x, y, _, hy => by simp at hy
  | a :: b :: r, h, 0, x, y, hx, hy => by
    simp at hx hy
    subst hx; subst hy
    simp only [ordB, Bool.and_eq_true, decide_eq_true_eq] at h
    exact ⟨h.1.1, by simpa using h.1.2⟩
  | a :: b :: r, h, j + 1, x, y, hx, hy => by
    simp only [ordB, Bool.and_eq_true, decide_eq_true_eq] at h
    exact ord_pair (b :: r) h.2 j x y (by simpa using hx) (by simpa using hy)
theorem ord_lt : ∀ (Ws : List Nat), ordB ops Ws = true → ∀ d j x y, Ws[j]? = some x → Ws[j + 1 + d]? = some y → x < y
  | Ws, h, 0, j, x, y, hx, hy => (ord_pair Ws h j x y hx hy).1
  | Ws, h, d + 1, j, x, y, hx, hy => by
    have hlt := (List.getElem?_eq_some_iff.1 hy).1
    obtain ⟨z, hz⟩ : ∃ z, Ws[j + 1 + d]? = some z := ⟨_, List.getElem?_eq_getElem (by omega)⟩
    have h1 := ord_lt Ws h d j x z hx hz
    have h2 := (ord_pair Ws h (j + 1 + d) z y hz hy).1
    omega
theorem ord_inj (Ws : List Nat) (h : ordB ops Ws = true) {j j' x : Nat} (hx : Ws[j]? = some x) (hy : Ws[j']? = some x) : j = j' := by
  rcases Nat.lt_trichotomy j j' with hl | hl | hl
  · have := ord_lt Ws h (j' - j - 1) j x x hx (by rw [show j + 1 + (j' - j - 1) = j' by omega]; exact hy); omega
  · exact hl
  · have := ord_lt Ws h (j - j' - 1) j' x x hy (by rw [show j' + 1 + (j - j' - 1) = j by omega]; exact hx); omega
theorem any_stage {Q : Exit → Act → World → Prop} {a : Act} {Ws : List Nat} {I : Nat → World → Prop} {Ex : World → World → Prop} {T : Nat → Value → World → Prop} (hd : distinctB ops = true) (hin : inB ops a.tmps.size = true) (hback : backB ops = true) (hord : ordB ops Ws = true) (hWs : (Ws.all fun x => decide (x < ops.size)) = true)
    (hT : ∀ i v w1 w2, T i v w1 → Ex w1 w2 → T i v w2) (obs : ∀ (i : Nat) (o : Oper), ops[i]? = some o → ObS P ops Ws a I Ex T i o)
    (hfin : ∀ a' w', Same ops a a' → I Ws.length w' → (∀ (i : Nat) (o : Oper), ops[i]? = some o → T i (slotV ops a' i) w') → Q .normal a' w') :
    ∀ (fuel : Nat) (listed : Array Bool) (a' : Act) (w' : World) (k : Nat), listed.size = ops.size → left listed.toList ≤ fuel →
      (∀ (i : Nat) (o : Oper), ops[i]? = some o → listed.getD i false = true → ∀ j ∈ depsOf o, listed.getD j false = true) → k ≤ Ws.length → (∀ j x, Ws[j]? = some x → (listed.getD x false = true ↔ j < k)) → Same ops a a' → I k w' →
      (∀ (i : Nat) (o : Oper), ops[i]? = some o → listed.getD i false = true → T i (slotV ops a' i) w') → wpAny P .any ops Q fuel listed a' w' := by
  have done : ∀ (listed : Array Bool) (a' : Act) (w' : World) (k : Nat), listed.size = ops.size → k ≤ Ws.length → (∀ j x, Ws[j]? = some x → (listed.getD x false = true ↔ j < k)) → Same ops a a' → I k w' →
      (∀ (i : Nat) (o : Oper), ops[i]? = some o → listed.getD i false = true → T i (slotV ops a' i) w') → Region.ready .any ops listed = [] → Q .normal a' w' := by
    intro listed a' w' k hs hk hW hS hI hTl hr
    have all : ∀ i, i < ops.size → listed.getD i false = true := by
      intro i
      induction i using Nat.strongRecOn with
      | _ i ih =>
        intro hi
        cases hl : listed.getD i false with
        | true => rfl
        | false =>
          exfalso
          have hmem : i ∈ Region.ready .any ops listed := by
            refine mem_ready.2 ⟨?_, ops[i], Array.getElem?_eq_getElem hi, fun e he hb => ?_⟩
            · have hlt : i < listed.size := by omega
              simp [hlt] at hl ⊢
              exact hl
            · have hk : e.on ∈ depsOf ops[i] := List.mem_map.2 ⟨e, List.mem_filter.2 ⟨by simpa using he, hb⟩, rfl⟩
              have := back_spec hback (Array.getElem?_eq_getElem hi) _ hk
              exact ih _ this (by omega)
          rw [hr] at hmem
          cases hmem
    have hkl : k = Ws.length := by
      rcases Nat.lt_or_ge k Ws.length with h | h
      · have hx := List.getElem?_eq_getElem h
        have hm : Ws[k] < ops.size := by simpa using List.all_eq_true.1 hWs _ (List.getElem_mem h)
        have := (hW k _ hx).1 (all _ hm)
        omega
      · omega
    subst hkl
    exact hfin a' w' hS hI fun i o ho => hTl i o ho (all i (Array.getElem?_eq_some_iff.1 ho).1)
  intro fuel
  induction fuel with
  | zero =>
    intro listed a' w' k hs hl hdc hk hW hS hI hTl
    have hr : Region.ready .any ops listed = [] := by
      cases hr : Region.ready .any ops listed with
      | nil => rfl
      | cons i is =>
        exfalso
        have hm : i ∈ Region.ready .any ops listed := by rw [hr]; simp
        obtain ⟨h0, o, ho, _⟩ := mem_ready.1 hm
        have hi := (Array.getElem?_eq_some_iff.1 ho).1
        have := left_zero listed.toList (by omega) i (by simpa using (by omega : i < listed.size))
        have hlt : i < listed.size := by omega
        simp [hlt] at h0 this
        rw [h0] at this
        cases this
    exact ⟨hr, done listed a' w' k hs hk hW hS hI hTl hr⟩
  | succ fuel ih =>
    intro listed a' w' k hs hl hdc hk hW hS hI hTl
    refine ⟨done listed a' w' k hs hk hW hS hI hTl, fun i hi => ?_⟩
    obtain ⟨h0, o, ho, hall⟩ := mem_ready.1 hi
    have hilt := (Array.getElem?_eq_some_iff.1 ho).1
    have hdl : ∀ j ∈ depsOf o, listed.getD j false = true := fun j hj => by
      obtain ⟨e, he, rfl⟩ := List.mem_map.1 hj
      obtain ⟨he1, he2⟩ := List.mem_filter.1 he
      exact hall e (by simpa using he1) he2
    have hdep : DepAll ops T a' w' (depsOf o) := by
      refine depAll_of _ fun j hj => ?_
      have hj' := back_spec hback ho _ hj
      exact hTl j _ (Array.getElem?_eq_getElem (by omega)) (hdl j hj)
    have hnl : listed.getD i false = false := by
      have hlt : i < listed.size := by omega
      simp [hlt] at h0 ⊢
      exact h0
    have hlist : listed.toList[i]? = some false := by
      have hlt : i < listed.size := by omega
      simp [hlt] at h0 ⊢
      exact h0
    have hleft : left (listed.setIfInBounds i true).toList ≤ fuel := by
      have := left_set _ _ hlist
      rw [Array.toList_setIfInBounds]
      omega
    have hmi : ∀ j ∈ marks ops i, j = i ∨ listed.getD j false = true := marks_listed (fun o' ho' => by have : o' = o := Option.some.inj (ho'.symm.trans ho); subst this; exact hdl) hdc
    have hal : allowedB ops Ws i k = true := by
      refine List.all_eq_true.2 fun j hj => ?_
      have hjl : j < Ws.length := List.mem_range.1 hj
      have hx := List.getElem?_eq_getElem hjl
      rw [hx]
      simp only
      split
      · rename_i hjk
        have hl1 := (hW j _ hx).2 hjk
        have hm : Ws[j] < ops.size := by simpa using List.all_eq_true.1 hWs _ (List.getElem_mem hjl)
        simp only [Bool.not_eq_true']
        rw [Bool.eq_false_iff]
        intro hc
        have hc : i ∈ marks ops Ws[j] := by simpa using hc
        rcases marks_listed (fun o' ho' => hdc _ o' ho' hl1) hdc i hc with h | h
        · rw [h] at hnl; rw [hnl] at hl1; cases hl1
        · rw [hnl] at h; cases h
      · rename_i hjk
        by_cases hc : Ws[j] ∈ marks ops i
        · rcases hmi _ hc with h | h
          · simp [h]
          · exact absurd ((hW j _ hx).1 h) hjk
        · simp [hc]
    have hup : ∀ j, listed.getD j false = true → (listed.setIfInBounds i true).getD j false = true := fun j hj => by
      by_cases hij : i = j
      · subst hij
        have hlt : i < listed.size := by omega
        simp [hlt]
      · rw [getD_set_ne false hij]; exact hj
    have hself : (listed.setIfInBounds i true).getD i false = true := by
      have hlt : i < listed.size := by omega
      simp [hlt]
    have next : ∀ (v : Value) (w'' : World), T i (res o v) w'' → I (if Ws.contains i then k + 1 else k) w'' → (∀ j v, T j v w' → T j v w'') → wpAny P .any ops Q fuel (listed.setIfInBounds i true) (a'.put o.dst v) w'' := by
      intro v w'' hTi hI' hst
      have hkk : (if Ws.contains i then k + 1 else k) ≤ Ws.length ∧ (∀ j x, Ws[j]? = some x → ((listed.setIfInBounds i true).getD x false = true ↔ j < (if Ws.contains i then k + 1 else k))) := by
        by_cases hc : i ∈ Ws
        · rw [if_pos (by simpa using hc)]
          obtain ⟨j0, hj0, hij0⟩ := List.getElem_of_mem hc
          have hx0 : Ws[j0]? = some i := by rw [List.getElem?_eq_getElem hj0, hij0]
          have hge : k ≤ j0 := by
            rcases Nat.lt_or_ge j0 k with h | h
            · have := (hW j0 i hx0).2 h; rw [hnl] at this; cases this
            · exact h
          have hle : j0 ≤ k := by
            cases j0 with
            | zero => omega
            | succ j1 =>
              obtain ⟨z, hz⟩ : ∃ z, Ws[j1]? = some z := ⟨_, List.getElem?_eq_getElem (by omega)⟩
              obtain ⟨h1, h2⟩ := ord_pair Ws hord j1 z i hz hx0
              rcases hmi z h2 with h | h
              · omega
              · have := (hW j1 z hz).1 h; omega
          obtain rfl : j0 = k := by omega
          refine ⟨by omega, fun j x hx => ?_⟩
          by_cases hxi : i = x
          · subst hxi
            have := ord_inj Ws hord hx hx0
            subst this
            exact ⟨fun _ => by omega, fun _ => hself⟩
          · rw [getD_set_ne false hxi, hW j x hx]
            have hne : j ≠ j0 := fun e => by subst e; rw [hx0] at hx; exact hxi (Option.some.inj hx)
            omega
        · rw [if_neg (by simpa using hc)]
          refine ⟨hk, fun j x hx => ?_⟩
          have hxi : i ≠ x := fun e => hc (by rw [e]; exact List.mem_of_getElem? hx)
          rw [getD_set_ne false hxi]
          exact hW j x hx
      refine ih _ _ _ _ (by simpa using hs) hleft (fun j oj hj hlj m hm => ?_) hkk.1 hkk.2 (hS.put ho v) hI' fun j oj hj hlj => ?_
      · by_cases hij : i = j
        · subst hij
          have : oj = o := Option.some.inj (hj.symm.trans ho)
          subst this
          exact hup _ (hdl m hm)
        · rw [getD_set_ne false hij] at hlj
          exact hup _ (hdc j oj hj hlj m hm)
      · by_cases hij : i = j
        · subst hij
          have : oj = o := Option.some.inj (hj.symm.trans ho)
          subst this
          have e : slotV ops (a'.put oj.dst v) i = res oj v := by
            unfold slotV res
            simp only [ho, Option.bind_some]
            cases hdd : oj.dst with
            | none => rfl
            | some d =>
              simp only []
              exact slot_put_same (by rw [hS.size]; exact in_spec hin ho hdd)
          rw [e]
          exact hTi
        · rw [getD_set_ne false hij] at hlj
          have e : slotV ops (a'.put o.dst v) j = slotV ops a' j := by
            unfold slotV
            simp only [hj, Option.bind_some]
            cases hdj : oj.dst with
            | none => rfl
            | some e =>
              simp only []
              cases hdd : o.dst with
              | none => rfl
              | some d => exact slot_put_ne (distinct_spec hd ho hj hij hdd hdj)
          rw [e]
          exact hst j _ (hTl j oj hj hlj)
    unfold wpOp
    simp only [ho]
    rcases obs i o ho k a' w' hk hal hS hI hdep with ⟨hw, hwp⟩ | ⟨hw, hu, hnw⟩
    · rw [if_pos hw]
      refine .inl (wp_noQ (Oper.wp_mono ?_ hwp))
      rintro a'' w'' ⟨v, rfl, hTi, hEx, hI'⟩
      exact next v w'' hTi hI' (fun j u hj => hT j u _ _ hj hEx)
    · rw [if_neg (by simp [hw])]
      refine next undef w' ?_ (by rw [hnw]; exact hI) (fun j u hj => hj)
      unfold res
      cases o.dst <;> exact hu
def ObSAll (P : Program) (ops : Array Oper) (Ws : List Nat) (a : Act) (I : Nat → World → Prop) (Ex : World → World → Prop) (T : Nat → Value → World → Prop) : List Oper → Nat → Prop
  | [], _ => True
  | o :: r, i => ObS P ops Ws a I Ex T i o ∧ ObSAll P ops Ws a I Ex T r (i + 1)
theorem obs_of_all {Ws : List Nat} {a : Act} {I : Nat → World → Prop} {Ex : World → World → Prop} {T : Nat → Value → World → Prop} : ∀ (l : List Oper) (k : Nat), ObSAll P ops Ws a I Ex T l k → ∀ (i : Nat) (o : Oper), l[i]? = some o → ObS P ops Ws a I Ex T (k + i) o
  | [], _, _, i, o, h => by simp at h
  | x :: l, k, h, 0, o, ho => by
    simp at ho
    subst ho
    exact h.1
  | x :: l, k, h, i + 1, o, ho => by
    have := obs_of_all l (k + 1) h.2 i o (by simpa using ho)
    rw [show k + (i + 1) = k + 1 + i by omega]
    exact this
theorem region_stage {Q : Exit → Act → World → Prop} {a : Act} {w : World} {id : Nat} (Ws : List Nat) (hm : P.follows .mixedOrders = true) (I : Nat → World → Prop) (Ex : World → World → Prop) (T : Nat → Value → World → Prop) (hd : distinctB ops = true) (hin : inB ops a.tmps.size = true) (hback : backB ops = true) (hord : ordB ops Ws = true) (hWs : (Ws.all fun x => decide (x < ops.size)) = true)
    (hT : ∀ i v w1 w2, T i v w1 → Ex w1 w2 → T i v w2) (hI : I 0 w.drew) (obs : ObSAll P ops Ws a I Ex T ops.toList 0)
    (hfin : ∀ (v : Nat → Value) w', I Ws.length w' → TAll T v w' ops.size 0 → Q .normal (putAll ops.toList 0 v a) w') : (Code.region id ops true).wp P Q a w := by
  refine wp_region_any hm ?_
  have hl : ∀ n, left (List.replicate n false) = n := by
    intro n
    induction n with
    | zero => rfl
    | succ n ih => simp [List.replicate_succ, left, ih]; omega
  have hrep : ∀ i, (Array.replicate ops.size false).getD i false = false := fun i => by
    rcases Nat.lt_or_ge i ops.size with h' | h' <;> simp [h']
  refine any_stage (Ws := Ws) hd hin hback hord hWs hT (fun i o ho => by have := obs_of_all _ 0 obs i o (by simpa using ho); rwa [Nat.zero_add] at this) ?_ ops.size _ a w.drew 0 (by simp) (by simp [hl]) (fun i o _ h => by rw [hrep i] at h; cases h) (Nat.zero_le _) (fun j x _ => ⟨fun h => (by rw [hrep x] at h; cases h), fun h => by omega⟩) ⟨rfl, rfl, fun _ _ => rfl⟩ hI ?_
  · intro a' w' hS hI' hTs
    have := hfin (slotV ops a') w' hI' (tall_of _ _ fun j _ hj => hTs j _ (Array.getElem?_eq_getElem (by omega)))
    rwa [hS.putAll hd hin] at this
  · intro i o ho h
    rw [hrep i] at h
    cases h
/-- what each operation tells: a value -/
def valsT (Vs : List Value) (i : Nat) (v : Value) (_ : World) : Prop := v = Vs.getD i undef
/-- at which stage an operation comes -/
theorem stage_is {Ws : List Nat} {i k : Nat} (c : Nat) (h : ((List.range (Ws.length + 1)).all fun m => !(allowedB ops Ws i m) || m == c) = true) (hk : allowedB ops Ws i k = true) (hle : k ≤ Ws.length) : k = c := by
  have := List.all_eq_true.1 h k (List.mem_range.2 (by omega))
  rw [hk] at this
  simpa using this
section
variable {Ws : List Nat} {a : Act} {I : Nat → World → Prop} {Ex : World → World → Prop} {T : Nat → Value → World → Prop} {i : Nat} {o : Oper}
/-- a value, the world as it is, whatever the stage -/
theorem obs_val (hEx : ∀ w, Ex w w) (hnw : Ws.contains i = false) (h : ∀ k a' w', k ≤ Ws.length → allowedB ops Ws i k = true → Same ops a a' → I k w' → DepAll ops T a' w' (depsOf o) → Region.wanted o (yielded ops a'.tmps) = true ∧ ∃ v, (execOp a'.eval o).run P w' = .ok (.value v) w' ∧ T i (res o v) w') : ObS P ops Ws a I Ex T i o := by
  intro k a' w' hk hal hS hI hD
  obtain ⟨hw, v, hrun, hTv⟩ := h k a' w' hk hal hS hI hD
  refine .inl ⟨hw, ?_⟩
  unfold Oper.wp
  rw [hrun]
  exact ⟨v, rfl, hTv, hEx w', by rw [hnw]; exact hI⟩
/-- a writer -/
theorem obs_skip (hyw : Ws.contains i = true) (h : ∀ k a' w', k ≤ Ws.length → allowedB ops Ws i k = true → Same ops a a' → I k w' → DepAll ops T a' w' (depsOf o) → Region.wanted o (yielded ops a'.tmps) = true ∧ ∃ w'', (execOp a'.eval o).run P w' = .ok .skip w'' ∧ T i undef w'' ∧ Ex w' w'' ∧ I (k + 1) w'') : ObS P ops Ws a I Ex T i o := by
  intro k a' w' hk hal hS hI hD
  obtain ⟨hw, w'', hrun, hTv, hE, hI'⟩ := h k a' w' hk hal hS hI hD
  refine .inl ⟨hw, ?_⟩
  unfold Oper.wp
  rw [hrun]
  refine ⟨undef, rfl, ?_, hE, by rw [hyw]; exact hI'⟩
  unfold res
  cases o.dst <;> exact hTv
end
end
end Go.Proofs.Ytekodfpjoehooaa.Reg
