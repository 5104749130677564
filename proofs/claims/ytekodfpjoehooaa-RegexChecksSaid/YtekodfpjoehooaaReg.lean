/- A region that draws its order: each operation is met once, whatever the order, if what it tells stays true while the others run. Over any program. -/
import Derived.Orders
import Derived.Tactics
import Derived.WalkKit
namespace Go.Proofs.Ytekodfpjoehooaa.Reg
open Go
section
variable {P : Program} {ops : Array Oper}
/-- what stands in an operation's slot -/
def slotV (ops : Array Oper) (a : Act) (k : Nat) : Value :=
  match (ops[k]?).bind (·.dst) with
  | some d => a.tmps.getD d undef
  | none => undef
def DepAll (ops : Array Oper) (T : Nat → Value → World → Prop) (a : Act) (w : World) : List Nat → Prop
  | [] => True
  | k :: ks => T k (slotV ops a k) w ∧ DepAll ops T a w ks
def depsOf (o : Oper) : List Nat := (o.after.toList.filter (Region.binds .any ·)).map (·.on)
/-- a frame that differs in the region's own slots alone -/
structure Same (ops : Array Oper) (a a' : Act) : Prop where
  defers : a'.defers = a.defers
  size : a'.tmps.size = a.tmps.size
  slot : ∀ t, (∀ (i : Nat) (o : Oper), ops[i]? = some o → o.dst ≠ some t) → a'.tmps.getD t undef = a.tmps.getD t undef
def res (o : Oper) (v : Value) : Value := match o.dst with
  | some _ => v
  | none => undef
/-- what an operation owes: wherever what it hangs on holds, it tells what is said of it, and what others have told stays -/
def Ob (P : Program) (ops : Array Oper) (a : Act) (I : World → Prop) (Ex : World → World → Prop) (T : Nat → Value → World → Prop) (i : Nat) (o : Oper) : Prop :=
  ∀ a' w', Same ops a a' → I w' → DepAll ops T a' w' (depsOf o) →
    (Region.wanted o (yielded ops a'.tmps) = true ∧ o.wp P a' w' (fun a'' w'' => ∃ v, a'' = a'.put o.dst v ∧ T i (res o v) w'' ∧ Ex w' w'' ∧ I w'') (fun _ _ _ => False)) ∨
    (Region.wanted o (yielded ops a'.tmps) = false ∧ T i undef w')
def distinctB (ops : Array Oper) : Bool := (List.range ops.size).all fun i => (List.range ops.size).all fun j =>
  decide (i = j) || (match (ops[i]?).bind (·.dst), (ops[j]?).bind (·.dst) with
    | some d, some e => d != e
    | _, _ => true)
def inB (ops : Array Oper) (n : Nat) : Bool := ops.toList.all fun o => match o.dst with
  | some d => decide (d < n)
  | none => true
def backB (ops : Array Oper) : Bool := (List.range ops.size).all fun i => match ops[i]? with
  | some o => (depsOf o).all fun k => decide (k < i)
  | none => true
theorem letsOut_false {Q : Exit → Act → World → Prop} (h : LetsOut (fun _ _ _ => False)) : LetsOut Q := let ⟨_, _, h⟩ := h; h.elim
theorem wp_noQ {o : Oper} {a : Act} {w : World} {K : Act → World → Prop} {Q : Exit → Act → World → Prop} (h : o.wp P a w K (fun _ _ _ => False)) : o.wp P a w K Q := by
  unfold Oper.wp at *
  generalize (execOp a.eval o).run P w = r at *
  cases r with
  | ok n w' =>
    cases n <;> simp only [Oper.upon] at h ⊢ <;> first
      | exact h
      | exact Calls.mono h (fun e w'' he => by
          cases e with
          | returned v => exact he
          | panicked c => exact he.elim
          | outgrown => exact letsOut_false he)
  | halt x w' => cases x <;> simp only [Oper.upon] at h
/-- how many are still to come -/
def left : List Bool → Nat
  | [] => 0
  | b :: l => (if b then 0 else 1) + left l
theorem left_set : ∀ (l : List Bool) (i : Nat), l[i]? = some false → left (l.set i true) + 1 = left l
  | [], i, h => by simp at h
  | b :: l, 0, h => by
    simp only [List.getElem?_cons_zero, Option.some.injEq] at h
    subst h
    simp [left, Nat.add_comm]
  | b :: l, i + 1, h => by
    simp only [List.getElem?_cons_succ] at h
    have := left_set l i h
    simp only [List.set_cons_succ, left]
    omega
theorem left_zero : ∀ (l : List Bool), left l = 0 → ∀ i, i < l.length → l[i]? = some true
  | [], _, i, h => by simp at h
  | b :: l, h0, 0, _ => by
    cases b with
    | true => rfl
    | false => simp [left] at h0
  | b :: l, h0, i + 1, h => by
    simp only [left] at h0
    simp only [List.getElem?_cons_succ]
    exact left_zero l (by omega) i (by simpa using h)
theorem slot_put_ne {a : Act} {d e : Tmp} {v : Value} (h : d ≠ e) : (a.put (some d) v).tmps.getD e undef = a.tmps.getD e undef := by
  simp [Act.put, Array.getElem?_setIfInBounds_ne h]
theorem slot_put_same {a : Act} {d : Tmp} {v : Value} (h : d < a.tmps.size) : (a.put (some d) v).tmps.getD d undef = v := by
  simp [Act.put, h]
theorem put_size (a : Act) (d : Option Tmp) (v : Value) : (a.put d v).tmps.size = a.tmps.size := by cases d <;> simp [Act.put]
theorem put_defers (a : Act) (d : Option Tmp) (v : Value) : (a.put d v).defers = a.defers := by cases d <;> rfl
theorem Same.put {a a' : Act} (h : Same ops a a') {i : Nat} {o : Oper} (ho : ops[i]? = some o) (v : Value) : Same ops a (a'.put o.dst v) := by
  refine ⟨(put_defers _ _ _).trans h.defers, (put_size _ _ _).trans h.size, fun t ht => ?_⟩
  cases hd : o.dst with
  | none => exact h.slot t ht
  | some d => rw [slot_put_ne (fun e => ht i o ho (by rw [hd, e]))]; exact h.slot t ht
theorem distinct_spec (h : distinctB ops = true) {i j : Nat} {oi oj : Oper} (hi : ops[i]? = some oi) (hj : ops[j]? = some oj) (hij : i ≠ j) {d e : Tmp} (hd : oi.dst = some d) (he : oj.dst = some e) : d ≠ e := by
  have h1 := List.all_eq_true.1 h i (List.mem_range.2 (Array.getElem?_eq_some_iff.1 hi).1)
  have h2 := List.all_eq_true.1 h1 j (List.mem_range.2 (Array.getElem?_eq_some_iff.1 hj).1)
  simp [hi, hj, hd, he, hij] at h2
  exact h2
theorem in_spec {n : Nat} (h : inB ops n = true) {i : Nat} {o : Oper} (ho : ops[i]? = some o) {d : Tmp} (hd : o.dst = some d) : d < n := by
  have hm : o ∈ ops.toList := by
    obtain ⟨h1, h2⟩ := Array.getElem?_eq_some_iff.1 ho
    rw [← h2]; simp
  have := List.all_eq_true.1 h o hm
  simpa [hd] using this
theorem back_spec (h : backB ops = true) {i : Nat} {o : Oper} (ho : ops[i]? = some o) : ∀ k ∈ depsOf o, k < i := by
  have h1 := List.all_eq_true.1 h i (List.mem_range.2 (Array.getElem?_eq_some_iff.1 ho).1)
  simp only [ho] at h1
  intro k hk
  have := List.all_eq_true.1 h1 k hk
  simpa using this
theorem depAll_of {T : Nat → Value → World → Prop} {a : Act} {w : World} : ∀ (l : List Nat), (∀ k ∈ l, T k (slotV ops a k) w) → DepAll ops T a w l
  | [], _ => trivial
  | k :: ks, h => ⟨h k (by simp), depAll_of ks (fun j hj => h j (by simp [hj]))⟩
/-- the region, in whatever order -/
theorem any_ob {Q : Exit → Act → World → Prop} {a : Act} {I : World → Prop} {Ex : World → World → Prop} {T : Nat → Value → World → Prop} (hd : distinctB ops = true) (hin : inB ops a.tmps.size = true) (hback : backB ops = true)
    (hT : ∀ i v w1 w2, T i v w1 → Ex w1 w2 → T i v w2) (obs : ∀ (i : Nat) (o : Oper), ops[i]? = some o → Ob P ops a I Ex T i o)
    (hfin : ∀ a' w', Same ops a a' → I w' → (∀ (i : Nat) (o : Oper), ops[i]? = some o → T i (slotV ops a' i) w') → Q .normal a' w') :
    ∀ (fuel : Nat) (listed : Array Bool) (a' : Act) (w' : World), listed.size = ops.size → left listed.toList ≤ fuel → Same ops a a' → I w' →
      (∀ (i : Nat) (o : Oper), ops[i]? = some o → listed.getD i false = true → T i (slotV ops a' i) w') → wpAny P .any ops Q fuel listed a' w' := by
  have done : ∀ (listed : Array Bool) (a' : Act) (w' : World), listed.size = ops.size → Same ops a a' → I w' →
      (∀ (i : Nat) (o : Oper), ops[i]? = some o → listed.getD i false = true → T i (slotV ops a' i) w') → Region.ready .any ops listed = [] → Q .normal a' w' := by
    intro listed a' w' hs hS hI hTl hr
    have all : ∀ i, i < ops.size → listed.getD i false = true := by
      intro i
      induction i using Nat.strongRecOn with
      | _ i ih =>
        intro hi
        cases hl : listed.getD i false with
        | true => rfl
        | false =>
          exfalso
          have hmem : i ∈ Region.ready .any ops listed := by
            refine mem_ready.2 ⟨?_, ops[i], Array.getElem?_eq_getElem hi, fun e he hb => ?_⟩
            · have hlt : i < listed.size := by omega
              simp [hlt] at hl ⊢
              exact hl
            · have hk : e.on ∈ depsOf ops[i] := List.mem_map.2 ⟨e, List.mem_filter.2 ⟨by simpa using he, hb⟩, rfl⟩
              have := back_spec hback (Array.getElem?_eq_getElem hi) _ hk
              exact ih _ this (by omega)
          rw [hr] at hmem
          cases hmem
    exact hfin a' w' hS hI fun i o ho => hTl i o ho (all i (Array.getElem?_eq_some_iff.1 ho).1)
  intro fuel
  induction fuel with
  | zero =>
    intro listed a' w' hs hl hS hI hTl
    have hr : Region.ready .any ops listed = [] := by
      cases hr : Region.ready .any ops listed with
      | nil => rfl
      | cons i is =>
        exfalso
        have hm : i ∈ Region.ready .any ops listed := by rw [hr]; simp
        obtain ⟨h0, o, ho, _⟩ := mem_ready.1 hm
        have hi := (Array.getElem?_eq_some_iff.1 ho).1
        have := left_zero listed.toList (by omega) i (by simpa using (by omega : i < listed.size))
        have hlt : i < listed.size := by omega
        simp [hlt] at h0 this
        rw [h0] at this
        cases this
    exact ⟨hr, done listed a' w' hs hS hI hTl hr⟩
  | succ fuel ih =>
    intro listed a' w' hs hl hS hI hTl
    refine ⟨done listed a' w' hs hS hI hTl, fun i hi => ?_⟩
    obtain ⟨h0, o, ho, hall⟩ := mem_ready.1 hi
    have hilt := (Array.getElem?_eq_some_iff.1 ho).1
    have hdep : DepAll ops T a' w' (depsOf o) := by
      refine depAll_of _ fun k hk => ?_
      obtain ⟨e, he, rfl⟩ := List.mem_map.1 hk
      obtain ⟨he1, he2⟩ := List.mem_filter.1 he
      have hk' := back_spec hback ho _ hk
      exact hTl e.on _ (Array.getElem?_eq_getElem (by omega)) (hall e (by simpa using he1) he2)
    have hlist : listed.toList[i]? = some false := by
      have hlt : i < listed.size := by omega
      simp [hlt] at h0 ⊢
      exact h0
    have hleft : left (listed.setIfInBounds i true).toList ≤ fuel := by
      have := left_set _ _ hlist
      rw [Array.toList_setIfInBounds]
      omega
    have next : ∀ (v : Value) (w'' : World), T i (res o v) w'' → I w'' → (∀ j v, T j v w' → T j v w'') → wpAny P .any ops Q fuel (listed.setIfInBounds i true) (a'.put o.dst v) w'' := by
      intro v w'' hTi hI' hst
      refine ih _ _ _ (by simpa using hs) hleft (hS.put ho v) hI' fun j oj hj hlj => ?_
      by_cases hij : i = j
      · subst hij
        have : oj = o := Option.some.inj (hj.symm.trans ho)
        subst this
        have e : slotV ops (a'.put oj.dst v) i = res oj v := by
          unfold slotV res
          simp only [ho, Option.bind_some]
          cases hdd : oj.dst with
          | none => rfl
          | some d =>
            simp only []
            exact slot_put_same (by rw [hS.size]; exact in_spec hin ho hdd)
        rw [e]
        exact hTi
      · rw [getD_set_ne false hij] at hlj
        have e : slotV ops (a'.put o.dst v) j = slotV ops a' j := by
          unfold slotV
          simp only [hj, Option.bind_some]
          cases hdj : oj.dst with
          | none => rfl
          | some e =>
            simp only []
            cases hdd : o.dst with
            | none => rfl
            | some d => exact slot_put_ne (distinct_spec hd ho hj hij hdd hdj)
        rw [e]
        exact hst j _ (hTl j oj hj hlj)
    unfold wpOp
    simp only [ho]
    rcases obs i o ho a' w' hS hI hdep with ⟨hw, hwp⟩ | ⟨hw, hu⟩
    · rw [if_pos hw]
      refine .inl (wp_noQ (Oper.wp_mono ?_ hwp))
      rintro a'' w'' ⟨v, rfl, hTi, hEx, hI'⟩
      exact next v w'' hTi hI' (fun j u hj => hT j u _ _ hj hEx)
    · rw [if_neg (by simp [hw])]
      refine next undef w' ?_ hI (fun j u hj => hj)
      unfold res
      cases o.dst <;> exact hu
theorem region_ob {Q : Exit → Act → World → Prop} {a : Act} {w : World} {id : Nat} (hm : P.follows .mixedOrders = true) (I : World → Prop) (Ex : World → World → Prop) (T : Nat → Value → World → Prop) (hd : distinctB ops = true) (hin : inB ops a.tmps.size = true) (hback : backB ops = true)
    (hT : ∀ i v w1 w2, T i v w1 → Ex w1 w2 → T i v w2) (hI : I w.drew) (obs : ∀ (i : Nat) (o : Oper), ops[i]? = some o → Ob P ops a I Ex T i o)
    (hfin : ∀ a' w', Same ops a a' → I w' → (∀ (i : Nat) (o : Oper), ops[i]? = some o → T i (slotV ops a' i) w') → Q .normal a' w') : (Code.region id ops true).wp P Q a w := by
  refine wp_region_any hm ?_
  have hl : ∀ n, left (List.replicate n false) = n := by
    intro n
    induction n with
    | zero => rfl
    | succ n ih => simp [List.replicate_succ, left, ih]; omega
  refine any_ob hd hin hback hT obs hfin ops.size _ a w.drew (by simp) (by simp [hl]) ⟨rfl, rfl, fun _ _ => rfl⟩ hI ?_
  intro i o ho h
  have : (Array.replicate ops.size false).getD i false = false := by
    rcases Nat.lt_or_ge i ops.size with h' | h' <;> simp [h']
  rw [this] at h
  cases h
/-- the frame with all the slots written -/
def putAll : List Oper → Nat → (Nat → Value) → Act → Act
  | [], _, _, a => a
  | o :: r, i, v, a => putAll r (i + 1) v (a.put o.dst (v i))
theorem act_ext {a b : Act} (hd : a.defers = b.defers) (hs : a.tmps.size = b.tmps.size) (h : ∀ t, a.tmps.getD t undef = b.tmps.getD t undef) : a = b := by
  cases a with
  | mk ta da =>
    cases b with
    | mk tb db =>
      simp only at hd hs h
      subst hd
      congr 1
      refine Array.ext hs fun i h1 h2 => ?_
      have := h i
      simpa [h1, h2] using this
def notB (ops : Array Oper) (t : Tmp) : Bool := ops.toList.all fun o => o.dst != some t
theorem Same.at {a a' : Act} (h : Same ops a a') {t : Tmp} (hn : notB ops t = true) : a'.tmps.getD t undef = a.tmps.getD t undef := by
  refine h.slot t fun i o ho => ?_
  have hm : o ∈ ops.toList := by
    obtain ⟨h1, h2⟩ := Array.getElem?_eq_some_iff.1 ho
    rw [← h2]; simp
  have := List.all_eq_true.1 hn o hm
  simpa using this
theorem putAll_eq : ∀ (l : List Oper) (k : Nat) (v : Nat → Value) (a a' : Act), a'.defers = a.defers → a'.tmps.size = a.tmps.size →
    (∀ (i j : Nat) (x y : Oper) (d e : Tmp), l[i]? = some x → l[j]? = some y → i ≠ j → x.dst = some d → y.dst = some e → d ≠ e) →
    (∀ t, (∀ (i : Nat) (o : Oper), l[i]? = some o → o.dst ≠ some t) → a'.tmps.getD t undef = a.tmps.getD t undef) →
    (∀ (i : Nat) (o : Oper) (d : Tmp), l[i]? = some o → o.dst = some d → d < a.tmps.size ∧ a'.tmps.getD d undef = v (k + i)) → putAll l k v a = a'
  | [], k, v, a, a', hd, hs, _, h, _ => act_ext hd.symm hs.symm fun t => (h t (by simp)).symm
  | o :: l, k, v, a, a', hd, hs, hne, h, hv => by
    refine putAll_eq l (k + 1) v _ a' (by rw [put_defers]; exact hd) (by rw [put_size]; exact hs) (fun i j x y d e hi hj hij => hne (i + 1) (j + 1) x y d e (by simpa using hi) (by simpa using hj) (by omega)) ?_ ?_
    · intro t ht
      cases hdd : o.dst with
      | none =>
        refine h t fun i x hx => ?_
        cases i with
        | zero => simp at hx; subst hx; rw [hdd]; simp
        | succ i => exact ht i x (by simpa using hx)
      | some d =>
        obtain ⟨h1, h2⟩ := hv 0 o d (by simp) hdd
        by_cases htd : d = t
        · subst htd
          rw [slot_put_same h1]
          simpa using h2
        · rw [slot_put_ne htd]
          refine h t fun i x hx => ?_
          cases i with
          | zero => simp at hx; subst hx; rw [hdd]; simpa using htd
          | succ i => exact ht i x (by simpa using hx)
    · intro i x d hx hd'
      obtain ⟨h1, h2⟩ := hv (i + 1) x d (by simpa using hx) hd'
      exact ⟨by rw [put_size]; exact h1, by rw [h2]; congr 1; omega⟩
theorem Same.putAll {a a' : Act} (h : Same ops a a') (hd : distinctB ops = true) (hin : inB ops a.tmps.size = true) : putAll ops.toList 0 (slotV ops a') a = a' := by
  refine putAll_eq _ _ _ _ _ h.defers h.size ?_ ?_ ?_
  · intro i j x y d e hi hj hij hx hy
    exact distinct_spec hd (by simpa using hi) (by simpa using hj) hij hx hy
  · intro t ht
    exact h.slot t fun i o ho => ht i o (by simpa using ho)
  · intro i o d hi hod
    have hi' : ops[i]? = some o := by simpa using hi
    refine ⟨in_spec hin hi' hod, ?_⟩
    unfold slotV
    simp only [Nat.zero_add, hi', Option.bind_some, hod]
/-- what is told of each operation, of a list -/
def TAll (T : Nat → Value → World → Prop) (v : Nat → Value) (w : World) : Nat → Nat → Prop
  | 0, _ => True
  | n + 1, i => T i (v i) w ∧ TAll T v w n (i + 1)
theorem tall_of {T : Nat → Value → World → Prop} {v : Nat → Value} {w : World} : ∀ (n i : Nat), (∀ j, i ≤ j → j < i + n → T j (v j) w) → TAll T v w n i
  | 0, _, _ => trivial
  | n + 1, i, h => ⟨h i (Nat.le_refl _) (by omega), tall_of n (i + 1) fun j h1 h2 => h j (by omega) (by omega)⟩
/-- each operation's debt, of a list -/
def ObAll (P : Program) (ops : Array Oper) (a : Act) (I : World → Prop) (Ex : World → World → Prop) (T : Nat → Value → World → Prop) : List Oper → Nat → Prop
  | [], _ => True
  | o :: r, i => Ob P ops a I Ex T i o ∧ ObAll P ops a I Ex T r (i + 1)
theorem ob_of_all {a : Act} {I : World → Prop} {Ex : World → World → Prop} {T : Nat → Value → World → Prop} : ∀ (l : List Oper) (k : Nat), ObAll P ops a I Ex T l k → ∀ (i : Nat) (o : Oper), l[i]? = some o → Ob P ops a I Ex T (k + i) o
  | [], _, _, i, o, h => by simp at h
  | x :: l, k, h, 0, o, ho => by
    simp at ho
    subst ho
    exact h.1
  | x :: l, k, h, i + 1, o, ho => by
    have := ob_of_all l (k + 1) h.2 i o (by simpa using ho)
    rw [show k + (i + 1) = k + 1 + i by omega]
    exact this
theorem region_all {Q : Exit → Act → World → Prop} {a : Act} {w : World} {id : Nat} (hm : P.follows .mixedOrders = true) (I : World → Prop) (Ex : World → World → Prop) (T : Nat → Value → World → Prop) (hd : distinctB ops = true) (hin : inB ops a.tmps.size = true) (hback : backB ops = true)
    (hT : ∀ i v w1 w2, T i v w1 → Ex w1 w2 → T i v w2) (hI : I w.drew) (obs : ObAll P ops a I Ex T ops.toList 0)
    (hfin : ∀ (v : Nat → Value) w', I w' → TAll T v w' ops.size 0 → Q .normal (putAll ops.toList 0 v a) w') : (Code.region id ops true).wp P Q a w := by
  refine region_ob hm I Ex T hd hin hback hT hI (fun i o ho => by have := ob_of_all _ 0 obs i o (by simpa using ho); rwa [Nat.zero_add] at this) ?_
  intro a' w' hS hI' hTs
  have := hfin (slotV ops a') w' hI' (tall_of _ _ fun j _ hj => hTs j _ (Array.getElem?_eq_getElem (by omega)))
  rwa [hS.putAll hd hin] at this
theorem yielded_of {a : Act} {j : Nat} {b : Bool} (h : slotV ops a j = .bool b) : yielded ops a.tmps j = some b := by
  unfold slotV at h
  unfold yielded
  cases hd : (ops[j]?).bind (·.dst) with
  | none => rw [hd] at h; simp [undef] at h
  | some d =>
    rw [hd] at h
    simp only [Option.bind_some] at h ⊢
    cases ht : a.tmps[d]? with
    | none => simp [ht, undef] at h
    | some v => simp [ht] at h; subst h; rfl
/-- what an operation waits for, by way of others too -/
def marks (ops : Array Oper) (n : Nat) : List Nat := (List.range n).reverse.foldl (fun acc j => if acc.any (fun i => match ops[i]? with
  | some o => (depsOf o).contains j
  | none => false) then j :: acc else acc) [n]
theorem marks_listed {listed : Array Bool} {n : Nat} (hn : ∀ (o : Oper), ops[n]? = some o → ∀ k ∈ depsOf o, listed.getD k false = true)
    (hdc : ∀ (i : Nat) (o : Oper), ops[i]? = some o → listed.getD i false = true → ∀ k ∈ depsOf o, listed.getD k false = true) : ∀ j ∈ marks ops n, j = n ∨ listed.getD j false = true := by
  have h : ∀ (l acc : List Nat), (∀ j ∈ acc, j = n ∨ listed.getD j false = true) → ∀ j ∈ l.foldl (fun acc j => if acc.any (fun i => match ops[i]? with
      | some o => (depsOf o).contains j
      | none => false) then j :: acc else acc) acc, j = n ∨ listed.getD j false = true := by
    intro l
    induction l with
    | nil => intro acc h; exact h
    | cons x l ih =>
      intro acc h
      rw [List.foldl_cons]
      refine ih _ ?_
      split
      · rename_i hx
        intro j hj
        rcases List.mem_cons.1 hj with rfl | hj
        · obtain ⟨i, hi, hc⟩ := List.any_eq_true.1 hx
          cases ho : ops[i]? with
          | none => rw [ho] at hc; simp at hc
          | some o =>
            rw [ho] at hc
            have hm : j ∈ depsOf o := by simpa using hc
            rcases h i hi with rfl | hl
            · exact .inr (hn o ho j hm)
            · exact .inr (hdc i o ho hl j hm)
        · exact h j hj
      · exact h
  exact h _ [n] (fun j hj => .inl (by simpa using hj))
/-- does the last operation wait for all others? -/
def tailB (ops : Array Oper) (n : Nat) : Bool := decide (ops.size = n + 1) && (match ops[n]? with
  | some o => o.guard.isNone && (List.range n).all fun i => (marks ops n).contains i
  | none => false)
/-- the region, in whatever order, but for its last operation, that comes last -/
theorem any_tail {Q : Exit → Act → World → Prop} {a : Act} {I : World → Prop} {Ex : World → World → Prop} {T : Nat → Value → World → Prop} {n : Nat} (hd : distinctB ops = true) (hin : inB ops a.tmps.size = true) (hback : backB ops = true) (htail : tailB ops n = true)
    (hT : ∀ i v w1 w2, T i v w1 → Ex w1 w2 → T i v w2) (obs : ∀ (i : Nat) (o : Oper), i < n → ops[i]? = some o → Ob P ops a I Ex T i o)
    (hfin : ∀ a' w', Same ops a a' → (∀ o d, ops[n]? = some o → o.dst = some d → a'.tmps.getD d undef = a.tmps.getD d undef) → I w' → (∀ (i : Nat), i < n → T i (slotV ops a' i) w') → ∀ o, ops[n]? = some o → o.wp P a' w' (fun a'' w'' => Q .normal a'' w'') Q ∨ (o.asks P a' w' ∧ LetsOut Q)) :
    ∀ (fuel : Nat) (listed : Array Bool) (a' : Act) (w' : World), listed.size = ops.size → left listed.toList ≤ fuel → listed.getD n false = false → (∀ (i : Nat) (o : Oper), ops[i]? = some o → listed.getD i false = true → ∀ k ∈ depsOf o, listed.getD k false = true) → Same ops a a' → (∀ o d, ops[n]? = some o → o.dst = some d → a'.tmps.getD d undef = a.tmps.getD d undef) → I w' →
      (∀ (i : Nat) (o : Oper), ops[i]? = some o → listed.getD i false = true → T i (slotV ops a' i) w') → wpAny P .any ops Q fuel listed a' w' := by
  simp only [tailB, Bool.and_eq_true, decide_eq_true_eq] at htail
  obtain ⟨hsz, htl⟩ := htail
  have hnlt : n < ops.size := by omega
  rw [Array.getElem?_eq_getElem hnlt] at htl
  simp only [Bool.and_eq_true] at htl
  obtain ⟨hguard, hwait⟩ := htl
  have hg : ops[n].guard = none := by simpa using hguard
  have hw : ∀ i, i < n → i ∈ marks ops n := fun i hi => by
    have := List.all_eq_true.1 hwait i (List.mem_range.2 hi)
    simpa using this
  have all : ∀ (listed : Array Bool), listed.size = ops.size → Region.ready .any ops listed = [] → ∀ i, i < ops.size → listed.getD i false = true := by
    intro listed hs hr i
    induction i using Nat.strongRecOn with
    | _ i ih =>
      intro hi
      cases hl : listed.getD i false with
      | true => rfl
      | false =>
        exfalso
        have hmem : i ∈ Region.ready .any ops listed := by
          refine mem_ready.2 ⟨?_, ops[i], Array.getElem?_eq_getElem hi, fun e he hb => ?_⟩
          · have hlt : i < listed.size := by omega
            simp [hlt] at hl ⊢
            exact hl
          · have hk : e.on ∈ depsOf ops[i] := List.mem_map.2 ⟨e, List.mem_filter.2 ⟨by simpa using he, hb⟩, rfl⟩
            have := back_spec hback (Array.getElem?_eq_getElem hi) _ hk
            exact ih _ this (by omega)
        rw [hr] at hmem
        cases hmem
  intro fuel
  induction fuel with
  | zero =>
    intro listed a' w' hs hl hn hdc hS hSd hI hTl
    exfalso
    have := left_zero listed.toList (by omega) n (by simpa using (by omega : n < listed.size))
    have hlt : n < listed.size := by omega
    simp [hlt] at hn this
    rw [hn] at this
    cases this
  | succ fuel ih =>
    intro listed a' w' hs hl hn hdc hS hSd hI hTl
    refine ⟨fun hr => (by have := all listed hs hr n hnlt; rw [hn] at this; cases this), fun i hi => ?_⟩
    obtain ⟨h0, o, ho, hall⟩ := mem_ready.1 hi
    have hilt := (Array.getElem?_eq_some_iff.1 ho).1
    by_cases hin' : i = n
    · subst hin'
      have hon : o = ops[i] := by rw [Array.getElem?_eq_getElem hnlt] at ho; exact (Option.some.inj ho).symm
      subst hon
      have hdep0 : ∀ (o : Oper), ops[i]? = some o → ∀ k ∈ depsOf o, listed.getD k false = true := fun o' ho' k hk => by
        have : o' = ops[i] := Option.some.inj (ho'.symm.trans ho)
        subst this
        obtain ⟨e, he, hj'⟩ := List.mem_map.1 hk
        obtain ⟨he1, he2⟩ := List.mem_filter.1 he
        have := hall e (by simpa using he1) he2
        rw [hj'] at this
        exact this
      have hlist : ∀ j, j < i → listed.getD j false = true := fun j hj => by
        rcases marks_listed hdep0 hdc j (hw j hj) with h | h
        · omega
        · exact h
      have hready : Region.ready .any ops (listed.setIfInBounds i true) = [] := by
        cases hr : Region.ready .any ops (listed.setIfInBounds i true) with
        | nil => rfl
        | cons k ks =>
          exfalso
          have hm : k ∈ Region.ready .any ops (listed.setIfInBounds i true) := by rw [hr]; simp
          obtain ⟨hk0, ok, hok, _⟩ := mem_ready.1 hm
          have hklt := (Array.getElem?_eq_some_iff.1 hok).1
          by_cases hki : i = k
          · subst hki
            have hlt : i < listed.size := by omega
            simp [hlt] at hk0
          · rw [getD_set_ne true hki] at hk0
            have := hlist k (by omega)
            have hlt : k < listed.size := by omega
            simp [hlt] at this hk0
            rw [this] at hk0
            cases hk0
      have hwp := hfin a' w' hS hSd hI (fun j hj => hTl j _ (Array.getElem?_eq_getElem (by omega)) (hlist j hj)) _ ho
      unfold wpOp
      simp only [ho]
      rw [if_pos (by simp [Region.wanted, hg])]
      refine hwp.imp (Oper.wp_mono ?_) id
      intro a'' w'' hq
      cases fuel with
      | zero => exact ⟨hready, hq⟩
      | succ f => exact ⟨fun _ => hq, fun j hj => by rw [hready] at hj; cases hj⟩
    · have hdep : DepAll ops T a' w' (depsOf o) := by
        refine depAll_of _ fun k hk => ?_
        obtain ⟨e, he, rfl⟩ := List.mem_map.1 hk
        obtain ⟨he1, he2⟩ := List.mem_filter.1 he
        have hk' := back_spec hback ho _ hk
        exact hTl e.on _ (Array.getElem?_eq_getElem (by omega)) (hall e (by simpa using he1) he2)
      have hlist : listed.toList[i]? = some false := by
        have hlt : i < listed.size := by omega
        simp [hlt] at h0 ⊢
        exact h0
      have hleft : left (listed.setIfInBounds i true).toList ≤ fuel := by
        have := left_set _ _ hlist
        rw [Array.toList_setIfInBounds]
        omega
      have next : ∀ (v : Value) (w'' : World), T i (res o v) w'' → I w'' → (∀ j v, T j v w' → T j v w'') → wpAny P .any ops Q fuel (listed.setIfInBounds i true) (a'.put o.dst v) w'' := by
        intro v w'' hTi hI' hst
        have hup : ∀ k, listed.getD k false = true → (listed.setIfInBounds i true).getD k false = true := fun k hk => by
          by_cases hik : i = k
          · subst hik
            have hlt : i < listed.size := by omega
            simp [hlt]
          · rw [getD_set_ne false hik]; exact hk
        refine ih _ _ _ (by simpa using hs) hleft (by rw [getD_set_ne false hin']; exact hn) (fun j oj hj hlj k hk => ?_) (hS.put ho v) (fun on d hon hd' => ?_) hI' fun j oj hj hlj => ?_
        · by_cases hij : i = j
          · subst hij
            have : oj = o := Option.some.inj (hj.symm.trans ho)
            subst this
            obtain ⟨e, he, rfl⟩ := List.mem_map.1 hk
            obtain ⟨he1, he2⟩ := List.mem_filter.1 he
            exact hup _ (hall e (by simpa using he1) he2)
          · rw [getD_set_ne false hij] at hlj
            exact hup _ (hdc j oj hj hlj k hk)
        · cases hdd : o.dst with
          | none => exact hSd on d hon hd'
          | some e => rw [slot_put_ne (distinct_spec hd ho hon hin' hdd hd')]; exact hSd on d hon hd'
        · by_cases hij : i = j
          · subst hij
            have : oj = o := Option.some.inj (hj.symm.trans ho)
            subst this
            have e : slotV ops (a'.put oj.dst v) i = res oj v := by
              unfold slotV res
              simp only [ho, Option.bind_some]
              cases hdd : oj.dst with
              | none => rfl
              | some d =>
                simp only []
                exact slot_put_same (by rw [hS.size]; exact in_spec hin ho hdd)
            rw [e]
            exact hTi
          · rw [getD_set_ne false hij] at hlj
            have e : slotV ops (a'.put o.dst v) j = slotV ops a' j := by
              unfold slotV
              simp only [hj, Option.bind_some]
              cases hdj : oj.dst with
              | none => rfl
              | some e =>
                simp only []
                cases hdd : o.dst with
                | none => rfl
                | some d => exact slot_put_ne (distinct_spec hd ho hj hij hdd hdj)
            rw [e]
            exact hst j _ (hTl j oj hj hlj)
      unfold wpOp
      simp only [ho]
      rcases obs i o (by omega) ho a' w' hS hI hdep with ⟨hw, hwp⟩ | ⟨hw, hu⟩
      · rw [if_pos hw]
        refine .inl (wp_noQ (Oper.wp_mono ?_ hwp))
        rintro a'' w'' ⟨v, rfl, hTi, hEx, hI'⟩
        exact next v w'' hTi hI' (fun j u hj => hT j u _ _ hj hEx)
      · rw [if_neg (by simp [hw])]
        refine next undef w' ?_ hI (fun j u hj => hj)
        unfold res
        cases o.dst <;> exact hu
theorem region_tail {Q : Exit → Act → World → Prop} {a : Act} {w : World} {id : Nat} (n : Nat) (hm : P.follows .mixedOrders = true) (I : World → Prop) (Ex : World → World → Prop) (T : Nat → Value → World → Prop) (hd : distinctB ops = true) (hin : inB ops a.tmps.size = true) (hback : backB ops = true) (htail : tailB ops n = true)
    (hT : ∀ i v w1 w2, T i v w1 → Ex w1 w2 → T i v w2) (hI : I w.drew) (obs : ObAll P ops a I Ex T (ops.toList.take n) 0)
    (hfin : ∀ (v : Nat → Value) w', I w' → TAll T v w' n 0 → wpList P ops Q (ops.toList.drop n) (putAll (ops.toList.take n) 0 v a) w') : (Code.region id ops true).wp P Q a w := by
  refine wp_region_any hm ?_
  have hl : ∀ n, left (List.replicate n false) = n := by
    intro n
    induction n with
    | zero => rfl
    | succ n ih => simp [List.replicate_succ, left, ih]; omega
  have hrep : ∀ i, (Array.replicate ops.size false).getD i false = false := fun i => by
    rcases Nat.lt_or_ge i ops.size with h' | h' <;> simp [h']
  refine any_tail (n := n) hd hin hback htail hT ?_ ?_ ops.size _ a w.drew (by simp) (by simp [hl]) (hrep n) (fun i o _ h => by rw [hrep i] at h; cases h) ⟨rfl, rfl, fun _ _ => rfl⟩ (fun _ _ _ _ => rfl) hI ?_
  · intro i o hi ho
    have := ob_of_all _ 0 obs i o (by rw [List.getElem?_take_of_lt hi]; simpa using ho)
    rwa [Nat.zero_add] at this
  · intro a' w' hS hSd hI' hTs o ho
    have hnlt := (Array.getElem?_eq_some_iff.1 ho).1
    have hsz : ops.size = n + 1 := by
      simp only [tailB, Bool.and_eq_true, decide_eq_true_eq] at htail
      exact htail.1
    have hg : o.guard = none := by
      simp only [tailB, ho, Bool.and_eq_true] at htail
      simpa using htail.2.1
    have h1 := hfin (slotV ops a') w' hI' (tall_of _ _ fun j _ hj => hTs j (by omega))
    have e : putAll (ops.toList.take n) 0 (slotV ops a') a = a' := by
      refine putAll_eq _ _ _ _ _ hS.defers hS.size ?_ ?_ ?_
      · intro i j x y d e hi hj hij hx hy
        have hi1 : i < n := by have := (List.getElem?_eq_some_iff.1 hi).1; simp at this; omega
        have hj1 : j < n := by have := (List.getElem?_eq_some_iff.1 hj).1; simp at this; omega
        rw [List.getElem?_take_of_lt hi1] at hi
        rw [List.getElem?_take_of_lt hj1] at hj
        exact distinct_spec hd (by simpa using hi) (by simpa using hj) hij hx hy
      · intro t ht
        by_cases hot : o.dst = some t
        · exact hSd o t ho hot
        · refine hS.slot t fun i oi hoi => ?_
          by_cases hin2 : i = n
          · subst hin2
            have : oi = o := Option.some.inj (hoi.symm.trans ho)
            subst this
            exact hot
          · have hi1 : i < n := by have := (Array.getElem?_eq_some_iff.1 hoi).1; omega
            exact ht i oi (by rw [List.getElem?_take_of_lt hi1]; simpa using hoi)
      · intro i oi d hi hod
        have hi1 : i < n := by have := (List.getElem?_eq_some_iff.1 hi).1; simp at this; omega
        rw [List.getElem?_take_of_lt hi1] at hi
        have hi' : ops[i]? = some oi := by simpa using hi
        refine ⟨in_spec hin hi' hod, ?_⟩
        unfold slotV
        simp only [Nat.zero_add, hi', Option.bind_some, hod]
    rw [e] at h1
    have hdrop : ops.toList.drop n = [o] := by
      have hlen : n < ops.toList.length := by simpa using hnlt
      rw [List.drop_eq_getElem_cons hlen, List.drop_of_length_le (by simp; omega)]
      congr 1
      have := (Array.getElem?_eq_some_iff.1 ho).2
      simpa using this
    rw [hdrop] at h1
    unfold wpList at h1
    rw [if_pos (by simp [Region.wanted, hg])] at h1
    rcases h1 with h1 | ⟨h1, h2⟩
    · exact .inl (Oper.wp_mono (fun a w h => by unfold wpList at h; exact h) h1)
    · exact .inr ⟨h1, h2⟩
  · intro i o ho h
    rw [hrep i] at h
    cases h
section
variable {a : Act} {I : World → Prop} {Ex : World → World → Prop} {T : Nat → Value → World → Prop} {i : Nat} {o : Oper}
/-- a call of a function by its number -/
theorem run_call (f : FuncId) (args : Array Operand) (tys : Array TypeId) (ho : o.op = .call { callee := .value (.func f), args := args, argTypes := tys }) (he : ∀ args w, (callFunc f args).run P w = .ok (.enter f args) w) (a' : Act) (w : World) :
    (execOp a'.eval o).run P w = .ok (.enter f (args.map a'.eval)) w := by
  unfold execOp
  simp [ho, resolve, Act.eval, invoke, go_sem, he]
/-- a value, the world as it is -/
theorem ob_val (hEx : ∀ w, Ex w w) (h : ∀ a' w', Same ops a a' → I w' → DepAll ops T a' w' (depsOf o) → Region.wanted o (yielded ops a'.tmps) = true ∧ ∃ v, (execOp a'.eval o).run P w' = .ok (.value v) w' ∧ T i (res o v) w') : Ob P ops a I Ex T i o := by
  intro a' w' hS hI hD
  obtain ⟨hw, v, hrun, hTv⟩ := h a' w' hS hI hD
  refine .inl ⟨hw, ?_⟩
  unfold Oper.wp
  rw [hrun]
  exact ⟨v, rfl, hTv, hEx w', hI⟩
/-- a value, in a world that has grown -/
theorem ob_new (h : ∀ a' w', Same ops a a' → I w' → DepAll ops T a' w' (depsOf o) → Region.wanted o (yielded ops a'.tmps) = true ∧ ∃ v w'', (execOp a'.eval o).run P w' = .ok (.value v) w'' ∧ T i (res o v) w'' ∧ Ex w' w'' ∧ I w'') : Ob P ops a I Ex T i o := by
  intro a' w' hS hI hD
  obtain ⟨hw, v, w'', hrun, hTv, hE, hI'⟩ := h a' w' hS hI hD
  refine .inl ⟨hw, ?_⟩
  unfold Oper.wp
  rw [hrun]
  exact ⟨v, rfl, hTv, hE, hI'⟩
/-- a call -/
theorem ob_call (h : ∀ a' w', Same ops a a' → I w' → DepAll ops T a' w' (depsOf o) → Region.wanted o (yielded ops a'.tmps) = true ∧ ∃ f args, (execOp a'.eval o).run P w' = .ok (.enter f args) w' ∧
    Calls P f args w' fun e w'' => ∃ v, e = .returned v ∧ T i (res o v) w'' ∧ Ex w' w'' ∧ I w'') : Ob P ops a I Ex T i o := by
  intro a' w' hS hI hD
  obtain ⟨hw, f, args, hrun, hc⟩ := h a' w' hS hI hD
  refine .inl ⟨hw, ?_⟩
  unfold Oper.wp
  rw [hrun]
  refine hc.mono ?_
  rintro e w'' ⟨v, rfl, h1, h2, h3⟩
  exact ⟨v, rfl, h1, h2, h3⟩
end
end
end Go.Proofs.Ytekodfpjoehooaa.Reg
