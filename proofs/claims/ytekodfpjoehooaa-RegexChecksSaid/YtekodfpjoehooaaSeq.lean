/- A plain region by its operations' debts, each met once; small runs of operations. Over any program. -/
import Derived.Test.YtekodfpjoehooaaReg
import Derived.Test.YtekodfpjoehooaaMem
import Derived.IntWalk
namespace Go.Proofs.Ytekodfpjoehooaa.Reg
open Go Go.RowKit
/-- what each operation tells, of a list -/
def predsT (Ps : List (Value → World → Prop)) (i : Nat) (v : Value) (w : World) : Prop := (Ps.getD i fun _ _ => False) v w
def PredsKeep : List (Value → World → Prop) → Prop
  | [] => True
  | p :: r => (∀ v w1 w2, p v w1 → Below w1.heap.size w1 w2 → p v w2) ∧ PredsKeep r
theorem preds_keep (Ps : List (Value → World → Prop)) (h : PredsKeep Ps) : ∀ i v w1 w2, predsT Ps i v w1 → Below w1.heap.size w1 w2 → predsT Ps i v w2 := by
  induction Ps with
  | nil => intro i v w1 w2 h; exact h.elim
  | cons p r ih =>
    intro i v w1 w2 hp hb
    cases i with
    | zero => exact h.1 v w1 w2 hp hb
    | succ i => exact ih h.2 i v w1 w2 hp hb
theorem dep_at {ops : Array Oper} {T : Nat → Value → World → Prop} {a : Act} {w : World} {ks : List Nat} (h : DepAll ops T a w ks) (k : Nat) (hk : ks.contains k = true) : T k (slotV ops a k) w := by
  induction ks with
  | nil => simp at hk
  | cons x r ih =>
    by_cases hx : k = x
    · subst hx; exact h.1
    · refine ih h.2 ?_
      simpa [hx] using hk
theorem wanted_is {ops : Array Oper} {o : Oper} {a : Act} {k : Nat} {g c : Bool} (hg : o.guard = some (k, g)) (h : slotV ops a k = .bool c) : Region.wanted o (yielded ops a.tmps) = (c == g) := by
  unfold Region.wanted
  rw [hg]
  simp only [yielded_of h]
  cases c <;> cases g <;> rfl
theorem wanted_eq {ops : Array Oper} {o : Oper} {a : Act} {k : Nat} {g c : Bool} (hg : o.guard = some (k, g)) (h : slotV ops a k = .bool c) (hc : c = g) : Region.wanted o (yielded ops a.tmps) = true := by
  rw [wanted_is hg h, hc]; cases g <;> rfl
theorem unwanted {ops : Array Oper} {o : Oper} {a : Act} {k : Nat} {g c : Bool} (hg : o.guard = some (k, g)) (h : slotV ops a k = .bool c) (hc : c ≠ g) : Region.wanted o (yielded ops a.tmps) = false := by
  rw [wanted_is hg h]; cases c <;> cases g <;> first | rfl | exact absurd rfl hc
theorem unwanted_u {ops : Array Oper} {o : Oper} {a : Act} {k : Nat} {g : Bool} (hg : o.guard = some (k, g)) (h : slotV ops a k = undef) : Region.wanted o (yielded ops a.tmps) = false := by
  unfold Region.wanted
  rw [hg]
  unfold slotV at h
  unfold yielded
  cases hd : (ops[k]?).bind (·.dst) with
  | none => simp [hd]
  | some d =>
    rw [hd] at h
    have h : a.tmps.getD d undef = undef := h
    rw [Array.getD_eq_getD_getElem?] at h
    cases ht : a.tmps[d]? with
    | none => simp [hd, ht]
    | some v => rw [ht] at h; simp only [Option.getD_some] at h; subst h; simp [hd, ht, undef]
theorem tall_at {T : Nat → Value → World → Prop} {v : Nat → Value} {w : World} : ∀ (n i : Nat), TAll T v w n i → ∀ j, i ≤ j → j < i + n → T j (v j) w
  | 0, _, _, _, _, _ => by omega
  | n + 1, i, h, j, h1, h2 => by
    by_cases hj : i = j
    · subst hj; exact h.1
    · exact tall_at n (i + 1) h.2 j (by omega) (by omega)
section
variable {P : Program} {ops : Array Oper}
/-- an operation that is done under a condition -/
theorem ob_when {a : Act} {I : World → Prop} {Ex : World → World → Prop} {T : Nat → Value → World → Prop} {i : Nat} {o : Oper} (c : Prop) (h : c → Ob P ops a I Ex T i o)
    (hn : ¬ c → ∀ a' w', Same ops a a' → I w' → DepAll ops T a' w' (depsOf o) → Region.wanted o (yielded ops a'.tmps) = false ∧ T i undef w') : Ob P ops a I Ex T i o := by
  by_cases hc : c
  · exact h hc
  · exact fun a' w' hS hI hD => .inr (hn hc a' w' hS hI hD)
/-- the first operations of a list, each met once -/
theorem list_ob {Q : Exit → Act → World → Prop} {a : Act} {w : World} (n : Nat) (I : World → Prop) (Ex : World → World → Prop) (T : Nat → Value → World → Prop) (hn : decide (n ≤ ops.size) = true) (hd : distinctB ops = true) (hin : inB ops a.tmps.size = true) (hback : backB ops = true)
    (hT : ∀ i v w1 w2, T i v w1 → Ex w1 w2 → T i v w2) (hI : I w) (obs : ObAll P ops a I Ex T (ops.toList.take n) 0)
    (hfin : ∀ (v : Nat → Value) w', I w' → TAll T v w' n 0 → wpList P ops Q (ops.toList.drop n) (putAll (ops.toList.take n) 0 v a) w') : wpList P ops Q ops.toList a w := by
  have hn : n ≤ ops.size := by simpa using hn
  have hob : ∀ (i : Nat) (o : Oper), i < n → ops[i]? = some o → Ob P ops a I Ex T i o := fun i o hi ho => by
    have := ob_of_all _ 0 obs i o (by rw [List.getElem?_take_of_lt hi]; simpa using ho)
    rwa [Nat.zero_add] at this
  have main : ∀ (m k : Nat) (a' : Act) (w' : World), k + m = n → a'.defers = a.defers → a'.tmps.size = a.tmps.size → (∀ t, (∀ (i : Nat) (o : Oper), i < k → ops[i]? = some o → o.dst ≠ some t) → a'.tmps.getD t undef = a.tmps.getD t undef) → I w' →
      (∀ i, i < k → T i (slotV ops a' i) w') → wpList P ops Q (ops.toList.drop k) a' w' := by
    intro m
    induction m with
    | zero =>
      intro k a' w' hk hdf hsz hsl hI' hTs
      have hk : k = n := by omega
      subst hk
      have e : putAll (ops.toList.take k) 0 (slotV ops a') a = a' := by
        refine putAll_eq _ _ _ _ _ hdf hsz ?_ ?_ ?_
        · intro i j x y d e hi hj hij hx hy
          have hi1 : i < k := by have := (List.getElem?_eq_some_iff.1 hi).1; simp at this; omega
          have hj1 : j < k := by have := (List.getElem?_eq_some_iff.1 hj).1; simp at this; omega
          rw [List.getElem?_take_of_lt hi1] at hi
          rw [List.getElem?_take_of_lt hj1] at hj
          exact distinct_spec hd (by simpa using hi) (by simpa using hj) hij hx hy
        · intro t ht
          exact hsl t fun i o hi ho => ht i o (by rw [List.getElem?_take_of_lt hi]; simpa using ho)
        · intro i oi d hi hod
          have hi1 : i < k := by have := (List.getElem?_eq_some_iff.1 hi).1; simp at this; omega
          rw [List.getElem?_take_of_lt hi1] at hi
          have hi' : ops[i]? = some oi := by simpa using hi
          refine ⟨in_spec hin hi' hod, ?_⟩
          unfold slotV
          simp only [Nat.zero_add, hi', Option.bind_some, hod]
      have := hfin (slotV ops a') w' hI' (tall_of _ _ fun j _ hj => hTs j (by omega))
      rwa [e] at this
    | succ m ih =>
      intro k a' w' hk hdf hsz hsl hI' hTs
      have hklt : k < ops.size := by omega
      have ho : ops[k]? = some ops[k] := Array.getElem?_eq_getElem hklt
      have hdrop : ops.toList.drop k = ops[k] :: ops.toList.drop (k + 1) := by
        have hlen : k < ops.toList.length := by simpa using hklt
        rw [List.drop_eq_getElem_cons hlen]; rfl
      rw [hdrop]
      generalize ops[k] = o at *
      have hS : Same ops a a' := ⟨hdf, hsz, fun t ht => hsl t fun i o _ h => ht i o h⟩
      have hdep : DepAll ops T a' w' (depsOf o) := depAll_of _ fun j hj => hTs j (back_spec hback ho j hj)
      have next : ∀ (v : Value) (w'' : World), T k (res o v) w'' → I w'' → (∀ j v, T j v w' → T j v w'') → wpList P ops Q (ops.toList.drop (k + 1)) (a'.put o.dst v) w'' := by
        intro v w'' hTk hI'' hst
        refine ih (k + 1) _ w'' (by omega) (by rw [put_defers]; exact hdf) (by rw [put_size]; exact hsz) (fun t ht => ?_) hI'' fun j hj => ?_
        · cases hdd : o.dst with
          | none => exact hsl t fun i o' hi h => ht i o' (by omega) h
          | some d => rw [slot_put_ne (fun e => ht k o (by omega) ho (by rw [hdd, e]))]; exact hsl t fun i o' hi h => ht i o' (by omega) h
        · by_cases hjk : j = k
          · subst hjk
            have e : slotV ops (a'.put o.dst v) j = res o v := by
              unfold slotV res
              simp only [ho, Option.bind_some]
              cases hdd : o.dst with
              | none => rfl
              | some d =>
                simp only []
                exact slot_put_same (by rw [hsz]; exact in_spec hin ho hdd)
            rw [e]
            exact hTk
          · have hjl : j < ops.size := by omega
            have hj' : ops[j]? = some ops[j] := Array.getElem?_eq_getElem hjl
            have e : slotV ops (a'.put o.dst v) j = slotV ops a' j := by
              unfold slotV
              simp only [hj', Option.bind_some]
              cases hdj : ops[j].dst with
              | none => rfl
              | some e =>
                simp only []
                cases hdd : o.dst with
                | none => rfl
                | some d => exact slot_put_ne (distinct_spec hd ho hj' (fun e => hjk e.symm) hdd hdj)
            rw [e]
            exact hst j _ (hTs j (by omega))
      unfold wpList
      rcases hob k o (by omega) ho a' w' hS hI' hdep with ⟨hw, hwp⟩ | ⟨hw, hu⟩
      · rw [if_pos hw]
        refine .inl (wp_noQ (Oper.wp_mono ?_ hwp))
        rintro a'' w'' ⟨v, rfl, hTi, hEx, hI''⟩
        exact next v w'' hTi hI'' (fun j u hj => hT j u _ _ hj hEx)
      · rw [if_neg (by simp [hw])]
        refine next undef w' ?_ hI' (fun j u hj => hj)
        unfold res
        cases o.dst <;> exact hu
  exact main n 0 a w (by omega) rfl rfl (fun _ _ => rfl) hI (fun i hi => by omega)
/-- a plain region, each operation met once -/
theorem region_seq {Q : Exit → Act → World → Prop} {a : Act} {w : World} {id : Nat} (I : World → Prop) (Ex : World → World → Prop) (T : Nat → Value → World → Prop) (hd : distinctB ops = true) (hin : inB ops a.tmps.size = true) (hback : backB ops = true)
    (hT : ∀ i v w1 w2, T i v w1 → Ex w1 w2 → T i v w2) (hI : I w) (obs : ObAll P ops a I Ex T ops.toList 0)
    (hfin : ∀ (v : Nat → Value) w', I w' → TAll T v w' ops.size 0 → Q .normal (putAll ops.toList 0 v a) w') : (Code.region id ops false).wp P Q a w := by
  refine wp_region_list (list_ob ops.size I Ex T (by simp) hd hin hback hT hI ?_ ?_)
  · rw [List.take_of_length_le (by simp)]; exact obs
  · intro v w' hI' hTA
    have h := hfin v w' hI' hTA
    rw [List.drop_of_length_le (by simp), List.take_of_length_le (by simp)]
    exact wpList_nil h
/-- a plain region, its first operations met once, the others as they stand -/
theorem region_seq_tail {Q : Exit → Act → World → Prop} {a : Act} {w : World} {id : Nat} (n : Nat) (I : World → Prop) (Ex : World → World → Prop) (T : Nat → Value → World → Prop) (hn : decide (n ≤ ops.size) = true) (hd : distinctB ops = true) (hin : inB ops a.tmps.size = true) (hback : backB ops = true)
    (hT : ∀ i v w1 w2, T i v w1 → Ex w1 w2 → T i v w2) (hI : I w) (obs : ObAll P ops a I Ex T (ops.toList.take n) 0)
    (hfin : ∀ (v : Nat → Value) w', I w' → TAll T v w' n 0 → wpList P ops Q (ops.toList.drop n) (putAll (ops.toList.take n) 0 v a) w') : (Code.region id ops false).wp P Q a w :=
  wp_region_list (list_ob n I Ex T hn hd hin hback hT hI obs hfin)
end
section
variable {P : Program} {w : World} {ρ : Operand → Value} {o : Oper}
theorem run_val (x : Operand) (ho : o.op = .move x ∨ o.op = .assign x) (v : Value) (h : ρ x = v) : (execOp ρ o).run P w = .ok (.value v) w := by
  unfold execOp
  rcases ho with ho | ho <;> simp only [ho, h] <;> rfl
theorem run_pick_and (c x : Operand) (ho : o.op = .pick c x (.const (.bool false))) (hk : ρ (.const (.bool false)) = .bool false) (C A : Bool) (hc : ρ c = .bool C) (hx : C = true → ρ x = .bool A) : (execOp ρ o).run P w = .ok (.value (.bool (C && A))) w := by
  unfold execOp
  simp only [ho, hc, hk, asBool, Sem.run_bind, Sem.run_pure, Result.andThen_ok]
  cases C
  · rfl
  · simp [hx rfl]
theorem run_pick_or (c x : Operand) (ho : o.op = .pick c (.const (.bool true)) x) (hk : ρ (.const (.bool true)) = .bool true) (C A : Bool) (hc : ρ c = .bool C) (hx : C = false → ρ x = .bool A) : (execOp ρ o).run P w = .ok (.value (.bool (C || A))) w := by
  unfold execOp
  simp only [ho, hc, hk, asBool, Sem.run_bind, Sem.run_pure, Result.andThen_ok]
  cases C
  · simp [hx rfl]
  · rfl
theorem run_not (ty : TypeId) (x : Operand) (ho : o.op = .unOp .not ty x) (C : Bool) (hc : ρ x = .bool C) : (execOp ρ o).run P w = .ok (.value (.bool (!C))) w := by
  unfold execOp
  simp only [ho, hc]
  rfl
theorem run_load_cell (ty : TypeId) (x : Operand) (ho : o.op = .load ty x) (b k : Nat) (v : Value) (hx : ρ x = .pointer (some ⟨b, k, none⟩)) (hc : w.cell? ⟨b, k, none⟩ = some v) (d : TypeDesc) (hu : P.underlying ty = some d) (hd : d.isRow = false) : (execOp ρ o).run P w = .ok (.value v) w := by
  have hagg : (isAgg ty).run P w = .ok false w := by
    unfold isAgg
    rw [Sem.run_bind, run_underlying hu w]
    cases d <;> simp_all
  unfold execOp
  simp only [ho, hx, Instr.loadAt, Instr.sureAddr, Sem.run_bind, Sem.run_pure, Result.andThen_ok, loadVar, hagg]
  simp [hc, go_sem]
theorem run_eql_i (ty ty' : TypeId) (x y : Operand) (ho : o.op = .binOp .eql ty x y ty') (k : IntKind) (m n : Int) (hx : ρ x = .int k m) (hy : ρ y = .int k n) : (execOp ρ o).run P w = .ok (.value (.bool (m == n))) w := by
  unfold execOp
  simp only [ho, hx, hy]
  go_simp
theorem run_neq_i (ty ty' : TypeId) (x y : Operand) (ho : o.op = .binOp .neq ty x y ty') (k : IntKind) (m n : Int) (hx : ρ x = .int k m) (hy : ρ y = .int k n) : (execOp ρ o).run P w = .ok (.value (.bool (m != n))) w := by
  unfold execOp
  simp only [ho, hx, hy]
  go_simp
theorem run_lss_i (ty ty' : TypeId) (x y : Operand) (ho : o.op = .binOp .lss ty x y ty') (k : IntKind) (m n : Int) (hx : ρ x = .int k m) (hy : ρ y = .int k n) : (execOp ρ o).run P w = .ok (.value (.bool (decide (m < n)))) w := by
  unfold execOp
  simp only [ho, hx, hy]
  go_simp
theorem run_leq_i (ty ty' : TypeId) (x y : Operand) (ho : o.op = .binOp .leq ty x y ty') (k : IntKind) (m n : Int) (hx : ρ x = .int k m) (hy : ρ y = .int k n) : (execOp ρ o).run P w = .ok (.value (.bool (decide (m ≤ n)))) w := by
  unfold execOp
  simp only [ho, hx, hy]
  go_simp
theorem run_gtr_i (ty ty' : TypeId) (x y : Operand) (ho : o.op = .binOp .gtr ty x y ty') (k : IntKind) (m n : Int) (hx : ρ x = .int k m) (hy : ρ y = .int k n) : (execOp ρ o).run P w = .ok (.value (.bool (decide (n < m)))) w := by
  unfold execOp
  simp only [ho, hx, hy]
  go_simp
theorem run_geq_i (ty ty' : TypeId) (x y : Operand) (ho : o.op = .binOp .geq ty x y ty') (k : IntKind) (m n : Int) (hx : ρ x = .int k m) (hy : ρ y = .int k n) : (execOp ρ o).run P w = .ok (.value (.bool (decide (n ≤ m)))) w := by
  unfold execOp
  simp only [ho, hx, hy]
  go_simp
theorem run_eql_b (ty ty' : TypeId) (x y : Operand) (ho : o.op = .binOp .eql ty x y ty') (m n : Bool) (hx : ρ x = .bool m) (hy : ρ y = .bool n) (hu : P.underlying ty = some .bool) : (execOp ρ o).run P w = .ok (.value (.bool (m == n))) w := by
  unfold execOp
  simp only [ho, hx, hy]
  go_simp
theorem run_neq_b (ty ty' : TypeId) (x y : Operand) (ho : o.op = .binOp .neq ty x y ty') (m n : Bool) (hx : ρ x = .bool m) (hy : ρ y = .bool n) (hu : P.underlying ty = some .bool) : (execOp ρ o).run P w = .ok (.value (.bool (!(m == n)))) w := by
  unfold execOp
  simp only [ho, hx, hy]
  go_simp
theorem run_len_s (ty : TypeId) (x : Operand) (ho : o.op = .call { callee := .builtin .len, args := #[x], argTypes := #[ty] }) (A : Option Addr) (n c : Nat) (hx : ρ x = .slice A n c) (e : TypeId) (hu : P.underlying ty = some (.slice e)) : (execOp ρ o).run P w = .ok (.value (.int .i64 n)) w := by
  unfold execOp
  simp only [ho]
  go_simp
theorem run_sub_i (ty ty' : TypeId) (x y : Operand) (ho : o.op = .binOp .sub ty x y ty') (m n r : Int) (hx : ρ x = .int .i64 m) (hy : ρ y = .int .i64 n) (hr : m - n = r) (h1 : -9223372036854775808 ≤ r) (h2 : r ≤ 9223372036854775807) : (execOp ρ o).run P w = .ok (.value (.int .i64 r)) w := by
  subst hr
  have hw : IntKind.i64.wrap (m - n) = m - n := IntWalk.i64_in _ ⟨h1, h2⟩
  unfold execOp
  simp only [ho, hx, hy]
  go_simp
theorem run_add_i (ty ty' : TypeId) (x y : Operand) (ho : o.op = .binOp .add ty x y ty') (m n r : Int) (hx : ρ x = .int .i64 m) (hy : ρ y = .int .i64 n) (hr : m + n = r) (h1 : -9223372036854775808 ≤ r) (h2 : r ≤ 9223372036854775807) : (execOp ρ o).run P w = .ok (.value (.int .i64 r)) w := by
  subst hr
  have hw : IntKind.i64.wrap (m + n) = m + n := IntWalk.i64_in _ ⟨h1, h2⟩
  unfold execOp
  simp only [ho, hx, hy]
  go_simp
end
end Go.Proofs.Ytekodfpjoehooaa.Reg
