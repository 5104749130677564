/- What rows and parts make again: plain facts, no walk. -/
import Derived.Test.YtekodfpjoehooaaDoorCutR
import Derived.Test.YtekodfpjoehooaaDoorRangesP
namespace Go.Proofs.YtekodfpjoehooaaDoor.Bs
theorem deMorgan (a b : BitVec 256) : interS [~~~a, ~~~b] = ~~~(unionS [a, b]) := by
  unfold interS; simp
theorem union2_getLsbD (a b : BitVec 256) (i : Nat) : (unionS [a, b]).getLsbD i = (a.getLsbD i || b.getLsbD i) := by
  rw [unionS_getLsbD]; simp
/-- the bytes of rows -/
def rowsU (l : List (Nat × Nat)) : BitVec 256 := l.foldl (fun s r => unionS [s, rangeS r.1 r.2]) 0#256
theorem rowsU_snoc (l : List (Nat × Nat)) (k : Nat) (h : k < l.length) : rowsU (l.take (k + 1)) = unionS [rowsU (l.take k), rangeS l[k].1 l[k].2] := by
  unfold rowsU
  rw [List.take_succ_eq_append_getElem h, List.foldl_append]; rfl
theorem rangeS_getLsbD (lo hi i : Nat) (h : i < 256) : (rangeS lo hi).getLsbD i = (decide (lo ≤ i) && decide (i ≤ hi)) := by
  unfold rangeS
  rw [build_getLsbD _ _ _ h, Bool.and_comm]
  congr 1
  simp only [decide_eq_decide]; omega
theorem rowsU_aux (l : List (Nat × Nat)) (i : Nat) (h : i < 256) : ∀ s : BitVec 256, (l.foldl (fun s r => unionS [s, rangeS r.1 r.2]) s).getLsbD i = (s.getLsbD i || l.any fun r => decide (r.1 ≤ i) && decide (i ≤ r.2)) := by
  induction l with
  | nil => intro s; simp
  | cons r l ih => intro s; rw [List.foldl_cons, ih, union2_getLsbD, rangeS_getLsbD _ _ _ h, List.any_cons, Bool.or_assoc]
theorem rowsF_any (s : BitVec 256) (i : Nat) (hi : i < 256) : ∀ k f, 257 ≤ k + f → ((rowsF s k f).any fun r => decide (r.1 ≤ i) && decide (i ≤ r.2)) = (decide (f ≤ i) && s.getLsbD i) := by
  intro k
  induction k with
  | zero => intro f h; rw [show decide (f ≤ i) = false by simp; omega]; rfl
  | succ k ih =>
    intro f h
    have h1 := isFirst_firstF s f
    cases hlo : firstF s f with
    | none =>
      rw [hlo] at h1
      rw [rowsF_none s _ f hlo]
      by_cases hfi : f ≤ i
      · rw [h1 i hfi hi]; simp
      · simp [hfi]
    | some lo =>
      rw [hlo] at h1
      obtain ⟨a1, a2, a3, a4⟩ := h1
      obtain ⟨_, _, b3, b4⟩ := row_end s f lo hlo
      have h2 := isFirst_firstF (~~~s) lo
      have hon : ∀ x, lo ≤ x → x < (firstF (~~~s) lo).getD 256 → s.getLsbD x = true := by
        intro x hx1 hx2
        have : (~~~s).getLsbD x = false := by
          cases he : firstF (~~~s) lo with
          | none => rw [he] at h2 hx2; exact h2 x hx1 (by simp at hx2; omega)
          | some e => rw [he] at h2 hx2; exact h2.2.2.2 x hx1 (by simpa using hx2)
        rw [BitVec.getLsbD_not] at this
        simpa [show x < 256 by omega] using this
      have hoff : (firstF (~~~s) lo).getD 256 < 256 → s.getLsbD ((firstF (~~~s) lo).getD 256) = false := by
        intro hlt
        cases he : firstF (~~~s) lo with
        | none => rw [he] at hlt; simp at hlt
        | some e =>
          rw [he] at h2
          have := h2.2.2.1
          rw [BitVec.getLsbD_not] at this
          simp at this
          simpa using this.2
      rw [rowsF_some s k f lo hlo, List.any_cons, ih _ (by omega)]
      generalize (firstF (~~~s) lo).getD 256 = e at *
      simp only
      by_cases c1 : i < f
      · rw [show decide (lo ≤ i) = false by simp; omega, show decide (e ≤ i) = false by simp; omega, show decide (f ≤ i) = false by simp; omega]; rfl
      · by_cases c2 : i < lo
        · rw [show decide (lo ≤ i) = false by simp; omega, show decide (e ≤ i) = false by simp; omega, a4 i (by omega) c2]; simp
        · by_cases c3 : i < e
          · rw [hon i (by omega) c3, show decide (lo ≤ i) = true by simp; omega, show decide (i ≤ e - 1) = true by simp; omega, show decide (f ≤ i) = true by simp; omega]; rfl
          · rw [show decide (i ≤ e - 1) = false by simp; omega, show decide (e ≤ i) = true by simp; omega, show decide (f ≤ i) = true by simp; omega]; simp
theorem rowsU_rows (s : BitVec 256) : rowsU (rowsS s) = s := by
  apply BitVec.eq_of_getLsbD_eq
  intro i hi
  unfold rowsU rowsS
  rw [rowsU_aux _ _ hi, rowsF_any s i hi 257 0 (by omega)]
  simp
theorem rowsF_length (s : BitVec 256) : ∀ k f, (rowsF s k f).length ≤ k
  | 0, _ => Nat.le_refl _
  | k + 1, f => by
    cases h : firstF s f with
    | none => rw [rowsF_none s _ f h]; simp
    | some lo => rw [rowsF_some s k f lo h]; have := rowsF_length s k ((firstF (~~~s) lo).getD 256); simp; omega
theorem rowsS_small (s : BitVec 256) : (rowsS s).length * 2 ≤ 140737488355328 := by have := rowsF_length s 257 0; unfold rowsS; omega
theorem rowsF_bytes (s : BitVec 256) : ∀ k f r, r ∈ rowsF s k f → r.1 < 256 ∧ r.2 < 256
  | 0, _, _, h => by cases h
  | k + 1, f, r, h => by
    cases hf : firstF s f with
    | none => rw [rowsF_none s _ f hf] at h; cases h
    | some lo =>
      obtain ⟨_, h2, h3, h4⟩ := row_end s f lo hf
      rw [rowsF_some s k f lo hf] at h
      rcases List.mem_cons.1 h with rfl | h
      · exact ⟨h2, by simp; omega⟩
      · exact rowsF_bytes s k _ r h
theorem rowsS_bytes (s : BitVec 256) (r : Nat × Nat) (h : r ∈ rowsS s) : r.1 < 256 ∧ r.2 < 256 := rowsF_bytes s 257 0 r h
/-- how many bytes a row of sets has -/
def sumC (l : List (BitVec 256)) : Nat := l.foldl (fun n s => n + countS s) 0
theorem sumC_snoc (l : List (BitVec 256)) (k : Nat) (h : k < l.length) : sumC (l.take (k + 1)) = sumC (l.take k) + countS l[k] := by
  unfold sumC
  rw [List.take_succ_eq_append_getElem h, List.foldl_append]; rfl
theorem sumC_aux (l : List (BitVec 256)) : ∀ n, l.foldl (fun n s => n + countS s) n = n + sumC l := by
  unfold sumC
  induction l with
  | nil => intro n; rfl
  | cons s l ih => intro n; rw [List.foldl_cons, List.foldl_cons, ih, ih (0 + countS s)]; omega
theorem sumC_cons (s : BitVec 256) (l : List (BitVec 256)) : sumC (s :: l) = countS s + sumC l := by
  have := sumC_aux l (0 + countS s)
  unfold sumC at *
  rw [List.foldl_cons, this]; omega
theorem bc_split (s t u : BitVec 256) (q : Nat → Bool) : ∀ k, (∀ i, i < k → t.getLsbD i = (s.getLsbD i && q i)) → (∀ i, i < k → u.getLsbD i = (s.getLsbD i && !q i)) → bc t k + bc u k = bc s k
  | 0, _, _ => rfl
  | k + 1, h1, h2 => by
    have ih := bc_split s t u q k (fun i hi => h1 i (by omega)) (fun i hi => h2 i (by omega))
    simp only [bc]
    rw [h1 k (by omega), h2 k (by omega)]
    cases s.getLsbD k <;> cases q k <;> simp <;> omega
theorem sumC_cutF (l : List (BitVec 256)) : ∀ k p, countS p < k → sumC (cutF l k p) = countS p := by
  intro k
  induction k with
  | zero => intro p h; omega
  | succ k ih =>
    intro p h
    by_cases hp : p = 0#256
    · subst hp
      rw [cutF_zero]
      have := bc_split 0#256 0#256 0#256 (fun _ => false) 256 (fun i _ => by simp) (fun i _ => by simp)
      unfold countS
      have e : sumC [] = 0 := rfl
      rw [e]; omega
    · obtain ⟨b, hb0, hb1, hb2, _⟩ := first_some p hp
      rw [cutF_step l k p b hp hb0, sumC_cons]
      have hlt := rest_less l b p hb1 hb2
      rw [ih _ (by omega)]
      exact bc_split p _ _ (fun i => l.all fun s => s.getLsbD i == s.getLsbD b) 256 (fun i hi => partS_getLsbD l b p i hi) (fun i hi => restS_getLsbD l b p i hi)
theorem full_count : countS fullS = 256 := by kernel_rfl
theorem sumC_cut (l : List (BitVec 256)) : sumC (cutS l) = 256 := by
  unfold cutS
  rw [sumC_cutF l 257 fullS (by rw [full_count]; omega), full_count]
/-- the parts that lie in a set, together -/
def within (a : BitVec 256) (l : List (BitVec 256)) : BitVec 256 := l.foldl (fun s p => if interS [p, a] == p then unionS [s, p] else s) 0#256
theorem within_snoc (a : BitVec 256) (l : List (BitVec 256)) (k : Nat) (h : k < l.length) : within a (l.take (k + 1)) = if interS [l[k], a] == l[k] then unionS [within a (l.take k), l[k]] else within a (l.take k) := by
  unfold within
  rw [List.take_succ_eq_append_getElem h, List.foldl_append]; rfl
theorem within_aux (a : BitVec 256) (i : Nat) (l : List (BitVec 256)) : ∀ s : BitVec 256, (l.foldl (fun s p => if interS [p, a] == p then unionS [s, p] else s) s).getLsbD i = (s.getLsbD i || l.any fun p => (interS [p, a] == p) && p.getLsbD i) := by
  induction l with
  | nil => intro s; simp
  | cons p l ih =>
    intro s
    rw [List.foldl_cons, ih, List.any_cons]
    cases h : interS [p, a] == p
    · simp
    · simp [union2_getLsbD, Bool.or_assoc]
theorem within_cut (a : BitVec 256) (l : List (BitVec 256)) (ha : a ∈ l) : within a (cutS l) = a := by
  rw [← outs_cut]
  apply BitVec.eq_of_getLsbD_eq
  intro i hi
  unfold within
  rw [within_aux]
  simp only [BitVec.getLsbD_zero, Bool.false_or]
  cases hai : a.getLsbD i with
  | true =>
    obtain ⟨r, hr, hra⟩ : ∃ r, r ∈ reps l 256 ∧ al l r i = true := by
      cases hrep : isRep l i with
      | true => exact ⟨i, mem_reps.2 ⟨hi, hrep⟩, al_refl l i⟩
      | false =>
        have : ¬ ∀ z, z < i → al l z i = false := fun hh => by rw [(isRep_iff l i).2 hh] at hrep; cases hrep
        obtain ⟨z, hz⟩ := Classical.not_forall.1 this
        obtain ⟨hz1, hz2⟩ := Classical.not_imp.1 hz
        have hz3 : al l z i = true := by cases hq : al l z i <;> simp_all
        obtain ⟨r, hr1, hr2⟩ := rep_of_al l i z hz1 hz3
        obtain ⟨h1, h2⟩ := mem_reps.1 hr1
        exact ⟨r, mem_reps.2 ⟨by omega, h2⟩, hr2⟩
    rw [List.any_eq_true]
    refine ⟨build (al l r) 256, List.mem_map.2 ⟨r, hr, rfl⟩, ?_⟩
    have har : a.getLsbD r = true := by rw [(al_iff l r i).1 hra a ha]; exact hai
    have hsub : interS [build (al l r) 256, a] = build (al l r) 256 := by
      apply BitVec.eq_of_getLsbD_eq
      intro j hj
      rw [inter2_getLsbD _ _ _ hj, build_getLsbD _ _ _ hj]
      cases hrj : al l r j with
      | false => simp
      | true => rw [← (al_iff l r j).1 hrj a ha, har]; simp
    rw [hsub, build_getLsbD _ _ _ hi, hra]
    simp [hi]
  | false =>
    rw [List.any_eq_false]
    intro p _
    cases hpa : interS [p, a] == p with
    | false => simp
    | true =>
      have h1 : interS [p, a] = p := by simpa using hpa
      have h2 := inter2_getLsbD p a i hi
      rw [h1, hai] at h2
      simp only [Bool.and_false] at h2
      rw [h2]; simp
theorem nodup_le_one {α : Type} (l : List α) (hn : l.Nodup) (h : ∀ x ∈ l, ∀ y ∈ l, x = y) : l.length ≤ 1 := by
  match l, hn, h with
  | [], _, _ => simp
  | [x], _, _ => simp
  | x :: y :: r, hn, h =>
    exfalso
    have := h x (by simp) y (by simp)
    subst this
    simp at hn
theorem four_keys {α : Type} (u v : α → Bool) (l : List α) : l.length = (l.filter fun x => u x && v x).length + (l.filter fun x => u x && !v x).length + (l.filter fun x => !u x && v x).length + (l.filter fun x => !u x && !v x).length := by
  induction l with
  | nil => rfl
  | cons x l ih =>
    simp only [List.filter_cons, List.length_cons]
    cases u x <;> cases v x <;> simp <;> omega
theorem cut_four (a b : BitVec 256) : (cutS [a, b]).length ≤ 4 := by
  rw [← outs_cut, outs_length]
  have key : ∀ q : Nat → Bool, (∀ x y, q x = true → q y = true → a.getLsbD x = a.getLsbD y ∧ b.getLsbD x = b.getLsbD y) → ((reps [a, b] 256).filter q).length ≤ 1 := by
    intro q hq
    refine nodup_le_one _ (List.Pairwise.filter _ (reps_nodup _ _)) fun x hx y hy => ?_
    obtain ⟨hx1, hx2⟩ := List.mem_filter.1 hx
    obtain ⟨hy1, hy2⟩ := List.mem_filter.1 hy
    obtain ⟨h1, h2⟩ := hq x y hx2 hy2
    exact reps_apart hx1 hy1 (c := y) ((al_iff _ _ _).2 (by simp [h1, h2])) (al_refl _ _)
  rw [four_keys (fun x => a.getLsbD x) (fun x => b.getLsbD x)]
  have k1 := key (fun x => a.getLsbD x && b.getLsbD x) (fun x y h1 h2 => by simp at h1 h2; simp [h1, h2])
  have k2 := key (fun x => a.getLsbD x && !b.getLsbD x) (fun x y h1 h2 => by simp at h1 h2; simp [h1, h2])
  have k3 := key (fun x => !a.getLsbD x && b.getLsbD x) (fun x y h1 h2 => by simp at h1 h2; simp [h1, h2])
  have k4 := key (fun x => !a.getLsbD x && !b.getLsbD x) (fun x y h1 h2 => by simp at h1 h2; simp [h1, h2])
  omega
end Go.Proofs.YtekodfpjoehooaaDoor.Bs
