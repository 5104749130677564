/- Symbols that come up below one. Plain facts, no program. -/
import Derived.Test.YtlppkbfkajionaaCmQ
namespace Go.Proofs.Ytlppkbfkajionaa.Cm
open Go
set_option linter.unusedSimpArgs false
set_option linter.unusedVariables false
set_option linter.unusedSectionVars false
/-- what comes up below a symbol, by rules -/
inductive Rch (rs : List (List Int)) (s : Int) : Int → Prop
  | start : Rch rs s s
  | next {x y : Int} {r : List Int} : Rch rs s x → r ∈ rs → r.headD 0 = x → y ∈ r.drop 1 → Rch rs s y
def Ins (n : Nat) (rs : List (List Int)) : Prop := ∀ r ∈ rs, In n r
theorem Rch.in_ {rs : List (List Int)} {s x : Int} {n : Nat} (h : Rch rs s x) (hi : Ins n rs) (hs : 0 ≤ s ∧ s < (n : Int)) : 0 ≤ x ∧ x < (n : Int) := by
  cases h with
  | start => exact hs
  | next _ hr _ hy => exact (hi _ hr).2 _ (List.mem_of_mem_drop hy)
def mks (σ : List Bool) (l : List Int) : List Bool := l.foldl mk σ
theorem mks_len (l : List Int) : ∀ σ : List Bool, (mks σ l).length = σ.length := by
  induction l with
  | nil => intro σ; rfl
  | cons x l ih => intro σ; exact (ih (mk σ x)).trans (mk_len σ x)
theorem bg_mks (l : List Int) : ∀ (σ : List Bool) (m : Int), (∀ x ∈ l, 0 ≤ x ∧ x < (σ.length : Int)) → 0 ≤ m → bg (mks σ l) m = (decide (m ∈ l) || bg σ m) := by
  induction l with
  | nil => intro σ m _ _; simp [mks]
  | cons x l ih =>
    intro σ m h hm
    have h1 := ih (mk σ x) m (fun y hy => by rw [mk_len]; exact h y (by simp [hy])) hm
    have h2 : mks σ (x :: l) = mks (mk σ x) l := rfl
    rw [h2, h1, bg_mk σ (h x (by simp)) hm]
    rw [Bool.eq_iff_iff]
    simp [or_comm, or_left_comm, or_assoc]
def rstep (σ : List Bool) (r : List Int) : List Bool := if bg σ (r.headD 0) then mks σ (r.drop 1) else σ
def rsw (rs : List (List Int)) (σ : List Bool) : List Bool := rs.foldl rstep σ
theorem rstep_len (σ : List Bool) (r : List Int) : (rstep σ r).length = σ.length := by
  unfold rstep; split
  · exact mks_len _ _
  · rfl
theorem rstep_le {σ : List Bool} {r : List Int} (h : In σ.length r) : Le σ (rstep σ r) := by
  refine ⟨rstep_len σ r, fun i hi => ?_⟩
  unfold rstep; split
  · rw [bg_mks _ _ _ (fun x hx => h.2 x (List.mem_of_mem_drop hx)) (by omega), hi, Bool.or_true]
  · exact hi
theorem rsw_snoc (rs : List (List Int)) (r : List Int) (σ : List Bool) : rsw (rs ++ [r]) σ = rstep (rsw rs σ) r := by
  unfold rsw; rw [List.foldl_append]; rfl
theorem rsw_len (rs : List (List Int)) : ∀ σ : List Bool, (rsw rs σ).length = σ.length := by
  induction rs with
  | nil => intro σ; rfl
  | cons r rs ih => intro σ; exact (ih (rstep σ r)).trans (rstep_len σ r)
theorem rsw_le (rs : List (List Int)) : ∀ σ : List Bool, Ins σ.length rs → Le σ (rsw rs σ) := by
  induction rs with
  | nil => intro σ _; exact le_refl σ
  | cons r rs ih =>
    intro σ h
    have h1 := rstep_le (h r (by simp))
    exact le_trans h1 (ih (rstep σ r) (fun q hq => by rw [rstep_len]; exact h q (by simp [hq])))
/-- where nothing is new, what is marked is closed -/
theorem rsw_closed (rs : List (List Int)) : ∀ σ : List Bool, Ins σ.length rs → rsw rs σ = σ → ∀ r ∈ rs, bg σ (r.headD 0) = true → ∀ y ∈ r.drop 1, bg σ y = true := by
  induction rs with
  | nil => intro σ _ _ r hr; cases hr
  | cons r rs ih =>
    intro σ h he q hq hb y hy
    have h1 := rstep_le (h r (by simp))
    have h2 := rsw_le rs (rstep σ r) (fun q hq => by rw [rstep_len]; exact h q (by simp [hq]))
    have he' : rsw rs (rstep σ r) = σ := he
    have e1 : rstep σ r = σ := le_anti h1 (by have := (falses_mono h2).1; rw [he'] at this; exact this)
    rcases List.mem_cons.1 hq with rfl | hq
    · unfold rstep at e1
      rw [if_pos hb] at e1
      rw [← e1, bg_mks _ _ _ (fun x hx => (h q (by simp)).2 x (List.mem_of_mem_drop hx)) ((h q (by simp)).2 y (List.mem_of_mem_drop hy)).1, decide_eq_true hy, Bool.true_or]
    · rw [e1] at he'
      exact ih σ (fun q hq => h q (by simp [hq])) he' q hq hb y hy
theorem rsw_sound (rs0 : List (List Int)) (s : Int) (rs : List (List Int)) : ∀ σ : List Bool, Ins σ.length rs → (∀ r ∈ rs, r ∈ rs0) → (∀ x, 0 ≤ x → bg σ x = true → Rch rs0 s x) → ∀ x, 0 ≤ x → bg (rsw rs σ) x = true → Rch rs0 s x := by
  induction rs with
  | nil => intro σ _ _ h; exact h
  | cons r rs ih =>
    intro σ h hs hσ
    refine ih (rstep σ r) (fun q hq => by rw [rstep_len]; exact h q (by simp [hq])) (fun q hq => hs q (by simp [hq])) fun x hx hb => ?_
    unfold rstep at hb
    split at hb
    · rename_i hh
      rw [bg_mks _ _ _ (fun x hx => (h r (by simp)).2 x (List.mem_of_mem_drop hx)) hx, Bool.or_eq_true] at hb
      rcases hb with hb | hb
      · exact .next (hσ _ (h r (by simp)).head.1 hh) (hs r (by simp)) rfl (by simpa using hb)
      · exact hσ x hx hb
    · exact hσ x hx hb
def reachR (rs : List (List Int)) (s : Int) (n : Nat) : List Bool := it (rsw rs) (n + 1) (mk (List.replicate n false) s)
theorem reachR_len (rs : List (List Int)) (s : Int) (n : Nat) : (reachR rs s n).length = n := by
  unfold reachR
  refine (it_good (Good := fun σ => σ.length = n) (fun σ hσ => by rw [rsw_len]; exact hσ) _ _ ?_)
  rw [mk_len]; simp
theorem bg_rep (n : Nat) (x : Int) : bg (List.replicate n false) x = false := by
  unfold bg
  rw [List.getD_eq_getElem?_getD, List.getElem?_replicate]
  split <;> rfl
theorem reachR_iff {rs : List (List Int)} {s : Int} {n : Nat} (hi : Ins n rs) (hs : 0 ≤ s ∧ s < (n : Int)) {x : Int} (hx : 0 ≤ x) : bg (reachR rs s n) x = true ↔ Rch rs s x := by
  have h0 : (mk (List.replicate n false) s).length = n := by rw [mk_len]; simp
  have hgood : ∀ σ : List Bool, σ.length = n → (rsw rs σ).length = n ∧ Le σ (rsw rs σ) := fun σ hσ => ⟨by rw [rsw_len]; exact hσ, rsw_le rs σ (fun r hr => by rw [hσ]; exact hi r hr)⟩
  have hend : rsw rs (reachR rs s n) = reachR rs s n := it_ends (Good := fun σ => σ.length = n) hgood (n + 1) _ h0 (by have := falses_le (mk (List.replicate n false) s); omega)
  have hl := reachR_len rs s n
  constructor
  · intro h
    have key : ∀ m σ, σ.length = n → (∀ x, 0 ≤ x → bg σ x = true → Rch rs s x) → ∀ x, 0 ≤ x → bg (it (rsw rs) m σ) x = true → Rch rs s x := by
      intro m
      induction m with
      | zero => intro σ _ h; exact h
      | succ m ih => intro σ hσ h; exact ih (rsw rs σ) (by rw [rsw_len]; exact hσ) (rsw_sound rs s rs σ (fun r hr => by rw [hσ]; exact hi r hr) (fun r hr => hr) h)
    refine key (n + 1) _ h0 (fun y hy hb => ?_) x hx h
    rw [bg_mk _ (by simpa using hs) hy, bg_rep, Bool.or_false] at hb
    rw [show y = s by simpa using hb]
    exact .start
  · intro h
    induction h with
    | start =>
      have key : ∀ m σ, σ.length = n → bg σ s = true → bg (it (rsw rs) m σ) s = true := by
        intro m
        induction m with
        | zero => intro σ _ h; exact h
        | succ m ih =>
          intro σ hσ h
          refine ih (rsw rs σ) (by rw [rsw_len]; exact hσ) ?_
          have := (hgood σ hσ).2.2 s.toNat (by rw [Int.toNat_of_nonneg hs.1]; exact h)
          rwa [Int.toNat_of_nonneg hs.1] at this
      exact key (n + 1) _ h0 (by rw [bg_mk _ (by simpa using hs) hs.1]; simp)
    | next h1 hr hh hy ih =>
      have hx1 := (h1.in_ hi hs).1
      exact rsw_closed rs _ (fun r hr => by rw [hl]; exact hi r hr) hend _ hr (by rw [hh]; exact ih hx1) _ hy
theorem reach_eq {rs : List (List Int)} {s : Int} {n : Nat} (hi : Ins n rs) (hs : 0 ≤ s ∧ s < (n : Int)) {σ : List Bool} (hl : σ.length = n) (h : ∀ x, 0 ≤ x → (bg σ x = true ↔ Rch rs s x)) : σ = reachR rs s n := by
  refine bg_ext (by rw [hl, reachR_len]) fun i _ => ?_
  rw [Bool.eq_iff_iff, h i (by omega), reachR_iff hi hs (by omega)]
/-! a walk with a stack -/
structure DI (rs : List (List Int)) (s : Int) (n : Nat) (σ : List Bool) (st : List Int) : Prop where
  s0 : 0 ≤ s
  len : σ.length = n
  inn : ∀ x ∈ st, 0 ≤ x ∧ x < (n : Int)
  st0 : bg σ s = true ∨ s ∈ st
  cl : ∀ r ∈ rs, bg σ (r.headD 0) = true → ∀ y ∈ r.drop 1, bg σ y = true ∨ y ∈ st
  so : ∀ x, 0 ≤ x → (bg σ x = true ∨ x ∈ st) → Rch rs s x
theorem di_start (rs : List (List Int)) {s : Int} {n : Nat} (hs : 0 ≤ s ∧ s < (n : Int)) : DI rs s n (List.replicate n false) [s] :=
  ⟨hs.1, by simp, fun x hx => by simp at hx; subst hx; exact hs, .inr (by simp), fun r _ hb => (by rw [bg_rep] at hb; cases hb), fun x _ h => by
    rcases h with h | h
    · rw [bg_rep] at h; cases h
    · simp at h; subst h; exact .start⟩
theorem di_skip {rs : List (List Int)} {s : Int} {n : Nat} {σ : List Bool} {st : List Int} {z : Int} (h : DI rs s n σ (st ++ [z])) (hz : bg σ z = true) : DI rs s n σ st :=
  ⟨h.s0, h.len, fun x hx => h.inn x (by simp [hx]), by
    rcases h.st0 with h1 | h1
    · exact .inl h1
    · rcases List.mem_append.1 h1 with h1 | h1
      · exact .inr h1
      · simp at h1; subst h1; exact .inl hz, fun r hr hb y hy => by
    rcases h.cl r hr hb y hy with h1 | h1
    · exact .inl h1
    · rcases List.mem_append.1 h1 with h1 | h1
      · exact .inr h1
      · simp at h1; subst h1; exact .inl hz, fun x hx h1 => h.so x hx (h1.imp id (fun h2 => by simp [h2]))⟩
def pushL (rs : List (List Int)) (bl : List Int) : List Int := bl.flatMap fun i => (rs.getD i.toNat []).drop 1
theorem push_mem {rs : List (List Int)} {z y : Int} : y ∈ pushL rs (byL rs z) ↔ ∃ r ∈ rs, r.head? = some z ∧ y ∈ r.drop 1 := by
  unfold pushL
  rw [List.mem_flatMap]
  constructor
  · rintro ⟨i, hi, hy⟩
    obtain ⟨k, rfl, r, hr, hh⟩ := byL_mem.1 hi
    refine ⟨r, List.mem_of_getElem? hr, hh, ?_⟩
    rw [List.getD_eq_getElem?_getD, Int.toNat_natCast, hr] at hy
    exact hy
  · rintro ⟨r, hr, hh, hy⟩
    obtain ⟨k, hk⟩ := List.mem_iff_getElem?.1 hr
    refine ⟨(k : Int), byL_mem.2 ⟨k, rfl, r, hk, hh⟩, ?_⟩
    rw [List.getD_eq_getElem?_getD, Int.toNat_natCast, hk]
    exact hy
theorem head_headD {r : List Int} {z : Int} (hp : 0 < r.length) : r.head? = some z ↔ r.headD 0 = z := by
  cases r with
  | nil => exact absurd hp (by simp)
  | cons a r => simp
theorem di_mark {rs : List (List Int)} {s : Int} {n : Nat} {σ : List Bool} {st : List Int} {z : Int} (h : DI rs s n σ (st ++ [z])) (hi : Ins n rs) : DI rs s n (mk σ z) (st ++ pushL rs (byL rs z)) := by
  have hz : 0 ≤ z ∧ z < (σ.length : Int) := by rw [h.len]; exact h.inn z (by simp)
  have hm : ∀ y, 0 ≤ y → (bg σ y = true ∨ y ∈ st ++ [z]) → bg (mk σ z) y = true ∨ y ∈ st := fun y hy h1 => by
    rw [bg_mk σ hz hy]
    rcases h1 with h1 | h1
    · exact .inl (by simp [h1])
    · rcases List.mem_append.1 h1 with h1 | h1
      · exact .inr h1
      · simp at h1; exact .inl (by simp [h1])
  have hs0 := h.s0
  refine ⟨hs0, by rw [mk_len]; exact h.len, fun x hx => ?_, ?_, fun r hr hb y hy => ?_, fun x hx h1 => ?_⟩
  · rcases List.mem_append.1 hx with hx | hx
    · exact h.inn x (by simp [hx])
    · obtain ⟨r, hr, _, hy⟩ := push_mem.1 hx
      exact (hi r hr).2 x (List.mem_of_mem_drop hy)
  · rcases hm s hs0 h.st0 with h1 | h1
    · exact .inl h1
    · exact .inr (by simp [h1])
  · have hy0 := ((hi r hr).2 y (List.mem_of_mem_drop hy)).1
    rw [bg_mk σ hz (hi r hr).head.1, Bool.or_eq_true] at hb
    rcases hb with hb | hb
    · right
      rw [List.mem_append]
      right
      exact push_mem.2 ⟨r, hr, (head_headD (hi r hr).1).2 (by simpa using hb), hy⟩
    · rcases hm y hy0 (h.cl r hr hb y hy) with h1 | h1
      · exact .inl h1
      · exact .inr (by simp [h1])
  · rcases h1 with h1 | h1
    · rw [bg_mk σ hz hx, Bool.or_eq_true] at h1
      rcases h1 with h1 | h1
      · rw [show x = z by simpa using h1]
        exact h.so z hz.1 (.inr (by simp))
      · exact h.so x hx (.inl h1)
    · rcases List.mem_append.1 h1 with h1 | h1
      · exact h.so x hx (.inr (by simp [h1]))
      · obtain ⟨r, hr, hh, hy⟩ := push_mem.1 h1
        exact .next (h.so z hz.1 (.inr (by simp))) hr ((head_headD (hi r hr).1).1 hh) hy
theorem di_end {rs : List (List Int)} {s : Int} {n : Nat} {σ : List Bool} (h : DI rs s n σ []) (hi : Ins n rs) (hs : 0 ≤ s ∧ s < (n : Int)) : σ = reachR rs s n := by
  refine reach_eq hi hs h.len fun x hx => ⟨fun hb => h.so x hx (.inl hb), fun hr => ?_⟩
  induction hr with
  | start => exact h.st0.resolve_right (by simp)
  | next h1 hr hh hy ih =>
    have := ih (h1.in_ hi hs).1
    exact (h.cl _ hr (by rw [hh]; exact this) _ hy).resolve_right (by simp)
/-! marking what comes below, one thing at a time -/
structure Und (rs : List (List Int)) (s : Int) (σ τ : List Bool) : Prop where
  le : Le σ τ
  mark : bg τ s = true
  new : ∀ x, 0 ≤ x → bg τ x = true → bg σ x = true ∨ (Rch rs s x ∧ ∀ r ∈ rs, r.headD 0 = x → ∀ y ∈ r.drop 1, bg τ y = true)
structure UL (rs : List (List Int)) (s : Int) (σ τ : List Bool) : Prop where
  le : Le (mk σ s) τ
  new : ∀ x, 0 ≤ x → bg τ x = true → bg (mk σ s) x = true ∨ (Rch rs s x ∧ ∀ r ∈ rs, r.headD 0 = x → ∀ y ∈ r.drop 1, bg τ y = true)
theorem und_already {rs : List (List Int)} {s : Int} {σ : List Bool} (h : bg σ s = true) : Und rs s σ σ := ⟨le_refl σ, h, fun _ _ hb => .inl hb⟩
theorem ul_start (rs : List (List Int)) (s : Int) (σ : List Bool) : UL rs s σ (mk σ s) := ⟨le_refl _, fun _ _ hb => .inl hb⟩
theorem Rch.trans {rs : List (List Int)} {s y x : Int} (h : Rch rs s y) (h2 : Rch rs y x) : Rch rs s x := by
  induction h2 with
  | start => exact h
  | next _ hr hh hy ih => exact .next ih hr hh hy
theorem le_bg {σ τ : List Bool} (h : Le σ τ) {x : Int} (hb : bg σ x = true) : bg τ x = true := by
  have h1 : bg σ ((x.toNat : Nat) : Int) = true := by unfold bg at hb ⊢; rw [Int.toNat_natCast]; exact hb
  have h2 := h.2 x.toNat h1
  unfold bg at h2 ⊢
  rwa [Int.toNat_natCast] at h2
theorem ul_call {rs : List (List Int)} {s y : Int} {σ τ ρ : List Bool} {r : List Int} (h : UL rs s σ τ) (hr : r ∈ rs) (hh : r.headD 0 = s) (hy : y ∈ r.drop 1) (h2 : Und rs y τ ρ) : UL rs s σ ρ :=
  ⟨le_trans h.le h2.le, fun x hx hb => by
    rcases h2.new x hx hb with h3 | ⟨h3, h4⟩
    · rcases h.new x hx h3 with h5 | ⟨h5, h6⟩
      · exact .inl h5
      · exact .inr ⟨h5, fun r hr he z hz => le_bg h2.le (h6 r hr he z hz)⟩
    · exact .inr ⟨(Rch.next .start hr hh hy).trans h3, h4⟩⟩
theorem ul_end {rs : List (List Int)} {s : Int} {σ τ : List Bool} (hs : 0 ≤ s ∧ s < (σ.length : Int)) (h : UL rs s σ τ) (hall : ∀ r ∈ rs, r.headD 0 = s → ∀ y ∈ r.drop 1, bg τ y = true) : Und rs s σ τ :=
  ⟨le_trans (le_mk σ hs) h.le, le_bg h.le (by rw [bg_mk σ hs hs.1]; simp), fun x hx hb => by
    rcases h.new x hx hb with h5 | h5
    · rw [bg_mk σ hs hx, Bool.or_eq_true] at h5
      rcases h5 with h5 | h5
      · obtain rfl : x = s := by simpa using h5
        exact .inr ⟨.start, hall⟩
      · exact .inl h5
    · exact .inr h5⟩
theorem und_reach {rs : List (List Int)} {s : Int} {n : Nat} {τ : List Bool} (hi : Ins n rs) (hs : 0 ≤ s ∧ s < (n : Int)) (h : Und rs s (List.replicate n false) τ) : τ = reachR rs s n := by
  refine reach_eq hi hs (by rw [h.le.1]; simp) fun x hx => ⟨fun hb => ?_, fun hr => ?_⟩
  · rcases h.new x hx hb with h1 | h1
    · rw [bg_rep] at h1; cases h1
    · exact h1.1
  · induction hr with
    | start => exact h.mark
    | next h1 hr hh hy ih =>
      have hx1 := (h1.in_ hi hs).1
      rcases h.new _ hx1 (ih hx1) with h2 | h2
      · rw [bg_rep] at h2; cases h2
      · exact h2.2 _ hr hh _ hy
def reachF (g : Gr) : List Bool := if okB g then reachR g.rules g.start g.names.length else []
end Go.Proofs.Ytlppkbfkajionaa.Cm
