/- Grammars: what may be, which rules make a symbol. Plain facts, no program. -/
import Derived.Test.YtlppkbfkajionaaCmM
namespace Go.Proofs.Ytlppkbfkajionaa.Cm
open Go
set_option linter.unusedSimpArgs false
set_option linter.unusedVariables false
set_option linter.unusedSectionVars false
def symB (g : Gr) (n : Int) : Bool := decide (0 ≤ n) && decide (n < (g.names.length : Int))
def madeB (g : Gr) (n : Int) : Bool := decide (g.terms ≤ n) && symB g n
def fitsB (g : Gr) (r : List Int) : Bool := decide (0 < r.length) && decide (r.length ≤ 9) && madeB g (r.headD 0) && (r.drop 1).all (symB g)
/-- the rules that make a symbol, by their number -/
def byL (rs : List (List Int)) (s : Int) : List Int := (rs.zipIdx.filter (fun x => x.1.head? == some s)).map (fun x => (x.2 : Int))
theorem byL_snoc (rs : List (List Int)) (r : List Int) (s : Int) : byL (rs ++ [r]) s = byL rs s ++ (if r.head? == some s then [(rs.length : Int)] else []) := by
  unfold byL
  rw [List.zipIdx_append, List.filter_append, List.map_append]
  congr 1
  simp only [Nat.zero_add, List.zipIdx_cons, List.zipIdx_nil, List.filter_cons, List.filter_nil]
  split <;> simp
theorem byL_len (rs : List (List Int)) (s : Int) : (byL rs s).length ≤ rs.length := by
  unfold byL
  rw [List.length_map]
  refine Nat.le_trans (List.length_filter_le _ _) ?_
  simp
theorem byL_mem {rs : List (List Int)} {s x : Int} : x ∈ byL rs s ↔ ∃ k : Nat, x = k ∧ ∃ r, rs[k]? = some r ∧ r.head? = some s := by
  unfold byL
  rw [List.mem_map]
  constructor
  · rintro ⟨⟨r, k⟩, h, rfl⟩
    obtain ⟨h1, h2⟩ := List.mem_filter.1 h
    have := List.mem_zipIdx_iff_getElem?.1 h1
    exact ⟨k, rfl, r, by simpa using this, by simpa using h2⟩
  · rintro ⟨k, rfl, r, h1, h2⟩
    exact ⟨(r, k), List.mem_filter.2 ⟨List.mem_zipIdx_iff_getElem?.2 (by simpa using h1), by simpa using h2⟩, rfl⟩
structure Ok (g : Gr) : Prop where
  t0 : 0 ≤ g.terms
  t1 : g.terms ≤ (g.names.length : Int)
  tk : (g.tokens.length : Int) = g.terms
  nm : g.names.length ≤ 128
  r1 : 1 ≤ g.rules.length
  r2 : g.rules.length ≤ 256
  st : madeB g g.start = true
  fit : ∀ r ∈ g.rules, fitsB g r = true
  each : ∀ s : Int, g.terms ≤ s → s < (g.names.length : Int) → ∃ r ∈ g.rules, r.headD 0 = s
def okB (g : Gr) : Bool :=
  decide (0 ≤ g.terms) && decide (g.terms ≤ (g.names.length : Int)) && decide ((g.tokens.length : Int) = g.terms) && decide (g.names.length ≤ 128) && decide (1 ≤ g.rules.length) && decide (g.rules.length ≤ 256) && madeB g g.start &&
    g.rules.all (fitsB g) && ((List.range (g.names.length - g.terms.toNat)).all fun i => g.rules.any fun r => decide (r.headD 0 = g.terms + (i : Int)))
theorem okB_iff (g : Gr) : okB g = true ↔ Ok g := by
  constructor
  · intro h
    simp only [okB, Bool.and_eq_true, decide_eq_true_eq, List.all_eq_true, List.any_eq_true, List.mem_range] at h
    obtain ⟨⟨⟨⟨⟨⟨⟨⟨h1, h2⟩, h3⟩, h4⟩, h5⟩, h6⟩, h7⟩, h8⟩, h9⟩ := h
    refine ⟨h1, h2, h3, h4, h5, h6, h7, h8, fun s hs1 hs2 => ?_⟩
    obtain ⟨r, hr, e⟩ := h9 (s - g.terms).toNat (by omega)
    exact ⟨r, hr, by omega⟩
  · rintro ⟨h1, h2, h3, h4, h5, h6, h7, h8, h9⟩
    simp only [okB, Bool.and_eq_true, decide_eq_true_eq, List.all_eq_true, List.any_eq_true, List.mem_range]
    refine ⟨⟨⟨⟨⟨⟨⟨⟨h1, h2⟩, h3⟩, h4⟩, h5⟩, h6⟩, h7⟩, h8⟩, fun i hi => ?_⟩
    obtain ⟨r, hr, e⟩ := h9 (g.terms + (i : Int)) (by omega) (by omega)
    exact ⟨r, hr, e⟩
def okE (g : Gr) : Int := if okB g then 0 else 1
theorem okE_no {g : Gr} (h : ¬ Ok g) : okE g = 1 := by
  unfold okE
  rw [if_neg (fun e => h ((okB_iff g).1 e))]
theorem okE_yes {g : Gr} (h : Ok g) : okE g = 0 := by
  unfold okE
  rw [if_pos ((okB_iff g).2 h)]
structure Fit (g : Gr) (r : List Int) : Prop where
  pos : 0 < r.length
  len : r.length ≤ 9
  head : g.terms ≤ r.headD 0 ∧ 0 ≤ r.headD 0 ∧ r.headD 0 < (g.names.length : Int)
  rest : ∀ x ∈ r.drop 1, 0 ≤ x ∧ x < (g.names.length : Int)
theorem symB_iff {g : Gr} {n : Int} : symB g n = true ↔ 0 ≤ n ∧ n < (g.names.length : Int) := by simp [symB]
theorem madeB_iff {g : Gr} {n : Int} : madeB g n = true ↔ g.terms ≤ n ∧ 0 ≤ n ∧ n < (g.names.length : Int) := by simp [madeB, symB_iff]
theorem fitsB_iff {g : Gr} {r : List Int} : fitsB g r = true ↔ Fit g r := by
  unfold fitsB
  simp only [Bool.and_eq_true, decide_eq_true_eq, madeB_iff, List.all_eq_true, symB_iff]
  constructor
  · rintro ⟨⟨⟨h1, h2⟩, h3⟩, h4⟩; exact ⟨h1, h2, h3, h4⟩
  · rintro ⟨h1, h2, h3, h4⟩; exact ⟨⟨⟨h1, h2⟩, h3⟩, h4⟩
theorem Fit.all {g : Gr} {r : List Int} (h : Fit g r) : ∀ x ∈ r, 0 ≤ x ∧ x < (g.names.length : Int) := fun x hx => by
  cases r with
  | nil => cases hx
  | cons y r =>
    rcases List.mem_cons.1 hx with rfl | hx
    · exact h.head.2
    · exact h.rest x (by simpa using hx)
theorem Ok.fits {g : Gr} (h : Ok g) {r : List Int} (hr : r ∈ g.rules) : Fit g r := fitsB_iff.1 (h.fit r hr)
theorem Ok.start {g : Gr} (h : Ok g) : g.terms ≤ g.start ∧ 0 ≤ g.start ∧ g.start < (g.names.length : Int) := madeB_iff.1 h.st
/-- lists without repeats -/
theorem nodup_sub_len {α : Type} [DecidableEq α] : ∀ (A B : List α), A.Pairwise (· ≠ ·) → (∀ x ∈ A, x ∈ B) → A.length ≤ B.length
  | [], B, _, _ => by simp
  | x :: A, B, h, hs => by
    obtain ⟨h1, h2⟩ := List.pairwise_cons.1 h
    have hx : x ∈ B := hs x (by simp)
    have := nodup_sub_len A (B.erase x) h2 (fun y hy => (List.mem_erase_of_ne (fun e => h1 y hy e.symm)).2 (hs y (by simp [hy])))
    rw [List.length_erase_of_mem hx] at this
    have hp : 0 < B.length := List.length_pos_of_mem hx
    rw [List.length_cons]; omega
def upto (a : Int) (n : Nat) : List Int := (List.range n).map (fun i : Nat => a + (i : Int))
theorem upto_mem {a : Int} {n : Nat} {x : Int} : x ∈ upto a n ↔ a ≤ x ∧ x < a + n := by
  unfold upto
  rw [List.mem_map]
  constructor
  · rintro ⟨i, hi, rfl⟩
    have := List.mem_range.1 hi
    omega
  · rintro ⟨h1, h2⟩
    exact ⟨(x - a).toNat, List.mem_range.2 (by omega), by omega⟩
theorem upto_apart (a : Int) (n : Nat) : (upto a n).Pairwise (· ≠ ·) := by
  refine List.pairwise_map.2 (List.Pairwise.imp (R := fun x y : Nat => x ≠ y) ?_ List.nodup_range)
  intro x y h e
  exact h (by have e2 : a + (x : Int) = a + (y : Int) := e; omega)
theorem heads_all {L : List Int} {a : Int} {n : Nat} (h : L.Pairwise (· ≠ ·)) (hin : ∀ x ∈ L, a ≤ x ∧ x < a + n) : L.length = n ↔ ∀ s, a ≤ s → s < a + n → s ∈ L := by
  have hl : (upto a n).length = n := by simp [upto]
  constructor
  · intro e s h1 h2
    apply Classical.byContradiction
    intro hn
    have := nodup_sub_len (s :: L) (upto a n) (List.pairwise_cons.2 ⟨fun y hy e2 => hn (e2 ▸ hy), h⟩) (fun x hx => by
      rcases List.mem_cons.1 hx with rfl | hx
      · exact upto_mem.2 ⟨h1, h2⟩
      · exact upto_mem.2 (hin x hx))
    rw [List.length_cons, hl] at this
    omega
  · intro hall
    have h1 := nodup_sub_len L (upto a n) h (fun x hx => upto_mem.2 (hin x hx))
    have h2 := nodup_sub_len (upto a n) L (upto_apart a n) (fun x hx => hall x (upto_mem.1 hx).1 (upto_mem.1 hx).2)
    omega
end Go.Proofs.Ytlppkbfkajionaa.Cm
