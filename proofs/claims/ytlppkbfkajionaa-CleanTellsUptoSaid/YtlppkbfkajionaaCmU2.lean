/- Grammars: done twice it is as done once. Plain facts, no program. -/
import Derived.Test.YtlppkbfkajionaaCmU1
namespace Go.Proofs.Ytlppkbfkajionaa.Cm
open Go
set_option linter.unusedSimpArgs false
set_option linter.unusedVariables false
set_option linter.unusedSectionVars false
theorem once_ok {g : Gr} (h : Ok g) : Ok (onceG g) ∧ (onceG g).rules.Nodup ∧ (onceG g).rules.length ≤ g.rules.length ∧ (onceG g).terms = g.terms ∧ (onceG g).start = g.start ∧ (onceG g).names = g.names ∧ ∀ r, r ∈ (onceG g).rules ↔ r ∈ g.rules := by
  obtain ⟨h1, h2⟩ := onceF_facts g.rules
  have h3 := (onceF_len g.rules).2
  rw [once_rules h]
  refine ⟨⟨h.t0, h.t1, h.tk, h.nm, ?_, Nat.le_trans h3 h.r2, h.st, fun r hr => h.fit r ((h2 r).1 hr), fun s hs1 hs2 => ?_⟩, h1, h3, rfl, rfl, rfl, h2⟩
  · obtain ⟨r, hr, _⟩ := h.each g.start h.start.1 h.start.2.2
    exact List.length_pos_of_mem ((h2 r).2 hr)
  · obtain ⟨r, hr, e⟩ := h.each s hs1 hs2
    exact ⟨r, (h2 r).2 hr, e⟩
theorem once_start {g : Gr} (h : Ok g) : bg (markF (onceG g) true) (onceG g).start = bg (markF g true) g.start := by
  obtain ⟨ho, -, -, ht, hs, hn, hr⟩ := once_ok h
  rw [Bool.eq_iff_iff, mark_iff ho ho.start.2, mark_iff h h.start.2, ht, hs]
  exact ⟨Prd.mono fun r h => (hr r).1 h, Prd.mono fun r h => (hr r).2 h⟩
section
variable {g : Gr}
theorem new_is (h : Ok g) (hp : Prd g.rules g.terms g.start) : usefulG g = ⟨(numF g).2, g.terms, g.tokens, rules2 (numF g).1 (below1 g) (rules1 g), lk (numF g).1 g.start⟩ := by
  unfold usefulG
  rw [(okB_iff g).2 h, (mark_iff h h.start.2).2 hp]
  rfl
theorem reach_prd (h : Ok g) (hp : Prd g.rules g.terms g.start) {x : Int} (hr : Rch (rules1 g) g.start x) : Prd g.rules g.terms x := by
  cases hr with
  | start => exact hp
  | next _ hr _ hy => exact ((rules1_mem h).1 hr).2 _ hy
theorem reach_in (h : Ok g) {x : Int} (hr : Rch (rules1 g) g.start x) : 0 ≤ x ∧ x < (g.names.length : Int) := hr.in_ (fun r hr => h.ins r ((rules1_mem h).1 hr).1) h.start.2
/-- a symbol that stays -/
theorem new_num (h : Ok g) {x : Int} (hx : 0 ≤ x ∧ x < (g.names.length : Int)) (hk : x < g.terms ∨ Rch (rules1 g) g.start x) : lk (numF g).1 x = (cn g (below1 g) x.toNat : Int) ∧ kp g (below1 g) x.toNat = true := by
  have hk2 : kp g (below1 g) x.toNat = true := (kp_iff hx.1).2 (hk.imp id (below1_iff h hx.1).2)
  exact ⟨by rw [lk_is hx, if_pos hk2], hk2⟩
theorem new_lt (h : Ok g) {x : Int} (hx : 0 ≤ x ∧ x < (g.names.length : Int)) (hk : x < g.terms ∨ Rch (rules1 g) g.start x) : 0 ≤ lk (numF g).1 x ∧ lk (numF g).1 x < ((numF g).2.length : Int) := by
  obtain ⟨h1, h2⟩ := new_num h hx hk
  have := cn_lt (show x.toNat < g.names.length by omega) h2
  have e : (numF g).2.length = cn g (below1 g) g.names.length := rfl
  omega
theorem new_term (h : Ok g) {x : Int} (hx : 0 ≤ x ∧ x < g.terms) : lk (numF g).1 x = x := by
  have ht := h.t1
  rw [(new_num h ⟨hx.1, by omega⟩ (.inl hx.2)).1, cn_terms (by omega)]
  omega
theorem new_made (h : Ok g) {x : Int} (hx : g.terms ≤ x) (hr : Rch (rules1 g) g.start x) : g.terms ≤ lk (numF g).1 x := by
  have hi := reach_in h hr
  have ht := h.t0
  rw [(new_num h hi (.inr hr)).1]
  have h1 := cn_mono (g := g) (τ := below1 g) (show g.terms.toNat ≤ x.toNat by omega)
  rw [cn_terms (show ((g.terms.toNat : Nat) : Int) ≤ g.terms by omega)] at h1
  omega
theorem new_inj (h : Ok g) {x y : Int} (hx : 0 ≤ x ∧ x < (g.names.length : Int)) (hy : 0 ≤ y ∧ y < (g.names.length : Int)) (hkx : x < g.terms ∨ Rch (rules1 g) g.start x) (hky : y < g.terms ∨ Rch (rules1 g) g.start y) (e : lk (numF g).1 x = lk (numF g).1 y) : x = y := by
  obtain ⟨h1, h2⟩ := new_num h hx hkx
  obtain ⟨h3, h4⟩ := new_num h hy hky
  have := cn_inj h2 h4 (by omega)
  omega
theorem new_surj (h : Ok g) {s : Int} (h1 : g.terms ≤ s) (h2 : s < ((numF g).2.length : Int)) : ∃ x, g.terms ≤ x ∧ Rch (rules1 g) g.start x ∧ lk (numF g).1 x = s := by
  have ht := h.t0
  obtain ⟨i, hi, hk, hc⟩ := cn_surj (g := g) (τ := below1 g) (k := g.names.length) (j := s.toNat) (by have e : (numF g).2.length = cn g (below1 g) g.names.length := rfl; omega)
  have hge : g.terms ≤ (i : Int) := by
    apply Classical.byContradiction
    intro hn
    rw [cn_terms (by omega)] at hc
    omega
  have hr : Rch (rules1 g) g.start (i : Int) := by
    rcases (kp_iff (x := (i : Int)) (by omega)).1 (by rwa [Int.toNat_natCast]) with h3 | h3
    · omega
    · exact (below1_iff h (by omega)).1 h3
  refine ⟨i, hge, hr, ?_⟩
  rw [(new_num h ⟨by omega, by omega⟩ (.inr hr)).1, Int.toNat_natCast, hc]
  omega
theorem rules2_mem (h : Ok g) {q : List Int} : q ∈ rules2 (numF g).1 (below1 g) (rules1 g) ↔ ∃ r, r ∈ rules1 g ∧ Rch (rules1 g) g.start (r.headD 0) ∧ q = r.map (lk (numF g).1) := by
  unfold rules2
  rw [List.mem_map]
  constructor
  · rintro ⟨r, hr, rfl⟩
    obtain ⟨h1, h2⟩ := List.mem_filter.1 hr
    exact ⟨r, h1, (below1_iff h (h.fits ((rules1_mem h).1 h1).1).head.2.1).1 h2, rfl⟩
  · rintro ⟨r, h1, h2, rfl⟩
    exact ⟨r, List.mem_filter.2 ⟨h1, (below1_iff h (h.fits ((rules1_mem h).1 h1).1).head.2.1).2 h2⟩, rfl⟩
theorem kept_all (h : Ok g) {r : List Int} (hr : r ∈ rules1 g) (hh : Rch (rules1 g) g.start (r.headD 0)) : ∀ y ∈ r, (0 ≤ y ∧ y < (g.names.length : Int)) ∧ Rch (rules1 g) g.start y := fun y hy => by
  refine ⟨(h.ins r ((rules1_mem h).1 hr).1).2 y hy, ?_⟩
  rcases mem_head_drop hy with rfl | hd
  · exact hh
  · exact .next hh hr rfl hd
theorem map_headD {r : List Int} {f : Int → Int} (hp : 0 < r.length) : (r.map f).headD 0 = f (r.headD 0) := by
  cases r with
  | nil => simp at hp
  | cons x r => rfl
theorem useful_ok (h : Ok g) (hp : Prd g.rules g.terms g.start) : Ok (usefulG g) := by
  rw [new_is h hp]
  have hs := h.start
  have hfit : ∀ q ∈ rules2 (numF g).1 (below1 g) (rules1 g), fitsB ⟨(numF g).2, g.terms, g.tokens, rules2 (numF g).1 (below1 g) (rules1 g), lk (numF g).1 g.start⟩ q = true := fun q hq => by
    obtain ⟨r, h1, h2, rfl⟩ := (rules2_mem h).1 hq
    have hf := h.fits ((rules1_mem h).1 h1).1
    have hk := kept_all h h1 h2
    have hm := new_made h hf.head.1 h2
    have hl := new_lt h ⟨hf.head.2.1, hf.head.2.2⟩ (.inr h2)
    refine fitsB_iff.2 ⟨by rw [List.length_map]; exact hf.pos, by rw [List.length_map]; exact hf.len, ?_, fun x hx => ?_⟩
    · rw [map_headD hf.pos]
      exact ⟨hm, hl.1, hl.2⟩
    · rw [← List.map_drop] at hx
      obtain ⟨y, hy, rfl⟩ := List.mem_map.1 hx
      obtain ⟨h5, h6⟩ := hk y (List.mem_of_mem_drop hy)
      exact new_lt h h5 (.inr h6)
  have heach : ∀ s : Int, g.terms ≤ s → s < ((numF g).2.length : Int) → ∃ r ∈ rules2 (numF g).1 (below1 g) (rules1 g), r.headD 0 = s := fun s h1 h2 => by
    obtain ⟨x, hx1, hx2, rfl⟩ := new_surj h h1 h2
    rcases (reach_prd h hp hx2).cases' with h3 | ⟨r, hr, rfl, hd⟩
    · omega
    · refine ⟨r.map (lk (numF g).1), (rules2_mem h).2 ⟨r, (rules1_mem h).2 ⟨hr, hd⟩, hx2, rfl⟩, map_headD (h.fits hr).pos⟩
  have hst1 := new_made h hs.1 .start
  have hst2 := new_lt h hs.2 (.inr .start)
  have hlen := (numS_len g (below1 g) g.names.length).2
  refine ⟨h.t0, ?_, h.tk, Nat.le_trans hlen h.nm, ?_, ?_, madeB_iff.2 ⟨hst1, hst2⟩, hfit, heach⟩
  · have e := cn_mono (g := g) (τ := below1 g) (show g.terms.toNat ≤ g.names.length by have := h.t1; omega)
    rw [cn_terms (by have := h.t0; omega)] at e
    have := h.t0
    show g.terms ≤ ((cn g (below1 g) g.names.length : Nat) : Int)
    omega
  · obtain ⟨r, hr, _⟩ := heach _ hst1 hst2.2
    exact List.length_pos_of_mem hr
  · refine Nat.le_trans (rules2_len _ _ _) (Nat.le_trans ?_ h.r2)
    exact List.length_filter_le _ _
theorem useful_is_full (h : Ok g) (hp : Prd g.rules g.terms g.start) : Full (usefulG g) := by
  rw [new_is h hp]
  intro s h1 h2
  obtain ⟨x, hx1, hx2, rfl⟩ := new_surj h h1 h2
  constructor
  · have key : ∀ x, Prd g.rules g.terms x → 0 ≤ x → Rch (rules1 g) g.start x ∨ x < g.terms → Prd (rules2 (numF g).1 (below1 g) (rules1 g)) g.terms (lk (numF g).1 x) := by
      intro x hx
      induction hx with
      | @term x hlt => intro h0 _; rw [new_term h ⟨h0, hlt⟩]; exact .term hlt
      | @rule r hr hd ih =>
        intro h0 hk
        have hf := h.fits hr
        have hk : Rch (rules1 g) g.start (r.headD 0) := hk.elim id fun e => by have := hf.head.1; omega
        have hr1 : r ∈ rules1 g := (rules1_mem h).2 ⟨hr, hd⟩
        have hall := kept_all h hr1 hk
        rw [← map_headD (f := lk (numF g).1) hf.pos]
        refine .rule ((rules2_mem h).2 ⟨r, hr1, hk, rfl⟩) fun y hy => ?_
        rw [← List.map_drop] at hy
        obtain ⟨z, hz, rfl⟩ := List.mem_map.1 hy
        obtain ⟨h3, h4⟩ := hall z (List.mem_of_mem_drop hz)
        exact ih z hz h3.1 (.inl h4)
    exact key x (reach_prd h hp hx2) (reach_in h hx2).1 (.inl hx2)
  · have key : ∀ x, Rch (rules1 g) g.start x → Rch (rules2 (numF g).1 (below1 g) (rules1 g)) (lk (numF g).1 g.start) (lk (numF g).1 x) := by
      intro x hx
      induction hx with
      | start => exact .start
      | @next x y r hx hr hh hy ih =>
        subst hh
        have hf := h.fits ((rules1_mem h).1 hr).1
        refine .next ih ((rules2_mem h).2 ⟨r, hr, hx, rfl⟩) (map_headD hf.pos) ?_
        rw [← List.map_drop]
        exact List.mem_map_of_mem hy
    exact key x hx2
theorem useful_nodup (h : Ok g) (hp : Prd g.rules g.terms g.start) (hn : g.rules.Nodup) : (usefulG g).rules.Nodup := by
  rw [new_is h hp]
  have hsub : ((rules1 g).filter fun r => bg (below1 g) (r.headD 0)).Nodup := (hn.sublist List.filter_sublist).sublist List.filter_sublist
  show ((((rules1 g).filter fun r => bg (below1 g) (r.headD 0)).map fun r => r.map (lk (numF g).1))).Nodup
  refine List.pairwise_map.2 ((List.Pairwise.and_mem.1 hsub).imp fun {a b} hab e => ?_)
  obtain ⟨ha, hb, hne⟩ := hab
  have hin : ∀ r ∈ (rules1 g).filter (fun r => bg (below1 g) (r.headD 0)), ∀ y ∈ r, (0 ≤ y ∧ y < (g.names.length : Int)) ∧ Rch (rules1 g) g.start y := fun r hr => by
    obtain ⟨h1, h2⟩ := List.mem_filter.1 hr
    exact kept_all h h1 ((below1_iff h (h.fits ((rules1_mem h).1 h1).1).head.2.1).1 h2)
  have ha' := hin a ha
  have hb' := hin b hb
  refine hne ?_
  have key : ∀ (a b : List Int), (∀ y ∈ a, (0 ≤ y ∧ y < (g.names.length : Int)) ∧ Rch (rules1 g) g.start y) → (∀ y ∈ b, (0 ≤ y ∧ y < (g.names.length : Int)) ∧ Rch (rules1 g) g.start y) → a.map (lk (numF g).1) = b.map (lk (numF g).1) → a = b := by
    intro a
    induction a with
    | nil => intro b _ _ e; cases b with
      | nil => rfl
      | cons y b => simp at e
    | cons x a ih =>
      intro b h1 h2 e
      cases b with
      | nil => simp at e
      | cons y b =>
        simp only [List.map_cons, List.cons.injEq] at e
        obtain ⟨hx1, hx2⟩ := h1 x (by simp)
        obtain ⟨hy1, hy2⟩ := h2 y (by simp)
        rw [new_inj h hx1 hy1 (.inr hx2) (.inr hy2) e.1, ih b (fun z hz => h1 z (by simp [hz])) (fun z hz => h2 z (by simp [hz])) e.2]
  exact key a b ha' hb' e
theorem useful_fewer (h : Ok g) (hp : Prd g.rules g.terms g.start) : (usefulG g).rules.length ≤ g.rules.length := by
  rw [new_is h hp]
  refine Nat.le_trans (rules2_len _ _ _) ?_
  exact List.length_filter_le _ _
end
/-- all that is told of doing it twice -/
theorem twice {g : Gr} (h : Ok g) : onceG (onceG g) = onceG g ∧ Ok (onceG g) ∧ (usefulE (onceG g) = 0 ∨ usefulE (onceG g) = 152 ∧ bg (markF g true) g.start = false) ∧
    (usefulE (onceG g) = 0 → Ok (usefulG (onceG g)) ∧ usefulE (usefulG (onceG g)) = 0 ∧ usefulG (usefulG (onceG g)) = usefulG (onceG g) ∧ isB (usefulG (onceG g)) = true ∧ (usefulG (onceG g)).rules.length ≤ g.rules.length) := by
  obtain ⟨ho, hn, hl, -, -, -, -⟩ := once_ok h
  have he : usefulE (onceG g) = if bg (markF g true) g.start then 0 else 152 := by
    unfold usefulE
    rw [if_pos ((okB_iff _).2 ho), once_start h]
  refine ⟨once_same ho hn, ho, ?_, fun h0 => ?_⟩
  · rw [he]
    cases hb : bg (markF g true) g.start with
    | true => exact .inl rfl
    | false => exact .inr ⟨rfl, rfl⟩
  · have hp : Prd (onceG g).rules (onceG g).terms (onceG g).start := by
      rw [he] at h0
      split at h0
      · rename_i hb
        exact (mark_iff ho ho.start.2).1 (by rw [once_start h]; exact hb)
      · cases h0
    have hu := useful_ok ho hp
    have hf := useful_is_full ho hp
    obtain ⟨h1, h2⟩ := full_useful hu hf
    refine ⟨hu, h1, h2, ?_, Nat.le_trans (useful_fewer ho hp) hl⟩
    rw [isB_eq]
    unfold isR
    rw [h1, h2, once_same hu (useful_nodup ho hp hn)]
    simp
end Go.Proofs.Ytlppkbfkajionaa.Cm
