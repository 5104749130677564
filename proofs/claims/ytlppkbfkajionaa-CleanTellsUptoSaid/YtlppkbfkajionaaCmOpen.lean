/- Grammars that come in: opened. -/
import Derived.Test.YtlppkbfkajionaaCmD1
import Derived.Test.YtlppkbfkajionaaRows
import Derived.ProofKit
import Derived.OpenShut
import Derived.JoinedCond
import Derived.SliceStrings
import Derived.Deep.Slices
import Derived.Deep.Fields
namespace Go.Proofs.Ytlppkbfkajionaa.Cm
open Go.ChangeShapes Go.WideShapes Go.ChangeAt Go.WideMaps Go.WideElems Go.ChangeMaps Go.RowKit Gw Go.Deep
set_option linter.unusedSimpArgs false
set_option linter.unusedVariables false
set_option linter.unusedSectionVars false
theorem own : ownKnob Try.prog.godebug = none := by kernel_rfl
theorem laidOut : laidOutB Try.prog = true := by kernel_rfl
theorem cells_gm : Try.prog.cellsOf 53 = 5 := by kernel_rfl
theorem one_cell_ints : Try.prog.cellsOf 50 = 1 := by kernel_rfl
theorem bulk_part {H : Type} {d : DataW H} {l : List (DataW H)} (h : d ∈ l) : Rows.uptoBulk d ≤ Rows.uptoBulkAll l := by
  induction l with
  | nil => cases h
  | cons x r ih =>
    simp only [Rows.uptoBulkAll]
    cases List.mem_cons.1 h with
    | inl e => subst e; omega
    | inr e => have := ih e; omega
theorem cell_at {w : World} {a : Addr} {i : Nat} {u0 u : Value} (h0 : w.cell? (a.add 0) = some u0) (h : w.cell? (a.add i) = some u) : ∃ g o, a = ⟨g, o, none⟩ ∧ w.cell? ⟨g, o + i * 1, none⟩ = some u := by
  obtain ⟨b, off, spot⟩ := a
  have hs : spot = none := by simpa [Addr.add] using World.cell?_spot h0
  subst hs
  exact ⟨b, off, rfl, by rw [Addr.add_mid] at h; rw [Nat.mul_one]; exact h⟩
section
variable {H : Type} {enc : TypeId × Value → H} {w : World} {base : Nat} {sp : Nat → Bool} {held : Bool}
/-- a row of numbers that came in -/
theorem open_rvi {fuel : Nat} {cs : List Value} {y : DataW H × List MemPlace} (hf : DataW.trod enc Try.prog w base sp held fuel 50 cs = some y) : ∃ (q : Option Addr) (c : Nat) (ks : List Int), cs = [.slice q ks.length c] ∧ Rv w q c (ks.map iv) := by
  rcases Go.ChangeShapes.open_ints Try.underlying50 Try.underlying3 (by kernel_rfl) hf with ⟨rfl, _⟩ | ⟨a, len, cap, zs, rfl, _, hl, hm, hz, _, hc, _⟩
  · exact ⟨none, 0, [], rfl, Rv.nil w⟩
  · have hle : len ≤ zs.length := by rw [hz]; split <;> omega
    have hlen : (zs.take len).length = len := by rw [List.length_take]; omega
    refine ⟨some a, cap, zs.take len, by rw [hlen], ⟨by rw [List.length_map, hlen]; simp [maxLen] at hm; omega, fun i u hu => ?_⟩⟩
    rw [List.getElem?_map, Option.map_eq_some_iff] at hu
    obtain ⟨x, hx, rfl⟩ := hu
    have hi : i < len := by have := (List.getElem?_eq_some_iff.1 hx).1; omega
    rw [List.getElem?_take, if_pos hi] at hx
    have h1 := hc i (by omega)
    rw [List.getD_eq_getElem?_getD, hx] at h1
    obtain ⟨g, o, rfl, h2⟩ := cell_at (hc 0 (by omega)) h1
    exact ⟨g, o, rfl, h2⟩
/-- a row of texts that came in -/
theorem open_rvs {fuel : Nat} {cs : List Value} {y : DataW H × List MemPlace} (hf : DataW.trod enc Try.prog w base sp held fuel 49 cs = some y) : ∃ (q : Option Addr) (c : Nat) (ts : List Bs), cs = [.slice q ts.length c] ∧ Rv w q c (ts.map sv) ∧ ∀ t ∈ ts, t.length + 1 ≤ Rows.uptoBulk y.1 := by
  rcases open_strings Try.underlying49 Try.underlying9 (by kernel_rfl) hf with ⟨rfl, _⟩ | ⟨a, len, cap, ss, rfl, _, hl, hm, hz, rfl, hc, _⟩
  · exact ⟨none, 0, [], rfl, Rv.nil w, fun t ht => by cases ht⟩
  · have hle : len ≤ ss.length := by rw [hz]; split <;> omega
    have hlen : ((ss.take len).map fun s => s.data.toList).length = len := by rw [List.length_map, List.length_take]; omega
    refine ⟨some a, cap, (ss.take len).map fun s => s.data.toList, by rw [hlen], ⟨by rw [List.length_map, hlen]; simp [maxLen] at hm; omega, fun i u hu => ?_⟩, fun t ht => ?_⟩
    · rw [List.getElem?_map, List.getElem?_map, Option.map_eq_some_iff] at hu
      obtain ⟨x, hx, rfl⟩ := hu
      rw [Option.map_eq_some_iff] at hx
      obtain ⟨s, hs, rfl⟩ := hx
      have hi : i < len := by have := (List.getElem?_eq_some_iff.1 hs).1; rw [List.length_take] at this; omega
      rw [List.getElem?_take, if_pos hi] at hs
      have h1 := hc i (by omega)
      rw [List.getD_eq_getElem?_getD, hs] at h1
      obtain ⟨g, o, rfl, h2⟩ := cell_at (hc 0 (by omega)) h1
      exact ⟨g, o, rfl, by rw [h2]; exact congrArg some (congrArg Value.string (toB_list s).symm)⟩
    · obtain ⟨s, hs, rfl⟩ := List.mem_map.1 ht
      have hm : (DataW.lit (.string s.data.toList) : DataW H) ∈ strs (ss.take len) := List.mem_map.2 ⟨s, hs, rfl⟩
      have h1 := bulk_part hm
      simp only [Rows.uptoBulk] at h1 ⊢
      omega
/-- rows of numbers that came in -/
theorem open_rr {fuel : Nat} {cs : List Value} {y : DataW H × List MemPlace} (hf : DataW.trod enc Try.prog w base sp held fuel 51 cs = some y) : ∃ (q : Option Addr) (c : Nat) (rs : List (List Int)), cs = [.slice q rs.length c] ∧ Rr w q c rs := by
  rcases open_slice1 Try.underlying51 one_cell_ints hf with ⟨rfl, _⟩ | ⟨a, len, cap, m, n, V, D, Pl, rfl, _, hl, hm, hmm, rfl, hx⟩
  · exact ⟨none, 0, [], rfl, ⟨by simp, fun i r h => by simp at h⟩⟩
  · have hle : len ≤ m := by rw [hmm]; split <;> omega
    obtain ⟨F, hF⟩ := choose_lt (α := List Int) (n := len) (p := fun i ks => ∃ q c, V i = .slice q ks.length c ∧ Rv w q c (ks.map iv)) (fun i hi => by
      obtain ⟨q, c, ks, h1, h2⟩ := open_rvi (hx i (by omega)).2
      simp only [List.cons.injEq, and_true] at h1
      exact ⟨ks, q, c, h1, h2⟩)
    have hlen : ((List.range len).map F).length = len := by simp
    refine ⟨some a, cap, (List.range len).map F, by rw [hlen], ⟨by rw [hlen]; simp [maxLen] at hm; omega, fun i r hr => ?_⟩⟩
    have hi : i < len := by have := (List.getElem?_eq_some_iff.1 hr).1; omega
    rw [List.getElem?_map, List.getElem?_range hi] at hr
    obtain rfl : F i = r := by simpa using hr
    obtain ⟨q, c, h1, h2⟩ := hF i hi
    obtain ⟨g, o, rfl, h3⟩ := cell_at (hx 0 (by omega)).1 (hx i (by omega)).1
    exact ⟨g, o, q, c, rfl, by rw [h3, h1], h2⟩
theorem array5 {α : Type} {cs : Array α} (h : cs.size = 5) : ∃ c0 c1 c2 c3 c4, cs = #[c0, c1, c2, c3, c4] := by
  obtain ⟨l⟩ := cs
  match l, h with
  | [c0, c1, c2, c3, c4], _ => exact ⟨c0, c1, c2, c3, c4, rfl⟩
theorem list5 {α : Type} {cs : List α} (h : cs.length = 5) : ∃ c0 c1 c2 c3 c4, cs = [c0, c1, c2, c3, c4] := by
  match cs, h with
  | [c0, c1, c2, c3, c4], _ => exact ⟨c0, c1, c2, c3, c4, rfl⟩
set_option maxRecDepth 100000 in
/-- a grammar that came in -/
theorem open_gm {r : Reach} {b0 : Nat} {v : Value} {d : DataW H} {p : List MemPlace} (hval : Value.okWide Try.prog w r b0 53 v) (h : DataW.Trod enc Try.prog w base sp held 53 v d p) (hb : Rows.uptoBulk d ≤ 1048576) : ∃ x g, v = .agg (gC x g).toArray ∧ Gm w x g ∧ Short g := by
  obtain ⟨cs, rfl, hsz⟩ := okWide_struct Try.underlying53 hval
  obtain ⟨c0, c1, c2, c3, c4, rfl⟩ := array5 (hsz.trans cells_gm)
  obtain ⟨fuel, hf⟩ := h
  obtain ⟨xs, n, -, hx, -, hlen, hel⟩ := DataW.trod_struct Try.underlying53 hf
  obtain ⟨y0, y1, y2, y3, y4, rfl⟩ := list5 hlen
  have f0 : DataW.trod enc Try.prog w base sp held n 49 [c0] = some y0 := hel 0 _ rfl
  have f1 : DataW.trod enc Try.prog w base sp held n 3 [c1] = some y1 := hel 1 _ rfl
  have f2 : DataW.trod enc Try.prog w base sp held n 50 [c2] = some y2 := hel 2 _ rfl
  have f3 : DataW.trod enc Try.prog w base sp held n 51 [c3] = some y3 := hel 3 _ rfl
  have f4 : DataW.trod enc Try.prog w base sp held n 3 [c4] = some y4 := hel 4 _ rfl
  obtain ⟨p0, k0, ts, e0, h0, hs⟩ := open_rvs f0
  obtain ⟨z1, e1, -, -⟩ := DataW.trod_int Try.underlying3 f1
  obtain ⟨p2, k2, ks, e2, h2⟩ := open_rvi f2
  obtain ⟨p3, k3, rs, e3, h3⟩ := open_rr f3
  obtain ⟨z4, e4, -, -⟩ := DataW.trod_int Try.underlying3 f4
  simp only [List.cons.injEq, and_true] at e0 e1 e2 e3 e4
  subst e0 e1 e2 e3 e4
  refine ⟨⟨p0, k0, p2, k2, p3, k3⟩, ⟨ts, z1, ks, rs, z4⟩, rfl, ⟨h0, h2, h3⟩, fun t ht => ?_⟩
  have h5 := hs t ht
  have h6 : d = .agg [y0.1, y1.1, y2.1, y3.1, y4.1] := congrArg Prod.fst hx
  rw [h6] at hb
  have h7 := bulk_part (d := y0.1) (l := [y0.1, y1.1, y2.1, y3.1, y4.1]) (by simp)
  simp only [Rows.uptoBulk] at hb
  omega
end
end Go.Proofs.Ytlppkbfkajionaa.Cm
