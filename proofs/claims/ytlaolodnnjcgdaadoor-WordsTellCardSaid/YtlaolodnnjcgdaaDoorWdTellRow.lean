/- Proved: at every input WordsTell answers true and leaves its argument as it was; what the program's text lays reads as it lays it. -/
import Derived.Test.YtlaolodnnjcgdaaDoorRows
import Derived.Test.YtlaolodnnjcgdaaDoorCards
import Derived.Test.YtlaolodnnjcgdaaDoorTie
import Derived.Test.YtlaolodnnjcgdaaDoorWdR
import Derived.ProofKit
import Derived.LaidMore
import Derived.OpenShut
import Derived.Stop.Joined
import Derived.Lib.LaidTab
import Derived.Laws.IdiomArrays
import Derived.Deep.Slices
import Derived.Lay
import Derived.MakeChecks
namespace Go.Proofs.YtlaolodnnjcgdaaDoor.Wd
open Go.ChangeShapes Go.WideShapes Go.ChangeAt Go.WideMaps Go.WideElems Go.ChangeMaps Go.RowKit Gw
theorem own : ownKnob Tryd.prog.godebug = none := by kernel_rfl
theorem laidOut : laidOutB Tryd.prog = true := by kernel_rfl
theorem undInts : Tryd.prog.underlying 33 = some (.slice 3) := Tryd.underlying33
/-- a slice of numbers that came in -/
theorem open_ri {H : Type} {enc : TypeId × Value → H} {w : World} {base b0 : Nat} {sp : Nat → Bool} {held : Bool} {r : Reach} {v : Value} {d : DataW H} {p : List MemPlace}
    (hval : Value.okWide Tryd.prog w r b0 33 v) (h : DataW.Trod enc Tryd.prog w base sp held 33 v d p) : ∃ q c ks, v = .slice q ks.length c ∧ Ri w q c ks := by
  obtain ⟨A, len, cap, rfl⟩ := okWide_slice undInts hval
  obtain ⟨fuel, hf⟩ := h
  rcases Go.ChangeShapes.open_ints undInts Tryd.underlying3 (by kernel_rfl) hf with ⟨hcs, _⟩ | ⟨a, len', cap', zs, hcs, _, hl, _, hz, _, hc, _⟩
  · have hcs : [Value.slice A len cap] = [.slice none 0 0] := hcs
    cases hcs
    exact ⟨none, 0, [], rfl, Nat.le_refl _, fun i x hx => by simp at hx⟩
  · have hcs : [Value.slice A len cap] = [.slice (some a) len' cap'] := hcs
    cases hcs
    have hle : len ≤ zs.length := by rw [hz]; split <;> omega
    refine ⟨some a, cap, zs.take len, by rw [List.length_take, Nat.min_eq_left hle], by rw [List.length_take]; omega, fun i x hx => ?_⟩
    have hi : i < len := by have := (List.getElem?_eq_some_iff.1 hx).1; rw [List.length_take] at this; omega
    rw [List.getElem?_take, if_pos hi] at hx
    have h1 := hc i (by omega)
    rw [List.getD_eq_getElem?_getD, hx] at h1
    obtain ⟨b, off, spot⟩ := a
    have h0 := hc 0 (by omega)
    have hspot : spot = none := by simpa [Addr.add] using World.cell?_spot h0
    subst hspot
    exact ⟨b, off, rfl, by rw [Addr.add_mid] at h1; exact h1⟩
def laidL : List (String × DataW Unit) := [("unicode/utf8.acceptRanges", Rows.laid_unicode_utf8_acceptRanges), ("unicode/utf8.first", Rows.laid_unicode_utf8_first)]
set_option maxRecDepth 100000 in
theorem wordstell_lifted (os : Os) (started : os.Started) (H : Type) (enc : TypeId × Value → H) :
    ReturnsInHanded {} Tryd.checked os 4 .any (fun w args => (Rows.wordsTellSpec.pre enc Tryd.prog Tryd.f4 [] false w args ∧ laidMetH Tryd.prog laidL w) ∧ sizedMet enc Tryd.prog Tryd.f4 (OpenSpec.ofChange Rows.wordsTellSpec) false w args)
      (Rows.wordsTellSpec.post enc Tryd.prog Tryd.f4 false true false false) := by
  refine returnsInHanded_of_change_and (C := Tryd.checked) (X := fun w _ => laidMetH Tryd.prog laidL w) (fun _ _ _ hh h => h.of_heap hh) own started (by kernel_rfl) Tryd.func4
    (ChangeSpec.witness_shaped (enc := enc) (C := Tryd.checked) (os := os) (X := fun w _ => laidMetH Tryd.prog laidL w) false (World.laidAll Tryd.prog os laidL) #[.string ⟨#[]⟩, .int .i64 0, .slice none 0 0] 8 (World.laidAll_os _ _ _) (World.shaped_of_ZipB (by kernel_rfl) (by kernel_rfl)) (by kernel_rfl) (by kernel_rfl) (by kernel_rfl)
      (by rw [MakeChecks.laidMetH_plain _ _ _ (by kernel_rfl)]; exact laidMet_laidAll _ (by kernel_rfl) (by kernel_rfl))) ?_
  intro W base args ds gs before hval0 hW _ hsz0 hL _
  have hval : ∀ (j : Nat) t v, Tryd.f4.params[j]? = some t → args[j]? = some v → Value.okWide Tryd.prog W .any base t v := hval0
  have hW' := hW
  obtain ⟨p, q, hA0, hV, rfl, hfz, hnd⟩ := hW
  have hA : DataW.TrodAll enc Tryd.prog W 0 (fun _ => true) true Tryd.f4.params.toList args.toList ds p := hA0
  rw [Tryd.params4] at hA hval
  obtain ⟨v0, v1, v2, d0, d1, d2, p0, p1, p2, rfl, rfl, rfl, h0, h1, h2⟩ := trodAll_three hA
  obtain ⟨rfl, rfl⟩ := trodVars_none hV
  have h0k := h0
  have h1k := h1
  have h2k := h2
  obtain ⟨s, rfl, rfl, rfl, hs⟩ := open_string Tryd.underlying9 (hval 0 9 v0 rfl rfl) h0
  obtain ⟨i, rfl, rfl, rfl, wi⟩ := open_int Tryd.underlying3 (hval 1 3 v1 rfl rfl) h1
  obtain ⟨q, c, ks, rfl, hri⟩ := open_ri (hval 2 33 v2 rfl rfl) h2
  clear hA0 hval0 hsz0
  simp only [List.append_nil, List.nil_append] at hW'
  have hlt : ∀ x ∈ p2, x.block < W.heap.size := fun x hx => by simpa using hW'.lt x hx
  have hc := lawTell_calls s.data.toList i q c ks W hri
  rw [show toB s.data.toList = s from toB_list s] at hc
  refine hc.mono ?_
  rintro e W' ⟨rfl, bel⟩
  refine ⟨_, rfl, _, _, _, [], p2, [], hW', trodAll_mk1 (shut_bool Tryd.underlying4 true), ?_, rfl, bel.frame _, fun h => by cases h⟩
  have hfin := trodAll_mk3 (Below.trod laidOut (by kernel_rfl) (of_decide_eq_true (by kernel_rfl)) h0k bel (fun x hx => by cases hx)) (Below.trod laidOut (by kernel_rfl) (of_decide_eq_true (by kernel_rfl)) h1k bel (fun x hx => by cases hx)) (Below.trod laidOut (by kernel_rfl) (of_decide_eq_true (by kernel_rfl)) h2k bel (fun x hx => hlt x hx))
  simp only [List.append_nil, List.nil_append] at hfin
  exact hfin
theorem wordstell_holds : Rows.WordsTellSaid :=
  OpenClaim.holds_of_wide 4 Tryd.f4 rfl rfl rfl rfl rfl rfl rfl ⟨rfl, rfl, rfl, rfl, rfl⟩ rfl rfl rfl rfl rfl (by kernel_rfl) Tryd.func4 (by kernel_rfl)
    (of_decide_eq_true (by kernel_rfl)) (by unfold Func.isWrapper; first | (rw [if_pos (by decide +kernel)]; kernel_rfl) | (rw [if_neg (by decide +kernel)]; exact ⟨rfl, rfl⟩))
    (fun os started H enc _ => wordstell_lifted os started H enc)
end Go.Proofs.YtlaolodnnjcgdaaDoor.Wd
namespace Go.Proofs.YtlaolodnnjcgdaaDoor
open Go
theorem wordstell_card_holds : Rows.WordsTellCardSaid :=
  Claim7.holds_tied_plain_at .later [] [.data, .pinned] true (true, "c7b78458fc669c9380fe6ca14c418ed954cb2758f42d531892718048b0622466") false
    Wd.wordstell_holds (fun _ h => by cases h) (by kernel_rfl) (fun _ h => by cases h) wordsTell_row_tie rfl ⟨rfl, rfl⟩ (by kernel_rfl) rfl
    (fun f fn hf hfn => by
      obtain rfl : f = 4 := Option.some.inj ((show Tryd.prog.funcNamed "homograph/homographlaw12.WordsTell" = some 4 by kernel_rfl).symm.trans hf) |>.symm
      obtain rfl : fn = Tryd.f4 := (Option.some.inj (Tryd.func4.symm.trans hfn)).symm
      exact ⟨by kernel_rfl, fun j t ht => by
        rw [Tryd.params4] at ht
        have hm := List.mem_of_getElem? (show [9, 3, 33][j]? = some t by simpa using ht)
        simp only [List.mem_cons, List.mem_nil_iff, or_false] at hm
        rcases hm with rfl | rfl | rfl
        · exact (show Tryd.prog.wantsStandIn 9 = false by kernel_rfl)
        · exact (show Tryd.prog.wantsStandIn 3 = false by kernel_rfl)
        · exact (show Tryd.prog.wantsStandIn 33 = false by kernel_rfl)⟩)
    (by kernel_rfl)
#print axioms wordstell_card_holds
end Go.Proofs.YtlaolodnnjcgdaaDoor
