/- Proved: at every input BytesetTurns answers true and leaves its arguments as they were; math/bits' table reads as the program's text lays it. -/
import Derived.Test.YtekodfpjoehooaaDoorLift
import Derived.Test.YtekodfpjoehooaaDoorCards
import Derived.Test.YtekodfpjoehooaaDoorTie
import Derived.Test.YtekodfpjoehooaaDoorLawD
namespace Go.Proofs.YtekodfpjoehooaaDoor.Bs
open Go.ChangeShapes Go.WideShapes Go.ChangeAt Go.WideMaps Go.WideElems Go.ChangeMaps Go.RowKit Mem
set_option maxRecDepth 100000 in
theorem turns_lifted (os : Os) (started : os.Started) (H : Type) (enc : TypeId × Value → H) :
    ReturnsInHanded {} Tryd.checked os 6 .any (fun w args => (Rows.bytesetTurnsSpec.pre enc Tryd.prog Tryd.f6 [] false w args ∧ laidMetH Tryd.prog laidL w) ∧ sizedMet enc Tryd.prog Tryd.f6 (OpenSpec.ofChange Rows.bytesetTurnsSpec) false w args)
      (Rows.bytesetTurnsSpec.post enc Tryd.prog Tryd.f6 false true false false) := by
  refine returnsInHanded_of_change_and (C := Tryd.checked) (X := fun w _ => laidMetH Tryd.prog laidL w) (fun _ _ _ hh h => h.of_heap hh) own started (by kernel_rfl) Tryd.func6
    (ChangeSpec.witness_shaped (enc := enc) (C := Tryd.checked) (os := os) (X := fun w _ => laidMetH Tryd.prog laidL w) false (World.doorLaid Tryd.prog 400 os) #[.agg #[.int .u64 0, .int .u64 0, .int .u64 0, .int .u64 0], .agg #[.int .u64 0, .int .u64 0, .int .u64 0, .int .u64 0]] 8 rfl (World.shaped_of_RefB (by kernel_rfl) (by kernel_rfl)) (by kernel_rfl) (by kernel_rfl) (by kernel_rfl) (door_met os _)) ?_
  intro W base args ds gs before hval0 hW _ hsz0 hL _
  have hval : ∀ (j : Nat) t v, Tryd.f6.params[j]? = some t → args[j]? = some v → Value.okWide Tryd.prog W .any base t v := hval0
  have hsz : ((DataW.weightsEach Tryd.prog (Tryd.f6.params.toList ++ DataSpec.varTypes Tryd.prog Rows.bytesetTurnsSpec.plain) (ds ++ gs)).all fun x => decide (x ≤ reachBytes)) = true := hsz0
  have hW' := hW
  obtain ⟨p, q, hA0, hV, rfl, hfz, hnd⟩ := hW
  have hA : DataW.TrodAll enc Tryd.prog W 0 (fun _ => true) true Tryd.f6.params.toList args.toList ds p := hA0
  rw [Tryd.params6] at hA hval hsz
  obtain ⟨v0, v1, d0, d1, p0, p1, rfl, rfl, rfl, h0, h1⟩ := trodAll_two hA
  obtain ⟨rfl, rfl⟩ := trodVars_none hV
  have h0k := h0
  have h1k := h1
  obtain ⟨s, rfl⟩ := open_set (hval 0 24 v0 rfl rfl) h0
  obtain ⟨t, rfl⟩ := open_set (hval 1 24 v1 rfl rfl) h1
  clear hA0 hval0 hsz0
  simp only [List.append_nil] at hW'
  have hlt : ∀ x ∈ p0 ++ p1, x.block < W.heap.size := fun x hx => by simpa using hW'.lt x hx
  refine (turns_calls s t W (tab_of_laid hL)).mono ?_
  rintro e W' ⟨rfl, bel⟩
  refine ⟨_, rfl, _, _, _, [], p0 ++ p1, [], hW', trodAll_mk1 (shut_bool Tryd.underlying4 true), ?_, rfl, bel.frame _, fun h => by cases h⟩
  exact trodAll_mk2 (Below.trod laidOut (by kernel_rfl) (of_decide_eq_true (by kernel_rfl)) h0k bel (fun x hx => hlt x (by simp [hx]))) (Below.trod laidOut (by kernel_rfl) (of_decide_eq_true (by kernel_rfl)) h1k bel (fun x hx => hlt x (by simp [hx])))
theorem turns_holds : Rows.BytesetTurnsSaid :=
  OpenClaim.holds_of_wide 6 Tryd.f6 rfl rfl rfl rfl rfl rfl rfl ⟨rfl, rfl, rfl, rfl, rfl⟩ rfl rfl rfl rfl rfl (by kernel_rfl) Tryd.func6 (by kernel_rfl)
    (of_decide_eq_true (by kernel_rfl)) (by unfold Func.isWrapper; first | (rw [if_pos (by decide +kernel)]; kernel_rfl) | (rw [if_neg (by decide +kernel)]; exact ⟨rfl, rfl⟩))
    (fun os started H enc _ => turns_lifted os started H enc)
end Go.Proofs.YtekodfpjoehooaaDoor.Bs
namespace Go.Proofs.YtekodfpjoehooaaDoor
open Go
theorem turns_card_holds : Rows.BytesetTurnsCardSaid :=
  Claim7.holds_tied_plain_at .later [] [.data] true (true, "7673d37ff40ad0079bbaf2a9c7647151b7dc0dea96de1d95ad04fb4bfcbe0ad5") false
    Bs.turns_holds (fun _ h => by cases h) (by kernel_rfl) (fun _ h => by cases h) bytesetTurns_row_tie rfl ⟨rfl, rfl⟩ (by kernel_rfl) rfl
    (fun f fn hf hfn => by
      obtain rfl : f = 6 := Option.some.inj ((show Tryd.prog.funcNamed "homograph/homographlaw01.BytesetTurns" = some 6 by kernel_rfl).symm.trans hf) |>.symm
      obtain rfl : fn = Tryd.f6 := (Option.some.inj (Tryd.func6.symm.trans hfn)).symm
      exact ⟨by kernel_rfl, fun j t ht => by
        rw [Tryd.params6] at ht
        have hm := List.mem_of_getElem? (show [24, 24][j]? = some t by simpa using ht)
        have hall : ∀ t ∈ [24, 24], Tryd.prog.wantsStandIn t = false := by
          intro t ht
          simp only [List.mem_cons, List.mem_nil_iff, or_false] at ht
          rcases ht with rfl | rfl
          · kernel_rfl
          · kernel_rfl
        exact hall t hm⟩)
    (by kernel_rfl)
#print axioms turns_card_holds
end Go.Proofs.YtekodfpjoehooaaDoor
