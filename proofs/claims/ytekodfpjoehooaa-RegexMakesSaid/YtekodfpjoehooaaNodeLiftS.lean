/- A set that came in by value. -/
import Derived.Test.YtekodfpjoehooaaNodeLift
import Derived.Laws.IdiomArrays
namespace Go.Proofs.Ytekodfpjoehooaa.Bs
open Go.ChangeShapes Go.WideShapes Go.ChangeAt Go.WideMaps Go.WideElems Go.RowKit Mem
theorem limb_of_wf {x : Int} (h : (Lit.int .u64 x).wf = true) : ∃ n : Nat, x = (n : Int) ∧ n < 18446744073709551616 := by
  simp [Lit.wf, IntKind.min, IntKind.max, IntKind.signed, IntKind.bits] at h
  exact ⟨x.toNat, by omega, by omega⟩
/-- four cells that read as an array of words are a set's -/
theorem set_of_trod {H : Type} {enc : TypeId × Value → H} {w : World} {base : Nat} {sp : Nat → Bool} {held : Bool} {n : Nat} {cs : List Value} {x : DataW H × List MemPlace} (hl : cs.length = 4)
    (h : DataW.trod enc Try.prog w base sp held n 24 cs = some x) : ∃ s : BitVec 256, cs = (setC s).toList := by
  match cs, hl, h with
  | [c0, c1, c2, c3], _, h =>
    obtain ⟨y0, y1, y2, y3, m, _, h0, h1, h2, h3⟩ := trod_array4 undS (by kernel_rfl) h
    obtain ⟨x0, e0, _, w0⟩ := DataW.trod_int undU64 h0
    obtain ⟨x1, e1, _, w1⟩ := DataW.trod_int undU64 h1
    obtain ⟨x2, e2, _, w2⟩ := DataW.trod_int undU64 h2
    obtain ⟨x3, e3, _, w3⟩ := DataW.trod_int undU64 h3
    obtain ⟨n0, rfl, b0⟩ := limb_of_wf w0
    obtain ⟨n1, rfl, b1⟩ := limb_of_wf w1
    obtain ⟨n2, rfl, b2⟩ := limb_of_wf w2
    obtain ⟨n3, rfl, b3⟩ := limb_of_wf w3
    cases e0; cases e1; cases e2; cases e3
    obtain ⟨l0, l1, l2, l3⟩ := limN_ofLim n0 n1 n2 n3 b0 b1 b2 b3
    exact ⟨ofLim n0 n1 n2 n3, by simp [setC, l0, l1, l2, l3]⟩
/-- a set that came in by value -/
theorem open_set {H : Type} {enc : TypeId × Value → H} {w : World} {base b0 : Nat} {sp : Nat → Bool} {held : Bool} {r : Reach} {v : Value} {d : DataW H} {p : List MemPlace}
    (hval : Value.okWide Try.prog w r b0 24 v) (h : DataW.Trod enc Try.prog w base sp held 24 v d p) : ∃ s : BitVec 256, v = setV s := by
  obtain ⟨cs, rfl, hsz, _⟩ : ∃ cs, v = .agg cs ∧ cs.size = Try.prog.cellsOf 24 ∧ Row.okWide Try.prog w r b0 24 cs := by
    simpa [Value.okWide, undS] using hval
  obtain ⟨l⟩ := cs
  obtain ⟨fuel, hf⟩ := h
  have h4 : Try.prog.cellsOf 24 = 4 := by kernel_rfl
  obtain ⟨s, hs⟩ := set_of_trod (by rw [← h4, ← hsz]; rfl) hf
  refine ⟨s, ?_⟩
  have hs : l = (setC s).toList := hs
  unfold setV
  rw [hs]
end Go.Proofs.Ytekodfpjoehooaa.Bs
