/- What the rows' conditions give the walks; the posts of laws. -/
import Derived.Test.YtekodfpjoehooaaDoorRows
import Derived.Test.YtekodfpjoehooaaDoorLawA
import Derived.ProofKit
import Derived.LaidMore
import Derived.OpenShut
import Derived.Stop.Joined
import Derived.Lib.LaidTab
import Derived.Laws.IdiomArrays
import Derived.Deep.Slices
namespace Go.Proofs.YtekodfpjoehooaaDoor.Bs
open Go.ChangeShapes Go.WideShapes Go.ChangeAt Go.WideMaps Go.WideElems Go.RowKit Mem
theorem own : ownKnob Tryd.prog.godebug = none := by kernel_rfl
theorem laidOut : laidOutB Tryd.prog = true := by kernel_rfl
theorem gTab : Tryd.prog.globalNamed "math/bits.deBruijn64tab" = some 0 := by kernel_rfl
theorem tTab : (Tryd.prog.globals[0]?).map (·.type) = some 56 := by kernel_rfl
def laidL : List (String × DataW Unit) := [("math/bits.deBruijn64tab", Rows.laid_math_bits_deBruijn64tab)]
theorem laid_eq : (Rows.laid_math_bits_deBruijn64tab : DataW Unit) = Lib.tabData .u8 (Lib.deBruijn64tab.map fun n : Nat => (n : Int)) := by kernel_rfl
/-- The door's own heap meets the condition. -/
theorem door_met (os : Os) (args : Array Value) : laidMetH Tryd.prog laidL ((World.doorLaid Tryd.prog 400 os).forCall (fun _ _ => 0) ⟨#[], args, []⟩).memory :=
  laidMetH_of_parts3 (fuel := 8) (laidMet_of_run' 8 (by kernel_rfl) (by kernel_rfl)) (by kernel_rfl) (by kernel_rfl)
theorem tab_of_laid {W : World} (h : laidMetH Tryd.prog laidL W) : Tab W := by
  rw [MakeChecks.laidMetH_plain _ _ _ (by kernel_rfl)] at h
  have h : laidMet Tryd.prog [("math/bits.deBruijn64tab", Rows.laid_math_bits_deBruijn64tab)] W := h
  rw [laid_eq] at h
  have hT := Lib.tabIs_of_head gTab tTab Tryd.underlying56 Tryd.underlying5 (by kernel_rfl) (by kernel_rfl) h
  intro j hj
  have hl : Lib.deBruijn64tab.length = 64 := by kernel_rfl
  have h1 := hT.cell gTab j (by rw [List.length_map, hl]; exact hj)
  rw [h1]
  congr 2
  rw [List.getD_eq_getElem?_getD, List.getD_eq_getElem?_getD, List.getElem?_map]
  cases Lib.deBruijn64tab[j]? <;> rfl
theorem byte_of_wf {x : Int} (h : (Lit.int .u8 x).wf = true) : ∃ n : Nat, x = (n : Int) ∧ n < 256 := by
  simp [Lit.wf, IntKind.min, IntKind.max, IntKind.signed, IntKind.bits] at h
  exact ⟨x.toNat, by omega, by omega⟩
theorem int_of_wf {x : Int} (h : (Lit.int .i64 x).wf = true) : -9223372036854775808 ≤ x ∧ x ≤ 9223372036854775807 := by
  simp [Lit.wf, IntKind.min, IntKind.max, IntKind.signed, IntKind.bits] at h
  exact h
theorem limb_of_wf {x : Int} (h : (Lit.int .u64 x).wf = true) : ∃ n : Nat, x = (n : Int) ∧ n < 18446744073709551616 := by
  simp [Lit.wf, IntKind.min, IntKind.max, IntKind.signed, IntKind.bits] at h
  exact ⟨x.toNat, by omega, by omega⟩
/-- four cells that read as an array of words are a set's -/
theorem set_of_trod {H : Type} {enc : TypeId × Value → H} {w : World} {base : Nat} {sp : Nat → Bool} {held : Bool} {n : Nat} {cs : List Value} {x : DataW H × List MemPlace} (hl : cs.length = 4)
    (h : DataW.trod enc Tryd.prog w base sp held n 24 cs = some x) : ∃ s : BitVec 256, cs = (setC s).toList := by
  match cs, hl, h with
  | [c0, c1, c2, c3], _, h =>
    obtain ⟨y0, y1, y2, y3, m, _, h0, h1, h2, h3⟩ := trod_array4 undS (by kernel_rfl) h
    obtain ⟨x0, e0, _, w0⟩ := DataW.trod_int undU64 h0
    obtain ⟨x1, e1, _, w1⟩ := DataW.trod_int undU64 h1
    obtain ⟨x2, e2, _, w2⟩ := DataW.trod_int undU64 h2
    obtain ⟨x3, e3, _, w3⟩ := DataW.trod_int undU64 h3
    obtain ⟨n0, rfl, b0⟩ := limb_of_wf w0
    obtain ⟨n1, rfl, b1⟩ := limb_of_wf w1
    obtain ⟨n2, rfl, b2⟩ := limb_of_wf w2
    obtain ⟨n3, rfl, b3⟩ := limb_of_wf w3
    cases e0; cases e1; cases e2; cases e3
    obtain ⟨l0, l1, l2, l3⟩ := limN_ofLim n0 n1 n2 n3 b0 b1 b2 b3
    exact ⟨ofLim n0 n1 n2 n3, by simp [setC, l0, l1, l2, l3]⟩
/-- a set that came in by value -/
theorem open_set {H : Type} {enc : TypeId × Value → H} {w : World} {base b0 : Nat} {sp : Nat → Bool} {held : Bool} {r : Reach} {v : Value} {d : DataW H} {p : List MemPlace}
    (hval : Value.okWide Tryd.prog w r b0 24 v) (h : DataW.Trod enc Tryd.prog w base sp held 24 v d p) : ∃ s : BitVec 256, v = setV s := by
  obtain ⟨cs, rfl, hsz, _⟩ : ∃ cs, v = .agg cs ∧ cs.size = Tryd.prog.cellsOf 24 ∧ Row.okWide Tryd.prog w r b0 24 cs := by
    simpa [Value.okWide, undS] using hval
  obtain ⟨l⟩ := cs
  obtain ⟨fuel, hf⟩ := h
  have h4 : Tryd.prog.cellsOf 24 = 4 := by kernel_rfl
  obtain ⟨s, hs⟩ := set_of_trod (by rw [← h4, ← hsz]; rfl) hf
  refine ⟨s, ?_⟩
  have hs : l = (setC s).toList := hs
  unfold setV
  rw [hs]
/-- a slice of sets that came in -/
theorem open_sets {H : Type} {enc : TypeId × Value → H} {w : World} {base b0 : Nat} {sp : Nat → Bool} {held : Bool} {r : Reach} {v : Value} {d : DataW H} {p : List MemPlace}
    (hval : Value.okWide Tryd.prog w r b0 38 v) (h : DataW.Trod enc Tryd.prog w base sp held 38 v d p)
    (hb : ∀ elems spare, d = .slice elems spare → (elems.length + spare.length) * Tryd.prog.bytesOf 24 ≤ reachBytes) : ∃ xs : List (BitVec 256), Sets w v xs := by
  obtain ⟨A, len, cap, rfl⟩ := okWide_slice undSets hval
  obtain ⟨fuel, hf⟩ := h
  rcases Deep.open_slice undSets hf with ⟨hcs, _⟩ | ⟨a, len', cap', m, n, D, Pl, hcs, _, hl, hm, hmm, hx, hel⟩
  · have hcs : [Value.slice A len cap] = [.slice none 0 0] := hcs
    cases hcs
    exact ⟨[], Row.nil _ _ _⟩
  · have hcs : [Value.slice A len cap] = [.slice (some a) len' cap'] := hcs
    cases hcs
    have h4 : Tryd.prog.cellsOf 24 = 4 := by kernel_rfl
    have h32 : Tryd.prog.bytesOf 24 = 32 := by kernel_rfl
    have hle : len ≤ m := by rw [hmm]; split <;> omega
    have hbd := hb _ _ (congrArg Prod.fst hx)
    rw [h32] at hbd
    simp only [List.length_map, List.length_range, reachBytes] at hbd
    obtain ⟨f, hfx⟩ := Deep.choose_lt (α := BitVec 256) (n := len) (p := fun i s => w.cells? base (a.add (i * 4)) 4 = some (setC s).toList) (fun i hi => by
      obtain ⟨cs', h1, h2⟩ := hel i (by omega)
      rw [h4] at h1
      obtain ⟨_, hlen, _⟩ := World.cells?_some h1
      obtain ⟨s, rfl⟩ := set_of_trod hlen h2
      exact ⟨s, h1⟩)
    refine ⟨(List.range len).map f, some a, cap, by simp, by simp; omega, fun hp => ?_⟩
    have hp : 0 < len := by simpa using hp
    obtain ⟨b, off, spot⟩ := a
    have hspot : spot = none := by
      obtain ⟨_, _, hc⟩ := World.cells?_some (hfx 0 hp)
      have h0 := hc 0 (by omega)
      rw [show (setC (f 0)).toList[0]? = some (.int .u64 (limN (f 0) 0)) from rfl] at h0
      simpa [Addr.add] using World.cell?_spot h0
    subst hspot
    refine ⟨b, off, rfl, fun i x hi => ?_⟩
    have hil : i < len := by have := (List.getElem?_eq_some_iff.1 hi).1; simpa using this
    have : x = f i := by simpa [hil] using hi.symm
    subst this
    intro j u hj
    obtain ⟨_, _, hc⟩ := World.cells?_some (hfx i hil)
    have hj4 : j < 4 := (List.getElem?_eq_some_iff.1 hj).1
    have := hc j hj4
    rw [hj] at this
    rwa [Addr.add_mid, Addr.add_mid] at this
end Go.Proofs.YtekodfpjoehooaaDoor.Bs
