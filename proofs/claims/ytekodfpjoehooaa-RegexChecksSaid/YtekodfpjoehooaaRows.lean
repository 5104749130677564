/-
  No cell of these rows narrows 'for every input' (looked for: loops, veiled, ifaces, maps, wideKeys, modest, calm, conditions, laid).
  DERIVED. THE GIVEN ROWS OF THIS SEAT. 5 by the template 'for every input the law returns true; each argument reads behind the call as it read before'; 0 by the template 'total and deterministic' (their statements: YtekodfpjoehooaaTotals.lean).
  GIVEN WITH THE SEED: the statements are not yours to turn. If you find one false, say at which input.
  Laid BY PROGRAM, IN A SANDBOX (cutbox-rows.mjs): the forced cells as the released guide's own fill.sh prints them over the translation f375a32779caa777… (all of the seat's roots in one cut). By AI agents, Wed Nov 11 2026. No macro, syntax, notation, axiom, sorry.
-/
import Derived.Test.YtekodfpjoehooaaChecked
import GoSem.Claim
import GoSem.ClaimJoined
import GoSem.ClaimMapViews
import Derived.JoinedTies
import Derived.KernelRfl
namespace Go.Proofs.Ytekodfpjoehooaa
/- THE CELL 'sum', in the pinned program and in every row, IS THE sha256 OF THE DUMP (.gsa) THAT YtekodfpjoehooaaProg.lean LOADS. Nothing in Lean hashes anything: it is a label: what it is worth is what the hold of that sum in a sandbox is worth. -/
noncomputable def Try.pinned : Pinned := { name := "ytekodfpjoehooaa", sum := "f375a32779caa7779549d05220fd27a31b29c844db672f981e71d450435e0161", checked := Try.checked }
namespace Rows
def none {H : Type} : Left H := { results := [], args := [] }

/-- 'homographlaw02.RegexMakes': WHATEVER THE INPUT: true; the input reads as it did. -/
def regexMakesSpec : ChangeSpec := { name := "regexMakes", fn := fun _ => fun
  | [d1, d2, d3] => { results := [.lit (.bool true)], args := [d1, d2, d3] }
  | _ => none }
def regexMakesRow : OpenClaim := { program := "ytekodfpjoehooaa", sum := "f375a32779caa7779549d05220fd27a31b29c844db672f981e71d450435e0161", func := "homograph/homographlaw02.RegexMakes", spec := "regexMakes", unfollowed := true, recurses := true, apart := false }
def RegexMakesSaid : Prop := regexMakesRow.holds Try.pinned (OpenSpec.ofChange regexMakesSpec)

/-- ITS FALSE NEIGHBOUR: 'it returns false'. Refute it at one input. -/
def regexMakesWrong : ChangeSpec := { name := "regexMakes", fn := fun _ => fun
  | [d1, d2, d3] => { results := [.lit (.bool false)], args := [d1, d2, d3] }
  | _ => none }
def RegexMakesWrongFalsely : Prop := regexMakesRow.holds Try.pinned (OpenSpec.ofChange regexMakesWrong)

/-- 'homographlaw02.RegexTells': WHATEVER THE INPUT: true; the input reads as it did. -/
def regexTellsSpec : ChangeSpec := { name := "regexTells", fn := fun _ => fun
  | [d1, d2] => { results := [.lit (.bool true)], args := [d1, d2] }
  | _ => none }
def regexTellsRow : OpenClaim := { program := "ytekodfpjoehooaa", sum := "f375a32779caa7779549d05220fd27a31b29c844db672f981e71d450435e0161", func := "homograph/homographlaw02.RegexTells", spec := "regexTells", unfollowed := true, recurses := true, apart := false }
def RegexTellsSaid : Prop := regexTellsRow.holds Try.pinned (OpenSpec.ofChange regexTellsSpec)

/-- ITS FALSE NEIGHBOUR: 'it returns false'. Refute it at one input. -/
def regexTellsWrong : ChangeSpec := { name := "regexTells", fn := fun _ => fun
  | [d1, d2] => { results := [.lit (.bool false)], args := [d1, d2] }
  | _ => none }
def RegexTellsWrongFalsely : Prop := regexTellsRow.holds Try.pinned (OpenSpec.ofChange regexTellsWrong)

/-- 'homographlaw02.RegexChecks': WHATEVER THE INPUT: true; the input reads as it did. -/
def regexChecksSpec : ChangeSpec := { name := "regexChecks", fn := fun _ => fun
  | [d1, d2, d3] => { results := [.lit (.bool true)], args := [d1, d2, d3] }
  | _ => none }
def regexChecksRow : OpenClaim := { program := "ytekodfpjoehooaa", sum := "f375a32779caa7779549d05220fd27a31b29c844db672f981e71d450435e0161", func := "homograph/homographlaw02.RegexChecks", spec := "regexChecks", unfollowed := true, recurses := true, apart := false }
def RegexChecksSaid : Prop := regexChecksRow.holds Try.pinned (OpenSpec.ofChange regexChecksSpec)

/-- ITS FALSE NEIGHBOUR: 'it returns false'. Refute it at one input. -/
def regexChecksWrong : ChangeSpec := { name := "regexChecks", fn := fun _ => fun
  | [d1, d2, d3] => { results := [.lit (.bool false)], args := [d1, d2, d3] }
  | _ => none }
def RegexChecksWrongFalsely : Prop := regexChecksRow.holds Try.pinned (OpenSpec.ofChange regexChecksWrong)

/-- 'homographlaw02.RegexBack': WHATEVER THE INPUT: true; the input reads as it did. -/
def regexBackSpec : ChangeSpec := { name := "regexBack", fn := fun _ => fun
  | [d] => { results := [.lit (.bool true)], args := [d] }
  | _ => none }
def regexBackRow : OpenClaim := { program := "ytekodfpjoehooaa", sum := "f375a32779caa7779549d05220fd27a31b29c844db672f981e71d450435e0161", func := "homograph/homographlaw02.RegexBack", spec := "regexBack", unfollowed := true, recurses := true, apart := false }
def RegexBackSaid : Prop := regexBackRow.holds Try.pinned (OpenSpec.ofChange regexBackSpec)

/-- ITS FALSE NEIGHBOUR: 'it returns false'. Refute it at one input. -/
def regexBackWrong : ChangeSpec := { name := "regexBack", fn := fun _ => fun
  | [d] => { results := [.lit (.bool false)], args := [d] }
  | _ => none }
def RegexBackWrongFalsely : Prop := regexBackRow.holds Try.pinned (OpenSpec.ofChange regexBackWrong)

/-- 'homographlaw02.RegexJoins': WHATEVER THE INPUT: true; the input reads as it did. -/
def regexJoinsSpec : ChangeSpec := { name := "regexJoins", fn := fun _ => fun
  | [d1, d2] => { results := [.lit (.bool true)], args := [d1, d2] }
  | _ => none }
def regexJoinsRow : OpenClaim := { program := "ytekodfpjoehooaa", sum := "f375a32779caa7779549d05220fd27a31b29c844db672f981e71d450435e0161", func := "homograph/homographlaw02.RegexJoins", spec := "regexJoins", unfollowed := true, recurses := true, apart := false }
def RegexJoinsSaid : Prop := regexJoinsRow.holds Try.pinned (OpenSpec.ofChange regexJoinsSpec)

/-- ITS FALSE NEIGHBOUR: 'it returns false'. Refute it at one input. -/
def regexJoinsWrong : ChangeSpec := { name := "regexJoins", fn := fun _ => fun
  | [d1, d2] => { results := [.lit (.bool false)], args := [d1, d2] }
  | _ => none }
def RegexJoinsWrongFalsely : Prop := regexJoinsRow.holds Try.pinned (OpenSpec.ofChange regexJoinsWrong)

/- THE SECOND FORM. 'bulk': how many values and letters a reading holds, each counted each time it is reached (what is shared counts as often as it is met; a slice's spare places count too). A statement '..UptoSaid' is the law's where the arguments, and the package variables that the reading takes, are together of bulk at most 1048576: NARROWER than '..Said'. Prove '..Said' where nothing that the law and all that it calls make is longer than what came in: it says more and counts as full. Else prove '..UptoSaid'. A law counts once. -/
mutual
def uptoBulk {H : Type} : DataW H → Nat
  | .lit (.string bytes) => bytes.length + 1
  | .lit _ => 1
  | .nil => 1
  | .ptr d => uptoBulk d + 1
  | .slice elems spare => uptoBulkAll elems + uptoBulkAll spare + 1
  | .agg parts => uptoBulkAll parts + 1
  | .iface _ d => uptoBulk d + 1
  | .map entries => uptoBulkEntries entries + 1
  | .held _ => 1
def uptoBulkAll {H : Type} : List (DataW H) → Nat
  | [] => 0
  | d :: r => uptoBulk d + uptoBulkAll r
def uptoBulkEntries {H : Type} : List (Lit × DataW H) → Nat
  | [] => 0
  | x :: r => uptoBulkEntry x + uptoBulkEntries r
def uptoBulkEntry {H : Type} : Lit × DataW H → Nat
  | (.string bytes, d) => bytes.length + uptoBulk d + 1
  | (_, d) => uptoBulk d + 1
 end
def uptoSmall : (H : Type) → List (DataW H) → Bool := fun _ ds => decide (uptoBulkAll ds ≤ 1048576)
def OpenSpec.upto (s : _root_.Go.ChangeSpec) : _root_.Go.OpenSpec := { _root_.Go.OpenSpec.ofChange s with cond := some uptoSmall }

/-- 'homographlaw02.RegexMakes', WHERE WHAT IT READS IS OF BULK AT MOST 1048576: true; the input reads as it did. -/
def regexMakesUptoRow : OpenClaim := { program := "ytekodfpjoehooaa", sum := "f375a32779caa7779549d05220fd27a31b29c844db672f981e71d450435e0161", func := "homograph/homographlaw02.RegexMakes", spec := "regexMakes", unfollowed := true, recurses := true, apart := false, narrowed := true }
def RegexMakesUptoSaid : Prop := regexMakesUptoRow.holds Try.pinned (OpenSpec.upto regexMakesSpec)

/-- 'homographlaw02.RegexTells', WHERE WHAT IT READS IS OF BULK AT MOST 1048576: true; the input reads as it did. -/
def regexTellsUptoRow : OpenClaim := { program := "ytekodfpjoehooaa", sum := "f375a32779caa7779549d05220fd27a31b29c844db672f981e71d450435e0161", func := "homograph/homographlaw02.RegexTells", spec := "regexTells", unfollowed := true, recurses := true, apart := false, narrowed := true }
def RegexTellsUptoSaid : Prop := regexTellsUptoRow.holds Try.pinned (OpenSpec.upto regexTellsSpec)

/-- 'homographlaw02.RegexChecks', WHERE WHAT IT READS IS OF BULK AT MOST 1048576: true; the input reads as it did. -/
def regexChecksUptoRow : OpenClaim := { program := "ytekodfpjoehooaa", sum := "f375a32779caa7779549d05220fd27a31b29c844db672f981e71d450435e0161", func := "homograph/homographlaw02.RegexChecks", spec := "regexChecks", unfollowed := true, recurses := true, apart := false, narrowed := true }
def RegexChecksUptoSaid : Prop := regexChecksUptoRow.holds Try.pinned (OpenSpec.upto regexChecksSpec)

/-- 'homographlaw02.RegexBack', WHERE WHAT IT READS IS OF BULK AT MOST 1048576: true; the input reads as it did. -/
def regexBackUptoRow : OpenClaim := { program := "ytekodfpjoehooaa", sum := "f375a32779caa7779549d05220fd27a31b29c844db672f981e71d450435e0161", func := "homograph/homographlaw02.RegexBack", spec := "regexBack", unfollowed := true, recurses := true, apart := false, narrowed := true }
def RegexBackUptoSaid : Prop := regexBackUptoRow.holds Try.pinned (OpenSpec.upto regexBackSpec)

/-- 'homographlaw02.RegexJoins', WHERE WHAT IT READS IS OF BULK AT MOST 1048576: true; the input reads as it did. -/
def regexJoinsUptoRow : OpenClaim := { program := "ytekodfpjoehooaa", sum := "f375a32779caa7779549d05220fd27a31b29c844db672f981e71d450435e0161", func := "homograph/homographlaw02.RegexJoins", spec := "regexJoins", unfollowed := true, recurses := true, apart := false, narrowed := true }
def RegexJoinsUptoSaid : Prop := regexJoinsUptoRow.holds Try.pinned (OpenSpec.upto regexJoinsSpec)

end Rows
end Go.Proofs.Ytekodfpjoehooaa
