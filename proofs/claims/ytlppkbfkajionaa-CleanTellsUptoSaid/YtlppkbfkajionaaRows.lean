/-
  No cell of these rows narrows 'for every input' (looked for: loops, veiled, ifaces, maps, wideKeys, modest, calm, conditions, laid).
  DERIVED. THE GIVEN ROWS OF THIS SEAT. 11 by the template 'for every input the law returns true; each argument reads behind the call as it read before'; 0 by the template 'total and deterministic' (their statements: YtlppkbfkajionaaTotals.lean).
  GIVEN WITH THE SEED: the statements are not yours to turn. If you find one false, say at which input.
  Laid BY PROGRAM, IN A SANDBOX (cutbox-rows.mjs): the forced cells as the released guide's own fill.sh prints them over the translation 3b707aea07b80efa… (all of the seat's roots in one cut). By AI agents, Wed Nov 11 2026. No macro, syntax, notation, axiom, sorry.
-/
import Derived.Test.YtlppkbfkajionaaChecked
import GoSem.Claim
import GoSem.ClaimJoined
import GoSem.ClaimMapViews
import Derived.JoinedTies
import Derived.KernelRfl
namespace Go.Proofs.Ytlppkbfkajionaa
/- THE CELL 'sum', in the pinned program and in every row, IS THE sha256 OF THE DUMP (.gsa) THAT YtlppkbfkajionaaProg.lean LOADS. Nothing in Lean hashes anything: it is a label: what it is worth is what the hold of that sum in a sandbox is worth. -/
noncomputable def Try.pinned : Pinned := { name := "ytlppkbfkajionaa", sum := "3b707aea07b80efaf332292fc23d666883cd3c14e98fbb73e8502950e131c562", checked := Try.checked }
namespace Rows
def none {H : Type} : Left H := { results := [], args := [] }

/-- 'homographlaw08.MinimLeast': WHATEVER THE INPUT: true; the input reads as it did. -/
def minimLeastSpec : ChangeSpec := { name := "minimLeast", fn := fun _ => fun
  | [d] => { results := [.lit (.bool true)], args := [d] }
  | _ => none }
def minimLeastRow : OpenClaim := { program := "ytlppkbfkajionaa", sum := "3b707aea07b80efaf332292fc23d666883cd3c14e98fbb73e8502950e131c562", func := "homograph/homographlaw08.MinimLeast", spec := "minimLeast", unfollowed := true, recurses := true, plainKeys := false, apart := false }
def MinimLeastSaid : Prop := minimLeastRow.holds Try.pinned (OpenSpec.ofChange minimLeastSpec)

/-- ITS FALSE NEIGHBOUR: 'it returns false'. Refute it at one input. -/
def minimLeastWrong : ChangeSpec := { name := "minimLeast", fn := fun _ => fun
  | [d] => { results := [.lit (.bool false)], args := [d] }
  | _ => none }
def MinimLeastWrongFalsely : Prop := minimLeastRow.holds Try.pinned (OpenSpec.ofChange minimLeastWrong)

/-- 'homographlaw08.MinimDiffers': WHATEVER THE INPUT: true; the input reads as it did. -/
def minimDiffersSpec : ChangeSpec := { name := "minimDiffers", fn := fun _ => fun
  | [d1, d2] => { results := [.lit (.bool true)], args := [d1, d2] }
  | _ => none }
def minimDiffersRow : OpenClaim := { program := "ytlppkbfkajionaa", sum := "3b707aea07b80efaf332292fc23d666883cd3c14e98fbb73e8502950e131c562", func := "homograph/homographlaw08.MinimDiffers", spec := "minimDiffers", unfollowed := true, recurses := true, plainKeys := false, apart := false }
def MinimDiffersSaid : Prop := minimDiffersRow.holds Try.pinned (OpenSpec.ofChange minimDiffersSpec)

/-- ITS FALSE NEIGHBOUR: 'it returns false'. Refute it at one input. -/
def minimDiffersWrong : ChangeSpec := { name := "minimDiffers", fn := fun _ => fun
  | [d1, d2] => { results := [.lit (.bool false)], args := [d1, d2] }
  | _ => none }
def MinimDiffersWrongFalsely : Prop := minimDiffersRow.holds Try.pinned (OpenSpec.ofChange minimDiffersWrong)

/-- 'homographlaw08.MinimOnce': WHATEVER THE INPUT: true; the input reads as it did. -/
def minimOnceSpec : ChangeSpec := { name := "minimOnce", fn := fun _ => fun
  | [d1, d2] => { results := [.lit (.bool true)], args := [d1, d2] }
  | _ => none }
def minimOnceRow : OpenClaim := { program := "ytlppkbfkajionaa", sum := "3b707aea07b80efaf332292fc23d666883cd3c14e98fbb73e8502950e131c562", func := "homograph/homographlaw08.MinimOnce", spec := "minimOnce", unfollowed := true, recurses := true, plainKeys := false, apart := false }
def MinimOnceSaid : Prop := minimOnceRow.holds Try.pinned (OpenSpec.ofChange minimOnceSpec)

/-- ITS FALSE NEIGHBOUR: 'it returns false'. Refute it at one input. -/
def minimOnceWrong : ChangeSpec := { name := "minimOnce", fn := fun _ => fun
  | [d1, d2] => { results := [.lit (.bool false)], args := [d1, d2] }
  | _ => none }
def MinimOnceWrongFalsely : Prop := minimOnceRow.holds Try.pinned (OpenSpec.ofChange minimOnceWrong)

/-- 'homographlaw08.MinimMeans': WHATEVER THE INPUT: true; the input reads as it did. -/
def minimMeansSpec : ChangeSpec := { name := "minimMeans", fn := fun _ => fun
  | [d] => { results := [.lit (.bool true)], args := [d] }
  | _ => none }
def minimMeansRow : OpenClaim := { program := "ytlppkbfkajionaa", sum := "3b707aea07b80efaf332292fc23d666883cd3c14e98fbb73e8502950e131c562", func := "homograph/homographlaw08.MinimMeans", spec := "minimMeans", unfollowed := true, recurses := true, plainKeys := false, apart := false }
def MinimMeansSaid : Prop := minimMeansRow.holds Try.pinned (OpenSpec.ofChange minimMeansSpec)

/-- ITS FALSE NEIGHBOUR: 'it returns false'. Refute it at one input. -/
def minimMeansWrong : ChangeSpec := { name := "minimMeans", fn := fun _ => fun
  | [d] => { results := [.lit (.bool false)], args := [d] }
  | _ => none }
def MinimMeansWrongFalsely : Prop := minimMeansRow.holds Try.pinned (OpenSpec.ofChange minimMeansWrong)

/-- 'homographlaw33.CleanTells': WHATEVER THE INPUT: true; the input reads as it did. -/
def cleanTellsSpec : ChangeSpec := { name := "cleanTells", fn := fun _ => fun
  | [d1, d2] => { results := [.lit (.bool true)], args := [d1, d2] }
  | _ => none }
def cleanTellsRow : OpenClaim := { program := "ytlppkbfkajionaa", sum := "3b707aea07b80efaf332292fc23d666883cd3c14e98fbb73e8502950e131c562", func := "homograph/homographlaw33.CleanTells", spec := "cleanTells", inPlace := ["internal/abi.NoEscape", "internal/bytealg.MakeNoZero"], unfollowed := true, recurses := true, plainKeys := false, apart := false }
def CleanTellsSaid : Prop := cleanTellsRow.holds Try.pinned (OpenSpec.ofChange cleanTellsSpec)

/-- ITS FALSE NEIGHBOUR: 'it returns false'. Refute it at one input. -/
def cleanTellsWrong : ChangeSpec := { name := "cleanTells", fn := fun _ => fun
  | [d1, d2] => { results := [.lit (.bool false)], args := [d1, d2] }
  | _ => none }
def CleanTellsWrongFalsely : Prop := cleanTellsRow.holds Try.pinned (OpenSpec.ofChange cleanTellsWrong)

/-- 'homographlaw33.CleanTwice': WHATEVER THE INPUT: true; the input reads as it did. -/
def cleanTwiceSpec : ChangeSpec := { name := "cleanTwice", fn := fun _ => fun
  | [d] => { results := [.lit (.bool true)], args := [d] }
  | _ => none }
def cleanTwiceRow : OpenClaim := { program := "ytlppkbfkajionaa", sum := "3b707aea07b80efaf332292fc23d666883cd3c14e98fbb73e8502950e131c562", func := "homograph/homographlaw33.CleanTwice", spec := "cleanTwice", inPlace := ["internal/abi.NoEscape", "internal/bytealg.MakeNoZero"], unfollowed := true, recurses := true, plainKeys := false, apart := false }
def CleanTwiceSaid : Prop := cleanTwiceRow.holds Try.pinned (OpenSpec.ofChange cleanTwiceSpec)

/-- ITS FALSE NEIGHBOUR: 'it returns false'. Refute it at one input. -/
def cleanTwiceWrong : ChangeSpec := { name := "cleanTwice", fn := fun _ => fun
  | [d] => { results := [.lit (.bool false)], args := [d] }
  | _ => none }
def CleanTwiceWrongFalsely : Prop := cleanTwiceRow.holds Try.pinned (OpenSpec.ofChange cleanTwiceWrong)

/-- 'homographlaw25.PruneTells': WHATEVER THE INPUT: true; the input reads as it did. -/
def pruneTellsSpec : ChangeSpec := { name := "pruneTells", fn := fun _ => fun
  | [d1, d2] => { results := [.lit (.bool true)], args := [d1, d2] }
  | _ => none }
def pruneTellsRow : OpenClaim := { program := "ytlppkbfkajionaa", sum := "3b707aea07b80efaf332292fc23d666883cd3c14e98fbb73e8502950e131c562", func := "homograph/homographlaw25.PruneTells", spec := "pruneTells", unfollowed := true, recurses := true, plainKeys := false, apart := false }
def PruneTellsSaid : Prop := pruneTellsRow.holds Try.pinned (OpenSpec.ofChange pruneTellsSpec)

/-- ITS FALSE NEIGHBOUR: 'it returns false'. Refute it at one input. -/
def pruneTellsWrong : ChangeSpec := { name := "pruneTells", fn := fun _ => fun
  | [d1, d2] => { results := [.lit (.bool false)], args := [d1, d2] }
  | _ => none }
def PruneTellsWrongFalsely : Prop := pruneTellsRow.holds Try.pinned (OpenSpec.ofChange pruneTellsWrong)

/-- 'homographlaw25.PruneIs': WHATEVER THE INPUT: true; the input reads as it did. -/
def pruneIsSpec : ChangeSpec := { name := "pruneIs", fn := fun _ => fun
  | [d1, d2] => { results := [.lit (.bool true)], args := [d1, d2] }
  | _ => none }
def pruneIsRow : OpenClaim := { program := "ytlppkbfkajionaa", sum := "3b707aea07b80efaf332292fc23d666883cd3c14e98fbb73e8502950e131c562", func := "homograph/homographlaw25.PruneIs", spec := "pruneIs", unfollowed := true, recurses := true, plainKeys := false, apart := false }
def PruneIsSaid : Prop := pruneIsRow.holds Try.pinned (OpenSpec.ofChange pruneIsSpec)

/-- ITS FALSE NEIGHBOUR: 'it returns false'. Refute it at one input. -/
def pruneIsWrong : ChangeSpec := { name := "pruneIs", fn := fun _ => fun
  | [d1, d2] => { results := [.lit (.bool false)], args := [d1, d2] }
  | _ => none }
def PruneIsWrongFalsely : Prop := pruneIsRow.holds Try.pinned (OpenSpec.ofChange pruneIsWrong)

/-- 'homographlaw25.PruneAgrees': WHATEVER THE INPUT: true; the input reads as it did. -/
def pruneAgreesSpec : ChangeSpec := { name := "pruneAgrees", fn := fun _ => fun
  | [d] => { results := [.lit (.bool true)], args := [d] }
  | _ => none }
def pruneAgreesRow : OpenClaim := { program := "ytlppkbfkajionaa", sum := "3b707aea07b80efaf332292fc23d666883cd3c14e98fbb73e8502950e131c562", func := "homograph/homographlaw25.PruneAgrees", spec := "pruneAgrees", unfollowed := true, recurses := true, plainKeys := false, apart := false }
def PruneAgreesSaid : Prop := pruneAgreesRow.holds Try.pinned (OpenSpec.ofChange pruneAgreesSpec)

/-- ITS FALSE NEIGHBOUR: 'it returns false'. Refute it at one input. -/
def pruneAgreesWrong : ChangeSpec := { name := "pruneAgrees", fn := fun _ => fun
  | [d] => { results := [.lit (.bool false)], args := [d] }
  | _ => none }
def PruneAgreesWrongFalsely : Prop := pruneAgreesRow.holds Try.pinned (OpenSpec.ofChange pruneAgreesWrong)

/-- 'homographlaw25.PruneGreat': WHATEVER THE INPUT: true; the input reads as it did. -/
def pruneGreatSpec : ChangeSpec := { name := "pruneGreat", fn := fun _ => fun
  | [d] => { results := [.lit (.bool true)], args := [d] }
  | _ => none }
def pruneGreatRow : OpenClaim := { program := "ytlppkbfkajionaa", sum := "3b707aea07b80efaf332292fc23d666883cd3c14e98fbb73e8502950e131c562", func := "homograph/homographlaw25.PruneGreat", spec := "pruneGreat", unfollowed := true, recurses := true, plainKeys := false, apart := false }
def PruneGreatSaid : Prop := pruneGreatRow.holds Try.pinned (OpenSpec.ofChange pruneGreatSpec)

/-- ITS FALSE NEIGHBOUR: 'it returns false'. Refute it at one input. -/
def pruneGreatWrong : ChangeSpec := { name := "pruneGreat", fn := fun _ => fun
  | [d] => { results := [.lit (.bool false)], args := [d] }
  | _ => none }
def PruneGreatWrongFalsely : Prop := pruneGreatRow.holds Try.pinned (OpenSpec.ofChange pruneGreatWrong)

/-- 'homographlaw33.CleanMeans': WHATEVER THE INPUT: true; the input reads as it did. -/
def cleanMeansSpec : ChangeSpec := { name := "cleanMeans", fn := fun _ => fun
  | [d1, d2] => { results := [.lit (.bool true)], args := [d1, d2] }
  | _ => none }
def cleanMeansRow : OpenClaim := { program := "ytlppkbfkajionaa", sum := "3b707aea07b80efaf332292fc23d666883cd3c14e98fbb73e8502950e131c562", func := "homograph/homographlaw33.CleanMeans", spec := "cleanMeans", inPlace := ["internal/abi.NoEscape", "internal/bytealg.MakeNoZero"], unfollowed := true, recurses := true, plainKeys := false, apart := false }
def CleanMeansSaid : Prop := cleanMeansRow.holds Try.pinned (OpenSpec.ofChange cleanMeansSpec)

/-- ITS FALSE NEIGHBOUR: 'it returns false'. Refute it at one input. -/
def cleanMeansWrong : ChangeSpec := { name := "cleanMeans", fn := fun _ => fun
  | [d1, d2] => { results := [.lit (.bool false)], args := [d1, d2] }
  | _ => none }
def CleanMeansWrongFalsely : Prop := cleanMeansRow.holds Try.pinned (OpenSpec.ofChange cleanMeansWrong)

/- THE SECOND FORM. 'bulk': how many values and letters a reading holds, each counted each time it is reached (what is shared counts as often as it is met; a slice's spare places count too). A statement '..UptoSaid' is the law's where the arguments, and the package variables that the reading takes, are together of bulk at most 1048576: NARROWER than '..Said'. Prove '..Said' where nothing that the law and all that it calls make is longer than what came in: it says more and counts as full. Else prove '..UptoSaid'. A law counts once. -/
mutual
def uptoBulk {H : Type} : DataW H → Nat
  | .lit (.string bytes) => bytes.length + 1
  | .lit _ => 1
  | .nil => 1
  | .ptr d => uptoBulk d + 1
  | .slice elems spare => uptoBulkAll elems + uptoBulkAll spare + 1
  | .agg parts => uptoBulkAll parts + 1
  | .iface _ d => uptoBulk d + 1
  | .map entries => uptoBulkEntries entries + 1
  | .held _ => 1
def uptoBulkAll {H : Type} : List (DataW H) → Nat
  | [] => 0
  | d :: r => uptoBulk d + uptoBulkAll r
def uptoBulkEntries {H : Type} : List (Lit × DataW H) → Nat
  | [] => 0
  | x :: r => uptoBulkEntry x + uptoBulkEntries r
def uptoBulkEntry {H : Type} : Lit × DataW H → Nat
  | (.string bytes, d) => bytes.length + uptoBulk d + 1
  | (_, d) => uptoBulk d + 1
 end
def uptoSmall : (H : Type) → List (DataW H) → Bool := fun _ ds => decide (uptoBulkAll ds ≤ 1048576)
def OpenSpec.upto (s : _root_.Go.ChangeSpec) : _root_.Go.OpenSpec := { _root_.Go.OpenSpec.ofChange s with cond := some uptoSmall }

/-- 'homographlaw08.MinimLeast', WHERE WHAT IT READS IS OF BULK AT MOST 1048576: true; the input reads as it did. -/
def minimLeastUptoRow : OpenClaim := { program := "ytlppkbfkajionaa", sum := "3b707aea07b80efaf332292fc23d666883cd3c14e98fbb73e8502950e131c562", func := "homograph/homographlaw08.MinimLeast", spec := "minimLeast", unfollowed := true, recurses := true, plainKeys := false, apart := false, narrowed := true }
def MinimLeastUptoSaid : Prop := minimLeastUptoRow.holds Try.pinned (OpenSpec.upto minimLeastSpec)

/-- 'homographlaw08.MinimDiffers', WHERE WHAT IT READS IS OF BULK AT MOST 1048576: true; the input reads as it did. -/
def minimDiffersUptoRow : OpenClaim := { program := "ytlppkbfkajionaa", sum := "3b707aea07b80efaf332292fc23d666883cd3c14e98fbb73e8502950e131c562", func := "homograph/homographlaw08.MinimDiffers", spec := "minimDiffers", unfollowed := true, recurses := true, plainKeys := false, apart := false, narrowed := true }
def MinimDiffersUptoSaid : Prop := minimDiffersUptoRow.holds Try.pinned (OpenSpec.upto minimDiffersSpec)

/-- 'homographlaw08.MinimOnce', WHERE WHAT IT READS IS OF BULK AT MOST 1048576: true; the input reads as it did. -/
def minimOnceUptoRow : OpenClaim := { program := "ytlppkbfkajionaa", sum := "3b707aea07b80efaf332292fc23d666883cd3c14e98fbb73e8502950e131c562", func := "homograph/homographlaw08.MinimOnce", spec := "minimOnce", unfollowed := true, recurses := true, plainKeys := false, apart := false, narrowed := true }
def MinimOnceUptoSaid : Prop := minimOnceUptoRow.holds Try.pinned (OpenSpec.upto minimOnceSpec)

/-- 'homographlaw08.MinimMeans', WHERE WHAT IT READS IS OF BULK AT MOST 1048576: true; the input reads as it did. -/
def minimMeansUptoRow : OpenClaim := { program := "ytlppkbfkajionaa", sum := "3b707aea07b80efaf332292fc23d666883cd3c14e98fbb73e8502950e131c562", func := "homograph/homographlaw08.MinimMeans", spec := "minimMeans", unfollowed := true, recurses := true, plainKeys := false, apart := false, narrowed := true }
def MinimMeansUptoSaid : Prop := minimMeansUptoRow.holds Try.pinned (OpenSpec.upto minimMeansSpec)

/-- 'homographlaw33.CleanTells', WHERE WHAT IT READS IS OF BULK AT MOST 1048576: true; the input reads as it did. -/
def cleanTellsUptoRow : OpenClaim := { program := "ytlppkbfkajionaa", sum := "3b707aea07b80efaf332292fc23d666883cd3c14e98fbb73e8502950e131c562", func := "homograph/homographlaw33.CleanTells", spec := "cleanTells", inPlace := ["internal/abi.NoEscape", "internal/bytealg.MakeNoZero"], unfollowed := true, recurses := true, plainKeys := false, apart := false, narrowed := true }
def CleanTellsUptoSaid : Prop := cleanTellsUptoRow.holds Try.pinned (OpenSpec.upto cleanTellsSpec)

/-- 'homographlaw33.CleanTwice', WHERE WHAT IT READS IS OF BULK AT MOST 1048576: true; the input reads as it did. -/
def cleanTwiceUptoRow : OpenClaim := { program := "ytlppkbfkajionaa", sum := "3b707aea07b80efaf332292fc23d666883cd3c14e98fbb73e8502950e131c562", func := "homograph/homographlaw33.CleanTwice", spec := "cleanTwice", inPlace := ["internal/abi.NoEscape", "internal/bytealg.MakeNoZero"], unfollowed := true, recurses := true, plainKeys := false, apart := false, narrowed := true }
def CleanTwiceUptoSaid : Prop := cleanTwiceUptoRow.holds Try.pinned (OpenSpec.upto cleanTwiceSpec)

/-- 'homographlaw25.PruneTells', WHERE WHAT IT READS IS OF BULK AT MOST 1048576: true; the input reads as it did. -/
def pruneTellsUptoRow : OpenClaim := { program := "ytlppkbfkajionaa", sum := "3b707aea07b80efaf332292fc23d666883cd3c14e98fbb73e8502950e131c562", func := "homograph/homographlaw25.PruneTells", spec := "pruneTells", unfollowed := true, recurses := true, plainKeys := false, apart := false, narrowed := true }
def PruneTellsUptoSaid : Prop := pruneTellsUptoRow.holds Try.pinned (OpenSpec.upto pruneTellsSpec)

/-- 'homographlaw25.PruneIs', WHERE WHAT IT READS IS OF BULK AT MOST 1048576: true; the input reads as it did. -/
def pruneIsUptoRow : OpenClaim := { program := "ytlppkbfkajionaa", sum := "3b707aea07b80efaf332292fc23d666883cd3c14e98fbb73e8502950e131c562", func := "homograph/homographlaw25.PruneIs", spec := "pruneIs", unfollowed := true, recurses := true, plainKeys := false, apart := false, narrowed := true }
def PruneIsUptoSaid : Prop := pruneIsUptoRow.holds Try.pinned (OpenSpec.upto pruneIsSpec)

/-- 'homographlaw25.PruneAgrees', WHERE WHAT IT READS IS OF BULK AT MOST 1048576: true; the input reads as it did. -/
def pruneAgreesUptoRow : OpenClaim := { program := "ytlppkbfkajionaa", sum := "3b707aea07b80efaf332292fc23d666883cd3c14e98fbb73e8502950e131c562", func := "homograph/homographlaw25.PruneAgrees", spec := "pruneAgrees", unfollowed := true, recurses := true, plainKeys := false, apart := false, narrowed := true }
def PruneAgreesUptoSaid : Prop := pruneAgreesUptoRow.holds Try.pinned (OpenSpec.upto pruneAgreesSpec)

/-- 'homographlaw25.PruneGreat', WHERE WHAT IT READS IS OF BULK AT MOST 1048576: true; the input reads as it did. -/
def pruneGreatUptoRow : OpenClaim := { program := "ytlppkbfkajionaa", sum := "3b707aea07b80efaf332292fc23d666883cd3c14e98fbb73e8502950e131c562", func := "homograph/homographlaw25.PruneGreat", spec := "pruneGreat", unfollowed := true, recurses := true, plainKeys := false, apart := false, narrowed := true }
def PruneGreatUptoSaid : Prop := pruneGreatUptoRow.holds Try.pinned (OpenSpec.upto pruneGreatSpec)

/-- 'homographlaw33.CleanMeans', WHERE WHAT IT READS IS OF BULK AT MOST 1048576: true; the input reads as it did. -/
def cleanMeansUptoRow : OpenClaim := { program := "ytlppkbfkajionaa", sum := "3b707aea07b80efaf332292fc23d666883cd3c14e98fbb73e8502950e131c562", func := "homograph/homographlaw33.CleanMeans", spec := "cleanMeans", inPlace := ["internal/abi.NoEscape", "internal/bytealg.MakeNoZero"], unfollowed := true, recurses := true, plainKeys := false, apart := false, narrowed := true }
def CleanMeansUptoSaid : Prop := cleanMeansUptoRow.holds Try.pinned (OpenSpec.upto cleanMeansSpec)

end Rows
end Go.Proofs.Ytlppkbfkajionaa
