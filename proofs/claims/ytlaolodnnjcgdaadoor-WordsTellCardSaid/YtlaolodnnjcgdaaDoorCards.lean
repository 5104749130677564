/-
  DERIVED. GIVEN WITH THE SEED: THE CARDS: each row of YtlaolodnnjcgdaaDoorRows.lean that lists a variable, with what it lists TIED to the program's text (the seventh form; the later family's looks); each row that meets fmt, with fmt's text TOLD by the authors' own Lean function (tested against real Go, not proved from fmt's source: count such statements apart). THE CARD IS WHAT COUNTS. Prove the row's statement (the work); the ties are given (YtlaolodnnjcgdaaDoorTie.lean); close each card by the builder's one call (the guide's Derived/Test/ToyasCard.lean, 'card_holds'). Laid BY PROGRAM, IN A SANDBOX (cutbox-door.mjs). By AI agents, Wed Nov 11 2026. No macro, syntax, notation, axiom, sorry.
-/
import Derived.Test.YtlaolodnnjcgdaaDoorRows
import GoSem.ClaimSeven
namespace Go.Proofs.YtlaolodnnjcgdaaDoor
namespace Rows

/-- THE TIED CARD OF 'homographlaw12.WordsAll'. -/
def wordsAllCard : Claim7 := { stood := { row := wordsAllRow, standIns := [], harness := (true, "c7b78458fc669c9380fe6ca14c418ed954cb2758f42d531892718048b0622466"), looks := false }, kinds := [], alts := [], laidByText := true, laidKinds := [.data, .pinned], laidTests := true, laidLooks := .later }
def WordsAllCardSaid : Prop := Claim7.holds Tryd.pinned (.plain (OpenSpec.ofChange wordsAllSpec)) wordsAllCard

/-- THE TIED CARD OF 'homographlaw12.WordsTell'. -/
def wordsTellCard : Claim7 := { stood := { row := wordsTellRow, standIns := [], harness := (true, "c7b78458fc669c9380fe6ca14c418ed954cb2758f42d531892718048b0622466"), looks := false }, kinds := [], alts := [], laidByText := true, laidKinds := [.data, .pinned], laidTests := true, laidLooks := .later }
def WordsTellCardSaid : Prop := Claim7.holds Tryd.pinned (.plain (OpenSpec.ofChange wordsTellSpec)) wordsTellCard

/-- THE TIED CARD OF 'homographlaw12.WordsBack'. -/
def wordsBackCard : Claim7 := { stood := { row := wordsBackRow, standIns := [], harness := (true, "c7b78458fc669c9380fe6ca14c418ed954cb2758f42d531892718048b0622466"), looks := false }, kinds := [], alts := [], laidByText := true, laidKinds := [.data, .pinned], laidTests := true, laidLooks := .later }
def WordsBackCardSaid : Prop := Claim7.holds Tryd.pinned (.plain (OpenSpec.ofChange wordsBackSpec)) wordsBackCard

/-- THE TIED CARD OF 'homographlaw12.WordsLine'. -/
def wordsLineCard : Claim7 := { stood := { row := wordsLineRow, standIns := [], harness := (true, "c7b78458fc669c9380fe6ca14c418ed954cb2758f42d531892718048b0622466"), looks := false }, kinds := [], alts := [], laidByText := true, laidKinds := [.data, .pinned], laidTests := true, laidLooks := .later }
def WordsLineCardSaid : Prop := Claim7.holds Tryd.pinned (.plain (OpenSpec.ofChange wordsLineSpec)) wordsLineCard

/-- THE SECOND FORM's CARD OF 'homographlaw12.WordsAll'. -/
def wordsAllUptoCard : Claim7 := { stood := { row := wordsAllUptoRow, standIns := [], harness := (true, "c7b78458fc669c9380fe6ca14c418ed954cb2758f42d531892718048b0622466"), looks := false }, kinds := [], alts := [], laidByText := true, laidKinds := [.data, .pinned], laidTests := true, laidLooks := .later }
def WordsAllUptoCardSaid : Prop := Claim7.holds Tryd.pinned (.plain (OpenSpec.upto wordsAllSpec)) wordsAllUptoCard

/-- THE SECOND FORM's CARD OF 'homographlaw12.WordsTell'. -/
def wordsTellUptoCard : Claim7 := { stood := { row := wordsTellUptoRow, standIns := [], harness := (true, "c7b78458fc669c9380fe6ca14c418ed954cb2758f42d531892718048b0622466"), looks := false }, kinds := [], alts := [], laidByText := true, laidKinds := [.data, .pinned], laidTests := true, laidLooks := .later }
def WordsTellUptoCardSaid : Prop := Claim7.holds Tryd.pinned (.plain (OpenSpec.upto wordsTellSpec)) wordsTellUptoCard

/-- THE SECOND FORM's CARD OF 'homographlaw12.WordsBack'. -/
def wordsBackUptoCard : Claim7 := { stood := { row := wordsBackUptoRow, standIns := [], harness := (true, "c7b78458fc669c9380fe6ca14c418ed954cb2758f42d531892718048b0622466"), looks := false }, kinds := [], alts := [], laidByText := true, laidKinds := [.data, .pinned], laidTests := true, laidLooks := .later }
def WordsBackUptoCardSaid : Prop := Claim7.holds Tryd.pinned (.plain (OpenSpec.upto wordsBackSpec)) wordsBackUptoCard

/-- THE SECOND FORM's CARD OF 'homographlaw12.WordsLine'. -/
def wordsLineUptoCard : Claim7 := { stood := { row := wordsLineUptoRow, standIns := [], harness := (true, "c7b78458fc669c9380fe6ca14c418ed954cb2758f42d531892718048b0622466"), looks := false }, kinds := [], alts := [], laidByText := true, laidKinds := [.data, .pinned], laidTests := true, laidLooks := .later }
def WordsLineUptoCardSaid : Prop := Claim7.holds Tryd.pinned (.plain (OpenSpec.upto wordsLineSpec)) wordsLineUptoCard
end Rows
end Go.Proofs.YtlaolodnnjcgdaaDoor
