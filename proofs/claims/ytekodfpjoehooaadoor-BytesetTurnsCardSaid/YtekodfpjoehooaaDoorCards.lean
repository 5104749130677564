/-
  DERIVED. GIVEN WITH THE SEED: THE CARDS: each row of YtekodfpjoehooaaDoorRows.lean that lists a variable, with what it lists TIED to the program's text (the seventh form; the later family's looks); each row that meets fmt, with fmt's text TOLD by the authors' own Lean function (tested against real Go, not proved from fmt's source: count such statements apart). THE CARD IS WHAT COUNTS. Prove the row's statement (the work); the ties are given (YtekodfpjoehooaaDoorTie.lean); close each card by the builder's one call (the guide's Derived/Test/ToyasCard.lean, 'card_holds'). Laid BY PROGRAM, IN A SANDBOX (cutbox-door.mjs). By AI agents, Wed Nov 11 2026. No macro, syntax, notation, axiom, sorry.
-/
import Derived.Test.YtekodfpjoehooaaDoorRows
import GoSem.ClaimSeven
namespace Go.Proofs.YtekodfpjoehooaaDoor
namespace Rows

/-- THE TIED CARD OF 'homographlaw01.BytesetTells'. -/
def bytesetTellsCard : Claim7 := { stood := { row := bytesetTellsRow, standIns := [], harness := (true, "7673d37ff40ad0079bbaf2a9c7647151b7dc0dea96de1d95ad04fb4bfcbe0ad5"), looks := false }, kinds := [], alts := [], laidByText := true, laidKinds := [.data], laidTests := true, laidLooks := .later }
def BytesetTellsCardSaid : Prop := Claim7.holds Tryd.pinned (.plain (OpenSpec.ofChange bytesetTellsSpec)) bytesetTellsCard

/-- THE TIED CARD OF 'homographlaw01.BytesetMakes'. -/
def bytesetMakesCard : Claim7 := { stood := { row := bytesetMakesRow, standIns := [], harness := (true, "7673d37ff40ad0079bbaf2a9c7647151b7dc0dea96de1d95ad04fb4bfcbe0ad5"), looks := false }, kinds := [], alts := [], laidByText := true, laidKinds := [.data], laidTests := true, laidLooks := .later }
def BytesetMakesCardSaid : Prop := Claim7.holds Tryd.pinned (.plain (OpenSpec.ofChange bytesetMakesSpec)) bytesetMakesCard

/-- THE TIED CARD OF 'homographlaw01.BytesetJoins'. -/
def bytesetJoinsCard : Claim7 := { stood := { row := bytesetJoinsRow, standIns := [], harness := (true, "7673d37ff40ad0079bbaf2a9c7647151b7dc0dea96de1d95ad04fb4bfcbe0ad5"), looks := false }, kinds := [], alts := [], laidByText := true, laidKinds := [.data], laidTests := true, laidLooks := .later }
def BytesetJoinsCardSaid : Prop := Claim7.holds Tryd.pinned (.plain (OpenSpec.ofChange bytesetJoinsSpec)) bytesetJoinsCard

/-- THE TIED CARD OF 'homographlaw01.BytesetTurns'. -/
def bytesetTurnsCard : Claim7 := { stood := { row := bytesetTurnsRow, standIns := [], harness := (true, "7673d37ff40ad0079bbaf2a9c7647151b7dc0dea96de1d95ad04fb4bfcbe0ad5"), looks := false }, kinds := [], alts := [], laidByText := true, laidKinds := [.data], laidTests := true, laidLooks := .later }
def BytesetTurnsCardSaid : Prop := Claim7.holds Tryd.pinned (.plain (OpenSpec.ofChange bytesetTurnsSpec)) bytesetTurnsCard

/-- THE TIED CARD OF 'homographlaw01.BytesetWalk'. -/
def bytesetWalkCard : Claim7 := { stood := { row := bytesetWalkRow, standIns := [], harness := (true, "7673d37ff40ad0079bbaf2a9c7647151b7dc0dea96de1d95ad04fb4bfcbe0ad5"), looks := false }, kinds := [], alts := [], laidByText := true, laidKinds := [.data], laidTests := true, laidLooks := .later }
def BytesetWalkCardSaid : Prop := Claim7.holds Tryd.pinned (.plain (OpenSpec.ofChange bytesetWalkSpec)) bytesetWalkCard

/-- THE SECOND FORM's CARD OF 'homographlaw01.BytesetTells'. -/
def bytesetTellsUptoCard : Claim7 := { stood := { row := bytesetTellsUptoRow, standIns := [], harness := (true, "7673d37ff40ad0079bbaf2a9c7647151b7dc0dea96de1d95ad04fb4bfcbe0ad5"), looks := false }, kinds := [], alts := [], laidByText := true, laidKinds := [.data], laidTests := true, laidLooks := .later }
def BytesetTellsUptoCardSaid : Prop := Claim7.holds Tryd.pinned (.plain (OpenSpec.upto bytesetTellsSpec)) bytesetTellsUptoCard

/-- THE SECOND FORM's CARD OF 'homographlaw01.BytesetMakes'. -/
def bytesetMakesUptoCard : Claim7 := { stood := { row := bytesetMakesUptoRow, standIns := [], harness := (true, "7673d37ff40ad0079bbaf2a9c7647151b7dc0dea96de1d95ad04fb4bfcbe0ad5"), looks := false }, kinds := [], alts := [], laidByText := true, laidKinds := [.data], laidTests := true, laidLooks := .later }
def BytesetMakesUptoCardSaid : Prop := Claim7.holds Tryd.pinned (.plain (OpenSpec.upto bytesetMakesSpec)) bytesetMakesUptoCard

/-- THE SECOND FORM's CARD OF 'homographlaw01.BytesetJoins'. -/
def bytesetJoinsUptoCard : Claim7 := { stood := { row := bytesetJoinsUptoRow, standIns := [], harness := (true, "7673d37ff40ad0079bbaf2a9c7647151b7dc0dea96de1d95ad04fb4bfcbe0ad5"), looks := false }, kinds := [], alts := [], laidByText := true, laidKinds := [.data], laidTests := true, laidLooks := .later }
def BytesetJoinsUptoCardSaid : Prop := Claim7.holds Tryd.pinned (.plain (OpenSpec.upto bytesetJoinsSpec)) bytesetJoinsUptoCard

/-- THE SECOND FORM's CARD OF 'homographlaw01.BytesetTurns'. -/
def bytesetTurnsUptoCard : Claim7 := { stood := { row := bytesetTurnsUptoRow, standIns := [], harness := (true, "7673d37ff40ad0079bbaf2a9c7647151b7dc0dea96de1d95ad04fb4bfcbe0ad5"), looks := false }, kinds := [], alts := [], laidByText := true, laidKinds := [.data], laidTests := true, laidLooks := .later }
def BytesetTurnsUptoCardSaid : Prop := Claim7.holds Tryd.pinned (.plain (OpenSpec.upto bytesetTurnsSpec)) bytesetTurnsUptoCard

/-- THE SECOND FORM's CARD OF 'homographlaw01.BytesetWalk'. -/
def bytesetWalkUptoCard : Claim7 := { stood := { row := bytesetWalkUptoRow, standIns := [], harness := (true, "7673d37ff40ad0079bbaf2a9c7647151b7dc0dea96de1d95ad04fb4bfcbe0ad5"), looks := false }, kinds := [], alts := [], laidByText := true, laidKinds := [.data], laidTests := true, laidLooks := .later }
def BytesetWalkUptoCardSaid : Prop := Claim7.holds Tryd.pinned (.plain (OpenSpec.upto bytesetWalkSpec)) bytesetWalkUptoCard
end Rows
end Go.Proofs.YtekodfpjoehooaaDoor
