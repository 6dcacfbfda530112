/-
  DERIVED. GIVEN WITH THE SEED: THE CARDS: each row of YtgloknkcfchnlabGreatDoorRows.lean that lists a variable, with what it lists TIED to the program's text (the seventh form; the later family's looks); each row that meets fmt, with fmt's text TOLD by the authors' own Lean function (tested against real Go, not proved from fmt's source: count such statements apart). THE CARD IS WHAT COUNTS. Prove the row's statement (the work); the ties are given (YtgloknkcfchnlabGreatDoorTie.lean); close each card by the builder's one call (the guide's Derived/Test/ToyasCard.lean, 'card_holds'). Laid BY PROGRAM, IN A SANDBOX (cutbox-door.mjs). By AI agents, Wed Nov 11 2026. No macro, syntax, notation, axiom, sorry.
-/
import Derived.Test.YtgloknkcfchnlabGreatDoorRows
import GoSem.ClaimSeven
namespace Go.Proofs.YtgloknkcfchnlabGreatDoor
namespace Rows

/-- THE TIED CARD OF 'kedgelaw12.BlockParts'. -/
def blockPartsCard : Claim7 := { stood := { row := blockPartsRow, standIns := [], harness := (true, "1606401030a177a36fa6d2b16b3b76abdd4da9a999ea9dcddd4d18c8472a4197"), looks := true }, kinds := [], alts := [], laidByText := true, laidKinds := [.handle], laidTests := true, laidLooks := .later }
def BlockPartsCardSaid : Prop := Claim7.holds Tryz.pinned (.plain (OpenSpec.ofChange blockPartsSpec)) blockPartsCard

/-- THE TIED CARD OF 'kedgelaw13.ChainPlays'. -/
def chainPlaysCard : Claim7 := { stood := { row := chainPlaysRow, standIns := [], harness := (true, "1606401030a177a36fa6d2b16b3b76abdd4da9a999ea9dcddd4d18c8472a4197"), looks := true }, kinds := [], alts := [], laidByText := true, laidKinds := [.handle], laidTests := true, laidLooks := .later }
def ChainPlaysCardSaid : Prop := Claim7.holds Tryz.pinned (.plain (OpenSpec.ofChange chainPlaysSpec)) chainPlaysCard

/-- THE SECOND FORM's CARD OF 'kedgelaw12.BlockParts'. -/
def blockPartsUptoCard : Claim7 := { stood := { row := blockPartsUptoRow, standIns := [], harness := (true, "1606401030a177a36fa6d2b16b3b76abdd4da9a999ea9dcddd4d18c8472a4197"), looks := true }, kinds := [], alts := [], laidByText := true, laidKinds := [.handle], laidTests := true, laidLooks := .later }
def BlockPartsUptoCardSaid : Prop := Claim7.holds Tryz.pinned (.plain (OpenSpec.upto blockPartsSpec)) blockPartsUptoCard

/-- THE SECOND FORM's CARD OF 'kedgelaw13.ChainPlays'. -/
def chainPlaysUptoCard : Claim7 := { stood := { row := chainPlaysUptoRow, standIns := [], harness := (true, "1606401030a177a36fa6d2b16b3b76abdd4da9a999ea9dcddd4d18c8472a4197"), looks := true }, kinds := [], alts := [], laidByText := true, laidKinds := [.handle], laidTests := true, laidLooks := .later }
def ChainPlaysUptoCardSaid : Prop := Claim7.holds Tryz.pinned (.plain (OpenSpec.upto chainPlaysSpec)) chainPlaysUptoCard
end Rows
end Go.Proofs.YtgloknkcfchnlabGreatDoor
