/-
  DERIVED. GIVEN WITH THE SEED: THE CARDS: each row of YtgloknkcfchnlaaGreatDoorRows.lean that lists a variable, with what it lists TIED to the program's text (the seventh form; the later family's looks); each row that meets fmt, with fmt's text TOLD by the authors' own Lean function (tested against real Go, not proved from fmt's source: count such statements apart). THE CARD IS WHAT COUNTS. Prove the row's statement (the work); the ties are given (YtgloknkcfchnlaaGreatDoorTie.lean); close each card by the builder's one call (the guide's Derived/Test/ToyasCard.lean, 'card_holds'). Laid BY PROGRAM, IN A SANDBOX (cutbox-door.mjs). By AI agents, Wed Nov 11 2026. No macro, syntax, notation, axiom, sorry.
-/
import Derived.Test.YtgloknkcfchnlaaGreatDoorRows
import GoSem.ClaimSeven
namespace Go.Proofs.YtgloknkcfchnlaaGreatDoor
namespace Rows

/-- THE TIED CARD OF 'kedgelaw12.BlockBack'. -/
def blockBackCard : Claim7 := { stood := { row := blockBackRow, standIns := [], harness := (true, "549ec45d6412607da991b035651527e5733ba434e95bfb2c54bec40fbcc9148f"), looks := true }, kinds := [], alts := [], laidByText := true, laidKinds := [.handle], laidTests := true, laidLooks := .later }
def BlockBackCardSaid : Prop := Claim7.holds Tryz.pinned (.plain (OpenSpec.ofChange blockBackSpec)) blockBackCard

/-- THE TIED CARD OF 'kedgelaw12.BlockState'. -/
def blockStateCard : Claim7 := { stood := { row := blockStateRow, standIns := [], harness := (true, "549ec45d6412607da991b035651527e5733ba434e95bfb2c54bec40fbcc9148f"), looks := true }, kinds := [], alts := [], laidByText := true, laidKinds := [.handle], laidTests := true, laidLooks := .later }
def BlockStateCardSaid : Prop := Claim7.holds Tryz.pinned (.plain (OpenSpec.ofChange blockStateSpec)) blockStateCard

/-- THE TIED CARD OF 'kedgelaw12.BlockValues'. -/
def blockValuesCard : Claim7 := { stood := { row := blockValuesRow, standIns := [], harness := (true, "549ec45d6412607da991b035651527e5733ba434e95bfb2c54bec40fbcc9148f"), looks := true }, kinds := [], alts := [], laidByText := true, laidKinds := [.handle], laidTests := true, laidLooks := .later }
def BlockValuesCardSaid : Prop := Claim7.holds Tryz.pinned (.plain (OpenSpec.ofChange blockValuesSpec)) blockValuesCard

/-- THE TIED CARD OF 'kedgelaw12.BlockPlays'. -/
def blockPlaysCard : Claim7 := { stood := { row := blockPlaysRow, standIns := [], harness := (true, "549ec45d6412607da991b035651527e5733ba434e95bfb2c54bec40fbcc9148f"), looks := true }, kinds := [], alts := [], laidByText := true, laidKinds := [.handle], laidTests := true, laidLooks := .later }
def BlockPlaysCardSaid : Prop := Claim7.holds Tryz.pinned (.plain (OpenSpec.ofChange blockPlaysSpec)) blockPlaysCard

/-- THE TIED CARD OF 'kedgelaw12.BlockRaw'. -/
def blockRawCard : Claim7 := { stood := { row := blockRawRow, standIns := [], harness := (true, "549ec45d6412607da991b035651527e5733ba434e95bfb2c54bec40fbcc9148f"), looks := true }, kinds := [], alts := [], laidByText := true, laidKinds := [.handle], laidTests := true, laidLooks := .later }
def BlockRawCardSaid : Prop := Claim7.holds Tryz.pinned (.plain (OpenSpec.ofChange blockRawSpec)) blockRawCard

/-- THE SECOND FORM's CARD OF 'kedgelaw12.BlockBack'. -/
def blockBackUptoCard : Claim7 := { stood := { row := blockBackUptoRow, standIns := [], harness := (true, "549ec45d6412607da991b035651527e5733ba434e95bfb2c54bec40fbcc9148f"), looks := true }, kinds := [], alts := [], laidByText := true, laidKinds := [.handle], laidTests := true, laidLooks := .later }
def BlockBackUptoCardSaid : Prop := Claim7.holds Tryz.pinned (.plain (OpenSpec.upto blockBackSpec)) blockBackUptoCard

/-- THE SECOND FORM's CARD OF 'kedgelaw12.BlockState'. -/
def blockStateUptoCard : Claim7 := { stood := { row := blockStateUptoRow, standIns := [], harness := (true, "549ec45d6412607da991b035651527e5733ba434e95bfb2c54bec40fbcc9148f"), looks := true }, kinds := [], alts := [], laidByText := true, laidKinds := [.handle], laidTests := true, laidLooks := .later }
def BlockStateUptoCardSaid : Prop := Claim7.holds Tryz.pinned (.plain (OpenSpec.upto blockStateSpec)) blockStateUptoCard

/-- THE SECOND FORM's CARD OF 'kedgelaw12.BlockValues'. -/
def blockValuesUptoCard : Claim7 := { stood := { row := blockValuesUptoRow, standIns := [], harness := (true, "549ec45d6412607da991b035651527e5733ba434e95bfb2c54bec40fbcc9148f"), looks := true }, kinds := [], alts := [], laidByText := true, laidKinds := [.handle], laidTests := true, laidLooks := .later }
def BlockValuesUptoCardSaid : Prop := Claim7.holds Tryz.pinned (.plain (OpenSpec.upto blockValuesSpec)) blockValuesUptoCard

/-- THE SECOND FORM's CARD OF 'kedgelaw12.BlockPlays'. -/
def blockPlaysUptoCard : Claim7 := { stood := { row := blockPlaysUptoRow, standIns := [], harness := (true, "549ec45d6412607da991b035651527e5733ba434e95bfb2c54bec40fbcc9148f"), looks := true }, kinds := [], alts := [], laidByText := true, laidKinds := [.handle], laidTests := true, laidLooks := .later }
def BlockPlaysUptoCardSaid : Prop := Claim7.holds Tryz.pinned (.plain (OpenSpec.upto blockPlaysSpec)) blockPlaysUptoCard

/-- THE SECOND FORM's CARD OF 'kedgelaw12.BlockRaw'. -/
def blockRawUptoCard : Claim7 := { stood := { row := blockRawUptoRow, standIns := [], harness := (true, "549ec45d6412607da991b035651527e5733ba434e95bfb2c54bec40fbcc9148f"), looks := true }, kinds := [], alts := [], laidByText := true, laidKinds := [.handle], laidTests := true, laidLooks := .later }
def BlockRawUptoCardSaid : Prop := Claim7.holds Tryz.pinned (.plain (OpenSpec.upto blockRawSpec)) blockRawUptoCard
end Rows
end Go.Proofs.YtgloknkcfchnlaaGreatDoor
