/-
  DERIVED. GIVEN WITH THE SEED: THE CARDS: each row of YtbidkcjendncaaaGreatDoorRows.lean that lists a variable, with what it lists TIED to the program's text (the seventh form; the later family's looks); each row that meets fmt, with fmt's text TOLD by the authors' own Lean function (tested against real Go, not proved from fmt's source: count such statements apart). THE CARD IS WHAT COUNTS. Prove the row's statement (the work); the ties are given (YtbidkcjendncaaaGreatDoorTie.lean); close each card by the builder's one call (the guide's Derived/Test/ToyasCard.lean, 'card_holds'). Laid BY PROGRAM, IN A SANDBOX (cutbox-door.mjs). By AI agents, Wed Nov 11 2026. No macro, syntax, notation, axiom, sorry.
-/
import Derived.Test.YtbidkcjendncaaaGreatDoorRows
import GoSem.ClaimSeven
namespace Go.Proofs.YtbidkcjendncaaaGreatDoor
namespace Rows

/-- THE TIED CARD OF 'kedgelaw12.BlockBack'. -/
def blockBackCard : Claim7 := { stood := { row := blockBackRow, standIns := [], harness := (true, "94dafbf7defd904165e0f73e318336ce6c27454e2f2a720d13525da95fa04adb"), looks := true }, kinds := [], alts := [], laidByText := true, laidKinds := [.handle], laidTests := true, laidLooks := .later }
def BlockBackCardSaid : Prop := Claim7.holds Tryz.pinned (.plain (OpenSpec.ofChange blockBackSpec)) blockBackCard

/-- THE TIED CARD OF 'kedgelaw12.BlockState'. -/
def blockStateCard : Claim7 := { stood := { row := blockStateRow, standIns := [], harness := (true, "94dafbf7defd904165e0f73e318336ce6c27454e2f2a720d13525da95fa04adb"), looks := true }, kinds := [], alts := [], laidByText := true, laidKinds := [.handle], laidTests := true, laidLooks := .later }
def BlockStateCardSaid : Prop := Claim7.holds Tryz.pinned (.plain (OpenSpec.ofChange blockStateSpec)) blockStateCard

/-- THE TIED CARD OF 'kedgelaw12.BlockValues'. -/
def blockValuesCard : Claim7 := { stood := { row := blockValuesRow, standIns := [], harness := (true, "94dafbf7defd904165e0f73e318336ce6c27454e2f2a720d13525da95fa04adb"), looks := true }, kinds := [], alts := [], laidByText := true, laidKinds := [.handle], laidTests := true, laidLooks := .later }
def BlockValuesCardSaid : Prop := Claim7.holds Tryz.pinned (.plain (OpenSpec.ofChange blockValuesSpec)) blockValuesCard

/-- THE TIED CARD OF 'kedgelaw12.BlockPlays'. -/
def blockPlaysCard : Claim7 := { stood := { row := blockPlaysRow, standIns := [], harness := (true, "94dafbf7defd904165e0f73e318336ce6c27454e2f2a720d13525da95fa04adb"), looks := true }, kinds := [], alts := [], laidByText := true, laidKinds := [.handle], laidTests := true, laidLooks := .later }
def BlockPlaysCardSaid : Prop := Claim7.holds Tryz.pinned (.plain (OpenSpec.ofChange blockPlaysSpec)) blockPlaysCard

/-- THE TIED CARD OF 'kedgelaw12.BlockRaw'. -/
def blockRawCard : Claim7 := { stood := { row := blockRawRow, standIns := [], harness := (true, "94dafbf7defd904165e0f73e318336ce6c27454e2f2a720d13525da95fa04adb"), looks := true }, kinds := [], alts := [], laidByText := true, laidKinds := [.handle], laidTests := true, laidLooks := .later }
def BlockRawCardSaid : Prop := Claim7.holds Tryz.pinned (.plain (OpenSpec.ofChange blockRawSpec)) blockRawCard

/-- THE TIED CARD OF 'kedgelaw12.BlockParts'. -/
def blockPartsCard : Claim7 := { stood := { row := blockPartsRow, standIns := [], harness := (true, "94dafbf7defd904165e0f73e318336ce6c27454e2f2a720d13525da95fa04adb"), looks := true }, kinds := [], alts := [], laidByText := true, laidKinds := [.handle], laidTests := true, laidLooks := .later }
def BlockPartsCardSaid : Prop := Claim7.holds Tryz.pinned (.plain (OpenSpec.ofChange blockPartsSpec)) blockPartsCard

/-- THE TIED CARD OF 'kedgelaw17.PoolRaw'. -/
def poolRawCard : Claim7 := { stood := { row := poolRawRow, standIns := [], harness := (true, "94dafbf7defd904165e0f73e318336ce6c27454e2f2a720d13525da95fa04adb"), looks := true }, kinds := [], alts := [], laidByText := true, laidKinds := [.handle], laidTests := true, laidLooks := .later }
def PoolRawCardSaid : Prop := Claim7.holds Tryz.pinned (.plain (OpenSpec.ofChange poolRawSpec)) poolRawCard

/-- THE TIED CARD OF 'kedgelaw17.PoolPlays'. -/
def poolPlaysCard : Claim7 := { stood := { row := poolPlaysRow, standIns := [], harness := (true, "94dafbf7defd904165e0f73e318336ce6c27454e2f2a720d13525da95fa04adb"), looks := true }, kinds := [], alts := [], laidByText := true, laidKinds := [.handle], laidTests := true, laidLooks := .later }
def PoolPlaysCardSaid : Prop := Claim7.holds Tryz.pinned (.plain (OpenSpec.ofChange poolPlaysSpec)) poolPlaysCard

/-- THE TIED CARD OF 'kedgelaw13.ChainPlays'. -/
def chainPlaysCard : Claim7 := { stood := { row := chainPlaysRow, standIns := [], harness := (true, "94dafbf7defd904165e0f73e318336ce6c27454e2f2a720d13525da95fa04adb"), looks := true }, kinds := [], alts := [], laidByText := true, laidKinds := [.handle], laidTests := true, laidLooks := .later }
def ChainPlaysCardSaid : Prop := Claim7.holds Tryz.pinned (.plain (OpenSpec.ofChange chainPlaysSpec)) chainPlaysCard

/-- THE SECOND FORM's CARD OF 'kedgelaw12.BlockBack'. -/
def blockBackUptoCard : Claim7 := { stood := { row := blockBackUptoRow, standIns := [], harness := (true, "94dafbf7defd904165e0f73e318336ce6c27454e2f2a720d13525da95fa04adb"), looks := true }, kinds := [], alts := [], laidByText := true, laidKinds := [.handle], laidTests := true, laidLooks := .later }
def BlockBackUptoCardSaid : Prop := Claim7.holds Tryz.pinned (.plain (OpenSpec.upto blockBackSpec)) blockBackUptoCard

/-- THE SECOND FORM's CARD OF 'kedgelaw12.BlockState'. -/
def blockStateUptoCard : Claim7 := { stood := { row := blockStateUptoRow, standIns := [], harness := (true, "94dafbf7defd904165e0f73e318336ce6c27454e2f2a720d13525da95fa04adb"), looks := true }, kinds := [], alts := [], laidByText := true, laidKinds := [.handle], laidTests := true, laidLooks := .later }
def BlockStateUptoCardSaid : Prop := Claim7.holds Tryz.pinned (.plain (OpenSpec.upto blockStateSpec)) blockStateUptoCard

/-- THE SECOND FORM's CARD OF 'kedgelaw12.BlockValues'. -/
def blockValuesUptoCard : Claim7 := { stood := { row := blockValuesUptoRow, standIns := [], harness := (true, "94dafbf7defd904165e0f73e318336ce6c27454e2f2a720d13525da95fa04adb"), looks := true }, kinds := [], alts := [], laidByText := true, laidKinds := [.handle], laidTests := true, laidLooks := .later }
def BlockValuesUptoCardSaid : Prop := Claim7.holds Tryz.pinned (.plain (OpenSpec.upto blockValuesSpec)) blockValuesUptoCard

/-- THE SECOND FORM's CARD OF 'kedgelaw12.BlockPlays'. -/
def blockPlaysUptoCard : Claim7 := { stood := { row := blockPlaysUptoRow, standIns := [], harness := (true, "94dafbf7defd904165e0f73e318336ce6c27454e2f2a720d13525da95fa04adb"), looks := true }, kinds := [], alts := [], laidByText := true, laidKinds := [.handle], laidTests := true, laidLooks := .later }
def BlockPlaysUptoCardSaid : Prop := Claim7.holds Tryz.pinned (.plain (OpenSpec.upto blockPlaysSpec)) blockPlaysUptoCard

/-- THE SECOND FORM's CARD OF 'kedgelaw12.BlockRaw'. -/
def blockRawUptoCard : Claim7 := { stood := { row := blockRawUptoRow, standIns := [], harness := (true, "94dafbf7defd904165e0f73e318336ce6c27454e2f2a720d13525da95fa04adb"), looks := true }, kinds := [], alts := [], laidByText := true, laidKinds := [.handle], laidTests := true, laidLooks := .later }
def BlockRawUptoCardSaid : Prop := Claim7.holds Tryz.pinned (.plain (OpenSpec.upto blockRawSpec)) blockRawUptoCard

/-- THE SECOND FORM's CARD OF 'kedgelaw12.BlockParts'. -/
def blockPartsUptoCard : Claim7 := { stood := { row := blockPartsUptoRow, standIns := [], harness := (true, "94dafbf7defd904165e0f73e318336ce6c27454e2f2a720d13525da95fa04adb"), looks := true }, kinds := [], alts := [], laidByText := true, laidKinds := [.handle], laidTests := true, laidLooks := .later }
def BlockPartsUptoCardSaid : Prop := Claim7.holds Tryz.pinned (.plain (OpenSpec.upto blockPartsSpec)) blockPartsUptoCard

/-- THE SECOND FORM's CARD OF 'kedgelaw17.PoolRaw'. -/
def poolRawUptoCard : Claim7 := { stood := { row := poolRawUptoRow, standIns := [], harness := (true, "94dafbf7defd904165e0f73e318336ce6c27454e2f2a720d13525da95fa04adb"), looks := true }, kinds := [], alts := [], laidByText := true, laidKinds := [.handle], laidTests := true, laidLooks := .later }
def PoolRawUptoCardSaid : Prop := Claim7.holds Tryz.pinned (.plain (OpenSpec.upto poolRawSpec)) poolRawUptoCard

/-- THE SECOND FORM's CARD OF 'kedgelaw17.PoolPlays'. -/
def poolPlaysUptoCard : Claim7 := { stood := { row := poolPlaysUptoRow, standIns := [], harness := (true, "94dafbf7defd904165e0f73e318336ce6c27454e2f2a720d13525da95fa04adb"), looks := true }, kinds := [], alts := [], laidByText := true, laidKinds := [.handle], laidTests := true, laidLooks := .later }
def PoolPlaysUptoCardSaid : Prop := Claim7.holds Tryz.pinned (.plain (OpenSpec.upto poolPlaysSpec)) poolPlaysUptoCard

/-- THE SECOND FORM's CARD OF 'kedgelaw13.ChainPlays'. -/
def chainPlaysUptoCard : Claim7 := { stood := { row := chainPlaysUptoRow, standIns := [], harness := (true, "94dafbf7defd904165e0f73e318336ce6c27454e2f2a720d13525da95fa04adb"), looks := true }, kinds := [], alts := [], laidByText := true, laidKinds := [.handle], laidTests := true, laidLooks := .later }
def ChainPlaysUptoCardSaid : Prop := Claim7.holds Tryz.pinned (.plain (OpenSpec.upto chainPlaysSpec)) chainPlaysUptoCard
end Rows
end Go.Proofs.YtbidkcjendncaaaGreatDoor
