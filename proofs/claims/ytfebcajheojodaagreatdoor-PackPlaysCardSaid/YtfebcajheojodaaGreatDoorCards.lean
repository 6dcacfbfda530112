/-
  DERIVED. GIVEN WITH THE SEED: THE CARDS: each row of YtfebcajheojodaaGreatDoorRows.lean that lists a variable, with what it lists TIED to the program's text (the seventh form; the later family's looks); each row that meets fmt, with fmt's text TOLD by the authors' own Lean function (tested against real Go, not proved from fmt's source: count such statements apart). THE CARD IS WHAT COUNTS. Prove the row's statement (the work); the ties are given (YtfebcajheojodaaGreatDoorTie.lean); close each card by the builder's one call (the guide's Derived/Test/ToyasCard.lean, 'card_holds'). Laid BY PROGRAM, IN A SANDBOX (cutbox-door.mjs). By AI agents, Wed Nov 11 2026. No macro, syntax, notation, axiom, sorry.
-/
import Derived.Test.YtfebcajheojodaaGreatDoorRows
import GoSem.ClaimSeven
namespace Go.Proofs.YtfebcajheojodaaGreatDoor
namespace Rows

/-- THE TIED CARD OF 'kedgelaw17.PoolRaw'. -/
def poolRawCard : Claim7 := { stood := { row := poolRawRow, standIns := [], harness := (true, "8ef46d1f72c5e34a7db7dab335248621e9e5b42690b559392637419a9e3ce3d1"), looks := true }, kinds := [], alts := [], laidByText := true, laidKinds := [.handle], laidTests := true, laidLooks := .later }
def PoolRawCardSaid : Prop := Claim7.holds Tryz.pinned (.plain (OpenSpec.ofChange poolRawSpec)) poolRawCard

/-- THE TIED CARD OF 'kedgelaw17.PoolPlays'. -/
def poolPlaysCard : Claim7 := { stood := { row := poolPlaysRow, standIns := [], harness := (true, "8ef46d1f72c5e34a7db7dab335248621e9e5b42690b559392637419a9e3ce3d1"), looks := true }, kinds := [], alts := [], laidByText := true, laidKinds := [.handle], laidTests := true, laidLooks := .later }
def PoolPlaysCardSaid : Prop := Claim7.holds Tryz.pinned (.plain (OpenSpec.ofChange poolPlaysSpec)) poolPlaysCard

/-- THE TIED CARD OF 'kedgelaw18.PackPlays'. -/
def packPlaysCard : Claim7 := { stood := { row := packPlaysRow, standIns := [], harness := (true, "8ef46d1f72c5e34a7db7dab335248621e9e5b42690b559392637419a9e3ce3d1"), looks := true }, kinds := [], alts := [], laidByText := true, laidKinds := [.handle], laidTests := true, laidLooks := .later }
def PackPlaysCardSaid : Prop := Claim7.holds Tryz.pinned (.plain (OpenSpec.ofChange packPlaysSpec)) packPlaysCard

/-- THE TIED CARD OF 'kedgelaw18.PackRaw'. -/
def packRawCard : Claim7 := { stood := { row := packRawRow, standIns := [], harness := (true, "8ef46d1f72c5e34a7db7dab335248621e9e5b42690b559392637419a9e3ce3d1"), looks := true }, kinds := [], alts := [], laidByText := true, laidKinds := [.handle], laidTests := true, laidLooks := .later }
def PackRawCardSaid : Prop := Claim7.holds Tryz.pinned (.plain (OpenSpec.ofChange packRawSpec)) packRawCard

/-- THE SECOND FORM's CARD OF 'kedgelaw17.PoolRaw'. -/
def poolRawUptoCard : Claim7 := { stood := { row := poolRawUptoRow, standIns := [], harness := (true, "8ef46d1f72c5e34a7db7dab335248621e9e5b42690b559392637419a9e3ce3d1"), looks := true }, kinds := [], alts := [], laidByText := true, laidKinds := [.handle], laidTests := true, laidLooks := .later }
def PoolRawUptoCardSaid : Prop := Claim7.holds Tryz.pinned (.plain (OpenSpec.upto poolRawSpec)) poolRawUptoCard

/-- THE SECOND FORM's CARD OF 'kedgelaw17.PoolPlays'. -/
def poolPlaysUptoCard : Claim7 := { stood := { row := poolPlaysUptoRow, standIns := [], harness := (true, "8ef46d1f72c5e34a7db7dab335248621e9e5b42690b559392637419a9e3ce3d1"), looks := true }, kinds := [], alts := [], laidByText := true, laidKinds := [.handle], laidTests := true, laidLooks := .later }
def PoolPlaysUptoCardSaid : Prop := Claim7.holds Tryz.pinned (.plain (OpenSpec.upto poolPlaysSpec)) poolPlaysUptoCard

/-- THE SECOND FORM's CARD OF 'kedgelaw18.PackPlays'. -/
def packPlaysUptoCard : Claim7 := { stood := { row := packPlaysUptoRow, standIns := [], harness := (true, "8ef46d1f72c5e34a7db7dab335248621e9e5b42690b559392637419a9e3ce3d1"), looks := true }, kinds := [], alts := [], laidByText := true, laidKinds := [.handle], laidTests := true, laidLooks := .later }
def PackPlaysUptoCardSaid : Prop := Claim7.holds Tryz.pinned (.plain (OpenSpec.upto packPlaysSpec)) packPlaysUptoCard

/-- THE SECOND FORM's CARD OF 'kedgelaw18.PackRaw'. -/
def packRawUptoCard : Claim7 := { stood := { row := packRawUptoRow, standIns := [], harness := (true, "8ef46d1f72c5e34a7db7dab335248621e9e5b42690b559392637419a9e3ce3d1"), looks := true }, kinds := [], alts := [], laidByText := true, laidKinds := [.handle], laidTests := true, laidLooks := .later }
def PackRawUptoCardSaid : Prop := Claim7.holds Tryz.pinned (.plain (OpenSpec.upto packRawSpec)) packRawUptoCard
end Rows
end Go.Proofs.YtfebcajheojodaaGreatDoor
