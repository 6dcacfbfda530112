/-
  DERIVED. GIVEN WITH THE SEED: THE CARDS: each row of YteceapipdhnhdaaGreatDoorRows.lean that lists a variable, with what it lists TIED to the program's text (the seventh form; the later family's looks); each row that meets fmt, with fmt's text TOLD by the authors' own Lean function (tested against real Go, not proved from fmt's source: count such statements apart). THE CARD IS WHAT COUNTS. Prove the row's statement (the work); the ties are given (YteceapipdhnhdaaGreatDoorTie.lean); close each card by the builder's one call (the guide's Derived/Test/ToyasCard.lean, 'card_holds'). Laid BY PROGRAM, IN A SANDBOX (cutbox-door.mjs). By AI agents, Wed Nov 11 2026. No macro, syntax, notation, axiom, sorry.
-/
import Derived.Test.YteceapipdhnhdaaGreatDoorRows
import GoSem.ClaimSeven
namespace Go.Proofs.YteceapipdhnhdaaGreatDoor
namespace Rows

/-- THE TIED CARD OF 'kedgelaw20.ChurnNil'. -/
def churnNilCard : Claim7 := { stood := { row := churnNilRow, standIns := [], harness := (true, "cbe8f654f87935e707d2bf1e817c9d661268e0dd3affa53bbe8ad883db0d7f5c"), looks := true }, kinds := [], alts := [], laidByText := true, laidKinds := [.handle], laidTests := true, laidLooks := .later }
def ChurnNilCardSaid : Prop := Claim7.holds Tryz.pinned (.plain (OpenSpec.ofChange churnNilSpec)) churnNilCard

/-- THE TIED CARD OF 'kedgelaw20.ChurnPlays'. -/
def churnPlaysCard : Claim7 := { stood := { row := churnPlaysRow, standIns := [], harness := (true, "cbe8f654f87935e707d2bf1e817c9d661268e0dd3affa53bbe8ad883db0d7f5c"), looks := true }, kinds := [], alts := [], laidByText := true, laidKinds := [.handle], laidTests := true, laidLooks := .later }
def ChurnPlaysCardSaid : Prop := Claim7.holds Tryz.pinned (.plain (OpenSpec.ofChange churnPlaysSpec)) churnPlaysCard

/-- THE TIED CARD OF 'kedgelaw20.ChurnBack'. -/
def churnBackCard : Claim7 := { stood := { row := churnBackRow, standIns := [], harness := (true, "cbe8f654f87935e707d2bf1e817c9d661268e0dd3affa53bbe8ad883db0d7f5c"), looks := true }, kinds := [], alts := [], laidByText := true, laidKinds := [.handle], laidTests := true, laidLooks := .later }
def ChurnBackCardSaid : Prop := Claim7.holds Tryz.pinned (.plain (OpenSpec.ofChange churnBackSpec)) churnBackCard

/-- THE TIED CARD OF 'kedgelaw20.ChurnEmpty'. -/
def churnEmptyCard : Claim7 := { stood := { row := churnEmptyRow, standIns := [], harness := (true, "cbe8f654f87935e707d2bf1e817c9d661268e0dd3affa53bbe8ad883db0d7f5c"), looks := true }, kinds := [], alts := [], laidByText := true, laidKinds := [.handle], laidTests := true, laidLooks := .later }
def ChurnEmptyCardSaid : Prop := Claim7.holds Tryz.pinned (.plain (OpenSpec.ofChange churnEmptySpec)) churnEmptyCard

/-- THE SECOND FORM's CARD OF 'kedgelaw20.ChurnNil'. -/
def churnNilUptoCard : Claim7 := { stood := { row := churnNilUptoRow, standIns := [], harness := (true, "cbe8f654f87935e707d2bf1e817c9d661268e0dd3affa53bbe8ad883db0d7f5c"), looks := true }, kinds := [], alts := [], laidByText := true, laidKinds := [.handle], laidTests := true, laidLooks := .later }
def ChurnNilUptoCardSaid : Prop := Claim7.holds Tryz.pinned (.plain (OpenSpec.upto churnNilSpec)) churnNilUptoCard

/-- THE SECOND FORM's CARD OF 'kedgelaw20.ChurnPlays'. -/
def churnPlaysUptoCard : Claim7 := { stood := { row := churnPlaysUptoRow, standIns := [], harness := (true, "cbe8f654f87935e707d2bf1e817c9d661268e0dd3affa53bbe8ad883db0d7f5c"), looks := true }, kinds := [], alts := [], laidByText := true, laidKinds := [.handle], laidTests := true, laidLooks := .later }
def ChurnPlaysUptoCardSaid : Prop := Claim7.holds Tryz.pinned (.plain (OpenSpec.upto churnPlaysSpec)) churnPlaysUptoCard

/-- THE SECOND FORM's CARD OF 'kedgelaw20.ChurnBack'. -/
def churnBackUptoCard : Claim7 := { stood := { row := churnBackUptoRow, standIns := [], harness := (true, "cbe8f654f87935e707d2bf1e817c9d661268e0dd3affa53bbe8ad883db0d7f5c"), looks := true }, kinds := [], alts := [], laidByText := true, laidKinds := [.handle], laidTests := true, laidLooks := .later }
def ChurnBackUptoCardSaid : Prop := Claim7.holds Tryz.pinned (.plain (OpenSpec.upto churnBackSpec)) churnBackUptoCard

/-- THE SECOND FORM's CARD OF 'kedgelaw20.ChurnEmpty'. -/
def churnEmptyUptoCard : Claim7 := { stood := { row := churnEmptyUptoRow, standIns := [], harness := (true, "cbe8f654f87935e707d2bf1e817c9d661268e0dd3affa53bbe8ad883db0d7f5c"), looks := true }, kinds := [], alts := [], laidByText := true, laidKinds := [.handle], laidTests := true, laidLooks := .later }
def ChurnEmptyUptoCardSaid : Prop := Claim7.holds Tryz.pinned (.plain (OpenSpec.upto churnEmptySpec)) churnEmptyUptoCard
end Rows
end Go.Proofs.YteceapipdhnhdaaGreatDoor
