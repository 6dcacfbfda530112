/- Contracts: the document's coins of numbers, and its view; se -/
import Derived.Test.YtgloknkcfchnlaaGreatDoorZ39
set_option linter.unusedVariables false
set_option linter.unusedSimpArgs false
namespace Go.Proofs.YtgloknkcfchnlaaGreatDoor
section
open Go Go.K
attribute [local irreducible] aD aK aV KOp.wp K.Spec u32 leS vnS str aN cR bI idT aY aI aO
end
end Go.Proofs.YtgloknkcfchnlaaGreatDoor
