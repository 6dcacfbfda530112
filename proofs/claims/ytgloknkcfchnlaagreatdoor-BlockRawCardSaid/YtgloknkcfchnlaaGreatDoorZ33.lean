/- Contracts: may an entry be replaced; does a transaction spen -/
import Derived.Test.YtgloknkcfchnlaaGreatDoorZ30
import Derived.Test.YtgloknkcfchnlaaGreatDoorZ32
set_option linter.unusedVariables false
set_option linter.unusedSimpArgs false
namespace Go.Proofs.YtgloknkcfchnlaaGreatDoor
section
open Go Go.K
attribute [local irreducible] aD aK aV KOp.wp K.Spec u32 leS vnS str aN cR bI idT aY aI aO
end
end Go.Proofs.YtgloknkcfchnlaaGreatDoor
