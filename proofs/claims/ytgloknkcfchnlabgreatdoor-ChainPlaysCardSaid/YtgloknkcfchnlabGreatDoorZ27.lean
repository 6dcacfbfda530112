/- Contracts: dropping from a graph. Contracts: dropping from a -/
import Derived.Test.YtgloknkcfchnlabGreatDoorZ23
import Derived.Test.YtgloknkcfchnlabGreatDoorZ24
set_option linter.unusedVariables false
set_option linter.unusedSimpArgs false
namespace Go.Proofs.YtgloknkcfchnlabGreatDoor
section
open Go Go.K
attribute [local irreducible] aG aK aU KOp.wp K.Spec u32 leS vnS str aN cV bH idT aV aJ aO
end
section
open Go Go.K
attribute [local irreducible] aG aK aU KOp.wp K.Spec u32 leS vnS str aN cV bH idT aV aJ aO
end
end Go.Proofs.YtgloknkcfchnlabGreatDoor
