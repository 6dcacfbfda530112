/- Contracts: transactions made of small numbers. Contracts: wh -/
import Derived.Test.YtgloknkcfchnlaaGreatDoorZ24
import Derived.Test.YtgloknkcfchnlaaGreatDoorZ25
set_option linter.unusedVariables false
set_option linter.unusedSimpArgs false
namespace Go.Proofs.YtgloknkcfchnlaaGreatDoor
section
open Go Go.K
attribute [local irreducible] aD aK aV KOp.wp K.Spec u32 leS vnS str aN cR bI idT aY aI aO
end
section
open Go Go.K
attribute [local irreducible] aD aK aV KOp.wp K.Spec u32 leS vnS str aN cR bI idT aY aI aO
end
section
open Go Go.K
attribute [local irreducible] aD aK aV KOp.wp K.Spec u32 leS vnS str aN cR bI idT aY aI aO
def s9:ByteArray:=⟨#[1,1,0,0,0,0,0,0,0]⟩
end
end Go.Proofs.YtgloknkcfchnlaaGreatDoor
