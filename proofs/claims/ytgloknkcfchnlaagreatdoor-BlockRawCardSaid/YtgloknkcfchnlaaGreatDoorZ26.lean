/- Contracts: what a graph answers. Contracts: what a graph ans -/
import Derived.Test.YtgloknkcfchnlaaGreatDoorZ23
import Derived.Test.YtgloknkcfchnlaaGreatDoorZ24
set_option linter.unusedVariables false
set_option linter.unusedSimpArgs false
namespace Go.Proofs.YtgloknkcfchnlaaGreatDoor
section
open Go Go.K
attribute [local irreducible] aD aK aV KOp.wp K.Spec u32 leS vnS str aN cR bI idT aY aI aO spends
end
section
open Go Go.K
attribute [local irreducible] aD aK aV KOp.wp K.Spec u32 leS vnS str aN cR bI idT aY aI aO spends
end
section
open Go Go.K
attribute [local irreducible] aD aK aV KOp.wp K.Spec u32 leS vnS str aN cR bI idT aY aI aO spends
end
section
open Go Go.K
attribute [local irreducible] aD aK aV KOp.wp K.Spec u32 leS vnS str aN cR bI idT aY aI aO spends
section
variable {P:Program} {d:Option Tmp} {r:KR} {K:Env→World→Prop} {ρ:Env} {w:World}
end
end
section
open Go Go.K
attribute [local irreducible] aD aK aV KOp.wp K.Spec u32 leS vnS str aN cR bI idT aY aI aO
end
section
open Go Go.K
attribute [local irreducible] aD aK aV KOp.wp K.Spec u32 leS vnS str aN cR bI idT aY aI aO
end
section
open Go Go.K
attribute [local irreducible] aD aK aV KOp.wp K.Spec u32 leS vnS str aN cR bI idT aY aI aO
end
section
open Go Go.K
attribute [local irreducible] aD aK aV KOp.wp K.Spec u32 leS vnS str aN cR bI idT aY aI aO
end
end Go.Proofs.YtgloknkcfchnlaaGreatDoor
