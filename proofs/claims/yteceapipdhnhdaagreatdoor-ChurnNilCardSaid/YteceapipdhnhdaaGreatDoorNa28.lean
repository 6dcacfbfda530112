/- Contracts: transactions made of small numbers. Contracts: wh -/
import Derived.Test.YteceapipdhnhdaaGreatDoorNa24
import Derived.Test.YteceapipdhnhdaaGreatDoorNa25
set_option linter.unusedVariables false
set_option linter.unusedSimpArgs false
namespace Go.Proofs.YteceapipdhnhdaaGreatDoor
section
open Go Go.K
attribute [local irreducible] aH aM aY KOp.wp K.Spec u32 leS vnS str aP cM bK idT aQ aG aN idN
end
section
open Go Go.K
attribute [local irreducible] aH aM aY KOp.wp K.Spec u32 leS vnS str aP cM bK idT aQ aG aN
end
section
open Go Go.K
attribute [local irreducible] aH aM aY KOp.wp K.Spec u32 leS vnS str aP cM bK idT aQ aG aN idN
def s9:ByteArray:=⟨#[1,1,0,0,0,0,0,0,0]⟩
end
end Go.Proofs.YteceapipdhnhdaaGreatDoor
