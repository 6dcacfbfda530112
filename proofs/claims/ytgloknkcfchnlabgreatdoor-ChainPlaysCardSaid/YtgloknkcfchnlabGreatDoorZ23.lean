/- Plain: a graph as two maps and an order; the list that they  -/
import Derived.Test.YtgloknkcfchnlabGreatDoorZ22
set_option linter.unusedVariables false
set_option linter.unusedSimpArgs false
namespace Go.K
section
open Go
end
end Go.K
namespace Go.Proofs.YtgloknkcfchnlabGreatDoor
section
open Go Go.K
attribute [local irreducible] aG aK aU KOp.wp K.Spec u32 leS vnS str aN cV bH idT aV aJ aO spends
end
end Go.Proofs.YtgloknkcfchnlabGreatDoor
namespace Go.K
section
open Go
section
variable {l:List Ent} {frm:List ByteArray} {nxt:Ent→List ByteArray} {T:List ByteArray} {met:List (ByteArray × Nat)}
end
end
end Go.K
namespace Go.Proofs.YtgloknkcfchnlabGreatDoor
section
open Go Go.K
attribute [local irreducible] aG aK aU KOp.wp K.Spec u32 leS vnS str aN cV bH idT aV aJ aO
end
section
open Go Go.K
attribute [local irreducible] aG aK aU KOp.wp K.Spec u32 leS vnS str aN cV bH idT aV aJ aO
end
end Go.Proofs.YtgloknkcfchnlabGreatDoor
namespace Go.K
section
open Go
end
section
open Go
end
section
open Go
variable {l:List Ent} {s:ByteArray}
end
section
open Go
end
section
open Go
end
end Go.K
namespace Go.Proofs.YtgloknkcfchnlabGreatDoor
section
open Go Go.K
section
attribute [local irreducible] aG aK aU KOp.wp u32 leS vnS str aN cV bH idT aV aJ aO
end
attribute [local irreducible] aG aK aU KOp.wp K.Spec u32 leS vnS str aN cV bH idT aV aJ aO
end
end Go.Proofs.YtgloknkcfchnlabGreatDoor
