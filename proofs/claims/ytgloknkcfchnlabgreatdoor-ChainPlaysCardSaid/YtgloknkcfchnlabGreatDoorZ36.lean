/- Contracts: a pool, by the program. Contracts: what a pool ac -/
import Derived.Test.YtgloknkcfchnlabGreatDoorZ33
import Derived.Test.YtgloknkcfchnlabGreatDoorZ34
set_option linter.unusedVariables false
set_option linter.unusedSimpArgs false
namespace Go.Proofs.YtgloknkcfchnlabGreatDoor
section
open Go Go.K
attribute [local irreducible] aG aK aU KOp.wp K.Spec u32 leS vnS str aN cV bH idT aV aJ aO gY bN bJ
section
variable {f:Pt→Option Cn} {l:List Ent} {t:Tx} {h:Int}
end
end
section
open Go Go.K
attribute [local irreducible] aG aK aU KOp.wp K.Spec u32 leS vnS str aN cV bH idT aV aJ aO gY bN bJ
end
section
open Go Go.K
section
attribute [local irreducible] aJ aO inE gG kG values
end
section
variable {f:Pt→Option Cn} {l:List Ent} {t:Tx} {h rate:Int}
end
end
section
open Go Go.K
attribute [local irreducible] aG aK aU KOp.wp K.Spec u32 leS vnS str aN cV bH idT aV aJ aO gY bN bJ
end
section
open Go Go.K
attribute [local irreducible] aG aK aU KOp.wp K.Spec
theorem aS3 {t:TypeId} {b mb:Nat} {m:List En} (w:World) (h:jW t w b mb m):K.Spec Tryz.prog F.coins_Set_Len [.pointer (some ⟨b,0,none⟩)] w fun v w'=>v=.int .i64 (m.length:Nat)∧Ext w w':=by
 refine aDj rfl ?_
 unfold rP
 refine oy ?_
 have r:=h.row
 repeat (first|refine go ?_|refine zg λ_ _=>?_|refine zi λ_ _=>?_)
 refine aQx rfl h.2.1 ?_
 repeat (first|refine go ?_|refine zg λ_ _=>?_|refine zi λ_ _=>?_)
 exact aB rfl ⟨rfl,Ext.refl _⟩
theorem aSx {b mb:Nat} {l:List En} (w:World) (h:dD T.coins_Set w b mb l):K.Spec Tryz.prog F.coins_Set_Len [.pointer (some ⟨b,0,none⟩)] w fun v w'=>v=.int .i64 (l.length:Nat)∧Ext w w':=by
 obtain ⟨hs,m,hp,h⟩:=h
 refine fT (aS3 w h) fun v w' ⟨e,x⟩=>⟨?_,x⟩
 rw [e,hp.length_eq]
end
end Go.Proofs.YtgloknkcfchnlabGreatDoor
