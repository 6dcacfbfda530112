/- Contracts: what is wrong with a block, by its number and pla -/
import Derived.Test.YtgloknkcfchnlabGreatDoorZ45
set_option linter.unusedVariables false
set_option linter.unusedSimpArgs false
namespace Go.Proofs.YtgloknkcfchnlabGreatDoor
section
open Go Go.K
attribute [local irreducible] aG aK aU KOp.wp K.Spec u32 leS vnS str aN aJ aP bH idT aV EtR
theorem pP.errR {w:World} {v:Value} {c a i:Int} (h:pP w v c a i) (h0:c=0→a= -1):dA w 2 v c a:=by
 rcases h with ⟨h1,h2⟩|⟨h1,⟨h2,h3, -⟩|⟨h2,b,u,h3,h4,h5⟩⟩
 ·subst h1;subst h2;rw [h0 rfl];exact dA.none_ _ _
 ·subst h2;rw [h3];exact dA.num _ _ h1
 ·exact .inr ⟨h1,h2,b,u,i,h3,h4,h5⟩
theorem pP.nilD {w:World} {v:Value} {c a i:Int} (h:pP w v c a i):(c=0→v=.nilIface)∧(c≠0→∃t u,v=.iface t u):=by
 rcases h with ⟨h1,h2⟩|⟨h1,⟨h2, -⟩|⟨-,_,_,h2, -⟩⟩
 ·exact ⟨fun _=>h2,fun h=>absurd h1 h⟩
 ·exact ⟨fun h=>absurd h h1,fun _=>⟨_,_,h2⟩⟩
 ·exact ⟨fun h=>absurd h h1,fun _=>⟨_,_,h2⟩⟩
theorem bAi (p:Pt):(Option.map (fun b=>Value.bool (if true then !b else b)) (bM [.s,.i] p.cs p.cs))=some (.bool false):=by
 simp [bM,fV,Pt.cs]
theorem aXx (c:Cn):(Option.map (fun b=>Value.bool (if true then !b else b)) (bM [.i,.s,.i] c.cs c.cs))=some (.bool false):=by
 simp [bM,fV,Cn.cs]
end
end Go.Proofs.YtgloknkcfchnlabGreatDoor
