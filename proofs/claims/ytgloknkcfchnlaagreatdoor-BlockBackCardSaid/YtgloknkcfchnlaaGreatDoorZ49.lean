/- How lists of blocks lie in what comes. -/
import Derived.Test.YtgloknkcfchnlaaGreatDoorZ42
set_option linter.unusedVariables false
set_option linter.unusedSimpArgs false
namespace Go.Proofs.YtgloknkcfchnlaaGreatDoor
section
open Go Go.K Go.ChangeShapes Go.WideShapes Go.ChangeAt Go.RowKit
theorem sX {W:World} {v:Value} (h:Reads Tryz.prog W 22 [v]):∃l,SlR (iO hG) [] W v l∧l.length≤maxLen:=
 jS (iO hG) Tryz.underlying22 (by kernel_rfl) (fun c hc=>by
  have hc1:∃v,c= [v]:=by
   rcases aB4 Tryz.underlying28 hc with h|⟨a,n,cap,h, -⟩
   ·exact ⟨_,h⟩
   ·exact ⟨_,h⟩
  obtain ⟨u,rfl⟩:=hc1
  obtain ⟨l,hl,_⟩:=aE1 hc
  exact ⟨l,u,rfl,hl⟩) h
end
end Go.Proofs.YtgloknkcfchnlaaGreatDoor
