/- Contracts: accepting into no pool; what the document fixes o -/
import Derived.ChangeSame
import Derived.ChangeVars
import Derived.JoinedOf
import Derived.RowKit
import Derived.RowKitTokens
import Derived.LaidLaws
import Derived.LaidHandle
import Derived.Stop.Joined
import Derived.Test.YteceapipdhnhdaaGreatDoorChecked
import Derived.Test.YteceapipdhnhdaaGreatDoorTie
import Derived.Test.YteceapipdhnhdaaGreatDoorCards
import Derived.SevenTiedAt
import Derived.Test.YteceapipdhnhdaaGreatDoorNa39
import Derived.Test.YteceapipdhnhdaaGreatDoorNa40
import Derived.Test.YteceapipdhnhdaaGreatDoorNa41
set_option linter.unusedVariables false
set_option linter.unusedSimpArgs false
namespace Go.Proofs.YteceapipdhnhdaaGreatDoor
section
open Go Go.K
attribute [local irreducible] aH aM aY KOp.wp K.Spec u32 leS vnS str aP cM bK idT aQ aG aN idN bG cL cB bQ cF fM dC bV aO kZ fL wF qP bP evL inS inB mT iI lI jR jO uE nH fB iN gJ pD cA bS aU bN eX eV iS pU aBh
theorem bRv {α:Type} {E:R α} {M:List Nat} {w:World} {b n:Nat} {t:TypeId} {arr:List Value} {l:List α} (css:List (Vec E.k)) (h:At w b (.cells arr.toArray t (0,0))) (e:(jM E.k E.pos).flat css=arr) (ha:E.all (b::M) w css l) (hb:b∉M) (hn:css.length=n):SlR E M w (.slice (some ⟨b,0,none⟩) n n) l:=by
 subst hn
 have o:bH E t 0 M w (.slice (some ⟨b,0,none⟩) css.length css.length) l:=⟨css,.inr ⟨b,css.length, [],rfl,Nat.zero_le _,by rw [e,List.append_nil];exact h,by rw [List.append_nil,Enc.flat_length]⟩,ha⟩
 exact o.sl fun b' hb' h'=>by
  simp [aC] at h'
  subst h';exact hb hb'
theorem bIv {w:World} {e:Value} {c:Int} (h:dD w 1 e c (-1)) (hc:c≠0):e=qO c:=by
 rcases h with ⟨-,⟨h1, -⟩|⟨-,h1⟩⟩|⟨-,h1, -⟩
 ·exact absurd h1 hc
 ·exact h1
 ·omega
end
section
open Go Go.K Go.ChangeShapes Go.WideShapes Go.ChangeAt Go.RowKit
set_option maxRecDepth 100000
theorem bQ9:Tryz.prog.globalNamed "errors.errorType" =some 0:=by kernel_rfl
theorem bRb:(Tryz.prog.cutTypes.find? (·.1== "internal/reflectlite.rtype")).map (·.2)=some 176:=by kernel_rfl
theorem bPg:((List.range 434).filter fun t=>Tryz.prog.rowNamed t [101,114,114,111,114])= [53]:=by kernel_rfl
theorem bNs:Tryz.prog.types.size=434:=by kernel_rfl
abbrev aTq:List (String × DataW Unit):= [("errors.errorType",Rows.laid_errors_errorType)]
theorem aZ9 {W:World} (h:laidMetH Tryz.prog aTq W):EtR W:=by
 have h':laidMet Tryz.prog [] W∧handlesMet Tryz.prog aTq W:=h
 obtain ⟨name,u,ty,e1,e2,e3,e4,e5⟩:=h'.2 _ (List.mem_singleton.2 rfl)
 have en:name= [101,114,114,111,114]:=(Option.some.inj e1).symm
 subst en
 obtain rfl:=Option.some.inj (bRb.symm.trans e2)
 have hm:ty∈(List.range 434).filter fun t=>Tryz.prog.rowNamed t [101,114,114,111,114]:=List.mem_filter.2 ⟨List.mem_range.2 (by rw [←bNs];exact e3),e4⟩
 rw [bPg] at hm
 obtain rfl:=List.mem_singleton.1 hm
 have hh:typeHandle Tryz.prog 53=.pointer (some ⟨4,53,none⟩):=by kernel_rfl
 rw [hh] at e5
 unfold EtR
 simpa using World.var?_cell bQ9 e5 0
noncomputable def aRv (os : Os) : World :=
  let w0 := World.holding Tryz.prog os ⟨#[], #[], []⟩
  { w0 with heap := w0.heap.modify 0 fun
      | .cells _ t frozen => .cells #[.iface 176 (.agg #[.pointer (some ⟨4, 53, none⟩)])] t frozen
      | o => o }
theorem aQ4 (os:Os) (args:Array Value):laidMetH Tryz.prog aTq ((aRv os).forCall (fun _ _=>0) ⟨#[],args, []⟩).memory:=
 laidMetH_of_parts (laidMet_nil _ _) (by kernel_rfl)
end
section
open Go Go.K Go.ChangeShapes Go.WideShapes Go.ChangeAt Go.RowKit
set_option maxRecDepth 100000
theorem bRy:Tryz.prog.cellsOf 86=4:=by kernel_rfl
theorem bOx:Tryz.prog.cellsOf 88=2:=by kernel_rfl
theorem bSk:Tryz.prog.cellsOf 26=4:=by kernel_rfl
theorem bRq:Tryz.prog.cellsOf 23=1:=by kernel_rfl
theorem bPm:Tryz.prog.cellsOf 24=1:=by kernel_rfl
theorem bGi:Tryz.prog.cellsOf 84=1:=by kernel_rfl
theorem bG9 {W:World} {c:List Value} (h:Reads Tryz.prog W 86 c):∃x:TIn,inR.rel [] W c x∧x.wit.length≤9223372036854775807:=by
 obtain ⟨h1,h2⟩:=sE Tryz.underlying86 h
 have l:c.length=4:=h1.trans bRy
 match c,l with
 | [c0,c1,c2,c3],_=>
  have g0:=h2 _ (List.mem_of_getElem? (i:=0) rfl)
  have g1:=h2 _ (List.mem_of_getElem? (i:=1) rfl)
  have g2:=h2 _ (List.mem_of_getElem? (i:=2) rfl)
  obtain ⟨p,e0,hp⟩:=aLg g0
  obtain ⟨q,e1,hq⟩:=aEa g1
  simp only [bGi,List.drop_zero,List.drop_succ_cons,List.take_succ_cons,List.take_zero] at g2
  obtain ⟨wl,hw,hwl⟩:=aKw nM Tryz.underlying84 (by kernel_rfl) (fun c hc=>by
   obtain ⟨s,e,_⟩:=zS Tryz.underlying9 hc
   exact ⟨s,by subst e;rfl⟩) g2
  simp only [bEq,bKy,List.drop_zero,List.drop_succ_cons,List.take_succ_cons,List.take_zero,List.cons.injEq,and_true] at e0 e1
  refine ⟨⟨p,q,wl⟩,⟨c3,?_,hw,hp,hq⟩,hwl⟩
  have e:p.cs= [.string p.s,.int .u32 p.i]:=rfl
  rw [e] at e0
  simp only [List.cons.injEq,and_true] at e0
  rw [e0.1,e0.2,e1];rfl
theorem bH1 {W:World} {c:List Value} (h:Reads Tryz.prog W 88 c):∃y:TOut,gF.rel [] W c y:=by
 obtain ⟨h1,h2⟩:=sE Tryz.underlying88 h
 have l:c.length=2:=h1.trans bOx
 match c,l with
 | [c0,c1],_=>
  have g0:=h2 _ (List.mem_of_getElem? (i:=0) rfl)
  have g1:=h2 _ (List.mem_of_getElem? (i:=1) rfl)
  obtain ⟨v,e0,hv⟩:=aR1 g0
  obtain ⟨s,e1,_⟩:=zS Tryz.underlying9 g1
  simp only [aZ4,bRd,List.drop_zero,List.drop_succ_cons,List.take_succ_cons,List.take_zero,List.cons.injEq,and_true] at e0 e1
  exact ⟨⟨v,s⟩,by rw [e0,e1];rfl,hv⟩
theorem bJ3 {W:World} {c:List Value} (h:Reads Tryz.prog W 26 c):∃t:Tx,txR.rel [] W c t∧t.Raw:=by
 obtain ⟨h1,h2⟩:=sE Tryz.underlying26 h
 have l:c.length=4:=h1.trans bSk
 match c,l with
 | [c0,c1,c2,c3],_=>
  have g0:=h2 _ (List.mem_of_getElem? (i:=0) rfl)
  have g1:=h2 _ (List.mem_of_getElem? (i:=1) rfl)
  have g2:=h2 _ (List.mem_of_getElem? (i:=2) rfl)
  have g3:=h2 _ (List.mem_of_getElem? (i:=3) rfl)
  obtain ⟨v,e0,hv⟩:=aEa g0
  obtain ⟨k,e3,hk⟩:=aEa g3
  simp only [bRq,bPm,List.drop_zero,List.drop_succ_cons,List.take_succ_cons,List.take_zero] at g1 g2
  obtain ⟨ins,hi,hil⟩:=aKw (inR.and fun x=>x.wit.length≤9223372036854775807) Tryz.underlying23 bRy (fun c hc=>bG9 hc) g1
  obtain ⟨outs,ho,hol⟩:=aKw gF Tryz.underlying24 bOx (fun c hc=>bH1 hc) g2
  simp only [bKy,List.drop_zero,List.drop_succ_cons,List.take_succ_cons,List.take_zero,List.cons.injEq,and_true] at e0 e3
  obtain ⟨hi1,hi2⟩:=SlR.both hi
  exact ⟨⟨v,ins,outs,k⟩,⟨c1,c2,by rw [e0,e3];rfl,hi1,ho,hv,hk⟩,hil,hol,hi2⟩
end
section
open Go Go.K Go.ChangeShapes Go.WideShapes Go.ChangeAt Go.RowKit
set_option linter.unusedVariables false
theorem aU9 {a b:Bool} (ha:a=true) (hb:b=true):(a&&b)=true:=by rw [ha,hb];rfl
set_option maxRecDepth 100000
set_option maxHeartbeats 0 in
theorem aOc:joinedFacts Tryz.pinned.checked.prog 3 Tryz.f3 Rows.churnNilSpec Rows.churnNilRow=true:=by
 unfold joinedFacts
 repeat' with_reducible refine aU9 ?_ ?_
 all_goals (as_aux_lemma=>kernel_rfl)
end
end Go.Proofs.YteceapipdhnhdaaGreatDoor
