/- Contracts: accepting a transaction, the walk. Contracts: an  -/
import Derived.Test.YtgloknkcfchnlaaGreatDoorRows
import Derived.Test.YtgloknkcfchnlaaGreatDoorChecked
import Derived.ProofKit
import Derived.ShutString
import Derived.ChangeOld
import Derived.Below
import Derived.ChangeSame
import Derived.ChangeVars
import Derived.JoinedOf
import Derived.RowKit
import Derived.RowKitTokens
import Derived.LaidLaws
import Derived.LaidHandle
import Derived.Stop.Joined
import Derived.Test.YtgloknkcfchnlaaGreatDoorZ37
import Derived.Test.YtgloknkcfchnlaaGreatDoorZ38
import Derived.Test.YtgloknkcfchnlaaGreatDoorZ39
set_option linter.unusedVariables false
set_option linter.unusedSimpArgs false
namespace Go.Proofs.YtgloknkcfchnlaaGreatDoor
section
open Go Go.K
attribute [local irreducible] aD aK aV KOp.wp K.Spec u32 leS vnS str aN cR bI idT aY aI aO fR bM bE
end
section
open Go Go.K
def EtR (w:World):Prop:=w.cell? ⟨0,0,none⟩=some (.iface 143 (.agg #[.pointer (some ⟨2,35,none⟩)]))
theorem EtR.lt {w:World} (h:EtR w):0<w.heap.size:=cell_lt h
theorem EtR.chg {L:List Nat} {w w':World} (h:EtR w) (x:Chg L w w') (hL:∀y∈L,0<y):EtR w':=by
 unfold EtR at h ⊢
 rw [cell_of_heap (x.block _ (EtR.lt h) (fun hm=>Nat.lt_irrefl _ (hL _ hm)))];exact h
theorem EtR.ext {w w':World} (h:EtR w) (x:Ext w w'):EtR w':=h.chg x (by simp)
theorem mZ {w:World} {b o:Nat} {cs:List Value} {t:TypeId} {f:Nat × Nat} {v:Value} (h:At w b (.cells cs.toArray t f)) (hv:cs[o]? =some v):w.cell? ⟨b,o,none⟩=some v:=by
 unfold At at h
 simp [World.cell?,h,hv]
theorem aIq {w:World} {b:Nat} {cs:Array Value} {t:TypeId} (h:At w b (.cells cs t (0,0))) (hp:0<cs.size):w.frozen? ⟨b,0,none⟩=false:=by
 unfold At at h
 simp [World.frozen?,h]
theorem aUi (n:Int) (t:Nat) (old:Value) (w:World) (hg:EtR w) (ht0:w.cell? ⟨t,0,none⟩=some old) (hf0:w.frozen? ⟨t,0,none⟩=false):K.Spec Tryz.prog 43 [.iface 40 (.int .i64 n),.iface 105 (.pointer (some ⟨t,0,none⟩))] w fun r w'=>r=.bool true∧Chg [t] w w'∧w'.cell? ⟨t,0,none⟩=some (.int .i64 n):=
 Calls.mono (aWe n ⟨t,0,none⟩ old w hg ht0 hf0) fun _ _ h=>⟨_,h.1,rfl,h.2⟩
theorem aG3 (n:Int) (b1 t:Nat) (old:Value) (w:World) (hg:EtR w) (hc1:w.cell? ⟨b1,1,none⟩=some (.iface 40 (.int .i64 n))) (ht0:w.cell? ⟨t,0,none⟩=some old) (hf0:w.frozen? ⟨t,0,none⟩=false):K.Spec Tryz.prog 43 [.iface 87 (.pointer (some ⟨b1,0,none⟩)),.iface 105 (.pointer (some ⟨t,0,none⟩))] w fun r w'=>r=.bool true∧Chg [t] w w'∧w'.cell? ⟨t,0,none⟩=some (.int .i64 n):=
 Calls.mono (aTp n b1 ⟨t,0,none⟩ old w hg hc1 ht0 hf0) fun _ _ h=>⟨_,h.1,rfl,h.2⟩
theorem aQa (n:Int) (b1 b2 t:Nat) (old:Value) (w:World) (hg:EtR w) (hc1:w.cell? ⟨b1,1,none⟩=some (.iface 87 (.pointer (some ⟨b2,0,none⟩)))) (hc2:w.cell? ⟨b2,1,none⟩=some (.iface 40 (.int .i64 n))) (ht0:w.cell? ⟨t,0,none⟩=some old) (hf0:w.frozen? ⟨t,0,none⟩=false):K.Spec Tryz.prog 43 [.iface 87 (.pointer (some ⟨b1,0,none⟩)),.iface 105 (.pointer (some ⟨t,0,none⟩))] w fun r w'=>r=.bool true∧Chg [t] w w'∧w'.cell? ⟨t,0,none⟩=some (.int .i64 n):=
 Calls.mono (aTx n b1 b2 ⟨t,0,none⟩ old w hg hc1 hc2 ht0 hf0) fun _ _ h=>⟨_,h.1,rfl,h.2⟩
theorem aMc (b1 t:Nat) (old:Value) (w:World) (hg:EtR w) (ht0:w.cell? ⟨t,0,none⟩=some old) (hf0:w.frozen? ⟨t,0,none⟩=false):K.Spec Tryz.prog 43 [.iface 87 (.pointer (some ⟨b1,0,none⟩)),.iface 106 (.pointer (some ⟨t,0,none⟩))] w fun r w'=>r=.bool true∧Chg [t] w w'∧w'.cell? ⟨t,0,none⟩=some (.pointer (some ⟨b1,0,none⟩)):=
 Calls.mono (aV0 b1 ⟨t,0,none⟩ old w hg ht0 hf0) fun _ _ h=>⟨_,h.1,rfl,h.2⟩
theorem aGu (n:Int) (t:Nat) (w:World) (hg:EtR w):K.Spec Tryz.prog 43 [.iface 40 (.int .i64 n),.iface 106 (.pointer (some ⟨t,0,none⟩))] w fun r w'=>r=.bool false∧Ext w w':=
 Calls.mono (aTq n ⟨t,0,none⟩ w hg) fun _ _ h=>⟨_,h.1,rfl,h.2⟩
theorem aOr (t:Value) (w:World):K.Spec Tryz.prog 43 [.nilIface,t] w fun r w'=>r=.bool false∧w'=w:=
 Calls.mono (aW5 t w) fun _ _ h=>⟨_,h.1,rfl,h.2⟩
attribute [local irreducible] aD aK aV KOp.wp K.Spec EtR
theorem tU {w:World} {v:Value} {c a:Int} (h:dM w 0 v c a) (hc:c≠0):v=sI c:=by
 rcases h with ⟨-,⟨h, -⟩|⟨-,h⟩⟩
 ·exact absurd h hc
 ·exact h
theorem aYf {w:World} {v:Value} {c a:Int} {t:Nat} (hg:EtR w) (h:dM w 2 v c a) (h0:c≠0) (at1:At w t (.cells [Value.int .i64 0].toArray T.api_Errno (0,0))):K.Spec Tryz.prog F.errors_As [v,.iface T.P_api_Errno (.pointer (some ⟨t,0,none⟩))] w fun r w'=>r=.bool true∧Chg [t] w w'∧w'.cell? ⟨t,0,none⟩=some (.int .i64 c):=by
 have hc:=mZ (o:=0) at1 rfl
 have hf:=aIq at1 (by simp)
 rcases h with (h1|⟨hc1, -,b1,u1,a1,rfl,hb1,h1⟩)|⟨hc1, -,b1,u1,a1,rfl,hb1,(h1|⟨hc2, -,b2,u2,a2,rfl,hb2,h2⟩)⟩
 ·obtain rfl:=tU h1 h0
  exact aUi c t _ w hg hc hf
 ·obtain rfl:=tU h1 h0
  exact aG3 c b1 t _ w hg (mZ hb1 rfl) hc hf
 ·obtain rfl:=tU h1 h0
  exact aG3 c b1 t _ w hg (mZ hb1 rfl) hc hf
 ·obtain rfl:=tU h2 h0
  exact aQa c b1 b2 t _ w hg (mZ hb1 rfl) (mZ hb2 rfl) hc hf
theorem aHq {w:World} {v:Value} {c a:Int} (hg:EtR w) (h:dM w 2 v c a):K.Spec Tryz.prog F.api_Code [v] w fun r w'=>r=.int .i64 c∧Ext w w':=by
 obtain ⟨n1,n2⟩:=h.nil_iff
 by_cases h0:c=0
 ·obtain ⟨rfl, -⟩:=n1 h0
  subst h0
  refine aDn rfl ?_
  unfold wB
  refine oy ?_
  repeat (first|refine zH (d:=some 3) (fun b3 w1 x1 a3 hb3=>?_)|refine go1 ?_|refine zg λ_ _=>?_|refine zi λ_ _=>?_)
  exact aB rfl ⟨rfl,x1⟩
 ·obtain ⟨et,eu,rfl⟩:=n2 h0
  refine aDn rfl ?_
  unfold wB
  refine oy ?_
  repeat (first|refine zH (d:=some 3) (fun b3 w1 x1 a3 hb3=>?_)|refine go1 ?_|refine zg λ_ _=>?_|refine zi λ_ _=>?_)
  refine zC (d:=some 9) rfl (aYf (hg.ext x1) (dM.ext x1 h) h0 a3) ?_
  rintro _ w2 ⟨rfl,c2,e2⟩
  repeat (first|refine rC (d:=some 11) rfl e2 ?_|refine go1 ?_|refine zg λ_ _=>?_|refine zi λ_ _=>?_)
  exact aB rfl ⟨rfl,(Ext.chg x1 c2).mono (fun y hy=>.inr (by simp at hy;omega))⟩
theorem mC {w:World} {v:Value} {c a:Int} (hg:EtR w) (h:dM w 2 v c a):K.Spec Tryz.prog F.api_Place [v] w fun r w'=>r=.int .i64 a∧Ext w w':=by
 obtain ⟨n1,n2⟩:=h.nil_iff
 by_cases h0:c=0
 ·obtain ⟨rfl,rfl⟩:=n1 h0
  refine sD rfl ?_
  unfold nL
  refine oy ?_
  repeat (first|refine zH (d:=some 3) (fun b3 w1 x1 a3 hb3=>?_)|refine go1 ?_|refine zg λ_ _=>?_|refine zi λ_ _=>?_)
  exact aB rfl ⟨rfl,x1⟩
 ·have hs:(v=sI c∧a= -1)∨∃b u,v=.iface T.P_api_Fault (.pointer (some ⟨b,0,none⟩))∧At w b (.cells [.int .i64 a,u].toArray T.api_Fault (0,0)):=by
   rcases h with (h1|⟨hc1, -,b1,u1,a1,rfl,hb1,h1⟩)|⟨hc1, -,b1,u1,a1,rfl,hb1, -⟩
   ·exact .inl ⟨tU h1 h0,h1.1⟩
   ·exact .inr ⟨b1,u1,rfl,hb1⟩
   ·exact .inr ⟨b1,u1,rfl,hb1⟩
  rcases hs with ⟨rfl,rfl⟩|⟨b1,u1,rfl,hb1⟩
  ·refine sD rfl ?_
   unfold nL
   refine oy ?_
   repeat (first|refine zH (d:=some 3) (fun b3 w1 x1 a3 hb3=>?_)|refine go1 ?_|refine zg λ_ _=>?_|refine zi λ_ _=>?_)
   refine zC (d:=some 9) rfl (aGu c b3 w1 (hg.ext x1)) ?_
   rintro _ w2 ⟨rfl,x2⟩
   repeat (first|refine go1 ?_|refine zg λ_ _=>?_|refine zi λ_ _=>?_)
   exact aB rfl ⟨rfl,x1.trans x2⟩
  ·refine sD rfl ?_
   unfold nL
   refine oy ?_
   repeat (first|refine zH (d:=some 3) (fun b3 w1 x1 a3 hb3=>?_)|refine go1 ?_|refine zg λ_ _=>?_|refine zi λ_ _=>?_)
   refine zC (d:=some 9) rfl (aMc b1 b3 _ w1 (hg.ext x1) (mZ (o:=0) a3 rfl) (aIq a3 (by simp))) ?_
   rintro _ w2 ⟨rfl,c2,e2⟩
   have hb2:=(At.ext x1 hb1).chg c2 (by have:=hb1.lt;simp;omega)
   have r2:=Row.of_at hb2
   repeat (first|refine rC (d:=some 11) rfl e2 ?_|refine go1 ?_|refine zg λ_ _=>?_|refine zi λ_ _=>?_)
   exact aB rfl ⟨rfl,(Ext.chg x1 c2).mono (fun y hy=>.inr (by simp at hy;omega))⟩
end
section
open Go Go.K Go.ChangeShapes Go.WideShapes Go.ChangeAt Go.RowKit
set_option maxRecDepth 100000
theorem own:ownKnob Tryz.prog.godebug=none:=by kernel_rfl
theorem laidOut:laidOutB Tryz.prog=true:=by kernel_rfl
theorem aZl:Tryz.prog.cellsOf 3=1:=by kernel_rfl
theorem aZ4:Tryz.prog.cellsOf 5=1:=by kernel_rfl
theorem aTd:Tryz.prog.cellsOf 44=1:=by kernel_rfl
theorem aL0:Tryz.prog.cellsOf 9=1:=by kernel_rfl
theorem aYp:Tryz.prog.cellsOf 79=1:=by kernel_rfl
theorem aXz:Tryz.prog.cellsOf 4=1:=by kernel_rfl
theorem aPk:Tryz.prog.cellsOf 46=2:=by kernel_rfl
theorem aYo:Tryz.prog.cellsOf 78=1:=by kernel_rfl
theorem pJ {W:World} {c:List Value} (h:Reads Tryz.prog W 5 c):∃b:UInt8,c= [u8V b]:=by
 obtain ⟨n,e,h1,h2⟩:=uX Tryz.underlying5 h
 have h1:0≤n:=h1
 have h2:n≤255:=h2
 refine ⟨UInt8.ofNat n.toNat,?_⟩
 have:(UInt8.ofNat n.toNat).toNat=n.toNat:=by rw [UInt8.toNat_ofNat'];omega
 unfold u8V
 rw [e,this]
 congr 2;omega
theorem aAx {W:World} {c:List Value} (h:Reads Tryz.prog W 3 c):∃n:Int,c= [.int .i64 n]∧aQj n:=by
 obtain ⟨n,e,h1,h2⟩:=uX Tryz.underlying3 h
 have h1: -9223372036854775808≤n:=h1
 have h2:n≤9223372036854775807:=h2
 exact ⟨n,e,by unfold aQj;omega⟩
theorem uH {W:World} {c:List Value} (h:Reads Tryz.prog W 44 c):∃n:Int,c= [.int .u32 n]∧iA n:=by
 obtain ⟨n,e,h1,h2⟩:=uX Tryz.underlying44 h
 have h1:0≤n:=h1
 have h2:n≤4294967295:=h2
 exact ⟨n,e,by unfold iA;omega⟩
theorem aK9 {W:World} {c:List Value} (h:Reads Tryz.prog W 46 c):∃p:Pt,c=p.cs∧iA p.i:=by
 obtain ⟨h1,h2⟩:=jB Tryz.underlying46 h
 have l:c.length=2:=h1.trans aPk
 match c,l with
 | [c0,c1],_=>
  have g0:=h2 _ (List.mem_of_getElem? (i:=0) rfl)
  have g1:=h2 _ (List.mem_of_getElem? (i:=1) rfl)
  obtain ⟨s,e0,_⟩:=qJ Tryz.underlying9 g0
  obtain ⟨i,e1,hi⟩:=uH g1
  simp only [aL0,aTd,List.drop_zero,List.drop_succ_cons,List.take_succ_cons,List.take_zero,List.cons.injEq,and_true] at e0 e1
  exact ⟨⟨s,i⟩,by rw [e0,e1];rfl,hi⟩
theorem aHh {W:World} {c:List Value} (h:Reads Tryz.prog W 79 c):∃n:Int,c= [.int .u16 n]∧0≤n∧n≤65535:=by
 obtain ⟨n,e,h1,h2⟩:=uX Tryz.underlying79 h
 exact ⟨n,e,h1,h2⟩
end
section
open Go Go.K Go.ChangeShapes Go.WideShapes Go.ChangeAt Go.RowKit
set_option maxRecDepth 100000
theorem aZg:Tryz.prog.globalNamed "errors.errorType" =some 0:=by kernel_rfl
theorem aZi:(Tryz.prog.cutTypes.find? (·.1== "internal/reflectlite.rtype")).map (·.2)=some 143:=by kernel_rfl
theorem aXl:((List.range 285).filter fun t=>Tryz.prog.rowNamed t [101,114,114,111,114])= [35]:=by kernel_rfl
theorem aVa:Tryz.prog.types.size=285:=by kernel_rfl
abbrev jH:List (String × DataW Unit):= [("errors.errorType",Rows.laid_errors_errorType)]
theorem kH {W:World} (h:laidMetH Tryz.prog jH W):EtR W:=by
 have h':laidMet Tryz.prog [] W∧handlesMet Tryz.prog jH W:=h
 obtain ⟨name,u,ty,e1,e2,e3,e4,e5⟩:=h'.2 _ (List.mem_singleton.2 rfl)
 have en:name= [101,114,114,111,114]:=(Option.some.inj e1).symm
 subst en
 obtain rfl:=Option.some.inj (aZi.symm.trans e2)
 have hm:ty∈(List.range 285).filter fun t=>Tryz.prog.rowNamed t [101,114,114,111,114]:=List.mem_filter.2 ⟨List.mem_range.2 (by rw [←aVa];exact e3),e4⟩
 rw [aXl] at hm
 obtain rfl:=List.mem_singleton.1 hm
 have hh:typeHandle Tryz.prog 35=.pointer (some ⟨2,35,none⟩):=by kernel_rfl
 rw [hh] at e5
 unfold EtR
 simpa using World.var?_cell aZg e5 0
noncomputable def lB (os : Os) : World :=
  let w0 := World.holding Tryz.prog os ⟨#[], #[], []⟩
  { w0 with heap := w0.heap.modify 0 fun
      | .cells _ t frozen => .cells #[.iface 143 (.agg #[.pointer (some ⟨2, 35, none⟩)])] t frozen
      | o => o }
theorem gX (os:Os) (args:Array Value):laidMetH Tryz.prog jH ((lB os).forCall (fun _ _=>0) ⟨#[],args, []⟩).memory:=
 laidMetH_of_parts (laidMet_nil _ _) (by kernel_rfl)
end
section
open Go Go.K Go.ChangeShapes Go.WideShapes Go.ChangeAt Go.RowKit
set_option maxRecDepth 100000
theorem aQu {W:World} {c:List Value} (h:Reads Tryz.prog W 81 c):∃z:BSm,hG.rel [] W c z:=by
 obtain ⟨h1,h2⟩:=jB Tryz.underlying81 h
 have l:c.length=9:=h1.trans (by kernel_rfl)
 match c,l with
 | [c0,c1,c2,c3,c4,c5,c6,c7,c8],_=>
  have g0:=h2 _ (List.mem_of_getElem? (i:=0) rfl)
  have g1:=h2 _ (List.mem_of_getElem? (i:=1) rfl)
  have g2:=h2 _ (List.mem_of_getElem? (i:=2) rfl)
  have g3:=h2 _ (List.mem_of_getElem? (i:=3) rfl)
  have g4:=h2 _ (List.mem_of_getElem? (i:=4) rfl)
  have g5:=h2 _ (List.mem_of_getElem? (i:=5) rfl)
  have g6:=h2 _ (List.mem_of_getElem? (i:=6) rfl)
  have g7:=h2 _ (List.mem_of_getElem? (i:=7) rfl)
  have g8:=h2 _ (List.mem_of_getElem? (i:=8) rfl)
  simp only [aYo,List.drop_zero,List.drop_succ_cons,List.take_succ_cons,List.take_zero] at g0
  obtain ⟨frm,hf,hfl⟩:=jS u8R Tryz.underlying78 (by kernel_rfl) (fun c hc=>by
   obtain ⟨b,e⟩:=pJ hc
   exact ⟨b,by subst e;rfl⟩) g0
  obtain ⟨b1,e1⟩:=pJ g1
  obtain ⟨n2,e2,hn2⟩:=aHh g2
  obtain ⟨n3,e3,hn3⟩:=aHh g3
  obtain ⟨b4,e4⟩:=pJ g4
  obtain ⟨b5,e5⟩:=pJ g5
  obtain ⟨b6,e6⟩:=pJ g6
  obtain ⟨o7,e7⟩:=aFg Tryz.underlying4 g7
  obtain ⟨o8,e8⟩:=aFg Tryz.underlying4 g8
  simp only [aZ4,aYp,aXz,List.drop_zero,List.drop_succ_cons,List.take_succ_cons,List.take_zero,List.cons.injEq,and_true] at e1 e2 e3 e4 e5 e6 e7 e8
  exact ⟨⟨frm,b1,n2,n3,b4,b5,b6,o7,o8⟩,c0,by rw [e1,e2,e3,e4,e5,e6,e7,e8];rfl,hf,hn2,hn3⟩
theorem aE1 {W:World} {v:Value} (h:Reads Tryz.prog W 28 [v]):∃l,SlR hG [] W v l∧l.length≤maxLen:=
 jS hG Tryz.underlying28 (by kernel_rfl) (fun _ h=>aQu h) h
end
end Go.Proofs.YtgloknkcfchnlaaGreatDoor
