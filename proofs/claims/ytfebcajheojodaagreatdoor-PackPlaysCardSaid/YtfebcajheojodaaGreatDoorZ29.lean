/- Contracts: accepting a transaction, the walk. Contracts: an  -/
import Derived.ChangeSame
import Derived.ChangeVars
import Derived.JoinedOf
import Derived.RowKit
import Derived.RowKitTokens
import Derived.LaidLaws
import Derived.LaidHandle
import Derived.Stop.Joined
import Derived.Test.YtfebcajheojodaaGreatDoorZ28
set_option linter.unusedVariables false
set_option linter.unusedSimpArgs false
namespace Go.Proofs.YtfebcajheojodaaGreatDoor
section
open Go Go.K
attribute [local irreducible] aO aU bQ KOp.wp K.Spec u32 leS vnS str aV cU cD idT aR aG aX idN bD cF bT bH cA cO aZ bA aM iC dT pD lH bC evL inS inB iG fH dN fY gE gP eQ cH dF eY fL cB bS aY bU eO eD kD dA
theorem Gr.low {w:World} {B B' g:Nat} {M:List Nat} {l:List Ent} (h:Gr w B g M l) (hb:B'≤B):Gr w B' g M l:=by
 obtain ⟨b1,vo,b2,m,sp,hP,e⟩:=h
 have:=hP.lo
 exact ⟨b1,vo,b2,m,sp,⟨hP.at_,hP.ents,hP.pts,hP.ord.lower hb,hP.inv,hP.nd,by omega,by omega,by omega⟩,e⟩
end
section
open Go Go.K
def EtR (w:World):Prop:=w.cell? ⟨0,0,none⟩=some (.iface 190 (.agg #[.pointer (some ⟨4,41,none⟩)]))
theorem EtR.lt {w:World} (h:EtR w):0<w.heap.size:=cell_lt h
theorem EtR.chg {L:List Nat} {w w':World} (h:EtR w) (x:Chg L w w') (hL:∀y∈L,0<y):EtR w':=by
 unfold EtR at h ⊢
 rw [cell_of_heap (x.block _ (EtR.lt h) (fun hm=>Nat.lt_irrefl _ (hL _ hm)))];exact h
theorem EtR.ext {w w':World} (h:EtR w) (x:Ext w w'):EtR w':=h.chg x (by simp)
theorem aEi {w:World} {b o:Nat} {cs:List Value} {t:TypeId} {f:Nat × Nat} {v:Value} (h:At w b (.cells cs.toArray t f)) (hv:cs[o]? =some v):w.cell? ⟨b,o,none⟩=some v:=by
 unfold At at h
 simp [World.cell?,h,hv]
theorem bCv {w:World} {b:Nat} {cs:Array Value} {t:TypeId} (h:At w b (.cells cs t (0,0))) (hp:0<cs.size):w.frozen? ⟨b,0,none⟩=false:=by
 unfold At at h
 simp [World.frozen?,h]
theorem bIq (n:Int) (t:Nat) (old:Value) (w:World) (hg:EtR w) (ht0:w.cell? ⟨t,0,none⟩=some old) (hf0:w.frozen? ⟨t,0,none⟩=false):K.Spec Tryz.prog 49 [.iface 53 (.int .i64 n),.iface 121 (.pointer (some ⟨t,0,none⟩))] w fun r w'=>r=.bool true∧Chg [t] w w'∧w'.cell? ⟨t,0,none⟩=some (.int .i64 n):=
 Calls.mono (bK3 n ⟨t,0,none⟩ old w hg ht0 hf0) fun _ _ h=>⟨_,h.1,rfl,h.2⟩
theorem aTe (n:Int) (b1 t:Nat) (old:Value) (w:World) (hg:EtR w) (hc1:w.cell? ⟨b1,1,none⟩=some (.iface 53 (.int .i64 n))) (ht0:w.cell? ⟨t,0,none⟩=some old) (hf0:w.frozen? ⟨t,0,none⟩=false):K.Spec Tryz.prog 49 [.iface 122 (.pointer (some ⟨b1,0,none⟩)),.iface 121 (.pointer (some ⟨t,0,none⟩))] w fun r w'=>r=.bool true∧Chg [t] w w'∧w'.cell? ⟨t,0,none⟩=some (.int .i64 n):=
 Calls.mono (bIv n b1 ⟨t,0,none⟩ old w hg hc1 ht0 hf0) fun _ _ h=>⟨_,h.1,rfl,h.2⟩
theorem bGb (n:Int) (b1 b2 t:Nat) (old:Value) (w:World) (hg:EtR w) (hc1:w.cell? ⟨b1,1,none⟩=some (.iface 122 (.pointer (some ⟨b2,0,none⟩)))) (hc2:w.cell? ⟨b2,1,none⟩=some (.iface 53 (.int .i64 n))) (ht0:w.cell? ⟨t,0,none⟩=some old) (hf0:w.frozen? ⟨t,0,none⟩=false):K.Spec Tryz.prog 49 [.iface 122 (.pointer (some ⟨b1,0,none⟩)),.iface 121 (.pointer (some ⟨t,0,none⟩))] w fun r w'=>r=.bool true∧Chg [t] w w'∧w'.cell? ⟨t,0,none⟩=some (.int .i64 n):=
 Calls.mono (bGu n b1 b2 ⟨t,0,none⟩ old w hg hc1 hc2 ht0 hf0) fun _ _ h=>⟨_,h.1,rfl,h.2⟩
theorem bIk (b1 t:Nat) (old:Value) (w:World) (hg:EtR w) (ht0:w.cell? ⟨t,0,none⟩=some old) (hf0:w.frozen? ⟨t,0,none⟩=false):K.Spec Tryz.prog 49 [.iface 122 (.pointer (some ⟨b1,0,none⟩)),.iface 123 (.pointer (some ⟨t,0,none⟩))] w fun r w'=>r=.bool true∧Chg [t] w w'∧w'.cell? ⟨t,0,none⟩=some (.pointer (some ⟨b1,0,none⟩)):=
 Calls.mono (bKh b1 ⟨t,0,none⟩ old w hg ht0 hf0) fun _ _ h=>⟨_,h.1,rfl,h.2⟩
theorem bDk (n:Int) (t:Nat) (w:World) (hg:EtR w):K.Spec Tryz.prog 49 [.iface 53 (.int .i64 n),.iface 123 (.pointer (some ⟨t,0,none⟩))] w fun r w'=>r=.bool false∧Ext w w':=
 Calls.mono (bIo n ⟨t,0,none⟩ w hg) fun _ _ h=>⟨_,h.1,rfl,h.2⟩
attribute [local irreducible] aO aU bQ KOp.wp K.Spec EtR
theorem aId {w:World} {v:Value} {c a:Int} (h:eJ w 0 v c a) (hc:c≠0):v=aFi c:=by
 rcases h with ⟨-,⟨h, -⟩|⟨-,h⟩⟩
 ·exact absurd h hc
 ·exact h
theorem bN8 {w:World} {v:Value} {c a:Int} {t:Nat} (hg:EtR w) (h:eJ w 2 v c a) (h0:c≠0) (at1:At w t (.cells [Value.int .i64 0].toArray T.api_Errno (0,0))):K.Spec Tryz.prog F.errors_As [v,.iface T.P_api_Errno (.pointer (some ⟨t,0,none⟩))] w fun r w'=>r=.bool true∧Chg [t] w w'∧w'.cell? ⟨t,0,none⟩=some (.int .i64 c):=by
 have hc:=aEi (o:=0) at1 rfl
 have hf:=bCv at1 (by simp)
 rcases h with (h1|⟨hc1, -,b1,u1,a1,rfl,hb1,h1⟩)|⟨hc1, -,b1,u1,a1,rfl,hb1,(h1|⟨hc2, -,b2,u2,a2,rfl,hb2,h2⟩)⟩
 ·obtain rfl:=aId h1 h0
  exact bIq c t _ w hg hc hf
 ·obtain rfl:=aId h1 h0
  exact aTe c b1 t _ w hg (aEi hb1 rfl) hc hf
 ·obtain rfl:=aId h1 h0
  exact aTe c b1 t _ w hg (aEi hb1 rfl) hc hf
 ·obtain rfl:=aId h2 h0
  exact bGb c b1 b2 t _ w hg (aEi hb1 rfl) (aEi hb2 rfl) hc hf
theorem aRu {w:World} {v:Value} {c a:Int} (hg:EtR w) (h:eJ w 2 v c a):K.Spec Tryz.prog F.api_Code [v] w fun r w'=>r=.int .i64 c∧Ext w w':=by
 obtain ⟨n1,n2⟩:=h.nil_iff
 by_cases h0:c=0
 ·obtain ⟨rfl, -⟩:=n1 h0
  subst h0
  refine aNw rfl ?_
  unfold aG7
  refine oy ?_
  repeat (first|refine zH (d:=some 3) (fun b3 w1 x1 a3 hb3=>?_)|refine go1 ?_|refine zg λ_ _=>?_|refine zi λ_ _=>?_)
  exact aC rfl ⟨rfl,x1⟩
 ·obtain ⟨et,eu,rfl⟩:=n2 h0
  refine aNw rfl ?_
  unfold aG7
  refine oy ?_
  repeat (first|refine zH (d:=some 3) (fun b3 w1 x1 a3 hb3=>?_)|refine go1 ?_|refine zg λ_ _=>?_|refine zi λ_ _=>?_)
  refine zC (d:=some 9) rfl (bN8 (hg.ext x1) (eJ.ext x1 h) h0 a3) ?_
  rintro _ w2 ⟨rfl,c2,e2⟩
  repeat (first|refine aD9 (d:=some 11) rfl e2 ?_|refine go1 ?_|refine zg λ_ _=>?_|refine zi λ_ _=>?_)
  exact aC rfl ⟨rfl,(Ext.chg x1 c2).mono (fun y hy=>.inr (by simp at hy;omega))⟩
theorem aO8 {w:World} {v:Value} {c a:Int} (hg:EtR w) (h:eJ w 2 v c a):K.Spec Tryz.prog F.api_Place [v] w fun r w'=>r=.int .i64 a∧Ext w w':=by
 obtain ⟨n1,n2⟩:=h.nil_iff
 by_cases h0:c=0
 ·obtain ⟨rfl,rfl⟩:=n1 h0
  refine aC6 rfl ?_
  unfold uZ
  refine oy ?_
  repeat (first|refine zH (d:=some 3) (fun b3 w1 x1 a3 hb3=>?_)|refine go1 ?_|refine zg λ_ _=>?_|refine zi λ_ _=>?_)
  exact aC rfl ⟨rfl,x1⟩
 ·have hs:(v=aFi c∧a= -1)∨∃b u,v=.iface T.P_api_Fault (.pointer (some ⟨b,0,none⟩))∧At w b (.cells [.int .i64 a,u].toArray T.api_Fault (0,0)):=by
   rcases h with (h1|⟨hc1, -,b1,u1,a1,rfl,hb1,h1⟩)|⟨hc1, -,b1,u1,a1,rfl,hb1, -⟩
   ·exact .inl ⟨aId h1 h0,h1.1⟩
   ·exact .inr ⟨b1,u1,rfl,hb1⟩
   ·exact .inr ⟨b1,u1,rfl,hb1⟩
  rcases hs with ⟨rfl,rfl⟩|⟨b1,u1,rfl,hb1⟩
  ·refine aC6 rfl ?_
   unfold uZ
   refine oy ?_
   repeat (first|refine zH (d:=some 3) (fun b3 w1 x1 a3 hb3=>?_)|refine go1 ?_|refine zg λ_ _=>?_|refine zi λ_ _=>?_)
   refine zC (d:=some 9) rfl (bDk c b3 w1 (hg.ext x1)) ?_
   rintro _ w2 ⟨rfl,x2⟩
   repeat (first|refine go1 ?_|refine zg λ_ _=>?_|refine zi λ_ _=>?_)
   exact aC rfl ⟨rfl,x1.trans x2⟩
  ·refine aC6 rfl ?_
   unfold uZ
   refine oy ?_
   repeat (first|refine zH (d:=some 3) (fun b3 w1 x1 a3 hb3=>?_)|refine go1 ?_|refine zg λ_ _=>?_|refine zi λ_ _=>?_)
   refine zC (d:=some 9) rfl (bIk b1 b3 _ w1 (hg.ext x1) (aEi (o:=0) a3 rfl) (bCv a3 (by simp))) ?_
   rintro _ w2 ⟨rfl,c2,e2⟩
   have hb2:=(At.ext x1 hb1).chg c2 (by have:=hb1.lt;simp;omega)
   have r2:=Row.of_at hb2
   repeat (first|refine aD9 (d:=some 11) rfl e2 ?_|refine go1 ?_|refine zg λ_ _=>?_|refine zi λ_ _=>?_)
   exact aC rfl ⟨rfl,(Ext.chg x1 c2).mono (fun y hy=>.inr (by simp at hy;omega))⟩
end
section
open Go Go.K Go.ChangeShapes Go.WideShapes Go.ChangeAt Go.RowKit
set_option maxRecDepth 100000
theorem bPj:Tryz.prog.globalNamed "errors.errorType" =some 0:=by kernel_rfl
theorem bOi:(Tryz.prog.cutTypes.find? (·.1== "internal/reflectlite.rtype")).map (·.2)=some 190:=by kernel_rfl
theorem bNy:((List.range 337).filter fun t=>Tryz.prog.rowNamed t [101,114,114,111,114])= [41]:=by kernel_rfl
theorem bK1:Tryz.prog.types.size=337:=by kernel_rfl
abbrev aHv:List (String × DataW Unit):= [("errors.errorType",Rows.laid_errors_errorType)]
theorem aMa {W:World} (h:laidMetH Tryz.prog aHv W):EtR W:=by
 have h':laidMet Tryz.prog [] W∧handlesMet Tryz.prog aHv W:=h
 obtain ⟨name,u,ty,e1,e2,e3,e4,e5⟩:=h'.2 _ (List.mem_singleton.2 rfl)
 have en:name= [101,114,114,111,114]:=(Option.some.inj e1).symm
 subst en
 obtain rfl:=Option.some.inj (bOi.symm.trans e2)
 have hm:ty∈(List.range 337).filter fun t=>Tryz.prog.rowNamed t [101,114,114,111,114]:=List.mem_filter.2 ⟨List.mem_range.2 (by rw [←bK1];exact e3),e4⟩
 rw [bNy] at hm
 obtain rfl:=List.mem_singleton.1 hm
 have hh:typeHandle Tryz.prog 41=.pointer (some ⟨4,41,none⟩):=by kernel_rfl
 rw [hh] at e5
 unfold EtR
 simpa using World.var?_cell bPj e5 0
noncomputable def aKn (os : Os) : World :=
  let w0 := World.holding Tryz.prog os ⟨#[], #[], []⟩
  { w0 with heap := w0.heap.modify 0 fun
      | .cells _ t frozen => .cells #[.iface 190 (.agg #[.pointer (some ⟨4, 41, none⟩)])] t frozen
      | o => o }
theorem aFl (os:Os) (args:Array Value):laidMetH Tryz.prog aHv ((aKn os).forCall (fun _ _=>0) ⟨#[],args, []⟩).memory:=
 laidMetH_of_parts (laidMet_nil _ _) (by kernel_rfl)
end
section
open Go Go.K Go.ChangeShapes Go.WideShapes Go.ChangeAt Go.RowKit
set_option maxRecDepth 100000
theorem aYj {W:World} {base:Nat} {v:Value} (h:Value.okWide Tryz.prog W .any base 61 v):∃c0 c1,v=.agg #[c0,c1]:=by
 simp only [Value.okWide,Tryz.underlying61] at h
 obtain ⟨cs,h1,h2,_⟩:=h
 have h2:cs.size=2:=h2.trans (by kernel_rfl)
 obtain ⟨l⟩:=cs
 match l,h2 with
 | [c0,c1],_=>exact ⟨c0,c1,h1⟩
theorem bCc {W:World} {c0 c1:Value} (h:Reads Tryz.prog W 61 [c0,c1]):∃y0 y1:Int,c0=.int .i64 y0∧c1=.int .i64 y1∧lJ y0∧lJ y1:=by
 obtain ⟨H,enc,base,spare,held,fuel,x,hf⟩:=h
 cases fuel with
 |zero=>simp [DataW.trod] at hf
 |succ n=>
  rw [DataW.trod_step] at hf
  unfold DataW.trodStep at hf
  simp only [Tryz.underlying61] at hf
  rw [if_pos (show ([c0,c1]:List Value).length=Tryz.prog.cellsOf 61 by kernel_rfl)] at hf
  simp only [Option.map_eq_some_iff] at hf
  obtain ⟨xs,hx,e1⟩:=hf
  rw [show List.range 2= [0,1] from rfl,List.mapM_cons,List.mapM_cons,List.mapM_nil] at hx
  simp only [bind,Option.bind_eq_some_iff,pure,Option.some.injEq,bMp] at hx
  obtain ⟨y0,h0,_,⟨y1,h1,_,rfl,rfl⟩,rfl⟩:=hx
  obtain ⟨a,ea,ha⟩:=aK3 (W:=W) (c:= [c0]) ⟨H,enc,base,spare,held,n,y0,h0⟩
  obtain ⟨b,eb,hb⟩:=aK3 (W:=W) (c:= [c1]) ⟨H,enc,base,spare,held,n,y1,h1⟩
  simp only [List.cons.injEq,and_true] at ea eb
  exact ⟨a,b,ea,eb,ha,hb⟩
end
end Go.Proofs.YtfebcajheojodaaGreatDoor
namespace Go.K
section
open Go Go.Proofs.YtfebcajheojodaaGreatDoor
abbrev zW0:PSm:=⟨[0],1,0,0,0,false,0⟩
def dI:List En:=iH [500] 1
theorem bDt:iH [500] (min [(500:Int)].length 8)=dI:=rfl
theorem wk0:eO (aS dI) [] (bM dI zW0) 5 0=(11, -1):=by kernel_rfl
theorem bPz:eD (aS dI) [] (bM dI zW0) 5 0= []∧kD (aS dI) [] (bM dI zW0) 5 0= []:=
 nO (by rw [wk0];show ¬(11:Int)=0;decide)
theorem sF:CoinsOk dI 1:=yW (vals:= [500]) (by intro a ha;simp at ha;subst ha;decide) 1
theorem aKa {V:List En} {h:Int}:∀{l:List Ent},(∀x∈l,x.tx.outs.length≤1000)→(l.flatMap (lD V h)).length≤1000*l.length
 | [],_=>by simp
 |x::l,hE=>by
  have h1:=aKa (V:=V) (h:=h) (l:=l) (fun y hy=>hE y (by simp [hy]))
  have h2:=hE x (by simp)
  have h3:(lD V h x).length≤x.tx.outs.length:=by
   unfold lD aCv
   exact nTr (List.length_filter_le _ _) (by simp)
  rw [List.flatMap_cons,List.length_append,List.length_cons]
  omega
theorem aPc {x:Ent} (h:EntOk x):x.tx.outs.length≤1000:=(fE h.check).outs
theorem bDh {V:List En} {l:List Ent} {n:Nat} {h B:Int} (hc:CoinsOk V n) (hn:n≤1000) (hE:∀x∈l,EntOk x) (hl:l.length≤1000) (hM:Money V l h B):(∀e∈bV V l h,0≤e.2.v∧e.2.v≤B)∧(∀e∈bV V l h,dV e.1.i)∧(bV V l h).length≤1100000:=by
 have hp:=aEe (m:=V) (fun e he=>(hc.each e he).2.2.1) hE h
 refine ⟨fun e he=>⟨hp e he,?_⟩,fun e he=>?_,?_⟩
 ·exact Int.le_trans (Mon.le hp e he) hM.all
 ·rcases mY.1 he with h5|⟨x,hx,j,hj,rfl, -⟩
  ·rw [(hc.each e h5).2.1];unfold dV;omega
  ·have:=aPc (hE x hx)
   show dV ((j:Nat):Int)
   unfold dV;omega
 ·have h1:=hc.len
  have h2:=aKa (V:=V) (h:=h) (fun x hx=>aPc (hE x hx))
  unfold bV
  rw [List.length_append];omega
def aUw (i:Nat):Int:=((2^i*5242800:Nat):Int)
theorem bGh (i:Nat):2*aUw i=aUw (i+1):=by
 unfold aUw
 rw [Nat.pow_succ]
 generalize 2^i=q
 omega
theorem CoinsOk.more {V:List En} {n m:Nat} (h:CoinsOk V n) (hm:n≤m):CoinsOk V m:=⟨h.srt,nTr h.len hm,h.each⟩
theorem Money.step {V:List En} {l:List Ent} {t:Tx} {z:PSm} {h rate:Int} {i:Nat} (hM:Money V l h (aUw i)) (hc:CoinsOk V 8) (hn:(l.map (·.id)).Nodup) (hE:∀x∈l,EntOk x) (hl:l.length≤1000) (ht:t=bM (bV V l h) z):Money V (kD (aS V) l t h rate) h (aUw (i+1)):=by
 rw [←bGh]
 refine hM.acc hc.nodup (fun e he=>(hc.each e he).2.2.1) hn hE fun p hp=>?_
 subst ht
 exact (aSn (bDh hc (by decide) hE hl hM).2.1 z p hp).1
end
section
open Go Go.Proofs.YtfebcajheojodaaGreatDoor
def bB (f:Pt→Option Cn) (l:List Ent) (t:Tx) (h:Int):Int × Int × Int:=
 if (aY f l t h).2.1≠0 then (0,(aY f l t h).2) else if 0<(aM l (bC l t)).length then (0,15, -1) else
 if dF l t≠0 then (0,dF l t, -1) else ((aY f l t h).1,0, -1)
theorem aA0 {f:Pt→Option Cn} {l:List Ent} {t:Tx} {h:Int} (h0:(aY f l t h).2.1≠0):bB f l t h=(0,(aY f l t h).2):=by unfold bB;rw [if_pos h0]
theorem aCj {f:Pt→Option Cn} {l:List Ent} {t:Tx} {h:Int} (h0:(aY f l t h).2.1=0) (h1:0<(aM l (bC l t)).length):bB f l t h=(0,15, -1):=by
 unfold bB;rw [if_neg (fun q=>q h0),if_pos h1]
theorem aBr {f:Pt→Option Cn} {l:List Ent} {t:Tx} {h:Int} (h0:(aY f l t h).2.1=0) (h1:¬0<(aM l (bC l t)).length) (h2:dF l t≠0):bB f l t h=(0,dF l t, -1):=by
 unfold bB;rw [if_neg (fun q=>q h0),if_neg h1,if_pos h2]
theorem aK7 {f:Pt→Option Cn} {l:List Ent} {t:Tx} {h:Int} (h0:(aY f l t h).2.1=0) (h1:¬0<(aM l (bC l t)).length) (h2:dF l t=0):bB f l t h=((aY f l t h).1,0, -1):=by
 unfold bB;rw [if_neg (fun q=>q h0),if_neg h1,if_neg (fun q=>q h2)]
theorem rC {f:Pt→Option Cn} {l:List Ent} {t:Tx} {h:Int} (h0:(bB f l t h).2.1=0):(aY f l t h).2.1=0∧(aM l (bC l t)).length=0∧dF l t=0∧(bB f l t h).1=(aY f l t h).1∧(bB f l t h).2.2= -1:=by
 by_cases h1:(aY f l t h).2.1=0
 ·by_cases h2:0<(aM l (bC l t)).length
  ·rw [aCj h1 h2] at h0;exact absurd h0 (show ¬(15:Int)=0 by decide)
  ·by_cases h3:dF l t=0
   ·have e:=aK7 h1 h2 h3
    exact ⟨h1,by omega,h3,by rw [e],by rw [e]⟩
   ·rw [aBr h1 h2 h3] at h0;exact absurd h0 h3
 ·rw [aA0 h1] at h0;exact absurd h0 h1
theorem aDz {f:Pt→Option Cn} {l:List Ent} {t:Tx} {h:Int} (h0:(bB f l t h).2.1=0):cO l t (bB f l t h).1=(l++ [jY t (bB f l t h).1],0):=by
 obtain ⟨h1,h2, -,h4, -⟩:=rC h0
 obtain ⟨hc,hg,hh,hgd⟩:=eI h1
 rw [←h4] at hgd
 have hno:=aDp.1 h2
 have h8:(t.ins.any fun i=>l.any fun x=>spends x i.p)=false:=by
  rw [List.any_eq_false]
  intro b hb hx
  obtain ⟨x,hx,h5⟩:=List.any_eq_true.1 hx
  rw [List.any_eq_false] at hno
  exact hno x hx (aVk.2 ⟨b,hb,h5⟩)
 unfold cO
 rw [if_neg (fun q=>q hc),if_neg (by rw [hg];decide),if_neg (by rw [hgd];decide),if_neg (by
  intro q
  have:dO l (idT t)=true:=q
  rw [hh] at this;cases this),if_neg (by rw [h8];decide)]
def idS (t:Tx):ByteArray:=if aG t=0 then idT t else ⟨#[]⟩
theorem bGw (t:Tx):idV t=.tuple #[.string (idS t),.int .i64 (aG t)]:=by
 unfold idV idS
 split
 ·rename_i h;rw [h]
 ·rfl
def bZ (f:Pt→Option Cn) (l:List Ent) (a:Tx) (h:Int):List Ent:=l++ [jY a (bB f l a h).1]
def eM (f:Pt→Option Cn) (l:List Ent) (a b:Tx) (h rate:Int):Int × Int:=
 if dO l (idS a)=true then (if (eO f l b h rate).1≠0 then ((eO f l b h rate).1,1) else (0, -1)) else
 if (bB f l a h).2.1≠0 then ((bB f l a h).2.1,0) else
 if ¬aM (bZ f l a h) (aZ (bZ f l a h) b)= [idS a] then (4,1) else
 if (bB f (bZ f l a h) b h).2.1≠0 then ((bB f (bZ f l a h) b h).2.1,1) else
 if (bB f l a h).1+(bB f (bZ f l a h) b h).1<dA rate (aR a+aR b) then (11, -1) else (0, -1)
def fB (f:Pt→Option Cn) (l:List Ent) (a b:Tx) (h rate:Int):List ByteArray:=if dO l (idS a)=true then eD f l b h rate else []
def iA (f:Pt→Option Cn) (l:List Ent) (a b:Tx) (h rate:Int):List Ent:=
 if dO l (idS a)=true then kD f l b h rate else if (eM f l a b h rate).1=0 then bZ f l a h++ [jY b (bB f (bZ f l a h) b h).1] else l
section
variable {f:Pt→Option Cn} {l:List Ent} {a b:Tx} {h rate:Int}
theorem zX (h1:dO l (idS a)=true):eM f l a b h rate=(if (eO f l b h rate).1≠0 then ((eO f l b h rate).1,1) else (0, -1))∧fB f l a b h rate=eD f l b h rate∧iA f l a b h rate=kD f l b h rate:=by
 unfold eM fB iA
 rw [if_pos h1,if_pos h1,if_pos h1];exact ⟨rfl,rfl,rfl⟩
theorem aWs {c i:Int} (h1:¬dO l (idS a)=true) (e:eM f l a b h rate=(c,i)) (hc:c≠0):fB f l a b h rate= []∧iA f l a b h rate=l:=by
 unfold fB iA
 rw [if_neg h1,if_neg h1,e,if_neg hc];exact ⟨rfl,rfl⟩
theorem aGp (h1:¬dO l (idS a)=true) (h2:(bB f l a h).2.1≠0):eM f l a b h rate=((bB f l a h).2.1,0):=by
 unfold eM;rw [if_neg h1,if_pos h2]
theorem aJ1 (h1:¬dO l (idS a)=true) (h2:(bB f l a h).2.1=0) (h3:¬aM (bZ f l a h) (aZ (bZ f l a h) b)= [idS a]):eM f l a b h rate=(4,1):=by
 unfold eM;rw [if_neg h1,if_neg (fun q=>q h2),if_pos h3]
theorem aCy (h1:¬dO l (idS a)=true) (h2:(bB f l a h).2.1=0) (h3:aM (bZ f l a h) (aZ (bZ f l a h) b)= [idS a]) (h4:(bB f (bZ f l a h) b h).2.1≠0):eM f l a b h rate=((bB f (bZ f l a h) b h).2.1,1):=by
 unfold eM;rw [if_neg h1,if_neg (fun q=>q h2),if_neg (fun q=>q h3),if_pos h4]
theorem aYd (h1:¬dO l (idS a)=true) (h2:(bB f l a h).2.1=0) (h3:aM (bZ f l a h) (aZ (bZ f l a h) b)= [idS a]) (h4:(bB f (bZ f l a h) b h).2.1=0) (h5:(bB f l a h).1+(bB f (bZ f l a h) b h).1<dA rate (aR a+aR b)):eM f l a b h rate=(11, -1):=by
 unfold eM;rw [if_neg h1,if_neg (fun q=>q h2),if_neg (fun q=>q h3),if_neg (fun q=>q h4),if_pos h5]
theorem aT5 (h1:¬dO l (idS a)=true) (h2:(bB f l a h).2.1=0) (h3:aM (bZ f l a h) (aZ (bZ f l a h) b)= [idS a]) (h4:(bB f (bZ f l a h) b h).2.1=0) (h5:¬(bB f l a h).1+(bB f (bZ f l a h) b h).1<dA rate (aR a+aR b)):
  eM f l a b h rate=(0, -1)∧fB f l a b h rate= []∧iA f l a b h rate=bZ f l a h++ [jY b (bB f (bZ f l a h) b h).1]:=by
 have e:eM f l a b h rate=(0, -1):=by unfold eM;rw [if_neg h1,if_neg (fun q=>q h2),if_neg (fun q=>q h3),if_neg (fun q=>q h4),if_neg h5]
 refine ⟨e,?_,?_⟩
 ·unfold fB;rw [if_neg h1]
 ·unfold iA;rw [if_neg h1,e,if_pos rfl]
end
end
section
open Go Go.Proofs.YtfebcajheojodaaGreatDoor
def aBi (t:Tx) (k:Nat):List En:=if aG t=0 then (List.range k).map (rK 0 (jY t 0)) else []
def tD (V:List En) (t:Tx):List En:=aBi t t.outs.length++V
theorem bL9 (V:List En) (t:Tx):tD V t=aBi t t.outs.length++V:=rfl
theorem bEo (t:Tx):aBi t 0= []:=by unfold aBi;split<;>rfl
theorem bEu {t:Tx} (h:aG t=0) (k:Nat):aBi t (k+1)=aBi t k++ [rK 0 (jY t 0) k]:=by
 unfold aBi
 rw [if_pos h,if_pos h,List.range_succ,List.map_append];rfl
theorem aN0 {t:Tx} (h:aG t≠0) (k:Nat):aBi t k= []:=by unfold aBi;rw [if_neg h]
theorem aHl (t:Tx) (k:Nat):(aBi t k).length≤k:=by
 unfold aBi
 split
 ·simp
 ·simp
theorem bJl {t:Tx} (h:aG t=0):idS t=idT t:=by unfold idS;rw [if_pos h]
theorem aOm {t:Tx} {k:Nat} (h:aG t=0) (hk:k<t.outs.length):rK 0 (jY t 0) k=(⟨idS t,(k:Nat)⟩,⟨t.outs[k].v,t.outs[k].s,0⟩):=by
 rw [bJl h]
 unfold rK
 show ((⟨idT t,((k:Nat):Int)⟩,⟨(t.outs.getD k default).v,(t.outs.getD k default).s,0⟩):En)=_
 simp only [List.getD_eq_getElem?_getD,List.getElem?_eq_getElem hk,Option.getD_some]
theorem aX8 {V:List En} {t:Tx} {e:En} (h:e∈tD V t):e∈V∨∃k,∃h:k<t.outs.length,e.1.i=(k:Nat)∧e.2.v=t.outs[k].v:=by
 unfold tD at h
 rcases List.mem_append.1 h with h|h
 ·right
  by_cases hc:aG t=0
  ·unfold aBi at h
   rw [if_pos hc] at h
   obtain ⟨k,hk,rfl⟩:=List.mem_map.1 h
   have hk:=List.mem_range.1 hk
   refine ⟨k,hk,?_,?_⟩
   ·rw [aOm hc hk]
   ·rw [aOm hc hk]
  ·rw [aN0 hc] at h;cases h
 ·exact .inl h
theorem aLz (s:ByteArray) {C:Int} (h0:0≤C):∀(k:Nat) (left:Int), -100000≤left→left≤C→∀o∈vX s k left,0≤o.v∧o.v≤C
 |0,_,_,_=>fun o ho=>by cases ho
 |k+1,left,h1,h2=>fun o ho=>by
  obtain ⟨h3,h4,h5,h6⟩:=aPy (k:=k+1) (by omega) h1 h2 h0
  rw [vX] at ho
  rcases List.mem_cons.1 ho with rfl|ho
  ·exact ⟨h3,h4⟩
  ·exact aLz s h0 k _ h5 h6 o ho
theorem bAn {V:List En} {B:Int} (hB:0≤B) (hV:∀e∈V,0≤e.2.v∧e.2.v≤B) {z:PSm} (hz:0≤z.fee∧z.fee≤65535):∀o∈(bM V z).outs,0≤o.v∧o.v≤4*B:=by
 have h:=bKu hB hV z
 exact aLz _ (by omega) _ _ (by omega) (by omega)
theorem bDi {V:List En} {B:Int} (hB:0≤B) (hV:∀e∈V,0≤e.2.v∧e.2.v≤B) (hi:∀e∈V,dV e.1.i) {z:PSm} (hz:0≤z.fee∧z.fee≤65535):(∀e∈tD V (bM V z),0≤e.2.v∧e.2.v≤4*B)∧(∀e∈tD V (bM V z),dV e.1.i)∧(tD V (bM V z)).length≤3+V.length:=by
 have ho:=(aG5 V z).2
 refine ⟨fun e he=>?_,fun e he=>?_,?_⟩
 ·rcases aX8 he with h|⟨k,hk, -,e1⟩
  ·have:=hV e h;omega
  ·rw [e1];exact bAn hB hV hz _ (gMe hk)
 ·rcases aX8 he with h|⟨k,hk,e1, -⟩
  ·exact hi e h
  ·rw [e1];unfold dV;omega
 ·have:=aHl (bM V z) (bM V z).outs.length
  unfold tD
  rw [List.length_append];omega
theorem xQ {t:Tx} (h:t.Sz) (hi:t.ins.length≤4):aR t≤500000:=by
 have a1:=h.e3 false
 have a2:=h.e3 true
 have a3:=pW kG 12000 t.ins fun x hx=>h.wit1 hx
 have e1:(cD false t).size=(enc3 false t).size+4:=by
  unfold cD enc4
  simp only [Bool.false_eq_true,if_false,ByteArray.size_append,cR]
  have h0:(⟨#[]⟩:ByteArray).size=0:=rfl
  omega
 have e2:(cD true t).size=(enc3 true t).size+(eC kG t.ins).size+4:=by
  unfold cD enc4
  simp only [if_true,ByteArray.size_append,cR]
 unfold aR lX
 cases aIb t
 ·rw [e1];omega
 ·rw [e1,e2];omega
end
section
open Go Go.Proofs.YtfebcajheojodaaGreatDoor
structure PAct where
 pair:Bool
 a:PSm
 b:PSm
 again:UInt8
instance:Inhabited PAct:=⟨⟨false,default,default,0⟩⟩
def aZ6 (z:PAct) (fa fb:Value):List Value:=.bool z.pair::(jC z.a fa++(jC z.b fb++ [u8V z.again]))
def aLu:R PAct where
 k:=16
 pos:=by decide
 ag:=true
 rel:=fun M w cs z=>∃fa fb,cs=aZ6 z fa fb∧aAw.rel M w (jC z.a fa) z.a∧aAw.rel M w (jC z.b fb) z.b
 len:=fun ⟨_,_,h,_⟩=>by rw [h];rfl
 one:=fun ⟨fa,fb,h,h1,h2⟩ v hv=>by
  subst h
  rw [aZ6,List.mem_cons,List.mem_append,List.mem_append] at hv
  rcases hv with rfl|hv|hv|hv
  ·rfl
  ·exact aAw.one h1 v hv
  ·exact aAw.one h2 v hv
  ·simp at hv;subst hv;rfl
 step:=fun ⟨fa,fb,h,h1,h2⟩ c hL hM=>⟨fa,fb,h,aAw.step h1 c hL hM,aAw.step h2 c hL hM⟩
end
end Go.K
namespace Go.Proofs.YtfebcajheojodaaGreatDoor
section
open Go Go.K
attribute [local irreducible] aO aU bQ KOp.wp K.Spec
theorem aZ9 (p q:Pt) (w:World):K.Spec Tryz.prog F.kedgeref05_Less [p.val,q.val] w fun v w'=>v=.bool (uM p q)∧Ext w w':=by
 refine aJa rfl ?_
 unfold vN
 refine oy ?_
 repeat (first|refine go ?_|refine zg λ_ _=>?_|refine zi λ_ _=>?_)
 refine uC rfl rfl (fun b1 w1 x1 _ r1 _=>?_)
 repeat (first|refine go ?_|refine zg λ_ _=>?_|refine zi λ_ _=>?_)
 refine uC rfl rfl (fun b2 w2 x2 _ r2 _=>?_)
 repeat (first|refine go ?_|refine zg λ_ _=>?_|refine zi λ_ _=>?_)
 refine aGd rfl (fun h=>?_) (fun h=>?_)
 ·repeat (first|refine go ?_|refine zg λ_ _=>?_|refine zi λ_ _=>?_)
  exact aC rfl ⟨congrArg Value.bool (by rw [uM,if_pos h]),x1.trans x2⟩
 ·repeat (first|refine go ?_|refine zg λ_ _=>?_|refine zi λ_ _=>?_)
  exact aC rfl ⟨congrArg Value.bool (by rw [uM,if_neg h]),x1.trans x2⟩
theorem aZk (s s':ByteArray) (i i':Int) (w:World):K.Spec Tryz.prog F.kedgeref10_same [.agg #[.string s,.int .u32 i],.agg #[.string s',.int .u32 i']] w fun v w'=>v=.bool (decide (s=s'∧i=i'))∧Ext w w':=by
 refine aJj rfl ?_
 unfold wF
 refine oy ?_
 repeat (first|refine go ?_|refine zg λ_ _=>?_|refine zi λ_ _=>?_)
 refine uC rfl rfl (fun b1 w1 x1 _ r1 _=>?_)
 repeat (first|refine go ?_|refine zg λ_ _=>?_|refine zi λ_ _=>?_)
 refine uC rfl rfl (fun b2 w2 x2 _ r2 _=>?_)
 repeat (first|refine go ?_|refine zg λ_ _=>?_|refine zi λ_ _=>?_)
 refine qE rfl (fun h=>?_) (fun h=>?_)
 ·repeat (first|refine go ?_|refine zg λ_ _=>?_|refine zi λ_ _=>?_)
  refine aC rfl ⟨congrArg Value.bool ?_,x1.trans x2⟩
  simp [h]
 ·repeat (first|refine go ?_|refine zg λ_ _=>?_|refine zi λ_ _=>?_)
  refine aC rfl ⟨congrArg Value.bool ?_,x1.trans x2⟩
  simp [h]
theorem bA1 (p q:Pt) (w:World):K.Spec Tryz.prog F.kedgeref10_same [p.val,q.val] w fun v w'=>v=.bool (decide (p=q))∧Ext w w':=by
 have h:=aZk p.s q.s p.i q.i w
 have e:decide (p.s=q.s∧p.i=q.i)=decide (p=q):=by cases p;cases q;simp
 rw [e] at h;exact h
theorem aB8 {v:Value} {l:List En} (p:Pt) (w:World) (hs:SlE gC w v l) (hn:l.length≤100000):K.Spec Tryz.prog F.kedgeref10_Find [v,p.val] w fun v' w'=>v'=.int .i64 (kV l p)∧Ext w w':=by
 refine aIm rfl ?_
 unfold wC
 refine oy ?_
 repeat (first|refine go ?_|refine zg λ_ _=>?_|refine zi λ_ _=>?_)
 refine uC rfl rfl (fun b1 w1 x1 a1 r1 hb1=>?_)
 repeat (first|refine go ?_|refine zg λ_ _=>?_|refine zi λ_ _=>?_)
 refine aQ (fun (i:Nat) w'=>Ext w1 w'∧i≤l.length∧∀j,∀h:j<l.length,j<i→l[j].1≠p) (fun i=> [(0,v),(3,.pointer (some ⟨b1,0,none⟩)),(5,.int .i64 i)]) (fun i=>l.length - i) 0 ⟨rfl,rfl,rfl,trivial⟩ ⟨Ext.refl _,by omega,by intros;omega⟩ ?_
 rintro i ρ w2 ⟨x2,hi,hno⟩
 repeat (first|refine go ?_|refine zg λ_ _=>?_|refine zi λ_ _=>?_)
 refine bY rfl ((hs.ext x1).ext x2) ?_
 repeat (first|refine go ?_|refine zg λ_ _=>?_|refine zi λ_ _=>?_)
 refine aGd rfl (fun h=>?_) (fun h=>?_)
 ·repeat (first|refine go ?_|refine zg λ_ _=>?_|refine zi λ_ _=>?_)
  rename_i w3 x3
  refine aT rfl rfl (((hs.ext x1).ext x2).ext x3) rfl (by omega) (fun ad r3=>?_)
  repeat (first|refine go ?_|refine zg λ_ _=>?_|refine zi λ_ _=>?_)
  have hil:i<l.length:=by omega
  refine aAy rfl (bA1 l[i].1 p _) ?_
  rintro _ w4 ⟨rfl,x4⟩
  repeat (first|refine go ?_|refine zg λ_ _=>?_|refine zi λ_ _=>?_)
  refine aGd rfl (fun h2=>?_) (fun h2=>?_)
  ·repeat (first|refine go ?_|refine zg λ_ _=>?_|refine zi λ_ _=>?_)
   refine aC rfl ⟨congrArg (Value.int .i64) ?_,by repeat (first|assumption|exact Ext.refl _|refine Ext.trans ?_ (by assumption))⟩
   rw [kV,aLv.2 ⟨hil,h2,fun j hj=>hno j (by omega) hj⟩]
  ·repeat (first|refine go ?_|refine zg λ_ _=>?_|refine zi λ_ _=>?_)
   refine ⟨i+1,⟨rfl,rfl,rfl,trivial⟩,⟨by repeat (first|assumption|exact Ext.refl _|refine Ext.trans ?_ (by assumption)),by omega,fun j hj hji=>?_⟩,by omega⟩
   rcases Nat.lt_or_ge j i with h5|h5
   ·exact hno j hj h5
   ·have:j=i:=by omega
    subst this;exact h2
 ·repeat (first|refine go ?_|refine zg λ_ _=>?_|refine zi λ_ _=>?_)
  refine aC rfl ⟨congrArg (Value.int .i64) ?_,by repeat (first|assumption|exact Ext.refl _|refine Ext.trans ?_ (by assumption))⟩
  rw [kV,aMm.2]
  intro e he
  obtain ⟨j,hj,rfl⟩:=List.getElem_of_mem he
  exact hno j hj (by omega)
theorem aRg {v:Value} {l:List En} (w:World) (hs:SlE gC w v l) (hn:l.length≤100000) (hm:Mon l):K.Spec Tryz.prog F.kedgeref10_Total [v] w fun v' w'=>v'=.int .i64 (tot l)∧Ext w w':=by
 refine aGe rfl ?_
 unfold uH
 refine oy ?_
 repeat (first|refine go ?_|refine zg λ_ _=>?_|refine zi λ_ _=>?_)
 refine aQ (fun (i:Nat) w'=>Ext w w'∧i≤l.length) (fun i=> [(0,v),(3,.int .i64 (tot (l.take i))),(4,.int .i64 i)]) (fun i=>l.length - i) 0 ⟨rfl,rfl,rfl,trivial⟩ ⟨Ext.refl _,by omega⟩ ?_
 rintro i ρ w1 ⟨x1,hi⟩
 repeat (first|refine go ?_|refine zg λ_ _=>?_|refine zi λ_ _=>?_)
 refine bY rfl (hs.ext x1) ?_
 repeat (first|refine go ?_|refine zg λ_ _=>?_|refine zi λ_ _=>?_)
 refine aGd rfl (fun h=>?_) (fun h=>?_)
 ·repeat (first|refine go ?_|refine zg λ_ _=>?_|refine zi λ_ _=>?_)
  refine aT rfl rfl (hs.ext x1) rfl (by omega) (fun ad r3=>?_)
  have hil:i<l.length:=by omega
  have e:=aYb hil
  have b1:=qU hm i
  have b2:=qU hm (i+1)
  have b3:=hm.2
  repeat (first|refine go ?_|refine zg λ_ _=>?_|refine zi λ_ _=>?_)
  exact ⟨i+1,⟨rfl,congrArg (Value.int .i64) e.symm,rfl,trivial⟩,⟨x1,by omega⟩,by omega⟩
 ·repeat (first|refine go ?_|refine zg λ_ _=>?_|refine zi λ_ _=>?_)
  refine aC rfl ⟨congrArg (Value.int .i64) ?_,x1⟩
  rw [tLe (by omega)]
def aMi (v vl:Value) (l l':List En) (B:Nat):Prop:=(vl=v∧l'=l)∨∀b∈aP vl,B≤b
theorem aMi.old {v vl:Value} {l l':List En} {B:Nat} (h:aMi v vl l l' B):∀b∈aP vl,b∈aP v∨B≤b:=by
 rcases h with ⟨rfl, -⟩|h
 ·exact fun b hb=>.inl hb
 ·exact fun b hb=>.inr (h b hb)
theorem aMi.trans {v vm vl:Value} {l m l':List En} {B B':Nat} (h:aMi v vm l m B) (h':aMi vm vl m l' B') (hB:B≤B'):aMi v vl l l' B:=by
 rcases h' with ⟨rfl,rfl⟩|h'
 ·exact h
 ·exact .inr fun b hb=>nTr hB (h' b hb)
theorem aX0 {v:Value} {l:List En} (p:Pt) (c:Cn) (w:World) (hs:SlE gC w v l) (hn:l.length≤100000) (hm:Mon l):K.Spec Tryz.prog F.kedgeref10_Put [v,p.val,c.val] w fun v' w'=>
  ∃vl,v'=.tuple #[vl,.int .i64 (eE l p c)]∧SlE gC w' vl (pS l p c)∧aMi v vl l (pS l p c) w.heap.size∧Ext w w':=by
 refine aKg rfl ?_
 unfold yR
 refine oy ?_
 have fail:∀{w':World} {n:Int},Ext w w'→n≠0→eE l p c=n→∃vl,Value.tuple #[v,.int .i64 n]=.tuple #[vl,.int .i64 (eE l p c)]∧SlE gC w' vl (pS l p c)∧aMi v vl l (pS l p c) w.heap.size∧Ext w w':=by
  intro w' n x h0 hc
  refine ⟨v,by rw [hc],?_,.inl ⟨rfl,by rw [pS,if_neg (by rw [hc];exact h0)]⟩,x⟩
  rw [pS,if_neg (by rw [hc];exact h0)];exact hs.ext x
 repeat (first|refine go ?_|refine zg λ_ _=>?_|refine zi λ_ _=>?_)
 refine uC rfl rfl (fun b1 w1 x1 a1 r1 hb1=>?_)
 repeat (first|refine go ?_|refine zg λ_ _=>?_|refine zi λ_ _=>?_)
 refine uC rfl rfl (fun b2 w2 x2 a2 r2 hb2=>?_)
 repeat (first|refine go ?_|refine zg λ_ _=>?_|refine zi λ_ _=>?_)
 have e32:((p.s.size:Int)=32)↔p.s.size=32:=by omega
 refine aUq rfl (fun h1=>?_) (fun h1=>?_)
 ·repeat (first|refine go ?_|refine zg λ_ _=>?_|refine zi λ_ _=>?_)
  refine aC (lQ cX cX) (fail (by repeat (first|assumption|exact Ext.refl _|refine Ext.trans ?_ (by assumption))) (by decide) (wJ ?_))
  have h1':¬p.s.size=32:=fun h=>by simp [e32.2 h] at h1
  simp [eG,h1']
 have h1:p.s.size=32:=e32.1 (by simpa using h1)
 repeat (first|refine go ?_|refine zg λ_ _=>?_|refine zi λ_ _=>?_)
 refine qE rfl (fun h2=>?_) (fun h2=>?_)
 ·repeat (first|refine go ?_|refine zg λ_ _=>?_|refine zi λ_ _=>?_)
  refine aC (lQ cX cX) (fail (by repeat (first|assumption|exact Ext.refl _|refine Ext.trans ?_ (by assumption))) (by decide) (wJ ?_))
  have h2':¬0≤c.h:=by omega
  simp [eG,h2']
 repeat (first|refine go ?_|refine zg λ_ _=>?_|refine zi λ_ _=>?_)
 refine qE rfl (fun h3=>?_) (fun h3=>?_)
 ·repeat (first|refine go ?_|refine zg λ_ _=>?_|refine zi λ_ _=>?_)
  refine aC (lQ cX cX) (fail (by repeat (first|assumption|exact Ext.refl _|refine Ext.trans ?_ (by assumption))) (by decide) (wJ ?_))
  have h3':¬c.h≤1000000:=by omega
  simp [eG,h3']
 repeat (first|refine go ?_|refine zg λ_ _=>?_|refine zi λ_ _=>?_)
 refine zW rfl (fun h4=>?_) (fun h4=>?_)
 ·repeat (first|refine go ?_|refine zg λ_ _=>?_|refine zi λ_ _=>?_)
  refine aC (lQ cX cX) (fail (by repeat (first|assumption|exact Ext.refl _|refine Ext.trans ?_ (by assumption))) (by decide) (wJ ?_))
  have h4':bX c.v=false:=by simpa using h4
  simp [eG,h4']
 have h4:bX c.v=true:=by simpa using h4
 have hf:eG p c=true:=by simp [eG,h1,h4];omega
 have hcv:=(bG _).1 h4
 have ht:=qU hm l.length
 rw [List.take_length] at ht
 have hT:=hm.2
 repeat (first|refine go ?_|refine zg λ_ _=>?_|refine zi λ_ _=>?_)
 refine aAy rfl (aB8 p _ ((hs.ext x1).ext x2) hn) ?_
 rintro _ w4 ⟨rfl,x4⟩
 repeat (first|refine go ?_|refine zg λ_ _=>?_|refine zi λ_ _=>?_)
 cases hi:iJ l p with
 |some n=>
  have hfi:kV l p=(n:Int):=by rw [kV,hi]
  rw [hfi]
  have hpos:(n:Int)≥0:=by omega
  refine aGd (p:=(n:Int)≥0) rfl (fun _=>?_) (fun h=>absurd hpos h)
  repeat (first|refine go ?_|refine zg λ_ _=>?_|refine zi λ_ _=>?_)
  exact aC (lQ cX cX) (fail (by repeat (first|assumption|exact Ext.refl _|refine Ext.trans ?_ (by assumption))) (by decide) (aY0 hf hi))
 |none=>
  have hfi:kV l p= -1:=by rw [kV,hi]
  rw [hfi]
  refine aI5 rfl ?_
  repeat (first|refine go ?_|refine zg λ_ _=>?_|refine zi λ_ _=>?_)
  refine aAy rfl (aRg _ (((hs.ext x1).ext x2).ext x4) hn hm) ?_
  rintro _ w5 ⟨rfl,x5⟩
  repeat (first|refine go ?_|refine zg λ_ _=>?_|refine zi λ_ _=>?_)
  have hc0:=aWh hf hi
  refine zW rfl (fun h5=>?_) (fun h5=>?_)
  ·repeat (first|refine go ?_|refine zg λ_ _=>?_|refine zi λ_ _=>?_)
   refine aC (lQ cX cX) (fail (by repeat (first|assumption|exact Ext.refl _|refine Ext.trans ?_ (by assumption))) (by decide) ?_)
   rw [hc0,(by simpa using h5:bX (tot l+c.v)=false)];rfl
  have h5:bX (tot l+c.v)=true:=by simpa using h5
  rw [h5] at hc0
  have hc0:eE l p c=0:=hc0
  repeat (first|refine go ?_|refine zg λ_ _=>?_|refine zi λ_ _=>?_)
  have x06:Unit→Ext w w5:=fun _=>by repeat (first|assumption|exact Ext.refl _|refine Ext.trans ?_ (by assumption))
  have hs6:=hs.ext (x06 ())
  have r16:Row w5 ⟨b1,0,none⟩ _:=((r1.ext x2).ext x4).ext x5
  have r26:Row w5 ⟨b2,0,none⟩ _:=(r2.ext x4).ext x5
  refine aQ (fun (s:Nat × Value) w'=>Ext w5 w'∧s.1≤l.length∧Own gC T.kedgeref10_Entry w5.heap.size w' s.2 (dH p c (l.take s.1)).1)
   (fun s=> [(0,v),(4,.pointer (some ⟨b1,0,none⟩)),(5,.pointer (some ⟨b2,0,none⟩)),(11,s.2),(12,.bool (dH p c (l.take s.1)).2),(13,.int .i64 s.1)]) (fun s=>l.length - s.1) (0,.slice none 0 0) ⟨rfl,rfl,rfl,rfl,rfl,rfl,trivial⟩ ⟨Ext.refl _,by simp,by simpa [dH] using Own.nil _ _ _⟩ ?_
  rintro ⟨i,vo⟩ ρ w7 ⟨x7,hil,ho⟩
  simp only at hil ho
  have hlen:=aZ7 p c (l.take i)
  have hlt:(l.take i).length≤l.length:=by simp;omega
  repeat (first|refine go ?_|refine zg λ_ _=>?_|refine zi λ_ _=>?_)
  refine bY rfl (hs6.ext x7) ?_
  repeat (first|refine go ?_|refine zg λ_ _=>?_|refine zi λ_ _=>?_)
  refine aGd rfl (fun h=>?_) (fun h=>?_)
  ·have hil':i<l.length:=by omega
   repeat (first|refine go ?_|refine zg λ_ _=>?_|refine zi λ_ _=>?_)
   rename_i w8 x8
   refine aT rfl rfl ((hs6.ext x7).ext x8) rfl hil' (fun ad r8=>?_)
   repeat (first|refine go ?_|refine zg λ_ _=>?_|refine zi λ_ _=>?_)
   refine aAy rfl (aZ9 p l[i].1 _) ?_
   rintro _ w9 ⟨rfl,x9⟩
   repeat (first|refine go ?_|refine zg λ_ _=>?_|refine zi λ_ _=>?_)
   have x79:Unit→Ext w5 w9:=fun _=>by repeat (first|assumption|exact Ext.refl _|refine Ext.trans ?_ (by assumption))
   have no:uM p l[i].1=false∨(dH p c (l.take i)).2=true→dH p c (l.take (i+1))=((dH p c (l.take i)).1++ [l[i]],(dH p c (l.take i)).2):=fun h=>bCb hil' h
   refine aUq rfl (fun hL=>?_) (fun hL=>?_)
   ·repeat (first|refine go ?_|refine zg λ_ _=>?_|refine zi λ_ _=>?_)
    refine zW rfl (fun hq=>?_) (fun hq=>?_)
    ·have hq:(dH p c (l.take i)).2=false:=by simpa using hq
     have yes:=bBi (c:=c) hil' hL hq
     repeat (first|refine go ?_|refine zg λ_ _=>?_|refine zi λ_ _=>?_)
     refine jG rfl (fun b13 w13 x13 a13 hb13=>?_)
     repeat (first|refine go ?_|refine zg λ_ _=>?_|refine zi λ_ _=>?_)
     refine cK (E:=gC) (v:=vo) (l2:= [(p,c)]) rfl (((ho.ext x8).ext x9).ext x13) (nTr (Ext.size (x79 ())) x13.size) rfl rfl (eS a13 rfl) rfl rfl (by simp;omega) (fun vo1 w14 ho1 c14=>?_)
     have x614:Unit→Ext w5 w14:=fun _=>(((x79 ()).trans x13).chg c14).mono (fun b hb=>.inr (ho.base b (by simpa using hb)))
     repeat (first|refine go ?_|refine zg λ_ _=>?_|refine zi λ_ _=>?_)
     refine aT rfl rfl (hs6.ext (x614 ())) rfl hil' (fun ad r10=>?_)
     repeat (first|refine go ?_|refine zg λ_ _=>?_|refine zi λ_ _=>?_)
     refine jG rfl (fun b11 w11 x11 a11 hb11=>?_)
     repeat (first|refine go ?_|refine zg λ_ _=>?_|refine zi λ_ _=>?_)
     refine cK (E:=gC) (v:=vo1) (l2:= [l[i]]) rfl (ho1.ext x11) (nTr (Ext.size (x614 ())) x11.size) rfl rfl (eS a11 rfl) rfl rfl (by simp;omega) (fun vo' w12 ho' c12=>?_)
     repeat (first|refine go ?_|refine zg λ_ _=>?_|refine zi λ_ _=>?_)
     refine ⟨(i+1,vo'),⟨rfl,rfl,rfl,rfl,?_,rfl,trivial⟩,⟨(((x614 ()).trans x11).chg c12).mono (fun b hb=>.inr (ho1.base b (by simpa using hb))),by simp;omega,?_⟩,by simp;omega⟩
     ·show Value.bool true=.bool (dH p c (l.take (i+1))).2
      rw [yes]
     ·show Own _ _ _ _ _ (dH p c (l.take (i+1))).1
      rw [yes];exact ho'
    ·have hq:(dH p c (l.take i)).2=true:=by simpa using hq
     repeat (first|refine go ?_|refine zg λ_ _=>?_|refine zi λ_ _=>?_)
     refine aT rfl rfl (hs6.ext (x79 ())) rfl hil' (fun ad r10=>?_)
     repeat (first|refine go ?_|refine zg λ_ _=>?_|refine zi λ_ _=>?_)
     refine jG rfl (fun b11 w11 x11 a11 hb11=>?_)
     repeat (first|refine go ?_|refine zg λ_ _=>?_|refine zi λ_ _=>?_)
     refine cK (E:=gC) (v:=vo) (l2:= [l[i]]) rfl (((ho.ext x8).ext x9).ext x11) (nTr (Ext.size (x79 ())) x11.size) rfl rfl (eS a11 rfl) rfl rfl (by simp;omega) (fun vo' w12 ho' c12=>?_)
     repeat (first|refine go ?_|refine zg λ_ _=>?_|refine zi λ_ _=>?_)
     refine ⟨(i+1,vo'),⟨rfl,rfl,rfl,rfl,?_,rfl,trivial⟩,⟨(((x79 ()).trans x11).chg c12).mono (fun b hb=>.inr (ho.base b (by simpa using hb))),by simp;omega,?_⟩,by simp;omega⟩
     ·show Value.bool (dH p c (l.take i)).2=.bool (dH p c (l.take (i+1))).2
      rw [no (.inr hq)]
     ·show Own _ _ _ _ _ (dH p c (l.take (i+1))).1
      rw [no (.inr hq)];exact ho'
   ·repeat (first|refine go ?_|refine zg λ_ _=>?_|refine zi λ_ _=>?_)
    refine aT rfl rfl (hs6.ext (x79 ())) rfl hil' (fun ad r10=>?_)
    repeat (first|refine go ?_|refine zg λ_ _=>?_|refine zi λ_ _=>?_)
    refine jG rfl (fun b11 w11 x11 a11 hb11=>?_)
    repeat (first|refine go ?_|refine zg λ_ _=>?_|refine zi λ_ _=>?_)
    refine cK (E:=gC) (v:=vo) (l2:= [l[i]]) rfl (((ho.ext x8).ext x9).ext x11) (nTr (Ext.size (x79 ())) x11.size) rfl rfl (eS a11 rfl) rfl rfl (by simp;omega) (fun vo' w12 ho' c12=>?_)
    repeat (first|refine go ?_|refine zg λ_ _=>?_|refine zi λ_ _=>?_)
    refine ⟨(i+1,vo'),⟨rfl,rfl,rfl,rfl,?_,rfl,trivial⟩,⟨(((x79 ()).trans x11).chg c12).mono (fun b hb=>.inr (ho.base b (by simpa using hb))),by simp;omega,?_⟩,by simp;omega⟩
    ·show Value.bool (dH p c (l.take i)).2=.bool (dH p c (l.take (i+1))).2
     rw [no (.inl hL)]
    ·show Own _ _ _ _ _ (dH p c (l.take (i+1))).1
     rw [no (.inl hL)];exact ho'
  ·have el:l.take i=l:=tLe (by omega)
   have s6:=(x06 ()).size
   repeat (first|refine go ?_|refine zg λ_ _=>?_|refine zi λ_ _=>?_)
   refine zW rfl (fun hp=>?_) (fun hp=>?_)
   ·have hp:(dH p c (l.take i)).2=false:=by simpa using hp
    repeat (first|refine go ?_|refine zg λ_ _=>?_|refine zi λ_ _=>?_)
    refine jG rfl (fun b13 w13 x13 a13 hb13=>?_)
    repeat (first|refine go ?_|refine zg λ_ _=>?_|refine zi λ_ _=>?_)
    refine cK (E:=gC) (v:=vo) (l2:= [(p,c)]) rfl (ho.ext x13) (nTr x7.size x13.size) rfl rfl (eS a13 rfl) rfl rfl (by simp;omega) (fun vo1 w14 ho1 c14=>?_)
    have x614:Unit→Ext w5 w14:=fun _=>((x7.trans x13).chg c14).mono (fun b hb=>.inr (ho.base b (by simpa using hb)))
    repeat (first|refine go ?_|refine zg λ_ _=>?_|refine zi λ_ _=>?_)
    rw [el] at hp ho1
    refine aC (lQ cX cX) ⟨vo1,by rw [hc0];rfl,?_,.inr fun b hb=>nTr s6 (ho1.base b hb),(x06 ()).trans (x614 ())⟩
    rw [pS,if_pos hc0,aU5,hp]
    exact ho1.sl
   ·have hp:(dH p c (l.take i)).2=true:=by simpa using hp
    repeat (first|refine go ?_|refine zg λ_ _=>?_|refine zi λ_ _=>?_)
    rw [el] at hp ho
    refine aC (lQ cX cX) ⟨vo,by rw [hc0];rfl,?_,.inr fun b hb=>nTr s6 (ho.base b hb),(x06 ()).trans x7⟩
    rw [pS,if_pos hc0,aU5,hp]
    exact ho.sl
end
section
open Go Go.K
attribute [local irreducible] aO aU bQ KOp.wp K.Spec u32 leS vnS str aV cU cD idT aR aG aX idN
theorem bOh {k:Nat} (h:k≤1000):IntKind.u32.wrap ((k:Nat):Int)=(k:Nat):=by rw [wrap32];omega
theorem aS5 (V:List En) (h:Int) (x:Ent) (k:Nat):(aCv V h x k).length≤k:=by
 unfold aCv
 exact nTr (List.length_filter_le _ _) (by simp)
theorem aWx {V:List En} {h:Int}:∀{l:List Ent},(∀x∈l,x.tx.outs.length≤1000)→(l.flatMap (lD V h)).length≤1000*l.length
 | [],_=>by simp
 |x::l,hE=>by
  have h1:=aWx (V:=V) (h:=h) (l:=l) (fun y hy=>hE y (by simp [hy]))
  have h2:=hE x (by simp)
  have h3:=aS5 V h x x.tx.outs.length
  rw [List.flatMap_cons,List.length_append,List.length_cons]
  have:(lD V h x).length≤1000:=nTr h3 h2
  omega
theorem bE1 {V:List En} {h:Int} {l:List Ent} {i:Nat} (hi:i<l.length):(l.take (i+1)).flatMap (lD V h)=(l.take i).flatMap (lD V h)++lD V h l[i]:=by
 rw [List.take_succ_eq_append_getElem hi,List.flatMap_append,List.flatMap_cons,List.flatMap_nil,List.append_nil]
theorem bJy {V:List En} {p:Pt}:(kV V p<0)=((aS V p).isNone=true):=by
 unfold kV
 cases hi:iJ V p with
 |none=>rw [wX hi];simp
 |some n=>
  have:=aVj hi
  rw [xC hi this]
  simp only [Option.isNone_some,Bool.false_eq_true,eq_iff_iff,iff_false]
  omega
set_option maxHeartbeats 2000000 in
theorem aCo {M:List Nat} {v u:Value} {V:List En} {l:List Ent} (h:Int) (w:World) (hv:SlE gC w v V) (hu:SlR bF M w u l) (hV:V.length≤1000) (hl:l.length≤1000) (hE:∀x∈l,x.tx.outs.length≤1000):
  K.Spec Tryz.prog F.kedgeref17_Over [v,u,.int .i64 h] w fun r w'=>Own gC T.kedgeref10_Entry w.heap.size w' r (bV V l h)∧Ext w w':=by
 have hflat:∀i,((l.take i).flatMap (lD V h)).length≤1000000:=fun i=>by
  have h1:=aWx (V:=V) (h:=h) (l:=l.take i) (fun x hx=>hE x (List.mem_of_mem_take hx))
  have:(l.take i).length≤l.length:=by rw [List.length_take];omega
  omega
 refine aIe rfl ?_
 unfold vB
 refine oy ?_
 repeat' (first|refine go1 ?_|refine zg λ_ _=>?_|refine zi λ_ _=>?_|(refine aQ (a:=.seq _ (.seq (.block 1 _) _)) (fun (p:Nat × Value) w'=>Ext w w'∧p.1≤V.length∧Own gC T.kedgeref10_Entry w.heap.size w' p.2 (V.take p.1)) (fun p=> [(0,v),(1,u),(2,.int .i64 h),(7,p.2),(8,.int .i64 p.1)]) (fun p=>V.length - p.1) (0,.slice none 0 0) ⟨rfl,rfl,rfl,rfl,rfl,trivial⟩ ⟨Ext.refl _,by simp,Own.nil _ _ _⟩ ?_;rintro ⟨i,vo⟩ ρ w1 ⟨x1,hi,ho⟩;simp only at hi ho;dsimp only)|refine zL (p:=(((i:Nat):Int)<((V.length:Nat):Int))) rfl (fun h5=>?_) (fun h5=>?_)|refine bY (d:=some 15) rfl (SlE.ext (w:=w) (by exact fx) hv) ?_|(refine aT (d:=some 22) (E:=gC) rfl rfl (n:=i) (l:=V) (SlE.ext (w:=w) (by exact fx) hv) rfl (by omega) (fun ad r2=>?_);have hil:i<V.length:=(by omega))|refine zI (d:=some 24) rfl (fun b w3 x3 a3 hb=>?_)|refine cK (d:=some 25) (E:=gC) (v:=vo) (l2:= [V[i]]) rfl (ho.ext (by exact fx)) (Ext.size (w:=w) (by exact fx)) rfl rfl (eS a3 rfl) rfl rfl (by have:=List.length_take_le i V;simp only [List.length_cons,List.length_nil];omega) (fun v5 w5 ho5 c5=>?_))
 ·exact ⟨(i+1,v5),⟨rfl,rfl,rfl,rfl,rfl,trivial⟩,⟨(Ext.chg (w:=w) (by exact fx) c5).mono (fun b hb=>.inr (ho.base b (by simpa using hb))),by simp;omega,by rw [List.take_succ_eq_append_getElem hil];exact ho5⟩,by simp;omega⟩
 rw [tLe (by omega)] at ho
 have x1':Unit→Ext w w1:=fun _=>x1
 have hflat':=hflat
 clear hflat x1
 repeat' (first|(refine aQ (a:=.seq _ (.seq (.block 3 _) _)) (fun (p:Nat × Value) w'=>Ext w w'∧p.1≤l.length∧Own gC T.kedgeref10_Entry w.heap.size w' p.2 (V++(l.take p.1).flatMap (lD V h))) (fun p=> [(0,v),(1,u),(2,.int .i64 h),(7,p.2),(9,.int .i64 p.1)]) (fun p=>l.length - p.1) (0,vo) ⟨rfl,rfl,rfl,rfl,rfl,trivial⟩ ⟨x1' (),by simp,by simpa using ho⟩ ?_;clear ho;rintro ⟨i,vo⟩ ρ w1 ⟨x1,hi,ho⟩;simp only at hi ho;dsimp only)|refine zL (x:=.tmp 29) (p:=(((i:Nat):Int)<((l.length:Nat):Int))) rfl (fun h5=>?_) (fun h5=>?_)|refine zG (d:=some 28) (E:=bF) (M:=M) (l:=l) rfl (SlR.ext hu (by exact fx)) ?_|(have hil:i<l.length:=(by omega);have hfi:=hflat' i;have hlen:=hE _ (gMe hil);refine aQ (a:=.seq _ (.seq (.block 5 _) _)) (fun (p:Nat × Value) w'=>Ext w w'∧p.1≤l[i].tx.outs.length∧Own gC T.kedgeref10_Entry w.heap.size w' p.2 (V++(l.take i).flatMap (lD V h)++aCv V h l[i] p.1)) (fun p=> [(0,v),(1,u),(2,.int .i64 h),(7,p.2),(9,.int .i64 i),(10,.int .i64 p.1)]) (fun p=>l[i].tx.outs.length - p.1) (0,vo) ⟨rfl,rfl,rfl,rfl,rfl,rfl,trivial⟩ ⟨x1,by simp,by simpa [aCv] using ho⟩ ?_;rintro ⟨k,vk⟩ ρ w2 ⟨x2,hk,hok⟩;simp only at hk hok;dsimp only)|(refine aL (d:=some 35) (E:=bF) (M:=M) rfl rfl (n:=i) (l:=l) (SlR.ext hu (by exact fx)) rfl hil (fun ad cs r4 he=>?_);obtain ⟨iv,ov,rfl,g1,g2,g3⟩:=he)|refine zG (d:=some 39) (E:=eX) (M:=M) (l:=l[i].tx.outs) rfl g2 ?_|refine zL (p:=(((k:Nat):Int)<((l[i].tx.outs.length:Nat):Int))) rfl (fun h6=>?_) (fun h6=>?_)|refine aJ (d:=some 49) (.int .u32 ((k:Nat):Int)) rfl (congrArg (fun n=>some (Value.int .u32 n)) (bOh (by omega))) ?_|(refine aL (d:=some 45) (E:=bF) (M:=M) rfl rfl (n:=i) (l:=l) (SlR.ext hu (by exact fx)) rfl hil (fun ad5 cs5 r5 he5=>?_);obtain ⟨iv5,ov5,rfl,g15,g25,g35⟩:=he5)|refine bL (d:=some 50) (cs:=(⟨l[i].id,((k:Nat):Int)⟩:Pt).cs) rfl ?_|(refine zE (d':=11) (fun _=>rfl) rfl rfl rfl (fun b11 w11 x11 a11 (r11:Row w11 ⟨b11,0,none⟩ (⟨l[i].id,((k:Nat):Int)⟩:Pt).cs) hb11=>?_))|(refine zC (d:=some 53) rfl (aB8 ⟨l[i].id,((k:Nat):Int)⟩ _ (SlE.ext (w:=w) (by exact fx) hv) (by omega)) ?_;rintro _ w3 ⟨rfl,x3⟩)|(refine zL (p:=kV V ⟨l[i].id,((k:Nat):Int)⟩<0) rfl (fun h7=>?_) (fun h7=>?_)<;>rw [bJy] at h7)|(refine aL (d:=some 60) (E:=bF) (M:=M) rfl rfl (n:=i) (l:=l) (SlR.ext hu (by exact fx)) rfl hil (fun ad6 cs6 r6 he6=>?_);obtain ⟨iv6,ov6,rfl,g16,g26,g36⟩:=he6)|(have hkl:k<l[i].tx.outs.length:=(by omega);refine aL (d:=some 65) (E:=eX) (M:=M) rfl rfl (n:=k) (l:=l[i].tx.outs) g26 rfl hkl (fun ad7 cs7 r7 he7=>?_);obtain ⟨rfl,hv7⟩:=he7)|refine bL (d:=some 68) (cs:=(rK h l[i] k).2.cs) (by simp only [rK,List.getD_eq_getElem?_getD,List.getElem?_eq_getElem hkl,Option.getD_some];rfl) ?_|refine bL (d:=some 69) (cs:=gC.f (rK h l[i] k)) rfl ?_|refine zI (d:=some 70) (cs:=gC.f (rK h l[i] k)) rfl (fun b w8 x8 a8 hb=>?_)|(have hlo:=aS5 V h l[i] k;refine cK (d:=some 71) (E:=gC) (v:=vk) (l2:= [rK h l[i] k]) rfl (hok.ext (by exact fx)) (Ext.size (w:=w) (by exact fx)) rfl rfl (eS a8 rfl) rfl rfl (by simp only [List.length_append,List.length_cons,List.length_nil];omega) (fun v9 w9 ho9 c9=>?_))|refine go1 ?_|refine zg λ_ _=>?_|refine zi λ_ _=>?_)
 ·exact ⟨(k+1,v9),⟨rfl,rfl,rfl,rfl,rfl,rfl,trivial⟩,⟨(Ext.chg (w:=w) (by exact fx) c9).mono (fun b hb=>.inr (hok.base b (by simpa using hb))),by simp;omega,by rw [aO7,if_pos h7,←List.append_assoc];exact ho9⟩,by simp;omega⟩
 ·exact ⟨(k+1,vk),⟨rfl,rfl,rfl,rfl,rfl,rfl,trivial⟩,⟨by exact fx,by simp;omega,by rw [aO7,if_neg h7,List.append_nil];exact hok.ext (by exact fx)⟩,by simp;omega⟩
 ·have:k=l[i].tx.outs.length:=by omega
  subst this
  exact ⟨(i+1,vk),⟨rfl,rfl,rfl,rfl,rfl,trivial⟩,⟨x2,by simp;omega,by rw [bE1 hil,←List.append_assoc];exact hok⟩,by simp;omega⟩
 ·rw [tLe (by omega)] at ho
  exact aC rfl ⟨ho,x1⟩
end
end Go.Proofs.YtfebcajheojodaaGreatDoor
