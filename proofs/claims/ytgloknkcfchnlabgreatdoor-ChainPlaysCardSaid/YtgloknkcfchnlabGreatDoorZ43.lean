/- Contracts: applying a block. What comes in for the laws of p -/
import Derived.Test.YtgloknkcfchnlabGreatDoorRows
import Derived.Test.YtgloknkcfchnlabGreatDoorChecked
import Derived.ProofKit
import Derived.ShutString
import Derived.ChangeOld
import Derived.Below
import Derived.ChangeSame
import Derived.ChangeVars
import Derived.JoinedOf
import Derived.RowKit
import Derived.RowKitTokens
import Derived.LaidLaws
import Derived.LaidHandle
import Derived.Stop.Joined
import Derived.Test.YtgloknkcfchnlabGreatDoorZ39
import Derived.Test.YtgloknkcfchnlabGreatDoorZ40
set_option linter.unusedVariables false
set_option linter.unusedSimpArgs false
namespace Go.Proofs.YtgloknkcfchnlabGreatDoor
section
open Go Go.K
attribute [local irreducible] aG aK aU KOp.wp K.Spec u32 leS vnS str aN aJ aO bH idT aV inE gY gL fW cG cS cH cC bZ aS bS bO hD qD
def pP (w:World) (v:Value) (c a i:Int):Prop:=c=0∧v=.nilIface∨c≠0∧(v=yW c∧a= -1∧i= -1∨0≤a∧∃b u,v=.iface T.P_api_Fault (.pointer (some ⟨b,0,none⟩))∧At w b (.cells [.int .i64 a,u].toArray T.api_Fault (0,0))∧dA w 1 u c i)
theorem dA.off {w w':World} {b6:Nat} {z:Array Value} {t:TypeId} (ha:At w b6 (.cells z t (0,0))) (ht:t≠T.api_Fault) (cc:Chg [b6] w w'):∀{d:Nat} {v:Value} {c a:Int},dA w d v c a→dA w' d v c a
 |0,_,_,_,h=>h
 |_+1,_,_,_,.inl h=>.inl (dA.off ha ht cc h)
 |_+1,_,_,_,.inr ⟨h1,h2,b,u,a',h3,h4,h5⟩=>.inr ⟨h1,h2,b,u,a',h3,h4.chg cc (by
   simp only [List.mem_singleton]
   intro e
   subst e
   have:=h4.inj ha
   simp only [Obj.cells.injEq] at this
   exact ht this.2.1.symm),dA.off ha ht cc h5⟩
theorem aN9 (txs:List Tx) (k:Nat):cN (txs.take k)≤cN txs:=by
 unfold cN
 rw [List.map_take]
 have:=List.sum_append_nat (l₁:=(txs.map fun t=>t.outs.length).take k) (l₂:=(txs.map fun t=>t.outs.length).drop k)
 rw [List.take_append_drop] at this
 omega
theorem aN8 {txs:List Tx} {k:Nat} (h:k<txs.length):cN (txs.take (k+1))=cN (txs.take k)+txs[k].outs.length:=by
 unfold cN
 rw [List.take_succ_eq_append_getElem h,List.map_append,List.sum_append_nat];simp
set_option maxHeartbeats 4000000 in
theorem eJ {b mb:Nat} {M:List Nat} {v:Value} {txs:List Tx} {l:List En} (h:Int) (w:World) (hS:dD T.coins_Set w b mb l) (hg:CG l) (hsc:SC l) (hb:b∈M) (hmb:mb∈M) (hM:∀y∈M,y<w.heap.size) (hx:SlR txR M w v txs) (hs:∀t∈txs,t.Sm) (hn:l.length+cN txs≤80000) (hk0:txs.length≤1000):
  K.Spec Tryz.prog F.block_Apply [.pointer (some ⟨b,0,none⟩),v,.int .i64 h] w fun r w'=>∃sv mv e,r=.tuple #[.agg #[sv,mv],e]∧pP w' e (aP l txs h).2.1 (aP l txs h).2.2.1 (aP l txs h).2.2.2∧dD T.coins_Set w' b mb (aP l txs h).1∧
   ((aP l txs h).2.1=0→SlE bE w' sv (bO l (aP l txs h).1)∧SlE bE w' mv (bO (aP l txs h).1 l)∧∀y,y∈aH sv∨y∈aH mv→w.heap.size≤y)∧((aP l txs h).2.1≠0→sv=.slice none 0 0∧mv=.slice none 0 0)∧Chg [b,mb] w w':=by
 have hlt:=hS.lt
 have hbmb:=hS.ne
 refine aG1 rfl ?_
 unfold vO
 refine oy ?_
 by_cases hr:0≤h∧h≤1000000
 ·have eA:aP l txs h=jC l h 0 txs l:=by unfold aP;rw [if_neg (by omega)]
  rw [eA]
  repeat' (first|refine zH (d:=some 6) (fun b6 w1 x1 a1 hb6=>?_)|refine aD (d:=some 20) (.bool false) rfl (congrArg (fun b=>some (Value.bool b)) (dFa (by omega))) ?_|refine aD (d:=some 23) (.bool false) rfl (congrArg (fun b=>some (Value.bool b)) (dFa (by omega))) ?_|(refine zC (d:=some 28) rfl (xR _ (hS.ext (by exact fx))) ?_;rintro _ w2 ⟨nb,nmb,rfl,N2,hnb,hnmb,x2⟩)|refine zG (d:=some 30) (E:=txR) (M:=M) (l:=txs) rfl (SlR.ext hx (by exact fx)) ?_|refine go1 ?_|refine zg λ_ _=>?_|refine zi λ_ _=>?_)
  have s1:=x1.size
  have s2:=x2.size
  have l6:=a1.lt
  have x02:Ext w w2:=x1.trans x2
  have a62:=At.ext x2 a1
  have nin:∀y∈ [nb,nmb],w1.heap.size≤y:=by intro y hy;simp at hy;rcases hy with rfl|rfl<;>assumption
  have x02':Unit→Ext w w2:=fun _=>x02
  have nlt:=N2.lt
  refine aL (fun (p:Nat × List En) w'=>Ext w w'∧Ext w1 w'∧p.1≤txs.length∧dD T.coins_Set w' nb nmb p.2∧CG p.2∧SC p.2∧tW l h txs p.1 p.2) (fun p=> [(0,.pointer (some ⟨b,0,none⟩)),(2,.int .i64 h),(6,.pointer (some ⟨b6,0,none⟩)),(8,.pointer (some ⟨nb,0,none⟩)),(29,v),(30,.int .i64 (txs.length:Nat)),(31,.int .i64 (p.1:Nat))]) (fun p=>txs.length - p.1) (0,l) ⟨rfl,rfl,rfl,rfl,rfl,rfl,rfl,trivial⟩ ⟨x02,x2,by simp,N2,hg,hsc,wK⟩ ?_
  rintro ⟨k,m⟩ ρ w3 ⟨x3,x13,hk,N3,g3,sc3,hok⟩
  simp only at hk N3 g3 sc3 hok
  dsimp only
  have a63:=At.ext x13 a1
  have s13:=x13.size
  repeat (first|refine go1 ?_|refine zg λ_ _=>?_|refine zi λ_ _=>?_)
  refine zL (x:=.tmp 32) (p:=((k:Nat):Int)<((txs.length:Nat):Int)) rfl (fun h6=>?_) (fun h6=>?_)
  ·have hkl:k<txs.length:=by omega
   have hst:=hs _ (gMe hkl)
   have hx3:SlR txR (nb::nmb::M) w3 v txs:=hx.step x3 (by simp) (fun y hy=>by
    simp only [List.mem_cons] at hy
    rcases hy with rfl|rfl|hy
    ·exact .inr (by omega)
    ·exact .inr (by omega)
    ·exact .inl hy)
   have x03':Unit→Ext w w3:=fun _=>x3
   have x13':Unit→Ext w1 w3:=fun _=>x13
   clear x3 x13 x02 x1 x2
   repeat (first|(refine aM (d:=some 34) (E:=txR) (M:=nb::nmb::M) rfl rfl (n:=k) (l:=txs) hx3 rfl hkl (fun ad cs r4 he=>?_);obtain ⟨iv,ov,rfl,p1,p2,p3⟩:=id he)|refine zH (d:=some 10) (fun b10 w4 x4 a4 hb10=>?_)|refine go1 ?_|refine zg λ_ _=>?_|refine zi λ_ _=>?_)
   have o1:=p1.one
   have o2:=p2.one
   refine bA (w0:=w3) (n:=4) (vs:=aT txs[k] iv ov) x4 hb10 a4 rfl rfl rfl rfl (by simp [aT,o1,o2];exact ⟨rfl,rfl⟩) (fun w5 x5 c5 a5 r5=>?_)
   repeat (first|refine go1 ?_|refine zg λ_ _=>?_|refine zi λ_ _=>?_)
   refine zC (d:=some 40) rfl (aRt (M:=nb::nmb::M) (cs:=aT txs[k] iv ov) (t:=txs[k]) (l:=m) k h _ (N3.ext x5) g3 sc3 (by simp) (by simp) (R.ext he x5) hst) ?_
   rintro e w6 ⟨he6,⟨m',N6,hm'⟩,c6⟩
   have x06:Ext w w6:=(Ext.chg ((x03' ()).trans x5) c6).mono (fun y hy=>.inr (by have:=nin y hy;omega))
   have x16:Ext w1 w6:=(Ext.chg ((x13' ()).trans x5) c6).mono (fun y hy=>.inr (nin y hy))
   clear x4 x5 a4 c5 a5 r5 c6 p1 p2 r4
   by_cases h0:(cG m txs[k] k h).2.1=0
   ·obtain ⟨rfl, -⟩:=he6.nil_iff.1 h0
    repeat (first|refine go1 ?_|refine zg λ_ _=>?_|refine zi λ_ _=>?_)
    exact ⟨(k+1,m'),⟨rfl,rfl,rfl,rfl,rfl,rfl,rfl,trivial⟩,⟨x06,x16,by simp only;omega,N6,by rw [hm' h0];exact jY g3 _ _ _,by rw [hm' h0];exact uH g3 sc3 _ _ _,by rw [hm' h0];exact wU hkl hok h0⟩,by simp only;omega⟩
   ·obtain ⟨et,eu,rfl⟩:=he6.nil_iff.2 h0
    have eR:=aBm hkl hok h0
    rw [eR]
    have a66:=At.ext x16 a1
    repeat (first|refine bT (d:=some 46) (cs:= [.int .i64 (k:Nat),.iface et eu]) rfl ?_|refine zD (d:=some 47) (cs:= [.int .i64 (k:Nat),.iface et eu]) rfl rfl (fun b8 w8 x8 a8 r8 hb8=>?_)|refine go1 ?_|refine zg λ_ _=>?_|refine zi λ_ _=>?_)
    refine bA (w0:=w) (n:=2) (vs:= [.slice none 0 0,.slice none 0 0]) (x06.trans x8) (by omega) (At.ext x8 a66) rfl rfl rfl rfl rfl (fun w9 x9 c9 a9 r9=>?_)
    repeat (first|refine go1 ?_|refine zg λ_ _=>?_|refine zi λ_ _=>?_)
    have l8:=a8.lt
    have h68:w1.heap.size≤b8:=nTr x16.size hb8
    exact aB (lA (bK r9 rfl rfl) bC) ⟨.slice none 0 0,.slice none 0 0,_,rfl,.inr ⟨h0,.inr ⟨(show (0:Int)≤((k:Nat):Int) by omega),b8,_,rfl,At.chg c9 a8 (by simp;omega),dA.off (At.ext x8 a66) (by decide) c9 (he6.ext x8)⟩⟩,hS.ext x9,fun q=>absurd q h0,fun _=>⟨rfl,rfl⟩,Chg.mono x9 (by simp)⟩
  ·have ek:txs.length≤k:=by omega
   have eR:=aB2 ek hok
   rw [eR]
   have S3:=hS.ext x3
   have hlm:m.length≤80000:=by
    have:=qR hg txs h
    rw [eA,eR] at this
    simp only at this;omega
   have x03':Unit→Ext w w3:=fun _=>x3
   have s03:=x3.size
   clear x3 x02 x1 x2
   repeat (first|refine go1 ?_|refine zg λ_ _=>?_|refine zi λ_ _=>?_)
   refine zC (d:=some 52) rfl (aGg _ S3 N3 (by omega)) ?_
   rintro sv w4 ⟨osv,x4⟩
   repeat (first|refine go1 ?_|refine zg λ_ _=>?_|refine zi λ_ _=>?_)
   refine zC (d:=some 55) rfl (aGg _ (N3.ext x4) (S3.ext x4) (by omega)) ?_
   rintro mv w5 ⟨omv,x5⟩
   have osv5:=osv.ext x5
   obtain ⟨q1,q2,hsv⟩:=osv5.sl.form
   obtain ⟨q3,q4,hmv⟩:=omv.sl.form
   have one1:sv.oneCell'=true:=by obtain ⟨_,_,e⟩:=osv5.sl.form;rw [e];rfl
   have one2:mv.oneCell'=true:=by obtain ⟨_,_,e⟩:=omv.sl.form;rw [e];rfl
   have hl1:=pT l m
   have hl2:=pT m l
   have bs1:=osv5.base
   have bs2:=omv.base
   have s34:=x4.size
   have s45:=x5.size
   repeat (first|refine bT (d:=some 56) (cs:= [sv,mv]) (by rw [hsv,hmv];rfl) ?_|refine zE (d':=12) (fun _=>rfl) rfl rfl (by show List.all [sv,mv] _=true;simp only [List.all_cons,List.all_nil,one1,one2];rfl) (fun b12 w6 x6 a12 (r12:Row w6 ⟨b12,0,none⟩ [sv,mv]) hb12=>?_)|refine go1 ?_|refine zg λ_ _=>?_|refine zi λ_ _=>?_)
   have x36:Ext w3 w6:=x4.trans (x5.trans x6)
   have osv6:=osv5.ext x6
   have omv6:=omv.ext x6
   have off1:SlR enR [b,mb,b6] w6 sv (bO l m):=osv6.sl.en fun y hy hm=>by
    have:=bs1 y hy
    simp at hm
    omega
   have off2:SlR enR [b,mb,b6] w6 mv (bO m l):=omv6.sl.en fun y hy hm=>by
    have:=bs2 y hy
    simp at hm
    omega
   refine zC (d:=some 62) rfl (xP (l:=l) (out:=bO l m) (inn:=bO m l) _ (S3.ext x36) (off1.sub (fun y hy=>.inl (by simp at hy ⊢;omega))) (off2.sub (fun y hy=>.inl (by simp at hy ⊢;omega))) (by omega) (by omega)) ?_
   rintro _ w7 ⟨rfl,S7,c7⟩
   rw [aBl hg g3] at S7
   have r127:Row w7 ⟨b12,0,none⟩ [sv,mv]:=Row.chg c7 r12 (by simp;omega)
   have a67:=At.chg c7 (At.ext x36 a63) (by simp;omega)
   have off17:=off1.step c7 (M':= [b6]) (fun y hy=>.inl (by simp at hy ⊢;omega)) (fun y hy=>.inl (by simp at hy ⊢;omega))
   have off27:=off2.step c7 (M':= [b6]) (fun y hy=>.inl (by simp at hy ⊢;omega)) (fun y hy=>.inl (by simp at hy ⊢;omega))
   have c07:Chg [b,mb] w w7:=(Chg.trans ((x03' ()).trans x36) c7).mono (by simp)
   clear x4 x5 x6 x36 c7 a12 r12 off1 off2 osv6 omv6 osv5 osv omv
   repeat (first|refine go1 ?_|refine zg λ_ _=>?_|refine zi λ_ _=>?_)
   refine bG (b:=b6) (vs:= [sv,mv]) rfl rfl rfl (by simp [one1,one2]) a67 rfl (fun w8 c8 a8=>?_)
   repeat (first|refine go1 ?_|refine zg λ_ _=>?_|refine zi λ_ _=>?_)
   have S8:dD T.coins_Set w8 b mb m:=S7.chg c8 (by simp;omega) (by simp;omega)
   have fin1:=off17.step c8 (M':= []) (fun y hy=>.inl hy) (by simp)
   have fin2:=off27.step c8 (M':= []) (fun y hy=>.inl hy) (by simp)
   refine aB (lA (bK (Row.of_at a8) rfl rfl) bC) ⟨sv,mv,_,rfl,.inl ⟨rfl,rfl⟩,S8,fun _=>⟨fin1.en,fin2.en,fun y hy=>?_⟩,fun q=>absurd rfl q,?_⟩
   ·rcases hy with hy|hy
    ·have:=bs1 y hy;omega
    ·have:=bs2 y hy;omega
   ·refine (c07.trans c8).mono ?_
    intro y hy
    simp at hy ⊢
    omega
 ·have eA:aP l txs h=(l,3, -1, -1):=by unfold aP;rw [if_pos (by omega)]
  rw [eA]
  repeat' (first|refine zH (d:=some 6) (fun b6 w1 x1 a1 hb6=>?_)|refine zJ (t:=21) (p:=h<0) rfl (fun hh=>?_) (fun hh=>?_)|refine zL (x:=.tmp 18) rfl (fun _=>?_) (fun h=>absurd (by omega) h)|refine go1 ?_|refine zg λ_ _=>?_|refine zi λ_ _=>?_)
  all_goals
   refine bA (w0:=w) (n:=2) (vs:= [.slice none 0 0,.slice none 0 0]) x1 hb6 a1 rfl rfl rfl rfl rfl (fun w9 x9 c9 a9 r9=>?_)
   repeat (first|refine go1 ?_|refine zg λ_ _=>?_|refine zi λ_ _=>?_)
   exact aB (lA (bK r9 rfl rfl) bC) ⟨.slice none 0 0,.slice none 0 0,_,rfl,.inr ⟨(show (3:Int)≠0 by decide),.inl ⟨rfl,rfl,rfl⟩⟩,hS.ext x9,fun q=>absurd q (show ¬(3:Int)=0 by decide),fun _=>⟨rfl,rfl⟩,Chg.mono x9 (by simp)⟩
end
section
open Go Go.K Go.ChangeShapes Go.WideShapes Go.ChangeAt Go.RowKit
set_option maxRecDepth 100000
theorem own:ownKnob Tryz.prog.godebug=none:=by kernel_rfl
theorem laidOut:laidOutB Tryz.prog=true:=by kernel_rfl
theorem bAm:Tryz.prog.cellsOf 5=1:=by kernel_rfl
theorem aZv:Tryz.prog.cellsOf 82=1:=by kernel_rfl
theorem aY5:Tryz.prog.cellsOf 4=1:=by kernel_rfl
theorem aZu:Tryz.prog.cellsOf 81=1:=by kernel_rfl
theorem pQ {W:World} {c:List Value} (h:Reads Tryz.prog W 5 c):∃b:UInt8,c= [u8V b]:=by
 obtain ⟨n,e,h1,h2⟩:=aIe Tryz.underlying5 h
 have h1:0≤n:=h1
 have h2:n≤255:=h2
 refine ⟨UInt8.ofNat n.toNat,?_⟩
 have:(UInt8.ofNat n.toNat).toNat=n.toNat:=by rw [UInt8.toNat_ofNat'];omega
 unfold u8V
 rw [e,this]
 congr 2;omega
theorem aH8 {W:World} {c:List Value} (h:Reads Tryz.prog W 82 c):∃n:Int,c= [.int .u16 n]∧0≤n∧n≤65535:=by
 obtain ⟨n,e,h1,h2⟩:=aIe Tryz.underlying82 h
 exact ⟨n,e,h1,h2⟩
end
section
open Go Go.K Go.ChangeShapes Go.WideShapes Go.ChangeAt Go.RowKit
set_option maxRecDepth 100000
theorem bAj:Tryz.prog.globalNamed "errors.errorType" =some 0:=by kernel_rfl
theorem bAl:(Tryz.prog.cutTypes.find? (·.1== "internal/reflectlite.rtype")).map (·.2)=some 138:=by kernel_rfl
theorem aYs:((List.range 306).filter fun t=>Tryz.prog.rowNamed t [101,114,114,111,114])= [31]:=by kernel_rfl
theorem aWe:Tryz.prog.types.size=306:=by kernel_rfl
abbrev aAj:List (String × DataW Unit):= [("errors.errorType",Rows.laid_errors_errorType)]
theorem aC8 {W:World} (h:laidMetH Tryz.prog aAj W):EtR W:=by
 have h':laidMet Tryz.prog [] W∧handlesMet Tryz.prog aAj W:=h
 obtain ⟨name,u,ty,e1,e2,e3,e4,e5⟩:=h'.2 _ (List.mem_singleton.2 rfl)
 have en:name= [101,114,114,111,114]:=(Option.some.inj e1).symm
 subst en
 obtain rfl:=Option.some.inj (bAl.symm.trans e2)
 have hm:ty∈(List.range 306).filter fun t=>Tryz.prog.rowNamed t [101,114,114,111,114]:=List.mem_filter.2 ⟨List.mem_range.2 (by rw [←aWe];exact e3),e4⟩
 rw [aYs] at hm
 obtain rfl:=List.mem_singleton.1 hm
 have hh:typeHandle Tryz.prog 31=.pointer (some ⟨2,31,none⟩):=by kernel_rfl
 rw [hh] at e5
 unfold EtR
 simpa using World.var?_cell bAj e5 0
noncomputable def aA7 (os : Os) : World :=
  let w0 := World.holding Tryz.prog os ⟨#[], #[], []⟩
  { w0 with heap := w0.heap.modify 0 fun
      | .cells _ t frozen => .cells #[.iface 138 (.agg #[.pointer (some ⟨2, 31, none⟩)])] t frozen
      | o => o }
theorem vT (os:Os) (args:Array Value):laidMetH Tryz.prog aAj ((aA7 os).forCall (fun _ _=>0) ⟨#[],args, []⟩).memory:=
 laidMetH_of_parts (laidMet_nil _ _) (by kernel_rfl)
end
section
open Go Go.K Go.ChangeShapes Go.WideShapes Go.ChangeAt Go.RowKit
set_option maxRecDepth 100000
theorem aX3:Tryz.prog.cellsOf 22=1:=by kernel_rfl
theorem aRn {W:World} {c:List Value} (h:Reads Tryz.prog W 84 c):∃z:BSm,pA.rel [] W c z:=by
 obtain ⟨h1,h2⟩:=aAp Tryz.underlying84 h
 have l:c.length=9:=h1.trans (by kernel_rfl)
 match c,l with
 | [c0,c1,c2,c3,c4,c5,c6,c7,c8],_=>
  have g0:=h2 _ (List.mem_of_getElem? (i:=0) rfl)
  have g1:=h2 _ (List.mem_of_getElem? (i:=1) rfl)
  have g2:=h2 _ (List.mem_of_getElem? (i:=2) rfl)
  have g3:=h2 _ (List.mem_of_getElem? (i:=3) rfl)
  have g4:=h2 _ (List.mem_of_getElem? (i:=4) rfl)
  have g5:=h2 _ (List.mem_of_getElem? (i:=5) rfl)
  have g6:=h2 _ (List.mem_of_getElem? (i:=6) rfl)
  have g7:=h2 _ (List.mem_of_getElem? (i:=7) rfl)
  have g8:=h2 _ (List.mem_of_getElem? (i:=8) rfl)
  simp only [aZu,List.drop_zero,List.drop_succ_cons,List.take_succ_cons,List.take_zero] at g0
  obtain ⟨frm,hf,hfl⟩:=aBz u8R Tryz.underlying81 (by kernel_rfl) (fun c hc=>by
   obtain ⟨b,e⟩:=pQ hc
   exact ⟨b,by subst e;rfl⟩) g0
  obtain ⟨b1,e1⟩:=pQ g1
  obtain ⟨n2,e2,hn2⟩:=aH8 g2
  obtain ⟨n3,e3,hn3⟩:=aH8 g3
  obtain ⟨b4,e4⟩:=pQ g4
  obtain ⟨b5,e5⟩:=pQ g5
  obtain ⟨b6,e6⟩:=pQ g6
  obtain ⟨o7,e7⟩:=aF5 Tryz.underlying4 g7
  obtain ⟨o8,e8⟩:=aF5 Tryz.underlying4 g8
  simp only [bAm,aZv,aY5,List.drop_zero,List.drop_succ_cons,List.take_succ_cons,List.take_zero,List.cons.injEq,and_true] at e1 e2 e3 e4 e5 e6 e7 e8
  exact ⟨⟨frm,b1,n2,n3,b4,b5,b6,o7,o8⟩,c0,by rw [e1,e2,e3,e4,e5,e6,e7,e8];rfl,hf,hn2,hn3⟩
theorem xK {W:World} {v:Value} (h:Reads Tryz.prog W 22 [v]):∃l,SlR pA [] W v l∧l.length≤maxLen:=
 aBz pA Tryz.underlying22 (by kernel_rfl) (fun _ h=>aRn h) h
theorem aNt {W:World} {c:List Value} (h:Reads Tryz.prog W 64 c):∃z:BAct,aA0.rel [] W c z:=by
 obtain ⟨h1,h2⟩:=aAp Tryz.underlying64 h
 have l:c.length=2:=h1.trans (by kernel_rfl)
 match c,l with
 | [c0,c1],_=>
  have g0:=h2 _ (List.mem_of_getElem? (i:=0) rfl)
  have g1:=h2 _ (List.mem_of_getElem? (i:=1) rfl)
  obtain ⟨b0,e0⟩:=pQ g0
  simp only [aX3,List.drop_zero,List.drop_succ_cons,List.take_succ_cons,List.take_zero] at g1
  obtain ⟨l,hl,_⟩:=xK g1
  simp only [bAm,List.drop_zero,List.drop_succ_cons,List.take_succ_cons,List.take_zero,List.cons.injEq,and_true] at e0
  exact ⟨⟨b0,l⟩,c1,by rw [e0],hl⟩
theorem aLd {W:World} {v:Value} (h:Reads Tryz.prog W 57 [v]):∃l,SlR aA0 [] W v l∧l.length≤maxLen:=
 aBz aA0 Tryz.underlying57 (by kernel_rfl) (fun _ h=>aNt h) h
end
end Go.Proofs.YtgloknkcfchnlabGreatDoor
