/- Plain: what the document reckons of blocks; blocks taken bac -/
import Derived.Test.YtgloknkcfchnlaaGreatDoorZ48
set_option linter.unusedVariables false
set_option linter.unusedSimpArgs false
namespace Go.K
section
open Go Go.Proofs.YtgloknkcfchnlaaGreatDoor
theorem aFa (l:List Int):0≤dH l∧dH l≤2100000000000000:=by
 unfold dH
 cases h:fI 0 l with
 |none=>simp
 |some t=>exact (cA _).1 (mH l 0 t (by decide) h)
theorem aLq (f:Pt→Option Cn) (t:Tx) (h:Int):0≤(fR f t h).1∧(fR f t h).1≤2100000000000000:=by
 have h1:=aFa (values t)
 have h2:=aFa (t.ins.map (inV f))
 unfold fR
 split
 ·simp
 ·split
  ·simp
  ·split
   ·simp
   ·split
    ·simp
    ·split
     ·simp
     ·simp only;omega
end
section
open Go Go.Proofs.YtgloknkcfchnlaaGreatDoor
theorem aVh {l:List En} {t:Tx} {i:Nat} {h:Int} (hg:CG l) (h0:(cW l t i h).2.1=0) (hi:0<i):tot (cW l t i h).1≤tot l:=by
 rw [aPj hg h0]
 by_cases hb:aO t=true
 ·have h1:=(aKy h0).1
  have hc:=pF h1
  unfold iB at h1
  rw [if_pos hb,if_neg (by rw [hc];decide),if_pos (.inl hi)] at h1
  exact absurd h1 (by decide)
 ·rw [if_neg hb]
  have:=(aLq (aT l) t h).1
  omega
theorem aTf {l0:List En} {h:Int}:∀(txs:List Tx) (i:Nat) {m:List En},CG m→0<i→(gF l0 h i txs m).2.1=0→tot (gF l0 h i txs m).1≤tot m
 | [],_,_,_,_,_=>Int.le_refl _
 |t::ts,i,m,hm,hi,h0=>by
  unfold gF at h0 ⊢
  split at h0
  ·rename_i hc;exact absurd h0 hc
  ·rename_i hc
   rw [if_neg hc]
   have hc:(cW m t i h).2.1=0:=by simpa using hc
   have h1:=aTf ts (i+1) (jV hm t i h) (by omega) h0
   have h2:=aVh hm hc hi
   omega
def mG:List Tx→Int
 | []=>0
 |t::_=>if aO t then dH (values t) else 0
theorem aTw {m:List En} {txs:List Tx} {h:Int} (hm:CG m) (h0:(aP m txs h).2.1=0):tot (aP m txs h).1≤tot m+mG txs:=by
 unfold aP at h0 ⊢
 split at h0
 ·exact absurd h0 (show ¬(3:Int)=0 by decide)
 ·rename_i hr
  rw [if_neg hr]
  cases txs with
  |nil=>simp [gF,mG]
  |cons t ts=>
   unfold gF at h0 ⊢
   split at h0
   ·rename_i hc;exact absurd h0 hc
   ·rename_i hc
    rw [if_neg hc]
    have hc:(cW m t 0 h).2.1=0:=by simpa using hc
    have h1:=aTf ts (0+1) (jV hm t 0 h) (by omega) h0
    have h2:=aPj hm hc
    have h3:=(aLq (aT m) t h).1
    have e:mG (t::ts)=if aO t then dH (values t) else 0:=rfl
    rw [e]
    split at h2
    ·rename_i hb;rw [if_pos hb];omega
    ·rename_i hb;rw [if_neg hb];omega
theorem aM0 (txs:List Tx):0≤mG txs∧mG txs≤2100000000000000:=by
 cases txs with
 |nil=>simp [mG]
 |cons t ts=>
  have h1:=aFa (values t)
  have e:mG (t::ts)=if aO t then dH (values t) else 0:=rfl
  rw [e]
  split<;>omega
theorem aNq {txs:List Tx} (h:0<txs.length):mG txs=if aO txs[0] then dH (values txs[0]) else 0:=by
 cases txs with
 |nil=>simp at h
 |cons t ts=>rfl
end
end Go.K
namespace Go.Proofs.YtgloknkcfchnlaaGreatDoor
section
open Go Go.K
attribute [local irreducible] aD aK aV KOp.wp K.Spec u32 leS vnS str aN aI aO aP bI idT aY EtR bA mG
set_option maxHeartbeats 16000000 in
set_option maxRecDepth 4000 in
theorem aC5 {v:Value} {ls:List (List BSm)} (w:World) (hg:EtR w) (hz:SlR (iO hG) [] w v ls):K.Spec Tryz.prog F.kedgelaw12_BlockValues [v] w fun r w'=>r=.bool true∧Ext w w':=by
 refine oN rfl ?_
 unfold gU
 refine oy ?_
 repeat (first|refine go1 ?_|refine zg λ_ _=>?_|refine zi λ_ _=>?_)
 refine zC (d:=some 12) rfl (lC _) ?_
 rintro _ w1 ⟨b,mb,rfl,S1,hb1,hb2,x1⟩
 repeat (first|refine zG (d:=some 15) (E:=iO hG) (M:= []) (l:=ls) rfl (SlR.ext hz (by exact fx)) ?_|refine tP (d:=some 17) (E:=iO hG) (n:=min ls.length 6) rfl rfl (by omega) hz (by omega) rfl (fun v' hv'=>?_)|refine zG (d:=some 18) (E:=iO hG) (M:= []) (l:=ls.take (min ls.length 6)) rfl (SlR.ext hv' (by exact fx)) ?_|refine go1 ?_|refine zg λ_ _=>?_|refine zi λ_ _=>?_)
 have hSl:(ls.take (min ls.length 6)).length≤6:=by rw [List.length_take];omega
 generalize ls.take (min ls.length 6)=S at*
 refine aM (fun (p:Nat × Value × List En) w'=>Ext w w'∧p.1≤S.length∧cH T.coins_Set w' b mb p.2.2∧SlE aU w' p.2.1 p.2.2∧CG p.2.2∧SC p.2.2∧p.2.2.length≤15*p.1) (fun p=> [(3,.pointer (some ⟨b,0,none⟩)),(4,p.2.1),(17,v'),(18,.int .i64 (S.length:Nat)),(19,.int .i64 (p.1:Nat))]) (fun p=>S.length - p.1) (0,.slice none 0 0, []) ⟨rfl,rfl,rfl,rfl,rfl,trivial⟩ ⟨x1,by simp,S1,SlE.nil _,CG.nil,SC.nil,by simp⟩ ?_
 rintro ⟨i,lv,m⟩ ρ w4 ⟨x4,hi,S4,hm4,g4,sc4,hml⟩
 simp only at hi S4 hm4 g4 sc4 hml
 dsimp only
 have s4:=x4.size
 have hM4:∀y∈ [b,mb],y<w4.heap.size:=fun y hy=>by simp at hy;rcases hy with rfl|rfl;exact S4.lt.1;exact S4.lt.2
 have hMb:∀y∈ [b,mb],w.heap.size≤y:=fun y hy=>by simp at hy;rcases hy with rfl|rfl;exact hb1;exact hb2
 repeat (first|refine go1 ?_|refine zg λ_ _=>?_|refine zi λ_ _=>?_)
 refine zL (x:=.tmp 20) (p:=((i:Nat):Int)<((S.length:Nat):Int)) rfl (fun h5=>?_) (fun h5=>?_)
 ·have hil:i<S.length:=by omega
  have hvM:SlR (iO hG) [b,mb] w4 v' S:=hv'.step x4 (by simp) (fun y hy=>.inr (hMb y hy))
  have ek:((i:Nat):Int)+1=((i+1:Nat):Int):=by omega
  repeat (first|(refine aR (d:=some 22) (E:=iO hG) (M:= [b,mb]) rfl rfl (n:=i) (l:=S) hvM rfl hil (fun ad cs r4 he=>?_);obtain ⟨tv,rfl,htv⟩:=id he)|refine go1 ?_|refine zg λ_ _=>?_|refine zi λ_ _=>?_)
  rw [ek]
  refine zC (d:=some 28) rfl (kV (M:= [b,mb]) (l:=m) (zs:=S[i]) ((i+1:Nat):Int) _ hm4 g4 sc4 htv (by omega) (by omega) hM4) ?_
  rintro vtx w7 ⟨txs,oT,htl,hmk,x7⟩
  have hT:SlR txR [b,mb] w7 vtx txs:=oT.slB hM4
  have hsm:∀t∈txs,t.Sm:=fun t ht=>(hmk t ht).sm
  have hou:=uQ hmk htl
  have hM7:∀y∈ [b,mb],y<w7.heap.size:=fun y hy=>nLt (hM4 y hy) x7.size
  repeat (first|refine go1 ?_|refine zg λ_ _=>?_|refine zi λ_ _=>?_)
  refine zC (d:=some 30) rfl (gA _ (S4.ext x7)) ?_
  rintro _ w7b ⟨rfl,x7b⟩
  have x47:Ext w4 w7b:=x7.trans x7b
  repeat (first|refine go1 ?_|refine zg λ_ _=>?_|refine zi λ_ _=>?_)
  rw [ek]
  refine zC (d:=some 36) rfl (eU (M:= [b,mb]) (txs:=txs) (l:=m) ((i+1:Nat):Int) _ (S4.ext x47) g4 sc4 (by simp) (by simp) (fun y hy=>nLt (hM7 y hy) x7b.size) (hT.ext x7b) hsm (by omega) (by omega)) ?_
  rintro _ w8 ⟨sv,mv,e,rfl,E8,S8,hA,hB,c8⟩
  have hm8:SlE aU w8 lv m:=SlE.offS (hm4.ext x47) (S4.ext x47) c8
  have hT8:SlR txR [b,mb] w8 vtx txs:=(hT.ext x7b).step c8 (fun y hy=>.inl hy) (fun y hy=>.inl hy)
  have x08:Ext w w8:=(Ext.chg (x4.trans x47) c8).mono (fun y hy=>.inr (hMb y hy))
  have gn:=pZ g4 txs ((i+1:Nat):Int)
  have scn:=vA g4 sc4 txs ((i+1:Nat):Int)
  have nl:=jL g4 txs ((i+1:Nat):Int)
  have kb:=wA (l:=m) (txs:=txs) (b:=((i+1:Nat):Int))
  have kle:=aTw (m:=m) (txs:=txs) (h:=((i+1:Nat):Int)) g4
  have o12:sv.oneCell'=true∧mv.oneCell'=true:=by
   by_cases h0:(aP m txs ((i+1:Nat):Int)).2.1=0
   ·obtain ⟨h1,h2, -⟩:=hA h0
    obtain ⟨_,_,q⟩:=h1.form
    obtain ⟨_,_,q2⟩:=h2.form
    rw [q,q2];exact ⟨rfl,rfl⟩
   ·obtain ⟨rfl,rfl⟩:=hB h0;exact ⟨rfl,rfl⟩
  have ones2:([sv,mv]:List Value).all (fun v=>v.oneCell')=true:=by simp [o12.1,o12.2]
  repeat (first|refine zE (d':=9) (fun _=>rfl) rfl rfl ones2 (fun b11 w9 x9 a9 (r9:Row w9 ⟨b11,0,none⟩ [sv,mv]) hb11=>?_)|refine go1 ?_|refine zg λ_ _=>?_|refine zi λ_ _=>?_)
  by_cases h0:(aP m txs ((i+1:Nat):Int)).2.1=0
  ·obtain rfl:=E8.nilD.1 h0
   have kle:=kle h0
   repeat (first|refine go1 ?_|refine zg λ_ _=>?_|refine zi λ_ _=>?_)
   rw [ek]
   refine zC (d:=some 46) rfl (qZ (M:= [b,mb]) (l:=m) (txs:=txs) ((i+1:Nat):Int) _ (hm8.ext x9) g4 sc4 (hT8.ext x9) hsm (by omega) (by omega)) ?_
   rintro _ w10 ⟨vl,rfl,hvl,x10⟩
   have x810:Ext w8 w10:=x9.trans x10
   have S10:=S8.ext x810
   have hT10:=hT8.ext x810
   have x010:Ext w w10:=x08.trans x810
   have tg:=(cA _).1 gn.mon.good
   have tm:=(cA _).1 g4.mon.good
   have gb:=aM0 txs
   clear E8 S8 hA hB c8 x9 x10 x810 a9 r9 hT hT8 oT hm8 hvM he x7 x7b x47 hm4
   generalize aP m txs ((i+1:Nat):Int)=ap at*
   obtain ⟨n,c,at_,in_⟩:=ap
   simp only at S10 hvl gn scn nl kle tg
   have fin:∀{w':World},Ext w10 w'→(Ext w w'∧i+1≤S.length∧cH T.coins_Set w' b mb n∧SlE aU w' vl n∧CG n∧SC n∧n.length≤15*(i+1)):=fun x=>⟨x010.trans x,by omega,S10.ext x,hvl.ext x,gn,scn,by omega⟩
   by_cases hp:0<txs.length
   ·have gp:=aNq hp
    have hs0:=hsm _ (gMe hp)
    repeat (first|refine zG (d:=some 52) (E:=txR) (M:= [b,mb]) (l:=txs) rfl hT10 ?_|refine aG (d:=some 53) (.bool true) rfl (congrArg (fun b=>some (Value.bool b)) (dTr (by omega))) ?_|(refine aR (d:=some 56) (E:=txR) (M:= [b,mb]) rfl rfl (n:=0) (l:=txs) hT10 rfl hp (fun ad cs r11 he=>?_);obtain ⟨iv,ov,rfl, -⟩:=id he)|refine go1 ?_|refine zg λ_ _=>?_|refine zi λ_ _=>?_)
    refine zC (d:=some 58) rfl (iI (M:= [b,mb]) (cs:=aZ txs[0] iv ov) (t:=txs[0]) _ he hs0) ?_
    rintro _ w11 ⟨rfl,x11⟩
    cases hgr:aO txs[0] with
    |true=>
     rw [hgr,if_pos rfl] at gp
     repeat (first|(refine aR (d:=some 62) (E:=txR) (M:= [b,mb]) rfl rfl (n:=0) (l:=txs) (hT10.ext x11) rfl hp (fun ad2 cs2 r12 he2=>?_);obtain ⟨iv2,ov2,rfl, -⟩:=id he2)|refine go1 ?_|refine zg λ_ _=>?_|refine zi λ_ _=>?_)
     refine zC (d:=some 64) rfl (mP (M:= [b,mb]) (cs:=aZ txs[0] iv2 ov2) (t:=txs[0]) _ he2 hs0) ?_
     rintro _ w12 ⟨rfl,x12⟩
     rw [←gp]
     repeat (first|refine go1 ?_|refine zg λ_ _=>?_|refine zi λ_ _=>?_)
     refine zC (d:=some 68) rfl (gA _ (S10.ext (x11.trans x12))) ?_
     rintro _ w13 ⟨rfl,x13⟩
     repeat (first|refine aG (d:=some 72) (.bool false) rfl (congrArg (fun b=>some (Value.bool b)) (dFa (by omega))) ?_|refine go1 ?_|refine zg λ_ _=>?_|refine zi λ_ _=>?_)
     exact ⟨(i+1,vl,n),⟨rfl,rfl,rfl,rfl,rfl,trivial⟩,fin ((x11.trans x12).trans x13),by simp only;omega⟩
    |false=>
     rw [hgr,if_neg (by decide)] at gp
     repeat (first|refine go1 ?_|refine zg λ_ _=>?_|refine zi λ_ _=>?_)
     refine zC (d:=some 68) rfl (gA _ (S10.ext x11)) ?_
     rintro _ w13 ⟨rfl,x13⟩
     repeat (first|refine aG (d:=some 72) (.bool false) rfl (congrArg (fun b=>some (Value.bool b)) (dFa (by omega))) ?_|refine go1 ?_|refine zg λ_ _=>?_|refine zi λ_ _=>?_)
     exact ⟨(i+1,vl,n),⟨rfl,rfl,rfl,rfl,rfl,trivial⟩,fin (x11.trans x13),by simp only;omega⟩
   ·have e0:txs= []:=List.length_eq_zero_iff.1 (by omega)
    have gp:mG txs=0:=by rw [e0];unfold mG;rfl
    repeat (first|refine zG (d:=some 52) (E:=txR) (M:= [b,mb]) (l:=txs) rfl hT10 ?_|refine aG (d:=some 53) (.bool false) rfl (congrArg (fun b=>some (Value.bool b)) (dFa (by omega))) ?_|refine go1 ?_|refine zg λ_ _=>?_|refine zi λ_ _=>?_)
    refine zC (d:=some 68) rfl (gA _ S10) ?_
    rintro _ w13 ⟨rfl,x13⟩
    repeat (first|refine aG (d:=some 72) (.bool false) rfl (congrArg (fun b=>some (Value.bool b)) (dFa (by omega))) ?_|refine go1 ?_|refine zg λ_ _=>?_|refine zi λ_ _=>?_)
    exact ⟨(i+1,vl,n),⟨rfl,rfl,rfl,rfl,rfl,trivial⟩,fin x13,by simp only;omega⟩
  ·obtain ⟨et,eu,rfl⟩:=E8.nilD.2 h0
   rw [kb h0] at S8
   repeat (first|refine go1 ?_|refine zg λ_ _=>?_|refine zi λ_ _=>?_)
   exact ⟨(i+1,lv,m),⟨rfl,rfl,rfl,rfl,rfl,trivial⟩,⟨x08.trans x9,by simp only;omega,S8.ext x9,hm8.ext x9,g4,sc4,by simp only;omega⟩,by simp only;omega⟩
 ·repeat (first|refine go1 ?_|refine zg λ_ _=>?_|refine zi λ_ _=>?_)
  refine zC (d:=some 74) rfl (fF _ (hg.ext x4)) ?_
  rintro _ w5 ⟨rfl,x5⟩
  repeat (first|refine go1 ?_|refine zg λ_ _=>?_|refine zi λ_ _=>?_)
  exact aB rfl ⟨rfl,x4.trans x5⟩
end
end Go.Proofs.YtgloknkcfchnlaaGreatDoor
