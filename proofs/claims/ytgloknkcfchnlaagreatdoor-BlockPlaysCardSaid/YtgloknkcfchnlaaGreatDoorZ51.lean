/- The walk of BlockPlays. -/
import Derived.Test.YtgloknkcfchnlaaGreatDoorZ48
set_option linter.unusedVariables false
set_option linter.unusedSimpArgs false
namespace Go.Proofs.YtgloknkcfchnlaaGreatDoor
section
open Go Go.K
attribute [local irreducible] aD aK aV KOp.wp K.Spec u32 leS vnS str aN aI aP bI idT aY EtR bA
set_option maxHeartbeats 16000000 in
set_option maxRecDepth 4000 in
theorem aDf {v:Value} {ls:List (List BSm)} (odd:Int) (w:World) (hg:EtR w) (hz:SlR (iO hG) [] w v ls) (ho:aQj odd):K.Spec Tryz.prog F.kedgelaw12_BlockPlays [v,.int .i64 odd] w fun r w'=>r=.bool true∧Ext w w':=by
 refine pS rfl ?_
 unfold iN
 refine oy ?_
 repeat (first|refine go1 ?_|refine zg λ_ _=>?_|refine zi λ_ _=>?_)
 refine zC (d:=some 21) rfl (lC _) ?_
 rintro _ w1 ⟨b,mb,rfl,S1,hb1,hb2,x1⟩
 repeat (first|refine zG (d:=some 24) (E:=iO hG) (M:= []) (l:=ls) rfl (SlR.ext hz (by exact fx)) ?_|refine tP (d:=some 26) (E:=iO hG) (n:=min ls.length 6) rfl rfl (by omega) hz (by omega) rfl (fun v' hv'=>?_)|refine zG (d:=some 27) (E:=iO hG) (M:= []) (l:=ls.take (min ls.length 6)) rfl (SlR.ext hv' (by exact fx)) ?_|refine go1 ?_|refine zg λ_ _=>?_|refine zi λ_ _=>?_)
 have hSl:(ls.take (min ls.length 6)).length≤6:=by rw [List.length_take];omega
 generalize ls.take (min ls.length 6)=S at*
 have hne:=S1.ne
 refine aM (fun (p:Nat × Value × List En) w'=>Ext w w'∧p.1≤S.length∧cH T.coins_Set w' b mb p.2.2∧SlE aU w' p.2.1 p.2.2∧CG p.2.2∧SC p.2.2∧p.2.2.length≤15*p.1) (fun p=> [(1,.int .i64 odd),(5,.pointer (some ⟨b,0,none⟩)),(6,p.2.1),(26,v'),(27,.int .i64 (S.length:Nat)),(28,.int .i64 (p.1:Nat))]) (fun p=>S.length - p.1) (0,.slice none 0 0, []) ⟨rfl,rfl,rfl,rfl,rfl,rfl,trivial⟩ ⟨x1,by simp,S1,SlE.nil _,CG.nil,SC.nil,by simp⟩ ?_
 rintro ⟨i,lv,m⟩ ρ w4 ⟨x4,hi,S4,hm4,g4,sc4,hml⟩
 simp only at hi S4 hm4 g4 sc4 hml
 dsimp only
 have s4:=x4.size
 have hM4:∀y∈ [b,mb],y<w4.heap.size:=fun y hy=>by simp at hy;rcases hy with rfl|rfl;exact S4.lt.1;exact S4.lt.2
 have hMb:∀y∈ [b,mb],w.heap.size≤y:=fun y hy=>by simp at hy;rcases hy with rfl|rfl;exact hb1;exact hb2
 repeat (first|refine go1 ?_|refine zg λ_ _=>?_|refine zi λ_ _=>?_)
 refine zL (x:=.tmp 29) (p:=((i:Nat):Int)<((S.length:Nat):Int)) rfl (fun h5=>?_) (fun h5=>?_)
 ·have hil:i<S.length:=by omega
  have hvM:SlR (iO hG) [b,mb] w4 v' S:=hv'.step x4 (by simp) (fun y hy=>.inr (hMb y hy))
  have ek:((i:Nat):Int)+1=((i+1:Nat):Int):=by omega
  repeat (first|(refine aR (d:=some 31) (E:=iO hG) (M:= [b,mb]) rfl rfl (n:=i) (l:=S) hvM rfl hil (fun ad cs r4 he=>?_);obtain ⟨tv,rfl,htv⟩:=id he)|refine go1 ?_|refine zg λ_ _=>?_|refine zi λ_ _=>?_)
  rw [ek]
  refine zC (d:=some 37) rfl (kV (M:= [b,mb]) (l:=m) (zs:=S[i]) ((i+1:Nat):Int) _ hm4 g4 sc4 htv (by omega) (by omega) hM4) ?_
  rintro vtx w7 ⟨txs,oT,htl,hmk,x7⟩
  have hT:SlR txR [b,mb] w7 vtx txs:=oT.slB hM4
  have hsm:∀t∈txs,t.Sm:=fun t ht=>(hmk t ht).sm
  have hou:=uQ hmk htl
  have hM7:∀y∈ [b,mb],y<w7.heap.size:=fun y hy=>nLt (hM4 y hy) x7.size
  repeat (first|refine go1 ?_|refine zg λ_ _=>?_|refine zi λ_ _=>?_)
  rw [ek]
  refine zC (d:=some 44) rfl (eU (M:= [b,mb]) (txs:=txs) (l:=m) ((i+1:Nat):Int) _ (S4.ext x7) g4 sc4 (by simp) (by simp) hM7 hT hsm (by omega) (by omega)) ?_
  rintro _ w8 ⟨sv,mv,e,rfl,E8,S8,hA,hB,c8⟩
  have hm8:SlE aU w8 lv m:=SlE.offS (hm4.ext x7) (S4.ext x7) c8
  have hT8:SlR txR [b,mb] w8 vtx txs:=hT.step c8 (fun y hy=>.inl hy) (fun y hy=>.inl hy)
  have x08:Ext w w8:=(Ext.chg (x4.trans x7) c8).mono (fun y hy=>.inr (hMb y hy))
  have gn:=pZ g4 txs ((i+1:Nat):Int)
  have scn:=vA g4 sc4 txs ((i+1:Nat):Int)
  have nl:=jL g4 txs ((i+1:Nat):Int)
  have k1:=aHc (l:=m) (txs:=txs) (b:=((i+1:Nat):Int))
  have k2:=aEy (l:=m) (txs:=txs) (b:=((i+1:Nat):Int))
  have o12:sv.oneCell'=true∧mv.oneCell'=true:=by
   by_cases h0:(aP m txs ((i+1:Nat):Int)).2.1=0
   ·obtain ⟨h1,h2, -⟩:=hA h0
    obtain ⟨_,_,q⟩:=h1.form
    obtain ⟨_,_,q2⟩:=h2.form
    rw [q,q2];exact ⟨rfl,rfl⟩
   ·obtain ⟨rfl,rfl⟩:=hB h0;exact ⟨rfl,rfl⟩
  have ones2:([sv,mv]:List Value).all (fun v=>v.oneCell')=true:=by simp [o12.1,o12.2]
  repeat (first|refine zE (d':=11) (fun _=>rfl) rfl rfl ones2 (fun b11 w9 x9 a9 (r9:Row w9 ⟨b11,0,none⟩ [sv,mv]) hb11=>?_)|refine go1 ?_|refine zg λ_ _=>?_|refine zi λ_ _=>?_)
  rw [ek]
  refine zC (d:=some 52) rfl (qZ (M:= [b,mb]) (l:=m) (txs:=txs) ((i+1:Nat):Int) _ (hm8.ext x9) g4 sc4 (hT8.ext x9) hsm (by omega) (by omega)) ?_
  rintro _ w10 ⟨vl,rfl,hvl,x10⟩
  have x810:Ext w8 w10:=x9.trans x10
  have E10:=E8.ext x810
  have S10:=S8.ext x810
  have hg10:=hg.ext (x08.trans x810)
  have hm10:=hm8.ext x810
  have hA10:(aP m txs ((i+1:Nat):Int)).2.1=0→SlE aU w10 sv (bA m (aP m txs ((i+1:Nat):Int)).1)∧SlE aU w10 mv (bA (aP m txs ((i+1:Nat):Int)).1 m):=fun h=>⟨(hA h).1.ext x810,(hA h).2.1.ext x810⟩
  have r10:Row w10 ⟨b11,0,none⟩ [sv,mv]:=Row.ext x10 r9
  have x010:Ext w w10:=x08.trans x810
  clear E8 S8 hA c8 x9 x10 x810 a9 r9 hT hT8 oT hm8 hvM he x7 S4 hm4
  generalize aP m txs ((i+1:Nat):Int)=ap at*
  obtain ⟨n,c,at_,in_⟩:=ap
  simp only at E10 S10 hvl gn scn nl k1 k2 hA10 hB
  repeat (first|refine go1 ?_|refine zg λ_ _=>?_|refine zi λ_ _=>?_)
  refine zC (d:=some 58) rfl (aHq hg10 (E10.errR k1)) ?_
  rintro _ w11 ⟨rfl,x11⟩
  have fin:∀{w':World},Ext w10 w'→(Ext w w'∧i+1≤S.length∧cH T.coins_Set w' b mb n∧SlE aU w' vl n∧CG n∧SC n∧n.length≤15*(i+1)):=fun x=>⟨x010.trans x,by omega,S10.ext x,hvl.ext x,gn,scn,by omega⟩
  by_cases h0:c=0
  ·obtain rfl:=E10.nilD.1 h0
   obtain ⟨hsv,hmv⟩:=hA10 h0
   subst h0
   repeat (first|refine aG (d:=some 60) (.bool false) rfl (congrArg (fun b=>some (Value.bool (!b))) (dTr rfl)) ?_|refine aG (d:=some 65) (.bool true) rfl rfl ?_|refine aG (d:=some 66) (.bool false) rfl rfl ?_|refine go1 ?_|refine zg λ_ _=>?_|refine zi λ_ _=>?_)
   refine zC (d:=some 70) rfl (mC (hg10.ext x11) ((E10.errR k1).ext x11)) ?_
   rintro _ w12 ⟨rfl,x12⟩
   repeat (first|refine aG (d:=some 72) (.bool false) rfl (congrArg (fun b=>some (Value.bool (!b))) (dTr rfl)) ?_|refine go1 ?_|refine zg λ_ _=>?_|refine zi λ_ _=>?_)
   refine zC (d:=some 76) rfl (qO ((hg10.ext x11).ext x12) ((E10.ext x11).ext x12) k2) ?_
   rintro _ w13 ⟨rfl,x13⟩
   have x1013:Ext w10 w13:=x11.trans (x12.trans x13)
   repeat (first|refine aG (d:=some 78) (.bool false) rfl (congrArg (fun b=>some (Value.bool (!b))) (dTr rfl)) ?_|refine go1 ?_|refine zg λ_ _=>?_|refine zi λ_ _=>?_)
   refine zC (d:=some 83) rfl (sZ _ (S10.ext x1013) (hvl.ext x1013) (by omega)) ?_
   rintro _ w14 ⟨rfl,x14⟩
   have x1014:=x1013.trans x14
   have r14:=Row.ext x1014 r10
   have hsv14:=hsv.ext x1014
   have hmv14:=hmv.ext x1014
   have hvl14:=hvl.ext x1014
   have hm14:=hm10.ext x1014
   have nn:=gn.nodup
   have nm:=g4.nodup
   have l1:=jN m n
   have l2:=jN n m
   have fin':=fun {w':World} (x:Ext w14 w')=>fin (x1014.trans x)
   clear x11 x12 x13 x14 x1013 x1014 x010 x08 x4 fin
   repeat' (first|refine zg (fun w15 x15=>?_)|refine zB ?_ ?_|(refine zC (d:=some 108) rfl (aCc _ (SlE.ext (w:=w14) (by exact fx) hm14) (SlE.ext (w:=w14) (by exact fx) hvl14) (by omega) (by omega) nn) ?_;rintro lv1 w16 ⟨oL1,x16⟩)|(refine zC (d:=some 109) rfl (vU _ (SlE.ext (w:=w14) (by exact fx) hsv14) (SlE.ext (w:=w16) (by exact fx) oL1.sl) (by omega)) ?_;rintro _ w17 ⟨rfl,x17⟩)|(refine zC (d:=some 116) rfl (aCc _ (SlE.ext (w:=w14) (by exact fx) hvl14) (SlE.ext (w:=w14) (by exact fx) hm14) (by omega) (by omega) nm) ?_;rintro lv2 w18 ⟨oL2,x18⟩)|(refine zC (d:=some 117) rfl (vU _ (SlE.ext (w:=w14) (by exact fx) hmv14) (SlE.ext (w:=w18) (by exact fx) oL2.sl) (by omega)) ?_;rintro _ w19 ⟨rfl,x19⟩)|refine go1 ?_|refine zg λ_ _=>?_|refine zi λ_ _=>?_)
   all_goals exact ⟨(i+1,vl,n),⟨rfl,rfl,rfl,rfl,rfl,rfl,trivial⟩,fin' (by exact fx),by simp only;omega⟩
  ·obtain ⟨et,eu,rfl⟩:=E10.nilD.2 h0
   obtain ⟨rfl,rfl⟩:=hB h0
   repeat (first|refine aG (d:=some 60) (.bool false) rfl (congrArg (fun b=>some (Value.bool (!b))) (dTr rfl)) ?_|refine aG (d:=some 65) (.bool false) rfl (congrArg (fun b=>some (Value.bool b)) (dFa h0)) ?_|refine go1 ?_|refine zg λ_ _=>?_|refine zi λ_ _=>?_)
   refine zC (d:=some 70) rfl (mC (hg10.ext x11) ((E10.errR k1).ext x11)) ?_
   rintro _ w12 ⟨rfl,x12⟩
   repeat (first|refine aG (d:=some 72) (.bool false) rfl (congrArg (fun b=>some (Value.bool (!b))) (dTr rfl)) ?_|refine go1 ?_|refine zg λ_ _=>?_|refine zi λ_ _=>?_)
   refine zC (d:=some 76) rfl (qO ((hg10.ext x11).ext x12) ((E10.ext x11).ext x12) k2) ?_
   rintro _ w13 ⟨rfl,x13⟩
   have x1013:Ext w10 w13:=x11.trans (x12.trans x13)
   repeat (first|refine aG (d:=some 78) (.bool false) rfl (congrArg (fun b=>some (Value.bool (!b))) (dTr rfl)) ?_|refine go1 ?_|refine zg λ_ _=>?_|refine zi λ_ _=>?_)
   refine zC (d:=some 83) rfl (sZ _ (S10.ext x1013) (hvl.ext x1013) (by omega)) ?_
   rintro _ w14 ⟨rfl,x14⟩
   have x1014:=x1013.trans x14
   have r14:=Row.ext x1014 r10
   have fin':=fun {w':World} (x:Ext w14 w')=>fin (x1014.trans x)
   clear x11 x12 x13 x14 x1013 x1014 x010 x08 x4 fin
   repeat' (first|refine zg (fun w15 x15=>?_)|refine zB ?_ ?_|refine go1 ?_|refine zg λ_ _=>?_|refine zi λ_ _=>?_)
   all_goals exact ⟨(i+1,vl,n),⟨rfl,rfl,rfl,rfl,rfl,rfl,trivial⟩,fin' (by exact fx),by simp only;omega⟩
 ·repeat (first|refine go1 ?_|refine zg λ_ _=>?_|refine zi λ_ _=>?_)
  refine zC (d:=some 127) rfl (eU (M:= [b,mb]) (txs:= []) (l:=m) odd _ S4 g4 sc4 (by simp) (by simp) hM4 (SlR.nil _ _) (by simp) (by simp [cZ];omega) (by simp)) ?_
  rintro _ w5 ⟨sv,mv,e,rfl,E5,S5,hA,hB,c5⟩
  have x05:Ext w w5:=(Ext.chg x4 c5).mono (fun y hy=>.inr (hMb y hy))
  have o12:sv.oneCell'=true∧mv.oneCell'=true:=by
   by_cases h0:(aP m [] odd).2.1=0
   ·obtain ⟨h1,h2, -⟩:=hA h0
    obtain ⟨_,_,q⟩:=h1.form
    obtain ⟨_,_,q2⟩:=h2.form
    rw [q,q2];exact ⟨rfl,rfl⟩
   ·obtain ⟨rfl,rfl⟩:=hB h0;exact ⟨rfl,rfl⟩
  have ones2:([sv,mv]:List Value).all (fun v=>v.oneCell')=true:=by simp [o12.1,o12.2]
  rw [aLc] at E5
  have he:(e=.nilIface∧¬(odd<0∨odd>1000000))∨(e=sI 3∧(odd<0∨odd>1000000)):=by
   by_cases hr:odd<0∨odd>1000000
   ·rw [if_pos hr] at E5
    rcases E5 with ⟨h, -⟩|⟨-,⟨h, -⟩|⟨h, -⟩⟩
    ·exact absurd h (show ¬(3:Int)=0 by decide)
    ·exact .inr ⟨h,hr⟩
    ·exact absurd h (show ¬(0:Int)≤ -1 by decide)
   ·rw [if_neg hr] at E5
    exact .inl ⟨(yJ.nilD E5).1 rfl,hr⟩
  clear hA hB E5
  repeat (first|refine zE (d':=17) (fun _=>rfl) rfl rfl ones2 (fun b17 w6 x6 a6 (r6:Row w6 ⟨b17,0,none⟩ [sv,mv]) hb17=>?_)|refine go1 ?_|refine zg λ_ _=>?_|refine zi λ_ _=>?_)
  refine zC (d:=some 131) rfl (aNr _ 1 _) ?_
  rintro _ w7 ⟨rfl,x7⟩
  repeat (first|refine zE (d':=19) (fun _=>rfl) rfl rfl rfl (fun b19 w8 x8 a8 (r8:Row w8 ⟨b19,0,none⟩ [.slice none 0 0,.slice none 0 0]) hb19=>?_)|refine go1 ?_|refine zg λ_ _=>?_|refine zi λ_ _=>?_)
  have x08:Ext w w8:=x05.trans (x6.trans (x7.trans x8))
  refine zC (d:=some 134) rfl (fF _ (hg.ext x08)) ?_
  rintro _ w9 ⟨rfl,x9⟩
  have x09:=x08.trans x9
  rcases he with ⟨rfl,hr⟩|⟨rfl,hr⟩
  ·repeat (first|refine aG (d:=some 139) (.bool true) rfl (congrArg (fun b=>some (Value.bool b)) (dTr (by omega))) ?_|refine aG (d:=some 142) (.bool true) rfl (congrArg (fun b=>some (Value.bool b)) (dTr (by omega))) ?_|refine go1 ?_|refine zg λ_ _=>?_|refine zi λ_ _=>?_)
   refine zC (d:=some 158) rfl (lZ 1 _) ?_
   rintro _ w10 ⟨rfl,rfl⟩
   repeat (first|refine go1 ?_|refine zg λ_ _=>?_|refine zi λ_ _=>?_)
   exact aB rfl ⟨rfl,x09⟩
  ·by_cases h1:odd<0
   ·repeat (first|refine aG (d:=some 139) (.bool false) rfl (congrArg (fun b=>some (Value.bool b)) (dFa (by omega))) ?_|refine go1 ?_|refine zg λ_ _=>?_|refine zi λ_ _=>?_)
    refine zC (d:=some 152) rfl (lZ 3 _) ?_
    rintro _ w10 ⟨rfl,rfl⟩
    repeat (first|refine go1 ?_|refine zg λ_ _=>?_|refine zi λ_ _=>?_)
    refine zC (d:=some 158) rfl (lZ 1 _) ?_
    rintro _ w10 ⟨rfl,rfl⟩
    repeat (first|refine go1 ?_|refine zg λ_ _=>?_|refine zi λ_ _=>?_)
    exact aB rfl ⟨rfl,x09⟩
   ·repeat (first|refine aG (d:=some 139) (.bool true) rfl (congrArg (fun b=>some (Value.bool b)) (dTr (by omega))) ?_|refine aG (d:=some 142) (.bool false) rfl (congrArg (fun b=>some (Value.bool b)) (dFa (by omega))) ?_|refine go1 ?_|refine zg λ_ _=>?_|refine zi λ_ _=>?_)
    refine zC (d:=some 152) rfl (lZ 3 _) ?_
    rintro _ w10 ⟨rfl,rfl⟩
    repeat (first|refine go1 ?_|refine zg λ_ _=>?_|refine zi λ_ _=>?_)
    refine zC (d:=some 158) rfl (lZ 1 _) ?_
    rintro _ w10 ⟨rfl,rfl⟩
    repeat (first|refine go1 ?_|refine zg λ_ _=>?_|refine zi λ_ _=>?_)
    exact aB rfl ⟨rfl,x09⟩
end
end Go.Proofs.YtgloknkcfchnlaaGreatDoor
