/- Contracts: what opens a lock, and when, by the document. -/
import Derived.Test.YtgloknkcfchnlabGreatDoorZ44
set_option linter.unusedVariables false
set_option linter.unusedSimpArgs false
namespace Go.Proofs.YtgloknkcfchnlabGreatDoor
section
open Go Go.K
attribute [local irreducible] aG aK aU KOp.wp K.Spec u32 leS vnS str aN bN bJ bX eU iG cD
theorem bAe {q:Int} (h:jM q):bL .rem (.int .u32 q) (.int .u32 65536)=some (.int .u32 (q%65536)):=by
 obtain ⟨n,rfl⟩:∃n:Nat,q=(n:Nat):=⟨q.toNat,by have:=h.1;omega⟩
 have hne:((65536:Nat):Int)≠0:=by omega
 show bL .rem (.int .u32 (n:Nat)) (.int .u32 ((65536:Nat):Int))=_
 simp only [bL,dJ,Bool.false_eq_true,if_false,if_true,cP]
 rw [tm,if_neg hne]
 exact congrArg (fun x=>some (Value.int .u32 x)) (by omega)
theorem aCt {M:List Nat} {cs:List Value} {t:Tx} (i:Nat) (hi:i<t.ins.length) (w:World) (ht:txR.rel M w cs t):K.Spec Tryz.prog F.kedgeref08_Waits [.agg cs.toArray,.int .i64 (i:Nat)] w fun r w'=>r=.int .i64 (eB t t.ins[i])∧Ext w w':=by
 obtain ⟨iv,ov,rfl,h1,h2,h3,h4⟩:=ht
 refine wD rfl ?_
 unfold lQ
 refine oy ?_
 repeat' (first|refine zD rfl rfl (fun bp wp xp ap (rp:Row wp ⟨bp,0,none⟩ (aT t iv ov)) hp0=>?_)|(refine aM (d:=some 9) (E:=inR) (M:=M) rfl rfl (n:=i) (l:=t.ins) (SlR.ext h1 (by exact fx)) rfl hi (fun ad cs r4 he=>?_);obtain ⟨wv,rfl,hw,hp5,hp6⟩:=he)|refine zJ (t:=14) (p:=t.ins[i].q≥2147483648) rfl (fun h=>?_) (fun h=>?_)|refine zL (x:=.tmp 18) (p:=t.ver<2) rfl (fun h=>?_) (fun h=>?_)|refine cM (d:=some 20) rfl rfl (bAe hp6) ?_|refine aD (d:=some 21) (.int .i64 (t.ins[i].q%65536)) rfl (congrArg (fun n=>some (Value.int .i64 n)) (IntWalk.i64_in _ (by omega))) ?_|refine go1 ?_|refine zg λ_ _=>?_|refine zi λ_ _=>?_)
 ·exact aB rfl ⟨by rw [eB,if_neg (fun hh=>by omega)];rfl,by exact fx⟩
 ·exact aB rfl ⟨by rw [eB,if_neg (fun hh=>by omega)];rfl,by exact fx⟩
 ·exact aB rfl ⟨by rw [eB,if_pos ⟨by omega,by omega⟩];rfl,by exact fx⟩
theorem aM9 {s:ByteArray} {wit:List ByteArray} (h:eU wit=none):cD s wit=none:=by unfold cD;rw [h];rfl
theorem aOc {s:ByteArray} {wit:List ByteArray} {p:Nat × Nat} (h:eU wit=some p) (hp:(bX s).length≤p.1):cD s wit=none:=by
 unfold cD
 rw [h,Option.bind_some,List.getElem?_eq_none hp];rfl
theorem aS2 {s:ByteArray} {wit:List ByteArray} {p:Nat × Nat} (h:eU wit=some p) (hp:p.1<(bX s).length):cD s wit=if (bX s)[p.1].tag=0∨(bX s)[p.1].tag=p.2 then some (bX s)[p.1] else none:=by
 unfold cD
 rw [h,Option.bind_some,List.getElem?_eq_getElem hp];rfl
theorem aR0 (s:ByteArray):(bX s).length≤3:=by
 unfold bX
 split
 ·rename_i h
  simp only [Bool.and_eq_true] at h
  have:=h.1
  unfold fQ at this
  simp only [Bool.and_eq_true,Bool.or_eq_true,decide_eq_true_eq] at this
  unfold iG pG
  rw [List.length_map,List.length_range];omega
 ·simp
attribute [local irreducible] sgV
set_option maxHeartbeats 2000000 in
theorem wJ {M:List Nat} {cs:List Value} {t:Tx} (s:ByteArray) (hm:s.size≤1000000) (i:Nat) (hi:i<t.ins.length) (hs:t.ins.length≤1000) (hz:∀z∈t.ins[i].wit,z.size≤1000000) (w:World) (ht:txR.rel M w cs t):K.Spec Tryz.prog F.kedgeref08_Open [.string s,.agg cs.toArray,.int .i64 (i:Nat)] w fun r w'=>r=.int .i64 (eZ s t t.ins[i])∧Ext w w':=by
 have ht0:=ht
 obtain ⟨iv,ov,rfl,h1,h2,h3,h4⟩:=ht
 have none9:cD s t.ins[i].wit=none→eZ s t t.ins[i]=9:=fun e=>by unfold eZ;rw [e]
 have hfew:=aR0 s
 refine xY rfl ?_
 unfold nZ
 refine oy ?_
 repeat' (first|refine zD rfl rfl (fun bp wp xp ap (rp:Row wp ⟨bp,0,none⟩ (aT t iv ov)) hp0=>?_)|refine zG (d:=some 18) (E:=inR) (M:=M) (l:=t.ins) rfl (SlR.ext h1 (by exact fx)) ?_|(refine zC (d:=some 22) rfl (aWk s hm _) ?_;rintro v7 w2 ⟨hv7,hb7,x2⟩)|(refine aM (d:=some 27) (E:=inR) (M:=M) rfl rfl (n:=i) (l:=t.ins) (SlR.ext h1 (by exact fx)) rfl hi (fun ad cs r4 he=>?_);obtain ⟨wv,rfl,hw,hp5,hp6⟩:=he)|refine aD (d:=some 13) (.bool false) rfl (congrArg (fun b=>some (Value.bool b)) (dFa (by omega))) ?_|refine aD (d:=some 19) (.bool false) rfl (congrArg (fun b=>some (Value.bool b)) (dFa (by omega))) ?_|refine zL (x:=.tmp 20) rfl (fun h=>absurd h (by omega)) (fun _=>?_)|refine zz (x:=.tmp 20) rfl ?_|refine go1 ?_|refine zg λ_ _=>?_|refine zi λ_ _=>?_)
 refine zC (d:=some 30) rfl (aV9 _ (SlR.toE (F:=iX) (ag:=false) (SlR.ext hw (by exact fx))) hz) ?_
 rintro _ w5 ⟨rfl,x5⟩
 cases hsg:eU t.ins[i].wit with
 |none=>
  rw [show sgV t.ins[i].wit=.tuple #[.int .i64 (-1),.int .i64 0] by rw [show sgV t.ins[i].wit=(match eU t.ins[i].wit with|none=>.tuple #[.int .i64 (-1),.int .i64 0]|some p=>.tuple #[.int .i64 (p.1:Nat),.int .i64 (p.2:Nat)]) by unfold sgV;rfl,hsg],none9 (aM9 hsg)]
  repeat' (first|refine go1 ?_|refine zg λ_ _=>?_|refine zi λ_ _=>?_)
  exact aB rfl ⟨rfl,by exact fx⟩
 |some p=>
  rw [show sgV t.ins[i].wit=.tuple #[.int .i64 (p.1:Nat),.int .i64 (p.2:Nat)] by rw [show sgV t.ins[i].wit=(match eU t.ins[i].wit with|none=>.tuple #[.int .i64 (-1),.int .i64 0]|some p=>.tuple #[.int .i64 (p.1:Nat),.int .i64 (p.2:Nat)]) by unfold sgV;rfl,hsg]]
  by_cases hp:p.1<(bX s).length
  ·have hch:=aS2 hsg hp
   have hok:=aLr (gMe hp)
   obtain ⟨b,hb⟩:∃b,b=(bX s)[p.1]:=⟨_,rfl⟩
   rw [←hb] at hch hok
   have g1:=hok.tag
   have g2:=hok.delay
   have g3:=hok.height
   have hwb:=nK (t:=t) hp6
   clear h2 hfew r4
   by_cases htag:b.tag=0∨b.tag=p.2
   ·rw [if_pos htag] at hch
    have e:eZ s t t.ins[i]=if eB t t.ins[i]<(b.delay:Int) then 10 else if b.height>0∧(t.lock<(b.height:Int)∨t.ins[i].q=4294967295) then 10 else 0:=by unfold eZ;rw [hch]
    repeat (first|refine bP (d:=some 38) rfl (SlE.ext (w:=w2) (by exact fx) hv7) ?_|(refine aQ (d:=some 43) (E:=brE) rfl rfl (n:=p.1) (l:=bX s) (SlE.ext (w:=w2) (by exact fx) hv7) rfl hp (fun ad43 r43=>?_);rw [←hb] at r43)|refine zE (d':=10) (fun _=>rfl) rfl rfl rfl (fun b7 w7 x7 a7 (r7:Row w7 ⟨b7,0,none⟩ [.int .u16 (b.tag:Nat),.int .u16 (b.delay:Nat),.int .u32 (b.height:Nat)]) hb7=>?_)|refine aD (d:=some 34) (.bool false) rfl (congrArg (fun b=>some (Value.bool b)) (dFa (by omega))) ?_|refine aD (d:=some 39) (.bool false) rfl (congrArg (fun b=>some (Value.bool b)) (dFa (by omega))) ?_|refine zL (x:=.tmp 40) rfl (fun h=>absurd h (by omega)) (fun _=>?_)|refine go1 ?_|refine zg λ_ _=>?_|refine zi λ_ _=>?_)
    repeat' (first|refine aD (d:=some 51) (.int .i64 (b.tag:Nat)) rfl (congrArg (fun n=>some (Value.int .i64 n)) (IntWalk.i64_in _ (by omega))) ?_|refine aZ (t:=48) (p:=((b.tag:Nat):Int)=0) rfl (fun ht1=>?_) (fun ht1=>?_)|refine zN (x:=.tmp 54) (p:=((b.tag:Nat):Int)=((p.2:Nat):Int)) rfl (fun ht2=>absurd ht2 (fun q=>by omega)) (fun ht2=>?_)|(refine zC (d:=some 57) rfl (aCt (M:=M) (t:=t) (cs:=aT t iv ov) i hi _ (R.ext ht0 (by exact fx))) ?_;rintro _ w9 ⟨rfl,x9⟩)|refine aD (d:=some 61) (.int .i64 (b.delay:Nat)) rfl (congrArg (fun n=>some (Value.int .i64 n)) (IntWalk.i64_in _ (by omega))) ?_|refine zL (x:=.tmp 62) (p:=eB t t.ins[i]<(b.delay:Int)) rfl (fun h5=>?_) (fun h5=>?_)|refine zJ (t:=66) (p:=((b.height:Nat):Int)>0) rfl (fun h6=>?_) (fun h6=>?_)|refine zJ (t:=72) (p:=t.lock<((b.height:Nat):Int)) rfl (fun h7=>?_) (fun h7=>?_)|(refine aM (d:=some 76) (E:=inR) (M:=M) rfl rfl (n:=i) (l:=t.ins) (SlR.ext h1 (by exact fx)) rfl hi (fun ad cs r4 he=>?_);obtain ⟨wv2,rfl, -, -, -⟩:=he)|refine zL (x:=.tmp 81) (p:=t.ins[i].q=4294967295) rfl (fun h8=>?_) (fun h8=>?_)|refine go1 ?_|refine zg λ_ _=>?_|refine zi λ_ _=>?_)
    all_goals
     rw [e]
     first
      |(rw [if_pos (by assumption)];exact aB rfl ⟨rfl,by exact fx⟩)
      |(rw [if_neg (by assumption),if_pos ⟨by omega,.inl (by assumption)⟩];exact aB rfl ⟨rfl,by exact fx⟩)
      |(rw [if_neg (by assumption),if_pos ⟨by omega,.inr (by assumption)⟩];exact aB rfl ⟨rfl,by exact fx⟩)
      |(rw [if_neg (by assumption),if_neg (fun hh=>by omega)];exact aB rfl ⟨rfl,by exact fx⟩)
   ·rw [if_neg htag] at hch
    rw [none9 hch]
    repeat (first|refine bP (d:=some 38) rfl (SlE.ext (w:=w2) (by exact fx) hv7) ?_|(refine aQ (d:=some 43) (E:=brE) rfl rfl (n:=p.1) (l:=bX s) (SlE.ext (w:=w2) (by exact fx) hv7) rfl hp (fun ad43 r43=>?_);rw [←hb] at r43)|refine zE (d':=10) (fun _=>rfl) rfl rfl rfl (fun b7 w7 x7 a7 (r7:Row w7 ⟨b7,0,none⟩ [.int .u16 (b.tag:Nat),.int .u16 (b.delay:Nat),.int .u32 (b.height:Nat)]) hb7=>?_)|refine aD (d:=some 34) (.bool false) rfl (congrArg (fun b=>some (Value.bool b)) (dFa (by omega))) ?_|refine aD (d:=some 39) (.bool false) rfl (congrArg (fun b=>some (Value.bool b)) (dFa (by omega))) ?_|refine zL (x:=.tmp 40) rfl (fun h=>absurd h (by omega)) (fun _=>?_)|refine aD (d:=some 51) (.int .i64 (b.tag:Nat)) rfl (congrArg (fun n=>some (Value.int .i64 n)) (IntWalk.i64_in _ (by omega))) ?_|refine aZ (t:=48) (p:=((b.tag:Nat):Int)=0) rfl (fun ht1=>?_) (fun ht1=>absurd ht1 (fun q=>by omega))|refine zN (x:=.tmp 54) (p:=((b.tag:Nat):Int)=((p.2:Nat):Int)) rfl (fun ht2=>?_) (fun ht2=>absurd ht2 (fun q=>by omega))|refine go1 ?_|refine zg λ_ _=>?_|refine zi λ_ _=>?_)
    exact aB rfl ⟨rfl,by exact fx⟩
  ·rw [none9 (aOc hsg (by omega))]
   repeat' (first|refine bP (d:=some 38) rfl (SlE.ext (w:=w2) (by exact fx) hv7) ?_|refine zL (x:=.tmp 40) rfl (fun _=>?_) (fun h=>absurd (by omega) h)|refine zy (x:=.tmp 40) rfl ?_|refine go1 ?_|refine zg λ_ _=>?_|refine zi λ_ _=>?_|(first|refine zJ rfl (fun hh=>absurd hh (by omega)) (fun hh=>?_)|refine zJ rfl (fun hh=>?_) (fun hh=>absurd hh (by omega))|refine zJ rfl (fun hh=>?_) (fun hh=>?_)|refine aZ rfl (fun hh=>absurd hh (by omega)) (fun hh=>?_)|refine aZ rfl (fun hh=>?_) (fun hh=>absurd hh (by omega))|refine aZ rfl (fun hh=>?_) (fun hh=>?_)))
   exact aB rfl ⟨rfl,by exact fx⟩
set_option maxHeartbeats 2000000 in
theorem aF3 {M:List Nat} {cs:List Value} {t:Tx} (i:Nat) (hi:i<t.ins.length) (hs:t.ins.length≤1000) (c bl:Int) (w:World) (ht:txR.rel M w cs t):K.Spec Tryz.prog F.kedgeref08_Ripe [.agg cs.toArray,.int .i64 (i:Nat),.int .i64 c,.int .i64 bl] w fun r w'=>r=.bool (fE t t.ins[i] c bl)∧Ext w w':=by
 have ht0:=ht
 obtain ⟨iv,ov,rfl,h1,h2,h3,h4⟩:=ht
 have hq:jM t.ins[i].q:=by
  obtain ⟨css,hsl,hall,_⟩:=h1
  obtain ⟨_,_,_,_,hq⟩:=All2.get hall i (by rw [hall.length];exact hi) hi
  exact hq
 have hwb:=nK (t:=t) hq
 have h42:=h4.2
 have h41:=h4.1
 have fail1:¬(0≤c∧c≤1000000∧0≤bl∧bl≤1000000)→fE t t.ins[i] c bl=false:=fun e=>by
  unfold fE gT
  by_cases hc:0≤c∧c≤1000000
  ·rw [dFa (show ¬(0≤bl∧bl≤1000000) by omega)];simp
  ·rw [dFa hc];rfl
 have fail3:¬c+eB t t.ins[i]≤bl→fE t t.ins[i] c bl=false:=fun e=>by unfold fE;rw [dFa e];simp
 have good:0≤c∧c≤1000000∧0≤bl∧bl≤1000000→c+eB t t.ins[i]≤bl→fE t t.ins[i] c bl=(decide (t.lock<bl)||t.ins.all fun y=>decide (y.q=4294967295)):=fun e1 e3=>by
  unfold fE gT
  rw [dTr (show 0≤c∧c≤1000000 by omega),dTr (show 0≤bl∧bl≤1000000 by omega),dTr e3];rfl
 refine aAd rfl ?_
 unfold nM
 refine oy ?_
 by_cases hr:0≤c∧c≤1000000∧0≤bl∧bl≤1000000
 ·repeat' (first|refine zD rfl rfl (fun bp wp xp ap (rp:Row wp ⟨bp,0,none⟩ (aT t iv ov)) hp0=>?_)|refine zG (d:=some 17) (E:=inR) (M:=M) (l:=t.ins) rfl (SlR.ext h1 (by exact fx)) ?_|refine zL (x:=.tmp 35) rfl (fun h=>absurd h (by omega)) (fun _=>?_)|refine zz (x:=.tmp 35) rfl ?_|(refine zC (d:=some 38) rfl (aCt (M:=M) (t:=t) (cs:=aT t iv ov) i hi _ (R.ext ht0 (by exact fx))) ?_;rintro _ w5 ⟨rfl,x5⟩)|refine zL (x:=.tmp 43) (p:=bl<c+eB t t.ins[i]) rfl (fun h7=>?_) (fun h7=>?_)|refine aD (d:=some 46) (.int .i64 t.lock) rfl (congrArg (fun n=>some (Value.int .i64 n)) (IntWalk.i64_in _ (by omega))) ?_|refine zL (x:=.tmp 48) (p:=t.lock<bl) rfl (fun h8=>?_) (fun h8=>?_)|(refine aL (fun (k:Nat) w'=>Ext w5 w'∧k≤t.ins.length∧∀j,j<k→∀hj:j<t.ins.length,t.ins[j].q=4294967295) (fun k=> [(4,.pointer (some ⟨bp,0,none⟩)),(10,.int .i64 (k:Nat))]) (fun k=>t.ins.length - k) 0 ⟨rfl,rfl,trivial⟩ ⟨Ext.refl _,by simp,fun j hj=>absurd hj (by simp)⟩ ?_;rintro k ρ w6 ⟨x6,hk,hall⟩)|refine zG (d:=some 52) (E:=inR) (M:=M) (l:=t.ins) rfl (SlR.ext h1 (by exact fx)) ?_|refine zL (x:=.tmp 53) (p:=((k:Nat):Int)<((t.ins.length:Nat):Int)) rfl (fun h9=>?_) (fun h9=>?_)|refine go1 ?_|refine zg λ_ _=>?_|refine zi λ_ _=>?_|(first|refine zJ rfl (fun hh=>absurd hh (by omega)) (fun hh=>?_)|refine zJ rfl (fun hh=>?_) (fun hh=>absurd hh (by omega))|refine zJ rfl (fun hh=>?_) (fun hh=>?_)|refine aZ rfl (fun hh=>absurd hh (by omega)) (fun hh=>?_)|refine aZ rfl (fun hh=>?_) (fun hh=>absurd hh (by omega))|refine aZ rfl (fun hh=>?_) (fun hh=>?_)))
  ·rw [fail3 (by omega)];exact aB rfl ⟨rfl,by exact fx⟩
  ·rw [good hr (by omega),dTr h8];exact aB rfl ⟨rfl,by exact fx⟩
  ·have hkl:k<t.ins.length:=by omega
   repeat' (first|(refine aM (d:=some 59) (E:=inR) (M:=M) rfl rfl (n:=k) (l:=t.ins) (SlR.ext h1 (by exact fx)) rfl hkl (fun ad cs r4 he=>?_);obtain ⟨wv,rfl, -, -, -⟩:=he)|refine zN (x:=.tmp 62) (p:=t.ins[k].q=4294967295) rfl (fun h6=>?_) (fun h6=>?_)|refine go1 ?_|refine zg λ_ _=>?_|refine zi λ_ _=>?_)
   ·have e:(t.ins.all fun y=>decide (y.q=4294967295))=false:=by
     rw [List.all_eq_false]
     exact ⟨_,gMe hkl,by simpa using h6⟩
    rw [good hr (by omega),dFa h8,e];exact aB rfl ⟨rfl,by exact fx⟩
   ·refine ⟨k+1,⟨rfl,rfl,trivial⟩,⟨by exact fx,by omega,fun j hj hjl=>?_⟩,by omega⟩
    rcases Nat.lt_or_ge j k with h|h
    ·exact hall j h hjl
    ·have:j=k:=by omega
     subst this;exact h6
  ·have e:(t.ins.all fun y=>decide (y.q=4294967295))=true:=by
    rw [List.all_eq_true]
    intro y hy
    obtain ⟨j,hj,rfl⟩:=List.getElem_of_mem hy
    exact dTr (hall j (by omega) hj)
   rw [good hr (by omega),e,Bool.or_true]
   repeat' (first|refine go1 ?_|refine zg λ_ _=>?_|refine zi λ_ _=>?_)
   exact aB rfl ⟨rfl,by exact fx⟩
 ·rw [fail1 hr]
  repeat' (first|refine zD rfl rfl (fun bp wp xp ap (rp:Row wp ⟨bp,0,none⟩ (aT t iv ov)) hp0=>?_)|refine zG (d:=some 17) (E:=inR) (M:=M) (l:=t.ins) rfl (SlR.ext h1 (by exact fx)) ?_|refine zL (x:=.tmp 35) rfl (fun _=>?_) (fun h=>absurd (by omega) h)|refine zy (x:=.tmp 35) rfl ?_|refine go1 ?_|refine zg λ_ _=>?_|refine zi λ_ _=>?_|(first|refine zJ rfl (fun hh=>absurd hh (by omega)) (fun hh=>?_)|refine zJ rfl (fun hh=>?_) (fun hh=>absurd hh (by omega))|refine zJ rfl (fun hh=>?_) (fun hh=>?_)|refine aZ rfl (fun hh=>absurd hh (by omega)) (fun hh=>?_)|refine aZ rfl (fun hh=>?_) (fun hh=>absurd hh (by omega))|refine aZ rfl (fun hh=>?_) (fun hh=>?_)))
  all_goals exact aB rfl ⟨rfl,by exact fx⟩
end
end Go.Proofs.YtgloknkcfchnlabGreatDoor
