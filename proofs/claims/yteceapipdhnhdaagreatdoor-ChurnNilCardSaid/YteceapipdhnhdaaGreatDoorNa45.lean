/- Contracts: what opens a lock, and when, by the document. -/
import Derived.Test.YteceapipdhnhdaaGreatDoorNa42
set_option linter.unusedVariables false
set_option linter.unusedSimpArgs false
namespace Go.Proofs.YteceapipdhnhdaaGreatDoor
section
open Go Go.K
attribute [local irreducible] aH aM aY KOp.wp K.Spec u32 leS vnS str aP cA bS cO gU lL cX
theorem bQ7 {q:Int} (h:fN q):bM .rem (.int .u32 q) (.int .u32 65536)=some (.int .u32 (q%65536)):=by
 obtain ⟨n,rfl⟩:∃n:Nat,q=(n:Nat):=⟨q.toNat,by have:=h.1;omega⟩
 have hne:((65536:Nat):Int)≠0:=by omega
 show bM .rem (.int .u32 (n:Nat)) (.int .u32 ((65536:Nat):Int))=_
 simp only [bM,dK,Bool.false_eq_true,if_false,if_true,dG]
 rw [tm,if_neg hne]
 exact congrArg (fun x=>some (Value.int .u32 x)) (by omega)
theorem aLj {M:List Nat} {cs:List Value} {t:Tx} (i:Nat) (hi:i<t.ins.length) (w:World) (ht:txR.rel M w cs t):K.Spec Tryz.prog F.kedgeref08_Waits [.agg cs.toArray,.int .i64 (i:Nat)] w fun r w'=>r=.int .i64 (fW t t.ins[i])∧Ext w w':=by
 obtain ⟨iv,ov,rfl,h1,h2,h3,h4⟩:=ht
 refine aF4 rfl ?_
 unfold sS
 refine oy ?_
 repeat' (first|refine zD rfl rfl (fun bp wp xp ap (rp:Row wp ⟨bp,0,none⟩ (aK t iv ov)) hp0=>?_)|(refine aR (d:=some 9) (E:=inR) (M:=M) rfl rfl (n:=i) (l:=t.ins) (SlR.ext h1 (by exact fx)) rfl hi (fun ad cs r4 he=>?_);obtain ⟨wv,rfl,hw,hp5,hp6⟩:=he)|refine zJ (t:=14) (p:=t.ins[i].q≥2147483648) rfl (fun h=>?_) (fun h=>?_)|refine zL (x:=.tmp 18) (p:=t.ver<2) rfl (fun h=>?_) (fun h=>?_)|refine dF (d:=some 20) rfl rfl (bQ7 hp6) ?_|refine aL (d:=some 21) (.int .i64 (t.ins[i].q%65536)) rfl (congrArg (fun n=>some (Value.int .i64 n)) (IntWalk.i64_in _ (by omega))) ?_|(first|refine go2 ?_|fail))
 ·exact aA rfl ⟨by rw [fW,if_neg (fun hh=>by omega)];rfl,by exact fx⟩
 ·exact aA rfl ⟨by rw [fW,if_neg (fun hh=>by omega)];rfl,by exact fx⟩
 ·exact aA rfl ⟨by rw [fW,if_pos ⟨by omega,by omega⟩];rfl,by exact fx⟩
theorem bAb {s:ByteArray} {wit:List ByteArray} (h:gU wit=none):cX s wit=none:=by unfold cX;rw [h];rfl
theorem bC7 {s:ByteArray} {wit:List ByteArray} {p:Nat × Nat} (h:gU wit=some p) (hp:(cO s).length≤p.1):cX s wit=none:=by
 unfold cX
 rw [h,Option.bind_some,List.getElem?_eq_none hp];rfl
theorem bId {s:ByteArray} {wit:List ByteArray} {p:Nat × Nat} (h:gU wit=some p) (hp:p.1<(cO s).length):cX s wit=if (cO s)[p.1].tag=0∨(cO s)[p.1].tag=p.2 then some (cO s)[p.1] else none:=by
 unfold cX
 rw [h,Option.bind_some,List.getElem?_eq_getElem hp];rfl
theorem bG7 (s:ByteArray):(cO s).length≤3:=by
 unfold cO
 split
 ·rename_i h
  simp only [Bool.and_eq_true] at h
  have:=h.1
  unfold jC at this
  simp only [Bool.and_eq_true,Bool.or_eq_true,decide_eq_true_eq] at this
  unfold lL xK
  rw [List.length_map,List.length_range];omega
 ·simp
attribute [local irreducible] sgV
set_option maxHeartbeats 2000000 in
theorem aF5 {M:List Nat} {cs:List Value} {t:Tx} (s:ByteArray) (hm:s.size≤1000000) (i:Nat) (hi:i<t.ins.length) (hs:t.ins.length≤1000) (hz:∀z∈t.ins[i].wit,z.size≤1000000) (w:World) (ht:txR.rel M w cs t):K.Spec Tryz.prog F.kedgeref08_Open [.string s,.agg cs.toArray,.int .i64 (i:Nat)] w fun r w'=>r=.int .i64 (hZ s t t.ins[i])∧Ext w w':=by
 have ht0:=ht
 obtain ⟨iv,ov,rfl,h1,h2,h3,h4⟩:=ht
 have none9:cX s t.ins[i].wit=none→hZ s t t.ins[i]=9:=fun e=>by unfold hZ;rw [e]
 have hfew:=bG7 s
 refine aGr rfl ?_
 unfold uX
 refine oy ?_
 repeat' (first|refine zD rfl rfl (fun bp wp xp ap (rp:Row wp ⟨bp,0,none⟩ (aK t iv ov)) hp0=>?_)|refine zG (d:=some 18) (E:=inR) (M:=M) (l:=t.ins) rfl (SlR.ext h1 (by exact fx)) ?_|(refine zC (d:=some 22) rfl (bMg s hm _) ?_;rintro v7 w2 ⟨hv7,hb7,x2⟩)|(refine aR (d:=some 27) (E:=inR) (M:=M) rfl rfl (n:=i) (l:=t.ins) (SlR.ext h1 (by exact fx)) rfl hi (fun ad cs r4 he=>?_);obtain ⟨wv,rfl,hw,hp5,hp6⟩:=he)|refine aL (d:=some 13) (.bool false) rfl (congrArg (fun b=>some (Value.bool b)) (dFa (by omega))) ?_|refine aL (d:=some 19) (.bool false) rfl (congrArg (fun b=>some (Value.bool b)) (dFa (by omega))) ?_|refine zL (x:=.tmp 20) rfl (fun h=>absurd h (by omega)) (fun _=>?_)|refine zz (x:=.tmp 20) rfl ?_|(first|refine go2 ?_|fail))
 refine zC (d:=some 30) rfl (bL7 _ (SlR.toE (F:=bB) (ag:=false) (SlR.ext hw (by exact fx))) hz) ?_
 rintro _ w5 ⟨rfl,x5⟩
 cases hsg:gU t.ins[i].wit with
 |none=>
  rw [show sgV t.ins[i].wit=.tuple #[.int .i64 (-1),.int .i64 0] by rw [show sgV t.ins[i].wit=(match gU t.ins[i].wit with|none=>.tuple #[.int .i64 (-1),.int .i64 0]|some p=>.tuple #[.int .i64 (p.1:Nat),.int .i64 (p.2:Nat)]) by unfold sgV;rfl,hsg],none9 (bAb hsg)]
  repeat' (first|refine go2 ?_|fail)
  exact aA rfl ⟨rfl,by exact fx⟩
 |some p=>
  rw [show sgV t.ins[i].wit=.tuple #[.int .i64 (p.1:Nat),.int .i64 (p.2:Nat)] by rw [show sgV t.ins[i].wit=(match gU t.ins[i].wit with|none=>.tuple #[.int .i64 (-1),.int .i64 0]|some p=>.tuple #[.int .i64 (p.1:Nat),.int .i64 (p.2:Nat)]) by unfold sgV;rfl,hsg]]
  by_cases hp:p.1<(cO s).length
  ·have hch:=bId hsg hp
   have hok:=aW8 (gMe hp)
   obtain ⟨b,hb⟩:∃b,b=(cO s)[p.1]:=⟨_,rfl⟩
   rw [←hb] at hch hok
   have g1:=hok.tag
   have g2:=hok.delay
   have g3:=hok.height
   have hwb:=vP (t:=t) hp6
   clear h2 hfew r4
   by_cases htag:b.tag=0∨b.tag=p.2
   ·rw [if_pos htag] at hch
    have e:hZ s t t.ins[i]=if fW t t.ins[i]<(b.delay:Int) then 10 else if b.height>0∧(t.lock<(b.height:Int)∨t.ins[i].q=4294967295) then 10 else 0:=by unfold hZ;rw [hch]
    repeat (first|refine bL (d:=some 38) rfl (SlE.ext (w:=w2) (by exact fx) hv7) ?_|(refine aT (d:=some 43) (E:=brE) rfl rfl (n:=p.1) (l:=cO s) (SlE.ext (w:=w2) (by exact fx) hv7) rfl hp (fun ad43 r43=>?_);rw [←hb] at r43)|refine zE (d':=10) (fun _=>rfl) rfl rfl rfl (fun b7 w7 x7 a7 (r7:Row w7 ⟨b7,0,none⟩ [.int .u16 (b.tag:Nat),.int .u16 (b.delay:Nat),.int .u32 (b.height:Nat)]) hb7=>?_)|refine aL (d:=some 34) (.bool false) rfl (congrArg (fun b=>some (Value.bool b)) (dFa (by omega))) ?_|refine aL (d:=some 39) (.bool false) rfl (congrArg (fun b=>some (Value.bool b)) (dFa (by omega))) ?_|refine zL (x:=.tmp 40) rfl (fun h=>absurd h (by omega)) (fun _=>?_)|(first|refine go2 ?_|fail))
    repeat' (first|refine aL (d:=some 51) (.int .i64 (b.tag:Nat)) rfl (congrArg (fun n=>some (Value.int .i64 n)) (IntWalk.i64_in _ (by omega))) ?_|refine bO (t:=48) (p:=((b.tag:Nat):Int)=0) rfl (fun ht1=>?_) (fun ht1=>?_)|refine zN (x:=.tmp 54) (p:=((b.tag:Nat):Int)=((p.2:Nat):Int)) rfl (fun ht2=>absurd ht2 (fun q=>by omega)) (fun ht2=>?_)|(refine zC (d:=some 57) rfl (aLj (M:=M) (t:=t) (cs:=aK t iv ov) i hi _ (R.ext ht0 (by exact fx))) ?_;rintro _ w9 ⟨rfl,x9⟩)|refine aL (d:=some 61) (.int .i64 (b.delay:Nat)) rfl (congrArg (fun n=>some (Value.int .i64 n)) (IntWalk.i64_in _ (by omega))) ?_|refine zL (x:=.tmp 62) (p:=fW t t.ins[i]<(b.delay:Int)) rfl (fun h5=>?_) (fun h5=>?_)|refine zJ (t:=66) (p:=((b.height:Nat):Int)>0) rfl (fun h6=>?_) (fun h6=>?_)|refine zJ (t:=72) (p:=t.lock<((b.height:Nat):Int)) rfl (fun h7=>?_) (fun h7=>?_)|(refine aR (d:=some 76) (E:=inR) (M:=M) rfl rfl (n:=i) (l:=t.ins) (SlR.ext h1 (by exact fx)) rfl hi (fun ad cs r4 he=>?_);obtain ⟨wv2,rfl, -, -, -⟩:=he)|refine zL (x:=.tmp 81) (p:=t.ins[i].q=4294967295) rfl (fun h8=>?_) (fun h8=>?_)|(first|refine go2 ?_|fail))
    all_goals
     rw [e]
     first
      |(rw [if_pos (by assumption)];exact aA rfl ⟨rfl,by exact fx⟩)
      |(rw [if_neg (by assumption),if_pos ⟨by omega,.inl (by assumption)⟩];exact aA rfl ⟨rfl,by exact fx⟩)
      |(rw [if_neg (by assumption),if_pos ⟨by omega,.inr (by assumption)⟩];exact aA rfl ⟨rfl,by exact fx⟩)
      |(rw [if_neg (by assumption),if_neg (fun hh=>by omega)];exact aA rfl ⟨rfl,by exact fx⟩)
   ·rw [if_neg htag] at hch
    rw [none9 hch]
    repeat (first|refine bL (d:=some 38) rfl (SlE.ext (w:=w2) (by exact fx) hv7) ?_|(refine aT (d:=some 43) (E:=brE) rfl rfl (n:=p.1) (l:=cO s) (SlE.ext (w:=w2) (by exact fx) hv7) rfl hp (fun ad43 r43=>?_);rw [←hb] at r43)|refine zE (d':=10) (fun _=>rfl) rfl rfl rfl (fun b7 w7 x7 a7 (r7:Row w7 ⟨b7,0,none⟩ [.int .u16 (b.tag:Nat),.int .u16 (b.delay:Nat),.int .u32 (b.height:Nat)]) hb7=>?_)|refine aL (d:=some 34) (.bool false) rfl (congrArg (fun b=>some (Value.bool b)) (dFa (by omega))) ?_|refine aL (d:=some 39) (.bool false) rfl (congrArg (fun b=>some (Value.bool b)) (dFa (by omega))) ?_|refine zL (x:=.tmp 40) rfl (fun h=>absurd h (by omega)) (fun _=>?_)|refine aL (d:=some 51) (.int .i64 (b.tag:Nat)) rfl (congrArg (fun n=>some (Value.int .i64 n)) (IntWalk.i64_in _ (by omega))) ?_|refine bO (t:=48) (p:=((b.tag:Nat):Int)=0) rfl (fun ht1=>?_) (fun ht1=>absurd ht1 (fun q=>by omega))|refine zN (x:=.tmp 54) (p:=((b.tag:Nat):Int)=((p.2:Nat):Int)) rfl (fun ht2=>?_) (fun ht2=>absurd ht2 (fun q=>by omega))|(first|refine go2 ?_|fail))
    exact aA rfl ⟨rfl,by exact fx⟩
  ·rw [none9 (bC7 hsg (by omega))]
   repeat' (first|refine bL (d:=some 38) rfl (SlE.ext (w:=w2) (by exact fx) hv7) ?_|refine zL (x:=.tmp 40) rfl (fun _=>?_) (fun h=>absurd (by omega) h)|refine zy (x:=.tmp 40) rfl ?_|(first|refine go2 ?_|fail)|(first|refine zJ rfl (fun hh=>absurd hh (by omega)) (fun hh=>?_)|refine zJ rfl (fun hh=>?_) (fun hh=>absurd hh (by omega))|refine zJ rfl (fun hh=>?_) (fun hh=>?_)|refine bO rfl (fun hh=>absurd hh (by omega)) (fun hh=>?_)|refine bO rfl (fun hh=>?_) (fun hh=>absurd hh (by omega))|refine bO rfl (fun hh=>?_) (fun hh=>?_)))
   exact aA rfl ⟨rfl,by exact fx⟩
set_option maxHeartbeats 2000000 in
theorem aQh {M:List Nat} {cs:List Value} {t:Tx} (i:Nat) (hi:i<t.ins.length) (hs:t.ins.length≤1000) (c bl:Int) (w:World) (ht:txR.rel M w cs t):K.Spec Tryz.prog F.kedgeref08_Ripe [.agg cs.toArray,.int .i64 (i:Nat),.int .i64 c,.int .i64 bl] w fun r w'=>r=.bool (iD t t.ins[i] c bl)∧Ext w w':=by
 have ht0:=ht
 obtain ⟨iv,ov,rfl,h1,h2,h3,h4⟩:=ht
 have hq:fN t.ins[i].q:=by
  obtain ⟨css,hsl,hall,_⟩:=h1
  obtain ⟨_,_,_,_,hq⟩:=All2.get hall i (by rw [hall.length];exact hi) hi
  exact hq
 have hwb:=vP (t:=t) hq
 have h42:=h4.2
 have h41:=h4.1
 have fail1:¬(0≤c∧c≤1000000∧0≤bl∧bl≤1000000)→iD t t.ins[i] c bl=false:=fun e=>by
  unfold iD kI
  by_cases hc:0≤c∧c≤1000000
  ·rw [dFa (show ¬(0≤bl∧bl≤1000000) by omega)];simp
  ·rw [dFa hc];rfl
 have fail3:¬c+fW t t.ins[i]≤bl→iD t t.ins[i] c bl=false:=fun e=>by unfold iD;rw [dFa e];simp
 have good:0≤c∧c≤1000000∧0≤bl∧bl≤1000000→c+fW t t.ins[i]≤bl→iD t t.ins[i] c bl=(decide (t.lock<bl)||t.ins.all fun y=>decide (y.q=4294967295)):=fun e1 e3=>by
  unfold iD kI
  rw [dTr (show 0≤c∧c≤1000000 by omega),dTr (show 0≤bl∧bl≤1000000 by omega),dTr e3];rfl
 refine aHk rfl ?_
 unfold vR
 refine oy ?_
 by_cases hr:0≤c∧c≤1000000∧0≤bl∧bl≤1000000
 ·repeat' (first|refine zD rfl rfl (fun bp wp xp ap (rp:Row wp ⟨bp,0,none⟩ (aK t iv ov)) hp0=>?_)|refine zG (d:=some 17) (E:=inR) (M:=M) (l:=t.ins) rfl (SlR.ext h1 (by exact fx)) ?_|refine zL (x:=.tmp 35) rfl (fun h=>absurd h (by omega)) (fun _=>?_)|refine zz (x:=.tmp 35) rfl ?_|(refine zC (d:=some 38) rfl (aLj (M:=M) (t:=t) (cs:=aK t iv ov) i hi _ (R.ext ht0 (by exact fx))) ?_;rintro _ w5 ⟨rfl,x5⟩)|refine zL (x:=.tmp 43) (p:=bl<c+fW t t.ins[i]) rfl (fun h7=>?_) (fun h7=>?_)|refine aL (d:=some 46) (.int .i64 t.lock) rfl (congrArg (fun n=>some (Value.int .i64 n)) (IntWalk.i64_in _ (by omega))) ?_|refine zL (x:=.tmp 48) (p:=t.lock<bl) rfl (fun h8=>?_) (fun h8=>?_)|(refine aJ (fun (k:Nat) w'=>Ext w5 w'∧k≤t.ins.length∧∀j,j<k→∀hj:j<t.ins.length,t.ins[j].q=4294967295) (fun k=> [(4,.pointer (some ⟨bp,0,none⟩)),(10,.int .i64 (k:Nat))]) (fun k=>t.ins.length - k) 0 ⟨rfl,rfl,trivial⟩ ⟨Ext.refl _,by simp,fun j hj=>absurd hj (by simp)⟩ ?_;rintro k ρ w6 ⟨x6,hk,hall⟩)|refine zG (d:=some 52) (E:=inR) (M:=M) (l:=t.ins) rfl (SlR.ext h1 (by exact fx)) ?_|refine zL (x:=.tmp 53) (p:=((k:Nat):Int)<((t.ins.length:Nat):Int)) rfl (fun h9=>?_) (fun h9=>?_)|(first|refine go2 ?_|fail)|(first|refine zJ rfl (fun hh=>absurd hh (by omega)) (fun hh=>?_)|refine zJ rfl (fun hh=>?_) (fun hh=>absurd hh (by omega))|refine zJ rfl (fun hh=>?_) (fun hh=>?_)|refine bO rfl (fun hh=>absurd hh (by omega)) (fun hh=>?_)|refine bO rfl (fun hh=>?_) (fun hh=>absurd hh (by omega))|refine bO rfl (fun hh=>?_) (fun hh=>?_)))
  ·rw [fail3 (by omega)];exact aA rfl ⟨rfl,by exact fx⟩
  ·rw [good hr (by omega),dTr h8];exact aA rfl ⟨rfl,by exact fx⟩
  ·have hkl:k<t.ins.length:=by omega
   repeat' (first|(refine aR (d:=some 59) (E:=inR) (M:=M) rfl rfl (n:=k) (l:=t.ins) (SlR.ext h1 (by exact fx)) rfl hkl (fun ad cs r4 he=>?_);obtain ⟨wv,rfl, -, -, -⟩:=he)|refine zN (x:=.tmp 62) (p:=t.ins[k].q=4294967295) rfl (fun h6=>?_) (fun h6=>?_)|(first|refine go2 ?_|fail))
   ·have e:(t.ins.all fun y=>decide (y.q=4294967295))=false:=by
     rw [List.all_eq_false]
     exact ⟨_,gMe hkl,by simpa using h6⟩
    rw [good hr (by omega),dFa h8,e];exact aA rfl ⟨rfl,by exact fx⟩
   ·refine ⟨k+1,⟨rfl,rfl,trivial⟩,⟨by exact fx,by omega,fun j hj hjl=>?_⟩,by omega⟩
    rcases Nat.lt_or_ge j k with h|h
    ·exact hall j h hjl
    ·have:j=k:=by omega
     subst this;exact h6
  ·have e:(t.ins.all fun y=>decide (y.q=4294967295))=true:=by
    rw [List.all_eq_true]
    intro y hy
    obtain ⟨j,hj,rfl⟩:=List.getElem_of_mem hy
    exact dTr (hall j (by omega) hj)
   rw [good hr (by omega),e,Bool.or_true]
   repeat' (first|refine go2 ?_|fail)
   exact aA rfl ⟨rfl,by exact fx⟩
 ·rw [fail1 hr]
  repeat' (first|refine zD rfl rfl (fun bp wp xp ap (rp:Row wp ⟨bp,0,none⟩ (aK t iv ov)) hp0=>?_)|refine zG (d:=some 17) (E:=inR) (M:=M) (l:=t.ins) rfl (SlR.ext h1 (by exact fx)) ?_|refine zL (x:=.tmp 35) rfl (fun _=>?_) (fun h=>absurd (by omega) h)|refine zy (x:=.tmp 35) rfl ?_|(first|refine go2 ?_|fail)|(first|refine zJ rfl (fun hh=>absurd hh (by omega)) (fun hh=>?_)|refine zJ rfl (fun hh=>?_) (fun hh=>absurd hh (by omega))|refine zJ rfl (fun hh=>?_) (fun hh=>?_)|refine bO rfl (fun hh=>absurd hh (by omega)) (fun hh=>?_)|refine bO rfl (fun hh=>?_) (fun hh=>absurd hh (by omega))|refine bO rfl (fun hh=>?_) (fun hh=>?_)))
  all_goals exact aA rfl ⟨rfl,by exact fx⟩
end
end Go.Proofs.YteceapipdhnhdaaGreatDoor
