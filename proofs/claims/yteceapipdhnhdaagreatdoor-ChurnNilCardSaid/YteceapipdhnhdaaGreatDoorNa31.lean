/- Contracts: may an input open a lock, and when? Contracts: ma -/
import Derived.Test.YteceapipdhnhdaaGreatDoorNa29
set_option linter.unusedVariables false
set_option linter.unusedSimpArgs false
namespace Go.Proofs.YteceapipdhnhdaaGreatDoor
section
open Go Go.K
attribute [local irreducible] aH aM aY KOp.wp K.Spec u32 leS vnS str aP cA bS cO gU lL
theorem aW8 {s:ByteArray} {b:Br} (h:b∈cO s):BrOk b:=by
 unfold cO at h
 split at h
 ·unfold lL at h
  obtain ⟨j,_,rfl⟩:=List.mem_map.1 h
  exact bEy s j
 ·simp at h
set_option maxHeartbeats 1000000 in
theorem aW5 {v:Value} {l:List ByteArray} (s:ByteArray) (hm:s.size≤1000000) (w:World) (hv:SlE bB w v l) (hz:∀z∈l,z.size≤1000000):K.Spec Tryz.prog F.lock_chosen [.string s,v] w fun r w'=>
  ∃b,r=.tuple #[.agg (brE.f b).toArray,.bool (cX s l).isSome]∧BrOk b∧(∀c,cX s l=some c→b=c)∧Ext w w':=by
 have hz0:BrOk ⟨0,0,0⟩:=⟨by decide,by decide,by decide⟩
 refine aQ3 rfl ?_
 unfold aE6
 refine oy ?_
 repeat' (first|refine zH (d:=some 4) (fun b4 w4 x4 a4 hb4=>?_)|(refine zC (d:=some 13) rfl (bGh s hm _) ?_;rintro _ w5 ⟨u,e,rfl,hl,he,hbu,x5⟩;have l4:=a4.lt)|(refine zC (d:=some 18) rfl (aYt _ (SlE.ext (w:=w) (by exact fx) hv) hz) ?_;rintro _ w6 ⟨rfl,x6⟩;have x06:Ext w w6:=(by exact fx);replace hl:=hl.ext x6;have a6:At w6 b4 _:=a4.ext (x5.trans x6);clear x4 x5 x6 a4)|(first|refine go2 ?_|fail))
 cases hsg:gU l with
 |none=>
  have e1:xP l=.tuple #[.int .i64 0,.int .u16 0,.int .i64 4]:=by unfold xP;rw [hsg]
  have e2:cX s l=none:=by unfold cX;rw [hsg];rfl
  rw [e1,e2]
  by_cases h0:e=0
  all_goals
   repeat' (first|refine aL (d:=some 23) (.bool false) rfl (by show some (Value.bool (!decide (e=0)))=_;rw [dTr h0];rfl) ?_|refine aL (d:=some 23) (.bool true) rfl (by show some (Value.bool (!decide (e=0)))=_;rw [dFa h0];rfl) ?_|refine aZ (d:=some 34) (cs:=brE.f ⟨0,0,0⟩) rfl ?_|refine aW (w0:=w) (vs:=brE.f ⟨0,0,0⟩) (by exact fx) hb4 (by exact atx) rfl rfl rfl rfl rfl (fun w9 x9 c9 a9 r9=>?_)|(first|refine go2 ?_|fail))
   exact aA (iY (bA r9 rfl rfl) bI) ⟨⟨0,0,0⟩,rfl,hz0,(fun c h=>by cases h),x9⟩
 |some p=>
  obtain ⟨a,t⟩:=p
  have e1:xP l=.tuple #[.int .i64 (a:Nat),.int .u16 (t:Nat),.int .i64 0]:=by unfold xP;rw [hsg]
  have e2:cX s l=((cO s)[a]?).bind fun b=>if b.tag=0∨b.tag=t then some b else none:=by unfold cX;rw [hsg];rfl
  rw [e1]
  by_cases h0:e=0
  ·by_cases ha:a<(cO s).length
   ·have hok:=aW8 (gMe ha)
    have g1:=hok.tag
    have g2:t<65536:=by
     unfold gU at hsg
     split at hsg
     ·have:=gR (l.headD default) 2 1
      simp only [Option.some.injEq,Prod.mk.injEq] at hsg
      omega
     ·cases hsg
    rw [List.getElem?_eq_getElem ha] at e2
    have e2:cX s l=if (cO s)[a].tag=0∨(cO s)[a].tag=t then some (cO s)[a] else none:=e2
    generalize hB:(cO s)[a]=B at e2 hok g1
    repeat' (first|refine aL (d:=some 23) (.bool false) rfl (by show some (Value.bool (!decide (e=0)))=_;rw [dTr h0];rfl) ?_|refine bL (d:=some 31) (E:=brE) (l:=cO s) rfl hl ?_|refine aL (d:=some 32) (.bool false) rfl (congrArg (fun b=>some (Value.bool b)) (dFa (by omega))) ?_|(refine zg (fun w7 x7=>?_);replace hl:=hl.ext x7)|(refine aT (d:=some 37) (E:=brE) rfl rfl (n:=a) (l:=cO s) hl rfl ha (fun ad r4=>?_);rw [hB] at r4;have r4:Row _ ad [.int .u16 (B.tag:Nat),.int .u16 (B.delay:Nat),.int .u32 (B.height:Nat)]:=r4)|(refine aT (d:=some 41) (E:=brE) rfl rfl (n:=a) (l:=cO s) hl rfl ha (fun ad r5=>?_);rw [hB] at r5;have r5:Row _ ad [.int .u16 (B.tag:Nat),.int .u16 (B.delay:Nat),.int .u32 (B.height:Nat)]:=r5)|(refine bFi (d:=some 48) (E:=brE) rfl rfl (n:=a) (l:=cO s) hl rfl ha (fun ad r6 hba=>?_);rw [hB] at r6;have r6:Row _ ad [.int .u16 (B.tag:Nat),.int .u16 (B.delay:Nat),.int .u32 (B.height:Nat)]:=r6)|refine zJ (p:=((B.tag:Nat):Int)=0) rfl (fun h=>?_) (fun h=>?_)|refine fG ?_ ?_|(refine aW (w0:=w) (vs:=brE.f B) (by exact fx) hb4 (by exact atx) rfl rfl rfl rfl rfl (fun w9 x9 c9 a9 r9=>?_);try (replace r6:=Row.chg c9 r6 (by have:=hbu _ hba;simp;omega)))|(first|refine go2 ?_|fail))
    all_goals
     have hcc:cX s l=some B∨cX s l=none∧¬(((B.tag:Nat):Int)=0)∧¬(((B.tag:Nat):Int)=(t:Nat)):=by
      rw [e2]
      by_cases q:B.tag=0∨B.tag=t
      ·exact .inl (if_pos q)
      ·exact .inr ⟨if_neg q,by omega,by omega⟩
     have hval:(cX s l).isSome=(decide (((B.tag:Nat):Int)=0)||decide (((B.tag:Nat):Int)=(t:Nat))):=by
      rcases hcc with q|⟨q,q1,q2⟩
      ·rw [q]
       rw [e2] at q
       have:B.tag=0∨B.tag=t:=by
        by_cases q3:B.tag=0∨B.tag=t
        ·exact q3
        ·rw [if_neg q3] at q;cases q
       rcases this with q4|q4
       ·rw [dTr (by omega)];rfl
       ·rw [dTr (p:=((B.tag:Nat):Int)=(t:Nat)) (by omega),Bool.or_true];rfl
      ·rw [q,dFa q1,dFa q2];rfl
     rw [hval]
     refine aA (iY (bA r9 rfl rfl) bI) ⟨B,?_,hok,fun c hc=>?_,x9⟩
     ·first
       |(rw [dTr (by assumption:((B.tag:Nat):Int)=0)];rfl)
       |(rw [dFa (by assumption:¬((B.tag:Nat):Int)=0)];rfl)
     ·rcases hcc with q|⟨q,_⟩
      ·rw [q] at hc;injection hc
      ·rw [q] at hc;cases hc
   ·have e2:cX s l=none:=by rw [e2,List.getElem?_eq_none (by omega)];rfl
    rw [e2]
    repeat' (first|refine aL (d:=some 23) (.bool false) rfl (by show some (Value.bool (!decide (e=0)))=_;rw [dTr h0];rfl) ?_|refine bL (d:=some 31) (E:=brE) (l:=cO s) rfl hl ?_|refine aL (d:=some 32) (.bool true) rfl (congrArg (fun b=>some (Value.bool b)) (dTr (by omega))) ?_|refine aZ (d:=some 34) (cs:=brE.f ⟨0,0,0⟩) rfl ?_|refine aW (w0:=w) (vs:=brE.f ⟨0,0,0⟩) (by exact fx) hb4 (by exact atx) rfl rfl rfl rfl rfl (fun w9 x9 c9 a9 r9=>?_)|(first|refine go2 ?_|fail))
    exact aA (iY (bA r9 rfl rfl) bI) ⟨⟨0,0,0⟩,rfl,hz0,(fun c h=>by cases h),x9⟩
  ·have e2:cX s l=none:=by rw [e2,he h0];rfl
   rw [e2]
   repeat' (first|refine aL (d:=some 23) (.bool true) rfl (by show some (Value.bool (!decide (e=0)))=_;rw [dFa h0];rfl) ?_|refine aZ (d:=some 34) (cs:=brE.f ⟨0,0,0⟩) rfl ?_|refine aW (w0:=w) (vs:=brE.f ⟨0,0,0⟩) (by exact fx) hb4 (by exact atx) rfl rfl rfl rfl rfl (fun w9 x9 c9 a9 r9=>?_)|(first|refine go2 ?_|fail))
   exact aA (iY (bA r9 rfl rfl) bI) ⟨⟨0,0,0⟩,rfl,hz0,(fun c h=>by cases h),x9⟩
end
section
open Go Go.K
attribute [local irreducible] aH aM aY KOp.wp K.Spec u32 leS vnS str aP cA bS cO gU lL cX
theorem bRt {q:Int} (h:fN q):bM .and (.int .u32 q) (.int .u32 65535)=some (.int .u32 (q%65536)):=by
 obtain ⟨n,rfl⟩:∃n:Nat,q=(n:Nat):=⟨q.toNat,by have:=h.1;omega⟩
 have h2:n<4294967296:=by have:=h.2;omega
 simp only [bM,dK,Bool.false_eq_true,if_false,if_true,dG,IntKind.bits]
 have e:(BitVec.ofInt 32 ((n:Nat):Int)&&& BitVec.ofInt 32 65535).toNat=n%65536:=by
  rw [BitVec.toNat_and,BitVec.toNat_ofInt,BitVec.toNat_ofInt]
  rw [show (((n:Nat):Int)%((2^32:Nat):Int)).toNat=n by omega,show ((65535:Int)%((2^32:Nat):Int)).toNat=2^16 - 1 by decide]
  exact Nat.and_two_pow_sub_one_eq_mod n 16
 exact (congrArg (fun x:Nat=>some (Value.int .u32 (IntKind.u32.wrap (x:Int)))) e).trans (congrArg (fun x=>some (Value.int .u32 x)) (by rw [aQn (by omega)];rfl))
theorem vP {t:Tx} {x:TIn} (h:fN x.q):0≤fW t x∧fW t x<65536:=by
 unfold fW
 split<;>omega
theorem aO9 {M:List Nat} {cs:List Value} {t:Tx} (i:Nat) (hi:i<t.ins.length) (hs:t.ins.length≤1000) (w:World) (ht:txR.rel M w cs t):K.Spec Tryz.prog F.lock_waits [.agg cs.toArray,.int .i64 (i:Nat)] w fun r w'=>r=.int .i64 (fW t t.ins[i])∧Ext w w':=by
 obtain ⟨iv,ov,rfl,h1,h2,h3,h4⟩:=ht
 refine aUd rfl ?_
 unfold aJe
 refine oy ?_
 repeat' (first|refine zD rfl rfl (fun bp wp xp ap (rp:Row wp ⟨bp,0,none⟩ (aK t iv ov)) hp0=>?_)|(refine aR (d:=some 9) (E:=inR) (M:=M) rfl rfl (n:=i) (l:=t.ins) (SlR.ext h1 (by exact fx)) rfl hi (fun ad cs r4 he=>?_);obtain ⟨wv,rfl,hw,hp5,hp6⟩:=he)|refine zJ (p:=t.ins[i].q<2147483648) rfl (fun h=>?_) (fun h=>?_)|refine zL (p:=t.ver≥2) rfl (fun h=>?_) (fun h=>?_)|refine dF (d:=some 20) rfl rfl (bRt hp6) ?_|refine aL (d:=some 21) (.int .i64 (t.ins[i].q%65536)) rfl (congrArg (fun n=>some (Value.int .i64 n)) (IntWalk.i64_in _ (by omega))) ?_|(first|refine go2 ?_|fail))
 ·exact aA rfl ⟨by rw [fW,if_pos ⟨‹t.ins[i].q<2147483648›,‹t.ver≥2›⟩];rfl,by exact fx⟩
 ·exact aA rfl ⟨by rw [fW,if_neg (fun hh=>‹¬t.ver≥2› hh.2)];rfl,by exact fx⟩
 ·exact aA rfl ⟨by rw [fW,if_neg (fun hh=>‹¬t.ins[i].q<2147483648› hh.1)];rfl,by exact fx⟩
theorem aG2 {M:List Nat} {cs:List Value} {t:Tx} (i:Nat) (hi:i<t.ins.length) (w:World) (ht:txR.rel M w cs t):K.Spec Tryz.prog F.lock_is [.agg cs.toArray,.int .i64 (i:Nat)] w fun r w'=>r=.bool true∧Ext w w':=by
 obtain ⟨iv,ov,rfl,h1,h2,h3,h4⟩:=ht
 refine bH7 rfl ?_
 unfold aS8
 refine oy ?_
 repeat' (first|refine zD rfl rfl (fun bp wp xp ap (rp:Row wp ⟨bp,0,none⟩ (aK t iv ov)) hp0=>?_)|refine zG (d:=some 11) (E:=inR) (M:=M) (l:=t.ins) rfl (SlR.ext h1 (by exact fx)) ?_|refine aL (d:=some 6) (.bool true) rfl (congrArg (fun b=>some (Value.bool b)) (dTr (by omega))) ?_|refine aL (d:=some 12) (.bool true) rfl (congrArg (fun b=>some (Value.bool b)) (dTr (by omega))) ?_|(first|refine go2 ?_|fail))
 exact aA rfl ⟨rfl,by exact fx⟩
set_option maxHeartbeats 2000000 in
theorem bFu {M:List Nat} {cs:List Value} {t:Tx} (s:ByteArray) (hm:s.size≤1000000) (i:Nat) (hi:i<t.ins.length) (hs:t.ins.length≤1000) (hz:∀z∈t.ins[i].wit,z.size≤1000000) (w:World) (ht:txR.rel M w cs t):K.Spec Tryz.prog F.lock_Open [.string s,.agg cs.toArray,.int .i64 (i:Nat)] w fun r w'=>r=.int .i64 (hZ s t t.ins[i])∧Ext w w':=by
 have ht0:=ht
 obtain ⟨iv,ov,rfl,h1,h2,h3,h4⟩:=ht
 refine aWu rfl ?_
 unfold aLk
 refine oy ?_
 repeat (first|refine zD rfl rfl (fun bp wp xp ap (rp:Row wp ⟨bp,0,none⟩ (aK t iv ov)) hp0=>?_)|(refine zC (d:=some 11) rfl (aG2 (M:=M) (t:=t) (cs:=aK t iv ov) i hi _ (R.ext ht0 (by exact fx))) ?_;rintro _ w2 ⟨rfl,x2⟩)|(refine aR (d:=some 18) (E:=inR) (M:=M) rfl rfl (n:=i) (l:=t.ins) (SlR.ext h1 (by exact fx)) rfl hi (fun ad cs r4 he=>?_);obtain ⟨wv,rfl,hw,hp5,hp6⟩:=he)|(refine zC (d:=some 21) rfl (aW5 s hm _ (SlR.toE (F:=bB) (ag:=false) (SlR.ext hw (by exact fx))) hz) ?_;rintro _ w5 ⟨b,rfl,hb,hcb,x5⟩)|refine zE (d':=7) (fun _=>rfl) rfl rfl rfl (fun b7 w7 x7 a7 (r7:Row w7 ⟨b7,0,none⟩ [.int .u16 (b.tag:Nat),.int .u16 (b.delay:Nat),.int .u32 (b.height:Nat)]) hb7=>?_)|(first|refine go2 ?_|fail))
 have hwb:=vP (t:=t) hp6
 have hd:=hb.delay
 have hh9:=hb.height
 have xw7:Unit→Ext w w7:=fun _=>by exact fx
 have h17:=h1.ext (xw7 ())
 have ht7:=R.ext ht0 (xw7 ())
 have rp7:Row w7 ⟨bp,0,none⟩ (aK t iv ov):=rp.ext (by exact fx)
 clear xp x2 x5 x7 hw h1 rp r4
 cases hc:cX s t.ins[i].wit with
 |none=>
  have e:hZ s t t.ins[i]=9:=by unfold hZ;rw [hc]
  rw [e]
  repeat' (first|(first|refine go2 ?_|fail))
  exact aA rfl ⟨rfl,xw7 ()⟩
 |some c=>
  obtain rfl:=hcb c hc
  have e:hZ s t t.ins[i]=if fW t t.ins[i]<(b.delay:Int) then 10 else if b.height>0∧(t.lock<(b.height:Int)∨t.ins[i].q=4294967295) then 10 else 0:=by unfold hZ;rw [hc]
  repeat' (first|refine aGs (x:=.tmp 24) rfl ?_|refine zg (fun w8 x8=>?_)|refine fG ?_ ?_|(refine zC (d:=some 30) rfl (aO9 (M:=M) (t:=t) (cs:=aK t iv ov) i hi hs _ (R.ext ht7 (by exact fx))) ?_;rintro _ w9 ⟨rfl,x9⟩)|refine aL (d:=some 33) (.int .i64 (b.delay:Nat)) rfl (congrArg (fun n=>some (Value.int .i64 n)) (IntWalk.i64_in _ (by omega))) ?_|refine zL (p:=fW t t.ins[i]<(b.delay:Int)) rfl (fun h=>?_) (fun h=>?_)|refine zJ (t:=39) (p:=((b.height:Nat):Int)>0) rfl (fun h=>?_) (fun h=>?_)|refine zJ (t:=45) (p:=t.lock<((b.height:Nat):Int)) rfl (fun h=>?_) (fun h=>?_)|(refine aR (d:=some 49) (E:=inR) (M:=M) rfl rfl (n:=i) (l:=t.ins) (SlR.ext h17 (by exact fx)) rfl hi (fun ad cs r4 he=>?_);obtain ⟨wv,rfl, -, -, -⟩:=he)|refine zL (p:=t.ins[i].q=4294967295) rfl (fun h=>?_) (fun h=>?_)|(first|refine go2 ?_|fail))
  all_goals
   rw [e]
   first
    |(rw [if_pos (by assumption)];exact aA rfl ⟨rfl,Ext.trans (xw7 ()) (by exact fx)⟩)
    |(rw [if_neg (by assumption),if_pos ⟨by omega,.inl (by assumption)⟩];exact aA rfl ⟨rfl,Ext.trans (xw7 ()) (by exact fx)⟩)
    |(rw [if_neg (by assumption),if_pos ⟨by omega,.inr (by assumption)⟩];exact aA rfl ⟨rfl,Ext.trans (xw7 ()) (by exact fx)⟩)
    |(rw [if_neg (by assumption),if_neg (fun hh=>by omega)];exact aA rfl ⟨rfl,Ext.trans (xw7 ()) (by exact fx)⟩)
    |trace_state
theorem qS (n:Int) (w:World):K.Spec Tryz.prog F.lock_height [.int .i64 n] w fun r w'=>r=.bool (kI n)∧Ext w w':=by
 refine aRj rfl ?_
 unfold aE2
 refine oy ?_
 repeat' (first|refine zJ (p:=n≥0) rfl (fun h=>?_) (fun h=>?_)|(first|refine go2 ?_|fail))
 ·exact aA rfl ⟨congrArg Value.bool (by unfold kI;simp;omega),Ext.refl _⟩
 ·exact aA rfl ⟨congrArg Value.bool (by unfold kI;symm;exact dFa (by omega)),Ext.refl _⟩
theorem bJq:bW Tryz.prog F.lock_Ripe_1=true:=by kernel_rfl
theorem bB6 (x:TIn) (wv:Value) (w:World) (hw:wv.oneCell'=true):K.Spec Tryz.prog F.lock_Ripe_1 [.agg (fS x wv).toArray] w fun r w'=>r=.bool (!decide (x.q=4294967295))∧Ext w w':=by
 refine aQt rfl ?_
 unfold aEp
 refine oy ?_
 repeat' (first|(first|refine go2 ?_|fail)|refine zD rfl rfl (fun bp wp xp ap (rp:Row wp ⟨bp,0,none⟩ (fS x wv)) hp0=>?_))
 exact aA rfl ⟨rfl,by exact fx⟩
set_option maxHeartbeats 2000000 in
theorem bF5 {M:List Nat} {cs:List Value} {t:Tx} (i:Nat) (hi:i<t.ins.length) (hs:t.ins.length≤1000) (c bl:Int) (w:World) (ht:txR.rel M w cs t):K.Spec Tryz.prog F.lock_Ripe [.agg cs.toArray,.int .i64 (i:Nat),.int .i64 c,.int .i64 bl] w fun r w'=>r=.bool (iD t t.ins[i] c bl)∧Ext w w':=by
 have ht0:=ht
 obtain ⟨iv,ov,rfl,h1,h2,h3,h4⟩:=ht
 have hq:fN t.ins[i].q:=by
  obtain ⟨css,hsl,hall,_⟩:=h1
  obtain ⟨_,_,_,_,hq⟩:=All2.get hall i (by rw [hall.length];exact hi) hi
  exact hq
 have hwb:=vP (t:=t) hq
 have h42:=h4.2
 have h41:=h4.1
 have tl:∀w1,Ext w w1→qQ F.lock_Ripe_1 [] inR (fun cs=>.agg cs.toArray) M w1 t.ins (fun x=>!decide (x.q=4294967295)):=fun w1 x1 y hy w' cs x2 hc=>by
  obtain ⟨wv,rfl,hw,_⟩:=hc
  exact bB6 y wv w' hw.one
 have hany:(!t.ins.any fun x=>!decide (x.q=4294967295))=t.ins.all fun x=>decide (x.q=4294967295):=by
  rw [List.all_eq_not_any_not]
 have fail1:kI c=false→iD t t.ins[i] c bl=false:=fun e=>by unfold iD;rw [e];rfl
 have fail2:kI bl=false→iD t t.ins[i] c bl=false:=fun e=>by unfold iD;rw [e];simp
 have fail3:¬c+fW t t.ins[i]≤bl→iD t t.ins[i] c bl=false:=fun e=>by unfold iD;rw [dFa e];simp
 have good:kI c=true→kI bl=true→c+fW t t.ins[i]≤bl→iD t t.ins[i] c bl=(decide (t.lock<bl)||t.ins.all fun y=>decide (y.q=4294967295)):=fun e1 e2 e3=>by unfold iD;rw [e1,e2,dTr e3];rfl
 cases hc:kI c with
 |false=>
  rw [fail1 hc]
  refine aCa rfl ?_
  unfold vI
  refine oy ?_
  repeat' (first|refine zD rfl rfl (fun bp wp xp ap (rp:Row wp ⟨bp,0,none⟩ (aK t iv ov)) hp0=>?_)|(refine zC (d:=some 11) rfl (aG2 (M:=M) (t:=t) (cs:=aK t iv ov) i hi _ (R.ext ht0 (by exact fx))) ?_;rintro _ w2 ⟨rfl,x2⟩)|(refine zC (d:=some 15) rfl (qS c _) ?_;rintro _ w3 ⟨rfl,x3⟩;rw [hc])|(first|refine go2 ?_|fail))
  exact aA rfl ⟨rfl,by exact fx⟩
 |true=>
  have hc2:0≤c∧c≤1000000:=of_decide_eq_true hc
  cases hh:kI bl with
  |false=>
   rw [fail2 hh]
   refine aCa rfl ?_
   unfold vI
   refine oy ?_
   repeat' (first|refine zD rfl rfl (fun bp wp xp ap (rp:Row wp ⟨bp,0,none⟩ (aK t iv ov)) hp0=>?_)|(refine zC (d:=some 11) rfl (aG2 (M:=M) (t:=t) (cs:=aK t iv ov) i hi _ (R.ext ht0 (by exact fx))) ?_;rintro _ w2 ⟨rfl,x2⟩)|(refine zC (d:=some 15) rfl (qS c _) ?_;rintro _ w3 ⟨rfl,x3⟩;rw [hc])|(refine zC (d:=some 20) rfl (qS bl _) ?_;rintro _ w4 ⟨rfl,x4⟩;rw [hh])|(first|refine go2 ?_|fail))
   exact aA rfl ⟨rfl,by exact fx⟩
  |true=>
   have hh2:0≤bl∧bl≤1000000:=of_decide_eq_true hh
   refine aCa rfl ?_
   unfold vI
   refine oy ?_
   repeat' (first|refine zD rfl rfl (fun bp wp xp ap (rp:Row wp ⟨bp,0,none⟩ (aK t iv ov)) hp0=>?_)|(refine zC (d:=some 11) rfl (aG2 (M:=M) (t:=t) (cs:=aK t iv ov) i hi _ (R.ext ht0 (by exact fx))) ?_;rintro _ w2 ⟨rfl,x2⟩)|(refine zC (d:=some 15) rfl (qS c _) ?_;rintro _ w3 ⟨rfl,x3⟩;rw [hc])|(refine zC (d:=some 20) rfl (qS bl _) ?_;rintro _ w4 ⟨rfl,x4⟩;rw [hh])|(refine zC (d:=some 28) rfl (aO9 (M:=M) (t:=t) (cs:=aK t iv ov) i hi hs _ (R.ext ht0 (by exact fx))) ?_;rintro _ w5 ⟨rfl,x5⟩)|refine zL (p:=bl<c+fW t t.ins[i]) rfl (fun h=>?_) (fun h=>?_)|refine aL (d:=some 34) (.int .i64 t.lock) rfl (congrArg (fun n=>some (Value.int .i64 n)) (IntWalk.i64_in _ (by omega))) ?_|refine zJ (t:=37) (p:=t.lock<bl) rfl (fun h=>?_) (fun h=>?_)|(refine zC (d:=some 40) rfl (pO (l:=t.ins) (M:=M) (g:=F.lock_Ripe_1) (capl:= []) (p:=fun x=>!decide (x.q=4294967295)) _ bJq (SlR.ext h1 (by exact fx)) (by omega) (tl _ (by exact fx))) ?_;rintro _ w6 ⟨rfl,x6⟩)|(first|refine go2 ?_|fail))
   ·rw [fail3 (by omega)]
    exact aA rfl ⟨rfl,by exact fx⟩
   ·rw [good hc hh (by omega),dTr (by assumption)]
    exact aA rfl ⟨rfl,by exact fx⟩
   ·rw [good hc hh (by omega),dFa (by assumption)]
    exact aA rfl ⟨congrArg Value.bool hany,by exact fx⟩
end
end Go.Proofs.YteceapipdhnhdaaGreatDoor
namespace Go.K
section
open Go Go.Proofs.YteceapipdhnhdaaGreatDoor
structure CG (l:List En):Prop where
 srt:Srt l
 mon:Mon l
 fm:∀e∈l,dL e.1 e.2=true
theorem CG.nil:CG []:=⟨.nil,Mon.nil,by simp⟩
theorem CG.nodup {l:List En} (h:CG l):(l.map (·.1)).Nodup:=sJ h.srt
theorem lB {l:List En} (h:(l.map (·.1)).Nodup):l.Nodup:=(List.pairwise_map.1 h).imp fun hne e=>hne (by rw [e])
theorem bOi {l:List En} (h:Srt l):l.Pairwise (fun a b=>lA b.1 a.1=false):=by
 refine List.Pairwise.imp (fun {a b} hab=>?_) h
 grind [aAa,aBu]
theorem bN6 {l m:List En} (hl:Srt l) (hm:Srt m) (h:∀e,e∈l↔e∈m):l=m:=
 aJn ((List.perm_ext_iff_of_nodup (lB (sJ hl)) (lB (sJ hm))).2 h) (bOi hl) hm
theorem dU {l:List En} (h:(l.map (·.1)).Nodup) {e:En}:e∈l↔aS l e.1=some e.2:=⟨fun he=>aPa h (by omega),fun he=>by grind [nI]⟩
theorem CG.take {l:List En} (h:CG l) (p:Pt):CG (cY l p):=by
 have e:=sG h.srt p
 refine ⟨(aNy (List.Perm.refl l) h.srt p).2.1,by rw [e];exact h.mon.del p,fun x hx=>?_⟩
 rw [e] at hx
 exact h.fm x (List.mem_filter.1 hx).1
theorem aPq {l:List En} (h:Srt l) {p:Pt} {c:Cn} (h0:aV l p c=0):(cR l p c).Perm (l++ [(p,c)]):=by
 have:=(aG4 (List.Perm.refl l) h p c).1
 have e:gZ l p c=0:=by rw [aQo (List.Perm.refl l) h p c];exact h0
 unfold aC1 at this
 grind
theorem bJ7 {l:List En} {p:Pt} {c:Cn} (h0:aV l p c=0):dL p c=true∧aS l p=none∧bT (tot l+c.v)=true:=by
 grind [aV,aS,aAu]
theorem CG.put {l:List En} (h:CG l) (p:Pt) (c:Cn):CG (cR l p c):=by
 by_cases h0:aV l p c=0
 ·have hp:=aPq h.srt h0
  obtain ⟨z1,z2,z3⟩:=bJ7 h0
  refine ⟨(aG4 (List.Perm.refl l) h.srt p c).2.1,⟨fun e he=>?_,?_⟩,fun e he=>?_⟩
  ·rcases List.mem_append.1 (hp.mem_iff.1 he) with he|he
   ·exact h.mon.1 e he
   ·simp at he;subst he
    simp only [dL,Bool.and_eq_true] at z1
    exact ((bR _).1 z1.2).1
  ·rw [aB4 hp]
   have:=((bR _).1 z3).2
   simp;omega
  ·rcases List.mem_append.1 (hp.mem_iff.1 he) with he|he
   ·exact h.fm e he
   simp_all
 ·unfold cR;simp [*]
theorem aOq (l:List En) (p:Pt) (c:Cn) (h:Srt l):(cR l p c).length≤l.length+1:=(aG4 (List.Perm.refl l) h p c).2.2
theorem aX5 (l:List En) (p:Pt):(cY l p).length≤l.length:=by
 unfold cY
 grind
def fP (l:List En) (ins:List TIn):List En:=ins.foldl (fun m x=>cY m x.p) l
def outC (o:TOut) (h:Int):Cn:=⟨o.v,o.s,h⟩
def mY (s:ByteArray) (h:Int):Nat→List TOut→List En→List En × Int
 |_, [],m=>(m,0)
 |i,o::os,m=>if aV m ⟨s,(i:Nat)⟩ (outC o h)≠0 then (m,aV m ⟨s,(i:Nat)⟩ (outC o h)) else mY s h (i+1) os (cR m ⟨s,(i:Nat)⟩ (outC o h))
def nZ (l:List En) (t:Tx) (at_:Nat) (h:Int):Int × Int:=
 if aN t then (if aG t≠0 then (aG t, -1) else if 0<at_∨t.lock≠h then (4, -1) else (0, -1)) else (gJ (aS l) t h).2
def oW (l:List En) (t:Tx):List En:=if aN t then l else fP l t.ins
def gG (l:List En) (t:Tx) (at_:Nat) (h:Int):List En × Int × Int:=
 if (nZ l t at_ h).1≠0 then (l,nZ l t at_ h) else if (mY (idT t) h 0 t.outs (oW l t)).2≠0 then (l,(mY (idT t) h 0 t.outs (oW l t)).2, -1) else ((mY (idT t) h 0 t.outs (oW l t)).1,0, -1)
def kG (l0:List En) (h:Int):Nat→List Tx→List En→List En × Int × Int × Int
 |_, [],m=>(m,0, -1, -1)
 |i,t::ts,m=>if (gG m t i h).2.1≠0 then (l0,(gG m t i h).2.1,(i:Nat),(gG m t i h).2.2) else kG l0 h (i+1) ts (gG m t i h).1
def aX (l:List En) (txs:List Tx) (h:Int):List En × Int × Int × Int:=if h<0∨h>1000000 then (l,3, -1, -1) else kG l h 0 txs l
def eF (a b:List En):List En:=a.filter fun e=>!decide (aS b e.1=some e.2)
theorem aOs:∀(ins:List TIn) {l:List En},CG l→CG (fP l ins)
 | [],_,h=>h
 |x::xs,_,h=>aOs xs (h.take x.p)
theorem aDg:∀(ins:List TIn) (l:List En),(fP l ins).length≤l.length
 | [],_=>Nat.le_refl _
 |x::xs,l=>nTr (aDg xs _) (aX5 l x.p)
theorem zU {l:List En} {ins:List TIn} {i:Nat} (h:i<ins.length):fP l (ins.take (i+1))=cY (fP l (ins.take i)) ins[i].p:=by
 grind [List.take_succ_eq_append_getElem,fP]
theorem bEj {s:ByteArray} {h:Int}:∀(os:List TOut) (i:Nat) {m:List En},CG m→CG (mY s h i os m).1
 | [],_,_,hm=>hm
 |o::os,i,m,hm=>by
  unfold mY
  split
  ·exact hm
  ·exact bEj os (i+1) (hm.put _ _)
theorem bAp {s:ByteArray} {h:Int}:∀(os:List TOut) (i:Nat) {m:List En},CG m→(mY s h i os m).1.length≤m.length+os.length
 | [],_,_,_=>Nat.le_refl _
 |o::os,i,m,hm=>by
  unfold mY
  split
  ·simp
  ·have:=bAp (s:=s) (h:=h) os (i+1) (hm.put ⟨s,(i:Nat)⟩ (outC o h))
   have:=aOq m ⟨s,(i:Nat)⟩ (outC o h) hm.srt
   simp only [List.length_cons];omega
def aE8 (s:ByteArray) (h:Int) (os:List TOut) (m:List En) (k:Nat) (m':List En):Prop:=mY s h 0 os m=mY s h k (os.drop k) m'
theorem aOi {s:ByteArray} {h:Int} {os:List TOut} {m:List En}:aE8 s h os m 0 m:=rfl
theorem aSw {s:ByteArray} {h:Int} {os:List TOut} {m m':List En} {k:Nat} (hk:k<os.length) (ho:aE8 s h os m k m') (hc:aV m' ⟨s,(k:Nat)⟩ (outC os[k] h)≠0):mY s h 0 os m=(m',aV m' ⟨s,(k:Nat)⟩ (outC os[k] h)):=by
 unfold aE8 at ho
 rw [ho,List.drop_eq_getElem_cons hk,mY,if_pos hc]
theorem aQi {s:ByteArray} {h:Int} {os:List TOut} {m m':List En} {k:Nat} (hk:k<os.length) (ho:aE8 s h os m k m') (hc:aV m' ⟨s,(k:Nat)⟩ (outC os[k] h)=0):aE8 s h os m (k+1) (cR m' ⟨s,(k:Nat)⟩ (outC os[k] h)):=by
 unfold aE8 at ho ⊢
 rw [ho,List.drop_eq_getElem_cons hk,mY,if_neg (by omega)]
theorem aRx {s:ByteArray} {h:Int} {os:List TOut} {m m':List En} {k:Nat} (hk:os.length≤k) (ho:aE8 s h os m k m'):mY s h 0 os m=(m',0):=by
 unfold aE8 at ho
 rw [ho,List.drop_eq_nil_of_le hk];rfl
theorem aNh {l:List En} (h:CG l) (t:Tx):CG (oW l t):=by
 grind [oW,aOs]
theorem aZ2 (l:List En) (t:Tx):(oW l t).length≤l.length:=by
 unfold oW
 split
 ·omega
 ·exact aDg _ _
theorem aAl {l:List En} (h:CG l) (t:Tx) (i:Nat) (b:Int):CG (gG l t i b).1:=by
 grind [gG,bEj,aNh]
theorem aOb {l:List En} (h:CG l) (t:Tx) (i:Nat) (b:Int):(gG l t i b).1.length≤l.length+t.outs.length:=by
 grind [gG,bAp,aNh,aZ2]
theorem bEw {l0:List En} {h:Int} (h0:CG l0):∀(txs:List Tx) (i:Nat) {m:List En},CG m→CG (kG l0 h i txs m).1
 | [],_,_,hm=>hm
 |t::ts,i,m,hm=>by
  unfold kG
  split
  ·exact h0
  ·exact bEw h0 ts (i+1) (aAl hm t i h)
theorem bH8 {l:List En} (h:CG l) (txs:List Tx) (b:Int):CG (aX l txs b).1:=by
 grind [aX,bEw]
def dT (txs:List Tx):Nat:=(txs.map fun t=>t.outs.length).sum
theorem bAo {l0:List En} {h:Int}:∀(txs:List Tx) (i:Nat) {m:List En},CG m→l0.length≤m.length+dT txs→(kG l0 h i txs m).1.length≤max l0.length (m.length+dT txs)
 | [],_,m,_,_=>by grind [kG]
 |t::ts,i,m,hm,h5=>by
  unfold kG
  split
  ·simp only;omega
  ·have h1:=aOb hm t i h
   have h6:dT (t::ts)=t.outs.length+dT ts:=by simp [dT]
   by_cases h7:l0.length≤(gG m t i h).1.length+dT ts
   ·have:=bAo (l0:=l0) (h:=h) ts (i+1) (aAl hm t i h) h7
    omega
   ·have h8:=runL_len' (l0:=l0) (h:=h) ts (i+1) (aAl hm t i h)
    omega
where
 runL_len' {l0:List En} {h:Int}:∀(txs:List Tx) (i:Nat) {m:List En},CG m→(kG l0 h i txs m).1.length≤max l0.length (m.length+dT txs)
 | [],_,m,_=>by grind [kG]
 |t::ts,i,m,hm=>by
  unfold kG
  split
  ·grind
  ·have h1:=aOb hm t i h
   have h6:dT (t::ts)=t.outs.length+dT ts:=by simp [dT]
   have h8:=runL_len' (l0:=l0) (h:=h) ts (i+1) (aAl hm t i h)
   omega
def aE1 (l0:List En) (h:Int) (txs:List Tx) (k:Nat) (m:List En):Prop:=kG l0 h 0 txs l0=kG l0 h k (txs.drop k) m
theorem aNr {l0:List En} {h:Int} {txs:List Tx}:aE1 l0 h txs 0 l0:=rfl
theorem aR6 {l0 m:List En} {h:Int} {txs:List Tx} {k:Nat} (hk:k<txs.length) (ho:aE1 l0 h txs k m) (hc:(gG m txs[k] k h).2.1≠0):kG l0 h 0 txs l0=(l0,(gG m txs[k] k h).2.1,((k:Nat):Int),(gG m txs[k] k h).2.2):=by
 unfold aE1 at ho
 rw [ho,List.drop_eq_getElem_cons hk,kG,if_pos hc]
theorem aN1 {l0 m:List En} {h:Int} {txs:List Tx} {k:Nat} (hk:k<txs.length) (ho:aE1 l0 h txs k m) (hc:(gG m txs[k] k h).2.1=0):aE1 l0 h txs (k+1) (gG m txs[k] k h).1:=by
 unfold aE1 at ho ⊢
 rw [ho,List.drop_eq_getElem_cons hk,kG,if_neg (by omega)]
theorem aTt {l0 m:List En} {h:Int} {txs:List Tx} {k:Nat} (hk:txs.length≤k) (ho:aE1 l0 h txs k m):kG l0 h 0 txs l0=(m,0, -1, -1):=by
 unfold aE1 at ho
 rw [ho,List.drop_eq_nil_of_le hk];rfl
def lC:List En→List En→Bool × List En
 | [],m=>(true,m)
 |x::xs,m=>if cH m x.1=0∧dH m x.1=x.2 then lC xs (cY m x.1) else (false,cY m x.1)
def yA:List En→List En→Bool × List En
 | [],m=>(true,m)
 |x::xs,m=>if aV m x.1 x.2=0 then yA xs (cR m x.1 x.2) else (false,m)
def xJ (m out inn:List En):Bool × List En:=if (lC out m).1 then yA inn (lC out m).2 else (false,(lC out m).2)
theorem aXo:∀(xs:List En) {m:List En},CG m→CG (lC xs m).2
 | [],_,h=>h
 |x::xs,m,h=>by
  unfold lC
  split
  ·exact aXo xs (h.take x.1)
  ·exact h.take x.1
theorem bE6:∀(xs:List En) {m:List En},CG m→CG (yA xs m).2
 | [],_,h=>h
 |x::xs,m,h=>by
  unfold yA
  split
  ·exact bE6 xs (h.put x.1 x.2)
  ·exact h
theorem take_at {m:List En} (h:Srt m) {x:En} (hx:x∈m):cH m x.1=0∧dH m x.1=x.2:=by
 have ha:=(dU (sJ h)).1 hx
 have h1:=aSh (List.Perm.refl m) h x.1
 have h2:=aD3 (List.Perm.refl m) h x.1
 grind [yT,lF]
theorem aS0:∀(xs:List En) {m:List En},CG m→(xs.map (·.1)).Nodup→(∀x∈xs,x∈m)→(lC xs m).1=true∧∀e,e∈(lC xs m).2↔e∈m∧e.1∉xs.map (·.1)
 | [],m,_,_,_=>⟨rfl,fun e=>by simp [lC]⟩
 |x::xs,m,h,hn,hs=>by
  have hn':=List.nodup_cons.1 hn
  have hx:=hs x (by simp)
  unfold lC
  rw [if_pos (take_at h.srt hx)]
  have hm:∀e,e∈cY m x.1↔e∈m∧e.1≠x.1:=fun e=>by
   rw [sG h.srt]
   grind [lE]
  obtain ⟨h1,h2⟩:=aS0 xs (h.take x.1) hn'.2 fun y hy=>(hm y).2 ⟨hs y (by grind),fun e=>hn'.1 (List.mem_map.2 ⟨y,hy,e⟩)⟩
  grind
theorem aZ8:∀(xs:List En) {m:List En},CG m→(xs.map (·.1)).Nodup→(∀x∈xs,aS m x.1=none)→(∀x∈xs,dL x.1 x.2=true)→(∀x∈xs,0≤x.2.v)→tot m+tot xs≤2100000000000000→(yA xs m).1=true∧(yA xs m).2.Perm (m++xs)
 | [],m,_,_,_,_,_,_=>⟨rfl,by simp [yA]⟩
 |x::xs,m,h,hn,h1,h2,h3,h4=>by
  have hn':=List.nodup_cons.1 hn
  have hv:=Mon.pos (m:=xs) fun y hy=>h3 y (by grind)
  have hv0:=h3 x (by simp)
  have hm0:=Mon.pos h.mon.1
  simp only [bIm] at h4
  have hc:aV m x.1 x.2=0:=by
   rw [aLm (h2 x (by simp)) (by
    grind [eN,aAu]),if_pos ((bR _).2 ⟨by omega,by omega⟩)]
  have hp:=aPq h.srt hc
  unfold yA
  rw [if_pos hc]
  have hk:∀y∈xs,aS (cR m x.1 x.2) y.1=none:=fun y hy=>by
   cases ha:aS (cR m x.1 x.2) y.1 with
   |none=>rfl
   |some c=>
    rcases List.mem_append.1 (hp.mem_iff.1 (nI ha)) with h5|h5
    ·have:=(dU h.nodup).1 h5
     grind
    grind
  obtain ⟨g1,g2⟩:=aZ8 xs (h.put x.1 x.2) hn'.2 hk (fun y hy=>h2 y (by grind)) (fun y hy=>h3 y (by grind)) (by rw [aB4 hp];simp;omega)
  grind
theorem kL {a b:List En} {e:En}:e∈eF a b↔e∈a∧aS b e.1≠some e.2:=by
 grind [eF]
theorem aCb {a b:List En} (h:(a.map (·.1)).Nodup):((eF a b).map (·.1)).Nodup:=List.Nodup.sublist (List.Sublist.map _ List.filter_sublist) h
theorem aTe {a b:List En} (ha:CG a) (hb:CG b):xJ a (eF a b) (eF b a)=(true,b):=by
 obtain ⟨h1,h2⟩:=aS0 (eF a b) ha (aCb ha.nodup) fun x hx=>(kL.1 hx).1
 have hg:=aXo (eF a b) ha
 generalize hq:lC (eF a b) a=q at h1 h2 hg
 obtain ⟨qt,m⟩:=q
 simp only at h1 h2 hg
 subst h1
 have hm:∀e,e∈m↔e∈a∧e∈b:=fun e=>by
  rw [h2]
  refine and_congr_right fun hea=>?_
  constructor
  ·intro hn
   by_cases hb2:aS b e.1=some e.2
   ·exact (dU hb.nodup).2 hb2
   grind [kL]
  ·intro heb hn
   obtain ⟨y,hy,e1⟩:=List.mem_map.1 hn
   obtain ⟨y1,y2⟩:=kL.1 hy
   have e2:=(dU ha.nodup).1 y1
   have e3:=(dU ha.nodup).1 hea
   have e4:=(dU hb.nodup).1 heb
   simp_all
 have hpb:(m++eF b a).Perm b:=by
  refine (List.perm_ext_iff_of_nodup ?_ (lB hb.nodup)).2 fun e=>?_
  ·rw [List.nodup_append]
   refine ⟨lB hg.nodup,lB (aCb hb.nodup),fun x hx y hy e=>?_⟩
   subst e
   have:=((hm _).1 hx).1
   exact (kL.1 hy).2 ((dU ha.nodup).1 this)
  ·rw [List.mem_append,hm,kL]
   constructor
   ·grind
   ·intro h
    by_cases h3:aS a e.1=some e.2
    ·exact .inl ⟨(dU ha.nodup).2 h3,h⟩
    simp [*]
 have ht:tot m+tot (eF b a)=tot b:=by rw [←aFp,aB4 hpb]
 obtain ⟨g1,g2⟩:=aZ8 (eF b a) hg (aCb hb.nodup) (fun x hx=>by
   cases hx2:aS m x.1 with
   |none=>rfl
   |some c=>
    have h5:=(hm _).1 (nI hx2)
    have h6:=(dU hb.nodup).1 h5.2
    have h7:=(dU hb.nodup).1 (kL.1 hx).1
    simp only at h6
    rw [h6] at h7
    cases h7
    exact absurd ((dU ha.nodup).1 h5.1) (kL.1 hx).2)
  (fun x hx=>hb.fm x (kL.1 hx).1) (fun x hx=>hb.mon.1 x (kL.1 hx).1) (by rw [ht];exact hb.mon.2)
 unfold xJ
 rw [hq]
 simp only [if_true]
 have e:(yA (eF b a) m).2=b:=bN6 (bE6 _ hg).srt hb.srt fun x=>(g2.trans hpb).mem_iff
 grind
end
end Go.K
section
namespace Go.K
open Go Go.Proofs.YteceapipdhnhdaaGreatDoor
def gE (t:TypeId) (w:World) (b mb:Nat) (l:List En):Prop:=Srt l∧∃m:List En,m.Perm l∧rI t w b mb m
theorem gE.chg {t:TypeId} {w w':World} {b mb:Nat} {l:List En} {L:List Nat} (hc:Chg L w w') (h:gE t w b mb l) (h1:b∉L) (h2:mb∉L):gE t w' b mb l:=by
 obtain ⟨hs,m,hp,h⟩:=h
 exact ⟨hs,m,hp,h.chg hc h1 h2⟩
theorem gE.ext {t:TypeId} {w w':World} {b mb:Nat} {l:List En} (hc:Ext w w') (h:gE t w b mb l):gE t w' b mb l:=h.chg hc (by simp) (by simp)
theorem gE.lt {t:TypeId} {w:World} {b mb:Nat} {l:List En} (h:gE t w b mb l):b<w.heap.size∧mb<w.heap.size:=by
 obtain ⟨_,m,_,h⟩:=h
 exact ⟨h.1.lt,h.2.1.lt⟩
theorem gE.ne {t:TypeId} {w:World} {b mb:Nat} {l:List En} (h:gE t w b mb l):b≠mb:=by
 obtain ⟨_,m,_,h⟩:=h
 exact h.ne
theorem gE.mon {t:TypeId} {w:World} {b mb:Nat} {l:List En} (h:gE t w b mb l):Mon l:=by
 obtain ⟨_,m,hp,h⟩:=h
 exact ⟨fun e he=>h.2.2.1 e (hp.mem_iff.2 he),by rw [←aB4 hp];exact h.2.2.2⟩
end Go.K
namespace Go.Proofs.YteceapipdhnhdaaGreatDoor
open Go Go.K
attribute [local irreducible] aH aM aY KOp.wp K.Spec
theorem bR0 {w:World} {b mb:Nat} {l:List En} (h:gE T.coins_Set w b mb l) (hs:∀e∈l,e.2.s.size≤1000000):gV w (.iface T.P_coins_Set (.pointer (some ⟨b,0,none⟩))) (aS l):=by
 obtain ⟨hq,m,hp,h⟩:=h
 have e:aS m=aS l:=funext fun p=>xV hp hq p
 rw [←e]
 exact gV.of_set h fun x hx=>hs x (hp.mem_iff.1 hx)
theorem bFy (w:World):K.Spec Tryz.prog F.coins_New [] w fun v w'=>∃b mb,v=.pointer (some ⟨b,0,none⟩)∧gE T.coins_Set w' b mb []∧w.heap.size≤b∧w.heap.size≤mb∧Ext w w':=
 dO (bG8 w) fun v w' ⟨b,mb,e,h,h1,h2,x⟩=>⟨b,mb,e,⟨.nil, [],List.Perm.refl _,h⟩,h1,h2,x⟩
theorem aSi {b mb:Nat} {l:List En} (p:Pt) (w:World) (h:gE T.coins_Set w b mb l):K.Spec Tryz.prog F.coins_Set_Get [.pointer (some ⟨b,0,none⟩),p.val] w fun v w'=>v=.tuple #[(dH l p).val,.bool (aS l p).isSome]∧Ext w w':=by
 obtain ⟨hs,m,hp,h⟩:=h
 refine dO (aTk p w h) fun v w' ⟨e,x⟩=>⟨?_,x⟩
 rw [e,aD3 hp hs,xV hp hs]
theorem aTj {b mb:Nat} {l:List En} (p:Pt) (c:Cn) (w:World) (h:gE T.coins_Set w b mb l):K.Spec Tryz.prog F.coins_Set_Put [.pointer (some ⟨b,0,none⟩),p.val,c.val] w fun v w'=>
  v=.int .i64 (aV l p c)∧gE T.coins_Set w' b mb (cR l p c)∧Chg [b,mb] w w':=by
 obtain ⟨hs,m,hp,h⟩:=h
 refine dO (bHf p c w h) fun v w' ⟨e,h',x⟩=>⟨?_,⟨(aG4 hp hs p c).2.1,_,(aG4 hp hs p c).1,h'⟩,x⟩
 rw [e,aQo hp hs]
theorem aOe {b mb:Nat} {l:List En} (p:Pt) (w:World) (h:gE T.coins_Set w b mb l):K.Spec Tryz.prog F.coins_Set_Take [.pointer (some ⟨b,0,none⟩),p.val] w fun v w'=>
  v=.tuple #[(dH l p).val,.int .i64 (cH l p)]∧gE T.coins_Set w' b mb (cY l p)∧Chg [b,mb] w w':=by
 obtain ⟨hs,m,hp,h⟩:=h
 refine dO (bCw p w h) fun v w' ⟨e,h',x⟩=>⟨?_,⟨(aNy hp hs p).2.1,_,(aNy hp hs p).1,h'⟩,x⟩
 rw [e,aD3 hp hs,aSh hp hs]
theorem bGj {b mb:Nat} {l:List En} (w:World) (h:gE T.coins_Set w b mb l) (hn:l.length≤100000):K.Spec Tryz.prog F.coins_Set_All [.pointer (some ⟨b,0,none⟩)] w fun v w'=>SlE cQ w' v l∧(∀x∈aC v,w.heap.size≤x)∧Ext w w':=by
 obtain ⟨hs,m,hp,h⟩:=h
 refine dO (bFl w h (by rw [hp.length_eq];exact hn)) fun v w' ⟨l',hp',hs',hsl,hb,x⟩=>⟨?_,hb,x⟩
 have hp2:=hp'.trans hp
 have e:l'=l:=aJn hp2 (hs'.imp fun {a b} q=>by rwa [aNg] at q) hs
 rw [←e];exact hsl
theorem aQl {b mb:Nat} {l:List En} (w:World) (h:gE T.coins_Set w b mb l):K.Spec Tryz.prog F.coins_Set_Copy [.pointer (some ⟨b,0,none⟩)] w fun v w'=>
  ∃b' mb',v=.pointer (some ⟨b',0,none⟩)∧gE T.coins_Set w' b' mb' l∧w.heap.size≤b'∧w.heap.size≤mb'∧Ext w w':=by
 obtain ⟨hs,m,hp,h⟩:=h
 exact dO (bAz w h) fun v w' ⟨b',mb',e,h',h1,h2,x⟩=>⟨b',mb',e,⟨hs,m,hp,h'⟩,h1,h2,x⟩
end Go.Proofs.YteceapipdhnhdaaGreatDoor
end
section
namespace Go.Proofs.YteceapipdhnhdaaGreatDoor
end Go.Proofs.YteceapipdhnhdaaGreatDoor
end
