/- Contracts: may an input open a lock, and when? Contracts: ma -/
import Derived.Test.YtgloknkcfchnlabGreatDoorZ29
set_option linter.unusedVariables false
set_option linter.unusedSimpArgs false
namespace Go.Proofs.YtgloknkcfchnlabGreatDoor
section
open Go Go.K
attribute [local irreducible] aG aK aU KOp.wp K.Spec u32 leS vnS str aN bN bJ bX eU iG
theorem aLr {s:ByteArray} {b:Br} (h:b∈bX s):BrOk b:=by
 unfold bX at h
 split at h
 ·unfold iG at h
  obtain ⟨j,_,rfl⟩:=List.mem_map.1 h
  exact aQs s j
 ·simp at h
set_option maxHeartbeats 1000000 in
theorem aLn {v:Value} {l:List ByteArray} (s:ByteArray) (hm:s.size≤1000000) (w:World) (hv:SlE iX w v l) (hz:∀z∈l,z.size≤1000000):K.Spec Tryz.prog F.lock_chosen [.string s,v] w fun r w'=>
  ∃b,r=.tuple #[.agg (brE.f b).toArray,.bool (cD s l).isSome]∧BrOk b∧(∀c,cD s l=some c→b=c)∧Ext w w':=by
 have hz0:BrOk ⟨0,0,0⟩:=⟨by decide,by decide,by decide⟩
 refine aGy rfl ?_
 unfold vU
 refine oy ?_
 repeat' (first|refine zH (d:=some 4) (fun b4 w4 x4 a4 hb4=>?_)|(refine zC (d:=some 13) rfl (aSm s hm _) ?_;rintro _ w5 ⟨u,e,rfl,hl,he,hbu,x5⟩;have l4:=a4.lt)|(refine zC (d:=some 18) rfl (aKj _ (SlE.ext (w:=w) (by exact fx) hv) hz) ?_;rintro _ w6 ⟨rfl,x6⟩;have x06:Ext w w6:=(by exact fx);replace hl:=hl.ext x6;have a6:At w6 b4 _:=a4.ext (x5.trans x6);clear x4 x5 x6 a4)|refine go1 ?_|refine zg λ_ _=>?_|refine zi λ_ _=>?_)
 cases hsg:eU l with
 |none=>
  have e1:pR l=.tuple #[.int .i64 0,.int .u16 0,.int .i64 4]:=by unfold pR;rw [hsg]
  have e2:cD s l=none:=by unfold cD;rw [hsg];rfl
  rw [e1,e2]
  by_cases h0:e=0
  all_goals
   repeat' (first|refine aD (d:=some 23) (.bool false) rfl (by show some (Value.bool (!decide (e=0)))=_;rw [dTr h0];rfl) ?_|refine aD (d:=some 23) (.bool true) rfl (by show some (Value.bool (!decide (e=0)))=_;rw [dFa h0];rfl) ?_|refine bT (d:=some 34) (cs:=brE.f ⟨0,0,0⟩) rfl ?_|refine bA (w0:=w) (vs:=brE.f ⟨0,0,0⟩) (by exact fx) hb4 (by focus (repeat (first|assumption|(apply At.ext;assumption)))) rfl rfl rfl rfl rfl (fun w9 x9 c9 a9 r9=>?_)|refine go1 ?_|refine zg λ_ _=>?_|refine zi λ_ _=>?_)
   exact aB (lA (bK r9 rfl rfl) bC) ⟨⟨0,0,0⟩,rfl,hz0,(fun c h=>by cases h),x9⟩
 |some p=>
  obtain ⟨a,t⟩:=p
  have e1:pR l=.tuple #[.int .i64 (a:Nat),.int .u16 (t:Nat),.int .i64 0]:=by unfold pR;rw [hsg]
  have e2:cD s l=((bX s)[a]?).bind fun b=>if b.tag=0∨b.tag=t then some b else none:=by unfold cD;rw [hsg];rfl
  rw [e1]
  by_cases h0:e=0
  ·by_cases ha:a<(bX s).length
   ·have hok:=aLr (gMe ha)
    have g1:=hok.tag
    have g2:t<65536:=by
     unfold eU at hsg
     split at hsg
     ·have:=eO (l.headD default) 2 1
      simp only [Option.some.injEq,Prod.mk.injEq] at hsg
      omega
     ·cases hsg
    rw [List.getElem?_eq_getElem ha] at e2
    have e2:cD s l=if (bX s)[a].tag=0∨(bX s)[a].tag=t then some (bX s)[a] else none:=e2
    generalize hB:(bX s)[a]=B at e2 hok g1
    repeat' (first|refine aD (d:=some 23) (.bool false) rfl (by show some (Value.bool (!decide (e=0)))=_;rw [dTr h0];rfl) ?_|refine bP (d:=some 31) (E:=brE) (l:=bX s) rfl hl ?_|refine aD (d:=some 32) (.bool false) rfl (congrArg (fun b=>some (Value.bool b)) (dFa (by omega))) ?_|(refine zg (fun w7 x7=>?_);replace hl:=hl.ext x7)|(refine aQ (d:=some 37) (E:=brE) rfl rfl (n:=a) (l:=bX s) hl rfl ha (fun ad r4=>?_);rw [hB] at r4;have r4:Row _ ad [.int .u16 (B.tag:Nat),.int .u16 (B.delay:Nat),.int .u32 (B.height:Nat)]:=r4)|(refine aQ (d:=some 41) (E:=brE) rfl rfl (n:=a) (l:=bX s) hl rfl ha (fun ad r5=>?_);rw [hB] at r5;have r5:Row _ ad [.int .u16 (B.tag:Nat),.int .u16 (B.delay:Nat),.int .u32 (B.height:Nat)]:=r5)|(refine aQ2 (d:=some 48) (E:=brE) rfl rfl (n:=a) (l:=bX s) hl rfl ha (fun ad r6 hba=>?_);rw [hB] at r6;have r6:Row _ ad [.int .u16 (B.tag:Nat),.int .u16 (B.delay:Nat),.int .u32 (B.height:Nat)]:=r6)|refine zJ (p:=((B.tag:Nat):Int)=0) rfl (fun h=>?_) (fun h=>?_)|refine lI ?_ ?_|(refine bA (w0:=w) (vs:=brE.f B) (by exact fx) hb4 (by focus (repeat (first|assumption|(apply At.ext;assumption)))) rfl rfl rfl rfl rfl (fun w9 x9 c9 a9 r9=>?_);try (replace r6:=Row.chg c9 r6 (by have:=hbu _ hba;simp;omega)))|refine go1 ?_|refine zg λ_ _=>?_|refine zi λ_ _=>?_)
    all_goals
     have hcc:cD s l=some B∨cD s l=none∧¬(((B.tag:Nat):Int)=0)∧¬(((B.tag:Nat):Int)=(t:Nat)):=by
      rw [e2]
      by_cases q:B.tag=0∨B.tag=t
      ·exact .inl (if_pos q)
      ·exact .inr ⟨if_neg q,by omega,by omega⟩
     have hval:(cD s l).isSome=(decide (((B.tag:Nat):Int)=0)||decide (((B.tag:Nat):Int)=(t:Nat))):=by
      rcases hcc with q|⟨q,q1,q2⟩
      ·rw [q]
       rw [e2] at q
       have:B.tag=0∨B.tag=t:=by
        by_cases q3:B.tag=0∨B.tag=t
        ·exact q3
        ·rw [if_neg q3] at q;cases q
       rcases this with q4|q4
       ·rw [dTr (by omega)];rfl
       ·rw [dTr (p:=((B.tag:Nat):Int)=(t:Nat)) (by omega),Bool.or_true];rfl
      ·rw [q,dFa q1,dFa q2];rfl
     rw [hval]
     refine aB (lA (bK r9 rfl rfl) bC) ⟨B,?_,hok,fun c hc=>?_,x9⟩
     ·first
       |(rw [dTr (by assumption:((B.tag:Nat):Int)=0)];rfl)
       |(rw [dFa (by assumption:¬((B.tag:Nat):Int)=0)];rfl)
     ·rcases hcc with q|⟨q,_⟩
      ·rw [q] at hc;injection hc
      ·rw [q] at hc;cases hc
   ·have e2:cD s l=none:=by rw [e2,List.getElem?_eq_none (by omega)];rfl
    rw [e2]
    repeat' (first|refine aD (d:=some 23) (.bool false) rfl (by show some (Value.bool (!decide (e=0)))=_;rw [dTr h0];rfl) ?_|refine bP (d:=some 31) (E:=brE) (l:=bX s) rfl hl ?_|refine aD (d:=some 32) (.bool true) rfl (congrArg (fun b=>some (Value.bool b)) (dTr (by omega))) ?_|refine bT (d:=some 34) (cs:=brE.f ⟨0,0,0⟩) rfl ?_|refine bA (w0:=w) (vs:=brE.f ⟨0,0,0⟩) (by exact fx) hb4 (by focus (repeat (first|assumption|(apply At.ext;assumption)))) rfl rfl rfl rfl rfl (fun w9 x9 c9 a9 r9=>?_)|refine go1 ?_|refine zg λ_ _=>?_|refine zi λ_ _=>?_)
    exact aB (lA (bK r9 rfl rfl) bC) ⟨⟨0,0,0⟩,rfl,hz0,(fun c h=>by cases h),x9⟩
  ·have e2:cD s l=none:=by rw [e2,he h0];rfl
   rw [e2]
   repeat' (first|refine aD (d:=some 23) (.bool true) rfl (by show some (Value.bool (!decide (e=0)))=_;rw [dFa h0];rfl) ?_|refine bT (d:=some 34) (cs:=brE.f ⟨0,0,0⟩) rfl ?_|refine bA (w0:=w) (vs:=brE.f ⟨0,0,0⟩) (by exact fx) hb4 (by focus (repeat (first|assumption|(apply At.ext;assumption)))) rfl rfl rfl rfl rfl (fun w9 x9 c9 a9 r9=>?_)|refine go1 ?_|refine zg λ_ _=>?_|refine zi λ_ _=>?_)
   exact aB (lA (bK r9 rfl rfl) bC) ⟨⟨0,0,0⟩,rfl,hz0,(fun c h=>by cases h),x9⟩
end
section
open Go Go.K
attribute [local irreducible] aG aK aU KOp.wp K.Spec u32 leS vnS str aN bN bJ bX eU iG cD
theorem bAd {q:Int} (h:jM q):bL .and (.int .u32 q) (.int .u32 65535)=some (.int .u32 (q%65536)):=by
 obtain ⟨n,rfl⟩:∃n:Nat,q=(n:Nat):=⟨q.toNat,by have:=h.1;omega⟩
 have h2:n<4294967296:=by have:=h.2;omega
 simp only [bL,dJ,Bool.false_eq_true,if_false,if_true,cP,IntKind.bits]
 have e:(BitVec.ofInt 32 ((n:Nat):Int)&&& BitVec.ofInt 32 65535).toNat=n%65536:=by
  rw [BitVec.toNat_and,BitVec.toNat_ofInt,BitVec.toNat_ofInt]
  rw [show (((n:Nat):Int)%((2^32:Nat):Int)).toNat=n by omega,show ((65535:Int)%((2^32:Nat):Int)).toNat=2^16 - 1 by decide]
  exact Nat.and_two_pow_sub_one_eq_mod n 16
 exact (congrArg (fun x:Nat=>some (Value.int .u32 (IntKind.u32.wrap (x:Int)))) e).trans (congrArg (fun x=>some (Value.int .u32 x)) (by rw [aGe (by omega)];rfl))
theorem nK {t:Tx} {x:TIn} (h:jM x.q):0≤eB t x∧eB t x<65536:=by
 unfold eB
 split<;>omega
theorem aEk {M:List Nat} {cs:List Value} {t:Tx} (i:Nat) (hi:i<t.ins.length) (hs:t.ins.length≤1000) (w:World) (ht:txR.rel M w cs t):K.Spec Tryz.prog F.lock_waits [.agg cs.toArray,.int .i64 (i:Nat)] w fun r w'=>r=.int .i64 (eB t t.ins[i])∧Ext w w':=by
 obtain ⟨iv,ov,rfl,h1,h2,h3,h4⟩:=ht
 refine aI7 rfl ?_
 unfold aAw
 refine oy ?_
 repeat' (first|refine zD rfl rfl (fun bp wp xp ap (rp:Row wp ⟨bp,0,none⟩ (aT t iv ov)) hp0=>?_)|(refine aM (d:=some 9) (E:=inR) (M:=M) rfl rfl (n:=i) (l:=t.ins) (SlR.ext h1 (by exact fx)) rfl hi (fun ad cs r4 he=>?_);obtain ⟨wv,rfl,hw,hp5,hp6⟩:=he)|refine zJ (p:=t.ins[i].q<2147483648) rfl (fun h=>?_) (fun h=>?_)|refine zL (p:=t.ver≥2) rfl (fun h=>?_) (fun h=>?_)|refine cM (d:=some 20) rfl rfl (bAd hp6) ?_|refine aD (d:=some 21) (.int .i64 (t.ins[i].q%65536)) rfl (congrArg (fun n=>some (Value.int .i64 n)) (IntWalk.i64_in _ (by omega))) ?_|refine go1 ?_|refine zg λ_ _=>?_|refine zi λ_ _=>?_)
 ·exact aB rfl ⟨by rw [eB,if_pos ⟨‹t.ins[i].q<2147483648›,‹t.ver≥2›⟩];rfl,by exact fx⟩
 ·exact aB rfl ⟨by rw [eB,if_neg (fun hh=>‹¬t.ver≥2› hh.2)];rfl,by exact fx⟩
 ·exact aB rfl ⟨by rw [eB,if_neg (fun hh=>‹¬t.ins[i].q<2147483648› hh.1)];rfl,by exact fx⟩
theorem yN {M:List Nat} {cs:List Value} {t:Tx} (i:Nat) (hi:i<t.ins.length) (w:World) (ht:txR.rel M w cs t):K.Spec Tryz.prog F.lock_is [.agg cs.toArray,.int .i64 (i:Nat)] w fun r w'=>r=.bool true∧Ext w w':=by
 obtain ⟨iv,ov,rfl,h1,h2,h3,h4⟩:=ht
 refine aSv rfl ?_
 unfold aHk
 refine oy ?_
 repeat' (first|refine zD rfl rfl (fun bp wp xp ap (rp:Row wp ⟨bp,0,none⟩ (aT t iv ov)) hp0=>?_)|refine zG (d:=some 11) (E:=inR) (M:=M) (l:=t.ins) rfl (SlR.ext h1 (by exact fx)) ?_|refine aD (d:=some 6) (.bool true) rfl (congrArg (fun b=>some (Value.bool b)) (dTr (by omega))) ?_|refine aD (d:=some 12) (.bool true) rfl (congrArg (fun b=>some (Value.bool b)) (dTr (by omega))) ?_|refine go1 ?_|refine zg λ_ _=>?_|refine zi λ_ _=>?_)
 exact aB rfl ⟨rfl,by exact fx⟩
set_option maxHeartbeats 2000000 in
theorem aRs {M:List Nat} {cs:List Value} {t:Tx} (s:ByteArray) (hm:s.size≤1000000) (i:Nat) (hi:i<t.ins.length) (hs:t.ins.length≤1000) (hz:∀z∈t.ins[i].wit,z.size≤1000000) (w:World) (ht:txR.rel M w cs t):K.Spec Tryz.prog F.lock_Open [.string s,.agg cs.toArray,.int .i64 (i:Nat)] w fun r w'=>r=.int .i64 (eZ s t t.ins[i])∧Ext w w':=by
 have ht0:=ht
 obtain ⟨iv,ov,rfl,h1,h2,h3,h4⟩:=ht
 refine aK2 rfl ?_
 unfold aCz
 refine oy ?_
 repeat (first|refine zD rfl rfl (fun bp wp xp ap (rp:Row wp ⟨bp,0,none⟩ (aT t iv ov)) hp0=>?_)|(refine zC (d:=some 11) rfl (yN (M:=M) (t:=t) (cs:=aT t iv ov) i hi _ (R.ext ht0 (by exact fx))) ?_;rintro _ w2 ⟨rfl,x2⟩)|(refine aM (d:=some 18) (E:=inR) (M:=M) rfl rfl (n:=i) (l:=t.ins) (SlR.ext h1 (by exact fx)) rfl hi (fun ad cs r4 he=>?_);obtain ⟨wv,rfl,hw,hp5,hp6⟩:=he)|(refine zC (d:=some 21) rfl (aLn s hm _ (SlR.toE (F:=iX) (ag:=false) (SlR.ext hw (by exact fx))) hz) ?_;rintro _ w5 ⟨b,rfl,hb,hcb,x5⟩)|refine zE (d':=7) (fun _=>rfl) rfl rfl rfl (fun b7 w7 x7 a7 (r7:Row w7 ⟨b7,0,none⟩ [.int .u16 (b.tag:Nat),.int .u16 (b.delay:Nat),.int .u32 (b.height:Nat)]) hb7=>?_)|refine go1 ?_|refine zg λ_ _=>?_|refine zi λ_ _=>?_)
 have hwb:=nK (t:=t) hp6
 have hd:=hb.delay
 have hh9:=hb.height
 have xw7:Unit→Ext w w7:=fun _=>by exact fx
 have h17:=h1.ext (xw7 ())
 have ht7:=R.ext ht0 (xw7 ())
 have rp7:Row w7 ⟨bp,0,none⟩ (aT t iv ov):=rp.ext (by exact fx)
 clear xp x2 x5 x7 hw h1 rp r4
 cases hc:cD s t.ins[i].wit with
 |none=>
  have e:eZ s t t.ins[i]=9:=by unfold eZ;rw [hc]
  rw [e]
  repeat' (first|refine go1 ?_|refine zg λ_ _=>?_|refine zi λ_ _=>?_)
  exact aB rfl ⟨rfl,xw7 ()⟩
 |some c=>
  obtain rfl:=hcb c hc
  have e:eZ s t t.ins[i]=if eB t t.ins[i]<(b.delay:Int) then 10 else if b.height>0∧(t.lock<(b.height:Int)∨t.ins[i].q=4294967295) then 10 else 0:=by unfold eZ;rw [hc]
  repeat' (first|refine xX (x:=.tmp 24) rfl ?_|refine zg (fun w8 x8=>?_)|refine lI ?_ ?_|(refine zC (d:=some 30) rfl (aEk (M:=M) (t:=t) (cs:=aT t iv ov) i hi hs _ (R.ext ht7 (by exact fx))) ?_;rintro _ w9 ⟨rfl,x9⟩)|refine aD (d:=some 33) (.int .i64 (b.delay:Nat)) rfl (congrArg (fun n=>some (Value.int .i64 n)) (IntWalk.i64_in _ (by omega))) ?_|refine zL (p:=eB t t.ins[i]<(b.delay:Int)) rfl (fun h=>?_) (fun h=>?_)|refine zJ (t:=39) (p:=((b.height:Nat):Int)>0) rfl (fun h=>?_) (fun h=>?_)|refine zJ (t:=45) (p:=t.lock<((b.height:Nat):Int)) rfl (fun h=>?_) (fun h=>?_)|(refine aM (d:=some 49) (E:=inR) (M:=M) rfl rfl (n:=i) (l:=t.ins) (SlR.ext h17 (by exact fx)) rfl hi (fun ad cs r4 he=>?_);obtain ⟨wv,rfl, -, -, -⟩:=he)|refine zL (p:=t.ins[i].q=4294967295) rfl (fun h=>?_) (fun h=>?_)|refine go1 ?_|refine zg λ_ _=>?_|refine zi λ_ _=>?_)
  all_goals
   rw [e]
   first
    |(rw [if_pos (by assumption)];exact aB rfl ⟨rfl,Ext.trans (xw7 ()) (by exact fx)⟩)
    |(rw [if_neg (by assumption),if_pos ⟨by omega,.inl (by assumption)⟩];exact aB rfl ⟨rfl,Ext.trans (xw7 ()) (by exact fx)⟩)
    |(rw [if_neg (by assumption),if_pos ⟨by omega,.inr (by assumption)⟩];exact aB rfl ⟨rfl,Ext.trans (xw7 ()) (by exact fx)⟩)
    |(rw [if_neg (by assumption),if_neg (fun hh=>by omega)];exact aB rfl ⟨rfl,Ext.trans (xw7 ()) (by exact fx)⟩)
    |trace_state
theorem kJ (n:Int) (w:World):K.Spec Tryz.prog F.lock_height [.int .i64 n] w fun r w'=>r=.bool (gT n)∧Ext w w':=by
 refine aGo rfl ?_
 unfold wC
 refine oy ?_
 repeat' (first|refine zJ (p:=n≥0) rfl (fun h=>?_) (fun h=>?_)|refine go1 ?_|refine zg λ_ _=>?_|refine zi λ_ _=>?_)
 ·exact aB rfl ⟨congrArg Value.bool (by unfold gT;simp;omega),Ext.refl _⟩
 ·exact aB rfl ⟨congrArg Value.bool (by unfold gT;symm;exact dFa (by omega)),Ext.refl _⟩
theorem aU2:dB Tryz.prog F.lock_Ripe_1=true:=by kernel_rfl
theorem aPb (x:TIn) (wv:Value) (w:World) (hw:wv.oneCell'=true):K.Spec Tryz.prog F.lock_Ripe_1 [.agg (fX x wv).toArray] w fun r w'=>r=.bool (!decide (x.q=4294967295))∧Ext w w':=by
 refine aGm rfl ?_
 unfold vN
 refine oy ?_
 repeat' (first|refine go1 ?_|refine zg λ_ _=>?_|refine zi λ_ _=>?_|refine zD rfl rfl (fun bp wp xp ap (rp:Row wp ⟨bp,0,none⟩ (fX x wv)) hp0=>?_))
 exact aB rfl ⟨rfl,by exact fx⟩
set_option maxHeartbeats 2000000 in
theorem aR7 {M:List Nat} {cs:List Value} {t:Tx} (i:Nat) (hi:i<t.ins.length) (hs:t.ins.length≤1000) (c bl:Int) (w:World) (ht:txR.rel M w cs t):K.Spec Tryz.prog F.lock_Ripe [.agg cs.toArray,.int .i64 (i:Nat),.int .i64 c,.int .i64 bl] w fun r w'=>r=.bool (fE t t.ins[i] c bl)∧Ext w w':=by
 have ht0:=ht
 obtain ⟨iv,ov,rfl,h1,h2,h3,h4⟩:=ht
 have hq:jM t.ins[i].q:=by
  obtain ⟨css,hsl,hall,_⟩:=h1
  obtain ⟨_,_,_,_,hq⟩:=All2.get hall i (by rw [hall.length];exact hi) hi
  exact hq
 have hwb:=nK (t:=t) hq
 have h42:=h4.2
 have h41:=h4.1
 have tl:∀w1,Ext w w1→vQ F.lock_Ripe_1 [] inR (fun cs=>.agg cs.toArray) M w1 t.ins (fun x=>!decide (x.q=4294967295)):=fun w1 x1 y hy w' cs x2 hc=>by
  obtain ⟨wv,rfl,hw,_⟩:=hc
  exact aPb y wv w' hw.one
 have hany:(!t.ins.any fun x=>!decide (x.q=4294967295))=t.ins.all fun x=>decide (x.q=4294967295):=by
  rw [List.all_eq_not_any_not]
 have fail1:gT c=false→fE t t.ins[i] c bl=false:=fun e=>by unfold fE;rw [e];rfl
 have fail2:gT bl=false→fE t t.ins[i] c bl=false:=fun e=>by unfold fE;rw [e];simp
 have fail3:¬c+eB t t.ins[i]≤bl→fE t t.ins[i] c bl=false:=fun e=>by unfold fE;rw [dFa e];simp
 have good:gT c=true→gT bl=true→c+eB t t.ins[i]≤bl→fE t t.ins[i] c bl=(decide (t.lock<bl)||t.ins.all fun y=>decide (y.q=4294967295)):=fun e1 e2 e3=>by unfold fE;rw [e1,e2,dTr e3];rfl
 cases hc:gT c with
 |false=>
  rw [fail1 hc]
  refine sW rfl ?_
  unfold nE
  refine oy ?_
  repeat' (first|refine zD rfl rfl (fun bp wp xp ap (rp:Row wp ⟨bp,0,none⟩ (aT t iv ov)) hp0=>?_)|(refine zC (d:=some 11) rfl (yN (M:=M) (t:=t) (cs:=aT t iv ov) i hi _ (R.ext ht0 (by exact fx))) ?_;rintro _ w2 ⟨rfl,x2⟩)|(refine zC (d:=some 15) rfl (kJ c _) ?_;rintro _ w3 ⟨rfl,x3⟩;rw [hc])|refine go1 ?_|refine zg λ_ _=>?_|refine zi λ_ _=>?_)
  exact aB rfl ⟨rfl,by exact fx⟩
 |true=>
  have hc2:0≤c∧c≤1000000:=of_decide_eq_true hc
  cases hh:gT bl with
  |false=>
   rw [fail2 hh]
   refine sW rfl ?_
   unfold nE
   refine oy ?_
   repeat' (first|refine zD rfl rfl (fun bp wp xp ap (rp:Row wp ⟨bp,0,none⟩ (aT t iv ov)) hp0=>?_)|(refine zC (d:=some 11) rfl (yN (M:=M) (t:=t) (cs:=aT t iv ov) i hi _ (R.ext ht0 (by exact fx))) ?_;rintro _ w2 ⟨rfl,x2⟩)|(refine zC (d:=some 15) rfl (kJ c _) ?_;rintro _ w3 ⟨rfl,x3⟩;rw [hc])|(refine zC (d:=some 20) rfl (kJ bl _) ?_;rintro _ w4 ⟨rfl,x4⟩;rw [hh])|refine go1 ?_|refine zg λ_ _=>?_|refine zi λ_ _=>?_)
   exact aB rfl ⟨rfl,by exact fx⟩
  |true=>
   have hh2:0≤bl∧bl≤1000000:=of_decide_eq_true hh
   refine sW rfl ?_
   unfold nE
   refine oy ?_
   repeat' (first|refine zD rfl rfl (fun bp wp xp ap (rp:Row wp ⟨bp,0,none⟩ (aT t iv ov)) hp0=>?_)|(refine zC (d:=some 11) rfl (yN (M:=M) (t:=t) (cs:=aT t iv ov) i hi _ (R.ext ht0 (by exact fx))) ?_;rintro _ w2 ⟨rfl,x2⟩)|(refine zC (d:=some 15) rfl (kJ c _) ?_;rintro _ w3 ⟨rfl,x3⟩;rw [hc])|(refine zC (d:=some 20) rfl (kJ bl _) ?_;rintro _ w4 ⟨rfl,x4⟩;rw [hh])|(refine zC (d:=some 28) rfl (aEk (M:=M) (t:=t) (cs:=aT t iv ov) i hi hs _ (R.ext ht0 (by exact fx))) ?_;rintro _ w5 ⟨rfl,x5⟩)|refine zL (p:=bl<c+eB t t.ins[i]) rfl (fun h=>?_) (fun h=>?_)|refine aD (d:=some 34) (.int .i64 t.lock) rfl (congrArg (fun n=>some (Value.int .i64 n)) (IntWalk.i64_in _ (by omega))) ?_|refine zJ (t:=37) (p:=t.lock<bl) rfl (fun h=>?_) (fun h=>?_)|(refine zC (d:=some 40) rfl (aBd (l:=t.ins) (M:=M) (g:=F.lock_Ripe_1) (capl:= []) (p:=fun x=>!decide (x.q=4294967295)) _ aU2 (SlR.ext h1 (by exact fx)) (by omega) (tl _ (by exact fx))) ?_;rintro _ w6 ⟨rfl,x6⟩)|refine go1 ?_|refine zg λ_ _=>?_|refine zi λ_ _=>?_)
   ·rw [fail3 (by omega)]
    exact aB rfl ⟨rfl,by exact fx⟩
   ·rw [good hc hh (by omega),dTr (by assumption)]
    exact aB rfl ⟨rfl,by exact fx⟩
   ·rw [good hc hh (by omega),dFa (by assumption)]
    exact aB rfl ⟨congrArg Value.bool hany,by exact fx⟩
end
end Go.Proofs.YtgloknkcfchnlabGreatDoor
namespace Go.K
section
open Go Go.Proofs.YtgloknkcfchnlabGreatDoor
structure CG (l:List En):Prop where
 srt:Srt l
 mon:Mon l
 fm:∀e∈l,cI e.1 e.2=true
theorem CG.nil:CG []:=⟨.nil,Mon.nil,by simp⟩
theorem CG.nodup {l:List En} (h:CG l):(l.map (·.1)).Nodup:=lM h.srt
theorem gZ {l:List En} (h:(l.map (·.1)).Nodup):l.Nodup:=(List.pairwise_map.1 h).imp fun hne e=>hne (by rw [e])
theorem aXq {l:List En} (h:Srt l):l.Pairwise (fun a b=>gI b.1 a.1=false):=by
 refine List.Pairwise.imp (fun {a b} hab=>?_) h
 cases h2:gI b.1 a.1
 ·rfl
 ·have:=qY hab h2
  rw [rX] at this;cases this
theorem aW7 {l m:List En} (hl:Srt l) (hm:Srt m) (h:∀e,e∈l↔e∈m):l=m:=
 aBa ((List.perm_ext_iff_of_nodup (gZ (lM hl)) (gZ (lM hm))).2 h) (aXq hl) hm
theorem cF {l:List En} (h:(l.map (·.1)).Nodup) {e:En}:e∈l↔aX l e.1=some e.2:=⟨fun he=>aEl h (by cases e;exact he),fun he=>by have:=kM he;cases e;exact this⟩
theorem CG.take {l:List En} (h:CG l) (p:Pt):CG (cC l p):=by
 have e:=lF h.srt p
 refine ⟨(aEn (List.Perm.refl l) h.srt p).2.1,by rw [e];exact h.mon.del p,fun x hx=>?_⟩
 rw [e] at hx
 exact h.fm x (List.mem_filter.1 hx).1
theorem aEz {l:List En} (h:Srt l) {p:Pt} {c:Cn} (h0:aS l p c=0):(bZ l p c).Perm (l++ [(p,c)]):=by
 have:=(yP (List.Perm.refl l) h p c).1
 have e:eX l p c=0:=by rw [aGf (List.Perm.refl l) h p c];exact h0
 unfold sR at this
 rw [if_pos e] at this
 exact this.symm
theorem aVm {l:List En} {p:Pt} {c:Cn} (h0:aS l p c=0):cI p c=true∧aX l p=none∧cR (tot l+c.v)=true:=by
 unfold aS at h0
 split at h0
 ·rename_i hf
  split at h0
  ·cases h0
  ·rename_i hi
   split at h0
   ·rename_i hg
    refine ⟨hf,?_,hg⟩
    cases ha:aX l p
    ·rfl
    ·have:=rA l p
     rw [ha] at this;simp at this
     rw [←this] at hi;simp at hi
   ·cases h0
 ·cases h0
theorem CG.put {l:List En} (h:CG l) (p:Pt) (c:Cn):CG (bZ l p c):=by
 by_cases h0:aS l p c=0
 ·have hp:=aEz h.srt h0
  obtain ⟨z1,z2,z3⟩:=aVm h0
  refine ⟨(yP (List.Perm.refl l) h.srt p c).2.1,⟨fun e he=>?_,?_⟩,fun e he=>?_⟩
  ·rcases List.mem_append.1 (hp.mem_iff.1 he) with he|he
   ·exact h.mon.1 e he
   ·simp at he;subst he
    simp only [cI,Bool.and_eq_true] at z1
    exact ((cX _).1 z1.2).1
  ·rw [pH hp]
   have:=((cX _).1 z3).2
   simp;omega
  ·rcases List.mem_append.1 (hp.mem_iff.1 he) with he|he
   ·exact h.fm e he
   ·simp at he;subst he;exact z1
 ·unfold bZ;rw [if_neg h0];exact h
theorem aF2 (l:List En) (p:Pt) (c:Cn) (h:Srt l):(bZ l p c).length≤l.length+1:=(yP (List.Perm.refl l) h p c).2.2
theorem aMu (l:List En) (p:Pt):(cC l p).length≤l.length:=by
 unfold cC
 split
 ·exact List.length_eraseIdx_le _ _
 ·exact Nat.le_refl _
def cS (l:List En) (ins:List TIn):List En:=ins.foldl (fun m x=>cC m x.p) l
def outC (o:TOut) (h:Int):Cn:=⟨o.v,o.s,h⟩
def fW (s:ByteArray) (h:Int):Nat→List TOut→List En→List En × Int
 |_, [],m=>(m,0)
 |i,o::os,m=>if aS m ⟨s,(i:Nat)⟩ (outC o h)≠0 then (m,aS m ⟨s,(i:Nat)⟩ (outC o h)) else fW s h (i+1) os (bZ m ⟨s,(i:Nat)⟩ (outC o h))
def gL (l:List En) (t:Tx) (at_:Nat) (h:Int):Int × Int:=
 if aO t then (if aJ t≠0 then (aJ t, -1) else if 0<at_∨t.lock≠h then (4, -1) else (0, -1)) else (gY (aX l) t h).2
def iJ (l:List En) (t:Tx):List En:=if aO t then l else cS l t.ins
def cG (l:List En) (t:Tx) (at_:Nat) (h:Int):List En × Int × Int:=
 if (gL l t at_ h).1≠0 then (l,gL l t at_ h) else if (fW (idT t) h 0 t.outs (iJ l t)).2≠0 then (l,(fW (idT t) h 0 t.outs (iJ l t)).2, -1) else ((fW (idT t) h 0 t.outs (iJ l t)).1,0, -1)
def jC (l0:List En) (h:Int):Nat→List Tx→List En→List En × Int × Int × Int
 |_, [],m=>(m,0, -1, -1)
 |i,t::ts,m=>if (cG m t i h).2.1≠0 then (l0,(cG m t i h).2.1,(i:Nat),(cG m t i h).2.2) else jC l0 h (i+1) ts (cG m t i h).1
def aP (l:List En) (txs:List Tx) (h:Int):List En × Int × Int × Int:=if h<0∨h>1000000 then (l,3, -1, -1) else jC l h 0 txs l
def bO (a b:List En):List En:=a.filter fun e=>!decide (aX b e.1=some e.2)
theorem aF8:∀(ins:List TIn) {l:List En},CG l→CG (cS l ins)
 | [],_,h=>h
 |x::xs,_,h=>aF8 xs (h.take x.p)
theorem tN:∀(ins:List TIn) (l:List En),(cS l ins).length≤l.length
 | [],_=>Nat.le_refl _
 |x::xs,l=>nTr (tN xs _) (aMu l x.p)
theorem qP {l:List En} {ins:List TIn} {i:Nat} (h:i<ins.length):cS l (ins.take (i+1))=cC (cS l (ins.take i)) ins[i].p:=by
 rw [List.take_succ_eq_append_getElem h]
 unfold cS
 rw [List.foldl_append];rfl
theorem aP9 {s:ByteArray} {h:Int}:∀(os:List TOut) (i:Nat) {m:List En},CG m→CG (fW s h i os m).1
 | [],_,_,hm=>hm
 |o::os,i,m,hm=>by
  unfold fW
  split
  ·exact hm
  ·exact aP9 os (i+1) (hm.put _ _)
theorem aNl {s:ByteArray} {h:Int}:∀(os:List TOut) (i:Nat) {m:List En},CG m→(fW s h i os m).1.length≤m.length+os.length
 | [],_,_,_=>Nat.le_refl _
 |o::os,i,m,hm=>by
  unfold fW
  split
  ·simp
  ·have:=aNl (s:=s) (h:=h) os (i+1) (hm.put ⟨s,(i:Nat)⟩ (outC o h))
   have:=aF2 m ⟨s,(i:Nat)⟩ (outC o h) hm.srt
   simp only [List.length_cons];omega
def vW (s:ByteArray) (h:Int) (os:List TOut) (m:List En) (k:Nat) (m':List En):Prop:=fW s h 0 os m=fW s h k (os.drop k) m'
theorem aFl {s:ByteArray} {h:Int} {os:List TOut} {m:List En}:vW s h os m 0 m:=rfl
theorem aG8 {s:ByteArray} {h:Int} {os:List TOut} {m m':List En} {k:Nat} (hk:k<os.length) (ho:vW s h os m k m') (hc:aS m' ⟨s,(k:Nat)⟩ (outC os[k] h)≠0):fW s h 0 os m=(m',aS m' ⟨s,(k:Nat)⟩ (outC os[k] h)):=by
 unfold vW at ho
 rw [ho,List.drop_eq_getElem_cons hk,fW,if_pos hc]
theorem aF7 {s:ByteArray} {h:Int} {os:List TOut} {m m':List En} {k:Nat} (hk:k<os.length) (ho:vW s h os m k m') (hc:aS m' ⟨s,(k:Nat)⟩ (outC os[k] h)=0):vW s h os m (k+1) (bZ m' ⟨s,(k:Nat)⟩ (outC os[k] h)):=by
 unfold vW at ho ⊢
 rw [ho,List.drop_eq_getElem_cons hk,fW,if_neg (by rw [hc];decide)]
theorem aHe {s:ByteArray} {h:Int} {os:List TOut} {m m':List En} {k:Nat} (hk:os.length≤k) (ho:vW s h os m k m'):fW s h 0 os m=(m',0):=by
 unfold vW at ho
 rw [ho,List.drop_eq_nil_of_le hk];rfl
theorem aD0 {l:List En} (h:CG l) (t:Tx):CG (iJ l t):=by
 unfold iJ
 split
 ·exact h
 ·exact aF8 _ h
theorem aMr (l:List En) (t:Tx):(iJ l t).length≤l.length:=by
 unfold iJ
 split
 ·exact Nat.le_refl _
 ·exact tN _ _
theorem jY {l:List En} (h:CG l) (t:Tx) (i:Nat) (b:Int):CG (cG l t i b).1:=by
 unfold cG
 split
 ·exact h
 ·split
  ·exact h
  ·exact aP9 _ _ (aD0 h t)
theorem pX {l:List En} (h:CG l) (t:Tx) (i:Nat) (b:Int):(cG l t i b).1.length≤l.length+t.outs.length:=by
 unfold cG
 split
 ·simp
 ·split
  ·simp
  ·have:=aNl (s:=idT t) (h:=b) t.outs 0 (aD0 h t)
   have:=aMr l t
   simp only;omega
theorem aQp {l0:List En} {h:Int} (h0:CG l0):∀(txs:List Tx) (i:Nat) {m:List En},CG m→CG (jC l0 h i txs m).1
 | [],_,_,hm=>hm
 |t::ts,i,m,hm=>by
  unfold jC
  split
  ·exact h0
  ·exact aQp h0 ts (i+1) (jY hm t i h)
theorem vI {l:List En} (h:CG l) (txs:List Tx) (b:Int):CG (aP l txs b).1:=by
 unfold aP
 split
 ·exact h
 ·exact aQp h txs 0 h
def cN (txs:List Tx):Nat:=(txs.map fun t=>t.outs.length).sum
theorem aNi {l0:List En} {h:Int}:∀(txs:List Tx) (i:Nat) {m:List En},CG m→l0.length≤m.length+cN txs→(jC l0 h i txs m).1.length≤max l0.length (m.length+cN txs)
 | [],_,m,_,_=>by unfold jC;simp only [cN,List.map_nil,List.sum_nil];omega
 |t::ts,i,m,hm,h5=>by
  unfold jC
  split
  ·simp only;omega
  ·have h1:=pX hm t i h
   have h6:cN (t::ts)=t.outs.length+cN ts:=by simp [cN]
   by_cases h7:l0.length≤(cG m t i h).1.length+cN ts
   ·have:=aNi (l0:=l0) (h:=h) ts (i+1) (jY hm t i h) h7
    omega
   ·have h8:=runL_len' (l0:=l0) (h:=h) ts (i+1) (jY hm t i h)
    omega
where
 runL_len' {l0:List En} {h:Int}:∀(txs:List Tx) (i:Nat) {m:List En},CG m→(jC l0 h i txs m).1.length≤max l0.length (m.length+cN txs)
 | [],_,m,_=>by unfold jC;simp only [cN,List.map_nil,List.sum_nil];omega
 |t::ts,i,m,hm=>by
  unfold jC
  split
  ·simp only;omega
  ·have h1:=pX hm t i h
   have h6:cN (t::ts)=t.outs.length+cN ts:=by simp [cN]
   have h8:=runL_len' (l0:=l0) (h:=h) ts (i+1) (jY hm t i h)
   omega
def tW (l0:List En) (h:Int) (txs:List Tx) (k:Nat) (m:List En):Prop:=jC l0 h 0 txs l0=jC l0 h k (txs.drop k) m
theorem wK {l0:List En} {h:Int} {txs:List Tx}:tW l0 h txs 0 l0:=rfl
theorem aBm {l0 m:List En} {h:Int} {txs:List Tx} {k:Nat} (hk:k<txs.length) (ho:tW l0 h txs k m) (hc:(cG m txs[k] k h).2.1≠0):jC l0 h 0 txs l0=(l0,(cG m txs[k] k h).2.1,((k:Nat):Int),(cG m txs[k] k h).2.2):=by
 unfold tW at ho
 rw [ho,List.drop_eq_getElem_cons hk,jC,if_pos hc]
theorem wU {l0 m:List En} {h:Int} {txs:List Tx} {k:Nat} (hk:k<txs.length) (ho:tW l0 h txs k m) (hc:(cG m txs[k] k h).2.1=0):tW l0 h txs (k+1) (cG m txs[k] k h).1:=by
 unfold tW at ho ⊢
 rw [ho,List.drop_eq_getElem_cons hk,jC,if_neg (by rw [hc];decide)]
theorem aB2 {l0 m:List En} {h:Int} {txs:List Tx} {k:Nat} (hk:txs.length≤k) (ho:tW l0 h txs k m):jC l0 h 0 txs l0=(m,0, -1, -1):=by
 unfold tW at ho
 rw [ho,List.drop_eq_nil_of_le hk];rfl
def hD:List En→List En→Bool × List En
 | [],m=>(true,m)
 |x::xs,m=>if bS m x.1=0∧cH m x.1=x.2 then hD xs (cC m x.1) else (false,cC m x.1)
def qD:List En→List En→Bool × List En
 | [],m=>(true,m)
 |x::xs,m=>if aS m x.1 x.2=0 then qD xs (bZ m x.1 x.2) else (false,m)
def nG (m out inn:List En):Bool × List En:=if (hD out m).1 then qD inn (hD out m).2 else (false,(hD out m).2)
theorem aL7:∀(xs:List En) {m:List En},CG m→CG (hD xs m).2
 | [],_,h=>h
 |x::xs,m,h=>by
  unfold hD
  split
  ·exact aL7 xs (h.take x.1)
  ·exact h.take x.1
theorem aQb:∀(xs:List En) {m:List En},CG m→CG (qD xs m).2
 | [],_,h=>h
 |x::xs,m,h=>by
  unfold qD
  split
  ·exact aQb xs (h.put x.1 x.2)
  ·exact h
theorem take_at {m:List En} (h:Srt m) {x:En} (hx:x∈m):bS m x.1=0∧cH m x.1=x.2:=by
 have ha:=(cF (lM h)).1 hx
 have h1:=aIf (List.Perm.refl m) h x.1
 have h2:=uC (List.Perm.refl m) h x.1
 constructor
 ·rw [←h1];unfold qE;rw [ha];rfl
 ·rw [←h2];unfold iA;rw [ha];rfl
theorem aHc:∀(xs:List En) {m:List En},CG m→(xs.map (·.1)).Nodup→(∀x∈xs,x∈m)→(hD xs m).1=true∧∀e,e∈(hD xs m).2↔e∈m∧e.1∉xs.map (·.1)
 | [],m,_,_,_=>⟨rfl,fun e=>by simp [hD]⟩
 |x::xs,m,h,hn,hs=>by
  have hn':=List.nodup_cons.1 hn
  have hx:=hs x (by simp)
  unfold hD
  rw [if_pos (take_at h.srt hx)]
  have hm:∀e,e∈cC m x.1↔e∈m∧e.1≠x.1:=fun e=>by
   rw [lF h.srt]
   unfold mV
   rw [List.mem_filter];simp
  obtain ⟨h1,h2⟩:=aHc xs (h.take x.1) hn'.2 fun y hy=>(hm y).2 ⟨hs y (by simp [hy]),fun e=>hn'.1 (List.mem_map.2 ⟨y,hy,e⟩)⟩
  refine ⟨h1,fun e=>?_⟩
  rw [h2,hm]
  simp only [List.map_cons,List.mem_cons,not_or]
  constructor
  ·rintro ⟨⟨a,b⟩,c⟩;exact ⟨a,b,c⟩
  ·rintro ⟨a,b,c⟩;exact ⟨⟨a,b⟩,c⟩
theorem aM5:∀(xs:List En) {m:List En},CG m→(xs.map (·.1)).Nodup→(∀x∈xs,aX m x.1=none)→(∀x∈xs,cI x.1 x.2=true)→(∀x∈xs,0≤x.2.v)→tot m+tot xs≤2100000000000000→(qD xs m).1=true∧(qD xs m).2.Perm (m++xs)
 | [],m,_,_,_,_,_,_=>⟨rfl,by simp [qD]⟩
 |x::xs,m,h,hn,h1,h2,h3,h4=>by
  have hn':=List.nodup_cons.1 hn
  have hv:=Mon.pos (m:=xs) fun y hy=>h3 y (by simp [hy])
  have hv0:=h3 x (by simp)
  have hm0:=Mon.pos h.mon.1
  simp only [aTh] at h4
  have hc:aS m x.1 x.2=0:=by
   rw [aC1 (h2 x (by simp)) (by
    cases hi:cQ m x.1
    ·rfl
    ·have:=rA m x.1
     rw [h1 x (by simp),hi] at this;cases this),if_pos ((cX _).2 ⟨by omega,by omega⟩)]
  have hp:=aEz h.srt hc
  unfold qD
  rw [if_pos hc]
  have hk:∀y∈xs,aX (bZ m x.1 x.2) y.1=none:=fun y hy=>by
   cases ha:aX (bZ m x.1 x.2) y.1 with
   |none=>rfl
   |some c=>
    rcases List.mem_append.1 (hp.mem_iff.1 (kM ha)) with h5|h5
    ·have:=(cF h.nodup).1 h5
     rw [h1 y (by simp [hy])] at this;cases this
    ·simp only [List.mem_singleton] at h5
     have e:y.1=x.1:=congrArg (·.1) h5
     exact absurd (List.mem_map.2 ⟨y,hy,e⟩) hn'.1
  obtain ⟨g1,g2⟩:=aM5 xs (h.put x.1 x.2) hn'.2 hk (fun y hy=>h2 y (by simp [hy])) (fun y hy=>h3 y (by simp [hy])) (by rw [pH hp];simp;omega)
  refine ⟨g1,g2.trans ?_⟩
  have:=hp.append_right xs
  refine this.trans ?_
  rw [List.append_assoc];exact List.Perm.refl _
theorem gP {a b:List En} {e:En}:e∈bO a b↔e∈a∧aX b e.1≠some e.2:=by
 unfold bO
 rw [List.mem_filter];simp
theorem sX {a b:List En} (h:(a.map (·.1)).Nodup):((bO a b).map (·.1)).Nodup:=List.Nodup.sublist (List.Sublist.map _ List.filter_sublist) h
theorem aBl {a b:List En} (ha:CG a) (hb:CG b):nG a (bO a b) (bO b a)=(true,b):=by
 obtain ⟨h1,h2⟩:=aHc (bO a b) ha (sX ha.nodup) fun x hx=>(gP.1 hx).1
 have hg:=aL7 (bO a b) ha
 generalize hq:hD (bO a b) a=q at h1 h2 hg
 obtain ⟨qt,m⟩:=q
 simp only at h1 h2 hg
 subst h1
 have hm:∀e,e∈m↔e∈a∧e∈b:=fun e=>by
  rw [h2]
  refine and_congr_right fun hea=>?_
  constructor
  ·intro hn
   by_cases hb2:aX b e.1=some e.2
   ·exact (cF hb.nodup).2 hb2
   ·exact absurd (List.mem_map_of_mem (f:=(·.1)) (gP.2 ⟨hea,hb2⟩)) hn
  ·intro heb hn
   obtain ⟨y,hy,e1⟩:=List.mem_map.1 hn
   obtain ⟨y1,y2⟩:=gP.1 hy
   have e2:=(cF ha.nodup).1 y1
   have e3:=(cF ha.nodup).1 hea
   have e4:=(cF hb.nodup).1 heb
   rw [e1] at e2 y2
   rw [e3] at e2
   exact y2 (e4.trans e2)
 have hpb:(m++bO b a).Perm b:=by
  refine (List.perm_ext_iff_of_nodup ?_ (gZ hb.nodup)).2 fun e=>?_
  ·rw [List.nodup_append]
   refine ⟨gZ hg.nodup,gZ (sX hb.nodup),fun x hx y hy e=>?_⟩
   subst e
   have:=((hm _).1 hx).1
   exact (gP.1 hy).2 ((cF ha.nodup).1 this)
  ·rw [List.mem_append,hm,gP]
   constructor
   ·rintro (h|h)
    ·exact h.2
    ·exact h.1
   ·intro h
    by_cases h3:aX a e.1=some e.2
    ·exact .inl ⟨(cF ha.nodup).2 h3,h⟩
    ·exact .inr ⟨h,h3⟩
 have ht:tot m+tot (bO b a)=tot b:=by rw [←wR,pH hpb]
 obtain ⟨g1,g2⟩:=aM5 (bO b a) hg (sX hb.nodup) (fun x hx=>by
   cases hx2:aX m x.1 with
   |none=>rfl
   |some c=>
    have h5:=(hm _).1 (kM hx2)
    have h6:=(cF hb.nodup).1 h5.2
    have h7:=(cF hb.nodup).1 (gP.1 hx).1
    simp only at h6
    rw [h6] at h7
    cases h7
    exact absurd ((cF ha.nodup).1 h5.1) (gP.1 hx).2)
  (fun x hx=>hb.fm x (gP.1 hx).1) (fun x hx=>hb.mon.1 x (gP.1 hx).1) (by rw [ht];exact hb.mon.2)
 unfold nG
 rw [hq]
 simp only [if_true]
 have e:(qD (bO b a) m).2=b:=aW7 (aQb _ hg).srt hb.srt fun x=>(g2.trans hpb).mem_iff
 exact Prod.ext g1 e
end
end Go.K
