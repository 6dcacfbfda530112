/- Contracts: may an input open a lock, and when? Contracts: ma -/
import Derived.Test.YtgloknkcfchnlaaGreatZ26
set_option linter.unusedVariables false
set_option linter.unusedSimpArgs false
namespace Go.Proofs.YtgloknkcfchnlaaGreat
section
open Go Go.K
attribute [local irreducible] aF aP bG KOp.wp K.Spec u32 leS vnS str aR cF bU dF iT nL
theorem aYo {s:ByteArray} {b:Br} (h:b∈dF s):BrOk b:=by
 unfold dF at h
 split at h
 ·unfold nL at h
  obtain ⟨j,_,rfl⟩:=List.mem_map.1 h
  exact bF9 s j
 ·simp at h
set_option maxHeartbeats 1000000 in
theorem aYl {v:Value} {l:List ByteArray} (s:ByteArray) (hm:s.size≤1000000) (w:World) (hv:SlE bL w v l) (hz:∀z∈l,z.size≤1000000):K.Spec Tryz.prog F.lock_chosen [.string s,v] w fun r w'=>
  ∃b,r=.tuple #[.agg (brE.f b).toArray,.bool (dQ s l).isSome]∧BrOk b∧(∀c,dQ s l=some c→b=c)∧Ext w w':=by
 have hz0:BrOk ⟨0,0,0⟩:=⟨by decide,by decide,by decide⟩
 refine aS3 rfl ?_
 unfold aGt
 refine oy ?_
 repeat' (first|refine zH (d:=some 4) (fun b4 w4 x4 a4 hb4=>?_)|(refine zC (d:=some 13) rfl (bHx s hm _) ?_;rintro _ w5 ⟨u,e,rfl,hl,he,hbu,x5⟩;have l4:=a4.lt)|(refine zC (d:=some 18) rfl (aZ7 _ (SlE.ext (w:=w) (by exact fx) hv) hz) ?_;rintro _ w6 ⟨rfl,x6⟩;have x06:Ext w w6:=(by exact fx);replace hl:=hl.ext x6;have a6:At w6 b4 _:=a4.ext (x5.trans x6);clear x4 x5 x6 a4)|refine go1 ?_|refine zg λ_ _=>?_|refine zi λ_ _=>?_)
 cases hsg:iT l with
 |none=>
  have e1:aAa l=.tuple #[.int .i64 0,.int .u16 0,.int .i64 4]:=by unfold aAa;rw [hsg]
  have e2:dQ s l=none:=by unfold dQ;rw [hsg];rfl
  rw [e1,e2]
  by_cases h0:e=0
  all_goals
   repeat' (first|refine aD (d:=some 23) (.bool false) rfl (by show some (Value.bool (!decide (e=0)))=_;rw [dTr h0];rfl) ?_|refine aD (d:=some 23) (.bool true) rfl (by show some (Value.bool (!decide (e=0)))=_;rw [dFa h0];rfl) ?_|refine aT (d:=some 34) (cs:=brE.f ⟨0,0,0⟩) rfl ?_|refine aU (w0:=w) (vs:=brE.f ⟨0,0,0⟩) (by exact fx) hb4 (by focus (repeat (first|assumption|(apply At.ext;assumption)))) rfl rfl rfl rfl rfl (fun w9 x9 c9 a9 r9=>?_)|refine go1 ?_|refine zg λ_ _=>?_|refine zi λ_ _=>?_)
   exact aA (iR (bD r9 rfl rfl) bJ) ⟨⟨0,0,0⟩,rfl,hz0,(fun c h=>by cases h),x9⟩
 |some p=>
  obtain ⟨a,t⟩:=p
  have e1:aAa l=.tuple #[.int .i64 (a:Nat),.int .u16 (t:Nat),.int .i64 0]:=by unfold aAa;rw [hsg]
  have e2:dQ s l=((dF s)[a]?).bind fun b=>if b.tag=0∨b.tag=t then some b else none:=by unfold dQ;rw [hsg];rfl
  rw [e1]
  by_cases h0:e=0
  ·by_cases ha:a<(dF s).length
   ·have hok:=aYo (gMe ha)
    have g1:=hok.tag
    have g2:t<65536:=by
     unfold iT at hsg
     split at hsg
     ·have:=iL (l.headD default) 2 1
      simp only [Option.some.injEq,Prod.mk.injEq] at hsg
      omega
     ·cases hsg
    rw [List.getElem?_eq_getElem ha] at e2
    have e2:dQ s l=if (dF s)[a].tag=0∨(dF s)[a].tag=t then some (dF s)[a] else none:=e2
    generalize hB:(dF s)[a]=B at e2 hok g1
    repeat' (first|refine aD (d:=some 23) (.bool false) rfl (by show some (Value.bool (!decide (e=0)))=_;rw [dTr h0];rfl) ?_|refine aY (d:=some 31) (E:=brE) (l:=dF s) rfl hl ?_|refine aD (d:=some 32) (.bool false) rfl (congrArg (fun b=>some (Value.bool b)) (dFa (by omega))) ?_|(refine zg (fun w7 x7=>?_);replace hl:=hl.ext x7)|(refine aS (d:=some 37) (E:=brE) rfl rfl (n:=a) (l:=dF s) hl rfl ha (fun ad r4=>?_);rw [hB] at r4;have r4:Row _ ad [.int .u16 (B.tag:Nat),.int .u16 (B.delay:Nat),.int .u32 (B.height:Nat)]:=r4)|(refine aS (d:=some 41) (E:=brE) rfl rfl (n:=a) (l:=dF s) hl rfl ha (fun ad r5=>?_);rw [hB] at r5;have r5:Row _ ad [.int .u16 (B.tag:Nat),.int .u16 (B.delay:Nat),.int .u32 (B.height:Nat)]:=r5)|(refine bGv (d:=some 48) (E:=brE) rfl rfl (n:=a) (l:=dF s) hl rfl ha (fun ad r6 hba=>?_);rw [hB] at r6;have r6:Row _ ad [.int .u16 (B.tag:Nat),.int .u16 (B.delay:Nat),.int .u32 (B.height:Nat)]:=r6)|refine zJ (p:=((B.tag:Nat):Int)=0) rfl (fun h=>?_) (fun h=>?_)|refine fD ?_ ?_|(refine aU (w0:=w) (vs:=brE.f B) (by exact fx) hb4 (by focus (repeat (first|assumption|(apply At.ext;assumption)))) rfl rfl rfl rfl rfl (fun w9 x9 c9 a9 r9=>?_);try (replace r6:=Row.chg c9 r6 (by have:=hbu _ hba;simp;omega)))|refine go1 ?_|refine zg λ_ _=>?_|refine zi λ_ _=>?_)
    all_goals
     have hcc:dQ s l=some B∨dQ s l=none∧¬(((B.tag:Nat):Int)=0)∧¬(((B.tag:Nat):Int)=(t:Nat)):=by
      rw [e2]
      by_cases q:B.tag=0∨B.tag=t
      ·exact .inl (if_pos q)
      ·exact .inr ⟨if_neg q,by omega,by omega⟩
     have hval:(dQ s l).isSome=(decide (((B.tag:Nat):Int)=0)||decide (((B.tag:Nat):Int)=(t:Nat))):=by
      rcases hcc with q|⟨q,q1,q2⟩
      ·rw [q]
       rw [e2] at q
       have:B.tag=0∨B.tag=t:=by
        by_cases q3:B.tag=0∨B.tag=t
        ·exact q3
        ·rw [if_neg q3] at q;cases q
       rcases this with q4|q4
       ·rw [dTr (by omega)];rfl
       ·rw [dTr (p:=((B.tag:Nat):Int)=(t:Nat)) (by omega),Bool.or_true];rfl
      ·rw [q,dFa q1,dFa q2];rfl
     rw [hval]
     refine aA (iR (bD r9 rfl rfl) bJ) ⟨B,?_,hok,fun c hc=>?_,x9⟩
     ·first
       |(rw [dTr (by assumption:((B.tag:Nat):Int)=0)];rfl)
       |(rw [dFa (by assumption:¬((B.tag:Nat):Int)=0)];rfl)
     ·rcases hcc with q|⟨q,_⟩
      ·rw [q] at hc;injection hc
      ·rw [q] at hc;cases hc
   ·have e2:dQ s l=none:=by rw [e2,List.getElem?_eq_none (by omega)];rfl
    rw [e2]
    repeat' (first|refine aD (d:=some 23) (.bool false) rfl (by show some (Value.bool (!decide (e=0)))=_;rw [dTr h0];rfl) ?_|refine aY (d:=some 31) (E:=brE) (l:=dF s) rfl hl ?_|refine aD (d:=some 32) (.bool true) rfl (congrArg (fun b=>some (Value.bool b)) (dTr (by omega))) ?_|refine aT (d:=some 34) (cs:=brE.f ⟨0,0,0⟩) rfl ?_|refine aU (w0:=w) (vs:=brE.f ⟨0,0,0⟩) (by exact fx) hb4 (by focus (repeat (first|assumption|(apply At.ext;assumption)))) rfl rfl rfl rfl rfl (fun w9 x9 c9 a9 r9=>?_)|refine go1 ?_|refine zg λ_ _=>?_|refine zi λ_ _=>?_)
    exact aA (iR (bD r9 rfl rfl) bJ) ⟨⟨0,0,0⟩,rfl,hz0,(fun c h=>by cases h),x9⟩
  ·have e2:dQ s l=none:=by rw [e2,he h0];rfl
   rw [e2]
   repeat' (first|refine aD (d:=some 23) (.bool true) rfl (by show some (Value.bool (!decide (e=0)))=_;rw [dFa h0];rfl) ?_|refine aT (d:=some 34) (cs:=brE.f ⟨0,0,0⟩) rfl ?_|refine aU (w0:=w) (vs:=brE.f ⟨0,0,0⟩) (by exact fx) hb4 (by focus (repeat (first|assumption|(apply At.ext;assumption)))) rfl rfl rfl rfl rfl (fun w9 x9 c9 a9 r9=>?_)|refine go1 ?_|refine zg λ_ _=>?_|refine zi λ_ _=>?_)
   exact aA (iR (bD r9 rfl rfl) bJ) ⟨⟨0,0,0⟩,rfl,hz0,(fun c h=>by cases h),x9⟩
end
section
open Go Go.K
attribute [local irreducible] aF aP bG KOp.wp K.Spec u32 leS vnS str aR cF bU dF iT nL dQ
theorem bS3 {q:Int} (h:dM q):bZ .and (.int .u32 q) (.int .u32 65535)=some (.int .u32 (q%65536)):=by
 obtain ⟨n,rfl⟩:∃n:Nat,q=(n:Nat):=⟨q.toNat,by have:=h.1;omega⟩
 have h2:n<4294967296:=by have:=h.2;omega
 simp only [bZ,dY,Bool.false_eq_true,if_false,if_true,dS,IntKind.bits]
 have e:(BitVec.ofInt 32 ((n:Nat):Int)&&& BitVec.ofInt 32 65535).toNat=n%65536:=by
  rw [BitVec.toNat_and,BitVec.toNat_ofInt,BitVec.toNat_ofInt]
  rw [show (((n:Nat):Int)%((2^32:Nat):Int)).toNat=n by omega,show ((65535:Int)%((2^32:Nat):Int)).toNat=2^16 - 1 by decide]
  exact Nat.and_two_pow_sub_one_eq_mod n 16
 exact (congrArg (fun x:Nat=>some (Value.int .u32 (IntKind.u32.wrap (x:Int)))) e).trans (congrArg (fun x=>some (Value.int .u32 x)) (by rw [aSq (by omega)];rfl))
theorem xN {t:Tx} {x:TIn} (h:dM x.q):0≤gS t x∧gS t x<65536:=by
 unfold gS
 split<;>omega
theorem aQ7 {M:List Nat} {cs:List Value} {t:Tx} (i:Nat) (hi:i<t.ins.length) (hs:t.ins.length≤1000) (w:World) (ht:txR.rel M w cs t):K.Spec Tryz.prog F.lock_waits [.agg cs.toArray,.int .i64 (i:Nat)] w fun r w'=>r=.int .i64 (gS t t.ins[i])∧Ext w w':=by
 obtain ⟨iv,ov,rfl,h1,h2,h3,h4⟩:=ht
 refine aVx rfl ?_
 unfold aKw
 refine oy ?_
 repeat' (first|refine zD rfl rfl (fun bp wp xp ap (rp:Row wp ⟨bp,0,none⟩ (aJ t iv ov)) hp0=>?_)|(refine aM (d:=some 9) (E:=inR) (M:=M) rfl rfl (n:=i) (l:=t.ins) (SlR.ext h1 (by exact fx)) rfl hi (fun ad cs r4 he=>?_);obtain ⟨wv,rfl,hw,hp5,hp6⟩:=he)|refine zJ (p:=t.ins[i].q<2147483648) rfl (fun h=>?_) (fun h=>?_)|refine zL (p:=t.ver≥2) rfl (fun h=>?_) (fun h=>?_)|refine cR (d:=some 20) rfl rfl (bS3 hp6) ?_|refine aD (d:=some 21) (.int .i64 (t.ins[i].q%65536)) rfl (congrArg (fun n=>some (Value.int .i64 n)) (IntWalk.i64_in _ (by omega))) ?_|refine go1 ?_|refine zg λ_ _=>?_|refine zi λ_ _=>?_)
 ·exact aA rfl ⟨by rw [gS,if_pos ⟨‹t.ins[i].q<2147483648›,‹t.ver≥2›⟩];rfl,by exact fx⟩
 ·exact aA rfl ⟨by rw [gS,if_neg (fun hh=>‹¬t.ver≥2› hh.2)];rfl,by exact fx⟩
 ·exact aA rfl ⟨by rw [gS,if_neg (fun hh=>‹¬t.ins[i].q<2147483648› hh.1)];rfl,by exact fx⟩
theorem aIq {M:List Nat} {cs:List Value} {t:Tx} (i:Nat) (hi:i<t.ins.length) (w:World) (ht:txR.rel M w cs t):K.Spec Tryz.prog F.lock_is [.agg cs.toArray,.int .i64 (i:Nat)] w fun r w'=>r=.bool true∧Ext w w':=by
 obtain ⟨iv,ov,rfl,h1,h2,h3,h4⟩:=ht
 refine bJk rfl ?_
 unfold aUx
 refine oy ?_
 repeat' (first|refine zD rfl rfl (fun bp wp xp ap (rp:Row wp ⟨bp,0,none⟩ (aJ t iv ov)) hp0=>?_)|refine zG (d:=some 11) (E:=inR) (M:=M) (l:=t.ins) rfl (SlR.ext h1 (by exact fx)) ?_|refine aD (d:=some 6) (.bool true) rfl (congrArg (fun b=>some (Value.bool b)) (dTr (by omega))) ?_|refine aD (d:=some 12) (.bool true) rfl (congrArg (fun b=>some (Value.bool b)) (dTr (by omega))) ?_|refine go1 ?_|refine zg λ_ _=>?_|refine zi λ_ _=>?_)
 exact aA rfl ⟨rfl,by exact fx⟩
set_option maxHeartbeats 2000000 in
theorem bG9 {M:List Nat} {cs:List Value} {t:Tx} (s:ByteArray) (hm:s.size≤1000000) (i:Nat) (hi:i<t.ins.length) (hs:t.ins.length≤1000) (hz:∀z∈t.ins[i].wit,z.size≤1000000) (w:World) (ht:txR.rel M w cs t):K.Spec Tryz.prog F.lock_Open [.string s,.agg cs.toArray,.int .i64 (i:Nat)] w fun r w'=>r=.int .i64 (iX s t t.ins[i])∧Ext w w':=by
 have ht0:=ht
 obtain ⟨iv,ov,rfl,h1,h2,h3,h4⟩:=ht
 refine aX8 rfl ?_
 unfold aM0
 refine oy ?_
 repeat (first|refine zD rfl rfl (fun bp wp xp ap (rp:Row wp ⟨bp,0,none⟩ (aJ t iv ov)) hp0=>?_)|(refine zC (d:=some 11) rfl (aIq (M:=M) (t:=t) (cs:=aJ t iv ov) i hi _ (R.ext ht0 (by exact fx))) ?_;rintro _ w2 ⟨rfl,x2⟩)|(refine aM (d:=some 18) (E:=inR) (M:=M) rfl rfl (n:=i) (l:=t.ins) (SlR.ext h1 (by exact fx)) rfl hi (fun ad cs r4 he=>?_);obtain ⟨wv,rfl,hw,hp5,hp6⟩:=he)|(refine zC (d:=some 21) rfl (aYl s hm _ (SlR.toE (F:=bL) (ag:=false) (SlR.ext hw (by exact fx))) hz) ?_;rintro _ w5 ⟨b,rfl,hb,hcb,x5⟩)|refine zE (d':=7) (fun _=>rfl) rfl rfl rfl (fun b7 w7 x7 a7 (r7:Row w7 ⟨b7,0,none⟩ [.int .u16 (b.tag:Nat),.int .u16 (b.delay:Nat),.int .u32 (b.height:Nat)]) hb7=>?_)|refine go1 ?_|refine zg λ_ _=>?_|refine zi λ_ _=>?_)
 have hwb:=xN (t:=t) hp6
 have hd:=hb.delay
 have hh9:=hb.height
 have xw7:Unit→Ext w w7:=fun _=>by exact fx
 have h17:=h1.ext (xw7 ())
 have ht7:=R.ext ht0 (xw7 ())
 have rp7:Row w7 ⟨bp,0,none⟩ (aJ t iv ov):=rp.ext (by exact fx)
 clear xp x2 x5 x7 hw h1 rp r4
 cases hc:dQ s t.ins[i].wit with
 |none=>
  have e:iX s t t.ins[i]=9:=by unfold iX;rw [hc]
  rw [e]
  repeat' (first|refine go1 ?_|refine zg λ_ _=>?_|refine zi λ_ _=>?_)
  exact aA rfl ⟨rfl,xw7 ()⟩
 |some c=>
  obtain rfl:=hcb c hc
  have e:iX s t t.ins[i]=if gS t t.ins[i]<(b.delay:Int) then 10 else if b.height>0∧(t.lock<(b.height:Int)∨t.ins[i].q=4294967295) then 10 else 0:=by unfold iX;rw [hc]
  repeat' (first|refine wK (x:=.tmp 24) rfl ?_|refine zg (fun w8 x8=>?_)|refine fD ?_ ?_|(refine zC (d:=some 30) rfl (aQ7 (M:=M) (t:=t) (cs:=aJ t iv ov) i hi hs _ (R.ext ht7 (by exact fx))) ?_;rintro _ w9 ⟨rfl,x9⟩)|refine aD (d:=some 33) (.int .i64 (b.delay:Nat)) rfl (congrArg (fun n=>some (Value.int .i64 n)) (IntWalk.i64_in _ (by omega))) ?_|refine zL (p:=gS t t.ins[i]<(b.delay:Int)) rfl (fun h=>?_) (fun h=>?_)|refine zJ (t:=39) (p:=((b.height:Nat):Int)>0) rfl (fun h=>?_) (fun h=>?_)|refine zJ (t:=45) (p:=t.lock<((b.height:Nat):Int)) rfl (fun h=>?_) (fun h=>?_)|(refine aM (d:=some 49) (E:=inR) (M:=M) rfl rfl (n:=i) (l:=t.ins) (SlR.ext h17 (by exact fx)) rfl hi (fun ad cs r4 he=>?_);obtain ⟨wv,rfl, -, -, -⟩:=he)|refine zL (p:=t.ins[i].q=4294967295) rfl (fun h=>?_) (fun h=>?_)|refine go1 ?_|refine zg λ_ _=>?_|refine zi λ_ _=>?_)
  all_goals
   rw [e]
   first
    |(rw [if_pos (by assumption)];exact aA rfl ⟨rfl,Ext.trans (xw7 ()) (by exact fx)⟩)
    |(rw [if_neg (by assumption),if_pos ⟨by omega,.inl (by assumption)⟩];exact aA rfl ⟨rfl,Ext.trans (xw7 ()) (by exact fx)⟩)
    |(rw [if_neg (by assumption),if_pos ⟨by omega,.inr (by assumption)⟩];exact aA rfl ⟨rfl,Ext.trans (xw7 ()) (by exact fx)⟩)
    |(rw [if_neg (by assumption),if_neg (fun hh=>by omega)];exact aA rfl ⟨rfl,Ext.trans (xw7 ()) (by exact fx)⟩)
    |trace_state
theorem sM (n:Int) (w:World):K.Spec Tryz.prog F.lock_height [.int .i64 n] w fun r w'=>r=.bool (mA n)∧Ext w w':=by
 refine aTf rfl ?_
 unfold aGo
 refine oy ?_
 repeat' (first|refine zJ (p:=n≥0) rfl (fun h=>?_) (fun h=>?_)|refine go1 ?_|refine zg λ_ _=>?_|refine zi λ_ _=>?_)
 ·exact aA rfl ⟨congrArg Value.bool (by unfold mA;simp;omega),Ext.refl _⟩
 ·exact aA rfl ⟨congrArg Value.bool (by unfold mA;symm;exact dFa (by omega)),Ext.refl _⟩
theorem bK9:cK Tryz.prog F.lock_Ripe_1=true:=by kernel_rfl
theorem bDj (x:TIn) (wv:Value) (w:World) (hw:wv.oneCell'=true):K.Spec Tryz.prog F.lock_Ripe_1 [.agg (eJ x wv).toArray] w fun r w'=>r=.bool (!decide (x.q=4294967295))∧Ext w w':=by
 refine aSv rfl ?_
 unfold aGb
 refine oy ?_
 repeat' (first|refine go1 ?_|refine zg λ_ _=>?_|refine zi λ_ _=>?_|refine zD rfl rfl (fun bp wp xp ap (rp:Row wp ⟨bp,0,none⟩ (eJ x wv)) hp0=>?_))
 exact aA rfl ⟨rfl,by exact fx⟩
set_option maxHeartbeats 2000000 in
theorem bHk {M:List Nat} {cs:List Value} {t:Tx} (i:Nat) (hi:i<t.ins.length) (hs:t.ins.length≤1000) (c bl:Int) (w:World) (ht:txR.rel M w cs t):K.Spec Tryz.prog F.lock_Ripe [.agg cs.toArray,.int .i64 (i:Nat),.int .i64 c,.int .i64 bl] w fun r w'=>r=.bool (jD t t.ins[i] c bl)∧Ext w w':=by
 have ht0:=ht
 obtain ⟨iv,ov,rfl,h1,h2,h3,h4⟩:=ht
 have hq:dM t.ins[i].q:=by
  obtain ⟨css,hsl,hall,_⟩:=h1
  obtain ⟨_,_,_,_,hq⟩:=All2.get hall i (by rw [hall.length];exact hi) hi
  exact hq
 have hwb:=xN (t:=t) hq
 have h42:=h4.2
 have h41:=h4.1
 have tl:∀w1,Ext w w1→sL F.lock_Ripe_1 [] inR (fun cs=>.agg cs.toArray) M w1 t.ins (fun x=>!decide (x.q=4294967295)):=fun w1 x1 y hy w' cs x2 hc=>by
  obtain ⟨wv,rfl,hw,_⟩:=hc
  exact bDj y wv w' hw.one
 have hany:(!t.ins.any fun x=>!decide (x.q=4294967295))=t.ins.all fun x=>decide (x.q=4294967295):=by
  rw [List.all_eq_not_any_not]
 have fail1:mA c=false→jD t t.ins[i] c bl=false:=fun e=>by unfold jD;rw [e];rfl
 have fail2:mA bl=false→jD t t.ins[i] c bl=false:=fun e=>by unfold jD;rw [e];simp
 have fail3:¬c+gS t t.ins[i]≤bl→jD t t.ins[i] c bl=false:=fun e=>by unfold jD;rw [dFa e];simp
 have good:mA c=true→mA bl=true→c+gS t t.ins[i]≤bl→jD t t.ins[i] c bl=(decide (t.lock<bl)||t.ins.all fun y=>decide (y.q=4294967295)):=fun e1 e2 e3=>by unfold jD;rw [e1,e2,dTr e3];rfl
 cases hc:mA c with
 |false=>
  rw [fail1 hc]
  refine aDv rfl ?_
  unfold xI
  refine oy ?_
  repeat' (first|refine zD rfl rfl (fun bp wp xp ap (rp:Row wp ⟨bp,0,none⟩ (aJ t iv ov)) hp0=>?_)|(refine zC (d:=some 11) rfl (aIq (M:=M) (t:=t) (cs:=aJ t iv ov) i hi _ (R.ext ht0 (by exact fx))) ?_;rintro _ w2 ⟨rfl,x2⟩)|(refine zC (d:=some 15) rfl (sM c _) ?_;rintro _ w3 ⟨rfl,x3⟩;rw [hc])|refine go1 ?_|refine zg λ_ _=>?_|refine zi λ_ _=>?_)
  exact aA rfl ⟨rfl,by exact fx⟩
 |true=>
  have hc2:0≤c∧c≤1000000:=of_decide_eq_true hc
  cases hh:mA bl with
  |false=>
   rw [fail2 hh]
   refine aDv rfl ?_
   unfold xI
   refine oy ?_
   repeat' (first|refine zD rfl rfl (fun bp wp xp ap (rp:Row wp ⟨bp,0,none⟩ (aJ t iv ov)) hp0=>?_)|(refine zC (d:=some 11) rfl (aIq (M:=M) (t:=t) (cs:=aJ t iv ov) i hi _ (R.ext ht0 (by exact fx))) ?_;rintro _ w2 ⟨rfl,x2⟩)|(refine zC (d:=some 15) rfl (sM c _) ?_;rintro _ w3 ⟨rfl,x3⟩;rw [hc])|(refine zC (d:=some 20) rfl (sM bl _) ?_;rintro _ w4 ⟨rfl,x4⟩;rw [hh])|refine go1 ?_|refine zg λ_ _=>?_|refine zi λ_ _=>?_)
   exact aA rfl ⟨rfl,by exact fx⟩
  |true=>
   have hh2:0≤bl∧bl≤1000000:=of_decide_eq_true hh
   refine aDv rfl ?_
   unfold xI
   refine oy ?_
   repeat' (first|refine zD rfl rfl (fun bp wp xp ap (rp:Row wp ⟨bp,0,none⟩ (aJ t iv ov)) hp0=>?_)|(refine zC (d:=some 11) rfl (aIq (M:=M) (t:=t) (cs:=aJ t iv ov) i hi _ (R.ext ht0 (by exact fx))) ?_;rintro _ w2 ⟨rfl,x2⟩)|(refine zC (d:=some 15) rfl (sM c _) ?_;rintro _ w3 ⟨rfl,x3⟩;rw [hc])|(refine zC (d:=some 20) rfl (sM bl _) ?_;rintro _ w4 ⟨rfl,x4⟩;rw [hh])|(refine zC (d:=some 28) rfl (aQ7 (M:=M) (t:=t) (cs:=aJ t iv ov) i hi hs _ (R.ext ht0 (by exact fx))) ?_;rintro _ w5 ⟨rfl,x5⟩)|refine zL (p:=bl<c+gS t t.ins[i]) rfl (fun h=>?_) (fun h=>?_)|refine aD (d:=some 34) (.int .i64 t.lock) rfl (congrArg (fun n=>some (Value.int .i64 n)) (IntWalk.i64_in _ (by omega))) ?_|refine zJ (t:=37) (p:=t.lock<bl) rfl (fun h=>?_) (fun h=>?_)|(refine zC (d:=some 40) rfl (rH (l:=t.ins) (M:=M) (g:=F.lock_Ripe_1) (capl:= []) (p:=fun x=>!decide (x.q=4294967295)) _ bK9 (SlR.ext h1 (by exact fx)) (by omega) (tl _ (by exact fx))) ?_;rintro _ w6 ⟨rfl,x6⟩)|refine go1 ?_|refine zg λ_ _=>?_|refine zi λ_ _=>?_)
   ·rw [fail3 (by omega)]
    exact aA rfl ⟨rfl,by exact fx⟩
   ·rw [good hc hh (by omega),dTr (by assumption)]
    exact aA rfl ⟨rfl,by exact fx⟩
   ·rw [good hc hh (by omega),dFa (by assumption)]
    exact aA rfl ⟨congrArg Value.bool hany,by exact fx⟩
end
end Go.Proofs.YtgloknkcfchnlaaGreat
