/- Contracts: may an input open a lock, and when? Contracts: ma -/
import Derived.Test.YtgloknkcfchnlaaGreatDoorZ29
set_option linter.unusedVariables false
set_option linter.unusedSimpArgs false
namespace Go.Proofs.YtgloknkcfchnlaaGreatDoor
section
open Go Go.K
attribute [local irreducible] aD aK aV KOp.wp K.Spec u32 leS vnS str aN bM bE bU eI hY
theorem aKu {s:ByteArray} {b:Br} (h:b∈bU s):BrOk b:=by
 unfold bU at h
 split at h
 ·unfold hY at h
  obtain ⟨j,_,rfl⟩:=List.mem_map.1 h
  exact aPx s j
 ·simp at h
set_option maxHeartbeats 1000000 in
theorem aKq {v:Value} {l:List ByteArray} (s:ByteArray) (hm:s.size≤1000000) (w:World) (hv:SlE jD w v l) (hz:∀z∈l,z.size≤1000000):K.Spec Tryz.prog F.lock_chosen [.string s,v] w fun r w'=>
  ∃b,r=.tuple #[.agg (brE.f b).toArray,.bool (cC s l).isSome]∧BrOk b∧(∀c,cC s l=some c→b=c)∧Ext w w':=by
 have hz0:BrOk ⟨0,0,0⟩:=⟨by decide,by decide,by decide⟩
 refine aF8 rfl ?_
 unfold vM
 refine oy ?_
 repeat' (first|refine zH (d:=some 4) (fun b4 w4 x4 a4 hb4=>?_)|(refine zC (d:=some 13) rfl (aRt s hm _) ?_;rintro _ w5 ⟨u,e,rfl,hl,he,hbu,x5⟩;have l4:=a4.lt)|(refine zC (d:=some 18) rfl (aJp _ (SlE.ext (w:=w) (by exact fx) hv) hz) ?_;rintro _ w6 ⟨rfl,x6⟩;have x06:Ext w w6:=(by exact fx);replace hl:=hl.ext x6;have a6:At w6 b4 _:=a4.ext (x5.trans x6);clear x4 x5 x6 a4)|refine go1 ?_|refine zg λ_ _=>?_|refine zi λ_ _=>?_)
 cases hsg:eI l with
 |none=>
  have e1:pK l=.tuple #[.int .i64 0,.int .u16 0,.int .i64 4]:=by unfold pK;rw [hsg]
  have e2:cC s l=none:=by unfold cC;rw [hsg];rfl
  rw [e1,e2]
  by_cases h0:e=0
  all_goals
   repeat' (first|refine aG (d:=some 23) (.bool false) rfl (by show some (Value.bool (!decide (e=0)))=_;rw [dTr h0];rfl) ?_|refine aG (d:=some 23) (.bool true) rfl (by show some (Value.bool (!decide (e=0)))=_;rw [dFa h0];rfl) ?_|refine bR (d:=some 34) (cs:=brE.f ⟨0,0,0⟩) rfl ?_|refine bQ (w0:=w) (vs:=brE.f ⟨0,0,0⟩) (by exact fx) hb4 (by focus (repeat (first|assumption|(apply At.ext;assumption)))) rfl rfl rfl rfl rfl (fun w9 x9 c9 a9 r9=>?_)|refine go1 ?_|refine zg λ_ _=>?_|refine zi λ_ _=>?_)
   exact aB (kU (cB r9 rfl rfl) bZ) ⟨⟨0,0,0⟩,rfl,hz0,(fun c h=>by cases h),x9⟩
 |some p=>
  obtain ⟨a,t⟩:=p
  have e1:pK l=.tuple #[.int .i64 (a:Nat),.int .u16 (t:Nat),.int .i64 0]:=by unfold pK;rw [hsg]
  have e2:cC s l=((bU s)[a]?).bind fun b=>if b.tag=0∨b.tag=t then some b else none:=by unfold cC;rw [hsg];rfl
  rw [e1]
  by_cases h0:e=0
  ·by_cases ha:a<(bU s).length
   ·have hok:=aKu (gMe ha)
    have g1:=hok.tag
    have g2:t<65536:=by
     unfold eI at hsg
     split at hsg
     ·have:=eE (l.headD default) 2 1
      simp only [Option.some.injEq,Prod.mk.injEq] at hsg
      omega
     ·cases hsg
    rw [List.getElem?_eq_getElem ha] at e2
    have e2:cC s l=if (bU s)[a].tag=0∨(bU s)[a].tag=t then some (bU s)[a] else none:=e2
    generalize hB:(bU s)[a]=B at e2 hok g1
    repeat' (first|refine aG (d:=some 23) (.bool false) rfl (by show some (Value.bool (!decide (e=0)))=_;rw [dTr h0];rfl) ?_|refine bN (d:=some 31) (E:=brE) (l:=bU s) rfl hl ?_|refine aG (d:=some 32) (.bool false) rfl (congrArg (fun b=>some (Value.bool b)) (dFa (by omega))) ?_|(refine zg (fun w7 x7=>?_);replace hl:=hl.ext x7)|(refine aL (d:=some 37) (E:=brE) rfl rfl (n:=a) (l:=bU s) hl rfl ha (fun ad r4=>?_);rw [hB] at r4;have r4:Row _ ad [.int .u16 (B.tag:Nat),.int .u16 (B.delay:Nat),.int .u32 (B.height:Nat)]:=r4)|(refine aL (d:=some 41) (E:=brE) rfl rfl (n:=a) (l:=bU s) hl rfl ha (fun ad r5=>?_);rw [hB] at r5;have r5:Row _ ad [.int .u16 (B.tag:Nat),.int .u16 (B.delay:Nat),.int .u32 (B.height:Nat)]:=r5)|(refine aP5 (d:=some 48) (E:=brE) rfl rfl (n:=a) (l:=bU s) hl rfl ha (fun ad r6 hba=>?_);rw [hB] at r6;have r6:Row _ ad [.int .u16 (B.tag:Nat),.int .u16 (B.delay:Nat),.int .u32 (B.height:Nat)]:=r6)|refine zJ (p:=((B.tag:Nat):Int)=0) rfl (fun h=>?_) (fun h=>?_)|refine lA ?_ ?_|(refine bQ (w0:=w) (vs:=brE.f B) (by exact fx) hb4 (by focus (repeat (first|assumption|(apply At.ext;assumption)))) rfl rfl rfl rfl rfl (fun w9 x9 c9 a9 r9=>?_);try (replace r6:=Row.chg c9 r6 (by have:=hbu _ hba;simp;omega)))|refine go1 ?_|refine zg λ_ _=>?_|refine zi λ_ _=>?_)
    all_goals
     have hcc:cC s l=some B∨cC s l=none∧¬(((B.tag:Nat):Int)=0)∧¬(((B.tag:Nat):Int)=(t:Nat)):=by
      rw [e2]
      by_cases q:B.tag=0∨B.tag=t
      ·exact .inl (if_pos q)
      ·exact .inr ⟨if_neg q,by omega,by omega⟩
     have hval:(cC s l).isSome=(decide (((B.tag:Nat):Int)=0)||decide (((B.tag:Nat):Int)=(t:Nat))):=by
      rcases hcc with q|⟨q,q1,q2⟩
      ·rw [q]
       rw [e2] at q
       have:B.tag=0∨B.tag=t:=by
        by_cases q3:B.tag=0∨B.tag=t
        ·exact q3
        ·rw [if_neg q3] at q;cases q
       rcases this with q4|q4
       ·rw [dTr (by omega)];rfl
       ·rw [dTr (p:=((B.tag:Nat):Int)=(t:Nat)) (by omega),Bool.or_true];rfl
      ·rw [q,dFa q1,dFa q2];rfl
     rw [hval]
     refine aB (kU (cB r9 rfl rfl) bZ) ⟨B,?_,hok,fun c hc=>?_,x9⟩
     ·first
       |(rw [dTr (by assumption:((B.tag:Nat):Int)=0)];rfl)
       |(rw [dFa (by assumption:¬((B.tag:Nat):Int)=0)];rfl)
     ·rcases hcc with q|⟨q,_⟩
      ·rw [q] at hc;injection hc
      ·rw [q] at hc;cases hc
   ·have e2:cC s l=none:=by rw [e2,List.getElem?_eq_none (by omega)];rfl
    rw [e2]
    repeat' (first|refine aG (d:=some 23) (.bool false) rfl (by show some (Value.bool (!decide (e=0)))=_;rw [dTr h0];rfl) ?_|refine bN (d:=some 31) (E:=brE) (l:=bU s) rfl hl ?_|refine aG (d:=some 32) (.bool true) rfl (congrArg (fun b=>some (Value.bool b)) (dTr (by omega))) ?_|refine bR (d:=some 34) (cs:=brE.f ⟨0,0,0⟩) rfl ?_|refine bQ (w0:=w) (vs:=brE.f ⟨0,0,0⟩) (by exact fx) hb4 (by focus (repeat (first|assumption|(apply At.ext;assumption)))) rfl rfl rfl rfl rfl (fun w9 x9 c9 a9 r9=>?_)|refine go1 ?_|refine zg λ_ _=>?_|refine zi λ_ _=>?_)
    exact aB (kU (cB r9 rfl rfl) bZ) ⟨⟨0,0,0⟩,rfl,hz0,(fun c h=>by cases h),x9⟩
  ·have e2:cC s l=none:=by rw [e2,he h0];rfl
   rw [e2]
   repeat' (first|refine aG (d:=some 23) (.bool true) rfl (by show some (Value.bool (!decide (e=0)))=_;rw [dFa h0];rfl) ?_|refine bR (d:=some 34) (cs:=brE.f ⟨0,0,0⟩) rfl ?_|refine bQ (w0:=w) (vs:=brE.f ⟨0,0,0⟩) (by exact fx) hb4 (by focus (repeat (first|assumption|(apply At.ext;assumption)))) rfl rfl rfl rfl rfl (fun w9 x9 c9 a9 r9=>?_)|refine go1 ?_|refine zg λ_ _=>?_|refine zi λ_ _=>?_)
   exact aB (kU (cB r9 rfl rfl) bZ) ⟨⟨0,0,0⟩,rfl,hz0,(fun c h=>by cases h),x9⟩
end
section
open Go Go.K
attribute [local irreducible] aD aK aV KOp.wp K.Spec u32 leS vnS str aN bM bE bU eI hY cC
theorem aZa {q:Int} (h:iA q):bJ .and (.int .u32 q) (.int .u32 65535)=some (.int .u32 (q%65536)):=by
 obtain ⟨n,rfl⟩:∃n:Nat,q=(n:Nat):=⟨q.toNat,by have:=h.1;omega⟩
 have h2:n<4294967296:=by have:=h.2;omega
 simp only [bJ,dC,Bool.false_eq_true,if_false,if_true,cM,IntKind.bits]
 have e:(BitVec.ofInt 32 ((n:Nat):Int)&&& BitVec.ofInt 32 65535).toNat=n%65536:=by
  rw [BitVec.toNat_and,BitVec.toNat_ofInt,BitVec.toNat_ofInt]
  rw [show (((n:Nat):Int)%((2^32:Nat):Int)).toNat=n by omega,show ((65535:Int)%((2^32:Nat):Int)).toNat=2^16 - 1 by decide]
  exact Nat.and_two_pow_sub_one_eq_mod n 16
 exact (congrArg (fun x:Nat=>some (Value.int .u32 (IntKind.u32.wrap (x:Int)))) e).trans (congrArg (fun x=>some (Value.int .u32 x)) (by rw [aFn (by omega)];rfl))
theorem nB {t:Tx} {x:TIn} (h:iA x.q):0≤dT t x∧dT t x<65536:=by
 unfold dT
 split<;>omega
theorem aDz {M:List Nat} {cs:List Value} {t:Tx} (i:Nat) (hi:i<t.ins.length) (hs:t.ins.length≤1000) (w:World) (ht:txR.rel M w cs t):K.Spec Tryz.prog F.lock_waits [.agg cs.toArray,.int .i64 (i:Nat)] w fun r w'=>r=.int .i64 (dT t t.ins[i])∧Ext w w':=by
 obtain ⟨iv,ov,rfl,h1,h2,h3,h4⟩:=ht
 refine aIe rfl ?_
 unfold aAg
 refine oy ?_
 repeat' (first|refine zD rfl rfl (fun bp wp xp ap (rp:Row wp ⟨bp,0,none⟩ (aZ t iv ov)) hp0=>?_)|(refine aR (d:=some 9) (E:=inR) (M:=M) rfl rfl (n:=i) (l:=t.ins) (SlR.ext h1 (by exact fx)) rfl hi (fun ad cs r4 he=>?_);obtain ⟨wv,rfl,hw,hp5,hp6⟩:=he)|refine zJ (p:=t.ins[i].q<2147483648) rfl (fun h=>?_) (fun h=>?_)|refine zL (p:=t.ver≥2) rfl (fun h=>?_) (fun h=>?_)|refine cO (d:=some 20) rfl rfl (aZa hp6) ?_|refine aG (d:=some 21) (.int .i64 (t.ins[i].q%65536)) rfl (congrArg (fun n=>some (Value.int .i64 n)) (IntWalk.i64_in _ (by omega))) ?_|refine go1 ?_|refine zg λ_ _=>?_|refine zi λ_ _=>?_)
 ·exact aB rfl ⟨by rw [dT,if_pos ⟨‹t.ins[i].q<2147483648›,‹t.ver≥2›⟩];rfl,by exact fx⟩
 ·exact aB rfl ⟨by rw [dT,if_neg (fun hh=>‹¬t.ver≥2› hh.2)];rfl,by exact fx⟩
 ·exact aB rfl ⟨by rw [dT,if_neg (fun hh=>‹¬t.ins[i].q<2147483648› hh.1)];rfl,by exact fx⟩
theorem xX {M:List Nat} {cs:List Value} {t:Tx} (i:Nat) (hi:i<t.ins.length) (w:World) (ht:txR.rel M w cs t):K.Spec Tryz.prog F.lock_is [.agg cs.toArray,.int .i64 (i:Nat)] w fun r w'=>r=.bool true∧Ext w w':=by
 obtain ⟨iv,ov,rfl,h1,h2,h3,h4⟩:=ht
 refine aR3 rfl ?_
 unfold aGv
 refine oy ?_
 repeat' (first|refine zD rfl rfl (fun bp wp xp ap (rp:Row wp ⟨bp,0,none⟩ (aZ t iv ov)) hp0=>?_)|refine zG (d:=some 11) (E:=inR) (M:=M) (l:=t.ins) rfl (SlR.ext h1 (by exact fx)) ?_|refine aG (d:=some 6) (.bool true) rfl (congrArg (fun b=>some (Value.bool b)) (dTr (by omega))) ?_|refine aG (d:=some 12) (.bool true) rfl (congrArg (fun b=>some (Value.bool b)) (dTr (by omega))) ?_|refine go1 ?_|refine zg λ_ _=>?_|refine zi λ_ _=>?_)
 exact aB rfl ⟨rfl,by exact fx⟩
set_option maxHeartbeats 2000000 in
theorem aQx {M:List Nat} {cs:List Value} {t:Tx} (s:ByteArray) (hm:s.size≤1000000) (i:Nat) (hi:i<t.ins.length) (hs:t.ins.length≤1000) (hz:∀z∈t.ins[i].wit,z.size≤1000000) (w:World) (ht:txR.rel M w cs t):K.Spec Tryz.prog F.lock_Open [.string s,.agg cs.toArray,.int .i64 (i:Nat)] w fun r w'=>r=.int .i64 (eN s t t.ins[i])∧Ext w w':=by
 have ht0:=ht
 obtain ⟨iv,ov,rfl,h1,h2,h3,h4⟩:=ht
 refine aKa rfl ?_
 unfold aCe
 refine oy ?_
 repeat (first|refine zD rfl rfl (fun bp wp xp ap (rp:Row wp ⟨bp,0,none⟩ (aZ t iv ov)) hp0=>?_)|(refine zC (d:=some 11) rfl (xX (M:=M) (t:=t) (cs:=aZ t iv ov) i hi _ (R.ext ht0 (by exact fx))) ?_;rintro _ w2 ⟨rfl,x2⟩)|(refine aR (d:=some 18) (E:=inR) (M:=M) rfl rfl (n:=i) (l:=t.ins) (SlR.ext h1 (by exact fx)) rfl hi (fun ad cs r4 he=>?_);obtain ⟨wv,rfl,hw,hp5,hp6⟩:=he)|(refine zC (d:=some 21) rfl (aKq s hm _ (SlR.toE (F:=jD) (ag:=false) (SlR.ext hw (by exact fx))) hz) ?_;rintro _ w5 ⟨b,rfl,hb,hcb,x5⟩)|refine zE (d':=7) (fun _=>rfl) rfl rfl rfl (fun b7 w7 x7 a7 (r7:Row w7 ⟨b7,0,none⟩ [.int .u16 (b.tag:Nat),.int .u16 (b.delay:Nat),.int .u32 (b.height:Nat)]) hb7=>?_)|refine go1 ?_|refine zg λ_ _=>?_|refine zi λ_ _=>?_)
 have hwb:=nB (t:=t) hp6
 have hd:=hb.delay
 have hh9:=hb.height
 have xw7:Unit→Ext w w7:=fun _=>by exact fx
 have h17:=h1.ext (xw7 ())
 have ht7:=R.ext ht0 (xw7 ())
 have rp7:Row w7 ⟨bp,0,none⟩ (aZ t iv ov):=rp.ext (by exact fx)
 clear xp x2 x5 x7 hw h1 rp r4
 cases hc:cC s t.ins[i].wit with
 |none=>
  have e:eN s t t.ins[i]=9:=by unfold eN;rw [hc]
  rw [e]
  repeat' (first|refine go1 ?_|refine zg λ_ _=>?_|refine zi λ_ _=>?_)
  exact aB rfl ⟨rfl,xw7 ()⟩
 |some c=>
  obtain rfl:=hcb c hc
  have e:eN s t t.ins[i]=if dT t t.ins[i]<(b.delay:Int) then 10 else if b.height>0∧(t.lock<(b.height:Int)∨t.ins[i].q=4294967295) then 10 else 0:=by unfold eN;rw [hc]
  repeat' (first|refine xH (x:=.tmp 24) rfl ?_|refine zg (fun w8 x8=>?_)|refine lA ?_ ?_|(refine zC (d:=some 30) rfl (aDz (M:=M) (t:=t) (cs:=aZ t iv ov) i hi hs _ (R.ext ht7 (by exact fx))) ?_;rintro _ w9 ⟨rfl,x9⟩)|refine aG (d:=some 33) (.int .i64 (b.delay:Nat)) rfl (congrArg (fun n=>some (Value.int .i64 n)) (IntWalk.i64_in _ (by omega))) ?_|refine zL (p:=dT t t.ins[i]<(b.delay:Int)) rfl (fun h=>?_) (fun h=>?_)|refine zJ (t:=39) (p:=((b.height:Nat):Int)>0) rfl (fun h=>?_) (fun h=>?_)|refine zJ (t:=45) (p:=t.lock<((b.height:Nat):Int)) rfl (fun h=>?_) (fun h=>?_)|(refine aR (d:=some 49) (E:=inR) (M:=M) rfl rfl (n:=i) (l:=t.ins) (SlR.ext h17 (by exact fx)) rfl hi (fun ad cs r4 he=>?_);obtain ⟨wv,rfl, -, -, -⟩:=he)|refine zL (p:=t.ins[i].q=4294967295) rfl (fun h=>?_) (fun h=>?_)|refine go1 ?_|refine zg λ_ _=>?_|refine zi λ_ _=>?_)
  all_goals
   rw [e]
   first
    |(rw [if_pos (by assumption)];exact aB rfl ⟨rfl,Ext.trans (xw7 ()) (by exact fx)⟩)
    |(rw [if_neg (by assumption),if_pos ⟨by omega,.inl (by assumption)⟩];exact aB rfl ⟨rfl,Ext.trans (xw7 ()) (by exact fx)⟩)
    |(rw [if_neg (by assumption),if_pos ⟨by omega,.inr (by assumption)⟩];exact aB rfl ⟨rfl,Ext.trans (xw7 ()) (by exact fx)⟩)
    |(rw [if_neg (by assumption),if_neg (fun hh=>by omega)];exact aB rfl ⟨rfl,Ext.trans (xw7 ()) (by exact fx)⟩)
    |trace_state
theorem kD (n:Int) (w:World):K.Spec Tryz.prog F.lock_height [.int .i64 n] w fun r w'=>r=.bool (gJ n)∧Ext w w':=by
 refine aFx rfl ?_
 unfold vX
 refine oy ?_
 repeat' (first|refine zJ (p:=n≥0) rfl (fun h=>?_) (fun h=>?_)|refine go1 ?_|refine zg λ_ _=>?_|refine zi λ_ _=>?_)
 ·exact aB rfl ⟨congrArg Value.bool (by unfold gJ;simp;omega),Ext.refl _⟩
 ·exact aB rfl ⟨congrArg Value.bool (by unfold gJ;symm;exact dFa (by omega)),Ext.refl _⟩
theorem aT2:cV Tryz.prog F.lock_Ripe_1=true:=by kernel_rfl
theorem aOe (x:TIn) (wv:Value) (w:World) (hw:wv.oneCell'=true):K.Spec Tryz.prog F.lock_Ripe_1 [.agg (gY x wv).toArray] w fun r w'=>r=.bool (!decide (x.q=4294967295))∧Ext w w':=by
 refine aFv rfl ?_
 unfold vD
 refine oy ?_
 repeat' (first|refine go1 ?_|refine zg λ_ _=>?_|refine zi λ_ _=>?_|refine zD rfl rfl (fun bp wp xp ap (rp:Row wp ⟨bp,0,none⟩ (gY x wv)) hp0=>?_))
 exact aB rfl ⟨rfl,by exact fx⟩
set_option maxHeartbeats 2000000 in
theorem aRc {M:List Nat} {cs:List Value} {t:Tx} (i:Nat) (hi:i<t.ins.length) (hs:t.ins.length≤1000) (c bl:Int) (w:World) (ht:txR.rel M w cs t):K.Spec Tryz.prog F.lock_Ripe [.agg cs.toArray,.int .i64 (i:Nat),.int .i64 c,.int .i64 bl] w fun r w'=>r=.bool (eS t t.ins[i] c bl)∧Ext w w':=by
 have ht0:=ht
 obtain ⟨iv,ov,rfl,h1,h2,h3,h4⟩:=ht
 have hq:iA t.ins[i].q:=by
  obtain ⟨css,hsl,hall,_⟩:=h1
  obtain ⟨_,_,_,_,hq⟩:=All2.get hall i (by rw [hall.length];exact hi) hi
  exact hq
 have hwb:=nB (t:=t) hq
 have h42:=h4.2
 have h41:=h4.1
 have tl:∀w1,Ext w w1→vI F.lock_Ripe_1 [] inR (fun cs=>.agg cs.toArray) M w1 t.ins (fun x=>!decide (x.q=4294967295)):=fun w1 x1 y hy w' cs x2 hc=>by
  obtain ⟨wv,rfl,hw,_⟩:=hc
  exact aOe y wv w' hw.one
 have hany:(!t.ins.any fun x=>!decide (x.q=4294967295))=t.ins.all fun x=>decide (x.q=4294967295):=by
  rw [List.all_eq_not_any_not]
 have fail1:gJ c=false→eS t t.ins[i] c bl=false:=fun e=>by unfold eS;rw [e];rfl
 have fail2:gJ bl=false→eS t t.ins[i] c bl=false:=fun e=>by unfold eS;rw [e];simp
 have fail3:¬c+dT t t.ins[i]≤bl→eS t t.ins[i] c bl=false:=fun e=>by unfold eS;rw [dFa e];simp
 have good:gJ c=true→gJ bl=true→c+dT t t.ins[i]≤bl→eS t t.ins[i] c bl=(decide (t.lock<bl)||t.ins.all fun y=>decide (y.q=4294967295)):=fun e1 e2 e3=>by unfold eS;rw [e1,e2,dTr e3];rfl
 cases hc:gJ c with
 |false=>
  rw [fail1 hc]
  refine sP rfl ?_
  unfold mW
  refine oy ?_
  repeat' (first|refine zD rfl rfl (fun bp wp xp ap (rp:Row wp ⟨bp,0,none⟩ (aZ t iv ov)) hp0=>?_)|(refine zC (d:=some 11) rfl (xX (M:=M) (t:=t) (cs:=aZ t iv ov) i hi _ (R.ext ht0 (by exact fx))) ?_;rintro _ w2 ⟨rfl,x2⟩)|(refine zC (d:=some 15) rfl (kD c _) ?_;rintro _ w3 ⟨rfl,x3⟩;rw [hc])|refine go1 ?_|refine zg λ_ _=>?_|refine zi λ_ _=>?_)
  exact aB rfl ⟨rfl,by exact fx⟩
 |true=>
  have hc2:0≤c∧c≤1000000:=of_decide_eq_true hc
  cases hh:gJ bl with
  |false=>
   rw [fail2 hh]
   refine sP rfl ?_
   unfold mW
   refine oy ?_
   repeat' (first|refine zD rfl rfl (fun bp wp xp ap (rp:Row wp ⟨bp,0,none⟩ (aZ t iv ov)) hp0=>?_)|(refine zC (d:=some 11) rfl (xX (M:=M) (t:=t) (cs:=aZ t iv ov) i hi _ (R.ext ht0 (by exact fx))) ?_;rintro _ w2 ⟨rfl,x2⟩)|(refine zC (d:=some 15) rfl (kD c _) ?_;rintro _ w3 ⟨rfl,x3⟩;rw [hc])|(refine zC (d:=some 20) rfl (kD bl _) ?_;rintro _ w4 ⟨rfl,x4⟩;rw [hh])|refine go1 ?_|refine zg λ_ _=>?_|refine zi λ_ _=>?_)
   exact aB rfl ⟨rfl,by exact fx⟩
  |true=>
   have hh2:0≤bl∧bl≤1000000:=of_decide_eq_true hh
   refine sP rfl ?_
   unfold mW
   refine oy ?_
   repeat' (first|refine zD rfl rfl (fun bp wp xp ap (rp:Row wp ⟨bp,0,none⟩ (aZ t iv ov)) hp0=>?_)|(refine zC (d:=some 11) rfl (xX (M:=M) (t:=t) (cs:=aZ t iv ov) i hi _ (R.ext ht0 (by exact fx))) ?_;rintro _ w2 ⟨rfl,x2⟩)|(refine zC (d:=some 15) rfl (kD c _) ?_;rintro _ w3 ⟨rfl,x3⟩;rw [hc])|(refine zC (d:=some 20) rfl (kD bl _) ?_;rintro _ w4 ⟨rfl,x4⟩;rw [hh])|(refine zC (d:=some 28) rfl (aDz (M:=M) (t:=t) (cs:=aZ t iv ov) i hi hs _ (R.ext ht0 (by exact fx))) ?_;rintro _ w5 ⟨rfl,x5⟩)|refine zL (p:=bl<c+dT t t.ins[i]) rfl (fun h=>?_) (fun h=>?_)|refine aG (d:=some 34) (.int .i64 t.lock) rfl (congrArg (fun n=>some (Value.int .i64 n)) (IntWalk.i64_in _ (by omega))) ?_|refine zJ (t:=37) (p:=t.lock<bl) rfl (fun h=>?_) (fun h=>?_)|(refine zC (d:=some 40) rfl (aAu (l:=t.ins) (M:=M) (g:=F.lock_Ripe_1) (capl:= []) (p:=fun x=>!decide (x.q=4294967295)) _ aT2 (SlR.ext h1 (by exact fx)) (by omega) (tl _ (by exact fx))) ?_;rintro _ w6 ⟨rfl,x6⟩)|refine go1 ?_|refine zg λ_ _=>?_|refine zi λ_ _=>?_)
   ·rw [fail3 (by omega)]
    exact aB rfl ⟨rfl,by exact fx⟩
   ·rw [good hc hh (by omega),dTr (by assumption)]
    exact aB rfl ⟨rfl,by exact fx⟩
   ·rw [good hc hh (by omega),dFa (by assumption)]
    exact aB rfl ⟨congrArg Value.bool hany,by exact fx⟩
end
end Go.Proofs.YtgloknkcfchnlaaGreatDoor
