/- Contracts: may an input open a lock, and when? Contracts: may an input open a lock, and is it ripe? Contracts: a transaction against coins. Contracts: the fee of a transaction. Contracts: may a transaction hang on the entries of a graph? Contracts: a copy of a graph; nil graphs. -/
import Derived.Test.YtfebcajheojodaaGreatDoorDc29
set_option linter.unusedVariables false
set_option linter.unusedSimpArgs false
section
namespace Go.Proofs.YtfebcajheojodaaGreatDoor
open Go Go.K
attribute [local irreducible] regK codeK retK KOp.wp K.Spec u32 leS vnS str zero32 numAt byteAt lockL signL brsL
theorem lockL_ok {s:ByteArray} {b:Br} (h:b∈lockL s):BrOk b:=by
 unfold lockL at h
 split at h
 ·unfold brsL at h
  obtain ⟨j,_,rfl⟩:=List.mem_map.1 h
  exact brAt_ok s j
 ·simp at h
set_option maxHeartbeats 1000000 in
theorem chosen_spec {v:Value} {l:List ByteArray} (s:ByteArray) (hm:s.size≤1000000) (w:World) (hv:SlE strE w v l) (hz:∀z∈l,z.size≤1000000):K.Spec Tryz.prog F.lock_chosen [.string s,v] w fun r w'=>
  ∃b,r=.tuple #[.agg (brE.f b).toArray,.bool (chosenB s l).isSome]∧BrOk b∧(∀c,chosenB s l=some c→b=c)∧Ext w w':=by
 have hz0:BrOk ⟨0,0,0⟩:=⟨by decide,by decide,by decide⟩
 refine s_lock_chosen rfl ?_
 unfold k_lock_chosen
 refine oy ?_
 repeat' (first|(refine zH (d:=some 4) (fun b4 w4 x4 a4 hb4=>?_))|(refine zC (d:=some 13) rfl (lget_spec s hm _) ?_;rintro _ w5 ⟨u,e,rfl,hl,he,hbu,x5⟩;have l4:=a4.lt)|(refine zC (d:=some 18) rfl (signed_spec _ (SlE.ext (w:=w) (by exact fx) hv) hz) ?_;rintro _ w6 ⟨rfl,x6⟩;have x06:Ext w w6:=(by exact fx);replace hl:=hl.ext x6;have a6:At w6 b4 _:=a4.ext (x5.trans x6);clear x4 x5 x6 a4)|(first|refine go1 ?_|refine zg (fun _ _=>?_)|refine zi (fun _ _=>?_)))
 cases hsg:signL l with
 |none=>
  have e1:signV l=.tuple #[.int .i64 0,.int .u16 0,.int .i64 4]:=by unfold signV;rw [hsg]
  have e2:chosenB s l=none:=by unfold chosenB;rw [hsg];rfl
  rw [e1,e2]
  by_cases h0:e=0
  all_goals
   repeat' (first|(refine st_fixV (d:=some 23) (.bool false) rfl (by show some (Value.bool (!decide (e=0)))=_;rw [decide_eq_true h0];rfl) ?_)|(refine st_fixV (d:=some 23) (.bool true) rfl (by show some (Value.bool (!decide (e=0)))=_;rw [decide_eq_false h0];rfl) ?_)|(refine st_build (d:=some 34) (cs:=brE.f ⟨0,0,0⟩) rfl ?_)|(refine st_setN (w0:=w) (vs:=brE.f ⟨0,0,0⟩) (by exact fx) hb4 (by focus (repeat (first|assumption|(apply At.ext;assumption)))) rfl rfl rfl rfl rfl (fun w9 x9 c9 a9 r9=>?_))|(first|refine go1 ?_|refine zg (fun _ _=>?_)|refine zi (fun _ _=>?_)))
   exact x_ret (ret2 (rv_cell r9 rfl rfl) rv_tmp) ⟨⟨0,0,0⟩,rfl,hz0,(fun c h=>by cases h),x9⟩
 |some p=>
  obtain ⟨a,t⟩:=p
  have e1:signV l=.tuple #[.int .i64 (a:Nat),.int .u16 (t:Nat),.int .i64 0]:=by unfold signV;rw [hsg]
  have e2:chosenB s l=((lockL s)[a]?).bind fun b=>if b.tag=0∨b.tag=t then some b else none:=by unfold chosenB;rw [hsg];rfl
  rw [e1]
  by_cases h0:e=0
  ·by_cases ha:a<(lockL s).length
   ·have hok:=lockL_ok (List.getElem_mem ha)
    have g1:=hok.tag
    have g2:t<65536:=by
     unfold signL at hsg
     split at hsg
     ·have:=numAt_lt (l.headD default) 2 1
      simp only [Option.some.injEq,Prod.mk.injEq] at hsg
      omega
     ·cases hsg
    rw [List.getElem?_eq_getElem ha] at e2
    have e2:chosenB s l=if (lockL s)[a].tag=0∨(lockL s)[a].tag=t then some (lockL s)[a] else none:=e2
    generalize hB:(lockL s)[a]=B at e2 hok g1
    repeat' (first|(refine st_fixV (d:=some 23) (.bool false) rfl (by show some (Value.bool (!decide (e=0)))=_;rw [decide_eq_true h0];rfl) ?_)|(refine st_len (d:=some 31) (E:=brE) (l:=lockL s) rfl hl ?_)|(refine st_fixV (d:=some 32) (.bool false) rfl (congrArg (fun b=>some (Value.bool b)) (decide_eq_false (by omega))) ?_)|(refine zg (fun w7 x7=>?_);replace hl:=hl.ext x7)|(refine st_elemE (d:=some 37) (E:=brE) rfl rfl (n:=a) (l:=lockL s) hl rfl ha (fun ad r4=>?_);rw [hB] at r4;have r4:Row _ ad [.int .u16 (B.tag:Nat),.int .u16 (B.delay:Nat),.int .u32 (B.height:Nat)]:=r4)|(refine st_elemE (d:=some 41) (E:=brE) rfl rfl (n:=a) (l:=lockL s) hl rfl ha (fun ad r5=>?_);rw [hB] at r5;have r5:Row _ ad [.int .u16 (B.tag:Nat),.int .u16 (B.delay:Nat),.int .u32 (B.height:Nat)]:=r5)|(refine st_elemEB (d:=some 48) (E:=brE) rfl rfl (n:=a) (l:=lockL s) hl rfl ha (fun ad r6 hba=>?_);rw [hB] at r6;have r6:Row _ ad [.int .u16 (B.tag:Nat),.int .u16 (B.delay:Nat),.int .u32 (B.height:Nat)]:=r6)|(refine zJ (p:=((B.tag:Nat):Int)=0) rfl (fun h=>?_) (fun h=>?_))|(refine st_both ?_ ?_)|(refine st_setN (w0:=w) (vs:=brE.f B) (by exact fx) hb4 (by focus (repeat (first|assumption|(apply At.ext;assumption)))) rfl rfl rfl rfl rfl (fun w9 x9 c9 a9 r9=>?_);try (replace r6:=Row.chg c9 r6 (by have:=hbu _ hba;simp;omega)))|(first|refine go1 ?_|refine zg (fun _ _=>?_)|refine zi (fun _ _=>?_)))
    all_goals
     have hcc:chosenB s l=some B∨chosenB s l=none∧¬(((B.tag:Nat):Int)=0)∧¬(((B.tag:Nat):Int)=(t:Nat)):=by
      rw [e2]
      by_cases q:B.tag=0∨B.tag=t
      ·exact .inl (if_pos q)
      ·exact .inr ⟨if_neg q,by omega,by omega⟩
     have hval:(chosenB s l).isSome=(decide (((B.tag:Nat):Int)=0)||decide (((B.tag:Nat):Int)=(t:Nat))):=by
      rcases hcc with q|⟨q,q1,q2⟩
      ·rw [q]
       rw [e2] at q
       have:B.tag=0∨B.tag=t:=by
        by_cases q3:B.tag=0∨B.tag=t
        ·exact q3
        ·rw [if_neg q3] at q;cases q
       rcases this with q4|q4
       ·rw [decide_eq_true (by omega)];rfl
       ·rw [decide_eq_true (p:=((B.tag:Nat):Int)=(t:Nat)) (by omega),Bool.or_true];rfl
      ·rw [q,decide_eq_false q1,decide_eq_false q2];rfl
     rw [hval]
     refine x_ret (ret2 (rv_cell r9 rfl rfl) rv_tmp) ⟨B,?_,hok,fun c hc=>?_,x9⟩
     ·first
       |(rw [decide_eq_true (by assumption:((B.tag:Nat):Int)=0)];rfl)
       |(rw [decide_eq_false (by assumption:¬((B.tag:Nat):Int)=0)];rfl)
     ·rcases hcc with q|⟨q,_⟩
      ·rw [q] at hc;injection hc
      ·rw [q] at hc;cases hc
   ·have e2:chosenB s l=none:=by rw [e2,List.getElem?_eq_none (by omega)];rfl
    rw [e2]
    repeat' (first|(refine st_fixV (d:=some 23) (.bool false) rfl (by show some (Value.bool (!decide (e=0)))=_;rw [decide_eq_true h0];rfl) ?_)|(refine st_len (d:=some 31) (E:=brE) (l:=lockL s) rfl hl ?_)|(refine st_fixV (d:=some 32) (.bool true) rfl (congrArg (fun b=>some (Value.bool b)) (decide_eq_true (by omega))) ?_)|(refine st_build (d:=some 34) (cs:=brE.f ⟨0,0,0⟩) rfl ?_)|(refine st_setN (w0:=w) (vs:=brE.f ⟨0,0,0⟩) (by exact fx) hb4 (by focus (repeat (first|assumption|(apply At.ext;assumption)))) rfl rfl rfl rfl rfl (fun w9 x9 c9 a9 r9=>?_))|(first|refine go1 ?_|refine zg (fun _ _=>?_)|refine zi (fun _ _=>?_)))
    exact x_ret (ret2 (rv_cell r9 rfl rfl) rv_tmp) ⟨⟨0,0,0⟩,rfl,hz0,(fun c h=>by cases h),x9⟩
  ·have e2:chosenB s l=none:=by rw [e2,he h0];rfl
   rw [e2]
   repeat' (first|(refine st_fixV (d:=some 23) (.bool true) rfl (by show some (Value.bool (!decide (e=0)))=_;rw [decide_eq_false h0];rfl) ?_)|(refine st_build (d:=some 34) (cs:=brE.f ⟨0,0,0⟩) rfl ?_)|(refine st_setN (w0:=w) (vs:=brE.f ⟨0,0,0⟩) (by exact fx) hb4 (by focus (repeat (first|assumption|(apply At.ext;assumption)))) rfl rfl rfl rfl rfl (fun w9 x9 c9 a9 r9=>?_))|(first|refine go1 ?_|refine zg (fun _ _=>?_)|refine zi (fun _ _=>?_)))
   exact x_ret (ret2 (rv_cell r9 rfl rfl) rv_tmp) ⟨⟨0,0,0⟩,rfl,hz0,(fun c h=>by cases h),x9⟩
end Go.Proofs.YtfebcajheojodaaGreatDoor
end
section
namespace Go.Proofs.YtfebcajheojodaaGreatDoor
open Go Go.K
attribute [local irreducible] regK codeK retK KOp.wp K.Spec u32 leS vnS str zero32 numAt byteAt lockL signL brsL chosenB
theorem and16 {q:Int} (h:is32 q):binVal .and (.int .u32 q) (.int .u32 65535)=some (.int .u32 (q%65536)):=by
 obtain ⟨n,rfl⟩:∃n:Nat,q=(n:Nat):=⟨q.toNat,by have:=h.1;omega⟩
 have h2:n<4294967296:=by have:=h.2;omega
 simp only [binVal,isShift,Bool.false_eq_true,if_false,if_true,intBin,IntKind.bits]
 have e:(BitVec.ofInt 32 ((n:Nat):Int)&&& BitVec.ofInt 32 65535).toNat=n%65536:=by
  rw [BitVec.toNat_and,BitVec.toNat_ofInt,BitVec.toNat_ofInt]
  rw [show (((n:Nat):Int)%((2^32:Nat):Int)).toNat=n by omega,show ((65535:Int)%((2^32:Nat):Int)).toNat=2^16 - 1 by decide]
  exact Nat.and_two_pow_sub_one_eq_mod n 16
 exact (congrArg (fun x:Nat=>some (Value.int .u32 (IntKind.u32.wrap (x:Int)))) e).trans (congrArg (fun x=>some (Value.int .u32 x)) (by rw [u32_wrap (by omega)];rfl))
theorem waits_bound {t:Tx} {x:TIn} (h:is32 x.q):0≤waitsT t x∧waitsT t x<65536:=by
 unfold waitsT
 split<;>omega
theorem waits_spec {M:List Nat} {cs:List Value} {t:Tx} (i:Nat) (hi:i<t.ins.length) (hs:t.ins.length≤1000) (w:World) (ht:txR.rel M w cs t):K.Spec Tryz.prog F.lock_waits [.agg cs.toArray,.int .i64 (i:Nat)] w fun r w'=>r=.int .i64 (waitsT t t.ins[i])∧Ext w w':=by
 obtain ⟨iv,ov,rfl,h1,h2,h3,h4⟩:=ht
 refine s_lock_waits rfl ?_
 unfold k_lock_waits
 refine oy ?_
 repeat' (first|(refine zD rfl rfl (fun bp wp xp ap (rp:Row wp ⟨bp,0,none⟩ (txCs t iv ov)) hp0=>?_))|(refine st_elemR (d:=some 9) (E:=inR) (M:=M) rfl rfl (n:=i) (l:=t.ins) (SlR.ext h1 (by exact fx)) rfl hi (fun ad cs r4 he=>?_);obtain ⟨wv,rfl,hw,hp5,hp6⟩:=he)|(refine zJ (p:=t.ins[i].q<2147483648) rfl (fun h=>?_) (fun h=>?_))|(refine zL (p:=t.ver≥2) rfl (fun h=>?_) (fun h=>?_))|(refine st_bin (d:=some 20) rfl rfl (and16 hp6) ?_)|(refine st_fixV (d:=some 21) (.int .i64 (t.ins[i].q%65536)) rfl (congrArg (fun n=>some (Value.int .i64 n)) (IntWalk.i64_in _ (by omega))) ?_)|(first|refine go1 ?_|refine zg (fun _ _=>?_)|refine zi (fun _ _=>?_)))
 ·exact x_ret rfl ⟨by rw [waitsT,if_pos ⟨‹t.ins[i].q<2147483648›,‹t.ver≥2›⟩];rfl,by exact fx⟩
 ·exact x_ret rfl ⟨by rw [waitsT,if_neg (fun hh=>‹¬t.ver≥2› hh.2)];rfl,by exact fx⟩
 ·exact x_ret rfl ⟨by rw [waitsT,if_neg (fun hh=>‹¬t.ins[i].q<2147483648› hh.1)];rfl,by exact fx⟩
theorem lis_spec {M:List Nat} {cs:List Value} {t:Tx} (i:Nat) (hi:i<t.ins.length) (w:World) (ht:txR.rel M w cs t):K.Spec Tryz.prog F.lock_is [.agg cs.toArray,.int .i64 (i:Nat)] w fun r w'=>r=.bool true∧Ext w w':=by
 obtain ⟨iv,ov,rfl,h1,h2,h3,h4⟩:=ht
 refine s_lock_is rfl ?_
 unfold k_lock_is
 refine oy ?_
 repeat' (first|(refine zD rfl rfl (fun bp wp xp ap (rp:Row wp ⟨bp,0,none⟩ (txCs t iv ov)) hp0=>?_))|(refine zG (d:=some 11) (E:=inR) (M:=M) (l:=t.ins) rfl (SlR.ext h1 (by exact fx)) ?_)|(refine st_fixV (d:=some 6) (.bool true) rfl (congrArg (fun b=>some (Value.bool b)) (decide_eq_true (by omega))) ?_)|(refine st_fixV (d:=some 12) (.bool true) rfl (congrArg (fun b=>some (Value.bool b)) (decide_eq_true (by omega))) ?_)|(first|refine go1 ?_|refine zg (fun _ _=>?_)|refine zi (fun _ _=>?_)))
 exact x_ret rfl ⟨rfl,by exact fx⟩
set_option maxHeartbeats 2000000 in
theorem open_spec {M:List Nat} {cs:List Value} {t:Tx} (s:ByteArray) (hm:s.size≤1000000) (i:Nat) (hi:i<t.ins.length) (hs:t.ins.length≤1000) (hz:∀z∈t.ins[i].wit,z.size≤1000000) (w:World) (ht:txR.rel M w cs t):K.Spec Tryz.prog F.lock_Open [.string s,.agg cs.toArray,.int .i64 (i:Nat)] w fun r w'=>r=.int .i64 (openE s t t.ins[i])∧Ext w w':=by
 have ht0:=ht
 obtain ⟨iv,ov,rfl,h1,h2,h3,h4⟩:=ht
 refine s_lock_Open rfl ?_
 unfold k_lock_Open
 refine oy ?_
 repeat (first|(refine zD rfl rfl (fun bp wp xp ap (rp:Row wp ⟨bp,0,none⟩ (txCs t iv ov)) hp0=>?_))|(refine zC (d:=some 11) rfl (lis_spec (M:=M) (t:=t) (cs:=txCs t iv ov) i hi _ (R.ext ht0 (by exact fx))) ?_;rintro _ w2 ⟨rfl,x2⟩)|(refine st_elemR (d:=some 18) (E:=inR) (M:=M) rfl rfl (n:=i) (l:=t.ins) (SlR.ext h1 (by exact fx)) rfl hi (fun ad cs r4 he=>?_);obtain ⟨wv,rfl,hw,hp5,hp6⟩:=he)|(refine zC (d:=some 21) rfl (chosen_spec s hm _ (SlR.toE (F:=strE) (ag:=false) (SlR.ext hw (by exact fx))) hz) ?_;rintro _ w5 ⟨b,rfl,hb,hcb,x5⟩)|(refine zE (d':=7) (fun _=>rfl) rfl rfl rfl (fun b7 w7 x7 a7 (r7:Row w7 ⟨b7,0,none⟩ [.int .u16 (b.tag:Nat),.int .u16 (b.delay:Nat),.int .u32 (b.height:Nat)]) hb7=>?_))|(first|refine go1 ?_|refine zg (fun _ _=>?_)|refine zi (fun _ _=>?_)))
 have hwb:=waits_bound (t:=t) hp6
 have hd:=hb.delay
 have hh9:=hb.height
 have xw7:Unit→Ext w w7:=fun _=>by exact fx
 have h17:=h1.ext (xw7 ())
 have ht7:=R.ext ht0 (xw7 ())
 have rp7:Row w7 ⟨bp,0,none⟩ (txCs t iv ov):=rp.ext (by exact fx)
 clear xp x2 x5 x7 hw h1 rp r4
 cases hc:chosenB s t.ins[i].wit with
 |none=>
  have e:openE s t t.ins[i]=9:=by unfold openE;rw [hc]
  rw [e]
  repeat' (first|(first|refine go1 ?_|refine zg (fun _ _=>?_)|refine zi (fun _ _=>?_)))
  exact x_ret rfl ⟨rfl,xw7 ()⟩
 |some c=>
  obtain rfl:=hcb c hc
  have e:openE s t t.ins[i]=if waitsT t t.ins[i]<(b.delay:Int) then 10 else if b.height>0∧(t.lock<(b.height:Int)∨t.ins[i].q=4294967295) then 10 else 0:=by unfold openE;rw [hc]
  repeat' (first|(refine c_false (x:=.tmp 24) rfl ?_)|(refine zg (fun w8 x8=>?_))|(refine st_both ?_ ?_)|(refine zC (d:=some 30) rfl (waits_spec (M:=M) (t:=t) (cs:=txCs t iv ov) i hi hs _ (R.ext ht7 (by exact fx))) ?_;rintro _ w9 ⟨rfl,x9⟩)|(refine st_fixV (d:=some 33) (.int .i64 (b.delay:Nat)) rfl (congrArg (fun n=>some (Value.int .i64 n)) (IntWalk.i64_in _ (by omega))) ?_)|(refine zL (p:=waitsT t t.ins[i]<(b.delay:Int)) rfl (fun h=>?_) (fun h=>?_))|(refine zJ (t:=39) (p:=((b.height:Nat):Int)>0) rfl (fun h=>?_) (fun h=>?_))|(refine zJ (t:=45) (p:=t.lock<((b.height:Nat):Int)) rfl (fun h=>?_) (fun h=>?_))|(refine st_elemR (d:=some 49) (E:=inR) (M:=M) rfl rfl (n:=i) (l:=t.ins) (SlR.ext h17 (by exact fx)) rfl hi (fun ad cs r4 he=>?_);obtain ⟨wv,rfl, -, -, -⟩:=he)|(refine zL (p:=t.ins[i].q=4294967295) rfl (fun h=>?_) (fun h=>?_))|(first|refine go1 ?_|refine zg (fun _ _=>?_)|refine zi (fun _ _=>?_)))
  all_goals
   rw [e]
   first
    |(rw [if_pos (by assumption)];exact x_ret rfl ⟨rfl,Ext.trans (xw7 ()) (by exact fx)⟩)
    |(rw [if_neg (by assumption),if_pos ⟨by omega,.inl (by assumption)⟩];exact x_ret rfl ⟨rfl,Ext.trans (xw7 ()) (by exact fx)⟩)
    |(rw [if_neg (by assumption),if_pos ⟨by omega,.inr (by assumption)⟩];exact x_ret rfl ⟨rfl,Ext.trans (xw7 ()) (by exact fx)⟩)
    |(rw [if_neg (by assumption),if_neg (fun hh=>by omega)];exact x_ret rfl ⟨rfl,Ext.trans (xw7 ()) (by exact fx)⟩)
    |trace_state
theorem height_spec (n:Int) (w:World):K.Spec Tryz.prog F.lock_height [.int .i64 n] w fun r w'=>r=.bool (heightB n)∧Ext w w':=by
 refine s_lock_height rfl ?_
 unfold k_lock_height
 refine oy ?_
 repeat' (first|(refine zJ (p:=n≥0) rfl (fun h=>?_) (fun h=>?_))|(first|refine go1 ?_|refine zg (fun _ _=>?_)|refine zi (fun _ _=>?_)))
 ·exact x_ret rfl ⟨congrArg Value.bool (by unfold heightB;simp;omega),Ext.refl _⟩
 ·exact x_ret rfl ⟨congrArg Value.bool (by unfold heightB;symm;exact decide_eq_false (by omega)),Ext.refl _⟩
theorem ripe1_hb:hasBody Tryz.prog F.lock_Ripe_1=true:=by kernel_rfl
theorem ripe1_spec (x:TIn) (wv:Value) (w:World) (hw:wv.oneCell'=true):K.Spec Tryz.prog F.lock_Ripe_1 [.agg (inCs x wv).toArray] w fun r w'=>r=.bool (!decide (x.q=4294967295))∧Ext w w':=by
 refine s_lock_Ripe_1 rfl ?_
 unfold k_lock_Ripe_1
 refine oy ?_
 repeat' (first|(first|refine go1 ?_|refine zg (fun _ _=>?_)|refine zi (fun _ _=>?_))|(refine zD rfl rfl (fun bp wp xp ap (rp:Row wp ⟨bp,0,none⟩ (inCs x wv)) hp0=>?_)))
 exact x_ret rfl ⟨rfl,by exact fx⟩
set_option maxHeartbeats 2000000 in
theorem ripe_spec {M:List Nat} {cs:List Value} {t:Tx} (i:Nat) (hi:i<t.ins.length) (hs:t.ins.length≤1000) (c bl:Int) (w:World) (ht:txR.rel M w cs t):K.Spec Tryz.prog F.lock_Ripe [.agg cs.toArray,.int .i64 (i:Nat),.int .i64 c,.int .i64 bl] w fun r w'=>r=.bool (ripeB t t.ins[i] c bl)∧Ext w w':=by
 have ht0:=ht
 obtain ⟨iv,ov,rfl,h1,h2,h3,h4⟩:=ht
 have hq:is32 t.ins[i].q:=by
  obtain ⟨css,hsl,hall,_⟩:=h1
  obtain ⟨_,_,_,_,hq⟩:=All2.get hall i (by rw [hall.length];exact hi) hi
  exact hq
 have hwb:=waits_bound (t:=t) hq
 have h42:=h4.2
 have h41:=h4.1
 have tl:∀w1,Ext w w1→Tells F.lock_Ripe_1 [] inR (fun cs=>.agg cs.toArray) M w1 t.ins (fun x=>!decide (x.q=4294967295)):=fun w1 x1 y hy w' cs x2 hc=>by
  obtain ⟨wv,rfl,hw,_⟩:=hc
  exact ripe1_spec y wv w' hw.one
 have hany:(!t.ins.any fun x=>!decide (x.q=4294967295))=t.ins.all fun x=>decide (x.q=4294967295):=by
  rw [List.all_eq_not_any_not]
 have fail1:heightB c=false→ripeB t t.ins[i] c bl=false:=fun e=>by unfold ripeB;rw [e];rfl
 have fail2:heightB bl=false→ripeB t t.ins[i] c bl=false:=fun e=>by unfold ripeB;rw [e];simp
 have fail3:¬c+waitsT t t.ins[i]≤bl→ripeB t t.ins[i] c bl=false:=fun e=>by unfold ripeB;rw [decide_eq_false e];simp
 have good:heightB c=true→heightB bl=true→c+waitsT t t.ins[i]≤bl→ripeB t t.ins[i] c bl=(decide (t.lock<bl)||t.ins.all fun y=>decide (y.q=4294967295)):=fun e1 e2 e3=>by unfold ripeB;rw [e1,e2,decide_eq_true e3];rfl
 cases hc:heightB c with
 |false=>
  rw [fail1 hc]
  refine s_lock_Ripe rfl ?_
  unfold k_lock_Ripe
  refine oy ?_
  repeat' (first|(refine zD rfl rfl (fun bp wp xp ap (rp:Row wp ⟨bp,0,none⟩ (txCs t iv ov)) hp0=>?_))|(refine zC (d:=some 11) rfl (lis_spec (M:=M) (t:=t) (cs:=txCs t iv ov) i hi _ (R.ext ht0 (by exact fx))) ?_;rintro _ w2 ⟨rfl,x2⟩)|(refine zC (d:=some 15) rfl (height_spec c _) ?_;rintro _ w3 ⟨rfl,x3⟩;rw [hc])|(first|refine go1 ?_|refine zg (fun _ _=>?_)|refine zi (fun _ _=>?_)))
  exact x_ret rfl ⟨rfl,by exact fx⟩
 |true=>
  have hc2:0≤c∧c≤1000000:=of_decide_eq_true hc
  cases hh:heightB bl with
  |false=>
   rw [fail2 hh]
   refine s_lock_Ripe rfl ?_
   unfold k_lock_Ripe
   refine oy ?_
   repeat' (first|(refine zD rfl rfl (fun bp wp xp ap (rp:Row wp ⟨bp,0,none⟩ (txCs t iv ov)) hp0=>?_))|(refine zC (d:=some 11) rfl (lis_spec (M:=M) (t:=t) (cs:=txCs t iv ov) i hi _ (R.ext ht0 (by exact fx))) ?_;rintro _ w2 ⟨rfl,x2⟩)|(refine zC (d:=some 15) rfl (height_spec c _) ?_;rintro _ w3 ⟨rfl,x3⟩;rw [hc])|(refine zC (d:=some 20) rfl (height_spec bl _) ?_;rintro _ w4 ⟨rfl,x4⟩;rw [hh])|(first|refine go1 ?_|refine zg (fun _ _=>?_)|refine zi (fun _ _=>?_)))
   exact x_ret rfl ⟨rfl,by exact fx⟩
  |true=>
   have hh2:0≤bl∧bl≤1000000:=of_decide_eq_true hh
   refine s_lock_Ripe rfl ?_
   unfold k_lock_Ripe
   refine oy ?_
   repeat' (first|(refine zD rfl rfl (fun bp wp xp ap (rp:Row wp ⟨bp,0,none⟩ (txCs t iv ov)) hp0=>?_))|(refine zC (d:=some 11) rfl (lis_spec (M:=M) (t:=t) (cs:=txCs t iv ov) i hi _ (R.ext ht0 (by exact fx))) ?_;rintro _ w2 ⟨rfl,x2⟩)|(refine zC (d:=some 15) rfl (height_spec c _) ?_;rintro _ w3 ⟨rfl,x3⟩;rw [hc])|(refine zC (d:=some 20) rfl (height_spec bl _) ?_;rintro _ w4 ⟨rfl,x4⟩;rw [hh])|(refine zC (d:=some 28) rfl (waits_spec (M:=M) (t:=t) (cs:=txCs t iv ov) i hi hs _ (R.ext ht0 (by exact fx))) ?_;rintro _ w5 ⟨rfl,x5⟩)|(refine zL (p:=bl<c+waitsT t t.ins[i]) rfl (fun h=>?_) (fun h=>?_))|(refine st_fixV (d:=some 34) (.int .i64 t.lock) rfl (congrArg (fun n=>some (Value.int .i64 n)) (IntWalk.i64_in _ (by omega))) ?_)|(refine zJ (t:=37) (p:=t.lock<bl) rfl (fun h=>?_) (fun h=>?_))|(refine zC (d:=some 40) rfl (idxIn_any (l:=t.ins) (M:=M) (g:=F.lock_Ripe_1) (capl:= []) (p:=fun x=>!decide (x.q=4294967295)) _ ripe1_hb (SlR.ext h1 (by exact fx)) (by omega) (tl _ (by exact fx))) ?_;rintro _ w6 ⟨rfl,x6⟩)|(first|refine go1 ?_|refine zg (fun _ _=>?_)|refine zi (fun _ _=>?_)))
   ·rw [fail3 (by omega)]
    exact x_ret rfl ⟨rfl,by exact fx⟩
   ·rw [good hc hh (by omega),decide_eq_true (by assumption)]
    exact x_ret rfl ⟨rfl,by exact fx⟩
   ·rw [good hc hh (by omega),decide_eq_false (by assumption)]
    exact x_ret rfl ⟨congrArg Value.bool hany,by exact fx⟩
end Go.Proofs.YtfebcajheojodaaGreatDoor
end
section
namespace Go.Proofs.YtfebcajheojodaaGreatDoor
open Go Go.K
attribute [local irreducible] regK codeK retK KOp.wp K.Spec u32 leS vnS str zero32 numAt byteAt lockL signL brsL chosenB openE ripeB checkT grantB encT idT sizeT
theorem wit_size {t:Tx} (hc:checkT t=0) {i:Nat} (hi:i<t.ins.length):∀z∈t.ins[i].wit,z.size≤1000000:=fun z hz=>by
 have:=(sz_of_check (chk_sm hc) hc).item _ (List.getElem_mem hi) z hz
 omega
section
variable {d:Option Tmp} {r:KR} {K:Env→World→Prop} {ρ:Env} {w w0:World} {v:Value} {f:Pt→Option Cn}
theorem st_view {x:Operand} {args:List Operand} (hV:ViewR w0 v f) (xx:Ext w0 w) (p:Pt) (hp:is32 p.i) (hx:ev ρ x=v) (ha:args.map (ev ρ)= [.agg p.cs.toArray])
  (k:∀c w',(f p).getD cn0=c→Ext w w'→regK Tryz.prog r K (put ρ d (.tuple #[.agg c.cs.toArray,.bool (f p).isSome])) w'):regK Tryz.prog (.cons ⟨d,.invoke x "Get" args,none⟩ r) K ρ w:=by
 obtain ⟨⟨t,u,rfl,hv⟩,_⟩:=hV
 obtain ⟨fn,rv,_,hm,hb,hS⟩:=hv p hp w xx
 exact st_invoke hx hm hb (by rw [ha]) hS fun _ w' ⟨c,e,hc,x⟩=>by subst e;exact k c w' hc x
theorem ViewR.mo_get {t:TypeId} {u:Value} (hV:ViewR w0 (.iface t u) f) {p:Pt} (hp:is32 p.i):mo t u "Get" =true:=by
 obtain ⟨⟨t',u',e,hv⟩,_⟩:=hV
 cases e
 obtain ⟨_,_,h,_⟩:=hv p hp w0 (Ext.refl w0)
 exact mo_of h
theorem in_is32 {M:List Nat} {iv:Value} {l:List TIn} (h:SlR inR M w iv l) {i:Nat} (hi:i<l.length):is32 l[i].p.i:=by
 obtain ⟨css,hsl,hall,_⟩:=h
 obtain ⟨_,_,_,hq,_⟩:=All2.get hall i (by rw [hall.length];exact hi) hi
 exact hq
end
set_option maxHeartbeats 1000000 in
theorem spent_spec {M:List Nat} {cs:List Value} {t:Tx} {v:Value} {f:Pt→Option Cn} (i:Nat) (hi:i<t.ins.length) (hc:checkT t=0) (h:Int) (w:World) (hV:ViewR w v f) (ht:txR.rel M w cs t):K.Spec Tryz.prog F.check_spent [v,.agg cs.toArray,.int .i64 (i:Nat),.int .i64 h] w fun r w'=>
  ∃c:Cn,r=.tuple #[.agg c.cs.toArray,.int .i64 (inE f t h t.ins[i])]∧c=(f t.ins[i].p).getD cn0∧Ext w w':=by
 have hs:=chk_sm hc
 have hn:=hs.ins
 have hwz:=wit_size hc hi
 have ht0:=ht
 obtain ⟨iv,ov,rfl,h1,h2,h3,h4⟩:=ht
 have hp5:=in_is32 h1 hi
 have hz:=hV.2
 obtain ⟨vt,vu,rfl⟩:∃vt vu,v=.iface vt vu:=by obtain ⟨⟨a,b,e,_⟩,_⟩:=hV;exact ⟨a,b,e⟩
 have hmo:=hV.mo_get hp5
 refine s_check_spent rfl ?_
 unfold k_check_spent
 refine oy ?_
 repeat' (first|(refine zD rfl rfl (fun bp wp xp ap (rp:Row wp ⟨bp,0,none⟩ (txCs t iv ov)) hp0=>?_))|(refine zH (d:=some 8) (fun b8 w8 x8 a8 hb8=>?_);have h08:w.heap.size≤b8:=Nat.le_trans xp.size hb8)|(refine st_elemR (d:=some 18) (E:=inR) (M:=M) rfl rfl (n:=i) (l:=t.ins) (SlR.ext h1 (by exact fx)) rfl hi (fun ad cs r4 he=>?_);obtain ⟨wv,rfl, -, -, -⟩:=he)|(refine st_nilM (d:=some 22) rfl hmo ?_)|(refine st_both ?_ ?_)|(refine st_view (d:=some 24) hV (by exact fx) t.ins[i].p hp5 rfl rfl (fun c w6 hcc x6=>?_))|(refine zH (d:=some 10) (fun b10 w10 x10 a10 hb10=>?_);have h10:w8.heap.size≤b10:=Nat.le_trans (Ext.size (w:=w8) (by exact fx)) hb10)|(first|refine go1 ?_|refine zg (fun _ _=>?_)|refine zi (fun _ _=>?_)))
 all_goals
  have l8:=a8.lt
  have s08:w.heap.size≤w8.heap.size:=Ext.size (w:=w) (by exact fx)
  refine st_setN (w0:=w) (vs:=c.cs) (by exact fx) (Nat.le_trans s08 h10) (by focus (repeat (first|assumption|(apply At.ext;assumption)))) rfl rfl rfl rfl rfl (fun w7 x7 c7 a7 r7=>?_)
  have a7':At w7 b8 _:=At.chg c7 (At.ext (w:=w8) (by exact fx) a8) (by simp;omega)
  have rp7:Row w7 ⟨bp,0,none⟩ (txCs t iv ov):=Row.chg c7 (Row.ext (w:=wp) (by exact fx) rp) (by have:=ap.lt;have:=x8.size;simp;omega)
  have ht7:=R.ext ht0 x7
  clear c7 a8 rp x8 xp x6 x10
  cases hf:f t.ins[i].p with
  |none=>
   have e:inE f t h t.ins[i]=8:=by unfold inE;rw [hf]
   rw [e]
   rw [hf] at hcc
   repeat' (first|(refine st_setN (w0:=w) (vs:=c.cs) (by exact fx) h08 (by focus (repeat (first|assumption|(apply At.ext;assumption)))) rfl rfl rfl rfl rfl (fun w9 x9 c9 a9 r9=>?_))|(first|refine go1 ?_|refine zg (fun _ _=>?_)|refine zi (fun _ _=>?_)))
   exact x_ret (ret2 (rv_cell r9 rfl rfl) rv_tmp) ⟨c,rfl,hcc.symm,x9⟩
  |some d=>
   have ec:d=c:=by rw [hf] at hcc;exact hcc
   subst ec
   have e:inE f t h t.ins[i]=if openE d.s t t.ins[i]≠0 then openE d.s t t.ins[i] else if ripeB t t.ins[i] d.h h then 0 else 10:=by unfold inE;rw [hf]
   rw [e]
   repeat' (first|(refine c_false (x:=.tmp 28) rfl ?_)|(refine zC (d:=some 35) rfl (open_spec (M:=M) (t:=t) (cs:=txCs t iv ov) d.s (hz _ _ hf) i hi hn hwz _ (R.ext ht7 (by exact fx))) ?_;rintro _ w2 ⟨rfl,x2⟩)|(refine zN (p:=openE d.s t t.ins[i]=0) rfl (fun ho=>?_) (fun ho=>?_))|(refine zC (d:=some 45) rfl (ripe_spec (M:=M) (t:=t) (cs:=txCs t iv ov) i hi hn d.h h _ (R.ext ht7 (by exact fx))) ?_;rintro _ w3 ⟨rfl,x3⟩)|(refine c_condB (x:=.tmp 46) rfl (fun hr=>?_) (fun hr=>?_))|(refine st_setN (w0:=w) (vs:=d.cs) (by exact fx) h08 (by focus (repeat (first|assumption|(apply At.ext;assumption)))) rfl rfl rfl rfl rfl (fun w9 x9 c9 a9 r9=>?_))|(first|refine go1 ?_|refine zg (fun _ _=>?_)|refine zi (fun _ _=>?_)))
   ·rw [if_pos (by assumption)]
    exact x_ret (ret2 (rv_cell r9 rfl rfl) rv_tmp) ⟨d,rfl,rfl,x9⟩
   ·rw [if_neg (by simpa using ‹openE d.s t t.ins[i]=0›),if_neg (by simpa using ‹(!ripeB t t.ins[i] d.h h)=true›)]
    exact x_ret (ret2 (rv_cell r9 rfl rfl) rv_tmp) ⟨d,rfl,rfl,x9⟩
   ·rw [if_neg (by simpa using ‹openE d.s t t.ins[i]=0›),if_pos (by simpa using ‹(!ripeB t t.ins[i] d.h h)=false›)]
    exact x_ret (ret2 (rv_cell r9 rfl rfl) rv_tmp) ⟨d,rfl,rfl,x9⟩
theorem formed_spec {M:List Nat} {cs:List Value} {t:Tx} {vt:TypeId} {vu:Value} (w:World) (ht:txR.rel M w cs t) (hs:t.Sm):K.Spec Tryz.prog F.check_formed [.iface vt vu,.agg cs.toArray] w fun r w'=>r=.int .i64 (if checkT t≠0 then checkT t else if grantB t then 4 else 0)∧Ext w w':=by
 have ht0:=ht
 obtain ⟨iv,ov,rfl,h1,h2,h3,h4⟩:=ht
 refine s_check_formed rfl ?_
 unfold k_check_formed
 refine oy ?_
 repeat' (first|(refine zD rfl rfl (fun bp wp xp ap (rp:Row wp ⟨bp,0,none⟩ (txCs t iv ov)) hp0=>?_))|(refine zC (d:=some 9) rfl (tcheck_spec (M:=M) (t:=t) (cs:=txCs t iv ov) _ (R.ext ht0 (by exact fx)) hs) ?_;rintro _ w2 ⟨rfl,x2⟩)|(refine zN (p:=checkT t=0) rfl (fun h=>?_) (fun h=>?_))|(refine zC (d:=some 14) rfl (tbase_spec (M:=M) (t:=t) (cs:=txCs t iv ov) _ (R.ext ht0 (by exact fx)) hs) ?_;rintro _ w3 ⟨rfl,x3⟩)|(refine c_false (x:=.tmp 7) rfl ?_)|(refine zM (x:=.tmp 14) rfl (fun h=>?_) (fun h=>?_))|(first|refine go1 ?_|refine zg (fun _ _=>?_)|refine zi (fun _ _=>?_)))
 ·exact x_ret rfl ⟨by rw [if_pos (show checkT t≠0 from h)];rfl,by exact fx⟩
 ·exact x_ret rfl ⟨by rw [if_neg (show ¬checkT t≠0 from fun q=>q ‹checkT t=0›),if_pos ‹grantB t=true›];rfl,by exact fx⟩
 ·exact x_ret rfl ⟨by rw [if_neg (show ¬checkT t≠0 from fun q=>q ‹checkT t=0›),if_neg (show ¬grantB t=true by rw [‹grantB t=false›];simp)];rfl,by exact fx⟩
theorem told_zero (w:World):K.Spec Tryz.prog F.check_told [.int .i64 0] w fun r w'=>r=.nilIface∧Ext w w':=by
 refine s_check_told rfl ?_
 unfold k_check_told
 refine oy ?_
 repeat' (first|(first|refine go1 ?_|refine zg (fun _ _=>?_)|refine zi (fun _ _=>?_)))
 exact x_ret rfl ⟨rfl,Ext.refl _⟩
end Go.Proofs.YtfebcajheojodaaGreatDoor
end
section
namespace Go.Proofs.YtfebcajheojodaaGreatDoor
open Go Go.K
attribute [local irreducible] regK codeK retK KOp.wp K.Spec u32 leS vnS str zero32 numAt byteAt lockL signL brsL chosenB openE ripeB checkT grantB encT idT sizeT inE
section
variable {f:Pt→Option Cn} {t:Tx} {h:Int}
theorem fee_bad (hc:checkT t≠0):feeP f t h=(0,checkT t, -1):=by unfold feeP;rw [if_pos hc]
theorem fee_grant (hc:checkT t=0) (hg:grantB t=true):feeP f t h=(0,4, -1):=by unfold feeP;rw [if_neg (by simpa using hc),if_pos hg]
theorem fee_in (hc:checkT t=0) (hg:grantB t=false) {i:Nat} (hi:i<t.ins.length) (hk:∀j,j<i→∀hj:j<t.ins.length,inE f t h t.ins[j]=0) (he:inE f t h t.ins[i]≠0):feeP f t h=(0,inE f t h t.ins[i],((i:Nat):Int)):=by
 unfold feeP
 have e:(t.ins.findIdx? fun x=>decide (inE f t h x≠0))=some i:=List.findIdx?_eq_some_iff_getElem.2 ⟨hi,decide_eq_true he,fun j hj=>by rw [hk j hj (by omega)];simp⟩
 rw [if_neg (by simpa using hc),if_neg (by rw [hg];simp),e]
 simp only
 rw [List.getD_eq_getElem?_getD,List.getElem?_eq_getElem hi];rfl
theorem fee_all (hc:checkT t=0) (hg:grantB t=false) (hk:∀j,∀hj:j<t.ins.length,inE f t h t.ins[j]=0):
  feeP f t h=if sumE (t.ins.map (inV f))≠0 then (0,sumE (t.ins.map (inV f)), -1) else if sumV (values t)>sumV (t.ins.map (inV f)) then (0,12, -1) else (sumV (t.ins.map (inV f)) - sumV (values t),0, -1):=by
 unfold feeP
 have e:(t.ins.findIdx? fun x=>decide (inE f t h x≠0))=none:=List.findIdx?_eq_none_iff.2 fun x hx=>by
  obtain ⟨j,hj,rfl⟩:=List.getElem_of_mem hx
  rw [hk j hj];simp
 rw [if_neg (by simpa using hc),if_neg (by rw [hg];simp),e]
end
theorem sumE_good {l:List Int} (h:sumE l=0):goodB (sumV l)=true:=by
 unfold sumE at h
 unfold sumV
 cases hs:sumOk 0 l with
 |none=>rw [hs] at h;cases h
 |some s=>exact sumOk_good l 0 s (by decide) hs
theorem check_sum {t:Tx} (h:checkT t=0):sumE (values t)=0:=by
 unfold checkT at h
 repeat' split at h
 all_goals first|exact h|cases h
set_option maxHeartbeats 2000000 in
theorem fee_spec {M:List Nat} {cs:List Value} {t:Tx} {v:Value} {f:Pt→Option Cn} (bl:Int) (w:World) (hV:ViewR w v f) (ht:txR.rel M w cs t) (hs:t.Sm):K.Spec Tryz.prog F.check_Fee [v,.agg cs.toArray,.int .i64 bl] w fun r w'=>
  ∃e,r=.tuple #[.int .i64 (feeP f t bl).1,e]∧ErrR w' 1 e (feeP f t bl).2.1 (feeP f t bl).2.2∧Ext w w':=by
 have hn:=hs.ins
 have ht0:=ht
 obtain ⟨iv,ov,rfl,h1,h2,h3,h4⟩:=ht
 have hV0:=hV
 obtain ⟨⟨vt,vu,rfl,_⟩,_⟩:=hV
 refine s_check_Fee rfl ?_
 unfold k_check_Fee
 refine oy ?_
 by_cases hc:checkT t=0
 ·cases hg:grantB t with
  |true=>
   rw [fee_grant hc hg]
   repeat' (first|(refine zD rfl rfl (fun bp wp xp ap (rp:Row wp ⟨bp,0,none⟩ (txCs t iv ov)) hp0=>?_))|(refine zC (d:=some 20) rfl (formed_spec (M:=M) (t:=t) (cs:=txCs t iv ov) _ (R.ext ht0 (by exact fx)) hs) ?_;rintro _ w2 ⟨rfl,x2⟩;rw [if_neg (by simpa using hc),if_pos hg])|(first|refine go1 ?_|refine zg (fun _ _=>?_)|refine zi (fun _ _=>?_)))
   exact x_ret rfl ⟨_,rfl,ErrR.num _ _ (by decide),by exact fx⟩
  |false=>
   repeat' (first|(refine zD rfl rfl (fun bp wp xp ap (rp:Row wp ⟨bp,0,none⟩ (txCs t iv ov)) hp0=>?_))|(refine zC (d:=some 20) rfl (formed_spec (M:=M) (t:=t) (cs:=txCs t iv ov) _ (R.ext ht0 (by exact fx)) hs) ?_;rintro _ w2 ⟨rfl,x2⟩;rw [if_neg (by simpa using hc),if_neg (by rw [hg];simp)])|(refine zG (d:=some 27) (E:=inR) (M:=M) (l:=t.ins) rfl (SlR.ext h1 (by exact fx)) ?_)|(refine c_loopV (fun (p:Nat × Value) w'=>Ext w2 w'∧p.1≤t.ins.length∧Own intE T.int w2.heap.size w' p.2 ((t.ins.take p.1).map (inV f))∧∀j,j<p.1→∀hj:j<t.ins.length,inE f t bl t.ins[j]=0) (fun p=> [(0,.iface vt vu),(2,.int .i64 bl),(4,.pointer (some ⟨bp,0,none⟩)),(9,p.2),(27,.int .i64 (t.ins.length:Nat)),(28,.int .i64 (p.1:Nat))]) (fun p=>t.ins.length - p.1) (0,.slice none 0 0) ⟨rfl,rfl,rfl,rfl,rfl,rfl,trivial⟩ ⟨Ext.refl _,by simp,Own.nil _ _ _,fun j hj=>absurd hj (by simp)⟩ ?_;rintro ⟨i,v9⟩ ρ w3 ⟨x3,hi,ho,hk⟩;simp only at hi ho hk;dsimp only)|(refine zL (p:=((i:Nat):Int)<((t.ins.length:Nat):Int)) rfl (fun h=>?_) (fun h=>?_))|(first|refine go1 ?_|refine zg (fun _ _=>?_)|refine zi (fun _ _=>?_)))
   ·have hil:i<t.ins.length:=by omega
    have s2:wp.heap.size≤w2.heap.size:=x2.size
    have rp3:Row w3 ⟨bp,0,none⟩ (txCs t iv ov):=rp.ext (by exact fx)
    have ht3:=R.ext ht0 (show Ext w w3 by exact fx)
    have hV3:=hV0.ext (show Ext w w3 by exact fx)
    by_cases he:inE f t bl t.ins[i]=0
    ·repeat' (first|(refine zC (d:=some 36) rfl (spent_spec (M:=M) (t:=t) (cs:=txCs t iv ov) i hil hc bl _ (hV3.ext (by exact fx)) (R.ext ht3 (by exact fx))) ?_;rintro _ w4 ⟨c,rfl,hcc,x4⟩;rw [he])|(refine zE (d':=11) (fun _=>rfl) rfl rfl rfl (fun b7 w7 x7 a7 (r7:Row w7 ⟨b7,0,none⟩ c.cs) hb7=>?_))|(refine zI (d:=some 51) (cs:= [.int .i64 c.v]) rfl (fun b8 w8 x8 a8 hb8=>?_))|(refine st_append (d:=some 52) (E:=intE) (v:=v9) (l2:= [c.v]) rfl (ho.ext (by exact fx)) (Ext.size (w:=w2) (by exact fx)) rfl rfl (sl_new a8 rfl) rfl rfl (by simp;omega) (fun v10 w10 o10 c10=>?_))|(first|refine go1 ?_|refine zg (fun _ _=>?_)|refine zi (fun _ _=>?_)))
     exact ⟨(i+1,v10),⟨rfl,rfl,rfl,rfl,rfl,rfl,trivial⟩,⟨(Ext.chg (w:=w2) (by exact fx) c10).mono (fun b hb=>.inr (ho.base b hb)),by simp only;omega,by simp only;rw [List.take_succ_eq_append_getElem hil,List.map_append];subst hcc;exact o10,fun j hj hjl=>by
      simp only at hj
      by_cases e:j=i
      ·subst e;exact he
      ·exact hk j (by omega) hjl⟩,by simp only;omega⟩
    ·rw [fee_in hc hg hil hk he]
     repeat' (first|(refine zC (d:=some 36) rfl (spent_spec (M:=M) (t:=t) (cs:=txCs t iv ov) i hil hc bl _ (hV3.ext (by exact fx)) (R.ext ht3 (by exact fx))) ?_;rintro _ w4 ⟨c,rfl,hcc,x4⟩)|(refine zE (d':=11) (fun _=>rfl) rfl rfl rfl (fun b7 w7 x7 a7 (r7:Row w7 ⟨b7,0,none⟩ c.cs) hb7=>?_))|(refine zN (p:=inE f t bl t.ins[i]=0) rfl (fun _=>?_) (fun h=>absurd h he))|(refine st_build (d:=some 44) (cs:= [.int .i64 (i:Nat),errno (inE f t bl t.ins[i])]) rfl ?_)|(refine zD (d:=some 45) (cs:= [.int .i64 (i:Nat),errno (inE f t bl t.ins[i])]) rfl rfl (fun b8 w8 x8 a8 r8 hb8=>?_))|(first|refine go1 ?_|refine zg (fun _ _=>?_)|refine zi (fun _ _=>?_)))
     exact x_ret rfl ⟨_,rfl,.inr ⟨he,(show (0:Int)≤((i:Nat):Int) by omega),b8,_, -1,rfl,a8,ErrR.num _ _ he⟩,by exact fx⟩
   ·have ei:i=t.ins.length:=by omega
    subst ei
    rw [List.take_length] at ho
    have rp3:Row w3 ⟨bp,0,none⟩ (txCs t iv ov):=rp.ext (by exact fx)
    have ht3:=R.ext ht0 (show Ext w w3 by exact fx)
    rw [fee_all hc hg fun j hj=>hk j hj hj]
    by_cases hsum:sumE (t.ins.map (inV f))=0
    ·have hgood:=sumE_good hsum
     have hgv:=sumE_good (check_sum hc)
     rw [if_neg (by simpa using hsum)]
     by_cases hv:sumV (values t)>sumV (t.ins.map (inV f))
     ·rw [if_pos hv]
      repeat' (first|(refine zC (d:=some 56) rfl (sum_spec (l:=t.ins.map (inV f)) _ (SlE.ext (w:=w3) (by exact fx) ho.sl) (by simp;omega)) ?_;rintro _ _ ⟨rfl,rfl⟩;rw [hsum])|(refine zC (d:=some 65) rfl (ttotal_spec (M:=M) (t:=t) (cs:=txCs t iv ov) _ (R.ext ht3 (by exact fx)) hs) ?_;rintro _ w5 ⟨rfl,x5⟩)|(refine zL (p:=sumV (values t)>sumV (t.ins.map (inV f))) rfl (fun _=>?_) (fun h=>absurd hv h))|(first|refine go1 ?_|refine zg (fun _ _=>?_)|refine zi (fun _ _=>?_)))
      exact x_ret rfl ⟨_,rfl,ErrR.num _ _ (by decide),by exact fx⟩
     ·rw [if_neg hv]
      repeat' (first|(refine zC (d:=some 56) rfl (sum_spec (l:=t.ins.map (inV f)) _ (SlE.ext (w:=w3) (by exact fx) ho.sl) (by simp;omega)) ?_;rintro _ _ ⟨rfl,rfl⟩;rw [hsum])|(refine zC (d:=some 65) rfl (ttotal_spec (M:=M) (t:=t) (cs:=txCs t iv ov) _ (R.ext ht3 (by exact fx)) hs) ?_;rintro _ w5 ⟨rfl,x5⟩)|(refine zL (p:=sumV (values t)>sumV (t.ins.map (inV f))) rfl (fun h=>absurd h hv) (fun _=>?_))|(refine zC (d:=some 75) rfl (asub_spec _ _ hgood hgv (by omega) _) ?_;rintro _ w6 ⟨rfl,x6⟩)|(refine zC (d:=some 80) rfl (told_zero _) ?_;rintro _ w7 ⟨rfl,x7⟩)|(first|refine go1 ?_|refine zg (fun _ _=>?_)|refine zi (fun _ _=>?_)))
      exact x_ret rfl ⟨_,rfl,ErrR.none_ _ _,by exact fx⟩
    ·rw [if_pos hsum]
     repeat' (first|(refine zC (d:=some 56) rfl (sum_spec (l:=t.ins.map (inV f)) _ (SlE.ext (w:=w3) (by exact fx) ho.sl) (by simp;omega)) ?_;rintro _ _ ⟨rfl,rfl⟩)|(refine zN (p:=sumE (t.ins.map (inV f))=0) rfl (fun _=>?_) (fun h=>absurd h hsum))|(first|refine go1 ?_|refine zg (fun _ _=>?_)|refine zi (fun _ _=>?_)))
     exact x_ret rfl ⟨_,rfl,ErrR.num _ _ hsum,by exact fx⟩
 ·rw [fee_bad hc]
  repeat' (first|(refine zD rfl rfl (fun bp wp xp ap (rp:Row wp ⟨bp,0,none⟩ (txCs t iv ov)) hp0=>?_))|(refine zC (d:=some 20) rfl (formed_spec (M:=M) (t:=t) (cs:=txCs t iv ov) _ (R.ext ht0 (by exact fx)) hs) ?_;rintro _ w2 ⟨rfl,x2⟩;rw [if_pos hc])|(refine zN (p:=checkT t=0) rfl (fun _=>?_) (fun h=>absurd h hc))|(first|refine go1 ?_|refine zg (fun _ _=>?_)|refine zi (fun _ _=>?_)))
  exact x_ret rfl ⟨_,rfl,ErrR.num _ _ hc,by exact fx⟩
end Go.Proofs.YtfebcajheojodaaGreatDoor
end
section
namespace Go.Proofs.YtfebcajheojodaaGreatDoor
open Go Go.K
attribute [local irreducible] regK codeK retK KOp.wp K.Spec u32 leS vnS str zero32 sha2 encT idT sizeT checkT grantB idN stepR workL reachE findI dropG addG aboveL belowL idsOf feeD sizeD
theorem within_spec {g:Nat} {M:List Nat} {l:List Ent} {v:Value} {ids:List ByteArray} (more count size:Int) (w:World) (hG:GrR w g M l) (hM:∀b∈M,b<w.heap.size) (hi:SlE strE w v ids) (hn:ids.length≤4000) (hm:0≤more∧more≤1000000000):
  K.Spec Tryz.prog F.limit_within [.pointer (some ⟨g,0,none⟩),v,.int .i64 more,.int .i64 count,.int .i64 size] w fun r w'=>r=.bool (wiP l ids more count size)∧Ext w w':=by
 have hb:=(feeD_bound (l:=l) (fun x hx=>entOk_fit (hG.ok x hx)) hn).2
 refine s_limit_within rfl ?_
 unfold k_limit_within
 refine oy ?_
 repeat' (first|(first|refine go1 ?_|refine zg (fun _ _=>?_)|refine zi (fun _ _=>?_))|(refine zC rfl (gsum_spec (M:=M) (l:=l) (ids:=ids) _ hG hM hi hn) ?_;rintro _ w2 ⟨rfl,x2⟩)|(refine st_len rfl (SlE.ext (w:=w) (by exact fx) hi) ?_)|(refine zJ rfl (fun h=>?_) (fun h=>?_)))
 ·have e:wiP l ids more count size=decide (sizeD l ids+more≤size):=by unfold wiP;rw [decide_eq_true h,Bool.true_and]
  rw [e]
  exact x_ret rfl ⟨rfl,x2⟩
 ·have e:wiP l ids more count size=false:=by unfold wiP;rw [decide_eq_false h,Bool.false_and]
  rw [e]
  exact x_ret rfl ⟨rfl,x2⟩
theorem idsOf_len_le (l:List Ent) (m:List Bool):(idsOf l m).length≤l.length:=by
 have:=(idsOf_sub l m).length_le
 simpa using this
theorem housed_spec {g:Nat} {M:List Nat} {l:List Ent} {v:Value} {ids:List ByteArray} (more count size:Int) (w:World) (hG:GrR w g M l) (hM:∀b∈M,b<w.heap.size) (hi:SlE strE w v ids) (hn:ids.length≤4000) (hl:l.length≤1000) (hm:0≤more∧more≤1000000000):
  K.Spec Tryz.prog F.limit_housed [.pointer (some ⟨g,0,none⟩),v,.int .i64 more,.int .i64 count,.int .i64 size] w fun r w'=>r=.bool (hoP l ids more count size)∧Ext w w':=by
 refine s_limit_housed rfl ?_
 unfold k_limit_housed
 refine oy ?_
 repeat' (first|(first|refine go1 ?_|refine zg (fun _ _=>?_)|refine zi (fun _ _=>?_))|(refine zL rfl (fun h=>?_) (fun h=>?_))|(refine zM rfl (fun h=>?_) (fun h=>?_))|(refine st_len rfl (SlE.ext (w:=w) (by exact fx) hi) ?_)|(refine c_loopV (fun (i:Nat) w'=>Ext w w'∧i≤ids.length∧∀s∈ids.take i,wiP l (idsOf l (belowL l s)) more count size=true) (fun i=> [(0,.pointer (some ⟨g,0,none⟩)),(2,.int .i64 more),(3,.int .i64 count),(4,.int .i64 size),(13,v),(14,.int .i64 (ids.length:Nat)),(15,.int .i64 i)]) (fun i=>ids.length - i) 0 ⟨rfl,rfl,rfl,rfl,rfl,rfl,rfl,trivial⟩ ⟨Ext.refl _,Nat.zero_le _,by simp⟩ ?_;rintro i ρ w3 ⟨x3,hi3,hk⟩)|(have hil:i<ids.length:=(by omega);refine st_elemE (d:=some 17) (E:=strE) rfl rfl (n:=i) (l:=ids) (hi.ext x3) rfl hil (fun ad r5=>?_);have r5:Row w3 ad [Value.string ids[i]]:=r5)|(refine zC rfl (pbelow_spec (M:=M) (l:=l) ids[i] _ (hG.ext (by exact fx)) (fun b hb=>Nat.lt_of_lt_of_le (hM b hb) (Ext.size (by exact fx))) hl) ?_;rintro vb w6 ⟨ob,x6⟩;have sb:=ob.sl)|(refine zC rfl (within_spec (M:=M) (l:=l) (ids:=idsOf l (belowL l ids[i])) more count size _ (hG.ext (by exact fx)) (fun b hb=>Nat.lt_of_lt_of_le (hM b hb) (Ext.size (by exact fx))) sb (Nat.le_trans (idsOf_len_le _ _) (by omega)) hm) ?_;rintro _ w7 ⟨rfl,x7⟩))
 ·have e:hoP l ids more count size=false:=by
   unfold hoP
   rw [List.all_eq_false]
   exact ⟨_,List.getElem_mem hil,by simpa using h⟩
  rw [e]
  exact x_ret rfl ⟨rfl,by exact fx⟩
 ·refine ⟨i+1,⟨rfl,rfl,rfl,rfl,rfl,rfl,rfl,trivial⟩,⟨by exact fx,by omega,fun s hs=>?_⟩,by omega⟩
  rw [List.take_succ_eq_append_getElem hil] at hs
  rcases List.mem_append.1 hs with h1|h1
  ·exact hk s h1
  ·simp only [List.mem_singleton] at h1;subst h1;simpa using h
 ·have e:hoP l ids more count size=true:=by
   unfold hoP
   rw [List.take_of_length_le (by omega)] at hk
   exact List.all_eq_true.2 hk
  rw [e]
  exact x_ret rfl ⟨rfl,by exact fx⟩
theorem fits_spec {g:Nat} {M N:List Nat} {l:List Ent} {cs:List Value} {t:Tx} (w:World) (hG:GrR w g M l) (hM:∀b∈M,b<w.heap.size) (ht:txR.rel N w cs t) (hs:t.Sm) (hl:l.length≤1000):
  K.Spec Tryz.prog F.limit_Fits [.pointer (some ⟨g,0,none⟩),.agg cs.toArray] w fun r w'=>r=.int .i64 (fitsL l t)∧Ext w w':=by
 have ht0:=ht
 obtain ⟨iv,ov,rfl, -⟩:=ht
 by_cases hc:checkT t=0
 ·have hz:=sz_of_check hs hc
  have hz2:=hz.size
  have hmore:(0:Int)≤((sizeT t:Nat):Int)∧((sizeT t:Nat):Int)≤1000000000:=by omega
  have e0:sizeV t=.tuple #[.int .i64 (sizeT t:Nat),.int .i64 0]:=by rw [sizeV,if_pos hc]
  have hLe:=idsOf_len_le l (aboveL l t)
  have hfit:fitsL l t=if wiP l (idsOf l (aboveL l t)) (sizeT t:Nat) 25 101000=false then 14 else if hoP l (idsOf l (aboveL l t)) (sizeT t:Nat) 25 101000 then 0
   else if ((idsOf l (aboveL l t)).length:Int)=1∧((sizeT t:Nat):Int)≤10000∧hoP l (idsOf l (aboveL l t)) (sizeT t:Nat) 26 111000=true then 0 else 14:=by
   rw [fitsL,if_neg (by simpa using hc)]
  rw [hfit]
  refine s_limit_Fits rfl ?_
  unfold k_limit_Fits
  refine oy ?_
  repeat' (first|(first|refine go1 ?_|refine zg (fun _ _=>?_)|refine zi (fun _ _=>?_))|(refine zK rfl (fun h=>?_) (fun h=>?_))|(refine zM rfl (fun h=>?_) (fun h=>?_))|(refine zJ rfl (fun h=>?_) (fun h=>?_))|(refine zD rfl rfl (fun bp wp xp ap (rp:Row wp ⟨bp,0,none⟩ (txCs t iv ov)) hp0=>?_))|(refine zC rfl (size_spec (M:=N) (cs:=txCs t iv ov) (t:=t) _ (R.ext ht0 (by exact fx)) hs) ?_;rintro _ w3 ⟨rfl,x3⟩;rw [e0])|(refine zC rfl (pabove_spec (M:=M) (N:=N) (l:=l) (cs:=txCs t iv ov) (t:=t) _ (hG.ext (by exact fx)) (fun b hb=>Nat.lt_of_lt_of_le (hM b hb) (Ext.size (by exact fx))) (R.ext ht0 (by exact fx)) hs.ins hl) ?_;rintro va w4 ⟨oa,x4⟩;have sa:=oa.sl)|(refine zC rfl (within_spec (M:=M) (l:=l) (ids:=idsOf l (aboveL l t)) _ _ _ _ (hG.ext (by exact fx)) (fun b hb=>Nat.lt_of_lt_of_le (hM b hb) (Ext.size (by exact fx))) (SlE.ext (by exact fx) sa) (by omega) hmore) ?_;rintro _ w5 ⟨rfl,x5⟩)|(refine zC rfl (housed_spec (M:=M) (l:=l) (ids:=idsOf l (aboveL l t)) _ _ _ _ (hG.ext (by exact fx)) (fun b hb=>Nat.lt_of_lt_of_le (hM b hb) (Ext.size (by exact fx))) (SlE.ext (by exact fx) sa) (by omega) hl hmore) ?_;rintro _ w6 ⟨rfl,x6⟩)|(refine st_len rfl (SlE.ext (by exact fx) sa) ?_))
  all_goals clear hG hM ht0 rp ap
  all_goals exact x_ret rfl ⟨congrArg (Value.int .i64) (by first|(simp_all;done)|(simp_all;intros;omega)),by exact fx⟩
 ·have e0:sizeV t=.tuple #[.int .i64 0,.int .i64 (checkT t)]:=by rw [sizeV,if_neg hc]
  have hfit:fitsL l t=checkT t:=by rw [fitsL,if_pos hc]
  rw [hfit]
  refine s_limit_Fits rfl ?_
  unfold k_limit_Fits
  refine oy ?_
  repeat' (first|(first|refine go1 ?_|refine zg (fun _ _=>?_)|refine zi (fun _ _=>?_))|(refine zN rfl (fun h=>?_) (fun h=>absurd h hc))|(refine zD rfl rfl (fun bp wp xp ap (rp:Row wp ⟨bp,0,none⟩ (txCs t iv ov)) hp0=>?_))|(refine zC rfl (size_spec (M:=N) (cs:=txCs t iv ov) (t:=t) _ (R.ext ht0 (by exact fx)) hs) ?_;rintro _ w3 ⟨rfl,x3⟩;rw [e0]))
  exact x_ret rfl ⟨rfl,by exact fx⟩
end Go.Proofs.YtfebcajheojodaaGreatDoor
end
section
namespace Go.Proofs.YtfebcajheojodaaGreatDoor
open Go Go.K
section
attribute [local irreducible] regK codeK retK KOp.wp u32 leS vnS str zero32 sha2 encT idT sizeT checkT grantB idN stepR workL reachE
theorem clone69_spec {mb:Nat} {M:List Nat} {m:List (ByteArray × Ent)} (w:World) (h:MapR sK entR M w mb m):K.Spec Tryz.prog F.maps_Clone_map_string_api_Entry_string_api_Entry [.map (some mb)] w fun v w'=>∃mb',v=.map (some mb')∧(∀M',MapR sK entR M' w mb m→MapR sK entR M' w' mb' m)∧mb'<w'.heap.size∧w.heap.size≤mb'∧Ext w w':=by
 obtain ⟨mv,h1,h2⟩:=h
 obtain ⟨es,clock,h1,h3⟩:=h1
 refine (AnyW.maps_Clone Tryz.cloneMap128 mb es clock w h1).mono fun e w' ⟨he,hw⟩=>⟨_,he,_,rfl,?_⟩
 subst hw
 have hx:=Ext.alloc w (.map es clock)
 refine ⟨fun M' h=>?_,(At.new w (.map es clock)).lt,Nat.le_refl _,hx⟩
 obtain ⟨mv,k1,h2⟩:=h
 obtain ⟨es',clock',k1,h3⟩:=k1
 have e:Obj.map es clock=Obj.map es' clock':=Option.some.inj ((show w.heap[mb]? =some (.map es clock) from h1).symm.trans k1)
 cases e
 exact ⟨mv,⟨es,clock,At.new _ _,h3⟩,h2.mono fun _ _ ⟨e,cs,e2,hr⟩=>⟨e,cs,e2,R.ext hr hx⟩⟩
theorem clone71_spec {mb:Nat} {m:List (Pt × ByteArray)} (w:World) (h:MapE ptK Value.string w mb m):K.Spec Tryz.prog F.maps_Clone_map_api_Point_string_api_Point_string [.map (some mb)] w fun v w'=>∃mb',v=.map (some mb')∧MapE ptK Value.string w' mb' m∧w.heap.size≤mb'∧Ext w w':=by
 obtain ⟨es,clock,h1,h2⟩:=h
 refine (AnyW.maps_Clone Tryz.cloneMap130 mb es clock w h1).mono fun e w' ⟨he,hw⟩=>⟨_,he,_,rfl,?_⟩
 subst hw
 exact ⟨⟨es,clock,At.new _ _,h2⟩,Nat.le_refl _,Ext.alloc _ _⟩
end
attribute [local irreducible] regK codeK retK KOp.wp K.Spec u32 leS vnS str zero32 sha2 encT idT sizeT checkT grantB idN stepR workL reachE
set_option maxHeartbeats 1000000 in
theorem gcopy_spec {g : Nat} {M : List Nat} {l : List Ent} (w : World) (hG : GrR w g M l) (hM : ∀ b ∈ M, b < w.heap.size) (hn : l.length ≤ 1000) : K.Spec Tryz.prog F.graph_Graph_Copy [.pointer (some ⟨g, 0, none⟩)] w fun r w' =>
    ∃ g' M', r = .pointer (some ⟨g', 0, none⟩) ∧ Gr w' w.heap.size g' M' l ∧ Ext w w' := by
  obtain ⟨b1, vo, b2, m, sp, hP⟩ := hG
  have rg : Row w ⟨g, 0, none⟩ [.map (some b1), vo, .map (some b2)] := Row.of_at hP.at_
  have q1 := hP.ents
  have q2 := hP.pts
  have q3 := hP.ord
  refine s_graph_Graph_Copy rfl ?_
  unfold k_graph_Graph_Copy
  refine oy ?_
  repeat' (first|(first|refine go1 ?_|refine zg (fun _ _=>?_)|refine zi (fun _ _=>?_))|refine st_both ?_ ?_|(refine zC rfl (clone69_spec (M := M) (m := m) _ (by exact fx)) ?_; rintro _ wa ⟨c1, rfl, p1, la, hc1, xa⟩; have sa := xa.size)|(refine zC rfl (clone71_spec (m := sp) _ (by exact fx)) ?_; rintro _ wc ⟨c2, rfl, p2, hc2, xc⟩; have lc := p2.lt; have sc := xc.size)|(refine zC rfl (cloneS_spec (M := []) (v := vo) (l := l.map (fun x : Ent => x.id)) _ (SlE.toR (F := strE) (ag := false) (SlE.ext (w := w) (by exact fx) q3) (by simp)) (by simp; omega) (by simp)) ?_; rintro v5 wb ⟨o5, xb⟩; have lb := o5.lt; have gb := o5.base; replace o5 := OwnR.toOwn o5; have sb := xb.size; obtain ⟨bb, cb, rfl⟩ := o5.sl.form)|(refine zD (cs := [.map (some c1), .slice bb (l.map (fun x : Ent => x.id)).length cb, .map (some c2)]) rfl rfl (fun bp wp xp ap rp hp0=>?_)))
  all_goals
    rename_i xz
    have s0 := xz.size
    have szp := xp.size
    have lp := ap.lt
    generalize Value.slice bb (l.map (fun x : Ent => x.id)).length cb = v5 at *
    have hmm : ∀ b ∈ mutG bp c1 c2 v5, w.heap.size ≤ b := fun b hb => by
      simp only [List.mem_cons] at hb
      rcases hb with rfl | rfl | rfl | hb
      · omega
      · omega
      · omega
      · have := gb b hb; omega
    refine x_ret rfl ⟨bp, _, rfl, ⟨c1, v5, c2, m, sp, ⟨ap, ?_, by exact fx, ?_, hP.inv, ?_, by omega, by omega, by omega⟩, rfl⟩, by exact fx⟩
    · exact (p1 _ (q1.step (show Ext w _ by exact fx) (by simp) (by simp) (fun b hb => .inr (hmm b hb)))).ext (by exact fx)
    · exact Own.lower (Own.ext (by exact fx) o5) (by omega)
    · have n5 : (blkOf v5).Nodup := by cases v5 <;> try exact List.nodup_nil
                                       rename_i b _ _; cases b <;> simp [blkOf]
      have : ∀ b ∈ blkOf v5, b ≠ bp ∧ b ≠ c1 ∧ b ≠ c2 := fun b hb => by have := gb b hb; have := lb b hb; omega
      simp only [List.nodup_cons, List.mem_cons, not_or]
      exact ⟨⟨by omega, by omega, fun h => (this _ h).1 rfl⟩, ⟨by omega, fun h => (this _ h).2.1 rfl⟩, fun h => (this _ h).2.2 rfl, n5⟩
end Go.Proofs.YtfebcajheojodaaGreatDoor
end
