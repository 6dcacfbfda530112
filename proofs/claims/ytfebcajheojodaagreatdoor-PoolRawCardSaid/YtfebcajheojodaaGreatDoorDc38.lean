/- Contracts: the document's taking of a coin. Contracts: the fee of a transaction, by the document. Plain: what the document looks at, by places. Contracts: whether a transaction is plain, by the document. Contracts: the rules of replacing, by the document. -/
import Derived.Test.YtfebcajheojodaaGreatDoorDc37
set_option linter.unusedVariables false
set_option linter.unusedSimpArgs false
section
namespace Go.Proofs.YtfebcajheojodaaGreatDoor
open Go Go.K
attribute [local irreducible] regK codeK retK KOp.wp K.Spec
end Go.Proofs.YtfebcajheojodaaGreatDoor
end
section
namespace Go.Proofs.YtfebcajheojodaaGreatDoor
open Go Go.K
attribute [local irreducible] regK codeK retK KOp.wp K.Spec u32 leS vnS str zero32 numAt byteAt lockL signL brsL chosenB openE ripeB checkT grantB encT idT sizeT inE
theorem find_two (V:List En) (q:Pt):(∃n,∃h:n<V.length,refFind V q=(n:Nat)∧aget V q=some V[n].2)∨(refFind V q= -1∧aget V q=none):=by
 unfold refFind
 cases hi:refIdx V q with
 |none=>exact .inr ⟨rfl,aget_none_idx hi⟩
 |some n=>exact .inl ⟨n,idx_lt hi,rfl,aget_some_idx hi (idx_lt hi)⟩
theorem inE_none {f:Pt→Option Cn} {t:Tx} {h:Int} {x:TIn} (e:f x.p=none):inE f t h x=8:=by unfold inE;rw [e]
theorem inE_open {f:Pt→Option Cn} {t:Tx} {h:Int} {x:TIn} {c:Cn} (e:f x.p=some c) (h1:openE c.s t x≠0):inE f t h x=openE c.s t x:=by unfold inE;rw [e];simp only;rw [if_pos h1]
theorem inE_late {f:Pt→Option Cn} {t:Tx} {h:Int} {x:TIn} {c:Cn} (e:f x.p=some c) (h1:openE c.s t x=0) (h2:ripeB t x c.h h=false):inE f t h x=10:=by unfold inE;rw [e];simp only;rw [if_neg (by rw [h1];decide),h2];rfl
theorem inE_ok {f:Pt→Option Cn} {t:Tx} {h:Int} {x:TIn} {c:Cn} (e:f x.p=some c) (h1:openE c.s t x=0) (h2:ripeB t x c.h h=true):inE f t h x=0:=by unfold inE;rw [e];simp only;rw [if_neg (by rw [h1];decide),h2];rfl
theorem inV_some {f:Pt→Option Cn} {x:TIn} {c:Cn} (e:f x.p=some c):inV f x=c.v:=by unfold inV;rw [e];rfl
def feeV (f:Pt→Option Cn) (t:Tx) (h:Int):Value:=.tuple #[.int .i64 (feeP f t h).1,.int .i64 (feeP f t h).2.1,.int .i64 (feeP f t h).2.2]
set_option maxHeartbeats 4000000 in
theorem rfee_spec {M:List Nat} {v:Value} {cs:List Value} {t:Tx} {l:List En} (h:Int) (w:World) (hv:SlE entE w v l) (ht:txR.rel M w cs t) (hs:t.Sm) (hn:l.length≤100000) (hl:∀e∈l,e.2.s.size≤1000000):
  K.Spec Tryz.prog F.kedgeref11_Fee [v,.agg cs.toArray,.int .i64 h] w fun r w'=>r=feeV (aget l) t h∧Ext w w':=by
 have ht0:=ht
 have hin:=hs.ins
 obtain ⟨iv,ov,rfl,h1,h2,h3,h4⟩:=ht
 by_cases hc:checkT t=0
 ·obtain ⟨hpos,hbase⟩:=radd_grant hc
  have hw:=fun {i} (hi:i<t.ins.length)=>wit_size hc hi
  cases hg:grantB t with
  |true=>
   rw [hg] at hbase
   have e:feeV (aget l) t h=.tuple #[.int .i64 0,.int .i64 4,.int .i64 (-1)]:=by unfold feeV;rw [fee_grant hc hg]
   rw [e]
   refine s_kedgeref11_Fee rfl ?_
   unfold k_kedgeref11_Fee
   refine oy ?_
   repeat' (first|(refine zD rfl rfl (fun bp wp xp ap (rp:Row wp ⟨bp,0,none⟩ (txCs t iv ov)) hp0=>?_))|(refine zC (d:=some 21) rfl (rcheck_spec (M:=M) (t:=t) (cs:=txCs t iv ov) _ (R.ext ht0 (by exact fx)) hs) ?_;rintro _ w2 ⟨rfl,x2⟩;rw [hc])|(refine st_elemR (d:=some 27) (E:=inR) (M:=M) rfl rfl (n:=0) (l:=t.ins) (SlR.ext h1 (by exact fx)) rfl hpos (fun ad cs r4 he=>?_);obtain ⟨wv,rfl,hwv,hp5,hp6⟩:=he)|(refine zC (d:=some 30) rfl (rbase_spec t.ins[0].p _) ?_;rintro _ w3 ⟨rfl,x3⟩;rw [hbase])|(first|refine go1 ?_|refine zg (fun _ _=>?_)|refine zi (fun _ _=>?_)))
   exact x_ret rfl ⟨rfl,by exact fx⟩
  |false=>
   rw [hg] at hbase
   refine s_kedgeref11_Fee rfl ?_
   unfold k_kedgeref11_Fee
   refine oy ?_
   repeat' (first|(refine zD (d:=some 4) rfl rfl (fun bp wp xp ap (rp:Row wp ⟨bp,0,none⟩ (txCs t iv ov)) hp0=>?_))|(refine zC (d:=some 21) rfl (rcheck_spec (M:=M) (t:=t) (cs:=txCs t iv ov) _ (R.ext ht0 (by exact fx)) hs) ?_;rintro _ w2 ⟨rfl,x2⟩;rw [hc])|(refine st_elemR (d:=some 27) (E:=inR) (M:=M) rfl rfl (n:=0) (l:=t.ins) (SlR.ext h1 (by exact fx)) rfl hpos (fun ad cs r4 he=>?_);obtain ⟨wv,rfl,hwv,hp5,hp6⟩:=he)|(refine zC (d:=some 30) rfl (rbase_spec t.ins[0].p _) ?_;rintro _ w3 ⟨rfl,x3⟩;rw [hbase])|(refine c_loopV (fun (p:Nat × Value) w'=>Ext wp w'∧p.1≤t.ins.length∧Own intE T.int wp.heap.size w' p.2 ((t.ins.take p.1).map (inV (aget l)))∧∀j,j<p.1→∀hj:j<t.ins.length,inE (aget l) t h t.ins[j]=0) (fun p=> [(0,v),(2,.int .i64 h),(4,.pointer (some ⟨bp,0,none⟩)),(11,p.2),(12,.int .i64 (p.1:Nat))]) (fun p=>t.ins.length - p.1) (0,.slice none 0 0) ⟨rfl,rfl,rfl,rfl,rfl,trivial⟩ ⟨by exact fx,by simp,Own.nil _ _ _,fun j hj=>absurd hj (by simp)⟩ ?_;rintro ⟨i,v11⟩ ρ w4 ⟨x4,hi,ho,hk⟩;simp only at hi ho hk;dsimp only)|(refine zG (d:=some 35) (E:=inR) (M:=M) (l:=t.ins) rfl (SlR.ext h1 (by exact fx)) ?_)|(refine zL (x:=.tmp 36) (p:=((i:Nat):Int)<((t.ins.length:Nat):Int)) rfl (fun h9=>?_) (fun h9=>?_))|(first|refine go1 ?_|refine zg (fun _ _=>?_)|refine zi (fun _ _=>?_)))
   ·have hil:i<t.ins.length:=by omega
    have hwi:=hw hil
    have stop:inE (aget l) t h t.ins[i]≠0→feeV (aget l) t h=.tuple #[.int .i64 0,.int .i64 (inE (aget l) t h t.ins[i]),.int .i64 (i:Nat)]:=fun he=>by unfold feeV;rw [fee_in hc hg hil hk he]
    have rp4:Row w4 ⟨bp,0,none⟩ (txCs t iv ov):=rp.ext x4
    have x04:Ext w w4:=by exact fx
    have ht4:=R.ext ht0 x04
    have h14:=h1.ext x04
    have hv4:=hv.ext x04
    have x04':Unit→Ext w w4:=fun _=>x04
    have x4':Unit→Ext wp w4:=fun _=>x4
    clear x04 x4 xp x2 x3
    repeat' (first|(refine st_elemR (d:=some 43) (E:=inR) (M:=M) rfl rfl (n:=i) (l:=t.ins) (SlR.ext h14 (by exact fx)) rfl hil (fun ad cs r4 he=>?_);obtain ⟨wv2,rfl,hwv2,hp52,hp62⟩:=he)|(refine zC (d:=some 46) rfl (find10_spec t.ins[i].p _ (SlE.ext (w:=w4) (by exact fx) hv4) hn) ?_;rintro _ w5 ⟨rfl,x5⟩)|(first|refine go1 ?_|refine zg (fun _ _=>?_)|refine zi (fun _ _=>?_)))
    rcases find_two l t.ins[i].p with ⟨n,hnl,e1,e2⟩|⟨e1,e2⟩
    ·rw [e1]
     obtain ⟨c,hcc⟩:∃c,c=l[n].2:=⟨_,rfl⟩
     have hcs:c.s.size≤1000000:=by rw [hcc];exact hl _ (List.getElem_mem hnl)
     rw [←hcc] at e2
     by_cases ho0:openE c.s t t.ins[i]=0
     ·cases hrp:ripeB t t.ins[i] c.h h with
      |false=>
       rw [stop (by rw [inE_late e2 ho0 hrp];decide),inE_late e2 ho0 hrp]
       repeat' (first|(refine zL (x:=.tmp 48) rfl (fun h=>absurd h (by omega)) (fun _=>?_))|(refine st_elemE (d:=some 52) (E:=entE) rfl rfl (n:=n) (l:=l) (SlE.ext (w:=w4) (by exact fx) hv4) rfl hnl (fun ad52 r52=>?_))|(refine zE (d':=14) (fun _=>rfl) rfl rfl (by rfl) (fun b7 w7 x7 a7 (r7:Row w7 ⟨b7,0,none⟩ l[n].2.cs) hb7=>?_);rw [←hcc] at r7)|(refine zC (d:=some 60) rfl (open8_spec (M:=M) (t:=t) (cs:=txCs t iv ov) c.s hcs i hil hin hwi _ (R.ext ht4 (by exact fx))) ?_;rintro _ w8 ⟨rfl,x8⟩;rw [ho0])|(refine zC (d:=some 70) rfl (ripe8_spec (M:=M) (t:=t) (cs:=txCs t iv ov) i hil hin c.h h _ (R.ext ht4 (by exact fx))) ?_;rintro _ w9 ⟨rfl,x9⟩;rw [hrp])|(first|refine go1 ?_|refine zg (fun _ _=>?_)|refine zi (fun _ _=>?_)))
       exact x_ret rfl ⟨rfl,(x04' ()).trans (by exact fx)⟩
      |true=>
       have hok:=inE_ok (h:=h) e2 ho0 hrp
       have hiv:=inV_some e2
       repeat' (first|(refine zL (x:=.tmp 48) rfl (fun h=>absurd h (by omega)) (fun _=>?_))|(refine st_elemE (d:=some 52) (E:=entE) rfl rfl (n:=n) (l:=l) (SlE.ext (w:=w4) (by exact fx) hv4) rfl hnl (fun ad52 r52=>?_))|(refine zE (d':=14) (fun _=>rfl) rfl rfl (by rfl) (fun b7 w7 x7 a7 (r7:Row w7 ⟨b7,0,none⟩ l[n].2.cs) hb7=>?_);rw [←hcc] at r7)|(refine zC (d:=some 60) rfl (open8_spec (M:=M) (t:=t) (cs:=txCs t iv ov) c.s hcs i hil hin hwi _ (R.ext ht4 (by exact fx))) ?_;rintro _ w8 ⟨rfl,x8⟩;rw [ho0])|(refine zC (d:=some 70) rfl (ripe8_spec (M:=M) (t:=t) (cs:=txCs t iv ov) i hil hin c.h h _ (R.ext ht4 (by exact fx))) ?_;rintro _ w9 ⟨rfl,x9⟩;rw [hrp])|(refine zI (d:=some 78) (cs:= [.int .i64 c.v]) rfl (fun b8 w8 x8 a8 hb8=>?_))|(refine st_append (d:=some 79) (E:=intE) (v:=v11) (l2:= [c.v]) rfl (ho.ext (by exact fx)) (Nat.le_trans (Ext.size (x4' ())) (Ext.size (w:=w4) (by exact fx))) rfl rfl (sl_new a8 rfl) rfl rfl (by simp;omega) (fun v10 w10 o10 c10=>?_))|(first|refine go1 ?_|refine zg (fun _ _=>?_)|refine zi (fun _ _=>?_)))
       have x410:=Ext.chg ((x4' ()).trans (show Ext w4 _ by exact fx)) c10
       exact ⟨(i+1,v10),⟨rfl,rfl,rfl,rfl,rfl,trivial⟩,⟨x410.mono (fun b hb=>.inr (ho.base b hb)),by simp only;omega,by simp only;rw [List.take_succ_eq_append_getElem hil,List.map_append,List.map_cons,List.map_nil,hiv];exact o10,fun j hj hjl=>by
        simp only at hj
        by_cases e:j=i
        ·subst e;exact hok
        ·exact hk j (by omega) hjl⟩,by simp only;omega⟩
     ·rw [stop (by rw [inE_open e2 ho0];exact ho0),inE_open e2 ho0]
      repeat' (first|(refine zL (x:=.tmp 48) rfl (fun h=>absurd h (by omega)) (fun _=>?_))|(refine st_elemE (d:=some 52) (E:=entE) rfl rfl (n:=n) (l:=l) (SlE.ext (w:=w4) (by exact fx) hv4) rfl hnl (fun ad52 r52=>?_))|(refine zE (d':=14) (fun _=>rfl) rfl rfl (by rfl) (fun b7 w7 x7 a7 (r7:Row w7 ⟨b7,0,none⟩ l[n].2.cs) hb7=>?_);rw [←hcc] at r7)|(refine zC (d:=some 60) rfl (open8_spec (M:=M) (t:=t) (cs:=txCs t iv ov) c.s hcs i hil hin hwi _ (R.ext ht4 (by exact fx))) ?_;rintro _ w8 ⟨rfl,x8⟩)|(refine zN (x:=.tmp 62) (p:=openE c.s t t.ins[i]=0) rfl (fun _=>?_) (fun h=>absurd h ho0))|(first|refine go1 ?_|refine zg (fun _ _=>?_)|refine zi (fun _ _=>?_)))
      exact x_ret rfl ⟨rfl,(x04' ()).trans (by exact fx)⟩
    ·rw [e1,stop (by rw [inE_none e2];decide),inE_none e2]
     repeat' (first|(first|refine go1 ?_|refine zg (fun _ _=>?_)|refine zi (fun _ _=>?_)))
     exact x_ret rfl ⟨rfl,(x04' ()).trans (by exact fx)⟩
   ·have ei:i=t.ins.length:=by omega
    subst ei
    rw [List.take_length] at ho
    have x04:Ext w w4:=by exact fx
    have ht4:=R.ext ht0 x04
    have rp4:Row w4 ⟨bp,0,none⟩ (txCs t iv ov):=rp.ext x4
    have hfa:=fee_all hc hg fun j hj=>hk j hj hj
    have hlen:((t.ins.map (inV (aget l))).length)≤1000000000000:=by simp;omega
    have x04':Unit→Ext w w4:=fun _=>x04
    clear x04 xp x2 x3 x4
    by_cases hsum:sumE (t.ins.map (inV (aget l)))=0
    ·have hgood:=(goodB_iff _).1 (sumE_good hsum)
     have hgv:=(goodB_iff _).1 (sumE_good (check_sum hc))
     rw [if_neg (by simpa using hsum)] at hfa
     by_cases hv8:sumV (values t)>sumV (t.ins.map (inV (aget l)))
     ·rw [if_pos hv8] at hfa
      rw [show feeV (aget l) t h=.tuple #[.int .i64 0,.int .i64 12,.int .i64 (-1)] by unfold feeV;rw [hfa]]
      repeat' (first|(refine zC (d:=some 82) rfl (rsum_spec (l:=t.ins.map (inV (aget l))) _ (SlE.ext (w:=w4) (by exact fx) ho.sl) hlen) ?_;rintro _ _ ⟨rfl,rfl⟩;rw [hsum])|(refine zC (d:=some 90) rfl (rtotal_spec (M:=M) (t:=t) (cs:=txCs t iv ov) _ (R.ext ht4 (by exact fx)) hs) ?_;rintro _ w5 ⟨rfl,x5⟩)|(refine zL (x:=.tmp 95) (p:=sumV (values t)>sumV (t.ins.map (inV (aget l)))) rfl (fun _=>?_) (fun h=>absurd hv8 h))|(first|refine go1 ?_|refine zg (fun _ _=>?_)|refine zi (fun _ _=>?_)))
      exact x_ret rfl ⟨rfl,(x04' ()).trans (by exact fx)⟩
     ·rw [if_neg hv8] at hfa
      rw [show feeV (aget l) t h=.tuple #[.int .i64 (sumV (t.ins.map (inV (aget l))) - sumV (values t)),.int .i64 0,.int .i64 (-1)] by unfold feeV;rw [hfa]]
      repeat' (first|(refine zC (d:=some 82) rfl (rsum_spec (l:=t.ins.map (inV (aget l))) _ (SlE.ext (w:=w4) (by exact fx) ho.sl) hlen) ?_;rintro _ _ ⟨rfl,rfl⟩;rw [hsum])|(refine zC (d:=some 90) rfl (rtotal_spec (M:=M) (t:=t) (cs:=txCs t iv ov) _ (R.ext ht4 (by exact fx)) hs) ?_;rintro _ w5 ⟨rfl,x5⟩)|(refine zL (x:=.tmp 95) (p:=sumV (values t)>sumV (t.ins.map (inV (aget l)))) rfl (fun h=>absurd h hv8) (fun _=>?_))|(first|refine go1 ?_|refine zg (fun _ _=>?_)|refine zi (fun _ _=>?_)))
      exact x_ret rfl ⟨rfl,(x04' ()).trans (by exact fx)⟩
    ·rw [if_pos hsum] at hfa
     rw [show feeV (aget l) t h=.tuple #[.int .i64 0,.int .i64 (sumE (t.ins.map (inV (aget l)))),.int .i64 (-1)] by unfold feeV;rw [hfa]]
     repeat' (first|(refine zC (d:=some 82) rfl (rsum_spec (l:=t.ins.map (inV (aget l))) _ (SlE.ext (w:=w4) (by exact fx) ho.sl) hlen) ?_;rintro _ _ ⟨rfl,rfl⟩)|(refine zN (x:=.tmp 86) (p:=sumE (t.ins.map (inV (aget l)))=0) rfl (fun _=>?_) (fun h=>absurd h hsum))|(first|refine go1 ?_|refine zg (fun _ _=>?_)|refine zi (fun _ _=>?_)))
     exact x_ret rfl ⟨rfl,(x04' ()).trans (by exact fx)⟩
 ·have e:feeV (aget l) t h=.tuple #[.int .i64 0,.int .i64 (checkT t),.int .i64 (-1)]:=by unfold feeV;rw [fee_bad hc]
  rw [e]
  refine s_kedgeref11_Fee rfl ?_
  unfold k_kedgeref11_Fee
  refine oy ?_
  repeat' (first|(refine zD rfl rfl (fun bp wp xp ap (rp:Row wp ⟨bp,0,none⟩ (txCs t iv ov)) hp0=>?_))|(refine zC (d:=some 21) rfl (rcheck_spec (M:=M) (t:=t) (cs:=txCs t iv ov) _ (R.ext ht0 (by exact fx)) hs) ?_;rintro _ w2 ⟨rfl,x2⟩)|(refine zN (x:=.tmp 23) (p:=checkT t=0) rfl (fun _=>?_) (fun h=>absurd h hc))|(first|refine go1 ?_|refine zg (fun _ _=>?_)|refine zi (fun _ _=>?_)))
  exact x_ret rfl ⟨rfl,by exact fx⟩
end Go.Proofs.YtfebcajheojodaaGreatDoor
end
section
namespace Go.K
open Go Go.Proofs.YtfebcajheojodaaGreatDoor
theorem idx_find {α:Type} (p:α→Bool) (l:List α):(idxOf p l<0∧l.find? p=none)∨∃i,∃h:i<l.length,idxOf p l=(i:Nat)∧l.find? p=some l[i]:=by
 induction l with
 |nil=>exact .inl ⟨by unfold idxOf;simp,rfl⟩
 |cons x l ih=>
  by_cases hx:p x=true
  ·refine .inr ⟨0,by simp,?_,?_⟩
   ·exact idxOf_hit (i:=0) (by simp) hx (fun j hj=>absurd hj (by omega))
   ·rw [List.find?_cons_of_pos hx];rfl
  ·have e:idxOf p (x::l)=if idxOf p l<0 then -1 else idxOf p l+1:=by
    unfold idxOf
    rw [List.findIdx?_cons,if_neg hx]
    cases l.findIdx? p with
    |none=>rfl
    |some i=>simp;omega
   rw [List.find?_cons_of_neg hx,e]
   rcases ih with ⟨h1,h2⟩|⟨i,hi,h1,h2⟩
   ·exact .inl ⟨by rw [if_pos h1];omega,h2⟩
   ·exact .inr ⟨i+1,by simpa using hi,by rw [if_neg (by omega),h1];omega,by rw [h2];simp⟩
theorem inB_mask {l:List Ent} {m:List Bool} (hn:(l.map (·.id)).Nodup) (hl:l.length=m.length) {k:Nat} (hk:k<l.length):inB (idsOf l m) l[k].id=m[k]'(by omega):=by
 rw [Bool.eq_iff_iff,inB_iff,mem_mask]
 constructor
 ·rintro ⟨i,hi,h1,h2⟩
  have:=entD_inj hn hi hk (by rw [entD_get hi,entD_get hk];exact h2)
  subst this
  exact (List.getElem?_eq_some_iff.1 h1).2
 ·exact fun h=>⟨k,hk,by rw [List.getElem?_eq_getElem (by omega),h],rfl⟩
theorem inB_none {l:List Ent} {m:List Bool} (hid:∀x∈l,x.id.size=32):inB (idsOf l m) ⟨#[]⟩=false:=by
 rw [←Bool.not_eq_true,inB_iff,mem_mask]
 rintro ⟨i,hi,_,h2⟩
 have:=hid _ (List.getElem_mem hi)
 rw [h2] at this
 exact absurd this (by decide)
def freshAt (l:List Ent) (t:Tx) (p:Pt):Bool:=outHas l p&&(inB (idsOf l (evL l t)) p.s||!inB (idsOf l (confL l t)) (spId l p))
theorem freshP_any (l:List Ent) (t:Tx):freshP l t=t.ins.any fun b=>freshAt l t b.p:=rfl
theorem freshAt_no {l:List Ent} {t:Tx} {p:Pt} (h:findI l p.s<0):freshAt l t p=false:=by
 unfold freshAt outHas
 rcases idx_find (fun x:Ent=>decide (x.id=p.s)) l with ⟨_,h2⟩|⟨i,hi,h1,_⟩
 ·rw [(has_none h2).1];rfl
 ·unfold findI at h;omega
theorem find_at {l:List Ent} {s:ByteArray} (h:¬findI l s<0):∃k,∃hk:k<l.length,findI l s=(k:Nat)∧l[k].id=s∧hasE l s=true∧getE l s=l[k]:=by
 rcases idx_find (fun x:Ent=>decide (x.id=s)) l with ⟨h1,_⟩|⟨i,hi,h1,h2⟩
 ·exact absurd h1 h
 ·obtain ⟨e1,e2,_,e4⟩:=has_some h2
  exact ⟨i,hi,h1,e4,e1,e2⟩
theorem freshAt_yes {l:List Ent} {t:Tx} {p:Pt} (hn:(l.map (·.id)).Nodup) {k:Nat} (hk:k<l.length) (h2:l[k].id=p.s) (h3:hasE l p.s=true) (h4:getE l p.s=l[k]):
  freshAt l t p=(decide (p.i<(l[k].tx.outs.length:Int))&&((evL l t)[k]'(by rw [←evL_len];exact hk)||!inB (idsOf l (confL l t)) (spId l p))):=by
 unfold freshAt outHas
 rw [h3,h4,Bool.true_and,←h2,inB_mask hn evL_len hk]
theorem spend_at {l:List Ent} {p:Pt} (h:¬spendI l p<0):∃s,∃hs:s<l.length,spendI l p=(s:Nat)∧spId l p=l[s].id:=by
 rcases idx_find (fun x:Ent=>spends x p) l with ⟨h1,_⟩|⟨i,hi,h1,h2⟩
 ·exact absurd h1 h
 ·exact ⟨i,hi,h1,by unfold spId spE;rw [h2];rfl⟩
theorem spend_no {l:List Ent} {p:Pt} (h:spendI l p<0):spId l p=⟨#[]⟩:=by
 rcases idx_find (fun x:Ent=>spends x p) l with ⟨_,h2⟩|⟨i,hi,h1,_⟩
 ·unfold spId spE;rw [h2];rfl
 ·unfold spendI at h;omega
end Go.K
end
section
namespace Go.K
open Go Go.Proofs.YtfebcajheojodaaGreatDoor
theorem findIdx_congr {α:Type} {p q:α→Bool}:∀(l:List α),(∀x∈l,p x=q x)→l.findIdx? p=l.findIdx? q
 | [],_=>rfl
 |x::l,h=>by
  rw [List.findIdx?_cons,List.findIdx?_cons,h x (by simp),findIdx_congr l (fun y hy=>h y (by simp [hy]))]
theorem inE_congr {f g:Pt→Option Cn} {t:Tx} {h:Int} {x:TIn} (e:f x.p=g x.p):inE f t h x=inE g t h x:=by unfold inE;rw [e]
theorem fee_congr {f g:Pt→Option Cn} {t:Tx} {h:Int} (e:∀x∈t.ins,f x.p=g x.p):feeP f t h=feeP g t h:=by
 have h1:(t.ins.findIdx? fun x=>decide (inE f t h x≠0))=t.ins.findIdx? fun x=>decide (inE g t h x≠0):=findIdx_congr _ fun x hx=>by rw [inE_congr (e x hx)]
 have h2:t.ins.map (inV f)=t.ins.map (inV g):=List.map_congr_left fun x hx=>by unfold inV;rw [e x hx]
 unfold feeP
 rw [h1,h2]
 cases hi:t.ins.findIdx? fun x=>decide (inE g t h x≠0) with
 |none=>rfl
 |some i=>
  have hil:i<t.ins.length:=(List.findIdx?_eq_some_iff_getElem.1 hi).1
  have h3:t.ins.getD i default=t.ins[i]:=by rw [List.getD_eq_getElem?_getD,List.getElem?_eq_getElem hil];rfl
  simp only
  rw [h3,inE_congr (e _ (List.getElem_mem hil))]
end Go.K
namespace Go.Proofs.YtfebcajheojodaaGreatDoor
open Go Go.K
theorem ins_nonneg {M:List Nat} {w:World} {iv:Value} {ins:List TIn} (h:SlR inR M w iv ins):∀x∈ins,0≤x.p.i:=by
 obtain ⟨css,h1,h2,h3⟩:=h
 exact All2.right (fun _ _ ⟨_,_,_,h,_⟩=>h.1) h2
attribute [local irreducible] regK codeK retK KOp.wp K.Spec u32 leS vnS str zero32 numAt byteAt lockL signL brsL chosenB openE ripeB checkT grantB encT idT sizeT inE feeP dustI overL overV
def plainV (p:Int × Int × Int):Value:=.tuple #[.int .i64 p.1,.int .i64 p.2.1,.int .i64 p.2.2]
set_option maxHeartbeats 2000000 in
theorem plain17_spec {M:List Nat} {v u:Value} {cs:List Value} {V:List En} {l:List Ent} {t:Tx} (h:Int) (w:World) (hv:SlE entE w v V) (hu:SlR entR M w u l) (ht:txR.rel M w cs t) (hs:t.Sm) (hV:V.length≤1000) (hl:l.length≤1000) (hE:∀x∈l,EntOk x) (hVk:(V.map (·.1)).Nodup) (hnd:(l.map (·.id)).Nodup) (hon:(overL V l h).length≤100000) (hos:∀e∈overL V l h,e.2.s.size≤1000000):
  K.Spec Tryz.prog F.kedgeref17_Plain [v,u,.agg cs.toArray,.int .i64 h] w fun r w'=>r=plainV (plainP (aget V) l t h)∧Ext w w':=by
 have ht0:=ht
 have hsm:∀x∈l,x.tx.outs.length≤1000:=fun x hx=>(chk_sm (hE x hx).check).outs
 obtain ⟨iv,ov,rfl,h1,h2,h3,h4⟩:=ht
 have hfe:feeP (aget (overL V l h)) t h=feeP (overV (aget V) l h) t h:=fee_congr fun x hx=>over_get hVk hnd (ins_nonneg h1 x hx)
 refine s_kedgeref17_Plain rfl ?_
 unfold k_kedgeref17_Plain
 refine oy ?_
 repeat (first|(refine zD (d:=some 6) (cs:=txCs t iv ov) rfl rfl (fun bp wp xp ap (rp:Row wp ⟨bp,0,none⟩ (txCs t iv ov)) hp0=>?_))|(first|refine go1 ?_|refine zg (fun _ _=>?_)|refine zi (fun _ _=>?_)))
 have tp:=R.ext ht0 xp
 refine zC (d:=some 20) rfl (rcheck_spec (M:=M) (t:=t) (cs:=txCs t iv ov) _ tp hs) ?_
 rintro _ w2 ⟨rfl,x2⟩
 by_cases hc:checkT t=0
 ·have hz:=sz_of_check hs hc
  have r2:=Row.ext x2 rp
  repeat (first|(refine st_fixV (d:=some 22) (.bool false) rfl (congrArg (fun b=>some (Value.bool (!b))) (decide_eq_true hc)) ?_)|(first|refine go1 ?_|refine zg (fun _ _=>?_)|refine zi (fun _ _=>?_)))
  refine zC (d:=some 25) rfl (rid_spec (M:=M) (t:=t) (cs:=txCs t iv ov) _ (R.ext tp x2) hz) ?_
  rintro _ w3 ⟨rfl,x3⟩
  have x03:Ext w w3:=xp.trans (x2.trans x3)
  have r3:=Row.ext x3 r2
  repeat (first|refine go1 ?_|refine zg (fun _ _=>?_)|refine zi (fun _ _=>?_))
  refine zC (d:=some 28) rfl (find_spec (M:=M) (l:=l) (idT t) _ (hu.ext x03) (by omega)) ?_
  rintro _ w4 ⟨rfl,rfl⟩
  by_cases hf:findI l (idT t)<0
  ·have hh:hasE l (idT t)=false:=by
    rcases idx_find (fun x:Ent=>decide (x.id=idT t)) l with ⟨_,h2⟩|⟨i,hi,h1,_⟩
    ·exact (has_none h2).1
    ·unfold findI at hf;omega
   repeat (first|(refine st_fixV (d:=some 30) (.bool false) rfl (congrArg (fun b=>some (Value.bool b)) (decide_eq_false (by omega))) ?_)|(first|refine go1 ?_|refine zg (fun _ _=>?_)|refine zi (fun _ _=>?_)))
   refine zC (d:=some 34) rfl (over17_spec h _ (hv.ext x03) (hu.ext x03) hV hl hsm) ?_
   rintro ol w5 ⟨ho,x5⟩
   have r5:=Row.ext x5 r3
   repeat (first|refine go1 ?_|refine zg (fun _ _=>?_)|refine zi (fun _ _=>?_))
   refine zC (d:=some 39) rfl (rfee_spec (M:=M) (t:=t) (cs:=txCs t iv ov) (l:=overL V l h) h _ ho.sl (R.ext ht0 (x03.trans x5)) hs hon hos) ?_
   rintro _ w6 ⟨rfl,x6⟩
   have r6:=Row.ext x6 r5
   have x06:=(x03.trans x5).trans x6
   unfold feeV
   rw [hfe]
   by_cases hfz:(feeP (overV (aget V) l h) t h).2.1=0
   ·rw [plain_ok hc hh hfz]
    repeat (first|(refine st_fixV (d:=some 44) (.bool false) rfl (congrArg (fun b=>some (Value.bool (!b))) (decide_eq_true hfz)) ?_)|(first|refine go1 ?_|refine zg (fun _ _=>?_)|refine zi (fun _ _=>?_)))
    refine zC (d:=some 48) rfl (first9_spec (M:=M) (t:=t) (cs:=txCs t iv ov) _ (R.ext ht0 x06) hs (fun y hy=>by have:=hz.scr y hy;omega)) ?_
    rintro _ w7 ⟨rfl,x7⟩
    by_cases hd:0≤dustI t
    ·rw [if_pos hd]
     repeat (first|(refine st_fixV (d:=some 50) (.bool true) rfl (congrArg (fun b=>some (Value.bool b)) (decide_eq_true hd)) ?_)|(first|refine go1 ?_|refine zg (fun _ _=>?_)|refine zi (fun _ _=>?_)))
     exact x_ret rfl ⟨rfl,x06.trans x7⟩
    ·rw [if_neg hd]
     repeat (first|(refine st_fixV (d:=some 50) (.bool false) rfl (congrArg (fun b=>some (Value.bool b)) (decide_eq_false hd)) ?_)|(first|refine go1 ?_|refine zg (fun _ _=>?_)|refine zi (fun _ _=>?_)))
     exact x_ret rfl ⟨rfl,x06.trans x7⟩
   ·rw [plain_fee hc hh hfz]
    repeat (first|(refine st_fixV (d:=some 44) (.bool true) rfl (congrArg (fun b=>some (Value.bool (!b))) (decide_eq_false hfz)) ?_)|(first|refine go1 ?_|refine zg (fun _ _=>?_)|refine zi (fun _ _=>?_)))
    exact x_ret rfl ⟨rfl,x06⟩
  ·have hh:hasE l (idT t)=true:=by obtain ⟨k,hk, -, -,h3, -⟩:=find_at hf;exact h3
   rw [plain_twice hc hh]
   repeat (first|(refine st_fixV (d:=some 30) (.bool true) rfl (congrArg (fun b=>some (Value.bool b)) (decide_eq_true (by omega))) ?_)|(first|refine go1 ?_|refine zg (fun _ _=>?_)|refine zi (fun _ _=>?_)))
   exact x_ret rfl ⟨rfl,x03⟩
 ·rw [plain_bad hc]
  repeat (first|(refine st_fixV (d:=some 22) (.bool true) rfl (congrArg (fun b=>some (Value.bool (!b))) (decide_eq_false hc)) ?_)|(first|refine go1 ?_|refine zg (fun _ _=>?_)|refine zi (fun _ _=>?_)))
  exact x_ret rfl ⟨rfl,xp.trans x2⟩
end Go.Proofs.YtfebcajheojodaaGreatDoor
end
section
namespace Go.Proofs.YtfebcajheojodaaGreatDoor
open Go Go.K
attribute [local irreducible] regK codeK retK KOp.wp K.Spec u32 leS vnS str zero32 sha2 encT idT sizeT checkT grantB idN stepR workL reachE findI dropG addG aboveL belowL idsOf feeD sizeD confL evL marksI evI hitSo orTo sigT mayE feeOf szOf cmpR hitE freshAt spendI enoughL
theorem hit_false {l:List Ent} {t:Tx} (h:∀x∈l,(hitE t x&&!mayE l x)=false):(l.any fun x=>hitE t x&&!mayE l x)=false:=List.any_eq_false.2 fun x hx=>by rw [h x hx];simp
theorem max0 (k:Nat):max ((k:Nat):Int) 0=(k:Nat):=by omega
set_option maxHeartbeats 8000000 in
theorem rrules_spec {M : List Nat} {v : Value} {cs : List Value} {l : List Ent} {t : Tx} (fee : Int) (w : World) (hl : SlR entR M w v l) (ht : txR.rel M w cs t) (hs : t.Sm) (hn : l.length ≤ 1000) (hE : ∀ x ∈ l, EntOk x) (hf : ∀ x ∈ l, x.fee ≤ 1000000000000) (hnd : (l.map (·.id)).Nodup) (hid : ∀ x ∈ l, x.id.size = 32) :
    K.Spec Tryz.prog F.kedgeref16_Rules [v, .agg cs.toArray, .int .i64 fee] w fun r w' => r = .int .i64 (rulesL l t fee) ∧ Ext w w' := by
  have hsm : ∀ x ∈ l, x.tx.Sm := fun x hx => chk_sm (hE x hx).check
  have hqe : ∀ x ∈ l, x.tx.ins.length ≤ 1000 := fun x hx => (hsm x hx).ins
  have hcl := confL_len (l := l) (t := t)
  have hel := evL_len (l := l) (t := t)
  have ht0 := ht
  obtain ⟨iv, ov, rfl, h1, h2, h3⟩ := ht
  by_cases hc : checkT t = 0
  · cases hgf : goodB fee with
    | false =>
      have e : rulesL l t fee = 3 := by rw [rulesL, if_neg (by simpa using hc), if_pos hgf]
      rw [e]
      refine s_kedgeref16_Rules rfl ?_
      unfold k_kedgeref16_Rules
      refine oy ?_
      repeat' (first|(refine zF (d := some 24) (v := .bool false) ((qG _).trans (by rw [hgf])) ?_)|(first|refine go1 ?_|refine zg (fun _ _=>?_)|refine zi (fun _ _=>?_))|(refine zD (d := some 4) rfl rfl (fun bp wp xp ap (rp : Row wp ⟨bp, 0, none⟩ (txCs t iv ov)) hp0=>?_))|(refine zC (d := some 19) rfl (rcheck_spec (M := M) (cs := txCs t iv ov) (t := t) _ (R.ext ht0 (by exact fx)) hs) ?_; rintro _ w3 ⟨rfl, x3⟩; rw [hc]))
      exact x_ret rfl ⟨rfl, by exact fx⟩
    | true =>
      have hR : rulesL l t fee = if (l.any fun x => hitE t x && !mayE l x) = true then 15 else if l.any (hitE t) = false then 0 else if (idsOf l (evL l t)).length > 100 then 15 else if freshP l t = true then 15 else if enoughL l t fee = true then 0 else 11 := by
        rw [rulesL, if_neg (by simpa using hc), if_neg (by rw [hgf]; simp)]
      rw [hR]
      have id0 : idsOf (l.take 0) ((evL l t).take 0) = [] := by rw [List.take_zero, List.take_zero]; unfold idsOf; rfl
      refine s_kedgeref16_Rules rfl ?_
      unfold k_kedgeref16_Rules
      refine oy ?_
      repeat' (first|(refine zF (d := some 24) (v := .bool true) ((qG _).trans (by rw [hgf])) ?_)|(first|refine go1 ?_|refine zg (fun _ _=>?_)|refine zi (fun _ _=>?_))|(refine zL rfl (fun h => ?_) (fun h => ?_))|(refine zD (d := some 4) rfl rfl (fun bp wp xp ap (rp : Row wp ⟨bp, 0, none⟩ (txCs t iv ov)) hp0=>?_))|(refine zC (d := some 19) rfl (rcheck_spec (M := M) (cs := txCs t iv ov) (t := t) _ (R.ext ht0 (by exact fx)) hs) ?_; rintro _ w3 ⟨rfl, x3⟩; rw [hc])|(refine zC (d := some 29) rfl (rconf_spec (M := M) (l := l) (cs := txCs t iv ov) (t := t) _ (SlR.ext hl (by exact fx)) (R.ext ht0 (by exact fx)) hs.ins hn hqe) ?_; rintro vc w4 ⟨sc, x4, -⟩)|(refine zC (d := some 32) rfl (rev_spec (M := M) (l := l) (cs := txCs t iv ov) (t := t) _ (SlR.ext hl (by exact fx)) (R.ext ht0 (by exact fx)) hs.ins hn hsm) ?_; rintro vg w5 ⟨sg, x5, -⟩; have sc5 := SlE.ext x5 sc; have l5 : SlR entR M w5 v l := SlR.ext hl (by exact fx); have rp5 : Row w5 ⟨bp, 0, none⟩ (txCs t iv ov) := Row.ext (by exact fx) rp; have h15 : SlR inR M w5 iv t.ins := SlR.ext h1 (by exact fx); have y05 : Ext w w5 := (by exact fx); have t5 := R.ext ht0 y05; have x05 : Unit → Ext w w5 := (fun _ => y05); clear y05 xp x3 x4 x5 rp ap sc)|(refine zG (E := entR) (M := M) (l := l) rfl (SlR.ext l5 (by exact fx)) ?_)|(refine c_loopV (fun (i : Nat) w' => Ext w5 w' ∧ i ≤ l.length ∧ ∀ x ∈ l.take i, (hitE t x && !mayE l x) = false) (fun i => [(0, v), (2, .int .i64 fee), (4, .pointer (some ⟨bp, 0, none⟩)), (9, vc), (10, vg), (11, .bool ((l.take i).any (hitE t))), (12, .int .i64 ((idsOf (l.take i) ((evL l t).take i)).length : Nat)), (13, .int .i64 i)]) (fun i => l.length - i) 0 ⟨rfl, rfl, rfl, rfl, rfl, rfl, by rw [id0]; rfl, rfl, trivial⟩ ⟨Ext.refl _, by simp, by simp⟩ ?_; rintro i ρ w6 ⟨x6, hi, hk⟩))
      · have hil : i < l.length := by omega
        have hci : (confL l t)[i]'(by omega) = hitE t l[i] := by
          have e : (confL l t)[i]? = some (hitE t l[i]) := by unfold confL; rw [List.getElem?_map, List.getElem?_eq_getElem hil]; rfl
          exact (List.getElem?_eq_some_iff.1 e).2
        have htk : (l.take (i + 1)).any (hitE t) = ((l.take i).any (hitE t) || hitE t l[i]) := by rw [List.take_succ_eq_append_getElem hil, List.any_append]; simp
        have hev := evL_take (t := t) hil
        have hle := idsOf_length (l.take i) ((evL l t).take i)
        have htl : (l.take i).length = i := by rw [List.length_take]; omega
        have hk2 : (hitE t l[i] && !mayE l l[i]) = false → ∀ x ∈ l.take (i + 1), (hitE t x && !mayE l x) = false := fun h9 x hx => by
          rw [List.take_succ_eq_append_getElem hil] at hx
          rcases List.mem_append.1 hx with h8 | h8
          · exact hk x h8
          · simp only [List.mem_singleton] at h8; subst h8; exact h9
        obtain ⟨B, hB⟩ : ∃ B, hitE t l[i] = B := ⟨_, rfl⟩
        obtain ⟨C, hC⟩ : ∃ C, mayE l l[i] = C := ⟨_, rfl⟩
        obtain ⟨D, hD⟩ : ∃ D, (l.take i).any (hitE t) = D := ⟨_, rfl⟩
        obtain ⟨E, hEv⟩ : ∃ E, (evL l t)[i]'(by omega) = E := ⟨_, rfl⟩
        rw [hEv] at hev
        rw [hD, hB] at htk
        rw [hB, hC] at hk2
        rw [hD]
        generalize idsOf (l.take i) ((evL l t).take i) = P at *
        cases B <;> cases C <;> cases D <;> cases E
        all_goals repeat' (first|(first|refine go1 ?_|refine zg (fun _ _=>?_)|refine zi (fun _ _=>?_))|(refine zC (d := some 41) rfl (rmay_spec (M := M) (l := l) (n := i) _ (SlR.ext l5 (by exact fx)) hil hn hsm hnd) ?_; rintro _ w7 ⟨rfl, x7⟩; rw [hC])|(refine st_elemE (d := some 44) (E := boolE) rfl rfl (n := i) (l := confL l t) (SlE.ext (by exact fx) sc5) rfl (by omega) (fun ad r9 => ?_); have r9 : Row _ ad [Value.bool ((confL l t)[i]'(by omega))] := r9; rw [hci, hB] at r9)|(refine st_elemE (d := some 54) (E := boolE) rfl rfl (n := i) (l := confL l t) (SlE.ext (by exact fx) sc5) rfl (by omega) (fun ad r10 => ?_); have r10 : Row _ ad [Value.bool ((confL l t)[i]'(by omega))] := r10; rw [hci, hB] at r10)|(refine st_elemE (d := some 59) (E := boolE) rfl rfl (n := i) (l := evL l t) (SlE.ext (by exact fx) sg) rfl (by omega) (fun ad r11 => ?_); have r11 : Row _ ad [Value.bool ((evL l t)[i]'(by omega))] := r11; rw [hEv] at r11))
        all_goals first
          | (rw [if_pos (show (l.any fun x => hitE t x && !mayE l x) = true from List.any_eq_true.2 ⟨l[i], List.getElem_mem hil, by rw [hB, hC]; rfl⟩)]
             exact x_ret rfl ⟨rfl, Ext.trans (x05 ()) (by exact fx)⟩)
          | exact ⟨i + 1, ⟨rfl, rfl, rfl, rfl, rfl, congrArg Value.bool htk.symm, congrArg (fun n : Nat => Value.int .i64 (n : Nat)) (by rw [hev]; simp), rfl, trivial⟩, ⟨by exact fx, by omega, hk2 rfl⟩, by omega⟩
          | trace_state
      · have ei : i = l.length := by omega
        subst ei
        rw [List.take_length] at hk
        rw [List.take_length, List.take_of_length_le (show (evL l t).length ≤ l.length by omega), if_neg (by rw [hit_false hk]; simp)]
        cases hh : l.any (hitE t) with
        | false =>
          rw [if_pos rfl]
          repeat' (first|refine go1 ?_|refine zg (fun _ _=>?_)|refine zi (fun _ _=>?_))
          exact x_ret rfl ⟨rfl, Ext.trans (x05 ()) (by exact fx)⟩
        | true =>
          rw [if_neg (by simp)]
          by_cases hgt : (idsOf l (evL l t)).length > 100
          · rw [if_pos hgt]
            repeat' (first|(first|refine go1 ?_|refine zg (fun _ _=>?_)|refine zi (fun _ _=>?_))|(refine zL (p := (((idsOf l (evL l t)).length : Nat) : Int) > 100) rfl (fun _ => ?_) (fun h => absurd (by omega) h)))
            exact x_ret rfl ⟨rfl, Ext.trans (x05 ()) (by exact fx)⟩
          · rw [if_neg hgt, freshP_any]
            have l6 := l5.ext x6
            have sc6 := SlE.ext x6 sc5
            have sg6 := SlE.ext x6 sg
            have rp6 := rp5.ext x6
            have h16 := SlR.ext h15 x6
            have t6 := R.ext t5 x6
            have x06 : Unit → Ext w w6 := fun _ => (x05 ()).trans x6
            clear x6 sc5 sg rp5 h15 t5 l5 hl ht0 h1
            repeat' (first|(first|refine go1 ?_|refine zg (fun _ _=>?_)|refine zi (fun _ _=>?_))|(refine zL (p := (((idsOf l (evL l t)).length : Nat) : Int) > 100) rfl (fun h => absurd h (by omega)) (fun _ => ?_))|(refine zL rfl (fun h => ?_) (fun h => ?_))|(refine zG (d := some 70) (E := inR) (M := M) (l := t.ins) rfl (SlR.ext h16 (by exact fx)) ?_)|(refine c_loopV (fun (j : Nat) w' => Ext w6 w' ∧ j ≤ t.ins.length ∧ ∀ b ∈ t.ins.take j, freshAt l t b.p = false) (fun j => [(0, v), (2, .int .i64 fee), (4, .pointer (some ⟨bp, 0, none⟩)), (9, vc), (10, vg), (15, .int .i64 j)]) (fun j => t.ins.length - j) 0 ⟨rfl, rfl, rfl, rfl, rfl, rfl, trivial⟩ ⟨Ext.refl _, by simp, by simp⟩ ?_; rintro j ρ2 w7 ⟨x7, hj, hfr⟩))
            · have hjl : j < t.ins.length := by omega
              have hsi := hs.ins
              have hfn : freshAt l t t.ins[j].p = false → ∀ b ∈ t.ins.take (j + 1), freshAt l t b.p = false := fun h9 b hb => by
                rw [List.take_succ_eq_append_getElem hjl] at hb
                rcases List.mem_append.1 hb with h8 | h8
                · exact hfr b h8
                · simp only [List.mem_singleton] at h8; subst h8; exact h9
              have hfy : freshAt l t t.ins[j].p = true → (t.ins.any fun b => freshAt l t b.p) = true := fun h9 => List.any_eq_true.2 ⟨_, List.getElem_mem hjl, h9⟩
              by_cases hk0 : findI l t.ins[j].p.s < 0
              · have hno := freshAt_no (t := t) hk0
                repeat' (first|(refine st_fixV (d := some 84) (.bool true) rfl (congrArg (fun b => some (Value.bool b)) (decide_eq_true hk0)) ?_)|(first|refine go1 ?_|refine zg (fun _ _=>?_)|refine zi (fun _ _=>?_))|(refine st_elemR (d := some 78) (E := inR) (M := M) rfl rfl (n := j) (l := t.ins) (SlR.ext h16 (by exact fx)) rfl hjl (fun ad cs r8 he => ?_); obtain ⟨wv8, rfl, -⟩ := he)|(refine zC (d := some 82) rfl (find_spec (M := M) (l := l) t.ins[j].p.s _ (SlR.ext l6 (by exact fx)) (by omega)) ?_; rintro _ _ ⟨rfl, rfl⟩))
                exact ⟨j + 1, ⟨rfl, rfl, rfl, rfl, rfl, rfl, trivial⟩, ⟨by exact fx, by omega, hfn hno⟩, by omega⟩
              · obtain ⟨k, hkl, hkf, hki, hkh, hkg⟩ := find_at hk0
                have hfy2 := freshAt_yes (t := t) hnd hkl hki hkh hkg
                obtain ⟨E, hEv⟩ : ∃ E, (evL l t)[k]'(by omega) = E := ⟨_, rfl⟩
                rw [hEv] at hfy2
                by_cases hsp : spendI l t.ins[j].p < 0
                · rw [spend_no hsp, inB_none hid] at hfy2
                  by_cases hlt : t.ins[j].p.i < (l[k].tx.outs.length : Int)
                  · cases E
                    all_goals repeat' (first|(refine st_fixV (d := some 84) (.bool false) rfl (congrArg (fun b => some (Value.bool b)) (decide_eq_false (show ¬ ((k : Nat) : Int) < 0 by omega))) ?_)|(refine st_fixV (d := some 93) (.int .i64 t.ins[j].p.i) rfl (congrArg (fun n => some (Value.int .i64 n)) (wrap_i hp8)) ?_)|(refine zL (p := t.ins[j].p.i ≥ ((l[k].tx.outs.length : Nat) : Int)) rfl (fun h => absurd h (by omega)) (fun _ => ?_))|(refine st_fixV (d := some 118) (.bool true) rfl (congrArg (fun b => some (Value.bool b)) (decide_eq_true (by omega))) ?_)|(first|refine go1 ?_|refine zg (fun _ _=>?_)|refine zi (fun _ _=>?_))|(refine st_elemR (d := some 78) (E := inR) (M := M) rfl rfl (n := j) (l := t.ins) (SlR.ext h16 (by exact fx)) rfl hjl (fun ad cs r8 he => ?_); obtain ⟨wv8, rfl, -, hp8, -⟩ := he)|(refine zC (d := some 82) rfl (find_spec (M := M) (l := l) t.ins[j].p.s _ (SlR.ext l6 (by exact fx)) (by omega)) ?_; rintro _ _ ⟨rfl, rfl⟩; rw [hkf])|(apply zO; focus((conv=>lhs;whnf)<;>(first|with_reducible exact rfl|(refine congrArg Value.bool ?_;decide))))|(refine st_elemR (d := some 89) (E := inR) (M := M) rfl rfl (n := j) (l := t.ins) (SlR.ext h16 (by exact fx)) rfl hjl (fun ad cs r9 he => ?_); obtain ⟨wv9, rfl, -⟩ := he)|(refine st_max (d := some 96) rfl rfl ?_; rw [max0])|(refine st_elemR (d := some 97) (E := entR) (M := M) rfl rfl (n := k) (l := l) (SlR.ext l6 (by exact fx)) rfl hkl (fun ad cs r10 he => ?_); obtain ⟨iv10, ov10, rfl, i10, o10, -⟩ := he)|(refine zG (d := some 101) (E := outR) (M := M) rfl (SlR.ext o10 (by exact fx)) ?_)|(refine st_elemR (d := some 108) (E := inR) (M := M) rfl rfl (n := j) (l := t.ins) (SlR.ext h16 (by exact fx)) rfl hjl (fun ad cs r11 he => ?_); obtain ⟨wv11, rfl, -⟩ := he)|(refine zC (d := some 111) rfl (rspender_spec (M := M) (l := l) t.ins[j].p _ (SlR.ext l6 (by exact fx)) (by omega) (fun x hx => by have := hqe x hx; omega)) ?_; rintro _ w8 ⟨rfl, x8⟩)|(refine st_elemE (d := some 114) (E := boolE) rfl rfl (n := k) (l := evL l t) (SlE.ext (by exact fx) sg6) rfl (by omega) (fun ad r12 => ?_); have r12 : Row _ ad [Value.bool ((evL l t)[k]'(by omega))] := r12; rw [hEv] at r12)|(refine st_max (d := some 123) rfl rfl ?_; rw [max0]))
                    all_goals first
                      | (rw [if_pos (hfy (by rw [hfy2, decide_eq_true hlt]; rfl))]
                         exact x_ret rfl ⟨rfl, Ext.trans (x06 ()) (by exact fx)⟩)
                      | exact ⟨j + 1, ⟨rfl, rfl, rfl, rfl, rfl, rfl, trivial⟩, ⟨by exact fx, by omega, hfn (by rw [hfy2]; simp [hlt])⟩, by omega⟩
                      | trace_state
                  · cases E
                    all_goals repeat' (first|(refine st_fixV (d := some 84) (.bool false) rfl (congrArg (fun b => some (Value.bool b)) (decide_eq_false (show ¬ ((k : Nat) : Int) < 0 by omega))) ?_)|(refine st_fixV (d := some 93) (.int .i64 t.ins[j].p.i) rfl (congrArg (fun n => some (Value.int .i64 n)) (wrap_i hp8)) ?_)|(refine zL (p := t.ins[j].p.i ≥ ((l[k].tx.outs.length : Nat) : Int)) rfl (fun _ => ?_) (fun h => absurd (show t.ins[j].p.i ≥ ((l[k].tx.outs.length : Nat) : Int) by omega) h))|(refine st_fixV (d := some 118) (.bool true) rfl (congrArg (fun b => some (Value.bool b)) (decide_eq_true (by omega))) ?_)|(first|refine go1 ?_|refine zg (fun _ _=>?_)|refine zi (fun _ _=>?_))|(refine st_elemR (d := some 78) (E := inR) (M := M) rfl rfl (n := j) (l := t.ins) (SlR.ext h16 (by exact fx)) rfl hjl (fun ad cs r8 he => ?_); obtain ⟨wv8, rfl, -, hp8, -⟩ := he)|(refine zC (d := some 82) rfl (find_spec (M := M) (l := l) t.ins[j].p.s _ (SlR.ext l6 (by exact fx)) (by omega)) ?_; rintro _ _ ⟨rfl, rfl⟩; rw [hkf])|(apply zO; focus((conv=>lhs;whnf)<;>(first|with_reducible exact rfl|(refine congrArg Value.bool ?_;decide))))|(refine st_elemR (d := some 89) (E := inR) (M := M) rfl rfl (n := j) (l := t.ins) (SlR.ext h16 (by exact fx)) rfl hjl (fun ad cs r9 he => ?_); obtain ⟨wv9, rfl, -⟩ := he)|(refine st_max (d := some 96) rfl rfl ?_; rw [max0])|(refine st_elemR (d := some 97) (E := entR) (M := M) rfl rfl (n := k) (l := l) (SlR.ext l6 (by exact fx)) rfl hkl (fun ad cs r10 he => ?_); obtain ⟨iv10, ov10, rfl, i10, o10, -⟩ := he)|(refine zG (d := some 101) (E := outR) (M := M) rfl (SlR.ext o10 (by exact fx)) ?_)|(refine st_elemR (d := some 108) (E := inR) (M := M) rfl rfl (n := j) (l := t.ins) (SlR.ext h16 (by exact fx)) rfl hjl (fun ad cs r11 he => ?_); obtain ⟨wv11, rfl, -⟩ := he)|(refine zC (d := some 111) rfl (rspender_spec (M := M) (l := l) t.ins[j].p _ (SlR.ext l6 (by exact fx)) (by omega) (fun x hx => by have := hqe x hx; omega)) ?_; rintro _ w8 ⟨rfl, x8⟩)|(refine st_elemE (d := some 114) (E := boolE) rfl rfl (n := k) (l := evL l t) (SlE.ext (by exact fx) sg6) rfl (by omega) (fun ad r12 => ?_); have r12 : Row _ ad [Value.bool ((evL l t)[k]'(by omega))] := r12; rw [hEv] at r12)|(refine st_max (d := some 123) rfl rfl ?_; rw [max0]))
                    all_goals first
                      | (rw [if_pos (hfy (by rw [hfy2, decide_eq_true hlt]; rfl))]
                         exact x_ret rfl ⟨rfl, Ext.trans (x06 ()) (by exact fx)⟩)
                      | exact ⟨j + 1, ⟨rfl, rfl, rfl, rfl, rfl, rfl, trivial⟩, ⟨by exact fx, by omega, hfn (by rw [hfy2]; simp [hlt])⟩, by omega⟩
                      | trace_state
                · obtain ⟨s, hsl, hsf, hsi⟩ := spend_at hsp
                  rw [hsi, inB_mask hnd confL_len hsl] at hfy2
                  obtain ⟨F, hF⟩ : ∃ F, (confL l t)[s]'(by omega) = F := ⟨_, rfl⟩
                  rw [hF] at hfy2
                  by_cases hlt : t.ins[j].p.i < (l[k].tx.outs.length : Int)
                  · cases E <;> cases F
                    all_goals repeat' (first|(refine st_fixV (d := some 84) (.bool false) rfl (congrArg (fun b => some (Value.bool b)) (decide_eq_false (show ¬ ((k : Nat) : Int) < 0 by omega))) ?_)|(refine st_fixV (d := some 93) (.int .i64 t.ins[j].p.i) rfl (congrArg (fun n => some (Value.int .i64 n)) (wrap_i hp8)) ?_)|(refine zL (p := t.ins[j].p.i ≥ ((l[k].tx.outs.length : Nat) : Int)) rfl (fun h => absurd h (by omega)) (fun _ => ?_))|(refine st_fixV (d := some 118) (.bool false) rfl (congrArg (fun b => some (Value.bool b)) (decide_eq_false (by omega))) ?_)|(first|refine go1 ?_|refine zg (fun _ _=>?_)|refine zi (fun _ _=>?_))|(refine st_elemR (d := some 78) (E := inR) (M := M) rfl rfl (n := j) (l := t.ins) (SlR.ext h16 (by exact fx)) rfl hjl (fun ad cs r8 he => ?_); obtain ⟨wv8, rfl, -, hp8, -⟩ := he)|(refine zC (d := some 82) rfl (find_spec (M := M) (l := l) t.ins[j].p.s _ (SlR.ext l6 (by exact fx)) (by omega)) ?_; rintro _ _ ⟨rfl, rfl⟩; rw [hkf])|(apply zO; focus((conv=>lhs;whnf)<;>(first|with_reducible exact rfl|(refine congrArg Value.bool ?_;decide))))|(refine st_elemR (d := some 89) (E := inR) (M := M) rfl rfl (n := j) (l := t.ins) (SlR.ext h16 (by exact fx)) rfl hjl (fun ad cs r9 he => ?_); obtain ⟨wv9, rfl, -⟩ := he)|(refine st_max (d := some 96) rfl rfl ?_; rw [max0])|(refine st_elemR (d := some 97) (E := entR) (M := M) rfl rfl (n := k) (l := l) (SlR.ext l6 (by exact fx)) rfl hkl (fun ad cs r10 he => ?_); obtain ⟨iv10, ov10, rfl, i10, o10, -⟩ := he)|(refine zG (d := some 101) (E := outR) (M := M) rfl (SlR.ext o10 (by exact fx)) ?_)|(refine st_elemR (d := some 108) (E := inR) (M := M) rfl rfl (n := j) (l := t.ins) (SlR.ext h16 (by exact fx)) rfl hjl (fun ad cs r11 he => ?_); obtain ⟨wv11, rfl, -⟩ := he)|(refine zC (d := some 111) rfl (rspender_spec (M := M) (l := l) t.ins[j].p _ (SlR.ext l6 (by exact fx)) (by omega) (fun x hx => by have := hqe x hx; omega)) ?_; rintro _ w8 ⟨rfl, x8⟩; rw [hsf])|(refine st_elemE (d := some 114) (E := boolE) rfl rfl (n := k) (l := evL l t) (SlE.ext (by exact fx) sg6) rfl (by omega) (fun ad r12 => ?_); have r12 : Row _ ad [Value.bool ((evL l t)[k]'(by omega))] := r12; rw [hEv] at r12)|(refine st_max (d := some 123) rfl rfl ?_; rw [max0])|(refine st_elemE (d := some 124) (E := boolE) rfl rfl (n := s) (l := confL l t) (SlE.ext (by exact fx) sc6) rfl (by omega) (fun ad r13 => ?_); have r13 : Row _ ad [Value.bool ((confL l t)[s]'(by omega))] := r13; rw [hF] at r13)
                      )
                    all_goals first
                      | (rw [if_pos (hfy (by rw [hfy2, decide_eq_true hlt]; rfl))]
                         exact x_ret rfl ⟨rfl, Ext.trans (x06 ()) (by exact fx)⟩)
                      | exact ⟨j + 1, ⟨rfl, rfl, rfl, rfl, rfl, rfl, trivial⟩, ⟨by exact fx, by omega, hfn (by rw [hfy2]; simp [hlt])⟩, by omega⟩
                      | trace_state
                  · cases E <;> cases F
                    all_goals repeat' (first|(refine st_fixV (d := some 84) (.bool false) rfl (congrArg (fun b => some (Value.bool b)) (decide_eq_false (show ¬ ((k : Nat) : Int) < 0 by omega))) ?_)|(refine st_fixV (d := some 93) (.int .i64 t.ins[j].p.i) rfl (congrArg (fun n => some (Value.int .i64 n)) (wrap_i hp8)) ?_)|(refine zL (p := t.ins[j].p.i ≥ ((l[k].tx.outs.length : Nat) : Int)) rfl (fun _ => ?_) (fun h => absurd (show t.ins[j].p.i ≥ ((l[k].tx.outs.length : Nat) : Int) by omega) h))|(refine st_fixV (d := some 118) (.bool false) rfl (congrArg (fun b => some (Value.bool b)) (decide_eq_false (by omega))) ?_)|(first|refine go1 ?_|refine zg (fun _ _=>?_)|refine zi (fun _ _=>?_))|(refine st_elemR (d := some 78) (E := inR) (M := M) rfl rfl (n := j) (l := t.ins) (SlR.ext h16 (by exact fx)) rfl hjl (fun ad cs r8 he => ?_); obtain ⟨wv8, rfl, -, hp8, -⟩ := he)|(refine zC (d := some 82) rfl (find_spec (M := M) (l := l) t.ins[j].p.s _ (SlR.ext l6 (by exact fx)) (by omega)) ?_; rintro _ _ ⟨rfl, rfl⟩; rw [hkf])|(apply zO; focus((conv=>lhs;whnf)<;>(first|with_reducible exact rfl|(refine congrArg Value.bool ?_;decide))))|(refine st_elemR (d := some 89) (E := inR) (M := M) rfl rfl (n := j) (l := t.ins) (SlR.ext h16 (by exact fx)) rfl hjl (fun ad cs r9 he => ?_); obtain ⟨wv9, rfl, -⟩ := he)|(refine st_max (d := some 96) rfl rfl ?_; rw [max0])|(refine st_elemR (d := some 97) (E := entR) (M := M) rfl rfl (n := k) (l := l) (SlR.ext l6 (by exact fx)) rfl hkl (fun ad cs r10 he => ?_); obtain ⟨iv10, ov10, rfl, i10, o10, -⟩ := he)|(refine zG (d := some 101) (E := outR) (M := M) rfl (SlR.ext o10 (by exact fx)) ?_)|(refine st_elemR (d := some 108) (E := inR) (M := M) rfl rfl (n := j) (l := t.ins) (SlR.ext h16 (by exact fx)) rfl hjl (fun ad cs r11 he => ?_); obtain ⟨wv11, rfl, -⟩ := he)|(refine zC (d := some 111) rfl (rspender_spec (M := M) (l := l) t.ins[j].p _ (SlR.ext l6 (by exact fx)) (by omega) (fun x hx => by have := hqe x hx; omega)) ?_; rintro _ w8 ⟨rfl, x8⟩; rw [hsf])|(refine st_elemE (d := some 114) (E := boolE) rfl rfl (n := k) (l := evL l t) (SlE.ext (by exact fx) sg6) rfl (by omega) (fun ad r12 => ?_); have r12 : Row _ ad [Value.bool ((evL l t)[k]'(by omega))] := r12; rw [hEv] at r12)|(refine st_max (d := some 123) rfl rfl ?_; rw [max0])|(refine st_elemE (d := some 124) (E := boolE) rfl rfl (n := s) (l := confL l t) (SlE.ext (by exact fx) sc6) rfl (by omega) (fun ad r13 => ?_); have r13 : Row _ ad [Value.bool ((confL l t)[s]'(by omega))] := r13; rw [hF] at r13)
                      )
                    all_goals first
                      | (rw [if_pos (hfy (by rw [hfy2, decide_eq_true hlt]; rfl))]
                         exact x_ret rfl ⟨rfl, Ext.trans (x06 ()) (by exact fx)⟩)
                      | exact ⟨j + 1, ⟨rfl, rfl, rfl, rfl, rfl, rfl, trivial⟩, ⟨by exact fx, by omega, hfn (by rw [hfy2]; simp [hlt])⟩, by omega⟩
                      | trace_state
            · have ej : j = t.ins.length := by omega
              subst ej
              rw [List.take_length] at hfr
              rw [if_neg (by rw [List.any_eq_false.2 fun b hb => by rw [hfr b hb]; simp]; simp)]
              cases hen : enoughL l t fee
              all_goals repeat' (first|(first|refine go1 ?_|refine zg (fun _ _=>?_)|refine zi (fun _ _=>?_))|(refine zC (d := some 131) rfl (renough_spec (M := M) (cs := txCs t iv ov) (l := l) (t := t) fee _ (SlR.ext l6 (by exact fx)) (R.ext t6 (by exact fx)) hs hc hn hE hf) ?_; rintro _ w9 ⟨rfl, x9⟩; rw [hen]))
              all_goals exact x_ret rfl ⟨rfl, Ext.trans (x06 ()) (by exact fx)⟩
  · have e : rulesL l t fee = checkT t := by rw [rulesL, if_pos hc]
    rw [e]
    refine s_kedgeref16_Rules rfl ?_
    unfold k_kedgeref16_Rules
    refine oy ?_
    repeat' (first|(first|refine go1 ?_|refine zg (fun _ _=>?_)|refine zi (fun _ _=>?_))|(refine zD (d := some 4) rfl rfl (fun bp wp xp ap (rp : Row wp ⟨bp, 0, none⟩ (txCs t iv ov)) hp0=>?_))|(refine zC (d := some 19) rfl (rcheck_spec (M := M) (cs := txCs t iv ov) (t := t) _ (R.ext ht0 (by exact fx)) hs) ?_; rintro _ w3 ⟨rfl, x3⟩)|(refine zN (p := checkT t = 0) rfl (fun _ => ?_) (fun h => absurd h hc)))
    exact x_ret rfl ⟨rfl, by exact fx⟩
end Go.Proofs.YtfebcajheojodaaGreatDoor
end
