/- Contracts: what goes for a transaction; may an entry be replaced; by the program. Contracts: may an entry be replaced; does a transaction spend what it may not; by the program. -/
import Derived.Test.YtfebcajheojodaaGreatDoorDc26
set_option linter.unusedVariables false
set_option linter.unusedSimpArgs false
section
namespace Go.Proofs.YtfebcajheojodaaGreatDoor
open Go Go.K
attribute [local irreducible] regK codeK retK KOp.wp K.Spec u32 leS vnS str zero32 sha2 encT idT sizeT checkT grantB idN stepR workL reachE findI dropG addG aboveL belowL idsOf feeD sizeD cntS metL confL evL
set_option maxHeartbeats 4000000 in
theorem evicted_spec {g:Nat} {M N:List Nat} {l:List Ent} {cs:List Value} {t:Tx} (w:World) (hG:GrR w g M l) (hM:∀b∈M,b<w.heap.size) (ht:txR.rel N w cs t) (hs:t.ins.length≤1000) (hl:l.length≤1000):
  K.Spec Tryz.prog F.replace_Evicted [.pointer (some ⟨g,0,none⟩),.agg cs.toArray] w fun r w'=>Own strE T.string w.heap.size w' r (idsOf l (evL l t))∧Ext w w':=by
 have hnd:=hG.nodup
 have ht0:=ht
 obtain ⟨iv,ov,rfl,hi,ho,hv⟩:=ht
 have id0:idsOf (l.take 0) ((evL l t).take 0)= []:=by rw [List.take_zero,List.take_zero];unfold idsOf;rfl
 obtain ⟨ids,hids⟩:∃ids,ids=idsOf l (confL l t):=⟨_,rfl⟩
 have hil:ids.length≤l.length:=by rw [hids];exact idsOf_le1 _ _
 have m0:metL l (ids.take 0)= []:=by rw [List.take_zero];unfold metL;rfl
 refine s_replace_Evicted rfl ?_
 unfold k_replace_Evicted
 refine oy ?_
 repeat' (first|(first|refine go1 ?_|refine zg (fun _ _=>?_)|refine zi (fun _ _=>?_))|(refine zD (d:=some 3) rfl rfl (fun bt wt xt bt' (rt:Row wt ⟨bt,0,none⟩ (txCs t iv ov)) hbt0=>?_))|(refine st_makeMap (d:=some 13) (E:=sK) (fv:=fun n:Nat=>Value.int .i64 (n:Nat)) (fun bm w1 x1 m1 hb1=>?_);have lm:=m1.lt)|(refine zC (d:=some 16) rfl (conflicts_spec (M:=M) (N:=N) (l:=l) (cs:=txCs t iv ov) (t:=t) _ (hG.ext (by exact fx)) (fun b hb=>Nat.lt_of_lt_of_le (hM b hb) (Ext.size (by exact fx))) (R.ext ht0 (by exact fx)) hs hl) ?_;rw [←hids];rintro vc w2 ⟨oc,x2⟩)|(refine st_len (d:=some 17) (E:=strE) (l:=ids) rfl oc.sl ?_))
 have x02:Ext w w2:=(xt.trans x1).trans x2
 have m2:=m1.ext x2
 have bcb:=oc.base
 have hc2:∀b∈blkOf vc,b∉ [bm]:=fun b hb h=>by have:=bcb b hb;simp at h;omega
 have hbm:w.heap.size≤bm:=by have:=xt.size;omega
 have lm2:bm<w2.heap.size:=Nat.lt_of_lt_of_le lm x2.size
 clear xt x1 x2 m1
 repeat' (first|(first|refine go1 ?_|refine zg (fun _ _=>?_)|refine zi (fun _ _=>?_))|(refine zL rfl (fun h=>?_) (fun h=>?_))|(refine c_loopV (fun (p:Nat × List (ByteArray × Nat)) w'=>Ext w w'∧w2.heap.size≤w'.heap.size∧p.1≤ids.length∧MapE sK (fun n:Nat=>Value.int .i64 (n:Nat)) w' bm p.2∧Cnt p.2 (metL l (ids.take p.1))∧Own strE T.string w1.heap.size w' vc ids) (fun p=> [(0,.pointer (some ⟨g,0,none⟩)),(5,.map (some bm)),(16,vc),(17,.int .i64 (ids.length:Nat)),(18,.int .i64 p.1)]) (fun p=>ids.length - p.1) (0, []) ⟨rfl,rfl,rfl,rfl,rfl,trivial⟩ ⟨x02,Nat.le_refl _,by simp,m2,by rw [m0];exact Cnt.nil,oc⟩ ?_;clear x02 oc m2;rintro ⟨i,met⟩ ρ w3 ⟨x3,s3,hi3,m3,c3,o3⟩;simp only at hi3 m3 c3;dsimp only))
 ·have hii:i<ids.length:=by omega
  have hbl:=idsOf_le1 l (belowL l ids[i])
  have hml:=metL_len (l:=l) (ids.take i)
  have hml2:l.length*(ids.take i).length≤1000*1000:=Nat.mul_le_mul hl (by rw [List.length_take];omega)
  refine st_elemE (d:=some 20) (E:=strE) rfl rfl (n:=i) (l:=ids) o3.sl rfl hii (fun ad r5=>?_)
  have r5:Row w3 ad [Value.string ids[i]]:=r5
  repeat' (first|(first|refine go1 ?_|refine zg (fun _ _=>?_)|refine zi (fun _ _=>?_))|(refine zC (d:=some 24) rfl (pbelow_spec (M:=M) (l:=l) ids[i] _ (hG.ext (by exact fx)) (fun b hb=>Nat.lt_of_lt_of_le (hM b hb) (Ext.size (by exact fx))) hl) ?_;rintro vb w4 ⟨ob,x4⟩)|(refine st_len (d:=some 25) (E:=strE) (l:=idsOf l (belowL l ids[i])) rfl ob.sl ?_))
  obtain ⟨bs,hbs⟩:∃bs,bs=idsOf l (belowL l ids[i]):=⟨_,rfl⟩
  rw [←hbs] at ob hbl ⊢
  have x04:Ext w w4:=x3.trans x4
  have s4:=x4.size
  have bbb:=ob.base
  have hb2:∀b∈blkOf vb,b∉ [bm]:=fun b hb h=>by have:=bbb b hb;simp at h;omega
  have t0:metL l (ids.take i)++bs.take 0=metL l (ids.take i):=by rw [List.take_zero,List.append_nil]
  have m4:=m3.ext x4
  have o4:=o3.ext x4
  clear x3 x4 m3 o3 r5
  repeat' (first|(first|refine go1 ?_|refine zg (fun _ _=>?_)|refine zi (fun _ _=>?_))|(refine zL rfl (fun h=>?_) (fun h=>?_))|(refine c_loopV (fun (p:Nat × List (ByteArray × Nat)) w'=>Ext w w'∧w2.heap.size≤w'.heap.size∧p.1≤bs.length∧MapE sK (fun n:Nat=>Value.int .i64 (n:Nat)) w' bm p.2∧Cnt p.2 (metL l (ids.take i)++bs.take p.1)∧Own strE T.string w1.heap.size w' vc ids∧Own strE T.string w3.heap.size w' vb bs) (fun p=> [(0,.pointer (some ⟨g,0,none⟩)),(5,.map (some bm)),(16,vc),(17,.int .i64 (ids.length:Nat)),(18,.int .i64 i),(24,vb),(25,.int .i64 (bs.length:Nat)),(26,.int .i64 p.1)]) (fun p=>bs.length - p.1) (0,met) ⟨rfl,rfl,rfl,rfl,rfl,rfl,rfl,rfl,trivial⟩ ⟨x04,by omega,by simp,m4,by rw [t0];exact c3,o4,ob⟩ ?_;clear x04 m4 o4 ob;rintro ⟨j,met2⟩ ρ2 w5 ⟨x5,s5,hj5,m5,c5,o5,ob5⟩;simp only at hj5 m5 c5;dsimp only))
  ·have hjl:j<bs.length:=by omega
   refine st_elemE (d:=some 28) (E:=strE) rfl rfl (n:=j) (l:=bs) ob5.sl rfl hjl (fun ad r6=>?_)
   have r6:Row w5 ad [Value.string bs[j]]:=r6
   have hadd:=c5.add bs[j]
   have htk:metL l (ids.take i)++bs.take (j+1)=metL l (ids.take i)++bs.take j++ [bs[j]]:=by rw [List.take_succ_eq_append_getElem hjl,List.append_assoc]
   have hcl:=cntS_le (metL l (ids.take i)++bs.take j) bs[j]
   rw [List.length_append,List.length_take] at hcl
   cases hag:aget met2 bs[j] with
   |none=>
    have hcz:=c5.none_ hag
    rw [hcz] at hadd
    repeat' (first|(first|refine go1 ?_|refine zg (fun _ _=>?_)|refine zi (fun _ _=>?_))|(refine st_lookup (d:=some 32) (E:=sK) (fv:=fun n:Nat=>Value.int .i64 (n:Nat)) (k:=bs[j]) rfl rfl m5 rfl rfl (fun c hcc=>by rw [hag] at hcc;cases hcc) (fun hcn=>?_))|(refine st_mapUpdate (d:=none) (E:=sK) (fv:=fun n:Nat=>Value.int .i64 (n:Nat)) (k:=bs[j]) (v:=1) rfl rfl rfl m5 rfl rfl (fun w6 c6 m6=>?_)))
    refine ⟨(j+1,_),⟨rfl,rfl,rfl,rfl,rfl,rfl,rfl,rfl,trivial⟩,⟨(x5.chg c6).mono (by intro b hb;simp at hb;subst hb;exact .inr hbm),by have:=c6.size;omega,by simp only;omega,m6,by rw [htk];exact hadd,o5.chg c6 hc2,ob5.chg c6 hb2⟩,by simp only;omega⟩
   |some c=>
    have hcz:=(c5.found hag).1
    rw [hcz] at hadd hcl
    repeat' (first|(first|refine go1 ?_|refine zg (fun _ _=>?_)|refine zi (fun _ _=>?_))|(refine st_lookup (d:=some 32) (E:=sK) (fv:=fun n:Nat=>Value.int .i64 (n:Nat)) (k:=bs[j]) rfl rfl m5 rfl rfl (fun c' hcc=>?_) (fun hcn=>by rw [hag] at hcn;cases hcn);rw [hag] at hcc;injection hcc with hcc;subst hcc)|(refine st_mapUpdate (d:=none) (E:=sK) (fv:=fun n:Nat=>Value.int .i64 (n:Nat)) (k:=bs[j]) (v:=c+1) rfl rfl rfl m5 rfl rfl (fun w6 c6 m6=>?_)))
    refine ⟨(j+1,_),⟨rfl,rfl,rfl,rfl,rfl,rfl,rfl,rfl,trivial⟩,⟨(x5.chg c6).mono (by intro b hb;simp at hb;subst hb;exact .inr hbm),by have:=c6.size;omega,by simp only;omega,m6,by rw [htk];exact hadd,o5.chg c6 hc2,ob5.chg c6 hb2⟩,by simp only;omega⟩
  ·rw [List.take_of_length_le (l:=bs) (by omega)] at c5
   exact ⟨(i+1,met2),⟨rfl,rfl,rfl,rfl,rfl,trivial⟩,⟨x5,s5,by simp only;omega,m5,by rw [metL_take hii,←hbs];exact c5,o5⟩,by simp only;omega⟩
 ·rw [List.take_of_length_le (l:=ids) (by omega)] at c3
  have s03:Unit→Ext w w3:=fun _=>x3
  repeat' (first|(first|refine go1 ?_|refine zg (fun _ _=>?_)|refine zi (fun _ _=>?_))|(refine zC (d:=some 37) rfl (all_spec (M:=M) (l:=l) _ (hG.ext x3) (fun b hb=>Nat.lt_of_lt_of_le (hM b hb) x3.size) (by omega)) ?_;rintro va w4 ⟨oa,x4⟩;have sa:SlR entR [] w4 va l:=(oa.sub (M':= []) (by simp)).sl (by simp);have m4:=m3.ext x4;have x34:=x3.trans x4;clear x3)|(refine zG (d:=some 38) (E:=entR) (M:= []) (l:=l) rfl (SlR.ext sa (by exact fx)) ?_)|(refine zL rfl (fun h=>?_) (fun h=>?_))|(refine c_loopV (fun (p:Nat × Value) w'=>Ext w4 w'∧p.1≤l.length∧Own strE T.string w4.heap.size w' p.2 (idsOf (l.take p.1) ((evL l t).take p.1))) (fun p=> [(5,.map (some bm)),(10,p.2),(37,va),(38,.int .i64 (l.length:Nat)),(39,.int .i64 p.1)]) (fun p=>l.length - p.1) (0,.slice none 0 0) ⟨rfl,rfl,rfl,rfl,rfl,trivial⟩ ⟨Ext.refl _,by simp,by rw [id0];exact Own.nil _ _ _⟩ ?_;rintro ⟨i,v5⟩ ρ w5 ⟨x5,hi5,o5⟩;simp only at hi5 o5;dsimp only))
  ·have hil2:i<l.length:=by omega
   have hle:=idsOf_length (l.take i) ((evL l t).take i)
   have htl:(l.take i).length=i:=by rw [List.length_take];omega
   have hev:=ev_at (t:=t) hnd hil2
   rw [←hids] at hev
   have s5:=x5.size
   refine st_elemR (d:=some 41) (E:=entR) (M:= []) rfl rfl (n:=i) (l:=l) (SlR.ext sa (by exact fx)) rfl hil2 (fun ad cs r4 he=>?_)
   obtain ⟨iv2,ov2,rfl,q1,q2,q3⟩:=he
   have i1:=q1.one
   have j2:=q2.one
   repeat' (first|(first|refine go1 ?_|refine zg (fun _ _=>?_)|refine zi (fun _ _=>?_))|(refine zE (d':=12) (fun _=>rfl) rfl rfl (by simp [entCs,i1,j2];exact ⟨rfl,rfl,rfl,rfl,rfl⟩) (fun b6 w6 x6 a6 (r6:Row w6 ⟨b6,0,none⟩ (entCs l[i] iv2 ov2)) hb6=>?_))|(refine st_lookup (d:=some 46) (E:=sK) (fv:=fun n:Nat=>Value.int .i64 (n:Nat)) (k:=l[i].id) rfl rfl (MapE.ext (by exact fx) m4) rfl rfl (fun c hcc=>?_) (fun hcn=>?_))|(have hcz:=c3.found hcc;rw [hcz.1] at hev;refine zL (p:=((c:Nat):Int)>0) rfl (fun h9=>?_) (fun h9=>absurd h9 (by omega)))|(have hcz:=c3.none_ hcn;rw [hcz] at hev;refine zL (p:=(0:Int)>0) rfl (fun h9=>absurd h9 (by omega)) (fun h9=>?_))|(refine zI (d:=some 51) (cs:= [.string l[i].id]) rfl (fun b9 w9 x9 a9 hb9=>?_)))
   ·have x59:Ext w5 w9:=by exact fx
    have s59:=x59.size
    have hh:(evL l t)[i]'(by rw [←evL_len];exact hil2)=true:=hev.2 (by omega)
    refine st_appendX (d:=some 52) (E:=strE) (v:=v5) (l2:= [l[i].id]) rfl (o5.ext x59) (by omega) rfl rfl (sl_new a9 rfl) rfl rfl (by simp only [List.length_cons,List.length_nil];omega) (fun v10 w10 o10 _ c10 hb10=>?_)
    repeat' (first|refine go1 ?_|refine zg (fun _ _=>?_)|refine zi (fun _ _=>?_))
    exact ⟨(i+1,v10),⟨rfl,rfl,rfl,rfl,rfl,trivial⟩,⟨((x5.trans x59).chg c10).mono (fun b hb=>.inr (o5.base b hb)),by simp only;omega,by simp only;rw [evL_take hil2,if_pos hh];exact o10⟩,by simp only;omega⟩
   ·have hh:¬(evL l t)[i]'(by rw [←evL_len];exact hil2)=true:=fun h=>by have:=hev.1 h;have:=c3.none_ hcn;omega
    exact ⟨(i+1,v5),⟨rfl,rfl,rfl,rfl,rfl,trivial⟩,⟨by exact fx,by simp only;omega,by simp only;rw [evL_take hil2,if_neg hh,List.append_nil];exact o5.ext (by exact fx)⟩,by simp only;omega⟩
  ·rw [List.take_of_length_le (by omega),List.take_of_length_le (by rw [←evL_len];omega)] at o5
   exact x_ret rfl ⟨o5.lower x34.size,x34.trans x5⟩
end Go.Proofs.YtfebcajheojodaaGreatDoor
end
section
namespace Go.Proofs.YtfebcajheojodaaGreatDoor
open Go Go.K
theorem inS_inB (l:List ByteArray) (s:ByteArray):inS l s=inB l s:=by
 rw [Bool.eq_iff_iff,inS_iff,inB_iff]
theorem getE_ins {l:List Ent} (hE:∀x∈l,EntOk x) (s:ByteArray):(getE l s).tx.ins.length≤1000:=by
 by_cases h:hasE l s=true
 ·exact (chk_sm (hE _ (has_mem h).1).check).ins
 ·have h2:(l.find? fun x=>decide (x.id=s))=none:=by
   have h1:=find_any (p:=fun x:Ent=>decide (x.id=s)) (l:=l)
   unfold hasE at h
   rw [←h1] at h
   exact Option.not_isSome_iff_eq_none.1 h
  unfold getE
  rw [h2]
  decide
attribute [local irreducible] regK codeK retK KOp.wp K.Spec u32 leS vnS str zero32 sha2 encT idT sizeT checkT grantB idN stepR workL reachE findI dropG addG aboveL belowL idsOf feeD sizeD cntS metL confL evL inS inB
theorem contains16 {v:Value} {l:List ByteArray} (a:ByteArray) (w:World) (hs:SlE strE w v l) (hn:l.length≤1000000):K.Spec Tryz.prog F.slices_Contains_L_string_string [v,.string a] w fun r w'=>r=.bool (inB l a)∧w'=w:=
 spec_mono (containsS_spec a w hs (by omega)) fun r w' ⟨h1,h2⟩=>⟨by rw [h1,←inS_inB];unfold inS;rfl,h2⟩
theorem sig1_hb:hasBody Tryz.prog F.replace_signals_1=true:=by kernel_rfl
theorem repl1_hb:hasBody Tryz.prog F.replace_replaceable_1=true:=by kernel_rfl
theorem sig1_spec (x:TIn) (wv:Value) (w:World) (hw:wv.oneCell'=true):K.Spec Tryz.prog F.replace_signals_1 [.agg (inCs x wv).toArray] w fun r w'=>r=.bool (decide (x.q<4294967294))∧Ext w w':=by
 refine s_replace_signals_1 rfl ?_
 unfold k_replace_signals_1
 refine oy ?_
 repeat' (first|(first|refine go1 ?_|refine zg (fun _ _=>?_)|refine zi (fun _ _=>?_))|(refine zD rfl rfl (fun bp wp xp ap (rp:Row wp ⟨bp,0,none⟩ (inCs x wv)) hp0=>?_)))
 exact x_ret rfl ⟨rfl,by exact fx⟩
theorem signals_spec {N:List Nat} {cs:List Value} {t:Tx} (w:World) (ht:txR.rel N w cs t) (hs:t.ins.length≤1000):K.Spec Tryz.prog F.replace_signals [.agg cs.toArray] w fun r w'=>r=.bool (sigT t)∧Ext w w':=by
 obtain ⟨iv,ov,rfl,hi,ho,hv⟩:=ht
 have tl:∀w1,Ext w w1→Tells F.replace_signals_1 [] inR (fun cs=>.agg cs.toArray) N w1 t.ins (fun x=>decide (x.q<4294967294)):=fun w1 x1 x _ w' cs x2 hc=>by
  obtain ⟨bv,rfl,hw,_⟩:=hc
  exact sig1_spec x bv w' hw.one
 refine s_replace_signals rfl ?_
 unfold k_replace_signals
 refine oy ?_
 repeat' (first|(first|refine go1 ?_|refine zg (fun _ _=>?_)|refine zi (fun _ _=>?_))|(refine zD rfl rfl (fun bp wp xp ap (rp:Row wp ⟨bp,0,none⟩ (txCs t iv ov)) hp0=>?_))|(refine zC rfl (idxIn_any (l:=t.ins) (M:=N) (g:=F.replace_signals_1) (capl:= []) _ sig1_hb (SlR.ext hi (by exact fx)) (by omega) (tl _ (by exact fx))) ?_;rintro _ w2 ⟨rfl,x2⟩))
 exact x_ret rfl ⟨rfl,by exact fx⟩
theorem repl1_spec {g b2:Nat} {M:List Nat} {l:List Ent} (s:ByteArray) (w:World) (hG:GrR w g M l) (hM:∀b∈M,b<w.heap.size) (hr:Row w ⟨b2,0,none⟩ [.pointer (some ⟨g,0,none⟩)]):
  K.Spec Tryz.prog F.replace_replaceable_1 [.string s,.pointer (some ⟨b2,0,none⟩)] w fun r w'=>r=.bool (sigT (getE l s).tx)∧Ext w w':=by
 have hE:=hG.ok
 have hsm:=getE_ins hE s
 refine s_replace_replaceable_1 rfl ?_
 unfold k_replace_replaceable_1
 refine oy ?_
 repeat' (first|(first|refine go1 ?_|refine zg (fun _ _=>?_)|refine zi (fun _ _=>?_))|(refine zC (d:=some 9) rfl (get_spec (M:=M) s _ (hG.ext (by exact fx)) (fun b hb=>Nat.lt_of_lt_of_le (hM b hb) (Ext.size (by exact fx)))) ?_;rintro v5 w5 ⟨ds,rfl,e5,x5⟩;obtain ⟨iv,ov,rfl,o1,o2,o3⟩:=e5;have i1:=o1.one;have i2:=o2.one)|(refine zE (d':=4) (fun _=>rfl) rfl rfl (by simp [entCs,i1,i2];exact ⟨rfl,rfl,rfl,rfl,rfl⟩) (fun b6 w6 x6 a6 (r6:Row w6 ⟨b6,0,none⟩ (entCs (getE l s) iv ov)) hb6=>?_))|(refine zC (d:=some 14) rfl (signals_spec (N:= []) (cs:=txCs (getE l s).tx iv ov) (t:=(getE l s).tx) _ ⟨iv,ov,rfl,SlR.ext ((o1.sub (M':= []) (by simp)).sl (by simp)) (by exact fx),SlR.ext ((o2.sub (M':= []) (by simp)).sl (by simp)) (by exact fx),o3.1,o3.2.1⟩ hsm) ?_;rintro _ w7 ⟨rfl,x7⟩))
 exact x_ret rfl ⟨rfl,by exact fx⟩
set_option maxHeartbeats 1000000 in
theorem repl_spec {g:Nat} {M:List Nat} {l:List Ent} (s:ByteArray) (w:World) (hG:GrR w g M l) (hM:∀b∈M,b<w.heap.size) (hl:l.length≤1000):
  K.Spec Tryz.prog F.replace_replaceable [.pointer (some ⟨g,0,none⟩),.string s] w fun r w'=>r=.bool (mayE l (getE l s))∧Ext w w':=by
 have hE:=hG.ok
 have hsm:=getE_ins hE s
 have hle:=idsOf_le1 l (aboveL l (getE l s).tx)
 refine s_replace_replaceable rfl ?_
 unfold k_replace_replaceable
 refine oy ?_
 repeat' (first|(first|refine go1 ?_|refine zg (fun _ _=>?_)|refine zi (fun _ _=>?_))|(refine zD rfl rfl (fun b2 wg xg ag (rg:Row wg ⟨b2,0,none⟩ [.pointer (some ⟨g,0,none⟩)]) hg0=>?_))|(refine zC (d:=some 10) rfl (get_spec (M:=M) s _ (hG.ext (by exact fx)) (fun b hb=>Nat.lt_of_lt_of_le (hM b hb) (Ext.size (by exact fx)))) ?_;rintro v5 w5 ⟨ds,rfl,e5,x5⟩;obtain ⟨iv,ov,rfl,o1,o2,o3⟩:=e5;have i1:=o1.one;have i2:=o2.one)|(refine zE (d':=5) (fun _=>rfl) rfl rfl (by simp [entCs,i1,i2];exact ⟨rfl,rfl,rfl,rfl,rfl⟩) (fun b6 w6 x6 a6 (r6:Row w6 ⟨b6,0,none⟩ (entCs (getE l s) iv ov)) hb6=>?_);have q1:=SlR.ext ((o1.sub (M':= []) (by simp)).sl (by simp)) x6;have q2:=SlR.ext ((o2.sub (M':= []) (by simp)).sl (by simp)) x6;clear o1 o2)|(refine zC (d:=some 15) rfl (signals_spec (N:= []) (cs:=txCs (getE l s).tx iv ov) (t:=(getE l s).tx) _ ⟨iv,ov,rfl,SlR.ext q1 (by exact fx),SlR.ext q2 (by exact fx),o3.1,o3.2.1⟩ hsm) ?_;rintro _ w7 ⟨rfl,x7⟩)|(refine zK rfl (fun h=>?_) (fun h=>?_))|(refine zC (d:=some 20) rfl (pabove_spec (M:=M) (N:= []) (l:=l) (cs:=txCs (getE l s).tx iv ov) (t:=(getE l s).tx) _ (hG.ext (by exact fx)) (fun b hb=>Nat.lt_of_lt_of_le (hM b hb) (Ext.size (by exact fx))) ⟨iv,ov,rfl,SlR.ext q1 (by exact fx),SlR.ext q2 (by exact fx),o3.1,o3.2.1⟩ hsm hl) ?_;rintro va w8 ⟨oa,x8⟩;have sa:SlR strR [] w8 va (idsOf l (aboveL l (getE l s).tx)):=SlE.toR (F:=strE) (ag:=false) oa.sl (by simp);have tl:Tells F.replace_replaceable_1 [.pointer (some ⟨b2,0,none⟩)] strR (fun cs=>cs.headD undef) [] w8 (idsOf l (aboveL l (getE l s).tx)) (fun s=>sigT (getE l s).tx):=(fun x hx w' cs x2 hc=>by obtain rfl:cs= [Value.string x]:=hc;exact repl1_spec (M:=M) x w' (hG.ext (Ext.trans (by exact fx) x2)) (fun b hb=>Nat.lt_of_lt_of_le (hM b hb) (Ext.size (Ext.trans (by exact fx) x2))) (rg.ext (Ext.trans (by exact fx) x2))))|(refine zC (d:=some 22) rfl (idxStr_any (l:=idsOf l (aboveL l (getE l s).tx)) (M:= []) (g:=F.replace_replaceable_1) (capl:= [_]) _ repl1_hb sa (by omega) tl) ?_;rintro _ w9 ⟨rfl,x9⟩))
 all_goals
  refine x_ret rfl ⟨congrArg Value.bool ?_,by exact fx⟩
  unfold mayE
  simp only [h,Bool.true_or,Bool.false_or]
set_option maxHeartbeats 2000000 in
theorem fresh_spec {g : Nat} {M N : List Nat} {l : List Ent} {cs : List Value} {t : Tx} {vc vg : Value} (w : World) (hG : GrR w g M l) (hM : ∀ b ∈ M, b < w.heap.size) (ht : txR.rel N w cs t) (hs : t.ins.length ≤ 1000) (hl : l.length ≤ 1000)
    (hc : SlE strE w vc (idsOf l (confL l t))) (hg : SlE strE w vg (idsOf l (evL l t))) :
    K.Spec Tryz.prog F.replace_fresh [.pointer (some ⟨g, 0, none⟩), .agg cs.toArray, vc, vg] w fun r w' => r = .bool (freshP l t) ∧ Ext w w' := by
  have hlc := idsOf_le1 l (confL l t)
  have hle := idsOf_le1 l (evL l t)
  obtain ⟨iv, ov, rfl, hi, ho, hv⟩ := ht
  obtain ⟨ids, hids⟩ : ∃ ids, ids = idsOf l (confL l t) := ⟨_, rfl⟩
  obtain ⟨gone, hgone⟩ : ∃ gone, gone = idsOf l (evL l t) := ⟨_, rfl⟩
  have hF : freshP l t = t.ins.any fun b => outHas l b.p && (inB gone b.p.s || !inB ids (spId l b.p)) := by rw [hids, hgone]; rfl
  rw [← hids] at hc hlc
  rw [← hgone] at hg hle
  rw [hF]
  refine s_replace_fresh rfl ?_
  unfold k_replace_fresh
  refine oy ?_
  repeat' (first|(first|refine go1 ?_|refine zg (fun _ _=>?_)|refine zi (fun _ _=>?_))|(refine zD rfl rfl (fun bt wt xt bt' (rt : Row wt ⟨bt, 0, none⟩ (txCs t iv ov)) hbt0=>?_))|(refine zG (d := some 17) (E := inR) (M := N) (l := t.ins) rfl (SlR.ext hi (by exact fx)) ?_)|(refine zL rfl (fun h => ?_) (fun h => ?_))|(refine c_loopV (fun (i : Nat) w' => Ext w w' ∧ i ≤ t.ins.length ∧ ∀ b ∈ t.ins.take i, (outHas l b.p && (inB gone b.p.s || !inB ids (spId l b.p))) = false) (fun i => [(0, .pointer (some ⟨g, 0, none⟩)), (2, vc), (3, vg), (16, iv), (17, .int .i64 (t.ins.length : Nat)), (18, .int .i64 i)]) (fun i => t.ins.length - i) 0 ⟨rfl, rfl, rfl, rfl, rfl, rfl, trivial⟩ ⟨xt, by simp, by simp⟩ ?_; clear xt; rintro i ρ w3 ⟨x3, hi3, hno⟩))
  · have hil : i < t.ins.length := by omega
    refine st_elemR (d := some 20) (E := inR) (M := N) rfl rfl (n := i) (l := t.ins) (hi.ext x3) rfl hil (fun ad cs r4 he => ?_)
    obtain ⟨wv, rfl, q1, q2, q3⟩ := he
    have i1 := q1.one
    have htk : ∀ {P : TIn → Prop}, (∀ b ∈ t.ins.take i, P b) → P t.ins[i] → ∀ b ∈ t.ins.take (i + 1), P b := fun h1 h2 b hb => by
      rw [List.take_succ_eq_append_getElem hil] at hb
      rcases List.mem_append.1 hb with h | h
      · exact h1 b h
      · simp at h; subst h; exact h2
    have hyes : ∀ {P : TIn → Bool}, P t.ins[i] = true → t.ins.any P = true := fun h => List.any_eq_true.2 ⟨_, List.getElem_mem hil, h⟩
    obtain ⟨B, hB⟩ : ∃ B, outHas l t.ins[i].p = B := ⟨_, rfl⟩
    obtain ⟨C, hC⟩ : ∃ C, inB gone t.ins[i].p.s = C := ⟨_, rfl⟩
    obtain ⟨D, hD⟩ : ∃ D, inB ids (spId l t.ins[i].p) = D := ⟨_, rfl⟩
    cases B <;> cases C <;> cases D
    all_goals repeat' (first|(first|refine go1 ?_|refine zg (fun _ _=>?_)|refine zi (fun _ _=>?_))|(refine zE (d' := 10) (fun _=>rfl) rfl rfl (by simp [inCs, i1]; exact ⟨rfl, rfl, rfl⟩) (fun b6 w6 x6 a6 (r6 : Row w6 ⟨b6, 0, none⟩ (inCs t.ins[i] wv)) hb6=>?_))|(refine zC (d := some 26) rfl (out_spec (M := M) (l := l) t.ins[i].p q2 _ (hG.ext (by exact fx)) (fun b hb => Nat.lt_of_lt_of_le (hM b hb) (Ext.size (by exact fx)))) ?_; rintro _ w7 ⟨o, rfl, -, x7⟩; rw [hB])|(refine zE (d' := 11) (vs := outCs o) (fun _=>rfl) rfl rfl rfl (fun b8 w8 x8 a8 r8 hb8=>?_))|(refine zM rfl (fun h => ?_) (fun h => ?_))|(refine zC (d := some 35) rfl (spender_spec (M := M) (l := l) t.ins[i].p _ (hG.ext (by exact fx))) ?_; rintro _ w9 ⟨rfl, x9⟩)|(refine zC (d := some 42) rfl (contains16 (l := gone) t.ins[i].p.s _ (SlE.ext (by exact fx) hg) (by omega)) ?_; rintro _ _ ⟨rfl, rfl⟩; rw [hC])|(refine zC (d := some 46) rfl (contains16 (l := ids) (spId l t.ins[i].p) _ (SlE.ext (by exact fx) hc) (by omega)) ?_; rintro _ _ ⟨rfl, rfl⟩; rw [hD])|(refine zK rfl (fun h => ?_) (fun h => ?_)))
    all_goals first
      | exact ⟨i + 1, ⟨rfl, rfl, rfl, rfl, rfl, rfl, trivial⟩, ⟨by exact fx, by omega, htk hno (by rw [hB, hC, hD]; rfl)⟩, by omega⟩
      | exact ⟨i + 1, ⟨rfl, rfl, rfl, rfl, rfl, rfl, trivial⟩, ⟨by exact fx, by omega, htk hno (by rw [hB]; rfl)⟩, by omega⟩
      | (rw [show (t.ins.any fun b => outHas l b.p && (inB gone b.p.s || !inB ids (spId l b.p))) = true from hyes (by rw [hB, hC, hD]; rfl)]
         exact x_ret rfl ⟨rfl, by exact fx⟩)
  · have e : (t.ins.any fun b => outHas l b.p && (inB gone b.p.s || !inB ids (spId l b.p))) = false := by
      rw [List.take_of_length_le (by omega)] at hno
      exact List.any_eq_false.2 (fun b hb => by rw [hno b hb]; simp)
    rw [e]
    exact x_ret rfl ⟨rfl, x3⟩
end Go.Proofs.YtfebcajheojodaaGreatDoor
end
