/- Contracts: the document's answer of limits. Contracts: whether a transaction is accepted, by the document. Plain: what the document fixes of pools. Contracts: coins of numbers, by the document. -/
import Derived.Test.YtfebcajheojodaaGreatDoorDc38
set_option linter.unusedVariables false
set_option linter.unusedSimpArgs false
section
namespace Go.Proofs.YtfebcajheojodaaGreatDoor
open Go Go.K
attribute [local irreducible] regK codeK retK KOp.wp K.Spec u32 leS vnS str zero32 sha2 encT idT sizeT checkT grantB idN stepR workL reachE findI dropG addG aboveL belowL idsOf feeD sizeD szOf feeOf
theorem cntb_spec {v:Value} {m:List Bool} (w:World) (hm:SlE boolE w v m) (hn:m.length≤1000000):K.Spec Tryz.prog F.kedgeref15_count [v] w fun r w'=>r=.int .i64 (cntB m)∧Ext w w':=by
 refine s_kedgeref15_count rfl ?_
 unfold k_kedgeref15_count
 refine oy ?_
 repeat' (first|(first|refine go1 ?_|refine zg (fun _ _=>?_)|refine zi (fun _ _=>?_))|(refine zL rfl (fun h=>?_) (fun h=>?_))|(refine zM rfl (fun h=>?_) (fun h=>?_))|(refine st_len rfl (SlE.ext (w:=w) (by exact fx) hm) ?_)|(refine c_loopV (fun (i:Nat) w'=>Ext w w'∧i≤m.length) (fun i=> [(0,v),(3,.int .i64 (cntB (m.take i))),(4,.int .i64 i)]) (fun i=>m.length - i) 0 ⟨rfl,rfl,rfl,trivial⟩ ⟨Ext.refl _,Nat.zero_le _⟩ ?_;rintro i ρ w3 ⟨x3,hi3⟩;have hcb:=cntB_le (m.take i);have hcl:(m.take i).length≤m.length:=(by rw [List.length_take];omega))|(have hil:i<m.length:=(by omega);refine st_elemE (d:=some 13) (E:=boolE) rfl rfl (n:=i) (l:=m) (hm.ext x3) rfl hil (fun ad r5=>?_);have r5:Row w3 ad [Value.bool m[i]]:=r5))
 ·refine ⟨i+1,⟨rfl,?_,rfl,trivial⟩,⟨by exact fx,by omega⟩,by omega⟩
  show _=Value.int .i64 (cntB (m.take (i+1)))
  rw [List.take_succ_eq_append_getElem hil,cntB_snoc,if_pos h];rfl
 ·refine ⟨i+1,⟨rfl,?_,rfl,trivial⟩,⟨by exact fx,by omega⟩,by omega⟩
  show _=Value.int .i64 (cntB (m.take (i+1)))
  rw [List.take_succ_eq_append_getElem hil,cntB_snoc,if_neg (by simpa using h)]
  exact congrArg (Value.int .i64) (by omega)
 ·rw [List.take_of_length_le (by omega)]
  exact x_ret rfl ⟨rfl,by exact fx⟩
set_option maxHeartbeats 1000000 in
theorem rfits_spec {M:List Nat} {v:Value} {cs:List Value} {l:List Ent} {t:Tx} (w:World) (hl:SlR entR M w v l) (ht:txR.rel M w cs t) (hs:t.Sm) (hn:l.length≤1000) (hE:∀x∈l,EntOk x) (hnd:(l.map (·.id)).Nodup):
  K.Spec Tryz.prog F.kedgeref15_Fits [v,.agg cs.toArray] w fun r w'=>r=.int .i64 (fitsL l t)∧Ext w w':=by
 have ht0:=ht
 obtain ⟨iv,ov,rfl, -⟩:=ht
 have hgood:∀x∈l,goodB x.fee=true:=fun x hx=>(hE x hx).fee
 have hsz:∀x∈l,0≤x.size∧x.size≤(100000000000:Nat):=fun x hx=>(entOk_fit (hE x hx)).2
 have hsm:∀x∈l,x.tx.Sm:=fun x hx=>chk_sm (hE x hx).check
 have hla:=aboveL_len l t
 by_cases hc:checkT t=0
 ·have hz:=sz_of_check hs hc
  have hz2:=hz.size
  have hca:=cntB_le (aboveL l t)
  have hsa:=szOf_bound (l:=l) hsz (aboveL l t)
  have hfit:fitsL l t=if wiP l (idsOf l (aboveL l t)) (sizeT t:Nat) 25 101000=false then 14 else if hoP l (idsOf l (aboveL l t)) (sizeT t:Nat) 25 101000 then 0
   else if ((idsOf l (aboveL l t)).length:Int)=1∧((sizeT t:Nat):Int)≤10000∧hoP l (idsOf l (aboveL l t)) (sizeT t:Nat) 26 111000=true then 0 else 14:=by
   rw [fitsL,if_neg (by simpa using hc)]
  rw [wiP_mask hnd hla,idsOf_len l _ hla] at hfit
  refine s_kedgeref15_Fits rfl ?_
  unfold k_kedgeref15_Fits
  refine oy ?_
  repeat' (first|(first|refine go1 ?_|refine zg (fun _ _=>?_)|refine zi (fun _ _=>?_))|(refine zN (p:=checkT t=0) rfl (fun h=>absurd hc h) (fun h=>?_))|(refine zL rfl (fun h=>?_) (fun h=>?_))|(refine zJ rfl (fun h=>?_) (fun h=>?_))|(refine zD rfl rfl (fun bp wp xp ap (rp:Row wp ⟨bp,0,none⟩ (txCs t iv ov)) hp0=>?_))|(refine zC rfl (rcheck_spec (M:=M) (cs:=txCs t iv ov) (t:=t) _ (R.ext ht0 (by exact fx)) hs) ?_;rintro _ w3 ⟨rfl,x3⟩)|(refine zC rfl (rsize_spec (M:=M) (cs:=txCs t iv ov) (t:=t) _ (R.ext ht0 (by exact fx)) hz) ?_;rintro _ w4 ⟨rfl,x4⟩)|(refine zC rfl (above_spec (M:=M) (l:=l) (cs:=txCs t iv ov) (t:=t) _ (SlR.ext hl (by exact fx)) (R.ext ht0 (by exact fx)) hs hn hsm) ?_;rintro va w5 ⟨sa,x5, -⟩)|(refine zC rfl (cntb_spec (m:=aboveL l t) _ (SlE.ext (by exact fx) sa) (by omega)) ?_;rintro _ w6 ⟨rfl,x6⟩)|(refine zC rfl (rsum14_spec (M:=M) (l:=l) (m:=aboveL l t) _ (SlR.ext hl (by exact fx)) (SlE.ext (by exact fx) sa) hla hn hgood hsz) ?_;rintro _ w7 ⟨rfl,x7⟩))
  ·have e:fitsL l t=14:=by rw [hfit,decide_eq_false (by omega),Bool.false_and,if_pos rfl]
   rw [e]
   exact x_ret rfl ⟨rfl,by exact fx⟩
  ·have e:fitsL l t=14:=by rw [hfit,decide_eq_false (show ¬szOf l (aboveL l t)+((sizeT t:Nat):Int)≤101000 by omega),Bool.and_false,if_pos rfl]
   rw [e]
   exact x_ret rfl ⟨rfl,by exact fx⟩
  ·have x07:Ext w w7:=by exact fx
   have sa7:SlE boolE w7 va (aboveL l t):=SlE.ext (x6.trans x7) sa
   have hl7:=SlR.ext hl x07
   rw [decide_eq_true (by omega),decide_eq_true (show szOf l (aboveL l t)+((sizeT t:Nat):Int)≤101000 by omega),Bool.and_true,if_neg (by simp)] at hfit
   clear ht0 hl sa xp x3 x4 x5 x6 x7 rp ap
   have hB:∀s,l.length=(belowL l s).length:=belowL_len l
   have hb25:∀s,wiP l (idsOf l (belowL l s)) (sizeT t:Nat) 25 101000=(decide (cntB (belowL l s)+1≤25)&&decide (szOf l (belowL l s)+((sizeT t:Nat):Int)≤101000)):=fun s=>wiP_mask hnd (hB s) _ _ _
   have hb26:∀s,wiP l (idsOf l (belowL l s)) (sizeT t:Nat) 26 111000=(decide (cntB (belowL l s)+1≤26)&&decide (szOf l (belowL l s)+((sizeT t:Nat):Int)≤111000)):=fun s=>wiP_mask hnd (hB s) _ _ _
   repeat' (first|(refine c_cutV (a:=.seq (.reg false (.cons ⟨some 70,_,_⟩ _)) _) (fun (b:Bool) w'=>Ext w12 w'∧b=(all&&wiP l (idsOf l (belowL l l[i].id)) (sizeT t:Nat) 25 101000)) (fun b=> [(0,v),(6,.int .i64 (sizeT t:Nat)),(7,va),(8,.int .i64 (cntB (aboveL l t))),(11,.bool b),(12,.int .i64 i),(14,.int .i64 (cntB (belowL l l[i].id))),(16,.int .i64 (szOf l (belowL l l[i].id)))]) ?_ ?_;rotate_left;(rintro b ρ2 w13 ⟨x13,hb⟩;try dsimp only);rotate_left)|(first|refine go1 ?_|refine zg (fun _ _=>?_)|refine zi (fun _ _=>?_))|(refine c_loopV (fun (q:Nat × Bool) w'=>Ext w7 w'∧q.1≤l.length∧(q.2=true↔∀j (h:j<l.length),j<q.1→(aboveL l t)[j]'(by omega)=true→wiP l (idsOf l (belowL l l[j].id)) (sizeT t:Nat) 25 101000=true)∧∀j (h:j<l.length),j<q.1→(aboveL l t)[j]'(by omega)=true→cntB (aboveL l t)=1→((sizeT t:Nat):Int)≤10000→wiP l (idsOf l (belowL l l[j].id)) (sizeT t:Nat) 26 111000=false) (fun q=> [(0,v),(6,.int .i64 (sizeT t:Nat)),(7,va),(8,.int .i64 (cntB (aboveL l t))),(11,.bool q.2),(12,.int .i64 q.1)]) (fun q=>l.length - q.1) (0,true) ⟨rfl,rfl,rfl,rfl,rfl,rfl,trivial⟩ ⟨Ext.refl _,Nat.zero_le _,by simp,by simp⟩ ?_;rintro ⟨i,all⟩ ρ w8 ⟨x8,hi,ha,hk⟩;simp only at hi ha hk;dsimp only)|(refine zL rfl (fun h=>?_) (fun h=>?_))|(refine zG (E:=entR) (M:=M) (l:=l) rfl (SlR.ext hl7 (by exact fx)) ?_)|(have hil:i<l.length:=(by omega);refine st_elemE (d:=some 52) (E:=boolE) rfl rfl (n:=i) (l:=aboveL l t) (SlE.ext (by exact fx) sa7) rfl (by omega) (fun ad r5=>?_);have r5:Row w8 ad [Value.bool ((aboveL l t)[i]'(by omega))]:=r5)|(refine zM rfl (fun ht=>?_) (fun ht=>?_))|(refine st_elemR (d:=some 58) (E:=entR) (M:=M) rfl rfl (n:=i) (l:=l) (SlR.ext hl7 (by exact fx)) rfl hil (fun ad cs r6 he=>?_);obtain ⟨iv9,ov9,rfl, -⟩:=he)|(refine zC rfl (below_spec (M:=M) (l:=l) l[i].id _ (SlR.ext hl7 (by exact fx)) hn hsm) ?_;rintro vb w10 ⟨sb,x10, -⟩)|(refine zC rfl (cntb_spec (m:=belowL l l[i].id) _ (SlE.ext (by exact fx) sb) (by have:=hB l[i].id;omega)) ?_;rintro _ w11 ⟨rfl,x11⟩)|(refine zC rfl (rsum14_spec (M:=M) (l:=l) (m:=belowL l l[i].id) _ (SlR.ext hl7 (by exact fx)) (SlE.ext (by exact fx) sb) (hB _) hn hgood hsz) ?_;rintro _ w12 ⟨rfl,x12⟩;have hcb:=cntB_le (belowL l l[i].id);have hsb:=szOf_bound (l:=l) hsz (belowL l l[i].id);have hlb:=hB l[i].id)|(refine zJ rfl (fun h=>?_) (fun h=>?_)))
   ·refine ⟨(i+1,all),⟨rfl,rfl,rfl,rfl,rfl,rfl,trivial⟩,⟨by exact fx,by simp only;omega,?_,?_⟩,by simp only;omega⟩
    ·rw [ha]
     exact ⟨fun h1 j hj hji hA=>by
      by_cases e:j=i
      ·subst e;rw [hA] at ht;cases ht
      ·exact h1 j hj (by simp only at hji;omega) hA,fun h1 j hj hji hA=>h1 j hj (by simp only;omega) hA⟩
    ·intro j hj hji hA hc1 hc2
     by_cases e:j=i
     ·subst e;rw [hA] at ht;cases ht
     ·exact hk j hj (by simp only at hji;omega) hA hc1 hc2
   ·exact ⟨false,⟨rfl,rfl,rfl,rfl,rfl,rfl,rfl,rfl,trivial⟩,by exact fx,by rw [hb25,decide_eq_false (show ¬cntB (belowL l l[i].id)+1≤25 by omega),Bool.false_and,Bool.and_false]⟩
   ·exact ⟨false,⟨rfl,rfl,rfl,rfl,rfl,rfl,rfl,rfl,trivial⟩,by exact fx,by rw [hb25,decide_eq_false (show ¬szOf l (belowL l l[i].id)+((sizeT t:Nat):Int)≤101000 by omega),Bool.and_false,Bool.and_false]⟩
   ·exact ⟨all,⟨rfl,rfl,rfl,rfl,rfl,rfl,rfl,rfl,trivial⟩,by exact fx,by rw [hb25,decide_eq_true (show cntB (belowL l l[i].id)+1≤25 by omega),decide_eq_true (show szOf l (belowL l l[i].id)+((sizeT t:Nat):Int)≤101000 by omega),Bool.and_true,Bool.and_true]⟩
   ·have hin:l[i].id∈idsOf l (aboveL l t):=idsOf_mem hil (by omega) (by simpa using ht)
    have h1:(idsOf l (aboveL l t)).length=1:=by have:=idsOf_len l _ hla;omega
    have h2:hoP l (idsOf l (aboveL l t)) (sizeT t:Nat) 26 111000=true:=by
     unfold hoP
     rw [one_all h1 hin,hb26,decide_eq_true (by assumption),decide_eq_true (show szOf l (belowL l l[i].id)+((sizeT t:Nat):Int)≤111000 by assumption)]
     rfl
    have e:fitsL l t=0:=by
     rw [hfit]
     split
     ·rfl
     ·rw [if_pos ⟨by assumption,by assumption,h2⟩]
    rw [e]
    exact x_ret rfl ⟨rfl,Ext.trans x07 (by exact fx)⟩
   iterate 4
    ·refine ⟨(i+1,b),⟨rfl,rfl,rfl,rfl,rfl,rfl,trivial⟩,⟨by exact fx,by simp only;omega,?_,?_⟩,by simp only;omega⟩
     ·simp only
      rw [hb,Bool.and_eq_true,ha]
      constructor
      ·rintro ⟨h1,h2⟩ j hj hji hA
       by_cases e:j=i
       ·subst e;exact h2
       ·exact h1 j hj (by omega) hA
      ·intro h1
       exact ⟨fun j hj hji hA=>h1 j hj (by omega) hA,h1 i hil (by omega) (by simpa using ht)⟩
     ·simp only
      intro j hj hji hA hc1 hc2
      by_cases e:j=i
      ·subst e
       first
        |exact absurd hc1 (by assumption)
        |exact absurd hc2 (by assumption)
        |rw [hb26,decide_eq_false (by assumption),Bool.false_and]
        |rw [hb26,decide_eq_false (show ¬szOf l (belowL l l[j].id)+((sizeT t:Nat):Int)≤111000 by assumption),Bool.and_false]
      ·exact hk j hj (by omega) hA hc1 hc2
   ·have e:fitsL l t=0:=by
     rw [hfit,if_pos]
     unfold hoP
     rw [List.all_eq_true]
     intro x hx
     obtain ⟨j,h1,h2,h3,rfl⟩:=mem_idsOf hx
     exact ha.1 ‹_› j h1 (by omega) h3
    rw [e]
    exact x_ret rfl ⟨rfl,Ext.trans x07 (by exact fx)⟩
   ·have e:fitsL l t=14:=by
     have hnot:¬(hoP l (idsOf l (aboveL l t)) (sizeT t:Nat) 25 101000=true):=fun h1=>by
      have:all=true:=ha.2 fun j hj _ hA=>List.all_eq_true.1 h1 _ (idsOf_mem hj (by omega) hA)
      simp_all
     rw [hfit,if_neg hnot,if_neg]
     rintro ⟨c1,c2,c3⟩
     have hlen:=idsOf_len l _ hla
     have h1:0<(idsOf l (aboveL l t)).length:=by omega
     obtain ⟨j,j1,j2,j3,j4⟩:=mem_idsOf (List.getElem_mem h1)
     have h4:=hk j j1 (by omega) j3 c1 c2
     have h5:=List.all_eq_true.1 c3 _ (List.getElem_mem h1)
     rw [←j4,h4] at h5
     cases h5
    rw [e]
    exact x_ret rfl ⟨rfl,Ext.trans x07 (by exact fx)⟩
 ·have hfit:fitsL l t=checkT t:=by rw [fitsL,if_pos hc]
  rw [hfit]
  refine s_kedgeref15_Fits rfl ?_
  unfold k_kedgeref15_Fits
  refine oy ?_
  repeat' (first|(first|refine go1 ?_|refine zg (fun _ _=>?_)|refine zi (fun _ _=>?_))|(refine zN rfl (fun h=>?_) (fun h=>absurd h hc))|(refine zD rfl rfl (fun bp wp xp ap (rp:Row wp ⟨bp,0,none⟩ (txCs t iv ov)) hp0=>?_))|(refine zC rfl (rcheck_spec (M:=M) (cs:=txCs t iv ov) (t:=t) _ (R.ext ht0 (by exact fx)) hs) ?_;rintro _ w3 ⟨rfl,x3⟩))
  exact x_ret rfl ⟨rfl,by exact fx⟩
end Go.Proofs.YtfebcajheojodaaGreatDoor
end
section
namespace Go.Proofs.YtfebcajheojodaaGreatDoor
open Go Go.K
theorem over_scr {V:List En} {l:List Ent} {h:Int} (hVk:(V.map (·.1)).Nodup) (hnd:(l.map (·.id)).Nodup) (hi:∀e∈overL V l h,is32 e.1.i) (hE:∀x∈l,EntOk x) (hV:∀e∈V,e.2.s.size≤1000000):∀e∈overL V l h,e.2.s.size≤1000000:=fun e he=>by
 have h1:=mem_aget (p:=e.1) (c:=e.2) (overL_keys hVk hnd h) he
 rw [over_get hVk hnd (hi e he).1] at h1
 unfold overV at h1
 cases hf:aget V e.1 with
 |some c=>
  rw [hf] at h1
  have:c=e.2:=by simpa using h1
  rw [←this]
  exact hV _ (aget_mem hf)
 |none=>
  rw [hf] at h1
  exact out_size hE (by simpa using h1)
attribute [local irreducible] regK codeK retK KOp.wp K.Spec u32 leS vnS str zero32 numAt byteAt lockL signL brsL chosenB openE ripeB checkT grantB encT idT sizeT inE feeP dustI overL overV plainP askedF rulesL fitsL evL idsOf addG leftL
set_option maxHeartbeats 4000000 in
theorem accept17_spec {M:List Nat} {v u:Value} {cs:List Value} {V:List En} {l:List Ent} {t:Tx} (h rate:Int) (w:World) (hv:SlE entE w v V) (hu:SlR entR M w u l) (ht:txR.rel M w cs t) (hs:t.Sm) (hV:V.length≤1000) (hl:l.length≤1000) (hE:∀x∈l,EntOk x) (hVk:(V.map (·.1)).Nodup) (hnd:(l.map (·.id)).Nodup) (hon:(overL V l h).length≤100000) (hos:∀e∈overL V l h,e.2.s.size≤1000000) (hf:∀x∈l,x.fee≤1000000000000) (hid:∀x∈l,x.id.size=32) (hM:∀b∈M,b<w.heap.size):
  K.Spec Tryz.prog F.kedgeref17_Accept [v,u,.agg cs.toArray,.int .i64 h,.int .i64 rate] w fun r w'=>∃gl il,r=.tuple #[gl,il,.int .i64 (accE (aget V) l t h rate).1,.int .i64 (accE (aget V) l t h rate).2]∧SlR entR M w' gl (accL (aget V) l t h rate)∧SlE strE w' il (accIds (aget V) l t h rate)∧Ext w w':=by
 have ht0:=ht
 obtain ⟨iv,ov,rfl,h1,h2,h3,h4⟩:=ht
 refine s_kedgeref17_Accept rfl ?_
 unfold k_kedgeref17_Accept
 refine oy ?_
 repeat (first|(refine zD (d:=some 7) (cs:=txCs t iv ov) rfl rfl (fun bp wp xp ap (rp:Row wp ⟨bp,0,none⟩ (txCs t iv ov)) hp0=>?_))|(first|refine go1 ?_|refine zg (fun _ _=>?_)|refine zi (fun _ _=>?_)))
 refine zC (d:=some 27) rfl (plain17_spec (M:=M) (t:=t) (cs:=txCs t iv ov) (V:=V) (l:=l) h _ (hv.ext xp) (hu.ext xp) (R.ext ht0 xp) hs hV hl hE hVk hnd hon hos) ?_
 rintro _ w2 ⟨rfl,x2⟩
 have x02:=xp.trans x2
 have r2:=Row.ext x2 rp
 unfold plainV
 by_cases h0:(plainP (aget V) l t h).2.1=0
 ·obtain ⟨hc,hg,hh,hgd⟩:=plain_good h0
  have hz:=sz_of_check hs hc
  have hsz:=hz.sizeM
  have hgd':=(goodB_iff _).1 hgd
  repeat (first|(refine st_fixV (d:=some 32) (.bool false) rfl (congrArg (fun b=>some (Value.bool (!b))) (decide_eq_true h0)) ?_)|(first|refine go1 ?_|refine zg (fun _ _=>?_)|refine zi (fun _ _=>?_)))
  refine zC (d:=some 37) rfl (rsize_spec (M:=M) (t:=t) (cs:=txCs t iv ov) _ (R.ext ht0 x02) hz) ?_
  rintro _ w3 ⟨rfl,x3⟩
  repeat (first|refine go1 ?_|refine zg (fun _ _=>?_)|refine zi (fun _ _=>?_))
  refine zC (d:=some 40) rfl (asked17_spec rate (sizeT t) hsz.2 _) ?_
  rintro _ w4 ⟨rfl,x4⟩
  have x24:=x3.trans x4
  have r4:=Row.ext x24 r2
  have x04:=x02.trans x24
  by_cases hlt:(plainP (aget V) l t h).1<askedF rate (sizeT t)
  ·repeat (first|(refine st_fixV (d:=some 43) (.bool true) rfl (congrArg (fun b=>some (Value.bool b)) (decide_eq_true hlt)) ?_)|(first|refine go1 ?_|refine zg (fun _ _=>?_)|refine zi (fun _ _=>?_)))
   have e:=acc_fee (f:=aget V) (rate:=rate) h0 hlt
   obtain ⟨e2,e3⟩:=acc_not (f:=aget V) (l:=l) (t:=t) (h:=h) (rate:=rate) (by rw [e];exact show ¬(11:Int)=0 by decide)
   rw [e,e2,e3]
   exact x_ret rfl ⟨_,_,rfl,hu.ext x04,SlE.nil _,x04⟩
  ·repeat (first|(refine st_fixV (d:=some 43) (.bool false) rfl (congrArg (fun b=>some (Value.bool b)) (decide_eq_false hlt)) ?_)|(first|refine go1 ?_|refine zg (fun _ _=>?_)|refine zi (fun _ _=>?_)))
   refine zC (d:=some 48) rfl (rrules_spec (M:=M) (t:=t) (cs:=txCs t iv ov) (l:=l) _ _ (hu.ext x04) (R.ext ht0 x04) hs hl hE hf hnd hid) ?_
   rintro _ w5 ⟨rfl,x5⟩
   have x05:=x04.trans x5
   have r5:=Row.ext x5 r4
   by_cases hr:rulesL l t (plainP (aget V) l t h).1=0
   ·repeat (first|(refine st_fixV (d:=some 50) (.bool false) rfl (congrArg (fun b=>some (Value.bool (!b))) (decide_eq_true hr)) ?_)|(first|refine go1 ?_|refine zg (fun _ _=>?_)|refine zi (fun _ _=>?_)))
    refine zC (d:=some 55) rfl (rev_spec (M:=M) (t:=t) (cs:=txCs t iv ov) (l:=l) _ (hu.ext x05) (R.ext ht0 x05) hs.ins hl (fun x hx=>chk_sm (hE x hx).check)) ?_
    rintro ev w6 ⟨hev,x6, -⟩
    have x06:=x05.trans x6
    have r6:=Row.ext x6 r5
    repeat (first|refine go1 ?_|refine zg (fun _ _=>?_)|refine zi (fun _ _=>?_))
    refine zC (d:=some 58) rfl (without17_spec (M:=M) (l:=l) (m:=evL l t) _ (hu.ext x06) hev evL_len (by omega)) ?_
    rintro lv w7 ⟨olf,x7⟩
    have x07:=x06.trans x7
    have r7:=Row.ext x7 r6
    have hlf:=olf.slB (fun y hy=>Nat.lt_of_lt_of_le (hM y hy) x06.size)
    have hsub:=leftL_sub l (evL l t)
    have hEl:∀x∈leftL l (evL l t),EntOk x:=fun x hx=>hE x (hsub.subset hx)
    have hndl:((leftL l (evL l t)).map (·.id)).Nodup:=List.Nodup.sublist (List.Sublist.map _ hsub) hnd
    have hll:(leftL l (evL l t)).length≤l.length:=hsub.length_le
    have er:restL l t=leftL l (evL l t):=by unfold restL;exact dropAll_left _ _ hnd
    repeat (first|refine go1 ?_|refine zg (fun _ _=>?_)|refine zi (fun _ _=>?_))
    refine zC (d:=some 61) rfl (rfits_spec (M:=M) (t:=t) (cs:=txCs t iv ov) (l:=leftL l (evL l t)) _ hlf (R.ext ht0 x07) hs (by omega) hEl hndl) ?_
    rintro _ w8 ⟨rfl,x8⟩
    have x08:=x07.trans x8
    have r8:=Row.ext x8 r7
    by_cases hfi:fitsL (leftL l (evL l t)) t=0
    ·repeat (first|(refine st_fixV (d:=some 63) (.bool false) rfl (congrArg (fun b=>some (Value.bool (!b))) (decide_eq_true hfi)) ?_)|(first|refine go1 ?_|refine zg (fun _ _=>?_)|refine zi (fun _ _=>?_)))
     refine zC (d:=some 68) rfl (ids_spec (M:=M) (l:=l) (m:=evL l t) _ (hu.ext x08) (hev.ext (x7.trans x8)) evL_len (by omega)) ?_
     rintro il w9 ⟨oil,x9⟩
     have r9:=Row.ext x9 r8
     repeat (first|refine go1 ?_|refine zg (fun _ _=>?_)|refine zi (fun _ _=>?_))
     refine zC (d:=some 73) rfl (radd_spec (M:=M) (t:=t) (cs:=txCs t iv ov) (l:=leftL l (evL l t)) (plainP (aget V) l t h).1 _ (hlf.ext (x8.trans x9)) (R.ext ht0 (x08.trans x9)) hs (by unfold is64;omega) (by omega) hEl (fun y hy=>Nat.lt_of_lt_of_le (hM y hy) (x08.trans x9).size)) ?_
     rintro _ w10 ⟨gu,rfl,hgu,x10⟩
     obtain ⟨e1,e2,e3⟩:=acc_ok (f:=aget V) (rate:=rate) h0 hlt hr (by rw [er];exact hfi)
     rw [e1,e2,e3,er]
     repeat (first|refine go1 ?_|refine zg (fun _ _=>?_)|refine zi (fun _ _=>?_))
     exact x_ret rfl ⟨_,_,rfl,hgu,oil.sl.ext x10,(x08.trans x9).trans x10⟩
    ·repeat (first|(refine st_fixV (d:=some 63) (.bool true) rfl (congrArg (fun b=>some (Value.bool (!b))) (decide_eq_false hfi)) ?_)|(first|refine go1 ?_|refine zg (fun _ _=>?_)|refine zi (fun _ _=>?_)))
     have e:=acc_fits (f:=aget V) (rate:=rate) h0 hlt hr (by rw [er];exact hfi)
     obtain ⟨e2,e3⟩:=acc_not (f:=aget V) (l:=l) (t:=t) (h:=h) (rate:=rate) (by rw [e,er];exact hfi)
     rw [e,e2,e3,er]
     exact x_ret rfl ⟨_,_,rfl,hu.ext x08,SlE.nil _,x08⟩
   ·repeat (first|(refine st_fixV (d:=some 50) (.bool true) rfl (congrArg (fun b=>some (Value.bool (!b))) (decide_eq_false hr)) ?_)|(first|refine go1 ?_|refine zg (fun _ _=>?_)|refine zi (fun _ _=>?_)))
    have e:=acc_rules (f:=aget V) (rate:=rate) h0 hlt hr
    obtain ⟨e2,e3⟩:=acc_not (f:=aget V) (l:=l) (t:=t) (h:=h) (rate:=rate) (by rw [e];exact hr)
    rw [e,e2,e3]
    exact x_ret rfl ⟨_,_,rfl,hu.ext x05,SlE.nil _,x05⟩
 ·repeat (first|(refine st_fixV (d:=some 32) (.bool true) rfl (congrArg (fun b=>some (Value.bool (!b))) (decide_eq_false h0)) ?_)|(first|refine go1 ?_|refine zg (fun _ _=>?_)|refine zi (fun _ _=>?_)))
  obtain ⟨e1,e2,e3⟩:=acc_plain (f:=aget V) (rate:=rate) h0
  rw [e1,e2,e3]
  exact x_ret rfl ⟨_,_,rfl,hu.ext x02,SlE.nil _,x02⟩
end Go.Proofs.YtfebcajheojodaaGreatDoor
end
section
namespace Go.K
open Go Go.Proofs.YtfebcajheojodaaGreatDoor
abbrev zW0:PSm:=⟨[0],1,0,0,0,false,0⟩
abbrev zW1:PSm:=⟨[0],1,500,0,0,false,0⟩
def coinsW:List En:=coinsP [500] 1
theorem coinsW_eq:coinsP [500] (min [(500:Int)].length 8)=coinsW:=rfl
theorem wk0:accE (aget coinsW) [] (makeP coinsW zW0) 5 0=(11, -1):=by kernel_rfl
theorem wk1:accE (aget coinsW) [] (makeP coinsW zW1) 5 0=(0, -1):=by kernel_rfl
theorem wkf:(plainP (aget coinsW) [] (makeP coinsW zW1) 5).1=500:=by kernel_rfl
theorem wk1n:accIds (aget coinsW) [] (makeP coinsW zW1) 5 0= []∧accL (aget coinsW) [] (makeP coinsW zW1) 5 0= [newE (makeP coinsW zW1) 500]:=by
 obtain ⟨h1, -,h3⟩:=acc_new (l:= []) List.nodup_nil (show (accE (aget coinsW) [] (makeP coinsW zW1) 5 0).1=0 by rw [wk1])
 rw [wkf] at h3
 exact ⟨h1,h3⟩
theorem wk0n:accIds (aget coinsW) [] (makeP coinsW zW0) 5 0= []∧accL (aget coinsW) [] (makeP coinsW zW0) 5 0= []:=
 acc_not (by rw [wk0];show ¬(11:Int)=0;decide)
theorem coinsW_ok:CoinsOk coinsW 1:=coinsP_ok (vals:= [500]) (by intro a ha;simp at ha;subst ha;decide) 1
theorem flat_len' {V:List En} {h:Int}:∀{l:List Ent},(∀x∈l,x.tx.outs.length≤1000)→(l.flatMap (overX V h)).length≤1000*l.length
 | [],_=>by simp
 |x::l,hE=>by
  have h1:=flat_len' (V:=V) (h:=h) (l:=l) (fun y hy=>hE y (by simp [hy]))
  have h2:=hE x (by simp)
  have h3:(overX V h x).length≤x.tx.outs.length:=by
   unfold overX overK
   exact Nat.le_trans (List.length_filter_le _ _) (by simp)
  rw [List.flatMap_cons,List.length_append,List.length_cons]
  omega
theorem ent_outs {x:Ent} (h:EntOk x):x.tx.outs.length≤1000:=(chk_sm h.check).outs
theorem view_ok {V:List En} {l:List Ent} {n:Nat} {h B:Int} (hc:CoinsOk V n) (hn:n≤1000) (hE:∀x∈l,EntOk x) (hl:l.length≤1000) (hM:Money V l h B):(∀e∈overL V l h,0≤e.2.v∧e.2.v≤B)∧(∀e∈overL V l h,is32 e.1.i)∧(overL V l h).length≤1100000:=by
 have hp:=overL_pos (m:=V) (fun e he=>(hc.each e he).2.2.1) hE h
 refine ⟨fun e he=>⟨hp e he,?_⟩,fun e he=>?_,?_⟩
 ·exact Int.le_trans (Mon.le hp e he) hM.all
 ·rcases overL_mem.1 he with h5|⟨x,hx,j,hj,rfl, -⟩
  ·rw [(hc.each e h5).2.1];unfold is32;omega
  ·have:=ent_outs (hE x hx)
   show is32 ((j:Nat):Int)
   unfold is32;omega
 ·have h1:=hc.len
  have h2:=flat_len' (V:=V) (h:=h) (fun x hx=>ent_outs (hE x hx))
  unfold overL
  rw [List.length_append];omega
def monB (i:Nat):Int:=((2^i*5242800:Nat):Int)
theorem monB_succ (i:Nat):2*monB i=monB (i+1):=by
 unfold monB
 rw [Nat.pow_succ]
 generalize 2^i=q
 omega
theorem monB_le {i:Nat} (h:i≤17):0≤monB i∧monB i≤1000000000000:=by
 unfold monB
 have h1:2^i≤2^17:=Nat.pow_le_pow_right (by decide) h
 generalize 2^i=q at h1 ⊢
 omega
theorem money0 {V:List En} (hc:CoinsOk V 8) (h:Int):Money V [] h (monB 0):=by
 refine Money.nil ?_
 have h1:=(hc.tot (by decide)).2
 show tot V≤((2^0*5242800:Nat):Int)
 omega
theorem CoinsOk.more {V:List En} {n m:Nat} (h:CoinsOk V n) (hm:n≤m):CoinsOk V m:=⟨h.srt,Nat.le_trans h.len hm,h.each⟩
theorem Money.step {V:List En} {l:List Ent} {t:Tx} {z:PSm} {h rate:Int} {i:Nat} (hM:Money V l h (monB i)) (hc:CoinsOk V 8) (hn:(l.map (·.id)).Nodup) (hE:∀x∈l,EntOk x) (hl:l.length≤1000) (ht:t=makeP (overL V l h) z):Money V (accL (aget V) l t h rate) h (monB (i+1)):=by
 rw [←monB_succ]
 refine hM.acc hc.nodup (fun e he=>(hc.each e he).2.2.1) hn hE fun p hp=>?_
 subst ht
 exact (makeP_pts (view_ok hc (by decide) hE hl hM).2.1 z p hp).1
end Go.K
end
section
namespace Go.Proofs.YtfebcajheojodaaGreatDoor
open Go Go.K
attribute [local irreducible] regK codeK retK KOp.wp K.Spec u32 leS vnS str zero32 sha2 encT idT sizeT checkT grantB idN
theorem wrap16 {n:Int} (h:0≤n∧n≤65535):IntKind.i64.wrap n=n:=IntWalk.i64_in _ (by omega)
set_option maxHeartbeats 1000000 in
theorem coins17_spec {v : Value} {vals : List Int} (w : World) (hv : SlR u16R [] w v vals) (hr : ∀ a ∈ vals, 0 ≤ a ∧ a ≤ 65535) :
    K.Spec Tryz.prog F.kedgeref17_Coins [v] w fun r w' => SlE entE w' r (coinsP vals (min vals.length 8)) ∧ (∀ b ∈ blkOf r, w.heap.size ≤ b) ∧ Ext w w' := by
  refine s_kedgeref17_Coins rfl ?_
  unfold k_kedgeref17_Coins
  refine oy ?_
  repeat' (first|(refine zG (d := some 8) (E := u16R) (M := []) rfl (SlR.ext hv (by exact fx)) ?_)|(refine c_loopV (fun (p : Nat × Value) w' => Ext w w' ∧ p.1 ≤ vals.length ∧ p.1 ≤ 8 ∧ SlE entE w' p.2 (coinsP vals p.1) ∧ (∀ b ∈ blkOf p.2, w.heap.size ≤ b)) (fun p => [(0, v), (3, p.2), (4, .int .i64 p.1)]) (fun p => 8 - p.1) (0, .slice none 0 0) ⟨rfl, rfl, rfl, trivial⟩ ⟨Ext.refl _, by simp, by simp, SlE.nil _, by simp [blkOf]⟩ ?_; rintro ⟨i, vo⟩ ρ w1 ⟨x1, hi1, hi2, ho, hb⟩; simp only at hi1 hi2 ho hb; dsimp only; have hok := coinsP_ok hr i; have hol := hok.len)|(have hil : i < vals.length := (by omega); have hri := hr _ (List.getElem_mem hil); refine st_elemR (d := some 18) (E := u16R) (M := []) rfl rfl (n := i) (l := vals) (SlR.ext hv (by exact fx)) rfl hil (fun ad cs r2 he => ?_); obtain ⟨rfl, -⟩ := he)|(refine st_fixV (d := some 20) (.int .i64 vals[i]) rfl (congrArg (fun n => some (Value.int .i64 n)) (wrap16 hri)) ?_)|(refine st_mul (d := some 21) rfl rfl (by omega) ?_)|(refine st_build (d := some 23) (cs := (coinP vals[i]).cs) rfl ?_)|(refine zE (d' := 5) (fun _=>rfl) rfl rfl rfl (fun b5 w5 x5 a5 (r5 : Row w5 ⟨b5, 0, none⟩ (coinP vals[i]).cs) hb5=>?_))|(refine st_fixV (d := some 27) (.int .i64 ((300 + i : Nat) : Int)) rfl (congrArg (fun n => some (Value.int .i64 n)) (IntWalk.i64_in _ (by omega))) ?_)|(refine zC (d := some 28) rfl (idn_spec (300 + i) _) ?_; rintro _ w6 ⟨rfl, x6⟩)|(refine st_build (d := some 29) (cs := (⟨idN (300 + i), 0⟩ : Pt).cs) rfl ?_)|(refine zC (d := some 31) rfl (rput10_spec ⟨idN (300 + i), 0⟩ (coinP vals[i]) _ (SlE.ext (w := w1) (by exact fx) ho) (by omega) (hok.mon (by omega))) ?_; rintro _ w7 ⟨vl, rfl, hl7, hb7, x7⟩; have hb7 := hb7.old; have s17 := Ext.size (show Ext w _ by exact fx))|(first|refine go1 ?_|refine zg (fun _ _=>?_)|refine zi (fun _ _=>?_))|refine zJ rfl (fun h => ?_) (fun h => ?_)|refine zL rfl (fun h => ?_) (fun h => ?_)|refine zB ?_ ?_)
  all_goals first
    | exact ⟨(i + 1, vl), ⟨rfl, rfl, rfl, trivial⟩, ⟨by exact fx, by simp; omega, by simp; omega, by rw [coinsP, List.getD_eq_getElem?_getD, List.getElem?_eq_getElem hil]; exact hl7, fun b h7 => (hb7 b h7).elim (hb b) (fun h8 => Nat.le_trans (Ext.size (show Ext w _ by exact fx)) h8)⟩, by simp; omega⟩
    | (have e : min vals.length 8 = i := by omega
       rw [e]
       exact x_ret rfl ⟨ho, hb, x1⟩)
    | trace_state
end Go.Proofs.YtfebcajheojodaaGreatDoor
end
