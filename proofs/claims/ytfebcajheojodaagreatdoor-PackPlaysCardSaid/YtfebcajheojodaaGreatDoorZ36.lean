/- Contracts: the document's answer of limits. Contracts: wheth -/
import Derived.Test.YtfebcajheojodaaGreatDoorZ35
set_option linter.unusedVariables false
set_option linter.unusedSimpArgs false
namespace Go.Proofs.YtfebcajheojodaaGreatDoor
section
open Go Go.K
attribute [local irreducible] aO aU bQ KOp.wp K.Spec u32 leS vnS str aV cU cD idT aR aG aX idN bD cF bT bH cA cO aZ bA aM iC dT jW dN
theorem aSm {v:Value} {m:List Bool} (w:World) (hm:SlE dJ w v m) (hn:m.length≤1000000):K.Spec Tryz.prog F.kedgeref15_count [v] w fun r w'=>r=.int .i64 (rY m)∧Ext w w':=by
 refine aG0 rfl ?_
 unfold tN
 refine oy ?_
 repeat' (first|refine go1 ?_|refine zg λ_ _=>?_|refine zi λ_ _=>?_|refine zL rfl (fun h=>?_) (fun h=>?_)|refine zM rfl (fun h=>?_) (fun h=>?_)|refine bY rfl (SlE.ext (w:=w) (by exact fx) hm) ?_|(refine aQ (fun (i:Nat) w'=>Ext w w'∧i≤m.length) (fun i=> [(0,v),(3,.int .i64 (rY (m.take i))),(4,.int .i64 i)]) (fun i=>m.length - i) 0 ⟨rfl,rfl,rfl,trivial⟩ ⟨Ext.refl _,Nat.zero_le _⟩ ?_;rintro i ρ w3 ⟨x3,hi3⟩;have hcb:=aNj (m.take i);have hcl:(m.take i).length≤m.length:=(by rw [List.length_take];omega))|(have hil:i<m.length:=(by omega);refine aT (d:=some 13) (E:=dJ) rfl rfl (n:=i) (l:=m) (hm.ext x3) rfl hil (fun ad r5=>?_);have r5:Row w3 ad [Value.bool m[i]]:=r5))
 ·refine ⟨i+1,⟨rfl,?_,rfl,trivial⟩,⟨by exact fx,by omega⟩,by omega⟩
  show _=Value.int .i64 (rY (m.take (i+1)))
  rw [List.take_succ_eq_append_getElem hil,aK5,if_pos h];rfl
 ·refine ⟨i+1,⟨rfl,?_,rfl,trivial⟩,⟨by exact fx,by omega⟩,by omega⟩
  show _=Value.int .i64 (rY (m.take (i+1)))
  rw [List.take_succ_eq_append_getElem hil,aK5,if_neg (by simpa using h)]
  exact congrArg (Value.int .i64) (by omega)
 ·rw [tLe (by omega)]
  exact aC rfl ⟨rfl,by exact fx⟩
set_option maxHeartbeats 1000000 in
theorem aNr {M:List Nat} {v:Value} {cs:List Value} {l:List Ent} {t:Tx} (w:World) (hl:SlR bF M w v l) (ht:txR.rel M w cs t) (hs:t.Sm) (hn:l.length≤1000) (hE:∀x∈l,EntOk x) (hnd:(l.map (·.id)).Nodup):
  K.Spec Tryz.prog F.kedgeref15_Fits [v,.agg cs.toArray] w fun r w'=>r=.int .i64 (dF l t)∧Ext w w':=by
 have ht0:=ht
 obtain ⟨iv,ov,rfl, -⟩:=ht
 have hgood:∀x∈l,bX x.fee=true:=fun x hx=>(hE x hx).fee
 have hsz:∀x∈l,0≤x.size∧x.size≤(100000000000:Nat):=fun x hx=>(aD7 (hE x hx)).2
 have hsm:∀x∈l,x.tx.Sm:=fun x hx=>fE (hE x hx).check
 have hla:=aGu l t
 by_cases hc:aG t=0
 ·have hz:=bI hs hc
  have hz2:=hz.size
  have hca:=aNj (aZ l t)
  have hsa:=aGw (l:=l) hsz (aZ l t)
  have hfit:dF l t=if wiP l (aM l (aZ l t)) (aR t:Nat) 25 101000=false then 14 else if hoP l (aM l (aZ l t)) (aR t:Nat) 25 101000 then 0
   else if ((aM l (aZ l t)).length:Int)=1∧((aR t:Nat):Int)≤10000∧hoP l (aM l (aZ l t)) (aR t:Nat) 26 111000=true then 0 else 14:=by
   rw [dF,if_neg (by simpa using hc)]
  rw [aO0 hnd hla,yD l _ hla] at hfit
  refine uT rfl ?_
  unfold oP
  refine oy ?_
  repeat' (first|refine go1 ?_|refine zg λ_ _=>?_|refine zi λ_ _=>?_|refine zN (p:=aG t=0) rfl (fun h=>absurd hc h) (fun h=>?_)|refine zL rfl (fun h=>?_) (fun h=>?_)|refine zJ rfl (fun h=>?_) (fun h=>?_)|refine zD rfl rfl (fun bp wp xp ap (rp:Row wp ⟨bp,0,none⟩ (aK t iv ov)) hp0=>?_)|(refine zC rfl (fC (M:=M) (cs:=aK t iv ov) (t:=t) _ (R.ext ht0 (by exact fx)) hs) ?_;rintro _ w3 ⟨rfl,x3⟩)|(refine zC rfl (pT (M:=M) (cs:=aK t iv ov) (t:=t) _ (R.ext ht0 (by exact fx)) hz) ?_;rintro _ w4 ⟨rfl,x4⟩)|(refine zC rfl (aGy (M:=M) (l:=l) (cs:=aK t iv ov) (t:=t) _ (SlR.ext hl (by exact fx)) (R.ext ht0 (by exact fx)) hs hn hsm) ?_;rintro va w5 ⟨sa,x5, -⟩)|(refine zC rfl (aSm (m:=aZ l t) _ (SlE.ext (by exact fx) sa) (by omega)) ?_;rintro _ w6 ⟨rfl,x6⟩)|(refine zC rfl (aC2 (M:=M) (l:=l) (m:=aZ l t) _ (SlR.ext hl (by exact fx)) (SlE.ext (by exact fx) sa) hla hn hgood hsz) ?_;rintro _ w7 ⟨rfl,x7⟩))
  ·have e:dF l t=14:=by rw [hfit,dFa (by omega),Bool.false_and,if_pos rfl]
   rw [e]
   exact aC rfl ⟨rfl,by exact fx⟩
  ·have e:dF l t=14:=by rw [hfit,dFa (show ¬jW l (aZ l t)+((aR t:Nat):Int)≤101000 by omega),Bool.and_false,if_pos rfl]
   rw [e]
   exact aC rfl ⟨rfl,by exact fx⟩
  ·have x07:Ext w w7:=by exact fx
   have sa7:SlE dJ w7 va (aZ l t):=SlE.ext (x6.trans x7) sa
   have hl7:=SlR.ext hl x07
   rw [dTr (by omega),dTr (show jW l (aZ l t)+((aR t:Nat):Int)≤101000 by omega),Bool.and_true,if_neg (by simp)] at hfit
   clear ht0 hl sa xp x3 x4 x5 x6 x7 rp ap
   have hB:∀s,l.length=(bA l s).length:=aAi l
   have hb25:∀s,wiP l (aM l (bA l s)) (aR t:Nat) 25 101000=(decide (rY (bA l s)+1≤25)&&decide (jW l (bA l s)+((aR t:Nat):Int)≤101000)):=fun s=>aO0 hnd (hB s) _ _ _
   have hb26:∀s,wiP l (aM l (bA l s)) (aR t:Nat) 26 111000=(decide (rY (bA l s)+1≤26)&&decide (jW l (bA l s)+((aR t:Nat):Int)≤111000)):=fun s=>aO0 hnd (hB s) _ _ _
   repeat' (first|(refine rJ (a:=.seq (.reg false (.cons ⟨some 70,_,_⟩ _)) _) (fun (b:Bool) w'=>Ext w12 w'∧b=(all&&wiP l (aM l (bA l l[i].id)) (aR t:Nat) 25 101000)) (fun b=> [(0,v),(6,.int .i64 (aR t:Nat)),(7,va),(8,.int .i64 (rY (aZ l t))),(11,.bool b),(12,.int .i64 i),(14,.int .i64 (rY (bA l l[i].id))),(16,.int .i64 (jW l (bA l l[i].id)))]) ?_ ?_;rotate_left;(rintro b ρ2 w13 ⟨x13,hb⟩;try dsimp only);rotate_left)|refine go1 ?_|refine zg λ_ _=>?_|refine zi λ_ _=>?_|(refine aQ (fun (q:Nat × Bool) w'=>Ext w7 w'∧q.1≤l.length∧(q.2=true↔∀j (h:j<l.length),j<q.1→(aZ l t)[j]'(by omega)=true→wiP l (aM l (bA l l[j].id)) (aR t:Nat) 25 101000=true)∧∀j (h:j<l.length),j<q.1→(aZ l t)[j]'(by omega)=true→rY (aZ l t)=1→((aR t:Nat):Int)≤10000→wiP l (aM l (bA l l[j].id)) (aR t:Nat) 26 111000=false) (fun q=> [(0,v),(6,.int .i64 (aR t:Nat)),(7,va),(8,.int .i64 (rY (aZ l t))),(11,.bool q.2),(12,.int .i64 q.1)]) (fun q=>l.length - q.1) (0,true) ⟨rfl,rfl,rfl,rfl,rfl,rfl,trivial⟩ ⟨Ext.refl _,Nat.zero_le _,by simp,by simp⟩ ?_;rintro ⟨i,all⟩ ρ w8 ⟨x8,hi,ha,hk⟩;simp only at hi ha hk;dsimp only)|refine zL rfl (fun h=>?_) (fun h=>?_)|refine zG (E:=bF) (M:=M) (l:=l) rfl (SlR.ext hl7 (by exact fx)) ?_|(have hil:i<l.length:=(by omega);refine aT (d:=some 52) (E:=dJ) rfl rfl (n:=i) (l:=aZ l t) (SlE.ext (by exact fx) sa7) rfl (by omega) (fun ad r5=>?_);have r5:Row w8 ad [Value.bool ((aZ l t)[i]'(by omega))]:=r5)|refine zM rfl (fun ht=>?_) (fun ht=>?_)|(refine aL (d:=some 58) (E:=bF) (M:=M) rfl rfl (n:=i) (l:=l) (SlR.ext hl7 (by exact fx)) rfl hil (fun ad cs r6 he=>?_);obtain ⟨iv9,ov9,rfl, -⟩:=he)|(refine zC rfl (aOb (M:=M) (l:=l) l[i].id _ (SlR.ext hl7 (by exact fx)) hn hsm) ?_;rintro vb w10 ⟨sb,x10, -⟩)|(refine zC rfl (aSm (m:=bA l l[i].id) _ (SlE.ext (by exact fx) sb) (by have:=hB l[i].id;omega)) ?_;rintro _ w11 ⟨rfl,x11⟩)|(refine zC rfl (aC2 (M:=M) (l:=l) (m:=bA l l[i].id) _ (SlR.ext hl7 (by exact fx)) (SlE.ext (by exact fx) sb) (hB _) hn hgood hsz) ?_;rintro _ w12 ⟨rfl,x12⟩;have hcb:=aNj (bA l l[i].id);have hsb:=aGw (l:=l) hsz (bA l l[i].id);have hlb:=hB l[i].id)|refine zJ rfl (fun h=>?_) (fun h=>?_))
   ·refine ⟨(i+1,all),⟨rfl,rfl,rfl,rfl,rfl,rfl,trivial⟩,⟨by exact fx,by simp only;omega,?_,?_⟩,by simp only;omega⟩
    ·rw [ha]
     exact ⟨fun h1 j hj hji hA=>by
      by_cases e:j=i
      ·subst e;rw [hA] at ht;cases ht
      ·exact h1 j hj (by simp only at hji;omega) hA,fun h1 j hj hji hA=>h1 j hj (by simp only;omega) hA⟩
    ·intro j hj hji hA hc1 hc2
     by_cases e:j=i
     ·subst e;rw [hA] at ht;cases ht
     ·exact hk j hj (by simp only at hji;omega) hA hc1 hc2
   ·exact ⟨false,⟨rfl,rfl,rfl,rfl,rfl,rfl,rfl,rfl,trivial⟩,by exact fx,by rw [hb25,dFa (show ¬rY (bA l l[i].id)+1≤25 by omega),Bool.false_and,Bool.and_false]⟩
   ·exact ⟨false,⟨rfl,rfl,rfl,rfl,rfl,rfl,rfl,rfl,trivial⟩,by exact fx,by rw [hb25,dFa (show ¬jW l (bA l l[i].id)+((aR t:Nat):Int)≤101000 by omega),Bool.and_false,Bool.and_false]⟩
   ·exact ⟨all,⟨rfl,rfl,rfl,rfl,rfl,rfl,rfl,rfl,trivial⟩,by exact fx,by rw [hb25,dTr (show rY (bA l l[i].id)+1≤25 by omega),dTr (show jW l (bA l l[i].id)+((aR t:Nat):Int)≤101000 by omega),Bool.and_true,Bool.and_true]⟩
   ·have hin:l[i].id∈aM l (aZ l t):=yE hil (by omega) (by simpa using ht)
    have h1:(aM l (aZ l t)).length=1:=by have:=yD l _ hla;omega
    have h2:hoP l (aM l (aZ l t)) (aR t:Nat) 26 111000=true:=by
     unfold hoP
     rw [bKl h1 hin,hb26,dTr (by assumption),dTr (show jW l (bA l l[i].id)+((aR t:Nat):Int)≤111000 by assumption)]
     rfl
    have e:dF l t=0:=by
     rw [hfit]
     split
     ·rfl
     ·rw [if_pos ⟨by assumption,by assumption,h2⟩]
    rw [e]
    exact aC rfl ⟨rfl,Ext.trans x07 (by exact fx)⟩
   iterate 4
    ·refine ⟨(i+1,b),⟨rfl,rfl,rfl,rfl,rfl,rfl,trivial⟩,⟨by exact fx,by simp only;omega,?_,?_⟩,by simp only;omega⟩
     ·simp only
      rw [hb,Bool.and_eq_true,ha]
      constructor
      ·rintro ⟨h1,h2⟩ j hj hji hA
       by_cases e:j=i
       ·subst e;exact h2
       ·exact h1 j hj (by omega) hA
      ·intro h1
       exact ⟨fun j hj hji hA=>h1 j hj (by omega) hA,h1 i hil (by omega) (by simpa using ht)⟩
     ·simp only
      intro j hj hji hA hc1 hc2
      by_cases e:j=i
      ·subst e
       first
        |exact absurd hc1 (by assumption)
        |exact absurd hc2 (by assumption)
        |rw [hb26,dFa (by assumption),Bool.false_and]
        |rw [hb26,dFa (show ¬jW l (bA l l[j].id)+((aR t:Nat):Int)≤111000 by assumption),Bool.and_false]
      ·exact hk j hj (by omega) hA hc1 hc2
   ·have e:dF l t=0:=by
     rw [hfit,if_pos]
     unfold hoP
     rw [List.all_eq_true]
     intro x hx
     obtain ⟨j,h1,h2,h3,rfl⟩:=aEl hx
     exact ha.1 ‹_› j h1 (by omega) h3
    rw [e]
    exact aC rfl ⟨rfl,Ext.trans x07 (by exact fx)⟩
   ·have e:dF l t=14:=by
     have hnot:¬(hoP l (aM l (aZ l t)) (aR t:Nat) 25 101000=true):=fun h1=>by
      have:all=true:=ha.2 fun j hj _ hA=>List.all_eq_true.1 h1 _ (yE hj (by omega) hA)
      simp_all
     rw [hfit,if_neg hnot,if_neg]
     rintro ⟨c1,c2,c3⟩
     have hlen:=yD l _ hla
     have h1:0<(aM l (aZ l t)).length:=by omega
     obtain ⟨j,j1,j2,j3,j4⟩:=aEl (gMe h1)
     have h4:=hk j j1 (by omega) j3 c1 c2
     have h5:=List.all_eq_true.1 c3 _ (gMe h1)
     rw [←j4,h4] at h5
     cases h5
    rw [e]
    exact aC rfl ⟨rfl,Ext.trans x07 (by exact fx)⟩
 ·have hfit:dF l t=aG t:=by rw [dF,if_pos hc]
  rw [hfit]
  refine uT rfl ?_
  unfold oP
  refine oy ?_
  repeat' (first|refine go1 ?_|refine zg λ_ _=>?_|refine zi λ_ _=>?_|refine zN rfl (fun h=>?_) (fun h=>absurd h hc)|refine zD rfl rfl (fun bp wp xp ap (rp:Row wp ⟨bp,0,none⟩ (aK t iv ov)) hp0=>?_)|(refine zC rfl (fC (M:=M) (cs:=aK t iv ov) (t:=t) _ (R.ext ht0 (by exact fx)) hs) ?_;rintro _ w3 ⟨rfl,x3⟩))
  exact aC rfl ⟨rfl,by exact fx⟩
end
section
open Go Go.K
theorem bHh {V:List En} {l:List Ent} {h:Int} (hVk:(V.map (·.1)).Nodup) (hnd:(l.map (·.id)).Nodup) (hi:∀e∈bV V l h,dV e.1.i) (hE:∀x∈l,EntOk x) (hV:∀e∈V,e.2.s.size≤1000000):∀e∈bV V l h,e.2.s.size≤1000000:=fun e he=>by
 have h1:=sU (p:=e.1) (c:=e.2) (aAu hVk hnd h) he
 rw [xZ hVk hnd (hi e he).1] at h1
 unfold dP at h1
 cases hf:aS V e.1 with
 |some c=>
  rw [hf] at h1
  have:c=e.2:=by simpa using h1
  rw [←this]
  exact hV _ (tV hf)
 |none=>
  rw [hf] at h1
  exact aYi hE (by simpa using h1)
attribute [local irreducible] aO aU bQ KOp.wp K.Spec u32 leS vnS str aV cB bS cS gG kT cW gL gN aG aX cD idT aR inE eY fL bV dP aY dA cH dF evL aM cO dC
set_option maxHeartbeats 4000000 in
theorem aE4 {M:List Nat} {v u:Value} {cs:List Value} {V:List En} {l:List Ent} {t:Tx} (h rate:Int) (w:World) (hv:SlE gC w v V) (hu:SlR bF M w u l) (ht:txR.rel M w cs t) (hs:t.Sm) (hV:V.length≤1000) (hl:l.length≤1000) (hE:∀x∈l,EntOk x) (hVk:(V.map (·.1)).Nodup) (hnd:(l.map (·.id)).Nodup) (hon:(bV V l h).length≤100000) (hos:∀e∈bV V l h,e.2.s.size≤1000000) (hf:∀x∈l,x.fee≤1000000000000) (hid:∀x∈l,x.id.size=32) (hM:∀b∈M,b<w.heap.size):
  K.Spec Tryz.prog F.kedgeref17_Accept [v,u,.agg cs.toArray,.int .i64 h,.int .i64 rate] w fun r w'=>∃gl il,r=.tuple #[gl,il,.int .i64 (eO (aS V) l t h rate).1,.int .i64 (eO (aS V) l t h rate).2]∧SlR bF M w' gl (kD (aS V) l t h rate)∧SlE bO w' il (eD (aS V) l t h rate)∧Ext w w':=by
 have ht0:=ht
 obtain ⟨iv,ov,rfl,h1,h2,h3,h4⟩:=ht
 refine aEu rfl ?_
 unfold rO
 refine oy ?_
 repeat (first|refine zD (d:=some 7) (cs:=aK t iv ov) rfl rfl (fun bp wp xp ap (rp:Row wp ⟨bp,0,none⟩ (aK t iv ov)) hp0=>?_)|refine go1 ?_|refine zg λ_ _=>?_|refine zi λ_ _=>?_)
 refine zC (d:=some 27) rfl (aIy (M:=M) (t:=t) (cs:=aK t iv ov) (V:=V) (l:=l) h _ (hv.ext xp) (hu.ext xp) (R.ext ht0 xp) hs hV hl hE hVk hnd hon hos) ?_
 rintro _ w2 ⟨rfl,x2⟩
 have x02:=xp.trans x2
 have r2:=Row.ext x2 rp
 unfold bB8
 by_cases h0:(aY (aS V) l t h).2.1=0
 ·obtain ⟨hc,hg,hh,hgd⟩:=eI h0
  have hz:=bI hs hc
  have hsz:=hz.sizeM
  have hgd':=(bG _).1 hgd
  repeat (first|refine aJ (d:=some 32) (.bool false) rfl (congrArg (fun b=>some (Value.bool (!b))) (dTr h0)) ?_|refine go1 ?_|refine zg λ_ _=>?_|refine zi λ_ _=>?_)
  refine zC (d:=some 37) rfl (pT (M:=M) (t:=t) (cs:=aK t iv ov) _ (R.ext ht0 x02) hz) ?_
  rintro _ w3 ⟨rfl,x3⟩
  repeat (first|refine go1 ?_|refine zg λ_ _=>?_|refine zi λ_ _=>?_)
  refine zC (d:=some 40) rfl (aIu rate (aR t) hsz.2 _) ?_
  rintro _ w4 ⟨rfl,x4⟩
  have x24:=x3.trans x4
  have r4:=Row.ext x24 r2
  have x04:=x02.trans x24
  by_cases hlt:(aY (aS V) l t h).1<dA rate (aR t)
  ·repeat (first|refine aJ (d:=some 43) (.bool true) rfl (congrArg (fun b=>some (Value.bool b)) (dTr hlt)) ?_|refine go1 ?_|refine zg λ_ _=>?_|refine zi λ_ _=>?_)
   have e:=aVp (f:=aS V) (rate:=rate) h0 hlt
   obtain ⟨e2,e3⟩:=nO (f:=aS V) (l:=l) (t:=t) (h:=h) (rate:=rate) (by rw [e];exact show ¬(11:Int)=0 by decide)
   rw [e,e2,e3]
   exact aC rfl ⟨_,_,rfl,hu.ext x04,SlE.nil _,x04⟩
  ·repeat (first|refine aJ (d:=some 43) (.bool false) rfl (congrArg (fun b=>some (Value.bool b)) (dFa hlt)) ?_|refine go1 ?_|refine zg λ_ _=>?_|refine zi λ_ _=>?_)
   refine zC (d:=some 48) rfl (aV5 (M:=M) (t:=t) (cs:=aK t iv ov) (l:=l) _ _ (hu.ext x04) (R.ext ht0 x04) hs hl hE hf hnd hid) ?_
   rintro _ w5 ⟨rfl,x5⟩
   have x05:=x04.trans x5
   have r5:=Row.ext x5 r4
   by_cases hr:cH l t (aY (aS V) l t h).1=0
   ·repeat (first|refine aJ (d:=some 50) (.bool false) rfl (congrArg (fun b=>some (Value.bool (!b))) (dTr hr)) ?_|refine go1 ?_|refine zg λ_ _=>?_|refine zi λ_ _=>?_)
    refine zC (d:=some 55) rfl (aQg (M:=M) (t:=t) (cs:=aK t iv ov) (l:=l) _ (hu.ext x05) (R.ext ht0 x05) hs.ins hl (fun x hx=>fE (hE x hx).check)) ?_
    rintro ev w6 ⟨hev,x6, -⟩
    have x06:=x05.trans x6
    have r6:=Row.ext x6 r5
    repeat (first|refine go1 ?_|refine zg λ_ _=>?_|refine zi λ_ _=>?_)
    refine zC (d:=some 58) rfl (aOr (M:=M) (l:=l) (m:=evL l t) _ (hu.ext x06) hev jV (by omega)) ?_
    rintro lv w7 ⟨olf,x7⟩
    have x07:=x06.trans x7
    have r7:=Row.ext x7 r6
    have hlf:=olf.slB (fun y hy=>nLt (hM y hy) x06.size)
    have hsub:=gR l (evL l t)
    have hEl:∀x∈dC l (evL l t),EntOk x:=fun x hx=>hE x (hsub.subset hx)
    have hndl:((dC l (evL l t)).map (·.id)).Nodup:=List.Nodup.sublist (List.Sublist.map _ hsub) hnd
    have hll:(dC l (evL l t)).length≤l.length:=hsub.length_le
    have er:qI l t=dC l (evL l t):=by unfold qI;exact aAr _ _ hnd
    repeat (first|refine go1 ?_|refine zg λ_ _=>?_|refine zi λ_ _=>?_)
    refine zC (d:=some 61) rfl (aNr (M:=M) (t:=t) (cs:=aK t iv ov) (l:=dC l (evL l t)) _ hlf (R.ext ht0 x07) hs (by omega) hEl hndl) ?_
    rintro _ w8 ⟨rfl,x8⟩
    have x08:=x07.trans x8
    have r8:=Row.ext x8 r7
    by_cases hfi:dF (dC l (evL l t)) t=0
    ·repeat (first|refine aJ (d:=some 63) (.bool false) rfl (congrArg (fun b=>some (Value.bool (!b))) (dTr hfi)) ?_|refine go1 ?_|refine zg λ_ _=>?_|refine zi λ_ _=>?_)
     refine zC (d:=some 68) rfl (bJr (M:=M) (l:=l) (m:=evL l t) _ (hu.ext x08) (hev.ext (x7.trans x8)) jV (by omega)) ?_
     rintro il w9 ⟨oil,x9⟩
     have r9:=Row.ext x9 r8
     repeat (first|refine go1 ?_|refine zg λ_ _=>?_|refine zi λ_ _=>?_)
     refine zC (d:=some 73) rfl (aKj (M:=M) (t:=t) (cs:=aK t iv ov) (l:=dC l (evL l t)) (aY (aS V) l t h).1 _ (hlf.ext (x8.trans x9)) (R.ext ht0 (x08.trans x9)) hs (by unfold lJ;omega) (by omega) hEl (fun y hy=>nLt (hM y hy) (x08.trans x9).size)) ?_
     rintro _ w10 ⟨gu,rfl,hgu,x10⟩
     obtain ⟨e1,e2,e3⟩:=bBh (f:=aS V) (rate:=rate) h0 hlt hr (by rw [er];exact hfi)
     rw [e1,e2,e3,er]
     repeat (first|refine go1 ?_|refine zg λ_ _=>?_|refine zi λ_ _=>?_)
     exact aC rfl ⟨_,_,rfl,hgu,oil.sl.ext x10,(x08.trans x9).trans x10⟩
    ·repeat (first|refine aJ (d:=some 63) (.bool true) rfl (congrArg (fun b=>some (Value.bool (!b))) (dFa hfi)) ?_|refine go1 ?_|refine zg λ_ _=>?_|refine zi λ_ _=>?_)
     have e:=aOn (f:=aS V) (rate:=rate) h0 hlt hr (by rw [er];exact hfi)
     obtain ⟨e2,e3⟩:=nO (f:=aS V) (l:=l) (t:=t) (h:=h) (rate:=rate) (by rw [e,er];exact hfi)
     rw [e,e2,e3,er]
     exact aC rfl ⟨_,_,rfl,hu.ext x08,SlE.nil _,x08⟩
   ·repeat (first|refine aJ (d:=some 50) (.bool true) rfl (congrArg (fun b=>some (Value.bool (!b))) (dFa hr)) ?_|refine go1 ?_|refine zg λ_ _=>?_|refine zi λ_ _=>?_)
    have e:=aLb (f:=aS V) (rate:=rate) h0 hlt hr
    obtain ⟨e2,e3⟩:=nO (f:=aS V) (l:=l) (t:=t) (h:=h) (rate:=rate) (by rw [e];exact hr)
    rw [e,e2,e3]
    exact aC rfl ⟨_,_,rfl,hu.ext x05,SlE.nil _,x05⟩
 ·repeat (first|refine aJ (d:=some 32) (.bool true) rfl (congrArg (fun b=>some (Value.bool (!b))) (dFa h0)) ?_|refine go1 ?_|refine zg λ_ _=>?_|refine zi λ_ _=>?_)
  obtain ⟨e1,e2,e3⟩:=aK1 (f:=aS V) (rate:=rate) h0
  rw [e1,e2,e3]
  exact aC rfl ⟨_,_,rfl,hu.ext x02,SlE.nil _,x02⟩
end
end Go.Proofs.YtfebcajheojodaaGreatDoor
namespace Go.K
section
open Go Go.Proofs.YtfebcajheojodaaGreatDoor
theorem aJ3 {l:List Ent} {t:Tx} {f:Int} (hn:(l.map (·.id)).Nodup) (hh:dO l (idT t)=false):((l++ [jY t f]).map (·.id)).Nodup:=by
 rw [List.map_append,List.nodup_append]
 refine ⟨hn,by simp,fun a ha b hb=>?_⟩
 simp only [List.map_cons,List.map_nil,List.mem_singleton] at hb
 subst hb
 rintro rfl
 obtain ⟨x,hx,e⟩:=List.mem_map.1 ha
 have:dO l (idT t)=true:=aD2.2 ⟨x,hx,e⟩
 rw [hh] at this;cases this
theorem bFn {l:List Ent} {x:Ent} {m:List Bool} (hn:((l++ [x]).map (·.id)).Nodup) (hm:m.length=l.length+1):aM (l++ [x]) m= [x.id]↔∀j,∀hj:j<m.length,m[j]=decide (j=l.length):=by
 constructor
 ·intro h j hj
  have hjl:j<(l++ [x]).length:=by simp;omega
  cases hb:m[j] with
  |true=>
   have h1:=yE hjl hj hb
   rw [h,List.mem_singleton] at h1
   have h2:(l++ [x])[l.length]? =some x:=by simp
   obtain ⟨hl,h3⟩:=List.getElem?_eq_some_iff.1 h2
   have h4:((l++ [x]).map (·.id))[j]'(by simpa using hjl)=((l++ [x]).map (·.id))[l.length]'(by simp):=by
    rw [List.getElem_map,List.getElem_map,h1,h3]
   have h5:=(List.getElem_inj hn).1 h4
   exact (dTr h5).symm
  |false=>
   symm
   refine dFa fun e=>?_
   subst e
   have h1:x.id∈aM (l++ [x]) m:=by rw [h];simp
   obtain ⟨i,h2,h3,h4,h5⟩:=aEl h1
   have h6:(l++ [x])[l.length]? =some x:=by simp
   obtain ⟨hl,h7⟩:=List.getElem?_eq_some_iff.1 h6
   have h8:((l++ [x]).map (·.id))[i]'(by simpa using h2)=((l++ [x]).map (·.id))[l.length]'(by simp):=by
    rw [List.getElem_map,List.getElem_map,h5,h7]
   have h9:=(List.getElem_inj hn).1 h8
   subst h9
   rw [hb] at h4;cases h4
 ·intro h
  have h1:=aXf (l:=l++ [x]) (m:=m) (i:=l.length) (by simp) (fun j hj=>by
   have hj':j<m.length:=by simp at hj;omega
   rw [List.getElem?_eq_getElem hj',h j hj']
   simp)
  rw [h1];simp
theorem bEl {l:List Ent} (hE:∀x∈l,x.id.size=32):dO l ⟨#[]⟩=false:=by
 cases h:dO l ⟨#[]⟩ with
 |false=>rfl
 |true=>
  obtain ⟨x,hx,e⟩:=aD2.1 h
  have:=hE x hx
  rw [e] at this
  exact absurd this (by decide)
theorem bJb {l:List Ent} {s:ByteArray}:0≤bH l s↔dO l s=true:=by
 rw [show dO l s=decide (bH l s≥0) from bEh.symm,decide_eq_true_iff]
theorem aZn {f:Pt→Option Cn} {l:List Ent} {a b:Tx} {h rate:Int} (hn:(l.map (·.id)).Nodup):(iA f l a b h rate).length≤l.length+2∧(fB f l a b h rate).length≤l.length+1:=by
 by_cases h1:dO l (idS a)=true
 ·obtain ⟨-,e2,e3⟩:=zX (f:=f) (b:=b) (h:=h) (rate:=rate) h1
  rw [e2,e3]
  by_cases h0:(eO f l b h rate).1=0
  ·have:=bC2 (f:=f) (t:=b) (h:=h) (rate:=rate) hn h0;omega
  ·rw [(nO h0).1,(nO h0).2];simp
 ·have e:fB f l a b h rate= []:=by unfold fB;rw [if_neg h1]
  rw [e]
  refine ⟨?_,by simp⟩
  unfold iA
  rw [if_neg h1]
  split
  ·unfold bZ;simp
  ·omega
end
end Go.K
namespace Go.Proofs.YtfebcajheojodaaGreatDoor
section
open Go Go.K
theorem aIt {V:List En} {l:List Ent} {h:Int} (hV:V.length≤1000) (hl:l.length≤95) (hE:∀x∈l,EntOk x) (hVk:(V.map (·.1)).Nodup) (hnd:(l.map (·.id)).Nodup) (hVi:∀e∈V,dV e.1.i) (hVs:∀e∈V,e.2.s.size≤1000000):(bV V l h).length≤100000∧∀e∈bV V l h,e.2.s.size≤1000000:=by
 have ho:∀x∈l,x.tx.outs.length≤1000:=fun x hx=>(fE (hE x hx).check).outs
 refine ⟨?_,bHh hVk hnd (fun e he=>?_) hE hVs⟩
 ·have h1:=aKa (V:=V) (h:=h) ho
  unfold bV
  rw [List.length_append];omega
 ·rcases mY.1 he with he|⟨x,hx,j,hj,rfl, -⟩
  ·exact hVi e he
  ·have:=ho x hx
   show dV ((j:Nat):Int)
   unfold dV;omega
attribute [local irreducible] aO aU bQ KOp.wp K.Spec u32 leS vnS str aV cB bS cS gG kT cW gL gN aG aX cD idT aR inE eY fL bV dP aY dA cH dF evL bC aM cO dC bB
set_option maxHeartbeats 4000000 in
theorem aJg {M:List Nat} {v u:Value} {cs:List Value} {V:List En} {l:List Ent} {t:Tx} (h:Int) (w:World) (hv:SlE gC w v V) (hu:SlR bF M w u l) (ht:txR.rel M w cs t) (hs:t.Sm) (hV:V.length≤1000) (hl:l.length≤95) (hE:∀x∈l,EntOk x) (hVk:(V.map (·.1)).Nodup) (hnd:(l.map (·.id)).Nodup) (hVi:∀e∈V,dV e.1.i) (hVs:∀e∈V,e.2.s.size≤1000000):
  K.Spec Tryz.prog F.kedgeref18_Alone [v,u,.agg cs.toArray,.int .i64 h] w fun r w'=>r=.tuple #[.int .i64 (bB (aS V) l t h).1,.int .i64 (bB (aS V) l t h).2.1]∧Ext w w':=by
 obtain ⟨hon,hos⟩:=aIt (h:=h) hV hl hE hVk hnd hVi hVs
 have ht0:=ht
 obtain ⟨iv,ov,rfl,h1,h2,h3,h4⟩:=ht
 refine aFx rfl ?_
 unfold sS
 refine oy ?_
 repeat (first|refine zD (d:=some 6) (cs:=aK t iv ov) rfl rfl (fun bp wp xp ap (rp:Row wp ⟨bp,0,none⟩ (aK t iv ov)) hp0=>?_)|refine go1 ?_|refine zg λ_ _=>?_|refine zi λ_ _=>?_)
 refine zC (d:=some 20) rfl (aIy (M:=M) (t:=t) (cs:=aK t iv ov) (V:=V) (l:=l) h _ (hv.ext xp) (hu.ext xp) (R.ext ht0 xp) hs hV (by omega) hE hVk hnd hon hos) ?_
 rintro _ w2 ⟨rfl,x2⟩
 have x02:=xp.trans x2
 have r2:=Row.ext x2 rp
 unfold bB8
 by_cases h0:(aY (aS V) l t h).2.1=0
 ·repeat (first|refine aJ (d:=some 25) (.bool false) rfl (congrArg (fun b=>some (Value.bool (!b))) (dTr h0)) ?_|refine go1 ?_|refine zg λ_ _=>?_|refine zi λ_ _=>?_)
  refine zC (d:=some 29) rfl (aAn (M:=M) (t:=t) (cs:=aK t iv ov) (l:=l) _ (hu.ext x02) (R.ext ht0 x02) hs.ins (by omega) (fun x hx=>(fE (hE x hx).check).ins)) ?_
  rintro cv w3 ⟨hcv,x3, -⟩
  have x03:=x02.trans x3
  have r3:=Row.ext x3 r2
  have hcl:=kR (l:=l) (t:=t)
  obtain ⟨m,hm⟩:∃m,m=bC l t:=⟨_,rfl⟩
  rw [←hm] at hcv hcl
  repeat (first|refine go1 ?_|refine zg λ_ _=>?_|refine zi λ_ _=>?_)
  refine aQ (fun (i:Nat) w'=>Ext w3 w'∧i≤m.length∧∀j,∀hj:j<m.length,j<i→m[j]=false) (fun i=> [(0,v),(1,u),(3,.int .i64 h),(6,.pointer (some ⟨bp,0,none⟩)),(10,.int .i64 (aY (aS V) l t h).1),(13,cv),(14,.int .i64 (i:Nat))]) (fun i=>m.length - i) 0 ⟨rfl,rfl,rfl,rfl,rfl,rfl,rfl,trivial⟩ ⟨Ext.refl _,by simp,by simp⟩ ?_
  rintro i ρ w4 ⟨x4,hi,hno⟩
  have x04:=x03.trans x4
  have r4:=Row.ext x4 r3
  repeat (first|refine bY (d:=some 32) rfl (hcv.ext x4) ?_|refine go1 ?_|refine zg λ_ _=>?_|refine zi λ_ _=>?_)
  refine zL (x:=.tmp 33) (p:=((i:Nat):Int)<((m.length:Nat):Int)) rfl (fun h5=>?_) (fun h5=>?_)
  ·have him:i<m.length:=by omega
   repeat (first|refine aT (d:=some 38) (E:=dJ) rfl rfl (n:=i) (l:=m) (hcv.ext x4) rfl him (fun ad8 r8=>?_)|refine go1 ?_|refine zg λ_ _=>?_|refine zi λ_ _=>?_)
   cases hb:m[i] with
   |true=>
    have hpos:0<(aM l (bC l t)).length:=by
     rw [←hm]
     exact List.length_pos_of_mem (yE (l:=l) (m:=m) (i:=i) (by omega) him hb)
    rw [hb] at*
    repeat (first|refine go1 ?_|refine zg λ_ _=>?_|refine zi λ_ _=>?_)
    rw [aCj h0 hpos]
    simp only [wV,aOy,aBa]
    exact aC rfl ⟨rfl,x04⟩
   |false=>
    have hno2:∀j,∀hj:j<m.length,j<i+1→m[j]=false:=fun j hj hji=>by
     by_cases e:j=i
     ·subst e;exact hb
     ·exact hno j hj (by omega)
    rw [hb] at*
    repeat (first|refine go1 ?_|refine zg λ_ _=>?_|refine zi λ_ _=>?_)
    exact ⟨i+1,⟨rfl,rfl,rfl,rfl,rfl,rfl,rfl,trivial⟩,⟨x4,by omega,hno2⟩,by omega⟩
  ·have hz:¬0<(aM l (bC l t)).length:=by
    rw [←hm,bAv fun b hb=>?_]
    ·simp
    ·obtain ⟨j,hj,rfl⟩:=List.getElem_of_mem hb
     exact hno j hj (by omega)
   repeat (first|refine go1 ?_|refine zg λ_ _=>?_|refine zi λ_ _=>?_)
   refine zC (d:=some 42) rfl (aNr (M:=M) (t:=t) (cs:=aK t iv ov) (l:=l) _ (hu.ext x04) (R.ext ht0 x04) hs (by omega) hE hnd) ?_
   rintro _ w5 ⟨rfl,x5⟩
   by_cases hf:dF l t=0
   ·repeat (first|refine aJ (d:=some 44) (.bool false) rfl (congrArg (fun b=>some (Value.bool (!b))) (dTr hf)) ?_|refine go1 ?_|refine zg λ_ _=>?_|refine zi λ_ _=>?_)
    rw [aK7 h0 hz hf]
    exact aC rfl ⟨rfl,x04.trans x5⟩
   ·repeat (first|refine aJ (d:=some 44) (.bool true) rfl (congrArg (fun b=>some (Value.bool (!b))) (dFa hf)) ?_|refine go1 ?_|refine zg λ_ _=>?_|refine zi λ_ _=>?_)
    rw [aBr h0 hz hf]
    exact aC rfl ⟨rfl,x04.trans x5⟩
 ·repeat (first|refine aJ (d:=some 25) (.bool true) rfl (congrArg (fun b=>some (Value.bool (!b))) (dFa h0)) ?_|refine go1 ?_|refine zg λ_ _=>?_|refine zi λ_ _=>?_)
  rw [aA0 h0]
  exact aC rfl ⟨rfl,x02⟩
end
section
open Go Go.K
attribute [local irreducible] aO aU bQ KOp.wp K.Spec u32 leS vnS str aV cB bS cS gG kT cW gL gN aG aX cD idT aR inE eY fL bV dP aY dA cH dF evL bC aM cO dC bB eO kD eD eM iA fB idS bZ aZ bH
set_option maxHeartbeats 8000000 in
set_option maxRecDepth 4000 in
theorem aMe {M:List Nat} {v u:Value} {cs ds:List Value} {V:List En} {l:List Ent} {a b:Tx} (h rate:Int) (w:World) (hv:SlE gC w v V) (hu:SlR bF M w u l) (ha:txR.rel M w cs a) (hb:txR.rel M w ds b) (hsa:a.Sm) (hsb:b.Sm) (hV:V.length≤1000) (hl:l.length≤90) (hE:∀x∈l,EntOk x) (hVk:(V.map (·.1)).Nodup) (hnd:(l.map (·.id)).Nodup) (hVi:∀e∈V,dV e.1.i) (hVs:∀e∈V,e.2.s.size≤1000000) (hf:∀x∈l,x.fee≤1000000000000) (hM:∀b∈M,b<w.heap.size) (hz:aG a=0→aG b=0→aR a+aR b≤1000000):
  K.Spec Tryz.prog F.kedgeref18_Pair [v,u,.agg cs.toArray,.agg ds.toArray,.int .i64 h,.int .i64 rate] w fun r w'=>∃gl il,r=.tuple #[gl,il,.int .i64 (eM (aS V) l a b h rate).1,.int .i64 (eM (aS V) l a b h rate).2]∧SlR bF M w' gl (iA (aS V) l a b h rate)∧SlE bO w' il (fB (aS V) l a b h rate)∧Ext w w':=by
 obtain ⟨hon,hos⟩:=aIt (h:=h) hV (show l.length≤95 by omega) hE hVk hnd hVi hVs
 have hid:∀x∈l,x.id.size=32:=fun x hx=>by rw [(hE x hx).id];exact aVx _
 have ha0:=ha
 have hb0:=hb
 obtain ⟨iv,ov,rfl,h1,h2,h3,h4⟩:=ha
 obtain ⟨iv2,ov2,rfl,g1,g2,g3,g4⟩:=hb
 have fail:∀{w':World} {c i:Int},Ext w w'→¬dO l (idS a)=true→eM (aS V) l a b h rate=(c,i)→c≠0→∃gl il,Value.tuple #[u,.slice none 0 0,.int .i64 c,.int .i64 i]=.tuple #[gl,il,.int .i64 (eM (aS V) l a b h rate).1,.int .i64 (eM (aS V) l a b h rate).2]∧SlR bF M w' gl (iA (aS V) l a b h rate)∧SlE bO w' il (fB (aS V) l a b h rate)∧Ext w w':=fun x hn e1 hc=>by
  obtain ⟨e2,e3⟩:=aWs hn e1 hc
  exact ⟨_,_,by rw [e1],by rw [e3];exact hu.ext x,by rw [e2];exact SlE.nil _,x⟩
 refine aHu rfl ?_
 unfold vR
 refine oy ?_
 repeat (first|refine zD (d:=some 8) (cs:=aK a iv ov) rfl rfl (fun ba wp xp ap (rp:Row wp ⟨ba,0,none⟩ (aK a iv ov)) hp0=>?_)|refine zD (d:=some 9) (cs:=aK b iv2 ov2) rfl rfl (fun bb wq xq aq (rq:Row wq ⟨bb,0,none⟩ (aK b iv2 ov2)) hq0=>?_)|refine go1 ?_|refine zg λ_ _=>?_|refine zi λ_ _=>?_)
 have x0:Ext w wq:=xp.trans xq
 have rp:=Row.ext xq rp
 refine zC (d:=some 35) rfl (fC (M:=M) (t:=a) (cs:=aK a iv ov) _ (R.ext ha0 x0) hsa) ?_
 rintro _ w2 ⟨rfl,x2⟩
 have x02:=x0.trans x2
 have rp2:=Row.ext x2 rp
 have rq2:=Row.ext x2 rq
 clear xp xq x0 x2 rp rq ap aq
 repeat (first|refine rJ (a:=.seq (.reg false (.cons ⟨some 36,_,none⟩ _)) _) (fun (n:Int) w'=>Ext w2 w'∧(n<0↔dO l (idS a)=false)) (fun n=> [(0,v),(1,u),(4,.int .i64 h),(5,.int .i64 rate),(8,.pointer (some ⟨ba,0,none⟩)),(9,.pointer (some ⟨bb,0,none⟩)),(16,.int .i64 n)]) ?_ ?_|refine go1 ?_|refine zg λ_ _=>?_|refine zi λ_ _=>?_)
 ·by_cases hc:aG a=0
  ·have hsz:=bI hsa hc
   repeat (first|refine aJ (d:=some 37) (.bool true) rfl (congrArg (fun b=>some (Value.bool b)) (dTr hc)) ?_|refine go1 ?_|refine zg λ_ _=>?_|refine zi λ_ _=>?_)
   try (refine zL (x:=.tmp 37) (p:=aG a=0) rfl (fun _=>?_) (fun q=>absurd hc q);repeat (first|refine go1 ?_|refine zg λ_ _=>?_|refine zi λ_ _=>?_))
   refine zC (d:=some 39) rfl (aOi (M:=M) (t:=a) (cs:=aK a iv ov) _ (R.ext ha0 x02) hsz) ?_
   rintro _ w3 ⟨rfl,x3⟩
   repeat (first|refine go1 ?_|refine zg λ_ _=>?_|refine zi λ_ _=>?_)
   refine zC (d:=some 42) rfl (kZ (M:=M) (l:=l) (idT a) _ (hu.ext (x02.trans x3)) (by omega)) ?_
   rintro _ w4 ⟨rfl,rfl⟩
   repeat (first|refine go1 ?_|refine zg λ_ _=>?_|refine zi λ_ _=>?_)
   refine ⟨bH l (idT a),⟨rfl,rfl,rfl,rfl,rfl,rfl,rfl,trivial⟩,x3,?_⟩
   rw [bJl hc]
   have:=bJb (l:=l) (s:=idT a)
   constructor
   ·intro q
    cases hh:dO l (idT a) with
    |false=>rfl
    |true=>have:=this.2 hh;omega
   ·intro q
    by_cases q2:0≤bH l (idT a)
    ·have:=this.1 q2;rw [q] at this;cases this
    ·omega
  ·repeat (first|refine aJ (d:=some 37) (.bool false) rfl (congrArg (fun b=>some (Value.bool b)) (dFa hc)) ?_|refine go1 ?_|refine zg λ_ _=>?_|refine zi λ_ _=>?_)
   try (refine zL (x:=.tmp 37) (p:=aG a=0) rfl (fun q=>absurd q hc) (fun _=>?_);repeat (first|refine go1 ?_|refine zg λ_ _=>?_|refine zi λ_ _=>?_))
   refine ⟨-1,⟨rfl,rfl,rfl,rfl,rfl,rfl,rfl,trivial⟩,Ext.refl _,?_⟩
   have e:idS a=⟨#[]⟩:=by unfold idS;rw [if_neg hc]
   rw [e]
   exact ⟨fun _=>bEl hid,fun _=>by omega⟩
 rintro n ρ3 w3 ⟨x3,hn⟩
 try dsimp only
 have x03:=x02.trans x3
 have rp3:=Row.ext x3 rp2
 have rq3:=Row.ext x3 rq2
 clear x02 x3 rp2 rq2
 by_cases hneg:n<0
 ·have hno:=hn.1 hneg
  have hno':¬dO l (idS a)=true:=by rw [hno];decide
  repeat (first|refine aJ (d:=some 44) (.bool false) rfl (congrArg (fun b=>some (Value.bool b)) (dFa (by omega))) ?_|refine go1 ?_|refine zg λ_ _=>?_|refine zi λ_ _=>?_)
  try (refine zL (x:=.tmp 44) (p:=n≥0) rfl (fun q=>absurd q (by omega)) (fun _=>?_);repeat (first|refine go1 ?_|refine zg λ_ _=>?_|refine zi λ_ _=>?_))
  refine zC (d:=some 67) rfl (aJg (M:=M) (cs:=aK a iv ov) (V:=V) (l:=l) (t:=a) h _ (hv.ext x03) (hu.ext x03) (R.ext ha0 x03) hsa hV (by omega) hE hVk hnd hVi hVs) ?_
  rintro _ w4 ⟨rfl,x4⟩
  have x04:=x03.trans x4
  have rp4:=Row.ext x4 rp3
  have rq4:=Row.ext x4 rq3
  by_cases h20:(bB (aS V) l a h).2.1=0
  ·obtain ⟨hca,hga,hia⟩:=aAe h20
   have hgf:=(bG _).1 hga
   obtain ⟨p1, -, -,p4, -⟩:=rC h20
   obtain ⟨-,hgr,hh, -⟩:=eI p1
   have hadd:=aDz h20
   have ewith:(cO l a (bB (aS V) l a h).1).1=bZ (aS V) l a h:=by rw [hadd,nQ]
   have hEa:EntOk (jY a (bB (aS V) l a h).1):=⟨hca,hgr,hga,rfl,rfl⟩
   have hEw:∀x∈bZ (aS V) l a h,EntOk x:=fun x hx=>by
    rw [nQ] at hx
    rcases List.mem_append.1 hx with hx|hx
    ·exact hE x hx
    ·simp only [List.mem_singleton] at hx;rw [hx];exact hEa
   have hnw:((bZ (aS V) l a h).map (·.id)).Nodup:=by rw [nQ];exact aJ3 hnd hh
   have hlw:(bZ (aS V) l a h).length=l.length+1:=by rw [nQ];simp
   repeat (first|refine aJ (d:=some 71) (.bool false) rfl (congrArg (fun b=>some (Value.bool (!b))) (dTr h20)) ?_|refine go1 ?_|refine zg λ_ _=>?_|refine zi λ_ _=>?_)
   refine zC (d:=some 78) rfl (aKj (M:=M) (t:=a) (cs:=aK a iv ov) (l:=l) (bB (aS V) l a h).1 _ (hu.ext x04) (R.ext ha0 x04) hsa (aDb hga) (by omega) hE (fun y hy=>nLt (hM y hy) x04.size)) ?_
   rintro _ w5 ⟨wv,rfl,hwv,x5⟩
   rw [ewith] at hwv
   have x05:=x04.trans x5
   have rp5:=Row.ext x5 rp4
   have rq5:=Row.ext x5 rq4
   repeat (first|refine go1 ?_|refine zg λ_ _=>?_|refine zi λ_ _=>?_)
   refine zC (d:=some 83) rfl (aGy (M:=M) (t:=b) (cs:=aK b iv2 ov2) (l:=bZ (aS V) l a h) _ hwv (R.ext hb0 x05) hsb (by omega) (fun x hx=>fE (hEw x hx).check)) ?_
   rintro av w6 ⟨hav,x6, -⟩
   have x06:=x05.trans x6
   have rp6:=Row.ext x6 rp5
   have rq6:=Row.ext x6 rq5
   have hal:=aGu (bZ (aS V) l a h) b
   have hmask:aM (bZ (aS V) l a h) (aZ (bZ (aS V) l a h) b)= [idS a]↔∀j,∀hj:j<(aZ (bZ (aS V) l a h) b).length,(aZ (bZ (aS V) l a h) b)[j]=decide (j=l.length):=by
    have:=bFn (l:=l) (x:=jY a (bB (aS V) l a h).1) (m:=aZ (bZ (aS V) l a h) b) (by rw [←nQ];exact hnw) (by omega)
    rw [←nQ] at this
    rw [hia]
    exact this
   obtain ⟨m,hm⟩:∃m,m=aZ (bZ (aS V) l a h) b:=⟨_,rfl⟩
   rw [←hm] at hav hal
   obtain ⟨W,hW⟩:∃W,W=bZ (aS V) l a h:=⟨_,rfl⟩
   obtain ⟨fa,hfa⟩:∃fa,fa=(bB (aS V) l a h).1:=⟨_,rfl⟩
   rw [←hW] at hwv hal hlw hEw hnw
   rw [←hfa] at hgf ⊢
   repeat (first|refine go1 ?_|refine zg λ_ _=>?_|refine zi λ_ _=>?_)
   refine aQ (fun (i:Nat) w'=>Ext w6 w'∧i≤W.length∧∀j,∀hj:j<m.length,j<i→m[j]=decide (j=l.length)) (fun i=> [(0,v),(1,u),(4,.int .i64 h),(5,.int .i64 rate),(8,.pointer (some ⟨ba,0,none⟩)),(9,.pointer (some ⟨bb,0,none⟩)),(23,.int .i64 fa),(25,wv),(27,av),(28,.int .i64 (i:Nat))]) (fun i=>W.length - i) 0 ⟨rfl,rfl,rfl,rfl,rfl,rfl,rfl,rfl,rfl,rfl,trivial⟩ ⟨Ext.refl _,by simp,by simp⟩ ?_
   rintro i ρ w7 ⟨x7,hi,hall⟩
   have x07:=x06.trans x7
   have rp7:=Row.ext x7 rp6
   have rq7:=Row.ext x7 rq6
   have hwv7:=hwv.ext (x6.trans x7)
   clear x04 x05 x06 rp6 rq6 rp5 rq5 rp4 rq4
   repeat (first|refine zG (d:=some 86) (E:=bF) (M:=M) (l:=W) rfl hwv7 ?_|refine go1 ?_|refine zg λ_ _=>?_|refine zi λ_ _=>?_)
   refine zL (x:=.tmp 87) (p:=((i:Nat):Int)<((W.length:Nat):Int)) rfl (fun h5=>?_) (fun h5=>?_)
   ·have him:i<m.length:=by omega
    have hform:m[i]≠decide (i=l.length)→eM (aS V) l a b h rate=(4,1):=fun hne=>aJ1 hno' h20 fun q=>by
     have:=(hmask.1 q)
     rw [←hm] at this
     exact hne (this i him)
    repeat (first|refine aT (d:=some 92) (E:=dJ) rfl rfl (n:=i) (l:=m) (hav.ext x7) rfl him (fun ad8 r8=>?_)|refine zG (d:=some 96) (E:=bF) (M:=M) (l:=W) rfl hwv7 ?_|refine aJ (d:=some 97) (.int .i64 (l.length:Nat)) rfl (congrArg (fun n=>some (Value.int .i64 n)) ((IntWalk.i64_in _ (by omega)).trans (by omega))) ?_|refine go1 ?_|refine zg λ_ _=>?_|refine zi λ_ _=>?_)
    refine zM (x:=.tmp 99) rfl (fun h9=>?_) (fun h9=>?_)
    ·have hp:=hform (fun e=>by
      rw [e] at h9
      by_cases he:i=l.length
      ·rw [dTr he,dTr (show (i:Int)=l.length by omega)] at h9;cases h9
      ·rw [dFa he,dFa (show ¬(i:Int)=l.length by omega)] at h9;cases h9)
     repeat (first|refine go1 ?_|refine zg λ_ _=>?_|refine zi λ_ _=>?_)
     try simp only [wV,aOy,aBa]
     exact aC rfl (fail x07 hno' hp (by decide))
    ·have hmi:m[i]=decide (i=l.length):=by
      by_cases he:i=l.length
      ·rw [dTr (show (i:Int)=l.length by omega)] at h9
       rw [dTr he]
       cases hb1:m[i] with
       |true=>rfl
       |false=>rw [hb1] at h9;cases h9
      ·rw [dFa (show ¬(i:Int)=l.length by omega)] at h9
       rw [dFa he]
       cases hb1:m[i] with
       |false=>rfl
       |true=>rw [hb1] at h9;cases h9
     repeat (first|refine go1 ?_|refine zg λ_ _=>?_|refine zi λ_ _=>?_)
     exact ⟨i+1,⟨rfl,rfl,rfl,rfl,rfl,rfl,rfl,rfl,rfl,rfl,trivial⟩,⟨x7,by omega,fun j hj hji=>by
      by_cases e:j=i
      ·subst e;exact hmi
      ·exact hall j hj (by omega)⟩,by omega⟩
   ·have h30:aM (bZ (aS V) l a h) (aZ (bZ (aS V) l a h) b)= [idS a]:=hmask.2 (by rw [←hm];exact fun j hj=>hall j hj (by omega))
    clear hmask
    repeat (first|refine go1 ?_|refine zg λ_ _=>?_|refine zi λ_ _=>?_)
    refine zC (d:=some 106) rfl (aJg (M:=M) (cs:=aK b iv2 ov2) (V:=V) (l:=W) (t:=b) h _ (hv.ext x07) hwv7 (R.ext hb0 x07) hsb hV (by omega) hEw hVk hnw hVi hVs) ?_
    rintro _ w8 ⟨rfl,x8⟩
    have x08:=x07.trans x8
    have rp8:=Row.ext x8 rp7
    have rq8:=Row.ext x8 rq7
    by_cases h40:(bB (aS V) W b h).2.1=0
    ·obtain ⟨hcb,hgb, -⟩:=aAe h40
     have hgf2:=(bG _).1 hgb
     have hzz:=hz hca hcb
     repeat (first|refine aJ (d:=some 110) (.bool false) rfl (congrArg (fun b=>some (Value.bool (!b))) (dTr h40)) ?_|refine go1 ?_|refine zg λ_ _=>?_|refine zi λ_ _=>?_)
     refine zC (d:=some 114) rfl (pT (M:=M) (t:=a) (cs:=aK a iv ov) _ (R.ext ha0 x08) (bI hsa hca)) ?_
     rintro _ w9 ⟨rfl,x9⟩
     have x09:=x08.trans x9
     have rq9:=Row.ext x9 rq8
     repeat (first|refine go1 ?_|refine zg λ_ _=>?_|refine zi λ_ _=>?_)
     refine zC (d:=some 116) rfl (pT (M:=M) (t:=b) (cs:=aK b iv2 ov2) _ (R.ext hb0 x09) (bI hsb hcb)) ?_
     rintro _ w10 ⟨rfl,x10⟩
     have x010:=x09.trans x10
     have rq10:=Row.ext x10 rq9
     repeat (first|refine aJ (d:=some 120) (.int .i64 ((aR a+aR b:Nat):Int)) rfl (congrArg (fun n=>some (Value.int .i64 n)) (IntWalk.i64_in _ (by omega))) ?_|refine go1 ?_|refine zg λ_ _=>?_|refine zi λ_ _=>?_)
     refine zC (d:=some 121) rfl (aIu rate (aR a+aR b) hzz _) ?_
     rintro _ w11 ⟨rfl,x11⟩
     have x011:=x010.trans x11
     have rq11:=Row.ext x11 rq10
     have h40':(bB (aS V) (bZ (aS V) l a h) b h).2.1=0:=by rw [←hW];exact h40
     by_cases h50:fa+(bB (aS V) W b h).1<dA rate (aR a+aR b)
     ·repeat (first|refine aJ (d:=some 124) (.int .i64 (fa+(bB (aS V) W b h).1)) rfl (congrArg (fun n=>some (Value.int .i64 n)) (IntWalk.i64_in _ (by omega))) ?_|refine aJ (d:=some 126) (.bool true) rfl (congrArg (fun b=>some (Value.bool b)) (dTr h50)) ?_|refine go1 ?_|refine zg λ_ _=>?_|refine zi λ_ _=>?_)
      exact aC rfl (fail x011 hno' (aYd hno' h20 h30 h40' (by rw [←hW,←hfa];exact h50)) (by decide))
     ·repeat (first|refine aJ (d:=some 124) (.int .i64 (fa+(bB (aS V) W b h).1)) rfl (congrArg (fun n=>some (Value.int .i64 n)) (IntWalk.i64_in _ (by omega))) ?_|refine aJ (d:=some 126) (.bool false) rfl (congrArg (fun b=>some (Value.bool b)) (dFa h50)) ?_|refine go1 ?_|refine zg λ_ _=>?_|refine zi λ_ _=>?_)
      refine zC (d:=some 132) rfl (aKj (M:=M) (t:=b) (cs:=aK b iv2 ov2) (l:=W) (bB (aS V) W b h).1 _ (hwv7.ext (((x8.trans x9).trans x10).trans x11)) (R.ext hb0 x011) hsb (aDb hgb) (by omega) hEw (fun y hy=>nLt (hM y hy) x011.size)) ?_
      rintro _ w12 ⟨gv,rfl,hgv,x12⟩
      obtain ⟨e1,e2,e3⟩:=aT5 (f:=aS V) (rate:=rate) hno' h20 h30 h40' (by rw [←hW,←hfa];exact h50)
      rw [aDz h40] at hgv
      rw [e1,e2,e3,←hW]
      repeat (first|refine go1 ?_|refine zg λ_ _=>?_|refine zi λ_ _=>?_)
      exact aC rfl ⟨_,_,rfl,hgv,SlE.nil _,x011.trans x12⟩
    ·repeat (first|refine aJ (d:=some 110) (.bool true) rfl (congrArg (fun b=>some (Value.bool (!b))) (dFa h40)) ?_|refine go1 ?_|refine zg λ_ _=>?_|refine zi λ_ _=>?_)
     rw [hW] at h40 ⊢
     exact aC rfl (fail x08 hno' (aCy hno' h20 h30 h40) h40)
  ·repeat (first|refine aJ (d:=some 71) (.bool true) rfl (congrArg (fun b=>some (Value.bool (!b))) (dFa h20)) ?_|refine go1 ?_|refine zg λ_ _=>?_|refine zi λ_ _=>?_)
   exact aC rfl (fail x04 hno' (aGp hno' h20) h20)
 ·have hth:dO l (idS a)=true:=by
   cases hh:dO l (idS a) with
   |true=>rfl
   |false=>exact absurd (hn.2 hh) hneg
  obtain ⟨e1,e2,e3⟩:=zX (f:=aS V) (b:=b) (h:=h) (rate:=rate) hth
  rw [e1,e2,e3]
  repeat (first|refine aJ (d:=some 44) (.bool true) rfl (congrArg (fun b=>some (Value.bool b)) (dTr (by omega))) ?_|refine go1 ?_|refine zg λ_ _=>?_|refine zi λ_ _=>?_)
  try (refine zL (x:=.tmp 44) (p:=n≥0) rfl (fun _=>?_) (fun q=>absurd (show n≥0 by omega) q);repeat (first|refine go1 ?_|refine zg λ_ _=>?_|refine zi λ_ _=>?_))
  refine zC (d:=some 51) rfl (aE4 (M:=M) (V:=V) (l:=l) (t:=b) (cs:=aK b iv2 ov2) h rate _ (hv.ext x03) (hu.ext x03) (R.ext hb0 x03) hsb hV (by omega) hE hVk hnd hon hos hf hid (fun y hy=>nLt (hM y hy) x03.size)) ?_
  rintro _ w4 ⟨gl,il,rfl,hgl,hil,x4⟩
  by_cases h0:(eO (aS V) l b h rate).1=0
  ·repeat (first|refine aJ (d:=some 57) (.bool false) rfl (congrArg (fun b=>some (Value.bool (!b))) (dTr h0)) ?_|refine go1 ?_|refine zg λ_ _=>?_|refine zi λ_ _=>?_)
   rw [if_neg (fun q=>q h0)]
   exact aC rfl ⟨_,_,rfl,hgl,hil,x03.trans x4⟩
  ·repeat (first|refine aJ (d:=some 57) (.bool true) rfl (congrArg (fun b=>some (Value.bool (!b))) (dFa h0)) ?_|refine go1 ?_|refine zg λ_ _=>?_|refine zi λ_ _=>?_)
   rw [if_pos (show (eO (aS V) l b h rate).1≠0 from h0)]
   obtain ⟨e4,e5⟩:=nO h0
   rw [e4,e5]
   exact aC rfl ⟨_,_,rfl,hu.ext (x03.trans x4),SlE.nil _,x03.trans x4⟩
end
section
open Go Go.K
def frB (M:List Nat) (a b:Nat):List Nat:=M++(List.range b).filter fun y=>decide (a≤y)
theorem aHa {M:List Nat} {a b y:Nat}:y∈frB M a b↔y∈M∨(a≤y∧y<b):=by
 unfold frB
 rw [List.mem_append,List.mem_filter,List.mem_range,decide_eq_true_iff]
 constructor
 ·rintro (h|⟨h1,h2⟩)
  ·exact .inl h
  ·exact .inr ⟨h2,h1⟩
 ·rintro (h|⟨h1,h2⟩)
  ·exact .inl h
  ·exact .inr ⟨h2,h1⟩
def bHi (z:PAct) (fa fb:Value):List Value:= [.bool z.pair,fa,u8V z.a.tag,.int .u16 z.a.fee,u8V z.a.pays,u8V z.a.mark,.bool z.a.final,u8V z.a.wait,fb,u8V z.b.tag,.int .u16 z.b.fee,u8V z.b.pays,u8V z.b.mark,.bool z.b.final,u8V z.b.wait,u8V z.again]
theorem bMe (z:PAct) (fa fb:Value):aZ6 z fa fb=bHi z fa fb:=rfl
theorem aSk {V:List En} {l:List Ent} {h:Int} (hE:∀x∈l,EntOk x) (hVi:∀e∈V,dV e.1.i):∀e∈bV V l h,dV e.1.i:=fun e he=>by
 rcases mY.1 he with he|⟨x,hx,j,hj,rfl, -⟩
 ·exact hVi e he
 ·have:=(fE (hE x hx).check).outs
  show dV ((j:Nat):Int)
  unfold dV;omega
theorem wE {M:List Nat} {a b c y:Nat} (h:(a≤y∧y<b)∨c≤y):y∈frB M a b∨c≤y:=h.imp (fun h=>aHa.2 (.inr h)) id
theorem bHw {x:Ent} {h B:Int} (hx:∀o∈x.tx.outs,0≤o.v∧o.v≤B):∀e∈bV [] [x] h,0≤e.2.v∧e.2.v≤B:=fun e he=>by
 rcases mY.1 he with he|⟨y,hy,j,hj,rfl, -⟩
 ·cases he
 ·simp only [List.mem_singleton] at hy
  subst hy
  have e:(rK h y j).2.v=y.tx.outs[j].v:=by
   unfold rK
   simp only [List.getD_eq_getElem?_getD,List.getElem?_eq_getElem hj,Option.getD_some]
  rw [e];exact hx _ (gMe hj)
def aEw (i:Nat):Int:=((4^i*5242800:Nat):Int)
theorem bFm (i:Nat):4*aEw i=aEw (i+1):=by
 unfold aEw
 rw [Nat.pow_succ]
 generalize 4^i=q
 omega
theorem bCw {i:Nat} (h:i≤12):5242800≤aEw i∧aEw i≤100000000000000:=by
 unfold aEw
 have h1:4^i≤4^12:=Nat.pow_le_pow_right (by decide) h
 have h2:0<4^i:=Nat.pow_pos (by decide)
 generalize 4^i=q at h1 h2 ⊢
 omega
structure GoodT (t:Tx):Prop where
 sm:t.Sm
 few:t.ins.length≤4
 pts:∀p∈bK t,0≤p.i
theorem GoodT.make {V:List En} (hV:∀e∈V,dV e.1.i) (z:PSm):GoodT (bM V z):=⟨xL V z,sJ V z,fun p hp=>(aSn hV z p hp).1⟩
theorem GoodT.sizes {a b:Tx} (ha:GoodT a) (hb:GoodT b):aG a=0→aG b=0→aR a+aR b≤1000000:=fun h1 h2=>by
 have:=xQ (bI ha.sm h1) ha.few
 have:=xQ (bI hb.sm h2) hb.few
 omega
attribute [local irreducible] aO aU bQ KOp.wp K.Spec u32 leS vnS str aV cU cD idT aR aG aX idN bD cF bT bH cA cO aZ bA aM iC dT pD lH bC evL inS inB iG fH dN fY gE gP eQ cH dF eY fL cB bS aY bU eO eD kD dA bM iH dI bV aUw aEw EtR bB eM iA fB idS bZ tD aBi
theorem bM2 {M:List Nat} {v:Value} {cs ds:List Value} {V:List En} {a b:PSm} {B:Int} (w8 w:World) (x:Ext w8 w) (hM:∀b∈M,b<w8.heap.size) (hv:SlE gC w v V) (ha:aAw.rel M w8 cs a) (hb:aAw.rel M w8 ds b) (hn:V.length≤1000000) (hV:∀e∈V,0≤e.2.v∧e.2.v≤B) (hB:0≤B∧B≤100000000000000) (hi:∀e∈V,dV e.1.i):
  K.Spec Tryz.prog F.kedgelaw18_two [v,.agg cs.toArray,.agg ds.toArray] w fun r w'=>∃ts us,r=.tuple #[.agg ts.toArray,.agg us.toArray]∧txR.rel (frB M w8.heap.size w.heap.size) w' ts (bM V a)∧txR.rel (frB M w8.heap.size w.heap.size) w' us (bM (tD V (bM V a)) b)∧Ext w w':=by
 have hm:∀y∈frB M w8.heap.size w.heap.size,y∈M∨w8.heap.size≤y:=fun y hy=>by
  rcases aHa.1 hy with h|h
  ·exact .inl h
  ·exact .inr h.1
 exact aQe (N:=frB M w8.heap.size w.heap.size) w hv (R.step aAw ha x (by simp) hm) (R.step aAw hb x (by simp) hm) hn hV hB hi (fun y hy=>by
  rcases aHa.1 hy with h|h
  ·exact nLt (hM y h) x.size
  ·exact h.2)
end
end Go.Proofs.YtfebcajheojodaaGreatDoor
