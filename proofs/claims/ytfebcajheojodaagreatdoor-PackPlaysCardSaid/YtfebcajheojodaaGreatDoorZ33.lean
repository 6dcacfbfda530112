/- Contracts: the document's answer of what goes, what may be r -/
import Derived.Test.YtfebcajheojodaaGreatDoorZ32
set_option linter.unusedVariables false
set_option linter.unusedSimpArgs false
namespace Go.Proofs.YtfebcajheojodaaGreatDoor
section
open Go Go.K
theorem bIc (l:List Ent) (t:Tx):evI l t 0=List.replicate l.length false:=by rw [evI]
attribute [local irreducible] aO aU bQ KOp.wp K.Spec u32 leS vnS str aV cU cD idT aR aG aX idN bD cF bT bH cA cO aZ bA aM iC dT bC evL fS evI jS aBk aEx gP
set_option maxHeartbeats 4000000 in
theorem aQg {M:List Nat} {v:Value} {cs:List Value} {l:List Ent} {t:Tx} (w:World) (hl:SlR bF M w v l) (ht:txR.rel M w cs t) (hs:t.ins.length≤1000) (hn:l.length≤1000) (hE:∀x∈l,x.tx.Sm):
  K.Spec Tryz.prog F.kedgeref16_Evicted [v,.agg cs.toArray] w fun r w'=>SlE dJ w' r (evL l t)∧Ext w w'∧∀b∈aP r,w.heap.size≤b:=by
 have hqe:∀x∈l,x.tx.ins.length≤1000:=fun x hx=>(hE x hx).ins
 have ht0:=ht
 obtain ⟨iv,ov,rfl,h1,h2,h3⟩:=ht
 have e0:List.replicate l.length false=evI l t 0:=(bIc _ _).symm
 have hcl:=kR (l:=l) (t:=t)
 refine aDk rfl ?_
 unfold qO
 refine oy ?_
 repeat' (first|refine go1 ?_|refine zg λ_ _=>?_|refine zi λ_ _=>?_|refine zL rfl (fun h=>?_) (fun h=>?_)|refine zD (d:=some 3) rfl rfl (fun bp wp xp ap (rp:Row wp ⟨bp,0,none⟩ (aK t iv ov)) hp0=>?_)|refine zG (E:=bF) (M:=M) (l:=l) rfl (SlR.ext hl (by exact fx)) ?_|(refine aEd (d:=some 12) rfl rfl (by omega) (fun b w2 x2 a2 hb2=>?_);rw [e0] at a2;have lb:=a2.lt)|(refine zC (d:=some 15) rfl (aAn (M:=M) (l:=l) (cs:=aK t iv ov) (t:=t) _ (SlR.ext hl (by exact fx)) (R.ext ht0 (by exact fx)) hs hn hqe) ?_;rintro vc w3 ⟨sc,x3,hbc⟩)|(have x03:Ext wp w3:=(by exact fx);have sc3:SlR (Go.K.R.flat dJ false) [b] w3 vc (bC l t):=SlE.toR (F:=dJ) (ag:=false) sc (fun y hy hm=>by have:=hbc y hy;simp at hm;omega);refine aQ (fun (i:Nat) w'=>Ext wp w'∧i≤l.length∧AtB w' b (evI l t i)∧SlR (Go.K.R.flat dJ false) [b] w' vc (bC l t)) (fun i=> [(0,v),(5,.slice (some ⟨b,0,none⟩) l.length l.length),(6,vc),(7,.int .i64 i)]) (fun i=>l.length - i) 0 ⟨rfl,rfl,rfl,rfl,trivial⟩ ⟨x03,by simp,At.ext (by exact fx) a2,sc3⟩ ?_;clear a2 sc sc3 x03 x2 x3;rintro i ρ w4 ⟨x4,hi,a4,s4⟩))
 ·have hil:i<l.length:=by omega
  have him:i<(bC l t).length:=by omega
  have hci:(bC l t)[i]=cE t l[i]:=by
   have e:(bC l t)[i]? =some (cE t l[i]):=by unfold bC;rw [List.getElem?_map,List.getElem?_eq_getElem hil];rfl
   exact (List.getElem?_eq_some_iff.1 e).2
  have hlb:=aAi l l[i].id
  have hle:=aD1 (l:=l) (t:=t) i
  have hee:(evI l t i).length=(bA l l[i].id).length:=by omega
  have hstep:evI l t (i+1)=if cE t l[i]=true then orB (evI l t i) (bA l l[i].id) else evI l t i:=by rw [evI,bJ hil]
  refine aL (d:=some 24) (E:=Go.K.R.flat dJ false) (M:= [b]) rfl rfl (n:=i) (l:=bC l t) s4 rfl him (fun ad cs r5 he=>?_)
  obtain rfl:cs= [Value.bool (bC l t)[i]]:=he
  rw [hci] at r5
  repeat' (first|refine go1 ?_|refine zg λ_ _=>?_|refine zi λ_ _=>?_|refine zM rfl (fun hb=>?_) (fun hb=>?_)|(refine aL (d:=some 30) (E:=bF) (M:=M) rfl rfl (n:=i) (l:=l) (SlR.ext hl (by exact fx)) rfl hil (fun ad cs r6 he=>?_);obtain ⟨iv2,ov2,rfl, -⟩:=he)|(refine zC (d:=some 33) rfl (aOb (M:=M) (l:=l) l[i].id _ (SlR.ext hl (by exact fx)) hn hE) ?_;rintro vb w5 ⟨sb,x5,hbb⟩))
  ·have hh:¬cE t l[i]=true:=by
    have:cE t l[i]=false:=by simpa using hb
    rw [this];simp
   rw [if_neg hh] at hstep
   exact ⟨i+1,⟨rfl,rfl,rfl,rfl,trivial⟩,⟨by exact fx,by omega,by rw [hstep];exact At.ext (by exact fx) a4,SlR.ext s4 (by exact fx)⟩,by omega⟩
  ·have hh:cE t l[i]=true:=by simpa using hb
   rw [if_pos hh] at hstep
   have lb4:=a4.lt
   have sb5:SlR (Go.K.R.flat dJ false) [b] w5 vb (bA l l[i].id):=SlE.toR (F:=dJ) (ag:=false) sb (fun y hy hm=>by have:=hbb y hy;simp at hm;omega)
   have x45:=x4.trans x5
   have a5:=At.ext x5 a4
   have s5:=SlR.ext s4 x5
   clear sb a4 s4 r5 r6 x4 x5
   repeat' (first|refine go1 ?_|refine zg λ_ _=>?_|refine zi λ_ _=>?_|refine zL rfl (fun h=>?_) (fun h=>?_)|refine zG (E:=bF) (M:=M) (l:=l) rfl (SlR.ext hl (by exact fx)) ?_|(refine aQ (fun (k:Nat) w'=>Ext wp w'∧k≤l.length∧AtB w' b (aBk (evI l t i) (bA l l[i].id) k)∧SlR (Go.K.R.flat dJ false) [b] w' vc (bC l t)∧SlR (Go.K.R.flat dJ false) [b] w' vb (bA l l[i].id)) (fun k=> [(0,v),(5,.slice (some ⟨b,0,none⟩) l.length l.length),(6,vc),(7,.int .i64 i),(8,vb),(9,.int .i64 k)]) (fun k=>l.length - k) 0 ⟨rfl,rfl,rfl,rfl,rfl,rfl,trivial⟩ ⟨x45,by simp,by rw [bEi];exact a5,s5,sb5⟩ ?_;clear x45 a5 s5 sb5;rintro k ρ2 w6 ⟨x6,hk,a6,s6,sb6⟩))
   ·have hkl:k<l.length:=by omega
    have hka:k<(evI l t i).length:=by omega
    have hkb:k<(bA l l[i].id).length:=by omega
    have hol:=aYh (k:=k) hee
    have hat:=bJ7 hee hka
    rw [List.getElem?_eq_getElem hka] at hat
    have hset:=bI2 hee hka
    generalize hbk:(bA l l[i].id)[k]=nb at*
    generalize hak:(evI l t i)[k]=na at*
    generalize hnx:aBk (evI l t i) (bA l l[i].id) (k+1)=nxt at*
    generalize hcm:aBk (evI l t i) (bA l l[i].id) k=m at*
    repeat' (first|refine go1 ?_|refine zg λ_ _=>?_|refine zi λ_ _=>?_|(refine aT (d:=some 44) (E:=dJ) rfl rfl (n:=k) (l:=m) (AtB.sl (by focus (repeat (first|assumption|(apply At.ext;assumption)))) (by omega)) rfl (by omega) (fun ad r11=>?_);have r11:Row _ ad [Value.bool na]:=(by have e:=(List.getElem?_eq_some_iff.1 hat).2;rw [←e];exact r11))|refine zK (d:=some 47) rfl (fun hm=>?_) (fun hm=>?_)|(refine aL (d:=some 49) (E:=Go.K.R.flat dJ false) (M:= [b]) rfl rfl (n:=k) (l:=bA l l[i].id) (SlR.ext sb6 (by exact fx)) rfl hkb (fun ad cs r12 he=>?_);obtain rfl:cs= [Value.bool (bA l l[i].id)[k]]:=he;rw [hbk] at r12)|refine lR (d:=some 52) rfl rfl (by omega) ?_)
    all_goals
     refine mT (m:=m) (o:=k) (v:=(na||nb)) rfl (congrArg Value.bool (by rw [hm];first|rfl|simp)) (by focus (repeat (first|assumption|(apply At.ext;assumption)))) (by omega) (fun w11 c11 a11=>?_)
     have y11:Ext wp w11:=(Ext.chg (w:=wp) (by exact fx) c11).mono (fun y hy=>.inr (by simp at hy;omega))
     have t6:=s6.step c11 (M':= [b]) (fun y hy=>.inl hy) (fun y hy=>.inl hy)
     have tb6:=sb6.step c11 (M':= [b]) (fun y hy=>.inl hy) (fun y hy=>.inl hy)
     repeat' (first|refine go1 ?_|refine zg λ_ _=>?_|refine zi λ_ _=>?_)
     exact ⟨k+1,⟨rfl,rfl,rfl,rfl,rfl,rfl,trivial⟩,⟨y11,by omega,by rw [hnx,←hset];exact a11,t6,tb6⟩,by omega⟩
   ·have hok:aBk (evI l t i) (bA l l[i].id) k=evI l t (i+1):=by rw [hstep];exact bH0 hee (by omega)
    exact ⟨i+1,⟨rfl,rfl,rfl,rfl,trivial⟩,⟨x6,by omega,by rw [←hok];exact a6,s6⟩,by omega⟩
 ·have ei:i=l.length:=by omega
  subst ei
  have e9:evI l t l.length=evL l t:=by unfold evL;rfl
  rw [e9] at a4
  exact aC rfl ⟨AtB.sl a4 (by rw [←jV]),xp.trans x4,by intro y hy;have hy:y∈ [b]:=hy;simp at hy;have:=xp.size;omega⟩
theorem aTg {M:List Nat} {cs:List Value} {t:Tx} (w:World) (ht:txR.rel M w cs t) (hs:t.ins.length≤1000):K.Spec Tryz.prog F.kedgeref16_signals [.agg cs.toArray] w fun r w'=>r=.bool (aEx t)∧Ext w w':=by
 have hT:aEx t=t.ins.any fun x=>decide (x.q<4294967294):=by unfold aEx;rfl
 obtain ⟨iv,ov,rfl,h1,h2,h3⟩:=ht
 refine aBx rfl ?_
 unfold qW
 refine oy ?_
 repeat' (first|refine go1 ?_|refine zg λ_ _=>?_|refine zi λ_ _=>?_|refine zL rfl (fun h=>?_) (fun h=>?_)|refine zD (d:=some 1) rfl rfl (fun bp wp xp ap (rp:Row wp ⟨bp,0,none⟩ (aK t iv ov)) hp0=>?_)|refine zG (E:=inR) (M:=M) (l:=t.ins) rfl (SlR.ext h1 (by exact fx)) ?_|(refine aQ (fun (i:Nat) w'=>Ext wp w'∧i≤t.ins.length∧∀x∈t.ins.take i,decide (x.q<4294967294)=false) (fun i=> [(1,.pointer (some ⟨bp,0,none⟩)),(3,.int .i64 i)]) (fun i=>t.ins.length - i) 0 ⟨rfl,rfl,trivial⟩ ⟨Ext.refl _,by simp,by simp⟩ ?_;rintro i ρ w3 ⟨x3,hi,hk⟩)|(have hil:i<t.ins.length:=(by omega);refine aL (d:=some 14) (E:=inR) (M:=M) rfl rfl (n:=i) (l:=t.ins) (SlR.ext h1 (by exact fx)) rfl hil (fun ad cs r5 he=>?_);obtain ⟨wv,rfl, -⟩:=he))
 ·rw [hT,List.any_eq_true.2 ⟨_,gMe hil,dTr h⟩]
  exact aC rfl ⟨rfl,by exact fx⟩
 ·refine ⟨i+1,⟨rfl,rfl,trivial⟩,⟨by exact fx,by omega,fun x hx=>?_⟩,by omega⟩
  rw [List.take_succ_eq_append_getElem hil] at hx
  rcases List.mem_append.1 hx with h9|h9
  ·exact hk x h9
  ·simp at h9;subst h9;exact dFa h
 ·rw [tLe (by omega)] at hk
  rw [hT,List.any_eq_false.2 (fun x hx=>by rw [hk x hx];simp)]
  exact aC rfl ⟨rfl,by exact fx⟩
set_option maxHeartbeats 1000000 in
theorem bD5 {M:List Nat} {v:Value} {l:List Ent} {n:Nat} (w:World) (hl:SlR bF M w v l) (hn:n<l.length) (hlen:l.length≤1000) (hE:∀x∈l,x.tx.Sm) (hnd:(l.map (·.id)).Nodup):
  K.Spec Tryz.prog F.kedgeref16_May [v,.int .i64 (n:Nat)] w fun r w'=>r=.bool (gP l l[n])∧Ext w w':=by
 have hm:=bGz hnd l[n]
 have hsn:=hE _ (gMe hn)
 have hal:=aGu l l[n].tx
 rw [hm]
 refine aJ0 rfl ?_
 unfold yT
 refine oy ?_
 repeat' (first|refine go1 ?_|refine zg λ_ _=>?_|refine zi λ_ _=>?_|refine zL rfl (fun h=>?_) (fun h=>?_)|(refine aL (d:=some 10) (E:=bF) (M:=M) rfl rfl (n:=n) (l:=l) (SlR.ext hl (by exact fx)) rfl hn (fun ad cs r4 he=>?_);obtain ⟨iv,ov,rfl,q1,q2,q3⟩:=he)|(refine aL (d:=some 18) (E:=bF) (M:=M) rfl rfl (n:=n) (l:=l) (SlR.ext hl (by exact fx)) rfl hn (fun ad cs r5 he=>?_);obtain ⟨iv5,ov5,rfl,p1,p2,p3⟩:=he)|(refine zC (d:=some 13) rfl (aTg (M:=M) (cs:=aK l[n].tx iv ov) (t:=l[n].tx) _ ⟨iv,ov,rfl,by exact fx,by exact fx,q3.1,q3.2.1⟩ hsn.ins) ?_;rintro _ w6 ⟨rfl,x6⟩)|refine zM rfl (fun hs1=>?_) (fun hs1=>?_)|(refine zC (d:=some 21) rfl (aGy (M:=M) (l:=l) (cs:=aK l[n].tx iv5 ov5) (t:=l[n].tx) _ (SlR.ext hl (by exact fx)) ⟨iv5,ov5,rfl,by exact fx,by exact fx,p3.1,p3.2.1⟩ hsn hlen hE) ?_;rintro va w7 ⟨sa,x7, -⟩;have x07:Ext w w7:=(by exact fx);clear r4 r5 q1 q2 p1 p2 x6 x7)|refine zG (d:=some 24) (E:=bF) (M:=M) (l:=l) rfl (SlR.ext hl (by exact fx)) ?_|(refine aQ (fun (i:Nat) w'=>Ext w7 w'∧i≤l.length∧∀j,j<i→(((aZ l l[n].tx).getD j false)&&aEx (cP l j).tx)=false) (fun i=> [(0,v),(6,va),(7,.int .i64 i)]) (fun i=>l.length - i) 0 ⟨rfl,rfl,rfl,trivial⟩ ⟨Ext.refl _,by simp,by simp⟩ ?_;rintro i ρ w8 ⟨x8,hi,hk⟩)|(have hil:i<l.length:=(by omega);have hsi:=hE _ (gMe hil);have e1:cP l i=l[i]:=bJ hil;have e2:(aZ l l[n].tx).getD i false=(aZ l l[n].tx)[i]'(by omega):=(by rw [List.getD_eq_getElem?_getD,List.getElem?_eq_getElem (by omega)];rfl);refine aL (d:=some 30) (E:=bF) (M:=M) rfl rfl (n:=i) (l:=l) (SlR.ext hl (by exact fx)) rfl hil (fun ad cs r9 he=>?_);obtain ⟨iv9,ov9,rfl,g1,g2,g3⟩:=he)|(refine zC (d:=some 33) rfl (aTg (M:=M) (cs:=aK l[i].tx iv9 ov9) (t:=l[i].tx) _ ⟨iv9,ov9,rfl,by exact fx,by exact fx,g3.1,g3.2.1⟩ hsi.ins) ?_;rintro _ w10 ⟨rfl,x10⟩)|(refine aT (d:=some 36) (E:=dJ) rfl rfl (n:=i) (l:=aZ l l[n].tx) (SlE.ext (by exact fx) sa) rfl (by omega) (fun ad r11=>?_);have r11:Row _ ad [Value.bool ((aZ l l[n].tx)[i]'(by omega))]:=r11;rw [←e2] at r11)|refine zK (d:=some 39) rfl (fun hm1=>?_) (fun hm1=>?_))
 ·rw [hs1,Bool.true_or]
  exact aC rfl ⟨rfl,by exact fx⟩
 ·rw [show ((List.range l.length).any fun i=>(aZ l l[n].tx).getD i false&&aEx (cP l i).tx)=true from List.any_eq_true.2 ⟨i,List.mem_range.2 hil,by rw [hm1,e1,hs1];rfl⟩,Bool.or_true]
  exact aC rfl ⟨rfl,x07.trans (by exact fx)⟩
 ·exact ⟨i+1,⟨rfl,rfl,rfl,trivial⟩,⟨by exact fx,by omega,fun j hj=>by
   by_cases e:j=i
   ·subst e;rw [e1,hs1,Bool.and_false]
   ·exact hk j (by omega)⟩,by omega⟩
 ·exact ⟨i+1,⟨rfl,rfl,rfl,trivial⟩,⟨by exact fx,by omega,fun j hj=>by
   by_cases e:j=i
   ·subst e;rw [hm1,Bool.false_and]
   ·exact hk j (by omega)⟩,by omega⟩
 ·rw [hs1,Bool.false_or,show ((List.range l.length).any fun i=>(aZ l l[n].tx).getD i false&&aEx (cP l i).tx)=false from List.any_eq_false.2 fun j hj=>by rw [hk j (by have:=List.mem_range.1 hj;omega)];simp]
  exact aC rfl ⟨rfl,x07.trans x8⟩
end
section
open Go Go.K
attribute [local irreducible] aO aU bQ KOp.wp K.Spec u32 leS vnS str aV cU cD idT aR aG aX idN bD cF bT bH cA cO aZ bA aM iC dT bC evL fS evI jS aBk aEx gP dN jW aCp cE
theorem yN (R' S:Nat) (hR:R'≤100000000) (hS:S≤1000000) (w:World):K.Spec Tryz.prog F.kedgeref01_Fee [.int .i64 (R':Nat),.int .i64 (S:Nat)] w fun r w'=>r=.tuple #[.int .i64 (((R'*S+999) / 1000:Nat):Int),.int .i64 0]∧Ext w w':=by
 have hp:R'*S≤100000000*1000000:=Nat.mul_le_mul hR hS
 obtain ⟨p,hpq⟩:∃p,p=R'*S:=⟨_,rfl⟩
 rw [←hpq] at hp ⊢
 refine aLi rfl ?_
 unfold xF
 refine oy ?_
 repeat' (first|refine aJ (d:=some 24) (.int .i64 (p:Nat)) rfl (congrArg (fun n=>some (Value.int .i64 n)) ((IntWalk.i64_in _ (by rw [←Int.natCast_mul,←hpq];omega)).trans (by rw [←Int.natCast_mul,←hpq]))) ?_|refine aKu (d:=some 26) (n:=p) (m:=1000) rfl rfl (by omega) (by omega) ?_|refine aJ (d:=some 28) (.int .i64 ((p / 1000*1000:Nat):Int)) rfl (congrArg (fun n=>some (Value.int .i64 n)) (IntWalk.i64_in _ (by omega))) ?_|refine go1 ?_|refine zg λ_ _=>?_|refine zi λ_ _=>?_|refine zJ rfl (fun h=>?_) (fun h=>?_)|refine zL rfl (fun h=>?_) (fun h=>?_))
 all_goals first
  |(exfalso;omega)
  |exact aC rfl ⟨congrArg (fun n=>Value.tuple #[.int .i64 n,.int .i64 0]) (by omega),by exact fx⟩
  |trace_state
set_option maxHeartbeats 2000000 in
theorem aU4 {M:List Nat} {v:Value} {cs:List Value} {l:List Ent} {t:Tx} (fee:Int) (w:World) (hl:SlR bF M w v l) (ht:txR.rel M w cs t) (hs:t.Sm) (hc:aG t=0) (hn:l.length≤1000) (hE:∀x∈l,EntOk x) (hf:∀x∈l,x.fee≤1000000000000):
  K.Spec Tryz.prog F.kedgeref16_Enough [v,.agg cs.toArray,.int .i64 fee] w fun r w'=>r=.bool (kX l t fee)∧Ext w w':=by
 have hz:=bI hs hc
 have hz2:=hz.sizeM
 have hgood:∀x∈l,bX x.fee=true:=fun x hx=>(hE x hx).fee
 have hsz:∀x∈l,0≤x.size∧x.size≤(100000000000:Nat):=fun x hx=>(aD7 (hE x hx)).2
 have hsm:∀x∈l,x.tx.Sm:=fun x hx=>fE (hE x hx).check
 have hqe:∀x∈l,x.tx.ins.length≤1000:=fun x hx=>(hsm x hx).ins
 have hcl:=kR (l:=l) (t:=t)
 have hel:=jV (l:=l) (t:=t)
 have hgb:=aGz (t:=t) (c:=1000000000000) (fun x hx=>⟨((bG _).1 (hE x hx).fee).1,hf x hx⟩)
 have hgb2:((1000000000000:Nat):Int)*l.length≤1000000000000*1000:=by omega
 have hgone:dN l (evL l t)=qY l t:=by unfold qY;rfl
 have hone:(1000*aR t+999) / 1000=aR t:=by omega
 have hen:kX l t fee=(l.all (fun x=>!cE t x||decide (aCp fee (aR t:Nat) x.fee x.size>0))&&(!l.any (cE t)||decide (qY l t+(aR t:Nat)≤fee))):=by unfold kX;rfl
 have ht0:=ht
 obtain ⟨iv,ov,rfl,h1,h2,h3⟩:=ht
 rw [hen]
 refine aEr rfl ?_
 unfold rN
 refine oy ?_
 repeat' (first|refine go1 ?_|refine zg λ_ _=>?_|refine zi λ_ _=>?_|refine zL rfl (fun h=>?_) (fun h=>?_)|refine zD (d:=some 4) rfl rfl (fun bp wp xp ap (rp:Row wp ⟨bp,0,none⟩ (aK t iv ov)) hp0=>?_)|(refine zC (d:=some 19) rfl (aAn (M:=M) (l:=l) (cs:=aK t iv ov) (t:=t) _ (SlR.ext hl (by exact fx)) (R.ext ht0 (by exact fx)) hs.ins hn hqe) ?_;rintro vc w3 ⟨sc,x3, -⟩)|(refine zC (d:=some 22) rfl (aQg (M:=M) (l:=l) (cs:=aK t iv ov) (t:=t) _ (SlR.ext hl (by exact fx)) (R.ext ht0 (by exact fx)) hs.ins hn hsm) ?_;rintro vg w4 ⟨sg,x4, -⟩)|(refine zC (d:=some 26) rfl (aC2 (M:=M) (l:=l) (m:=evL l t) _ (SlR.ext hl (by exact fx)) (SlE.ext (by exact fx) sg) hel hn hgood hsz) ?_;rintro _ w5 ⟨rfl,x5⟩;rw [hgone])|(refine zC (d:=some 30) rfl (pT (M:=M) (cs:=aK t iv ov) (t:=t) _ (R.ext ht0 (by exact fx)) hz) ?_;rintro _ w6 ⟨rfl,x6⟩)|(refine zC (d:=some 33) rfl (yN 1000 (aR t) (by decide) hz2.2 _) ?_;rintro _ w7 ⟨rfl,x7⟩;rw [hone];have sc7:=SlE.ext (show Ext w3 w7 by exact fx) sc;have x07:Ext w w7:=(by exact fx);clear xp x3 x4 x5 x6 x7 sc sg)|refine zG (E:=bF) (M:=M) (l:=l) rfl (SlR.ext hl (by exact fx)) ?_|(refine aQ (fun (i:Nat) w'=>Ext w7 w'∧i≤l.length∧∀x∈l.take i,(!cE t x||decide (aCp fee (aR t:Nat) x.fee x.size>0))=true) (fun i=> [(0,v),(2,.int .i64 fee),(7,vc),(9,.int .i64 (qY l t)),(11,.int .i64 (aR t:Nat)),(12,.int .i64 (aR t:Nat)),(14,.bool ((l.take i).any (cE t))),(15,.int .i64 i)]) (fun i=>l.length - i) 0 ⟨rfl,rfl,rfl,rfl,rfl,rfl,rfl,rfl,trivial⟩ ⟨Ext.refl _,by simp,by simp⟩ ?_;rintro i ρ w8 ⟨x8,hi,hk⟩)|(have hil:i<l.length:=(by omega);have hci:(bC l t)[i]'(by omega)=cE t l[i]:=(by have e:(bC l t)[i]? =some (cE t l[i]):=(by unfold bC;rw [List.getElem?_map,List.getElem?_eq_getElem hil];rfl);exact (List.getElem?_eq_some_iff.1 e).2);have htk:(l.take (i+1)).any (cE t)=((l.take i).any (cE t)||cE t l[i]):=(by rw [List.take_succ_eq_append_getElem hil,List.any_append];simp);refine aT (d:=some 44) (E:=dJ) rfl rfl (n:=i) (l:=bC l t) (SlE.ext (by exact fx) sc7) rfl (by omega) (fun ad r9=>?_);have r9:Row _ ad [Value.bool ((bC l t)[i]'(by omega))]:=r9;rw [hci] at r9)|refine zM rfl (fun hb=>?_) (fun hb=>?_)|(refine aL (d:=some 51) (E:=bF) (M:=M) rfl rfl (n:=i) (l:=l) (SlR.ext hl (Ext.trans x07 (by exact fx))) rfl hil (fun ad cs r10 he=>?_);obtain ⟨iv10,ov10,rfl, -⟩:=he)|(refine aL (d:=some 56) (E:=bF) (M:=M) rfl rfl (n:=i) (l:=l) (SlR.ext hl (Ext.trans x07 (by exact fx))) rfl hil (fun ad cs r11 he=>?_);obtain ⟨iv11,ov11,rfl, -⟩:=he)|(refine zC (d:=some 59) rfl (aQ6 _ _ _ _ _) ?_;rintro _ w12 ⟨rfl,x12⟩)|refine zK rfl (fun hm1=>?_) (fun hm1=>?_)|refine fR ?_ ?_)
 ·have hh:cE t l[i]=false:=by simpa using hb
  refine ⟨i+1,⟨rfl,rfl,rfl,rfl,rfl,rfl,?_,rfl,trivial⟩,⟨by exact fx,by omega,fun x hx=>?_⟩,by omega⟩
  ·show _=Value.bool ((l.take (i+1)).any (cE t))
   rw [htk,hh,Bool.or_false];rfl
  ·rw [List.take_succ_eq_append_getElem hil] at hx
   rcases List.mem_append.1 hx with h9|h9
   ·exact hk x h9
   ·simp only [List.mem_singleton] at h9;subst h9;rw [hh];rfl
 ·have hh:cE t l[i]=true:=by simpa using hb
  rw [List.all_eq_false.2 ⟨l[i],gMe hil,by rw [hh,dFa (by omega)];simp⟩,Bool.false_and]
  exact aC rfl ⟨rfl,x07.trans (by exact fx)⟩
 ·have hh:cE t l[i]=true:=by simpa using hb
  refine ⟨i+1,⟨rfl,rfl,rfl,rfl,rfl,rfl,?_,rfl,trivial⟩,⟨by exact fx,by omega,fun x hx=>?_⟩,by omega⟩
  ·show _=Value.bool ((l.take (i+1)).any (cE t))
   rw [htk,hh,Bool.or_true];rfl
  ·rw [List.take_succ_eq_append_getElem hil] at hx
   rcases List.mem_append.1 hx with h9|h9
   ·exact hk x h9
   ·simp only [List.mem_singleton] at h9;subst h9;rw [dTr (by omega),Bool.or_true]
 ·rw [tLe (by omega)] at hk hm1
  rw [List.all_eq_true.2 hk,hm1,Bool.true_or]
  exact aC rfl ⟨rfl,x07.trans (by exact fx)⟩
 ·rw [tLe (by omega)] at hk hm1
  rw [List.all_eq_true.2 hk,hm1,Bool.false_or,Bool.true_and]
  exact aC rfl ⟨rfl,x07.trans (by exact fx)⟩
end
end Go.Proofs.YtfebcajheojodaaGreatDoor
namespace Go.K
section
open Go
section
variable {P:Program} {d:Option Tmp} {r:KR} {K:Env→World→Prop} {ρ:Env} {w:World}
end
theorem cG {P:Program} {r:KR} {K:Env→World→Prop} {ρ:Env} {w:World} {d:Option Tmp} {o:KOp} {t:Tmp} {b:Bool} {p:Prop} [Decidable p] (h:ρ t=.bool (!decide p)) (h1:¬p→aO P (.cons ⟨d,o,some (t,b)⟩ r) K (upd ρ t (.bool true)) w) (h2:p→aO P (.cons ⟨d,o,some (t,b)⟩ r) K (upd ρ t (.bool false)) w):aO P (.cons ⟨d,o,some (t,b)⟩ r) K ρ w:=by
 by_cases hp:p
 ·have:=h2 hp;rwa [aGv (by rw [h];simp [hp])] at this
 ·have:=h1 hp;rwa [aGv (by rw [h];simp [hp])] at this
end
end Go.K
namespace Go.Proofs.YtfebcajheojodaaGreatDoor
section
open Go Go.K
attribute [local irreducible] aO aU bQ KOp.wp K.Spec u32 leS vnS str aV cB bS cS gG kT cW
theorem u64_in {n:Nat} (h:n<18446744073709551616):IntKind.u64.wrap ((n:Nat):Int)=((n:Nat):Int):=fF (by omega) (by omega)
theorem aKp (s:ByteArray) (a k:Nat) (hk:k=2∨k=4) (hs:a+k≤s.size) (hm:s.size≤100000000) (w:World):K.Spec Tryz.prog F.kedgeref02_Get [.string s,.int .i64 (a:Nat),.int .i64 (k:Nat)] w fun r w'=>r=.tuple #[.int .u64 (cB s a k:Nat),.bool true]∧Ext w w':=by
 have hk4:k≤4:=by omega
 rcases hk with hk|hk
 all_goals
  refine aKc rfl ?_
  unfold xI
  refine oy ?_
  repeat' (first|(refine aQ (fun (i:Nat) w'=>Ext w w'∧i≤k) (fun i=> [(0,.string s),(1,.int .i64 (a:Nat)),(2,.int .i64 (k:Nat)),(8,.int .u64 (cB s a i:Nat)),(9,.int .u64 (256^i:Nat)),(10,.int .i64 (i:Nat))]) (fun i=>k - i) 0 ⟨rfl,rfl,rfl,(by unfold cB;rfl),rfl,rfl,trivial⟩ ⟨Ext.refl _,by omega⟩ ?_;rintro i ρ w3 ⟨x3,hi⟩)|refine go1 ?_|refine zg λ_ _=>?_|refine zi λ_ _=>?_|(first|refine zJ rfl (fun hh=>absurd hh (by omega)) (fun hh=>?_)|refine zJ rfl (fun hh=>?_) (fun hh=>absurd hh (by omega))|refine zJ rfl (fun hh=>?_) (fun hh=>?_)|refine cG rfl (fun hh=>absurd hh (by omega)) (fun hh=>?_)|refine cG rfl (fun hh=>?_) (fun hh=>absurd hh (by omega))|refine cG rfl (fun hh=>?_) (fun hh=>?_))|(first|refine zL rfl (fun hh=>absurd hh (by omega)) (fun _=>?_)|refine zN rfl (fun hh=>absurd hh (by omega)) (fun _=>?_)|refine zz rfl ?_))
  refine zL (x:=.tmp 39) (p:=((i:Nat):Int)<((k:Nat):Int)) rfl (fun h=>?_) (fun h=>?_)
  ·have hik:i<k:=by omega
   have hlt:=gW s i a
   have hp:256^i≤256^3:=Nat.pow_le_pow_right (by decide) (by omega)
   have hsn:=aPa s i a
   have hpow:256^(i+1)=256*256^i:=by rw [Nat.pow_succ];omega
   have hj:a+i<s.size:=by omega
   have hb:=s[a+i].toNat_lt
   rw [kF hj] at hsn
   generalize hP:256^i=p at hp hsn hlt hpow ⊢
   generalize hB:s[a+i].toNat=b at hb hsn
   generalize hN:cB s a i=n at hlt hsn ⊢
   have hbp:b*p≤255*16777216:=Nat.mul_le_mul (by omega) (by omega)
   generalize hbP:b*p=q at hbp hsn
   repeat (first|(refine iY (d:=some 47) (k:=.i64) (n:=a+i) rfl (congrArg (Value.int .i64) (by omega)) hj ?_;rw [hB])|refine aJ (d:=some 48) (.int .u64 ((b:Nat):Int)) rfl (congrArg (fun n=>some (Value.int .u64 n)) (u64_in (by omega))) ?_|refine aJ (d:=some 50) (.int .u64 ((q:Nat):Int)) rfl (congrArg (fun n=>some (Value.int .u64 n)) (by rw [show ((b:Nat):Int)*((p:Nat):Int)=((q:Nat):Int) by rw [←hbP];push_cast;rfl];exact u64_in (by omega))) ?_|refine aJ (d:=some 51) (.int .u64 ((n+q:Nat):Int)) rfl (congrArg (fun n=>some (Value.int .u64 n)) (by rw [show ((n:Nat):Int)+((q:Nat):Int)=((n+q:Nat):Int) by omega];exact u64_in (by omega))) ?_|refine aJ (d:=some 53) (.int .u64 ((256*p:Nat):Int)) rfl (congrArg (fun n=>some (Value.int .u64 n)) (by rw [show ((p:Nat):Int)*256=((256*p:Nat):Int) by omega];exact u64_in (by omega))) ?_|refine go1 ?_|refine zg λ_ _=>?_|refine zi λ_ _=>?_)
   exact ⟨i+1,⟨rfl,rfl,rfl,congrArg (fun n:Nat=>Value.int .u64 n) hsn.symm,congrArg (fun n:Nat=>Value.int .u64 n) hpow.symm,rfl,trivial⟩,⟨x3,by omega⟩,by omega⟩
  ·have e:i=k:=by omega
   subst e
   repeat (first|refine go1 ?_|refine zg λ_ _=>?_|refine zi λ_ _=>?_)
   exact aC rfl ⟨rfl,x3⟩
theorem bLn {s:ByteArray} (h:¬(s.size=9∨s.size=17∨s.size=25)):cS s= []:=by
 unfold cS jF
 simp only [not_or] at h
 simp [h.1,h.2.1,h.2.2]
theorem bBc {s:ByteArray} (h:bS s 0≠yK s):cS s= []:=by
 unfold cS jF
 simp [h]
theorem bD2 {s:ByteArray} {j:Nat} (hj:j<yK s) (h:1000000<cB s (5+8*j) 4):cS s= []:=by
 have:(kT s).all aV3=false:=by
  rw [List.all_eq_false]
  refine ⟨aC8 s j,?_,?_⟩
  ·unfold kT
   exact List.mem_map_of_mem (List.mem_range.2 hj)
  ·show ¬decide ((aC8 s j).height≤1000000)=true
   rw [decide_eq_true_eq]
   exact Nat.not_le.2 h
 unfold cS
 rw [this];simp
theorem bJk {s:ByteArray} (h:s.size=9∨s.size=17∨s.size=25) (h0:bS s 0=yK s) (hl:∀j,j<yK s→cB s (5+8*j) 4≤1000000):cS s=(List.range (yK s)).map (aC8 s):=by
 have h1:jF s=true:=by
  unfold jF
  rw [dTr h0]
  rcases h with h|h|h<;>simp [h]
 have h2:(kT s).all aV3=true:=by
  rw [List.all_eq_true]
  intro b hb
  unfold kT at hb
  obtain ⟨j,hj,rfl⟩:=List.mem_map.1 hb
  exact dTr (hl j (List.mem_range.1 hj))
 unfold cS
 rw [h1,h2];unfold kT;rfl
set_option maxHeartbeats 1000000 in
theorem bKw (s:ByteArray) (hm:s.size≤1000000) (w:World):K.Spec Tryz.prog F.kedgeref08_Get [.string s] w fun r w'=>SlE brE w' r (cS s)∧(∀b∈aP r,w.heap.size≤b)∧Ext w w':=by
 have bad:∀{w':World},Ext w w'→cS s= []→SlE brE w' (.slice none 0 0) (cS s)∧(∀b∈aP (.slice none 0 0),w.heap.size≤b)∧Ext w w':=fun x e=>⟨by rw [e];exact SlE.nil _,fun b hb=>absurd hb (by simp [aP]),x⟩
 by_cases hz:s.size=9∨s.size=17∨s.size=25
 ·have hbase:∀n:Nat,s.size=1+8*n→1≤n→n≤3→yK s=n∧cC .quo (.int .i64 ((s.size:Int) - 1)) (.int .i64 8)=some (.int .i64 (n:Nat)):=fun n hn hn1 hn3=>by
   refine ⟨by unfold yK;omega,?_⟩
   have e:=bO3 ((s.size:Int) - 1) 8 (by decide) (by omega)
   rw [show ((s.size:Nat):Int) - 1=((8*n:Nat):Int) by omega,td,show 8*n / 8=n by omega] at e
   rw [show ((s.size:Nat):Int) - 1=((8*n:Nat):Int) by omega]
   exact e
  have h0s:0<s.size:=by omega
  have hb0:=kF h0s
  have hb8:=s[0].toNat_lt
  generalize hB:s[0].toNat=b at hb0 hb8
  have hz0:=hz
  rcases hz with hz|hz|hz
  all_goals
   obtain ⟨n,hn,hn1,hn3⟩:∃n:Nat,s.size=1+8*n∧1≤n∧n≤3:=by
    first
     |exact ⟨1,by omega,by omega,by omega⟩
     |exact ⟨2,by omega,by omega,by omega⟩
     |exact ⟨3,by omega,by omega,by omega⟩
   obtain ⟨hN,hq⟩:=hbase n hn hn1 hn3
   refine xO rfl ?_
   unfold pL
   refine oy ?_
   repeat' (first|refine rI (d:=some 42) (a:=8) (b:=(i:Nat)) rfl rfl (by omega) ?_|refine dS (d:=some 28) rfl rfl hq ?_|(refine iY (d:=some 30) (k:=.i64) (n:=0) rfl rfl h0s ?_;rw [hB])|refine aJ (d:=some 31) (.int .i64 (b:Nat)) rfl (congrArg (fun n=>some (Value.int .i64 n)) (uV (by omega))) ?_|refine zN (x:=.tmp 33) (p:=((b:Nat):Int)=((n:Nat):Int)) rfl (fun h=>?_) (fun h=>?_)|(refine aQ (fun (p:Nat × Value) w'=>Ext w w'∧p.1≤n∧Own brE T.api_Branch w.heap.size w' p.2 ((List.range p.1).map (aC8 s))∧∀j,j<p.1→cB s (5+8*j) 4≤1000000) (fun p=> [(0,.string s),(3,.int .i64 (n:Nat)),(4,p.2),(5,.int .i64 (p.1:Nat))]) (fun p=>n - p.1) (0,.slice none 0 0) ⟨rfl,rfl,rfl,rfl,trivial⟩ ⟨Ext.refl _,by simp,Own.nil _ _ _,fun j hj=>absurd hj (by simp)⟩ ?_;rintro ⟨i,v4⟩ ρ w3 ⟨x3,hi,ho,hlow⟩;simp only at hi ho hlow;dsimp only)|refine zL (x:=.tmp 36) (p:=((i:Nat):Int)<((n:Nat):Int)) rfl (fun h=>?_) (fun h=>?_)|refine go1 ?_|refine zg λ_ _=>?_|refine zi λ_ _=>?_|(first|refine zJ rfl (fun hh=>absurd hh (by omega)) (fun hh=>?_)|refine zJ rfl (fun hh=>?_) (fun hh=>absurd hh (by omega))|refine zJ rfl (fun hh=>?_) (fun hh=>?_)|refine cG rfl (fun hh=>absurd hh (by omega)) (fun hh=>?_)|refine cG rfl (fun hh=>?_) (fun hh=>absurd hh (by omega))|refine cG rfl (fun hh=>?_) (fun hh=>?_))|(first|refine zL rfl (fun hh=>absurd hh (by omega)) (fun _=>?_)|refine zN rfl (fun hh=>absurd hh (by omega)) (fun _=>?_)|refine zz rfl ?_))
   ·exact aC rfl (bad (Ext.refl _) (bBc (by rw [hb0,hN];omega)))
   ·have hin:i<n:=by omega
    have q1:=gW s 2 (1+8*i)
    have q2:=gW s 2 (3+8*i)
    have q3:=gW s 4 (5+8*i)
    repeat' (first|refine rI (d:=some 42) (a:=8) (b:=(i:Nat)) rfl rfl (by omega) ?_|refine rI (d:=some 50) (a:=8) (b:=(i:Nat)) rfl rfl (by omega) ?_|refine rI (d:=some 58) (a:=8) (b:=(i:Nat)) rfl rfl (by omega) ?_|(refine zC (d:=some 44) (congrArg (fun z=> [Value.string s,Value.int .i64 z,Value.int .i64 2]) (by omega)) (aKp s (1+8*i) 2 (by decide) (by omega) (by omega) _) ?_;rintro _ w4 ⟨rfl,x4⟩)|(refine zC (d:=some 52) (congrArg (fun z=> [Value.string s,Value.int .i64 z,Value.int .i64 2]) (by omega)) (aKp s (3+8*i) 2 (by decide) (by omega) (by omega) _) ?_;rintro _ w5 ⟨rfl,x5⟩)|(refine zC (d:=some 60) (congrArg (fun z=> [Value.string s,Value.int .i64 z,Value.int .i64 4]) (by omega)) (aKp s (5+8*i) 4 (by decide) (by omega) (by omega) _) ?_;rintro _ w6 ⟨rfl,x6⟩)|refine zL (x:=.tmp 64) (p:=((cB s (5+8*i) 4:Nat):Int)>1000000) rfl (fun h6=>?_) (fun h6=>?_)|refine aJ (d:=some 67) (.int .u16 (cB s (1+8*i) 2:Nat)) rfl (congrArg (fun n=>some (Value.int .u16 n)) (aDc q1)) ?_|refine aJ (d:=some 69) (.int .u16 (cB s (3+8*i) 2:Nat)) rfl (congrArg (fun n=>some (Value.int .u16 n)) (aDc q2)) ?_|refine aJ (d:=some 71) (.int .u32 (cB s (5+8*i) 4:Nat)) rfl (congrArg (fun n=>some (Value.int .u32 n)) (aPl q3)) ?_|refine bL (d:=some 72) (cs:=brE.f (aC8 s i)) rfl ?_|refine zI (d:=some 73) (cs:=brE.f (aC8 s i)) rfl (fun b9 w9 x9 a9 hb9=>?_)|refine cK (d:=some 74) (E:=brE) (v:=v4) (l2:= [aC8 s i]) rfl (ho.ext (by exact fx)) (Ext.size (w:=w) (by exact fx)) rfl rfl (eS a9 rfl) rfl rfl (by simp;omega) (fun v10 w10 o10 c10=>?_)|refine go1 ?_|refine zg λ_ _=>?_|refine zi λ_ _=>?_)
    ·exact aC rfl (bad (by exact fx) (bD2 (by rw [hN];exact hin) (by omega)))
    ·refine ⟨(i+1,v10),⟨rfl,rfl,rfl,rfl,trivial⟩,⟨(Ext.chg (w:=w) (by exact fx) c10).mono (fun b hb=>.inr (ho.base b hb)),by simp only;omega,by simp only;rw [aXv];exact o10,fun j hj=>?_⟩,by simp only;omega⟩
     simp only at hj
     rcases Nat.lt_or_ge j i with h7|h7
     ·exact hlow j h7
     ·have:j=i:=by omega
      subst this;omega
   ·have ei:i=n:=by omega
    subst ei
    have e:=bJk hz0 (by rw [hb0,hN];omega) (fun j hj=>hlow j (by omega))
    rw [hN] at e
    rw [e]
    repeat' (first|refine go1 ?_|refine zg λ_ _=>?_|refine zi λ_ _=>?_)
    exact aC rfl ⟨ho.sl,ho.base,x3⟩
 ·have e:=bLn hz
  simp only [not_or] at hz
  refine xO rfl ?_
  unfold pL
  refine oy ?_
  repeat' (first|refine go1 ?_|refine zg λ_ _=>?_|refine zi λ_ _=>?_|(first|refine zJ rfl (fun hh=>absurd hh (by omega)) (fun hh=>?_)|refine zJ rfl (fun hh=>?_) (fun hh=>absurd hh (by omega))|refine zJ rfl (fun hh=>?_) (fun hh=>?_)|refine cG rfl (fun hh=>absurd hh (by omega)) (fun hh=>?_)|refine cG rfl (fun hh=>?_) (fun hh=>absurd hh (by omega))|refine cG rfl (fun hh=>?_) (fun hh=>?_))|(first|refine zL rfl (fun _=>?_) (fun hh=>absurd (by omega) hh)|refine zN rfl (fun _=>?_) (fun hh=>absurd hh (by omega))|refine zy rfl ?_))
  all_goals exact aC rfl (bad (Ext.refl _) e)
theorem aUv {l:List ByteArray} (h:¬(l.length=1∧(l.headD default).size=3∧bS (l.headD default) 0<3)):gG l=none:=by unfold gG;rw [if_neg h]
def sgV (l:List ByteArray):Value:=match gG l with
 |none=>.tuple #[.int .i64 (-1),.int .i64 0]
 |some p=>.tuple #[.int .i64 (p.1:Nat),.int .i64 (p.2:Nat)]
theorem bLu {v:Value} {l:List ByteArray} (w:World) (hv:SlE bO w v l) (hz:∀z∈l,z.size≤1000000):K.Spec Tryz.prog F.kedgeref08_Signed [v] w fun r w'=>r=sgV l∧Ext w w':=by
 have bad:gG l=none→sgV l=.tuple #[.int .i64 (-1),.int .i64 0]:=fun e=>by unfold sgV;rw [e]
 by_cases h1:l.length=1
 ·obtain ⟨z,rfl⟩:=List.length_eq_one_iff.1 h1
  by_cases h3:z.size=3
  ·have b0:=kF (s:=z) (i:=0) (by omega)
   have b1:=kF (s:=z) (i:=1) (by omega)
   have b2:=kF (s:=z) (i:=2) (by omega)
   have l0:=z[0].toNat_lt
   have l1:=z[1].toNat_lt
   have l2:=z[2].toNat_lt
   by_cases h0:bS z 0<3
   ·have e:sgV [z]=.tuple #[.int .i64 (bS z 0:Nat),.int .i64 (cB z 1 2:Nat)]:=by
     unfold sgV
     have:gG [z]=some (bS z 0,cB z 1 2):=by unfold gG;rw [if_pos ⟨rfl,h3,h0⟩];rfl
     rw [this]
    have hn2:=bGm z 1
    rw [e,hn2,b0,b1,show 1+1=2 by rfl,b2]
    rw [b0] at h0
    generalize hc0:z[0].toNat=c0 at*
    generalize hc1:z[1].toNat=c1 at*
    generalize hc2:z[2].toNat=c2 at*
    refine iF rfl ?_
    unfold fP
    refine oy ?_
    repeat' (first|refine bY (d:=some 5) rfl (SlE.ext (w:=w) (by exact fx) hv) ?_|refine aT (d:=some 9) (E:=bO) rfl rfl (n:=0) (l:= [z]) (SlE.ext (w:=w) (by exact fx) hv) rfl (by simp) (fun ad9 (r9:Row _ ad9 [Value.string z])=>?_)|refine aT (d:=some 16) (E:=bO) rfl rfl (n:=0) (l:= [z]) (SlE.ext (w:=w) (by exact fx) hv) rfl (by simp) (fun ad16 (r16:Row _ ad16 [Value.string z])=>?_)|refine aT (d:=some 22) (E:=bO) rfl rfl (n:=0) (l:= [z]) (SlE.ext (w:=w) (by exact fx) hv) rfl (by simp) (fun ad22 (r22:Row _ ad22 [Value.string z])=>?_)|refine aT (d:=some 27) (E:=bO) rfl rfl (n:=0) (l:= [z]) (SlE.ext (w:=w) (by exact fx) hv) rfl (by simp) (fun ad27 (r27:Row _ ad27 [Value.string z])=>?_)|refine aT (d:=some 32) (E:=bO) rfl rfl (n:=0) (l:= [z]) (SlE.ext (w:=w) (by exact fx) hv) rfl (by simp) (fun ad32 (r32:Row _ ad32 [Value.string z])=>?_)|(refine iY (d:=some 18) (k:=.i64) (n:=0) rfl rfl (by omega) ?_;rw [hc0])|(refine iY (d:=some 24) (k:=.i64) (n:=0) rfl rfl (by omega) ?_;rw [hc0])|(refine iY (d:=some 29) (k:=.i64) (n:=1) rfl rfl (by omega) ?_;rw [hc1])|(refine iY (d:=some 34) (k:=.i64) (n:=2) rfl rfl (by omega) ?_;rw [hc2])|refine aJ (d:=some 25) (.int .i64 (c0:Nat)) rfl (congrArg (fun n=>some (Value.int .i64 n)) (uV (by omega))) ?_|refine aJ (d:=some 30) (.int .i64 (c1:Nat)) rfl (congrArg (fun n=>some (Value.int .i64 n)) (uV (by omega))) ?_|refine aJ (d:=some 35) (.int .i64 (c2:Nat)) rfl (congrArg (fun n=>some (Value.int .i64 n)) (uV (by omega))) ?_|refine rI (d:=some 36) (a:=256) (b:=(c2:Nat)) rfl rfl (by omega) ?_|refine aJ (d:=some 37) (.int .i64 ((c1+256*c2:Nat):Int)) rfl (congrArg (fun n=>some (Value.int .i64 n)) (by rw [show ((c1:Nat):Int)+256*((c2:Nat):Int)=((c1+256*c2:Nat):Int) by omega];exact IntWalk.i64_in _ (by omega))) ?_|refine go1 ?_|refine zg λ_ _=>?_|refine zi λ_ _=>?_|(first|refine zJ rfl (fun hh=>absurd hh (by omega)) (fun hh=>?_)|refine zJ rfl (fun hh=>?_) (fun hh=>absurd hh (by omega))|refine zJ rfl (fun hh=>?_) (fun hh=>?_)|refine cG rfl (fun hh=>absurd hh (by omega)) (fun hh=>?_)|refine cG rfl (fun hh=>?_) (fun hh=>absurd hh (by omega))|refine cG rfl (fun hh=>?_) (fun hh=>?_))|(first|refine zL rfl (fun hh=>absurd hh (by omega)) (fun _=>?_)|refine zN rfl (fun hh=>absurd hh (by omega)) (fun _=>?_)|refine zz rfl ?_))
    exact aC rfl ⟨rfl,by exact fx⟩
   ·have e:=bad (aUv (fun q=>h0 q.2.2))
    rw [e]
    rw [b0] at h0
    generalize hc0:z[0].toNat=c0 at*
    refine iF rfl ?_
    unfold fP
    refine oy ?_
    repeat' (first|refine bY (d:=some 5) rfl (SlE.ext (w:=w) (by exact fx) hv) ?_|refine aT (d:=some 9) (E:=bO) rfl rfl (n:=0) (l:= [z]) (SlE.ext (w:=w) (by exact fx) hv) rfl (by simp) (fun ad9 (r9:Row _ ad9 [Value.string z])=>?_)|refine aT (d:=some 16) (E:=bO) rfl rfl (n:=0) (l:= [z]) (SlE.ext (w:=w) (by exact fx) hv) rfl (by simp) (fun ad16 (r16:Row _ ad16 [Value.string z])=>?_)|(refine iY (d:=some 18) (k:=.i64) (n:=0) rfl rfl (by omega) ?_;rw [hc0])|refine go1 ?_|refine zg λ_ _=>?_|refine zi λ_ _=>?_|(first|refine zJ rfl (fun hh=>absurd hh (by omega)) (fun hh=>?_)|refine zJ rfl (fun hh=>?_) (fun hh=>absurd hh (by omega))|refine zJ rfl (fun hh=>?_) (fun hh=>?_)|refine cG rfl (fun hh=>absurd hh (by omega)) (fun hh=>?_)|refine cG rfl (fun hh=>?_) (fun hh=>absurd hh (by omega))|refine cG rfl (fun hh=>?_) (fun hh=>?_))|(first|refine zL rfl (fun _=>?_) (fun hh=>absurd (by omega) hh)|refine zN rfl (fun _=>?_) (fun hh=>absurd hh (by omega))|refine zy rfl ?_))
    exact aC rfl ⟨rfl,by exact fx⟩
  ·have e:=bad (aUv (l:= [z]) (fun q=>h3 q.2.1))
   rw [e]
   refine iF rfl ?_
   unfold fP
   refine oy ?_
   repeat' (first|refine bY (d:=some 5) rfl (SlE.ext (w:=w) (by exact fx) hv) ?_|refine aT (d:=some 9) (E:=bO) rfl rfl (n:=0) (l:= [z]) (SlE.ext (w:=w) (by exact fx) hv) rfl (by simp) (fun ad9 (r9:Row _ ad9 [Value.string z])=>?_)|refine go1 ?_|refine zg λ_ _=>?_|refine zi λ_ _=>?_|(first|refine zJ rfl (fun hh=>absurd hh (by omega)) (fun hh=>?_)|refine zJ rfl (fun hh=>?_) (fun hh=>absurd hh (by omega))|refine zJ rfl (fun hh=>?_) (fun hh=>?_)|refine cG rfl (fun hh=>absurd hh (by omega)) (fun hh=>?_)|refine cG rfl (fun hh=>?_) (fun hh=>absurd hh (by omega))|refine cG rfl (fun hh=>?_) (fun hh=>?_))|(first|refine zL rfl (fun _=>?_) (fun hh=>absurd (by omega) hh)|refine zN rfl (fun _=>?_) (fun hh=>absurd hh (by omega))|refine zy rfl ?_))
   all_goals exact aC rfl ⟨rfl,by exact fx⟩
 ·have e:=bad (aUv (fun q=>h1 q.1))
  rw [e]
  refine iF rfl ?_
  unfold fP
  refine oy ?_
  repeat' (first|refine bY (d:=some 5) rfl (SlE.ext (w:=w) (by exact fx) hv) ?_|refine go1 ?_|refine zg λ_ _=>?_|refine zi λ_ _=>?_|(first|refine zJ rfl (fun hh=>absurd hh (by omega)) (fun hh=>?_)|refine zJ rfl (fun hh=>?_) (fun hh=>absurd hh (by omega))|refine zJ rfl (fun hh=>?_) (fun hh=>?_)|refine cG rfl (fun hh=>absurd hh (by omega)) (fun hh=>?_)|refine cG rfl (fun hh=>?_) (fun hh=>absurd hh (by omega))|refine cG rfl (fun hh=>?_) (fun hh=>?_))|(first|refine zL rfl (fun _=>?_) (fun hh=>absurd (by omega) hh)|refine zN rfl (fun _=>?_) (fun hh=>absurd hh (by omega))|refine zy rfl ?_))
  all_goals exact aC rfl ⟨rfl,by exact fx⟩
end
end Go.Proofs.YtfebcajheojodaaGreatDoor
