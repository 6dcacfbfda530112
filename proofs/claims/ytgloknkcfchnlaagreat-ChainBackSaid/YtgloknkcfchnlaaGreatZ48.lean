/- Contracts: a block's transactions over coins, each over thos -/
import Derived.Test.YtgloknkcfchnlaaGreatZ45
import Derived.Test.YtgloknkcfchnlaaGreatZ47
set_option linter.unusedVariables false
set_option linter.unusedSimpArgs false
namespace Go.Proofs.YtgloknkcfchnlaaGreat
section
open Go Go.K
attribute [local irreducible] aF aP bG KOp.wp K.Spec u32 leS vnS str aR aE aQ bS idT aO inE dZ nP jJ fB eF
theorem bBw:∀{txs:List Tx},(∀t∈txs,MkOk t)→fE txs≤3*txs.length
 | [],_=>by simp [fE]
 |t::ts,h=>by
  have h1:=bBw (txs:=ts) fun t ht=>h t (by simp [ht])
  have h2:=(h t (by simp)).outs
  have e:fE (t::ts)=t.outs.length+fE ts:=by simp [fE]
  rw [e,List.length_cons];omega
theorem aC1.of_mk {txs:List Tx} (h:∀t∈txs,MkOk t) (hl:txs.length≤4):aC1 txs:=⟨hl,by have:=bBw h;omega,fun t ht=>(h t ht).sm⟩
theorem SlE.offO {α:Type} {F:Enc α} {w w':World} {v:Value} {l:List α} {L:List Nat} (h:SlE F w v l) (c:Chg L w w') (ho:0<l.length→∀y∈aB v,y∉L):SlE F w' v l:=by
 by_cases hp:0<l.length
 ·exact h.chg c fun a m k hv=>ho hp a.block (by rw [hv];simp [aB])
 ·have hl:l= []:=List.length_eq_zero_iff.1 (by omega)
  subst hl
  exact h.anyw
set_option maxHeartbeats 8000000 in
theorem aEc {M:List Nat} {lv sv:Value} {l:List En} {zs:List BSm} (h:Int) (w:World) (hv:SlE bM w lv l) (hg:CG l) (hsc:SC l) (hz:SlR aSn M w sv zs) (hn:l.length≤70000) (hh:0≤h∧h≤1000000) (hM:∀b∈M,b<w.heap.size):
  K.Spec Tryz.prog F.kedgelaw13_made [lv,sv,.int .i64 h] w fun r w'=>∃txs,bR txR T.api_Tx w.heap.size M w' r txs∧txs.length≤4∧(∀t∈txs,MkOk t)∧Ext w w':=by
 refine aJe rfl ?_
 unfold wQ
 refine oy ?_
 repeat (first|refine zG (d:=some 15) (E:=aSn) (M:=M) (l:=zs) rfl hz ?_|refine tE (d:=some 17) (E:=aSn) (n:=min zs.length 4) rfl rfl (by omega) hz (by omega) rfl (fun v' hv'=>?_)|refine zG (d:=some 18) (E:=aSn) (M:=M) (l:=zs.take (min zs.length 4)) rfl hv' ?_|refine go1 ?_|refine zg λ_ _=>?_|refine zi λ_ _=>?_)
 have hSl:(zs.take (min zs.length 4)).length≤4:=by rw [List.length_take];omega
 generalize zs.take (min zs.length 4)=S at*
 clear hz
 refine aI (fun (p:Nat × Value × List Tx × Value × List En) w'=>Ext w w'∧p.1≤S.length∧bR txR T.api_Tx w.heap.size M w' p.2.1 p.2.2.1∧p.2.2.1.length=p.1∧(∀t∈p.2.2.1,MkOk t)∧SlE bM w' p.2.2.2.1 p.2.2.2.2∧CG p.2.2.2.2∧SC p.2.2.2.2∧p.2.2.2.2.length≤l.length+3*p.1∧(0<p.2.2.2.2.length→∀y∈aB p.2.2.2.1,y∉aB p.2.1)) (fun p=> [(2,.int .i64 h),(7,p.2.1),(8,p.2.2.2.1),(17,v'),(18,.int .i64 (S.length:Nat)),(19,.int .i64 (p.1:Nat))]) (fun p=>S.length - p.1) (0,.slice none 0 0, [],lv,l) ⟨rfl,rfl,rfl,rfl,rfl,rfl,trivial⟩ ⟨Ext.refl _,by simp,bR.nil _ _ _ _,rfl,by simp,hv,hg,hsc,by simp,fun _ y _ hm=>by simp [aB] at hm⟩ ?_
 rintro ⟨k,vo,txs,vm,m⟩ ρ w1 ⟨x1,hk,o1,htl,hmk,hm1,g1,sc1,hml,hoff⟩
 simp only at hk o1 htl hmk hm1 g1 sc1 hml hoff
 dsimp only
 have s1:=x1.size
 repeat (first|refine go1 ?_|refine zg λ_ _=>?_|refine zi λ_ _=>?_)
 refine zL (x:=.tmp 20) (p:=((k:Nat):Int)<((S.length:Nat):Int)) rfl (fun h5=>?_) (fun h5=>?_)
 ·have hkl:k<S.length:=by omega
  have hM1:∀b∈M,b<w1.heap.size:=fun b hb=>nLt (hM b hb) s1
  have o1b:=o1.base
  have o1l:=o1.lt
  have hM1':∀b∈aB vo++M,b<w1.heap.size:=fun b hb=>by
   rcases List.mem_append.1 hb with hb|hb
   ·exact o1l b hb
   ·exact hM1 b hb
  have hvz:SlR aSn (aB vo++M) w1 v' S:=hv'.step x1 (by simp) (aCa o1b)
  repeat (first|(refine aM (d:=some 22) (E:=aSn) (M:=aB vo++M) rfl rfl (n:=k) (l:=S) hvz rfl hkl (fun ad cs r4 he=>?_);obtain ⟨fv,rfl,hfr, -⟩:=id he;obtain ⟨q1,q2,efv⟩:=hfr.form)|refine aT2 (d':=10) (e:=9) (fun _=>rfl) (fun _=>rfl) rfl rfl rfl (by rw [efv];rfl) (fun b10 w2 x2 a2 (r2:Row w2 ⟨b10,0,none⟩ (aAg S[k] fv)) hb2=>?_)|refine go1 ?_|refine zg λ_ _=>?_|refine zi λ_ _=>?_)
  have s2:=x2.size
  refine zC (d:=some 27) rfl (aZe (M:=aB vo++M) (cs:=aAg S[k] fv) (l:=m) (z:=S[k]) h _ (hm1.ext x2) g1 sc1 (R.ext he x2) (by omega) hh (fun b hb=>nLt (hM1' b hb) s2)) ?_
  rintro _ w3 ⟨cs',t,rfl,t3,mk3,x3⟩
  have ht3:=t3.rel (fun b hb=>nLt (hM1' b hb) s2)
  have ones:=txR.one ht3
  have hl4:=txR.len ht3
  obtain ⟨c0,c1,c2,c3,rfl⟩:∃c0 c1 c2 c3,cs'= [c0,c1,c2,c3]:=by
   match cs',hl4 with
   | [c0,c1,c2,c3],_=>exact ⟨c0,c1,c2,c3,rfl⟩
  repeat (first|refine zE (d':=11) (fun _=>rfl) rfl rfl (List.all_eq_true.2 ones) (fun b11 w4 x4 a4 (r4:Row w4 ⟨b11,0,none⟩ [c0,c1,c2,c3]) hb4=>?_)|refine zI (d:=some 30) (cs:= [c0,c1,c2,c3]) rfl (fun b30 w5 x5 a5 hb5=>?_)|refine go1 ?_|refine zg λ_ _=>?_|refine zi λ_ _=>?_)
  have x35:Ext w3 w5:=x4.trans x5
  have x15:Ext w1 w5:=(x2.trans x3).trans x35
  refine gB (d:=some 31) (E:=txR) (M:=M) (v:=vo) (cs:= [c0,c1,c2,c3]) (a:=t) rfl rfl (o1.ext x15) (nTr s1 x15.size) rfl rfl a5 (R.ext ht3 x35) (by omega) (fun v6 w6 o6 c6 hb6=>?_)
  have s36:=x3.size
  have s45:=x4.size
  have s56:=x5.size
  have s66:=c6.size
  have ht6:txR.rel (aB vo++M) w6 [c0,c1,c2,c3] t:=txR.step (R.ext ht3 x35) c6 (fun y hy=>.inl (by simp [hy])) (fun y hy=>.inl hy)
  have r6:=Row.chg c6 (Row.ext x5 r4) (fun h=>by have:=o1l _ h;simp only at this;omega)
  have hm6:SlE bM w6 vm m:=SlE.offO (hm1.ext x15) c6 hoff
  have x06:Ext w w6:=(Ext.chg (x1.trans x15) c6).mono (fun y hy=>.inr (o1b y hy))
  have hol:=mk3.outs
  repeat (first|refine go1 ?_|refine zg λ_ _=>?_|refine zi λ_ _=>?_)
  refine zC (d:=some 37) rfl (aBk (M:=aB vo++M) (cs:= [c0,c1,c2,c3]) (t:=t) (l:=m) k h _ (by omega) hm6 g1 sc1 ht6 mk3.sm (by omega)) ?_
  rintro _ w7 ⟨vl,rfl,hvl,hnew,x7⟩
  unfold bA0
  have hlo:=aD7 g1 t k h
  repeat (first|refine go1 ?_|refine zg λ_ _=>?_|refine zi λ_ _=>?_)
  refine ⟨(k+1,v6,txs++ [t],vl,(fB m t k h).1),⟨rfl,rfl,rfl,rfl,rfl,rfl,trivial⟩,⟨x06.trans x7,by simp only;omega,o6.ext x7,by simp [htl],fun y hy=>?_,hvl,sC g1 _ _ _,aIs g1 sc1 _ _ _,by simp only;omega,fun hp y hy hv6=>?_⟩,by simp only;omega⟩
  ·rcases List.mem_append.1 hy with hy|hy
   ·exact hmk y hy
   ·simp at hy;subst hy;exact mk3
  ·rcases hnew with ⟨rfl,e⟩|hf
   ·simp only [e] at hp
    have hlt:=SlE.blk_lt hm1 hp y hy
    rcases hb6 y hv6 with h|h
    ·exact hoff hp y hy h
    ·have:=x15.size;omega
   ·have:=hf y hy
    have:=o6.lt y hv6
    omega
 ·repeat (first|refine go1 ?_|refine zg λ_ _=>?_|refine zi λ_ _=>?_)
  exact aA rfl ⟨txs,o1,by omega,hmk,x1⟩
end
section
open Go Go.K
attribute [local irreducible] aF aP bG KOp.wp K.Spec u32 leS vnS str aR aE aQ bS idT aO inE dZ nP jJ fB eF bI aGk aEh fR
theorem lC {bs:List (List Tx)} {n:Nat} (h:∀b∈bs,aC1 b) (hn:bs.length≤n) (k:Nat) (hk:k≤bs.length):(cM bs k).length≤12*n:=by
 have:=aDk h k
 have:12*k≤12*n:=by omega
 omega
theorem aXq {ch:Ch} {txs:List Tx} (h:∀b∈ch.bs,aC1 b) (hx:aC1 txs):∀b∈(cS ch txs).bs,aC1 b:=fun b hb=>by
 unfold cS at hb
 split at hb
 ·exact h b hb
 ·simp at hb
  rcases hb with hb|rfl
  ·exact h b hb
  ·exact hx
theorem bKt {ch:Ch} {txs:List Tx} {n:Nat} (h1:ch.bs.length≤n) (h2:ch.top≤n):(cS ch txs).bs.length≤n+1∧(cS ch txs).top≤n+1:=by
 unfold cS
 split
 ·exact ⟨by omega,by omega⟩
 ·simp;omega
theorem bNg {ch:Ch} (h:∀b∈ch.bs,aC1 b):∀b∈(eW ch).bs,aC1 b:=fun b hb=>by
 unfold eW at hb
 split at hb
 ·exact h b hb
 ·exact h b (List.mem_of_mem_take hb)
theorem bMj {ch:Ch} {n:Nat} (h1:ch.bs.length≤n) (h2:ch.top≤n):(eW ch).bs.length≤n∧(eW ch).top≤n:=by
 unfold eW
 split
 ·exact ⟨h1,h2⟩
 ·simp;omega
theorem aRe.nilE {w:World} {v:Value} {c a i:Int} (h:aRe w v c a i):(c=0→v=.nilIface)∧(c≠0→∃t u,v=.iface t u):=by
 rcases h with ⟨h1,h2⟩|⟨h1,⟨h2, -⟩|⟨-,_,_,h2, -⟩⟩
 ·exact ⟨fun _=>h2,fun h=>absurd h1 h⟩
 ·exact ⟨fun h=>absurd h h1,fun _=>⟨_,_,h2⟩⟩
 ·exact ⟨fun h=>absurd h h1,fun _=>⟨_,_,h2⟩⟩
abbrev c13 (bv:Value) (top:Nat):List Value:= [bv,.int .i64 (top:Nat)]
set_option maxHeartbeats 16000000 in
theorem aR8 {v:Value} {acts:List BAct} (w:World) (hz:SlR nG [] w v acts):K.Spec Tryz.prog F.kedgelaw13_ChainMoney [v] w fun r w'=>r=.bool true∧Ext w w':=by
 refine aAy rfl ?_
 unfold pI
 refine oy ?_
 repeat (first|refine go1 ?_|refine zg λ_ _=>?_|refine zi λ_ _=>?_)
 refine zC (d:=some 23) rfl (aCd (U:= []) _ (by simp)) ?_
 rintro _ w1 ⟨c,M1,rfl,C1,hM1,x1⟩
 repeat (first|refine zH (d:=some 4) (fun b4 w2 x2 a2 hb2=>?_)|refine zI (d:=some 24) (cs:= [.int .i64 0]) rfl (fun b5 w3 x3 a3 hb3=>?_)|refine zG (d:=some 27) (E:=nG) (M:= []) (l:=acts) rfl (SlR.ext hz (by exact fx)) ?_|refine tE (d:=some 29) (E:=nG) (n:=min acts.length 12) rfl rfl (by omega) hz (by omega) rfl (fun v' hv'=>?_)|refine zG (d:=some 30) (E:=nG) (M:= []) (l:=acts.take (min acts.length 12)) rfl (SlR.ext hv' (by exact fx)) ?_|refine go1 ?_|refine zg λ_ _=>?_|refine zi λ_ _=>?_)
 have hSl:(acts.take (min acts.length 12)).length≤12:=by rw [List.length_take];omega
 generalize acts.take (min acts.length 12)=S at*
 have x03:Ext w w3:=x1.trans (x2.trans x3)
 have s1:=x1.size
 have s2:=x2.size
 have s3:=x3.size
 have l4:=a2.lt
 have hlt1:=C1.lt
 have x03':Unit→Ext w w3:=fun _=>x03
 have e0:fR []= [0]:=by unfold fR;rfl
 have hM3:∀y∈M1,w.heap.size≤y:=hM1
 refine aI (fun (p:Nat × Ch × List Nat × Value × Value) w'=>Ext w w'∧p.1≤S.length∧ChR (b4::aB p.2.2.2.1) w' w.heap.size c p.2.2.1 p.2.1∧At w' b4 (.cells (c13 p.2.2.2.2 p.2.1.top).toArray T.kedgeref13_Chain (0,0))∧SlR (dW txR) (p.2.2.1++b4::aB p.2.2.2.1) w' p.2.2.2.2 p.2.1.bs∧Own aAj T.int w.heap.size w' p.2.2.2.1 (fR p.2.1.bs)∧b4∉aB p.2.2.2.1∧(∀b∈p.2.1.bs,aC1 b)∧p.2.1.bs.length≤p.1∧p.2.1.top≤p.1) (fun p=> [(3,.pointer (some ⟨c,0,none⟩)),(4,.pointer (some ⟨b4,0,none⟩)),(5,p.2.2.2.1),(29,v'),(30,.int .i64 (S.length:Nat)),(31,.int .i64 (p.1:Nat))]) (fun p=>S.length - p.1) (0,⟨[],0⟩,M1,.slice (some ⟨b5,0,none⟩) 1 1,.slice none 0 0) ⟨rfl,rfl,rfl,rfl,rfl,rfl,trivial⟩ ⟨x03,by simp,?_,?_,SlR.nil _ _,?_,?_,by simp,by simp,by simp⟩ ?_
 ·have q:ChR (b4::aB (.slice (some ⟨b5,0,none⟩) 1 1)) w1 w.heap.size c M1 ⟨[],0⟩:=C1.more (fun y hy=>by
   simp [aB] at hy
   rcases hy with rfl|rfl
   ·exact .inr hb2
   ·exact .inr (by omega))
  exact q.ext (x2.trans x3)
 ·exact At.ext x3 a2
 ·rw [e0]
  exact .inr ⟨b5,1, [],rfl,by omega,a3,rfl⟩
 ·simp [aB];omega
 rintro ⟨i,ch,M,lv,bv⟩ ρ w4 ⟨x4,hi,C4,a4,hbv,ol,hnl,hbk,hbl,htop⟩
 simp only at hi C4 a4 hbv ol hnl hbk hbl htop
 dsimp only
 have hMb:=C4.base
 have hMl:=C4.lt
 have hMo:=C4.off
 have olb:=ol.base
 have oll:=Own.blk_lt ol
 have s4:=x4.size
 have l44:=a4.lt
 have hcl:(aZ ch.bs).length≤144:=lC (n:=12) hbk (by omega) _ (Nat.le_refl _)
 have hcn:∀k,k≤ch.bs.length→(cM ch.bs k).length≤144:=fun k hk=>lC (n:=12) hbk (by omega) k hk
 have sl0:=ol.sl
 have hb4b:w.heap.size≤b4:=by omega
 have hN:∀y∈M++b4::aB lv,y<w4.heap.size:=fun y hy=>by
  simp only [List.mem_append,List.mem_cons] at hy
  rcases hy with hy|rfl|hy
  ·exact hMl y hy
  ·exact l44
  ·exact oll y hy
 have hNb:∀y∈M++b4::aB lv,w.heap.size≤y:=fun y hy=>by
  simp only [List.mem_append,List.mem_cons] at hy
  rcases hy with hy|rfl|hy
  ·exact hMb y hy
  ·exact hb4b
  ·exact olb y hy
 have hvN:SlR nG (M++b4::aB lv) w4 v' S:=hv'.step x4 (by simp) (fun y hy=>.inr (hNb y hy))
 repeat (first|refine go1 ?_|refine zg λ_ _=>?_|refine zi λ_ _=>?_)
 refine zL (x:=.tmp 32) (p:=((i:Nat):Int)<((S.length:Nat):Int)) rfl (fun h5=>?_) (fun h5=>?_)
 ·have hil:i<S.length:=by omega
  repeat (first|(refine aM (d:=some 33) (E:=nG) (M:=M++b4::aB lv) rfl rfl (n:=i) (l:=S) hvN rfl hil (fun ad cs r4 he=>?_);obtain ⟨tv,rfl,htv⟩:=id he;obtain ⟨q1,q2,etv⟩:=htv.form;obtain ⟨a,ha⟩:∃a,a=S[i]:=⟨_,rfl⟩;rw [←ha] at htv r4 etv)|refine zE (d':=7) (fun _=>rfl) rfl rfl (by rw [etv];rfl) (fun b7 w5 x5 a7 (r7:Row w5 ⟨b7,0,none⟩ [u8V a.act,tv]) hb7=>?_)|refine cR (d:=some 37) rfl rfl (aEf a.act.toNat 4 (by decide)) ?_|refine go1 ?_|refine zg λ_ _=>?_|refine zi λ_ _=>?_)
  have x05:Ext w w5:=x4.trans x5
  have C5:=C4.ext x5
  have a45:=a4.ext x5
  have hbv5:=hbv.ext x5
  have ol5:=ol.ext x5
  have sl5:=sl0.ext x5
  have s5:=x5.size
  have l7:=a7.lt
  refine zL (x:=.tmp 38) (p:=((a.act.toNat%4:Nat):Int)=3) rfl (fun hd=>?_) (fun hd=>?_)
  ·repeat (first|refine lD (a:=.seq (.reg false (.cons ⟨some 40,_,none⟩ _)) _) (fun (p:Value × List Nat) w'=>Ext w w'∧ChR (b4::aB p.1) w' w.heap.size c p.2 (eW ch)∧At w' b4 (.cells (c13 bv ch.top).toArray T.kedgeref13_Chain (0,0))∧SlR (dW txR) (p.2++b4::aB p.1) w' bv ch.bs∧Own aAj T.int w.heap.size w' p.1 (fR (eW ch).bs)∧b4∉aB p.1) (fun p=> [(3,.pointer (some ⟨c,0,none⟩)),(4,.pointer (some ⟨b4,0,none⟩)),(5,p.1),(29,v'),(30,.int .i64 (S.length:Nat)),(31,.int .i64 (i:Nat))]) ?_ ?_|refine go1 ?_|refine zg λ_ _=>?_|refine zi λ_ _=>?_)
   ·repeat (first|refine go1 ?_|refine zg λ_ _=>?_|refine zi λ_ _=>?_)
    refine zC (d:=some 41) rfl (sO _ C5 (fun k hk=>nTr (hcn k hk) (by omega)) (by omega) (by omega)) ?_
    rintro _ w6 ⟨tv',M',rfl,C6,hM6,c6, -, -⟩
    have x06:Ext w w6:=(Ext.chg x05 c6).mono (fun y hy=>.inr (hMb y hy))
    have a46:=a45.chg c6 (fun h=>hMo _ h (by simp))
    have o6:=ol5.chg c6 (fun y hy hm=>hMo y hm (by simp [hy]))
    have hbv6:SlR (dW txR) (M'++b4::aB lv) w6 bv ch.bs:=hbv5.step c6 (fun y hy=>.inl (by simp [hy])) (fun y hy=>.inl (by
     rcases List.mem_append.1 hy with hy|hy
     ·exact List.mem_append_left _ (hM6 y hy)
     ·exact List.mem_append_right _ hy))
    have hll:=aFa ch.bs
    by_cases h0:fN ch=0
    ·have hpos:0<ch.bs.length:=by
      rcases Nat.eq_zero_or_pos ch.bs.length with h|h
      ·unfold fN at h0;rw [if_pos h] at h0;exact absurd h0 (by decide)
      ·exact h
     have e1:eW ch=⟨ch.bs.take (ch.bs.length - 1),ch.top⟩:=by unfold eW;rw [if_neg (by simp [h0])]
     rw [h0]
     obtain ⟨bl,cap,rfl,hcap⟩:∃bl cap,lv=.slice (some ⟨bl,0,none⟩) (fR ch.bs).length cap∧(fR ch.bs).length≤cap:=by
      rcases o6.form' with ⟨-,h⟩|h
      ·rw [h] at hll;simp at hll
      ·exact h
     repeat (first|refine aY (d:=some 48) rfl o6.sl ?_|refine yX (d:=some 49) (n:=(fR ch.bs).length) rfl (by omega) (by omega) ?_|refine bGk (d:=some 50) (b:=bl) (len:=(fR ch.bs).length) (cap:=cap) (n:=(fR ch.bs).length - 1) rfl rfl (by omega) ?_|refine go1 ?_|refine zg λ_ _=>?_|refine zi λ_ _=>?_)
     refine ⟨(.slice (some ⟨bl,0,none⟩) ((fR ch.bs).length - 1) cap,M'),⟨rfl,rfl,rfl,rfl,rfl,rfl,trivial⟩,x06,C6,a46,hbv6,?_,hnl⟩
     simp only
     rw [e1,bC7 (by omega),show ch.bs.length - 1+1=(fR ch.bs).length - 1 by omega]
     exact o6.cut (by omega)
    ·have e1:eW ch=ch:=by unfold eW;rw [if_pos h0]
     repeat (first|refine aD (d:=some 45) (.bool false) rfl (congrArg (fun b=>some (Value.bool b)) (dFa h0)) ?_|refine go1 ?_|refine zg λ_ _=>?_|refine zi λ_ _=>?_)
     exact ⟨(lv,M'),⟨rfl,rfl,rfl,rfl,rfl,rfl,trivial⟩,x06,C6,a46,hbv6,by simp only;rw [e1];exact o6,hnl⟩
   ·rintro ⟨lv6,M6⟩ ρ w6 ⟨x6,C6,a46,hbv6,o6,hn6⟩
    simp only at C6 hbv6 o6 hn6
    have r46:=Row.of_at a46
    have o6l:=Own.blk_lt o6
    repeat (first|refine go1 ?_|refine zg λ_ _=>?_|refine zi λ_ _=>?_)
    refine zC (d:=some 53) rfl (bAq (M:=M6++b4::aB lv6) _ hbv6 (by omega) (by omega) (fun y hy=>by
     simp only [List.mem_append,List.mem_cons] at hy
     rcases hy with hy|rfl|hy
     ·exact C6.lt y hy
     ·exact a46.lt
     ·exact o6l y hy)) ?_
    rintro _ w8 ⟨bv',tv2,rfl,hbv8, -, -,x8⟩
    repeat (first|refine go1 ?_|refine zg λ_ _=>?_|refine zi λ_ _=>?_)
    refine bX (b:=b4) (vs:=c13 bv' (eW ch).top) rfl rfl rfl (by simp [hbv8.one];rfl) (a46.ext x8) rfl (fun w9 c9 a9=>?_)
    repeat (first|refine go1 ?_|refine zg λ_ _=>?_|refine zi λ_ _=>?_)
    have dl:=bMj hbl htop
    exact ⟨(i+1,eW ch,M6,lv6,bv'),⟨rfl,rfl,rfl,rfl,rfl,rfl,trivial⟩,⟨(Ext.chg (x6.trans x8) c9).mono (fun y hy=>.inr (by simp at hy;omega)),by simp only;omega,(C6.ext x8).step c9 (fun y hy=>.inl (by simp at hy;simp [hy])),a9,hbv8.step c9 (fun y hy=>.inl (by simp at hy;simp [hy])) (fun y hy=>.inl hy),(o6.ext x8).chg c9 (fun y hy h=>by simp at h;subst h;exact hn6 hy),hn6,bNg hbk,by simp only;omega,by simp only;omega⟩,by simp only;omega⟩
  ·have ek:((ch.bs.length:Nat):Int)+1=((ch.bs.length+1:Nat):Int):=by omega
   have r45:=Row.of_at a45
   repeat (first|refine go1 ?_|refine zg λ_ _=>?_|refine zi λ_ _=>?_)
   refine zC (d:=some 58) rfl (uJ (M:=M++b4::aB lv) ((ch.top:Nat):Int) _ hbv5 hbk (by omega)) ?_
   rintro lvv w6 ⟨hlv6,x6⟩
   repeat (first|refine zG (d:=some 64) (E:=dW txR) (M:=M++b4::aB lv) (l:=ch.bs) rfl (hbv5.ext x6) ?_|refine go1 ?_|refine zg λ_ _=>?_|refine zi λ_ _=>?_)
   rw [ek]
   have s6:=x6.size
   refine zC (d:=some 66) rfl (aEc (M:=M++b4::aB lv) (l:=aZ ch.bs) (zs:=a.txs) ((ch.bs.length+1:Nat):Int) _ hlv6 (gA _ _) (pF _ _) ((htv.ext x5).ext x6) (by omega) (by omega) (fun y hy=>nLt (hN y hy) (nTr s5 s6))) ?_
   rintro vtx w7 ⟨txs,oT,htl,hmk,x7⟩
   have hT:SlR txR (M++b4::aB lv) w7 vtx txs:=oT.slB (fun y hy=>nLt (hN y hy) (nTr s5 s6))
   have hbx:=aC1.of_mk hmk htl
   have x57:Ext w5 w7:=x6.trans x7
   have hll:=aFa ch.bs
   have hc0:=gA ch.bs ch.bs.length
   have hsc0:=pF ch.bs ch.bs.length
   have hrc:=fun h0=>bIu (ch:=ch) (txs:=txs) (by omega) h0
   obtain ⟨L0,hL0⟩:∃L0,L0=aZ ch.bs:=⟨_,rfl⟩
   have hc0:CG L0:=by rw [hL0];exact hc0
   have hsc0:SC L0:=by rw [hL0];exact hsc0
   rw [←hL0] at hlv6 hcl hrc
   have hT0:=(bN _).1 hc0.mon.good
   have hlast:=aPd ch.bs
   rw [←hL0] at hlast
   repeat (first|refine aY (d:=some 69) rfl (sl5.ext x57) ?_|refine yX (d:=some 70) (n:=(fR ch.bs).length) rfl (by omega) (by omega) ?_|(refine aS (d:=some 71) (E:=aAj) rfl rfl (n:=(fR ch.bs).length - 1) (l:=fR ch.bs) (sl5.ext x57) rfl (by omega) (fun ad8 r8=>?_);have r8:Row w7 ad8 [.int .i64 (tot L0)]:=(by have e:(fR ch.bs)[(fR ch.bs).length - 1]'(by omega)=tot L0:=(by rw [←hlast];congr 1;omega);rw [e] at r8;exact r8))|refine zG (d:=some 74) (E:=txR) (M:=M++b4::aB lv) (l:=txs) rfl hT ?_|refine go1 ?_|refine zg λ_ _=>?_|refine zi λ_ _=>?_)
   obtain ⟨H,hH⟩:∃H:Nat,H=ch.bs.length+1:=⟨_,rfl⟩
   rw [←hH] at hrc
   have hHe:((ch.bs.length:Nat):Int)+1=(H:Nat):=by omega
   refine aI (fun (p:Nat × Int × Value × List En) w'=>Ext w7 w'∧p.1≤txs.length∧SlE bM w' p.2.2.1 p.2.2.2∧CG p.2.2.2∧SC p.2.2.2∧p.2.2.2.length≤144+3*p.1∧aEh (H:Nat) txs (tot L0) L0 p.1 p.2.1 p.2.2.2∧ -2100000000000000*((p.1:Nat):Int)≤p.2.1∧p.2.1≤2100000000000000*(((p.1:Nat):Int)+1)) (fun p=> [(3,.pointer (some ⟨c,0,none⟩)),(4,.pointer (some ⟨b4,0,none⟩)),(5,lv),(10,p.2.2.1),(11,vtx),(12,.int .i64 p.2.1),(29,v'),(30,.int .i64 (S.length:Nat)),(31,.int .i64 (i:Nat)),(73,vtx),(74,.int .i64 (txs.length:Nat)),(75,.int .i64 (p.1:Nat))]) (fun p=>txs.length - p.1) (0,tot L0,lvv,L0) ⟨rfl,rfl,rfl,rfl,rfl,rfl,rfl,rfl,rfl,rfl,rfl,rfl,trivial⟩ ⟨Ext.refl _,by simp,hlv6.ext x7,hc0,hsc0,by simpa using hcl,bA4,by simp only;omega,by simp only;omega⟩ ?_
   rintro ⟨k,s,lk,m⟩ ρ w8 ⟨x8,hk,hm8,g8,sc8,hml,hrk,hs1,hs2⟩
   simp only at hk hm8 g8 sc8 hml hrk hs1 hs2
   dsimp only
   have r48:Row w8 ⟨b4,0,none⟩ (c13 bv ch.top):=Row.ext (x57.trans x8) r45
   have hbv8:=hbv5.ext (x57.trans x8)
   repeat (first|refine go1 ?_|refine zg λ_ _=>?_|refine zi λ_ _=>?_)
   refine zL (x:=.tmp 76) (p:=((k:Nat):Int)<((txs.length:Nat):Int)) rfl (fun h6=>?_) (fun h6=>?_)
   ·have hkl:k<txs.length:=by omega
    have hmt:=hmk _ (gMe hkl)
    have hft:=bLj m txs[k] (H:Nat)
    have hnx:=bAm hkl hrk
    have hmo:=hmt.outs
    have hol:=aD7 g8 txs[k] k (H:Nat)
    have gn:=sC g8 txs[k] k (H:Nat)
    have scn:=aIs g8 sc8 txs[k] k (H:Nat)
    repeat (first|(refine aM (d:=some 78) (E:=txR) (M:=M++b4::aB lv) rfl rfl (n:=k) (l:=txs) (hT.ext x8) rfl hkl (fun ad cs r9 he=>?_);obtain ⟨t,ht⟩:∃t,t=txs[k]:=⟨_,rfl⟩;rw [←ht] at he hmt hft hnx hmo hol gn scn;have ones:=txR.one he;obtain ⟨iv,ov,rfl, -⟩:=id he)|refine aT2 (d':=14) (e:=13) (fun _=>rfl) (fun _=>rfl) rfl rfl rfl (List.all_eq_true.2 ones) (fun b14 w9 x9 a14 (r14:Row w9 ⟨b14,0,none⟩ (aJ t iv ov)) hb14=>?_)|refine go1 ?_|refine zg λ_ _=>?_|refine zi λ_ _=>?_)
    have he9:txR.rel (M++b4::aB lv) w9 (aJ t iv ov) t:=R.ext he x9
    refine zC (d:=some 82) rfl (xG (M:=M++b4::aB lv) (cs:=aJ t iv ov) (t:=t) _ he9 hmt.sm) ?_
    rintro _ w10 ⟨rfl,x10⟩
    repeat (first|refine go1 ?_|refine zg λ_ _=>?_|refine zi λ_ _=>?_)
    refine zC (d:=some 86) rfl (lI (M:=M++b4::aB lv) (cs:=aJ t iv ov) (t:=t) _ (R.ext he9 x10) hmt.sm) ?_
    rintro _ w11 ⟨rfl,x11⟩
    have hb1:=aKs (values t)
    have hb2:=aZg (aL m) t (H:Nat)
    cases hgr:aQ t with
    |true=>
     have hfe:aRi m t (H:Nat)=fG (values t):=by unfold aRi;rw [if_pos hgr]
     rw [hfe] at hft hnx
     repeat (first|refine zG (d:=some 110) (E:=dW txR) (M:=M++b4::aB lv) (l:=ch.bs) rfl (SlR.ext hbv8 (by exact fx)) ?_|refine go1 ?_|refine zg λ_ _=>?_|refine zi λ_ _=>?_)
     rw [hHe]
     refine zC (d:=some 112) rfl (aBk (M:=M++b4::aB lv) (cs:=aJ t iv ov) (t:=t) (l:=m) k (H:Nat) _ (by omega) (SlE.ext (w:=w8) (by exact fx) hm8) g8 sc8 (R.ext he9 (by exact fx)) hmt.sm (by omega)) ?_
     rintro _ w12 ⟨vl,rfl,hvl, -,x12⟩
     unfold bA0
     repeat (first|refine go1 ?_|refine zg λ_ _=>?_|refine zi λ_ _=>?_)
     exact ⟨(k+1,s+fG (values t),vl,(fB m t k (H:Nat)).1),⟨rfl,rfl,rfl,rfl,rfl,rfl,rfl,rfl,rfl,rfl,rfl,rfl,trivial⟩,⟨by exact fx,by simp only;omega,hvl,gn,scn,by simp only;omega,hnx,by simp only;omega,by simp only;omega⟩,by simp only;omega⟩
    |false=>
     have hfe:aRi m t (H:Nat)= -(dZ (aL m) t (H:Nat)).1:=by unfold aRi;rw [if_neg (by rw [hgr];decide)]
     rw [hfe,←Int.sub_eq_add_neg] at hnx
     rw [hfe] at hft
     repeat (first|refine zG (d:=some 95) (E:=dW txR) (M:=M++b4::aB lv) (l:=ch.bs) rfl (SlR.ext hbv8 (by exact fx)) ?_|refine go1 ?_|refine zg λ_ _=>?_|refine zi λ_ _=>?_)
     rw [hHe]
     refine zC (d:=some 97) rfl (aL0 (M:=M++b4::aB lv) (cs:=aJ t iv ov) (t:=t) (l:=m) (H:Nat) _ (SlE.ext (w:=w8) (by exact fx) hm8) (R.ext he9 (by exact fx)) hmt.sm (by omega) (fun e he=>by have:=(sc8 e he).1;omega)) ?_
     rintro _ w12 ⟨rfl,x12⟩
     unfold aF6
     repeat (first|refine zG (d:=some 110) (E:=dW txR) (M:=M++b4::aB lv) (l:=ch.bs) rfl (SlR.ext hbv8 (by exact fx)) ?_|refine go1 ?_|refine zg λ_ _=>?_|refine zi λ_ _=>?_)
     rw [hHe]
     refine zC (d:=some 112) rfl (aBk (M:=M++b4::aB lv) (cs:=aJ t iv ov) (t:=t) (l:=m) k (H:Nat) _ (by omega) (SlE.ext (w:=w8) (by exact fx) hm8) g8 sc8 (R.ext he9 (by exact fx)) hmt.sm (by omega)) ?_
     rintro _ w13 ⟨vl,rfl,hvl, -,x13⟩
     unfold bA0
     repeat (first|refine go1 ?_|refine zg λ_ _=>?_|refine zi λ_ _=>?_)
     exact ⟨(k+1,s - (dZ (aL m) t (H:Nat)).1,vl,(fB m t k (H:Nat)).1),⟨rfl,rfl,rfl,rfl,rfl,rfl,rfl,rfl,rfl,rfl,rfl,rfl,trivial⟩,⟨by exact fx,by simp only;omega,hvl,gn,scn,by simp only;omega,hnx,by simp only;omega,by simp only;omega⟩,by simp only;omega⟩
   ·have hke:=bDh (by omega) hrk
    have x58:Ext w5 w8:=x57.trans x8
    have x08:Ext w w8:=x05.trans x58
    have C8:=C5.ext x58
    have a48:=a45.ext x58
    have o8:=ol5.ext x58
    have hT8:=hT.ext x8
    have hN8:∀y∈M++b4::aB lv,y<w8.heap.size:=fun y hy=>nLt (hN y hy) (nTr s5 x58.size)
    have cl:=bKt (txs:=txs) hbl htop
    have cb:=aXq hbk hbx
    rw [hke] at hrc
    have ho4:=hbx.2.1
    repeat (first|refine lD (a:=.seq (.reg false (.cons ⟨some 117,_,none⟩ _)) _) (fun (p:Value × List Nat) w'=>Ext w w'∧ChR (b4::aB p.1) w' w.heap.size c p.2 (cS ch txs)∧At w' b4 (.cells (c13 bv ch.top).toArray T.kedgeref13_Chain (0,0))∧SlR (dW txR) (p.2++b4::aB p.1) w' bv ch.bs∧SlR txR (p.2++b4::aB p.1) w' vtx txs∧Own aAj T.int w.heap.size w' p.1 (fR (cS ch txs).bs)∧b4∉aB p.1) (fun p=> [(3,.pointer (some ⟨c,0,none⟩)),(4,.pointer (some ⟨b4,0,none⟩)),(5,p.1),(11,vtx),(29,v'),(30,.int .i64 (S.length:Nat)),(31,.int .i64 (i:Nat))]) ?_ ?_|refine go1 ?_|refine zg λ_ _=>?_|refine zi λ_ _=>?_)
    ·repeat (first|refine go1 ?_|refine zg λ_ _=>?_|refine zi λ_ _=>?_)
     refine zC (d:=some 119) rfl (pC (U:=b4::aB lv) (N:=M++b4::aB lv) (txs:=txs) _ C8 hT8 (fun y hy=>List.mem_append_left _ hy) (fun y hy=>List.mem_append_right _ hy) (fun y hy=>hN8 y (List.mem_append_right _ hy)) (fun t ht=>(hmk t ht).sm) (by omega) (by rw [←hL0];omega) (by omega) (by omega)) ?_
     rintro e w9 ⟨⟨ii,hE⟩,⟨M',C9,hM9⟩,c9⟩
     obtain ⟨hE1,hE2⟩:=hE.nilE
     have x09:Ext w w9:=(Ext.chg x08 c9).mono (fun y hy=>.inr (hMb y hy))
     have a49:=a48.chg c9 (fun h=>hMo _ h (by simp))
     have o9:=o8.chg c9 (fun y hy hm=>hMo y hm (by simp [hy]))
     have hsub:∀y∈M'++b4::aB lv,y∈M++b4::aB lv∨w8.heap.size≤y:=fun y hy=>by
      rcases List.mem_append.1 hy with hy|hy
      ·exact (hM9 y hy).imp (fun h=>List.mem_append_left _ h) id
      ·exact .inl (List.mem_append_right _ hy)
     have hbv9:SlR (dW txR) (M'++b4::aB lv) w9 bv ch.bs:=hbv8.step c9 (fun y hy=>.inl (List.mem_append_left _ hy)) hsub
     have hT9:SlR txR (M'++b4::aB lv) w9 vtx txs:=hT8.step c9 (fun y hy=>.inl (List.mem_append_left _ hy)) hsub
     by_cases h0:(kM ch txs).1=0
     ·obtain rfl:=hE1 h0
      have e1:(cS ch txs).bs=ch.bs++ [txs]:=by unfold cS;rw [if_neg (by simpa using h0)]
      have ell:fR (cS ch txs).bs=fR ch.bs++ [s]:=by rw [hrc h0,e1,bDk]
      repeat (first|refine zI (d:=some 123) (cs:= [.int .i64 s]) rfl (fun b10 w10 x10 a10 hb10=>?_)|refine go1 ?_|refine zg λ_ _=>?_|refine zi λ_ _=>?_)
      refine kX (d:=some 124) (E:=aAj) (v:=lv) (l2:= [s]) rfl (o9.ext x10) (nTr x09.size x10.size) rfl rfl (dX a10 rfl) rfl rfl (by simp only [List.length_singleton];omega) (fun v11 w11 o11 _ c11 hb11=>?_)
      repeat (first|refine go1 ?_|refine zg λ_ _=>?_|refine zi λ_ _=>?_)
      have q1:ChR (aB v11++(b4::aB lv)) w10 w.heap.size c M' (cS ch txs):=(C9.ext x10).more (fun y hy=>(List.mem_append.1 hy).elim (fun h=>(hb11 y h).imp (fun h=>by simp [h]) id) .inl)
      have q2:=q1.step c11 (fun y hy=>.inl (by simp [hy]))
      have hs11:∀y∈M'++b4::aB v11,y∈M'++b4::aB lv∨w10.heap.size≤y:=fun y hy=>by
       simp only [List.mem_append,List.mem_cons] at hy ⊢
       rcases hy with hy|rfl|hy
       ·exact .inl (.inl hy)
       ·exact .inl (.inr (.inl rfl))
       ·exact (hb11 y hy).imp (fun h=>.inr (.inr h)) id
      exact ⟨(v11,M'),⟨rfl,rfl,rfl,rfl,rfl,rfl,rfl,trivial⟩,(Ext.chg (x09.trans x10) c11).mono (fun y hy=>.inr (olb y hy)),q2.more (fun y hy=>.inl (by
       simp only [List.mem_cons] at hy
       rcases hy with rfl|hy<;>simp [*])),(a49.ext x10).chg c11 hnl,(hbv9.ext x10).step c11 (fun y hy=>.inl (by simp [hy])) hs11,(hT9.ext x10).step c11 (fun y hy=>.inl (by simp [hy])) hs11,by simp only;rw [ell];exact o11,fun h=>(hb11 _ h).elim hnl (fun h=>by have:=a49.lt;have:=x10.size;omega)⟩
     ·obtain ⟨et,eu,rfl⟩:=hE2 h0
      have e1:(cS ch txs).bs=ch.bs:=by unfold cS;rw [if_pos h0]
      repeat (first|refine go1 ?_|refine zg λ_ _=>?_|refine zi λ_ _=>?_)
      exact ⟨(lv,M'),⟨rfl,rfl,rfl,rfl,rfl,rfl,rfl,trivial⟩,x09,C9,a49,hbv9,hT9,by simp only;rw [e1];exact o9,hnl⟩
    ·rintro ⟨lv9,M9⟩ ρ w9 ⟨x9,C9,a49,hbv9,hT9,o9,hn9⟩
     simp only at C9 hbv9 hT9 o9 hn9
     have r49:=Row.of_at a49
     have o9l:=Own.blk_lt o9
     have o9b:=o9.base
     have C9b:=C9.base
     have C9l:=C9.lt
     have hN9:∀y∈M9++b4::aB lv9,y<w9.heap.size:=fun y hy=>by
      simp only [List.mem_append,List.mem_cons] at hy
      rcases hy with hy|rfl|hy
      ·exact C9l y hy
      ·exact a49.lt
      ·exact o9l y hy
     repeat (first|refine go1 ?_|refine zg λ_ _=>?_|refine zi λ_ _=>?_)
     refine zC (d:=some 128) rfl (aD5 (M:=M9++b4::aB lv9) (txs:=txs) _ hbv9 hT9 hbk hbx (by omega) (by omega) hN9) ?_
     rintro _ w10 ⟨bv',rfl,hbv10,x10⟩
     repeat (first|refine go1 ?_|refine zg λ_ _=>?_|refine zi λ_ _=>?_)
     refine bX (b:=b4) (vs:=c13 bv' (cS ch txs).top) rfl rfl rfl (by simp [hbv10.one];rfl) (a49.ext x10) rfl (fun w11 c11 a11=>?_)
     have x011:Ext w w11:=(Ext.chg (x9.trans x10) c11).mono (fun y hy=>.inr (by simp at hy;omega))
     have C11:=(C9.ext x10).step c11 (fun y hy=>.inl (by simp at hy;simp [hy]))
     have hbv11:=hbv10.step c11 (fun y hy=>.inl (by simp at hy;simp [hy])) (fun y hy=>.inl hy)
     have o11:=(o9.ext x10).chg c11 (fun y hy h=>by simp at h;subst h;exact hn9 hy)
     have hcl9:(aZ (cS ch txs).bs).length≤156:=lC (n:=13) cb (by omega) _ (Nat.le_refl _)
     have hlast9:=aPd (cS ch txs).bs
     have hll9:=aFa (cS ch txs).bs
     have hmon:=(gA (cS ch txs).bs (cS ch txs).bs.length).mon
     generalize cS ch txs=ch9 at*
     obtain ⟨L9,hL9⟩:∃L9,L9=aZ ch9.bs:=⟨_,rfl⟩
     have hmon:Mon L9:=by rw [hL9];exact hmon
     repeat (first|refine go1 ?_|refine zg λ_ _=>?_|refine zi λ_ _=>?_)
     refine zC (d:=some 133) rfl (mL _ C11 (by omega)) ?_
     rintro av w12 ⟨hav, -,x12⟩
     rw [←hL9] at hav hlast9 hcl9
     repeat (first|refine aY (d:=some 134) rfl hav ?_|refine go1 ?_|refine zg λ_ _=>?_|refine zi λ_ _=>?_)
     refine aI (fun (p:Nat) w'=>Ext w12 w'∧p≤L9.length) (fun p=> [(3,.pointer (some ⟨c,0,none⟩)),(4,.pointer (some ⟨b4,0,none⟩)),(5,lv9),(20,.int .i64 (tot (L9.take p))),(29,v'),(30,.int .i64 (S.length:Nat)),(31,.int .i64 (i:Nat)),(133,av),(134,.int .i64 (L9.length:Nat)),(135,.int .i64 (p:Nat))]) (fun p=>L9.length - p) 0 ⟨rfl,rfl,rfl,rfl,rfl,rfl,rfl,rfl,rfl,rfl,trivial⟩ ⟨Ext.refl _,by simp⟩ ?_
     rintro n ρ w13 ⟨x13,hn⟩
     repeat (first|refine go1 ?_|refine zg λ_ _=>?_|refine zi λ_ _=>?_)
     refine zL (x:=.tmp 136) (p:=((n:Nat):Int)<((L9.length:Nat):Int)) rfl (fun h7=>?_) (fun h7=>?_)
     ·have hnl:n<L9.length:=by omega
      have hm1:=lT hmon n
      have hm2:=lT hmon (n+1)
      have hm3:=hmon.2
      have et:tot (L9.take (n+1))=tot (L9.take n)+L9[n].2.v:=by
       rw [List.take_succ_eq_append_getElem hnl,iM,yY];simp [tot]
      repeat (first|refine aS (d:=some 137) (E:=bM) rfl rfl (n:=n) (l:=L9) (hav.ext x13) rfl hnl (fun ad9 r9=>?_)|refine zE (d':=22) (fun _=>rfl) rfl rfl rfl (fun b22 w14 x14 a14 (r14:Row w14 ⟨b22,0,none⟩ (bM.f L9[n])) hb14=>?_)|refine go1 ?_|refine zg λ_ _=>?_|refine zi λ_ _=>?_)
      rw [←et]
      exact ⟨n+1,⟨rfl,rfl,rfl,rfl,rfl,rfl,rfl,rfl,rfl,rfl,trivial⟩,⟨x13.trans x14,by omega⟩,by omega⟩
     ·have en:L9.take n=L9:=tLe (by omega)
      rw [en]
      have x1113:Ext w11 w13:=x12.trans x13
      have o13:=o11.ext x1113
      repeat (first|refine aY (d:=some 149) rfl o13.sl ?_|refine yX (d:=some 150) (n:=(fR ch9.bs).length) rfl (by omega) (by omega) ?_|(refine aS (d:=some 151) (E:=aAj) rfl rfl (n:=(fR ch9.bs).length - 1) (l:=fR ch9.bs) o13.sl rfl (by omega) (fun ad8 r8=>?_);have r8:Row w13 ad8 [.int .i64 (tot L9)]:=(by have e:(fR ch9.bs)[(fR ch9.bs).length - 1]'(by omega)=tot L9:=(by rw [←hlast9];congr 1;omega);rw [e] at r8;exact r8))|refine aD (d:=some 153) (.bool false) rfl (congrArg (fun b=>some (Value.bool (!b))) (dTr rfl)) ?_|refine go1 ?_|refine zg λ_ _=>?_|refine zi λ_ _=>?_)
      exact ⟨(i+1,ch9,M9,lv9,bv'),⟨rfl,rfl,rfl,rfl,rfl,rfl,trivial⟩,⟨x011.trans x1113,by simp only;omega,C11.ext x1113,a11.ext x1113,hbv11.ext x1113,o13,hn9,cb,cl.1,cl.2⟩,by simp only;omega⟩
 ·repeat (first|refine go1 ?_|refine zg λ_ _=>?_|refine zi λ_ _=>?_)
  refine zC (d:=some 155) rfl (tX _) ?_
  rintro _ w5 ⟨rfl,x5⟩
  repeat (first|refine go1 ?_|refine zg λ_ _=>?_|refine zi λ_ _=>?_)
  exact aA rfl ⟨rfl,x4.trans x5⟩
end
end Go.Proofs.YtgloknkcfchnlaaGreat
