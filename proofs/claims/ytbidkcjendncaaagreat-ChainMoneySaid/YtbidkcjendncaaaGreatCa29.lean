/- The walk of ChainMoney. -/
import Derived.Test.YtbidkcjendncaaaGreatCa28
set_option linter.unusedVariables false
set_option linter.unusedSimpArgs false
section
namespace Go.Proofs.YtbidkcjendncaaaGreat
open Go Go.K
attribute [local irreducible] regK codeK retK KOp.wp K.Spec u32 leS vnS str zero32 checkT grantB encT idT sizeT inE feeP mayL payL oneL takeAll applyL reckL reckOk sumsL
theorem coinsN_bnd {bs:List (List Tx)} {n:Nat} (h:∀b∈bs,BkOk b) (hn:bs.length≤n) (k:Nat) (hk:k≤bs.length):(coinsN bs k).length≤12*n:=by
 have:=coins_bound h k
 have:12*k≤12*n:=by omega
 omega
theorem conn_bk {ch:Ch} {txs:List Tx} (h:∀b∈ch.bs,BkOk b) (hx:BkOk txs):∀b∈(connC ch txs).bs,BkOk b:=fun b hb=>by
 unfold connC at hb
 split at hb
 ·exact h b hb
 ·simp at hb
  rcases hb with hb|rfl
  ·exact h b hb
  ·exact hx
theorem conn_len {ch:Ch} {txs:List Tx} {n:Nat} (h1:ch.bs.length≤n) (h2:ch.top≤n):(connC ch txs).bs.length≤n+1∧(connC ch txs).top≤n+1:=by
 unfold connC
 split
 ·exact ⟨by omega,by omega⟩
 ·simp;omega
theorem disc_bk {ch:Ch} (h:∀b∈ch.bs,BkOk b):∀b∈(discC ch).bs,BkOk b:=fun b hb=>by
 unfold discC at hb
 split at hb
 ·exact h b hb
 ·exact h b (List.mem_of_mem_take hb)
theorem disc_len {ch:Ch} {n:Nat} (h1:ch.bs.length≤n) (h2:ch.top≤n):(discC ch).bs.length≤n∧(discC ch).top≤n:=by
 unfold discC
 split
 ·exact ⟨h1,h2⟩
 ·simp;omega
theorem ErrA.nilE {w:World} {v:Value} {c a i:Int} (h:ErrA w v c a i):(c=0→v=.nilIface)∧(c≠0→∃t u,v=.iface t u):=by
 rcases h with ⟨h1,h2⟩|⟨h1,⟨h2, -⟩|⟨-,_,_,h2, -⟩⟩
 ·exact ⟨fun _=>h2,fun h=>absurd h1 h⟩
 ·exact ⟨fun h=>absurd h h1,fun _=>⟨_,_,h2⟩⟩
 ·exact ⟨fun h=>absurd h h1,fun _=>⟨_,_,h2⟩⟩
abbrev c13 (bv:Value) (top:Nat):List Value:= [bv,.int .i64 (top:Nat)]
set_option maxHeartbeats 16000000 in
theorem chainMoney_law {v:Value} {acts:List BAct} (w:World) (hz:SlR bactR [] w v acts):K.Spec Tryz.prog F.kedgelaw13_ChainMoney [v] w fun r w'=>r=.bool true∧Ext w w':=by
 refine s_kedgelaw13_ChainMoney rfl ?_
 unfold k_kedgelaw13_ChainMoney
 refine oy ?_
 repeat (first|refine go1 ?_|refine zg (fun _ _=>?_)|refine zi (fun _ _=>?_))
 refine zC (d:=some 23) rfl (chnew_spec (U:= []) _ (by simp)) ?_
 rintro _ w1 ⟨c,M1,rfl,C1,hM1,x1⟩
 repeat (first|(refine zH (d:=some 4) (fun b4 w2 x2 a2 hb2=>?_))|(refine zI (d:=some 24) (cs:= [.int .i64 0]) rfl (fun b5 w3 x3 a3 hb3=>?_))|(refine zG (d:=some 27) (E:=bactR) (M:= []) (l:=acts) rfl (SlR.ext hz (by exact fx)) ?_)|(refine st_takeR (d:=some 29) (E:=bactR) (n:=min acts.length 12) rfl rfl (by omega) hz (by omega) rfl (fun v' hv'=>?_))|(refine zG (d:=some 30) (E:=bactR) (M:= []) (l:=acts.take (min acts.length 12)) rfl (SlR.ext hv' (by exact fx)) ?_)|(first|refine go1 ?_|refine zg (fun _ _=>?_)|refine zi (fun _ _=>?_)))
 have hSl:(acts.take (min acts.length 12)).length≤12:=by rw [List.length_take];omega
 generalize acts.take (min acts.length 12)=S at*
 have x03:Ext w w3:=x1.trans (x2.trans x3)
 have s1:=x1.size
 have s2:=x2.size
 have s3:=x3.size
 have l4:=a2.lt
 have hlt1:=C1.lt
 have x03':Unit→Ext w w3:=fun _=>x03
 have e0:sumsL []= [0]:=by unfold sumsL;rfl
 have hM3:∀y∈M1,w.heap.size≤y:=hM1
 refine c_loopV (fun (p:Nat × Ch × List Nat × Value × Value) w'=>Ext w w'∧p.1≤S.length∧ChR (b4::blkOf p.2.2.2.1) w' w.heap.size c p.2.2.1 p.2.1∧At w' b4 (.cells (c13 p.2.2.2.2 p.2.1.top).toArray T.kedgeref13_Chain (0,0))∧SlR (listR txR) (p.2.2.1++b4::blkOf p.2.2.2.1) w' p.2.2.2.2 p.2.1.bs∧Own intE T.int w.heap.size w' p.2.2.2.1 (sumsL p.2.1.bs)∧b4∉blkOf p.2.2.2.1∧(∀b∈p.2.1.bs,BkOk b)∧p.2.1.bs.length≤p.1∧p.2.1.top≤p.1) (fun p=> [(3,.pointer (some ⟨c,0,none⟩)),(4,.pointer (some ⟨b4,0,none⟩)),(5,p.2.2.2.1),(29,v'),(30,.int .i64 (S.length:Nat)),(31,.int .i64 (p.1:Nat))]) (fun p=>S.length - p.1) (0,⟨[],0⟩,M1,.slice (some ⟨b5,0,none⟩) 1 1,.slice none 0 0) ⟨rfl,rfl,rfl,rfl,rfl,rfl,trivial⟩ ⟨x03,by simp,?_,?_,SlR.nil _ _,?_,?_,by simp,by simp,by simp⟩ ?_
 ·have q:ChR (b4::blkOf (.slice (some ⟨b5,0,none⟩) 1 1)) w1 w.heap.size c M1 ⟨[],0⟩:=C1.more (fun y hy=>by
   simp [blkOf] at hy
   rcases hy with rfl|rfl
   ·exact .inr hb2
   ·exact .inr (by omega))
  exact q.ext (x2.trans x3)
 ·exact At.ext x3 a2
 ·rw [e0]
  exact .inr ⟨b5,1, [],rfl,by omega,a3,rfl⟩
 ·simp [blkOf];omega
 rintro ⟨i,ch,M,lv,bv⟩ ρ w4 ⟨x4,hi,C4,a4,hbv,ol,hnl,hbk,hbl,htop⟩
 simp only at hi C4 a4 hbv ol hnl hbk hbl htop
 dsimp only
 have hMb:=C4.base
 have hMl:=C4.lt
 have hMo:=C4.off
 have olb:=ol.base
 have oll:=Own.blk_lt ol
 have s4:=x4.size
 have l44:=a4.lt
 have hcl:(coinsC ch.bs).length≤144:=coinsN_bnd (n:=12) hbk (by omega) _ (Nat.le_refl _)
 have hcn:∀k,k≤ch.bs.length→(coinsN ch.bs k).length≤144:=fun k hk=>coinsN_bnd (n:=12) hbk (by omega) k hk
 have sl0:=ol.sl
 have hb4b:w.heap.size≤b4:=by omega
 have hN:∀y∈M++b4::blkOf lv,y<w4.heap.size:=fun y hy=>by
  simp only [List.mem_append,List.mem_cons] at hy
  rcases hy with hy|rfl|hy
  ·exact hMl y hy
  ·exact l44
  ·exact oll y hy
 have hNb:∀y∈M++b4::blkOf lv,w.heap.size≤y:=fun y hy=>by
  simp only [List.mem_append,List.mem_cons] at hy
  rcases hy with hy|rfl|hy
  ·exact hMb y hy
  ·exact hb4b
  ·exact olb y hy
 have hvN:SlR bactR (M++b4::blkOf lv) w4 v' S:=hv'.step x4 (by simp) (fun y hy=>.inr (hNb y hy))
 repeat (first|refine go1 ?_|refine zg (fun _ _=>?_)|refine zi (fun _ _=>?_))
 refine zL (x:=.tmp 32) (p:=((i:Nat):Int)<((S.length:Nat):Int)) rfl (fun h5=>?_) (fun h5=>?_)
 ·have hil:i<S.length:=by omega
  repeat (first|(refine st_elemR (d:=some 33) (E:=bactR) (M:=M++b4::blkOf lv) rfl rfl (n:=i) (l:=S) hvN rfl hil (fun ad cs r4 he=>?_);obtain ⟨tv,rfl,htv⟩:=id he;obtain ⟨q1,q2,etv⟩:=htv.form;obtain ⟨a,ha⟩:∃a,a=S[i]:=⟨_,rfl⟩;rw [←ha] at htv r4 etv)|(refine zE (d':=7) (fun _=>rfl) rfl rfl (by rw [etv];rfl) (fun b7 w5 x5 a7 (r7:Row w5 ⟨b7,0,none⟩ [u8V a.act,tv]) hb7=>?_))|(refine st_bin (d:=some 37) rfl rfl (rem_u8 a.act.toNat 4 (by decide)) ?_)|(first|refine go1 ?_|refine zg (fun _ _=>?_)|refine zi (fun _ _=>?_)))
  have x05:Ext w w5:=x4.trans x5
  have C5:=C4.ext x5
  have a45:=a4.ext x5
  have hbv5:=hbv.ext x5
  have ol5:=ol.ext x5
  have sl5:=sl0.ext x5
  have s5:=x5.size
  have l7:=a7.lt
  refine zL (x:=.tmp 38) (p:=((a.act.toNat%4:Nat):Int)=3) rfl (fun hd=>?_) (fun hd=>?_)
  ·repeat (first|(refine c_cutV (a:=.seq (.reg false (.cons ⟨some 40,_,none⟩ _)) _) (fun (p:Value × List Nat) w'=>Ext w w'∧ChR (b4::blkOf p.1) w' w.heap.size c p.2 (discC ch)∧At w' b4 (.cells (c13 bv ch.top).toArray T.kedgeref13_Chain (0,0))∧SlR (listR txR) (p.2++b4::blkOf p.1) w' bv ch.bs∧Own intE T.int w.heap.size w' p.1 (sumsL (discC ch).bs)∧b4∉blkOf p.1) (fun p=> [(3,.pointer (some ⟨c,0,none⟩)),(4,.pointer (some ⟨b4,0,none⟩)),(5,p.1),(29,v'),(30,.int .i64 (S.length:Nat)),(31,.int .i64 (i:Nat))]) ?_ ?_)|(first|refine go1 ?_|refine zg (fun _ _=>?_)|refine zi (fun _ _=>?_)))
   ·repeat (first|refine go1 ?_|refine zg (fun _ _=>?_)|refine zi (fun _ _=>?_))
    refine zC (d:=some 41) rfl (chdisc_spec _ C5 (fun k hk=>Nat.le_trans (hcn k hk) (by omega)) (by omega) (by omega)) ?_
    rintro _ w6 ⟨tv',M',rfl,C6,hM6,c6, -, -⟩
    have x06:Ext w w6:=(Ext.chg x05 c6).mono (fun y hy=>.inr (hMb y hy))
    have a46:=a45.chg c6 (fun h=>hMo _ h (by simp))
    have o6:=ol5.chg c6 (fun y hy hm=>hMo y hm (by simp [hy]))
    have hbv6:SlR (listR txR) (M'++b4::blkOf lv) w6 bv ch.bs:=hbv5.step c6 (fun y hy=>.inl (by simp [hy])) (fun y hy=>.inl (by
     rcases List.mem_append.1 hy with hy|hy
     ·exact List.mem_append_left _ (hM6 y hy)
     ·exact List.mem_append_right _ hy))
    have hll:=sumsL_len ch.bs
    by_cases h0:discE ch=0
    ·have hpos:0<ch.bs.length:=by
      rcases Nat.eq_zero_or_pos ch.bs.length with h|h
      ·unfold discE at h0;rw [if_pos h] at h0;exact absurd h0 (by decide)
      ·exact h
     have e1:discC ch=⟨ch.bs.take (ch.bs.length - 1),ch.top⟩:=by unfold discC;rw [if_neg (by simp [h0])]
     rw [h0]
     obtain ⟨bl,cap,rfl,hcap⟩:∃bl cap,lv=.slice (some ⟨bl,0,none⟩) (sumsL ch.bs).length cap∧(sumsL ch.bs).length≤cap:=by
      rcases o6.form' with ⟨-,h⟩|h
      ·rw [h] at hll;simp at hll
      ·exact h
     repeat (first|(refine st_len (d:=some 48) rfl o6.sl ?_)|(refine st_predN (d:=some 49) (n:=(sumsL ch.bs).length) rfl (by omega) (by omega) ?_)|(refine st_cutR (d:=some 50) (b:=bl) (len:=(sumsL ch.bs).length) (cap:=cap) (n:=(sumsL ch.bs).length - 1) rfl rfl (by omega) ?_)|(first|refine go1 ?_|refine zg (fun _ _=>?_)|refine zi (fun _ _=>?_)))
     refine ⟨(.slice (some ⟨bl,0,none⟩) ((sumsL ch.bs).length - 1) cap,M'),⟨rfl,rfl,rfl,rfl,rfl,rfl,trivial⟩,x06,C6,a46,hbv6,?_,hnl⟩
     simp only
     rw [e1,sumsL_take (by omega),show ch.bs.length - 1+1=(sumsL ch.bs).length - 1 by omega]
     exact o6.cut (by omega)
    ·have e1:discC ch=ch:=by unfold discC;rw [if_pos h0]
     repeat (first|(refine st_fixV (d:=some 45) (.bool false) rfl (congrArg (fun b=>some (Value.bool b)) (decide_eq_false h0)) ?_)|(first|refine go1 ?_|refine zg (fun _ _=>?_)|refine zi (fun _ _=>?_)))
     exact ⟨(lv,M'),⟨rfl,rfl,rfl,rfl,rfl,rfl,trivial⟩,x06,C6,a46,hbv6,by simp only;rw [e1];exact o6,hnl⟩
   ·rintro ⟨lv6,M6⟩ ρ w6 ⟨x6,C6,a46,hbv6,o6,hn6⟩
    simp only at C6 hbv6 o6 hn6
    have r46:=Row.of_at a46
    have o6l:=Own.blk_lt o6
    repeat (first|refine go1 ?_|refine zg (fun _ _=>?_)|refine zi (fun _ _=>?_))
    refine zC (d:=some 53) rfl (disc13_spec (M:=M6++b4::blkOf lv6) _ hbv6 (by omega) (by omega) (fun y hy=>by
     simp only [List.mem_append,List.mem_cons] at hy
     rcases hy with hy|rfl|hy
     ·exact C6.lt y hy
     ·exact a46.lt
     ·exact o6l y hy)) ?_
    rintro _ w8 ⟨bv',tv2,rfl,hbv8, -, -,x8⟩
    repeat (first|refine go1 ?_|refine zg (fun _ _=>?_)|refine zi (fun _ _=>?_))
    refine st_storeN0 (b:=b4) (vs:=c13 bv' (discC ch).top) rfl rfl rfl (by simp [hbv8.one];rfl) (a46.ext x8) rfl (fun w9 c9 a9=>?_)
    repeat (first|refine go1 ?_|refine zg (fun _ _=>?_)|refine zi (fun _ _=>?_))
    have dl:=disc_len hbl htop
    exact ⟨(i+1,discC ch,M6,lv6,bv'),⟨rfl,rfl,rfl,rfl,rfl,rfl,trivial⟩,⟨(Ext.chg (x6.trans x8) c9).mono (fun y hy=>.inr (by simp at hy;omega)),by simp only;omega,(C6.ext x8).step c9 (fun y hy=>.inl (by simp at hy;simp [hy])),a9,hbv8.step c9 (fun y hy=>.inl (by simp at hy;simp [hy])) (fun y hy=>.inl hy),(o6.ext x8).chg c9 (fun y hy h=>by simp at h;subst h;exact hn6 hy),hn6,disc_bk hbk,by simp only;omega,by simp only;omega⟩,by simp only;omega⟩
  ·have ek:((ch.bs.length:Nat):Int)+1=((ch.bs.length+1:Nat):Int):=by omega
   have r45:=Row.of_at a45
   repeat (first|refine go1 ?_|refine zg (fun _ _=>?_)|refine zi (fun _ _=>?_))
   refine zC (d:=some 58) rfl (coins13_spec (M:=M++b4::blkOf lv) ((ch.top:Nat):Int) _ hbv5 hbk (by omega)) ?_
   rintro lvv w6 ⟨hlv6,x6⟩
   repeat (first|(refine zG (d:=some 64) (E:=listR txR) (M:=M++b4::blkOf lv) (l:=ch.bs) rfl (hbv5.ext x6) ?_)|(first|refine go1 ?_|refine zg (fun _ _=>?_)|refine zi (fun _ _=>?_)))
   rw [ek]
   have s6:=x6.size
   refine zC (d:=some 66) rfl (made13_spec (M:=M++b4::blkOf lv) (l:=coinsC ch.bs) (zs:=a.txs) ((ch.bs.length+1:Nat):Int) _ hlv6 (coinsN_cg _ _) (coinsN_sc _ _) ((htv.ext x5).ext x6) (by omega) (by omega) (fun y hy=>Nat.lt_of_lt_of_le (hN y hy) (Nat.le_trans s5 s6))) ?_
   rintro vtx w7 ⟨txs,oT,htl,hmk,x7⟩
   have hT:SlR txR (M++b4::blkOf lv) w7 vtx txs:=oT.slB (fun y hy=>Nat.lt_of_lt_of_le (hN y hy) (Nat.le_trans s5 s6))
   have hbx:=BkOk.of_mk hmk htl
   have x57:Ext w5 w7:=x6.trans x7
   have hll:=sumsL_len ch.bs
   have hc0:=coinsN_cg ch.bs ch.bs.length
   have hsc0:=coinsN_sc ch.bs ch.bs.length
   have hrc:=fun h0=>reck_conn (ch:=ch) (txs:=txs) (by omega) h0
   obtain ⟨L0,hL0⟩:∃L0,L0=coinsC ch.bs:=⟨_,rfl⟩
   have hc0:CG L0:=by rw [hL0];exact hc0
   have hsc0:SC L0:=by rw [hL0];exact hsc0
   rw [←hL0] at hlv6 hcl hrc
   have hT0:=(goodB_iff _).1 hc0.mon.good
   have hlast:=sumsL_last ch.bs
   rw [←hL0] at hlast
   repeat (first|(refine st_len (d:=some 69) rfl (sl5.ext x57) ?_)|(refine st_predN (d:=some 70) (n:=(sumsL ch.bs).length) rfl (by omega) (by omega) ?_)|(refine st_elemE (d:=some 71) (E:=intE) rfl rfl (n:=(sumsL ch.bs).length - 1) (l:=sumsL ch.bs) (sl5.ext x57) rfl (by omega) (fun ad8 r8=>?_);have r8:Row w7 ad8 [.int .i64 (tot L0)]:=(by have e:(sumsL ch.bs)[(sumsL ch.bs).length - 1]'(by omega)=tot L0:=(by rw [←hlast];congr 1;omega);rw [e] at r8;exact r8))|(refine zG (d:=some 74) (E:=txR) (M:=M++b4::blkOf lv) (l:=txs) rfl hT ?_)|(first|refine go1 ?_|refine zg (fun _ _=>?_)|refine zi (fun _ _=>?_)))
   obtain ⟨H,hH⟩:∃H:Nat,H=ch.bs.length+1:=⟨_,rfl⟩
   rw [←hH] at hrc
   have hHe:((ch.bs.length:Nat):Int)+1=(H:Nat):=by omega
   refine c_loopV (fun (p:Nat × Int × Value × List En) w'=>Ext w7 w'∧p.1≤txs.length∧SlE entE w' p.2.2.1 p.2.2.2∧CG p.2.2.2∧SC p.2.2.2∧p.2.2.2.length≤144+3*p.1∧reckOk (H:Nat) txs (tot L0) L0 p.1 p.2.1 p.2.2.2∧ -2100000000000000*((p.1:Nat):Int)≤p.2.1∧p.2.1≤2100000000000000*(((p.1:Nat):Int)+1)) (fun p=> [(3,.pointer (some ⟨c,0,none⟩)),(4,.pointer (some ⟨b4,0,none⟩)),(5,lv),(10,p.2.2.1),(11,vtx),(12,.int .i64 p.2.1),(29,v'),(30,.int .i64 (S.length:Nat)),(31,.int .i64 (i:Nat)),(73,vtx),(74,.int .i64 (txs.length:Nat)),(75,.int .i64 (p.1:Nat))]) (fun p=>txs.length - p.1) (0,tot L0,lvv,L0) ⟨rfl,rfl,rfl,rfl,rfl,rfl,rfl,rfl,rfl,rfl,rfl,rfl,trivial⟩ ⟨Ext.refl _,by simp,hlv6.ext x7,hc0,hsc0,by simpa using hcl,reckOk_zero,by simp only;omega,by simp only;omega⟩ ?_
   rintro ⟨k,s,lk,m⟩ ρ w8 ⟨x8,hk,hm8,g8,sc8,hml,hrk,hs1,hs2⟩
   simp only at hk hm8 g8 sc8 hml hrk hs1 hs2
   dsimp only
   have r48:Row w8 ⟨b4,0,none⟩ (c13 bv ch.top):=Row.ext (x57.trans x8) r45
   have hbv8:=hbv5.ext (x57.trans x8)
   repeat (first|refine go1 ?_|refine zg (fun _ _=>?_)|refine zi (fun _ _=>?_))
   refine zL (x:=.tmp 76) (p:=((k:Nat):Int)<((txs.length:Nat):Int)) rfl (fun h6=>?_) (fun h6=>?_)
   ·have hkl:k<txs.length:=by omega
    have hmt:=hmk _ (List.getElem_mem hkl)
    have hft:=feeI_bnd m txs[k] (H:Nat)
    have hnx:=reckOk_next hkl hrk
    have hmo:=hmt.outs
    have hol:=oneL_len g8 txs[k] k (H:Nat)
    have gn:=oneL_cg g8 txs[k] k (H:Nat)
    have scn:=oneL_sc g8 sc8 txs[k] k (H:Nat)
    repeat (first|(refine st_elemR (d:=some 78) (E:=txR) (M:=M++b4::blkOf lv) rfl rfl (n:=k) (l:=txs) (hT.ext x8) rfl hkl (fun ad cs r9 he=>?_);obtain ⟨t,ht⟩:∃t,t=txs[k]:=⟨_,rfl⟩;rw [←ht] at he hmt hft hnx hmo hol gn scn;have ones:=txR.one he;obtain ⟨iv,ov,rfl, -⟩:=id he)|(refine st_local2 (d':=14) (e:=13) (fun _=>rfl) (fun _=>rfl) rfl rfl rfl (List.all_eq_true.2 ones) (fun b14 w9 x9 a14 (r14:Row w9 ⟨b14,0,none⟩ (txCs t iv ov)) hb14=>?_))|(first|refine go1 ?_|refine zg (fun _ _=>?_)|refine zi (fun _ _=>?_)))
    have he9:txR.rel (M++b4::blkOf lv) w9 (txCs t iv ov) t:=R.ext he x9
    refine zC (d:=some 82) rfl (ttotal_spec (M:=M++b4::blkOf lv) (cs:=txCs t iv ov) (t:=t) _ he9 hmt.sm) ?_
    rintro _ w10 ⟨rfl,x10⟩
    repeat (first|refine go1 ?_|refine zg (fun _ _=>?_)|refine zi (fun _ _=>?_))
    refine zC (d:=some 86) rfl (tbase_spec (M:=M++b4::blkOf lv) (cs:=txCs t iv ov) (t:=t) _ (R.ext he9 x10) hmt.sm) ?_
    rintro _ w11 ⟨rfl,x11⟩
    have hb1:=sumV_bnd (values t)
    have hb2:=feeP_bnd (aget m) t (H:Nat)
    cases hgr:grantB t with
    |true=>
     have hfe:feeI m t (H:Nat)=sumV (values t):=by unfold feeI;rw [if_pos hgr]
     rw [hfe] at hft hnx
     repeat (first|(refine zG (d:=some 110) (E:=listR txR) (M:=M++b4::blkOf lv) (l:=ch.bs) rfl (SlR.ext hbv8 (by exact fx)) ?_)|(first|refine go1 ?_|refine zg (fun _ _=>?_)|refine zi (fun _ _=>?_)))
     rw [hHe]
     refine zC (d:=some 112) rfl (one12_spec (M:=M++b4::blkOf lv) (cs:=txCs t iv ov) (t:=t) (l:=m) k (H:Nat) _ (by omega) (SlE.ext (w:=w8) (by exact fx) hm8) g8 sc8 (R.ext he9 (by exact fx)) hmt.sm (by omega)) ?_
     rintro _ w12 ⟨vl,rfl,hvl, -,x12⟩
     unfold oneV
     repeat (first|refine go1 ?_|refine zg (fun _ _=>?_)|refine zi (fun _ _=>?_))
     exact ⟨(k+1,s+sumV (values t),vl,(oneL m t k (H:Nat)).1),⟨rfl,rfl,rfl,rfl,rfl,rfl,rfl,rfl,rfl,rfl,rfl,rfl,trivial⟩,⟨by exact fx,by simp only;omega,hvl,gn,scn,by simp only;omega,hnx,by simp only;omega,by simp only;omega⟩,by simp only;omega⟩
    |false=>
     have hfe:feeI m t (H:Nat)= -(feeP (aget m) t (H:Nat)).1:=by unfold feeI;rw [if_neg (by rw [hgr];decide)]
     rw [hfe,←Int.sub_eq_add_neg] at hnx
     rw [hfe] at hft
     repeat (first|(refine zG (d:=some 95) (E:=listR txR) (M:=M++b4::blkOf lv) (l:=ch.bs) rfl (SlR.ext hbv8 (by exact fx)) ?_)|(first|refine go1 ?_|refine zg (fun _ _=>?_)|refine zi (fun _ _=>?_)))
     rw [hHe]
     refine zC (d:=some 97) rfl (rfee_spec (M:=M++b4::blkOf lv) (cs:=txCs t iv ov) (t:=t) (l:=m) (H:Nat) _ (SlE.ext (w:=w8) (by exact fx) hm8) (R.ext he9 (by exact fx)) hmt.sm (by omega) (fun e he=>by have:=(sc8 e he).1;omega)) ?_
     rintro _ w12 ⟨rfl,x12⟩
     unfold feeV
     repeat (first|(refine zG (d:=some 110) (E:=listR txR) (M:=M++b4::blkOf lv) (l:=ch.bs) rfl (SlR.ext hbv8 (by exact fx)) ?_)|(first|refine go1 ?_|refine zg (fun _ _=>?_)|refine zi (fun _ _=>?_)))
     rw [hHe]
     refine zC (d:=some 112) rfl (one12_spec (M:=M++b4::blkOf lv) (cs:=txCs t iv ov) (t:=t) (l:=m) k (H:Nat) _ (by omega) (SlE.ext (w:=w8) (by exact fx) hm8) g8 sc8 (R.ext he9 (by exact fx)) hmt.sm (by omega)) ?_
     rintro _ w13 ⟨vl,rfl,hvl, -,x13⟩
     unfold oneV
     repeat (first|refine go1 ?_|refine zg (fun _ _=>?_)|refine zi (fun _ _=>?_))
     exact ⟨(k+1,s - (feeP (aget m) t (H:Nat)).1,vl,(oneL m t k (H:Nat)).1),⟨rfl,rfl,rfl,rfl,rfl,rfl,rfl,rfl,rfl,rfl,rfl,rfl,trivial⟩,⟨by exact fx,by simp only;omega,hvl,gn,scn,by simp only;omega,hnx,by simp only;omega,by simp only;omega⟩,by simp only;omega⟩
   ·have hke:=reckOk_end (by omega) hrk
    have x58:Ext w5 w8:=x57.trans x8
    have x08:Ext w w8:=x05.trans x58
    have C8:=C5.ext x58
    have a48:=a45.ext x58
    have o8:=ol5.ext x58
    have hT8:=hT.ext x8
    have hN8:∀y∈M++b4::blkOf lv,y<w8.heap.size:=fun y hy=>Nat.lt_of_lt_of_le (hN y hy) (Nat.le_trans s5 x58.size)
    have cl:=conn_len (txs:=txs) hbl htop
    have cb:=conn_bk hbk hbx
    rw [hke] at hrc
    have ho4:=hbx.2.1
    repeat (first|(refine c_cutV (a:=.seq (.reg false (.cons ⟨some 117,_,none⟩ _)) _) (fun (p:Value × List Nat) w'=>Ext w w'∧ChR (b4::blkOf p.1) w' w.heap.size c p.2 (connC ch txs)∧At w' b4 (.cells (c13 bv ch.top).toArray T.kedgeref13_Chain (0,0))∧SlR (listR txR) (p.2++b4::blkOf p.1) w' bv ch.bs∧SlR txR (p.2++b4::blkOf p.1) w' vtx txs∧Own intE T.int w.heap.size w' p.1 (sumsL (connC ch txs).bs)∧b4∉blkOf p.1) (fun p=> [(3,.pointer (some ⟨c,0,none⟩)),(4,.pointer (some ⟨b4,0,none⟩)),(5,p.1),(11,vtx),(29,v'),(30,.int .i64 (S.length:Nat)),(31,.int .i64 (i:Nat))]) ?_ ?_)|(first|refine go1 ?_|refine zg (fun _ _=>?_)|refine zi (fun _ _=>?_)))
    ·repeat (first|refine go1 ?_|refine zg (fun _ _=>?_)|refine zi (fun _ _=>?_))
     refine zC (d:=some 119) rfl (chconn_spec (U:=b4::blkOf lv) (N:=M++b4::blkOf lv) (txs:=txs) _ C8 hT8 (fun y hy=>List.mem_append_left _ hy) (fun y hy=>List.mem_append_right _ hy) (fun y hy=>hN8 y (List.mem_append_right _ hy)) (fun t ht=>(hmk t ht).sm) (by omega) (by rw [←hL0];omega) (by omega) (by omega)) ?_
     rintro e w9 ⟨⟨ii,hE⟩,⟨M',C9,hM9⟩,c9⟩
     obtain ⟨hE1,hE2⟩:=hE.nilE
     have x09:Ext w w9:=(Ext.chg x08 c9).mono (fun y hy=>.inr (hMb y hy))
     have a49:=a48.chg c9 (fun h=>hMo _ h (by simp))
     have o9:=o8.chg c9 (fun y hy hm=>hMo y hm (by simp [hy]))
     have hsub:∀y∈M'++b4::blkOf lv,y∈M++b4::blkOf lv∨w8.heap.size≤y:=fun y hy=>by
      rcases List.mem_append.1 hy with hy|hy
      ·exact (hM9 y hy).imp (fun h=>List.mem_append_left _ h) id
      ·exact .inl (List.mem_append_right _ hy)
     have hbv9:SlR (listR txR) (M'++b4::blkOf lv) w9 bv ch.bs:=hbv8.step c9 (fun y hy=>.inl (List.mem_append_left _ hy)) hsub
     have hT9:SlR txR (M'++b4::blkOf lv) w9 vtx txs:=hT8.step c9 (fun y hy=>.inl (List.mem_append_left _ hy)) hsub
     by_cases h0:(connE ch txs).1=0
     ·obtain rfl:=hE1 h0
      have e1:(connC ch txs).bs=ch.bs++ [txs]:=by unfold connC;rw [if_neg (by simpa using h0)]
      have ell:sumsL (connC ch txs).bs=sumsL ch.bs++ [s]:=by rw [hrc h0,e1,sumsL_snoc]
      repeat (first|(refine zI (d:=some 123) (cs:= [.int .i64 s]) rfl (fun b10 w10 x10 a10 hb10=>?_))|(first|refine go1 ?_|refine zg (fun _ _=>?_)|refine zi (fun _ _=>?_)))
      refine st_appendX (d:=some 124) (E:=intE) (v:=lv) (l2:= [s]) rfl (o9.ext x10) (Nat.le_trans x09.size x10.size) rfl rfl (sl_new a10 rfl) rfl rfl (by simp only [List.length_singleton];omega) (fun v11 w11 o11 _ c11 hb11=>?_)
      repeat (first|refine go1 ?_|refine zg (fun _ _=>?_)|refine zi (fun _ _=>?_))
      have q1:ChR (blkOf v11++(b4::blkOf lv)) w10 w.heap.size c M' (connC ch txs):=(C9.ext x10).more (fun y hy=>(List.mem_append.1 hy).elim (fun h=>(hb11 y h).imp (fun h=>by simp [h]) id) .inl)
      have q2:=q1.step c11 (fun y hy=>.inl (by simp [hy]))
      have hs11:∀y∈M'++b4::blkOf v11,y∈M'++b4::blkOf lv∨w10.heap.size≤y:=fun y hy=>by
       simp only [List.mem_append,List.mem_cons] at hy ⊢
       rcases hy with hy|rfl|hy
       ·exact .inl (.inl hy)
       ·exact .inl (.inr (.inl rfl))
       ·exact (hb11 y hy).imp (fun h=>.inr (.inr h)) id
      exact ⟨(v11,M'),⟨rfl,rfl,rfl,rfl,rfl,rfl,rfl,trivial⟩,(Ext.chg (x09.trans x10) c11).mono (fun y hy=>.inr (olb y hy)),q2.more (fun y hy=>.inl (by
       simp only [List.mem_cons] at hy
       rcases hy with rfl|hy<;>simp [*])),(a49.ext x10).chg c11 hnl,(hbv9.ext x10).step c11 (fun y hy=>.inl (by simp [hy])) hs11,(hT9.ext x10).step c11 (fun y hy=>.inl (by simp [hy])) hs11,by simp only;rw [ell];exact o11,fun h=>(hb11 _ h).elim hnl (fun h=>by have:=a49.lt;have:=x10.size;omega)⟩
     ·obtain ⟨et,eu,rfl⟩:=hE2 h0
      have e1:(connC ch txs).bs=ch.bs:=by unfold connC;rw [if_pos h0]
      repeat (first|refine go1 ?_|refine zg (fun _ _=>?_)|refine zi (fun _ _=>?_))
      exact ⟨(lv,M'),⟨rfl,rfl,rfl,rfl,rfl,rfl,rfl,trivial⟩,x09,C9,a49,hbv9,hT9,by simp only;rw [e1];exact o9,hnl⟩
    ·rintro ⟨lv9,M9⟩ ρ w9 ⟨x9,C9,a49,hbv9,hT9,o9,hn9⟩
     simp only at C9 hbv9 hT9 o9 hn9
     have r49:=Row.of_at a49
     have o9l:=Own.blk_lt o9
     have o9b:=o9.base
     have C9b:=C9.base
     have C9l:=C9.lt
     have hN9:∀y∈M9++b4::blkOf lv9,y<w9.heap.size:=fun y hy=>by
      simp only [List.mem_append,List.mem_cons] at hy
      rcases hy with hy|rfl|hy
      ·exact C9l y hy
      ·exact a49.lt
      ·exact o9l y hy
     repeat (first|refine go1 ?_|refine zg (fun _ _=>?_)|refine zi (fun _ _=>?_))
     refine zC (d:=some 128) rfl (conn13_spec (M:=M9++b4::blkOf lv9) (txs:=txs) _ hbv9 hT9 hbk hbx (by omega) (by omega) hN9) ?_
     rintro _ w10 ⟨bv',rfl,hbv10,x10⟩
     repeat (first|refine go1 ?_|refine zg (fun _ _=>?_)|refine zi (fun _ _=>?_))
     refine st_storeN0 (b:=b4) (vs:=c13 bv' (connC ch txs).top) rfl rfl rfl (by simp [hbv10.one];rfl) (a49.ext x10) rfl (fun w11 c11 a11=>?_)
     have x011:Ext w w11:=(Ext.chg (x9.trans x10) c11).mono (fun y hy=>.inr (by simp at hy;omega))
     have C11:=(C9.ext x10).step c11 (fun y hy=>.inl (by simp at hy;simp [hy]))
     have hbv11:=hbv10.step c11 (fun y hy=>.inl (by simp at hy;simp [hy])) (fun y hy=>.inl hy)
     have o11:=(o9.ext x10).chg c11 (fun y hy h=>by simp at h;subst h;exact hn9 hy)
     have hcl9:(coinsC (connC ch txs).bs).length≤156:=coinsN_bnd (n:=13) cb (by omega) _ (Nat.le_refl _)
     have hlast9:=sumsL_last (connC ch txs).bs
     have hll9:=sumsL_len (connC ch txs).bs
     have hmon:=(coinsN_cg (connC ch txs).bs (connC ch txs).bs.length).mon
     generalize connC ch txs=ch9 at*
     obtain ⟨L9,hL9⟩:∃L9,L9=coinsC ch9.bs:=⟨_,rfl⟩
     have hmon:Mon L9:=by rw [hL9];exact hmon
     repeat (first|refine go1 ?_|refine zg (fun _ _=>?_)|refine zi (fun _ _=>?_))
     refine zC (d:=some 133) rfl (chcoins_spec _ C11 (by omega)) ?_
     rintro av w12 ⟨hav, -,x12⟩
     rw [←hL9] at hav hlast9 hcl9
     repeat (first|(refine st_len (d:=some 134) rfl hav ?_)|(first|refine go1 ?_|refine zg (fun _ _=>?_)|refine zi (fun _ _=>?_)))
     refine c_loopV (fun (p:Nat) w'=>Ext w12 w'∧p≤L9.length) (fun p=> [(3,.pointer (some ⟨c,0,none⟩)),(4,.pointer (some ⟨b4,0,none⟩)),(5,lv9),(20,.int .i64 (tot (L9.take p))),(29,v'),(30,.int .i64 (S.length:Nat)),(31,.int .i64 (i:Nat)),(133,av),(134,.int .i64 (L9.length:Nat)),(135,.int .i64 (p:Nat))]) (fun p=>L9.length - p) 0 ⟨rfl,rfl,rfl,rfl,rfl,rfl,rfl,rfl,rfl,rfl,trivial⟩ ⟨Ext.refl _,by simp⟩ ?_
     rintro n ρ w13 ⟨x13,hn⟩
     repeat (first|refine go1 ?_|refine zg (fun _ _=>?_)|refine zi (fun _ _=>?_))
     refine zL (x:=.tmp 136) (p:=((n:Nat):Int)<((L9.length:Nat):Int)) rfl (fun h7=>?_) (fun h7=>?_)
     ·have hnl:n<L9.length:=by omega
      have hm1:=tot_take_le hmon n
      have hm2:=tot_take_le hmon (n+1)
      have hm3:=hmon.2
      have et:tot (L9.take (n+1))=tot (L9.take n)+L9[n].2.v:=by
       rw [List.take_succ_eq_append_getElem hnl,tot_append,tot_cons];simp [tot]
      repeat (first|(refine st_elemE (d:=some 137) (E:=entE) rfl rfl (n:=n) (l:=L9) (hav.ext x13) rfl hnl (fun ad9 r9=>?_))|(refine zE (d':=22) (fun _=>rfl) rfl rfl rfl (fun b22 w14 x14 a14 (r14:Row w14 ⟨b22,0,none⟩ (entE.f L9[n])) hb14=>?_))|(first|refine go1 ?_|refine zg (fun _ _=>?_)|refine zi (fun _ _=>?_)))
      rw [←et]
      exact ⟨n+1,⟨rfl,rfl,rfl,rfl,rfl,rfl,rfl,rfl,rfl,rfl,trivial⟩,⟨x13.trans x14,by omega⟩,by omega⟩
     ·have en:L9.take n=L9:=List.take_of_length_le (by omega)
      rw [en]
      have x1113:Ext w11 w13:=x12.trans x13
      have o13:=o11.ext x1113
      repeat (first|(refine st_len (d:=some 149) rfl o13.sl ?_)|(refine st_predN (d:=some 150) (n:=(sumsL ch9.bs).length) rfl (by omega) (by omega) ?_)|(refine st_elemE (d:=some 151) (E:=intE) rfl rfl (n:=(sumsL ch9.bs).length - 1) (l:=sumsL ch9.bs) o13.sl rfl (by omega) (fun ad8 r8=>?_);have r8:Row w13 ad8 [.int .i64 (tot L9)]:=(by have e:(sumsL ch9.bs)[(sumsL ch9.bs).length - 1]'(by omega)=tot L9:=(by rw [←hlast9];congr 1;omega);rw [e] at r8;exact r8))|(refine st_fixV (d:=some 153) (.bool false) rfl (congrArg (fun b=>some (Value.bool (!b))) (decide_eq_true rfl)) ?_)|(first|refine go1 ?_|refine zg (fun _ _=>?_)|refine zi (fun _ _=>?_)))
      exact ⟨(i+1,ch9,M9,lv9,bv'),⟨rfl,rfl,rfl,rfl,rfl,rfl,trivial⟩,⟨x011.trans x1113,by simp only;omega,C11.ext x1113,a11.ext x1113,hbv11.ext x1113,o13,hn9,cb,cl.1,cl.2⟩,by simp only;omega⟩
 ·repeat (first|refine go1 ?_|refine zg (fun _ _=>?_)|refine zi (fun _ _=>?_))
  refine zC (d:=some 155) rfl (wakes13_spec _) ?_
  rintro _ w5 ⟨rfl,x5⟩
  repeat (first|refine go1 ?_|refine zg (fun _ _=>?_)|refine zi (fun _ _=>?_))
  exact x_ret rfl ⟨rfl,x4.trans x5⟩
end Go.Proofs.YtbidkcjendncaaaGreat
end
