/- The walk of ChainBack. -/
import Derived.Test.YtgloknkcfchnlaaGreatZ48
set_option linter.unusedVariables false
set_option linter.unusedSimpArgs false
namespace Go.Proofs.YtgloknkcfchnlaaGreat
section
open Go Go.K
attribute [local irreducible] aF aP bG KOp.wp K.Spec u32 leS vnS str aR aE aQ bS idT aO inE dZ nP jJ fB eF bI
theorem bP2 (e:En):(Option.map (fun b=>Value.bool (if true then !b else b)) (cO [.s,.i,.i,.s,.i] (bM.f e) (bM.f e)))=some (.bool false):=by
 simp [cO,kH,bM,Pt.cs,Cn.cs]
structure Both (B c b6 n:Nat) (ch:Ch) (M:List Nat) (bv:Value) (w:World):Prop where
 chr:ChR [b6] w B c M ch
 cell:At w b6 (.cells (c13 bv ch.top).toArray T.kedgeref13_Chain (0,0))
 bs:SlR (dW txR) (M++ [b6]) w bv ch.bs
 bk:∀b∈ch.bs,aC1 b
 len:ch.bs.length≤n
 top:ch.top=ch.bs.length
 ok:aYt ch
theorem Both.ext {B c b6 n:Nat} {ch:Ch} {M:List Nat} {bv:Value} {w w':World} (h:Both B c b6 n ch M bv w) (x:Ext w w'):Both B c b6 n ch M bv w':=⟨h.chr.ext x,h.cell.ext x,h.bs.ext x,h.bk,h.len,h.top,h.ok⟩
theorem Both.lt {B c b6 n:Nat} {ch:Ch} {M:List Nat} {bv:Value} {w:World} (h:Both B c b6 n ch M bv w):∀y∈M++ [b6],y<w.heap.size:=fun y hy=>by
 rcases List.mem_append.1 hy with hy|hy
 ·exact h.chr.lt y hy
 ·simp at hy;subst hy;exact h.cell.lt
theorem bBv {ch:Ch} {txs:List Tx} (h:ch.top=ch.bs.length):(cS ch txs).top=(cS ch txs).bs.length:=by
 unfold cS
 split
 ·exact h
 ·simp [h]
theorem bM5 {ch:Ch} {txs:List Tx} {l:List (List Tx)} (h:l<+:ch.bs):l<+:(cS ch txs).bs:=by
 unfold cS
 split
 ·exact h
 ·exact h.trans (List.prefix_append _ _)
theorem aWh {ch:Ch} {txs:List Tx} {n:Nat} (h:ch.bs.length≤n):(cS ch txs).bs.length≤n+1:=by
 unfold cS
 split
 ·omega
 ·simp;omega
def zR (bs:List (List Tx)) (j:Nat):List (List Tx):=(List.range j).map fun i=>bs.getD (bs.length - 1 - i) []
theorem aY1 (bs:List (List Tx)) (j:Nat):(zR bs j).length=j:=by simp [zR]
theorem bG1 (bs:List (List Tx)) (j:Nat):zR bs (j+1)=zR bs j++ [bs.getD (bs.length - 1 - j) []]:=by
 unfold zR
 rw [List.range_succ,List.map_append];rfl
theorem bN8 (bs:List (List Tx)) (j m:Nat) (h:m<(zR bs j).length):(zR bs j)[m]=bs.getD (bs.length - 1 - m) []:=by
 simp only [zR,List.getElem_map,List.getElem_range]
set_option maxHeartbeats 16000000 in
theorem aTe {v u:Value} {one two:List BAct} (w:World) (hz:SlR nG [] w v one) (hu:SlR nG [] w u two):K.Spec Tryz.prog F.kedgelaw13_ChainBack [v,u] w fun r w'=>r=.bool true∧Ext w w':=by
 refine aBm rfl ?_
 unfold pZ
 refine oy ?_
 repeat (first|refine go1 ?_|refine zg λ_ _=>?_|refine zi λ_ _=>?_)
 refine zC (d:=some 24) rfl (aCd (U:= []) _ (by simp)) ?_
 rintro _ w1 ⟨c,M1,rfl,C1,hM1,x1⟩
 repeat (first|refine zH (d:=some 6) (fun b6 w2 x2 a2 hb2=>?_)|refine zG (d:=some 27) (E:=nG) (M:= []) (l:=one) rfl (SlR.ext hz (by exact fx)) ?_|refine tE (d:=some 29) (E:=nG) (n:=min one.length 6) rfl rfl (by omega) hz (by omega) rfl (fun v' hv'=>?_)|refine zG (d:=some 30) (E:=nG) (M:= []) (l:=one.take (min one.length 6)) rfl (SlR.ext hv' (by exact fx)) ?_|refine go1 ?_|refine zg λ_ _=>?_|refine zi λ_ _=>?_)
 have hSl:(one.take (min one.length 6)).length≤6:=by rw [List.length_take];omega
 generalize one.take (min one.length 6)=S at*
 have x02:Ext w w2:=x1.trans x2
 have s1:=x1.size
 have hb6:w.heap.size≤b6:=by omega
 have K2:Both w.heap.size c b6 0 ⟨[],0⟩ M1 (.slice none 0 0) w2:=⟨((C1.more (fun y hy=>by simp at hy;subst hy;exact .inr hb2):ChR [b6] w1 _ _ _ _)).ext x2,a2,SlR.nil _ _,by simp,by simp,rfl,aYt.new⟩
 refine aI (fun (p:Nat × Ch × List Nat × Value) w'=>Ext w w'∧p.1≤S.length∧Both w.heap.size c b6 p.1 p.2.1 p.2.2.1 p.2.2.2 w') (fun p=> [(1,u),(5,.pointer (some ⟨c,0,none⟩)),(6,.pointer (some ⟨b6,0,none⟩)),(29,v'),(30,.int .i64 (S.length:Nat)),(31,.int .i64 (p.1:Nat))]) (fun p=>S.length - p.1) (0,⟨[],0⟩,M1,.slice none 0 0) ⟨rfl,rfl,rfl,rfl,rfl,rfl,trivial⟩ ⟨x02,by simp,K2⟩ ?_
 rintro ⟨i,ch,M,bv⟩ ρ w4 ⟨x4,hi,K4⟩
 simp only at hi K4
 dsimp only
 repeat (first|refine go1 ?_|refine zg λ_ _=>?_|refine zi λ_ _=>?_)
 refine zL (x:=.tmp 32) (p:=((i:Nat):Int)<((S.length:Nat):Int)) rfl (fun h5=>?_) (fun h5=>?_)
 ·have hil:i<S.length:=by omega
  have hMb:=K4.chr.base
  have hN:=K4.lt
  have hbv:=K4.bs
  have hbk:=K4.bk
  have hbl:=K4.len
  have htop:=K4.top
  have hcl:(aZ ch.bs).length≤144:=lC (n:=12) hbk (by omega) _ (Nat.le_refl _)
  have hNb:∀y∈M++ [b6],w.heap.size≤y:=fun y hy=>by
   rcases List.mem_append.1 hy with hy|hy
   ·exact hMb y hy
   ·simp at hy;omega
  have hvN:SlR nG (M++ [b6]) w4 v' S:=hv'.step x4 (by simp) (fun y hy=>.inr (hNb y hy))
  have ek:((ch.bs.length:Nat):Int)+1=((ch.bs.length+1:Nat):Int):=by omega
  have r4:=Row.of_at K4.cell
  repeat (first|(refine aM (d:=some 33) (E:=nG) (M:=M++ [b6]) rfl rfl (n:=i) (l:=S) hvN rfl hil (fun ad cs r3 he=>?_);obtain ⟨tv,rfl,htv⟩:=id he;obtain ⟨q1,q2,etv⟩:=htv.form;obtain ⟨a,ha⟩:∃a,a=S[i]:=⟨_,rfl⟩;rw [←ha] at htv r3 etv)|refine zE (d':=8) (fun _=>rfl) rfl rfl (by rw [etv];rfl) (fun b8 w5 x5 a8 (r8:Row w5 ⟨b8,0,none⟩ [u8V a.act,tv]) hb8=>?_)|refine zg (fun w6 x6=>?_)|(refine dJ (b:=.cons ⟨some 43,_,_⟩ _) (fun (p:Value) w'=>Ext w6 w'∧SlE bM w' p (aZ ch.bs)) (fun p=> [(36,p),(38,tv),(42,.int .i64 (((ch.bs.length:Nat):Int)+1)),(1,u),(5,.pointer (some ⟨c,0,none⟩)),(6,.pointer (some ⟨b6,0,none⟩)),(29,v'),(30,.int .i64 (S.length:Nat)),(31,.int .i64 (i:Nat))]) ?_ ?_)|refine go1 ?_|refine zg λ_ _=>?_|refine zi λ_ _=>?_)
  ·repeat' (first|refine zB ?_ ?_|(refine zC (d:=some 36) rfl (uJ (M:=M++ [b6]) ((ch.top:Nat):Int) _ (SlR.ext hbv (by exact fx)) hbk (by omega)) ?_;rintro lvv w7 ⟨hlv7,x7⟩)|refine zG (d:=some 41) (E:=dW txR) (M:=M++ [b6]) (l:=ch.bs) rfl (SlR.ext hbv (by exact fx)) ?_|refine go1 ?_|refine zg λ_ _=>?_|refine zi λ_ _=>?_)
   all_goals exact ⟨lvv,by simp only [Has];exact ⟨rfl,rfl,rfl,rfl,rfl,rfl,rfl,rfl,rfl,trivial⟩,by exact fx,hlv7.ext (by exact fx)⟩
  rintro lvv ρ w7 ⟨x67,hlv7⟩
  rw [ek]
  have x47:Ext w4 w7:=(x5.trans x6).trans x67
  have s47:=x47.size
  refine zC (d:=some 43) rfl (aEc (M:=M++ [b6]) (l:=aZ ch.bs) (zs:=a.txs) ((ch.bs.length+1:Nat):Int) _ hlv7 (gA _ _) (pF _ _) (htv.ext x47) (by omega) (by omega) (fun y hy=>nLt (hN y hy) s47)) ?_
  rintro vtx w8 ⟨txs,oT,htl,hmk,x8⟩
  have hT:SlR txR (M++ [b6]) w8 vtx txs:=oT.slB (fun y hy=>nLt (hN y hy) s47)
  have hbx:=aC1.of_mk hmk htl
  have ho4:=hbx.2.1
  have x48:Ext w4 w8:=x47.trans x8
  have C8:=K4.chr.ext x48
  have r8b:Row w8 ⟨b6,0,none⟩ (c13 bv ch.top):=Row.ext x48 r4
  have hMo:=K4.chr.off
  repeat (first|refine go1 ?_|refine zg λ_ _=>?_|refine zi λ_ _=>?_)
  refine zC (d:=some 46) rfl (pC (U:= [b6]) (N:=M++ [b6]) (txs:=txs) _ C8 hT (fun y hy=>List.mem_append_left _ hy) (fun y hy=>List.mem_append_right _ hy) (fun y hy=>nLt (hN y (List.mem_append_right _ hy)) x48.size) (fun t ht=>(hmk t ht).sm) (by omega) (by omega) (by omega) (by omega)) ?_
  rintro e w9 ⟨-,⟨M',C9,hM9⟩,c9⟩
  have x09:Ext w w9:=(Ext.chg (x4.trans x48) c9).mono (fun y hy=>.inr (hMb y hy))
  have a9:=(K4.cell.ext x48).chg c9 (fun h=>hMo _ h (by simp))
  have hsub:∀y∈M'++ [b6],y∈M++ [b6]∨w8.heap.size≤y:=fun y hy=>by
   rcases List.mem_append.1 hy with hy|hy
   ·exact (hM9 y hy).imp (fun h=>List.mem_append_left _ h) id
   ·exact .inl (List.mem_append_right _ hy)
  have hbv9:SlR (dW txR) (M'++ [b6]) w9 bv ch.bs:=(hbv.ext x48).step c9 (fun y hy=>.inl (List.mem_append_left _ hy)) hsub
  have hT9:SlR txR (M'++ [b6]) w9 vtx txs:=hT.step c9 (fun y hy=>.inl (List.mem_append_left _ hy)) hsub
  have r9:=Row.of_at a9
  have C9l:=C9.lt
  repeat (first|refine go1 ?_|refine zg λ_ _=>?_|refine zi λ_ _=>?_)
  refine zC (d:=some 50) rfl (aD5 (M:=M'++ [b6]) (txs:=txs) _ hbv9 hT9 hbk hbx (by omega) (by omega) (fun y hy=>by
   rcases List.mem_append.1 hy with hy|hy
   ·exact C9l y hy
   ·simp at hy;subst hy;exact a9.lt)) ?_
  rintro _ w10 ⟨bv',rfl,hbv10,x10⟩
  repeat (first|refine go1 ?_|refine zg λ_ _=>?_|refine zi λ_ _=>?_)
  refine bX (b:=b6) (vs:=c13 bv' (cS ch txs).top) rfl rfl rfl (by simp [hbv10.one];rfl) (a9.ext x10) rfl (fun w11 c11 a11=>?_)
  have x011:Ext w w11:=(Ext.chg (x09.trans x10) c11).mono (fun y hy=>.inr (by simp at hy;omega))
  have K11:Both w.heap.size c b6 (i+1) (cS ch txs) M' bv' w11:=⟨(C9.ext x10).step c11 (fun y hy=>.inl hy),a11,hbv10.step c11 (fun y hy=>.inl (by simp at hy;simp [hy])) (fun y hy=>.inl hy),aXq hbk hbx,aWh hbl,bBv htop,K4.ok.conn txs⟩
  repeat (first|refine go1 ?_|refine zg λ_ _=>?_|refine zi λ_ _=>?_)
  exact ⟨(i+1,cS ch txs,M',bv'),⟨rfl,rfl,rfl,rfl,rfl,rfl,trivial⟩,⟨x011,by simp only;omega,K11⟩,by simp only;omega⟩
 ·have hn1:ch.bs.length≤6:=by have:=K4.len;omega
  have hb1:∀b∈ch.bs,aC1 b:=K4.bk
  have hM1:=K4.chr.lt
  obtain ⟨bs1,hbs1⟩:∃l,l=ch.bs:=⟨_,rfl⟩
  rw [←hbs1] at hn1
  have hcl1:(aZ ch.bs).length≤144:=lC (n:=12) hb1 (by rw [←hbs1];omega) _ (Nat.le_refl _)
  repeat (first|refine go1 ?_|refine zg λ_ _=>?_|refine zi λ_ _=>?_)
  refine zC (d:=some 56) rfl (mL _ K4.chr (by omega)) ?_
  rintro wv w5 ⟨hwv,hwb,x5⟩
  repeat (first|refine go1 ?_|refine zg λ_ _=>?_|refine zi λ_ _=>?_)
  refine zC (d:=some 58) rfl (iN _ (K4.chr.ext x5)) ?_
  rintro _ w6 ⟨rfl,x6⟩
  rw [←hbs1] at hwv hcl1 ⊢
  have hu6:=hu.ext (x4.trans (x5.trans x6))
  repeat (first|refine zG (d:=some 61) (E:=nG) (M:= []) (l:=two) rfl hu6 ?_|refine tE (d:=some 63) (E:=nG) (n:=min two.length 6) rfl rfl (by omega) hu (by omega) rfl (fun v'' hv''=>?_)|refine zG (d:=some 64) (E:=nG) (M:= []) (l:=two.take (min two.length 6)) rfl (hv''.ext (x4.trans (x5.trans x6))) ?_|refine go1 ?_|refine zg λ_ _=>?_|refine zi λ_ _=>?_)
  have hS2:(two.take (min two.length 6)).length≤6:=by rw [List.length_take];omega
  clear hv' hz hSl
  generalize two.take (min two.length 6)=S at*
  have K6:=(K4.ext x5).ext x6
  have hM5:=K4.lt
  have hwv6:SlR enR (M++ [b6]) w6 wv (aZ bs1):=(hwv.en fun y hy hm=>by have:=hwb y hy;have:=hM5 y hm;omega).ext x6
  have x46:Ext w4 w6:=x5.trans x6
  refine aI (fun (p:Nat × Ch × List Nat × Value) w'=>Ext w w'∧p.1≤S.length∧Both w.heap.size c b6 (6+p.1) p.2.1 p.2.2.1 p.2.2.2 w'∧bs1<+:p.2.1.bs∧p.2.1.bs.length≤bs1.length+p.1∧SlR enR (p.2.2.1++ [b6]) w' wv (aZ bs1)) (fun p=> [(5,.pointer (some ⟨c,0,none⟩)),(6,.pointer (some ⟨b6,0,none⟩)),(10,wv),(11,.int .i64 (bs1.length:Nat)),(63,v''),(64,.int .i64 (S.length:Nat)),(65,.int .i64 (p.1:Nat))]) (fun p=>S.length - p.1) (0,ch,M,bv) ⟨rfl,rfl,rfl,rfl,rfl,rfl,rfl,trivial⟩ ⟨x4.trans x46,by simp,⟨K6.chr,K6.cell,K6.bs,K6.bk,by simp only;rw [←hbs1];omega,K6.top,K6.ok⟩,by rw [hbs1];exact List.prefix_refl _,by simp only;rw [hbs1];omega,hwv6⟩ ?_
  clear K4 K6 hwv6 hbs1 hb1 hM1 hwb hwv x46 x5 x6 x4 x1 x2 x02 K2 C1 hi h5 a2 hu6 hM5 hu
  clear i
  rintro ⟨i,ch,M,bv⟩ ρ w4 ⟨x4,hi,K4,hpre,hle,hwv4⟩
  simp only at hi K4 hpre hle hwv4
  dsimp only
  repeat (first|refine go1 ?_|refine zg λ_ _=>?_|refine zi λ_ _=>?_)
  refine zL (x:=.tmp 66) (p:=((i:Nat):Int)<((S.length:Nat):Int)) rfl (fun h5=>?_) (fun h5=>?_)
  ·have hil:i<S.length:=by omega
   have hMb:=K4.chr.base
   have hN:=K4.lt
   have hbv:=K4.bs
   have hbk:=K4.bk
   have hbl:=K4.len
   have htop:=K4.top
   have hcl:(aZ ch.bs).length≤144:=lC (n:=12) hbk (by omega) _ (Nat.le_refl _)
   have hNb:∀y∈M++ [b6],w.heap.size≤y:=fun y hy=>by
    rcases List.mem_append.1 hy with hy|hy
    ·exact hMb y hy
    ·simp at hy;omega
   have hvN:SlR nG (M++ [b6]) w4 v'' S:=hv''.step x4 (by simp) (fun y hy=>.inr (hNb y hy))
   have ek:((ch.bs.length:Nat):Int)+1=((ch.bs.length+1:Nat):Int):=by omega
   have r4:=Row.of_at K4.cell
   repeat (first|(refine aM (d:=some 67) (E:=nG) (M:=M++ [b6]) rfl rfl (n:=i) (l:=S) hvN rfl hil (fun ad cs r3 he=>?_);obtain ⟨tv,rfl,htv⟩:=id he;obtain ⟨q1,q2,etv⟩:=htv.form;obtain ⟨a,ha⟩:∃a,a=S[i]:=⟨_,rfl⟩;rw [←ha] at htv r3 etv)|refine zE (d':=13) (fun _=>rfl) rfl rfl (by rw [etv];rfl) (fun b8 w5 x5 a8 (r8:Row w5 ⟨b8,0,none⟩ [u8V a.act,tv]) hb8=>?_)|refine zg (fun w6 x6=>?_)|(refine dJ (b:=.cons ⟨some 77,_,_⟩ _) (fun (p:Value) w'=>Ext w6 w'∧SlE bM w' p (aZ ch.bs)) (fun p=> [(70,p),(72,tv),(76,.int .i64 (((ch.bs.length:Nat):Int)+1)),(5,.pointer (some ⟨c,0,none⟩)),(6,.pointer (some ⟨b6,0,none⟩)),(10,wv),(11,.int .i64 (bs1.length:Nat)),(63,v''),(64,.int .i64 (S.length:Nat)),(65,.int .i64 (i:Nat))]) ?_ ?_)|refine go1 ?_|refine zg λ_ _=>?_|refine zi λ_ _=>?_)
   ·repeat' (first|refine zB ?_ ?_|(refine zC (d:=some 70) rfl (uJ (M:=M++ [b6]) ((ch.top:Nat):Int) _ (SlR.ext hbv (by exact fx)) hbk (by omega)) ?_;rintro lvv w7 ⟨hlv7,x7⟩)|refine zG (d:=some 75) (E:=dW txR) (M:=M++ [b6]) (l:=ch.bs) rfl (SlR.ext hbv (by exact fx)) ?_|refine go1 ?_|refine zg λ_ _=>?_|refine zi λ_ _=>?_)
    all_goals exact ⟨lvv,by simp only [Has];exact ⟨rfl,rfl,rfl,rfl,rfl,rfl,rfl,rfl,rfl,rfl,trivial⟩,by exact fx,hlv7.ext (by exact fx)⟩
   rintro lvv ρ w7 ⟨x67,hlv7⟩
   rw [ek]
   have x47:Ext w4 w7:=(x5.trans x6).trans x67
   have s47:=x47.size
   refine zC (d:=some 77) rfl (aEc (M:=M++ [b6]) (l:=aZ ch.bs) (zs:=a.txs) ((ch.bs.length+1:Nat):Int) _ hlv7 (gA _ _) (pF _ _) (htv.ext x47) (by omega) (by omega) (fun y hy=>nLt (hN y hy) s47)) ?_
   rintro vtx w8 ⟨txs,oT,htl,hmk,x8⟩
   have hT:SlR txR (M++ [b6]) w8 vtx txs:=oT.slB (fun y hy=>nLt (hN y hy) s47)
   have hbx:=aC1.of_mk hmk htl
   have ho4:=hbx.2.1
   have x48:Ext w4 w8:=x47.trans x8
   have C8:=K4.chr.ext x48
   have r8b:Row w8 ⟨b6,0,none⟩ (c13 bv ch.top):=Row.ext x48 r4
   have hMo:=K4.chr.off
   repeat (first|refine go1 ?_|refine zg λ_ _=>?_|refine zi λ_ _=>?_)
   refine zC (d:=some 80) rfl (pC (U:= [b6]) (N:=M++ [b6]) (txs:=txs) _ C8 hT (fun y hy=>List.mem_append_left _ hy) (fun y hy=>List.mem_append_right _ hy) (fun y hy=>nLt (hN y (List.mem_append_right _ hy)) x48.size) (fun t ht=>(hmk t ht).sm) (by omega) (by omega) (by omega) (by omega)) ?_
   rintro e w9 ⟨-,⟨M',C9,hM9⟩,c9⟩
   have x09:Ext w w9:=(Ext.chg (x4.trans x48) c9).mono (fun y hy=>.inr (hMb y hy))
   have a9:=(K4.cell.ext x48).chg c9 (fun h=>hMo _ h (by simp))
   have hsub:∀y∈M'++ [b6],y∈M++ [b6]∨w8.heap.size≤y:=fun y hy=>by
    rcases List.mem_append.1 hy with hy|hy
    ·exact (hM9 y hy).imp (fun h=>List.mem_append_left _ h) id
    ·exact .inl (List.mem_append_right _ hy)
   have hbv9:SlR (dW txR) (M'++ [b6]) w9 bv ch.bs:=(hbv.ext x48).step c9 (fun y hy=>.inl (List.mem_append_left _ hy)) hsub
   have hT9:SlR txR (M'++ [b6]) w9 vtx txs:=hT.step c9 (fun y hy=>.inl (List.mem_append_left _ hy)) hsub
   have r9:=Row.of_at a9
   have C9l:=C9.lt
   repeat (first|refine go1 ?_|refine zg λ_ _=>?_|refine zi λ_ _=>?_)
   refine zC (d:=some 84) rfl (aD5 (M:=M'++ [b6]) (txs:=txs) _ hbv9 hT9 hbk hbx (by omega) (by omega) (fun y hy=>by
    rcases List.mem_append.1 hy with hy|hy
    ·exact C9l y hy
    ·simp at hy;subst hy;exact a9.lt)) ?_
   rintro _ w10 ⟨bv',rfl,hbv10,x10⟩
   repeat (first|refine go1 ?_|refine zg λ_ _=>?_|refine zi λ_ _=>?_)
   refine bX (b:=b6) (vs:=c13 bv' (cS ch txs).top) rfl rfl rfl (by simp [hbv10.one];rfl) (a9.ext x10) rfl (fun w11 c11 a11=>?_)
   have x011:Ext w w11:=(Ext.chg (x09.trans x10) c11).mono (fun y hy=>.inr (by simp at hy;omega))
   have K11:Both w.heap.size c b6 (6+(i+1)) (cS ch txs) M' bv' w11:=⟨(C9.ext x10).step c11 (fun y hy=>.inl hy),a11,hbv10.step c11 (fun y hy=>.inl (by simp at hy;simp [hy])) (fun y hy=>.inl hy),aXq hbk hbx,aWh hbl,bBv htop,K4.ok.conn txs⟩
   repeat (first|refine go1 ?_|refine zg λ_ _=>?_|refine zi λ_ _=>?_)
   exact ⟨(i+1,cS ch txs,M',bv'),⟨rfl,rfl,rfl,rfl,rfl,rfl,rfl,trivial⟩,⟨x011,by simp only;omega,K11,bM5 hpre,by simp only;have:=aWh (txs:=txs) hle;omega,(((hwv4.ext x48).step c9 (fun y hy=>.inl (List.mem_append_left _ hy)) hsub).ext x10).step c11 (fun y hy=>.inl (by simp at hy;simp [hy])) (fun y hy=>.inl hy)⟩,by simp only;omega⟩
  ·have htop:=K4.top
   have hok:=K4.ok
   have hbk:=K4.bk
   obtain ⟨bs2,top2⟩:=ch
   simp only at htop hpre hle hbk
   subst htop
   have hn2:bs2.length≤12:=by omega
   have hle6:bs2.length≤bs1.length+6:=by omega
   have hcn:∀m k,k≤(bs2.take m).length→(cM (bs2.take m) k).length≤144:=fun m k hk=>lC (n:=12) (fun b hb=>hbk b (List.mem_of_mem_take hb)) (by rw [List.length_take];omega) k hk
   have hcl2:(aZ bs2).length≤144:=lC (n:=12) hbk hn2 _ (Nat.le_refl _)
   have hp1:=List.prefix_iff_eq_take.1 hpre
   have hp2:=hpre.length_le
   have hM5:=K4.lt
   repeat (first|refine go1 ?_|refine zg λ_ _=>?_|refine zi λ_ _=>?_)
   refine zC (d:=some 90) rfl (mL _ K4.chr (by simp only;omega)) ?_
   rintro qv w5 ⟨hzv,hzb,x5⟩
   have hzv5:SlR enR (M++ [b6]) w5 qv (aZ bs2):=hzv.en fun y hy hm=>by have:=hzb y hy;have:=hM5 y hm;omega
   have e2:bs2.take (bs2.length - 0)=bs2:=tLe (by omega)
   repeat (first|refine go1 ?_|refine zg λ_ _=>?_|refine zi λ_ _=>?_)
   refine aI (fun (p:Nat × List Nat × Value) w'=>Ext w w'∧p.1≤bs2.length - bs1.length∧ChR (aB p.2.2) w' w.heap.size c p.2.1 ⟨bs2.take (bs2.length - p.1),bs2.length⟩∧bR (dW txR) T.L_api_Tx w.heap.size p.2.1 w' p.2.2 (zR bs2 p.1)∧SlR enR (p.2.1++aB p.2.2) w' wv (aZ bs1)∧SlR enR (p.2.1++aB p.2.2) w' qv (aZ bs2)) (fun p=> [(5,.pointer (some ⟨c,0,none⟩)),(10,wv),(11,.int .i64 (bs1.length:Nat)),(15,qv),(16,p.2.2)]) (fun p=>bs2.length - p.1) (0,M,.slice none 0 0) ⟨rfl,rfl,rfl,rfl,rfl,trivial⟩ ⟨x4.trans x5,by simp,by simp only;rw [e2];exact ((K4.chr.ext x5).more (fun y hy=>by simp [aB] at hy)),bR.nil _ _ _ _,(hwv4.ext x5).sub (fun y hy=>.inl (by simp [aB] at hy;simp [hy])),hzv5.sub (fun y hy=>.inl (by simp [aB] at hy;simp [hy]))⟩ ?_
   clear K4 hwv4 hzv5 hzv hzb hM5 x4 x5 e2 hi h5
   rintro ⟨j,M,ov⟩ ρ w4 ⟨x4,hj,C4,o4,hwv4,hzv4⟩
   simp only at hj C4 o4 hwv4 hzv4
   dsimp only
   have hMb:=C4.base
   have hMl:=C4.lt
   have hMo:=C4.off
   have ob:=o4.base
   have oll:=o4.lt
   have hlj:(bs2.take (bs2.length - j)).length=bs2.length - j:=by rw [List.length_take];omega
   repeat (first|refine go1 ?_|refine zg λ_ _=>?_|refine zi λ_ _=>?_)
   refine zC (d:=some 92) rfl (iN _ C4) ?_
   rintro _ w5 ⟨rfl,x5⟩
   rw [show (⟨bs2.take (bs2.length - j),bs2.length⟩:Ch).bs.length=bs2.length - j from hlj]
   by_cases hjl:j<bs2.length - bs1.length
   ·have hjb:j<bs2.length:=by omega
    have so:SlR (dW txR) M w4 ov (zR bs2 j):=o4.sl (fun y hy hv=>hMo y hy hv)
    have hol:(zR bs2 j).length=j:=aY1 _ _
    repeat (first|refine aD (d:=some 94) (.bool true) rfl (congrArg (fun b=>some (Value.bool b)) (dTr (by omega))) ?_|(refine zG (d:=some 97) (E:=dW txR) (M:=M) (l:=zR bs2 j) rfl (so.ext x5) ?_;rw [hol])|refine aD (d:=some 98) (.bool true) rfl (congrArg (fun b=>some (Value.bool b)) (dTr (by omega))) ?_|refine go1 ?_|refine zg λ_ _=>?_|refine zi λ_ _=>?_)
    have C5:=C4.ext x5
    refine zC (d:=some 102) rfl (sO _ C5 (fun k hk=>nTr (hcn _ k hk) (by omega)) (by simp only;omega) (by simp only;omega)) ?_
    rintro _ w6 ⟨tv,M',rfl,C6,hM6,c6,k1, -⟩
    obtain ⟨d1,d2⟩:=bHc (bs:=bs2) (j:=j) (n:=bs2.length) hjb (by omega) rfl
    rw [d1]
    rw [d2] at C6
    have k1:=k1 d1
    have eg:(⟨bs2.take (bs2.length - j),bs2.length⟩:Ch).bs.getD ((⟨bs2.take (bs2.length - j),bs2.length⟩:Ch).bs.length - 1) []=bs2.getD (bs2.length - 1 - j) []:=by
     show (bs2.take (bs2.length - j)).getD ((bs2.take (bs2.length - j)).length - 1) []=_
     rw [hlj,List.getD_eq_getElem?_getD,List.getElem?_take_of_lt (by omega),←List.getD_eq_getElem?_getD]
     congr 1;omega
    rw [eg] at k1
    obtain ⟨q1,q2,etv⟩:=k1.form
    have hM6':∀y∈M'++aB ov,y∈M++aB ov:=fun y hy=>by
     rcases List.mem_append.1 hy with hy|hy
     ·exact List.mem_append_left _ (hM6 y hy)
     ·exact List.mem_append_right _ hy
    have x06:Ext w w6:=(Ext.chg (x4.trans x5) c6).mono (fun y hy=>.inr (hMb y hy))
    have o6:bR (dW txR) T.L_api_Tx w.heap.size M' w6 ov (zR bs2 j):=(o4.ext x5).step c6 (fun y hy=>⟨fun h=>hMo y hy h,.inl hy⟩) (fun y hy=>.inl (hM6 y hy))
    have hwv6:SlR enR (M'++aB ov) w6 wv (aZ bs1):=(hwv4.ext x5).step c6 (fun y hy=>.inl (List.mem_append_left _ hy)) (fun y hy=>.inl (hM6' y hy))
    have hzv6:SlR enR (M'++aB ov) w6 qv (aZ bs2):=(hzv4.ext x5).step c6 (fun y hy=>.inl (List.mem_append_left _ hy)) (fun y hy=>.inl (hM6' y hy))
    repeat (first|refine zI (d:=some 109) (cs:= [tv]) (by rw [etv];rfl) (fun b7 w7 x7 a7 hb7=>?_)|refine go1 ?_|refine zg λ_ _=>?_|refine zi λ_ _=>?_)
    have k7:SlR txR (aB ov++M') w7 tv (bs2.getD (bs2.length - 1 - j) []):=(k1.ext x7).sub (fun y hy=>.inl (by
     rcases List.mem_append.1 hy with hy|hy
     ·exact List.mem_append_right _ hy
     ·exact List.mem_append_left _ hy))
    refine gB (d:=some 110) (E:=dW txR) (M:=M') (v:=ov) (cs:= [tv]) (a:=bs2.getD (bs2.length - 1 - j) []) rfl rfl (o6.ext x7) (nTr x06.size x7.size) rfl rfl a7 ⟨tv,rfl,k7⟩ (by rw [hol];omega) (fun v9 w9 o9 c9 hb9=>?_)
    have q3:ChR (aB v9++aB ov) w7 w.heap.size c M' ⟨bs2.take (bs2.length - (j+1)),bs2.length⟩:=(C6.ext x7).more (fun y hy=>(List.mem_append.1 hy).elim (fun h=>hb9 y h) .inl)
    have q4:=(q3.step c9 (fun y hy=>.inl (by simp [hy]))).more (U':=aB v9) (fun y hy=>.inl (by simp [hy]))
    have hs9:∀y∈M'++aB v9,y∈M'++aB ov∨w7.heap.size≤y:=fun y hy=>by
     rcases List.mem_append.1 hy with hy|hy
     ·exact .inl (List.mem_append_left _ hy)
     ·exact (hb9 y hy).imp (List.mem_append_right _) id
    repeat (first|refine go1 ?_|refine zg λ_ _=>?_|refine zi λ_ _=>?_)
    exact ⟨(j+1,M',v9),⟨rfl,rfl,rfl,rfl,rfl,trivial⟩,⟨(Ext.chg (x06.trans x7) c9).mono (fun y hy=>.inr (ob y hy)),by simp only;omega,q4,by simp only;rw [bG1];exact o9,(hwv6.ext x7).step c9 (fun y hy=>.inl (by simp [hy])) hs9,(hzv6.ext x7).step c9 (fun y hy=>.inl (by simp [hy])) hs9⟩,by simp only;omega⟩
   ·have ej:j=bs2.length - bs1.length:=by omega
    have e1:bs2.take (bs2.length - j)=bs1:=by rw [ej,show bs2.length - (bs2.length - bs1.length)=bs1.length by omega];exact hp1.symm
    have hol:(zR bs2 j).length=j:=aY1 _ _
    repeat (first|refine aD (d:=some 94) (.bool false) rfl (congrArg (fun b=>some (Value.bool b)) (dFa (by omega))) ?_|refine go1 ?_|refine zg λ_ _=>?_|refine zi λ_ _=>?_)
    have C5:=C4.ext x5
    refine zC (d:=some 112) rfl (mL _ C5 (by simp only;rw [e1];omega)) ?_
    rintro yv w6 ⟨hyv, -,x6⟩
    rw [show (⟨bs2.take (bs2.length - j),bs2.length⟩:Ch).bs=bs1 from e1] at hyv
    repeat (first|refine go1 ?_|refine zg λ_ _=>?_|refine zi λ_ _=>?_)
    refine zC (d:=some 113) rfl (tX _) ?_
    rintro _ w7 ⟨rfl,x7⟩
    repeat (first|refine go1 ?_|refine zg λ_ _=>?_|refine zi λ_ _=>?_)
    refine zC (d:=some 117) rfl (iN _ ((C5.ext x6).ext x7)) ?_
    rintro _ w8 ⟨rfl,x8⟩
    rw [show (⟨bs2.take (bs2.length - j),bs2.length⟩:Ch).bs=bs1 from e1]
    have x48:Ext w4 w8:=x5.trans (x6.trans (x7.trans x8))
    have hyv8:=hyv.ext (x7.trans x8)
    have hwv8:=hwv4.ext x48
    obtain ⟨L1,hL1⟩:∃L1,L1=aZ bs1:=⟨_,rfl⟩
    rw [←hL1] at hyv8 hwv8
    have hL1b:L1.length≤144:=by rw [hL1];exact hcl1
    clear x5 x6 x7 x8
    repeat (first|refine aD (d:=some 119) (.bool false) rfl (congrArg (fun b=>some (Value.bool (!b))) (dTr rfl)) ?_|refine aY (d:=some 123) rfl hyv8 ?_|refine zG (d:=some 125) (E:=enR) (M:=M++aB ov) (l:=L1) rfl hwv8 ?_|refine aD (d:=some 126) (.bool false) rfl (congrArg (fun b=>some (Value.bool (!b))) (dTr rfl)) ?_|refine aY (d:=some 129) rfl hyv8 ?_|refine go1 ?_|refine zg λ_ _=>?_|refine zi λ_ _=>?_)
    refine aI (fun (p:Nat) w'=>Ext w8 w'∧p≤L1.length) (fun p=> [(5,.pointer (some ⟨c,0,none⟩)),(10,wv),(15,qv),(16,ov),(19,yv),(128,yv),(129,.int .i64 (L1.length:Nat)),(130,.int .i64 (p:Nat))]) (fun p=>L1.length - p) 0 ⟨rfl,rfl,rfl,rfl,rfl,rfl,rfl,rfl,trivial⟩ ⟨Ext.refl _,by simp⟩ ?_
    rintro k ρ w9 ⟨x9,hk⟩
    repeat (first|refine go1 ?_|refine zg λ_ _=>?_|refine zi λ_ _=>?_)
    refine zL (x:=.tmp 131) (p:=((k:Nat):Int)<((L1.length:Nat):Int)) rfl (fun h7=>?_) (fun h7=>?_)
    ·have hkl:k<L1.length:=by omega
     have hwe:=hwv8.en
     repeat (first|refine aS (d:=some 135) (E:=bM) rfl rfl (n:=k) (l:=L1) (SlE.ext (w:=w8) (by exact fx) hyv8) rfl hkl (fun ad1 ra=>?_)|refine aS (d:=some 139) (E:=bM) rfl rfl (n:=k) (l:=L1) (SlE.ext (w:=w8) (by exact fx) hwe) rfl hkl (fun ad2 rb=>?_)|refine aD (d:=some 141) (.bool false) rfl (bP2 L1[k]) ?_|refine go1 ?_|refine zg λ_ _=>?_|refine zi λ_ _=>?_)
     exact ⟨k+1,⟨rfl,rfl,rfl,rfl,rfl,rfl,rfl,rfl,trivial⟩,⟨by exact fx,by omega⟩,by omega⟩
    have x49:Ext w4 w9:=x48.trans x9
    have so9:SlR (dW txR) M w9 ov (zR bs2 j):=(o4.ext x49).sl (fun y hy hv=>hMo y hy hv)
    repeat (first|(refine zG (d:=some 144) (E:=dW txR) (M:=M) (l:=zR bs2 j) rfl so9 ?_;rw [hol])|refine go1 ?_|refine zg λ_ _=>?_|refine zi λ_ _=>?_)
    refine aI (fun (p:Nat × List Nat) w'=>Ext w w'∧p.1≤j∧ChR (aB ov) w' w.heap.size c p.2 ⟨bs2.take (bs2.length - p.1),bs2.length⟩∧bR (dW txR) T.L_api_Tx w.heap.size p.2 w' ov (zR bs2 j)∧SlR enR (p.2++aB ov) w' qv (aZ bs2)) (fun p=> [(5,.pointer (some ⟨c,0,none⟩)),(15,qv),(16,ov),(21,.int .i64 (((p.1:Nat):Int) - 1))]) (fun p=>p.1) (j,M) ⟨rfl,rfl,rfl,rfl,trivial⟩ ⟨x4.trans x49,by simp,C4.ext x49,o4.ext x49,hzv4.ext x49⟩ ?_
    clear C5 hyv hyv8 hwv8 hwv4 x9 x49 x48 hk h7 so9 hL1 C4 o4 hzv4 hMb hMl hMo oll ob x4 hlj e1
    rintro ⟨k,M⟩ ρ w4 ⟨x4,hk,C4,o4,hzv4⟩
    simp only at hk C4 o4 hzv4
    dsimp only
    have hMb:=C4.base
    have hMo:=C4.off
    have oll:=o4.lt
    repeat (first|refine go1 ?_|refine zg λ_ _=>?_|refine zi λ_ _=>?_)
    refine zL (x:=.tmp 147) (p:=((k:Nat):Int) - 1≥0) rfl (fun h7=>?_) (fun h7=>?_)
    ·obtain ⟨m,rfl⟩:∃m,k=m+1:=⟨k - 1,by omega⟩
     rw [show ((m+1:Nat):Int) - 1=(m:Nat) by omega]
     have hml:m<(zR bs2 j).length:=by omega
     have hlt2:bs2.length - (m+1)<bs2.length:=by omega
     have hmem:bs2.getD (bs2.length - (m+1)) []∈bs2:=by
      rw [List.getD_eq_getElem?_getD,List.getElem?_eq_getElem hlt2];exact gMe hlt2
     obtain ⟨hb1,hb2,hb3⟩:=hbk _ hmem
     have eo:(zR bs2 j)[m]=bs2.getD (bs2.length - (m+1)) []:=by
      rw [bN8];congr 1;omega
     have hlk:(bs2.take (bs2.length - (m+1))).length=bs2.length - (m+1):=by rw [List.length_take];omega
     repeat (first|(refine aZ5 (d:=some 153) (v:=ov) (E:=dW txR) (M:=M) (B:=w.heap.size) (t:=T.L_api_Tx) rfl rfl (n:=m) (l:=zR bs2 j) o4 rfl hml (fun ad cs r4 he=>?_);rw [eo] at he;obtain ⟨tv,rfl,htv⟩:=he)|refine go1 ?_|refine zg λ_ _=>?_|refine zi λ_ _=>?_)
     have hcc:=hcn (bs2.length - (m+1)) _ (Nat.le_refl _)
     have hcc:(aZ (bs2.take (bs2.length - (m+1)))).length≤144:=hcc
     refine zC (d:=some 155) rfl (pC (U:=aB ov) (N:=aB ov++M) (txs:=bs2.getD (bs2.length - (m+1)) []) _ C4 htv (fun y hy=>List.mem_append_right _ hy) (fun y hy=>List.mem_append_left _ hy) oll hb3 (by omega) (by simp only;omega) (by simp only;omega) (by simp only;omega)) ?_
     obtain ⟨d1,d2⟩:=bEr hok hlt2
     rw [d2,d1]
     rintro e w9 ⟨⟨ii,hE⟩,⟨M',C9,hM9⟩,c9⟩
     obtain rfl:=hE.nilE.1 rfl
     rw [show bs2.length - (m+1)+1=bs2.length - m by omega] at C9
     have hs9:∀y∈M'++aB ov,y∈M++aB ov∨w4.heap.size≤y:=fun y hy=>by
      rcases List.mem_append.1 hy with hy|hy
      ·exact (hM9 y hy).imp (List.mem_append_left _) id
      ·exact .inl (List.mem_append_right _ hy)
     repeat (first|refine go1 ?_|refine zg λ_ _=>?_|refine zi λ_ _=>?_)
     exact ⟨(m,M'),⟨rfl,rfl,rfl,rfl,trivial⟩,⟨(Ext.chg x4 c9).mono (fun y hy=>.inr (hMb y hy)),by simp only;omega,C9,o4.step c9 (fun y hy=>⟨fun h=>hMo y hy h,.inl hy⟩) hM9,hzv4.step c9 (fun y hy=>.inl (List.mem_append_left _ hy)) hs9⟩,by simp only;omega⟩
    ·have ek:k=0:=by omega
     subst ek
     have e2:bs2.take (bs2.length - 0)=bs2:=tLe (by omega)
     rw [e2] at C4
     repeat (first|refine go1 ?_|refine zg λ_ _=>?_|refine zi λ_ _=>?_)
     refine zC (d:=some 158) rfl (mL _ C4 (by simp only;omega)) ?_
     rintro hv w5 ⟨hhv, -,x5⟩
     have hzv5:=hzv4.ext x5
     obtain ⟨L2,hL2⟩:∃L2,L2=aZ bs2:=⟨_,rfl⟩
     rw [show aZ (⟨bs2,bs2.length⟩:Ch).bs=L2 from hL2.symm] at hhv
     rw [←hL2] at hzv5
     have hL2b:L2.length≤144:=by rw [hL2];exact hcl2
     repeat (first|refine aY (d:=some 160) rfl hhv ?_|refine zG (d:=some 162) (E:=enR) (M:=M++aB ov) (l:=L2) rfl hzv5 ?_|refine aD (d:=some 163) (.bool false) rfl (congrArg (fun b=>some (Value.bool (!b))) (dTr rfl)) ?_|refine aY (d:=some 165) rfl hhv ?_|refine go1 ?_|refine zg λ_ _=>?_|refine zi λ_ _=>?_)
     refine aI (fun (p:Nat) w'=>Ext w5 w'∧p≤L2.length) (fun p=> [(15,qv),(22,hv),(164,hv),(165,.int .i64 (L2.length:Nat)),(166,.int .i64 (p:Nat))]) (fun p=>L2.length - p) 0 ⟨rfl,rfl,rfl,rfl,rfl,trivial⟩ ⟨Ext.refl _,by simp⟩ ?_
     rintro k ρ w9 ⟨x9,hk⟩
     repeat (first|refine go1 ?_|refine zg λ_ _=>?_|refine zi λ_ _=>?_)
     refine zL (x:=.tmp 167) (p:=((k:Nat):Int)<((L2.length:Nat):Int)) rfl (fun h7=>?_) (fun h7=>?_)
     ·have hkl:k<L2.length:=by omega
      have hze:=hzv5.en
      repeat (first|refine aS (d:=some 171) (E:=bM) rfl rfl (n:=k) (l:=L2) (SlE.ext (w:=w5) (by exact fx) hhv) rfl hkl (fun ad1 ra=>?_)|refine aS (d:=some 175) (E:=bM) rfl rfl (n:=k) (l:=L2) (SlE.ext (w:=w5) (by exact fx) hze) rfl hkl (fun ad2 rb=>?_)|refine aD (d:=some 177) (.bool false) rfl (bP2 L2[k]) ?_|refine go1 ?_|refine zg λ_ _=>?_|refine zi λ_ _=>?_)
      exact ⟨k+1,⟨rfl,rfl,rfl,rfl,rfl,trivial⟩,⟨by exact fx,by omega⟩,by omega⟩
     ·repeat (first|refine go1 ?_|refine zg λ_ _=>?_|refine zi λ_ _=>?_)
      exact aA rfl ⟨rfl,(x4.trans x5).trans x9⟩
end
end Go.Proofs.YtgloknkcfchnlaaGreat
