/- Contracts: a block as a link of a chain, the link. Contracts -/
import Derived.Test.YteceapipdhnhdaaGreatDoorNa36
set_option linter.unusedVariables false
set_option linter.unusedSimpArgs false
namespace Go.Proofs.YteceapipdhnhdaaGreatDoor
section
open Go Go.K
attribute [local irreducible] aH aM aY KOp.wp K.Spec u32 leS vnS str aP aG aN bK idT aQ
set_option maxHeartbeats 4000000 in
theorem aZw {M N:List Nat} {v sv mv:Value} {txs:List Tx} {spent made:List En} (w:World) (hx:SlR txR N w v txs) (hs:∀t∈txs,t.Sm) (hMN:∀b∈M,b∈N) (hM:∀b∈M,b<w.heap.size) (hk0:txs.length≤1000) (hsv:SlR enR M w sv spent) (hmv:SlR enR M w mv made):
  K.Spec Tryz.prog F.chain_linked [v,.agg #[sv,mv]] w fun r w'=>∃cs:List Value,r=.agg cs.toArray∧lkR.rel M w' cs ⟨txs,spent,made⟩∧Ext w w':=by
 obtain ⟨q1,q2,esv⟩:=hsv.form
 obtain ⟨q3,q4,emv⟩:=hmv.form
 have o1:sv.oneCell'=true:=by rw [esv];rfl
 have o2:mv.oneCell'=true:=by rw [emv];rfl
 refine aNx rfl ?_
 unfold aCq
 refine oy ?_
 repeat (first|refine zD (d:=some 3) (cs:= [sv,mv]) rfl (by rw [esv,emv];rfl) (fun b3 w0 x0 a3 (r3:Row w0 ⟨b3,0,none⟩ [sv,mv]) hb3=>?_)|refine zH (d:=some 4) (fun b4 w1 x1 a4 hb4=>?_)|refine zg (fun w2 x2=>?_)|refine zi (fun w2 x2=>?_)|refine dN (b:=.cons ⟨none,.storeN _ _ _,_⟩ _) (fun (p:Value × Nat × Nat) w'=>Ext w1 w'∧SlR txR (p.2.2::p.2.1::b4::M) w' p.1 txs∧dB ptK Value.string w' p.2.1 []∧At w' p.2.2 (.cells [Value.slice none 0 0,.slice none 0 0,.slice none 0 0,.slice none 0 0,.map none].toArray T.chain_link (0,0))∧w1.heap.size≤p.2.1∧w1.heap.size≤p.2.2) (fun p=> [(0,v),(3,.pointer (some ⟨b3,0,none⟩)),(4,.pointer (some ⟨b4,0,none⟩)),(5,.pointer (some ⟨p.2.2,0,none⟩)),(16,.agg #[p.1,.slice none 0 0,sv,mv,.map (some p.2.1)])]) ?_ ?_|(first|refine go2 ?_|fail))
 ·have s01:=x0.size
  have s12:=x1.size
  have l4:=a4.lt
  clear a4 a3
  repeat' (first|refine zB ?_ ?_|(refine zH (d:=some 5) (fun b5 w5 x5 a5 hb5=>?_);have h15:w1.heap.size≤b5:=nTr (Ext.size (show Ext w1 _ by exact fx)) hb5)|(refine iX (d:=some 15) (E:=ptK) (fv:=Value.string) (fun bm w6 x6 m6 hbm=>?_);have h16:w1.heap.size≤bm:=nTr (Ext.size (show Ext w1 _ by exact fx)) hbm)|(refine zC (d:=some 13) rfl (vW (M:=b5::bm::b4::M) (N:=b5::bm::b4::N) _ (hx.step (show Ext w _ by exact fx) (by simp) (fun y hy=>by simp only [List.mem_cons] at hy;rcases hy with rfl|rfl|rfl|hy;exact .inr (by omega);exact .inr (by omega);exact .inr (by omega);exact .inl hy)) hs (fun y hy=>by simp only [List.mem_cons] at hy;rcases hy with rfl|rfl|rfl|hy;exact .inl (by simp);exact .inl (by simp);exact .inl (by simp);exact .inl (by simp [hMN y hy])) (fun y hy=>by simp only [List.mem_cons] at hy;rcases hy with rfl|rfl|rfl|hy;exact nLt a5.lt (Ext.size (by exact fx));exact nLt m6.lt (Ext.size (by exact fx));exact nLt l4 (Ext.size (by exact fx));exact nLt (hM y hy) (Ext.size (by exact fx))) hk0) ?_;rintro tv w7 ⟨oT,x7⟩;have hT:=oT.slB (fun y hy=>by simp only [List.mem_cons] at hy;rcases hy with rfl|rfl|rfl|hy;exact nLt a5.lt (Ext.size (by exact fx));exact nLt m6.lt (Ext.size (by exact fx));exact nLt l4 (Ext.size (by exact fx));exact nLt (hM y hy) (Ext.size (by exact fx)));clear oT;obtain ⟨q5,q6,etv⟩:=hT.form)|(refine zC (d:=some 13) rfl (vW (M:=b5::b4::M) (N:=b5::b4::N) _ (hx.step (show Ext w _ by exact fx) (by simp) (fun y hy=>by simp only [List.mem_cons] at hy;rcases hy with rfl|rfl|hy;exact .inr (by omega);exact .inr (by omega);exact .inl hy)) hs (fun y hy=>by simp only [List.mem_cons] at hy;rcases hy with rfl|rfl|hy;exact .inl (by simp);exact .inl (by simp);exact .inl (by simp [hMN y hy])) (fun y hy=>by simp only [List.mem_cons] at hy;rcases hy with rfl|rfl|hy;exact nLt a5.lt (Ext.size (by exact fx));exact nLt l4 (Ext.size (by exact fx));exact nLt (hM y hy) (Ext.size (by exact fx))) hk0) ?_;rintro tv w7 ⟨oT,x7⟩;have hT:=oT.slB (fun y hy=>by simp only [List.mem_cons] at hy;rcases hy with rfl|rfl|hy;exact nLt a5.lt (Ext.size (by exact fx));exact nLt l4 (Ext.size (by exact fx));exact nLt (hM y hy) (Ext.size (by exact fx)));clear oT;obtain ⟨q5,q6,etv⟩:=hT.form)|(refine zC (d:=some 13) rfl (vW (M:=bm::b4::M) (N:=bm::b4::N) _ (hx.step (show Ext w _ by exact fx) (by simp) (fun y hy=>by simp only [List.mem_cons] at hy;rcases hy with rfl|rfl|hy;exact .inr (by omega);exact .inr (by omega);exact .inl hy)) hs (fun y hy=>by simp only [List.mem_cons] at hy;rcases hy with rfl|rfl|hy;exact .inl (by simp);exact .inl (by simp);exact .inl (by simp [hMN y hy])) (fun y hy=>by simp only [List.mem_cons] at hy;rcases hy with rfl|rfl|hy;exact nLt m6.lt (Ext.size (by exact fx));exact nLt l4 (Ext.size (by exact fx));exact nLt (hM y hy) (Ext.size (by exact fx))) hk0) ?_;rintro tv w7 ⟨oT,x7⟩;have hT:=oT.slB (fun y hy=>by simp only [List.mem_cons] at hy;rcases hy with rfl|rfl|hy;exact nLt m6.lt (Ext.size (by exact fx));exact nLt l4 (Ext.size (by exact fx));exact nLt (hM y hy) (Ext.size (by exact fx)));clear oT;obtain ⟨q5,q6,etv⟩:=hT.form)|(refine zC (d:=some 13) rfl (vW (M:=b4::M) (N:=b4::N) _ (hx.step (show Ext w _ by exact fx) (by simp) (fun y hy=>by simp only [List.mem_cons] at hy;rcases hy with rfl|hy;exact .inr (by omega);exact .inl hy)) hs (fun y hy=>by simp only [List.mem_cons] at hy;rcases hy with rfl|hy;exact .inl (by simp);exact .inl (by simp [hMN y hy])) (fun y hy=>by simp only [List.mem_cons] at hy;rcases hy with rfl|hy;exact nLt l4 (Ext.size (by exact fx));exact nLt (hM y hy) (Ext.size (by exact fx))) hk0) ?_;rintro tv w7 ⟨oT,x7⟩;have hT:=oT.slB (fun y hy=>by simp only [List.mem_cons] at hy;rcases hy with rfl|hy;exact nLt l4 (Ext.size (by exact fx));exact nLt (hM y hy) (Ext.size (by exact fx)));clear oT;obtain ⟨q5,q6,etv⟩:=hT.form)|refine aZ (d:=some 16) (cs:= [tv,.slice none 0 0,sv,mv,.map (some bm)]) (by rw [etv,esv,emv];rfl) ?_|(first|refine go2 ?_|fail))
  all_goals exact ⟨(tv,bm,b5),⟨rfl,rfl,rfl,rfl,rfl,trivial⟩,by exact fx,hT.step (show Ext w7 _ by exact fx) (by simp) (by
   intro y hy
   simp only [List.mem_cons] at hy
   rcases hy with rfl|rfl|rfl|hy
   ·first
     |exact .inl (List.Mem.head _)
     |exact .inl (List.Mem.tail _ (List.Mem.head _))
     |exact .inr (nTr (Ext.size (show Ext w7 _ by exact fx)) hb5)
   ·first
     |exact .inl (List.Mem.head _)
     |exact .inl (List.Mem.tail _ (List.Mem.head _))
     |exact .inr (nTr (Ext.size (show Ext w7 _ by exact fx)) hbm)
   ·first
     |exact .inl (List.Mem.head _)
     |exact .inl (List.Mem.tail _ (List.Mem.head _))
     |exact .inl (List.Mem.tail _ (List.Mem.tail _ (List.Mem.head _)))
   ·first
     |exact .inl hy
     |exact .inl (List.Mem.tail _ hy)
     |exact .inl (List.Mem.tail _ (List.Mem.tail _ hy))
     |exact .inl (List.Mem.tail _ (List.Mem.tail _ (List.Mem.tail _ hy)))),m6.ext (by exact fx),At.ext (by exact fx) a5,h16,h15⟩
 ·rintro ⟨tv,bm,b5⟩ ρ w3 ⟨x13,hT,m3,a5,hbm,hb5⟩
  simp only at hT m3 a5 hbm hb5
  dsimp only
  obtain ⟨q5,q6,etv⟩:=hT.form
  have o3:tv.oneCell'=true:=by rw [etv];rfl
  have lbm:=m3.lt
  have lb5:=a5.lt
  have hne:b5≠bm:=by
   obtain ⟨es,clock,h1,_⟩:=m3
   exact a5.ne h1 (by simp)
  have x01:Ext w w1:=x0.trans x1
  have s01:=x01.size
  have s00:=x0.size
  have x03:Ext w w3:=x01.trans x13
  have a4':=At.ext x13 a4
  have l4:=a4.lt
  have hx3:SlR txR (b5::bm::N) w3 v txs:=hx.step x03 (by simp) (fun y hy=>by
   simp only [List.mem_cons] at hy
   rcases hy with rfl|rfl|hy
   ·exact .inr (by omega)
   ·exact .inr (by omega)
   ·exact .inl hy)
  have hsv3:SlR enR (b5::bm::b4::M) w3 sv spent:=hsv.step x03 (by simp) (fun y hy=>by
   simp only [List.mem_cons] at hy
   rcases hy with rfl|rfl|rfl|hy
   ·exact .inr (by omega)
   ·exact .inr (by omega)
   ·exact .inr (by omega)
   ·exact .inl hy)
  have hmv3:SlR enR (b5::bm::b4::M) w3 mv made:=hmv.step x03 (by simp) (fun y hy=>by
   simp only [List.mem_cons] at hy
   rcases hy with rfl|rfl|rfl|hy
   ·exact .inr (by omega)
   ·exact .inr (by omega)
   ·exact .inr (by omega)
   ·exact .inl hy)
  refine cE (b:=b5) (vs:= [tv,.slice none 0 0,sv,mv,.map (some bm)]) rfl rfl rfl (by simp [o1,o2,o3];exact ⟨rfl,rfl⟩) a5 rfl (fun w4 c4 a54=>?_)
  have s34:=c4.size
  clear x0 x1 x2 x01 a3 r3 a4
  have hx4:SlR txR (b5::bm::N) w4 v txs:=hx3.step c4 (fun y hy=>.inl (by simp at hy;simp [hy])) (fun y hy=>.inl hy)
  have hT4:SlR txR (b5::bm::b4::M) w4 tv txs:=hT.step c4 (fun y hy=>.inl (by simp at hy;simp [hy])) (fun y hy=>.inl hy)
  have hsv4:SlR enR (b5::bm::b4::M) w4 sv spent:=hsv3.step c4 (fun y hy=>.inl (by simp at hy;simp [hy])) (fun y hy=>.inl hy)
  have hmv4:SlR enR (b5::bm::b4::M) w4 mv made:=hmv3.step c4 (fun y hy=>.inl (by simp at hy;simp [hy])) (fun y hy=>.inl hy)
  have m4:=m3.chg c4 (by simp;omega)
  have a44:=At.chg c4 a4' (by simp;omega)
  have x04:Ext w w4:=(Ext.chg x03 c4).mono (fun y hy=>.inr (by simp at hy;omega))
  have sub:∀y∈ [b5,bm],∀L:List Nat,y∈b5::bm::L:=by
   intro y hy L
   simp at hy ⊢
   rcases hy with rfl|rfl
   ·exact .inl rfl
   ·exact .inr (.inl rfl)
  clear c4 x03 m3 a4' hT hx3 hsv3 hmv3 a5 x13
  repeat (first|refine zG (d:=some 18) (E:=txR) (M:=b5::bm::N) (l:=txs) rfl hx4 ?_|(refine aJ (fun (p:Nat × Value × List ByteArray × List (Pt × ByteArray)) w'=>Chg [b5,bm] w4 w'∧p.1≤txs.length∧At w' b5 (.cells [tv,p.2.1,sv,mv,.map (some bm)].toArray T.chain_link (0,0))∧Own bB T.string w4.heap.size w' p.2.1 p.2.2.1∧p.2.2.1.length≤p.1∧dB ptK Value.string w' bm p.2.2.2) (fun p=> [(4,.pointer (some ⟨b4,0,none⟩)),(5,.pointer (some ⟨b5,0,none⟩)),(17,v),(18,.int .i64 (txs.length:Nat)),(19,.int .i64 (p.1:Nat))]) (fun p=>txs.length - p.1) (0,.slice none 0 0, [], []) ⟨rfl,rfl,rfl,rfl,rfl,trivial⟩ ⟨Chg.refl _ _,by simp,a54,Own.nil _ _ _,by simp,m4⟩ ?_;rintro ⟨k,idv,ids,sm⟩ ρ w5 ⟨c5,hk,a55,oi,hil,m5⟩;simp only at hk a55 oi hil m5;dsimp only)|(first|refine go2 ?_|fail))
  refine zL (x:=.tmp 20) (p:=((k:Nat):Int)<((txs.length:Nat):Int)) rfl (fun h9=>?_) (fun h9=>?_)
  ·have hkl:k<txs.length:=by omega
   have hst:=hs _ (gMe hkl)
   have x05:Ext w w5:=(Ext.chg x04 c5).mono (fun y hy=>.inr (by simp at hy;omega))
   have oib:=oi.base
   have s04:=x04.size
   have hx5:SlR txR (aC idv++b5::bm::N) w5 v txs:=hx.step x05 (by simp) (fun y hy=>by
    simp only [List.mem_append,List.mem_cons] at hy
    rcases hy with hy|rfl|rfl|hy
    ·exact .inr (by have:=oib y hy;omega)
    ·exact .inr (by omega)
    ·exact .inr (by omega)
    ·exact .inl hy)
   obtain ⟨t,ht⟩:∃t,t=txs[k]:=⟨_,rfl⟩
   rw [←ht] at hst
   have hins:=hst.ins
   have s45:=c5.size
   have row5:=Row.of_at a55
   have oione:idv.oneCell'=true:=by obtain ⟨_,_,e⟩:=oi.sl.form;rw [e];rfl
   have c45':Unit→Chg [b5,bm] w4 w5:=fun _=>c5
   clear c5
   repeat (first|(refine aR (d:=some 21) (E:=txR) (M:=aC idv++b5::bm::N) rfl rfl (n:=k) (l:=txs) hx5 rfl hkl (fun ad cs r4 he=>?_);rw [←ht] at he;obtain ⟨iv,ov,rfl,p1,p2,p3⟩:=id he)|refine zE (d':=7) (fun _=>rfl) rfl rfl (txR.one he |> List.all_eq_true.2) (fun b7 w6 x6 a7 (r7:Row w6 ⟨b7,0,none⟩ (aK t iv ov)) hb7=>?_)|(refine zC (d:=some 25) rfl (vK (M:=aC idv++b5::bm::N) (cs:=aK t iv ov) (t:=t) _ (R.ext he (by exact fx)) hst) ?_;rintro _ w7 ⟨rfl,x7⟩;rw [bBb])|refine zI (d:=some 31) (cs:= [.string (idS t)]) rfl (fun b8 w8 x8 a8 hb8=>?_)|refine bZ (d:=some 32) (E:=bB) (v:=idv) (l2:= [idS t]) rfl (oi.ext (by exact fx)) (nTr s45 (Ext.size (show Ext w5 _ by exact fx))) rfl rfl (dR a8 rfl) rfl rfl (by simp only [List.length_cons,List.length_nil];omega) (fun v9 w9 o9 c9=>?_)|(first|refine go2 ?_|fail))
   have x58:Ext w5 w8:=by exact fx
   have n5:b5∉aC idv:=fun h=>by have:=oib _ h;omega
   have n7:b7∉aC idv:=fun h=>by have:=Own.blk_lt oi _ h;have:=a7.lt;omega
   have nm:bm∉aC idv:=fun h=>by have:=oib _ h;omega
   have a59:=At.chg c9 (At.ext x58 a55) n5
   have r79:Row w9 ⟨b7,0,none⟩ (aK t iv ov):=Row.chg c9 (Row.ext (x7.trans x8) r7) n7
   have m9:=(m5.ext x58).chg c9 nm
   have p19:SlR inR (b5::bm::N) w9 iv t.ins:=p1.step (Chg.trans x58 c9) (fun y hy=>.inl (by simp only [List.nil_append] at hy;exact List.mem_append_left _ hy)) (fun y hy=>.inl (List.mem_append_right _ hy))
   have c49:Chg [b5,bm] w4 w9:=((c45' ()).trans (Chg.trans x58 c9)).mono (fun y hy=>by
    simp only [List.nil_append] at hy
    exact (List.mem_append.1 hy).elim .inl (fun h=>.inr (oib y h)))
   have o9one:v9.oneCell'=true:=by obtain ⟨_,_,e⟩:=o9.sl.form;rw [e];rfl
   have o9b:=o9.base
   have s89:=c9.size
   have l7:=a7.lt
   have row9:=Row.of_at a59
   clear x6 x7 x8 x58 a8 r7 a7 c9
   repeat (first|refine go2 ?_|fail)
   refine bC (b:=b5) (o:=1) (cur:= [tv,idv,sv,mv,.map (some bm)]) rfl rfl o9one a59 (Nat.le_of_ble_eq_true rfl) (fun w10 c10 a10=>?_)
   have m10:=m9.chg c10 (by simp;omega)
   have r710:=Row.chg c10 r79 (by simp;omega)
   have p110:SlR inR (b5::bm::N) w10 iv t.ins:=p19.step c10 (fun y hy=>.inl (by simp at hy;simp [hy])) (fun y hy=>.inl hy)
   have o910:=o9.chg c10 (fun y hy=>by have:=o9b y hy;simp;omega)
   have c410:Chg [b5,bm] w4 w10:=(c49.trans c10).mono (by simp)
   have s910:=c10.size
   clear c49 c10 m9 r79 p19 o9 a59 row9 m5 oi a55 row5
   repeat (first|refine zG (d:=some 36) (E:=inR) (M:=b5::bm::N) (l:=t.ins) rfl p110 ?_|(refine aJ (fun (p:Nat × List (Pt × ByteArray)) w'=>Chg [bm] w10 w'∧p.1≤t.ins.length∧dB ptK Value.string w' bm p.2) (fun p=> [(4,.pointer (some ⟨b4,0,none⟩)),(5,.pointer (some ⟨b5,0,none⟩)),(8,.string (idS t)),(17,v),(18,.int .i64 (txs.length:Nat)),(19,.int .i64 (k:Nat)),(35,iv),(36,.int .i64 (t.ins.length:Nat)),(37,.int .i64 (p.1:Nat))]) (fun p=>t.ins.length - p.1) (0,sm) ⟨rfl,rfl,rfl,rfl,rfl,rfl,rfl,rfl,rfl,trivial⟩ ⟨Chg.refl _ _,by simp,m10⟩ ?_;rintro ⟨j,sm2⟩ ρ w11 ⟨c11,hj,m11⟩;simp only at hj m11;dsimp only)|(first|refine go2 ?_|fail))
   have a11:=At.chg c11 a10 (by simp;omega)
   have row11:=Row.of_at a11
   refine zL (x:=.tmp 38) (p:=((j:Nat):Int)<((t.ins.length:Nat):Int)) rfl (fun h7=>?_) (fun h7=>?_)
   ·have hjl:j<t.ins.length:=by omega
    have p111:SlR inR (b5::bm::N) w11 iv t.ins:=p110.step c11 (fun y hy=>.inl (by simp at hy;simp [hy])) (fun y hy=>.inl hy)
    have lbm11:=m11.lt
    repeat (first|(refine aR (d:=some 39) (E:=inR) (M:=b5::bm::N) rfl rfl (n:=j) (l:=t.ins) p111 rfl hjl (fun ad cs r4 he=>?_);obtain ⟨wv,rfl,hwv,hp5,hp6⟩:=he)|refine zE (d':=11) (fun _=>rfl) rfl rfl (by have:=hwv.one;simp [fS,this];exact ⟨rfl,rfl,rfl⟩) (fun b12 w12 x12 a12 (r12:Row w12 ⟨b12,0,none⟩ (fS t.ins[j] wv)) hb12=>?_)|refine eY (E:=ptK) (fv:=Value.string) (k:=t.ins[j].p) (v:=idS t) rfl rfl rfl (dB.ext (w:=w11) (by exact fx) m11) rfl rfl (fun w13 c13 m13=>?_)|(first|refine go2 ?_|fail))
    exact ⟨(j+1,fV sm2 t.ins[j].p (idS t)),⟨rfl,rfl,rfl,rfl,rfl,rfl,rfl,rfl,rfl,trivial⟩,⟨(c11.trans (Chg.trans x12 c13)).mono (by simp),by simp only;omega,m13⟩,by simp only;omega⟩
   ·repeat (first|refine go2 ?_|fail)
    exact ⟨(k+1,v9,ids++ [idS t],sm2),⟨rfl,rfl,rfl,rfl,rfl,trivial⟩,⟨(c410.trans c11).mono (by simp),by simp only;omega,a11,o910.chg c11 (fun y hy=>by have:=o9b y hy;simp;omega),by simp only [List.length_append,List.length_singleton];omega,m11⟩,by simp only;omega⟩
  ·have hkk:k=txs.length:=by omega
   have oione:idv.oneCell'=true:=by obtain ⟨_,_,e⟩:=oi.sl.form;rw [e];rfl
   have a45:=At.chg c5 a44 (by simp;omega)
   have row5:=Row.of_at a55
   repeat (first|refine go2 ?_|fail)
   refine cE (b:=b4) (vs:= [tv,idv,sv,mv,.map (some bm)]) rfl rfl rfl (by simp [o1,o2,o3,oione];rfl) a45 rfl (fun w6 c6 a6=>?_)
   repeat (first|refine go2 ?_|fail)
   have c46:Chg [b5,bm,b4] w4 w6:=(c5.trans c6).mono (fun y hy=>.inl (by simp at hy ⊢;omega))
   have sub3:∀y∈ [b5,bm,b4],y∈b5::bm::b4::M:=by intro y hy;simp at hy ⊢;omega
   have sup:∀y∈M,y∈b5::bm::b4::M:=fun y hy=>by simp [hy]
   exact aA (aEo (bA (Row.of_at a6) rfl rfl)) ⟨_,rfl,⟨tv,idv,sv,mv,.map (some bm),rfl,hT4.step c46 (fun y hy=>.inl (sub3 y hy)) (fun y hy=>.inl (sup y hy)),oione,hsv4.step c46 (fun y hy=>.inl (sub3 y hy)) (fun y hy=>.inl (sup y hy)),hmv4.step c46 (fun y hy=>.inl (sub3 y hy)) (fun y hy=>.inl (sup y hy)),rfl⟩,(Ext.chg x04 c46).mono (fun y hy=>.inr (by simp at hy;omega))⟩
end
section
open Go Go.K
attribute [local irreducible] aH aM aY KOp.wp K.Spec u32 leS vnS str aP
theorem aAs {U:List Nat} (w:World) (hU:∀y∈U,y<w.heap.size):K.Spec Tryz.prog F.chain_New [] w fun r w'=>∃c M,r=.pointer (some ⟨c,0,none⟩)∧ChR U w' w.heap.size c M ⟨[],0⟩∧(∀y∈M,w.heap.size≤y)∧Ext w w':=by
 refine aZ6 rfl ?_
 unfold aL3
 refine oy ?_
 repeat (first|(refine zC (d:=some 1) rfl (bFy _) ?_;rintro _ w2 ⟨b,mb,rfl,hS,h1,h2,x2⟩)|refine zD (d:=some 3) (cs:=aRt b (.slice none 0 0) 0) rfl rfl (fun b3 w3 x3 a3 (r3:Row w3 ⟨b3,0,none⟩ (aRt b (.slice none 0 0) 0)) hb3=>?_)|(first|refine go2 ?_|fail))
 have hlt:=hS.lt
 have s2:=x2.size
 have hm:∀y∈ [b3,b,mb]++aC (.slice none 0 0),w.heap.size≤y:=fun y hy=>by
  simp [aC] at hy;omega
 exact aA rfl ⟨b3,_,rfl,⟨b,mb,.slice none 0 0,a3,hS.ext x3,bH.nil _ _ _ _,rfl,by omega,by omega,by omega,by omega,by omega,by simp [aC],fun y hy hu=>by have:=hm y hy;have:=hU y hu;omega⟩,hm,x2.trans x3⟩
theorem aRd {U:List Nat} {B c:Nat} {M:List Nat} {ch:Ch} (w:World) (h:ChR U w B c M ch):K.Spec Tryz.prog F.chain_Chain_Height [.pointer (some ⟨c,0,none⟩)] w fun r w'=>r=.int .i64 (ch.bs.length:Nat)∧Ext w w':=by
 obtain ⟨b,mb,lv,h1,h2,h3,rfl,g1,g2,g3,g4,g5,g6,g8⟩:=h
 have r1:=Row.of_at h1
 have sl:=h3.sl (fun y hy hv=>by
  rcases List.mem_append.1 hy with hy|hy
  ·have:=g6 y hv;simp at hy;omega
  ·exact g8 y (List.mem_append_right _ hv) hy)
 rw [←aAt]
 refine aDn rfl ?_
 unfold qY
 refine oy ?_
 repeat (first|refine zG (d:=some 9) (E:=lkR) (l:=cG ch.bs) rfl sl ?_|(first|refine go2 ?_|fail))
 exact aA rfl ⟨rfl,Ext.refl _⟩
end
end Go.Proofs.YteceapipdhnhdaaGreatDoor
namespace Go.K
section
open Go Go.Proofs.YteceapipdhnhdaaGreatDoor
theorem bF1 {l:List Ent} {t:Tx} {f:Int} (hn:(l.map (·.id)).Nodup) (hh:iM l (idT t)=false):((l++ [aVy t f]).map (·.id)).Nodup:=by
 grind
end
section
open Go Go.Proofs.YteceapipdhnhdaaGreatDoor
end
section
open Go Go.Proofs.YteceapipdhnhdaaGreatDoor
end
section
open Go Go.Proofs.YteceapipdhnhdaaGreatDoor
structure CP where
 l:List Ent
 most:Int
 floor:Int
def aL7 (p:CP) (m:List Ent):CP:=⟨(bU p.most m).1,p.most,max p.floor (bU p.most m).2.2⟩
def aXg (p:CP) (m:List Ent):List ByteArray:=(bU p.most m).2.1
def aL5 (f:Pt→Option Cn) (p:CP) (t:Tx) (h:Int):Int × Int:=
 if (eX f p.l t h p.floor).1≠0 then eX f p.l t h p.floor else if inB (aXg p (iS f p.l t h p.floor)) (idT t)=true then (16, -1) else (0, -1)
def bHs (f:Pt→Option Cn) (p:CP) (t:Tx) (h:Int):CP:=if (aL5 f p t h).1=0 then aL7 p (iS f p.l t h p.floor) else p
def sT (f:Pt→Option Cn) (h:Int) (l:List Ent) (t:Tx):List Ent:=if (eK f l t h).2.1=0 then l++ [aVy t (eK f l t h).1] else l
def kQ (f:Pt→Option Cn) (h:Int) (txs:List Tx):List Ent:=txs.foldl (sT f h) []
def xS (f:Pt→Option Cn) (p:CP) (txs:List Tx) (h:Int):CP:=aL7 p (kQ f h txs)
def aA6 (n:Int):Int:=if n.tdiv 2<500 then 0 else n.tdiv 2
def rD (l:List Ent) (ids:List ByteArray):List Tx:=(l.filter fun x=>!inB ids x.id).map (·.tx)
def jI (f:Pt→Option Cn) (p:CP) (txs:List Tx) (h:Int):CP:=xS f ⟨p.l,p.most,aA6 p.floor⟩ (rD p.l (txs.map idT)) h
def aCx (f:Pt→Option Cn) (p:CP) (txs:List Tx) (h:Int):CP:=xS f p ((txs.filter fun t=>!aN t)++p.l.map (·.tx)) h
theorem bB4 (f:Pt→Option Cn) (h:Int) (txs:List Tx) (t:Tx):kQ f h (txs++ [t])=sT f h (kQ f h txs) t:=by
 grind [kQ]
end
end Go.K
namespace Go.Proofs.YteceapipdhnhdaaGreatDoor
section
open Go Go.K
attribute [local irreducible] aH aM aY KOp.wp K.Spec u32 leS vnS str aP cM bK idT aQ aG aN idN
theorem bO1 {n:Int} (h:0≤n∧n≤65535):IntKind.i64.wrap n=n:=IntWalk.i64_in _ (by omega)
end
end Go.Proofs.YteceapipdhnhdaaGreatDoor
namespace Go.K
section
open Go Go.Proofs.YteceapipdhnhdaaGreatDoor
end
section
open Go Go.Proofs.YteceapipdhnhdaaGreatDoor
end
section
open Go Go.Proofs.YteceapipdhnhdaaGreatDoor
structure BP where
 ch:Ch
 p:CP
 q:CP
def chV (c:Ch):List En:=bF c.bs
def aM3 (s:BP) (l:List Tx):BP:=if (gN s.ch l).1≠0 then s else ⟨dA s.ch l,jI (aS (chV (dA s.ch l))) s.p l (((dA s.ch l).bs.length+1:Nat):Int),jI (aS (chV (dA s.ch l))) s.q l (((dA s.ch l).bs.length+1:Nat):Int)⟩
def grO (vals:List Int):List TOut:=(vals.take 6).map fun v=>⟨10*v,yH⟩
def bOm (vals:List Int) (most:Int):BP:=aM3 ⟨⟨[],0⟩,⟨[],most,0⟩,⟨[],most,0⟩⟩ [grT 1 (grO vals)]
abbrev bBd:PSm:=⟨[0],1,300,0,0,false,0⟩
def g20:Tx:=grT 1 (grO [500])
def V20:List En:=chV ⟨[[g20]],1⟩
def t20:Tx:=aBh V20 bBd
def e20:Ent:=aVy t20 300
def c20:Ch:=⟨[[g20]],1⟩
def c21:Ch:=⟨[[g20], [t20]],2⟩
def p20:CP:=⟨[],1000,0⟩
def p21:CP:=⟨[e20],1000,0⟩
theorem bQf:decide (gN ⟨[],0⟩ [g20]=(0, -1))=true:=by kernel_rfl
theorem bPv:decide (eX (aS V20) [] t20 2 0=(0, -1)∧(aU (aS V20) [] t20 2).1=300)=true:=by kernel_rfl
theorem bPf:decide (gN c20 [t20]=(0, -1))=true:=by kernel_rfl
theorem bPp:decide (eK (aS V20) [] t20 2=(300,0, -1))=true:=by kernel_rfl
theorem bCy:decide ((aQ t20:Int)≤1000∧aN t20=false)=true:=by kernel_rfl
theorem bOh:bOm [500] 1000=⟨c20,p20,p20⟩:=by
 have h:=of_decide_eq_true bQf
 have e2:dA ⟨[],0⟩ [g20]=c20:=by unfold dA;rw [h];rfl
 show aM3 ⟨⟨[],0⟩,p20,p20⟩ [g20]=_
 unfold aM3
 show (if (gN ⟨[],0⟩ [g20]).1≠0 then _ else (⟨dA ⟨[],0⟩ [g20],_,_⟩:BP))=_
 rw [h,if_neg (fun q=>q rfl),e2];rfl
theorem bD3:bU 1000 [e20]=([e20], [],0):=by
 have h:=(of_decide_eq_true bCy).1
 unfold bU
 show trimF 1 1000 [e20]=_
 rw [trimF,if_pos]
 right
 show jA [e20]≤1000
 have:jA [e20]=((aQ t20:Nat):Int):=by simp [jA,aUq,e20,aVy]
 omega
attribute [local irreducible] eX iS aU eK bU idT aQ aG aN
theorem bOq:aL5 (aS V20) p20 t20 2=(0, -1)∧bHs (aS V20) p20 t20 2=p21:=by
 obtain ⟨h,h2⟩:=of_decide_eq_true bPv
 have h3:=bE7 (f:=aS V20) (l:= []) (t:=t20) (h:=2) (rate:=0) List.nodup_nil (by rw [h])
 rw [h2] at h3
 obtain ⟨-, -,h3⟩:=h3
 have h3:iS (aS V20) [] t20 2 0= [e20]:=h3
 have hE:aL5 (aS V20) p20 t20 2=(0, -1):=by
  show (if (eX (aS V20) [] t20 2 0).1≠0 then eX (aS V20) [] t20 2 0 else if inB (bU 1000 (iS (aS V20) [] t20 2 0)).2.1 (idT t20)=true then (16, -1) else (0, -1))=_
  rw [h,h3,bD3]
  simp [inB]
 refine ⟨hE,?_⟩
 unfold bHs
 rw [hE,if_pos rfl]
 show aL7 p20 (iS (aS V20) [] t20 2 0)=_
 rw [h3];unfold aL7
 show (⟨(bU 1000 [e20]).1,1000,max 0 (bU 1000 [e20]).2.2⟩:CP)=_
 rw [bD3]
 rfl
theorem bO5:gN c20 [t20]=(0, -1)∧dA c20 [t20]=c21:=by
 have h:=of_decide_eq_true bPf
 refine ⟨h,?_⟩
 unfold dA
 rw [h];rfl
theorem bQq:rD [e20] [idT t20]= []:=by
 unfold rD
 simp [inB,e20,aVy]
theorem bQn (f:Pt→Option Cn) (h:Int):xS f p20 [] h=p20:=by
 unfold xS aL7
 show (⟨(bU 1000 []).1,1000,max 0 (bU 1000 []).2.2⟩:CP)=_
 rw [pR (.inl rfl)];rfl
theorem bM2:aM3 ⟨c20,p21,p20⟩ [t20]=⟨c21,p20,p20⟩:=by
 obtain ⟨h,h2⟩:=bO5
 unfold aM3
 show (if (gN c20 [t20]).1≠0 then _ else (⟨dA c20 [t20],jI (aS (chV (dA c20 [t20]))) p21 [t20] (((dA c20 [t20]).bs.length+1:Nat):Int),jI (aS (chV (dA c20 [t20]))) p20 [t20] (((dA c20 [t20]).bs.length+1:Nat):Int)⟩:BP))=_
 rw [h,if_neg (fun q=>q rfl),h2]
 unfold jI
 show (⟨c21,xS _ p20 (rD [e20] [idT t20]) _,xS _ p20 [] _⟩:BP)=_
 rw [bQq,bQn]
theorem bO6:aA7 c21=0∧aIp c21=⟨[[g20]],2⟩∧c21.bs.getD (c21.bs.length - 1) []= [t20]:=⟨rfl,rfl,rfl⟩
theorem bRx:aCx (aS V20) p20 [t20] 2=p21:=by
 have h:=of_decide_eq_true bPp
 unfold aCx
 rw [show ([t20].filter fun t=>!aN t)= [t20] by simp [(of_decide_eq_true bCy).2]]
 show xS (aS V20) p20 [t20] 2=_
 unfold xS
 have e:kQ (aS V20) 2 [t20]= [e20]:=by
  show sT (aS V20) 2 [] t20=_
  unfold sT
  rw [h,if_pos rfl];rfl
 rw [e]
 show (⟨(bU 1000 [e20]).1,1000,max 0 (bU 1000 [e20]).2.2⟩:CP)=_
 rw [bD3];rfl
end
section
open Go Go.Proofs.YteceapipdhnhdaaGreatDoor
theorem bMw {f:Pt→Option Cn} {h:Int} (txs:List Tx):(∀x∈kQ f h txs,EntOk x)∧((kQ f h txs).map (·.id)).Nodup∧(kQ f h txs).length≤txs.length:=by
 suffices hk:∀(txs:List Tx) (l:List Ent),(∀x∈l,EntOk x)→(l.map (·.id)).Nodup→(∀x∈txs.foldl (sT f h) l,EntOk x)∧((txs.foldl (sT f h) l).map (·.id)).Nodup∧(txs.foldl (sT f h) l).length≤l.length+txs.length by
  have:=hk txs [] (by simp) (by simp)
  simpa [kQ] using this
 intro txs
 induction txs with
 |nil=>intro l h1 h2;exact ⟨h1,h2,by simp⟩
 |cons t txs ih=>
  intro l h1 h2
  rw [List.foldl_cons,List.length_cons]
  by_cases h0:(eK f l t h).2.1=0
  ·obtain ⟨p1, -, -,e1, -⟩:=aK6 h0
   obtain ⟨hc,hg,hh,hgd⟩:=pX p1
   have e:sT f h l t=l++ [aVy t (eK f l t h).1]:=by unfold sT;rw [if_pos h0]
   rw [e]
   have h3:=ih (l++ [aVy t (eK f l t h).1]) (fun x hx=>by
    rcases List.mem_append.1 hx with hx|hx
    ·exact h1 x hx
    ·simp only [List.mem_singleton] at hx
     rw [hx,e1];exact ⟨hc,hg,hgd,rfl,rfl⟩) (by rw [e1];exact bF1 h2 hh)
   refine ⟨h3.1,h3.2.1,nTr h3.2.2 (by rw [List.length_append];simp;omega)⟩
  ·have e:sT f h l t=l:=by unfold sT;rw [if_neg h0]
   rw [e]
   have h3:=ih l h1 h2
   exact ⟨h3.1,h3.2.1,by omega⟩
abbrev oA (v:Value) (P:CP):List Value:= [v,.int .i64 P.most,.int .i64 P.floor]
end
end Go.K
