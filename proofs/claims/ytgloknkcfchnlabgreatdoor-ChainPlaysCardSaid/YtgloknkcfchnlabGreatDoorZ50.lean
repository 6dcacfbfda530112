/- Contracts: the document's chains, a block more. Contracts: t -/
import Derived.Test.YtgloknkcfchnlabGreatDoorZ47
import Derived.Test.YtgloknkcfchnlabGreatDoorZ48
set_option linter.unusedVariables false
set_option linter.unusedSimpArgs false
namespace Go.Proofs.YtgloknkcfchnlabGreatDoor
section
open Go Go.K
attribute [local irreducible] aG aK aU KOp.wp K.Spec u32 leS vnS str aN aJ aO bH idT aV aP
set_option maxHeartbeats 8000000 in
theorem aMh {M:List Nat} {bv v:Value} {ch:Ch} {txs:List Tx} (w:World) (hv:SlR (fD txR) M w bv ch.bs) (hx:SlR txR M w v txs) (hb:∀b∈ch.bs,yR b) (hbx:yR txs) (hl:ch.bs.length≤1000) (ht:ch.top≤1000) (hM:∀y∈M,y<w.heap.size):
  K.Spec Tryz.prog F.kedgeref13_Connect [.agg #[bv,.int .i64 (ch.top:Nat)],v] w fun r w'=>∃bv',r=.tuple #[.agg #[bv',.int .i64 ((fI ch txs).top:Nat)],.int .i64 (jN ch txs).1,.int .i64 (jN ch txs).2]∧SlR (fD txR) M w' bv' (fI ch txs).bs∧Ext w w':=by
 obtain ⟨q1,q2,ebv⟩:=hv.form
 obtain ⟨q3,q4,exw⟩:=hx.form
 have hcb:=sJ hb ch.bs.length
 have hcl:(aY ch.bs).length≤12*ch.bs.length:=hcb
 obtain ⟨hb1,hb2,hb3⟩:=hbx
 have ek:((ch.bs.length:Nat):Int)+1=((ch.bs.length+1:Nat):Int):=by omega
 refine tP rfl ?_
 unfold kF
 refine oy ?_
 repeat (first|refine zD (d:=some 2) (cs:= [bv,.int .i64 (ch.top:Nat)]) rfl (by rw [ebv];rfl) (fun b2 w1 x1 a1 (r1:Row w1 ⟨b2,0,none⟩ [bv,.int .i64 (ch.top:Nat)]) hb2=>?_)|refine zH (d:=some 4) (fun b4 w2 x2 a2 hb4=>?_)|refine go1 ?_|refine zg λ_ _=>?_|refine zi λ_ _=>?_)
 refine zC (d:=some 15) rfl (rC (M:=M) ((ch.top:Nat):Int) _ (hv.ext (x1.trans x2)) hb hl) ?_
 rintro lv w3 ⟨hlv,x3⟩
 repeat (first|refine zG (d:=some 21) (E:=fD txR) (M:=M) (l:=ch.bs) rfl (SlR.ext hv (by exact fx)) ?_|refine go1 ?_|refine zg λ_ _=>?_|refine zi λ_ _=>?_)
 rw [ek]
 have x03:Ext w w3:=x1.trans (x2.trans x3)
 refine zC (d:=some 23) rfl (rD (M:=M) (l:=aY ch.bs) (txs:=txs) ((ch.bs.length+1:Nat):Int) _ hlv (fU _ _) (qL _ _) (hx.ext x03) hb3 (by omega) (by omega)) ?_
 rintro _ w4 ⟨vl,rfl,hvl,x4⟩
 have x04:Ext w w4:=x03.trans x4
 have a24:=At.ext (x3.trans x4) a2
 have l2:=a1.lt
 have hb24:w.heap.size≤b4:=nTr x1.size hb4
 have s12:=x1.size
 have s04:=x04.size
 have r14:Row w4 ⟨b2,0,none⟩ [bv,.int .i64 (ch.top:Nat)]:=Row.ext (x2.trans (x3.trans x4)) r1
 have l4:=a2.lt
 have s24:=(x3.trans x4).size
 clear x1 x2 x3 x4 a1 a2 r1 x03
 by_cases h0:(jN ch txs).1=0
 ·have e2:fI ch txs=⟨ch.bs++ [txs],max ch.top (ch.bs.length+1)⟩:=by
   unfold fI
   rw [if_neg (by simpa using h0)]
  have e1:(jN ch txs).2= -1:=aBs h0
  have h0':(aP (aY ch.bs) txs ((ch.bs.length+1:Nat):Int)).2.1=0:=h0
  rw [h0',e1,e2,h0]
  repeat (first|refine zH (d:=some 12) (fun b12 w5 x5 a5 hb12=>?_)|refine go1 ?_|refine zg λ_ _=>?_|refine zi λ_ _=>?_)
  have l12:=a5.lt
  have s45:=x5.size
  have hv4:=hv.ext x04
  have hx4:=hx.ext x04
  have hMl:∀y∈b12::b4::M,y<w5.heap.size:=fun y hy=>by
   simp only [List.mem_cons] at hy
   rcases hy with rfl|rfl|hy
   ·exact l12
   ·omega
   ·have:=hM y hy;omega
  have hM4:∀y∈b12::b4::M,y∈M∨w.heap.size≤y:=fun y hy=>by
   simp only [List.mem_cons] at hy
   rcases hy with rfl|rfl|hy
   ·exact .inr (by omega)
   ·exact .inr hb24
   ·exact .inl hy
  refine aL (fun (p:Nat × Value) w'=>Chg [b12] w5 w'∧p.1≤ch.bs.length∧bD (fD txR) T.L_api_Tx w5.heap.size (b12::b4::M) w' p.2 (ch.bs.take p.1)∧At w' b12 (.cells [p.2,.int .i64 0].toArray T.kedgeref13_Chain (0,0))) (fun p=> [(1,v),(2,.pointer (some ⟨b2,0,none⟩)),(4,.pointer (some ⟨b4,0,none⟩)),(12,.pointer (some ⟨b12,0,none⟩)),(13,.int .i64 (p.1:Nat))]) (fun p=>ch.bs.length - p.1) (0,.slice none 0 0) ⟨rfl,rfl,rfl,rfl,rfl,trivial⟩ ⟨Chg.refl _ _,by simp,bD.nil _ _ _ _,a5⟩ ?_
  rintro ⟨k,dv⟩ ρ w6 ⟨c6,hk,o6,a6⟩
  simp only at hk o6 a6
  dsimp only
  have x06:Ext w w6:=(Ext.chg (x04.trans x5) c6).mono (fun y hy=>.inr (by simp at hy;omega))
  have x46:Ext w4 w6:=(Ext.chg x5 c6).mono (fun y hy=>.inr (by simp at hy;omega))
  have r16:=Row.ext x46 r14
  have r66:=Row.of_at a6
  have odv:dv.oneCell'=true:=o6.one
  have hlen:(ch.bs.take k).length=k:=by rw [List.length_take];omega
  have ob:=o6.base
  have s56:=c6.size
  have hdM:∀y∈aH dv++b12::b4::M,y∈M∨w.heap.size≤y:=fun y hy=>by
   rcases List.mem_append.1 hy with hy|hy
   ·exact .inr (by have:=ob y hy;omega)
   ·exact hM4 y hy
  repeat (first|refine zG (d:=some 36) (E:=fD txR) (M:=M) (l:=ch.bs) rfl (hv.ext x06) ?_|refine go1 ?_|refine zg λ_ _=>?_|refine zi λ_ _=>?_)
  refine zL (x:=.tmp 37) (p:=((k:Nat):Int)<((ch.bs.length:Nat):Int)) rfl (fun h6=>?_) (fun h6=>?_)
  ·have hkl:k<ch.bs.length:=by omega
   repeat (first|refine zi (fun w7 x7=>?_)|refine jE (b:=.cons ⟨some 48,_,_⟩ _) (fun (p:Nat × Value) w'=>Ext w6 w'∧At w' p.1 (.cells [p.2].toArray T.L_api_Tx (0,0))∧SlR txR (aH dv++b12::b4::M) w' p.2 ch.bs[k]) (fun p=> [(1,v),(2,.pointer (some ⟨b2,0,none⟩)),(4,.pointer (some ⟨b4,0,none⟩)),(12,.pointer (some ⟨b12,0,none⟩)),(13,.int .i64 (k:Nat)),(41,dv),(47,.slice (some ⟨p.1,0,none⟩) 1 1)]) ?_ ?_|refine go1 ?_|refine zg λ_ _=>?_|refine zi λ_ _=>?_)
   ·repeat' (first|refine zB ?_ ?_|(refine aM (d:=some 45) (E:=fD txR) (M:=aH dv++b12::b4::M) rfl rfl (n:=k) (l:=ch.bs) (SlR.ext (hv.step x06 (by simp) hdM) (by exact fx)) rfl hkl (fun ad cs r4 he=>?_);obtain ⟨xv,rfl,hxv⟩:=he;obtain ⟨_,_,exv⟩:=hxv.form)|refine zI (d:=some 47) (cs:= [xv]) (by rw [exv];rfl) (fun b8 w8 x8 a8 hb8=>?_)|refine go1 ?_|refine zg λ_ _=>?_|refine zi λ_ _=>?_)
    all_goals exact ⟨(b8,xv),⟨rfl,rfl,rfl,rfl,rfl,rfl,rfl,trivial⟩,by exact fx,a8,hxv.ext (by exact fx)⟩
   ·rintro ⟨b8,xv⟩ ρ w8 ⟨x8,a8,hxv⟩
    dsimp only at x8 a8 hxv ⊢
    refine fM (d:=some 48) (E:=fD txR) (M:=b12::b4::M) (v:=dv) (cs:= [xv]) (a:=ch.bs[k]) rfl rfl (o6.ext x8) (nTr s56 x8.size) rfl rfl a8 ⟨xv,rfl,hxv⟩ (by omega) (fun v9 w9 o9 c9 hb9=>?_)
    have h12n:b12∉aH dv:=fun h=>by have:=ob _ h;omega
    have a9:=(a6.ext x8).chg c9 h12n
    have o9b:=o9.base
    repeat (first|refine go1 ?_|refine zg λ_ _=>?_|refine zi λ_ _=>?_)
    refine bB (b:=b12) (o:=0) (cur:= [dv,.int .i64 0]) rfl rfl o9.one a9 (Nat.le_of_ble_eq_true rfl) (fun w10 c10 a10=>?_)
    have o10:=o9.step c10 (M':=b12::b4::M) (fun y hy=>by
     simp at hy;subst hy
     exact ⟨fun h=>by have:=o9b _ h;omega,.inl (by simp)⟩) (fun y hy=>.inl hy)
    have c510:Chg [b12] w5 w10:=((c6.trans (Chg.trans x8 c9)).trans c10).mono (fun y hy=>by
     simp at hy
     rcases hy with rfl|hy|rfl
     ·exact .inl (by simp)
     ·exact .inr (ob y hy)
     ·exact .inl (by simp))
    repeat (first|refine go1 ?_|refine zg λ_ _=>?_|refine zi λ_ _=>?_)
    exact ⟨(k+1,v9),⟨rfl,rfl,rfl,rfl,rfl,trivial⟩,⟨c510,by simp only;omega,by simp only;rw [List.take_succ_eq_append_getElem hkl];exact o10,a10⟩,by simp only;omega⟩
  ·have ekk:k=ch.bs.length:=by omega
   subst ekk
   rw [List.take_length] at o6
   repeat (first|refine zI (d:=some 53) (cs:= [v]) (by rw [exw];rfl) (fun b8 w8 x8 a8 hb8=>?_)|refine go1 ?_|refine zg λ_ _=>?_|refine zi λ_ _=>?_)
   have hx8:SlR txR (aH dv++b12::b4::M) w8 v txs:=hx.step (x06.trans x8) (by simp) hdM
   have ov:v.oneCell'=true:=hx.one
   refine fM (d:=some 54) (E:=fD txR) (M:=b12::b4::M) (v:=dv) (cs:= [v]) (a:=txs) rfl rfl (o6.ext x8) (nTr s56 x8.size) rfl rfl a8 ⟨v,rfl,hx8⟩ (by omega) (fun v9 w9 o9 c9 hb9=>?_)
   have h12n:b12∉aH dv:=fun h=>by have:=ob _ h;omega
   have h4n:b4∉aH dv:=fun h=>by have:=ob _ h;omega
   have h2n:b2∉aH dv:=fun h=>by have:=ob _ h;omega
   have a9:=(a6.ext x8).chg c9 h12n
   have r29:=Row.chg c9 (Row.ext x8 r16) h2n
   have o9b:=o9.base
   have a49:=(At.ext (x46.trans x8) a24).chg c9 h4n
   repeat (first|refine go1 ?_|refine zg λ_ _=>?_|refine zi λ_ _=>?_)
   refine bB (b:=b12) (o:=0) (cur:= [dv,.int .i64 0]) rfl rfl o9.one a9 (Nat.le_of_ble_eq_true rfl) (fun w10 c10 a10=>?_)
   have a10:At w10 b12 (.cells [v9,.int .i64 0].toArray T.kedgeref13_Chain (0,0)):=a10
   have h12v:b12∉aH v9:=fun h=>by have:=o9b _ h;omega
   have h4v:b4∉aH v9:=fun h=>by have:=o9b _ h;omega
   have o10:=o9.step c10 (M':=b12::b4::M) (fun y hy=>by simp at hy;subst hy;exact ⟨h12v,.inl (by simp)⟩) (fun y hy=>.inl hy)
   have r210:=Row.chg c10 r29 (by simp;omega)
   have a410:=a49.chg c10 (by simp;omega)
   have r1210:=Row.of_at a10
   have c510:Chg [b12] w5 w10:=((c6.trans (Chg.trans x8 c9)).trans c10).mono (fun y hy=>by
    simp at hy
    rcases hy with rfl|hy|rfl
    ·exact .inl (by simp)
    ·exact .inr (ob y hy)
    ·exact .inl (by simp))
   repeat (first|refine go1 ?_|refine zg λ_ _=>?_|refine zi λ_ _=>?_)
   refine bB (b:=b12) (o:=1) (cur:= [v9,.int .i64 0]) rfl rfl rfl a10 (Nat.le_of_ble_eq_true rfl) (fun w11 c11 a11=>?_)
   have a11:At w11 b12 (.cells [v9,.int .i64 (ch.top:Nat)].toArray T.kedgeref13_Chain (0,0)):=a11
   have o11:=o10.step c11 (M':=b12::b4::M) (fun y hy=>by simp at hy;subst hy;exact ⟨h12v,.inl (by simp)⟩) (fun y hy=>.inl hy)
   have a411:=a410.chg c11 (by simp;omega)
   have r1211:=Row.of_at a11
   have c511:Chg [b12] w5 w11:=(c510.trans c11).mono (by simp)
   have off:∀y∈b12::b4::M,y∉aH v9:=fun y hy hv=>by have:=o9b y hv;have:=hMl y hy;omega
   have sl11:=o11.sl off
   have ell:(ch.bs++ [txs]).length=ch.bs.length+1:=by simp
   have ov9:v9.oneCell'=true:=o9.one
   by_cases hgt:ch.top<ch.bs.length+1
   ·have em:max ch.top (ch.bs.length+1)=(ch.bs++ [txs]).length:=by rw [ell];omega
    rw [em]
    repeat (first|refine zG (d:=some 61) (E:=fD txR) (M:=b12::b4::M) (l:=ch.bs++ [txs]) rfl sl11 ?_|refine aD (d:=some 64) (.bool true) rfl (congrArg (fun b=>some (Value.bool b)) (dTr (by rw [ell];omega))) ?_|refine zG (d:=some 67) (E:=fD txR) (M:=b12::b4::M) (l:=ch.bs++ [txs]) rfl sl11 ?_|refine go1 ?_|refine zg λ_ _=>?_|refine zi λ_ _=>?_)
    refine bB (b:=b12) (o:=1) (cur:= [v9,.int .i64 (ch.top:Nat)]) rfl rfl rfl a11 (Nat.le_of_ble_eq_true rfl) (fun w13 c13 a13=>?_)
    have a13:At w13 b12 (.cells [v9,.int .i64 ((ch.bs++ [txs]).length:Nat)].toArray T.kedgeref13_Chain (0,0)):=a13
    have r1213:=Row.of_at a13
    have a413:=a411.chg c13 (by simp;omega)
    have o13:=o11.step c13 (M':=b12::b4::M) (fun y hy=>by simp at hy;subst hy;exact ⟨h12v,.inl (by simp)⟩) (fun y hy=>.inl hy)
    have x13:Ext w w13:=(Ext.chg (x04.trans x5) (c511.trans c13)).mono (fun y hy=>.inr (by simp at hy;omega))
    repeat (first|refine go1 ?_|refine zg λ_ _=>?_|refine zi λ_ _=>?_)
    refine bA (w0:=w) (n:=2) (vs:= [v9,.int .i64 ((ch.bs++ [txs]).length:Nat)]) x13 hb24 a413 rfl rfl rfl rfl (by simp [ov9];rfl) (fun w14 x14 c14 a14 r14=>?_)
    repeat (first|refine go1 ?_|refine zg λ_ _=>?_|refine zi λ_ _=>?_)
    have o14:=o13.step c14 (M':=b12::b4::M) (fun y hy=>by simp at hy;subst hy;exact ⟨h4v,.inl (by simp)⟩) (fun y hy=>.inl hy)
    exact aB (aLx (bK r14 rfl rfl) bC bC) ⟨v9,rfl,(o14.sl off).sub (fun y hy=>.inl (by simp [hy])),x14⟩
   ·have em:max ch.top (ch.bs.length+1)=ch.top:=by omega
    rw [em]
    repeat (first|refine zG (d:=some 61) (E:=fD txR) (M:=b12::b4::M) (l:=ch.bs++ [txs]) rfl sl11 ?_|refine aD (d:=some 64) (.bool false) rfl (congrArg (fun b=>some (Value.bool b)) (dFa (by rw [ell];omega))) ?_|refine go1 ?_|refine zg λ_ _=>?_|refine zi λ_ _=>?_)
    have x13:Ext w w11:=(Ext.chg (x04.trans x5) c511).mono (fun y hy=>.inr (by simp at hy;omega))
    refine bA (w0:=w) (n:=2) (vs:= [v9,.int .i64 (ch.top:Nat)]) x13 hb24 a411 rfl rfl rfl rfl (by simp [ov9];rfl) (fun w14 x14 c14 a14 r14=>?_)
    repeat (first|refine go1 ?_|refine zg λ_ _=>?_|refine zi λ_ _=>?_)
    have o14:=o11.step c14 (M':=b12::b4::M) (fun y hy=>by simp at hy;subst hy;exact ⟨h4v,.inl (by simp)⟩) (fun y hy=>.inl hy)
    exact aB (aLx (bK r14 rfl rfl) bC bC) ⟨v9,rfl,(o14.sl off).sub (fun y hy=>.inl (by simp [hy])),x14⟩
 ·have e2:fI ch txs=ch:=by unfold fI;rw [if_pos h0]
  have e1:(jN ch txs).2=(aP (aY ch.bs) txs ((ch.bs.length+1:Nat):Int)).2.2.1:=rfl
  have e0:(jN ch txs).1=(aP (aY ch.bs) txs ((ch.bs.length+1:Nat):Int)).2.1:=rfl
  rw [e2,e1,e0]
  repeat (first|refine aD (d:=some 29) (.bool true) rfl (congrArg (fun b=>some (Value.bool (!b))) (dFa h0)) ?_|refine go1 ?_|refine zg λ_ _=>?_|refine zi λ_ _=>?_)
  have ov:bv.oneCell'=true:=by rw [ebv];rfl
  refine bA (w0:=w) (n:=2) (vs:= [bv,.int .i64 (ch.top:Nat)]) x04 hb24 a24 rfl rfl rfl rfl (by simp [ov];rfl) (fun w14 x14 c14 a14 r14=>?_)
  repeat (first|refine go1 ?_|refine zg λ_ _=>?_|refine zi λ_ _=>?_)
  exact aB (aLx (bK r14 rfl rfl) bC bC) ⟨bv,rfl,hv.ext x14,x14⟩
end
end Go.Proofs.YtgloknkcfchnlabGreatDoor
section
namespace Go.K
open Go
theorem Sl.at_b {size:Nat} {w:World} {v:Value} {cs:List Value} {ln n:Nat} (hs:Sl w size v ln cs) (hk:0<size) (hr:n<ln):∃a cap,v=.slice (some a) ln cap∧Row w (a.add (n*size)) ((cs.drop (n*size)).take size)∧(a.add (n*size)).block∈aH v:=by
 obtain ⟨a,cap,rfl,hrow⟩:=hs.at_ hk hr
 exact ⟨a,cap,rfl,hrow,by rw [add_block];simp [aH]⟩
theorem aUs {α:Type} {E:R α} {M:List Nat} {P:Program} {d:Option Tmp} {r:KR} {K:Env→World→Prop} {ρ:Env} {w:World} {v:Value} {l:List α} {size:Nat} {x i:Operand} {kd:IntKind} {n:Nat} (hx:ev ρ x=v) (hi:ev ρ i=.int kd (n:Nat)) (hs:SlR E M w v l) (hk:size=E.k) (hr:n<l.length)
  (k:∀ad cs,Row w ad cs→E.rel M w cs l[n]→ad.block∉M→aG P r K (put ρ d (.pointer (some ad))) w):aG P (.cons ⟨d,.indexAddr size x i,none⟩ r) K ρ w:=by
 obtain ⟨css,h1,h2,h3⟩:=hs
 have hr':n<css.length:=by rw [h2.length];exact hr
 subst hk
 obtain ⟨a,cap,rfl,hrow,hb⟩:=Sl.at_b h1 E.pos hr'
 refine cJ rfl (by simp [KOp.fix,hx,hi,hr'];rfl) (k _ _ ?_ (h2.get n hr' hr) (h3 (by omega) _ hb))
 have:=(fY E.k E.pos).flat_at css n hr'
 rw [this] at hrow;exact hrow
end Go.K
namespace Go.Proofs.YtgloknkcfchnlabGreatDoor
open Go Go.K
attribute [local irreducible] aG aK aU KOp.wp K.Spec u32 leS vnS str aN aJ aO bH idT aV aP
set_option maxHeartbeats 8000000 in
theorem aLb {M:List Nat} {bv:Value} {ch:Ch} (w:World) (hv:SlR (fD txR) M w bv ch.bs) (hl:ch.bs.length≤1000) (ht:ch.top≤1000) (hM:∀y∈M,y<w.heap.size):
  K.Spec Tryz.prog F.kedgeref13_Disconnect [.agg #[bv,.int .i64 (ch.top:Nat)]] w fun r w'=>∃bv' tv,r=.tuple #[.agg #[bv',.int .i64 ((eT ch).top:Nat)],tv,.int .i64 (fH ch)]∧SlR (fD txR) M w' bv' (eT ch).bs∧(fH ch=0→SlR txR M w' tv (ch.bs.getD (ch.bs.length - 1) []))∧(fH ch≠0→tv=.slice none 0 0)∧Ext w w':=by
 obtain ⟨q1,q2,ebv⟩:=hv.form
 have ov:bv.oneCell'=true:=by rw [ebv];rfl
 refine pM rfl ?_
 unfold iS
 refine oy ?_
 repeat (first|refine zD (d:=some 1) (cs:= [bv,.int .i64 (ch.top:Nat)]) rfl (by rw [ebv];rfl) (fun b1 w1 x1 a1 (r1:Row w1 ⟨b1,0,none⟩ [bv,.int .i64 (ch.top:Nat)]) hb1=>?_)|refine zH (d:=some 2) (fun b2 w2 x2 a2 hb2=>?_)|refine go1 ?_|refine zg λ_ _=>?_|refine zi λ_ _=>?_)
 refine zG (d:=some 10) (E:=fD txR) (M:=M) (l:=ch.bs) rfl (SlR.ext hv (by exact fx)) ?_
 have x02:Ext w w2:=x1.trans x2
 have hb02:w.heap.size≤b2:=nTr x1.size hb2
 have s02:=x02.size
 have s1:=x1.size
 have s2:=x2.size
 have l1:=a1.lt
 have l2:=a2.lt
 have r12:=Row.ext x2 r1
 by_cases q0:ch.bs.length=0
 ·have e0:fH ch=8:=by unfold fH;rw [if_pos q0]
  have e1:eT ch=ch:=by unfold eT;rw [if_pos (by rw [e0];decide)]
  rw [e0,e1]
  repeat (first|refine aD (d:=some 12) (.bool true) rfl (congrArg (fun b=>some (Value.bool b)) (dTr (by omega))) ?_|refine go1 ?_|refine zg λ_ _=>?_|refine zi λ_ _=>?_)
  refine bA (w0:=w) (n:=2) (vs:= [bv,.int .i64 (ch.top:Nat)]) x02 hb02 a2 rfl rfl rfl rfl (by simp [ov];rfl) (fun w14 x14 c14 a14 r14=>?_)
  repeat (first|refine go1 ?_|refine zg λ_ _=>?_|refine zi λ_ _=>?_)
  exact aB (aLx (bK r14 rfl rfl) bC bC) ⟨bv,_,rfl,hv.ext x14,fun q=>absurd q (by decide),fun _=>rfl,x14⟩
 ·by_cases q1:ch.bs.length+6≤ch.top
  ·have e0:fH ch=18:=by unfold fH;rw [if_neg q0,if_pos q1]
   have e1:eT ch=ch:=by unfold eT;rw [if_pos (by rw [e0];decide)]
   rw [e0,e1]
   repeat (first|refine aD (d:=some 12) (.bool false) rfl (congrArg (fun b=>some (Value.bool b)) (dFa (by omega))) ?_|refine aD (d:=some 18) (.bool true) rfl (congrArg (fun b=>some (Value.bool b)) (dTr (by omega))) ?_|refine go1 ?_|refine zg λ_ _=>?_|refine zi λ_ _=>?_)
   refine bA (w0:=w) (n:=2) (vs:= [bv,.int .i64 (ch.top:Nat)]) x02 hb02 a2 rfl rfl rfl rfl (by simp [ov];rfl) (fun w14 x14 c14 a14 r14=>?_)
   repeat (first|refine go1 ?_|refine zg λ_ _=>?_|refine zi λ_ _=>?_)
   exact aB (aLx (bK r14 rfl rfl) bC bC) ⟨bv,_,rfl,hv.ext x14,fun q=>absurd q (by decide),fun _=>rfl,x14⟩
  ·have e0:fH ch=0:=by unfold fH;rw [if_neg q0,if_neg q1]
   have e1:eT ch=⟨ch.bs.take (ch.bs.length - 1),ch.top⟩:=by unfold eT;rw [if_neg (by simp [e0])]
   have hkl1:ch.bs.length - 1<ch.bs.length:=by omega
   have egl:ch.bs.getD (ch.bs.length - 1) []=ch.bs[ch.bs.length - 1]:=by rw [List.getD_eq_getElem?_getD,List.getElem?_eq_getElem hkl1];rfl
   rw [e0,e1,egl]
   repeat (first|refine aD (d:=some 12) (.bool false) rfl (congrArg (fun b=>some (Value.bool b)) (dFa (by omega))) ?_|refine aD (d:=some 18) (.bool false) rfl (congrArg (fun b=>some (Value.bool b)) (dFa (by omega))) ?_|refine zH (d:=some 6) (fun b12 w5 x5 a5 hb12=>?_)|refine go1 ?_|refine zg λ_ _=>?_|refine zi λ_ _=>?_)
   have l12:=a5.lt
   have s45:=x5.size
   have hMl:∀y∈b12::b2::M,y<w5.heap.size:=fun y hy=>by
    simp only [List.mem_cons] at hy
    rcases hy with rfl|rfl|hy
    ·exact l12
    ·omega
    ·have:=hM y hy;omega
   have hM4:∀y∈b12::b2::M,y∈M∨w.heap.size≤y:=fun y hy=>by
    simp only [List.mem_cons] at hy
    rcases hy with rfl|rfl|hy
    ·exact .inr (by omega)
    ·exact .inr hb02
    ·exact .inl hy
   refine aL (fun (p:Nat × Value) w'=>Chg [b12] w5 w'∧p.1≤ch.bs.length - 1∧bD (fD txR) T.L_api_Tx w5.heap.size (b12::b2::M) w' p.2 (ch.bs.take p.1)∧At w' b12 (.cells [p.2,.int .i64 0].toArray T.kedgeref13_Chain (0,0))) (fun p=> [(1,.pointer (some ⟨b1,0,none⟩)),(2,.pointer (some ⟨b2,0,none⟩)),(5,.int .i64 (ch.bs.length:Nat)),(6,.pointer (some ⟨b12,0,none⟩)),(7,.int .i64 (p.1:Nat))]) (fun p=>ch.bs.length - p.1) (0,.slice none 0 0) ⟨rfl,rfl,rfl,rfl,rfl,trivial⟩ ⟨Chg.refl _ _,by simp,bD.nil _ _ _ _,a5⟩ ?_
   rintro ⟨k,dv⟩ ρ w6 ⟨c6,hk,o6,a6⟩
   simp only at hk o6 a6
   dsimp only
   have x06:Ext w w6:=(Ext.chg (x02.trans x5) c6).mono (fun y hy=>.inr (by simp at hy;omega))
   have x26:Ext w2 w6:=(Ext.chg x5 c6).mono (fun y hy=>.inr (by simp at hy;omega))
   have r16:=Row.ext x26 r12
   have r66:=Row.of_at a6
   have odv:dv.oneCell'=true:=o6.one
   have hlen:(ch.bs.take k).length=k:=by rw [List.length_take];omega
   have ob:=o6.base
   have s56:=c6.size
   have hdM:∀y∈aH dv++b12::b2::M,y∈M∨w.heap.size≤y:=fun y hy=>by
    rcases List.mem_append.1 hy with hy|hy
    ·exact .inr (by have:=ob y hy;omega)
    ·exact hM4 y hy
   repeat (first|refine go1 ?_|refine zg λ_ _=>?_|refine zi λ_ _=>?_)
   refine zL (x:=.tmp 23) (p:=((k:Nat):Int)<((ch.bs.length:Nat):Int) - 1) rfl (fun h6=>?_) (fun h6=>?_)
   ·have hkl:k<ch.bs.length:=by omega
    repeat (first|refine zi (fun w7 x7=>?_)|refine jE (b:=.cons ⟨some 34,_,_⟩ _) (fun (p:Nat × Value) w'=>Ext w6 w'∧At w' p.1 (.cells [p.2].toArray T.L_api_Tx (0,0))∧SlR txR (aH dv++b12::b2::M) w' p.2 ch.bs[k]) (fun p=> [(1,.pointer (some ⟨b1,0,none⟩)),(2,.pointer (some ⟨b2,0,none⟩)),(5,.int .i64 (ch.bs.length:Nat)),(6,.pointer (some ⟨b12,0,none⟩)),(7,.int .i64 (k:Nat)),(27,dv),(33,.slice (some ⟨p.1,0,none⟩) 1 1)]) ?_ ?_|refine go1 ?_|refine zg λ_ _=>?_|refine zi λ_ _=>?_)
    ·repeat' (first|refine zB ?_ ?_|(refine aM (d:=some 31) (E:=fD txR) (M:=aH dv++b12::b2::M) rfl rfl (n:=k) (l:=ch.bs) (SlR.ext (hv.step x06 (by simp) hdM) (by exact fx)) rfl hkl (fun ad cs r4 he=>?_);obtain ⟨xv,rfl,hxv⟩:=he;obtain ⟨_,_,exv⟩:=hxv.form)|refine zI (d:=some 33) (cs:= [xv]) (by rw [exv];rfl) (fun b8 w8 x8 a8 hb8=>?_)|refine go1 ?_|refine zg λ_ _=>?_|refine zi λ_ _=>?_)
     all_goals exact ⟨(b8,xv),⟨rfl,rfl,rfl,rfl,rfl,rfl,rfl,trivial⟩,by exact fx,a8,hxv.ext (by exact fx)⟩
    ·rintro ⟨b8,xv⟩ ρ w8 ⟨x8,a8,hxv⟩
     dsimp only at x8 a8 hxv ⊢
     refine fM (d:=some 34) (E:=fD txR) (M:=b12::b2::M) (v:=dv) (cs:= [xv]) (a:=ch.bs[k]) rfl rfl (o6.ext x8) (nTr s56 x8.size) rfl rfl a8 ⟨xv,rfl,hxv⟩ (by omega) (fun v9 w9 o9 c9 hb9=>?_)
     have h12n:b12∉aH dv:=fun h=>by have:=ob _ h;omega
     have a9:=(a6.ext x8).chg c9 h12n
     have o9b:=o9.base
     repeat (first|refine go1 ?_|refine zg λ_ _=>?_|refine zi λ_ _=>?_)
     refine bB (b:=b12) (o:=0) (cur:= [dv,.int .i64 0]) rfl rfl o9.one a9 (Nat.le_of_ble_eq_true rfl) (fun w10 c10 a10=>?_)
     have o10:=o9.step c10 (M':=b12::b2::M) (fun y hy=>by
      simp at hy;subst hy
      exact ⟨fun h=>by have:=o9b _ h;omega,.inl (by simp)⟩) (fun y hy=>.inl hy)
     have c510:Chg [b12] w5 w10:=((c6.trans (Chg.trans x8 c9)).trans c10).mono (fun y hy=>by
      simp at hy
      rcases hy with rfl|hy|rfl
      ·exact .inl (by simp)
      ·exact .inr (ob y hy)
      ·exact .inl (by simp))
     repeat (first|refine go1 ?_|refine zg λ_ _=>?_|refine zi λ_ _=>?_)
     exact ⟨(k+1,v9),⟨rfl,rfl,rfl,rfl,rfl,trivial⟩,⟨c510,by simp only;omega,by simp only;rw [List.take_succ_eq_append_getElem hkl];exact o10,a10⟩,by simp only;omega⟩
   ·have ekk:k=ch.bs.length - 1:=by omega
    subst ekk
    have h12v:b12∉aH dv:=fun h=>by have:=ob _ h;omega
    have h2v:b2∉aH dv:=fun h=>by have:=ob _ h;omega
    repeat (first|refine go1 ?_|refine zg λ_ _=>?_|refine zi λ_ _=>?_)
    refine bB (b:=b12) (o:=1) (cur:= [dv,.int .i64 0]) rfl rfl rfl a6 (Nat.le_of_ble_eq_true rfl) (fun w11 c11 a11=>?_)
    have a11:At w11 b12 (.cells [dv,.int .i64 (ch.top:Nat)].toArray T.kedgeref13_Chain (0,0)):=a11
    have o11:=o6.step c11 (M':=b12::b2::M) (fun y hy=>by simp at hy;subst hy;exact ⟨h12v,.inl (by simp)⟩) (fun y hy=>.inl hy)
    have a211:=(At.ext x26 a2).chg c11 (by simp;omega)
    have r1211:=Row.of_at a11
    have r111:=Row.chg c11 r16 (by simp;omega)
    have x11:Ext w w11:=(Ext.chg (x02.trans x5) (c6.trans c11)).mono (fun y hy=>.inr (by simp at hy;omega))
    have off:∀y∈b12::b2::M,y∉aH dv:=fun y hy hv=>by have:=ob y hv;have:=hMl y hy;omega
    have hMb:∀y∈b12::b2::M,y∈M∨w.heap.size≤y:=hM4
    have hv11:SlR (fD txR) (b12::b2::M) w11 bv ch.bs:=hv.step x11 (by simp) hM4
    clear x1 x2 x02 x06 x26 x5 c6 c11 a1 r1 r12 r16
    have m2:b2∈b12::b2::M:=by simp
    repeat' (first|refine zg (fun w12 x12=>?_)|refine zB ?_ ?_|refine aEc (d:=some 43) (n:=ch.bs.length) rfl (by omega) (by omega) ?_|(refine aUs (d:=some 44) (E:=fD txR) (M:=b12::b2::M) rfl rfl (n:=ch.bs.length - 1) (l:=ch.bs) (hv.step (show Ext w _ by exact fx) (by simp) hM4) rfl hkl1 (fun ad cs r4 he hab=>?_);obtain ⟨tv,rfl,hxv⟩:=he)|(refine bA (w0:=w) (n:=2) (vs:= [dv,.int .i64 (ch.top:Nat)]) (show Ext w _ by exact fx) hb02 (At.ext (show Ext w11 _ by exact fx) a211) rfl rfl rfl rfl (by simp [odv];rfl) (fun w14 x14 c14 a14 r14=>?_);have r114:=Row.chg c14 (Row.ext (show Ext w11 _ by exact fx) r111) (by simp;omega);have o14:=(o11.ext (show Ext w11 _ by exact fx)).step c14 (M':=b12::b2::M) (fun y hy=>by simp at hy;subst hy;exact ⟨h2v,.inl (by simp)⟩) (fun y hy=>.inl hy);(first|have r5:=Row.chg c14 r4 (fun h=>by simp at h;rw [h] at hab;exact hab m2)|skip);(first|have hxv:=hxv.step c14 (M':=b12::b2::M) (fun y hy=>.inl (by simp at hy;simp [hy])) (fun y hy=>.inl hy)|skip))|refine go1 ?_|refine zg λ_ _=>?_|refine zi λ_ _=>?_)
    all_goals exact aB (aLx (bK r14 rfl rfl) bC bC) ⟨dv,tv,rfl,(o14.sl off).sub (fun y hy=>.inl (by simp [hy])),fun _=>hxv.sub (fun y hy=>.inl (by simp [hy])),fun q=>absurd rfl q,x14⟩
end Go.Proofs.YtgloknkcfchnlabGreatDoor
end
namespace Go.Proofs.YtgloknkcfchnlabGreatDoor
section
open Go Go.K
attribute [local irreducible] aG aK aU KOp.wp K.Spec u32 leS vnS str aN aJ aP bH idT aV
theorem aOm {U:List Nat} {B c:Nat} {M:List Nat} {ch:Ch} (p:Pt) (w:World) (h:ChR U w B c M ch):K.Spec Tryz.prog F.chain_Chain_Get [.pointer (some ⟨c,0,none⟩),p.val] w fun r w'=>r=.tuple #[(cH (aY ch.bs) p).val,.bool (aX (aY ch.bs) p).isSome]∧Ext w w':=by
 obtain ⟨b,mb,lv,h1,h2,h3,rfl,g1,g2,g3,g4,g5,g6,g8⟩:=h
 have r1:=Row.of_at h1
 refine yI rfl ?_
 unfold nN
 refine oy ?_
 repeat (first|refine zD (d:=some 3) (cs:=p.cs) rfl rfl (fun b3 w3 x3 a3 (r3:Row w3 ⟨b3,0,none⟩ p.cs) hb3=>?_)|refine zH (d:=some 4) (fun b4 w4 x4 a4 hb4=>?_)|refine zg (fun w5 x5=>?_)|refine go1 ?_|refine zg λ_ _=>?_|refine zi λ_ _=>?_)
 have x35:Ext w3 w5:=x4.trans x5
 refine zC (d:=some 14) rfl (aIg p _ (h2.ext (x3.trans x35))) ?_
 rintro _ w6 ⟨rfl,x6⟩
 repeat (first|refine go1 ?_|refine zg λ_ _=>?_|refine zi λ_ _=>?_)
 refine bA (w0:=w) (vs:=(cH (aY ch.bs) p).cs) (x3.trans (x35.trans x6)) (nTr x3.size hb4) (a4.ext (x5.trans x6)) rfl rfl rfl rfl rfl (fun w9 x9 c9 a9 r9=>?_)
 repeat (first|refine go1 ?_|refine zg λ_ _=>?_|refine zi λ_ _=>?_)
 exact aB (lA (bK r9 rfl rfl) bC) ⟨rfl,x9⟩
set_option maxHeartbeats 2000000 in
theorem aK3 {U:List Nat} {B c:Nat} {M:List Nat} {ch:Ch} {lv:Value} (w:World) (h:ChR U w B c M ch) (hl:SlE bE w lv (aY ch.bs)) (hg:CG (aY ch.bs)) (hn:(aY ch.bs).length≤100000):K.Spec Tryz.prog F.kedgelaw13_same [.pointer (some ⟨c,0,none⟩),lv] w fun r w'=>r=.bool true∧Ext w w':=by
 refine yG rfl ?_
 unfold mX
 refine oy ?_
 repeat (first|(refine zC (d:=some 11) rfl (aAi _ h hn) ?_;rintro av w1 ⟨hav,hab,x1⟩)|refine go1 ?_|refine zg λ_ _=>?_|refine zi λ_ _=>?_)
 have hget:∀(p:Pt) w',Ext w w'→K.Spec Tryz.prog F.chain_Chain_Get [.pointer (some ⟨c,0,none⟩),p.val] w' fun r w2=>r=.tuple #[(cH (aY ch.bs) p).val,.bool (aX (aY ch.bs) p).isSome]∧Ext w' w2:=fun p w' x=>aOm p w' (h.ext x)
 generalize aY ch.bs=l at*
 repeat (first|refine bP (d:=some 13) rfl hav ?_|refine bP (d:=some 15) rfl (hl.ext x1) ?_|refine aD (d:=some 16) (.bool false) rfl (congrArg (fun b=>some (Value.bool (!b))) (dTr rfl)) ?_|refine bP (d:=some 18) rfl hav ?_|refine go1 ?_|refine zg λ_ _=>?_|refine zi λ_ _=>?_)
 refine aL (fun (p:Nat) w'=>Ext w1 w'∧p≤l.length) (fun p=> [(0,.pointer (some ⟨c,0,none⟩)),(1,lv),(17,av),(18,.int .i64 (l.length:Nat)),(19,.int .i64 (p:Nat))]) (fun p=>l.length - p) 0 ⟨rfl,rfl,rfl,rfl,rfl,trivial⟩ ⟨Ext.refl _,by simp⟩ ?_
 rintro k ρ w2 ⟨x2,hk⟩
 repeat (first|refine go1 ?_|refine zg λ_ _=>?_|refine zi λ_ _=>?_)
 refine zL (x:=.tmp 20) (p:=((k:Nat):Int)<((l.length:Nat):Int)) rfl (fun h7=>?_) (fun h7=>?_)
 ·have hkl:k<l.length:=by omega
  have hl2:=hl.ext (x1.trans x2)
  have hag:=(cF hg.nodup).1 (gMe hkl)
  have hrc:=(take_at hg.srt (gMe hkl)).2
  repeat (first|refine aQ (d:=some 22) (E:=bE) rfl rfl (n:=k) (l:=l) (hav.ext x2) rfl hkl (fun ad1 ra=>?_)|refine uX (d':=7) (e:=6) (fun _=>rfl) (fun _=>rfl) rfl rfl rfl rfl (fun b7 w3 x3 a7 (r7:Row w3 ⟨b7,0,none⟩ (bE.f l[k])) hb7=>?_)|refine aQ (d:=some 28) (E:=bE) rfl rfl (n:=k) (l:=l) (SlE.ext (w:=w2) (by exact fx) hl2) rfl hkl (fun ad2 rb=>?_)|refine aQ (d:=some 37) (E:=bE) rfl rfl (n:=k) (l:=l) (SlE.ext (w:=w2) (by exact fx) hl2) rfl hkl (fun ad3 rc=>?_)|refine aD (d:=some 31) (.bool false) rfl (bAi l[k].1) ?_|refine aD (d:=some 40) (.bool false) rfl (aXx l[k].2) ?_|refine go1 ?_|refine zg λ_ _=>?_|refine zi λ_ _=>?_)
  refine zC (d:=some 46) rfl (hget l[k].1 _ (x1.trans (x2.trans (by exact fx)))) ?_
  rw [hag,hrc,Option.isSome_some]
  rintro _ w5 ⟨rfl,x5⟩
  repeat (first|refine zE (d':=8) (vs:=l[k].2.cs) (fun _=>rfl) rfl rfl rfl (fun b8 w6 x6 a8 (r8:Row w6 ⟨b8,0,none⟩ l[k].2.cs) hb8=>?_)|refine aD (d:=some 55) (.bool false) rfl (aXx l[k].2) ?_|refine go1 ?_|refine zg λ_ _=>?_|refine zi λ_ _=>?_)
  exact ⟨k+1,⟨rfl,rfl,rfl,rfl,rfl,trivial⟩,⟨by exact fx,by omega⟩,by omega⟩
 ·repeat (first|refine go1 ?_|refine zg λ_ _=>?_|refine zi λ_ _=>?_)
  exact aB rfl ⟨rfl,x1.trans x2⟩
set_option maxHeartbeats 2000000 in
theorem aJa {M N:List Nat} {v u:Value} {l:List Tx} (w:World) (hv:SlR txR M w v l) (hu:SlR txR N w u l) (hs:∀t∈l,t.Sm) (hn:l.length≤1000):K.Spec Tryz.prog F.kedgelaw13_sameTxs [v,u] w fun r w'=>r=.bool true∧Ext w w':=by
 refine uB rfl ?_
 unfold kQ
 refine oy ?_
 repeat (first|refine zG (d:=some 7) (E:=txR) (M:=M) (l:=l) rfl (SlR.ext hv (by exact fx)) ?_|refine zG (d:=some 9) (E:=txR) (M:=N) (l:=l) rfl (SlR.ext hu (by exact fx)) ?_|refine aD (d:=some 10) (.bool false) rfl (congrArg (fun b=>some (Value.bool (!b))) (dTr rfl)) ?_|refine zG (d:=some 12) (E:=txR) (M:=M) (l:=l) rfl (SlR.ext hv (by exact fx)) ?_|refine go1 ?_|refine zg λ_ _=>?_|refine zi λ_ _=>?_)
 refine aL (fun (p:Nat) w'=>Ext w w'∧p≤l.length) (fun p=> [(0,v),(1,u),(12,.int .i64 (l.length:Nat)),(13,.int .i64 (p:Nat))]) (fun p=>l.length - p) 0 ⟨rfl,rfl,rfl,rfl,trivial⟩ ⟨Ext.refl _,by simp⟩ ?_
 rintro k ρ w2 ⟨x2,hk⟩
 repeat (first|refine go1 ?_|refine zg λ_ _=>?_|refine zi λ_ _=>?_)
 refine zL (x:=.tmp 14) (p:=((k:Nat):Int)<((l.length:Nat):Int)) rfl (fun h7=>?_) (fun h7=>?_)
 ·have hkl:k<l.length:=by omega
  have hsk:=hs _ (gMe hkl)
  obtain ⟨t,ht⟩:∃t,t=l[k]:=⟨_,rfl⟩
  rw [←ht] at hsk
  repeat (first|refine zg (fun w3 x3=>?_)|(refine aM (d:=some 18) (E:=txR) (M:=M) rfl rfl (n:=k) (l:=l) (SlR.ext hv (by exact fx)) rfl hkl (fun ad cs r4 he=>?_);rw [←ht] at he;obtain ⟨iv,ov,rfl, -⟩:=id he)|(refine aM (d:=some 22) (E:=txR) (M:=N) rfl rfl (n:=k) (l:=l) (SlR.ext hu (by exact fx)) rfl hkl (fun ad2 cs2 r5 he2=>?_);rw [←ht] at he2;obtain ⟨iv2,ov2,rfl, -⟩:=id he2)|refine go1 ?_|refine zg λ_ _=>?_|refine zi λ_ _=>?_)
  refine zC (d:=some 24) rfl (aO6 _ he he2 hsk hsk) ?_
  rw [show decide (t=t)=true from dTr rfl]
  rintro _ w5 ⟨rfl,x5⟩
  repeat (first|refine go1 ?_|refine zg λ_ _=>?_|refine zi λ_ _=>?_)
  exact ⟨k+1,⟨rfl,rfl,rfl,rfl,trivial⟩,⟨by exact fx,by omega⟩,by omega⟩
 ·repeat (first|refine go1 ?_|refine zg λ_ _=>?_|refine zi λ_ _=>?_)
  exact aB rfl ⟨rfl,x2⟩
end
end Go.Proofs.YtgloknkcfchnlabGreatDoor
namespace Go.K
section
open Go
section
variable {α:Type} {E:Enc α} {t:TypeId} {B:Nat} {w:World}
theorem aC9 (l:List α) (n:Nat):E.flat l=E.flat (l.take n)++E.flat (l.drop n):=by
 conv=>lhs;rw [←List.take_append_drop n l]
 unfold Enc.flat
 rw [List.flatMap_append]
theorem Own.cut {b:Nat} {len cap n:Nat} {l:List α} (h:Own E t B w (.slice (some ⟨b,0,none⟩) len cap) l) (hn:n≤l.length):Own E t B w (.slice (some ⟨b,0,none⟩) n cap) (l.take n):=by
 rcases h with ⟨e, -⟩|⟨b',cap',junk,e,hB,hat,hln⟩
 ·cases e
 ·simp only [Value.slice.injEq,Option.some.injEq,Addr.mk.injEq,and_true] at e
  obtain ⟨rfl, -,rfl⟩:=e
  refine .inr ⟨b,cap,E.flat (l.drop n)++junk,?_,hB,?_,?_⟩
  ·rw [List.length_take,Nat.min_eq_left hn]
  ·rw [←List.append_assoc,←aC9];exact hat
  ·rw [←List.append_assoc,←aC9];exact hln
end
end
end Go.K
namespace Go.Proofs.YtgloknkcfchnlabGreatDoor
section
open Go Go.K
attribute [local irreducible] aG aK aU KOp.wp K.Spec u32 leS vnS str aN aJ aO bH idT aV inE gY gL fW cG cS aP
theorem aEy {bs:List (List Tx)} {n:Nat} (h:∀b∈bs,yR b) (hn:bs.length≤n) (k:Nat) (hk:k≤bs.length):(bU bs k).length≤12*n:=by
 have:=sJ h k
 have:12*k≤12*n:=by omega
 omega
theorem aXm {ch:Ch} {txs:List Tx} (h:∀b∈ch.bs,yR b) (hx:yR txs):∀b∈(fI ch txs).bs,yR b:=fun b hb=>by
 unfold fI at hb
 split at hb
 ·exact h b hb
 ·simp at hb
  rcases hb with hb|rfl
  ·exact h b hb
  ·exact hx
theorem aUe {ch:Ch} {txs:List Tx} {n:Nat} (h1:ch.bs.length≤n) (h2:ch.top≤n):(fI ch txs).bs.length≤n+1∧(fI ch txs).top≤n+1:=by
 unfold fI
 split
 ·exact ⟨by omega,by omega⟩
 ·simp;omega
theorem aVu {ch:Ch} (h:∀b∈ch.bs,yR b):∀b∈(eT ch).bs,yR b:=fun b hb=>by
 unfold eT at hb
 split at hb
 ·exact h b hb
 ·exact h b (List.mem_of_mem_take hb)
theorem aUk {ch:Ch} {n:Nat} (h1:ch.bs.length≤n) (h2:ch.top≤n):(eT ch).bs.length≤n∧(eT ch).top≤n:=by
 unfold eT
 split
 ·exact ⟨h1,h2⟩
 ·simp;omega
abbrev c13 (bv:Value) (top:Nat):List Value:= [bv,.int .i64 (top:Nat)]
end
section
open Go Go.K
attribute [local irreducible] aG aK aU KOp.wp K.Spec u32 leS vnS str aN aJ aO bH idT aV inE gY gL fW cG cS aP EtR
structure Two (B c b6 n:Nat) (ch:Ch) (M:List Nat) (bv:Value) (w:World):Prop where
 chr:ChR [b6] w B c M ch
 cell:At w b6 (.cells (c13 bv ch.top).toArray T.kedgeref13_Chain (0,0))
 bs:SlR (fD txR) (M++ [b6]) w bv ch.bs
 bk:∀b∈ch.bs,yR b
 len:ch.bs.length≤n
 top:ch.top≤n
theorem Two.lt {B c b6 n:Nat} {ch:Ch} {M:List Nat} {bv:Value} {w:World} (h:Two B c b6 n ch M bv w):∀y∈M++ [b6],y<w.heap.size:=fun y hy=>by
 rcases List.mem_append.1 hy with hy|hy
 ·exact h.chr.lt y hy
 ·simp at hy;subst hy;exact h.cell.lt
theorem Two.ext {B c b6 n:Nat} {ch:Ch} {M:List Nat} {bv:Value} {w w':World} (h:Two B c b6 n ch M bv w) (x:Ext w w'):Two B c b6 n ch M bv w':=⟨h.chr.ext x,h.cell.ext x,h.bs.ext x,h.bk,h.len,h.top⟩
set_option maxHeartbeats 16000000 in
set_option maxRecDepth 4000 in
theorem aFo {v:Value} {acts:List BAct} (w:World) (hg:EtR w) (hz:SlR aA0 [] w v acts):K.Spec Tryz.prog F.kedgelaw13_ChainPlays [v] w fun r w'=>r=.bool true∧Ext w w':=by
 refine pO rfl ?_
 unfold iV
 refine oy ?_
 repeat (first|refine go1 ?_|refine zg λ_ _=>?_|refine zi λ_ _=>?_)
 refine zC (d:=some 17) rfl (aEt (U:= []) _ (by simp)) ?_
 rintro _ w1 ⟨c,M1,rfl,C1,hM1,x1⟩
 repeat (first|refine zH (d:=some 4) (fun b6 w2 x2 a2 hb2=>?_)|refine zG (d:=some 20) (E:=aA0) (M:= []) (l:=acts) rfl (SlR.ext hz (by exact fx)) ?_|refine aGc (d:=some 22) (E:=aA0) (n:=min acts.length 14) rfl rfl (by omega) hz (by omega) rfl (fun v' hv'=>?_)|refine zG (d:=some 23) (E:=aA0) (M:= []) (l:=acts.take (min acts.length 14)) rfl (SlR.ext hv' (by exact fx)) ?_|refine go1 ?_|refine zg λ_ _=>?_|refine zi λ_ _=>?_)
 have hSl:(acts.take (min acts.length 14)).length≤14:=by rw [List.length_take];omega
 generalize acts.take (min acts.length 14)=S at*
 have x02:Ext w w2:=x1.trans x2
 have s1:=x1.size
 have hb6:w.heap.size≤b6:=by omega
 have K2:Two w.heap.size c b6 0 ⟨[],0⟩ M1 (.slice none 0 0) w2:=⟨((C1.more (fun y hy=>by simp at hy;subst hy;exact .inr hb2):ChR [b6] w1 _ _ _ _)).ext x2,a2,SlR.nil _ _,by simp,by simp,by simp⟩
 refine aL (fun (p:Nat × Ch × List Nat × Value) w'=>Ext w w'∧p.1≤S.length∧Two w.heap.size c b6 p.1 p.2.1 p.2.2.1 p.2.2.2 w') (fun p=> [(3,.pointer (some ⟨c,0,none⟩)),(4,.pointer (some ⟨b6,0,none⟩)),(22,v'),(23,.int .i64 (S.length:Nat)),(24,.int .i64 (p.1:Nat))]) (fun p=>S.length - p.1) (0,⟨[],0⟩,M1,.slice none 0 0) ⟨rfl,rfl,rfl,rfl,rfl,trivial⟩ ⟨x02,by simp,K2⟩ ?_
 clear C1 hM1 x1 x2 a2 K2 x02 s1 hb2
 rintro ⟨i,ch,M,bv⟩ ρ w4 ⟨x4,hi,K4⟩
 simp only at hi K4
 dsimp only
 repeat (first|refine go1 ?_|refine zg λ_ _=>?_|refine zi λ_ _=>?_)
 refine zL (x:=.tmp 25) (p:=((i:Nat):Int)<((S.length:Nat):Int)) rfl (fun h5=>?_) (fun h5=>?_)
 ·have hil:i<S.length:=by omega
  have hMb:=K4.chr.base
  have hN:=K4.lt
  have hbv:=K4.bs
  have hbk:=K4.bk
  have hbl:=K4.len
  have htop:=K4.top
  have hMo:=K4.chr.off
  have hcn:∀k,k≤ch.bs.length→(bU ch.bs k).length≤168:=fun k hk=>aEy (n:=14) hbk (by omega) k hk
  have hcl:(aY ch.bs).length≤168:=hcn _ (Nat.le_refl _)
  have hNb:∀y∈M++ [b6],w.heap.size≤y:=fun y hy=>by
   rcases List.mem_append.1 hy with hy|hy
   ·exact hMb y hy
   ·simp at hy;omega
  have hvN:SlR aA0 (M++ [b6]) w4 v' S:=hv'.step x4 (by simp) (fun y hy=>.inr (hNb y hy))
  have ek:((ch.bs.length:Nat):Int)+1=((ch.bs.length+1:Nat):Int):=by omega
  have r4:=Row.of_at K4.cell
  repeat (first|(refine aM (d:=some 26) (E:=aA0) (M:=M++ [b6]) rfl rfl (n:=i) (l:=S) hvN rfl hil (fun ad cs r3 he=>?_);obtain ⟨tv,rfl,htv⟩:=id he;obtain ⟨q1,q2,etv⟩:=htv.form;obtain ⟨a,ha⟩:∃a,a=S[i]:=⟨_,rfl⟩;rw [←ha] at htv r3 etv)|refine zE (d':=6) (fun _=>rfl) rfl rfl (by rw [etv];rfl) (fun b8 w5 x5 a8 (r8:Row w5 ⟨b8,0,none⟩ [u8V a.act,tv]) hb8=>?_)|refine kT (a:=.seq (.reg false (.cons ⟨some 28,_,none⟩ _)) _) (fun (p:Ch × List Nat × Value) w'=>Ext w w'∧Two w.heap.size c b6 (i+1) p.1 p.2.1 p.2.2 w') (fun _=> [(3,.pointer (some ⟨c,0,none⟩)),(4,.pointer (some ⟨b6,0,none⟩)),(22,v'),(23,.int .i64 (S.length:Nat)),(24,.int .i64 (i:Nat))]) ?_ ?_|refine cM (d:=some 30) rfl rfl (aFr a.act.toNat 4 (by decide)) ?_|refine go1 ?_|refine zg λ_ _=>?_|refine zi λ_ _=>?_)
  ·have x05:Ext w w5:=x4.trans x5
   have K5:=K4.ext x5
   have s5:=x5.size
   refine zL (x:=.tmp 31) (p:=((a.act.toNat%4:Nat):Int)=3) rfl (fun hd=>?_) (fun hd=>?_)
   ·repeat (first|refine go1 ?_|refine zg λ_ _=>?_|refine zi λ_ _=>?_)
    refine zC (d:=some 34) rfl (tL _ K5.chr (fun k hk=>nTr (hcn k hk) (by omega)) (by omega) (by omega)) ?_
    rintro _ w6 ⟨tv',M',rfl,C6,hM6,c6,hT1,hN1⟩
    have x06:Ext w w6:=(Ext.chg x05 c6).mono (fun y hy=>.inr (hMb y hy))
    have a46:=K5.cell.chg c6 (fun h=>hMo _ h (by simp))
    have r46:=Row.of_at a46
    have hbv6:SlR (fD txR) (M'++ [b6]) w6 bv ch.bs:=K5.bs.step c6 (fun y hy=>.inl (by simp [hy])) (fun y hy=>.inl (by
     rcases List.mem_append.1 hy with hy|hy
     ·exact List.mem_append_left _ (hM6 y hy)
     ·exact List.mem_append_right _ hy))
    have C6l:=C6.lt
    repeat (first|refine go1 ?_|refine zg λ_ _=>?_|refine zi λ_ _=>?_)
    refine zC (d:=some 39) rfl (aLb (M:=M'++ [b6]) _ hbv6 (by omega) (by omega) (fun y hy=>by
     rcases List.mem_append.1 hy with hy|hy
     ·exact C6l y hy
     ·simp at hy;subst hy;exact a46.lt)) ?_
    rintro _ w8 ⟨bv',tv2,rfl,hbv8,hT2,hN2,x8⟩
    obtain ⟨l,hl1,hl2,hls,hll⟩:∃l,SlR txR (M'++ [b6]) w8 tv' l∧SlR txR (M'++ [b6]) w8 tv2 l∧(∀t∈l,t.Sm)∧l.length≤1000:=by
     by_cases h0:fH ch=0
     ·have hpos:0<ch.bs.length:=by
       rcases Nat.eq_zero_or_pos ch.bs.length with h|h
       ·unfold fH at h0;rw [if_pos h] at h0;exact absurd h0 (by decide)
       ·exact h
      have hmem:ch.bs.getD (ch.bs.length - 1) []∈ch.bs:=by
       rw [List.getD_eq_getElem?_getD,List.getElem?_eq_getElem (by omega)]
       exact gMe _
      have hk:=hbk _ hmem
      exact ⟨_,(hT1 h0).ext x8,hT2 h0,hk.2.2,by have:=hk.1;omega⟩
     ·rw [hN1 h0,hN2 h0]
      exact ⟨[],SlR.nil _ _,SlR.nil _ _,by simp,by simp⟩
    have o1:=hbv8.one
    have ones9:(c13 bv' (eT ch).top).all (fun v=>v.oneCell')=true:=by simp [o1];rfl
    repeat (first|refine zE (d':=9) (fun _=>rfl) rfl rfl ones9 (fun b9 w9 x9 a9 (r9:Row w9 ⟨b9,0,none⟩ (c13 bv' (eT ch).top)) hb9=>?_)|refine aD (d:=some 45) (.bool false) rfl (congrArg (fun b=>some (Value.bool (!b))) (dTr rfl)) ?_|refine go1 ?_|refine zg λ_ _=>?_|refine zi λ_ _=>?_)
    refine zC (d:=some 49) rfl (aJa (l:=l) _ (hl1.ext x9) (hl2.ext x9) hls hll) ?_
    rintro _ w10 ⟨rfl,x10⟩
    have r10:=Row.ext x10 r9
    have x810:Ext w8 w10:=x9.trans x10
    repeat (first|refine go1 ?_|refine zg λ_ _=>?_|refine zi λ_ _=>?_)
    refine bG (b:=b6) (vs:=c13 bv' (eT ch).top) rfl rfl rfl (List.all_eq_true.1 ones9) (a46.ext (x8.trans x810)) rfl (fun w11 c11 a11=>?_)
    repeat (first|refine go1 ?_|refine zg λ_ _=>?_|refine zi λ_ _=>?_)
    have dl:=aUk hbl htop
    have x011:Ext w w11:=(Ext.chg (x06.trans (x8.trans x810)) c11).mono (fun y hy=>.inr (by simp at hy;omega))
    exact ⟨(eT ch,M',bv'),⟨rfl,rfl,rfl,rfl,rfl,trivial⟩,x011,⟨(C6.ext (x8.trans x810)).step c11 (fun y hy=>.inl hy),a11,(hbv8.ext x810).step c11 (fun y hy=>.inl (by simp at hy;simp [hy])) (fun y hy=>.inl hy),aVu hbk,by simp only;omega,by simp only;omega⟩⟩
   ·have r45:=Row.of_at K5.cell
    repeat (first|refine zg (fun w6 x6=>?_)|(refine jE (b:=.cons ⟨some 61,_,_⟩ _) (fun (p:Value) w'=>Ext w6 w'∧SlE bE w' p (aY ch.bs)) (fun p=> [(54,p),(56,tv),(60,.int .i64 (((ch.bs.length:Nat):Int)+1)),(3,.pointer (some ⟨c,0,none⟩)),(4,.pointer (some ⟨b6,0,none⟩)),(22,v'),(23,.int .i64 (S.length:Nat)),(24,.int .i64 (i:Nat))]) ?_ ?_)|refine go1 ?_|refine zg λ_ _=>?_|refine zi λ_ _=>?_)
    ·repeat' (first|refine zB ?_ ?_|(refine zC (d:=some 54) rfl (rC (M:=M++ [b6]) ((ch.top:Nat):Int) _ (SlR.ext hbv (by exact fx)) hbk (by omega)) ?_;rintro lvv w7 ⟨hlv7,x7⟩)|refine zG (d:=some 59) (E:=fD txR) (M:=M++ [b6]) (l:=ch.bs) rfl (SlR.ext hbv (by exact fx)) ?_|refine go1 ?_|refine zg λ_ _=>?_|refine zi λ_ _=>?_)
     all_goals exact ⟨lvv,by simp only [Has];exact ⟨rfl,rfl,rfl,rfl,rfl,rfl,rfl,rfl,trivial⟩,by exact fx,hlv7.ext (by exact fx)⟩
    rintro lvv ρ w7 ⟨x67,hlv7⟩
    rw [ek]
    have x47:Ext w4 w7:=(x5.trans x6).trans x67
    have s47:=x47.size
    refine zC (d:=some 61) rfl (aMw (M:=M++ [b6]) (l:=aY ch.bs) (zs:=a.txs) ((ch.bs.length+1:Nat):Int) _ hlv7 (fU _ _) (qL _ _) (htv.ext x47) (by omega) (by omega) (fun y hy=>nLt (hN y hy) s47)) ?_
    rintro vtx w8 ⟨txs,oT,htl,hmk,x8⟩
    have hT:SlR txR (M++ [b6]) w8 vtx txs:=oT.slB (fun y hy=>nLt (hN y hy) s47)
    have hbx:=yR.of_mk hmk htl
    have ho4:=hbx.2.1
    have x48:Ext w4 w8:=x47.trans x8
    have C8:=K4.chr.ext x48
    repeat (first|refine go1 ?_|refine zg λ_ _=>?_|refine zi λ_ _=>?_)
    refine zC (d:=some 64) rfl (aCw (U:= [b6]) (N:=M++ [b6]) (txs:=txs) _ C8 hT (fun y hy=>List.mem_append_left _ hy) (fun y hy=>List.mem_append_right _ hy) (fun y hy=>nLt (hN y (List.mem_append_right _ hy)) x48.size) (fun t ht=>(hmk t ht).sm) (by omega) (by omega) (by omega) (by omega)) ?_
    rintro e w9 ⟨⟨pl,E9⟩,⟨M',C9,hM9⟩,c9⟩
    have x09:Ext w w9:=(Ext.chg (x4.trans x48) c9).mono (fun y hy=>.inr (hMb y hy))
    have a9:=(K4.cell.ext x48).chg c9 (fun h=>hMo _ h (by simp))
    have hsub:∀y∈M'++ [b6],y∈M++ [b6]∨w8.heap.size≤y:=fun y hy=>by
     rcases List.mem_append.1 hy with hy|hy
     ·exact (hM9 y hy).imp (fun h=>List.mem_append_left _ h) id
     ·exact .inl (List.mem_append_right _ hy)
    have hbv9:SlR (fD txR) (M'++ [b6]) w9 bv ch.bs:=(hbv.ext x48).step c9 (fun y hy=>.inl (List.mem_append_left _ hy)) hsub
    have hT9:SlR txR (M'++ [b6]) w9 vtx txs:=hT.step c9 (fun y hy=>.inl (List.mem_append_left _ hy)) hsub
    have r9:=Row.of_at a9
    have C9l:=C9.lt
    have hok:(jN ch txs).1=0→(jN ch txs).2= -1:=fun h=>aBs h
    clear C8 K5 r8 r4 r45 hT c9 x67 hlv7 x6 hvN
    repeat (first|refine go1 ?_|refine zg λ_ _=>?_|refine zi λ_ _=>?_)
    refine zC (d:=some 68) rfl (aMh (M:=M'++ [b6]) (txs:=txs) _ hbv9 hT9 hbk hbx (by omega) (by omega) (fun y hy=>by
     rcases List.mem_append.1 hy with hy|hy
     ·exact C9l y hy
     ·simp at hy;subst hy;exact a9.lt)) ?_
    rintro _ w10 ⟨bv',rfl,hbv10,x10⟩
    have o1:=hbv10.one
    have ones9:(c13 bv' (fI ch txs).top).all (fun v=>v.oneCell')=true:=by simp [o1];rfl
    repeat (first|refine zE (d':=14) (fun _=>rfl) rfl rfl ones9 (fun b14 w11 x11 a11 (r11:Row w11 ⟨b14,0,none⟩ (c13 bv' (fI ch txs).top)) hb11=>?_)|refine go1 ?_|refine zg λ_ _=>?_|refine zi λ_ _=>?_)
    have x911:Ext w9 w11:=x10.trans x11
    have E11:=pP.ext E9 x911
    have R11:=E11.errR hok
    refine zC (d:=some 73) rfl (aB4 (hg.ext (x09.trans x911)) R11) ?_
    rintro _ w12 ⟨rfl,x12⟩
    have r12:=Row.ext x12 r11
    have x912:Ext w9 w12:=x911.trans x12
    have R12:=dA.ext x12 R11
    have cl:=aUe (txs:=txs) hbl htop
    have fin:∀w',Ext w9 w'→∀w'',Chg [b6] w' w''→At w'' b6 (.cells (c13 bv' (fI ch txs).top).toArray T.kedgeref13_Chain (0,0))→(Ext w10 w')→Ext w w''∧Two w.heap.size c b6 (i+1) (fI ch txs) M' bv' w'':=fun w' x' w'' c'' a'' x2=>⟨(Ext.chg (x09.trans x') c'').mono (fun y hy=>.inr (by simp at hy;omega)),(C9.ext x').step c'' (fun y hy=>.inl hy),a'',(hbv10.ext x2).step c'' (fun y hy=>.inl (by simp at hy;simp [hy])) (fun y hy=>.inl hy),aXm hbk hbx,by omega,by omega⟩
    have x1012:Ext w10 w12:=x11.trans x12
    generalize jN ch txs=ce at*
    obtain ⟨ce1,ce2⟩:=ce
    simp only at E11 R11 R12 hok
    by_cases h0:ce1=0
    ·obtain rfl:=E11.nilD.1 h0
     repeat (first|refine aD (d:=some 75) (.bool false) rfl (congrArg (fun b=>some (Value.bool (!b))) (dTr rfl)) ?_|refine aD (d:=some 80) (.bool true) rfl (congrArg (fun b=>some (Value.bool b)) (dTr h0)) ?_|refine go1 ?_|refine zg λ_ _=>?_|refine zi λ_ _=>?_)
     refine zC (d:=some 85) rfl (xJ (hg.ext (x09.trans x912)) R12) ?_
     rintro _ w13 ⟨rfl,x13⟩
     have r13:=Row.ext x13 r12
     repeat (first|refine aD (d:=some 87) (.bool false) rfl (congrArg (fun b=>some (Value.bool (!b))) (dTr rfl)) ?_|refine go1 ?_|refine zg λ_ _=>?_|refine zi λ_ _=>?_)
     refine bG (b:=b6) (vs:=c13 bv' (fI ch txs).top) rfl rfl rfl (List.all_eq_true.1 ones9) (a9.ext (x912.trans x13)) rfl (fun w14 c14 a14=>?_)
     repeat (first|refine go1 ?_|refine zg λ_ _=>?_|refine zi λ_ _=>?_)
     exact ⟨(fI ch txs,M',bv'),⟨rfl,rfl,rfl,rfl,rfl,trivial⟩,fin _ (x912.trans x13) _ c14 a14 (x1012.trans x13)⟩
    ·obtain ⟨et,eu,rfl⟩:=E11.nilD.2 h0
     repeat (first|refine aD (d:=some 75) (.bool false) rfl (congrArg (fun b=>some (Value.bool (!b))) (dTr rfl)) ?_|refine aD (d:=some 80) (.bool false) rfl (congrArg (fun b=>some (Value.bool b)) (dFa h0)) ?_|refine go1 ?_|refine zg λ_ _=>?_|refine zi λ_ _=>?_)
     refine zC (d:=some 85) rfl (xJ (hg.ext (x09.trans x912)) R12) ?_
     rintro _ w13 ⟨rfl,x13⟩
     have r13:=Row.ext x13 r12
     repeat (first|refine aD (d:=some 87) (.bool false) rfl (congrArg (fun b=>some (Value.bool (!b))) (dTr rfl)) ?_|refine go1 ?_|refine zg λ_ _=>?_|refine zi λ_ _=>?_)
     refine bG (b:=b6) (vs:=c13 bv' (fI ch txs).top) rfl rfl rfl (List.all_eq_true.1 ones9) (a9.ext (x912.trans x13)) rfl (fun w14 c14 a14=>?_)
     repeat (first|refine go1 ?_|refine zg λ_ _=>?_|refine zi λ_ _=>?_)
     exact ⟨(fI ch txs,M',bv'),⟨rfl,rfl,rfl,rfl,rfl,trivial⟩,fin _ (x912.trans x13) _ c14 a14 (x1012.trans x13)⟩
  ·rintro ⟨ch2,M2,bv2⟩ ρ w20 ⟨x20,K20⟩
   simp only at K20
   have hbk2:=K20.bk
   have hbl2:=K20.len
   have hbv2:=K20.bs
   have r20:=Row.of_at K20.cell
   have hcl2:(aY ch2.bs).length≤168:=aEy (n:=14) hbk2 (by omega) _ (Nat.le_refl _)
   repeat (first|refine zg (fun w21 x21=>?_)|refine jE (b:=.cons ⟨some 98,_,_⟩ _) (fun (_:Unit) w'=>Ext w21 w') (fun _=> [(96,.bool false),(97,.pointer (some ⟨c,0,none⟩)),(3,.pointer (some ⟨c,0,none⟩)),(4,.pointer (some ⟨b6,0,none⟩)),(22,v'),(23,.int .i64 (S.length:Nat)),(24,.int .i64 (i:Nat))]) ?_ ?_|refine go1 ?_|refine zg λ_ _=>?_|refine zi λ_ _=>?_)
   ·repeat' (first|refine zB ?_ ?_|(refine zC (d:=some 91) rfl (oX _ (K20.chr.ext (by exact fx))) ?_;rintro _ w22 ⟨rfl,x22⟩)|refine zG (d:=some 94) (E:=fD txR) (M:=M2++ [b6]) (l:=ch2.bs) rfl (SlR.ext hbv2 (by exact fx)) ?_|refine aD (d:=some 95) (.bool false) rfl (congrArg (fun b=>some (Value.bool (!b))) (dTr rfl)) ?_|refine go1 ?_|refine zg λ_ _=>?_|refine zi λ_ _=>?_)
    all_goals exact ⟨(),by simp only [Has];exact ⟨rfl,rfl,rfl,rfl,rfl,rfl,rfl,trivial⟩,by exact fx⟩
   rintro _ ρ w23 x2123
   have x2023:Ext w20 w23:=x21.trans x2123
   have r23:=Row.ext x2023 r20
   repeat (first|refine go1 ?_|refine zg λ_ _=>?_|refine zi λ_ _=>?_)
   refine zC (d:=some 99) rfl (rC (M:=M2++ [b6]) ((ch2.top:Nat):Int) _ (hbv2.ext x2023) hbk2 (by omega)) ?_
   rintro lvv w24 ⟨hlv,x24⟩
   have K24:=K20.ext (x2023.trans x24)
   repeat (first|refine go1 ?_|refine zg λ_ _=>?_|refine zi λ_ _=>?_)
   refine zC (d:=some 100) rfl (aK3 _ K24.chr hlv (fU _ _) (by omega)) ?_
   rintro _ w25 ⟨rfl,x25⟩
   repeat (first|refine go1 ?_|refine zg λ_ _=>?_|refine zi λ_ _=>?_)
   exact ⟨(i+1,ch2,M2,bv2),⟨rfl,rfl,rfl,rfl,rfl,trivial⟩,⟨x20.trans (x2023.trans (x24.trans x25)),by simp only;omega,K24.ext x25⟩,by simp only;omega⟩
 ·repeat (first|refine go1 ?_|refine zg λ_ _=>?_|refine zi λ_ _=>?_)
  refine zC (d:=some 104) rfl (aJ5 _) ?_
  rintro _ w5 ⟨rfl,x5⟩
  repeat (first|refine go1 ?_|refine zg λ_ _=>?_|refine zi λ_ _=>?_)
  exact aB rfl ⟨rfl,x4.trans x5⟩
end
end Go.Proofs.YtgloknkcfchnlabGreatDoor
