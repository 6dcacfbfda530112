/- Contracts: accepting a transaction, beside blocks that are t -/
import Derived.Test.YtfebcajheojodaaGreatDoorZ31
set_option linter.unusedVariables false
set_option linter.unusedSimpArgs false
namespace Go.Proofs.YtfebcajheojodaaGreatDoor
section
open Go Go.K
attribute [local irreducible] aO aU bQ KOp.wp K.Spec u32 leS vnS str aV cU cD idT aR aG aX idN bD cF bT bH cA cO aZ bA aM iC dT pD lH bC evL inS inB iG fH dN fY gE gP eQ cH dF eY fL cB bS aY bU eO eD kD dA
set_option maxHeartbeats 4000000 in
theorem aKl {B g:Nat} {M N U:List Nat} {l:List Ent} {cs:List Value} {t:Tx} {v:Value} {f:Pt→Option Cn} (h rate:Int) (w:World) (hG0:GrU w B g M U l) (hU:∀b∈U,b<w.heap.size) (hUN:∀b∈U,b∈N) (hV:lE w v f) (ht:txR.rel N w cs t) (hs:t.Sm) (hN:∀b∈N,b<w.heap.size) (hMN:∀b∈M,b∈N) (hl:l.length≤1000) (hf:∀x∈l,x.fee≤1000000000000):
  K.Spec Tryz.prog F.pool_Accept [.pointer (some ⟨g,0,none⟩),.agg cs.toArray,aMf v h rate] w fun r w'=>∃u e M',r=.tuple #[u,e]∧Own bO T.string w.heap.size w' u (eD f l t h rate)∧eJ w' 1 e (eO f l t h rate).1 (eO f l t h rate).2∧GrU w' B g M' U (kD f l t h rate)∧Chg M w w'∧(∀b∈M',b∈M∨w.heap.size≤b)∧(∀b∈aP u,b∉M'):=by
 have hG:=hG0.gr
 have ht0:=ht
 have hM:∀b∈M,b<w.heap.size:=fun b hb=>hN b (hMN b hb)
 obtain ⟨iv,ov,rfl,hi,ho,hv⟩:=ht
 obtain ⟨vt,vu,rfl⟩:∃vt vu,v=.iface vt vu:=by obtain ⟨⟨a,b,e,_⟩,_⟩:=hV;exact ⟨a,b,e⟩
 have fail:∀{w':World} {e:Value} {c a:Int},Ext w w'→eO f l t h rate=(c,a)→eD f l t h rate= []→kD f l t h rate=l→eJ w' 1 e c a→∃u e' M',Value.tuple #[.slice none 0 0,e]=.tuple #[u,e']∧Own bO T.string w.heap.size w' u (eD f l t h rate)∧eJ w' 1 e' (eO f l t h rate).1 (eO f l t h rate).2∧GrU w' B g M' U (kD f l t h rate)∧Chg M w w'∧(∀b∈M',b∈M∨w.heap.size≤b)∧(∀b∈aP u,b∉M'):=fun x e1 e2 e3 he=>
  ⟨_,_,M,rfl,by rw [e2];exact Own.nil _ _ _,by rw [e1];exact he,by rw [e3];exact hG0.ext x,x.mono (by simp),fun b hb=>.inl hb,fun b hb=>by simp [aP] at hb⟩
 by_cases h0:(aY f l t h).2.1=0
 ·obtain ⟨hc,hg,hh,hgood⟩:=eI h0
  have hgf:=(bG _).1 hgood
  have hz:=(bI hs hc).sizeM
  have e0:lF t=.tuple #[.int .i64 (aR t:Nat),.int .i64 0]:=by rw [lF,if_pos hc]
  generalize hfee:(aY f l t h).1=fee at*
  refine aFf rfl ?_
  unfold wL
  refine oy ?_
  repeat (first|refine zD (d:=some 4) rfl rfl (fun bt wt xt bt' (rt:Row wt ⟨bt,0,none⟩ (aK t iv ov)) hbt0=>?_)|refine zD (d:=some 5) (cs:= [.iface vt vu,.int .i64 h,.int .i64 rate]) rfl rfl (fun bs ws xs bs' (rs:Row ws ⟨bs,0,none⟩ [.iface vt vu,.int .i64 h,.int .i64 rate]) hbs0=>?_)|(refine zC (d:=some 21) rfl (aG2 (M:=M) (N:=N) (l:=l) (f:=f) (cs:=aK t iv ov) (t:=t) h rate _ (hG.r.ext (by exact fx)) (fun b hb=>nLt (hM b hb) (Ext.size (by exact fx))) (hV.ext (by exact fx)) (R.ext ht0 (by exact fx)) hs) ?_;rintro _ w3 ⟨e,rfl,he,x3⟩;obtain ⟨hn1,hn2⟩:=he.nil_iff)|refine go1 ?_|refine zg λ_ _=>?_|refine zi λ_ _=>?_)
  obtain ⟨rfl, -⟩:=hn1 h0
  rw [hfee]
  clear he hn1 hn2
  repeat (first|(refine zC (d:=some 29) rfl (fW (M:=N) (cs:=aK t iv ov) (t:=t) _ (R.ext ht0 (by exact fx)) hs) ?_;rintro _ w4 ⟨rfl,x4⟩;rw [e0])|(refine zC (d:=some 35) rfl (bA5 (.iface vt vu) rfl h rate (aR t) (by omega) _) ?_;rintro _ w5 ⟨rfl,x5⟩)|refine go1 ?_|refine zg λ_ _=>?_|refine zi λ_ _=>?_)
  refine zL (p:=fee<dA rate (aR t)) rfl (fun h1=>?_) (fun h1=>?_)
  ·have e:=aVp (rate:=rate) h0 (by rw [hfee];exact h1)
   obtain ⟨e2,e3⟩:=aVh (by decide) e
   repeat (first|refine go1 ?_|refine zg λ_ _=>?_|refine zi λ_ _=>?_)
   exact aC rfl (fail (by exact fx) e e2 e3 (eJ.num _ _ (by decide)))
  repeat (first|(refine zC (d:=some 41) rfl (bB6 (M:=M) (N:=N) (l:=l) (cs:=aK t iv ov) (t:=t) fee _ (hG.r.ext (by exact fx)) (fun b hb=>nLt (hM b hb) (Ext.size (by exact fx))) (R.ext ht0 (by exact fx)) hs hl hf) ?_;rintro _ w6 ⟨rfl,x6⟩)|refine go1 ?_|refine zg λ_ _=>?_|refine zi λ_ _=>?_)
  refine zN (p:=cH l t fee=0) rfl (fun h2=>?_) (fun h2=>?_)
  ·have e:=aLb (rate:=rate) h0 (by rw [hfee];exact h1) (by rw [hfee];exact h2)
   obtain ⟨e2,e3⟩:=aVh (by rw [hfee];exact h2) e
   rw [hfee] at e
   repeat (first|refine go1 ?_|refine zg λ_ _=>?_|refine zi λ_ _=>?_)
   exact aC rfl (fail (by exact fx) e e2 e3 (eJ.num _ _ h2))
  repeat (first|refine go1 ?_|refine zg λ_ _=>?_|refine zi λ_ _=>?_)
  refine zC (d:=some 48) rfl (kM (M:=M) (N:=N) (l:=l) (cs:=aK t iv ov) (t:=t) _ (hG.r.ext (by exact fx)) (fun b hb=>nLt (hM b hb) (Ext.size (by exact fx))) (R.ext ht0 (by exact fx)) hs.ins hl) ?_
  rintro u w8 ⟨ou8,x7⟩
  have rt8:Row w8 ⟨bt,0,none⟩ (aK t iv ov):=rt.ext (by exact fx)
  have t8:=R.ext ht0 (show Ext w w8 by exact fx)
  have G8u:GrU w8 B g M U l:=hG0.ext (show Ext w w8 by exact fx)
  have G8:Gr w8 B g M l:=G8u.gr
  have hbu:∀b∈aP u,w.heap.size≤b:=fun b hb=>nTr (Ext.size (show Ext w w6 by exact fx)) (ou8.base b hb)
  have hbl:∀b∈aP u,b<w8.heap.size:=fun b hb=>Own.blk_lt ou8 b hb
  have s06:w.heap.size≤w6.heap.size:=Ext.size (show Ext w w6 by exact fx)
  have s8:bt<w8.heap.size:=nLt bt'.lt (Ext.size (show Ext wt w8 by exact fx))
  have x08:Unit→Ext w w8:=fun _=>by exact fx
  have s08:=(x08 ()).size
  clear x3 x4 x5 x6 x7 xs xt rt rs bt' bs'
  have su:=ou8.sl
  have hM8:∀b∈M,b<w8.heap.size:=fun b hb=>nLt (hM b hb) s08
  have hid:(aM l (evL l t)).length≤1000:=nTr (iX l (evL l t)) hl
  obtain ⟨ids,hids⟩:∃ids,aM l (evL l t)=ids:=⟨_,rfl⟩
  rw [hids] at ou8 su hid
  repeat' (first|refine zg (fun w9 x9=>?_)|refine fR ?_ ?_|(refine zC (d:=some 51) rfl (aT6 (M:=M) (l:=l) (ids:=ids) _ (G8.ext (by exact fx)).r (fun b hb=>nLt (hM8 b hb) (Ext.size (by exact fx))) hl (su.ext (by exact fx)) hid) ?_;rintro _ w10 ⟨g1,M1,rfl,g10,x10⟩)|refine jA (b:=.cons ⟨some 53,_,_⟩ _) (fun (p:Nat × List Nat) w'=>Ext w8 w'∧Gr w' w8.heap.size p.1 p.2 (bU l ids)) (fun p=> [(0,.pointer (some ⟨g,0,none⟩)),(4,.pointer (some ⟨bt,0,none⟩)),(8,.int .i64 fee),(13,u),(51,.pointer (some ⟨p.1,0,none⟩)),(52,.agg (aK t iv ov).toArray)]) ?_ ?_|(rintro ⟨g1,M1⟩ ρ7 w10 ⟨x10,g10⟩;try dsimp only)|(exact ⟨(g1,M1),⟨rfl,rfl,rfl,rfl,rfl,rfl,trivial⟩,by exact fx,Gr.low g10 (Ext.size x9)⟩)|refine go1 ?_|refine zg λ_ _=>?_|refine zi λ_ _=>?_)
  have hrest:qI l t=bU l ids:=by unfold qI;rw [hids]
  dsimp only at g10
  refine zC (d:=some 53) rfl (aSp (M:=M1) (N:=N) (l:=bU l ids) (cs:=aK t iv ov) (t:=t) _ g10.r (Gr.lt g10) (R.ext t8 x10) hs (nTr (wA ids l) hl)) ?_
  rintro _ w11 ⟨rfl,x11⟩
  repeat (first|refine go1 ?_|refine zg λ_ _=>?_|refine zi λ_ _=>?_)
  have rt11:Row w11 ⟨bt,0,none⟩ (aK t iv ov):=rt8.ext (by exact fx)
  have x811:Ext w8 w11:=x10.trans x11
  have t11:=R.ext t8 x811
  have G11:=G8u.ext x811
  have ou11:=ou8.ext x811
  have s811:=x811.size
  have x011:Unit→Ext w w11:=fun _=>(x08 ()).trans x811
  clear x10 x11 x811 g10 rt8 ou8 su
  refine zN (p:=dF (bU l ids) t=0) rfl (fun h3=>?_) (fun h3=>?_)
  ·have e:=aOn (rate:=rate) h0 (by rw [hfee];exact h1) (by rw [hfee];exact h2) (by rw [hrest];exact h3)
   rw [hrest] at e
   obtain ⟨e2,e3⟩:=aVh h3 e
   repeat (first|refine go1 ?_|refine zg λ_ _=>?_|refine zi λ_ _=>?_)
   exact aC rfl (fail (x011 ()) e e2 e3 (eJ.num _ _ h3))
  obtain ⟨e1,e2,e3⟩:=bBh (rate:=rate) h0 (by rw [hfee];exact h1) (by rw [hfee];exact h2) (by rw [hrest];exact h3)
  rw [hids] at e2
  rw [hrest,hfee] at e3
  have d0:bU l (ids.take 0)=l:=by unfold bU;rfl
  have huM:∀a m c,u=.slice (some a) m c→a.block∉M:=fun a m c e hb=>by
   have h5:=hbu a.block (by rw [e];simp [aP])
   have h6:=hM _ hb
   omega
  repeat (first|refine bY (d:=some 59) (E:=bO) (l:=ids) rfl ou11.sl ?_|(refine aQ (fun (p:Nat × List Nat) w'=>Chg M w11 w'∧p.1≤ids.length∧GrU w' B g p.2 U (bU l (ids.take p.1))∧(∀b∈p.2,b∈M∨w11.heap.size≤b)) (fun p=> [(0,.pointer (some ⟨g,0,none⟩)),(4,.pointer (some ⟨bt,0,none⟩)),(8,.int .i64 fee),(13,u),(58,u),(59,.int .i64 (ids.length:Nat)),(60,.int .i64 (p.1:Nat))]) (fun p=>ids.length - p.1) (0,M) ⟨rfl,rfl,rfl,rfl,rfl,rfl,rfl,trivial⟩ ⟨Chg.refl _ _,by simp,by rw [d0];exact G11,fun b hb=>.inl hb⟩ ?_;rintro ⟨i,Mi⟩ ρ w12 ⟨c12,hil,g12,m12⟩;simp only at hil g12 m12;dsimp only)|refine go1 ?_|refine zg λ_ _=>?_|refine zi λ_ _=>?_)
  have hlen:(bU l (ids.take i)).length≤1000:=nTr (wA _ l) hl
  have s12:=c12.size
  refine zL (p:=((i:Nat):Int)<((ids.length:Nat):Int)) rfl (fun h=>?_) (fun h=>?_)
  ·have hii:i<ids.length:=by omega
   have su12:=SlE.chg c12 ou11.sl huM
   repeat' (first|(refine aT (d:=some 62) (E:=bO) rfl rfl (n:=i) (l:=ids) su12 rfl hii (fun ad r5=>?_);have r5:Row w12 ad [Value.string ids[i]]:=r5)|(refine zC (d:=some 66) rfl (bJh (l:=bU l (ids.take i)) ids[i] _ g12 (fun b hb=>by have:=hU b hb;have:=(x011 ()).size;omega) hlen) ?_;rintro _ w13 ⟨M4,rfl,g13,c13,m13⟩)|refine go1 ?_|refine zg λ_ _=>?_|refine zi λ_ _=>?_)
   refine ⟨(i+1,M4),⟨rfl,rfl,rfl,rfl,rfl,rfl,rfl,trivial⟩,⟨(c12.trans c13).mono (fun b hb=>?_),hii,by show GrU w13 B g M4 U (bU l (ids.take (i+1)));rw [aAh hii];exact g13,fun b hb=>?_⟩,by show ids.length - (i+1)<ids.length - i;omega⟩
   ·rcases List.mem_append.1 hb with h5|h5
    ·exact .inl h5
    ·exact m12 b h5
   ·rcases m13 b hb with h5|h5
    ·exact m12 b h5
    ·exact .inr (nTr s12 h5)
  ·have hei:ids.take i=ids:=tLe (by omega)
   rw [hei] at g12 hlen
   have rt12:Row w12 ⟨bt,0,none⟩ (aK t iv ov):=rt11.chg c12 (fun hb=>by have:bt<w.heap.size:=hM bt hb;omega)
   have t12:txR.rel (N++Mi) w12 (aK t iv ov) t:=R.step txR t11 c12 (fun b hb=>.inl (hMN b hb)) (fun b hb=>by
    rcases List.mem_append.1 hb with h5|h5
    ·exact .inl h5
    ·exact (m12 b h5).imp (hMN b) id)
   have hN12:∀b∈N++Mi,b<w12.heap.size:=fun b hb=>by
    rcases List.mem_append.1 hb with h5|h5
    ·have:=hN b h5;omega
    ·exact Gr.lt g12.gr b h5
   repeat' (first|(refine zC (d:=some 71) rfl (aTl (N:=N++Mi) (cs:=aK t iv ov) fee _ g12 (fun b hb=>List.mem_append_left _ (hUN b hb)) t12 hs (by unfold lJ;omega) hN12 (fun b hb=>List.mem_append_right _ hb) hlen) ?_;rintro _ w14 ⟨M7,rfl,g14,c14,m14⟩)|refine go1 ?_|refine zg λ_ _=>?_|refine zi λ_ _=>?_)
   have hdis:∀b∈aP u,b∉Mi:=fun b hb hm=>by
    rcases m12 b hm with h5|h5
    ·have:=hM b h5;have:=hbu b hb;omega
    ·have:=hbl b hb;omega
   have hdis0:∀b∈aP u,b∉M:=fun b hb hm=>by have:=hM b hm;have:=hbu b hb;omega
   refine aC rfl ⟨u,.nilIface,M7,rfl,?_,by rw [e1];exact eJ.none_ _ _,by rw [e3];exact g14,?_,fun b hb=>?_,fun b hb hm=>?_⟩
   ·rw [e2]
    exact ((ou11.chg c12 hdis0).chg c14 hdis).lower (by omega)
   ·refine (Ext.chg (x011 ()) (c12.trans c14)).mono (fun b hb=>?_)
    rcases List.mem_append.1 hb with h5|h5
    ·exact .inl h5
    ·rcases m12 b h5 with h6|h6
     ·exact .inl h6
     ·exact .inr (by omega)
   ·rcases m14 b hb with h5|h5
    ·rcases m12 b h5 with h6|h6
     ·exact .inl h6
     ·exact .inr (by omega)
    ·exact .inr (by omega)
   ·rcases m14 b hm with h5|h5
    ·exact hdis b hb h5
    ·have:=hbl b hb;omega
 ·obtain ⟨e1,e2,e3⟩:=aK1 (rate:=rate) h0
  refine aFf rfl ?_
  unfold wL
  refine oy ?_
  repeat (first|refine zD (d:=some 4) rfl rfl (fun bt wt xt bt' (rt:Row wt ⟨bt,0,none⟩ (aK t iv ov)) hbt0=>?_)|refine zD (d:=some 5) (cs:= [.iface vt vu,.int .i64 h,.int .i64 rate]) rfl rfl (fun bs ws xs bs' (rs:Row ws ⟨bs,0,none⟩ [.iface vt vu,.int .i64 h,.int .i64 rate]) hbs0=>?_)|(refine zC (d:=some 21) rfl (aG2 (M:=M) (N:=N) (l:=l) (f:=f) (cs:=aK t iv ov) (t:=t) h rate _ (hG.r.ext (by exact fx)) (fun b hb=>nLt (hM b hb) (Ext.size (by exact fx))) (hV.ext (by exact fx)) (R.ext ht0 (by exact fx)) hs) ?_;rintro _ w3 ⟨e,rfl,he,x3⟩;obtain ⟨hn1,hn2⟩:=he.nil_iff)|refine go1 ?_|refine zg λ_ _=>?_|refine zi λ_ _=>?_)
  obtain ⟨et,eu,rfl⟩:=hn2 h0
  repeat (first|refine go1 ?_|refine zg λ_ _=>?_|refine zi λ_ _=>?_)
  exact aC rfl (fail (by exact fx) e1 e2 e3 (he.ext (by exact fx)))
end
section
open Go Go.K
attribute [local irreducible] aO aU bQ KOp.wp K.Spec u32 leS vnS str aV cU cD idT aR aG aX idN bD cF bT bH cA cO aZ bA aM iC dT pD lH bC evL inS inB iG fH dN fY gE gP eQ cH dF eY fL cB bS aY bU eO eD kD dA bM iH dI bB
theorem zV (i:Int) {e:Value} {d:Nat} {c a:Int} (w:World) (he:eJ w d e c a) (hc:c≠0) (hi:0≤i):K.Spec Tryz.prog F.pack_fault [.int .i64 i,e] w fun r w'=>eJ w' (d+1) r c i∧Ext w w':=by
 obtain ⟨t,u,rfl⟩:=he.nil_iff.2 hc
 refine aVb rfl ?_
 unfold aJq
 refine oy ?_
 repeat' (first|refine bL (d:=some 7) (cs:= [.int .i64 i,.iface t u]) rfl ?_|refine zD (d:=some 8) (cs:= [.int .i64 i,.iface t u]) rfl rfl (fun b8 w8 x8 a8 r8 hb8=>?_)|refine go1 ?_|refine zg λ_ _=>?_|refine zi λ_ _=>?_)
 exact aC rfl ⟨.inr ⟨hc,hi,b8,_,a,rfl,a8,he.ext x8⟩,x8⟩
theorem aT4 {g:Nat} {M N:List Nat} {l:List Ent} {cs:List Value} {t:Tx} (s:ByteArray) (w:World) (hG:GrR w g M l) (hM:∀b∈M,b<w.heap.size) (ht:txR.rel N w cs t) (hs:t.ins.length≤1000) (hn:l.length≤1000):
  K.Spec Tryz.prog F.pack_formed [.pointer (some ⟨g,0,none⟩),.agg cs.toArray,.string s] w fun r w'=>r=.bool (decide (aM l (aZ l t)= [s]))∧Ext w w':=by
 have ht0:=ht
 obtain ⟨iv,ov,rfl,hi,ho,hv⟩:=ht
 have hl:=iX l (aZ l t)
 refine aRi rfl ?_
 unfold aFn
 refine oy ?_
 repeat' (first|refine zD (d:=some 4) rfl rfl (fun bt wt xt bt' (rt:Row wt ⟨bt,0,none⟩ (aK t iv ov)) hbt0=>?_)|(refine zC (d:=some 9) rfl (aDd (M:=M) (N:=N) (l:=l) (cs:=aK t iv ov) (t:=t) _ (hG.ext (by exact fx)) (fun b hb=>nLt (hM b hb) (Ext.size (by exact fx))) (R.ext ht0 (by exact fx)) hs hn) ?_;rintro u3 w3 ⟨o3,x3⟩)|refine zI (d:=some 11) (cs:= [.string s]) rfl (fun b4 w4 x4 a4 hb4=>?_)|(refine zC (d:=some 12) rfl (aNz _ (SlE.ext (w:=w3) (by exact fx) o3.sl) (SlE.new (E:=bO) (l:= [s]) a4 rfl (Nat.le_refl _)) (by omega)) ?_;rintro _ w5 ⟨rfl,x5⟩)|refine go1 ?_|refine zg λ_ _=>?_|refine zi λ_ _=>?_)
 exact aC rfl ⟨rfl,by exact fx⟩
theorem aVt {M N:List Nat} {cs ds:List Value} {t u:Tx} (fee rate:Int) (w:World) (ht:txR.rel M w cs t) (hu:txR.rel N w ds u) (hs1:t.Sm) (hs2:u.Sm) (hc1:aG t=0) (hc2:aG u=0) (hz:aR t+aR u≤1000000):
  K.Spec Tryz.prog F.pack_enough [.int .i64 fee,.agg cs.toArray,.agg ds.toArray,.int .i64 rate] w fun r w'=>r=.bool (decide (fee≥dA rate (aR t+aR u)))∧Ext w w':=by
 obtain ⟨q,hR⟩:∃q:Nat,min (max rate 1000) 100000000=(q:Int):=⟨(min (max rate 1000) 100000000).toNat,by omega⟩
 have hR2:q≤100000000:=by omega
 have e:dA rate (aR t+aR u)=(((q*(aR t+aR u)+999) / 1000:Nat):Int):=by unfold dA;rw [hR];rfl
 rw [e]
 have e1:lF t=.tuple #[.int .i64 (aR t:Nat),.int .i64 0]:=by rw [lF,if_pos hc1]
 have e2:lF u=.tuple #[.int .i64 (aR u:Nat),.int .i64 0]:=by rw [lF,if_pos hc2]
 have ht0:=ht
 have hu0:=hu
 obtain ⟨iv,ov,rfl,hi,ho,hv⟩:=ht
 obtain ⟨iv2,ov2,rfl,hi2,ho2,hv2⟩:=hu
 refine aRc rfl ?_
 unfold aE1
 refine oy ?_
 repeat' (first|refine zD (d:=some 5) rfl rfl (fun bt wt xt bt' (rt:Row wt ⟨bt,0,none⟩ (aK t iv ov)) hbt0=>?_)|refine zD (d:=some 6) rfl rfl (fun bu wu xu bu' (ru:Row wu ⟨bu,0,none⟩ (aK u iv2 ov2)) hbu0=>?_)|(refine zC (d:=some 17) rfl (fW (M:=M) (cs:=aK t iv ov) (t:=t) _ (R.ext ht0 (by exact fx)) hs1) ?_;rintro _ w4 ⟨rfl,x4⟩;rw [e1])|(refine zC (d:=some 22) rfl (fW (M:=N) (cs:=aK u iv2 ov2) (t:=u) _ (R.ext hu0 (by exact fx)) hs2) ?_;rintro _ w5 ⟨rfl,x5⟩;rw [e2])|refine rH (d:=some 27) (a:=rate) (b:=1000) rfl rfl ?_|(refine aUf (d:=some 28) (a:=max rate 1000) (b:=100000000) rfl rfl ?_;rw [hR])|refine aJ (d:=some 31) (.int .i64 ((aR t+aR u:Nat):Int)) rfl (congrArg (fun n=>some (Value.int .i64 n)) (IntWalk.i64_in _ (by omega))) ?_|(refine zC (d:=some 32) rfl (aDt q (aR t+aR u) hR2 hz _) ?_;rintro _ w6 ⟨rfl,x6⟩)|refine go1 ?_|refine zg λ_ _=>?_|refine zi λ_ _=>?_)
 exact aC rfl ⟨rfl,by exact fx⟩
theorem aN5 {g:Nat} {M N:List Nat} {l:List Ent} {cs:List Value} {t:Tx} {v:Value} {f:Pt→Option Cn} (h rate:Int) (w:World) (hG:GrR w g M l) (hM:∀b∈M,b<w.heap.size) (hV:lE w v f) (ht:txR.rel N w cs t) (hs:t.Sm) (hl:l.length≤1000):
  K.Spec Tryz.prog F.pack_alone [.pointer (some ⟨g,0,none⟩),.agg cs.toArray,aMf v h rate] w fun r w'=>∃e,r=.tuple #[.int .i64 (bB f l t h).1,e]∧eJ w' 1 e (bB f l t h).2.1 (bB f l t h).2.2∧Ext w w':=by
 have ht0:=ht
 have hins:=hs.ins
 obtain ⟨iv,ov,rfl,hi,ho,hv⟩:=ht
 obtain ⟨vt,vu,rfl⟩:∃vt vu,v=.iface vt vu:=by obtain ⟨⟨a,b,e,_⟩,_⟩:=hV;exact ⟨a,b,e⟩
 refine aTs rfl ?_
 unfold aIl
 refine oy ?_
 repeat (first|refine zD (d:=some 4) rfl rfl (fun bt wt xt bt' (rt:Row wt ⟨bt,0,none⟩ (aK t iv ov)) hbt0=>?_)|refine zD (d:=some 5) (cs:= [.iface vt vu,.int .i64 h,.int .i64 rate]) rfl rfl (fun bs ws xs bs' (rs:Row ws ⟨bs,0,none⟩ [.iface vt vu,.int .i64 h,.int .i64 rate]) hbs0=>?_)|(refine zC (d:=some 15) rfl (aG2 (M:=M) (N:=N) (l:=l) (f:=f) (cs:=aK t iv ov) (t:=t) h rate _ (hG.ext (by exact fx)) (fun b hb=>nLt (hM b hb) (Ext.size (by exact fx))) (hV.ext (by exact fx)) (R.ext ht0 (by exact fx)) hs) ?_;rintro _ w3 ⟨e,rfl,he,x3⟩;obtain ⟨hn1,hn2⟩:=he.nil_iff)|refine go1 ?_|refine zg λ_ _=>?_|refine zi λ_ _=>?_)
 by_cases h0:(aY f l t h).2.1=0
 ·obtain ⟨rfl, -⟩:=hn1 h0
  repeat' (first|(refine zC (d:=some 23) rfl (gH (M:=M) (N:=N) (l:=l) (cs:=aK t iv ov) (t:=t) _ (hG.ext (by exact fx)) (fun b hb=>nLt (hM b hb) (Ext.size (by exact fx))) (R.ext ht0 (by exact fx)) hins hl) ?_;rintro u4 w4 ⟨o4,x4⟩)|refine bY (d:=some 24) (E:=bO) (l:=aM l (bC l t)) rfl o4.sl ?_|refine go1 ?_|refine zg λ_ _=>?_|refine zi λ_ _=>?_)
  refine zL (x:=.tmp 25) (p:=((aM l (bC l t)).length:Int)>0) rfl (fun h1=>?_) (fun h1=>?_)
  ·repeat (first|refine go1 ?_|refine zg λ_ _=>?_|refine zi λ_ _=>?_)
   have e:=aCj h0 (by omega)
   exact aC rfl ⟨_,by rw [e];rfl,by rw [e];exact eJ.num _ _ (by decide),by exact fx⟩
  ·repeat' (first|(refine zC (d:=some 29) rfl (aSp (M:=M) (N:=N) (l:=l) (cs:=aK t iv ov) (t:=t) _ (hG.ext (by exact fx)) (fun b hb=>nLt (hM b hb) (Ext.size (by exact fx))) (R.ext ht0 (by exact fx)) hs hl) ?_;rintro _ w5 ⟨rfl,x5⟩)|refine go1 ?_|refine zg λ_ _=>?_|refine zi λ_ _=>?_)
   refine zN (p:=dF l t=0) rfl (fun h2=>?_) (fun h2=>?_)
   ·repeat (first|refine go1 ?_|refine zg λ_ _=>?_|refine zi λ_ _=>?_)
    have e:=aBr h0 (by omega) h2
    exact aC rfl ⟨_,by rw [e];rfl,by rw [e];exact eJ.num _ _ h2,by exact fx⟩
   ·repeat (first|refine go1 ?_|refine zg λ_ _=>?_|refine zi λ_ _=>?_)
    have e:=aK7 h0 (by omega) h2
    exact aC rfl ⟨_,by rw [e];rfl,by rw [e];exact eJ.none_ _ _,by exact fx⟩
 ·obtain ⟨et,eu,rfl⟩:=hn2 h0
  repeat (first|refine go1 ?_|refine zg λ_ _=>?_|refine zi λ_ _=>?_)
  have e:=aA0 h0
  exact aC rfl ⟨_,by rw [e];rfl,by rw [e];exact he.ext (by exact fx),by exact fx⟩
end
section
open Go Go.K
theorem aDb {a:Int} (h:bX a=true):lJ a:=by have:=(bG _).1 h;unfold lJ;omega
theorem aAe {f:Pt→Option Cn} {l:List Ent} {t:Tx} {h:Int} (h0:(bB f l t h).2.1=0):aG t=0∧bX (bB f l t h).1=true∧idS t=idT t:=by
 obtain ⟨h1, -, -,h4, -⟩:=rC h0
 obtain ⟨hc, -, -,hg⟩:=eI h1
 exact ⟨hc,by rw [h4];exact hg,by unfold idS;rw [if_pos hc]⟩
theorem nQ (f:Pt→Option Cn) (l:List Ent) (a:Tx) (h:Int):bZ f l a h=l++ [jY a (bB f l a h).1]:=rfl
attribute [local irreducible] aO aU bQ KOp.wp K.Spec u32 leS vnS str aV cU cD idT aR aG aX idN bD cF bT bH cA cO aZ bA aM iC dT pD lH bC evL inS inB iG fH dN fY gE gP eQ cH dF eY fL cB bS aY bU eO eD kD dA bM iH dI bB eM fB iA idS bZ
theorem aZt {B g:Nat} {M N U:List Nat} {l:List Ent} {cs:List Value} {t:Tx} {v:Value} {f:Pt→Option Cn} (h rate:Int) (w:World) (hG:GrU w B g M U l) (hU:∀b∈U,b<w.heap.size) (hUN:∀b∈U,b∈N) (hV:lE w v f) (ht:txR.rel N w cs t) (hs:t.Sm) (hN:∀b∈N,b<w.heap.size) (hMN:∀b∈M,b∈N) (hl:l.length≤1000) (hf:∀x∈l,x.fee≤1000000000000):
  K.Spec Tryz.prog F.pack_later [.pointer (some ⟨g,0,none⟩),.agg cs.toArray,aMf v h rate] w fun r w'=>∃u e M',r=.tuple #[u,e]∧Own bO T.string w.heap.size w' u (eD f l t h rate)∧eJ w' 2 e (eO f l t h rate).1 (if (eO f l t h rate).1≠0 then 1 else -1)∧GrU w' B g M' U (kD f l t h rate)∧Chg M w w'∧(∀b∈M',b∈M∨w.heap.size≤b)∧(∀b∈aP u,b∉M'):=by
 have ht0:=ht
 obtain ⟨iv,ov,rfl,hi,ho,hv⟩:=ht
 obtain ⟨vt,vu,rfl⟩:∃vt vu,v=.iface vt vu:=by obtain ⟨⟨a,b,e,_⟩,_⟩:=hV;exact ⟨a,b,e⟩
 refine aU1 rfl ?_
 unfold aIj
 refine oy ?_
 repeat' (first|refine zD (d:=some 4) rfl rfl (fun bt wt xt bt' (rt:Row wt ⟨bt,0,none⟩ (aK t iv ov)) hbt0=>?_)|refine zD (d:=some 5) (cs:= [.iface vt vu,.int .i64 h,.int .i64 rate]) rfl rfl (fun bs ws xs bs' (rs:Row ws ⟨bs,0,none⟩ [.iface vt vu,.int .i64 h,.int .i64 rate]) hbs0=>?_)|refine go1 ?_|refine zg λ_ _=>?_|refine zi λ_ _=>?_)
 have x0s:=xt.trans xs
 refine zC (d:=some 14) rfl (aKl (M:=M) (U:=U) (N:=N) (l:=l) (f:=f) (cs:=aK t iv ov) (t:=t) h rate _ (hG.ext x0s) (fun b hb=>nLt (hU b hb) x0s.size) hUN (hV.ext x0s) (R.ext ht0 x0s) hs (fun b hb=>nLt (hN b hb) x0s.size) hMN hl hf) ?_
 rintro _ w3 ⟨u,e,M',rfl,hu,he,G3,c3,hM3,hd3⟩
 have hu:=hu.lower x0s.size
 have c03:=Ext.chg x0s c3
 have hM3':∀b∈M',b∈M∨w.heap.size≤b:=fun b hb=>(hM3 b hb).imp id (nTr x0s.size)
 obtain ⟨hn1,hn2⟩:=he.nil_iff
 by_cases h0:(eO f l t h rate).1=0
 ·obtain ⟨rfl, -⟩:=hn1 h0
  repeat (first|refine go1 ?_|refine zg λ_ _=>?_|refine zi λ_ _=>?_)
  refine aC rfl ⟨u,.nilIface,M',rfl,hu,?_,G3,c03,hM3',hd3⟩
  rw [h0];exact eJ.none_ w3 2
 ·obtain ⟨et,eu,rfl⟩:=hn2 h0
  obtain ⟨e1,e2⟩:=nO h0
  repeat' (first|(refine zC (d:=some 20) rfl (zV 1 _ he h0 (by decide)) ?_;rintro e4 w4 ⟨he4,x4⟩)|refine go1 ?_|refine zg λ_ _=>?_|refine zi λ_ _=>?_)
  refine aC rfl ⟨.slice none 0 0,e4,M',rfl,?_,?_,G3.ext x4,c03.ext x4,hM3',fun b hb=>by simp [aP] at hb⟩
  ·rw [e1];exact Own.nil _ _ _
  ·rw [if_pos h0];exact he4
set_option maxHeartbeats 4000000 in
theorem aJ2 {B g:Nat} {M N U:List Nat} {l:List Ent} {cs ds:List Value} {a b:Tx} {v:Value} {f:Pt→Option Cn} (h rate:Int) (w:World) (hG:GrU w B g M U l) (hU:∀b∈U,b<w.heap.size) (hUN:∀b∈U,b∈N) (hV:lE w v f) (ha:txR.rel N w cs a) (hsa:a.Sm) (hb:txR.rel N w ds b) (hsb:b.Sm) (hN:∀b∈N,b<w.heap.size) (hMN:∀b∈M,b∈N) (hl:l.length≤998) (hf:∀x∈l,x.fee≤1000000000000) (hz:aG a=0→aG b=0→aR a+aR b≤1000000):
  K.Spec Tryz.prog F.pack_Pair [.pointer (some ⟨g,0,none⟩),.agg cs.toArray,.agg ds.toArray,aMf v h rate] w fun r w'=>∃u e M',r=.tuple #[u,e]∧Own bO T.string w.heap.size w' u (fB f l a b h rate)∧eJ w' 2 e (eM f l a b h rate).1 (eM f l a b h rate).2∧GrU w' B g M' U (iA f l a b h rate)∧Chg M w w'∧(∀b∈M',b∈M∨w.heap.size≤b)∧(∀b∈aP u,b∉M'):=by
 have ha0:=ha
 have hb0:=hb
 have hM:∀b∈M,b<w.heap.size:=fun b hb=>hN b (hMN b hb)
 obtain ⟨iv,ov,rfl,hi,ho,hv⟩:=ha
 obtain ⟨iv2,ov2,rfl,hi2,ho2,hv2⟩:=hb
 obtain ⟨vt,vu,rfl⟩:∃vt vu,v=.iface vt vu:=by obtain ⟨⟨a,b,e,_⟩,_⟩:=hV;exact ⟨a,b,e⟩
 have fail:∀{w':World} {e:Value} {c i:Int},Ext w w'→¬dO l (idS a)=true→eM f l a b h rate=(c,i)→c≠0→eJ w' 2 e c i→∃u e' M',Value.tuple #[.slice none 0 0,e]=.tuple #[u,e']∧Own bO T.string w.heap.size w' u (fB f l a b h rate)∧eJ w' 2 e' (eM f l a b h rate).1 (eM f l a b h rate).2∧GrU w' B g M' U (iA f l a b h rate)∧Chg M w w'∧(∀b∈M',b∈M∨w.heap.size≤b)∧(∀b∈aP u,b∉M'):=fun x hn e1 hc he=>by
  obtain ⟨e2,e3⟩:=aWs hn e1 hc
  exact ⟨.slice none 0 0,_,M,rfl,by rw [e2];exact Own.nil _ _ _,by rw [e1];exact he,by rw [e3];exact hG.ext x,x.mono (by simp),fun b hb=>.inl hb,fun b hb=>by simp [aP] at hb⟩
 refine aMb rfl ?_
 unfold aB5
 refine oy ?_
 repeat' (first|refine zD (d:=some 5) rfl rfl (fun bt wt xt bt' (rt:Row wt ⟨bt,0,none⟩ (aK a iv ov)) hbt0=>?_)|refine zD (d:=some 6) rfl rfl (fun bu wu xu bu' (ru:Row wu ⟨bu,0,none⟩ (aK b iv2 ov2)) hbu0=>?_)|refine zD (d:=some 7) (cs:= [.iface vt vu,.int .i64 h,.int .i64 rate]) rfl rfl (fun bs ws xs bs' (rs:Row ws ⟨bs,0,none⟩ [.iface vt vu,.int .i64 h,.int .i64 rate]) hbs0=>?_)|(refine zC (d:=some 28) rfl (aDn (M:=N) (cs:=aK a iv ov) (t:=a) _ (R.ext ha0 (by exact fx)) hsa) ?_;rintro _ w3 ⟨rfl,x3⟩;rw [bGw])|(refine zC (d:=some 34) rfl (nR (M:=M) (l:=l) (idS a) _ (hG.gr.ext (by exact fx)).r (fun b hb=>nLt (hM b hb) (Ext.size (by exact fx)))) ?_;rintro _ w4 ⟨es,rfl,ho4,x4⟩;obtain ⟨iv8,ov8,rfl,p81,p82, -⟩:=ho4;have e81:=p81.one;have e82:=p82.one)|refine zE (d':=12) (fun _=>rfl) rfl rfl (by show List.all (bN _ _ _) _=true;simp [bN,e81,e82];exact ⟨rfl,rfl,rfl,rfl,rfl⟩) (fun b5 w5 x5 a5 r5 hb5=>?_)|refine go1 ?_|refine zg λ_ _=>?_|refine zi λ_ _=>?_)
 have rt5:Row w5 ⟨bt,0,none⟩ (aK a iv ov):=Row.ext (show Ext wt w5 by exact fx) rt
 have ru5:Row w5 ⟨bu,0,none⟩ (aK b iv2 ov2):=Row.ext (show Ext wu w5 by exact fx) ru
 have rs5:Row w5 ⟨bs,0,none⟩ [.iface vt vu,.int .i64 h,.int .i64 rate]:=Row.ext (show Ext ws w5 by exact fx) rs
 have x05:Ext w w5:=by exact fx
 have G5:=hG.ext x05
 have V5:=hV.ext x05
 have a5:=R.ext ha0 x05
 have b5':=R.ext hb0 x05
 have s05:=x05.size
 have hU5:∀b∈U,b<w5.heap.size:=fun b hb=>nLt (hU b hb) s05
 have hN5:∀b∈N,b<w5.heap.size:=fun b hb=>nLt (hN b hb) s05
 have hM5:∀b∈M,b<w5.heap.size:=fun b hb=>nLt (hM b hb) s05
 have x05':Unit→Ext w w5:=fun _=>x05
 have hbuw:w.heap.size≤bu:=nTr xt.size hbu0
 clear xt xu xs x3 x4 x5 bt' bu' rt ru rs r5 p81 p82 x05
 refine zM (x:=.tmp 37) rfl (fun h1=>?_) (fun h1=>?_)
 ·repeat (first|refine go1 ?_|refine zg λ_ _=>?_|refine zi λ_ _=>?_)
  refine zC (d:=some 41) rfl (aZt (M:=M) (U:=U) (N:=N) (l:=l) (f:=f) (cs:=aK b iv2 ov2) (t:=b) h rate _ G5 hU5 hUN V5 b5' hsb hN5 hMN (by omega) hf) ?_
  rintro _ w6 ⟨u,e,M',rfl,hu,he,G6,c6,hM6,hd6⟩
  repeat (first|refine go1 ?_|refine zg λ_ _=>?_|refine zi λ_ _=>?_)
  obtain ⟨e1,e2,e3⟩:=@zX f l a b h rate h1
  refine aC rfl ⟨u,e,M',rfl,by rw [e2];exact hu.lower s05,?_,by rw [e3];exact G6,Ext.chg (x05' ()) c6,fun b hb=>(hM6 b hb).imp id (nTr s05),hd6⟩
  rw [e1]
  by_cases h0:(eO f l b h rate).1≠0
  ·rw [if_pos h0] at he ⊢;exact he
  ·rw [if_neg h0] at he ⊢
   have h0:(eO f l b h rate).1=0:=Decidable.not_not.1 h0
   rw [h0] at he;exact he
 ·have hn:¬dO l (idS a)=true:=by rw [h1];decide
  repeat (first|refine go1 ?_|refine zg λ_ _=>?_|refine zi λ_ _=>?_)
  refine zC (d:=some 48) rfl (aN5 (M:=M) (N:=N) (l:=l) (f:=f) (cs:=aK a iv ov) (t:=a) h rate _ G5.gr.r hM5 V5 a5 hsa (by omega)) ?_
  rintro _ w6 ⟨e,rfl,he,x6⟩
  obtain ⟨hn1,hn2⟩:=he.nil_iff
  by_cases h2:(bB f l a h).2.1=0
  ·obtain ⟨rfl, -⟩:=hn1 h2
   obtain ⟨hca,hga,hia⟩:=aAe h2
   have hadd:=aDz h2
   obtain ⟨fa,hfa⟩:∃fa,(bB f l a h).1=fa:=⟨_,rfl⟩
   have hgf:=(bG _).1 hga
   repeat' (first|(refine zC (d:=some 56) rfl (aP4 (M:=M) (l:=l) _ (G5.gr.ext x6).r (fun b hb=>nLt (hM5 b hb) x6.size) (by omega)) ?_;rintro _ w7 ⟨gw,Mw,rfl,Gw,x7⟩)|refine go1 ?_|refine zg λ_ _=>?_|refine zi λ_ _=>?_)
   have hBw:=Gw.base
   have hLw:=Gw.lt
   have x57:=x6.trans x7
   have aN:txR.rel (N++Mw) w7 (aK a iv ov) a:=R.step txR a5 x57 (by simp) (fun b hb=>(List.mem_append.1 hb).elim .inl (fun h=>.inr (nTr x6.size (hBw b h))))
   refine zC (d:=some 60) rfl (bFw (N:=N++Mw) (cs:=aK a iv ov) (bB f l a h).1 _ Gw aN hsa (aDb hga) (fun b hb=>(List.mem_append.1 hb).elim (fun h=>nLt (hN5 b h) x57.size) (hLw b)) (fun b hb=>List.mem_append_right _ hb) (by omega)) ?_
   rintro _ w8 ⟨Mw1,rfl,Gw1,cw,hMw1⟩
   rw [hadd] at Gw1
   replace Gw1:Gr w8 w6.heap.size gw Mw1 (bZ f l a h):=by rw [nQ];exact Gw1
   have x58:Ext w5 w8:=(Ext.chg x57 cw).mono (fun b hb=>.inr (nTr x6.size (hBw b hb)))
   have hlw:(bZ f l a h).length≤999:=by rw [nQ,List.length_append];simp;omega
   have hLw1:=Gw1.lt
   have rt8:=Row.ext x58 rt5
   have ru8:=Row.ext x58 ru5
   have rs8:=Row.ext x58 rs5
   have G8:=G5.ext x58
   have V8:=V5.ext x58
   have a8:=R.ext a5 x58
   have b8:=R.ext b5' x58
   have s58:=x58.size
   have x08':Unit→Ext w w8:=fun _=>(x05' ()).trans x58
   clear x6 x7 x57 cw aN Gw he hn1 hn2 x58 rt5 ru5 rs5 G5 V5
   repeat' (first|(refine zC (d:=some 64) rfl (aT4 (M:=Mw1) (N:=N) (l:=bZ f l a h) (cs:=aK b iv2 ov2) (t:=b) (idS a) _ (Gw1.ext (by exact fx)).r (fun b hb=>nLt (hLw1 b hb) (Ext.size (by exact fx))) (R.ext b8 (by exact fx)) hsb.ins (by omega)) ?_;rintro _ w9 ⟨rfl,x9⟩)|refine go1 ?_|refine zg λ_ _=>?_|refine zi λ_ _=>?_)
   have x89:Ext w8 w9:=by exact fx
   have G9:=G8.ext x89
   have V9:=V8.ext x89
   have rt9:=Row.ext x89 rt8
   have ru9:=Row.ext x89 ru8
   have rs9:=Row.ext x89 rs8
   have a9:=R.ext a8 x89
   have b9:=R.ext b8 x89
   have Gw9:=Gw1.ext x89
   have s89:=x89.size
   have x09':Unit→Ext w w9:=fun _=>(x08' ()).trans x89
   clear x89 G8 V8 rt8 ru8 rs8 a8 b8 x9 Gw1 x08'
   refine zN (p:=aM (bZ f l a h) (aZ (bZ f l a h) b)= [idS a]) rfl (fun h3=>?_) (fun h3=>?_)
   rotate_left
   ·repeat (first|refine go1 ?_|refine zg λ_ _=>?_|refine zi λ_ _=>?_)
    refine zC (d:=some 72) rfl (aN5 (M:=Mw1) (N:=N) (l:=bZ f l a h) (f:=f) (cs:=aK b iv2 ov2) (t:=b) h rate _ Gw9.r (fun b hb=>nLt (hLw1 b hb) s89) V9 b9 hsb (by omega)) ?_
    rintro _ w10 ⟨e,rfl,he,x10⟩
    obtain ⟨hn1,hn2⟩:=he.nil_iff
    by_cases h4:(bB f (bZ f l a h) b h).2.1=0
    ·obtain ⟨rfl, -⟩:=hn1 h4
     obtain ⟨hcb,hgb, -⟩:=aAe h4
     have haddb:=aDz h4
     have hgfb:=(bG _).1 hgb
     obtain ⟨fa,hfa⟩:∃fa,(bB f l a h).1=fa:=⟨_,rfl⟩
     obtain ⟨fb,hfb⟩:∃fb,(bB f (bZ f l a h) b h).1=fb:=⟨_,rfl⟩
     repeat' (first|refine aJ (d:=some 81) (.int .i64 ((bB f l a h).1+(bB f (bZ f l a h) b h).1)) rfl (congrArg (fun n=>some (Value.int .i64 n)) (IntWalk.i64_in _ (by omega))) ?_|(refine zC (d:=some 86) rfl (aVt (M:=N) (N:=N) (cs:=aK a iv ov) (ds:=aK b iv2 ov2) (t:=a) (u:=b) _ rate _ (R.ext a9 (by exact fx)) (R.ext b9 (by exact fx)) hsa hsb hca hcb (hz hca hcb)) ?_;rintro _ w11 ⟨rfl,x11⟩)|refine go1 ?_|refine zg λ_ _=>?_|refine zi λ_ _=>?_)
     have s9b:=Ext.size (show Ext w9 w11 by exact fx)
     have G11:=G9.ext (show Ext w9 w11 by exact fx)
     have rt11:=Row.ext (show Ext w9 w11 by exact fx) rt9
     have ru11:=Row.ext (show Ext w9 w11 by exact fx) ru9
     have a11:=R.ext a9 (show Ext w9 w11 by exact fx)
     have b11:=R.ext b9 (show Ext w9 w11 by exact fx)
     have x011:=(x09' ()).trans (show Ext w9 w11 by exact fx)
     refine zN (p:=(bB f l a h).1+(bB f (bZ f l a h) b h).1≥dA rate (aR a+aR b)) rfl (fun h5=>?_) (fun h5=>?_)
     ·have h5:(bB f l a h).1+(bB f (bZ f l a h) b h).1<dA rate (aR a+aR b):=Int.not_le.1 h5
      repeat (first|refine go1 ?_|refine zg λ_ _=>?_|refine zi λ_ _=>?_)
      exact aC rfl (fail x011 hn (aYd hn h2 h3 h4 h5) (by decide) (eJ.num _ 2 (show (11:Int)≠0 by decide)))
     ·have h5:¬(bB f l a h).1+(bB f (bZ f l a h) b h).1<dA rate (aR a+aR b):=fun q=>absurd h5 (Int.not_le.2 q)
      obtain ⟨e1,e2,e3⟩:=aT5 hn h2 h3 h4 h5
      repeat (first|refine go1 ?_|refine zg λ_ _=>?_|refine zi λ_ _=>?_)
      refine zC (d:=some 92) rfl (aTl (N:=N) (cs:=aK a iv ov) (bB f l a h).1 _ G11 hUN a11 hsa (aDb hga) (fun b hb=>nLt (hN b hb) x011.size) hMN (by omega)) ?_
      rintro _ w12 ⟨M1,rfl,G12,c12,hM1⟩
      rw [hadd] at G12
      replace G12:GrU w12 B g M1 U (bZ f l a h):=by rw [nQ];exact G12
      have b12:txR.rel (N++M1) w12 (aK b iv2 ov2) b:=R.step txR b11 c12 (fun b hb=>.inl (hMN b hb)) (fun b hb=>(List.mem_append.1 hb).elim .inl (fun q=>(hM1 b q).imp (hMN b) id))
      have ru12:Row w12 ⟨bu,0,none⟩ (aK b iv2 ov2):=Row.chg c12 ru11 (fun q=>by have:=hM bu q;omega)
      have hL12:=G12.gr.lt
      repeat (first|refine go1 ?_|refine zg λ_ _=>?_|refine zi λ_ _=>?_)
      refine zC (d:=some 96) rfl (aTl (M:=M1) (N:=N++M1) (cs:=aK b iv2 ov2) (bB f (bZ f l a h) b h).1 _ G12 (fun b hb=>List.mem_append_left _ (hUN b hb)) b12 hsb (aDb hgb) (fun b hb=>(List.mem_append.1 hb).elim (fun q=>nLt (hN b q) (nTr x011.size c12.size)) (hL12 b)) (fun b hb=>List.mem_append_right _ hb) (by omega)) ?_
      rintro _ w13 ⟨M2,rfl,G13,c13,hM2⟩
      rw [haddb] at G13
      repeat (first|refine go1 ?_|refine zg λ_ _=>?_|refine zi λ_ _=>?_)
      refine aC rfl ⟨.slice none 0 0,.nilIface,M2,rfl,by rw [e2];exact Own.nil _ _ _,by rw [e1];exact eJ.none_ w13 2,by rw [e3];exact G13,Ext.chg x011 ((Chg.trans c12 c13).mono (fun b hb=>(List.mem_append.1 hb).elim .inl (hM1 b))),fun b hb=>?_,fun b hb=>by simp [aP] at hb⟩
      have s1:=x011.size
      have s2:=c12.size
      rcases hM2 b hb with q|q
      ·rcases hM1 b q with q|q
       ·exact .inl q
       ·right;omega
      ·right;omega
    ·obtain ⟨et,eu,rfl⟩:=hn2 h4
     repeat' (first|(refine zC (d:=some 78) rfl (zV 1 _ he h4 (by decide)) ?_;rintro e7 w11 ⟨he7,x11⟩)|refine go1 ?_|refine zg λ_ _=>?_|refine zi λ_ _=>?_)
     exact aC rfl (fail ((x09' ()).trans (x10.trans x11)) hn (aCy hn h2 h3 h4) h4 he7)
   ·repeat' (first|(refine zC (d:=some 67) rfl (zV 1 _ (eJ.num _ 1 (show (4:Int)≠0 by decide)) (show (4:Int)≠0 by decide) (by decide)) ?_;rintro e7 w10 ⟨he7,x10⟩)|refine go1 ?_|refine zg λ_ _=>?_|refine zi λ_ _=>?_)
    exact aC rfl (fail ((x09' ()).trans x10) hn (aJ1 hn h2 h3) (by decide) he7)
  ·obtain ⟨et,eu,rfl⟩:=hn2 h2
   repeat' (first|(refine zC (d:=some 54) rfl (zV 0 _ he h2 (by decide)) ?_;rintro e7 w7 ⟨he7,x7⟩)|refine go1 ?_|refine zg λ_ _=>?_|refine zi λ_ _=>?_)
   exact aC rfl (fail ((x05' ()).trans (x6.trans x7)) hn (aGp hn h2) h2 he7)
end
end Go.Proofs.YtfebcajheojodaaGreatDoor
namespace Go.K
section
open Go Go.Proofs.YtfebcajheojodaaGreatDoor
abbrev zW2:PSm:=⟨[0],1,400,0,0,false,0⟩
def aW:Tx:=bM dI zW0
def bW:Tx:=bM (tD dI aW) zW2
theorem bPk:bM dI zW0=aW:=rfl
theorem bOz:bM (tD dI aW) zW2=bW:=rfl
theorem bJg:aW.Sm:=xL _ _
theorem bMo:bW.Sm:=xL _ _
theorem bP5:eO (aS dI) [] aW 5 0=(11, -1):=wk0
theorem bPs:eD (aS dI) [] aW 5 0= []∧kD (aS dI) [] aW 5 0= []:=bPz
theorem bIg:aW.ins.length≤4∧bW.ins.length≤4:=⟨sJ _ _,sJ _ _⟩
theorem wp1:dO [] (idS aW)=false:=rfl
theorem wp2:(bB (aS dI) [] aW 5)=(0,0, -1):=by kernel_rfl
theorem wp3:aM (bZ (aS dI) [] aW 5) (aZ (bZ (aS dI) [] aW 5) bW)= [idS aW]:=by kernel_rfl
theorem wp4:(bB (aS dI) (bZ (aS dI) [] aW 5) bW 5)=(400,0, -1):=by kernel_rfl
theorem wp5:decide (dA 0 (aR aW+aR bW)≤400)=true:=by kernel_rfl
theorem wpc:aG aW=0∧aG bW=0:=⟨by kernel_rfl,by kernel_rfl⟩
theorem bHn:eM (aS dI) [] aW bW 5 0=(0, -1)∧fB (aS dI) [] aW bW 5 0= []∧iA (aS dI) [] aW bW 5 0= [jY aW 0,jY bW 400]:=by
 have h:=aT5 (f:=aS dI) (l:= []) (a:=aW) (b:=bW) (h:=5) (rate:=0) (by rw [wp1];decide) (by rw [wp2]) wp3 (by rw [wp4]) (by
  rw [wp2,wp4]
  have:=of_decide_eq_true wp5
  show ¬(0+400:Int)<_
  omega)
 refine ⟨h.1,h.2.1,?_⟩
 rw [h.2.2,wp4]
 unfold bZ
 rw [wp2];rfl
theorem wpz:aR aW+aR bW≤1000000:=by
 have h1:=xQ (bI bJg wpc.1) bIg.1
 have h2:=xQ (bI bMo wpc.2) bIg.2
 omega
end
end Go.K
namespace Go.Proofs.YtfebcajheojodaaGreatDoor
section
open Go Go.K
attribute [local irreducible] aO aU bQ KOp.wp K.Spec u32 leS vnS str aV cU cD idT aR aG aX idN bD cF bT bH cA cO aZ bA aM iC dT pD lH bC evL inS inB iG fH dN fY gE gP eQ cH dF eY fL cB bS aY bU eO eD kD dA bM iH dI bB eM fB iA idS bZ tD aBi aW bW
theorem bIh {cs ds:List Value} {iv ov iv2 ov2:Value} {a b:Tx} (v:Value) (h rate:Int) (he:cs=aK a iv ov) (he2:ds=aK b iv2 ov2) (h1:iv.oneCell'=true) (h2:ov.oneCell'=true) (h3:iv2.oneCell'=true) (h4:ov2.oneCell'=true) (hv:v.oneCell'=true) (w:World):K.Spec Tryz.prog F.pack_Pair [.pointer none,.agg cs.toArray,.agg ds.toArray,aMf v h rate] w fun r w'=>r=.tuple #[.slice none 0 0,aFi 1]∧Ext w w':=by
 subst he
 subst he2
 refine aMb rfl ?_
 unfold aB5
 refine oy ?_
 repeat' (first|refine zD (d:=some 5) rfl rfl (fun bt wt xt bt' (rt:Row wt ⟨bt,0,none⟩ (aK a iv ov)) hbt0=>?_)|refine zD (d:=some 6) rfl rfl (fun bu wu xu bu' (ru:Row wu ⟨bu,0,none⟩ (aK b iv2 ov2)) hbu0=>?_)|refine zD (d:=some 7) (cs:= [v,.int .i64 h,.int .i64 rate]) rfl rfl (fun bs ws xs bs' (rs:Row ws ⟨bs,0,none⟩ [v,.int .i64 h,.int .i64 rate]) hbs0=>?_)|refine go1 ?_|refine zg λ_ _=>?_|refine zi λ_ _=>?_)
 exact aC rfl ⟨rfl,by exact fx⟩
set_option maxHeartbeats 4000000 in
theorem aHj (w:World):K.Spec Tryz.prog F.kedgelaw18_wakes [] w fun r w'=>r=.bool true∧Ext w w':=by
 refine aF2 rfl ?_
 unfold tJ
 refine oy ?_
 repeat' (first|refine zI (d:=some 13) (cs:= [.int .u16 500]) rfl (fun bz wz xz az hbz=>?_)|refine go1 ?_|refine zg λ_ _=>?_|refine zi λ_ _=>?_)
 refine zC rfl (aA1 (vals:= [500]) _ (bC4 (E:=aVn) (M:= []) (l:= [500]) [⟨[.int .u16 500],rfl,by intro v hv;simp at hv;subst hv;rfl⟩] az rfl (.cons ⟨rfl,by decide,by decide⟩ .nil) (by simp) rfl) (by intro a ha;simp at ha;subst ha;decide)) ?_
 rintro vV w2 ⟨hv2,hb2,x2⟩
 rw [bDt] at hv2
 have x02:Unit→Ext w w2:=fun _=>xz.trans x2
 clear xz x2 az
 repeat' (first|(refine zC (d:=some 16) rfl (aFq _ hv2 sF (by decide)) ?_;rintro _ w3 ⟨b,mb,rfl,hS3,hb3,hmb3,x3⟩)|refine zE (d':=2) (fun _=>rfl) rfl rfl rfl (fun bs w4 x4 a4 (r4:Row w4 ⟨bs,0,none⟩ [.iface T.P_coins_Set (.pointer (some ⟨b,0,none⟩)),.int .i64 5,.int .i64 0]) hbs4=>?_)|refine zI (d:=some 21) (cs:= [.int .u8 0]) rfl (fun bz wz xz az hbz=>?_)|refine bL (d:=some 22) (cs:=jC zW0 (.slice (some ⟨bz,0,none⟩) 1 1)) rfl ?_|refine zI (d:=some 23) (cs:= [.int .u8 0]) rfl (fun by2 wy xy ay hby=>?_)|refine bL (d:=some 24) (cs:=jC zW2 (.slice (some ⟨by2,0,none⟩) 1 1)) rfl ?_|(refine zC (d:=some 25) rfl (aQe (N:= []) (V:=dI) (a:=zW0) (b:=zW2) (B:=5242800) _ (SlE.ext (w:=w2) (by exact fx) hv2) ⟨_,rfl,SlE.toR (F:=u8E) (SlE.new (E:=u8E) (l:= [0]) (At.ext xy az) rfl (Nat.le_refl _)) (by simp),by decide,by decide⟩ ⟨_,rfl,SlE.toR (F:=u8E) (SlE.new (E:=u8E) (l:= [0]) ay rfl (Nat.le_refl _)) (by simp),by decide,by decide⟩ (by have:=sF.len;omega) (fun e he=>⟨(sF.each e he).2.2.1,by have:=(sF.each e he).2.2.2.1;omega⟩) (by decide) (fun e he=>by rw [(sF.each e he).2.1];exact aN1) (by simp)) ?_;rintro _ w5 ⟨ts,us,rfl,t5,u5,x5⟩)|refine go1 ?_|refine zg λ_ _=>?_|refine zi λ_ _=>?_)
 rw [bPk] at t5 u5
 rw [bOz] at u5
 obtain ⟨iv,ov,rfl,p1,p2,p3⟩:=id t5
 obtain ⟨iv2,ov2,rfl,q1,q2,q3⟩:=id u5
 have e1:=p1.one
 have e2:=p2.one
 have e3:=q1.one
 have e4:=q2.one
 have s35:=x3.size
 have l4:=a4.lt
 have l5:bs<w5.heap.size:=nLt l4 (Ext.size (show Ext w4 w5 by exact fx))
 have r5:Row w5 ⟨bs,0,none⟩ [.iface T.P_coins_Set (.pointer (some ⟨b,0,none⟩)),.int .i64 5,.int .i64 0]:=Row.ext (show Ext w4 w5 by exact fx) r4
 have S5:=hS3.ext (show Ext w3 w5 by exact fx)
 have x25:Ext w2 w5:=by exact fx
 have x05:Unit→Ext w w5:=fun _=>(x02 ()).trans x25
 clear x25 x5 xy xz x4 x3 a4 r4 az ay hS3 x02
 repeat' (first|refine zH (d:=some 3) (fun b3 w6 x6 a6 hb6=>?_)|refine zH (d:=some 4) (fun b4 w7 x7 a7 hb7=>?_)|refine bP (w0:=w5) (b:=b3) (n:=4) (vs:=aK aW iv ov) (x6.trans x7) hb6 (At.ext x7 a6) rfl rfl rfl rfl (by simp [aK,e1,e2];exact ⟨rfl,rfl⟩) (fun w8 x8 c8 a8 r8=>?_)|refine bP (w0:=w5) (b:=b4) (n:=4) (vs:=aK bW iv2 ov2) x8 (by have:=x6.size;omega) (At.chg c8 a7 (by have:=a6.lt;simp;omega)) rfl rfl rfl rfl (by simp [aK,e3,e4];exact ⟨rfl,rfl⟩) (fun w9 x9 c9 a9 r9=>?_)|refine go1 ?_|refine zg λ_ _=>?_|refine zi λ_ _=>?_)
 have l6:=a6.lt
 have r89:Row w9 ⟨b3,0,none⟩ (aK aW iv ov):=Row.chg c9 r8 (by simp;omega)
 have lb3:=a8.lt
 have lb3:b3<w9.heap.size:=nLt lb3 c9.size
 have lb4:=a9.lt
 have r59:=Row.ext x9 r5
 have l9:bs<w9.heap.size:=nLt l5 x9.size
 have S9:=S5.ext x9
 have t9:=R.ext t5 x9
 have u9:=R.ext u5 x9
 have x09:Unit→Ext w w9:=fun _=>(x05 ()).trans x9
 clear x6 x7 x8 x9 c8 c9 a6 a7 a8 a9 r8 r5 S5 t5 u5 x05
 refine zC rfl (aP3 _) ?_
 rintro _ w10 ⟨g,M,rfl,G10,x10⟩
 have hM10:=G10.lt
 have hB10:=G10.base
 have anchor:∀{w':World},Ext w9 w'→Row w' ⟨b3,0,none⟩ (aK aW iv ov)∧Row w' ⟨b4,0,none⟩ (aK bW iv2 ov2)∧Row w' ⟨bs,0,none⟩ [.iface T.P_coins_Set (.pointer (some ⟨b,0,none⟩)),.int .i64 5,.int .i64 0]∧lE w' (.iface T.P_coins_Set (.pointer (some ⟨b,0,none⟩))) (aS dI)∧(∀N:List Nat,(∀b∈N,w9.heap.size≤b)→txR.rel N w' (aK aW iv ov) aW∧txR.rel N w' (aK bW iv2 ov2) bW):=fun x=>
  ⟨Row.ext x r89,Row.ext x r9,Row.ext x r59,lE.of_set (S9.ext x) (fun e he=>by rw [(sF.each e he).2.2.2.2.1];decide),fun N hN=>⟨R.step txR t9 x (by simp) (fun b hb=>.inr (hN b hb)),R.step txR u9 x (by simp) (fun b hb=>.inr (hN b hb))⟩⟩
 obtain ⟨A1,A2,A3,A4,A5⟩:=anchor x10
 obtain ⟨A6,A7⟩:=A5 M hB10
 clear A5 r89 r9 r59
 repeat' (first|(refine zC (d:=some 33) rfl (aKl (M:=M) (U:= []) (N:=M) (l:= []) (f:=aS dI) (cs:=aK aW iv ov) (t:=aW) 5 0 _ ((GrU.of G10).ext (by exact fx)) (by simp) (by simp) (A4.ext (by exact fx)) (R.ext A6 (by exact fx)) bJg (fun b hb=>nLt (hM10 b hb) (Ext.size (by exact fx))) (fun _ h=>h) (by simp) (by simp)) ?_;rintro _ w11 ⟨u1,er1,M1,rfl,hu1,he1,G11,c11,hM11, -⟩)|refine go1 ?_|refine zg λ_ _=>?_|refine zi λ_ _=>?_)
 rw [bPs.2] at G11
 rw [bP5] at he1
 obtain rfl:=bJz he1 (by decide)
 have x911:Ext w9 w11:=(Ext.chg x10 c11).mono (fun b hb=>.inr (hB10 b hb))
 obtain ⟨B1,B2,B3,B4,B5⟩:=anchor x911
 have hB11:=G11.gr.base
 have hM11':=G11.gr.lt
 obtain ⟨B6,B7⟩:=B5 M1 hB11
 have x911':Unit→Ext w9 w11:=fun _=>x911
 clear B5 A1 A2 A3 A4 A6 A7 x911 c11 x10 he1 hu1 hM11 hM10 hB10 G10
 repeat' (first|(refine zC (d:=some 41) rfl (aJ2 (M:=M1) (U:= []) (N:=M1) (l:= []) (f:=aS dI) (cs:=aK aW iv ov) (ds:=aK bW iv2 ov2) (a:=aW) (b:=bW) 5 0 _ (G11.ext (by exact fx)) (by simp) (by simp) (B4.ext (by exact fx)) (R.ext B6 (by exact fx)) bJg (R.ext B7 (by exact fx)) bMo (fun b hb=>nLt (hM11' b hb) (Ext.size (by exact fx))) (fun _ h=>h) (by simp) (by simp) (fun _ _=>wpz)) ?_;rintro _ w12 ⟨u2,er2,M2,rfl,hu2,he2,G12,c12,hM12, -⟩)|refine go1 ?_|refine zg λ_ _=>?_|refine zi λ_ _=>?_)
 rw [bHn.2.2] at G12
 rw [bHn.2.1] at hu2
 rw [bHn.1] at he2
 obtain ⟨rfl, -⟩:=he2.nil_iff.1 rfl
 have x912:Ext w9 w12:=(Ext.chg (x911' ()) c12).mono (fun b hb=>.inr (hB11 b hb))
 obtain ⟨C1,C2,C3, -, -⟩:=anchor x912
 have hM12':=G12.gr.lt
 have hu12:=hu2.sl
 have x012:Unit→Ext w w12:=fun _=>(x09 ()).trans x912
 clear B1 B2 B3 B4 B6 B7 x912 c12 he2 hu2 hM12 hM11' hB11 G11 anchor
 repeat' (first|(refine zC (d:=some 48) rfl (bIh (a:=aW) (b:=bW) (.iface T.P_coins_Set (.pointer (some ⟨b,0,none⟩))) 5 0 rfl rfl e1 e2 e3 e4 rfl _) ?_;rintro _ w13 ⟨rfl,x13⟩)|(refine zC (d:=some 55) rfl (aOz 11 _) ?_;rintro _ w14 ⟨rfl,rfl⟩)|refine bY (d:=some 62) rfl (SlE.ext (w:=w12) (by exact fx) hu12) ?_|(refine zC (d:=some 52) rfl (aJd (M:=M2) (l:= [jY aW 0,jY bW 400]) _ (G12.ext (by exact fx)).gr.r (fun b hb=>nLt (hM12' b hb) (Ext.size (by exact fx))) (by simp)) ?_;rintro u14 w14 ⟨o14,x14⟩;have o14:=(o14.sub (M':= []) (by simp)).sl (by simp))|refine zG (d:=some 67) (E:=bF) (M:= []) (l:= [jY aW 0,jY bW 400]) rfl (o14.ext (by exact fx)) ?_|(refine aL (d:=some 72) (E:=bF) (M:= []) rfl rfl (n:=0) (l:= [jY aW 0,jY bW 400]) (o14.ext (by exact fx)) rfl (by simp) (fun ad cs r6 he=>?_);obtain ⟨iv6,ov6,rfl,g16,g26,g36⟩:=he)|(refine aL (d:=some 79) (E:=bF) (M:= []) rfl rfl (n:=1) (l:= [jY aW 0,jY bW 400]) (o14.ext (by exact fx)) rfl (by simp) (fun ad7 cs7 r7 he=>?_);obtain ⟨iv7,ov7,rfl,g17,g27,g37⟩:=he)|(refine zC (d:=some 87) rfl (aOz 1 _) ?_;rintro _ w16 ⟨rfl,rfl⟩)|refine go1 ?_|refine zg λ_ _=>?_|refine zi λ_ _=>?_)
 exact aC rfl ⟨rfl,(x012 ()).trans (by exact fx)⟩
end
section
open Go Go.K
attribute [local irreducible] aO aU bQ KOp.wp K.Spec u32 leS vnS str aV cU cD idT aR aG aX idN bD cF bT bH cA cO aZ bA inS aM
end
section
open Go Go.K
attribute [local irreducible] aO aU bQ KOp.wp K.Spec u32 leS vnS str aV cU cD idT aR aG aX idN bD cF bT bH cA cO aZ bA aM iC dT dN jW aCp dC bU
end
end Go.Proofs.YtfebcajheojodaaGreatDoor
namespace Go.K
section
open Go Go.Proofs.YtfebcajheojodaaGreatDoor
def fS (f:Nat→Bool) (n i:Nat) (cur:Bool):List Bool:=(List.range n).map fun j=>if j<i then f j else if j=i then cur else false
theorem aQo (f:Nat→Bool) (n i:Nat) (cur:Bool):(fS f n i cur).length=n:=by simp [fS]
theorem aWg (f:Nat→Bool) (n:Nat):fS f n 0 false=List.replicate n false:=by
 unfold fS
 apply List.ext_getElem
 ·simp
 ·intro j h1 h2
  simp
theorem bGk {f:Nat→Bool} {n i:Nat} {cur:Bool} (h:i<n):(fS f n i cur)[i]'(by rw [aQo];exact h)=cur:=by
 simp [fS]
theorem aZ1 {f:Nat→Bool} {n i:Nat} {cur x:Bool} (h:i<n):(fS f n i cur).set i x=fS f n i x:=by
 unfold fS
 apply List.ext_getElem
 ·simp
 ·intro j h1 h2
  rw [List.getElem_set]
  by_cases e:i=j
  ·subst e;simp
  ·rw [if_neg e]
   simp only [List.getElem_map,List.getElem_range]
   by_cases h3:j<i
   ·rw [if_pos h3,if_pos h3]
   ·rw [if_neg h3,if_neg h3,if_neg (fun h=>e h.symm),if_neg (fun h=>e h.symm)]
theorem aXj {f:Nat→Bool} {n i:Nat}:fS f n i (f i)=fS f n (i+1) false:=by
 unfold fS
 apply List.map_congr_left
 intro j _
 by_cases h1:j<i
 ·rw [if_pos h1,if_pos (by omega)]
 ·rw [if_neg h1]
  by_cases h2:j=i
  ·subst h2;rw [if_pos rfl,if_pos (by omega)]
  ·rw [if_neg h2,if_neg (by omega)];simp
theorem aZz {f:Nat→Bool} {n i:Nat} (h:n≤i) (cur:Bool):fS f n i cur=(List.range n).map f:=by
 unfold fS
 apply List.map_congr_left
 intro j hj
 rw [List.mem_range] at hj
 rw [if_pos (by omega)]
theorem aXr (l:List Ent) (t:Tx):(List.range l.length).map (fun j=>cE t (cP l j))=bC l t:=by
 unfold bC
 apply List.ext_getElem
 ·simp
 ·intro j h1 h2
  simp only [List.getElem_map,List.getElem_range]
  rw [bJ (by simpa using h1)]
theorem bGz {l:List Ent} (hn:(l.map (·.id)).Nodup) (x:Ent):gP l x=(aEx x.tx||(List.range l.length).any fun i=>((aZ l x.tx).getD i false)&&aEx (cP l i).tx):=by
 unfold gP
 congr 1
 rw [Bool.eq_iff_iff,List.any_eq_true,List.any_eq_true]
 constructor
 ·rintro ⟨s,hs,h⟩
  obtain ⟨i,hi,h1,rfl⟩:=jD.1 hs
  refine ⟨i,List.mem_range.2 hi,?_⟩
  rw [List.getD_eq_getElem?_getD,h1,bJ hi]
  rw [(get_mem hn (gMe hi)).2] at h
  simpa using h
 ·rintro ⟨i,hi,h⟩
  rw [List.mem_range] at hi
  rw [Bool.and_eq_true,bJ hi] at h
  refine ⟨l[i].id,jD.2 ⟨i,hi,?_,rfl⟩,?_⟩
  ·have h1:=h.1
   rw [List.getD_eq_getElem?_getD] at h1
   cases h2:(aZ l x.tx)[i]? with
   |none=>rw [h2] at h1;simp at h1
   |some b=>rw [h2] at h1;simp at h1;rw [h1]
  ·rw [(get_mem hn (gMe hi)).2];exact h.2
end
end Go.K
namespace Go.Proofs.YtfebcajheojodaaGreatDoor
section
open Go Go.K
attribute [local irreducible] aO aU bQ KOp.wp K.Spec u32 leS vnS str aV cU cD idT aR aG aX idN bD cF bT bH cA cO aZ bA aM iC dT bC evL fS evI
def jS (t:Tx) (ins:List TIn) (a b:Nat):Bool:=(ins.take a).any (fun x=>t.ins.any fun y=>decide (x.p=y.p))||(if h:a<ins.length then (t.ins.take b).any fun y=>decide (ins[a].p=y.p) else false)
theorem bLc {t:Tx} {ins:List TIn} {a b:Nat} (ha:a<ins.length) (hb:b<t.ins.length):jS t ins a (b+1)=(jS t ins a b||decide (ins[a].p=t.ins[b].p)):=by
 unfold jS
 rw [dif_pos ha,dif_pos ha,List.take_succ_eq_append_getElem hb,List.any_append,Bool.or_assoc]
 simp
theorem bJ9 {t:Tx} {ins:List TIn} {a b:Nat} (ha:a<ins.length) (hb:t.ins.length≤b):jS t ins a b=jS t ins (a+1) 0:=by
 unfold jS
 rw [dif_pos ha,tLe hb,List.take_succ_eq_append_getElem ha,List.any_append,List.take_zero]
 simp
theorem bAm (t:Tx) (ins:List TIn):jS t ins 0 0=false:=by
 unfold jS
 simp
theorem bFl {t:Tx} {x:Ent} {a:Nat} (h:x.tx.ins.length≤a):jS t x.tx.ins a 0=cE t x:=by
 unfold jS cE
 rw [dif_neg (by omega),tLe h,Bool.or_false]
attribute [local irreducible] jS
set_option maxHeartbeats 4000000 in
theorem aAn {M:List Nat} {v:Value} {cs:List Value} {l:List Ent} {t:Tx} (w:World) (hl:SlR bF M w v l) (ht:txR.rel M w cs t) (hs:t.ins.length≤1000) (hn:l.length≤1000) (hE:∀x∈l,x.tx.ins.length≤1000):
  K.Spec Tryz.prog F.kedgeref16_Conflicts [v,.agg cs.toArray] w fun r w'=>SlE dJ w' r (bC l t)∧Ext w w'∧∀b∈aP r,w.heap.size≤b:=by
 obtain ⟨iv,ov,rfl,h1,h2,h3⟩:=ht
 have e0:List.replicate l.length false=fS (fun j=>cE t (cP l j)) l.length 0 false:=(aWg _ _).symm
 refine aAt rfl ?_
 unfold oY
 refine oy ?_
 repeat' (first|refine go1 ?_|refine zg λ_ _=>?_|refine zi λ_ _=>?_|refine zL rfl (fun h=>?_) (fun h=>?_)|refine zD (d:=some 3) rfl rfl (fun bp wp xp ap (rp:Row wp ⟨bp,0,none⟩ (aK t iv ov)) hp0=>?_)|refine zG (E:=bF) (M:=M) (l:=l) rfl (SlR.ext hl (by exact fx)) ?_|(refine aEd (d:=some 13) rfl rfl (by omega) (fun b w2 x2 a2 hb2=>?_);rw [e0] at a2)|(refine aQ (fun (i:Nat) w'=>Ext wp w'∧i≤l.length∧AtB w' b (fS (fun j=>cE t (cP l j)) l.length i false)) (fun i=> [(0,v),(3,.pointer (some ⟨bp,0,none⟩)),(5,.slice (some ⟨b,0,none⟩) l.length l.length),(6,.int .i64 i)]) (fun i=>l.length - i) 0 ⟨rfl,rfl,rfl,rfl,trivial⟩ ⟨by exact fx,by simp,a2⟩ ?_;clear a2;rintro i ρ w3 ⟨x3,hi,a3⟩))
 ·have hil:i<l.length:=by omega
  have hxs:=hE _ (gMe hil)
  have hfi:cE t (cP l i)=cE t l[i]:=by rw [bJ hil]
  have hp2:∀{w':World},Ext w2 w'→w.heap.size≤b:=fun _=>by have:=xp.size;omega
  repeat' (first|refine go1 ?_|refine zg λ_ _=>?_|refine zi λ_ _=>?_|refine zL rfl (fun h=>?_) (fun h=>?_)|(refine aQ (fun (a:Nat) w'=>Ext wp w'∧a≤l[i].tx.ins.length∧AtB w' b (fS (fun j=>cE t (cP l j)) l.length i (jS t l[i].tx.ins a 0))) (fun a=> [(0,v),(3,.pointer (some ⟨bp,0,none⟩)),(5,.slice (some ⟨b,0,none⟩) l.length l.length),(6,.int .i64 i),(7,.int .i64 a)]) (fun a=>l[i].tx.ins.length - a) 0 ⟨rfl,rfl,rfl,rfl,rfl,trivial⟩ ⟨x3,by simp,by rw [bAm];exact a3⟩ ?_;clear a3 x3;rintro a ρ2 w4 ⟨x4,ha,a4⟩)|(refine aL (d:=some 23) (E:=bF) (M:=M) rfl rfl (n:=i) (l:=l) (SlR.ext hl (by exact fx)) rfl hil (fun ad cs r5 he=>?_);obtain ⟨iv2,ov2,rfl,q1,q2,q3⟩:=he)|refine zG (d:=some 27) (E:=inR) (M:=M) (l:=l[i].tx.ins) rfl (SlR.ext q1 (by exact fx)) ?_)
  ·have hal:a<l[i].tx.ins.length:=by omega
   clear r5 q1 q2
   repeat' (first|refine go1 ?_|refine zg λ_ _=>?_|refine zi λ_ _=>?_|refine zL rfl (fun h=>?_) (fun h=>?_)|(refine aQ (fun (c:Nat) w'=>Ext wp w'∧c≤t.ins.length∧AtB w' b (fS (fun j=>cE t (cP l j)) l.length i (jS t l[i].tx.ins a c))) (fun c=> [(0,v),(3,.pointer (some ⟨bp,0,none⟩)),(5,.slice (some ⟨b,0,none⟩) l.length l.length),(6,.int .i64 i),(7,.int .i64 a),(8,.int .i64 c)]) (fun c=>t.ins.length - c) 0 ⟨rfl,rfl,rfl,rfl,rfl,rfl,trivial⟩ ⟨x4,by simp,a4⟩ ?_;clear a4 x4;rintro c ρ3 w5 ⟨x5,hc,a5⟩)|refine zG (d:=some 34) (E:=inR) (M:=M) (l:=t.ins) rfl (SlR.ext h1 (by exact fx)) ?_)
   ·have hcl:c<t.ins.length:=by omega
    have hml:=aQo (fun j=>cE t (cP l j)) l.length i (jS t l[i].tx.ins a c)
    have hat:(fS (fun j=>cE t (cP l j)) l.length i (jS t l[i].tx.ins a c))[i]? =some (jS t l[i].tx.ins a c):=by rw [List.getElem?_eq_getElem (by omega),bGk hil]
    have hset:=aZ1 (f:=fun j=>cE t (cP l j)) (cur:=jS t l[i].tx.ins a c) (x:=jS t l[i].tx.ins a (c+1)) hil
    have hnb:=bLc hal hcl
    rw [←bI8] at hnb
    generalize fS (fun j=>cE t (cP l j)) l.length i (jS t l[i].tx.ins a c)=m at*
    generalize jS t l[i].tx.ins a c=cur at*
    generalize hnx:jS t l[i].tx.ins a (c+1)=nxt at*
    repeat' (first|refine go1 ?_|refine zg λ_ _=>?_|refine zi λ_ _=>?_|(refine aL (d:=some 40) (E:=bF) (M:=M) rfl rfl (n:=i) (l:=l) (SlR.ext hl (by exact fx)) rfl hil (fun ad cs r6 he=>?_);obtain ⟨iv3,ov3,rfl,q1,q2,q3⟩:=he)|(refine aL (d:=some 45) (E:=inR) (M:=M) rfl rfl (n:=a) (l:=l[i].tx.ins) (SlR.ext q1 (by exact fx)) rfl hal (fun ad cs r7 he=>?_);obtain ⟨wv,rfl, -⟩:=he)|refine zE (d':=9) (vs:=l[i].tx.ins[a].p.cs) (fun _=>rfl) rfl rfl rfl (fun b9 w9 x9 a9 r9 hb9=>?_)|(refine aL (d:=some 51) (E:=inR) (M:=M) rfl rfl (n:=c) (l:=t.ins) (SlR.ext h1 (by exact fx)) rfl hcl (fun ad cs r8 he=>?_);obtain ⟨wv2,rfl, -⟩:=he)|refine zE (d':=10) (vs:=t.ins[c].p.cs) (fun _=>rfl) rfl rfl rfl (fun b10 w10 x10 a10 r10 hb10=>?_)|(refine aT (d:=some 58) (E:=dJ) rfl rfl (n:=i) (l:=m) (AtB.sl (by focus (repeat (first|assumption|(apply At.ext;assumption)))) hml.symm) rfl (by omega) (fun ad r11=>?_);have r11:Row _ ad [Value.bool cur]:=(by have e:=(List.getElem?_eq_some_iff.1 hat).2;rw [←e];exact r11))|refine zK (d:=some 61) rfl (fun hm=>?_) (fun hm=>?_)|refine zJ (d:=some 67) (p:=l[i].tx.ins[a].p.s=t.ins[c].p.s) rfl (fun hss=>?_) (fun hss=>?_)|refine lR (d:=some 74) rfl rfl (by omega) ?_)
    all_goals
     refine mT (m:=m) (o:=i) (v:=nxt) rfl (congrArg Value.bool (by rw [hnb,hm];first|rfl|(rw [dTr hss];simp)|(rw [dFa hss];rfl))) (by focus (repeat (first|assumption|(apply At.ext;assumption)))) (by omega) (fun w11 c11 a11=>?_)
     have y11:Ext wp w11:=(Ext.chg (w:=wp) (by exact fx) c11).mono (fun y hy=>.inr (by simp at hy;omega))
     repeat' (first|refine go1 ?_|refine zg λ_ _=>?_|refine zi λ_ _=>?_)
     exact ⟨c+1,⟨rfl,rfl,rfl,rfl,rfl,rfl,trivial⟩,⟨y11,by omega,by rw [hnx,←hset];exact a11⟩,by omega⟩
   ·exact ⟨a+1,⟨rfl,rfl,rfl,rfl,rfl,trivial⟩,⟨x5,by omega,by rw [←bJ9 hal (by omega:t.ins.length≤c)];exact a5⟩,by omega⟩
  ·refine ⟨i+1,⟨rfl,rfl,rfl,rfl,trivial⟩,⟨by exact fx,by omega,?_⟩,by omega⟩
   have h9:=aXj (f:=fun j=>cE t (cP l j)) (n:=l.length) (i:=i)
   rw [hfi,←bFl (t:=t) (x:=l[i]) (a:=a) (by omega)] at h9
   rw [←h9]
   exact At.ext (by exact fx) a4
 ·rw [aZz (by omega),aXr] at a3
  exact aC rfl ⟨AtB.sl a3 (by rw [←kR]),xp.trans x3,by intro y hy;have hy:y∈ [b]:=hy;simp at hy;have:=xp.size;omega⟩
end
end Go.Proofs.YtfebcajheojodaaGreatDoor
