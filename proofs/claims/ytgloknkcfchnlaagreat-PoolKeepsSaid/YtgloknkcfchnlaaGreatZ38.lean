/- Contracts: coins of numbers, by the document. Contracts: acc -/
import Derived.Test.YtgloknkcfchnlaaGreatZ35
import Derived.Test.YtgloknkcfchnlaaGreatZ36
set_option linter.unusedVariables false
set_option linter.unusedSimpArgs false
namespace Go.Proofs.YtgloknkcfchnlaaGreat
section
open Go Go.K
attribute [local irreducible] aF aP bG KOp.wp K.Spec u32 leS vnS str aR dE bS idT aO aE aQ idN
theorem bQg {n:Int} (h:0≤n∧n≤65535):IntKind.i64.wrap n=n:=IntWalk.i64_in _ (by omega)
set_option maxHeartbeats 1000000 in
theorem lX {v : Value} {vals : List Int} (w : World) (hv : SlR aLx [] w v vals) (hr : ∀ a ∈ vals, 0 ≤ a ∧ a ≤ 65535) :
    K.Spec Tryz.prog F.kedgeref17_Coins [v] w fun r w' => SlE bM w' r (gL vals (min vals.length 8)) ∧ (∀ b ∈ aB r, w.heap.size ≤ b) ∧ Ext w w' := by
  refine aH6 rfl ?_
  unfold vL
  refine oy ?_
  repeat' (first|refine zG (d := some 8) (E := aLx) (M := []) rfl (SlR.ext hv (by exact fx)) ?_|(refine aI (fun (p : Nat × Value) w' => Ext w w' ∧ p.1 ≤ vals.length ∧ p.1 ≤ 8 ∧ SlE bM w' p.2 (gL vals p.1) ∧ (∀ b ∈ aB p.2, w.heap.size ≤ b)) (fun p => [(0, v), (3, p.2), (4, .int .i64 p.1)]) (fun p => 8 - p.1) (0, .slice none 0 0) ⟨rfl, rfl, rfl, trivial⟩ ⟨Ext.refl _, by simp, by simp, SlE.nil _, by simp [aB]⟩ ?_; rintro ⟨i, vo⟩ ρ w1 ⟨x1, hi1, hi2, ho, hb⟩; simp only at hi1 hi2 ho hb; dsimp only; have hok := rY hr i; have hol := hok.len)|(have hil : i < vals.length := (by omega); have hri := hr _ (gMe hil); refine aM (d := some 18) (E := aLx) (M := []) rfl rfl (n := i) (l := vals) (SlR.ext hv (by exact fx)) rfl hil (fun ad cs r2 he => ?_); obtain ⟨rfl, -⟩ := he)|refine aD (d := some 20) (.int .i64 vals[i]) rfl (congrArg (fun n => some (Value.int .i64 n)) (bQg hri)) ?_|refine tH (d := some 21) rfl rfl (by omega) ?_|refine aT (d := some 23) (cs := (bBe vals[i]).cs) rfl ?_|refine zE (d' := 5) (fun _=>rfl) rfl rfl rfl (fun b5 w5 x5 a5 (r5 : Row w5 ⟨b5, 0, none⟩ (bBe vals[i]).cs) hb5=>?_)|refine aD (d := some 27) (.int .i64 ((300 + i : Nat) : Int)) rfl (congrArg (fun n => some (Value.int .i64 n)) (IntWalk.i64_in _ (by omega))) ?_|(refine zC (d := some 28) rfl (aZp (300 + i) _) ?_; rintro _ w6 ⟨rfl, x6⟩)|refine aT (d := some 29) (cs := (⟨idN (300 + i), 0⟩ : Pt).cs) rfl ?_|(refine zC (d := some 31) rfl (aNo ⟨idN (300 + i), 0⟩ (bBe vals[i]) _ (SlE.ext (w := w1) (by exact fx) ho) (by omega) (hok.mon (by omega))) ?_; rintro _ w7 ⟨vl, rfl, hl7, hb7, x7⟩; have hb7 := hb7.old; have s17 := Ext.size (show Ext w _ by exact fx))|refine go1 ?_|refine zg λ_ _=>?_|refine zi λ_ _=>?_|refine zJ rfl (fun h => ?_) (fun h => ?_)|refine zL rfl (fun h => ?_) (fun h => ?_)|refine zB ?_ ?_)
  all_goals first
    | exact ⟨(i + 1, vl), ⟨rfl, rfl, rfl, trivial⟩, ⟨by exact fx, by simp; omega, by simp; omega, by rw [gL, List.getD_eq_getElem?_getD, List.getElem?_eq_getElem hil]; exact hl7, fun b h7 => (hb7 b h7).elim (hb b) (fun h8 => nTr (Ext.size (show Ext w _ by exact fx)) h8)⟩, by simp; omega⟩
    | (have e : min vals.length 8 = i := by omega
       rw [e]
       exact aA rfl ⟨ho, hb, x1⟩)
    | trace_state
end
section
open Go Go.K
attribute [local irreducible] aF aP bG KOp.wp K.Spec u32 leS vnS str aR dE bS idT aO aE aQ idN bB cH bY bT cE eO bF cI aK kI fP qT mQ bV evL inS inB jH fY jR gY gT nU gC dN gD dZ jN cF bU aV bK dU cG cN dB
theorem Gr.low {w:World} {B B' g:Nat} {M:List Nat} {l:List Ent} (h:Gr w B g M l) (hb:B'≤B):Gr w B' g M l:=by
 obtain ⟨b1,vo,b2,m,sp,hP,e⟩:=h
 have:=hP.lo
 exact ⟨b1,vo,b2,m,sp,⟨hP.at_,hP.ents,hP.pts,hP.ord.lower hb,hP.inv,hP.nd,by omega,by omega,by omega⟩,e⟩
set_option maxHeartbeats 4000000 in
theorem pL {B g:Nat} {M N:List Nat} {l:List Ent} {cs:List Value} {t:Tx} {v:Value} {f:Pt→Option Cn} (h rate:Int) (w:World) (hG:Gr w B g M l) (hV:eH w v f) (ht:txR.rel N w cs t) (hs:t.Sm) (hN:∀b∈N,b<w.heap.size) (hMN:∀b∈M,b∈N) (hl:l.length≤1000) (hf:∀x∈l,x.fee≤1000000000000):
  K.Spec Tryz.prog F.pool_Accept [.pointer (some ⟨g,0,none⟩),.agg cs.toArray,aCt v h rate] w fun r w'=>∃u e M',r=.tuple #[u,e]∧Own bL T.string w.heap.size w' u (cG f l t h rate)∧dL w' 1 e (dU f l t h rate).1 (dU f l t h rate).2∧Gr w' B g M' (cN f l t h rate)∧Chg M w w'∧(∀b∈M',b∈M∨w.heap.size≤b)∧(∀b∈aB u,b∉M'):=by
 have ht0:=ht
 have hM:∀b∈M,b<w.heap.size:=fun b hb=>hN b (hMN b hb)
 obtain ⟨iv,ov,rfl,hi,ho,hv⟩:=ht
 obtain ⟨vt,vu,rfl⟩:∃vt vu,v=.iface vt vu:=by obtain ⟨⟨a,b,e,_⟩,_⟩:=hV;exact ⟨a,b,e⟩
 have fail:∀{w':World} {e:Value} {c a:Int},Ext w w'→dU f l t h rate=(c,a)→cG f l t h rate= []→cN f l t h rate=l→dL w' 1 e c a→∃u e' M',Value.tuple #[.slice none 0 0,e]=.tuple #[u,e']∧Own bL T.string w.heap.size w' u (cG f l t h rate)∧dL w' 1 e' (dU f l t h rate).1 (dU f l t h rate).2∧Gr w' B g M' (cN f l t h rate)∧Chg M w w'∧(∀b∈M',b∈M∨w.heap.size≤b)∧(∀b∈aB u,b∉M'):=fun x e1 e2 e3 he=>
  ⟨_,_,M,rfl,by rw [e2];exact Own.nil _ _ _,by rw [e1];exact he,by rw [e3];exact hG.ext x,x.mono (by simp),fun b hb=>.inl hb,fun b hb=>by simp [aB] at hb⟩
 by_cases h0:(aV f l t h).2.1=0
 ·obtain ⟨hc,hg,hh,hgood⟩:=fL h0
  have hgf:=(bN _).1 hgood
  have hz:=(cB hs hc).sizeM
  have e0:kQ t=.tuple #[.int .i64 (aO t:Nat),.int .i64 0]:=by rw [kQ,if_pos hc]
  generalize hfee:(aV f l t h).1=fee at*
  refine nA rfl ?_
  unfold kG
  refine oy ?_
  repeat (first|refine zD (d:=some 4) rfl rfl (fun bt wt xt bt' (rt:Row wt ⟨bt,0,none⟩ (aJ t iv ov)) hbt0=>?_)|refine zD (d:=some 5) (cs:= [.iface vt vu,.int .i64 h,.int .i64 rate]) rfl rfl (fun bs ws xs bs' (rs:Row ws ⟨bs,0,none⟩ [.iface vt vu,.int .i64 h,.int .i64 rate]) hbs0=>?_)|(refine zC (d:=some 21) rfl (uZ (M:=M) (N:=N) (l:=l) (f:=f) (cs:=aJ t iv ov) (t:=t) h rate _ (hG.r.ext (by exact fx)) (fun b hb=>nLt (hM b hb) (Ext.size (by exact fx))) (hV.ext (by exact fx)) (R.ext ht0 (by exact fx)) hs) ?_;rintro _ w3 ⟨e,rfl,he,x3⟩;obtain ⟨hn1,hn2⟩:=he.nil_iff)|refine go1 ?_|refine zg λ_ _=>?_|refine zi λ_ _=>?_)
  obtain ⟨rfl, -⟩:=hn1 h0
  rw [hfee]
  clear he hn1 hn2
  repeat (first|(refine zC (d:=some 29) rfl (fZ (M:=N) (cs:=aJ t iv ov) (t:=t) _ (R.ext ht0 (by exact fx)) hs) ?_;rintro _ w4 ⟨rfl,x4⟩;rw [e0])|(refine zC (d:=some 35) rfl (aPt (.iface vt vu) rfl h rate (aO t) (by omega) _) ?_;rintro _ w5 ⟨rfl,x5⟩)|refine go1 ?_|refine zg λ_ _=>?_|refine zi λ_ _=>?_)
  refine zL (p:=fee<dB rate (aO t)) rfl (fun h1=>?_) (fun h1=>?_)
  ·have e:=aWd (rate:=rate) h0 (by rw [hfee];exact h1)
   obtain ⟨e2,e3⟩:=aFy (by decide) e
   repeat (first|refine go1 ?_|refine zg λ_ _=>?_|refine zi λ_ _=>?_)
   exact aA rfl (fail (by exact fx) e e2 e3 (dL.num _ _ (by decide)))
  repeat (first|(refine zC (d:=some 41) rfl (aP6 (M:=M) (N:=N) (l:=l) (cs:=aJ t iv ov) (t:=t) fee _ (hG.r.ext (by exact fx)) (fun b hb=>nLt (hM b hb) (Ext.size (by exact fx))) (R.ext ht0 (by exact fx)) hs hl hf) ?_;rintro _ w6 ⟨rfl,x6⟩)|refine go1 ?_|refine zg λ_ _=>?_|refine zi λ_ _=>?_)
  refine zN (p:=dN l t fee=0) rfl (fun h2=>?_) (fun h2=>?_)
  ·have e:=aLc (rate:=rate) h0 (by rw [hfee];exact h1) (by rw [hfee];exact h2)
   obtain ⟨e2,e3⟩:=aFy (by rw [hfee];exact h2) e
   rw [hfee] at e
   repeat (first|refine go1 ?_|refine zg λ_ _=>?_|refine zi λ_ _=>?_)
   exact aA rfl (fail (by exact fx) e e2 e3 (dL.num _ _ h2))
  repeat (first|refine go1 ?_|refine zg λ_ _=>?_|refine zi λ_ _=>?_)
  refine zC (d:=some 48) rfl (jU (M:=M) (N:=N) (l:=l) (cs:=aJ t iv ov) (t:=t) _ (hG.r.ext (by exact fx)) (fun b hb=>nLt (hM b hb) (Ext.size (by exact fx))) (R.ext ht0 (by exact fx)) hs.ins hl) ?_
  rintro u w8 ⟨ou8,x7⟩
  have rt8:Row w8 ⟨bt,0,none⟩ (aJ t iv ov):=rt.ext (by exact fx)
  have t8:=R.ext ht0 (show Ext w w8 by exact fx)
  have G8:Gr w8 B g M l:=hG.ext (show Ext w w8 by exact fx)
  have hbu:∀b∈aB u,w.heap.size≤b:=fun b hb=>nTr (Ext.size (show Ext w w6 by exact fx)) (ou8.base b hb)
  have hbl:∀b∈aB u,b<w8.heap.size:=fun b hb=>Own.blk_lt ou8 b hb
  have s06:w.heap.size≤w6.heap.size:=Ext.size (show Ext w w6 by exact fx)
  have s8:bt<w8.heap.size:=nLt bt'.lt (Ext.size (show Ext wt w8 by exact fx))
  have x08:Unit→Ext w w8:=fun _=>by exact fx
  have s08:=(x08 ()).size
  clear x3 x4 x5 x6 x7 xs xt rt rs bt' bs'
  have su:=ou8.sl
  have hM8:∀b∈M,b<w8.heap.size:=fun b hb=>nLt (hM b hb) s08
  have hid:(aK l (evL l t)).length≤1000:=nTr (jV l (evL l t)) hl
  obtain ⟨ids,hids⟩:∃ids,aK l (evL l t)=ids:=⟨_,rfl⟩
  rw [hids] at ou8 su hid
  repeat' (first|refine zg (fun w9 x9=>?_)|refine fD ?_ ?_|(refine zC (d:=some 51) rfl (aKy (M:=M) (l:=l) (ids:=ids) _ (G8.ext (by exact fx)).r (fun b hb=>nLt (hM8 b hb) (Ext.size (by exact fx))) hl (su.ext (by exact fx)) hid) ?_;rintro _ w10 ⟨g1,M1,rfl,g10,x10⟩)|refine dJ (b:=.cons ⟨some 53,_,_⟩ _) (fun (p:Nat × List Nat) w'=>Ext w8 w'∧Gr w' w8.heap.size p.1 p.2 (bK l ids)) (fun p=> [(0,.pointer (some ⟨g,0,none⟩)),(4,.pointer (some ⟨bt,0,none⟩)),(8,.int .i64 fee),(13,u),(51,.pointer (some ⟨p.1,0,none⟩)),(52,.agg (aJ t iv ov).toArray)]) ?_ ?_|(rintro ⟨g1,M1⟩ ρ7 w10 ⟨x10,g10⟩;try dsimp only)|(exact ⟨(g1,M1),⟨rfl,rfl,rfl,rfl,rfl,rfl,trivial⟩,by exact fx,Gr.low g10 (Ext.size x9)⟩)|refine go1 ?_|refine zg λ_ _=>?_|refine zi λ_ _=>?_)
  have hrest:pU l t=bK l ids:=by unfold pU;rw [hids]
  dsimp only at g10
  refine zC (d:=some 53) rfl (aK4 (M:=M1) (N:=N) (l:=bK l ids) (cs:=aJ t iv ov) (t:=t) _ g10.r (Gr.lt g10) (R.ext t8 x10) hs (nTr (oJ ids l) hl)) ?_
  rintro _ w11 ⟨rfl,x11⟩
  repeat (first|refine go1 ?_|refine zg λ_ _=>?_|refine zi λ_ _=>?_)
  have rt11:Row w11 ⟨bt,0,none⟩ (aJ t iv ov):=rt8.ext (by exact fx)
  have x811:Ext w8 w11:=x10.trans x11
  have t11:=R.ext t8 x811
  have G11:=G8.ext x811
  have ou11:=ou8.ext x811
  have s811:=x811.size
  have x011:Unit→Ext w w11:=fun _=>(x08 ()).trans x811
  clear x10 x11 x811 g10 rt8 ou8 su
  refine zN (p:=gD (bK l ids) t=0) rfl (fun h3=>?_) (fun h3=>?_)
  ·have e:=aRk (rate:=rate) h0 (by rw [hfee];exact h1) (by rw [hfee];exact h2) (by rw [hrest];exact h3)
   rw [hrest] at e
   obtain ⟨e2,e3⟩:=aFy h3 e
   repeat (first|refine go1 ?_|refine zg λ_ _=>?_|refine zi λ_ _=>?_)
   exact aA rfl (fail (x011 ()) e e2 e3 (dL.num _ _ h3))
  obtain ⟨e1,e2,e3⟩:=aP2 (rate:=rate) h0 (by rw [hfee];exact h1) (by rw [hfee];exact h2) (by rw [hrest];exact h3)
  rw [hids] at e2
  rw [hrest,hfee] at e3
  have d0:bK l (ids.take 0)=l:=by unfold bK;rfl
  have huM:∀a m c,u=.slice (some a) m c→a.block∉M:=fun a m c e hb=>by
   have h5:=hbu a.block (by rw [e];simp [aB])
   have h6:=hM _ hb
   omega
  repeat (first|refine aY (d:=some 59) (E:=bL) (l:=ids) rfl ou11.sl ?_|(refine aI (fun (p:Nat × List Nat) w'=>Chg M w11 w'∧p.1≤ids.length∧Gr w' B g p.2 (bK l (ids.take p.1))∧(∀b∈p.2,b∈M∨w11.heap.size≤b)) (fun p=> [(0,.pointer (some ⟨g,0,none⟩)),(4,.pointer (some ⟨bt,0,none⟩)),(8,.int .i64 fee),(13,u),(58,u),(59,.int .i64 (ids.length:Nat)),(60,.int .i64 (p.1:Nat))]) (fun p=>ids.length - p.1) (0,M) ⟨rfl,rfl,rfl,rfl,rfl,rfl,rfl,trivial⟩ ⟨Chg.refl _ _,by simp,by rw [d0];exact G11,fun b hb=>.inl hb⟩ ?_;rintro ⟨i,Mi⟩ ρ w12 ⟨c12,hil,g12,m12⟩;simp only at hil g12 m12;dsimp only)|refine go1 ?_|refine zg λ_ _=>?_|refine zi λ_ _=>?_)
  have hlen:(bK l (ids.take i)).length≤1000:=nTr (oJ _ l) hl
  have s12:=c12.size
  refine zL (p:=((i:Nat):Int)<((ids.length:Nat):Int)) rfl (fun h=>?_) (fun h=>?_)
  ·have hii:i<ids.length:=by omega
   have su12:=SlE.chg c12 ou11.sl huM
   repeat' (first|(refine aS (d:=some 62) (E:=bL) rfl rfl (n:=i) (l:=ids) su12 rfl hii (fun ad r5=>?_);have r5:Row w12 ad [Value.string ids[i]]:=r5)|(refine zC (d:=some 66) rfl (aQz (l:=bK l (ids.take i)) ids[i] _ g12 hlen) ?_;rintro _ w13 ⟨M4,rfl,g13,c13,m13⟩)|refine go1 ?_|refine zg λ_ _=>?_|refine zi λ_ _=>?_)
   refine ⟨(i+1,M4),⟨rfl,rfl,rfl,rfl,rfl,rfl,rfl,trivial⟩,⟨(c12.trans c13).mono (fun b hb=>?_),hii,by show Gr w13 B g M4 (bK l (ids.take (i+1)));rw [uE hii];exact g13,fun b hb=>?_⟩,by show ids.length - (i+1)<ids.length - i;omega⟩
   ·rcases List.mem_append.1 hb with h5|h5
    ·exact .inl h5
    ·exact m12 b h5
   ·rcases m13 b hb with h5|h5
    ·exact m12 b h5
    ·exact .inr (nTr s12 h5)
  ·have hei:ids.take i=ids:=tLe (by omega)
   rw [hei] at g12 hlen
   have rt12:Row w12 ⟨bt,0,none⟩ (aJ t iv ov):=rt11.chg c12 (fun hb=>by have:bt<w.heap.size:=hM bt hb;omega)
   have t12:txR.rel (N++Mi) w12 (aJ t iv ov) t:=R.step txR t11 c12 (fun b hb=>.inl (hMN b hb)) (fun b hb=>by
    rcases List.mem_append.1 hb with h5|h5
    ·exact .inl h5
    ·exact (m12 b h5).imp (hMN b) id)
   have hN12:∀b∈N++Mi,b<w12.heap.size:=fun b hb=>by
    rcases List.mem_append.1 hb with h5|h5
    ·have:=hN b h5;omega
    ·exact Gr.lt g12 b h5
   repeat' (first|(refine zC (d:=some 71) rfl (aU6 (N:=N++Mi) (cs:=aJ t iv ov) fee _ g12 t12 hs (by unfold sG;omega) hN12 (fun b hb=>List.mem_append_right _ hb) hlen) ?_;rintro _ w14 ⟨M7,rfl,g14,c14,m14⟩)|refine go1 ?_|refine zg λ_ _=>?_|refine zi λ_ _=>?_)
   have hdis:∀b∈aB u,b∉Mi:=fun b hb hm=>by
    rcases m12 b hm with h5|h5
    ·have:=hM b h5;have:=hbu b hb;omega
    ·have:=hbl b hb;omega
   have hdis0:∀b∈aB u,b∉M:=fun b hb hm=>by have:=hM b hm;have:=hbu b hb;omega
   refine aA rfl ⟨u,.nilIface,M7,rfl,?_,by rw [e1];exact dL.none_ _ _,by rw [e3];exact g14,?_,fun b hb=>?_,fun b hb hm=>?_⟩
   ·rw [e2]
    exact ((ou11.chg c12 hdis0).chg c14 hdis).lower (by omega)
   ·refine (Ext.chg (x011 ()) (c12.trans c14)).mono (fun b hb=>?_)
    rcases List.mem_append.1 hb with h5|h5
    ·exact .inl h5
    ·rcases m12 b h5 with h6|h6
     ·exact .inl h6
     ·exact .inr (by omega)
   ·rcases m14 b hb with h5|h5
    ·rcases m12 b h5 with h6|h6
     ·exact .inl h6
     ·exact .inr (by omega)
    ·exact .inr (by omega)
   ·rcases m14 b hm with h5|h5
    ·exact hdis b hb h5
    ·have:=hbl b hb;omega
 ·obtain ⟨e1,e2,e3⟩:=aFz (rate:=rate) h0
  refine nA rfl ?_
  unfold kG
  refine oy ?_
  repeat (first|refine zD (d:=some 4) rfl rfl (fun bt wt xt bt' (rt:Row wt ⟨bt,0,none⟩ (aJ t iv ov)) hbt0=>?_)|refine zD (d:=some 5) (cs:= [.iface vt vu,.int .i64 h,.int .i64 rate]) rfl rfl (fun bs ws xs bs' (rs:Row ws ⟨bs,0,none⟩ [.iface vt vu,.int .i64 h,.int .i64 rate]) hbs0=>?_)|(refine zC (d:=some 21) rfl (uZ (M:=M) (N:=N) (l:=l) (f:=f) (cs:=aJ t iv ov) (t:=t) h rate _ (hG.r.ext (by exact fx)) (fun b hb=>nLt (hM b hb) (Ext.size (by exact fx))) (hV.ext (by exact fx)) (R.ext ht0 (by exact fx)) hs) ?_;rintro _ w3 ⟨e,rfl,he,x3⟩;obtain ⟨hn1,hn2⟩:=he.nil_iff)|refine go1 ?_|refine zg λ_ _=>?_|refine zi λ_ _=>?_)
  obtain ⟨et,eu,rfl⟩:=hn2 h0
  repeat (first|refine go1 ?_|refine zg λ_ _=>?_|refine zi λ_ _=>?_)
  exact aA rfl (fail (by exact fx) e1 e2 e3 (he.ext (by exact fx)))
end
section
open Go Go.K
attribute [local irreducible] aF aP bG KOp.wp K.Spec u32 leS vnS str aR dE bS idT aO aE aQ idN bB cH bY bT cE eO bF cI aK kI fP qT mQ bV evL inS inB jH fY jR gY gT nU gC dN gD dZ jN cF bU aV bK dU cG cN dB bE gL bQ
theorem bQd {α:Type} {E:R α} {M:List Nat} {w:World} {b n:Nat} {t:TypeId} {arr:List Value} {l:List α} (css:List (Vec E.k)) (h:At w b (.cells arr.toArray t (0,0))) (e:(kA E.k E.pos).flat css=arr) (ha:E.all (b::M) w css l) (hb:b∉M) (hn:css.length=n):SlR E M w (.slice (some ⟨b,0,none⟩) n n) l:=by
 subst hn
 have o:bR E t 0 M w (.slice (some ⟨b,0,none⟩) css.length css.length) l:=⟨css,.inr ⟨b,css.length, [],rfl,Nat.zero_le _,by rw [e,List.append_nil];exact h,by rw [List.append_nil,Enc.flat_length]⟩,ha⟩
 exact o.sl fun b' hb' h'=>by
  simp [aB] at h'
  subst h';exact hb hb'
theorem aPg {w:World} {e:Value} {c:Int} (h:dL w 1 e c (-1)) (hc:c≠0):e=wR c:=by
 rcases h with ⟨-,⟨h1, -⟩|⟨-,h1⟩⟩|⟨-,h1, -⟩
 ·exact absurd h1 hc
 ·exact h1
 ·omega
theorem bEa {cs:List Value} {iv ov:Value} {t:Tx} (v:Value) (h rate:Int) (he:cs=aJ t iv ov) (h1:iv.oneCell'=true) (h2:ov.oneCell'=true) (hv:v.oneCell'=true) (w:World):K.Spec Tryz.prog F.pool_Accept [.pointer none,.agg cs.toArray,aCt v h rate] w fun r w'=>r=.tuple #[.slice none 0 0,wR 1]∧Ext w w':=by
 subst he
 refine nA rfl ?_
 unfold kG
 refine oy ?_
 repeat' (first|refine zD (d:=some 4) rfl rfl (fun bt wt xt bt' (rt:Row wt ⟨bt,0,none⟩ (aJ t iv ov)) hbt0=>?_)|refine zD (d:=some 5) (cs:= [v,.int .i64 h,.int .i64 rate]) rfl rfl (fun bs ws xs bs' (rs:Row ws ⟨bs,0,none⟩ [v,.int .i64 h,.int .i64 rate]) hbs0=>?_)|(refine zC (d:=some 21) rfl (bIa (cs:=aJ t iv ov) (t:=t) v h rate rfl h1 h2 hv _) ?_;rintro _ w3 ⟨rfl,x3⟩)|refine go1 ?_|refine zg λ_ _=>?_|refine zi λ_ _=>?_)
 exact aA rfl ⟨rfl,by exact fx⟩
set_option maxHeartbeats 4000000 in
theorem qI (w:World):K.Spec Tryz.prog F.kedgelaw17_wakes [] w fun r w'=>r=.bool true∧Ext w w':=by
 refine aG4 rfl ?_
 unfold vP
 refine oy ?_
 repeat' (first|refine zI (d:=some 10) (cs:= [.int .u16 500]) rfl (fun bz wz xz az hbz=>?_)|refine go1 ?_|refine zg λ_ _=>?_|refine zi λ_ _=>?_)
 refine zC rfl (lX (vals:= [500]) _ (bQd (E:=aLx) (M:= []) (l:= [500]) [⟨[.int .u16 500],rfl,by intro v hv;simp at hv;subst hv;rfl⟩] az rfl (.cons ⟨rfl,by decide,by decide⟩ .nil) (by simp) rfl) (by intro a ha;simp at ha;subst ha;decide)) ?_
 rintro vV w2 ⟨hv2,hb2,x2⟩
 rw [aVk] at hv2
 have x02:Unit→Ext w w2:=fun _=>xz.trans x2
 clear xz x2 az
 repeat' (first|(refine zC (d:=some 13) rfl (aBz _ hv2 gR (by decide)) ?_;rintro _ w3 ⟨b,mb,rfl,hS3,hb3,hmb3,x3⟩)|refine zE (d':=2) (fun _=>rfl) rfl rfl rfl (fun bs w4 x4 a4 (r4:Row w4 ⟨bs,0,none⟩ [.iface T.P_coins_Set (.pointer (some ⟨b,0,none⟩)),.int .i64 5,.int .i64 0]) hbs4=>?_)|refine go1 ?_|refine zg λ_ _=>?_|refine zi λ_ _=>?_)
 refine zC rfl (aBh _) ?_
 rintro _ w5 ⟨g,M,rfl,G5,x5⟩
 have hV5:eH w5 (.iface T.P_coins_Set (.pointer (some ⟨b,0,none⟩))) (aL bQ):=eH.of_set (hS3.ext (x4.trans x5)) (fun e he=>by rw [(gR.each e he).2.2.2.2.1];decide)
 have hM5:=G5.lt
 have hB5:=G5.base
 have x25:Unit→Ext w2 w5:=fun _=>x3.trans (x4.trans x5)
 have x35:Unit→Ext w3 w5:=fun _=>x4.trans x5
 have s34:=x4.size
 have s23:=x3.size
 have l4:=a4.lt
 have l5:bs<w5.heap.size:=nLt l4 x5.size
 have r5:Row w5 ⟨bs,0,none⟩ [.iface T.P_coins_Set (.pointer (some ⟨b,0,none⟩)),.int .i64 5,.int .i64 0]:=Row.ext x5 r4
 have hbsM:bs∉M:=fun h=>by have:=hB5 bs h;omega
 clear x3 x4 a4 r4
 clear x5
 have e1:=jY bQ zW0
 have hmk:∀(z:PSm) (w':World) (M:List Nat) (b:Nat) (t:TypeId),z.spends= [0]→0≤z.fee∧z.fee≤65535→Ext w2 w'→At w' b (.cells [Value.int .u8 0].toArray t (0,0))→b∉M→(∀b∈M,b<w'.heap.size)→K.Spec Tryz.prog F.kedgeref17_Make [vV,.agg (gF z (.slice (some ⟨b,0,none⟩) 1 1)).toArray] w' fun r w''=>∃cs',r=.agg cs'.toArray∧txR.rel M w'' cs' (bE bQ z)∧Ext w' w'':=fun z w' M b t hz hf x a hb hM=>
  eZ (gQ (M:=M) (B:=5242800) w' (SlE.ext x hv2) ⟨_,rfl,by rw [hz];exact SlE.toR (F:=u8E) (SlE.new (E:=u8E) (l:= [0]) a rfl (Nat.le_refl _)) (by intro b' hb' hm;simp [aB] at hb';subst hb';exact hb hm),hf⟩ (by have:=gR.len;omega) (fun e he=>⟨(gR.each e he).2.2.1,by have:=(gR.each e he).2.2.2.1;omega⟩) (by decide) (fun e he=>by rw [(gR.each e he).2.1];exact aXr) hM) fun r w'' ⟨cs',h1,h2,h3⟩=>⟨cs',h1,txO.rel h2 hM,h3⟩
 repeat' (first|refine zg (fun w6 x6=>?_)|(refine dJ (b:=.cons ⟨some 24,_,_⟩ _) (fun (p:List Value) w'=>Ext w6 w'∧txR.rel M w' p (bE bQ zW0)) (fun p=> [(1,vV),(2,.pointer (some ⟨bs,0,none⟩)),(3,.pointer (some ⟨g,0,none⟩)),(18,.pointer (some ⟨g,0,none⟩)),(22,.agg p.toArray),(23,aCt (.iface T.P_coins_Set (.pointer (some ⟨b,0,none⟩))) 5 0)]) ?_ ?_)|(rintro p ρ7 w7 ⟨x67,t7⟩;try dsimp only)|refine zB ?_ ?_|refine zI (d:=some 20) (cs:= [.int .u8 0]) rfl (fun bz wz xz az hbz=>?_)|refine aT (d:=some 21) (cs:=gF zW0 (.slice (some ⟨bz,0,none⟩) 1 1)) rfl ?_|(refine zC (d:=some 22) rfl (hmk zW0 _ M bz _ rfl (by decide) ((x25 ()).trans (by exact fx)) (by exact fx) (fun h=>by have:=hM5 bz h;have:=Ext.size (show Ext w5 w6 by exact fx);omega) (fun b hb=>nLt (hM5 b hb) (Ext.size (by exact fx)))) ?_;rintro _ w8 ⟨p,rfl,t8,x8⟩)|(exact ⟨p,⟨rfl,rfl,rfl,rfl,rfl,rfl,trivial⟩,by exact fx,R.ext t8 (by exact fx)⟩)|refine go1 ?_|refine zg λ_ _=>?_|refine zi λ_ _=>?_)
 have G7:Gr w7 w4.heap.size g M []:=G5.ext (x6.trans x67)
 refine zC (d:=some 24) rfl (pL (M:=M) (N:=M) (l:= []) 5 0 _ G7 (hV5.ext (x6.trans x67)) t7 e1 (Gr.lt G7) (fun _ h=>h) (by simp) (by simp)) ?_
 rintro _ w8 ⟨u1,er1,M1,rfl,hu1,he1,G8,c8,hM8, -⟩
 rw [wk0] at he1
 rw [bSg.2] at G8
 obtain rfl:=aPg he1 (by decide)
 have x57:=x6.trans x67
 have s57:=x57.size
 have x28:Unit→Ext w2 w8:=fun _=>(Ext.chg ((x25 ()).trans x57) c8).mono (fun b hb=>.inr (by have:=hB5 b hb;omega))
 have x38:Unit→Ext w3 w8:=fun _=>(Ext.chg ((x35 ()).trans x57) c8).mono (fun b hb=>.inr (by have:=hB5 b hb;omega))
 have r8:Row w8 ⟨bs,0,none⟩ [.iface T.P_coins_Set (.pointer (some ⟨b,0,none⟩)),.int .i64 5,.int .i64 0]:=Row.chg c8 (Row.ext x57 r5) hbsM
 have hbsM1:bs∉M1:=fun h=>by
  rcases hM8 bs h with h5|h5
  ·exact hbsM h5
  ·omega
 have hM8':=G8.lt
 have hB8:=G8.base
 have hV8:eH w8 (.iface T.P_coins_Set (.pointer (some ⟨b,0,none⟩))) (aL bQ):=eH.of_set (hS3.ext (x38 ())) (fun e he=>by rw [(gR.each e he).2.2.2.2.1];decide)
 clear x6 x67 t7 G7 r5 x57 c8 hV5 G5 hM5 hB5 x25 x35 he1
 have e2:=jY bQ zW1
 repeat' (first|refine zg (fun w9 x9=>?_)|(refine dJ (b:=.cons ⟨some 34,_,_⟩ _) (fun (p:List Value) w'=>Ext w9 w'∧txR.rel M1 w' p (bE bQ zW1)) (fun p=> [(1,vV),(2,.pointer (some ⟨bs,0,none⟩)),(3,.pointer (some ⟨g,0,none⟩)),(5,wR 11),(28,.pointer (some ⟨g,0,none⟩)),(32,.agg p.toArray),(33,aCt (.iface T.P_coins_Set (.pointer (some ⟨b,0,none⟩))) 5 0)]) ?_ ?_)|(rintro p ρ9 w10 ⟨x910,t10⟩;try dsimp only)|refine zB ?_ ?_|refine zI (d:=some 30) (cs:= [.int .u8 0]) rfl (fun bz wz xz az hbz=>?_)|refine aT (d:=some 31) (cs:=gF zW1 (.slice (some ⟨bz,0,none⟩) 1 1)) rfl ?_|(refine zC (d:=some 32) rfl (hmk zW1 _ M1 bz _ rfl (by decide) ((x28 ()).trans (by exact fx)) (by exact fx) (fun h=>by have:=hM8' bz h;have:=Ext.size (show Ext w8 w9 by exact fx);omega) (fun b hb=>nLt (hM8' b hb) (Ext.size (by exact fx)))) ?_;rintro _ w8 ⟨p,rfl,t8,x8⟩)|(exact ⟨p,⟨rfl,rfl,rfl,rfl,rfl,rfl,rfl,trivial⟩,by exact fx,R.ext t8 (by exact fx)⟩)|refine go1 ?_|refine zg λ_ _=>?_|refine zi λ_ _=>?_)
 have G10:Gr w10 w4.heap.size g M1 []:=G8.ext (x9.trans x910)
 refine zC (d:=some 34) rfl (pL (M:=M1) (N:=M1) (l:= []) 5 0 _ G10 (hV8.ext (x9.trans x910)) t10 e2 (Gr.lt G10) (fun _ h=>h) (by simp) (by simp)) ?_
 rintro _ w11 ⟨u2,er2,M2,rfl,hu2,he2,G11,c11,hM11, -⟩
 rw [wk1] at he2
 rw [bR6.1] at hu2
 rw [bR6.2] at G11
 obtain ⟨rfl, -⟩:=he2.nil_iff.1 rfl
 have x810:=x9.trans x910
 have s810:=x810.size
 have x211:Unit→Ext w w11:=fun _=>(Ext.chg (((x02 ()).trans (x28 ())).trans x810) c11).mono (fun b hb=>.inr (by have:=hB8 b hb;have:=(x02 ()).size;omega))
 have r11:Row w11 ⟨bs,0,none⟩ [.iface T.P_coins_Set (.pointer (some ⟨b,0,none⟩)),.int .i64 5,.int .i64 0]:=Row.chg c11 (Row.ext x810 r8) hbsM1
 have hM11':=G11.lt
 have hu11:=hu2.sl
 clear x9 x910 t10 G10 r8 x810 c11 hV8 G8 hM8' hB8 x28 x38 he2 hu2 hmk
 repeat' (first|refine aT (d:=some 38) (cs:=aJ ⟨0, [], [],0⟩ (.slice none 0 0) (.slice none 0 0)) rfl ?_|(refine zC (d:=some 40) rfl (bEa (t:=⟨0, [], [],0⟩) (.iface T.P_coins_Set (.pointer (some ⟨b,0,none⟩))) 5 0 rfl rfl rfl rfl _) ?_;rintro _ w12 ⟨rfl,x12⟩)|(refine zC (d:=some 45) rfl (rT 11 _) ?_;rintro _ w13 ⟨rfl,rfl⟩)|refine aY (d:=some 52) rfl (SlE.ext (w:=w11) (by exact fx) hu11) ?_|(refine zC (d:=some 57) rfl (eK (M:=M2) (l:= [mK (bE bQ zW1) 500]) _ (G11.ext (by exact fx)).r (fun b hb=>nLt (hM11' b hb) (Ext.size (by exact fx))) (by simp)) ?_;rintro u14 w14 ⟨o14,x14⟩)|refine zG (d:=some 58) (E:=dC) (M:= []) (l:= [mK (bE bQ zW1) 500]) rfl ((o14.sub (M':= []) (by simp)).sl (by simp)) ?_|(refine zC (d:=some 63) rfl (eK (M:=M2) (l:= [mK (bE bQ zW1) 500]) _ (G11.ext (by exact fx)).r (fun b hb=>nLt (hM11' b hb) (Ext.size (by exact fx))) (by simp)) ?_;rintro u15 w15 ⟨o15,x15⟩)|(refine aM (d:=some 64) (E:=dC) (M:= []) rfl rfl (n:=0) (l:= [mK (bE bQ zW1) 500]) ((o15.sub (M':= []) (by simp)).sl (by simp)) rfl (by simp) (fun ad cs r6 he=>?_);obtain ⟨iv6,ov6,rfl,g16,g26,g36⟩:=he)|(refine zC (d:=some 72) rfl (rT 1 _) ?_;rintro _ w16 ⟨rfl,rfl⟩)|refine go1 ?_|refine zg λ_ _=>?_|refine zi λ_ _=>?_)
 exact aA rfl ⟨rfl,(x211 ()).trans (by exact fx)⟩
end
end Go.Proofs.YtgloknkcfchnlaaGreat
