/- Contracts: sets of coins, and whether a graph has just some  -/
import Derived.Test.YtgloknkcfchnlaaGreatZ37
import Derived.Test.YtgloknkcfchnlaaGreatZ49
import Derived.Test.YtgloknkcfchnlaaGreatZ50
set_option linter.unusedVariables false
set_option linter.unusedSimpArgs false
namespace Go.Proofs.YtgloknkcfchnlaaGreat
section
open Go Go.K
attribute [local irreducible] aF aP bG KOp.wp K.Spec u32 leS vnS str aR dE bS idT aO aE aQ idN bB cH bY bT cE eO bF cI aK
set_option maxHeartbeats 1000000 in
theorem aQl {v:Value} {V:List En} {n:Nat} (w:World) (hv:SlE bM w v V) (hV:CoinsOk V n) (hn:n≤1000):
  K.Spec Tryz.prog F.kedgelaw18_set [v] w fun r w'=>∃b mb,r=.pointer (some ⟨b,0,none⟩)∧mD T.coins_Set w' b mb V∧w.heap.size≤b∧w.heap.size≤mb∧Ext w w':=by
 have hlen:=hV.len
 refine aK3 rfl ?_
 unfold aAn
 refine oy ?_
 repeat' (first|refine go1 ?_|refine zg λ_ _=>?_|refine zi λ_ _=>?_|(refine zC rfl (aLw _) ?_;rintro _ w1 ⟨b,mb,rfl,hS,hb,hmb,x1⟩)|refine aY (d:=some 8) rfl (SlE.ext (w:=w) (by exact fx) hv) ?_|(refine aI (fun (i:Nat) w'=>Ext w w'∧i≤V.length∧mD T.coins_Set w' b mb (V.take i)) (fun i=> [(3,.pointer (some ⟨b,0,none⟩)),(7,v),(8,.int .i64 (V.length:Nat)),(9,.int .i64 i)]) (fun i=>V.length - i) 0 ⟨rfl,rfl,rfl,rfl,trivial⟩ ⟨x1,by simp,hS⟩ ?_;clear hS x1;rintro i ρ w2 ⟨x2,hi,hS⟩)|refine zL (p:=(((i:Nat):Int)<((V.length:Nat):Int))) rfl (fun h6=>?_) (fun h6=>?_)|(have hil:i<V.length:=(by omega);refine aS (d:=some 11) (E:=bM) rfl rfl (n:=i) (l:=V) (SlE.ext (w:=w) (by exact fx) hv) rfl hil (fun ad r2=>?_))|refine zE (d':=5) (fun _=>rfl) rfl rfl rfl (fun b5 w5 x5 a5 (r5:Row w5 ⟨b5,0,none⟩ (bM.f V[i])) hb5=>?_)|(refine zC (d:=some 18) rfl (aL3 V[i].1 V[i].2 _ (hS.ext (by exact fx))) ?_;rintro _ w6 ⟨rfl,hS6,c6⟩))
 ·rw [(aYm hV hn hil).2] at hS6
  exact ⟨i+1,⟨rfl,rfl,rfl,rfl,trivial⟩,⟨(Ext.chg (x2.trans x5) c6).mono (by intro y hy;simp at hy;right;omega),by omega,hS6⟩,by omega⟩
 ·rw [tLe (by omega)] at hS
  exact aA rfl ⟨b,mb,rfl,hS,hb,hmb,x2⟩
set_option maxHeartbeats 4000000 in
theorem aZ8 {g:Nat} {M N:List Nat} {l:List Ent} {v:Value} (w:World) (hG:GrR w g M l) (hM:∀b∈M,b<w.heap.size) (hv:SlR dC N w v l) (hl:l.length≤1000):K.Spec Tryz.prog F.kedgelaw18_same [.pointer (some ⟨g,0,none⟩),v] w fun r w'=>r=.bool true∧Ext w w':=by
 have hE:=hG.ok
 refine aJ3 rfl ?_
 unfold wW
 refine oy ?_
 repeat' (first|(refine zC (d:=some 9) rfl (eK (M:=M) (l:=l) _ (hG.ext (by exact fx)) (fun b hb=>nLt (hM b hb) (Ext.size (by exact fx))) (by omega)) ?_;rintro u1 w1 ⟨o1,x1⟩;have o1:=(o1.sub (M':= []) (by simp)).sl (by simp))|refine zG (d:=some 11) (E:=dC) (M:= []) (l:=l) rfl (o1.ext (by exact fx)) ?_|refine zG (d:=some 13) (E:=dC) (M:=N) (l:=l) rfl (hv.ext (by exact fx)) ?_|refine zG (d:=some 16) (E:=dC) (M:= []) (l:=l) rfl (o1.ext (by exact fx)) ?_|refine aD (d:=some 14) (.bool false) rfl (congrArg (fun b=>some (Value.bool (!b))) (dTr rfl)) ?_|(refine aI (a:=.seq _ (.seq (.cond _ _ _) (.seq (.block 1 _) _))) (fun (i:Nat) w'=>Ext w1 w'∧i≤l.length) (fun i=> [(1,v),(15,u1),(16,.int .i64 (l.length:Nat)),(17,.int .i64 i)]) (fun i=>l.length - i) 0 ⟨rfl,rfl,rfl,rfl,trivial⟩ ⟨Ext.refl _,by simp⟩ ?_;rintro i ρ w2 ⟨x2,hi⟩)|refine zL (x:=.tmp 18) (p:=((i:Nat):Int)<((l.length:Nat):Int)) rfl (fun h6=>?_) (fun h6=>?_)|refine go1 ?_|refine zg λ_ _=>?_|refine zi λ_ _=>?_)
 ·have hil:i<l.length:=by omega
  have hsm:=lE (hE _ (gMe hil)).check
  have o2:=o1.ext x2
  have v2:=hv.ext (x1.trans x2)
  clear o1
  repeat' (first|(refine aM (d:=some 20) (E:=dC) (M:= []) rfl rfl (n:=i) (l:=l) o2 rfl hil (fun ad cs r3 he=>?_);obtain ⟨iv,ov,rfl,h1,h2,h3⟩:=he;have e1:iv.oneCell'=true:=(by obtain ⟨_,_,rfl⟩:=h1.form;rfl);have e2:ov.oneCell'=true:=(by obtain ⟨_,_,rfl⟩:=h2.form;rfl))|refine zH (d:=some 7) (fun b7 w7 x7 a7 hb7=>?_)|(refine aU (w0:=w2) (n:=7) (vs:=bC l[i] iv ov) x7 hb7 a7 rfl rfl rfl rfl (by show List.all (bC _ _ _) _=true;simp [bC,e1,e2];exact ⟨rfl,rfl,rfl,rfl,rfl⟩) (fun w8 x8 c8 a8 r8=>?_);clear x7 c8)|(refine aM (d:=some 26) (E:=dC) (M:=N) rfl rfl (n:=i) (l:=l) (SlR.ext v2 (by exact fx)) rfl hil (fun ad4 cs4 r4 he=>?_);obtain ⟨iv4,ov4,rfl,h14,h24,h34⟩:=he)|refine aD (d:=some 29) (.bool false) rfl (congrArg (fun b=>some (Value.bool (!b))) (dTr rfl)) ?_|(refine aM (d:=some 35) (E:=dC) (M:=N) rfl rfl (n:=i) (l:=l) (SlR.ext v2 (by exact fx)) rfl hil (fun ad5 cs5 r5 he=>?_);obtain ⟨iv5,ov5,rfl,h15,h25,h35⟩:=he)|refine aD (d:=some 38) (.bool false) rfl (congrArg (fun b=>some (Value.bool (!b))) (dTr rfl)) ?_|(refine aM (d:=some 45) (E:=dC) (M:=N) rfl rfl (n:=i) (l:=l) (SlR.ext v2 (by exact fx)) rfl hil (fun ad6 cs6 r6 he=>?_);obtain ⟨iv6,ov6,rfl,h16,h26,h36⟩:=he)|refine aD (d:=some 48) (.bool false) rfl (congrArg (fun b=>some (Value.bool (!b))) (dTr rfl)) ?_|(refine aM (d:=some 55) (E:=dC) (M:=N) rfl rfl (n:=i) (l:=l) (SlR.ext v2 (by exact fx)) rfl hil (fun ad8 cs8 r8 he=>?_);obtain ⟨iv8,ov8,rfl,h18,h28,h38⟩:=he)|(refine zC (d:=some 58) rfl (aU9 (M:= []) (N:=N) (cs:=aJ l[i].tx iv ov) (ds:=aJ l[i].tx iv8 ov8) (t:=l[i].tx) _ ⟨iv,ov,rfl,h1.ext (by exact fx),h2.ext (by exact fx),h3.1,h3.2.1⟩ ⟨iv8,ov8,rfl,h18.ext (by exact fx),h28.ext (by exact fx),h38.1,h38.2.1⟩ hsm) ?_;rintro _ w9 ⟨rfl,x9⟩)|refine go1 ?_|refine zg λ_ _=>?_|refine zi λ_ _=>?_)
  exact ⟨i+1,⟨rfl,rfl,rfl,rfl,trivial⟩,⟨by exact fx,by omega⟩,by omega⟩
 ·repeat (first|refine go1 ?_|refine zg λ_ _=>?_|refine zi λ_ _=>?_)
  exact aA rfl ⟨rfl,x1.trans x2⟩
end
section
open Go Go.K
attribute [local irreducible] aF aP bG KOp.wp K.Spec u32 leS vnS str aR dE bS idT aO aE aQ idN bB cH bY bT cE eO bF cI aK kI fP qT mQ bV evL inS inB jH fY jR gY gT nU gC dN gD dZ jN cF bU aV bK dU cG cN dB bE gL bQ bH
theorem aBo (i:Int) {e:Value} {d:Nat} {c a:Int} (w:World) (he:dL w d e c a) (hc:c≠0) (hi:0≤i):K.Spec Tryz.prog F.pack_fault [.int .i64 i,e] w fun r w'=>dL w' (d+1) r c i∧Ext w w':=by
 obtain ⟨t,u,rfl⟩:=he.nil_iff.2 hc
 refine aWj rfl ?_
 unfold aJ1
 refine oy ?_
 repeat' (first|refine aT rfl ?_|refine zD rfl rfl (fun b8 w8 x8 a8 r8 hb8=>?_)|refine go1 ?_|refine zg λ_ _=>?_|refine zi λ_ _=>?_)
 exact aA rfl ⟨.inr ⟨hc,hi,b8,_,a,rfl,a8,he.ext x8⟩,x8⟩
theorem aXf {g:Nat} {M N:List Nat} {l:List Ent} {cs:List Value} {t:Tx} (s:ByteArray) (w:World) (hG:GrR w g M l) (hM:∀b∈M,b<w.heap.size) (ht:txR.rel N w cs t) (hs:t.ins.length≤1000) (hn:l.length≤1000):
  K.Spec Tryz.prog F.pack_formed [.pointer (some ⟨g,0,none⟩),.agg cs.toArray,.string s] w fun r w'=>r=.bool (decide (aK l (bF l t)= [s]))∧Ext w w':=by
 have ht0:=ht
 obtain ⟨iv,ov,rfl,hi,ho,hv⟩:=ht
 have hl:=jV l (bF l t)
 refine aS8 rfl ?_
 unfold aGh
 refine oy ?_
 repeat' (first|refine zD rfl rfl (fun bt wt xt bt' (rt:Row wt ⟨bt,0,none⟩ (aJ t iv ov)) hbt0=>?_)|(refine zC rfl (wV _ (hG.ext fx) (fun b hb=>nLt (hM b hb) (Ext.size fx)) (R.ext ht0 fx) hs hn) ?_;rintro u3 w3 ⟨o3,x3⟩)|refine zI rfl (fun b4 w4 x4 a4 hb4=>?_)|(refine zC rfl (aHf _ (SlE.ext fx o3.sl) (SlE.new (l:= [s]) a4 rfl (Nat.le_refl _)) (by omega)) ?_;rintro _ w5 ⟨rfl,x5⟩)|refine go1 ?_|refine zg λ_ _=>?_|refine zi λ_ _=>?_)
 exact aA rfl ⟨rfl,by exact fx⟩
theorem aZ0 {M N:List Nat} {cs ds:List Value} {t u:Tx} (fee rate:Int) (w:World) (ht:txR.rel M w cs t) (hu:txR.rel N w ds u) (hs1:t.Sm) (hs2:u.Sm) (hc1:aE t=0) (hc2:aE u=0) (hz:aO t+aO u≤1000000):
  K.Spec Tryz.prog F.pack_enough [.int .i64 fee,.agg cs.toArray,.agg ds.toArray,.int .i64 rate] w fun r w'=>r=.bool (decide (fee≥dB rate (aO t+aO u)))∧Ext w w':=by
 obtain ⟨q,hR⟩:∃q:Nat,min (max rate 1000) 100000000=(q:Int):=⟨(min (max rate 1000) 100000000).toNat,by omega⟩
 have hR2:q≤100000000:=by omega
 have e:dB rate (aO t+aO u)=(((q*(aO t+aO u)+999) / 1000:Nat):Int):=by unfold dB;rw [hR];rfl
 rw [e]
 have e1:kQ t=.tuple #[.int .i64 (aO t:Nat),.int .i64 0]:=by rw [kQ,if_pos hc1]
 have e2:kQ u=.tuple #[.int .i64 (aO u:Nat),.int .i64 0]:=by rw [kQ,if_pos hc2]
 have ht0:=ht
 have hu0:=hu
 obtain ⟨iv,ov,rfl,hi,ho,hv⟩:=ht
 obtain ⟨iv2,ov2,rfl,hi2,ho2,hv2⟩:=hu
 refine aTn rfl ?_
 unfold aGw
 refine oy ?_
 repeat' (first|refine zD rfl rfl (fun bt wt xt bt' (rt:Row wt ⟨bt,0,none⟩ (aJ t iv ov)) hbt0=>?_)|refine zD rfl rfl (fun bu wu xu bu' (ru:Row wu ⟨bu,0,none⟩ (aJ u iv2 ov2)) hbu0=>?_)|(refine zC rfl (fZ _ (R.ext ht0 fx) hs1) ?_;rintro _ w4 ⟨rfl,x4⟩;rw [e1])|(refine zC rfl (fZ _ (R.ext hu0 fx) hs2) ?_;rintro _ w5 ⟨rfl,x5⟩;rw [e2])|refine aQj rfl rfl ?_|(refine aH3 rfl rfl ?_;rw [hR])|refine aD (.int .i64 ((aO t+aO u:Nat):Int)) rfl (congrArg (fun n=>some (Value.int .i64 n)) (IntWalk.i64_in _ (by omega))) ?_|(refine zC rfl (aA6 q (aO t+aO u) hR2 hz _) ?_;rintro _ w6 ⟨rfl,x6⟩)|refine go1 ?_|refine zg λ_ _=>?_|refine zi λ_ _=>?_)
 exact aA rfl ⟨rfl,by exact fx⟩
theorem aPy {g:Nat} {M N:List Nat} {l:List Ent} {cs:List Value} {t:Tx} {v:Value} {f:Pt→Option Cn} (h rate:Int) (w:World) (hG:GrR w g M l) (hM:∀b∈M,b<w.heap.size) (hV:eH w v f) (ht:txR.rel N w cs t) (hs:t.Sm) (hl:l.length≤1000):
  K.Spec Tryz.prog F.pack_alone [.pointer (some ⟨g,0,none⟩),.agg cs.toArray,aCt v h rate] w fun r w'=>∃e,r=.tuple #[.int .i64 (bH f l t h).1,e]∧dL w' 1 e (bH f l t h).2.1 (bH f l t h).2.2∧Ext w w':=by
 have ht0:=ht
 have hins:=hs.ins
 obtain ⟨iv,ov,rfl,hi,ho,hv⟩:=ht
 obtain ⟨vt,vu,rfl⟩:∃vt vu,v=.iface vt vu:=by obtain ⟨⟨a,b,e,_⟩,_⟩:=hV;exact ⟨a,b,e⟩
 refine aV4 rfl ?_
 unfold aJb
 refine oy ?_
 repeat (first|refine zD rfl rfl (fun bt wt xt bt' (rt:Row wt ⟨bt,0,none⟩ (aJ t iv ov)) hbt0=>?_)|refine zD rfl rfl (fun bs ws xs bs' (rs:Row ws ⟨bs,0,none⟩ [.iface vt vu,.int .i64 h,.int .i64 rate]) hbs0=>?_)|(refine zC rfl (uZ h rate _ (hG.ext fx) (fun b hb=>nLt (hM b hb) (Ext.size fx)) (hV.ext fx) (R.ext ht0 fx) hs) ?_;rintro _ w3 ⟨e,rfl,he,x3⟩;obtain ⟨hn1,hn2⟩:=he.nil_iff)|refine go1 ?_|refine zg λ_ _=>?_|refine zi λ_ _=>?_)
 by_cases h0:(aV f l t h).2.1=0
 ·obtain ⟨rfl, -⟩:=hn1 h0
  repeat' (first|(refine zC rfl (gX _ (hG.ext fx) (fun b hb=>nLt (hM b hb) (Ext.size fx)) (R.ext ht0 fx) hins hl) ?_;rintro u4 w4 ⟨o4,x4⟩)|refine aY rfl o4.sl ?_|refine go1 ?_|refine zg λ_ _=>?_|refine zi λ_ _=>?_)
  refine zL rfl (fun h1=>?_) (fun h1=>?_)
  ·repeat (first|refine go1 ?_|refine zg λ_ _=>?_|refine zi λ_ _=>?_)
   have e:=aM4 h0 (by omega)
   exact aA rfl ⟨_,by rw [e];rfl,by rw [e];exact dL.num _ _ (by decide),by exact fx⟩
  ·repeat' (first|(refine zC rfl (aK4 _ (hG.ext fx) (fun b hb=>nLt (hM b hb) (Ext.size fx)) (R.ext ht0 fx) hs hl) ?_;rintro _ w5 ⟨rfl,x5⟩)|refine go1 ?_|refine zg λ_ _=>?_|refine zi λ_ _=>?_)
   refine zN rfl (fun h2=>?_) (fun h2=>?_)
   ·repeat (first|refine go1 ?_|refine zg λ_ _=>?_|refine zi λ_ _=>?_)
    have e:=aNi h0 (by omega) h2
    exact aA rfl ⟨_,by rw [e];rfl,by rw [e];exact dL.num _ _ h2,by exact fx⟩
   ·repeat (first|refine go1 ?_|refine zg λ_ _=>?_|refine zi λ_ _=>?_)
    have e:=aMc h0 (by omega) h2
    exact aA rfl ⟨_,by rw [e];rfl,by rw [e];exact dL.none_ _ _,by exact fx⟩
 ·obtain ⟨et,eu,rfl⟩:=hn2 h0
  repeat (first|refine go1 ?_|refine zg λ_ _=>?_|refine zi λ_ _=>?_)
  have e:=aKc h0
  exact aA rfl ⟨_,by rw [e];rfl,by rw [e];exact he.ext fx,by exact fx⟩
end
section
open Go Go.K
theorem aPv {a:Int} (h:cD a=true):sG a:=by have:=(bN _).1 h;unfold sG;omega
theorem aRj {f:Pt→Option Cn} {l:List Ent} {t:Tx} {h:Int} (h0:(bH f l t h).2.1=0):aE t=0∧cD (bH f l t h).1=true∧idS t=idT t:=by
 obtain ⟨h1, -, -,h4, -⟩:=aMl h0
 obtain ⟨hc, -, -,hg⟩:=fL h1
 exact ⟨hc,by rw [h4];exact hg,by unfold idS;rw [if_pos hc]⟩
theorem aQc (f:Pt→Option Cn) (l:List Ent) (a:Tx) (h:Int):dP f l a h=l++ [mK a (bH f l a h).1]:=rfl
attribute [local irreducible] aF aP bG KOp.wp K.Spec u32 leS vnS str aR dE bS idT aO aE aQ idN bB cH bY bT cE eO bF cI aK kI fP qT mQ bV evL inS inB jH fY jR gY gT nU gC dN gD dZ jN cF bU aV bK dU cG cN dB bE gL bQ bH kD nI aAr idS dP
theorem bC4 {B g:Nat} {M N U:List Nat} {l:List Ent} {cs:List Value} {t:Tx} {v:Value} {f:Pt→Option Cn} (h rate:Int) (w:World) (hG:GrU w B g M U l) (hU:∀b∈U,b<w.heap.size) (hUN:∀b∈U,b∈N) (hV:eH w v f) (ht:txR.rel N w cs t) (hs:t.Sm) (hN:∀b∈N,b<w.heap.size) (hMN:∀b∈M,b∈N) (hl:l.length≤1000) (hf:∀x∈l,x.fee≤1000000000000):
  K.Spec Tryz.prog F.pack_later [.pointer (some ⟨g,0,none⟩),.agg cs.toArray,aCt v h rate] w fun r w'=>∃u e M',r=.tuple #[u,e]∧Own bL T.string w.heap.size w' u (cG f l t h rate)∧dL w' 2 e (dU f l t h rate).1 (if (dU f l t h rate).1≠0 then 1 else -1)∧GrU w' B g M' U (cN f l t h rate)∧Chg M w w'∧(∀b∈M',b∈M∨w.heap.size≤b)∧(∀b∈aB u,b∉M'):=by
 have ht0:=ht
 obtain ⟨iv,ov,rfl,hi,ho,hv⟩:=ht
 obtain ⟨vt,vu,rfl⟩:∃vt vu,v=.iface vt vu:=by obtain ⟨⟨a,b,e,_⟩,_⟩:=hV;exact ⟨a,b,e⟩
 refine aWr rfl ?_
 unfold aJc
 refine oy ?_
 repeat' (first|refine zD rfl rfl (fun bt wt xt bt' (rt:Row wt ⟨bt,0,none⟩ (aJ t iv ov)) hbt0=>?_)|refine zD rfl rfl (fun bs ws xs bs' (rs:Row ws ⟨bs,0,none⟩ [.iface vt vu,.int .i64 h,.int .i64 rate]) hbs0=>?_)|refine go1 ?_|refine zg λ_ _=>?_|refine zi λ_ _=>?_)
 have x0s:=xt.trans xs
 refine zC rfl (rI h rate _ (hG.ext x0s) (fun b hb=>nLt (hU b hb) x0s.size) hUN (hV.ext x0s) (R.ext ht0 x0s) hs (fun b hb=>nLt (hN b hb) x0s.size) hMN hl hf) ?_
 rintro _ w3 ⟨u,e,M',rfl,hu,he,G3,c3,hM3,hd3⟩
 have hu:=hu.lower x0s.size
 have c03:=Ext.chg x0s c3
 have hM3':∀b∈M',b∈M∨w.heap.size≤b:=fun b hb=>(hM3 b hb).imp id (nTr x0s.size)
 obtain ⟨hn1,hn2⟩:=he.nil_iff
 by_cases h0:(dU f l t h rate).1=0
 ·obtain ⟨rfl, -⟩:=hn1 h0
  repeat (first|refine go1 ?_|refine zg λ_ _=>?_|refine zi λ_ _=>?_)
  refine aA rfl ⟨u,.nilIface,M',rfl,hu,?_,G3,c03,hM3',hd3⟩
  rw [h0];exact dL.none_ w3 2
 ·obtain ⟨et,eu,rfl⟩:=hn2 h0
  obtain ⟨e1,e2⟩:=uG h0
  repeat' (first|(refine zC rfl (aBo 1 _ he h0 (by decide)) ?_;rintro e4 w4 ⟨he4,x4⟩)|refine go1 ?_|refine zg λ_ _=>?_|refine zi λ_ _=>?_)
  refine aA rfl ⟨.slice none 0 0,e4,M',rfl,?_,?_,G3.ext x4,c03.ext x4,hM3',fun b hb=>by simp [aB] at hb⟩
  ·rw [e1];exact Own.nil _ _ _
  ·rw [if_pos h0];exact he4
set_option maxHeartbeats 4000000 in
theorem aUq {B g:Nat} {M N U:List Nat} {l:List Ent} {cs ds:List Value} {a b:Tx} {v:Value} {f:Pt→Option Cn} (h rate:Int) (w:World) (hG:GrU w B g M U l) (hU:∀b∈U,b<w.heap.size) (hUN:∀b∈U,b∈N) (hV:eH w v f) (ha:txR.rel N w cs a) (hsa:a.Sm) (hb:txR.rel N w ds b) (hsb:b.Sm) (hN:∀b∈N,b<w.heap.size) (hMN:∀b∈M,b∈N) (hl:l.length≤998) (hf:∀x∈l,x.fee≤1000000000000) (hz:aE a=0→aE b=0→aO a+aO b≤1000000):
  K.Spec Tryz.prog F.pack_Pair [.pointer (some ⟨g,0,none⟩),.agg cs.toArray,.agg ds.toArray,aCt v h rate] w fun r w'=>∃u e M',r=.tuple #[u,e]∧Own bL T.string w.heap.size w' u (nI f l a b h rate)∧dL w' 2 e (kD f l a b h rate).1 (kD f l a b h rate).2∧GrU w' B g M' U (aAr f l a b h rate)∧Chg M w w'∧(∀b∈M',b∈M∨w.heap.size≤b)∧(∀b∈aB u,b∉M'):=by
 have ha0:=ha
 have hb0:=hb
 have hM:∀b∈M,b<w.heap.size:=fun b hb=>hN b (hMN b hb)
 obtain ⟨iv,ov,rfl,hi,ho,hv⟩:=ha
 obtain ⟨iv2,ov2,rfl,hi2,ho2,hv2⟩:=hb
 obtain ⟨vt,vu,rfl⟩:∃vt vu,v=.iface vt vu:=by obtain ⟨⟨a,b,e,_⟩,_⟩:=hV;exact ⟨a,b,e⟩
 have fail:∀{w':World} {e:Value} {c i:Int},Ext w w'→¬eU l (idS a)=true→kD f l a b h rate=(c,i)→c≠0→dL w' 2 e c i→∃u e' M',Value.tuple #[.slice none 0 0,e]=.tuple #[u,e']∧Own bL T.string w.heap.size w' u (nI f l a b h rate)∧dL w' 2 e' (kD f l a b h rate).1 (kD f l a b h rate).2∧GrU w' B g M' U (aAr f l a b h rate)∧Chg M w w'∧(∀b∈M',b∈M∨w.heap.size≤b)∧(∀b∈aB u,b∉M'):=fun x hn e1 hc he=>by
  obtain ⟨e2,e3⟩:=bM7 hn e1 hc
  exact ⟨.slice none 0 0,_,M,rfl,by rw [e2];exact Own.nil _ _ _,by rw [e1];exact he,by rw [e3];exact hG.ext x,x.mono (by simp),fun b hb=>.inl hb,fun b hb=>by simp [aB] at hb⟩
 refine aNv rfl ?_
 unfold aE8
 refine oy ?_
 repeat' (first|refine zD rfl rfl (fun bt wt xt bt' (rt:Row wt ⟨bt,0,none⟩ (aJ a iv ov)) hbt0=>?_)|refine zD rfl rfl (fun bu wu xu bu' (ru:Row wu ⟨bu,0,none⟩ (aJ b iv2 ov2)) hbu0=>?_)|refine zD rfl rfl (fun bs ws xs bs' (rs:Row ws ⟨bs,0,none⟩ [.iface vt vu,.int .i64 h,.int .i64 rate]) hbs0=>?_)|(refine zC rfl (uD _ (R.ext ha0 fx) hsa) ?_;rintro _ w3 ⟨rfl,x3⟩;rw [aPo])|(refine zC rfl (lQ (idS a) _ (hG.gr.ext fx).r (fun b hb=>nLt (hM b hb) (Ext.size fx))) ?_;rintro _ w4 ⟨es,rfl,ho4,x4⟩;obtain ⟨iv8,ov8,rfl,p81,p82, -⟩:=ho4;have e81:=p81.one;have e82:=p82.one)|refine zE (fun _=>rfl) rfl rfl (by show List.all (bC _ _ _) _=true;simp [bC,e81,e82];exact ⟨rfl,rfl,rfl,rfl,rfl⟩) (fun b5 w5 x5 a5 r5 hb5=>?_)|refine go1 ?_|refine zg λ_ _=>?_|refine zi λ_ _=>?_)
 have rt5:Row w5 ⟨bt,0,none⟩ (aJ a iv ov):=Row.ext (show Ext wt w5 by exact fx) rt
 have ru5:Row w5 ⟨bu,0,none⟩ (aJ b iv2 ov2):=Row.ext (show Ext wu w5 by exact fx) ru
 have rs5:Row w5 ⟨bs,0,none⟩ [.iface vt vu,.int .i64 h,.int .i64 rate]:=Row.ext (show Ext ws w5 by exact fx) rs
 have x05:Ext w w5:=by exact fx
 have G5:=hG.ext x05
 have V5:=hV.ext x05
 have a5:=R.ext ha0 x05
 have b5':=R.ext hb0 x05
 have s05:=x05.size
 have hU5:∀b∈U,b<w5.heap.size:=fun b hb=>nLt (hU b hb) s05
 have hN5:∀b∈N,b<w5.heap.size:=fun b hb=>nLt (hN b hb) s05
 have hM5:∀b∈M,b<w5.heap.size:=fun b hb=>nLt (hM b hb) s05
 have x05':Unit→Ext w w5:=fun _=>x05
 have hbuw:w.heap.size≤bu:=nTr xt.size hbu0
 clear xt xu xs x3 x4 x5 bt' bu' rt ru rs r5 p81 p82 x05
 refine zM rfl (fun h1=>?_) (fun h1=>?_)
 ·repeat (first|refine go1 ?_|refine zg λ_ _=>?_|refine zi λ_ _=>?_)
  refine zC rfl (bC4 h rate _ G5 hU5 hUN V5 b5' hsb hN5 hMN (by omega) hf) ?_
  rintro _ w6 ⟨u,e,M',rfl,hu,he,G6,c6,hM6,hd6⟩
  repeat (first|refine go1 ?_|refine zg λ_ _=>?_|refine zi λ_ _=>?_)
  obtain ⟨e1,e2,e3⟩:=@bEe f l a b h rate h1
  refine aA rfl ⟨u,e,M',rfl,by rw [e2];exact hu.lower s05,?_,by rw [e3];exact G6,Ext.chg (x05' ()) c6,fun b hb=>(hM6 b hb).imp id (nTr s05),hd6⟩
  rw [e1]
  by_cases h0:(dU f l b h rate).1≠0
  ·rw [if_pos h0] at he ⊢;exact he
  ·rw [if_neg h0] at he ⊢
   have h0:(dU f l b h rate).1=0:=Decidable.not_not.1 h0
   rw [h0] at he;exact he
 ·have hn:¬eU l (idS a)=true:=by rw [h1];decide
  repeat (first|refine go1 ?_|refine zg λ_ _=>?_|refine zi λ_ _=>?_)
  refine zC rfl (aPy h rate _ G5.gr.r hM5 V5 a5 hsa (by omega)) ?_
  rintro _ w6 ⟨e,rfl,he,x6⟩
  obtain ⟨hn1,hn2⟩:=he.nil_iff
  by_cases h2:(bH f l a h).2.1=0
  ·obtain ⟨rfl, -⟩:=hn1 h2
   obtain ⟨hca,hga,hia⟩:=aRj h2
   have hadd:=aVh h2
   obtain ⟨fa,hfa⟩:∃fa,(bH f l a h).1=fa:=⟨_,rfl⟩
   have hgf:=(bN _).1 hga
   repeat' (first|(refine zC rfl (aHj _ (G5.gr.ext x6).r (fun b hb=>nLt (hM5 b hb) x6.size) (by omega)) ?_;rintro _ w7 ⟨gw,Mw,rfl,Gw,x7⟩)|refine go1 ?_|refine zg λ_ _=>?_|refine zi λ_ _=>?_)
   have hBw:=Gw.base
   have hLw:=Gw.lt
   have x57:=x6.trans x7
   have aN:txR.rel (N++Mw) w7 (aJ a iv ov) a:=R.step txR a5 x57 (by simp) (fun b hb=>(List.mem_append.1 hb).elim .inl (fun h=>.inr (nTr x6.size (hBw b h))))
   refine zC rfl (aU6 (bH f l a h).1 _ Gw aN hsa (aPv hga) (fun b hb=>(List.mem_append.1 hb).elim (fun h=>nLt (hN5 b h) x57.size) (hLw b)) (fun b hb=>List.mem_append_right _ hb) (by omega)) ?_
   rintro _ w8 ⟨Mw1,rfl,Gw1,cw,hMw1⟩
   rw [hadd] at Gw1
   replace Gw1:Gr w8 w6.heap.size gw Mw1 (dP f l a h):=by rw [aQc];exact Gw1
   have x58:Ext w5 w8:=(Ext.chg x57 cw).mono (fun b hb=>.inr (nTr x6.size (hBw b hb)))
   have hlw:(dP f l a h).length≤999:=by rw [aQc,List.length_append];simp;omega
   have hLw1:=Gw1.lt
   have rt8:=Row.ext x58 rt5
   have ru8:=Row.ext x58 ru5
   have rs8:=Row.ext x58 rs5
   have G8:=G5.ext x58
   have V8:=V5.ext x58
   have a8:=R.ext a5 x58
   have b8:=R.ext b5' x58
   have s58:=x58.size
   have x08':Unit→Ext w w8:=fun _=>(x05' ()).trans x58
   clear x6 x7 x57 cw aN Gw he hn1 hn2 x58 rt5 ru5 rs5 G5 V5
   repeat' (first|(refine zC rfl (aXf (idS a) _ (Gw1.ext fx).r (fun b hb=>nLt (hLw1 b hb) (Ext.size fx)) (R.ext b8 fx) hsb.ins (by omega)) ?_;rintro _ w9 ⟨rfl,x9⟩)|refine go1 ?_|refine zg λ_ _=>?_|refine zi λ_ _=>?_)
   have x89:Ext w8 w9:=by exact fx
   have G9:=G8.ext x89
   have V9:=V8.ext x89
   have rt9:=Row.ext x89 rt8
   have ru9:=Row.ext x89 ru8
   have rs9:=Row.ext x89 rs8
   have a9:=R.ext a8 x89
   have b9:=R.ext b8 x89
   have Gw9:=Gw1.ext x89
   have s89:=x89.size
   have x09':Unit→Ext w w9:=fun _=>(x08' ()).trans x89
   clear x89 G8 V8 rt8 ru8 rs8 a8 b8 x9 Gw1 x08'
   refine zN rfl (fun h3=>?_) (fun h3=>?_)
   rotate_left
   ·repeat (first|refine go1 ?_|refine zg λ_ _=>?_|refine zi λ_ _=>?_)
    refine zC rfl (aPy h rate _ Gw9.r (fun b hb=>nLt (hLw1 b hb) s89) V9 b9 hsb (by omega)) ?_
    rintro _ w10 ⟨e,rfl,he,x10⟩
    obtain ⟨hn1,hn2⟩:=he.nil_iff
    by_cases h4:(bH f (dP f l a h) b h).2.1=0
    ·obtain ⟨rfl, -⟩:=hn1 h4
     obtain ⟨hcb,hgb, -⟩:=aRj h4
     have haddb:=aVh h4
     have hgfb:=(bN _).1 hgb
     obtain ⟨fa,hfa⟩:∃fa,(bH f l a h).1=fa:=⟨_,rfl⟩
     obtain ⟨fb,hfb⟩:∃fb,(bH f (dP f l a h) b h).1=fb:=⟨_,rfl⟩
     repeat' (first|refine aD (.int .i64 ((bH f l a h).1+(bH f (dP f l a h) b h).1)) rfl (congrArg (fun n=>some (Value.int .i64 n)) (IntWalk.i64_in _ (by omega))) ?_|(refine zC rfl (aZ0 _ rate _ (R.ext a9 fx) (R.ext b9 fx) hsa hsb hca hcb (hz hca hcb)) ?_;rintro _ w11 ⟨rfl,x11⟩)|refine go1 ?_|refine zg λ_ _=>?_|refine zi λ_ _=>?_)
     have s9b:=Ext.size (show Ext w9 w11 by exact fx)
     have G11:=G9.ext (show Ext w9 w11 by exact fx)
     have rt11:=Row.ext (show Ext w9 w11 by exact fx) rt9
     have ru11:=Row.ext (show Ext w9 w11 by exact fx) ru9
     have a11:=R.ext a9 (show Ext w9 w11 by exact fx)
     have b11:=R.ext b9 (show Ext w9 w11 by exact fx)
     have x011:=(x09' ()).trans (show Ext w9 w11 by exact fx)
     refine zN rfl (fun h5=>?_) (fun h5=>?_)
     ·have h5:(bH f l a h).1+(bH f (dP f l a h) b h).1<dB rate (aO a+aO b):=Int.not_le.1 h5
      repeat (first|refine go1 ?_|refine zg λ_ _=>?_|refine zi λ_ _=>?_)
      exact aA rfl (fail x011 hn (bL5 hn h2 h3 h4 h5) (by decide) (dL.num _ 2 (show (11:Int)≠0 by decide)))
     ·have h5:¬(bH f l a h).1+(bH f (dP f l a h) b h).1<dB rate (aO a+aO b):=fun q=>absurd h5 (Int.not_le.2 q)
      obtain ⟨e1,e2,e3⟩:=aW3 hn h2 h3 h4 h5
      repeat (first|refine go1 ?_|refine zg λ_ _=>?_|refine zi λ_ _=>?_)
      refine zC rfl (aVu (bH f l a h).1 _ G11 hUN a11 hsa (aPv hga) (fun b hb=>nLt (hN b hb) x011.size) hMN (by omega)) ?_
      rintro _ w12 ⟨M1,rfl,G12,c12,hM1⟩
      rw [hadd] at G12
      replace G12:GrU w12 B g M1 U (dP f l a h):=by rw [aQc];exact G12
      have b12:txR.rel (N++M1) w12 (aJ b iv2 ov2) b:=R.step txR b11 c12 (fun b hb=>.inl (hMN b hb)) (fun b hb=>(List.mem_append.1 hb).elim .inl (fun q=>(hM1 b q).imp (hMN b) id))
      have ru12:Row w12 ⟨bu,0,none⟩ (aJ b iv2 ov2):=Row.chg c12 ru11 (fun q=>by have:=hM bu q;omega)
      have hL12:=G12.gr.lt
      repeat (first|refine go1 ?_|refine zg λ_ _=>?_|refine zi λ_ _=>?_)
      refine zC rfl (aVu (bH f (dP f l a h) b h).1 _ G12 (fun b hb=>List.mem_append_left _ (hUN b hb)) b12 hsb (aPv hgb) (fun b hb=>(List.mem_append.1 hb).elim (fun q=>nLt (hN b q) (nTr x011.size c12.size)) (hL12 b)) (fun b hb=>List.mem_append_right _ hb) (by omega)) ?_
      rintro _ w13 ⟨M2,rfl,G13,c13,hM2⟩
      rw [haddb] at G13
      repeat (first|refine go1 ?_|refine zg λ_ _=>?_|refine zi λ_ _=>?_)
      refine aA rfl ⟨.slice none 0 0,.nilIface,M2,rfl,by rw [e2];exact Own.nil _ _ _,by rw [e1];exact dL.none_ w13 2,by rw [e3];exact G13,Ext.chg x011 ((Chg.trans c12 c13).mono (fun b hb=>(List.mem_append.1 hb).elim .inl (hM1 b))),fun b hb=>?_,fun b hb=>by simp [aB] at hb⟩
      have s2:=c12.size
      rcases hM2 b hb with q|q
      ·rcases hM1 b q with q|q
       ·exact .inl q
       ·right;omega
      ·right;omega
    ·obtain ⟨et,eu,rfl⟩:=hn2 h4
     repeat' (first|(refine zC rfl (aBo 1 _ he h4 (by decide)) ?_;rintro e7 w11 ⟨he7,x11⟩)|refine go1 ?_|refine zg λ_ _=>?_|refine zi λ_ _=>?_)
     exact aA rfl (fail ((x09' ()).trans (x10.trans x11)) hn (bA3 hn h2 h3 h4) h4 he7)
   ·repeat' (first|(refine zC rfl (aBo 1 _ (dL.num _ 1 (show (4:Int)≠0 by decide)) (show (4:Int)≠0 by decide) (by decide)) ?_;rintro e7 w10 ⟨he7,x10⟩)|refine go1 ?_|refine zg λ_ _=>?_|refine zi λ_ _=>?_)
    exact aA rfl (fail ((x09' ()).trans x10) hn (bJt hn h2 h3) (by decide) he7)
  ·obtain ⟨et,eu,rfl⟩:=hn2 h2
   repeat' (first|(refine zC rfl (aBo 0 _ he h2 (by decide)) ?_;rintro e7 w7 ⟨he7,x7⟩)|refine go1 ?_|refine zg λ_ _=>?_|refine zi λ_ _=>?_)
   exact aA rfl (fail ((x05' ()).trans (x6.trans x7)) hn (bFk hn h2) h2 he7)
end
end Go.Proofs.YtgloknkcfchnlaaGreat
namespace Go.K
section
open Go Go.Proofs.YtgloknkcfchnlaaGreat
def aF8 (t:Tx) (k:Nat):List En:=if aE t=0 then (List.range k).map (vW 0 (mK t 0)) else []
def aF2 (V:List En) (t:Tx):List En:=aF8 t t.outs.length++V
theorem bNy (V:List En) (t:Tx):aF2 V t=aF8 t t.outs.length++V:=rfl
theorem bIk (t:Tx):aF8 t 0= []:=by unfold aF8;split<;>rfl
theorem bJw {t:Tx} (h:aE t=0) (k:Nat):aF8 t (k+1)=aF8 t k++ [vW 0 (mK t 0) k]:=by
 unfold aF8
 rw [if_pos h,if_pos h,List.range_succ,List.map_append];rfl
theorem aPr {t:Tx} (h:aE t≠0) (k:Nat):aF8 t k= []:=by unfold aF8;rw [if_neg h]
theorem aJn (t:Tx) (k:Nat):(aF8 t k).length≤k:=by
 unfold aF8
 split
 ·simp
 ·simp
theorem bKc {t:Tx} (h:aE t=0):idS t=idT t:=by unfold idS;rw [if_pos h]
theorem aQ5 {t:Tx} {k:Nat} (h:aE t=0) (hk:k<t.outs.length):vW 0 (mK t 0) k=(⟨idS t,(k:Nat)⟩,⟨t.outs[k].v,t.outs[k].s,0⟩):=by
 rw [bKc h]
 unfold vW
 show ((⟨idT t,((k:Nat):Int)⟩,⟨(t.outs.getD k default).v,(t.outs.getD k default).s,0⟩):En)=_
 simp only [List.getD_eq_getElem?_getD,List.getElem?_eq_getElem hk,Option.getD_some]
theorem bB1 {V:List En} {t:Tx} {e:En} (h:e∈aF2 V t):e∈V∨∃k,∃h:k<t.outs.length,e.1.i=(k:Nat)∧e.2.v=t.outs[k].v:=by
 unfold aF2 at h
 rcases List.mem_append.1 h with h|h
 ·right
  by_cases hc:aE t=0
  ·unfold aF8 at h
   rw [if_pos hc] at h
   obtain ⟨k,hk,rfl⟩:=List.mem_map.1 h
   have hk:=List.mem_range.1 hk
   refine ⟨k,hk,?_,?_⟩
   ·rw [aQ5 hc hk]
   ·rw [aQ5 hc hk]
  ·rw [aPr hc] at h;cases h
 ·exact .inl h
theorem aM9 (s:ByteArray) {C:Int} (h0:0≤C):∀(k:Nat) (left:Int), -100000≤left→left≤C→∀o∈wL s k left,0≤o.v∧o.v≤C
 |0,_,_,_=>fun o ho=>by cases ho
 |k+1,left,h1,h2=>fun o ho=>by
  obtain ⟨h3,h4,h5,h6⟩:=aHh (k:=k+1) (by omega) h1 h2 h0
  rw [wL] at ho
  rcases List.mem_cons.1 ho with rfl|ho
  ·exact ⟨h3,h4⟩
  ·exact aM9 s h0 k _ h5 h6 o ho
theorem bFi {V:List En} {B:Int} (hB:0≤B) (hV:∀e∈V,0≤e.2.v∧e.2.v≤B) {z:PSm} (hz:0≤z.fee∧z.fee≤65535):∀o∈(bE V z).outs,0≤o.v∧o.v≤4*B:=by
 have h:=bN4 hB hV z
 exact aM9 _ (by omega) _ _ (by omega) (by omega)
theorem bNz {V:List En} {B:Int} (hB:0≤B) (hV:∀e∈V,0≤e.2.v∧e.2.v≤B) (hi:∀e∈V,dM e.1.i) {z:PSm} (hz:0≤z.fee∧z.fee≤65535):(∀e∈aF2 V (bE V z),0≤e.2.v∧e.2.v≤4*B)∧(∀e∈aF2 V (bE V z),dM e.1.i)∧(aF2 V (bE V z)).length≤3+V.length:=by
 have ho:=(aG8 V z).2
 refine ⟨fun e he=>?_,fun e he=>?_,?_⟩
 ·rcases bB1 he with h|⟨k,hk, -,e1⟩
  ·have:=hV e h;omega
  ·rw [e1];exact bFi hB hV hz _ (gMe hk)
 ·rcases bB1 he with h|⟨k,hk,e1, -⟩
  ·exact hi e h
  ·rw [e1];unfold dM;omega
 ·have:=aJn (bE V z) (bE V z).outs.length
  unfold aF2
  rw [List.length_append];omega
theorem aIh {t:Tx} (h:t.Sz) (hi:t.ins.length≤4):aO t≤500000:=by
 have a1:=h.e3 false
 have a2:=h.e3 true
 have a3:=rR lA 12000 t.ins fun x hx=>h.wit1 hx
 have e1:(bS false t).size=(enc3 false t).size+4:=by
  unfold bS enc4
  simp only [Bool.false_eq_true,if_false,ByteArray.size_append,cQ]
  have h0:(⟨#[]⟩:ByteArray).size=0:=rfl
  omega
 have e2:(bS true t).size=(enc3 true t).size+(eM lA t.ins).size+4:=by
  unfold bS enc4
  simp only [if_true,ByteArray.size_append,cQ]
 unfold aO xV
 cases aOj t
 ·rw [e1];omega
 ·rw [e1,e2];omega
end
end Go.K
namespace Go.Proofs.YtgloknkcfchnlaaGreat
section
open Go Go.K
attribute [local irreducible] aF aP bG KOp.wp K.Spec u32 leS vnS str aR dE bS idT aO aE aQ idN bB cH bY bT cE eO bF cI aK bE aF8 aF2 idS
set_option maxHeartbeats 4000000 in
theorem bAr {N:List Nat} {v:Value} {cs ds:List Value} {V:List En} {a b:PSm} {B:Int} (w:World) (hv:SlE bM w v V) (ha:jK.rel N w cs a) (hb:jK.rel N w ds b) (hn:V.length≤1000000) (hV:∀e∈V,0≤e.2.v∧e.2.v≤B) (hB:0≤B∧B≤100000000000000) (hi:∀e∈V,dM e.1.i) (hN:∀b∈N,b<w.heap.size):
  K.Spec Tryz.prog F.kedgelaw18_two [v,.agg cs.toArray,.agg ds.toArray] w fun r w'=>∃ts us,r=.tuple #[.agg ts.toArray,.agg us.toArray]∧txR.rel N w' ts (bE V a)∧txR.rel N w' us (bE (aF2 V (bE V a)) b)∧Ext w w':=by
 have ha0:=ha
 have hb0:=hb
 obtain ⟨fv,rfl,hfr,hf1,hf2⟩:=ha
 obtain ⟨fw,rfl,hgr,hg1,hg2⟩:=hb
 have hsm:=jY V a
 obtain ⟨hW1,hW2,hW3⟩:=bNz hB.1 hV hi (z:=a) ⟨hf1,hf2⟩
 refine aMd rfl ?_
 unfold aAo
 refine oy ?_
 repeat' (first|refine zD (d:=some 4) rfl rfl (fun bt wt xt bt' (rt:Row wt ⟨bt,0,none⟩ (gF a fv)) hbt0=>?_)|refine zD (d:=some 5) rfl rfl (fun bu wu xu bu' (ru:Row wu ⟨bu,0,none⟩ (gF b fw)) hbu0=>?_)|refine zH (d:=some 6) (fun b6 w6 x6 a6 hb6=>?_)|refine zH (d:=some 7) (fun b7 w7 x7 a7 hb7=>?_)|refine go1 ?_|refine zg λ_ _=>?_|refine zi λ_ _=>?_)
 have s1:=xt.size
 have s2:=xu.size
 have s6:=x6.size
 have s7:=x7.size
 have l6:=a6.lt
 have l7:=a7.lt
 have h67:b6≠b7:=by omega
 have rt7:=Row.ext (show Ext wt w7 by exact fx) rt
 have ru7:=Row.ext (show Ext wu w7 by exact fx) ru
 have hX:Ext w w7:=by exact fx
 have hN2:∀b∈b6::b7::N,b<w7.heap.size:=fun b hb=>by
  rcases List.mem_cons.1 hb with rfl|hb
  ·omega
  rcases List.mem_cons.1 hb with rfl|hb
  ·omega
  ·have:=hN b hb;have:=hX.size;omega
 have hm2:∀b∈b6::b7::N,b∈N∨w.heap.size≤b:=fun b hb=>by
  rcases List.mem_cons.1 hb with rfl|hb
  ·right;omega
  rcases List.mem_cons.1 hb with rfl|hb
  ·right;omega
  ·exact .inl hb
 have ha7:=R.step jK ha0 hX (by simp) hm2
 have hb7':=R.step jK hb0 hX (by simp) hm2
 have hv7:=SlE.ext hX hv
 have a67:=At.ext x7 a6
 have hw7:=hX.size
 have hX':Unit→Ext w w7:=fun _=>hX
 clear xt xu x6 x7 bt' bu' rt ru a6 hX hfr hgr ha0 hb0 hv
 generalize hK:b6::b7::N=N2 at hN2 ha7 hb7' hm2
 repeat' (first|(refine zC (d:=some 16) rfl (gQ (M:=N2) (cs:=gF a fv) (z:=a) _ (SlE.ext (w:=w7) (by exact fx) hv7) (R.ext ha7 (by exact fx)) (by omega) hV ⟨hB.1,by omega⟩ hi (fun b hb=>nLt (hN2 b hb) (Ext.size (by exact fx)))) ?_;rintro _ w8 ⟨ts,rfl,t8,x8⟩)|refine go1 ?_|refine zg λ_ _=>?_|refine zi λ_ _=>?_)
 have t8':=t8.rel hN2
 obtain ⟨iv,ov,rfl,p1,p2,p3⟩:=t8'
 have e1:=p1.one
 have e2:=p2.one
 have t8:=t8.rel hN2
 have ho3:=(aG8 V a).2
 repeat' (first|(refine zE (d':=8) (fun _=>rfl) rfl rfl (by simp [aJ,e1,e2];exact ⟨rfl,rfl⟩) (fun b8 w9 x9 a9 (r9:Row w9 ⟨b8,0,none⟩ (aJ (bE V a) iv ov)) hb8=>?_);have l9:=a9.lt)|(refine zC (d:=some 19) rfl (uD (M:=N2) (cs:=aJ (bE V a) iv ov) (t:=bE V a) _ (R.ext t8 (by exact fx)) hsm) ?_;rintro _ w10 ⟨rfl,x10⟩;rw [aPo])|refine zG (d:=some 24) (E:=fS) (M:=N2) (l:=(bE V a).outs) rfl (p2.ext (by exact fx)) ?_|(refine aI (fun (p:Nat × Value) w'=>Ext w10 w'∧p.1≤(bE V a).outs.length∧Own bM T.kedgeref10_Entry w10.heap.size w' p.2 (aF8 (bE V a) p.1)) (fun p=> [(0,v),(5,.pointer (some ⟨bu,0,none⟩)),(6,.pointer (some ⟨b6,0,none⟩)),(7,.pointer (some ⟨b7,0,none⟩)),(8,.pointer (some ⟨b8,0,none⟩)),(9,p.2),(10,.string (idS (bE V a))),(11,.int .i64 (aE (bE V a))),(23,ov),(24,.int .i64 ((bE V a).outs.length:Nat)),(25,.int .i64 p.1)]) (fun p=>(bE V a).outs.length - p.1) (0,.slice none 0 0) ⟨rfl,rfl,rfl,rfl,rfl,rfl,rfl,rfl,rfl,rfl,rfl,trivial⟩ ⟨Ext.refl _,by simp,by rw [bIk];exact Own.nil _ _ _⟩ ?_;rintro ⟨k,vk⟩ ρ w11 ⟨x11,hk,hok⟩;simp only at hk hok;dsimp only)|(refine zg (fun w12 x12=>?_);refine dJ (b:=.cons ⟨none,_,_⟩ _) (fun (p:List Value) w'=>Ext w10 w'∧txR.rel N2 w' p (bE (aF2 V (bE V a)) b)) (fun p=> [(6,.pointer (some ⟨b6,0,none⟩)),(7,.pointer (some ⟨b7,0,none⟩)),(43,.agg (aJ (bE V a) iv ov).toArray),(48,.agg p.toArray)]) ?_ ?_)|(refine zL (x:=.tmp 26) (p:=(((k:Nat):Int)<(((bE V a).outs.length:Nat):Int))) rfl (fun h6=>?_) (fun h6=>?_))|refine go1 ?_|refine zg λ_ _=>?_|refine zi λ_ _=>?_)
 ·have hkl:k<(bE V a).outs.length:=by omega
  repeat' (first|(refine aM (d:=some 28) (E:=fS) (M:=N2) rfl rfl (n:=k) (l:=(bE V a).outs) (p2.ext (by exact fx)) rfl hkl (fun ad7 cs7 r7 he7=>?_);obtain ⟨rfl,hv7'⟩:=he7)|refine zH (d:=some 13) (fun b13 w13 x13 a13 hb13=>?_)|(refine aU (w0:=w11) (n:=2) (vs:= [.int .i64 (bE V a).outs[k].v,.string (bE V a).outs[k].s]) x13 hb13 a13 rfl rfl rfl rfl rfl (fun w14 x14 c14 a14 r14=>?_);clear x13 c14)|refine zL (x:=.tmp 31) (p:=aE (bE V a)=0) rfl (fun h7=>?_) (fun h7=>?_)|refine aD (d:=some 35) (.int .u32 ((k:Nat):Int)) rfl (congrArg (fun n=>some (Value.int .u32 n)) (bSx (by omega))) ?_|refine aT (d:=some 36) (cs:=(⟨idS (bE V a),((k:Nat):Int)⟩:Pt).cs) rfl ?_|refine aT (d:=some 38) (cs:=(⟨(bE V a).outs[k].v,(bE V a).outs[k].s,0⟩:Cn).cs) rfl ?_|refine aT (d:=some 39) (cs:=bM.f (vW 0 (mK (bE V a) 0) k)) (by rw [aQ5 h7 hkl];rfl) ?_|refine zI (d:=some 40) (cs:=bM.f (vW 0 (mK (bE V a) 0) k)) rfl (fun b15 w15 x15 a15 hb15=>?_)|(have hlo:=aJn (bE V a) k;refine cA (d:=some 41) (E:=bM) (v:=vk) (l2:= [vW 0 (mK (bE V a) 0) k]) rfl (hok.ext (by exact fx)) (Ext.size (w:=w10) (by exact fx)) rfl rfl (dX a15 rfl) rfl rfl (by simp only [List.length_cons,List.length_nil];omega) (fun v16 w16 ho16 c16=>?_))|refine go1 ?_|refine zg λ_ _=>?_|refine zi λ_ _=>?_)
  ·exact ⟨(k+1,v16),⟨rfl,rfl,rfl,rfl,rfl,rfl,rfl,rfl,rfl,rfl,rfl,trivial⟩,⟨(Ext.chg (w:=w10) (by exact fx) c16).mono (fun b hb=>.inr (hok.base b (by simpa using hb))),by simp;omega,by rw [bJw h7];exact ho16⟩,by simp;omega⟩
  ·exact ⟨(k+1,vk),⟨rfl,rfl,rfl,rfl,rfl,rfl,rfl,rfl,rfl,rfl,rfl,trivial⟩,⟨by exact fx,by simp;omega,by rw [aPr h7];rw [aPr h7] at hok;exact hok.ext (by exact fx)⟩,by simp;omega⟩
 ·have hk:k=(bE V a).outs.length:=by omega
  subst hk
  have t10:txR.rel N2 w10 (aJ (bE V a) iv ov) (bE V a):=R.ext t8 (x9.trans x10)
  have r10:Row w10 ⟨b8,0,none⟩ (aJ (bE V a) iv ov):=Row.ext x10 r9
  have x710:Ext w7 w10:=x8.trans (x9.trans x10)
  have v10:=SlE.ext x710 hv7
  have z10:=R.ext hb7' x710
  have ru10:=Row.ext x710 ru7
  have hN10:∀b∈N2,b<w10.heap.size:=fun b hb=>nLt (hN2 b hb) x710.size
  have s10:w10.heap.size≤w11.heap.size:=x11.size
  have l10:b8<w10.heap.size:=nLt l9 x10.size
  have hlo:=aJn (bE V a) (bE V a).outs.length
  have x112:Ext w10 w12:=x11.trans x12
  have o12:=hok.ext x12
  have a610:=At.ext x710 a67
  have a710:=At.ext x710 a7
  have hw10:Unit→Ext w w10:=fun _=>(hX' ()).trans x710
  have s710:=x710.size
  clear x710 x12 x11 x10 x9 x8 hv7 hb7' ru7 t8 r9 hok a67 a7 a9 ha7 rt7
  repeat' (first|refine zB ?_ ?_|(refine cA (d:=some 46) (E:=bM) (v:=vk) (l2:=V) rfl (o12.ext (by exact fx)) (Ext.size (w:=w10) (by exact fx)) rfl rfl (SlE.cells (SlE.ext (w:=w10) (by exact fx) v10)) rfl rfl (by omega) (fun v16 w16 ho16 c16=>?_);have x16:Ext w10 w16:=(Ext.chg x112 c16).mono (fun b hb=>.inr (o12.base b (by simpa using hb)));clear c16;rw [←bNy] at ho16;replace ho16:=ho16.sl)|(refine zC (d:=some 48) rfl (gQ (M:=N2) (cs:=gF b fw) (z:=b) _ (SlE.ext (w:=w16) (by exact fx) ho16) (R.ext z10 (by exact fx)) (by omega) hW1 ⟨by omega,by omega⟩ hW2 (fun b hb=>nLt (hN10 b hb) (Ext.size (by exact fx)))) ?_;rintro _ w17 ⟨p,rfl,t17,x17⟩;have t17:=t17.rel (fun b hb=>nLt (hN10 b hb) (Ext.size (by exact fx))))|(exact ⟨p,⟨rfl,rfl,rfl,rfl,trivial⟩,by exact fx,R.ext t17 (by exact fx)⟩)|refine go1 ?_|refine zg λ_ _=>?_|refine zi λ_ _=>?_)
 ·have hk:k=(bE V a).outs.length:=by omega
  subst hk
  have t10:txR.rel N2 w10 (aJ (bE V a) iv ov) (bE V a):=R.ext t8 (x9.trans x10)
  have r10:Row w10 ⟨b8,0,none⟩ (aJ (bE V a) iv ov):=Row.ext x10 r9
  have x710:Ext w7 w10:=x8.trans (x9.trans x10)
  have v10:=SlE.ext x710 hv7
  have z10:=R.ext hb7' x710
  have ru10:=Row.ext x710 ru7
  have hN10:∀b∈N2,b<w10.heap.size:=fun b hb=>nLt (hN2 b hb) x710.size
  have s10:w10.heap.size≤w11.heap.size:=x11.size
  have l10:b8<w10.heap.size:=nLt l9 x10.size
  have hlo:=aJn (bE V a) (bE V a).outs.length
  have x112:Ext w10 w12:=x11.trans x12
  have o12:=hok.ext x12
  have a610:=At.ext x710 a67
  have a710:=At.ext x710 a7
  have hw10:Unit→Ext w w10:=fun _=>(hX' ()).trans x710
  have s710:=x710.size
  clear x710 x12 x11 x10 x9 x8 hv7 hb7' ru7 t8 r9 hok a67 a7 a9 ha7 rt7
  rintro p ρ w13 ⟨x13,t13⟩
  obtain ⟨iv2,ov2,rfl,q1,q2,q3⟩:=id t13
  have i1:=q1.one
  have i2:=q2.one
  have x013:=(hw10 ()).trans x13
  have a613:=At.ext x13 a610
  have a713:=At.ext x13 a710
  have t10':=R.ext t10 x13
  have l6:=a613.lt
  have l7:=a713.lt
  refine aU (w0:=w) (n:=4) (vs:=aJ (bE V a) iv ov) x013 (by omega) a613 rfl rfl rfl rfl (by simp [aJ,e1,e2];exact ⟨rfl,rfl⟩) (fun w14 x14 c14 a14 r14=>?_)
  refine aU (w0:=w) (n:=4) (vs:=aJ (bE (aF2 V (bE V a)) b) iv2 ov2) x14 (by omega) (At.chg c14 a713 (by simpa using Ne.symm h67)) rfl rfl rfl rfl (by simp [aJ,i1,i2];exact ⟨rfl,rfl⟩) (fun w15 x15 c15 a15 r15=>?_)
  have n6:b6∈N2:=by rw [←hK];simp
  have n7:b7∈N2:=by rw [←hK];simp
  have hNN:∀b∈N,b∈N2:=fun b hb=>by rw [←hK];simp [hb]
  have h1:=R.step txR (R.step txR t10' c14 (L:= [b6]) (M':=N2) (fun b hb=>.inl (by simp at hb;subst hb;exact n6)) (fun b hb=>.inl hb)) c15 (M':=N) (fun b hb=>.inl (by simp at hb;subst hb;exact n7)) (fun b hb=>.inl (hNN b hb))
  have h2:=R.step txR (R.step txR t13 c14 (M':=N2) (fun b hb=>.inl (by simp at hb;subst hb;exact n6)) (fun b hb=>.inl hb)) c15 (M':=N) (fun b hb=>.inl (by simp at hb;subst hb;exact n7)) (fun b hb=>.inl (hNN b hb))
  repeat (first|refine go1 ?_|refine zg λ_ _=>?_|refine zi λ_ _=>?_)
  exact aA (iR (bD (Row.chg c15 r14 (by simpa using h67)) rfl rfl) (bD r15 rfl rfl)) ⟨_,_,rfl,h1,h2,x15⟩
end
end Go.Proofs.YtgloknkcfchnlaaGreat
namespace Go.K
section
open Go Go.Proofs.YtgloknkcfchnlaaGreat
abbrev zW2:PSm:=⟨[0],1,400,0,0,false,0⟩
def aW:Tx:=bE bQ zW0
def bW:Tx:=bE (aF2 bQ aW) zW2
theorem bSl:bE bQ zW0=aW:=rfl
theorem bSm:bE (aF2 bQ aW) zW2=bW:=rfl
theorem bK0:aW.Sm:=jY _ _
theorem bP4:bW.Sm:=jY _ _
theorem bTc:dU (aL bQ) [] aW 5 0=(11, -1):=wk0
theorem bTh:cG (aL bQ) [] aW 5 0= []∧cN (aL bQ) [] aW 5 0= []:=bSg
theorem bKi:aW.ins.length≤4∧bW.ins.length≤4:=⟨aAq _ _,aAq _ _⟩
theorem wp1:eU [] (idS aW)=false:=rfl
theorem wp2:(bH (aL bQ) [] aW 5)=(0,0, -1):=by kernel_rfl
theorem wp3:aK (dP (aL bQ) [] aW 5) (bF (dP (aL bQ) [] aW 5) bW)= [idS aW]:=by kernel_rfl
theorem wp4:(bH (aL bQ) (dP (aL bQ) [] aW 5) bW 5)=(400,0, -1):=by kernel_rfl
theorem wp5:decide (dB 0 (aO aW+aO bW)≤400)=true:=by kernel_rfl
theorem wpc:aE aW=0∧aE bW=0:=⟨by kernel_rfl,by kernel_rfl⟩
theorem bLe:kD (aL bQ) [] aW bW 5 0=(0, -1)∧nI (aL bQ) [] aW bW 5 0= []∧aAr (aL bQ) [] aW bW 5 0= [mK aW 0,mK bW 400]:=by
 have h:=aW3 (f:=aL bQ) (l:= []) (a:=aW) (b:=bW) (h:=5) (rate:=0) (by rw [wp1];decide) (by rw [wp2]) wp3 (by rw [wp4]) (by
  rw [wp2,wp4]
  have:=of_decide_eq_true wp5
  show ¬(0+400:Int)<_
  omega)
 refine ⟨h.1,h.2.1,?_⟩
 rw [h.2.2,wp4]
 unfold dP
 rw [wp2];rfl
theorem wpz:aO aW+aO bW≤1000000:=by
 have h1:=aIh (cB bK0 wpc.1) bKi.1
 have h2:=aIh (cB bP4 wpc.2) bKi.2
 omega
end
section
open Go
variable {P:Program}
def aXn:List (KI × List Nat)→KR
 | []=>.nil
 |x::l=>.cons x.1 (aXn l)
def aDd:Nat→List (KI × List Nat)→Bool
 |_, []=>true
 |i,(_,ds)::l=>(List.range i).all (fun j=>ds.contains j)&&aDd (i+1) l
theorem bGd:∀(l:List (KI × List Nat)) (k:Nat),aDd k l=true→∀(j:Nat) (h:j<l.length),∀i,i<k+j→i∈(l[j]).2
 | [],_,_,j,h=>absurd h (by simp)
 |(k0,ds)::l,k,hf,j,h=>by
  simp only [aDd,Bool.and_eq_true,List.all_eq_true,List.mem_range] at hf
  cases j with
  |zero=>exact fun i hi=>by simpa using hf.1 i hi
  |succ j=>
   intro i hi
   exact bGd l (k+1) hf.2 j (by simpa using h) i (by omega)
theorem bK8 {I I':(Nat→Bool)→Env→World→Prop} {S:Nat→Bool} {i:Nat} {k:KI} {ρ:Env} {w:World} (hI:∀v w',I (wI S i) (put ρ k.dst v) w'→I' (wI S i) (put ρ k.dst v) w') (h:nK P I S i k ρ w):nK P I' S i k ρ w:=by
 unfold nK at h ⊢
 split
 ·rename_i hw
  rw [if_pos hw] at h
  exact aAk hI h
 ·rename_i hw
  rw [if_neg hw] at h
  exact hI _ _ h
def mH (l:List (KI × List Nat)) (i:Nat):Tmp:=match l[i]? with
 |some x=>x.1.dst.getD 0
 |none=>0
def aY5 (G:Nat→Value→World→Prop) (T:Nat→Tmp) (w:World) (Q:List (Tmp × Value)→Prop):List Nat→List (Tmp × Value)→Prop
 | [],acc=>Q acc
 |d::ds,acc=>∀x,G d x w→aY5 G T w Q ds ((T d,x)::acc)
def okF (pre:List (KI × List Nat)) (E:List (Tmp × Value)):Bool:=
 pre.all (fun x=>x.1.dst.isSome&&x.1.guard.isNone&&x.2.all (fun d=>decide (d<pre.length))&&E.all (fun e=>!decide (some e.1=x.1.dst)))&&(List.range pre.length).all fun i=>(List.range pre.length).all fun j=>decide (i=j)||!decide (mH pre i=mH pre j)
theorem aG6 {ρ:Env}:∀{a b:List (Tmp × Value)},Has ρ a→Has ρ b→Has ρ (a++b)
 | [],_,_,h=>h
 |_::_,_,h1,h2=>⟨h1.1,aG6 h1.2 h2⟩
theorem aWl {ρ:Env} {t:Tmp} {v:Value}:∀{E:List (Tmp × Value)},Has ρ E→(∀e∈E,e.1≠t)→Has (put ρ (some t) v) E
 | [],_,_=>trivial
 |(t',v')::E,h,hne=>⟨by show upd ρ t v t'=v';rw [upd_ne _ _ (hne (t',v') (by simp))];exact h.1,aWl h.2 fun e he=>hne e (by simp [he])⟩
theorem aR2 {G:Nat→Value→World→Prop} {T:Nat→Tmp} {w:World} {Q:List (Tmp × Value)→Prop} {ρ:Env}:∀(ds:List Nat) (acc:List (Tmp × Value)),(∀d∈ds,G d (ρ (T d)) w)→Has ρ acc→aY5 G T w Q ds acc→∃acc',Has ρ acc'∧Q acc'
 | [],acc,_,ha,h=>⟨acc,ha,h⟩
 |d::ds,acc,hg,ha,h=>aR2 ds ((T d,ρ (T d))::acc) (fun e he=>hg e (by simp [he])) ⟨rfl,ha⟩ (h _ (hg d (by simp)))
theorem bGr {I:(Nat→Bool)→Env→World→Prop}:∀(l:List (KI × List Nat)) (k:Nat),(∀(i:Nat) (h:i<l.length) (S:Nat→Bool) (ρ:Env) (w:World),S (k+i)=false→(∀d∈(l[i]).2,S d=true)→I S ρ w→nK P I S (k+i) (l[i]).1 ρ w)→aKu P I k l
 | [],_,_=>trivial
 |x::l,k,h=>⟨h 0 (by simp),bGr l (k+1) fun i hi S ρ w h1 h2 h3=>by
   have:=h (i+1) (by simpa using hi) S ρ w (by rw [show k+(i+1)=k+1+i by omega];exact h1) (by simpa using h2) h3
   rw [show k+(i+1)=k+1+i by omega] at this
   exact this⟩
def bM4 (P:Program) (w0:World) (E:List (Tmp × Value)) (G H:Nat→Value→World→Prop) (T:Nat→Tmp):Nat→List (KI × List Nat)→Prop
 |_, []=>True
 |i,x::l=>(∀ρ w,Ext w0 w→aY5 G T w (fun acc=>aF P (.cons ⟨x.1.dst,x.1.op,none⟩ .nil) (fun ρ' w'=>Ext w w'∧G i (ρ' (T i)) w'∧H i (ρ' (T i)) w) (tV ρ (acc++E)) w) x.2.eraseDups [])∧bM4 P w0 E G H T (i+1) l
theorem bBx {w0:World} {E:List (Tmp × Value)} {G H:Nat→Value→World→Prop} {T:Nat→Tmp}:∀(l:List (KI × List Nat)) (k:Nat),bM4 P w0 E G H T k l→∀(i:Nat) (h:i<l.length) (ρ:Env) (w:World),Ext w0 w→aY5 G T w (fun acc=>aF P (.cons ⟨(l[i]).1.dst,(l[i]).1.op,none⟩ .nil) (fun ρ' w'=>Ext w w'∧G (k+i) (ρ' (T (k+i))) w'∧H (k+i) (ρ' (T (k+i))) w) (tV ρ (acc++E)) w) (l[i]).2.eraseDups []
 | [],_,_,i,h=>absurd h (by simp)
 |x::l,k,he,i,h=>by
  cases i with
  |zero=>exact he.1
  |succ i=>
   have:=bBx l (k+1) he.2 i (by simpa using h)
   rw [show k+(i+1)=k+1+i by omega]
   exact this
theorem aW8 {ρ:Env}:∀{l:List (Tmp × Value)} {t:Tmp} {v:Value},Has ρ l→(t,v)∈l→ρ t=v
 | [],_,_,_,h=>absurd h (by simp)
 |(t',v')::l,t,v,h,hm=>by
  rcases List.mem_cons.1 hm with e|hm
  ·cases e;exact h.1
  ·exact aW8 h.2 hm
theorem bRo {K:Exit→Env→World→Prop} {ρ:Env} {w:World} {l:List (KI × List Nat)} (pre:List (KI × List Nat)) (s0:KI × List Nat) (rest:List (KI × List Nat)) (x:Nat) (hl:l=pre++s0::rest) (hx:x<pre.length)
  (hd0:∀j,j<pre.length→j≠x→j∈s0.2) (hd:aDd (pre.length+1) rest=true) (hs0:s0.1.dst=none∧s0.1.guard=none) (hxg:(pre[x]).1.guard=none) (T:Tmp) (hxd:(pre[x]).1.dst=some T)
  (I:(Nat→Bool)→Env→World→Prop) (h0:∀w',Ext w w'→I (fun _=>false) ρ w') (hs:aKu P I 0 pre)
  (he:∀(S:Nat→Bool) (ρ:Env) (w:World),(∀i,i<pre.length→i≠x→S i=true)→I S ρ w→∃val,(S x=true→ρ T=val)∧(S x=false→∀w' (k:Value→World→Prop),k val w'→(pre[x]).1.op.wp P ρ w' k)∧s0.1.op.wp P ρ w (fun _ w'=>aF P (aXn rest) (K .normal) (upd ρ T val) w')):aP P (.anyR l) K ρ w:=by
 subst hl
 let n:=pre.length
 let I':(Nat→Bool)→Env→World→Prop:=fun S ρ w=>(∃m,m≤rest.length∧(∀i,i<n+1+m→S i=true)∧(∀i,n+1+m≤i→S i=false)∧aF P (aXn (rest.drop m)) (K .normal) ρ w)∨
  (S x=false∧(∀i,i<n+1→i≠x→S i=true)∧(∀i,n+1≤i→S i=false)∧∃val,(∀w' (k:Value→World→Prop),k val w'→(pre[x]).1.op.wp P ρ w' k)∧aF P (aXn rest) (K .normal) (upd ρ T val) w)∨
  ((∀i,n≤i→S i=false)∧I S ρ w)
 have hlen:(pre++s0::rest).length=n+1+rest.length:=by simp [n];omega
 refine ⟨I',.inr (.inr ⟨fun _ _=>rfl,h0 _ (Ext.drew w)⟩),fun i hi S ρ w h1 h2 h3=>?_,fun S ρ w ha hI=>?_⟩
 ·rw [hlen] at hi
  rcases Nat.lt_or_ge i n with hip|hip
  ·have hg:(pre++s0::rest)[i]'(by rw [hlen];omega)=pre[i]:=List.getElem_append_left hip
   rw [hg] at h2 ⊢
   rcases h3 with ⟨m,hm,g1,g2,g3⟩|⟨g0,g1,g2,val,g3,g4⟩|⟨g1,g2⟩
   ·rw [g1 i (by omega)] at h1;cases h1
   ·have e:i=x:=by
     by_cases e:i=x
     ·exact e
     ·rw [g1 i (by omega) e] at h1;cases h1
    subst e
    refine bQi hxg (g3 w _ ?_)
    refine .inl ⟨0,Nat.zero_le _,fun j hj=>?_,fun j hj=>?_,?_⟩
    ·unfold wI
     by_cases e:j=i
     ·rw [if_pos e]
     ·rw [if_neg e];exact g1 j (by omega) e
    ·unfold wI
     rw [if_neg (by omega)];exact g2 j (by omega)
    ·rw [hxd];exact g4
   ·have:=bGg pre 0 hs i hip S ρ w (by simpa using h1) h2 g2
    rw [Nat.zero_add] at this
    refine bK8 (fun v w' h4=>.inr (.inr ⟨fun j hj=>?_,h4⟩)) this
    unfold wI
    rw [if_neg (by omega)];exact g1 j hj
  ·rcases Nat.eq_or_lt_of_le hip with e|hip2
   ·subst e
    have hg:(pre++s0::rest)[n]'(by rw [hlen];omega)=s0:=by
     show (pre++s0::rest)[pre.length]'_=s0
     rw [List.getElem_append_right (Nat.le_refl _)];simp
    rw [hg] at h2 ⊢
    rcases h3 with ⟨m,hm,g1,g2,g3⟩|⟨g0,g1,g2,val,g3,g4⟩|⟨g1,g2⟩
    ·rw [g1 n (by omega)] at h1;cases h1
    ·rw [g1 n (by omega) (by omega)] at h1;cases h1
    ·have hall:∀j,j<n→j≠x→S j=true:=fun j hj hjx=>h2 j (hd0 j hj hjx)
     obtain ⟨val,k1,k2,k3⟩:=he S ρ w hall g2
     refine bQi hs0.2 (aAk (fun v w' h4=>?_) k3)
     rw [hs0.1]
     have hset:∀j,j<n+1→j≠x→wI S n j=true:=fun j hj hjx=>by
      unfold wI
      by_cases e:j=n
      ·rw [if_pos e]
      ·rw [if_neg e];exact hall j (by omega) hjx
     have hrest:∀j,n+1≤j→wI S n j=false:=fun j hj=>by
      unfold wI
      rw [if_neg (by omega)];exact g1 j (by omega)
     have hxn:wI S n x=S x:=by
      unfold wI
      rw [if_neg (by omega)]
     by_cases hSx:S x=true
     ·refine .inl ⟨0,Nat.zero_le _,fun j hj=>?_,fun j hj=>hrest j (by omega),?_⟩
      ·by_cases e:j=x
       ·rw [e,hxn];exact hSx
       ·exact hset j (by omega) e
      ·show aF P (aXn rest) (K .normal) ρ w'
       rw [aDu (k1 hSx)] at h4;exact h4
     ·have hSf:S x=false:=by simpa using hSx
      exact .inr (.inl ⟨by rw [hxn];exact hSf,hset,hrest,val,k2 hSf,h4⟩)
   ·obtain ⟨j,rfl⟩:∃j,i=n+1+j:=⟨i - (n+1),by omega⟩
    have hj:j<rest.length:=by omega
    have hg:(pre++s0::rest)[n+1+j]'(by rw [hlen];omega)=rest[j]:=by
     show (pre++s0::rest)[pre.length+1+j]'_=rest[j]
     rw [List.getElem_append_right (by omega)]
     have:pre.length+1+j - pre.length=j+1:=by omega
     simp only [this,List.getElem_cons_succ]
    rw [hg] at h2 ⊢
    have hall:∀i,i<n+1+j→S i=true:=fun i hi2=>h2 i (bGd rest (n+1) hd j hj i hi2)
    rcases h3 with ⟨m,hm,g1,g2,g3⟩|⟨g0,g1,g2,val,g3,g4⟩|⟨g1,g2⟩
    ·have hmj:m=j:=by
      rcases Nat.lt_trichotomy m j with h|h|h
      ·have a1:=hall (n+1+m) (by omega)
       rw [g2 (n+1+m) (by omega)] at a1;cases a1
      ·exact h
      ·rw [g1 (n+1+j) (by omega)] at h1;cases h1
     subst hmj
     rw [List.drop_eq_getElem_cons hj] at g3
     have next:∀ρ' w',aF P (aXn (rest.drop (m+1))) (K .normal) ρ' w'→I' (wI S (n+1+m)) ρ' w':=fun ρ' w' h4=>by
      refine .inl ⟨m+1,hj,fun i hi2=>?_,fun i hi2=>?_,h4⟩
      ·unfold wI
       by_cases e:i=n+1+m
       ·rw [if_pos e]
       ·rw [if_neg e];exact g1 i (by omega)
      ·unfold wI
       rw [if_neg (by omega)];exact g2 i (by omega)
     simp only [aXn,aF] at g3
     unfold nK
     split
     ·rename_i hw
      rw [if_pos hw] at g3
      exact aAk (fun v w' h4=>next _ _ h4) g3
     ·rename_i hw
      rw [if_neg hw] at g3
      exact next _ _ g3
    ·rw [hall x (by omega)] at g0;cases g0
    ·have:=hall n (by omega)
     rw [g1 n (Nat.le_refl _)] at this;cases this
 ·have ha:∀i,i<n+1+rest.length→S i=true:=fun i hi=>ha i (by rw [hlen];exact hi)
  rcases hI with ⟨m,hm,g1,g2,g3⟩|⟨g0,g1,g2,val,g3,g4⟩|⟨g1,g2⟩
  ·have hml:m=rest.length:=by
    rcases Nat.lt_or_ge m rest.length with h|h
    ·have a1:=ha (n+1+m) (by omega)
     rw [g2 (n+1+m) (by omega)] at a1;cases a1
    ·omega
   subst hml
   rw [List.drop_length] at g3
   exact g3
  ·rw [ha x (by omega)] at g0;cases g0
  ·have:=ha n (by omega)
   rw [g1 n (Nat.le_refl _)] at this;cases this
theorem bN1 {ρ:Env} {t:Tmp} {v:Value} {E:List (Tmp × Value)} (h:Has ρ E) (hne:∀e∈E,e.1≠t):Has (upd ρ t v) E:=aWl (t:=t) (v:=v) h hne
theorem bRb {K:Exit→Env→World→Prop} {ρ:Env} {w:World} {l:List (KI × List Nat)} (pre:List (KI × List Nat)) (s0:KI × List Nat) (rest:List (KI × List Nat)) (x d:Nat) (E:List (Tmp × Value)) (G H:Nat→Value→World→Prop) (J:Nat→Nat→Value→Value→Prop) (hl:l=pre++s0::rest) (hx:x<pre.length)
  (hd0:(List.range pre.length).all (fun j=>s0.2.contains j||decide (j=x))=true) (hd:aDd (pre.length+1) rest=true) (hs0:s0.1.dst=none∧s0.1.guard=none) (hok:okF pre E=true) (hE:Has ρ E)
  (hG:∀i v w w',Ext w w'→G i v w→G i v w') (hJ:∀i j v v' w,i≠j→H i v w→G j v' w→J i j v v'∧J j i v' v) (hs:bM4 P w E G H (mH pre) 0 pre)
  (hdx:d<pre.length∧d≠x) (hxv:∀v9 w',G d v9 w'→∃val,G x val w'∧∀(ρ:Env) w'' (k:Value→World→Prop),ρ (mH pre d)=v9→k val w''→(pre[x]).1.op.wp P ρ w'' k)
  (hcong:∀(ρ:Env) w' val (k:Value→World→Prop),s0.1.op.wp P (upd ρ (mH pre x) val) w' k→s0.1.op.wp P ρ w' k)
  (he:∀ρ w',Ext w w'→aY5 G (mH pre) w' (fun acc=>(∀i j v v',(mH pre i,v)∈acc→(mH pre j,v')∈acc→i<pre.length→j<pre.length→i≠j→i≠x→j≠x→J i j v v')→aF P (aXn (s0::rest)) (K .normal) (tV ρ (acc++E)) w') (List.range pre.length) []):aP P (.anyR l) K ρ w:=by
 unfold okF at hok
 simp only [Bool.and_eq_true,List.all_eq_true,Bool.or_eq_true,Bool.not_eq_true',decide_eq_true_eq,decide_eq_false_iff_not,List.mem_range] at hok
 obtain ⟨h1,h2⟩:=hok
 have hdst:∀(i:Nat) (h:i<pre.length),(pre[i]).1.dst=some (mH pre i):=fun i h=>by
  have:=(h1 _ (gMe h)).1.1.1
  unfold mH
  rw [List.getElem?_eq_getElem h]
  obtain ⟨t,ht⟩:=Option.isSome_iff_exists.1 this
  show (pre[i]).1.dst=some ((pre[i]).1.dst.getD 0)
  rw [ht];rfl
 have hgd:∀(i:Nat) (h:i<pre.length),(pre[i]).1.guard=none:=fun i h=>Option.isNone_iff_eq_none.1 (h1 _ (gMe h)).1.1.2
 have hinj:∀i j,i<pre.length→j<pre.length→i≠j→mH pre i≠mH pre j:=fun i j hi hj hij=>by
  rcases h2 i hi j hj with h5|h5
  ·exact absurd h5 hij
  ·exact h5
 refine bRo pre s0 rest x hl hx (fun j hj hjx=>?_) hd hs0 (hgd x hx) (mH pre x) (hdst x hx) (fun S ρ' w'=>Has ρ' E∧Ext w w'∧(∀i,i<pre.length→S i=true→G i (ρ' (mH pre i)) w')∧∀i j,i<pre.length→j<pre.length→i≠j→S i=true→S j=true→J i j (ρ' (mH pre i)) (ρ' (mH pre j))) (fun w' x=>⟨hE,x,fun i _ h=>by (cases h),fun i j _ _ _ h=>by cases h⟩) (bGr pre 0 fun i hi S ρ' w' hS hds ⟨g1,g2,g3,g4⟩=>?_) (fun S ρ' w' hall ⟨g1,g2,g3,g4⟩=>?_)
 ·rw [List.all_eq_true] at hd0
  have:=hd0 j (List.mem_range.2 hj)
  simp only [Bool.or_eq_true,decide_eq_true_eq,List.contains_iff_mem] at this
  exact this.resolve_right hjx
 ·rw [Nat.zero_add] at hS ⊢
  have hx:=h1 _ (gMe hi)
  have hdeps:∀d∈(pre[i]).2.eraseDups,G d (ρ' (mH pre d)) w':=fun d hd'=>by
   have hm:d∈(pre[i]).2:=List.mem_eraseDups.1 hd'
   exact g3 d (hx.1.2 d hm) (hds d hm)
  obtain ⟨acc,ha,hq⟩:=aR2 _ [] hdeps trivial (bBx pre 0 hs i hi ρ' w' g2)
  rw [aFh (aG6 ha g1),Nat.zero_add] at hq
  simp only [aF,kT,if_true] at hq
  refine bQi (hgd i hi) (aAk (fun v w2 h=>?_) hq)
  rw [hdst i hi] at h ⊢
  have hv:put ρ' (some (mH pre i)) v (mH pre i)=v:=upd_same _ _ _
  rw [hv] at h
  have hne:∀j,j<pre.length→j≠i→put ρ' (some (mH pre i)) v (mH pre j)=ρ' (mH pre j):=fun j hj e=>upd_ne _ _ (hinj j i hj hi e)
  have hSs:∀j,j≠i→wI S i j=true→S j=true:=fun j e h=>by unfold wI at h;rwa [if_neg e] at h
  refine ⟨aWl g1 fun e he=>?_,g2.trans h.1,fun j hj hSj=>?_,fun j k hj hk hjk hSj hSk=>?_⟩
  ·intro ee
   exact hx.2 e he (by rw [hdst i hi,ee])
  ·by_cases e:j=i
   ·subst e
    rw [hv];exact h.2.1
   ·rw [hne j hj e]
    exact hG j _ _ _ h.1 (g3 j hj (hSs j e hSj))
  ·by_cases e:j=i
   ·subst e
    have e2:k≠j:=Ne.symm hjk
    rw [hv,hne k hk e2]
    exact (hJ j k _ _ w' hjk h.2.2 (g3 k hk (hSs k e2 hSk))).1
   ·by_cases e2:k=i
    ·subst e2
     rw [hv,hne j hj e]
     exact (hJ k j _ _ w' (Ne.symm hjk) h.2.2 (g3 j hj (hSs j e hSj))).2
    ·rw [hne j hj e,hne k hk e2]
     exact g4 j k hj hk hjk (hSs j e hSj) (hSs k e2 hSk)
 ·have hGd:=g3 d hdx.1 (hall d hdx.1 hdx.2)
  have hval:∃val,(S x=true→ρ' (mH pre x)=val)∧G x val w'∧(S x=false→∀w'' (k:Value→World→Prop),k val w''→(pre[x]).1.op.wp P ρ' w'' k):=by
   obtain ⟨val,k1,k2⟩:=hxv _ w' hGd
   by_cases hSx:S x=true
   ·exact ⟨ρ' (mH pre x),fun _=>rfl,g3 x hx hSx,fun h=>by rw [hSx] at h;cases h⟩
   ·exact ⟨val,fun h=>absurd h hSx,k1,fun _ w'' k hk=>k2 ρ' w'' k rfl hk⟩
  obtain ⟨val,k1,k2,k3⟩:=hval
  refine ⟨val,k1,k3,hcong ρ' w' val _ ?_⟩
  have hH:Has (upd ρ' (mH pre x) val) E:=bN1 g1 fun e he ee=>(h1 _ (gMe hx)).2 e he (by rw [hdst x hx,ee])
  have hne:∀j,j<pre.length→j≠x→upd ρ' (mH pre x) val (mH pre j)=ρ' (mH pre j):=fun j hj e=>upd_ne _ _ (hinj j x hj hx e)
  have hsame:upd ρ' (mH pre x) val (mH pre x)=val:=upd_same _ _ _
  obtain ⟨acc,ha,hq⟩:=aR2 (ρ:=upd ρ' (mH pre x) val) (List.range pre.length) [] (fun j hj=>by
   have hj:=List.mem_range.1 hj
   by_cases e:j=x
   ·subst e;rw [hsame];exact k2
   ·rw [hne j hj e];exact g3 j hj (hall j hj e)) trivial (he (upd ρ' (mH pre x) val) w' g2)
  rw [aFh (aG6 ha hH)] at hq
  have hq:=hq fun i j v v' hi hj hil hjl hij hix hjx=>by
   rw [←aW8 ha hi,←aW8 ha hj,hne i hil hix,hne j hjl hjx]
   exact g4 i j hil hjl hij (hall i hil hix) (hall j hjl hjx)
  simp only [aXn,aF,hs0.2,kT,if_true] at hq
  refine aAk (fun v w'' h4=>?_) hq
  rw [hs0.1] at h4
  exact h4
theorem aZz {ρ:Env} {n:Nat} {a b t:Tmp} {val:Value} {w:World} {k:Value→World→Prop} (ha:a≠t) (hb:b≠t) (h:(KOp.storeN n (.tmp a) (.tmp b)).wp P (upd ρ t val) w k):(KOp.storeN n (.tmp a) (.tmp b)).wp P ρ w k:=by
 have e1:ev (upd ρ t val) (.tmp a)=ev ρ (.tmp a):=upd_ne _ _ ha
 have e2:ev (upd ρ t val) (.tmp b)=ev ρ (.tmp b):=upd_ne _ _ hb
 simpa only [KOp.wp,e1,e2] using h
theorem bDf {ρ:Env} {i:Nat} {t:Tmp} {vs:Array Value} {v:Value} {w:World} {k:Value→World→Prop} (ht:ρ t=.tuple vs) (hv:vs[i]? =some v) (hk:k v w):(KOp.extract i (.tmp t)).wp P ρ w k:=
 qE rfl (by simp [KOp.rd,KOp.fix,ev,ht,hv]) hk
end
end Go.K
namespace Go.Proofs.YtgloknkcfchnlaaGreat
section
open Go Go.K
attribute [local irreducible] aF aP bG KOp.wp K.Spec u32 leS vnS str aR dE bS idT aO aE aQ idN bB cH bY bT cE eO bF cI aK kI fP qT mQ bV evL inS inB jH fY jR gY gT nU gC dN gD dZ jN cF bU aV bK dU cG cN dB bE gL bQ bH kD nI aAr idS dP aF2 aF8 aW bW
theorem bMs {cs ds:List Value} {iv ov iv2 ov2:Value} {a b:Tx} (v:Value) (h rate:Int) (he:cs=aJ a iv ov) (he2:ds=aJ b iv2 ov2) (h1:iv.oneCell'=true) (h2:ov.oneCell'=true) (h3:iv2.oneCell'=true) (h4:ov2.oneCell'=true) (hv:v.oneCell'=true) (w:World):K.Spec Tryz.prog F.pack_Pair [.pointer none,.agg cs.toArray,.agg ds.toArray,aCt v h rate] w fun r w'=>r=.tuple #[.slice none 0 0,wR 1]∧Ext w w':=by
 subst he
 subst he2
 refine aNv rfl ?_
 unfold aE8
 refine oy ?_
 repeat' (first|refine zD (d:=some 5) rfl rfl (fun bt wt xt bt' (rt:Row wt ⟨bt,0,none⟩ (aJ a iv ov)) hbt0=>?_)|refine zD (d:=some 6) rfl rfl (fun bu wu xu bu' (ru:Row wu ⟨bu,0,none⟩ (aJ b iv2 ov2)) hbu0=>?_)|refine zD (d:=some 7) (cs:= [v,.int .i64 h,.int .i64 rate]) rfl rfl (fun bs ws xs bs' (rs:Row ws ⟨bs,0,none⟩ [v,.int .i64 h,.int .i64 rate]) hbs0=>?_)|refine go1 ?_|refine zg λ_ _=>?_|refine zi λ_ _=>?_)
 exact aA rfl ⟨rfl,by exact fx⟩
set_option maxHeartbeats 4000000 in
theorem uF (w:World):K.Spec Tryz.prog F.kedgelaw18_wakes [] w fun r w'=>r=.bool true∧Ext w w':=by
 refine aHy rfl ?_
 unfold vT
 refine oy ?_
 repeat' (first|refine zI (d:=some 13) (cs:= [.int .u16 500]) rfl (fun bz wz xz az hbz=>?_)|refine go1 ?_|refine zg λ_ _=>?_|refine zi λ_ _=>?_)
 refine zC rfl (lX (vals:= [500]) _ (bQd (E:=aLx) (M:= []) (l:= [500]) [⟨[.int .u16 500],rfl,by intro v hv;simp at hv;subst hv;rfl⟩] az rfl (.cons ⟨rfl,by decide,by decide⟩ .nil) (by simp) rfl) (by intro a ha;simp at ha;subst ha;decide)) ?_
 rintro vV w2 ⟨hv2,hb2,x2⟩
 rw [aVk] at hv2
 have x02:Unit→Ext w w2:=fun _=>xz.trans x2
 clear xz x2 az
 repeat' (first|(refine zC (d:=some 16) rfl (aQl _ hv2 gR (by decide)) ?_;rintro _ w3 ⟨b,mb,rfl,hS3,hb3,hmb3,x3⟩)|refine zE (d':=2) (fun _=>rfl) rfl rfl rfl (fun bs w4 x4 a4 (r4:Row w4 ⟨bs,0,none⟩ [.iface T.P_coins_Set (.pointer (some ⟨b,0,none⟩)),.int .i64 5,.int .i64 0]) hbs4=>?_)|refine zI (d:=some 21) (cs:= [.int .u8 0]) rfl (fun bz wz xz az hbz=>?_)|refine aT (d:=some 22) (cs:=gF zW0 (.slice (some ⟨bz,0,none⟩) 1 1)) rfl ?_|refine zI (d:=some 23) (cs:= [.int .u8 0]) rfl (fun by2 wy xy ay hby=>?_)|refine aT (d:=some 24) (cs:=gF zW2 (.slice (some ⟨by2,0,none⟩) 1 1)) rfl ?_|(refine zC (d:=some 25) rfl (bAr (N:= []) (V:=bQ) (a:=zW0) (b:=zW2) (B:=5242800) _ (SlE.ext (w:=w2) (by exact fx) hv2) ⟨_,rfl,SlE.toR (F:=u8E) (SlE.new (E:=u8E) (l:= [0]) (At.ext xy az) rfl (Nat.le_refl _)) (by simp),by decide,by decide⟩ ⟨_,rfl,SlE.toR (F:=u8E) (SlE.new (E:=u8E) (l:= [0]) ay rfl (Nat.le_refl _)) (by simp),by decide,by decide⟩ (by have:=gR.len;omega) (fun e he=>⟨(gR.each e he).2.2.1,by have:=(gR.each e he).2.2.2.1;omega⟩) (by decide) (fun e he=>by rw [(gR.each e he).2.1];exact aXr) (by simp)) ?_;rintro _ w5 ⟨ts,us,rfl,t5,u5,x5⟩)|refine go1 ?_|refine zg λ_ _=>?_|refine zi λ_ _=>?_)
 rw [bSl] at t5 u5
 rw [bSm] at u5
 obtain ⟨iv,ov,rfl,p1,p2,p3⟩:=id t5
 obtain ⟨iv2,ov2,rfl,q1,q2,q3⟩:=id u5
 have e1:=p1.one
 have e2:=p2.one
 have e3:=q1.one
 have e4:=q2.one
 have s35:=x3.size
 have l4:=a4.lt
 have l5:bs<w5.heap.size:=nLt l4 (Ext.size (show Ext w4 w5 by exact fx))
 have r5:Row w5 ⟨bs,0,none⟩ [.iface T.P_coins_Set (.pointer (some ⟨b,0,none⟩)),.int .i64 5,.int .i64 0]:=Row.ext (show Ext w4 w5 by exact fx) r4
 have S5:=hS3.ext (show Ext w3 w5 by exact fx)
 have x25:Ext w2 w5:=by exact fx
 have x05:Unit→Ext w w5:=fun _=>(x02 ()).trans x25
 clear x25 x5 xy xz x4 x3 a4 r4 az ay hS3 x02
 repeat' (first|refine zH (d:=some 3) (fun b3 w6 x6 a6 hb6=>?_)|refine zH (d:=some 4) (fun b4 w7 x7 a7 hb7=>?_)|refine aU (w0:=w5) (b:=b3) (n:=4) (vs:=aJ aW iv ov) (x6.trans x7) hb6 (At.ext x7 a6) rfl rfl rfl rfl (by simp [aJ,e1,e2];exact ⟨rfl,rfl⟩) (fun w8 x8 c8 a8 r8=>?_)|refine aU (w0:=w5) (b:=b4) (n:=4) (vs:=aJ bW iv2 ov2) x8 (by have:=x6.size;omega) (At.chg c8 a7 (by have:=a6.lt;simp;omega)) rfl rfl rfl rfl (by simp [aJ,e3,e4];exact ⟨rfl,rfl⟩) (fun w9 x9 c9 a9 r9=>?_)|refine go1 ?_|refine zg λ_ _=>?_|refine zi λ_ _=>?_)
 have l6:=a6.lt
 have r89:Row w9 ⟨b3,0,none⟩ (aJ aW iv ov):=Row.chg c9 r8 (by simp;omega)
 have lb3:=a8.lt
 have lb3:b3<w9.heap.size:=nLt lb3 c9.size
 have lb4:=a9.lt
 have r59:=Row.ext x9 r5
 have l9:bs<w9.heap.size:=nLt l5 x9.size
 have S9:=S5.ext x9
 have t9:=R.ext t5 x9
 have u9:=R.ext u5 x9
 have x09:Unit→Ext w w9:=fun _=>(x05 ()).trans x9
 clear x6 x7 x8 x9 c8 c9 a6 a7 a8 a9 r8 r5 S5 t5 u5 x05
 refine zC rfl (aBh _) ?_
 rintro _ w10 ⟨g,M,rfl,G10,x10⟩
 have hM10:=G10.lt
 have hB10:=G10.base
 have anchor:∀{w':World},Ext w9 w'→Row w' ⟨b3,0,none⟩ (aJ aW iv ov)∧Row w' ⟨b4,0,none⟩ (aJ bW iv2 ov2)∧Row w' ⟨bs,0,none⟩ [.iface T.P_coins_Set (.pointer (some ⟨b,0,none⟩)),.int .i64 5,.int .i64 0]∧eH w' (.iface T.P_coins_Set (.pointer (some ⟨b,0,none⟩))) (aL bQ)∧(∀N:List Nat,(∀b∈N,w9.heap.size≤b)→txR.rel N w' (aJ aW iv ov) aW∧txR.rel N w' (aJ bW iv2 ov2) bW):=fun x=>
  ⟨Row.ext x r89,Row.ext x r9,Row.ext x r59,eH.of_set (S9.ext x) (fun e he=>by rw [(gR.each e he).2.2.2.2.1];decide),fun N hN=>⟨R.step txR t9 x (by simp) (fun b hb=>.inr (hN b hb)),R.step txR u9 x (by simp) (fun b hb=>.inr (hN b hb))⟩⟩
 obtain ⟨A1,A2,A3,A4,A5⟩:=anchor x10
 obtain ⟨A6,A7⟩:=A5 M hB10
 clear A5 r89 r9 r59
 repeat' (first|(refine zC (d:=some 33) rfl (rI (M:=M) (U:= []) (N:=M) (l:= []) (f:=aL bQ) (cs:=aJ aW iv ov) (t:=aW) 5 0 _ ((GrU.of G10).ext (by exact fx)) (by simp) (by simp) (A4.ext (by exact fx)) (R.ext A6 (by exact fx)) bK0 (fun b hb=>nLt (hM10 b hb) (Ext.size (by exact fx))) (fun _ h=>h) (by simp) (by simp)) ?_;rintro _ w11 ⟨u1,er1,M1,rfl,hu1,he1,G11,c11,hM11, -⟩)|refine go1 ?_|refine zg λ_ _=>?_|refine zi λ_ _=>?_)
 rw [bTh.2] at G11
 rw [bTc] at he1
 obtain rfl:=aPg he1 (by decide)
 have x911:Ext w9 w11:=(Ext.chg x10 c11).mono (fun b hb=>.inr (hB10 b hb))
 obtain ⟨B1,B2,B3,B4,B5⟩:=anchor x911
 have hB11:=G11.gr.base
 have hM11':=G11.gr.lt
 obtain ⟨B6,B7⟩:=B5 M1 hB11
 have x911':Unit→Ext w9 w11:=fun _=>x911
 clear B5 A1 A2 A3 A4 A6 A7 x911 c11 x10 he1 hu1 hM11 hM10 hB10 G10
 repeat' (first|(refine zC (d:=some 41) rfl (aUq (M:=M1) (U:= []) (N:=M1) (l:= []) (f:=aL bQ) (cs:=aJ aW iv ov) (ds:=aJ bW iv2 ov2) (a:=aW) (b:=bW) 5 0 _ (G11.ext (by exact fx)) (by simp) (by simp) (B4.ext (by exact fx)) (R.ext B6 (by exact fx)) bK0 (R.ext B7 (by exact fx)) bP4 (fun b hb=>nLt (hM11' b hb) (Ext.size (by exact fx))) (fun _ h=>h) (by simp) (by simp) (fun _ _=>wpz)) ?_;rintro _ w12 ⟨u2,er2,M2,rfl,hu2,he2,G12,c12,hM12, -⟩)|refine go1 ?_|refine zg λ_ _=>?_|refine zi λ_ _=>?_)
 rw [bLe.2.2] at G12
 rw [bLe.2.1] at hu2
 rw [bLe.1] at he2
 obtain ⟨rfl, -⟩:=he2.nil_iff.1 rfl
 have x912:Ext w9 w12:=(Ext.chg (x911' ()) c12).mono (fun b hb=>.inr (hB11 b hb))
 obtain ⟨C1,C2,C3, -, -⟩:=anchor x912
 have hM12':=G12.gr.lt
 have hu12:=hu2.sl
 have x012:Unit→Ext w w12:=fun _=>(x09 ()).trans x912
 clear B1 B2 B3 B4 B6 B7 x912 c12 he2 hu2 hM12 hM11' hB11 G11 anchor
 repeat' (first|(refine zC (d:=some 48) rfl (bMs (a:=aW) (b:=bW) (.iface T.P_coins_Set (.pointer (some ⟨b,0,none⟩))) 5 0 rfl rfl e1 e2 e3 e4 rfl _) ?_;rintro _ w13 ⟨rfl,x13⟩)|(refine zC (d:=some 55) rfl (rT 11 _) ?_;rintro _ w14 ⟨rfl,rfl⟩)|refine aY (d:=some 62) rfl (SlE.ext (w:=w12) (by exact fx) hu12) ?_|(refine zC (d:=some 52) rfl (eK (M:=M2) (l:= [mK aW 0,mK bW 400]) _ (G12.ext (by exact fx)).gr.r (fun b hb=>nLt (hM12' b hb) (Ext.size (by exact fx))) (by simp)) ?_;rintro u14 w14 ⟨o14,x14⟩;have o14:=(o14.sub (M':= []) (by simp)).sl (by simp))|refine zG (d:=some 67) (E:=dC) (M:= []) (l:= [mK aW 0,mK bW 400]) rfl (o14.ext (by exact fx)) ?_|(refine aM (d:=some 72) (E:=dC) (M:= []) rfl rfl (n:=0) (l:= [mK aW 0,mK bW 400]) (o14.ext (by exact fx)) rfl (by simp) (fun ad cs r6 he=>?_);obtain ⟨iv6,ov6,rfl,g16,g26,g36⟩:=he)|(refine aM (d:=some 79) (E:=dC) (M:= []) rfl rfl (n:=1) (l:= [mK aW 0,mK bW 400]) (o14.ext (by exact fx)) rfl (by simp) (fun ad7 cs7 r7 he=>?_);obtain ⟨iv7,ov7,rfl,g17,g27,g37⟩:=he)|(refine zC (d:=some 87) rfl (rT 1 _) ?_;rintro _ w16 ⟨rfl,rfl⟩)|refine go1 ?_|refine zg λ_ _=>?_|refine zi λ_ _=>?_)
 exact aA rfl ⟨rfl,(x012 ()).trans (by exact fx)⟩
end
end Go.Proofs.YtgloknkcfchnlaaGreat
namespace Go.K
section
open Go Go.Proofs.YtgloknkcfchnlaaGreat
structure PAct where
 pair:Bool
 a:PSm
 b:PSm
 again:UInt8
instance:Inhabited PAct:=⟨⟨false,default,default,0⟩⟩
def vB (z:PAct) (fa fb:Value):List Value:=.bool z.pair::(gF z.a fa++(gF z.b fb++ [u8V z.again]))
def aGp:R PAct where
 k:=16
 pos:=by decide
 ag:=true
 rel:=fun M w cs z=>∃fa fb,cs=vB z fa fb∧jK.rel M w (gF z.a fa) z.a∧jK.rel M w (gF z.b fb) z.b
 len:=fun ⟨_,_,h,_⟩=>by rw [h];rfl
 one:=fun ⟨fa,fb,h,h1,h2⟩ v hv=>by
  subst h
  rw [vB,List.mem_cons,List.mem_append,List.mem_append] at hv
  rcases hv with rfl|hv|hv|hv
  ·rfl
  ·exact jK.one h1 v hv
  ·exact jK.one h2 v hv
  ·simp at hv;subst hv;rfl
 step:=fun ⟨fa,fb,h,h1,h2⟩ c hL hM=>⟨fa,fb,h,jK.step h1 c hL hM,jK.step h2 c hL hM⟩
end
section
open Go Go.Proofs.YtgloknkcfchnlaaGreat
theorem bCy {l:List Ent} {x:Ent} {t:Tx} (h:aRb (l++ [x]) t l.length=false):aK (l++ [x]) (bF (l++ [x]) t)=aK l (bF l t):=by
 have hl:(l++ [x]).length=l.length+1:=by simp
 have he:(l++ [x]).eraseIdx l.length=l:=by
  rw [List.eraseIdx_append_of_length_le (Nat.le_refl _)];simp
 have hA:bF ((l++ [x]).eraseIdx l.length) t=(bF (l++ [x]) t).eraseIdx l.length:=by
  have hlen:((l++ [x]).eraseIdx l.length).length=(l++ [x]).length - 1:=by rw [he,hl];rfl
  unfold bF
  rw [hlen]
  refine bA7 (by omega) (fun j hj=>?_) (fun k j hk hj=>?_) (fun i hi hne h1=>?_)
  ·rw [aHm hj]
  ·unfold aBc;rw [aHm hj,aHm hk]
  ·unfold aRb at h;rw [h] at h1;cases h1
 have hal:(bF (l++ [x]) t).length=l.length+1:=by unfold bF;rw [mZ,hl]
 have hAq:(bF (l++ [x]) t)[l.length]'(by omega)=false:=by
  unfold bF nW
  rw [List.getElem_map,List.getElem_range];exact h
 have h2:=aMz (l:=l++ [x]) (m:=bF (l++ [x]) t) (q:=l.length) (by omega) (by omega) hAq
 rw [←hA,he] at h2
 exact h2.symm
theorem bEg {W:List Ent} {x:Ent} {t:Tx} {s:ByteArray} (hn:((W++ [x]).map (·.id)).Nodup) (h3:aK (W++ [x]) (bF (W++ [x]) t)= [s]) (hne:x.id≠s):aK W (bF W t)= [s]:=by
 rw [←h3]
 refine (bCy ?_).symm
 by_cases e:aRb (W++ [x]) t W.length=true
 ·have hlt:W.length<(W++ [x]).length:=by simp
  have h5:=(aLs (p:=aRb (W++ [x]) t) hn hlt).2 e
  have h6:aK (W++ [x]) (List.map (aRb (W++ [x]) t) (List.range (W++ [x]).length))= [s]:=h3
  rw [h6,List.mem_singleton,List.getElem_append_right (Nat.le_refl _)] at h5
  exact absurd (by simpa using h5) hne
 ·simpa using e
theorem bR0 {l:List Ent} {t:Tx} (hn:(l.map (·.id)).Nodup) (h:aK l (evL l t)= []):(aK l (bV l t)).length=0:=by
 rw [aAp,List.any_eq_false]
 intro x hx hh
 obtain ⟨k,hk,rfl⟩:=List.getElem_of_mem hx
 have:l[k].id∈aK l (evL l t):=(aSa hn).2 ⟨l[k],hx,hh,(rO hn hk).2 ((aBn hn hk hk).2 (.inl rfl))⟩
 rw [h] at this;cases this
theorem aUy {f:Pt→Option Cn} {l:List Ent} {t:Tx} {h rate:Int} (hn:(l.map (·.id)).Nodup) (h0:(dU f l t h rate).1=0) (h1:cG f l t h rate= []):
  (bH f l t h).2.1=0∧dB rate (aO t)≤(bH f l t h).1∧cN f l t h rate=dP f l t h∧aE t=0∧eU l (idT t)=false:=by
 obtain ⟨a1,a2,a3,a4⟩:=tF h0
 obtain ⟨b1,b2,b3⟩:=aCf hn h0
 rw [b1] at h1
 have er:pU l t=l:=by unfold pU;rw [h1];rfl
 rw [er] at a4 b2
 obtain ⟨hc, -,hh, -⟩:=fL a1
 have e:=aMc a1 (by rw [bR0 hn h1];decide) a4
 refine ⟨by rw [e],by rw [e];exact a2,?_,hc,hh⟩
 rw [b3,←b2]
 unfold dP
 rw [e]
theorem bCo (n:Nat):dB 0 n=(n:Nat):=by
 unfold dB
 have e:(min (max (0:Int) 1000) 100000000).toNat=1000:=by decide
 rw [e]
 omega
theorem bE7 {f:Pt→Option Cn} {l:List Ent} {a b:Tx} {h:Int} (hn:(l.map (·.id)).Nodup) (hE:∀x∈l,EntOk x) (h1:(dU f l a h 0).1=0) (h1':cG f l a h 0= []) (h2:(dU f (cN f l a h 0) b h 0).1=0) (h2':cG f (cN f l a h 0) b h 0= []) (hn2:((cN f l a h 0).map (·.id)).Nodup) (hn3:((cN f (cN f l a h 0) b h 0).map (·.id)).Nodup)
  (h3:aK (cN f (cN f l a h 0) b h 0) (bF (cN f (cN f l a h 0) b h 0) b)= [idS a]):
  (kD f l a b h 0).1=0∧aAr f l a b h 0=cN f (cN f l a h 0) b h 0:=by
 obtain ⟨p1,p2,p3,p4,p5⟩:=aUy hn h1 h1'
 obtain ⟨q1,q2,q3,q4,q5⟩:=aUy hn2 h2 h2'
 rw [q3] at h3 hn3 ⊢
 rw [p3] at q1 q2 q5 h3 hn3 ⊢
 have hia:idS a=idT a:=bKc p4
 have hno:¬eU l (idS a)=true:=by rw [hia,p5];decide
 have h4:aK (dP f l a h) (bF (dP f l a h) b)= [idS a]:=by
  refine bEg (x:=mK b (bH f (dP f l a h) b h).1) hn3 h3 fun h7=>?_
  have h7:idT b=idS a:=h7
  have:eU (dP f l a h) (idT b)=true:=by
   rw [h7,hia]
   unfold dP eU
   simp [mK]
  rw [q5] at this;cases this
 have h5:¬(bH f l a h).1+(bH f (dP f l a h) b h).1<dB 0 (aO a+aO b):=by
  rw [bCo] at p2 q2 ⊢
  omega
 obtain ⟨e1, -,e3⟩:=aW3 (rate:=0) hno p1 h4 q1 h5
 exact ⟨by rw [e1],by rw [e3];rfl⟩
end
end Go.K
namespace Go.Proofs.YtgloknkcfchnlaaGreat
section
open Go Go.K
attribute [local irreducible] aF aP bG KOp.wp K.Spec u32 leS vnS str aR dE bS idT aO aE aQ idN bB cH bY bT cE eO bF cI aK kI fP qT mQ bV evL inS inB jH fY jR gY gT nU gC dN gD dZ jN cF bU aV bK dU cG cN dB bE gL bQ cX nS rC gU fC bH kD nI aAr idS dP aF2 aF8
abbrev aV7 (b:Nat) (h rate:Int):List Value:= [.iface T.P_coins_Set (.pointer (some ⟨b,0,none⟩)),.int .i64 h,.int .i64 rate]
def G8 (vV:Value) (g bp:Nat) (la:PAct) (fa fb:Value) (V:List En) (l:List Ent) (M:List Nat) (A Bt:Tx) (B6:Nat):Nat→Value→World→Prop
 |0,v,_=>v=vV
 |1,v,_=>v=.pointer (some ⟨g,0,none⟩)
 |2,v,w=>SlR dC [] w v l
 |3,v,w=>SlE bM w v (cX V l 9)
 |4,v,_=>v=.pointer (some ⟨bp,1,none⟩)
 |5,v,_=>v=.agg (gF la.a fa).toArray
 |6,v,_=>v=.pointer (some ⟨bp,8,none⟩)
 |7,v,_=>v=.agg (gF la.b fb).toArray
 |8,v,w=>∃ts us:List Value,v=.tuple #[.agg ts.toArray,.agg us.toArray]∧txR.rel M w ts A∧txR.rel M w us Bt
 |9,v,w=>∃ts us:List Value,v=.tuple #[.agg ts.toArray,.agg us.toArray]∧txR.rel M w ts A∧txR.rel M w us Bt
 |10,v,w=>∃ts:List Value,v=.agg ts.toArray∧txR.rel M w ts A
 |11,v,w=>∃us:List Value,v=.agg us.toArray∧txR.rel M w us Bt
 |12,v,w=>∃b,v=.pointer (some ⟨b,0,none⟩)∧B6≤b∧b<w.heap.size∧At w b (.cells zTx.toArray T.api_Tx (0,0))
 |13,v,w=>∃b,v=.pointer (some ⟨b,0,none⟩)∧B6≤b∧b<w.heap.size∧At w b (.cells zTx.toArray T.api_Tx (0,0))
 |_+14,_,_=>True
def bQn:List (KI × List Nat):= [(⟨some 52,.move (.tmp 7),none⟩, []),(⟨some 53,.move (.tmp 8),none⟩, []),(⟨some 54,.call F.graph_Graph_All [.tmp 53],none⟩, [1]),(⟨some 55,.call F.kedgeref17_Over [.tmp 52,.tmp 54,.const (.int .i64 9)],none⟩, [0,2,2]),(⟨some 56,.fieldAddr 1 (.tmp 5),none⟩, []),(⟨some 57,.loadN 7 (.tmp 56),none⟩, [4]),(⟨some 58,.fieldAddr 8 (.tmp 5),none⟩, []),(⟨some 59,.loadN 7 (.tmp 58),none⟩, [6]),(⟨some 60,.call F.kedgelaw18_two [.tmp 55,.tmp 57,.tmp 59],none⟩, [3,5,7,3]),(⟨some 51,.move (.tmp 60),none⟩, [8]),(⟨some 61,.extract 0 (.tmp 51),none⟩, [9]),(⟨some 62,.extract 1 (.tmp 51),none⟩, [9]),(⟨some 12,.alloc T.api_Tx zTx,none⟩, []),(⟨some 13,.alloc T.api_Tx zTx,none⟩, [])]
def H8 (i:Nat) (v:Value) (w:World):Prop:=i=12∨i=13→∃b,v=.pointer (some ⟨b,0,none⟩)∧w.heap.size≤b
def J8 (i j:Nat) (v v':Value):Prop:=i=12∧j=13∨i=13∧j=12→v≠v'
theorem bR2 {vV:Value} {g bp:Nat} {la:PAct} {fa fb:Value} {V:List En} {l:List Ent} {M:List Nat} {A Bt:Tx} {B6:Nat} {w w':World} (x:Ext w w'):∀{i:Nat} {v:Value},G8 vV g bp la fa fb V l M A Bt B6 i v w→G8 vV g bp la fa fb V l M A Bt B6 i v w'
 |0,_,h=>h
 |1,_,h=>h
 |2,_,h=>SlR.ext h x
 |3,_,h=>SlE.ext x h
 |4,_,h=>h
 |5,_,h=>h
 |6,_,h=>h
 |7,_,h=>h
 |8,_,⟨ts,us,e,h1,h2⟩=>⟨ts,us,e,R.ext h1 x,R.ext h2 x⟩
 |9,_,⟨ts,us,e,h1,h2⟩=>⟨ts,us,e,R.ext h1 x,R.ext h2 x⟩
 |10,_,⟨ts,e,h1⟩=>⟨ts,e,R.ext h1 x⟩
 |11,_,⟨ts,e,h1⟩=>⟨ts,e,R.ext h1 x⟩
 |12,_,⟨b,e,h1,h2,h3⟩=>⟨b,e,h1,nLt h2 x.size,At.ext x h3⟩
 |13,_,⟨b,e,h1,h2,h3⟩=>⟨b,e,h1,nLt h2 x.size,At.ext x h3⟩
 |_+14,_,_=>trivial
theorem bQp {vV:Value} {g bp:Nat} {la:PAct} {fa fb:Value} {V:List En} {l:List Ent} {M:List Nat} {A Bt:Tx} {B6:Nat} {w:World} {i j:Nat} {v v':Value} (_hij:i≠j) (h1:H8 i v w) (h2:G8 vV g bp la fa fb V l M A Bt B6 j v' w):J8 i j v v'∧J8 j i v' v:=by
 have key:(i=12∧j=13∨i=13∧j=12)→v≠v':=by
  intro h e
  obtain ⟨b,rfl,hb⟩:=h1 (by omega)
  rcases h with ⟨rfl,rfl⟩|⟨rfl,rfl⟩
  ·obtain ⟨b',e', -,hlt, -⟩:=h2
   rw [e'] at e
   simp only [Value.pointer.injEq,Option.some.injEq,Addr.mk.injEq,and_true] at e
   omega
  ·obtain ⟨b',e', -,hlt, -⟩:=h2
   rw [e'] at e
   simp only [Value.pointer.injEq,Option.some.injEq,Addr.mk.injEq,and_true] at e
   omega
 exact ⟨key,fun h e=>key (by omega) e.symm⟩
set_option maxHeartbeats 4000000 in
theorem bHu {v u:Value} {vals:List Int} {sc:List PAct} {la:PAct} {lcs:List Value} (w:World) (hvals:SlR aLx [] w v vals) (hr:∀a∈vals,0≤a∧a≤65535) (hsc:SlR aGp [] w u sc) (hla:aGp.rel [] w lcs la):
  K.Spec Tryz.prog F.kedgelaw18_PackAlone [v,u,.agg lcs.toArray] w fun r w'=>r=.bool true∧Ext w w':=by
 have hla0:=hla
 obtain ⟨fa,fb,rfl,hfa,hfb⟩:=hla
 refine aCj rfl ?_
 unfold pX
 refine oy ?_
 repeat' (first|refine zD (d:=some 5) (cs:=vB la fa fb) rfl rfl (fun bp w1 x1 a1 (r1:Row w1 ⟨bp,0,none⟩ (vB la fa fb)) hbp=>?_)|(refine zC (d:=some 24) rfl (lX _ (SlR.ext hvals (by exact fx)) hr) ?_;rintro vV w2 ⟨hv2,hb2,x2⟩)|refine go1 ?_|refine zg λ_ _=>?_|refine zi λ_ _=>?_)
 have hc8:CoinsOk (gL vals (min vals.length 8)) 8:=(rY hr _).more (by omega)
 generalize gL vals (min vals.length 8)=V at hv2 hc8
 refine zC rfl (aBh _) ?_
 rintro _ w3 ⟨g,M0,rfl,G3,x3⟩
 repeat' (first|(refine zC (d:=some 27) rfl (aQl _ (SlE.ext (w:=w2) (by exact fx) hv2) hc8 (by decide)) ?_;rintro _ w4 ⟨b,mb,rfl,hS4,hb4,hmb4,x4⟩)|refine zE (d':=9) (fun _=>rfl) rfl rfl rfl (fun bs w5 x5 a5 (r5:Row w5 ⟨bs,0,none⟩ (aV7 b 9 0)) hbs5=>?_)|refine zG (d:=some 32) (E:=aGp) (M:= []) (l:=sc) rfl (SlR.ext hsc (by exact fx)) ?_|refine aH3 (d:=some 33) rfl rfl ?_|refine tE (d:=some 34) (E:=aGp) (n:=min sc.length 6) rfl rfl (by omega) hsc (by omega) rfl (fun v' hv'=>?_)|refine zG (d:=some 35) (E:=aGp) (M:= []) (l:=sc.take (min sc.length 6)) rfl (SlR.ext hv' (by exact fx)) ?_|refine go1 ?_|refine zg λ_ _=>?_|refine zi λ_ _=>?_)
 have hSl:(sc.take (min sc.length 6)).length≤6:=by rw [List.length_take];omega
 generalize sc.take (min sc.length 6)=S at*
 have hB3:=G3.base
 have hM03:=G3.lt
 have l5:=a5.lt
 have s23:=x3.size
 have s34:=x4.size
 have s45:=x5.size
 have s02:w.heap.size≤w2.heap.size:=Ext.size (show Ext w w2 by exact fx)
 have x25:Unit→Ext w2 w5:=fun _=>x3.trans (x4.trans x5)
 have x05:Unit→Ext w w5:=fun _=>by exact fx
 have n1:b∉M0:=fun h=>by have:=hM03 b h;omega
 have n2:mb∉M0:=fun h=>by have:=hM03 mb h;omega
 have n3:bs∉M0:=fun h=>by have:=hM03 bs h;omega
 have G5:=G3.ext (x4.trans x5)
 have hS5:=hS4.ext x5
 have a12:=a1.ext x2
 have l1:=a12.lt
 have rp2:Row w2 ⟨bp,0,none⟩ (vB la fa fb):=Row.ext x2 r1
 have hbpB:bp<w2.heap.size:=l1
 clear x2 x3 x4 x5 a5 G3 hM03 hS4 hvals a1 r1 a12 x1
 repeat' (first|(refine aI (a:=.seq _ (.seq (.cond _ _ _) (.seq (.block 1 _) _))) (fun (p:Nat × List Ent × List Nat) w'=>Ext w2 w'∧Ext w w'∧p.1≤S.length∧p.2.1.length≤p.1∧Gr w' w2.heap.size g p.2.2 p.2.1∧Row w' ⟨bs,0,none⟩ (aV7 b 9 0)∧bs∉p.2.2∧bs<w'.heap.size∧mD T.coins_Set w' b mb V∧b∉p.2.2∧mb∉p.2.2∧Money V p.2.1 9 (nS p.1)) (fun p=> [(5,.pointer (some ⟨bp,0,none⟩)),(7,vV),(8,.pointer (some ⟨g,0,none⟩)),(9,.pointer (some ⟨bs,0,none⟩)),(34,v'),(35,.int .i64 (S.length:Nat)),(36,.int .i64 p.1)]) (fun p=>S.length - p.1) (0, [],M0) ⟨rfl,rfl,rfl,rfl,rfl,rfl,rfl,trivial⟩ ⟨x25 (),x05 (),by simp,by simp,G5,r5,n3,l5,hS5,n1,n2,aVz hc8 9⟩ ?_;rintro ⟨i,l,M⟩ ρ w6 ⟨x26,x06,hi,hli,G6,r6,hbsM,lbs,hS6,hbM,hmbM,hMon⟩;simp only at hi hli G6 hbsM hbM hmbM hMon;dsimp only)|refine zL (x:=.tmp 37) (p:=((i:Nat):Int)<((S.length:Nat):Int)) rfl (fun h5=>?_) (fun h5=>?_)|refine go1 ?_|refine zg λ_ _=>?_|refine zi λ_ _=>?_)
 ·clear G5 r5 hS5
  have hil:i<S.length:=by omega
  have hlen:l.length≤1000:=by omega
  have hE6:=G6.ok
  have hnd6:=G6.nodup
  have hM6:=G6.lt
  have hB6:=G6.base
  obtain ⟨hV1,hV2,hV3⟩:=aB6 hc8 (by decide) hE6 hlen hMon
  have hmb:=wT (i:=i) (by omega)
  refine aM (d:=some 38) (E:=aGp) (M:=M) rfl rfl (n:=i) (l:=S) (SlR.step hv' x06 (by simp) (fun b hb=>.inr (by have:=hB6 b hb;omega))) rfl hil (fun ad cs r7 he=>?_)
  obtain ⟨fv,fv2,rfl,he1,he2⟩:=he
  generalize S[i]=Z at*
  have one1:=jK.one he1
  have one2:=jK.one he2
  obtain ⟨z,hz⟩:∃z,z=Z.a:=⟨_,rfl⟩
  obtain ⟨t,ht⟩:∃t,t=bE (cX V l 9) Z.a:=⟨_,rfl⟩
  have hsmt:t.Sm:=by rw [ht];exact jY _ _
  have x26':Unit→Ext w2 w6:=fun _=>x26
  have x06':Unit→Ext w w6:=fun _=>x06
  clear x26 x06
  repeat' (first|refine zE (d':=11) (fun _=>rfl) rfl rfl (List.all_eq_true.2 (aGp.one ⟨fv,fv2,rfl,he1,he2⟩)) (fun b12 w7 x7 a12 (r12:Row w7 ⟨b12,0,none⟩ (vB Z fv fv2)) hb12=>?_)|refine zg (fun w9 x9=>?_)|refine zi (fun w9 x9=>?_)|refine dJ (b:=.cons ⟨some 49,_,_⟩ _) (fun (p:List Value) w'=>Ext w6 w'∧txR.rel M w' p t) (fun p=> [(5,.pointer (some ⟨bp,0,none⟩)),(7,vV),(8,.pointer (some ⟨g,0,none⟩)),(9,.pointer (some ⟨bs,0,none⟩)),(34,v'),(35,.int .i64 (S.length:Nat)),(36,.int .i64 i),(40,.pointer (some ⟨g,0,none⟩)),(47,.agg p.toArray),(48,.agg (aV7 b 9 0).toArray)]) ?_ ?_|(rintro p ρ9 w10 ⟨x610,t10⟩;try dsimp only)|refine zB ?_ ?_|(refine zC (d:=some 43) rfl (eK (M:=M) (l:=l) _ (G6.ext (by exact fx)).r (fun b hb=>nLt (hM6 b hb) (Ext.size (by exact fx))) (by omega)) ?_;rintro u55 w55 ⟨o55,x55⟩;have o55:=(o55.sub (M':= []) (by simp)).sl (by simp))|(refine zC (d:=some 44) rfl (kY (M:= []) (V:=V) (l:=l) 9 _ (SlE.ext (w:=w2) ((x26' ()).trans (by exact fx)) hv2) (o55.ext (by exact fx)) (by have:=hc8.len;omega) hlen (fun x hx=>lG (hE6 x hx))) ?_;rintro v56 w56 ⟨o56,x56⟩;have o56:=o56.sl)|(refine zC (d:=some 47) rfl (gQ (M:=M) (V:=cX V l 9) (z:=Z.a) (B:=nS i) _ (SlE.ext (w:=w56) (by exact fx) o56) (R.ext he1 (show Ext w6 _ by exact fx)) hV3 hV1 ⟨hmb.1,by have:=hmb.2;omega⟩ hV2 (fun x hx=>nLt (hM6 x hx) (Ext.size (by exact fx)))) ?_;rintro _ w58 ⟨p,rfl,tB,x58⟩;have tB:=txO.rel tB (fun x hx=>nLt (hM6 x hx) (Ext.size (by exact fx)));rw [←ht] at tB)|(exact ⟨p,⟨rfl,rfl,rfl,rfl,rfl,rfl,rfl,rfl,rfl,rfl,trivial⟩,by exact fx,R.ext tB (by exact fx)⟩)|refine go1 ?_|refine zg λ_ _=>?_|refine zi λ_ _=>?_)
  have G10:=G6.ext x610
  have hS10:=hS6.ext x610
  have hll:(cN (aL V) l t 9 0).length≤l.length+1:=aHq hnd6
  refine zC (d:=some 49) rfl (pL (M:=M) (N:=M) (l:=l) (f:=aL V) (t:=t) 9 0 _ G10 (eH.of_set hS10 (fun e he=>by rw [(hc8.each e he).2.2.2.2.1];decide)) t10 hsmt (fun b hb=>nLt (hM6 b hb) x610.size) (fun _ h=>h) hlen (fun x hx=>by have:=hMon.fee x hx;omega)) ?_
  rintro _ w14 ⟨u14,er,M1,rfl, -, -,G14,c14,hM14, -⟩
  have s610:=x610.size
  have s1014:=c14.size
  have hMon14:Money V (cN (aL V) l t 9 0) 9 (nS (i+1)):=hMon.step hc8 hnd6 hE6 hlen ht
  have x214:Ext w2 w14:=(Ext.chg ((x26' ()).trans x610) c14).mono (fun b hb=>.inr (hB6 b hb))
  have x014:Ext w w14:=(Ext.chg ((x06' ()).trans x610) c14).mono (fun b hb=>.inr (by have:=hB6 b hb;omega))
  have lb:=hS10.at_.lt
  have lmb:=hS10.2.1.lt
  have new:∀y,y<w10.heap.size→y∉M→y∉M1:=fun y h1 h2 h3=>by
   rcases hM14 y h3 with h|h
   ·exact h2 h
   ·omega
  have rs14:Row w14 ⟨bs,0,none⟩ (aV7 b 9 0):=Row.chg c14 (Row.ext x610 r6) hbsM
  have hS14:=hS10.chg c14 hbM hmbM
  repeat' (first|refine go1 ?_|refine zg λ_ _=>?_|refine zi λ_ _=>?_)
  exact ⟨(i+1,cN (aL V) l t 9 0,M1),⟨rfl,rfl,rfl,rfl,rfl,rfl,rfl,trivial⟩,⟨x214,x014,by simp;omega,by simp;omega,G14,rs14,new _ (by omega) hbsM,by omega,hS14,new _ lb hbM,new _ lmb hmbM,hMon14⟩,by simp;omega⟩
 ·clear G5 r5 hS5
  have hlen:l.length≤6:=by omega
  have hE6:=G6.ok
  have hnd6:=G6.nodup
  have hM6:=G6.lt
  have hB6:=G6.base
  obtain ⟨hV1,hV2, -⟩:=aB6 hc8 (by decide) hE6 (by omega) hMon
  have hmb:=wT (i:=i) (by omega)
  have hvl:=aN9 (V:=V) hc8.len (by omega) hE6 9
  have rp6:Row w6 ⟨bp,0,none⟩ (vB la fa fb):=Row.ext x26 rp2
  have hv6:=SlE.ext x26 hv2
  have hA6:jK.rel M w6 (gF la.a fa) la.a:=jK.step hfa x06 (by simp) (fun b hb=>.inr (by have:=hB6 b hb;omega))
  have hB6':jK.rel M w6 (gF la.b fb) la.b:=jK.step hfb x06 (by simp) (fun b hb=>.inr (by have:=hB6 b hb;omega))
  have s26:=x26.size
  have lbp6:bp<w6.heap.size:=by omega
  obtain ⟨A,hA⟩:∃A,A=bE (cX V l 9) la.a:=⟨_,rfl⟩
  obtain ⟨Bt,hBt⟩:∃Bt,Bt=bE (aF2 (cX V l 9) A) la.b:=⟨_,rfl⟩
  have x06':Unit→Ext w w6:=fun _=>x06
  clear x06 x26 hsc hv2 hv' rp2
  repeat (first|refine go1 ?_|refine zg λ_ _=>?_|refine zi λ_ _=>?_)
  refine bRb bQn (⟨none,.storeN 4 (.tmp 12) (.tmp 61),none⟩, [12,10,8,0,1,2,3,4,5,6,7,8,9,10,12,13]) [(⟨none,.storeN 4 (.tmp 13) (.tmp 62),none⟩, [13,11,14,0,1,2,3,4,5,6,7,8,9,10,11,12,13,14])] 11 9 [(5,.pointer (some ⟨bp,0,none⟩)),(7,vV),(8,.pointer (some ⟨g,0,none⟩)),(9,.pointer (some ⟨bs,0,none⟩))] (G8 vV g bp la fa fb V l M A Bt w6.heap.size) H8 J8 ?_ ?_ ?_ ?_ ⟨rfl,rfl⟩ ?_ ⟨rfl,rfl,rfl,rfl,trivial⟩ (fun i v w w' x h=>bR2 x h) (fun i j v v' w hij h1 h2=>bQp hij h1 h2) ?_ ?_ ?_ ?_ ?_
  ·rfl
  ·exact Nat.le_of_ble_eq_true (by kernel_rfl)
  ·kernel_rfl
  ·kernel_rfl
  ·kernel_rfl
  rotate_left
  ·exact ⟨Nat.le_of_ble_eq_true (by kernel_rfl),by decide⟩
  ·exact fun v9 w' ⟨ts,us,e,h1,h2⟩=>⟨.agg us.toArray,⟨us,rfl,h2⟩,fun ρ w'' k hρ hk=>bDf (t:=51) (hρ.trans e) rfl hk⟩
  ·exact fun ρ w' val k h=>aZz (n:=4) (a:=12) (b:=61) (t:=62) (by decide) (by decide) h
  rotate_right
  ·refine ⟨fun ρ1 w7 x7=>?_,fun ρ1 w7 x7=>?_,fun ρ1 w7 x7=>?_,fun ρ1 w7 x7=>?_,fun ρ1 w7 x7=>?_,fun ρ1 w7 x7=>?_,fun ρ1 w7 x7=>?_,fun ρ1 w7 x7=>?_,fun ρ1 w7 x7=>?_,fun ρ1 w7 x7=>?_,fun ρ1 w7 x7=>?_,fun ρ1 w7 x7=>?_,fun ρ1 w7 x7=>?_,fun ρ1 w7 x7=>?_,trivial⟩
   ·show aF _ (.cons ⟨some 52,.move (.tmp 7),none⟩ .nil) (fun ρ' w'=>Ext w7 w'∧G8 vV g bp la fa fb V l M A Bt w6.heap.size 0 (ρ' 52) w'∧H8 0 (ρ' 52) w7) (tV ρ1 ([(5,Value.pointer (some ⟨bp,0,none⟩)),(7,vV),(8,Value.pointer (some ⟨g,0,none⟩)),(9,Value.pointer (some ⟨bs,0,none⟩))])) w7
    repeat (first|refine go1 ?_|refine zg λ_ _=>?_|refine zi λ_ _=>?_)
    exact ⟨Ext.refl _,rfl,fun h=>absurd h (by decide)⟩
   ·show aF _ (.cons ⟨some 53,.move (.tmp 8),none⟩ .nil) (fun ρ' w'=>Ext w7 w'∧G8 vV g bp la fa fb V l M A Bt w6.heap.size 1 (ρ' 53) w'∧H8 1 (ρ' 53) w7) (tV ρ1 ([(5,Value.pointer (some ⟨bp,0,none⟩)),(7,vV),(8,Value.pointer (some ⟨g,0,none⟩)),(9,Value.pointer (some ⟨bs,0,none⟩))])) w7
    repeat (first|refine go1 ?_|refine zg λ_ _=>?_|refine zi λ_ _=>?_)
    exact ⟨Ext.refl _,rfl,fun h=>absurd h (by decide)⟩
   ·intro v1 h1
    obtain rfl:v1=.pointer (some ⟨g,0,none⟩):=h1
    show aF _ (.cons ⟨some 54,.call F.graph_Graph_All [.tmp 53],none⟩ .nil) (fun ρ' w'=>Ext w7 w'∧G8 vV g bp la fa fb V l M A Bt w6.heap.size 2 (ρ' 54) w'∧H8 2 (ρ' 54) w7) (tV ρ1 ([(53,Value.pointer (some ⟨g,0,none⟩))]++ [(5,Value.pointer (some ⟨bp,0,none⟩)),(7,vV),(8,Value.pointer (some ⟨g,0,none⟩)),(9,Value.pointer (some ⟨bs,0,none⟩))])) w7
    refine zC rfl (eK (M:=M) (l:=l) _ (G6.ext x7).r (fun b hb=>nLt (hM6 b hb) x7.size) (by omega)) ?_
    rintro u8 w8 ⟨o8,x8⟩
    have o8:=(o8.sub (M':= []) (by simp)).sl (by simp)
    repeat (first|refine go1 ?_|refine zg λ_ _=>?_|refine zi λ_ _=>?_)
    exact ⟨x8,o8,fun h=>absurd h (by decide)⟩
   ·intro v0 h0 v2 h2
    obtain rfl:v0=vV:=h0
    have h2:SlR dC [] w7 v2 l:=h2
    show aF _ (.cons ⟨some 55,.call F.kedgeref17_Over [.tmp 52,.tmp 54,.const (.int .i64 9)],none⟩ .nil) (fun ρ' w'=>Ext w7 w'∧G8 v0 g bp la fa fb V l M A Bt w6.heap.size 3 (ρ' 55) w'∧H8 3 (ρ' 55) w7) (tV ρ1 ([(54,v2),(52,v0)]++ [(5,Value.pointer (some ⟨bp,0,none⟩)),(7,v0),(8,Value.pointer (some ⟨g,0,none⟩)),(9,Value.pointer (some ⟨bs,0,none⟩))])) w7
    refine zC rfl (kY (M:= []) (V:=V) (l:=l) 9 _ (SlE.ext x7 hv6) h2 (by have:=hc8.len;omega) (by omega) (fun x hx=>lG (hE6 x hx))) ?_
    rintro u8 w8 ⟨o8,x8⟩
    have o8:=o8.sl
    repeat (first|refine go1 ?_|refine zg λ_ _=>?_|refine zi λ_ _=>?_)
    exact ⟨x8,o8,fun h=>absurd h (by decide)⟩
   ·have rp7:Row w7 ⟨bp,0,none⟩ (vB la fa fb):=Row.ext x7 rp6
    show aF _ (.cons ⟨some 56,.fieldAddr 1 (.tmp 5),none⟩ .nil) (fun ρ' w'=>Ext w7 w'∧G8 vV g bp la fa fb V l M A Bt w6.heap.size 4 (ρ' 56) w'∧H8 4 (ρ' 56) w7) (tV ρ1 ([(5,Value.pointer (some ⟨bp,0,none⟩)),(7,vV),(8,Value.pointer (some ⟨g,0,none⟩)),(9,Value.pointer (some ⟨bs,0,none⟩))])) w7
    repeat (first|refine go1 ?_|refine zg λ_ _=>?_|refine zi λ_ _=>?_)
    exact ⟨Ext.refl _,rfl,fun h=>absurd h (by decide)⟩
   ·intro v4 h4
    obtain rfl:v4=.pointer (some (Addr.add ⟨bp,0,none⟩ 1)):=h4
    have rp7:Row w7 ⟨bp,0,none⟩ (vB la fa fb):=Row.ext x7 rp6
    show aF _ (.cons ⟨some 57,.loadN 7 (.tmp 56),none⟩ .nil) (fun ρ' w'=>Ext w7 w'∧G8 vV g bp la fa fb V l M A Bt w6.heap.size 5 (ρ' 57) w'∧H8 5 (ρ' 57) w7) (tV ρ1 ([(56,Value.pointer (some (Addr.add ⟨bp,0,none⟩ 1)))]++ [(5,Value.pointer (some ⟨bp,0,none⟩)),(7,vV),(8,Value.pointer (some ⟨g,0,none⟩)),(9,Value.pointer (some ⟨bs,0,none⟩))])) w7
    repeat (first|refine go1 ?_|refine zg λ_ _=>?_|refine zi λ_ _=>?_)
    exact ⟨Ext.refl _,rfl,fun h=>absurd h (by decide)⟩
   ·have rp7:Row w7 ⟨bp,0,none⟩ (vB la fa fb):=Row.ext x7 rp6
    show aF _ (.cons ⟨some 58,.fieldAddr 8 (.tmp 5),none⟩ .nil) (fun ρ' w'=>Ext w7 w'∧G8 vV g bp la fa fb V l M A Bt w6.heap.size 6 (ρ' 58) w'∧H8 6 (ρ' 58) w7) (tV ρ1 ([(5,Value.pointer (some ⟨bp,0,none⟩)),(7,vV),(8,Value.pointer (some ⟨g,0,none⟩)),(9,Value.pointer (some ⟨bs,0,none⟩))])) w7
    repeat (first|refine go1 ?_|refine zg λ_ _=>?_|refine zi λ_ _=>?_)
    exact ⟨Ext.refl _,rfl,fun h=>absurd h (by decide)⟩
   ·intro v6 h6
    obtain rfl:v6=.pointer (some (Addr.add ⟨bp,0,none⟩ 8)):=h6
    have rp7:Row w7 ⟨bp,0,none⟩ (vB la fa fb):=Row.ext x7 rp6
    show aF _ (.cons ⟨some 59,.loadN 7 (.tmp 58),none⟩ .nil) (fun ρ' w'=>Ext w7 w'∧G8 vV g bp la fa fb V l M A Bt w6.heap.size 7 (ρ' 59) w'∧H8 7 (ρ' 59) w7) (tV ρ1 ([(58,Value.pointer (some (Addr.add ⟨bp,0,none⟩ 8)))]++ [(5,Value.pointer (some ⟨bp,0,none⟩)),(7,vV),(8,Value.pointer (some ⟨g,0,none⟩)),(9,Value.pointer (some ⟨bs,0,none⟩))])) w7
    repeat (first|refine go1 ?_|refine zg λ_ _=>?_|refine zi λ_ _=>?_)
    exact ⟨Ext.refl _,rfl,fun h=>absurd h (by decide)⟩
   ·intro v3 h3 v5 h5 v8 h8
    have h3:SlE bM w7 v3 (cX V l 9):=h3
    obtain rfl:v5=.agg (gF la.a fa).toArray:=h5
    obtain rfl:v8=.agg (gF la.b fb).toArray:=h8
    show aF _ (.cons ⟨some 60,.call F.kedgelaw18_two [.tmp 55,.tmp 57,.tmp 59],none⟩ .nil) (fun ρ' w'=>Ext w7 w'∧G8 vV g bp la fa fb V l M A Bt w6.heap.size 8 (ρ' 60) w'∧H8 8 (ρ' 60) w7) (tV ρ1 ([(59,Value.agg (gF la.b fb).toArray),(57,Value.agg (gF la.a fa).toArray),(55,v3)]++ [(5,Value.pointer (some ⟨bp,0,none⟩)),(7,vV),(8,Value.pointer (some ⟨g,0,none⟩)),(9,Value.pointer (some ⟨bs,0,none⟩))])) w7
    refine zC rfl (bAr (N:=M) (V:=cX V l 9) (a:=la.a) (b:=la.b) (B:=nS i) _ h3 (R.ext hA6 x7) (R.ext hB6' x7) (by omega) hV1 ⟨hmb.1,by omega⟩ hV2 (fun b hb=>nLt (hM6 b hb) x7.size)) ?_
    rintro _ w8 ⟨ts,us,rfl,t8,u8,x8⟩
    rw [←hA] at t8 u8
    rw [←hBt] at u8
    repeat (first|refine go1 ?_|refine zg λ_ _=>?_|refine zi λ_ _=>?_)
    exact ⟨x8,⟨ts,us,rfl,t8,u8⟩,fun h=>absurd h (by decide)⟩
   ·rintro _ ⟨ts,us,rfl,t8,u8⟩
    show aF _ (.cons ⟨some 51,.move (.tmp 60),none⟩ .nil) (fun ρ' w'=>Ext w7 w'∧G8 vV g bp la fa fb V l M A Bt w6.heap.size 9 (ρ' 51) w'∧H8 9 (ρ' 51) w7) (tV ρ1 ([(60,Value.tuple #[.agg ts.toArray,.agg us.toArray])]++ [(5,Value.pointer (some ⟨bp,0,none⟩)),(7,vV),(8,Value.pointer (some ⟨g,0,none⟩)),(9,Value.pointer (some ⟨bs,0,none⟩))])) w7
    repeat (first|refine go1 ?_|refine zg λ_ _=>?_|refine zi λ_ _=>?_)
    exact ⟨Ext.refl _,⟨ts,us,rfl,t8,u8⟩,fun h=>absurd h (by decide)⟩
   ·rintro _ ⟨ts,us,rfl,t8,u8⟩
    show aF _ (.cons ⟨some 61,.extract 0 (.tmp 51),none⟩ .nil) (fun ρ' w'=>Ext w7 w'∧G8 vV g bp la fa fb V l M A Bt w6.heap.size 10 (ρ' 61) w'∧H8 10 (ρ' 61) w7) (tV ρ1 ([(51,Value.tuple #[.agg ts.toArray,.agg us.toArray])]++ [(5,Value.pointer (some ⟨bp,0,none⟩)),(7,vV),(8,Value.pointer (some ⟨g,0,none⟩)),(9,Value.pointer (some ⟨bs,0,none⟩))])) w7
    repeat (first|refine go1 ?_|refine zg λ_ _=>?_|refine zi λ_ _=>?_)
    exact ⟨Ext.refl _,⟨ts,rfl,t8⟩,fun h=>absurd h (by decide)⟩
   ·rintro _ ⟨ts,us,rfl,t8,u8⟩
    show aF _ (.cons ⟨some 62,.extract 1 (.tmp 51),none⟩ .nil) (fun ρ' w'=>Ext w7 w'∧G8 vV g bp la fa fb V l M A Bt w6.heap.size 11 (ρ' 62) w'∧H8 11 (ρ' 62) w7) (tV ρ1 ([(51,Value.tuple #[.agg ts.toArray,.agg us.toArray])]++ [(5,Value.pointer (some ⟨bp,0,none⟩)),(7,vV),(8,Value.pointer (some ⟨g,0,none⟩)),(9,Value.pointer (some ⟨bs,0,none⟩))])) w7
    repeat (first|refine go1 ?_|refine zg λ_ _=>?_|refine zi λ_ _=>?_)
    exact ⟨Ext.refl _,⟨us,rfl,u8⟩,fun h=>absurd h (by decide)⟩
   ·show aF _ (.cons ⟨some 12,.alloc T.api_Tx zTx,none⟩ .nil) (fun ρ' w'=>Ext w7 w'∧G8 vV g bp la fa fb V l M A Bt w6.heap.size 12 (ρ' 12) w'∧H8 12 (ρ' 12) w7) (tV ρ1 ([(5,Value.pointer (some ⟨bp,0,none⟩)),(7,vV),(8,Value.pointer (some ⟨g,0,none⟩)),(9,Value.pointer (some ⟨bs,0,none⟩))])) w7
    refine zH (fun b8 w8 x8 a8 hb8=>?_)
    repeat (first|refine go1 ?_|refine zg λ_ _=>?_|refine zi λ_ _=>?_)
    exact ⟨x8,⟨b8,rfl,nTr x7.size hb8,a8.lt,a8⟩,fun _=>⟨b8,rfl,hb8⟩⟩
   ·show aF _ (.cons ⟨some 13,.alloc T.api_Tx zTx,none⟩ .nil) (fun ρ' w'=>Ext w7 w'∧G8 vV g bp la fa fb V l M A Bt w6.heap.size 13 (ρ' 13) w'∧H8 13 (ρ' 13) w7) (tV ρ1 ([(5,Value.pointer (some ⟨bp,0,none⟩)),(7,vV),(8,Value.pointer (some ⟨g,0,none⟩)),(9,Value.pointer (some ⟨bs,0,none⟩))])) w7
    refine zH (fun b8 w8 x8 a8 hb8=>?_)
    repeat (first|refine go1 ?_|refine zg λ_ _=>?_|refine zi λ_ _=>?_)
    exact ⟨x8,⟨b8,rfl,nTr x7.size hb8,a8.lt,a8⟩,fun _=>⟨b8,rfl,hb8⟩⟩
  ·intro ρ2 w7 x7 v0 h0 v1 h1 v2 h2 v3 h3 v4 h4 v5 h5 v6 h6 v7 h7 v8 h8 v9 h9 v10 h10 v11 h11 v12 h12 v13 h13 hJ
   obtain ⟨ts,rfl,tA⟩:∃ts:List Value,v10=.agg ts.toArray∧txR.rel M w7 ts A:=h10
   obtain ⟨us,rfl,tB⟩:∃us:List Value,v11=.agg us.toArray∧txR.rel M w7 us Bt:=h11
   obtain ⟨b12,rfl,hb12,l12,a12⟩:∃b,v12=.pointer (some ⟨b,0,none⟩)∧w6.heap.size≤b∧b<w7.heap.size∧At w7 b (.cells zTx.toArray T.api_Tx (0,0)):=h12
   obtain ⟨b13,rfl,hb13,l13,a13⟩:∃b,v13=.pointer (some ⟨b,0,none⟩)∧w6.heap.size≤b∧b<w7.heap.size∧At w7 b (.cells zTx.toArray T.api_Tx (0,0)):=h13
   have hne:b12≠b13:=fun e=>hJ 12 13 (.pointer (some ⟨b12,0,none⟩)) (.pointer (some ⟨b13,0,none⟩)) (by simp [mH,bQn]) (by simp [mH,bQn]) (by decide) (by decide) (by decide) (by decide) (by decide) (.inl ⟨rfl,rfl⟩) (by rw [e])
   clear hJ h2 h3 h4 h5 h6 h7 h8 h9
   show aF _ (.cons ⟨none,.storeN 4 (.tmp 12) (.tmp 61),none⟩ (.cons ⟨none,.storeN 4 (.tmp 13) (.tmp 62),none⟩ .nil)) _ (tV ρ2 ([(13,Value.pointer (some ⟨b13,0,none⟩)),(12,Value.pointer (some ⟨b12,0,none⟩)),(62,Value.agg us.toArray),(61,Value.agg ts.toArray),(51,v9),(60,v8),(59,v7),(58,v6),(57,v5),(56,v4),(55,v3),(54,v2),(53,v1),(52,v0)]++ [(5,Value.pointer (some ⟨bp,0,none⟩)),(7,vV),(8,Value.pointer (some ⟨g,0,none⟩)),(9,Value.pointer (some ⟨bs,0,none⟩))])) w7
   have hzz:∀v∈zTx,(∀s,v≠.string s)∧∀n,v≠.int .i64 n:=by
    intro v hv
    simp only [zTx,List.mem_cons,List.not_mem_nil,or_false] at hv
    rcases hv with rfl|rfl|rfl|rfl<;>exact ⟨fun s h=>(by cases h),fun n h=>by cases h⟩
   replace tA:=aOt (aOt tA a12 hzz) a13 hzz
   replace tB:=aOt (aOt tB a12 hzz) a13 hzz
   obtain ⟨ia,oa,rfl,pa1,pa2, -⟩:=id tA
   obtain ⟨ib,ob,rfl,pb1,pb2, -⟩:=id tB
   have e1:=pa1.one
   have e2:=pa2.one
   have e3:=pb1.one
   have e4:=pb2.one
   clear pa1 pa2 pb1 pb2
   refine aU (w0:=w6) (n:=4) (vs:=aJ A ia oa) x7 hb12 a12 rfl rfl rfl rfl (by simp [aJ,e1,e2];exact ⟨rfl,rfl⟩) (fun w8 x8 c8 a8 r8=>?_)
   refine aU (w0:=w6) (n:=4) (vs:=aJ Bt ib ob) x8 hb13 (At.chg c8 a13 (by simpa using Ne.symm hne)) rfl rfl rfl rfl (by simp [aJ,e3,e4];exact ⟨rfl,rfl⟩) (fun w9 x9 c9 a9 r9=>?_)
   have ra9:Row w9 ⟨b12,0,none⟩ (aJ A ia oa):=Row.chg c9 r8 (by simpa using hne)
   have tA9:txR.rel M w9 (aJ A ia oa) A:=R.step txR (R.step txR tA c8 (M':=b13::b12::M) (fun b hb=>.inl (by simp at hb;simp [hb])) (fun b hb=>.inl hb)) c9 (M':=M) (fun b hb=>.inl (by simp at hb;simp [hb])) (fun b hb=>.inl (by simp [hb]))
   have tB9:txR.rel M w9 (aJ Bt ib ob) Bt:=R.step txR (R.step txR tB c8 (M':=b13::b12::M) (fun b hb=>.inl (by simp at hb;simp [hb])) (fun b hb=>.inl hb)) c9 (M':=M) (fun b hb=>.inl (by simp at hb;simp [hb])) (fun b hb=>.inl (by simp [hb]))
   have s69:=x9.size
   have l12:b12<w9.heap.size:=by have:=c8.size;have:=c9.size;omega
   have l13:b13<w9.heap.size:=by have:=c8.size;have:=c9.size;omega
   have G9:=G6.ext x9
   have r9s:=Row.ext x9 r6
   have S9:=hS6.ext x9
   have hM9:∀b∈M,b<w9.heap.size:=fun b hb=>nLt (hM6 b hb) s69
   have x09':Unit→Ext w w9:=fun _=>(x06' ()).trans x9
   have x29:Unit→Ext w6 w9:=fun _=>x9
   have lbs9:bs<w9.heap.size:=by omega
   clear tA tB a12 a13 a8 a9 r8 c8 c9 x8 x7 G6 r6 hS6 rp6 hv6 hA6 hB6' x06' x9
   have hAsm:A.Sm:=by rw [hA];exact jY _ _
   have hBsm:Bt.Sm:=by rw [hBt];exact jY _ _
   have hfee:∀x∈l,x.fee≤1000000000000:=fun x hx=>by have:=hMon.fee x hx;omega
   repeat' (first|(refine zC (d:=some 64) rfl (bFt (M:=M) (l:=l) _ G9.r (fun b hb=>hM9 b hb) (by omega)) ?_;rintro _ w10 ⟨gh,Mh,rfl,H10,x10⟩)|refine go1 ?_|refine zg λ_ _=>?_|refine zi λ_ _=>?_)
   have hBh:=H10.gr.base
   have hLh:=H10.gr.lt
   have G10:GrU w10 w2.heap.size g M Mh l:=(GrU.of G9).more x10 (fun b hb=>.inr (hBh b hb))
   have s910:=x10.size
   have tA10:txR.rel (M++Mh) w10 (aJ A ia oa) A:=R.step txR tA9 x10 (by simp) (fun b hb=>(List.mem_append.1 hb).elim .inl (fun h=>.inr (hBh b h)))
   have tB10:txR.rel (M++Mh) w10 (aJ Bt ib ob) Bt:=R.step txR tB9 x10 (by simp) (fun b hb=>(List.mem_append.1 hb).elim .inl (fun h=>.inr (hBh b h)))
   have V10:eH w10 (.iface T.P_coins_Set (.pointer (some ⟨b,0,none⟩))) (aL V):=eH.of_set (S9.ext x10) (fun e he=>by rw [(hc8.each e he).2.2.2.2.1];decide)
   have hV:∀{w':World},mD T.coins_Set w' b mb V→eH w' (.iface T.P_coins_Set (.pointer (some ⟨b,0,none⟩))) (aL V):=fun h=>eH.of_set h (fun e he=>by rw [(hc8.each e he).2.2.2.2.1];decide)
   have S10:=S9.ext x10
   have lb10:=S10.at_.lt
   have lmb10:=S10.2.1.lt
   have lb9:=S9.at_.lt
   have lmb9:=S9.2.1.lt
   have ra10:=Row.ext x10 ra9
   have rb10:=Row.ext x10 r9
   have rs10:=Row.ext x10 r9s
   have x010':Unit→Ext w w10:=fun _=>(x09' ()).trans x10
   have hM10:∀b∈M,b<w10.heap.size:=fun b hb=>by have:=hM9 b hb;omega
   have s09:=(x09' ()).size
   clear x10 S9 ra9 r9 r9s G9 tA9 tB9 x29
   refine zC (d:=some 69) rfl (rI (M:=Mh) (U:=M) (N:=M++Mh) (l:=l) (f:=aL V) (cs:=aJ A ia oa) (t:=A) 9 0 _ H10 hM10 (fun b hb=>by simp [hb]) V10 tA10 hAsm (fun b hb=>(List.mem_append.1 hb).elim (hM10 b) (hLh b)) (fun b hb=>by simp [hb]) (by omega) hfee) ?_
   rintro _ w11 ⟨u1,er1,Mh1,rfl,hu1,he1,H11,c11,hMh1,hd1⟩
   have s1011:=c11.size
   have hBh1:=H11.gr.base
   have hLh1:=H11.gr.lt
   have nodA:=H11.gr.nodup
   have okA:=H11.gr.ok
   have hllA:(cN (aL V) l A 9 0).length≤l.length+1:=aHq hnd6
   have hMonA:Money V (cN (aL V) l A 9 0) 9 (nS (i+1)):=hMon.step hc8 hnd6 hE6 (by omega) hA
   have hmb1:=wT (i:=i+1) (by omega)
   have G11:GrU w11 w2.heap.size g M Mh1 l:=G10.chg c11 hMh1
   have tA11:txR.rel (M++Mh1) w11 (aJ A ia oa) A:=R.step txR tA10 c11 (fun b hb=>.inl (by simp [hb])) (fun b hb=>(List.mem_append.1 hb).elim (fun h=>.inl (by simp [h])) (fun h=>(hMh1 b h).imp (fun h=>by simp [h]) id))
   have tB11:txR.rel (M++Mh1) w11 (aJ Bt ib ob) Bt:=R.step txR tB10 c11 (fun b hb=>.inl (by simp [hb])) (fun b hb=>(List.mem_append.1 hb).elim (fun h=>.inl (by simp [h])) (fun h=>(hMh1 b h).imp (fun h=>by simp [h]) id))
   have S11:mD T.coins_Set w11 b mb V:=S10.chg c11 (fun h=>by have:=hBh b h;omega) (fun h=>by have:=hBh mb h;omega)
   have ra11:=Row.chg c11 ra10 (fun h=>by have:=hBh _ h;have e:(⟨b12,0,none⟩:Addr).block=b12:=rfl;omega)
   have rb11:=Row.chg c11 rb10 (fun h=>by have:=hBh _ h;have e:(⟨b13,0,none⟩:Addr).block=b13:=rfl;omega)
   have rs11:=Row.chg c11 rs10 (fun h=>by have:=hBh _ h;have e:(⟨bs,0,none⟩:Addr).block=bs:=rfl;omega)
   have x011':Unit→Ext w w11:=fun _=>(Ext.chg (x010' ()) c11).mono (fun b hb=>.inr (by have:=hBh b hb;omega))
   have hM11:∀b∈M,b<w11.heap.size:=fun b hb=>by have:=hM10 b hb;omega
   have hb1:∀b∈aB u1,w10.heap.size≤b:=hu1.base
   have hl1:∀b∈aB u1,b<w11.heap.size:=fun b hb=>Own.blk_lt hu1 b hb
   clear c11 S10 ra10 rb10 rs10 tA10 tB10 V10 H10 G10
   repeat (first|refine go1 ?_|refine zg λ_ _=>?_|refine zi λ_ _=>?_)
   refine zC (d:=some 76) rfl (rI (M:=Mh1) (U:=M) (N:=M++Mh1) (l:=cN (aL V) l A 9 0) (f:=aL V) (cs:=aJ Bt ib ob) (t:=Bt) 9 0 _ H11 hM11 (fun b hb=>by simp [hb]) (hV S11) tB11 hBsm (fun b hb=>(List.mem_append.1 hb).elim (hM11 b) (hLh1 b)) (fun b hb=>by simp [hb]) (by omega) (fun x hx=>by have:=hMonA.fee x hx;omega)) ?_
   rintro _ w12 ⟨u2,er2,Mh2,rfl,hu2,he2,H12,c12,hMh2,hd2⟩
   have s1112:=c12.size
   have hBh2:=H12.gr.base
   have hLh2:=H12.gr.lt
   have nodB:=H12.gr.nodup
   have hllB:(cN (aL V) (cN (aL V) l A 9 0) Bt 9 0).length≤(cN (aL V) l A 9 0).length+1:=aHq nodA
   have G12:GrU w12 w2.heap.size g M Mh2 l:=G11.chg c12 hMh2
   have tA12:txR.rel (M++Mh2) w12 (aJ A ia oa) A:=R.step txR tA11 c12 (fun b hb=>.inl (by simp [hb])) (fun b hb=>(List.mem_append.1 hb).elim (fun h=>.inl (by simp [h])) (fun h=>(hMh2 b h).imp (fun h=>by simp [h]) id))
   have tB12:txR.rel (M++Mh2) w12 (aJ Bt ib ob) Bt:=R.step txR tB11 c12 (fun b hb=>.inl (by simp [hb])) (fun b hb=>(List.mem_append.1 hb).elim (fun h=>.inl (by simp [h])) (fun h=>(hMh2 b h).imp (fun h=>by simp [h]) id))
   have S12:mD T.coins_Set w12 b mb V:=S11.chg c12 (fun h=>by have:=hBh1 b h;omega) (fun h=>by have:=hBh1 mb h;omega)
   have ra12:=Row.chg c12 ra11 (fun h=>by have:=hBh1 _ h;have e:(⟨b12,0,none⟩:Addr).block=b12:=rfl;omega)
   have rb12:=Row.chg c12 rb11 (fun h=>by have:=hBh1 _ h;have e:(⟨b13,0,none⟩:Addr).block=b13:=rfl;omega)
   have rs12:=Row.chg c12 rs11 (fun h=>by have:=hBh1 _ h;have e:(⟨bs,0,none⟩:Addr).block=bs:=rfl;omega)
   have x012':Unit→Ext w w12:=fun _=>(Ext.chg (x011' ()) c12).mono (fun b hb=>.inr (by have:=hBh1 b hb;omega))
   have hM12:∀b∈M,b<w12.heap.size:=fun b hb=>by have:=hM11 b hb;omega
   have hN12:∀b∈M++Mh2,b<w12.heap.size:=fun b hb=>(List.mem_append.1 hb).elim (hM12 b) (hLh2 b)
   have hu1:=hu1.chg c12 (fun b hb h=>by
    rcases hMh1 b h with h'|h'
    ·have:=hd1 b hb;exact this h
    ·exact hd1 b hb h)
   have s1:=hu1.sl
   have s2:=hu2.sl
   clear c12 S11 ra11 rb11 rs11 tA11 tB11 H11 G11
   repeat (first|refine go1 ?_|refine zg λ_ _=>?_|refine zi λ_ _=>?_)
   refine zC (d:=some 81) rfl (uD (M:=M++Mh2) (cs:=aJ A ia oa) (t:=A) _ tA12 hAsm) ?_
   rintro _ w13 ⟨rfl,x13⟩
   rw [aPo]
   have x1213:=x13
   by_cases h1:(dU (aL V) l A 9 0).1=0
   ·obtain ⟨rfl, -⟩:=he1.nil_iff.1 h1
    by_cases h2:(dU (aL V) (cN (aL V) l A 9 0) Bt 9 0).1=0
    ·obtain ⟨rfl, -⟩:=he2.nil_iff.1 h2
     clear x1213 he1 he2 hu1 hu2
     obtain ⟨lB,hlB⟩:∃lB,lB=(cN (aL V) (cN (aL V) l A 9 0) Bt 9 0):=⟨_,rfl⟩
     rw [←hlB] at H12 hllB nodB
     have hlen6:(aK lB (bF lB Bt)).length≤100000000:=by have:=jV lB (bF lB Bt);omega
     repeat' (first|refine aY (d:=some 92) rfl (SlE.ext (w:=w12) (by exact fx) s1) ?_|refine aY (d:=some 97) rfl (SlE.ext (w:=w12) (by exact fx) s2) ?_|(refine zJ (t:=95) (p:=(((cG (aL V) l A 9 0).length:Nat):Int)>0) rfl (fun hi1=>?_) (fun hi1=>?_))|(refine zJ (t:=100) (p:=(((cG (aL V) (cN (aL V) l A 9 0) Bt 9 0).length:Nat):Int)>0) rfl (fun hi2=>?_) (fun hi2=>?_))|(refine zC (d:=some 103) rfl (wV (M:=Mh2) (N:=M++Mh2) (l:=lB) (cs:=aJ Bt ib ob) (t:=Bt) _ (H12.gr.ext (by exact fx)).r (fun b hb=>nLt (hLh2 b hb) (Ext.size (by exact fx))) (R.ext tB12 (by exact fx)) hBsm.ins (by omega)) ?_;rintro v103 w14 ⟨o14,x14⟩)|refine zI (d:=some 105) (cs:= [.string (idS A)]) rfl (fun b15 w15 x15 a15 hb15=>?_)|(refine zC (d:=some 106) rfl (aHf (l:=aK lB (bF lB Bt)) (m:= [idS A]) _ (SlE.ext (w:=w14) (by exact fx) o14.sl) (SlE.new (E:=bL) (l:= [idS A]) a15 rfl (Nat.le_refl _)) hlen6) ?_;rintro _ w16 ⟨rfl,x16⟩)|refine zN (x:=.tmp 108) (p:=aK lB (bF lB Bt)= [idS A]) rfl (fun h7=>?_) (fun h7=>?_)|(refine zC (d:=some 109) rfl (uF _) ?_;rintro _ w17 ⟨rfl,x17⟩)|refine go1 ?_|refine zg λ_ _=>?_|refine zi λ_ _=>?_)
     ·exact aA rfl ⟨rfl,(x012' ()).trans (by exact fx)⟩
     ·exact aA rfl ⟨rfl,(x012' ()).trans (by exact fx)⟩
     ·exact aA rfl ⟨rfl,(x012' ()).trans (by exact fx)⟩
     ·have x1216:Ext w12 w16:=by exact fx
      have hi1':cG (aL V) l A 9 0= []:=List.eq_nil_of_length_eq_zero (by omega)
      have hi2':cG (aL V) (cN (aL V) l A 9 0) Bt 9 0= []:=List.eq_nil_of_length_eq_zero (by omega)
      obtain ⟨q1,q2⟩:=bE7 hnd6 hE6 h1 hi1' h2 hi2' nodA (by rw [←hlB];exact nodB) (by rw [←hlB];exact h7)
      have hzz2:aE A=0→aE Bt=0→aO A+aO Bt≤1000000:=fun hca hcb=>by
       have g1:=aIh (cB hAsm hca) (by rw [hA];exact aAq _ _)
       have g2:=aIh (cB hBsm hcb) (by rw [hBt];exact aAq _ _)
       omega
      have s1216:=x1216.size
      refine zC (d:=some 115) rfl (aUq (M:=M) (U:=Mh2) (N:=M++Mh2) (l:=l) (f:=aL V) (cs:=aJ A ia oa) (ds:=aJ Bt ib ob) (a:=A) (b:=Bt) 9 0 _ (G12.ext x1216) (fun b hb=>nLt (hLh2 b hb) s1216) (fun b hb=>by simp [hb]) (hV (S12.ext x1216)) (R.ext tA12 x1216) hAsm (R.ext tB12 x1216) hBsm (fun b hb=>nLt (hN12 b hb) s1216) (fun b hb=>by simp [hb]) (by omega) hfee hzz2) ?_
      rintro _ w18 ⟨u3,er3,M3,rfl,hu3,he3,G18,c18,hM3,hd3⟩
      rw [q2,←hlB] at G18
      obtain ⟨rfl, -⟩:=he3.nil_iff.1 q1
      have H18:GrU w18 w9.heap.size gh Mh2 M3 lB:=(H12.ext x1216).chg c18 hM3
      have x018':Unit→Ext w w18:=fun _=>(Ext.chg ((x012' ()).trans x1216) c18).mono (fun b hb=>.inr (by have:=hB6 b hb;omega))
      have hL3:=G18.gr.lt
      have hL18:=H18.gr.lt
      clear x1216 x13 x14 x15 x16 c18 he3 hu3
      repeat' (first|(refine zC (d:=some 118) rfl (uF _) ?_;rintro _ w19 ⟨rfl,x19⟩)|(refine zC (d:=some 126) rfl (eK (M:=Mh2) (l:=lB) _ (H18.gr.ext (by exact fx)).r (fun b hb=>nLt (hL18 b hb) (Ext.size (by exact fx))) (by omega)) ?_;rintro u20 w20 ⟨o20,x20⟩;have o20:=(o20.sub (M':= []) (by simp)).sl (by simp))|(refine zC (d:=some 127) rfl (aZ8 (M:=M3) (N:= []) (l:=lB) _ (G18.gr.ext (by exact fx)).r (fun b hb=>nLt (hL3 b hb) (Ext.size (by exact fx))) (o20.ext (by exact fx)) (by omega)) ?_;rintro _ w21 ⟨rfl,x21⟩)|refine go1 ?_|refine zg λ_ _=>?_|refine zi λ_ _=>?_)
      exact aA rfl ⟨rfl,(x018' ()).trans (by exact fx)⟩
    ·obtain ⟨ea,eb,rfl⟩:=he2.nil_iff.2 h2
     repeat' (first|(refine zC (d:=some 109) rfl (uF _) ?_;rintro _ w17 ⟨rfl,x17⟩)|refine go1 ?_|refine zg λ_ _=>?_|refine zi λ_ _=>?_)
     exact aA rfl ⟨rfl,(x012' ()).trans (by exact fx)⟩
   ·obtain ⟨ea,eb,rfl⟩:=he1.nil_iff.2 h1
    repeat' (first|(refine zC (d:=some 109) rfl (uF _) ?_;rintro _ w17 ⟨rfl,x17⟩)|refine go1 ?_|refine zg λ_ _=>?_|refine zi λ_ _=>?_)
    exact aA rfl ⟨rfl,(x012' ()).trans (by exact fx)⟩
end
section
open Go Go.K Go.ChangeShapes Go.WideShapes Go.ChangeAt Go.RowKit
set_option maxRecDepth 100000
theorem bPo:Tryz.prog.cellsOf 40=7:=by kernel_rfl
theorem aQ0 {W:World} {c:List Value} (h:Reads Tryz.prog W 86 c):∃z:PAct,aGp.rel [] W c z:=by
 obtain ⟨h1,h2⟩:=qR Tryz.underlying86 h
 have l:c.length=16:=h1.trans (by kernel_rfl)
 match c,l with
 | [c0,c1,c2,c3,c4,c5,c6,c7,c8,c9,c10,c11,c12,c13,c14,c15],_=>
  have g0:=h2 _ (List.mem_of_getElem? (i:=0) rfl)
  have g1:=h2 _ (List.mem_of_getElem? (i:=1) rfl)
  have g2:=h2 _ (List.mem_of_getElem? (i:=2) rfl)
  have g3:=h2 _ (List.mem_of_getElem? (i:=3) rfl)
  obtain ⟨p,e0⟩:=aCn Tryz.underlying4 g0
  obtain ⟨a,ha⟩:=aLe g1
  obtain ⟨b,hb⟩:=aLe g2
  obtain ⟨n,e3⟩:=jA g3
  simp only [bPo,bPq,bC8,List.drop_zero,List.drop_succ_cons,List.take_succ_cons,List.take_zero,List.cons.injEq,and_true] at e0 ha hb e3
  obtain ⟨fa,ea,ha'⟩:=id ha
  obtain ⟨fb,eb,hb'⟩:=id hb
  rw [ea] at ha
  rw [eb] at hb
  exact ⟨⟨p,a,b,n⟩,fa,fb,by rw [e0,e3];show _::([c1,c2,c3,c4,c5,c6,c7]++([c8,c9,c10,c11,c12,c13,c14]++ [_]))=_;rw [ea,eb];rfl,ha,hb⟩
theorem bBk {W:World} {v:Value} (h:Reads Tryz.prog W 84 [v]):∃l,SlR aGp [] W v l∧l.length≤maxLen:=
 rV aGp Tryz.underlying84 (by kernel_rfl) (fun _ h=>aQ0 h) h
end
end Go.Proofs.YtgloknkcfchnlaaGreat
