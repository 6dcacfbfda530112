/- Contracts: coins of numbers, by the document. Contracts: acc -/
import Derived.Test.YtfebcajheojodaaGreatDoorZ30
set_option linter.unusedVariables false
set_option linter.unusedSimpArgs false
namespace Go.Proofs.YtfebcajheojodaaGreatDoor
section
open Go Go.K
attribute [local irreducible] aO aU bQ KOp.wp K.Spec u32 leS vnS str aV cU cD idT aR aG aX idN
theorem bH8 {n:Int} (h:0≤n∧n≤65535):IntKind.i64.wrap n=n:=IntWalk.i64_in _ (by omega)
set_option maxHeartbeats 1000000 in
theorem aA1 {v : Value} {vals : List Int} (w : World) (hv : SlR aVn [] w v vals) (hr : ∀ a ∈ vals, 0 ≤ a ∧ a ≤ 65535) :
    K.Spec Tryz.prog F.kedgeref17_Coins [v] w fun r w' => SlE gC w' r (iH vals (min vals.length 8)) ∧ (∀ b ∈ aP r, w.heap.size ≤ b) ∧ Ext w w' := by
  refine aFp rfl ?_
  unfold uD
  refine oy ?_
  repeat' (first|refine zG (d := some 8) (E := aVn) (M := []) rfl (SlR.ext hv (by exact fx)) ?_|(refine aQ (fun (p : Nat × Value) w' => Ext w w' ∧ p.1 ≤ vals.length ∧ p.1 ≤ 8 ∧ SlE gC w' p.2 (iH vals p.1) ∧ (∀ b ∈ aP p.2, w.heap.size ≤ b)) (fun p => [(0, v), (3, p.2), (4, .int .i64 p.1)]) (fun p => 8 - p.1) (0, .slice none 0 0) ⟨rfl, rfl, rfl, trivial⟩ ⟨Ext.refl _, by simp, by simp, SlE.nil _, by simp [aP]⟩ ?_; rintro ⟨i, vo⟩ ρ w1 ⟨x1, hi1, hi2, ho, hb⟩; simp only at hi1 hi2 ho hb; dsimp only; have hok := yW hr i; have hol := hok.len)|(have hil : i < vals.length := (by omega); have hri := hr _ (gMe hil); refine aL (d := some 18) (E := aVn) (M := []) rfl rfl (n := i) (l := vals) (SlR.ext hv (by exact fx)) rfl hil (fun ad cs r2 he => ?_); obtain ⟨rfl, -⟩ := he)|refine aJ (d := some 20) (.int .i64 vals[i]) rfl (congrArg (fun n => some (Value.int .i64 n)) (bH8 hri)) ?_|refine rI (d := some 21) rfl rfl (by omega) ?_|refine bL (d := some 23) (cs := (aZr vals[i]).cs) rfl ?_|refine zE (d' := 5) (fun _=>rfl) rfl rfl rfl (fun b5 w5 x5 a5 (r5 : Row w5 ⟨b5, 0, none⟩ (aZr vals[i]).cs) hb5=>?_)|refine aJ (d := some 27) (.int .i64 ((300 + i : Nat) : Int)) rfl (congrArg (fun n => some (Value.int .i64 n)) (IntWalk.i64_in _ (by omega))) ?_|(refine zC (d := some 28) rfl (aW3 (300 + i) _) ?_; rintro _ w6 ⟨rfl, x6⟩)|refine bL (d := some 29) (cs := (⟨idN (300 + i), 0⟩ : Pt).cs) rfl ?_|(refine zC (d := some 31) rfl (aX0 ⟨idN (300 + i), 0⟩ (aZr vals[i]) _ (SlE.ext (w := w1) (by exact fx) ho) (by omega) (hok.mon (by omega))) ?_; rintro _ w7 ⟨vl, rfl, hl7, hb7, x7⟩; have hb7 := hb7.old; have s17 := Ext.size (show Ext w _ by exact fx))|refine go1 ?_|refine zg λ_ _=>?_|refine zi λ_ _=>?_|refine zJ rfl (fun h => ?_) (fun h => ?_)|refine zL rfl (fun h => ?_) (fun h => ?_)|refine zB ?_ ?_)
  all_goals first
    | exact ⟨(i + 1, vl), ⟨rfl, rfl, rfl, trivial⟩, ⟨by exact fx, by simp; omega, by simp; omega, by rw [iH, List.getD_eq_getElem?_getD, List.getElem?_eq_getElem hil]; exact hl7, fun b h7 => (hb7 b h7).elim (hb b) (fun h8 => nTr (Ext.size (show Ext w _ by exact fx)) h8)⟩, by simp; omega⟩
    | (have e : min vals.length 8 = i := by omega
       rw [e]
       exact aC rfl ⟨ho, hb, x1⟩)
    | trace_state
end
section
open Go Go.K
attribute [local irreducible] aO aU bQ KOp.wp K.Spec u32 leS vnS str aV cU cD idT aR aG aX idN bD cF bT bH cA cO aZ bA aM iC dT pD lH bC evL inS inB iG fH dN fY gE gP eQ cH dF eY fL cB bS aY bU eO eD kD dA bM iH dI
theorem bC4 {α:Type} {E:R α} {M:List Nat} {w:World} {b n:Nat} {t:TypeId} {arr:List Value} {l:List α} (css:List (Vec E.k)) (h:At w b (.cells arr.toArray t (0,0))) (e:(qN E.k E.pos).flat css=arr) (ha:E.all (b::M) w css l) (hb:b∉M) (hn:css.length=n):SlR E M w (.slice (some ⟨b,0,none⟩) n n) l:=by
 subst hn
 have o:cJ E t 0 M w (.slice (some ⟨b,0,none⟩) css.length css.length) l:=⟨css,.inr ⟨b,css.length, [],rfl,Nat.zero_le _,by rw [e,List.append_nil];exact h,by rw [List.append_nil,Enc.flat_length]⟩,ha⟩
 exact o.sl fun b' hb' h'=>by
  simp [aP] at h'
  subst h';exact hb hb'
theorem bJz {w:World} {e:Value} {c:Int} (h:eJ w 1 e c (-1)) (hc:c≠0):e=aFi c:=by
 rcases h with ⟨-,⟨h1, -⟩|⟨-,h1⟩⟩|⟨-,h1, -⟩
 ·exact absurd h1 hc
 ·exact h1
 ·omega
end
section
open Go Go.K
attribute [local irreducible] aO aU bQ KOp.wp K.Spec u32 leS vnS str aV cU cD idT aR aG aX idN bD cF bT bH cA cO aZ bA aM
end
section
open Go Go.K
attribute [local irreducible] aO aU bQ KOp.wp K.Spec u32 leS vnS str aV cU cD idT aR aG aX idN bD cF bT bH cA cO aZ bA aM
set_option maxHeartbeats 1000000 in
theorem aFq {v:Value} {V:List En} {n:Nat} (w:World) (hv:SlE gC w v V) (hV:CoinsOk V n) (hn:n≤1000):
  K.Spec Tryz.prog F.kedgelaw18_set [v] w fun r w'=>∃b mb,r=.pointer (some ⟨b,0,none⟩)∧sZ T.coins_Set w' b mb V∧w.heap.size≤b∧w.heap.size≤mb∧Ext w w':=by
 have hlen:=hV.len
 refine aKw rfl ?_
 unfold yI
 refine oy ?_
 repeat' (first|refine go1 ?_|refine zg λ_ _=>?_|refine zi λ_ _=>?_|(refine zC rfl (bFt _) ?_;rintro _ w1 ⟨b,mb,rfl,hS,hb,hmb,x1⟩)|refine bY (d:=some 8) rfl (SlE.ext (w:=w) (by exact fx) hv) ?_|(refine aQ (fun (i:Nat) w'=>Ext w w'∧i≤V.length∧sZ T.coins_Set w' b mb (V.take i)) (fun i=> [(3,.pointer (some ⟨b,0,none⟩)),(7,v),(8,.int .i64 (V.length:Nat)),(9,.int .i64 i)]) (fun i=>V.length - i) 0 ⟨rfl,rfl,rfl,rfl,trivial⟩ ⟨x1,by simp,hS⟩ ?_;clear hS x1;rintro i ρ w2 ⟨x2,hi,hS⟩)|refine zL (p:=(((i:Nat):Int)<((V.length:Nat):Int))) rfl (fun h6=>?_) (fun h6=>?_)|(have hil:i<V.length:=(by omega);refine aT (d:=some 11) (E:=gC) rfl rfl (n:=i) (l:=V) (SlE.ext (w:=w) (by exact fx) hv) rfl hil (fun ad r2=>?_))|refine zE (d':=5) (fun _=>rfl) rfl rfl rfl (fun b5 w5 x5 a5 (r5:Row w5 ⟨b5,0,none⟩ (gC.f V[i])) hb5=>?_)|(refine zC (d:=some 18) rfl (bFp V[i].1 V[i].2 _ (hS.ext (by exact fx))) ?_;rintro _ w6 ⟨rfl,hS6,c6⟩))
 ·rw [(bHs hV hn hil).2] at hS6
  exact ⟨i+1,⟨rfl,rfl,rfl,rfl,trivial⟩,⟨(Ext.chg (x2.trans x5) c6).mono (by intro y hy;simp at hy;right;omega),by omega,hS6⟩,by omega⟩
 ·rw [tLe (by omega)] at hS
  exact aC rfl ⟨b,mb,rfl,hS,hb,hmb,x2⟩
set_option maxHeartbeats 4000000 in
theorem aC3 {g:Nat} {M N:List Nat} {l:List Ent} {v:Value} (w:World) (hG:GrR w g M l) (hM:∀b∈M,b<w.heap.size) (hv:SlR bF N w v l) (hl:l.length≤1000):K.Spec Tryz.prog F.kedgelaw18_same [.pointer (some ⟨g,0,none⟩),v] w fun r w'=>r=.bool true∧Ext w w':=by
 have hE:=hG.ok
 refine aHw rfl ?_
 unfold vY
 refine oy ?_
 repeat' (first|(refine zC (d:=some 9) rfl (aJd (M:=M) (l:=l) _ (hG.ext (by exact fx)) (fun b hb=>nLt (hM b hb) (Ext.size (by exact fx))) (by omega)) ?_;rintro u1 w1 ⟨o1,x1⟩;have o1:=(o1.sub (M':= []) (by simp)).sl (by simp))|refine zG (d:=some 11) (E:=bF) (M:= []) (l:=l) rfl (o1.ext (by exact fx)) ?_|refine zG (d:=some 13) (E:=bF) (M:=N) (l:=l) rfl (hv.ext (by exact fx)) ?_|refine zG (d:=some 16) (E:=bF) (M:= []) (l:=l) rfl (o1.ext (by exact fx)) ?_|refine aJ (d:=some 14) (.bool false) rfl (congrArg (fun b=>some (Value.bool (!b))) (dTr rfl)) ?_|(refine aQ (a:=.seq _ (.seq (.cond _ _ _) (.seq (.block 1 _) _))) (fun (i:Nat) w'=>Ext w1 w'∧i≤l.length) (fun i=> [(1,v),(15,u1),(16,.int .i64 (l.length:Nat)),(17,.int .i64 i)]) (fun i=>l.length - i) 0 ⟨rfl,rfl,rfl,rfl,trivial⟩ ⟨Ext.refl _,by simp⟩ ?_;rintro i ρ w2 ⟨x2,hi⟩)|refine zL (x:=.tmp 18) (p:=((i:Nat):Int)<((l.length:Nat):Int)) rfl (fun h6=>?_) (fun h6=>?_)|refine go1 ?_|refine zg λ_ _=>?_|refine zi λ_ _=>?_)
 ·have hil:i<l.length:=by omega
  have hsm:=fE (hE _ (gMe hil)).check
  have o2:=o1.ext x2
  have v2:=hv.ext (x1.trans x2)
  clear o1
  repeat' (first|(refine aL (d:=some 20) (E:=bF) (M:= []) rfl rfl (n:=i) (l:=l) o2 rfl hil (fun ad cs r3 he=>?_);obtain ⟨iv,ov,rfl,h1,h2,h3⟩:=he;have e1:iv.oneCell'=true:=(by obtain ⟨_,_,rfl⟩:=h1.form;rfl);have e2:ov.oneCell'=true:=(by obtain ⟨_,_,rfl⟩:=h2.form;rfl))|refine zH (d:=some 7) (fun b7 w7 x7 a7 hb7=>?_)|(refine bP (w0:=w2) (n:=7) (vs:=bN l[i] iv ov) x7 hb7 a7 rfl rfl rfl rfl (by show List.all (bN _ _ _) _=true;simp [bN,e1,e2];exact ⟨rfl,rfl,rfl,rfl,rfl⟩) (fun w8 x8 c8 a8 r8=>?_);clear x7 c8)|(refine aL (d:=some 26) (E:=bF) (M:=N) rfl rfl (n:=i) (l:=l) (SlR.ext v2 (by exact fx)) rfl hil (fun ad4 cs4 r4 he=>?_);obtain ⟨iv4,ov4,rfl,h14,h24,h34⟩:=he)|refine aJ (d:=some 29) (.bool false) rfl (congrArg (fun b=>some (Value.bool (!b))) (dTr rfl)) ?_|(refine aL (d:=some 35) (E:=bF) (M:=N) rfl rfl (n:=i) (l:=l) (SlR.ext v2 (by exact fx)) rfl hil (fun ad5 cs5 r5 he=>?_);obtain ⟨iv5,ov5,rfl,h15,h25,h35⟩:=he)|refine aJ (d:=some 38) (.bool false) rfl (congrArg (fun b=>some (Value.bool (!b))) (dTr rfl)) ?_|(refine aL (d:=some 45) (E:=bF) (M:=N) rfl rfl (n:=i) (l:=l) (SlR.ext v2 (by exact fx)) rfl hil (fun ad6 cs6 r6 he=>?_);obtain ⟨iv6,ov6,rfl,h16,h26,h36⟩:=he)|refine aJ (d:=some 48) (.bool false) rfl (congrArg (fun b=>some (Value.bool (!b))) (dTr rfl)) ?_|(refine aL (d:=some 55) (E:=bF) (M:=N) rfl rfl (n:=i) (l:=l) (SlR.ext v2 (by exact fx)) rfl hil (fun ad8 cs8 r8 he=>?_);obtain ⟨iv8,ov8,rfl,h18,h28,h38⟩:=he)|(refine zC (d:=some 58) rfl (bD9 (M:= []) (N:=N) (cs:=aK l[i].tx iv ov) (ds:=aK l[i].tx iv8 ov8) (t:=l[i].tx) _ ⟨iv,ov,rfl,h1.ext (by exact fx),h2.ext (by exact fx),h3.1,h3.2.1⟩ ⟨iv8,ov8,rfl,h18.ext (by exact fx),h28.ext (by exact fx),h38.1,h38.2.1⟩ hsm) ?_;rintro _ w9 ⟨rfl,x9⟩)|refine go1 ?_|refine zg λ_ _=>?_|refine zi λ_ _=>?_)
  exact ⟨i+1,⟨rfl,rfl,rfl,rfl,trivial⟩,⟨by exact fx,by omega⟩,by omega⟩
 ·repeat (first|refine go1 ?_|refine zg λ_ _=>?_|refine zi λ_ _=>?_)
  exact aC rfl ⟨rfl,x1.trans x2⟩
end
section
open Go Go.K
attribute [local irreducible] aO aU bQ KOp.wp K.Spec u32 leS vnS str aV cU cD idT aR aG aX idN bD cF bT bH cA cO aZ bA aM bM aBi tD idS
set_option maxHeartbeats 4000000 in
theorem aQe {N:List Nat} {v:Value} {cs ds:List Value} {V:List En} {a b:PSm} {B:Int} (w:World) (hv:SlE gC w v V) (ha:aAw.rel N w cs a) (hb:aAw.rel N w ds b) (hn:V.length≤1000000) (hV:∀e∈V,0≤e.2.v∧e.2.v≤B) (hB:0≤B∧B≤100000000000000) (hi:∀e∈V,dV e.1.i) (hN:∀b∈N,b<w.heap.size):
  K.Spec Tryz.prog F.kedgelaw18_two [v,.agg cs.toArray,.agg ds.toArray] w fun r w'=>∃ts us,r=.tuple #[.agg ts.toArray,.agg us.toArray]∧txR.rel N w' ts (bM V a)∧txR.rel N w' us (bM (tD V (bM V a)) b)∧Ext w w':=by
 have ha0:=ha
 have hb0:=hb
 obtain ⟨fv,rfl,hfr,hf1,hf2⟩:=ha
 obtain ⟨fw,rfl,hgr,hg1,hg2⟩:=hb
 have hsm:=xL V a
 obtain ⟨hW1,hW2,hW3⟩:=bDi hB.1 hV hi (z:=a) ⟨hf1,hf2⟩
 refine aK8 rfl ?_
 unfold yC
 refine oy ?_
 repeat' (first|refine zD (d:=some 4) rfl rfl (fun bt wt xt bt' (rt:Row wt ⟨bt,0,none⟩ (jC a fv)) hbt0=>?_)|refine zD (d:=some 5) rfl rfl (fun bu wu xu bu' (ru:Row wu ⟨bu,0,none⟩ (jC b fw)) hbu0=>?_)|refine zH (d:=some 6) (fun b6 w6 x6 a6 hb6=>?_)|refine zH (d:=some 7) (fun b7 w7 x7 a7 hb7=>?_)|refine go1 ?_|refine zg λ_ _=>?_|refine zi λ_ _=>?_)
 have s1:=xt.size
 have s2:=xu.size
 have s6:=x6.size
 have s7:=x7.size
 have l6:=a6.lt
 have l7:=a7.lt
 have h67:b6≠b7:=by omega
 have rt7:=Row.ext (show Ext wt w7 by exact fx) rt
 have ru7:=Row.ext (show Ext wu w7 by exact fx) ru
 have hX:Ext w w7:=by exact fx
 have hN2:∀b∈b6::b7::N,b<w7.heap.size:=fun b hb=>by
  rcases List.mem_cons.1 hb with rfl|hb
  ·omega
  rcases List.mem_cons.1 hb with rfl|hb
  ·omega
  ·have:=hN b hb;have:=hX.size;omega
 have hm2:∀b∈b6::b7::N,b∈N∨w.heap.size≤b:=fun b hb=>by
  rcases List.mem_cons.1 hb with rfl|hb
  ·right;omega
  rcases List.mem_cons.1 hb with rfl|hb
  ·right;omega
  ·exact .inl hb
 have ha7:=R.step aAw ha0 hX (by simp) hm2
 have hb7':=R.step aAw hb0 hX (by simp) hm2
 have hv7:=SlE.ext hX hv
 have a67:=At.ext x7 a6
 have hw7:=hX.size
 have hX':Unit→Ext w w7:=fun _=>hX
 clear xt xu x6 x7 bt' bu' rt ru a6 hX hfr hgr ha0 hb0 hv
 generalize hK:b6::b7::N=N2 at hN2 ha7 hb7' hm2
 repeat' (first|(refine zC (d:=some 16) rfl (aC1 (M:=N2) (cs:=jC a fv) (z:=a) _ (SlE.ext (w:=w7) (by exact fx) hv7) (R.ext ha7 (by exact fx)) (by omega) hV ⟨hB.1,by omega⟩ hi (fun b hb=>nLt (hN2 b hb) (Ext.size (by exact fx)))) ?_;rintro _ w8 ⟨ts,rfl,t8,x8⟩)|refine go1 ?_|refine zg λ_ _=>?_|refine zi λ_ _=>?_)
 have t8':=t8.rel hN2
 obtain ⟨iv,ov,rfl,p1,p2,p3⟩:=t8'
 have e1:=p1.one
 have e2:=p2.one
 have t8:=t8.rel hN2
 have ho3:=(aG5 V a).2
 repeat' (first|(refine zE (d':=8) (fun _=>rfl) rfl rfl (by simp [aK,e1,e2];exact ⟨rfl,rfl⟩) (fun b8 w9 x9 a9 (r9:Row w9 ⟨b8,0,none⟩ (aK (bM V a) iv ov)) hb8=>?_);have l9:=a9.lt)|(refine zC (d:=some 19) rfl (aDn (M:=N2) (cs:=aK (bM V a) iv ov) (t:=bM V a) _ (R.ext t8 (by exact fx)) hsm) ?_;rintro _ w10 ⟨rfl,x10⟩;rw [bGw])|refine zG (d:=some 24) (E:=eX) (M:=N2) (l:=(bM V a).outs) rfl (p2.ext (by exact fx)) ?_|(refine aQ (fun (p:Nat × Value) w'=>Ext w10 w'∧p.1≤(bM V a).outs.length∧Own gC T.kedgeref10_Entry w10.heap.size w' p.2 (aBi (bM V a) p.1)) (fun p=> [(0,v),(5,.pointer (some ⟨bu,0,none⟩)),(6,.pointer (some ⟨b6,0,none⟩)),(7,.pointer (some ⟨b7,0,none⟩)),(8,.pointer (some ⟨b8,0,none⟩)),(9,p.2),(10,.string (idS (bM V a))),(11,.int .i64 (aG (bM V a))),(23,ov),(24,.int .i64 ((bM V a).outs.length:Nat)),(25,.int .i64 p.1)]) (fun p=>(bM V a).outs.length - p.1) (0,.slice none 0 0) ⟨rfl,rfl,rfl,rfl,rfl,rfl,rfl,rfl,rfl,rfl,rfl,trivial⟩ ⟨Ext.refl _,by simp,by rw [bEo];exact Own.nil _ _ _⟩ ?_;rintro ⟨k,vk⟩ ρ w11 ⟨x11,hk,hok⟩;simp only at hk hok;dsimp only)|(refine zg (fun w12 x12=>?_);refine jA (b:=.cons ⟨none,_,_⟩ _) (fun (p:List Value) w'=>Ext w10 w'∧txR.rel N2 w' p (bM (tD V (bM V a)) b)) (fun p=> [(6,.pointer (some ⟨b6,0,none⟩)),(7,.pointer (some ⟨b7,0,none⟩)),(43,.agg (aK (bM V a) iv ov).toArray),(48,.agg p.toArray)]) ?_ ?_)|(refine zL (x:=.tmp 26) (p:=(((k:Nat):Int)<(((bM V a).outs.length:Nat):Int))) rfl (fun h6=>?_) (fun h6=>?_))|refine go1 ?_|refine zg λ_ _=>?_|refine zi λ_ _=>?_)
 ·have hkl:k<(bM V a).outs.length:=by omega
  repeat' (first|(refine aL (d:=some 28) (E:=eX) (M:=N2) rfl rfl (n:=k) (l:=(bM V a).outs) (p2.ext (by exact fx)) rfl hkl (fun ad7 cs7 r7 he7=>?_);obtain ⟨rfl,hv7'⟩:=he7)|refine zH (d:=some 13) (fun b13 w13 x13 a13 hb13=>?_)|(refine bP (w0:=w11) (n:=2) (vs:= [.int .i64 (bM V a).outs[k].v,.string (bM V a).outs[k].s]) x13 hb13 a13 rfl rfl rfl rfl rfl (fun w14 x14 c14 a14 r14=>?_);clear x13 c14)|refine zL (x:=.tmp 31) (p:=aG (bM V a)=0) rfl (fun h7=>?_) (fun h7=>?_)|refine aJ (d:=some 35) (.int .u32 ((k:Nat):Int)) rfl (congrArg (fun n=>some (Value.int .u32 n)) (bOh (by omega))) ?_|refine bL (d:=some 36) (cs:=(⟨idS (bM V a),((k:Nat):Int)⟩:Pt).cs) rfl ?_|refine bL (d:=some 38) (cs:=(⟨(bM V a).outs[k].v,(bM V a).outs[k].s,0⟩:Cn).cs) rfl ?_|refine bL (d:=some 39) (cs:=gC.f (rK 0 (jY (bM V a) 0) k)) (by rw [aOm h7 hkl];rfl) ?_|refine zI (d:=some 40) (cs:=gC.f (rK 0 (jY (bM V a) 0) k)) rfl (fun b15 w15 x15 a15 hb15=>?_)|(have hlo:=aHl (bM V a) k;refine cK (d:=some 41) (E:=gC) (v:=vk) (l2:= [rK 0 (jY (bM V a) 0) k]) rfl (hok.ext (by exact fx)) (Ext.size (w:=w10) (by exact fx)) rfl rfl (eS a15 rfl) rfl rfl (by simp only [List.length_cons,List.length_nil];omega) (fun v16 w16 ho16 c16=>?_))|refine go1 ?_|refine zg λ_ _=>?_|refine zi λ_ _=>?_)
  ·exact ⟨(k+1,v16),⟨rfl,rfl,rfl,rfl,rfl,rfl,rfl,rfl,rfl,rfl,rfl,trivial⟩,⟨(Ext.chg (w:=w10) (by exact fx) c16).mono (fun b hb=>.inr (hok.base b (by simpa using hb))),by simp;omega,by rw [bEu h7];exact ho16⟩,by simp;omega⟩
  ·exact ⟨(k+1,vk),⟨rfl,rfl,rfl,rfl,rfl,rfl,rfl,rfl,rfl,rfl,rfl,trivial⟩,⟨by exact fx,by simp;omega,by rw [aN0 h7];rw [aN0 h7] at hok;exact hok.ext (by exact fx)⟩,by simp;omega⟩
 ·have hk:k=(bM V a).outs.length:=by omega
  subst hk
  have t10:txR.rel N2 w10 (aK (bM V a) iv ov) (bM V a):=R.ext t8 (x9.trans x10)
  have r10:Row w10 ⟨b8,0,none⟩ (aK (bM V a) iv ov):=Row.ext x10 r9
  have x710:Ext w7 w10:=x8.trans (x9.trans x10)
  have v10:=SlE.ext x710 hv7
  have z10:=R.ext hb7' x710
  have ru10:=Row.ext x710 ru7
  have hN10:∀b∈N2,b<w10.heap.size:=fun b hb=>nLt (hN2 b hb) x710.size
  have s10:w10.heap.size≤w11.heap.size:=x11.size
  have l10:b8<w10.heap.size:=nLt l9 x10.size
  have hlo:=aHl (bM V a) (bM V a).outs.length
  have x112:Ext w10 w12:=x11.trans x12
  have o12:=hok.ext x12
  have a610:=At.ext x710 a67
  have a710:=At.ext x710 a7
  have hw10:Unit→Ext w w10:=fun _=>(hX' ()).trans x710
  have s710:=x710.size
  clear x710 x12 x11 x10 x9 x8 hv7 hb7' ru7 t8 r9 hok a67 a7 a9 ha7 rt7
  repeat' (first|refine zB ?_ ?_|(refine cK (d:=some 46) (E:=gC) (v:=vk) (l2:=V) rfl (o12.ext (by exact fx)) (Ext.size (w:=w10) (by exact fx)) rfl rfl (SlE.cells (SlE.ext (w:=w10) (by exact fx) v10)) rfl rfl (by omega) (fun v16 w16 ho16 c16=>?_);have x16:Ext w10 w16:=(Ext.chg x112 c16).mono (fun b hb=>.inr (o12.base b (by simpa using hb)));clear c16;rw [←bL9] at ho16;replace ho16:=ho16.sl)|(refine zC (d:=some 48) rfl (aC1 (M:=N2) (cs:=jC b fw) (z:=b) _ (SlE.ext (w:=w16) (by exact fx) ho16) (R.ext z10 (by exact fx)) (by omega) hW1 ⟨by omega,by omega⟩ hW2 (fun b hb=>nLt (hN10 b hb) (Ext.size (by exact fx)))) ?_;rintro _ w17 ⟨p,rfl,t17,x17⟩;have t17:=t17.rel (fun b hb=>nLt (hN10 b hb) (Ext.size (by exact fx))))|(exact ⟨p,⟨rfl,rfl,rfl,rfl,trivial⟩,by exact fx,R.ext t17 (by exact fx)⟩)|refine go1 ?_|refine zg λ_ _=>?_|refine zi λ_ _=>?_)
 ·have hk:k=(bM V a).outs.length:=by omega
  subst hk
  have t10:txR.rel N2 w10 (aK (bM V a) iv ov) (bM V a):=R.ext t8 (x9.trans x10)
  have r10:Row w10 ⟨b8,0,none⟩ (aK (bM V a) iv ov):=Row.ext x10 r9
  have x710:Ext w7 w10:=x8.trans (x9.trans x10)
  have v10:=SlE.ext x710 hv7
  have z10:=R.ext hb7' x710
  have ru10:=Row.ext x710 ru7
  have hN10:∀b∈N2,b<w10.heap.size:=fun b hb=>nLt (hN2 b hb) x710.size
  have s10:w10.heap.size≤w11.heap.size:=x11.size
  have l10:b8<w10.heap.size:=nLt l9 x10.size
  have hlo:=aHl (bM V a) (bM V a).outs.length
  have x112:Ext w10 w12:=x11.trans x12
  have o12:=hok.ext x12
  have a610:=At.ext x710 a67
  have a710:=At.ext x710 a7
  have hw10:Unit→Ext w w10:=fun _=>(hX' ()).trans x710
  have s710:=x710.size
  clear x710 x12 x11 x10 x9 x8 hv7 hb7' ru7 t8 r9 hok a67 a7 a9 ha7 rt7
  rintro p ρ w13 ⟨x13,t13⟩
  obtain ⟨iv2,ov2,rfl,q1,q2,q3⟩:=id t13
  have i1:=q1.one
  have i2:=q2.one
  have x013:=(hw10 ()).trans x13
  have a613:=At.ext x13 a610
  have a713:=At.ext x13 a710
  have t10':=R.ext t10 x13
  have l6:=a613.lt
  have l7:=a713.lt
  refine bP (w0:=w) (n:=4) (vs:=aK (bM V a) iv ov) x013 (by omega) a613 rfl rfl rfl rfl (by simp [aK,e1,e2];exact ⟨rfl,rfl⟩) (fun w14 x14 c14 a14 r14=>?_)
  refine bP (w0:=w) (n:=4) (vs:=aK (bM (tD V (bM V a)) b) iv2 ov2) x14 (by omega) (At.chg c14 a713 (by simpa using Ne.symm h67)) rfl rfl rfl rfl (by simp [aK,i1,i2];exact ⟨rfl,rfl⟩) (fun w15 x15 c15 a15 r15=>?_)
  have n6:b6∈N2:=by rw [←hK];simp
  have n7:b7∈N2:=by rw [←hK];simp
  have hNN:∀b∈N,b∈N2:=fun b hb=>by rw [←hK];simp [hb]
  have h1:=R.step txR (R.step txR t10' c14 (L:= [b6]) (M':=N2) (fun b hb=>.inl (by simp at hb;subst hb;exact n6)) (fun b hb=>.inl hb)) c15 (M':=N) (fun b hb=>.inl (by simp at hb;subst hb;exact n7)) (fun b hb=>.inl (hNN b hb))
  have h2:=R.step txR (R.step txR t13 c14 (M':=N2) (fun b hb=>.inl (by simp at hb;subst hb;exact n6)) (fun b hb=>.inl hb)) c15 (M':=N) (fun b hb=>.inl (by simp at hb;subst hb;exact n7)) (fun b hb=>.inl (hNN b hb))
  repeat (first|refine go1 ?_|refine zg λ_ _=>?_|refine zi λ_ _=>?_)
  exact aC (lQ (cL (Row.chg c15 r14 (by simpa using h67)) rfl rfl) (cL r15 rfl rfl)) ⟨_,_,rfl,h1,h2,x15⟩
end
section
open Go Go.K
attribute [local irreducible] aO aU bQ KOp.wp K.Spec u32 leS vnS str aV cU cD idT aR aG aX idN bD cF bT bH cO
set_option maxHeartbeats 2000000 in
theorem bNa {B g:Nat} {M N U:List Nat} {l:List Ent} {cs:List Value} {t:Tx} (fee:Int) (w:World) (hG:Gr w B g M l) (hU:GrR w g (U++M) l) (hUN:∀b∈U,b∈N) (ht:txR.rel N w cs t) (hs:t.Sm) (hf:lJ fee) (hN:∀b∈N,b<w.heap.size) (hMN:∀b∈M,b∈N) (hn:l.length≤1000):K.Spec Tryz.prog F.graph_Graph_Add [.pointer (some ⟨g,0,none⟩),.agg cs.toArray,.int .i64 fee] w fun r w'=>
  ∃M',r=.int .i64 (cO l t fee).2∧Gr w' B g M' (cO l t fee).1∧Chg M w w'∧(∀b∈M',b∈M∨w.heap.size≤b)∧GrR w' g (U++M') (cO l t fee).1:=by
 have hG0:=hG
 obtain ⟨b1,vo,b2,m,sp,hP,rfl,hu1⟩:=Gr.both hG hU
 have rg:Row w ⟨g,0,none⟩ [.map (some b1),vo,.map (some b2)]:=Row.of_at hP.at_
 have hq1:=hP.ents
 have hq2:=hP.pts
 have ht0:=ht
 obtain ⟨iv,ov,rfl,h1,h2,h3⟩:=ht
 by_cases he0:kH t fee=0
 ·refine jQ rfl ?_
  unfold gT
  refine oy ?_
  repeat' (first|refine go1 ?_|refine zg λ_ _=>?_|refine zi λ_ _=>?_|refine zL rfl (fun h=>absurd h (by decide)) (fun h=>?_)|refine zD rfl rfl (fun bp wp xp ap (rp:Row wp ⟨bp,0,none⟩ (aK t iv ov)) hp0=>?_)|(refine zC rfl (aAq (M:=N) (cs:=aK t iv ov) (t:=t) fee _ (by exact fx) hs hf (fun b hb=>nLt (hN b hb) (Ext.size (by exact fx)))) ?_;rintro _ w5 ⟨ds,rfl,d1,d2,d3,x5⟩;obtain ⟨hok,he5⟩:=d3 he0;rw [he0];clear d3;generalize hxe:(⟨t,idT t,fee,(aR t:Nat)⟩:Ent)=x at hok he5 d1 d2 ⊢;have htx:x.tx=t:=(by rw [←hxe]);have hid:x.id=idT t:=(by rw [←hxe]);have he5':=he5;obtain ⟨iv5,ov5,rfl,o1,o2,o3⟩:=he5)|refine zE (d':=7) (fun _=>rfl) rfl rfl d2 (fun b7 w7 x7 a7 (r7:Row w7 ⟨b7,0,none⟩ (bN x iv5 ov5)) hb7=>?_)|refine sP (d:=some 35) (KE:=sK) (F:=bF) (M:=dQ g b1 b2 vo) (k:=x.id) rfl rfl (by exact fx) rfl rfl (fun y cs hy hr=>?_) (fun hno=>?_)|(refine zH (d:=some 9) (fun b9 w9 x9 a9 hb9=>?_);have s9:w.heap.size≤b9:=nTr (Ext.size (w:=w) (by exact fx)) hb9;have s79:w7.heap.size≤b9:=nTr (Ext.size (w:=w7) (by exact fx)) hb9)|(obtain ⟨iv9,ov9,rfl,q1,q2,q3⟩:=hr;have i1:=q1.one;have i2:=q2.one;refine bP (w0:=w) (vs:=bN y iv9 ov9) (by exact fx) s9 (by focus (repeat (first|assumption|(apply At.ext;assumption)))) rfl rfl rfl rfl (by simp [bN,i1,i2];exact ⟨rfl,rfl,rfl,rfl,rfl⟩) (fun w10 x10 c10 a10 r10=>?_);clear q1 q2)|refine bP (w0:=w) (vs:=aBu) (by exact fx) s9 (by focus (repeat (first|assumption|(apply At.ext;assumption)))) rfl rfl rfl rfl rfl (fun w10 x10 c10 a10 r10=>?_)|refine zG (E:=inR) (M:=N) (l:=t.ins) rfl (SlR.ext h1 (by exact fx)) ?_)
  ·rw [hP.inv.ent] at hy
   have hany:l.any (fun x=>decide (x.id=idT t))=true:=by
    rw [List.any_eq_true]
    exact ⟨y,List.mem_of_find?_eq_some hy,by have:=List.find?_some hy;rw [←hid];exact this⟩
   rw [vZ he0 (fun _ _ _=>trivial),if_pos hany]
   exact aC rfl ⟨_,rfl,hG0.ext x10,x10.mono (by simp),fun b hb=>.inl hb,hU.ext x10⟩
  ·have l7:=a7.lt
   have lp:=ap.lt
   have s5:=x5.size
   have s7:=x7.size
   have sp:=xp.size
   have ap0:=At.chg c10 (At.ext (show Ext wp w9 by exact fx) ap) (by simp;omega)
   have a70:=At.chg c10 (At.ext (show Ext w7 w9 by exact fx) a7) (by simp;omega)
   have x59:Ext w5 w9:=by exact fx
   have k1:=o1.lt
   have k2:=o2.lt
   have e10:bF.rel N w10 (bN x iv5 ov5) x:=by
    have n1:b9∉aP iv5:=fun h=>by have:=k1 _ h;omega
    have n2:b9∉aP ov5:=fun h=>by have:=k2 _ h;omega
    have p1:=(o1.step (M':=b9::N) x59 (by simp) (fun b hb=>by rcases List.mem_cons.1 hb with h|h;(right;omega);exact .inl h)).step (M':=N) c10 (by intro y hy;simp at hy;subst hy;exact ⟨n1,.inl (by simp)⟩) (fun _ h=>.inl (by simp [h]))
    have p2:=(o2.step (M':=b9::N) x59 (by simp) (fun b hb=>by rcases List.mem_cons.1 hb with h|h;(right;omega);exact .inl h)).step (M':=N) c10 (by intro y hy;simp at hy;subst hy;exact ⟨n2,.inl (by simp)⟩) (fun _ h=>.inl (by simp [h]))
    exact aNb.rel (B:=w.heap.size) ⟨iv5,ov5,rfl,p1.lower sp,p2.lower sp,o3⟩ hN
   have rp0:Row w10 ⟨bp,0,none⟩ (aK t iv ov):=Row.of_at ap0
   have r70:Row w10 ⟨b7,0,none⟩ (bN x iv5 ov5):=Row.of_at a70
   have hb7:w.heap.size≤b7:=by omega
   have hbp:=hp0
   have hl1:=Gr.lt hG0
   have hins:=hs.ins
   clear ‹Ext w7 _›
   clear x59 k1 k2 o1 o2 he5' c10 a10 r10 x9 a9 hb9 s9 s79 x7 a7 r7 x5 xp ap rp l7 lp s5 s7 sp hp0
   repeat' (first|refine go1 ?_|refine zg λ_ _=>?_|refine zi λ_ _=>?_|refine zL rfl (fun h=>?_) (fun h=>?_)|refine zG (E:=inR) (M:=N) (l:=t.ins) rfl (SlR.ext h1 (by exact fx)) ?_|(refine aQ (fun (i:Nat) w'=>Ext w10 w'∧i≤t.ins.length∧∀j (hj:j<t.ins.length),j<i→aS sp t.ins[j].p=none) (fun i=> [(0,.pointer (some ⟨g,0,none⟩)),(4,.pointer (some ⟨bp,0,none⟩)),(7,.pointer (some ⟨b7,0,none⟩)),(40,iv),(41,.int .i64 (t.ins.length:Nat)),(42,.int .i64 i)]) (fun i=>t.ins.length - i) 0 ⟨rfl,rfl,rfl,rfl,rfl,rfl,trivial⟩ ⟨by exact fx,by simp,fun j hj h=>by omega⟩ ?_;rintro i ρ w3 ⟨x3,hi,hfr⟩)|(refine aL (d:=some 44) (E:=inR) (M:=N) rfl rfl (n:=i) (l:=t.ins) (SlR.ext h1 (x10.trans x3)) rfl (by omega) (fun ad cs r4 he=>?_);obtain ⟨wv,rfl,hw,hp5,hp6⟩:=he;obtain ⟨bs1,cp1,rfl⟩:=hw.form;have hil:i<t.ins.length:=(by omega))|refine zE (d':=12) (fun _=>rfl) rfl rfl rfl (fun b8 w8 x8 a8 (r8:Row w8 ⟨b8,0,none⟩ (gO t.ins[i] (.slice bs1 t.ins[i].wit.length cp1))) hb8=>?_)|refine mZ (d:=some 53) (E:=ptK) (fv:=Value.string) (k:=t.ins[i].p) rfl rfl (dW.ext (w:=w) (by exact fx) hq2) rfl rfl (fun y hy=>?_) (fun hn2=>?_))
   ·rw [hP.inv.spt,Option.map_eq_some_iff] at hy
    obtain ⟨z,hz, -⟩:=hy
    have hany:¬l.any (fun x=>decide (x.id=idT t))=true:=by
     rw [hP.inv.ent] at hno
     rw [List.any_eq_true]
     rintro ⟨y,h1,h2⟩
     exact (List.find?_eq_none.1 hno y h1) (by rw [hid];exact h2)
    have hany2:t.ins.any (fun i=>l.any fun x=>spends x i.p)=true:=List.any_eq_true.2 ⟨_,gMe hil,List.any_eq_true.2 ⟨z,List.mem_of_find?_eq_some hz,(by have:=List.find?_some hz;exact this)⟩⟩
    rw [vZ he0 (fun _ _ _=>trivial),if_neg hany,if_pos hany2]
    have xx:Ext w _:=Ext.trans (x10.trans (x3.trans x8)) (by assumption)
    exact aC rfl ⟨_,rfl,hG0.ext xx,xx.mono (by simp),fun b hb=>.inl hb,hU.ext xx⟩
   ·exact ⟨i+1,⟨rfl,rfl,rfl,rfl,rfl,rfl,trivial⟩,⟨by exact fx,by omega,fun j hj h=>by
     rcases Nat.lt_succ_iff_lt_or_eq.1 h with h5|rfl
     ·exact hfr j hj h5
     ·exact hn2⟩,by omega⟩
   ·rename_i wB xB
    have hfree:∀j (hj:j<t.ins.length),aS sp t.ins[j].p=none:=fun j hj=>hfr j hj (by omega)
    have x0B:=x3.trans xB
    have xwB:Ext w wB:=x10.trans x0B
    have eB:bF.rel (U++dQ g b1 b2 vo) wB (bN x iv5 ov5) x:=bF.step e10 x0B (by simp) (fun b hb=>.inl ((List.mem_append.1 hb).elim (hUN b) (hMN b)))
    have apB:=ap0.ext x0B
    have a7B:=a70.ext x0B
    have agB:=hP.at_.ext xwB
    have mB:=hu1.ext xwB
    have pB:=hq2.ext xwB
    have oB:=hP.ord.ext xwB
    have sB:=xwB.size
    have nd:=hP.nd
    simp only [List.nodup_cons,List.mem_cons,not_or] at nd
    obtain ⟨⟨n1,n2,n3⟩,⟨n4,n5⟩,n6,n7⟩:=nd
    have l1:b1<w.heap.size:=hl1 _ (by simp)
    have l2:b2<w.heap.size:=hl1 _ (by simp)
    have lg:g<w.heap.size:=hl1 _ (by simp)
    have lo:∀b∈aP vo,b<w.heap.size:=fun b hb=>hl1 b (by simp [hb])
    clear x3 xB x0B hi x10 ap0 a70 rp0 r70 e10 rg hfr h
    refine aFh (KE:=sK) (F:=bF) (M:=U++dQ g b1 b2 vo) (k:=x.id) (v:=x) (cs:=bN x iv5 ov5) rfl rfl rfl mB eB (by simp) rfl rfl (fun w11 c11 m11=>?_)
    have ag11:=agB.chg c11 (by simp;omega)
    have a711:=a7B.chg c11 (by simp;omega)
    have ap11:=apB.chg c11 (by simp;omega)
    have p11:=pB.chg c11 (by simp;omega)
    have o11:=oB.chg c11 (fun b hb h=>by simp at h;subst h;exact n5 hb)
    have rg11:Row w11 ⟨g,0,none⟩ [.map (some b1),vo,.map (some b2)]:=Row.of_at ag11
    have r711:Row w11 ⟨b7,0,none⟩ (bN x iv5 ov5):=Row.of_at a711
    have C11:Chg (dQ g b1 b2 vo) w w11:=(xwB.chg c11).mono (fun b hb=>by simp at hb;subst hb;exact .inl (by simp))
    have s11:=c11.size
    have sB11:w.heap.size≤w11.heap.size:=nTr sB s11
    have hBw:B≤w.heap.size:=(by have:=hP.lo;omega)
    clear agB a7B apB pB oB mB eB c11 xwB
    repeat' (first|refine go1 ?_|refine zg λ_ _=>?_|refine zi λ_ _=>?_|refine fR ?_ ?_|refine zI (d:=some 72) (cs:= [.string x.id]) rfl (fun bz wz xz az hbz=>?_))
    all_goals
     refine pX (d:=some 73) (E:=bO) (B:=B) (l:=l.map (fun x:Ent=>x.id)) (l2:= [x.id]) (n:=1) (new:= [.string x.id]) rfl (o11.ext (by exact fx)) (nTr (nTr hBw sB11) (Ext.size (w:=w11) (by exact fx))) rfl rfl (eS (by focus (repeat (first|assumption|(apply At.ext;assumption)))) rfl) rfl rfl (by simp only [List.length_map,List.length_cons,List.length_nil];omega) (fun v13 w13 o13 _ c13 hb13=>?_)
     have c1:Chg (aP vo) w11 w13:=Ext.chg (by exact fx) c13
     have hb1:∀b∈aP v13,b∈aP vo∨w11.heap.size≤b:=fun b hb=>(hb13 b hb).imp id (nTr (Ext.size (by exact fx)))
     clear c13 hb13 az hbz xz
     clear ‹Ext w11 _›
     have s13:=c1.size
     have ag13:=ag11.chg c1 n3
     have ap13:=ap11.chg c1 (fun h=>by have:=lo _ h;omega)
     have a713:=a711.chg c1 (fun h=>by have:=lo _ h;omega)
     have p13:=p11.chg c1 n6
     have rg13:Row w13 ⟨g,0,none⟩ [.map (some b1),vo,.map (some b2)]:=Row.of_at ag13
     repeat (first|refine go1 ?_|refine zg λ_ _=>?_|refine zi λ_ _=>?_)
     have hv1:v13.oneCell'=true:=by obtain ⟨_,_,e⟩:=o13.sl.form;rw [e];rfl
     refine cN (b:=g) (o:=1) (v:=v13) rfl rfl hv1 ag13 (by simp) (fun w14 c14 ag14=>?_)
     have ag14:At w14 g (.cells [.map (some b1),v13,.map (some b2)].toArray T.graph_Graph (0,0)):=ag14
     have rg14:Row w14 ⟨g,0,none⟩ [.map (some b1),v13,.map (some b2)]:=Row.of_at ag14
     have a714:=a713.chg c14 (by simp;omega)
     have ap14:=ap13.chg c14 (by simp;omega)
     have r714:Row w14 ⟨b7,0,none⟩ (bN x iv5 ov5):=Row.of_at a714
     have rp14:Row w14 ⟨bp,0,none⟩ (aK t iv ov):=Row.of_at ap14
     have hv3:∀b,b<w.heap.size→b∉aP vo→b∉aP v13:=fun b hb hn h=>by
      rcases hb1 b h with h1|h1
      ·exact hn h1
      ·omega
     have o14:=o13.chg c14 (fun b hb h=>by simp at h;subst h;exact hv3 _ lg n3 hb)
     have p14:=p13.chg c14 (by simp;omega)
     have hM':∀b∈dQ g b1 b2 v13,b∈dQ g b1 b2 vo∨w11.heap.size≤b:=fun b hb=>by
      simp only [List.mem_cons] at hb ⊢
      rcases hb with rfl|rfl|rfl|hb
      ·exact .inl (.inl rfl)
      ·exact .inl (.inr (.inl rfl))
      ·exact .inl (.inr (.inr (.inl rfl)))
      ·exact (hb1 b hb).imp (fun h=>.inr (.inr (.inr h))) id
     have hMU:∀b∈U++dQ g b1 b2 v13,b∈U++dQ g b1 b2 vo∨w11.heap.size≤b:=fun b hb=>(List.mem_append.1 hb).elim (fun h=>.inl (List.mem_append_left _ h)) (fun h=>(hM' b h).imp (fun h2=>List.mem_append_right _ h2) id)
     have m13:nG sK bF (U++dQ g b1 b2 v13) w13 b1 (fN m x.id x):=m11.step c1 n5 (fun b hb=>.inl (by simp [hb])) hMU
     have m14:=m13.step (M':=U++dQ g b1 b2 v13) c14 (by simp;omega) (fun b hb=>by simp at hb;subst hb;exact .inl (by simp)) (fun _ h=>.inl h)
     have C14:Chg (dQ g b1 b2 vo) w w14:=((C11.trans c1).trans c14).mono (fun b hb=>by simp at hb ⊢;grind)
     have s14:=c14.size
     have hi14:SlR inR N w14 iv t.ins:=h1.step C14 (fun b hb=>.inl (hMN b hb)) (fun _ h=>.inl h)
     clear ag13 rg13 a713 ap13 o13 p13 m13 c14 c1 m11 ag11 a711 ap11 p11 o11 rg11 r711 C11
     clear ap14
     repeat' (first|refine go1 ?_|refine zg λ_ _=>?_|refine zi λ_ _=>?_|refine zL rfl (fun h=>?_) (fun h=>?_)|refine zG (E:=inR) (M:=N) (l:=t.ins) rfl (SlR.ext hi14 (by exact fx)) ?_|(refine aQ (fun (i:Nat) w'=>Chg [b2] w14 w'∧i≤t.ins.length∧dW ptK Value.string w' b2 (mL sp (t.ins.take i) x.id)) (fun i=> [(0,.pointer (some ⟨g,0,none⟩)),(7,.pointer (some ⟨b7,0,none⟩)),(77,iv),(78,.int .i64 (t.ins.length:Nat)),(79,.int .i64 i)]) (fun i=>t.ins.length - i) 0 ⟨rfl,rfl,rfl,rfl,rfl,trivial⟩ ⟨(show Ext w14 _ by exact fx).mono (by simp),by simp,dW.ext (by exact fx) p14⟩ ?_;rintro i ρ w3 ⟨x3,hi,hmp⟩))
     ·have hi3:SlR inR N w3 iv t.ins:=hi14.step x3 (fun b hb=>.inl (hMN b (by simp at hb;simp [hb]))) (fun _ h=>.inl h)
      have rg3:Row w3 ⟨g,0,none⟩ [.map (some b1),v13,.map (some b2)]:=Row.of_at (ag14.chg x3 (by simp;omega))
      have r73:Row w3 ⟨b7,0,none⟩ (bN x iv5 ov5):=Row.of_at (a714.chg x3 (by simp;omega))
      clear r714 rp14 rg14
      repeat' (first|refine go1 ?_|refine zg λ_ _=>?_|refine zi λ_ _=>?_|(refine aL (d:=some 81) (E:=inR) (M:=N) rfl rfl (n:=i) (l:=t.ins) (SlR.ext hi3 (by exact fx)) rfl (by omega) (fun ad cs r4 he=>?_);obtain ⟨wv,rfl,hw,hp5,hp6⟩:=he;obtain ⟨bs1,cp1,rfl⟩:=hw.form;have hil:i<t.ins.length:=(by omega))|refine zE (d':=16) (fun _=>rfl) rfl rfl rfl (fun b8 w8 x8 a8 (r8:Row w8 ⟨b8,0,none⟩ (gO t.ins[i] (.slice bs1 t.ins[i].wit.length cp1))) hb8=>?_)|(refine fA (E:=ptK) (fv:=Value.string) (k:=t.ins[i].p) (v:=x.id) rfl rfl rfl (dW.ext (w:=w3) (by exact fx) hmp) rfl rfl (fun w5 c5 m5=>?_);have x35:Chg [b2] w3 w5:=Ext.chg (by exact fx) c5))
      exact ⟨i+1,⟨rfl,rfl,rfl,rfl,rfl,trivial⟩,⟨(x3.trans x35).mono (by simp),by omega,by rw [aMw hil];exact m5⟩,by omega⟩
     ·have ei:i=t.ins.length:=by omega
      subst ei
      rw [tLe (Nat.le_refl _)] at hmp
      have hany:¬l.any (fun x=>decide (x.id=idT t))=true:=by
       rw [hP.inv.ent] at hno
       rw [List.any_eq_true]
       rintro ⟨y,h1,h2⟩
       exact (List.find?_eq_none.1 hno y h1) (by rw [hid];exact h2)
      have hnone:∀i∈t.ins,∀y∈l,spends y i.p=false:=fun i hi y hy=>by
       obtain ⟨j,hj,rfl⟩:=List.getElem_of_mem hi
       have h5:=hfree j hj
       rw [hP.inv.spt,Option.map_eq_none_iff] at h5
       have h6:=List.find?_eq_none.1 h5 y hy
       simpa using h6
      have hany2:¬t.ins.any (fun i=>l.any fun x=>spends x i.p)=true:=by
       rw [List.any_eq_true]
       rintro ⟨i,hi,h⟩
       obtain ⟨y,hy,h⟩:=List.any_eq_true.1 h
       rw [hnone i hi y hy] at h;cases h
      rw [vZ he0 (fun _ _ _=>trivial),if_neg hany,if_neg hany2,hxe]
      have hno':∀y∈l,y.id≠x.id:=fun y hy e=>hany (List.any_eq_true.2 ⟨y,hy,dTr (by rw [e,hid])⟩)
      have hinv:GI (fN m x.id x) (mL sp x.tx.ins x.id) (l++ [x]):=GI.add hP.inv hok hno' (fun y hy p hp=>by
       unfold spends at hp
       obtain ⟨i,hi,h⟩:=List.any_eq_true.1 hp
       rw [htx] at hi
       rw [←of_decide_eq_true h]
       exact hnone i hi y hy)
      rw [htx] at hinv
      have nb2:b2∉aP v13:=hv3 _ l2 n6
      have nb1:b1∉aP v13:=hv3 _ l1 n5
      have nbg:g∉aP v13:=hv3 _ lg n3
      have n13:(aP v13).Nodup:=vL v13
      have hC:Chg (dQ g b1 b2 vo) w w3:=(C14.trans x3).mono (fun b hb=>by simp at hb ⊢;grind)
      have e13:(l++ [x]).map (·.id)=l.map (·.id)++ [x.id]:=by simp
      have agx:=ag14.chg x3 (by simp;omega)
      have mx:=m14.step (M':=U++dQ g b1 b2 v13) x3 (by simp;omega) (fun b hb=>.inl (by simp at hb;simp [hb])) (fun _ h=>.inl h)
      have mx0:=mx.step (M':=dQ g b1 b2 v13) (Chg.refl [] _) (by simp) (by simp) (fun b hb=>.inl (List.mem_append_right _ hb))
      have ox:=o14.chg x3 (fun b hb h=>by simp at h;subst h;exact nb2 hb)
      rw [←e13] at ox
      refine aC rfl ⟨_,rfl,⟨b1,v13,b2,fN m x.id x,mL sp t.ins x.id,⟨agx,mx0,hmp,ox,hinv,?_,hP.lo⟩,rfl⟩,hC,fun b hb=>(hM' b hb).imp id (nTr sB11),⟨b1,v13,b2,fN m x.id x,mL sp t.ins x.id,⟨agx,mx,hmp,ox.sl,hinv⟩⟩⟩
      simp only [List.nodup_cons,List.mem_cons,not_or]
      exact ⟨⟨n1,n2,nbg⟩,⟨n4,nb1⟩,nb2,n13⟩
 ·refine jQ rfl ?_
  unfold gT
  refine oy ?_
  repeat' (first|refine go1 ?_|refine zg λ_ _=>?_|refine zi λ_ _=>?_|refine zL rfl (fun h=>?_) (fun h=>absurd h (by simpa using he0))|refine zN rfl (fun h=>?_) (fun h=>absurd h he0)|refine zD rfl rfl (fun bp wp xp ap (rp:Row wp ⟨bp,0,none⟩ (aK t iv ov)) hp0=>?_)|(refine zC rfl (aAq (M:=N) (cs:=aK t iv ov) (t:=t) fee _ (by exact fx) hs hf (fun b hb=>nLt (hN b hb) (Ext.size (by exact fx)))) ?_;rintro _ w5 ⟨ds,rfl,d1,d2, -,x5⟩)|refine zE (d':=7) (fun _=>rfl) d1 rfl d2 (fun b7 w7 x7 a7 r7 hb7=>?_))
  have xx:Ext w w7:=by exact fx
  rw [aXh he0]
  exact aC rfl ⟨_,rfl,hG0.ext xx,xx.mono (by simp),fun b hb=>.inl hb,hU.ext xx⟩
theorem aTl {B g:Nat} {M N U:List Nat} {l:List Ent} {cs:List Value} {t:Tx} (fee:Int) (w:World) (hG:GrU w B g M U l) (hUN:∀b∈U,b∈N) (ht:txR.rel N w cs t) (hs:t.Sm) (hf:lJ fee) (hN:∀b∈N,b<w.heap.size) (hMN:∀b∈M,b∈N) (hn:l.length≤1000):K.Spec Tryz.prog F.graph_Graph_Add [.pointer (some ⟨g,0,none⟩),.agg cs.toArray,.int .i64 fee] w fun r w'=>
  ∃M',r=.int .i64 (cO l t fee).2∧GrU w' B g M' U (cO l t fee).1∧Chg M w w'∧∀b∈M',b∈M∨w.heap.size≤b:=
 jH (bNa fee w hG.gr hG.rd hUN ht hs hf hN hMN hn) fun _ _ ⟨M',h1,h2,h3,h4,h5⟩=>⟨M',h1,⟨h2,h5,fun b hb h=>(h4 b hb).elim (fun h6=>hG.dj b h6 h) (fun h6=>by have:=hN b (hUN b h);omega)⟩,h3,h4⟩
end
end Go.Proofs.YtfebcajheojodaaGreatDoor
