/- Contracts: the fee of a transaction, by the document. Contra -/
import Derived.Test.YtgloknkcfchnlaaGreatZ42
import Derived.Test.YtgloknkcfchnlaaGreatZ44
import Derived.Test.YtgloknkcfchnlaaGreatZ46
set_option linter.unusedVariables false
set_option linter.unusedSimpArgs false
namespace Go.Proofs.YtgloknkcfchnlaaGreat
section
open Go Go.K
attribute [local irreducible] aF aP bG KOp.wp K.Spec u32 leS vnS str aR cF bU dF iT nL dQ iX jD aE aQ bS idT aO inE
theorem bMa (V:List En) (q:Pt):(∃n,∃h:n<V.length,fC V q=(n:Nat)∧aL V q=some V[n].2)∨(fC V q= -1∧aL V q=none):=by
 unfold fC
 cases hi:eD V q with
 |none=>exact .inr ⟨rfl,mY hi⟩
 |some n=>exact .inl ⟨n,aDg hi,rfl,mX hi (aDg hi)⟩
theorem aZn {f:Pt→Option Cn} {t:Tx} {h:Int} {x:TIn} (e:f x.p=none):inE f t h x=8:=by unfold inE;rw [e]
theorem bB7 {f:Pt→Option Cn} {t:Tx} {h:Int} {x:TIn} {c:Cn} (e:f x.p=some c) (h1:iX c.s t x≠0):inE f t h x=iX c.s t x:=by unfold inE;rw [e];simp only;rw [if_pos h1]
theorem bBr {f:Pt→Option Cn} {t:Tx} {h:Int} {x:TIn} {c:Cn} (e:f x.p=some c) (h1:iX c.s t x=0) (h2:jD t x c.h h=false):inE f t h x=10:=by unfold inE;rw [e];simp only;rw [if_neg (by rw [h1];decide),h2];rfl
theorem bQq {f:Pt→Option Cn} {t:Tx} {h:Int} {x:TIn} {c:Cn} (e:f x.p=some c) (h1:iX c.s t x=0) (h2:jD t x c.h h=true):inE f t h x=0:=by unfold inE;rw [e];simp only;rw [if_neg (by rw [h1];decide),h2];rfl
theorem bKq {f:Pt→Option Cn} {x:TIn} {c:Cn} (e:f x.p=some c):inV f x=c.v:=by unfold inV;rw [e];rfl
def aF6 (f:Pt→Option Cn) (t:Tx) (h:Int):Value:=.tuple #[.int .i64 (dZ f t h).1,.int .i64 (dZ f t h).2.1,.int .i64 (dZ f t h).2.2]
set_option maxHeartbeats 4000000 in
theorem aL0 {M:List Nat} {v:Value} {cs:List Value} {t:Tx} {l:List En} (h:Int) (w:World) (hv:SlE bM w v l) (ht:txR.rel M w cs t) (hs:t.Sm) (hn:l.length≤100000) (hl:∀e∈l,e.2.s.size≤1000000):
  K.Spec Tryz.prog F.kedgeref11_Fee [v,.agg cs.toArray,.int .i64 h] w fun r w'=>r=aF6 (aL l) t h∧Ext w w':=by
 have ht0:=ht
 have hin:=hs.ins
 obtain ⟨iv,ov,rfl,h1,h2,h3,h4⟩:=ht
 by_cases hc:aE t=0
 ·obtain ⟨hpos,hbase⟩:=aPk hc
  have hw:=fun {i} (hi:i<t.ins.length)=>aX7 hc hi
  cases hg:aQ t with
  |true=>
   rw [hg] at hbase
   have e:aF6 (aL l) t h=.tuple #[.int .i64 0,.int .i64 4,.int .i64 (-1)]:=by unfold aF6;rw [aFi hc hg]
   rw [e]
   refine rX rfl ?_
   unfold mC
   refine oy ?_
   repeat' (first|refine zD rfl rfl (fun bp wp xp ap (rp:Row wp ⟨bp,0,none⟩ (aJ t iv ov)) hp0=>?_)|(refine zC (d:=some 21) rfl (sN (M:=M) (t:=t) (cs:=aJ t iv ov) _ (R.ext ht0 (by exact fx)) hs) ?_;rintro _ w2 ⟨rfl,x2⟩;rw [hc])|(refine aM (d:=some 27) (E:=inR) (M:=M) rfl rfl (n:=0) (l:=t.ins) (SlR.ext h1 (by exact fx)) rfl hpos (fun ad cs r4 he=>?_);obtain ⟨wv,rfl,hwv,hp5,hp6⟩:=he)|(refine zC (d:=some 30) rfl (aBx t.ins[0].p _) ?_;rintro _ w3 ⟨rfl,x3⟩;rw [hbase])|refine go1 ?_|refine zg λ_ _=>?_|refine zi λ_ _=>?_)
   exact aA rfl ⟨rfl,by exact fx⟩
  |false=>
   rw [hg] at hbase
   refine rX rfl ?_
   unfold mC
   refine oy ?_
   repeat' (first|refine zD (d:=some 4) rfl rfl (fun bp wp xp ap (rp:Row wp ⟨bp,0,none⟩ (aJ t iv ov)) hp0=>?_)|(refine zC (d:=some 21) rfl (sN (M:=M) (t:=t) (cs:=aJ t iv ov) _ (R.ext ht0 (by exact fx)) hs) ?_;rintro _ w2 ⟨rfl,x2⟩;rw [hc])|(refine aM (d:=some 27) (E:=inR) (M:=M) rfl rfl (n:=0) (l:=t.ins) (SlR.ext h1 (by exact fx)) rfl hpos (fun ad cs r4 he=>?_);obtain ⟨wv,rfl,hwv,hp5,hp6⟩:=he)|(refine zC (d:=some 30) rfl (aBx t.ins[0].p _) ?_;rintro _ w3 ⟨rfl,x3⟩;rw [hbase])|(refine aI (fun (p:Nat × Value) w'=>Ext wp w'∧p.1≤t.ins.length∧Own aAj T.int wp.heap.size w' p.2 ((t.ins.take p.1).map (inV (aL l)))∧∀j,j<p.1→∀hj:j<t.ins.length,inE (aL l) t h t.ins[j]=0) (fun p=> [(0,v),(2,.int .i64 h),(4,.pointer (some ⟨bp,0,none⟩)),(11,p.2),(12,.int .i64 (p.1:Nat))]) (fun p=>t.ins.length - p.1) (0,.slice none 0 0) ⟨rfl,rfl,rfl,rfl,rfl,trivial⟩ ⟨by exact fx,by simp,Own.nil _ _ _,fun j hj=>absurd hj (by simp)⟩ ?_;rintro ⟨i,v11⟩ ρ w4 ⟨x4,hi,ho,hk⟩;simp only at hi ho hk;dsimp only)|refine zG (d:=some 35) (E:=inR) (M:=M) (l:=t.ins) rfl (SlR.ext h1 (by exact fx)) ?_|refine zL (x:=.tmp 36) (p:=((i:Nat):Int)<((t.ins.length:Nat):Int)) rfl (fun h9=>?_) (fun h9=>?_)|refine go1 ?_|refine zg λ_ _=>?_|refine zi λ_ _=>?_)
   ·have hil:i<t.ins.length:=by omega
    have hwi:=hw hil
    have stop:inE (aL l) t h t.ins[i]≠0→aF6 (aL l) t h=.tuple #[.int .i64 0,.int .i64 (inE (aL l) t h t.ins[i]),.int .i64 (i:Nat)]:=fun he=>by unfold aF6;rw [aWf hc hg hil hk he]
    have rp4:Row w4 ⟨bp,0,none⟩ (aJ t iv ov):=rp.ext x4
    have x04:Ext w w4:=by exact fx
    have ht4:=R.ext ht0 x04
    have h14:=h1.ext x04
    have hv4:=hv.ext x04
    have x04':Unit→Ext w w4:=fun _=>x04
    have x4':Unit→Ext wp w4:=fun _=>x4
    clear x04 x4 xp x2 x3
    repeat' (first|(refine aM (d:=some 43) (E:=inR) (M:=M) rfl rfl (n:=i) (l:=t.ins) (SlR.ext h14 (by exact fx)) rfl hil (fun ad cs r4 he=>?_);obtain ⟨wv2,rfl,hwv2,hp52,hp62⟩:=he)|(refine zC (d:=some 46) rfl (pM t.ins[i].p _ (SlE.ext (w:=w4) (by exact fx) hv4) hn) ?_;rintro _ w5 ⟨rfl,x5⟩)|refine go1 ?_|refine zg λ_ _=>?_|refine zi λ_ _=>?_)
    rcases bMa l t.ins[i].p with ⟨n,hnl,e1,e2⟩|⟨e1,e2⟩
    ·rw [e1]
     obtain ⟨c,hcc⟩:∃c,c=l[n].2:=⟨_,rfl⟩
     have hcs:c.s.size≤1000000:=by rw [hcc];exact hl _ (gMe hnl)
     rw [←hcc] at e2
     by_cases ho0:iX c.s t t.ins[i]=0
     ·cases hrp:jD t t.ins[i] c.h h with
      |false=>
       rw [stop (by rw [bBr e2 ho0 hrp];decide),bBr e2 ho0 hrp]
       repeat' (first|refine zL (x:=.tmp 48) rfl (fun h=>absurd h (by omega)) (fun _=>?_)|refine aS (d:=some 52) (E:=bM) rfl rfl (n:=n) (l:=l) (SlE.ext (w:=w4) (by exact fx) hv4) rfl hnl (fun ad52 r52=>?_)|(refine zE (d':=14) (fun _=>rfl) rfl rfl (by rfl) (fun b7 w7 x7 a7 (r7:Row w7 ⟨b7,0,none⟩ l[n].2.cs) hb7=>?_);rw [←hcc] at r7)|(refine zC (d:=some 60) rfl (aHp (M:=M) (t:=t) (cs:=aJ t iv ov) c.s hcs i hil hin hwi _ (R.ext ht4 (by exact fx))) ?_;rintro _ w8 ⟨rfl,x8⟩;rw [ho0])|(refine zC (d:=some 70) rfl (aSi (M:=M) (t:=t) (cs:=aJ t iv ov) i hil hin c.h h _ (R.ext ht4 (by exact fx))) ?_;rintro _ w9 ⟨rfl,x9⟩;rw [hrp])|refine go1 ?_|refine zg λ_ _=>?_|refine zi λ_ _=>?_)
       exact aA rfl ⟨rfl,(x04' ()).trans (by exact fx)⟩
      |true=>
       have hok:=bQq (h:=h) e2 ho0 hrp
       have hiv:=bKq e2
       repeat' (first|refine zL (x:=.tmp 48) rfl (fun h=>absurd h (by omega)) (fun _=>?_)|refine aS (d:=some 52) (E:=bM) rfl rfl (n:=n) (l:=l) (SlE.ext (w:=w4) (by exact fx) hv4) rfl hnl (fun ad52 r52=>?_)|(refine zE (d':=14) (fun _=>rfl) rfl rfl (by rfl) (fun b7 w7 x7 a7 (r7:Row w7 ⟨b7,0,none⟩ l[n].2.cs) hb7=>?_);rw [←hcc] at r7)|(refine zC (d:=some 60) rfl (aHp (M:=M) (t:=t) (cs:=aJ t iv ov) c.s hcs i hil hin hwi _ (R.ext ht4 (by exact fx))) ?_;rintro _ w8 ⟨rfl,x8⟩;rw [ho0])|(refine zC (d:=some 70) rfl (aSi (M:=M) (t:=t) (cs:=aJ t iv ov) i hil hin c.h h _ (R.ext ht4 (by exact fx))) ?_;rintro _ w9 ⟨rfl,x9⟩;rw [hrp])|refine zI (d:=some 78) (cs:= [.int .i64 c.v]) rfl (fun b8 w8 x8 a8 hb8=>?_)|refine cA (d:=some 79) (E:=aAj) (v:=v11) (l2:= [c.v]) rfl (ho.ext (by exact fx)) (nTr (Ext.size (x4' ())) (Ext.size (w:=w4) (by exact fx))) rfl rfl (dX a8 rfl) rfl rfl (by simp;omega) (fun v10 w10 o10 c10=>?_)|refine go1 ?_|refine zg λ_ _=>?_|refine zi λ_ _=>?_)
       have x410:=Ext.chg ((x4' ()).trans (show Ext w4 _ by exact fx)) c10
       exact ⟨(i+1,v10),⟨rfl,rfl,rfl,rfl,rfl,trivial⟩,⟨x410.mono (fun b hb=>.inr (ho.base b hb)),by simp only;omega,by simp only;rw [List.take_succ_eq_append_getElem hil,List.map_append,List.map_cons,List.map_nil,hiv];exact o10,fun j hj hjl=>by
        simp only at hj
        by_cases e:j=i
        ·subst e;exact hok
        ·exact hk j (by omega) hjl⟩,by simp only;omega⟩
     ·rw [stop (by rw [bB7 e2 ho0];exact ho0),bB7 e2 ho0]
      repeat' (first|refine zL (x:=.tmp 48) rfl (fun h=>absurd h (by omega)) (fun _=>?_)|refine aS (d:=some 52) (E:=bM) rfl rfl (n:=n) (l:=l) (SlE.ext (w:=w4) (by exact fx) hv4) rfl hnl (fun ad52 r52=>?_)|(refine zE (d':=14) (fun _=>rfl) rfl rfl (by rfl) (fun b7 w7 x7 a7 (r7:Row w7 ⟨b7,0,none⟩ l[n].2.cs) hb7=>?_);rw [←hcc] at r7)|(refine zC (d:=some 60) rfl (aHp (M:=M) (t:=t) (cs:=aJ t iv ov) c.s hcs i hil hin hwi _ (R.ext ht4 (by exact fx))) ?_;rintro _ w8 ⟨rfl,x8⟩)|refine zN (x:=.tmp 62) (p:=iX c.s t t.ins[i]=0) rfl (fun _=>?_) (fun h=>absurd h ho0)|refine go1 ?_|refine zg λ_ _=>?_|refine zi λ_ _=>?_)
      exact aA rfl ⟨rfl,(x04' ()).trans (by exact fx)⟩
    ·rw [e1,stop (by rw [aZn e2];decide),aZn e2]
     repeat' (first|refine go1 ?_|refine zg λ_ _=>?_|refine zi λ_ _=>?_)
     exact aA rfl ⟨rfl,(x04' ()).trans (by exact fx)⟩
   ·have ei:i=t.ins.length:=by omega
    subst ei
    rw [List.take_length] at ho
    have x04:Ext w w4:=by exact fx
    have ht4:=R.ext ht0 x04
    have rp4:Row w4 ⟨bp,0,none⟩ (aJ t iv ov):=rp.ext x4
    have hfa:=aO1 hc hg fun j hj=>hk j hj hj
    have hlen:((t.ins.map (inV (aL l))).length)≤1000000000000:=by simp;omega
    have x04':Unit→Ext w w4:=fun _=>x04
    clear x04 xp x2 x3 x4
    by_cases hsum:lM (t.ins.map (inV (aL l)))=0
    ·have hgood:=(bN _).1 (uT hsum)
     have hgv:=(bN _).1 (uT (uS hc))
     rw [if_neg (by simpa using hsum)] at hfa
     by_cases hv8:fG (values t)>fG (t.ins.map (inV (aL l)))
     ·rw [if_pos hv8] at hfa
      rw [show aF6 (aL l) t h=.tuple #[.int .i64 0,.int .i64 12,.int .i64 (-1)] by unfold aF6;rw [hfa]]
      repeat' (first|(refine zC (d:=some 82) rfl (aFc (l:=t.ins.map (inV (aL l))) _ (SlE.ext (w:=w4) (by exact fx) ho.sl) hlen) ?_;rintro _ _ ⟨rfl,rfl⟩;rw [hsum])|(refine zC (d:=some 90) rfl (aEl (M:=M) (t:=t) (cs:=aJ t iv ov) _ (R.ext ht4 (by exact fx)) hs) ?_;rintro _ w5 ⟨rfl,x5⟩)|refine zL (x:=.tmp 95) (p:=fG (values t)>fG (t.ins.map (inV (aL l)))) rfl (fun _=>?_) (fun h=>absurd hv8 h)|refine go1 ?_|refine zg λ_ _=>?_|refine zi λ_ _=>?_)
      exact aA rfl ⟨rfl,(x04' ()).trans (by exact fx)⟩
     ·rw [if_neg hv8] at hfa
      rw [show aF6 (aL l) t h=.tuple #[.int .i64 (fG (t.ins.map (inV (aL l))) - fG (values t)),.int .i64 0,.int .i64 (-1)] by unfold aF6;rw [hfa]]
      repeat' (first|(refine zC (d:=some 82) rfl (aFc (l:=t.ins.map (inV (aL l))) _ (SlE.ext (w:=w4) (by exact fx) ho.sl) hlen) ?_;rintro _ _ ⟨rfl,rfl⟩;rw [hsum])|(refine zC (d:=some 90) rfl (aEl (M:=M) (t:=t) (cs:=aJ t iv ov) _ (R.ext ht4 (by exact fx)) hs) ?_;rintro _ w5 ⟨rfl,x5⟩)|refine zL (x:=.tmp 95) (p:=fG (values t)>fG (t.ins.map (inV (aL l)))) rfl (fun h=>absurd h hv8) (fun _=>?_)|refine go1 ?_|refine zg λ_ _=>?_|refine zi λ_ _=>?_)
      exact aA rfl ⟨rfl,(x04' ()).trans (by exact fx)⟩
    ·rw [if_pos hsum] at hfa
     rw [show aF6 (aL l) t h=.tuple #[.int .i64 0,.int .i64 (lM (t.ins.map (inV (aL l)))),.int .i64 (-1)] by unfold aF6;rw [hfa]]
     repeat' (first|(refine zC (d:=some 82) rfl (aFc (l:=t.ins.map (inV (aL l))) _ (SlE.ext (w:=w4) (by exact fx) ho.sl) hlen) ?_;rintro _ _ ⟨rfl,rfl⟩)|refine zN (x:=.tmp 86) (p:=lM (t.ins.map (inV (aL l)))=0) rfl (fun _=>?_) (fun h=>absurd h hsum)|refine go1 ?_|refine zg λ_ _=>?_|refine zi λ_ _=>?_)
     exact aA rfl ⟨rfl,(x04' ()).trans (by exact fx)⟩
 ·have e:aF6 (aL l) t h=.tuple #[.int .i64 0,.int .i64 (aE t),.int .i64 (-1)]:=by unfold aF6;rw [bFu hc]
  rw [e]
  refine rX rfl ?_
  unfold mC
  refine oy ?_
  repeat' (first|refine zD rfl rfl (fun bp wp xp ap (rp:Row wp ⟨bp,0,none⟩ (aJ t iv ov)) hp0=>?_)|(refine zC (d:=some 21) rfl (sN (M:=M) (t:=t) (cs:=aJ t iv ov) _ (R.ext ht0 (by exact fx)) hs) ?_;rintro _ w2 ⟨rfl,x2⟩)|refine zN (x:=.tmp 23) (p:=aE t=0) rfl (fun _=>?_) (fun h=>absurd h hc)|refine go1 ?_|refine zg λ_ _=>?_|refine zi λ_ _=>?_)
  exact aA rfl ⟨rfl,by exact fx⟩
end
end Go.Proofs.YtgloknkcfchnlaaGreat
section
namespace Go.K
open Go Go.Proofs.YtgloknkcfchnlaaGreat
end Go.K
namespace Go.Proofs.YtgloknkcfchnlaaGreat
open Go Go.K
attribute [local irreducible] aF aP bG KOp.wp K.Spec u32 leS vnS str aR cF bU dF iT nL dQ iX jD aE aQ bS idT aO inE dZ nP jJ fB eF
theorem bKv:∀{l:List TIn} (h:0<l.length),l[0]=l.headD default
 |_::_,_=>rfl
def bA0 (vl:Value) (l:List En) (t:Tx) (i:Nat) (h:Int):Value:=.tuple #[vl,.int .i64 (fB l t i h).2.1,.int .i64 (fB l t i h).2.2]
set_option maxHeartbeats 4000000 in
theorem aBk {M:List Nat} {v:Value} {cs:List Value} {t:Tx} {l:List En} (i:Nat) (h:Int) (w:World) (hi:i≤100000) (hv:SlE bM w v l) (hg:CG l) (hsc:SC l) (ht:txR.rel M w cs t) (hs:t.Sm) (hn:l.length+t.outs.length≤90000):
  K.Spec Tryz.prog F.kedgeref12_One [v,.agg cs.toArray,.int .i64 (i:Nat),.int .i64 h] w fun r w'=>∃vl,r=bA0 vl l t i h∧SlE bM w' vl (fB l t i h).1∧tU v vl l (fB l t i h).1 w.heap.size∧Ext w w':=by
 have ht0:=ht
 have hin:=hs.ins
 have hout:=hs.outs
 have hl6:∀e∈l,e.2.s.size≤1000000:=fun e he=>by have:=(hsc e he).1;omega
 obtain ⟨iv,ov,rfl,h1,h2,h3,h4⟩:=ht
 have h41:=h4.1
 have h42:=h4.2
 have fail:∀{w':World} {c p:Int},Ext w w'→fB l t i h=(l,c,p)→∃vl,Value.tuple #[v,.int .i64 c,.int .i64 p]=bA0 vl l t i h∧SlE bM w' vl (fB l t i h).1∧tU v vl l (fB l t i h).1 w.heap.size∧Ext w w':=fun x e=>⟨v,by unfold bA0;rw [e],by rw [e];exact hv.ext x,.inl ⟨rfl,by rw [e]⟩,x⟩
 refine aK2 rfl ?_
 unfold aAl
 refine oy ?_
 repeat (first|refine zD (d:=some 5) rfl rfl (fun bp wp xp ap (rp:Row wp ⟨bp,0,none⟩ (aJ t iv ov)) hp0=>?_)|refine lD (a:=.seq (.reg false (.cons ⟨some 21,_,none⟩ _)) _) (fun (_:Unit) w'=>Ext wp w') (fun _=> [(0,v),(2,.int .i64 (i:Nat)),(3,.int .i64 h),(5,.pointer (some ⟨bp,0,none⟩)),(11,.bool (aQ t))]) ?_ ?_|refine go1 ?_|refine zg λ_ _=>?_|refine zi λ_ _=>?_)
 ·by_cases hone:t.ins.length=1
  ·have hpos:0<t.ins.length:=by omega
   have hb:lJ t.ins[0].p=aQ t:=by
    rw [show aQ t=(decide (t.ins.length=1)&&lJ (t.ins.headD default).p) by unfold aQ;rfl,dTr hone,Bool.true_and]
    rw [bKv hpos]
   repeat' (first|refine zG (d:=some 23) (E:=inR) (M:=M) (l:=t.ins) rfl (SlR.ext h1 (by exact fx)) ?_|refine zL (x:=.tmp 24) rfl (fun _=>?_) (fun h=>absurd (by omega) h)|(refine aM (d:=some 27) (E:=inR) (M:=M) rfl rfl (n:=0) (l:=t.ins) (SlR.ext h1 (by exact fx)) rfl hpos (fun ad cs r4 he=>?_);obtain ⟨wv,rfl,hwv,hp5,hp6⟩:=he)|(refine zC (d:=some 30) rfl (aBx t.ins[0].p _) ?_;rintro _ w3 ⟨rfl,x3⟩;rw [hb])|refine go1 ?_|refine zg λ_ _=>?_|refine zi λ_ _=>?_)
   exact ⟨(),⟨rfl,rfl,rfl,rfl,rfl,trivial⟩,by exact fx⟩
  ·have hb:aQ t=false:=by
    rw [show aQ t=(decide (t.ins.length=1)&&lJ (t.ins.headD default).p) by unfold aQ;rfl,dFa hone,Bool.false_and]
   repeat' (first|refine zG (d:=some 23) (E:=inR) (M:=M) (l:=t.ins) rfl (SlR.ext h1 (by exact fx)) ?_|refine zL (x:=.tmp 24) rfl (fun h=>absurd h (by omega)) (fun _=>?_)|refine go1 ?_|refine zg λ_ _=>?_|refine zi λ_ _=>?_)
   exact ⟨(),⟨rfl,rfl,rfl,rfl,by rw [hb];rfl,trivial⟩,by exact fx⟩
 rintro _ ρ w1 x1
 refine lD (a:=.seq (.reg false (.cons ⟨some 31,_,none⟩ _)) _) (fun (_:Unit) w'=>Ext wp w'∧(nP l t i h).1=0) (fun _=> [(0,v),(3,.int .i64 h),(5,.pointer (some ⟨bp,0,none⟩)),(11,.bool (aQ t))]) ?_ ?_
 ·cases hgr:aQ t with
  |true=>
   by_cases hc:aE t=0
   ·repeat' (first|(refine zC (d:=some 33) rfl (sN (M:=M) (t:=t) (cs:=aJ t iv ov) _ (R.ext ht0 (by exact fx)) hs) ?_;rintro _ w2 ⟨rfl,x2⟩;rw [hc])|refine aD (d:=some 43) (.int .i64 t.lock) rfl (congrArg (fun n=>some (Value.int .i64 n)) (IntWalk.i64_in _ (by omega))) ?_|refine zJ (t:=40) (p:=((i:Nat):Int)>0) rfl (fun hi0=>?_) (fun hi0=>?_)|refine zN (x:=.tmp 46) (p:=t.lock=h) rfl (fun hl0=>?_) (fun hl0=>?_)|refine go1 ?_|refine zg λ_ _=>?_|refine zi λ_ _=>?_)
    ·exact aA rfl (fail (by exact fx) (by have e:=aKq (l:=l) hgr hc (h:=h) (i:=i) (.inl (by omega));rw [aJ7 (by rw [e];decide),e]))
    ·exact aA rfl (fail (by exact fx) (by have e:=aKq (l:=l) hgr hc (h:=h) (i:=i) (.inr hl0);rw [aJ7 (by rw [e];decide),e]))
    ·exact ⟨(),⟨rfl,rfl,rfl,rfl,trivial⟩,by exact fx,by rw [bLk (l:=l) hgr hc (h:=h) (i:=i) (by omega)]⟩
   ·repeat' (first|(refine zC (d:=some 33) rfl (sN (M:=M) (t:=t) (cs:=aJ t iv ov) _ (R.ext ht0 (by exact fx)) hs) ?_;rintro _ w2 ⟨rfl,x2⟩)|refine zN (x:=.tmp 35) (p:=aE t=0) rfl (fun _=>?_) (fun h=>absurd h hc)|refine go1 ?_|refine zg λ_ _=>?_|refine zi λ_ _=>?_)
    exact aA rfl (fail (by exact fx) (by have e:=bGj (l:=l) (h:=h) (i:=i) hgr hc;rw [aJ7 (by rw [e];exact hc),e]))
  |false=>
   have e:=bGq (l:=l) (h:=h) (i:=i) hgr
   by_cases hf:(dZ (aL l) t h).2.1=0
   ·repeat' (first|(refine zC (d:=some 52) rfl (aL0 (M:=M) (t:=t) (cs:=aJ t iv ov) (l:=l) h _ (SlE.ext (w:=w) (by exact fx) hv) (R.ext ht0 (by exact fx)) hs (by omega) hl6) ?_;rintro _ w2 ⟨rfl,x2⟩;unfold aF6;rw [hf])|refine go1 ?_|refine zg λ_ _=>?_|refine zi λ_ _=>?_)
    exact ⟨(),⟨rfl,rfl,rfl,rfl,trivial⟩,by exact fx,by rw [e];exact hf⟩
   ·repeat' (first|(refine zC (d:=some 52) rfl (aL0 (M:=M) (t:=t) (cs:=aJ t iv ov) (l:=l) h _ (SlE.ext (w:=w) (by exact fx) hv) (R.ext ht0 (by exact fx)) hs (by omega) hl6) ?_;rintro _ w2 ⟨rfl,x2⟩;unfold aF6)|refine zN (x:=.tmp 57) (p:=(dZ (aL l) t h).2.1=0) rfl (fun _=>?_) (fun h=>absurd h hf)|refine go1 ?_|refine zg λ_ _=>?_|refine zi λ_ _=>?_)
    exact aA rfl (fail (by exact fx) (by rw [aJ7 (by rw [e];exact hf),e]))
 clear x1
 rintro _ ρ w1 ⟨x1,hmay⟩
 have hc:=aFe hmay
 have hsz:=cB hs hc
 have rp1:Row w1 ⟨bp,0,none⟩ (aJ t iv ov):=Row.ext x1 rp
 have x01:Ext w w1:=xp.trans x1
 have hv1:=hv.ext x01
 have ht1:=R.ext ht0 x01
 have h11:=h1.ext x01
 have h21:=h2.ext x01
 have x01':Unit→Ext w w1:=fun _=>x01
 clear x01 x1 xp ap rp hv ht0 h1 h2
 repeat (first|refine lD (a:=.seq (.reg false (.cons ⟨some 17,_,none⟩ _)) _) (fun (vm:Value) w'=>Ext w1 w'∧SlE bM w' vm (mT l t)∧tU v vm l (mT l t) w.heap.size) (fun vm=> [(0,v),(3,.int .i64 h),(5,.pointer (some ⟨bp,0,none⟩)),(16,vm)]) ?_ ?_|refine go1 ?_|refine zg λ_ _=>?_|refine zi λ_ _=>?_)
 ·cases hgr:aQ t with
  |true=>
   repeat' (first|(refine aI (fun (_:Unit) w'=>Ext w1 w') (fun _=> [(0,v),(3,.int .i64 h),(5,.pointer (some ⟨bp,0,none⟩)),(11,.bool true),(16,v),(17,.int .i64 0)]) (fun _=>0) () ⟨rfl,rfl,rfl,rfl,rfl,rfl,trivial⟩ (Ext.refl _) ?_;rintro _ ρ w2 x2)|refine zG (d:=some 65) (E:=inR) (M:=M) (l:=t.ins) rfl (SlR.ext h11 (by exact fx)) ?_|refine zJ (t:=67) rfl (fun hh=>?_) (fun hh=>?_)|refine go1 ?_|refine zg λ_ _=>?_|refine zi λ_ _=>?_)
   all_goals exact ⟨v,⟨rfl,rfl,rfl,rfl,trivial⟩,by exact fx,by unfold mT;rw [if_pos hgr];exact hv1.ext (by exact fx),.inl ⟨rfl,by unfold mT;rw [if_pos hgr]⟩⟩
  |false=>
   repeat' (first|(refine aI (fun (p:Nat × Value) w'=>Ext w1 w'∧p.1≤t.ins.length∧SlE bM w' p.2 (eF l (t.ins.take p.1))∧tU v p.2 l (eF l (t.ins.take p.1)) w.heap.size) (fun p=> [(0,v),(3,.int .i64 h),(5,.pointer (some ⟨bp,0,none⟩)),(11,.bool false),(16,p.2),(17,.int .i64 (p.1:Nat))]) (fun p=>t.ins.length - p.1) (0,v) ⟨rfl,rfl,rfl,rfl,rfl,rfl,trivial⟩ ⟨Ext.refl _,by simp,by unfold eF;exact hv1,.inl ⟨rfl,by unfold eF;rfl⟩⟩ ?_;rintro ⟨k,vm⟩ ρ w2 ⟨x2,hk,hvm,hbm⟩;simp only at hk hvm hbm;dsimp only)|refine zG (d:=some 65) (E:=inR) (M:=M) (l:=t.ins) rfl (SlR.ext h11 (by exact fx)) ?_|refine zJ (t:=67) (p:=((k:Nat):Int)<((t.ins.length:Nat):Int)) rfl (fun hh=>?_) (fun hh=>?_)|refine go1 ?_|refine zg λ_ _=>?_|refine zi λ_ _=>?_)
   ·have hkl:k<t.ins.length:=by omega
    have hlen:=aE3 (t.ins.take k) l
    repeat' (first|(refine aM (d:=some 78) (E:=inR) (M:=M) rfl rfl (n:=k) (l:=t.ins) (SlR.ext h11 (by exact fx)) rfl hkl (fun ad cs r4 he=>?_);obtain ⟨wv,rfl,hwv,hp5,hp6⟩:=he)|(refine zC (d:=some 81) rfl (aVo t.ins[k].p _ (SlE.ext (w:=w2) (by exact fx) hvm) (by omega)) ?_;rintro _ w3 ⟨vl,rfl,hvl,hbl,x3⟩)|refine go1 ?_|refine zg λ_ _=>?_|refine zi λ_ _=>?_)
    exact ⟨(k+1,vl),⟨rfl,rfl,rfl,rfl,rfl,rfl,trivial⟩,⟨by exact fx,by simp only;omega,by simp only;rw [aBl hkl];exact hvl,by simp only;rw [aBl hkl];exact hbm.trans hbl (Ext.size (Ext.trans (x01' ()) (by exact fx)))⟩,by simp only;omega⟩
   ·have e:t.ins.take k=t.ins:=tLe (by omega)
    rw [e] at hvm
    exact ⟨vm,⟨rfl,rfl,rfl,rfl,trivial⟩,by exact fx,by unfold mT;rw [if_neg (by rw [hgr];decide)];exact hvm.ext (by exact fx),by unfold mT;rw [if_neg (by rw [hgr];decide)];rw [e] at hbm;exact hbm⟩
 rintro vm ρ w2 ⟨x2,hvm,hbm⟩
 have hgm:=aKi hg t
 have hlm:=bBm l t
 repeat' (first|(refine zC (d:=some 86) rfl (bM3 (M:=M) (cs:=aJ t iv ov) (t:=t) _ (R.ext ht1 (by exact fx)) hsz) ?_;rintro _ w3 ⟨rfl,x3⟩)|(refine aI (fun (p:Nat × Value × List En) w'=>Ext w1 w'∧p.1≤t.outs.length∧SlE bM w' p.2.1 p.2.2∧CG p.2.2∧p.2.2.length≤l.length+p.1∧tU v p.2.1 l p.2.2 w.heap.size∧aGv (idT t) h t.outs (mT l t) p.1 p.2.2) (fun p=> [(0,v),(3,.int .i64 h),(5,.pointer (some ⟨bp,0,none⟩)),(16,p.2.1),(18,.string (idT t)),(19,.int .i64 (p.1:Nat))]) (fun p=>t.outs.length - p.1) (0,vm,mT l t) ⟨rfl,rfl,rfl,rfl,rfl,rfl,trivial⟩ ⟨by exact fx,by simp,hvm.ext (by exact fx),hgm,by simpa using hlm,hbm,aQe⟩ ?_;rintro ⟨k,vk,mk⟩ ρ w4 ⟨x4,hk,hvk,hgk,hlk,hbk,hpk⟩;simp only at hk hvk hgk hlk hbk hpk;dsimp only)|refine zG (d:=some 90) (E:=fS) (M:=M) (l:=t.outs) rfl (SlR.ext h21 (by exact fx)) ?_|refine go1 ?_|refine zg λ_ _=>?_|refine zi λ_ _=>?_)
 refine zL (x:=.tmp 91) (p:=((k:Nat):Int)<((t.outs.length:Nat):Int)) rfl (fun h9=>?_) (fun h9=>?_)
 ·have hkl:k<t.outs.length:=by omega
  clear x2 x3 hvm
  repeat' (first|refine aD (d:=some 98) (.int .u32 (k:Nat)) rfl (congrArg (fun n=>some (Value.int .u32 n)) (by rw [wrap32];omega)) ?_|refine aT (d:=some 99) (cs:=(⟨idT t,(k:Nat)⟩:Pt).cs) rfl ?_|(refine aM (d:=some 103) (E:=fS) (M:=M) rfl rfl (n:=k) (l:=t.outs) (SlR.ext h21 (by exact fx)) rfl hkl (fun ad cs r4 he=>?_);obtain ⟨rfl, -⟩:=he)|refine aT (d:=some 106) (cs:=(outC t.outs[k] h).cs) rfl ?_|(refine zC (d:=some 107) rfl (aNo ⟨idT t,(k:Nat)⟩ (outC t.outs[k] h) _ (SlE.ext (w:=w4) (by exact fx) hvk) (by omega) hgk.mon) ?_;rintro _ w5 ⟨vl,rfl,hvl,hbl,x5⟩)|refine zN (x:=.tmp 111) (p:=aX mk ⟨idT t,(k:Nat)⟩ (outC t.outs[k] h)=0) rfl (fun h6=>?_) (fun h6=>?_)|refine go1 ?_|refine zg λ_ _=>?_|refine zi λ_ _=>?_)
  ·have e:=aUm hkl hpk h6
   exact aA rfl (fail ((x01' ()).trans (by exact fx)) (by rw [aXc hmay (by rw [e];exact h6),e]))
  ·have hlp:=aQo mk ⟨idT t,(k:Nat)⟩ (outC t.outs[k] h) hgk.srt
   exact ⟨(k+1,vl,dD mk ⟨idT t,(k:Nat)⟩ (outC t.outs[k] h)),⟨rfl,rfl,rfl,rfl,rfl,rfl,trivial⟩,⟨by exact fx,by simp only;omega,hvl,hgk.put _ _,by simp only;omega,hbk.trans hbl (Ext.size (Ext.trans (x01' ()) (by exact fx))),aSk hkl hpk h6⟩,by simp only;omega⟩
 ·have e:=aTr (by omega) hpk
  have e2:=bEd (i:=i) hmay (by rw [e])
  rw [e] at e2
  repeat' (first|refine go1 ?_|refine zg λ_ _=>?_|refine zi λ_ _=>?_)
  exact aA rfl ⟨vk,by unfold bA0;rw [e2];rfl,by rw [e2];exact hvk,by rw [e2];exact hbk,(x01' ()).trans (by exact fx)⟩
end Go.Proofs.YtgloknkcfchnlaaGreat
end
namespace Go.Proofs.YtgloknkcfchnlaaGreat
section
open Go Go.K
attribute [local irreducible] aF aP bG KOp.wp K.Spec u32 leS vnS str aR aE aQ bS idT aO inE dZ nP jJ fB eF
set_option maxHeartbeats 4000000 in
theorem aTm {M:List Nat} {lv v:Value} {txs:List Tx} {l:List En} (h:Int) (w:World) (hv:SlE bM w lv l) (hg:CG l) (hsc:SC l) (hx:SlR txR M w v txs) (hs:∀t∈txs,t.Sm) (hn:l.length+fE txs≤80000) (hk0:txs.length≤1000):
  K.Spec Tryz.prog F.kedgeref12_Apply [lv,v,.int .i64 h] w fun r w'=>∃vl,r=.tuple #[vl,.int .i64 (bI l txs h).2.1,.int .i64 (bI l txs h).2.2.1,.int .i64 (bI l txs h).2.2.2]∧SlE bM w' vl (bI l txs h).1∧tU lv vl l (bI l txs h).1 w.heap.size∧Ext w w':=by
 refine aG3 rfl ?_
 unfold wH
 refine oy ?_
 by_cases hr:0≤h∧h≤1000000
 ·have eA:bI l txs h=nR l h 0 txs l:=by unfold bI;rw [if_neg (by omega)]
  rw [eA]
  repeat' (first|refine aD (d:=some 15) (.bool false) rfl (congrArg (fun b=>some (Value.bool b)) (dFa (by omega))) ?_|refine aD (d:=some 18) (.bool false) rfl (congrArg (fun b=>some (Value.bool b)) (dFa (by omega))) ?_|(refine aI (fun (p:Nat × Value × List En) w'=>Ext w w'∧p.1≤txs.length∧SlE bM w' p.2.1 p.2.2∧CG p.2.2∧SC p.2.2∧aGn l h txs p.1 p.2.2∧p.2.2.length≤l.length+fE (txs.take p.1)∧tU lv p.2.1 l p.2.2 w.heap.size) (fun p=> [(0,lv),(1,v),(2,.int .i64 h),(10,p.2.1),(11,.int .i64 (p.1:Nat))]) (fun p=>txs.length - p.1) (0,lv,l) ⟨rfl,rfl,rfl,rfl,rfl,trivial⟩ ⟨Ext.refl _,by simp,hv,hg,hsc,aPe,by simp,.inl ⟨rfl,rfl⟩⟩ ?_;rintro ⟨k,mv,m⟩ ρ w3 ⟨x3,hk,hm3,g3,sc3,hok,hml,hnw⟩;simp only at hk hm3 g3 sc3 hok hml hnw;dsimp only)|refine zG (d:=some 24) (E:=txR) (M:=M) (l:=txs) rfl (SlR.ext hx (by exact fx)) ?_|refine zL (x:=.tmp 25) (p:=((k:Nat):Int)<((txs.length:Nat):Int)) rfl (fun h6=>?_) (fun h6=>?_)|refine go1 ?_|refine zg λ_ _=>?_|refine zi λ_ _=>?_)
  ·have hkl:k<txs.length:=by omega
   have hst:=hs _ (gMe hkl)
   have ho:=bCq hkl
   have ho2:=bCr txs (k+1)
   have hol:=aD7 g3 txs[k] k h
   repeat (first|(refine aM (d:=some 32) (E:=txR) (M:=M) rfl rfl (n:=k) (l:=txs) (SlR.ext hx (by exact fx)) rfl hkl (fun ad cs r4 he=>?_);obtain ⟨iv,ov,rfl,p1,p2,p3⟩:=id he)|refine go1 ?_|refine zg λ_ _=>?_|refine zi λ_ _=>?_)
   refine zC (d:=some 36) rfl (aBk (M:=M) (cs:=aJ txs[k] iv ov) (t:=txs[k]) (l:=m) k h _ (by omega) hm3 g3 sc3 he hst (by omega)) ?_
   rintro _ w4 ⟨vl,rfl,hvl,hn4,x4⟩
   unfold bA0
   by_cases h0:(fB m txs[k] k h).2.1=0
   ·rw [h0]
    repeat (first|refine go1 ?_|refine zg λ_ _=>?_|refine zi λ_ _=>?_)
    exact ⟨(k+1,vl,(fB m txs[k] k h).1),⟨rfl,rfl,rfl,rfl,rfl,trivial⟩,⟨x3.trans x4,by simp only;omega,hvl,sC g3 _ _ _,aIs g3 sc3 _ _ _,aPu hkl hok h0,by simp only;omega,hnw.trans hn4 x3.size⟩,by simp only;omega⟩
   ·have eR:=aTy hkl hok h0
    rw [eR]
    repeat (first|refine aD (d:=some 41) (.bool true) rfl (congrArg (fun b=>some (Value.bool (!b))) (dFa h0)) ?_|refine go1 ?_|refine zg λ_ _=>?_|refine zi λ_ _=>?_)
    exact aA rfl ⟨lv,rfl,hv.ext (x3.trans x4),.inl ⟨rfl,rfl⟩,x3.trans x4⟩
  ·have ek:txs.length≤k:=by omega
   have eR:=aVf ek hok
   rw [eR]
   repeat (first|refine go1 ?_|refine zg λ_ _=>?_|refine zi λ_ _=>?_)
   exact aA rfl ⟨mv,rfl,hm3,hnw,x3⟩
 ·have eA:bI l txs h=(l,3, -1, -1):=by unfold bI;rw [if_pos (by omega)]
  rw [eA]
  repeat' (first|refine zJ (t:=16) (p:=h<0) rfl (fun hh=>?_) (fun hh=>?_)|refine zL (x:=.tmp 19) rfl (fun _=>?_) (fun h=>absurd (by omega) h)|refine go1 ?_|refine zg λ_ _=>?_|refine zi λ_ _=>?_)
  all_goals exact aA rfl ⟨lv,rfl,hv,.inl ⟨rfl,rfl⟩,Ext.refl _⟩
theorem aI4 {M:List Nat} {lv v:Value} {txs:List Tx} {l:List En} (h:Int) (w:World) (hv:SlE bM w lv l) (hg:CG l) (hsc:SC l) (hx:SlR txR M w v txs) (hs:∀t∈txs,t.Sm) (hn:l.length+fE txs≤80000) (hk0:txs.length≤1000):
  K.Spec Tryz.prog F.kedgeref12_Apply [lv,v,.int .i64 h] w fun r w'=>∃vl,r=.tuple #[vl,.int .i64 (bI l txs h).2.1,.int .i64 (bI l txs h).2.2.1,.int .i64 (bI l txs h).2.2.2]∧SlE bM w' vl (bI l txs h).1∧Ext w w':=
 eZ (aTm h w hv hg hsc hx hs hn hk0) fun _ _ ⟨vl,h1,h2,_,h4⟩=>⟨vl,h1,h2,h4⟩
end
end Go.Proofs.YtgloknkcfchnlaaGreat
section
namespace Go.K
open Go Go.Proofs.YtgloknkcfchnlaaGreat
def aC1 (b:List Tx):Prop:=b.length≤4∧fE b≤12∧∀t∈b,t.Sm
theorem bF5 {l0:List En} {h:Int}:∀(txs:List Tx) (i:Nat) (m:List En),(nR l0 h i txs m).2.1=0→(nR l0 h i txs m).2.2.1= -1
 | [],_,_,_=>rfl
 |t::ts,i,m,h0=>by
  unfold nR at h0 ⊢
  split
  ·rename_i hc
   rw [if_pos hc] at h0
   exact absurd h0 hc
  ·rename_i hc
   rw [if_neg hc] at h0
   exact bF5 ts (i+1) _ h0
theorem bI8 {l:List En} {txs:List Tx} {b:Int} (h0:(bI l txs b).2.1=0):(bI l txs b).2.2.1= -1:=by
 unfold bI at h0 ⊢
 split
 ·rfl
 ·rename_i hc
  rw [if_neg hc] at h0
  exact bF5 _ _ _ h0
theorem aDk {bs:List (List Tx)} (h:∀b∈bs,aC1 b) (k:Nat):(cM bs k).length≤12*k:=aHk (fun b hb=>(h b hb).2.1) k
end Go.K
namespace Go.Proofs.YtgloknkcfchnlaaGreat
open Go Go.K
attribute [local irreducible] aF aP bG KOp.wp K.Spec u32 leS vnS str aR aE aQ bS idT aO bI
set_option maxHeartbeats 4000000 in
theorem uJ {M:List Nat} {bv:Value} {bs:List (List Tx)} (top:Int) (w:World) (hv:SlR (dW txR) M w bv bs) (hb:∀b∈bs,aC1 b) (hl:bs.length≤1000):
  K.Spec Tryz.prog F.kedgeref13_Coins [.agg #[bv,.int .i64 top]] w fun r w'=>SlE bM w' r (aZ bs)∧Ext w w':=by
 obtain ⟨q1,q2,ebv⟩:=hv.form
 refine aHe rfl ?_
 unfold vD
 refine oy ?_
 repeat' (first|refine zD (d:=some 1) (cs:= [bv,.int .i64 top]) rfl (by rw [ebv];rfl) (fun b1 w1 x1 a1 (r1:Row w1 ⟨b1,0,none⟩ [bv,.int .i64 top]) hb1=>?_)|(refine aI (fun (p:Nat × Value) w'=>Ext w1 w'∧p.1≤bs.length∧SlE bM w' p.2 (cM bs p.1)) (fun p=> [(1,.pointer (some ⟨b1,0,none⟩)),(3,p.2),(4,.int .i64 (p.1:Nat))]) (fun p=>bs.length - p.1) (0,.slice none 0 0) ⟨rfl,rfl,rfl,trivial⟩ ⟨Ext.refl _,by simp,SlE.nil _⟩ ?_;rintro ⟨k,lv⟩ ρ w3 ⟨x3,hk,hlv⟩;simp only at hk hlv;dsimp only)|refine zG (d:=some 8) (E:=dW txR) (M:=M) (l:=bs) rfl (SlR.ext hv (by exact fx)) ?_|refine zL (x:=.tmp 9) (p:=((k:Nat):Int)<((bs.length:Nat):Int)) rfl (fun h6=>?_) (fun h6=>?_)|refine go1 ?_|refine zg λ_ _=>?_|refine zi λ_ _=>?_)
 ·have hkl:k<bs.length:=by omega
  obtain ⟨hb1,hb2,hb3⟩:=hb _ (gMe hkl)
  have hcb:=aDk hb k
  have ek:((k:Nat):Int)+1=((k+1:Nat):Int):=by omega
  have eg:bs.getD k []=bs[k]:=by rw [List.getD_eq_getElem?_getD,List.getElem?_eq_getElem hkl];rfl
  repeat (first|(refine aM (d:=some 17) (E:=dW txR) (M:=M) rfl rfl (n:=k) (l:=bs) (SlR.ext hv (by exact fx)) rfl hkl (fun ad cs r4 he=>?_);obtain ⟨xv,rfl,hxv⟩:=he)|refine go1 ?_|refine zg λ_ _=>?_|refine zi λ_ _=>?_)
  rw [ek]
  refine zC (d:=some 21) rfl (aI4 (M:=M) (l:=cM bs k) (txs:=bs[k]) ((k+1:Nat):Int) _ hlv (gA bs k) (pF bs k) hxv hb3 (by omega) (by omega)) ?_
  rintro _ w4 ⟨vl,rfl,hvl,x4⟩
  repeat (first|refine go1 ?_|refine zg λ_ _=>?_|refine zi λ_ _=>?_)
  exact ⟨(k+1,vl),⟨rfl,rfl,rfl,trivial⟩,⟨x3.trans x4,by simp only;omega,by show SlE bM w4 vl (cM bs (k+1));unfold cM;rw [eg];exact hvl⟩,by simp only;omega⟩
 ·have ek:k=bs.length:=by omega
  subst ek
  repeat (first|refine go1 ?_|refine zg λ_ _=>?_|refine zi λ_ _=>?_)
  exact aA rfl ⟨hlv,x1.trans x3⟩
end Go.Proofs.YtgloknkcfchnlaaGreat
end
namespace Go.Proofs.YtgloknkcfchnlaaGreat
section
open Go Go.K
attribute [local irreducible] aF aP bG KOp.wp K.Spec u32 leS vnS str aR aE aQ bS idT aO bI
set_option maxHeartbeats 8000000 in
theorem aD5 {M:List Nat} {bv v:Value} {ch:Ch} {txs:List Tx} (w:World) (hv:SlR (dW txR) M w bv ch.bs) (hx:SlR txR M w v txs) (hb:∀b∈ch.bs,aC1 b) (hbx:aC1 txs) (hl:ch.bs.length≤1000) (ht:ch.top≤1000) (hM:∀y∈M,y<w.heap.size):
  K.Spec Tryz.prog F.kedgeref13_Connect [.agg #[bv,.int .i64 (ch.top:Nat)],v] w fun r w'=>∃bv',r=.tuple #[.agg #[bv',.int .i64 ((cS ch txs).top:Nat)],.int .i64 (kM ch txs).1,.int .i64 (kM ch txs).2]∧SlR (dW txR) M w' bv' (cS ch txs).bs∧Ext w w':=by
 obtain ⟨q1,q2,ebv⟩:=hv.form
 obtain ⟨q3,q4,exw⟩:=hx.form
 have hcb:=aDk hb ch.bs.length
 have hcl:(aZ ch.bs).length≤12*ch.bs.length:=hcb
 obtain ⟨hb1,hb2,hb3⟩:=hbx
 have ek:((ch.bs.length:Nat):Int)+1=((ch.bs.length+1:Nat):Int):=by omega
 refine aEd rfl ?_
 unfold sH
 refine oy ?_
 repeat (first|refine zD (d:=some 2) (cs:= [bv,.int .i64 (ch.top:Nat)]) rfl (by rw [ebv];rfl) (fun b2 w1 x1 a1 (r1:Row w1 ⟨b2,0,none⟩ [bv,.int .i64 (ch.top:Nat)]) hb2=>?_)|refine zH (d:=some 4) (fun b4 w2 x2 a2 hb4=>?_)|refine go1 ?_|refine zg λ_ _=>?_|refine zi λ_ _=>?_)
 refine zC (d:=some 15) rfl (uJ (M:=M) ((ch.top:Nat):Int) _ (hv.ext (x1.trans x2)) hb hl) ?_
 rintro lv w3 ⟨hlv,x3⟩
 repeat (first|refine zG (d:=some 21) (E:=dW txR) (M:=M) (l:=ch.bs) rfl (SlR.ext hv (by exact fx)) ?_|refine go1 ?_|refine zg λ_ _=>?_|refine zi λ_ _=>?_)
 rw [ek]
 have x03:Ext w w3:=x1.trans (x2.trans x3)
 refine zC (d:=some 23) rfl (aI4 (M:=M) (l:=aZ ch.bs) (txs:=txs) ((ch.bs.length+1:Nat):Int) _ hlv (gA _ _) (pF _ _) (hx.ext x03) hb3 (by omega) (by omega)) ?_
 rintro _ w4 ⟨vl,rfl,hvl,x4⟩
 have x04:Ext w w4:=x03.trans x4
 have a24:=At.ext (x3.trans x4) a2
 have l2:=a1.lt
 have hb24:w.heap.size≤b4:=nTr x1.size hb4
 have s12:=x1.size
 have s04:=x04.size
 have r14:Row w4 ⟨b2,0,none⟩ [bv,.int .i64 (ch.top:Nat)]:=Row.ext (x2.trans (x3.trans x4)) r1
 have l4:=a2.lt
 have s24:=(x3.trans x4).size
 clear x1 x2 x3 x4 a1 a2 r1 x03
 by_cases h0:(kM ch txs).1=0
 ·have e2:cS ch txs=⟨ch.bs++ [txs],max ch.top (ch.bs.length+1)⟩:=by
   unfold cS
   rw [if_neg (by simpa using h0)]
  have e1:(kM ch txs).2= -1:=bI8 h0
  have h0':(bI (aZ ch.bs) txs ((ch.bs.length+1:Nat):Int)).2.1=0:=h0
  rw [h0',e1,e2,h0]
  repeat (first|refine zH (d:=some 12) (fun b12 w5 x5 a5 hb12=>?_)|refine go1 ?_|refine zg λ_ _=>?_|refine zi λ_ _=>?_)
  have l12:=a5.lt
  have s45:=x5.size
  have hv4:=hv.ext x04
  have hx4:=hx.ext x04
  have hMl:∀y∈b12::b4::M,y<w5.heap.size:=fun y hy=>by
   simp only [List.mem_cons] at hy
   rcases hy with rfl|rfl|hy
   ·exact l12
   ·omega
   ·have:=hM y hy;omega
  have hM4:∀y∈b12::b4::M,y∈M∨w.heap.size≤y:=fun y hy=>by
   simp only [List.mem_cons] at hy
   rcases hy with rfl|rfl|hy
   ·exact .inr (by omega)
   ·exact .inr hb24
   ·exact .inl hy
  refine aI (fun (p:Nat × Value) w'=>Chg [b12] w5 w'∧p.1≤ch.bs.length∧bR (dW txR) T.L_api_Tx w5.heap.size (b12::b4::M) w' p.2 (ch.bs.take p.1)∧At w' b12 (.cells [p.2,.int .i64 0].toArray T.kedgeref13_Chain (0,0))) (fun p=> [(1,v),(2,.pointer (some ⟨b2,0,none⟩)),(4,.pointer (some ⟨b4,0,none⟩)),(12,.pointer (some ⟨b12,0,none⟩)),(13,.int .i64 (p.1:Nat))]) (fun p=>ch.bs.length - p.1) (0,.slice none 0 0) ⟨rfl,rfl,rfl,rfl,rfl,trivial⟩ ⟨Chg.refl _ _,by simp,bR.nil _ _ _ _,a5⟩ ?_
  rintro ⟨k,dv⟩ ρ w6 ⟨c6,hk,o6,a6⟩
  simp only at hk o6 a6
  dsimp only
  have x06:Ext w w6:=(Ext.chg (x04.trans x5) c6).mono (fun y hy=>.inr (by simp at hy;omega))
  have x46:Ext w4 w6:=(Ext.chg x5 c6).mono (fun y hy=>.inr (by simp at hy;omega))
  have r16:=Row.ext x46 r14
  have r66:=Row.of_at a6
  have odv:dv.oneCell'=true:=o6.one
  have hlen:(ch.bs.take k).length=k:=by rw [List.length_take];omega
  have ob:=o6.base
  have s56:=c6.size
  have hdM:∀y∈aB dv++b12::b4::M,y∈M∨w.heap.size≤y:=fun y hy=>by
   rcases List.mem_append.1 hy with hy|hy
   ·exact .inr (by have:=ob y hy;omega)
   ·exact hM4 y hy
  repeat (first|refine zG (d:=some 36) (E:=dW txR) (M:=M) (l:=ch.bs) rfl (hv.ext x06) ?_|refine go1 ?_|refine zg λ_ _=>?_|refine zi λ_ _=>?_)
  refine zL (x:=.tmp 37) (p:=((k:Nat):Int)<((ch.bs.length:Nat):Int)) rfl (fun h6=>?_) (fun h6=>?_)
  ·have hkl:k<ch.bs.length:=by omega
   repeat (first|refine zi (fun w7 x7=>?_)|refine dJ (b:=.cons ⟨some 48,_,_⟩ _) (fun (p:Nat × Value) w'=>Ext w6 w'∧At w' p.1 (.cells [p.2].toArray T.L_api_Tx (0,0))∧SlR txR (aB dv++b12::b4::M) w' p.2 ch.bs[k]) (fun p=> [(1,v),(2,.pointer (some ⟨b2,0,none⟩)),(4,.pointer (some ⟨b4,0,none⟩)),(12,.pointer (some ⟨b12,0,none⟩)),(13,.int .i64 (k:Nat)),(41,dv),(47,.slice (some ⟨p.1,0,none⟩) 1 1)]) ?_ ?_|refine go1 ?_|refine zg λ_ _=>?_|refine zi λ_ _=>?_)
   ·repeat' (first|refine zB ?_ ?_|(refine aM (d:=some 45) (E:=dW txR) (M:=aB dv++b12::b4::M) rfl rfl (n:=k) (l:=ch.bs) (SlR.ext (hv.step x06 (by simp) hdM) (by exact fx)) rfl hkl (fun ad cs r4 he=>?_);obtain ⟨xv,rfl,hxv⟩:=he;obtain ⟨_,_,exv⟩:=hxv.form)|refine zI (d:=some 47) (cs:= [xv]) (by rw [exv];rfl) (fun b8 w8 x8 a8 hb8=>?_)|refine go1 ?_|refine zg λ_ _=>?_|refine zi λ_ _=>?_)
    all_goals exact ⟨(b8,xv),⟨rfl,rfl,rfl,rfl,rfl,rfl,rfl,trivial⟩,by exact fx,a8,hxv.ext (by exact fx)⟩
   ·rintro ⟨b8,xv⟩ ρ w8 ⟨x8,a8,hxv⟩
    dsimp only at x8 a8 hxv ⊢
    refine gB (d:=some 48) (E:=dW txR) (M:=b12::b4::M) (v:=dv) (cs:= [xv]) (a:=ch.bs[k]) rfl rfl (o6.ext x8) (nTr s56 x8.size) rfl rfl a8 ⟨xv,rfl,hxv⟩ (by omega) (fun v9 w9 o9 c9 hb9=>?_)
    have h12n:b12∉aB dv:=fun h=>by have:=ob _ h;omega
    have a9:=(a6.ext x8).chg c9 h12n
    have o9b:=o9.base
    repeat (first|refine go1 ?_|refine zg λ_ _=>?_|refine zi λ_ _=>?_)
    refine bO (b:=b12) (o:=0) (cur:= [dv,.int .i64 0]) rfl rfl o9.one a9 (Nat.le_of_ble_eq_true rfl) (fun w10 c10 a10=>?_)
    have o10:=o9.step c10 (M':=b12::b4::M) (fun y hy=>by
     simp at hy;subst hy
     exact ⟨fun h=>by have:=o9b _ h;omega,.inl (by simp)⟩) (fun y hy=>.inl hy)
    have c510:Chg [b12] w5 w10:=((c6.trans (Chg.trans x8 c9)).trans c10).mono (fun y hy=>by
     simp at hy
     rcases hy with rfl|hy|rfl
     ·exact .inl (by simp)
     ·exact .inr (ob y hy)
     ·exact .inl (by simp))
    repeat (first|refine go1 ?_|refine zg λ_ _=>?_|refine zi λ_ _=>?_)
    exact ⟨(k+1,v9),⟨rfl,rfl,rfl,rfl,rfl,trivial⟩,⟨c510,by simp only;omega,by simp only;rw [List.take_succ_eq_append_getElem hkl];exact o10,a10⟩,by simp only;omega⟩
  ·have ekk:k=ch.bs.length:=by omega
   subst ekk
   rw [List.take_length] at o6
   repeat (first|refine zI (d:=some 53) (cs:= [v]) (by rw [exw];rfl) (fun b8 w8 x8 a8 hb8=>?_)|refine go1 ?_|refine zg λ_ _=>?_|refine zi λ_ _=>?_)
   have hx8:SlR txR (aB dv++b12::b4::M) w8 v txs:=hx.step (x06.trans x8) (by simp) hdM
   have ov:v.oneCell'=true:=hx.one
   refine gB (d:=some 54) (E:=dW txR) (M:=b12::b4::M) (v:=dv) (cs:= [v]) (a:=txs) rfl rfl (o6.ext x8) (nTr s56 x8.size) rfl rfl a8 ⟨v,rfl,hx8⟩ (by omega) (fun v9 w9 o9 c9 hb9=>?_)
   have h12n:b12∉aB dv:=fun h=>by have:=ob _ h;omega
   have h4n:b4∉aB dv:=fun h=>by have:=ob _ h;omega
   have h2n:b2∉aB dv:=fun h=>by have:=ob _ h;omega
   have a9:=(a6.ext x8).chg c9 h12n
   have r29:=Row.chg c9 (Row.ext x8 r16) h2n
   have o9b:=o9.base
   have a49:=(At.ext (x46.trans x8) a24).chg c9 h4n
   repeat (first|refine go1 ?_|refine zg λ_ _=>?_|refine zi λ_ _=>?_)
   refine bO (b:=b12) (o:=0) (cur:= [dv,.int .i64 0]) rfl rfl o9.one a9 (Nat.le_of_ble_eq_true rfl) (fun w10 c10 a10=>?_)
   have a10:At w10 b12 (.cells [v9,.int .i64 0].toArray T.kedgeref13_Chain (0,0)):=a10
   have h12v:b12∉aB v9:=fun h=>by have:=o9b _ h;omega
   have h4v:b4∉aB v9:=fun h=>by have:=o9b _ h;omega
   have o10:=o9.step c10 (M':=b12::b4::M) (fun y hy=>by simp at hy;subst hy;exact ⟨h12v,.inl (by simp)⟩) (fun y hy=>.inl hy)
   have r210:=Row.chg c10 r29 (by simp;omega)
   have a410:=a49.chg c10 (by simp;omega)
   have r1210:=Row.of_at a10
   have c510:Chg [b12] w5 w10:=((c6.trans (Chg.trans x8 c9)).trans c10).mono (fun y hy=>by
    simp at hy
    rcases hy with rfl|hy|rfl
    ·exact .inl (by simp)
    ·exact .inr (ob y hy)
    ·exact .inl (by simp))
   repeat (first|refine go1 ?_|refine zg λ_ _=>?_|refine zi λ_ _=>?_)
   refine bO (b:=b12) (o:=1) (cur:= [v9,.int .i64 0]) rfl rfl rfl a10 (Nat.le_of_ble_eq_true rfl) (fun w11 c11 a11=>?_)
   have a11:At w11 b12 (.cells [v9,.int .i64 (ch.top:Nat)].toArray T.kedgeref13_Chain (0,0)):=a11
   have o11:=o10.step c11 (M':=b12::b4::M) (fun y hy=>by simp at hy;subst hy;exact ⟨h12v,.inl (by simp)⟩) (fun y hy=>.inl hy)
   have a411:=a410.chg c11 (by simp;omega)
   have r1211:=Row.of_at a11
   have c511:Chg [b12] w5 w11:=(c510.trans c11).mono (by simp)
   have off:∀y∈b12::b4::M,y∉aB v9:=fun y hy hv=>by have:=o9b y hv;have:=hMl y hy;omega
   have sl11:=o11.sl off
   have ell:(ch.bs++ [txs]).length=ch.bs.length+1:=by simp
   have ov9:v9.oneCell'=true:=o9.one
   by_cases hgt:ch.top<ch.bs.length+1
   ·have em:max ch.top (ch.bs.length+1)=(ch.bs++ [txs]).length:=by rw [ell];omega
    rw [em]
    repeat (first|refine zG (d:=some 61) (E:=dW txR) (M:=b12::b4::M) (l:=ch.bs++ [txs]) rfl sl11 ?_|refine aD (d:=some 64) (.bool true) rfl (congrArg (fun b=>some (Value.bool b)) (dTr (by rw [ell];omega))) ?_|refine zG (d:=some 67) (E:=dW txR) (M:=b12::b4::M) (l:=ch.bs++ [txs]) rfl sl11 ?_|refine go1 ?_|refine zg λ_ _=>?_|refine zi λ_ _=>?_)
    refine bO (b:=b12) (o:=1) (cur:= [v9,.int .i64 (ch.top:Nat)]) rfl rfl rfl a11 (Nat.le_of_ble_eq_true rfl) (fun w13 c13 a13=>?_)
    have a13:At w13 b12 (.cells [v9,.int .i64 ((ch.bs++ [txs]).length:Nat)].toArray T.kedgeref13_Chain (0,0)):=a13
    have r1213:=Row.of_at a13
    have a413:=a411.chg c13 (by simp;omega)
    have o13:=o11.step c13 (M':=b12::b4::M) (fun y hy=>by simp at hy;subst hy;exact ⟨h12v,.inl (by simp)⟩) (fun y hy=>.inl hy)
    have x13:Ext w w13:=(Ext.chg (x04.trans x5) (c511.trans c13)).mono (fun y hy=>.inr (by simp at hy;omega))
    repeat (first|refine go1 ?_|refine zg λ_ _=>?_|refine zi λ_ _=>?_)
    refine aU (w0:=w) (n:=2) (vs:= [v9,.int .i64 ((ch.bs++ [txs]).length:Nat)]) x13 hb24 a413 rfl rfl rfl rfl (by simp [ov9];rfl) (fun w14 x14 c14 a14 r14=>?_)
    repeat (first|refine go1 ?_|refine zg λ_ _=>?_|refine zi λ_ _=>?_)
    have o14:=o13.step c14 (M':=b12::b4::M) (fun y hy=>by simp at hy;subst hy;exact ⟨h4v,.inl (by simp)⟩) (fun y hy=>.inl hy)
    exact aA (aYv (bD r14 rfl rfl) bJ bJ) ⟨v9,rfl,(o14.sl off).sub (fun y hy=>.inl (by simp [hy])),x14⟩
   ·have em:max ch.top (ch.bs.length+1)=ch.top:=by omega
    rw [em]
    repeat (first|refine zG (d:=some 61) (E:=dW txR) (M:=b12::b4::M) (l:=ch.bs++ [txs]) rfl sl11 ?_|refine aD (d:=some 64) (.bool false) rfl (congrArg (fun b=>some (Value.bool b)) (dFa (by rw [ell];omega))) ?_|refine go1 ?_|refine zg λ_ _=>?_|refine zi λ_ _=>?_)
    have x13:Ext w w11:=(Ext.chg (x04.trans x5) c511).mono (fun y hy=>.inr (by simp at hy;omega))
    refine aU (w0:=w) (n:=2) (vs:= [v9,.int .i64 (ch.top:Nat)]) x13 hb24 a411 rfl rfl rfl rfl (by simp [ov9];rfl) (fun w14 x14 c14 a14 r14=>?_)
    repeat (first|refine go1 ?_|refine zg λ_ _=>?_|refine zi λ_ _=>?_)
    have o14:=o11.step c14 (M':=b12::b4::M) (fun y hy=>by simp at hy;subst hy;exact ⟨h4v,.inl (by simp)⟩) (fun y hy=>.inl hy)
    exact aA (aYv (bD r14 rfl rfl) bJ bJ) ⟨v9,rfl,(o14.sl off).sub (fun y hy=>.inl (by simp [hy])),x14⟩
 ·have e2:cS ch txs=ch:=by unfold cS;rw [if_pos h0]
  have e1:(kM ch txs).2=(bI (aZ ch.bs) txs ((ch.bs.length+1:Nat):Int)).2.2.1:=rfl
  have e0:(kM ch txs).1=(bI (aZ ch.bs) txs ((ch.bs.length+1:Nat):Int)).2.1:=rfl
  rw [e2,e1,e0]
  repeat (first|refine aD (d:=some 29) (.bool true) rfl (congrArg (fun b=>some (Value.bool (!b))) (dFa h0)) ?_|refine go1 ?_|refine zg λ_ _=>?_|refine zi λ_ _=>?_)
  have ov:bv.oneCell'=true:=by rw [ebv];rfl
  refine aU (w0:=w) (n:=2) (vs:= [bv,.int .i64 (ch.top:Nat)]) x04 hb24 a24 rfl rfl rfl rfl (by simp [ov];rfl) (fun w14 x14 c14 a14 r14=>?_)
  repeat (first|refine go1 ?_|refine zg λ_ _=>?_|refine zi λ_ _=>?_)
  exact aA (aYv (bD r14 rfl rfl) bJ bJ) ⟨bv,rfl,hv.ext x14,x14⟩
end
end Go.Proofs.YtgloknkcfchnlaaGreat
section
namespace Go.K
open Go
theorem Sl.at_b {size:Nat} {w:World} {v:Value} {cs:List Value} {ln n:Nat} (hs:Sl w size v ln cs) (hk:0<size) (hr:n<ln):∃a cap,v=.slice (some a) ln cap∧Row w (a.add (n*size)) ((cs.drop (n*size)).take size)∧(a.add (n*size)).block∈aB v:=by
 obtain ⟨a,cap,rfl,hrow⟩:=hs.at_ hk hr
 exact ⟨a,cap,rfl,hrow,by rw [add_block];simp [aB]⟩
theorem bK2 {α:Type} {E:R α} {M:List Nat} {P:Program} {d:Option Tmp} {r:KR} {K:Env→World→Prop} {ρ:Env} {w:World} {v:Value} {l:List α} {size:Nat} {x i:Operand} {kd:IntKind} {n:Nat} (hx:ev ρ x=v) (hi:ev ρ i=.int kd (n:Nat)) (hs:SlR E M w v l) (hk:size=E.k) (hr:n<l.length)
  (k:∀ad cs,Row w ad cs→E.rel M w cs l[n]→ad.block∉M→aF P r K (put ρ d (.pointer (some ad))) w):aF P (.cons ⟨d,.indexAddr size x i,none⟩ r) K ρ w:=by
 obtain ⟨css,h1,h2,h3⟩:=hs
 have hr':n<css.length:=by rw [h2.length];exact hr
 subst hk
 obtain ⟨a,cap,rfl,hrow,hb⟩:=Sl.at_b h1 E.pos hr'
 refine dH rfl (by simp [KOp.fix,hx,hi,hr'];rfl) (k _ _ ?_ (h2.get n hr' hr) (h3 (by omega) _ hb))
 have:=(kA E.k E.pos).flat_at css n hr'
 rw [this] at hrow;exact hrow
end Go.K
namespace Go.Proofs.YtgloknkcfchnlaaGreat
open Go Go.K
attribute [local irreducible] aF aP bG KOp.wp K.Spec u32 leS vnS str aR aE aQ bS idT aO bI
set_option maxHeartbeats 8000000 in
theorem bAq {M:List Nat} {bv:Value} {ch:Ch} (w:World) (hv:SlR (dW txR) M w bv ch.bs) (hl:ch.bs.length≤1000) (ht:ch.top≤1000) (hM:∀y∈M,y<w.heap.size):
  K.Spec Tryz.prog F.kedgeref13_Disconnect [.agg #[bv,.int .i64 (ch.top:Nat)]] w fun r w'=>∃bv' tv,r=.tuple #[.agg #[bv',.int .i64 ((eW ch).top:Nat)],tv,.int .i64 (fN ch)]∧SlR (dW txR) M w' bv' (eW ch).bs∧(fN ch=0→SlR txR M w' tv (ch.bs.getD (ch.bs.length - 1) []))∧(fN ch≠0→tv=.slice none 0 0)∧Ext w w':=by
 obtain ⟨q1,q2,ebv⟩:=hv.form
 have ov:bv.oneCell'=true:=by rw [ebv];rfl
 refine aA2 rfl ?_
 unfold oY
 refine oy ?_
 repeat (first|refine zD (d:=some 1) (cs:= [bv,.int .i64 (ch.top:Nat)]) rfl (by rw [ebv];rfl) (fun b1 w1 x1 a1 (r1:Row w1 ⟨b1,0,none⟩ [bv,.int .i64 (ch.top:Nat)]) hb1=>?_)|refine zH (d:=some 2) (fun b2 w2 x2 a2 hb2=>?_)|refine go1 ?_|refine zg λ_ _=>?_|refine zi λ_ _=>?_)
 refine zG (d:=some 10) (E:=dW txR) (M:=M) (l:=ch.bs) rfl (SlR.ext hv (by exact fx)) ?_
 have x02:Ext w w2:=x1.trans x2
 have hb02:w.heap.size≤b2:=nTr x1.size hb2
 have s02:=x02.size
 have s1:=x1.size
 have s2:=x2.size
 have l1:=a1.lt
 have l2:=a2.lt
 have r12:=Row.ext x2 r1
 by_cases q0:ch.bs.length=0
 ·have e0:fN ch=8:=by unfold fN;rw [if_pos q0]
  have e1:eW ch=ch:=by unfold eW;rw [if_pos (by rw [e0];decide)]
  rw [e0,e1]
  repeat (first|refine aD (d:=some 12) (.bool true) rfl (congrArg (fun b=>some (Value.bool b)) (dTr (by omega))) ?_|refine go1 ?_|refine zg λ_ _=>?_|refine zi λ_ _=>?_)
  refine aU (w0:=w) (n:=2) (vs:= [bv,.int .i64 (ch.top:Nat)]) x02 hb02 a2 rfl rfl rfl rfl (by simp [ov];rfl) (fun w14 x14 c14 a14 r14=>?_)
  repeat (first|refine go1 ?_|refine zg λ_ _=>?_|refine zi λ_ _=>?_)
  exact aA (aYv (bD r14 rfl rfl) bJ bJ) ⟨bv,_,rfl,hv.ext x14,fun q=>absurd q (by decide),fun _=>rfl,x14⟩
 ·by_cases q1:ch.bs.length+6≤ch.top
  ·have e0:fN ch=18:=by unfold fN;rw [if_neg q0,if_pos q1]
   have e1:eW ch=ch:=by unfold eW;rw [if_pos (by rw [e0];decide)]
   rw [e0,e1]
   repeat (first|refine aD (d:=some 12) (.bool false) rfl (congrArg (fun b=>some (Value.bool b)) (dFa (by omega))) ?_|refine aD (d:=some 18) (.bool true) rfl (congrArg (fun b=>some (Value.bool b)) (dTr (by omega))) ?_|refine go1 ?_|refine zg λ_ _=>?_|refine zi λ_ _=>?_)
   refine aU (w0:=w) (n:=2) (vs:= [bv,.int .i64 (ch.top:Nat)]) x02 hb02 a2 rfl rfl rfl rfl (by simp [ov];rfl) (fun w14 x14 c14 a14 r14=>?_)
   repeat (first|refine go1 ?_|refine zg λ_ _=>?_|refine zi λ_ _=>?_)
   exact aA (aYv (bD r14 rfl rfl) bJ bJ) ⟨bv,_,rfl,hv.ext x14,fun q=>absurd q (by decide),fun _=>rfl,x14⟩
  ·have e0:fN ch=0:=by unfold fN;rw [if_neg q0,if_neg q1]
   have e1:eW ch=⟨ch.bs.take (ch.bs.length - 1),ch.top⟩:=by unfold eW;rw [if_neg (by simp [e0])]
   have hkl1:ch.bs.length - 1<ch.bs.length:=by omega
   have egl:ch.bs.getD (ch.bs.length - 1) []=ch.bs[ch.bs.length - 1]:=by rw [List.getD_eq_getElem?_getD,List.getElem?_eq_getElem hkl1];rfl
   rw [e0,e1,egl]
   repeat (first|refine aD (d:=some 12) (.bool false) rfl (congrArg (fun b=>some (Value.bool b)) (dFa (by omega))) ?_|refine aD (d:=some 18) (.bool false) rfl (congrArg (fun b=>some (Value.bool b)) (dFa (by omega))) ?_|refine zH (d:=some 6) (fun b12 w5 x5 a5 hb12=>?_)|refine go1 ?_|refine zg λ_ _=>?_|refine zi λ_ _=>?_)
   have l12:=a5.lt
   have s45:=x5.size
   have hMl:∀y∈b12::b2::M,y<w5.heap.size:=fun y hy=>by
    simp only [List.mem_cons] at hy
    rcases hy with rfl|rfl|hy
    ·exact l12
    ·omega
    ·have:=hM y hy;omega
   have hM4:∀y∈b12::b2::M,y∈M∨w.heap.size≤y:=fun y hy=>by
    simp only [List.mem_cons] at hy
    rcases hy with rfl|rfl|hy
    ·exact .inr (by omega)
    ·exact .inr hb02
    ·exact .inl hy
   refine aI (fun (p:Nat × Value) w'=>Chg [b12] w5 w'∧p.1≤ch.bs.length - 1∧bR (dW txR) T.L_api_Tx w5.heap.size (b12::b2::M) w' p.2 (ch.bs.take p.1)∧At w' b12 (.cells [p.2,.int .i64 0].toArray T.kedgeref13_Chain (0,0))) (fun p=> [(1,.pointer (some ⟨b1,0,none⟩)),(2,.pointer (some ⟨b2,0,none⟩)),(5,.int .i64 (ch.bs.length:Nat)),(6,.pointer (some ⟨b12,0,none⟩)),(7,.int .i64 (p.1:Nat))]) (fun p=>ch.bs.length - p.1) (0,.slice none 0 0) ⟨rfl,rfl,rfl,rfl,rfl,trivial⟩ ⟨Chg.refl _ _,by simp,bR.nil _ _ _ _,a5⟩ ?_
   rintro ⟨k,dv⟩ ρ w6 ⟨c6,hk,o6,a6⟩
   simp only at hk o6 a6
   dsimp only
   have x06:Ext w w6:=(Ext.chg (x02.trans x5) c6).mono (fun y hy=>.inr (by simp at hy;omega))
   have x26:Ext w2 w6:=(Ext.chg x5 c6).mono (fun y hy=>.inr (by simp at hy;omega))
   have r16:=Row.ext x26 r12
   have r66:=Row.of_at a6
   have odv:dv.oneCell'=true:=o6.one
   have hlen:(ch.bs.take k).length=k:=by rw [List.length_take];omega
   have ob:=o6.base
   have s56:=c6.size
   have hdM:∀y∈aB dv++b12::b2::M,y∈M∨w.heap.size≤y:=fun y hy=>by
    rcases List.mem_append.1 hy with hy|hy
    ·exact .inr (by have:=ob y hy;omega)
    ·exact hM4 y hy
   repeat (first|refine go1 ?_|refine zg λ_ _=>?_|refine zi λ_ _=>?_)
   refine zL (x:=.tmp 23) (p:=((k:Nat):Int)<((ch.bs.length:Nat):Int) - 1) rfl (fun h6=>?_) (fun h6=>?_)
   ·have hkl:k<ch.bs.length:=by omega
    repeat (first|refine zi (fun w7 x7=>?_)|refine dJ (b:=.cons ⟨some 34,_,_⟩ _) (fun (p:Nat × Value) w'=>Ext w6 w'∧At w' p.1 (.cells [p.2].toArray T.L_api_Tx (0,0))∧SlR txR (aB dv++b12::b2::M) w' p.2 ch.bs[k]) (fun p=> [(1,.pointer (some ⟨b1,0,none⟩)),(2,.pointer (some ⟨b2,0,none⟩)),(5,.int .i64 (ch.bs.length:Nat)),(6,.pointer (some ⟨b12,0,none⟩)),(7,.int .i64 (k:Nat)),(27,dv),(33,.slice (some ⟨p.1,0,none⟩) 1 1)]) ?_ ?_|refine go1 ?_|refine zg λ_ _=>?_|refine zi λ_ _=>?_)
    ·repeat' (first|refine zB ?_ ?_|(refine aM (d:=some 31) (E:=dW txR) (M:=aB dv++b12::b2::M) rfl rfl (n:=k) (l:=ch.bs) (SlR.ext (hv.step x06 (by simp) hdM) (by exact fx)) rfl hkl (fun ad cs r4 he=>?_);obtain ⟨xv,rfl,hxv⟩:=he;obtain ⟨_,_,exv⟩:=hxv.form)|refine zI (d:=some 33) (cs:= [xv]) (by rw [exv];rfl) (fun b8 w8 x8 a8 hb8=>?_)|refine go1 ?_|refine zg λ_ _=>?_|refine zi λ_ _=>?_)
     all_goals exact ⟨(b8,xv),⟨rfl,rfl,rfl,rfl,rfl,rfl,rfl,trivial⟩,by exact fx,a8,hxv.ext (by exact fx)⟩
    ·rintro ⟨b8,xv⟩ ρ w8 ⟨x8,a8,hxv⟩
     dsimp only at x8 a8 hxv ⊢
     refine gB (d:=some 34) (E:=dW txR) (M:=b12::b2::M) (v:=dv) (cs:= [xv]) (a:=ch.bs[k]) rfl rfl (o6.ext x8) (nTr s56 x8.size) rfl rfl a8 ⟨xv,rfl,hxv⟩ (by omega) (fun v9 w9 o9 c9 hb9=>?_)
     have h12n:b12∉aB dv:=fun h=>by have:=ob _ h;omega
     have a9:=(a6.ext x8).chg c9 h12n
     have o9b:=o9.base
     repeat (first|refine go1 ?_|refine zg λ_ _=>?_|refine zi λ_ _=>?_)
     refine bO (b:=b12) (o:=0) (cur:= [dv,.int .i64 0]) rfl rfl o9.one a9 (Nat.le_of_ble_eq_true rfl) (fun w10 c10 a10=>?_)
     have o10:=o9.step c10 (M':=b12::b2::M) (fun y hy=>by
      simp at hy;subst hy
      exact ⟨fun h=>by have:=o9b _ h;omega,.inl (by simp)⟩) (fun y hy=>.inl hy)
     have c510:Chg [b12] w5 w10:=((c6.trans (Chg.trans x8 c9)).trans c10).mono (fun y hy=>by
      simp at hy
      rcases hy with rfl|hy|rfl
      ·exact .inl (by simp)
      ·exact .inr (ob y hy)
      ·exact .inl (by simp))
     repeat (first|refine go1 ?_|refine zg λ_ _=>?_|refine zi λ_ _=>?_)
     exact ⟨(k+1,v9),⟨rfl,rfl,rfl,rfl,rfl,trivial⟩,⟨c510,by simp only;omega,by simp only;rw [List.take_succ_eq_append_getElem hkl];exact o10,a10⟩,by simp only;omega⟩
   ·have ekk:k=ch.bs.length - 1:=by omega
    subst ekk
    have h12v:b12∉aB dv:=fun h=>by have:=ob _ h;omega
    have h2v:b2∉aB dv:=fun h=>by have:=ob _ h;omega
    repeat (first|refine go1 ?_|refine zg λ_ _=>?_|refine zi λ_ _=>?_)
    refine bO (b:=b12) (o:=1) (cur:= [dv,.int .i64 0]) rfl rfl rfl a6 (Nat.le_of_ble_eq_true rfl) (fun w11 c11 a11=>?_)
    have a11:At w11 b12 (.cells [dv,.int .i64 (ch.top:Nat)].toArray T.kedgeref13_Chain (0,0)):=a11
    have o11:=o6.step c11 (M':=b12::b2::M) (fun y hy=>by simp at hy;subst hy;exact ⟨h12v,.inl (by simp)⟩) (fun y hy=>.inl hy)
    have a211:=(At.ext x26 a2).chg c11 (by simp;omega)
    have r1211:=Row.of_at a11
    have r111:=Row.chg c11 r16 (by simp;omega)
    have x11:Ext w w11:=(Ext.chg (x02.trans x5) (c6.trans c11)).mono (fun y hy=>.inr (by simp at hy;omega))
    have off:∀y∈b12::b2::M,y∉aB dv:=fun y hy hv=>by have:=ob y hv;have:=hMl y hy;omega
    have hMb:∀y∈b12::b2::M,y∈M∨w.heap.size≤y:=hM4
    have hv11:SlR (dW txR) (b12::b2::M) w11 bv ch.bs:=hv.step x11 (by simp) hM4
    clear x1 x2 x02 x06 x26 x5 c6 c11 a1 r1 r12 r16
    have m2:b2∈b12::b2::M:=by simp
    repeat' (first|refine zg (fun w12 x12=>?_)|refine zB ?_ ?_|refine yX (d:=some 43) (n:=ch.bs.length) rfl (by omega) (by omega) ?_|(refine bK2 (d:=some 44) (E:=dW txR) (M:=b12::b2::M) rfl rfl (n:=ch.bs.length - 1) (l:=ch.bs) (hv.step (show Ext w _ by exact fx) (by simp) hM4) rfl hkl1 (fun ad cs r4 he hab=>?_);obtain ⟨tv,rfl,hxv⟩:=he)|(refine aU (w0:=w) (n:=2) (vs:= [dv,.int .i64 (ch.top:Nat)]) (show Ext w _ by exact fx) hb02 (At.ext (show Ext w11 _ by exact fx) a211) rfl rfl rfl rfl (by simp [odv];rfl) (fun w14 x14 c14 a14 r14=>?_);have r114:=Row.chg c14 (Row.ext (show Ext w11 _ by exact fx) r111) (by simp;omega);have o14:=(o11.ext (show Ext w11 _ by exact fx)).step c14 (M':=b12::b2::M) (fun y hy=>by simp at hy;subst hy;exact ⟨h2v,.inl (by simp)⟩) (fun y hy=>.inl hy);(first|have r5:=Row.chg c14 r4 (fun h=>by simp at h;rw [h] at hab;exact hab m2)|skip);(first|have hxv:=hxv.step c14 (M':=b12::b2::M) (fun y hy=>.inl (by simp at hy;simp [hy])) (fun y hy=>.inl hy)|skip))|refine go1 ?_|refine zg λ_ _=>?_|refine zi λ_ _=>?_)
    all_goals exact aA (aYv (bD r14 rfl rfl) bJ bJ) ⟨dv,tv,rfl,(o14.sl off).sub (fun y hy=>.inl (by simp [hy])),fun _=>hxv.sub (fun y hy=>.inl (by simp [hy])),fun q=>absurd rfl q,x14⟩
end Go.Proofs.YtgloknkcfchnlaaGreat
end
