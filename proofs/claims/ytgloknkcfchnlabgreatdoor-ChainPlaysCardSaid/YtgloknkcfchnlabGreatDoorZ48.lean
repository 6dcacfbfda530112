/- Contracts: the fee of a transaction, by the document. Contra -/
import Derived.Test.YtgloknkcfchnlabGreatDoorZ45
import Derived.Test.YtgloknkcfchnlabGreatDoorZ46
set_option linter.unusedVariables false
set_option linter.unusedSimpArgs false
namespace Go.Proofs.YtgloknkcfchnlabGreatDoor
section
open Go Go.K
attribute [local irreducible] aG aK aU KOp.wp K.Spec u32 leS vnS str aN bN bJ bX eU iG cD eZ fE aJ aO bH idT aV inE
theorem aT0 (V:List En) (q:Pt):(∃n,∃h:n<V.length,gB V q=(n:Nat)∧aX V q=some V[n].2)∨(gB V q= -1∧aX V q=none):=by
 unfold gB
 cases hi:cQ V q with
 |none=>exact .inr ⟨rfl,oN hi⟩
 |some n=>exact .inl ⟨n,aEe hi,rfl,oJ hi (aEe hi)⟩
theorem aMv {f:Pt→Option Cn} {t:Tx} {h:Int} {x:TIn} (e:f x.p=none):inE f t h x=8:=by unfold inE;rw [e]
theorem aNm {f:Pt→Option Cn} {t:Tx} {h:Int} {x:TIn} {c:Cn} (e:f x.p=some c) (h1:eZ c.s t x≠0):inE f t h x=eZ c.s t x:=by unfold inE;rw [e];simp only;rw [if_pos h1]
theorem aM8 {f:Pt→Option Cn} {t:Tx} {h:Int} {x:TIn} {c:Cn} (e:f x.p=some c) (h1:eZ c.s t x=0) (h2:fE t x c.h h=false):inE f t h x=10:=by unfold inE;rw [e];simp only;rw [if_neg (by rw [h1];decide),h2];rfl
theorem aYg {f:Pt→Option Cn} {t:Tx} {h:Int} {x:TIn} {c:Cn} (e:f x.p=some c) (h1:eZ c.s t x=0) (h2:fE t x c.h h=true):inE f t h x=0:=by unfold inE;rw [e];simp only;rw [if_neg (by rw [h1];decide),h2];rfl
theorem aUb {f:Pt→Option Cn} {x:TIn} {c:Cn} (e:f x.p=some c):inV f x=c.v:=by unfold inV;rw [e];rfl
def xU (f:Pt→Option Cn) (t:Tx) (h:Int):Value:=.tuple #[.int .i64 (gY f t h).1,.int .i64 (gY f t h).2.1,.int .i64 (gY f t h).2.2]
set_option maxHeartbeats 4000000 in
theorem aHp {M:List Nat} {v:Value} {cs:List Value} {t:Tx} {l:List En} (h:Int) (w:World) (hv:SlE bE w v l) (ht:txR.rel M w cs t) (hs:t.Sm) (hn:l.length≤100000) (hl:∀e∈l,e.2.s.size≤1000000):
  K.Spec Tryz.prog F.kedgeref11_Fee [v,.agg cs.toArray,.int .i64 h] w fun r w'=>r=xU (aX l) t h∧Ext w w':=by
 have ht0:=ht
 have hin:=hs.ins
 obtain ⟨iv,ov,rfl,h1,h2,h3,h4⟩:=ht
 by_cases hc:aJ t=0
 ·obtain ⟨hpos,hbase⟩:=aN5 hc
  have hw:=fun {i} (hi:i<t.ins.length)=>aK1 hc hi
  cases hg:aO t with
  |true=>
   rw [hg] at hbase
   have e:xU (aX l) t h=.tuple #[.int .i64 0,.int .i64 4,.int .i64 (-1)]:=by unfold xU;rw [aHz hc hg]
   rw [e]
   refine jX rfl ?_
   unfold gU
   refine oy ?_
   repeat' (first|refine zD rfl rfl (fun bp wp xp ap (rp:Row wp ⟨bp,0,none⟩ (aT t iv ov)) hp0=>?_)|(refine zC (d:=some 21) rfl (kK (M:=M) (t:=t) (cs:=aT t iv ov) _ (R.ext ht0 (by exact fx)) hs) ?_;rintro _ w2 ⟨rfl,x2⟩;rw [hc])|(refine aM (d:=some 27) (E:=inR) (M:=M) rfl rfl (n:=0) (l:=t.ins) (SlR.ext h1 (by exact fx)) rfl hpos (fun ad cs r4 he=>?_);obtain ⟨wv,rfl,hwv,hp5,hp6⟩:=he)|(refine zC (d:=some 30) rfl (qZ t.ins[0].p _) ?_;rintro _ w3 ⟨rfl,x3⟩;rw [hbase])|refine go1 ?_|refine zg λ_ _=>?_|refine zi λ_ _=>?_)
   exact aB rfl ⟨rfl,by exact fx⟩
  |false=>
   rw [hg] at hbase
   refine jX rfl ?_
   unfold gU
   refine oy ?_
   repeat' (first|refine zD (d:=some 4) rfl rfl (fun bp wp xp ap (rp:Row wp ⟨bp,0,none⟩ (aT t iv ov)) hp0=>?_)|(refine zC (d:=some 21) rfl (kK (M:=M) (t:=t) (cs:=aT t iv ov) _ (R.ext ht0 (by exact fx)) hs) ?_;rintro _ w2 ⟨rfl,x2⟩;rw [hc])|(refine aM (d:=some 27) (E:=inR) (M:=M) rfl rfl (n:=0) (l:=t.ins) (SlR.ext h1 (by exact fx)) rfl hpos (fun ad cs r4 he=>?_);obtain ⟨wv,rfl,hwv,hp5,hp6⟩:=he)|(refine zC (d:=some 30) rfl (qZ t.ins[0].p _) ?_;rintro _ w3 ⟨rfl,x3⟩;rw [hbase])|(refine aL (fun (p:Nat × Value) w'=>Ext wp w'∧p.1≤t.ins.length∧Own aAo T.int wp.heap.size w' p.2 ((t.ins.take p.1).map (inV (aX l)))∧∀j,j<p.1→∀hj:j<t.ins.length,inE (aX l) t h t.ins[j]=0) (fun p=> [(0,v),(2,.int .i64 h),(4,.pointer (some ⟨bp,0,none⟩)),(11,p.2),(12,.int .i64 (p.1:Nat))]) (fun p=>t.ins.length - p.1) (0,.slice none 0 0) ⟨rfl,rfl,rfl,rfl,rfl,trivial⟩ ⟨by exact fx,by simp,Own.nil _ _ _,fun j hj=>absurd hj (by simp)⟩ ?_;rintro ⟨i,v11⟩ ρ w4 ⟨x4,hi,ho,hk⟩;simp only at hi ho hk;dsimp only)|refine zG (d:=some 35) (E:=inR) (M:=M) (l:=t.ins) rfl (SlR.ext h1 (by exact fx)) ?_|refine zL (x:=.tmp 36) (p:=((i:Nat):Int)<((t.ins.length:Nat):Int)) rfl (fun h9=>?_) (fun h9=>?_)|refine go1 ?_|refine zg λ_ _=>?_|refine zi λ_ _=>?_)
   ·have hil:i<t.ins.length:=by omega
    have hwi:=hw hil
    have stop:inE (aX l) t h t.ins[i]≠0→xU (aX l) t h=.tuple #[.int .i64 0,.int .i64 (inE (aX l) t h t.ins[i]),.int .i64 (i:Nat)]:=fun he=>by unfold xU;rw [aU1 hc hg hil hk he]
    have rp4:Row w4 ⟨bp,0,none⟩ (aT t iv ov):=rp.ext x4
    have x04:Ext w w4:=by exact fx
    have ht4:=R.ext ht0 x04
    have h14:=h1.ext x04
    have hv4:=hv.ext x04
    have x04':Unit→Ext w w4:=fun _=>x04
    have x4':Unit→Ext wp w4:=fun _=>x4
    clear x04 x4 xp x2 x3
    repeat' (first|(refine aM (d:=some 43) (E:=inR) (M:=M) rfl rfl (n:=i) (l:=t.ins) (SlR.ext h14 (by exact fx)) rfl hil (fun ad cs r4 he=>?_);obtain ⟨wv2,rfl,hwv2,hp52,hp62⟩:=he)|(refine zC (d:=some 46) rfl (tS t.ins[i].p _ (SlE.ext (w:=w4) (by exact fx) hv4) hn) ?_;rintro _ w5 ⟨rfl,x5⟩)|refine go1 ?_|refine zg λ_ _=>?_|refine zi λ_ _=>?_)
    rcases aT0 l t.ins[i].p with ⟨n,hnl,e1,e2⟩|⟨e1,e2⟩
    ·rw [e1]
     obtain ⟨c,hcc⟩:∃c,c=l[n].2:=⟨_,rfl⟩
     have hcs:c.s.size≤1000000:=by rw [hcc];exact hl _ (gMe hnl)
     rw [←hcc] at e2
     by_cases ho0:eZ c.s t t.ins[i]=0
     ·cases hrp:fE t t.ins[i] c.h h with
      |false=>
       rw [stop (by rw [aM8 e2 ho0 hrp];decide),aM8 e2 ho0 hrp]
       repeat' (first|refine zL (x:=.tmp 48) rfl (fun h=>absurd h (by omega)) (fun _=>?_)|refine aQ (d:=some 52) (E:=bE) rfl rfl (n:=n) (l:=l) (SlE.ext (w:=w4) (by exact fx) hv4) rfl hnl (fun ad52 r52=>?_)|(refine zE (d':=14) (fun _=>rfl) rfl rfl (by rfl) (fun b7 w7 x7 a7 (r7:Row w7 ⟨b7,0,none⟩ l[n].2.cs) hb7=>?_);rw [←hcc] at r7)|(refine zC (d:=some 60) rfl (wJ (M:=M) (t:=t) (cs:=aT t iv ov) c.s hcs i hil hin hwi _ (R.ext ht4 (by exact fx))) ?_;rintro _ w8 ⟨rfl,x8⟩;rw [ho0])|(refine zC (d:=some 70) rfl (aF3 (M:=M) (t:=t) (cs:=aT t iv ov) i hil hin c.h h _ (R.ext ht4 (by exact fx))) ?_;rintro _ w9 ⟨rfl,x9⟩;rw [hrp])|refine go1 ?_|refine zg λ_ _=>?_|refine zi λ_ _=>?_)
       exact aB rfl ⟨rfl,(x04' ()).trans (by exact fx)⟩
      |true=>
       have hok:=aYg (h:=h) e2 ho0 hrp
       have hiv:=aUb e2
       repeat' (first|refine zL (x:=.tmp 48) rfl (fun h=>absurd h (by omega)) (fun _=>?_)|refine aQ (d:=some 52) (E:=bE) rfl rfl (n:=n) (l:=l) (SlE.ext (w:=w4) (by exact fx) hv4) rfl hnl (fun ad52 r52=>?_)|(refine zE (d':=14) (fun _=>rfl) rfl rfl (by rfl) (fun b7 w7 x7 a7 (r7:Row w7 ⟨b7,0,none⟩ l[n].2.cs) hb7=>?_);rw [←hcc] at r7)|(refine zC (d:=some 60) rfl (wJ (M:=M) (t:=t) (cs:=aT t iv ov) c.s hcs i hil hin hwi _ (R.ext ht4 (by exact fx))) ?_;rintro _ w8 ⟨rfl,x8⟩;rw [ho0])|(refine zC (d:=some 70) rfl (aF3 (M:=M) (t:=t) (cs:=aT t iv ov) i hil hin c.h h _ (R.ext ht4 (by exact fx))) ?_;rintro _ w9 ⟨rfl,x9⟩;rw [hrp])|refine zI (d:=some 78) (cs:= [.int .i64 c.v]) rfl (fun b8 w8 x8 a8 hb8=>?_)|refine bY (d:=some 79) (E:=aAo) (v:=v11) (l2:= [c.v]) rfl (ho.ext (by exact fx)) (nTr (Ext.size (x4' ())) (Ext.size (w:=w4) (by exact fx))) rfl rfl (eH a8 rfl) rfl rfl (by simp;omega) (fun v10 w10 o10 c10=>?_)|refine go1 ?_|refine zg λ_ _=>?_|refine zi λ_ _=>?_)
       have x410:=Ext.chg ((x4' ()).trans (show Ext w4 _ by exact fx)) c10
       exact ⟨(i+1,v10),⟨rfl,rfl,rfl,rfl,rfl,trivial⟩,⟨x410.mono (fun b hb=>.inr (ho.base b hb)),by simp only;omega,by simp only;rw [List.take_succ_eq_append_getElem hil,List.map_append,List.map_cons,List.map_nil,hiv];exact o10,fun j hj hjl=>by
        simp only at hj
        by_cases e:j=i
        ·subst e;exact hok
        ·exact hk j (by omega) hjl⟩,by simp only;omega⟩
     ·rw [stop (by rw [aNm e2 ho0];exact ho0),aNm e2 ho0]
      repeat' (first|refine zL (x:=.tmp 48) rfl (fun h=>absurd h (by omega)) (fun _=>?_)|refine aQ (d:=some 52) (E:=bE) rfl rfl (n:=n) (l:=l) (SlE.ext (w:=w4) (by exact fx) hv4) rfl hnl (fun ad52 r52=>?_)|(refine zE (d':=14) (fun _=>rfl) rfl rfl (by rfl) (fun b7 w7 x7 a7 (r7:Row w7 ⟨b7,0,none⟩ l[n].2.cs) hb7=>?_);rw [←hcc] at r7)|(refine zC (d:=some 60) rfl (wJ (M:=M) (t:=t) (cs:=aT t iv ov) c.s hcs i hil hin hwi _ (R.ext ht4 (by exact fx))) ?_;rintro _ w8 ⟨rfl,x8⟩)|refine zN (x:=.tmp 62) (p:=eZ c.s t t.ins[i]=0) rfl (fun _=>?_) (fun h=>absurd h ho0)|refine go1 ?_|refine zg λ_ _=>?_|refine zi λ_ _=>?_)
      exact aB rfl ⟨rfl,(x04' ()).trans (by exact fx)⟩
    ·rw [e1,stop (by rw [aMv e2];decide),aMv e2]
     repeat' (first|refine go1 ?_|refine zg λ_ _=>?_|refine zi λ_ _=>?_)
     exact aB rfl ⟨rfl,(x04' ()).trans (by exact fx)⟩
   ·have ei:i=t.ins.length:=by omega
    subst ei
    rw [List.take_length] at ho
    have x04:Ext w w4:=by exact fx
    have ht4:=R.ext ht0 x04
    have rp4:Row w4 ⟨bp,0,none⟩ (aT t iv ov):=rp.ext x4
    have hfa:=aQg hc hg fun j hj=>hk j hj hj
    have hlen:((t.ins.map (inV (aX l))).length)≤1000000000000:=by simp;omega
    have x04':Unit→Ext w w4:=fun _=>x04
    clear x04 xp x2 x3 x4
    by_cases hsum:kG (t.ins.map (inV (aX l)))=0
    ·have hgood:=(cX _).1 (uJ hsum)
     have hgv:=(cX _).1 (uJ (aIo hc))
     rw [if_neg (by simpa using hsum)] at hfa
     by_cases hv8:gG (values t)>gG (t.ins.map (inV (aX l)))
     ·rw [if_pos hv8] at hfa
      rw [show xU (aX l) t h=.tuple #[.int .i64 0,.int .i64 12,.int .i64 (-1)] by unfold xU;rw [hfa]]
      repeat' (first|(refine zC (d:=some 82) rfl (uL (l:=t.ins.map (inV (aX l))) _ (SlE.ext (w:=w4) (by exact fx) ho.sl) hlen) ?_;rintro _ _ ⟨rfl,rfl⟩;rw [hsum])|(refine zC (d:=some 90) rfl (sE (M:=M) (t:=t) (cs:=aT t iv ov) _ (R.ext ht4 (by exact fx)) hs) ?_;rintro _ w5 ⟨rfl,x5⟩)|refine zL (x:=.tmp 95) (p:=gG (values t)>gG (t.ins.map (inV (aX l)))) rfl (fun _=>?_) (fun h=>absurd hv8 h)|refine go1 ?_|refine zg λ_ _=>?_|refine zi λ_ _=>?_)
      exact aB rfl ⟨rfl,(x04' ()).trans (by exact fx)⟩
     ·rw [if_neg hv8] at hfa
      rw [show xU (aX l) t h=.tuple #[.int .i64 (gG (t.ins.map (inV (aX l))) - gG (values t)),.int .i64 0,.int .i64 (-1)] by unfold xU;rw [hfa]]
      repeat' (first|(refine zC (d:=some 82) rfl (uL (l:=t.ins.map (inV (aX l))) _ (SlE.ext (w:=w4) (by exact fx) ho.sl) hlen) ?_;rintro _ _ ⟨rfl,rfl⟩;rw [hsum])|(refine zC (d:=some 90) rfl (sE (M:=M) (t:=t) (cs:=aT t iv ov) _ (R.ext ht4 (by exact fx)) hs) ?_;rintro _ w5 ⟨rfl,x5⟩)|refine zL (x:=.tmp 95) (p:=gG (values t)>gG (t.ins.map (inV (aX l)))) rfl (fun h=>absurd h hv8) (fun _=>?_)|refine go1 ?_|refine zg λ_ _=>?_|refine zi λ_ _=>?_)
      exact aB rfl ⟨rfl,(x04' ()).trans (by exact fx)⟩
    ·rw [if_pos hsum] at hfa
     rw [show xU (aX l) t h=.tuple #[.int .i64 0,.int .i64 (kG (t.ins.map (inV (aX l)))),.int .i64 (-1)] by unfold xU;rw [hfa]]
     repeat' (first|(refine zC (d:=some 82) rfl (uL (l:=t.ins.map (inV (aX l))) _ (SlE.ext (w:=w4) (by exact fx) ho.sl) hlen) ?_;rintro _ _ ⟨rfl,rfl⟩)|refine zN (x:=.tmp 86) (p:=kG (t.ins.map (inV (aX l)))=0) rfl (fun _=>?_) (fun h=>absurd h hsum)|refine go1 ?_|refine zg λ_ _=>?_|refine zi λ_ _=>?_)
     exact aB rfl ⟨rfl,(x04' ()).trans (by exact fx)⟩
 ·have e:xU (aX l) t h=.tuple #[.int .i64 0,.int .i64 (aJ t),.int .i64 (-1)]:=by unfold xU;rw [aP5 hc]
  rw [e]
  refine jX rfl ?_
  unfold gU
  refine oy ?_
  repeat' (first|refine zD rfl rfl (fun bp wp xp ap (rp:Row wp ⟨bp,0,none⟩ (aT t iv ov)) hp0=>?_)|(refine zC (d:=some 21) rfl (kK (M:=M) (t:=t) (cs:=aT t iv ov) _ (R.ext ht0 (by exact fx)) hs) ?_;rintro _ w2 ⟨rfl,x2⟩)|refine zN (x:=.tmp 23) (p:=aJ t=0) rfl (fun _=>?_) (fun h=>absurd h hc)|refine go1 ?_|refine zg λ_ _=>?_|refine zi λ_ _=>?_)
  exact aB rfl ⟨rfl,by exact fx⟩
end
end Go.Proofs.YtgloknkcfchnlabGreatDoor
section
namespace Go.K
open Go Go.Proofs.YtgloknkcfchnlabGreatDoor
end Go.K
namespace Go.Proofs.YtgloknkcfchnlabGreatDoor
open Go Go.K
attribute [local irreducible] aG aK aU KOp.wp K.Spec u32 leS vnS str aN bN bJ bX eU iG cD eZ fE aJ aO bH idT aV inE gY gL fW cG cS
theorem aUg:∀{l:List TIn} (h:0<l.length),l[0]=l.headD default
 |_::_,_=>rfl
def aOh (vl:Value) (l:List En) (t:Tx) (i:Nat) (h:Int):Value:=.tuple #[vl,.int .i64 (cG l t i h).2.1,.int .i64 (cG l t i h).2.2]
set_option maxHeartbeats 4000000 in
theorem wG {M:List Nat} {v:Value} {cs:List Value} {t:Tx} {l:List En} (i:Nat) (h:Int) (w:World) (hi:i≤100000) (hv:SlE bE w v l) (hg:CG l) (hsc:SC l) (ht:txR.rel M w cs t) (hs:t.Sm) (hn:l.length+t.outs.length≤90000):
  K.Spec Tryz.prog F.kedgeref12_One [v,.agg cs.toArray,.int .i64 (i:Nat),.int .i64 h] w fun r w'=>∃vl,r=aOh vl l t i h∧SlE bE w' vl (cG l t i h).1∧kX v vl l (cG l t i h).1 w.heap.size∧Ext w w':=by
 have ht0:=ht
 have hin:=hs.ins
 have hout:=hs.outs
 have hl6:∀e∈l,e.2.s.size≤1000000:=fun e he=>by have:=(hsc e he).1;omega
 obtain ⟨iv,ov,rfl,h1,h2,h3,h4⟩:=ht
 have h41:=h4.1
 have h42:=h4.2
 have fail:∀{w':World} {c p:Int},Ext w w'→cG l t i h=(l,c,p)→∃vl,Value.tuple #[v,.int .i64 c,.int .i64 p]=aOh vl l t i h∧SlE bE w' vl (cG l t i h).1∧kX v vl l (cG l t i h).1 w.heap.size∧Ext w w':=fun x e=>⟨v,by unfold aOh;rw [e],by rw [e];exact hv.ext x,.inl ⟨rfl,by rw [e]⟩,x⟩
 refine aA5 rfl ?_
 unfold qA
 refine oy ?_
 repeat (first|refine zD (d:=some 5) rfl rfl (fun bp wp xp ap (rp:Row wp ⟨bp,0,none⟩ (aT t iv ov)) hp0=>?_)|refine kT (a:=.seq (.reg false (.cons ⟨some 21,_,none⟩ _)) _) (fun (_:Unit) w'=>Ext wp w') (fun _=> [(0,v),(2,.int .i64 (i:Nat)),(3,.int .i64 h),(5,.pointer (some ⟨bp,0,none⟩)),(11,.bool (aO t))]) ?_ ?_|refine go1 ?_|refine zg λ_ _=>?_|refine zi λ_ _=>?_)
 ·by_cases hone:t.ins.length=1
  ·have hpos:0<t.ins.length:=by omega
   have hb:gO t.ins[0].p=aO t:=by
    rw [show aO t=(decide (t.ins.length=1)&&gO (t.ins.headD default).p) by unfold aO;rfl,dTr hone,Bool.true_and]
    rw [aUg hpos]
   repeat' (first|refine zG (d:=some 23) (E:=inR) (M:=M) (l:=t.ins) rfl (SlR.ext h1 (by exact fx)) ?_|refine zL (x:=.tmp 24) rfl (fun _=>?_) (fun h=>absurd (by omega) h)|(refine aM (d:=some 27) (E:=inR) (M:=M) rfl rfl (n:=0) (l:=t.ins) (SlR.ext h1 (by exact fx)) rfl hpos (fun ad cs r4 he=>?_);obtain ⟨wv,rfl,hwv,hp5,hp6⟩:=he)|(refine zC (d:=some 30) rfl (qZ t.ins[0].p _) ?_;rintro _ w3 ⟨rfl,x3⟩;rw [hb])|refine go1 ?_|refine zg λ_ _=>?_|refine zi λ_ _=>?_)
   exact ⟨(),⟨rfl,rfl,rfl,rfl,rfl,trivial⟩,by exact fx⟩
  ·have hb:aO t=false:=by
    rw [show aO t=(decide (t.ins.length=1)&&gO (t.ins.headD default).p) by unfold aO;rfl,dFa hone,Bool.false_and]
   repeat' (first|refine zG (d:=some 23) (E:=inR) (M:=M) (l:=t.ins) rfl (SlR.ext h1 (by exact fx)) ?_|refine zL (x:=.tmp 24) rfl (fun h=>absurd h (by omega)) (fun _=>?_)|refine go1 ?_|refine zg λ_ _=>?_|refine zi λ_ _=>?_)
   exact ⟨(),⟨rfl,rfl,rfl,rfl,by rw [hb];rfl,trivial⟩,by exact fx⟩
 rintro _ ρ w1 x1
 refine kT (a:=.seq (.reg false (.cons ⟨some 31,_,none⟩ _)) _) (fun (_:Unit) w'=>Ext wp w'∧(gL l t i h).1=0) (fun _=> [(0,v),(3,.int .i64 h),(5,.pointer (some ⟨bp,0,none⟩)),(11,.bool (aO t))]) ?_ ?_
 ·cases hgr:aO t with
  |true=>
   by_cases hc:aJ t=0
   ·repeat' (first|(refine zC (d:=some 33) rfl (kK (M:=M) (t:=t) (cs:=aT t iv ov) _ (R.ext ht0 (by exact fx)) hs) ?_;rintro _ w2 ⟨rfl,x2⟩;rw [hc])|refine aD (d:=some 43) (.int .i64 t.lock) rfl (congrArg (fun n=>some (Value.int .i64 n)) (IntWalk.i64_in _ (by omega))) ?_|refine zJ (t:=40) (p:=((i:Nat):Int)>0) rfl (fun hi0=>?_) (fun hi0=>?_)|refine zN (x:=.tmp 46) (p:=t.lock=h) rfl (fun hl0=>?_) (fun hl0=>?_)|refine go1 ?_|refine zg λ_ _=>?_|refine zi λ_ _=>?_)
    ·exact aB rfl (fail (by exact fx) (by have e:=aAt (l:=l) hgr hc (h:=h) (i:=i) (.inl (by omega));rw [zS (by rw [e];decide),e]))
    ·exact aB rfl (fail (by exact fx) (by have e:=aAt (l:=l) hgr hc (h:=h) (i:=i) (.inr hl0);rw [zS (by rw [e];decide),e]))
    ·exact ⟨(),⟨rfl,rfl,rfl,rfl,trivial⟩,by exact fx,by rw [aVg (l:=l) hgr hc (h:=h) (i:=i) (by omega)]⟩
   ·repeat' (first|(refine zC (d:=some 33) rfl (kK (M:=M) (t:=t) (cs:=aT t iv ov) _ (R.ext ht0 (by exact fx)) hs) ?_;rintro _ w2 ⟨rfl,x2⟩)|refine zN (x:=.tmp 35) (p:=aJ t=0) rfl (fun _=>?_) (fun h=>absurd h hc)|refine go1 ?_|refine zg λ_ _=>?_|refine zi λ_ _=>?_)
    exact aB rfl (fail (by exact fx) (by have e:=aQj (l:=l) (h:=h) (i:=i) hgr hc;rw [zS (by rw [e];exact hc),e]))
  |false=>
   have e:=aQu (l:=l) (h:=h) (i:=i) hgr
   by_cases hf:(gY (aX l) t h).2.1=0
   ·repeat' (first|(refine zC (d:=some 52) rfl (aHp (M:=M) (t:=t) (cs:=aT t iv ov) (l:=l) h _ (SlE.ext (w:=w) (by exact fx) hv) (R.ext ht0 (by exact fx)) hs (by omega) hl6) ?_;rintro _ w2 ⟨rfl,x2⟩;unfold xU;rw [hf])|refine go1 ?_|refine zg λ_ _=>?_|refine zi λ_ _=>?_)
    exact ⟨(),⟨rfl,rfl,rfl,rfl,trivial⟩,by exact fx,by rw [e];exact hf⟩
   ·repeat' (first|(refine zC (d:=some 52) rfl (aHp (M:=M) (t:=t) (cs:=aT t iv ov) (l:=l) h _ (SlE.ext (w:=w) (by exact fx) hv) (R.ext ht0 (by exact fx)) hs (by omega) hl6) ?_;rintro _ w2 ⟨rfl,x2⟩;unfold xU)|refine zN (x:=.tmp 57) (p:=(gY (aX l) t h).2.1=0) rfl (fun _=>?_) (fun h=>absurd h hf)|refine go1 ?_|refine zg λ_ _=>?_|refine zi λ_ _=>?_)
    exact aB rfl (fail (by exact fx) (by rw [zS (by rw [e];exact hf),e]))
 clear x1
 rintro _ ρ w1 ⟨x1,hmay⟩
 have hc:=uP hmay
 have hsz:=mZ hs hc
 have rp1:Row w1 ⟨bp,0,none⟩ (aT t iv ov):=Row.ext x1 rp
 have x01:Ext w w1:=xp.trans x1
 have hv1:=hv.ext x01
 have ht1:=R.ext ht0 x01
 have h11:=h1.ext x01
 have h21:=h2.ext x01
 have x01':Unit→Ext w w1:=fun _=>x01
 clear x01 x1 xp ap rp hv ht0 h1 h2
 repeat (first|refine kT (a:=.seq (.reg false (.cons ⟨some 17,_,none⟩ _)) _) (fun (vm:Value) w'=>Ext w1 w'∧SlE bE w' vm (iJ l t)∧kX v vm l (iJ l t) w.heap.size) (fun vm=> [(0,v),(3,.int .i64 h),(5,.pointer (some ⟨bp,0,none⟩)),(16,vm)]) ?_ ?_|refine go1 ?_|refine zg λ_ _=>?_|refine zi λ_ _=>?_)
 ·cases hgr:aO t with
  |true=>
   repeat' (first|(refine aL (fun (_:Unit) w'=>Ext w1 w') (fun _=> [(0,v),(3,.int .i64 h),(5,.pointer (some ⟨bp,0,none⟩)),(11,.bool true),(16,v),(17,.int .i64 0)]) (fun _=>0) () ⟨rfl,rfl,rfl,rfl,rfl,rfl,trivial⟩ (Ext.refl _) ?_;rintro _ ρ w2 x2)|refine zG (d:=some 65) (E:=inR) (M:=M) (l:=t.ins) rfl (SlR.ext h11 (by exact fx)) ?_|refine zJ (t:=67) rfl (fun hh=>?_) (fun hh=>?_)|refine go1 ?_|refine zg λ_ _=>?_|refine zi λ_ _=>?_)
   all_goals exact ⟨v,⟨rfl,rfl,rfl,rfl,trivial⟩,by exact fx,by unfold iJ;rw [if_pos hgr];exact hv1.ext (by exact fx),.inl ⟨rfl,by unfold iJ;rw [if_pos hgr]⟩⟩
  |false=>
   repeat' (first|(refine aL (fun (p:Nat × Value) w'=>Ext w1 w'∧p.1≤t.ins.length∧SlE bE w' p.2 (cS l (t.ins.take p.1))∧kX v p.2 l (cS l (t.ins.take p.1)) w.heap.size) (fun p=> [(0,v),(3,.int .i64 h),(5,.pointer (some ⟨bp,0,none⟩)),(11,.bool false),(16,p.2),(17,.int .i64 (p.1:Nat))]) (fun p=>t.ins.length - p.1) (0,v) ⟨rfl,rfl,rfl,rfl,rfl,rfl,trivial⟩ ⟨Ext.refl _,by simp,by unfold cS;exact hv1,.inl ⟨rfl,by unfold cS;rfl⟩⟩ ?_;rintro ⟨k,vm⟩ ρ w2 ⟨x2,hk,hvm,hbm⟩;simp only at hk hvm hbm;dsimp only)|refine zG (d:=some 65) (E:=inR) (M:=M) (l:=t.ins) rfl (SlR.ext h11 (by exact fx)) ?_|refine zJ (t:=67) (p:=((k:Nat):Int)<((t.ins.length:Nat):Int)) rfl (fun hh=>?_) (fun hh=>?_)|refine go1 ?_|refine zg λ_ _=>?_|refine zi λ_ _=>?_)
   ·have hkl:k<t.ins.length:=by omega
    have hlen:=tN (t.ins.take k) l
    repeat' (first|(refine aM (d:=some 78) (E:=inR) (M:=M) rfl rfl (n:=k) (l:=t.ins) (SlR.ext h11 (by exact fx)) rfl hkl (fun ad cs r4 he=>?_);obtain ⟨wv,rfl,hwv,hp5,hp6⟩:=he)|(refine zC (d:=some 81) rfl (aIu t.ins[k].p _ (SlE.ext (w:=w2) (by exact fx) hvm) (by omega)) ?_;rintro _ w3 ⟨vl,rfl,hvl,hbl,x3⟩)|refine go1 ?_|refine zg λ_ _=>?_|refine zi λ_ _=>?_)
    exact ⟨(k+1,vl),⟨rfl,rfl,rfl,rfl,rfl,rfl,trivial⟩,⟨by exact fx,by simp only;omega,by simp only;rw [qP hkl];exact hvl,by simp only;rw [qP hkl];exact hbm.trans hbl (Ext.size (Ext.trans (x01' ()) (by exact fx)))⟩,by simp only;omega⟩
   ·have e:t.ins.take k=t.ins:=tLe (by omega)
    rw [e] at hvm
    exact ⟨vm,⟨rfl,rfl,rfl,rfl,trivial⟩,by exact fx,by unfold iJ;rw [if_neg (by rw [hgr];decide)];exact hvm.ext (by exact fx),by unfold iJ;rw [if_neg (by rw [hgr];decide)];rw [e] at hbm;exact hbm⟩
 rintro vm ρ w2 ⟨x2,hvm,hbm⟩
 have hgm:=aD0 hg t
 have hlm:=aMr l t
 repeat' (first|(refine zC (d:=some 86) rfl (aVf (M:=M) (cs:=aT t iv ov) (t:=t) _ (R.ext ht1 (by exact fx)) hsz) ?_;rintro _ w3 ⟨rfl,x3⟩)|(refine aL (fun (p:Nat × Value × List En) w'=>Ext w1 w'∧p.1≤t.outs.length∧SlE bE w' p.2.1 p.2.2∧CG p.2.2∧p.2.2.length≤l.length+p.1∧kX v p.2.1 l p.2.2 w.heap.size∧vW (idT t) h t.outs (iJ l t) p.1 p.2.2) (fun p=> [(0,v),(3,.int .i64 h),(5,.pointer (some ⟨bp,0,none⟩)),(16,p.2.1),(18,.string (idT t)),(19,.int .i64 (p.1:Nat))]) (fun p=>t.outs.length - p.1) (0,vm,iJ l t) ⟨rfl,rfl,rfl,rfl,rfl,rfl,trivial⟩ ⟨by exact fx,by simp,hvm.ext (by exact fx),hgm,by simpa using hlm,hbm,aFl⟩ ?_;rintro ⟨k,vk,mk⟩ ρ w4 ⟨x4,hk,hvk,hgk,hlk,hbk,hpk⟩;simp only at hk hvk hgk hlk hbk hpk;dsimp only)|refine zG (d:=some 90) (E:=cZ) (M:=M) (l:=t.outs) rfl (SlR.ext h21 (by exact fx)) ?_|refine go1 ?_|refine zg λ_ _=>?_|refine zi λ_ _=>?_)
 refine zL (x:=.tmp 91) (p:=((k:Nat):Int)<((t.outs.length:Nat):Int)) rfl (fun h9=>?_) (fun h9=>?_)
 ·have hkl:k<t.outs.length:=by omega
  clear x2 x3 hvm
  repeat' (first|refine aD (d:=some 98) (.int .u32 (k:Nat)) rfl (congrArg (fun n=>some (Value.int .u32 n)) (by rw [wrap32];omega)) ?_|refine bT (d:=some 99) (cs:=(⟨idT t,(k:Nat)⟩:Pt).cs) rfl ?_|(refine aM (d:=some 103) (E:=cZ) (M:=M) rfl rfl (n:=k) (l:=t.outs) (SlR.ext h21 (by exact fx)) rfl hkl (fun ad cs r4 he=>?_);obtain ⟨rfl, -⟩:=he)|refine bT (d:=some 106) (cs:=(outC t.outs[k] h).cs) rfl ?_|(refine zC (d:=some 107) rfl (aLo ⟨idT t,(k:Nat)⟩ (outC t.outs[k] h) _ (SlE.ext (w:=w4) (by exact fx) hvk) (by omega) hgk.mon) ?_;rintro _ w5 ⟨vl,rfl,hvl,hbl,x5⟩)|refine zN (x:=.tmp 111) (p:=aS mk ⟨idT t,(k:Nat)⟩ (outC t.outs[k] h)=0) rfl (fun h6=>?_) (fun h6=>?_)|refine go1 ?_|refine zg λ_ _=>?_|refine zi λ_ _=>?_)
  ·have e:=aG8 hkl hpk h6
   exact aB rfl (fail ((x01' ()).trans (by exact fx)) (by rw [aJc hmay (by rw [e];exact h6),e]))
  ·have hlp:=aF2 mk ⟨idT t,(k:Nat)⟩ (outC t.outs[k] h) hgk.srt
   exact ⟨(k+1,vl,bZ mk ⟨idT t,(k:Nat)⟩ (outC t.outs[k] h)),⟨rfl,rfl,rfl,rfl,rfl,rfl,trivial⟩,⟨by exact fx,by simp only;omega,hvl,hgk.put _ _,by simp only;omega,hbk.trans hbl (Ext.size (Ext.trans (x01' ()) (by exact fx))),aF7 hkl hpk h6⟩,by simp only;omega⟩
 ·have e:=aHe (by omega) hpk
  have e2:=aN4 (i:=i) hmay (by rw [e])
  rw [e] at e2
  repeat' (first|refine go1 ?_|refine zg λ_ _=>?_|refine zi λ_ _=>?_)
  exact aB rfl ⟨vk,by unfold aOh;rw [e2];rfl,by rw [e2];exact hvk,by rw [e2];exact hbk,(x01' ()).trans (by exact fx)⟩
end Go.Proofs.YtgloknkcfchnlabGreatDoor
end
namespace Go.Proofs.YtgloknkcfchnlabGreatDoor
section
open Go Go.K
attribute [local irreducible] aG aK aU KOp.wp K.Spec u32 leS vnS str aN aJ aO bH idT aV inE gY gL fW cG cS
set_option maxHeartbeats 4000000 in
theorem aGz {M:List Nat} {lv v:Value} {txs:List Tx} {l:List En} (h:Int) (w:World) (hv:SlE bE w lv l) (hg:CG l) (hsc:SC l) (hx:SlR txR M w v txs) (hs:∀t∈txs,t.Sm) (hn:l.length+cN txs≤80000) (hk0:txs.length≤1000):
  K.Spec Tryz.prog F.kedgeref12_Apply [lv,v,.int .i64 h] w fun r w'=>∃vl,r=.tuple #[vl,.int .i64 (aP l txs h).2.1,.int .i64 (aP l txs h).2.2.1,.int .i64 (aP l txs h).2.2.2]∧SlE bE w' vl (aP l txs h).1∧kX lv vl l (aP l txs h).1 w.heap.size∧Ext w w':=by
 refine wI rfl ?_
 unfold mS
 refine oy ?_
 by_cases hr:0≤h∧h≤1000000
 ·have eA:aP l txs h=jC l h 0 txs l:=by unfold aP;rw [if_neg (by omega)]
  rw [eA]
  repeat' (first|refine aD (d:=some 15) (.bool false) rfl (congrArg (fun b=>some (Value.bool b)) (dFa (by omega))) ?_|refine aD (d:=some 18) (.bool false) rfl (congrArg (fun b=>some (Value.bool b)) (dFa (by omega))) ?_|(refine aL (fun (p:Nat × Value × List En) w'=>Ext w w'∧p.1≤txs.length∧SlE bE w' p.2.1 p.2.2∧CG p.2.2∧SC p.2.2∧tW l h txs p.1 p.2.2∧p.2.2.length≤l.length+cN (txs.take p.1)∧kX lv p.2.1 l p.2.2 w.heap.size) (fun p=> [(0,lv),(1,v),(2,.int .i64 h),(10,p.2.1),(11,.int .i64 (p.1:Nat))]) (fun p=>txs.length - p.1) (0,lv,l) ⟨rfl,rfl,rfl,rfl,rfl,trivial⟩ ⟨Ext.refl _,by simp,hv,hg,hsc,wK,by simp,.inl ⟨rfl,rfl⟩⟩ ?_;rintro ⟨k,mv,m⟩ ρ w3 ⟨x3,hk,hm3,g3,sc3,hok,hml,hnw⟩;simp only at hk hm3 g3 sc3 hok hml hnw;dsimp only)|refine zG (d:=some 24) (E:=txR) (M:=M) (l:=txs) rfl (SlR.ext hx (by exact fx)) ?_|refine zL (x:=.tmp 25) (p:=((k:Nat):Int)<((txs.length:Nat):Int)) rfl (fun h6=>?_) (fun h6=>?_)|refine go1 ?_|refine zg λ_ _=>?_|refine zi λ_ _=>?_)
  ·have hkl:k<txs.length:=by omega
   have hst:=hs _ (gMe hkl)
   have ho:=aN8 hkl
   have ho2:=aN9 txs (k+1)
   have hol:=pX g3 txs[k] k h
   repeat (first|(refine aM (d:=some 32) (E:=txR) (M:=M) rfl rfl (n:=k) (l:=txs) (SlR.ext hx (by exact fx)) rfl hkl (fun ad cs r4 he=>?_);obtain ⟨iv,ov,rfl,p1,p2,p3⟩:=id he)|refine go1 ?_|refine zg λ_ _=>?_|refine zi λ_ _=>?_)
   refine zC (d:=some 36) rfl (wG (M:=M) (cs:=aT txs[k] iv ov) (t:=txs[k]) (l:=m) k h _ (by omega) hm3 g3 sc3 he hst (by omega)) ?_
   rintro _ w4 ⟨vl,rfl,hvl,hn4,x4⟩
   unfold aOh
   by_cases h0:(cG m txs[k] k h).2.1=0
   ·rw [h0]
    repeat (first|refine go1 ?_|refine zg λ_ _=>?_|refine zi λ_ _=>?_)
    exact ⟨(k+1,vl,(cG m txs[k] k h).1),⟨rfl,rfl,rfl,rfl,rfl,trivial⟩,⟨x3.trans x4,by simp only;omega,hvl,jY g3 _ _ _,uH g3 sc3 _ _ _,wU hkl hok h0,by simp only;omega,hnw.trans hn4 x3.size⟩,by simp only;omega⟩
   ·have eR:=aBm hkl hok h0
    rw [eR]
    repeat (first|refine aD (d:=some 41) (.bool true) rfl (congrArg (fun b=>some (Value.bool (!b))) (dFa h0)) ?_|refine go1 ?_|refine zg λ_ _=>?_|refine zi λ_ _=>?_)
    exact aB rfl ⟨lv,rfl,hv.ext (x3.trans x4),.inl ⟨rfl,rfl⟩,x3.trans x4⟩
  ·have ek:txs.length≤k:=by omega
   have eR:=aB2 ek hok
   rw [eR]
   repeat (first|refine go1 ?_|refine zg λ_ _=>?_|refine zi λ_ _=>?_)
   exact aB rfl ⟨mv,rfl,hm3,hnw,x3⟩
 ·have eA:aP l txs h=(l,3, -1, -1):=by unfold aP;rw [if_pos (by omega)]
  rw [eA]
  repeat' (first|refine zJ (t:=16) (p:=h<0) rfl (fun hh=>?_) (fun hh=>?_)|refine zL (x:=.tmp 19) rfl (fun _=>?_) (fun h=>absurd (by omega) h)|refine go1 ?_|refine zg λ_ _=>?_|refine zi λ_ _=>?_)
  all_goals exact aB rfl ⟨lv,rfl,hv,.inl ⟨rfl,rfl⟩,Ext.refl _⟩
theorem rD {M:List Nat} {lv v:Value} {txs:List Tx} {l:List En} (h:Int) (w:World) (hv:SlE bE w lv l) (hg:CG l) (hsc:SC l) (hx:SlR txR M w v txs) (hs:∀t∈txs,t.Sm) (hn:l.length+cN txs≤80000) (hk0:txs.length≤1000):
  K.Spec Tryz.prog F.kedgeref12_Apply [lv,v,.int .i64 h] w fun r w'=>∃vl,r=.tuple #[vl,.int .i64 (aP l txs h).2.1,.int .i64 (aP l txs h).2.2.1,.int .i64 (aP l txs h).2.2.2]∧SlE bE w' vl (aP l txs h).1∧Ext w w':=
 fT (aGz h w hv hg hsc hx hs hn hk0) fun _ _ ⟨vl,h1,h2,_,h4⟩=>⟨vl,h1,h2,h4⟩
end
end Go.Proofs.YtgloknkcfchnlabGreatDoor
section
namespace Go.K
open Go Go.Proofs.YtgloknkcfchnlabGreatDoor
def yR (b:List Tx):Prop:=b.length≤4∧cN b≤12∧∀t∈b,t.Sm
theorem aQo {l0:List En} {h:Int}:∀(txs:List Tx) (i:Nat) (m:List En),(jC l0 h i txs m).2.1=0→(jC l0 h i txs m).2.2.1= -1
 | [],_,_,_=>rfl
 |t::ts,i,m,h0=>by
  unfold jC at h0 ⊢
  split
  ·rename_i hc
   rw [if_pos hc] at h0
   exact absurd h0 hc
  ·rename_i hc
   rw [if_neg hc] at h0
   exact aQo ts (i+1) _ h0
theorem aBs {l:List En} {txs:List Tx} {b:Int} (h0:(aP l txs b).2.1=0):(aP l txs b).2.2.1= -1:=by
 unfold aP at h0 ⊢
 split
 ·rfl
 ·rename_i hc
  rw [if_neg hc] at h0
  exact aQo _ _ _ h0
theorem sJ {bs:List (List Tx)} (h:∀b∈bs,yR b) (k:Nat):(bU bs k).length≤12*k:=xM (fun b hb=>(h b hb).2.1) k
end Go.K
namespace Go.Proofs.YtgloknkcfchnlabGreatDoor
open Go Go.K
attribute [local irreducible] aG aK aU KOp.wp K.Spec u32 leS vnS str aN aJ aO bH idT aV aP
set_option maxHeartbeats 4000000 in
theorem rC {M:List Nat} {bv:Value} {bs:List (List Tx)} (top:Int) (w:World) (hv:SlR (fD txR) M w bv bs) (hb:∀b∈bs,yR b) (hl:bs.length≤1000):
  K.Spec Tryz.prog F.kedgeref13_Coins [.agg #[bv,.int .i64 top]] w fun r w'=>SlE bE w' r (aY bs)∧Ext w w':=by
 obtain ⟨q1,q2,ebv⟩:=hv.form
 refine xG rfl ?_
 unfold lY
 refine oy ?_
 repeat' (first|refine zD (d:=some 1) (cs:= [bv,.int .i64 top]) rfl (by rw [ebv];rfl) (fun b1 w1 x1 a1 (r1:Row w1 ⟨b1,0,none⟩ [bv,.int .i64 top]) hb1=>?_)|(refine aL (fun (p:Nat × Value) w'=>Ext w1 w'∧p.1≤bs.length∧SlE bE w' p.2 (bU bs p.1)) (fun p=> [(1,.pointer (some ⟨b1,0,none⟩)),(3,p.2),(4,.int .i64 (p.1:Nat))]) (fun p=>bs.length - p.1) (0,.slice none 0 0) ⟨rfl,rfl,rfl,trivial⟩ ⟨Ext.refl _,by simp,SlE.nil _⟩ ?_;rintro ⟨k,lv⟩ ρ w3 ⟨x3,hk,hlv⟩;simp only at hk hlv;dsimp only)|refine zG (d:=some 8) (E:=fD txR) (M:=M) (l:=bs) rfl (SlR.ext hv (by exact fx)) ?_|refine zL (x:=.tmp 9) (p:=((k:Nat):Int)<((bs.length:Nat):Int)) rfl (fun h6=>?_) (fun h6=>?_)|refine go1 ?_|refine zg λ_ _=>?_|refine zi λ_ _=>?_)
 ·have hkl:k<bs.length:=by omega
  obtain ⟨hb1,hb2,hb3⟩:=hb _ (gMe hkl)
  have hcb:=sJ hb k
  have ek:((k:Nat):Int)+1=((k+1:Nat):Int):=by omega
  have eg:bs.getD k []=bs[k]:=by rw [List.getD_eq_getElem?_getD,List.getElem?_eq_getElem hkl];rfl
  repeat (first|(refine aM (d:=some 17) (E:=fD txR) (M:=M) rfl rfl (n:=k) (l:=bs) (SlR.ext hv (by exact fx)) rfl hkl (fun ad cs r4 he=>?_);obtain ⟨xv,rfl,hxv⟩:=he)|refine go1 ?_|refine zg λ_ _=>?_|refine zi λ_ _=>?_)
  rw [ek]
  refine zC (d:=some 21) rfl (rD (M:=M) (l:=bU bs k) (txs:=bs[k]) ((k+1:Nat):Int) _ hlv (fU bs k) (qL bs k) hxv hb3 (by omega) (by omega)) ?_
  rintro _ w4 ⟨vl,rfl,hvl,x4⟩
  repeat (first|refine go1 ?_|refine zg λ_ _=>?_|refine zi λ_ _=>?_)
  exact ⟨(k+1,vl),⟨rfl,rfl,rfl,trivial⟩,⟨x3.trans x4,by simp only;omega,by show SlE bE w4 vl (bU bs (k+1));unfold bU;rw [eg];exact hvl⟩,by simp only;omega⟩
 ·have ek:k=bs.length:=by omega
  subst ek
  repeat (first|refine go1 ?_|refine zg λ_ _=>?_|refine zi λ_ _=>?_)
  exact aB rfl ⟨hlv,x1.trans x3⟩
end Go.Proofs.YtgloknkcfchnlabGreatDoor
end
namespace Go.Proofs.YtgloknkcfchnlabGreatDoor
section
open Go Go.K
attribute [local irreducible] aG aK aU KOp.wp K.Spec u32 leS vnS str aN aJ aO bH idT aV inE gY gL fW cG cS
theorem aF1:∀{txs:List Tx},(∀t∈txs,MkOk t)→cN txs≤3*txs.length
 | [],_=>by simp [cN]
 |t::ts,h=>by
  have h1:=aF1 (txs:=ts) fun t ht=>h t (by simp [ht])
  have h2:=(h t (by simp)).outs
  have e:cN (t::ts)=t.outs.length+cN ts:=by simp [cN]
  rw [e,List.length_cons];omega
theorem yR.of_mk {txs:List Tx} (h:∀t∈txs,MkOk t) (hl:txs.length≤4):yR txs:=⟨hl,by have:=aF1 h;omega,fun t ht=>(h t ht).sm⟩
theorem SlE.offO {α:Type} {F:Enc α} {w w':World} {v:Value} {l:List α} {L:List Nat} (h:SlE F w v l) (c:Chg L w w') (ho:0<l.length→∀y∈aH v,y∉L):SlE F w' v l:=by
 by_cases hp:0<l.length
 ·exact h.chg c fun a m k hv=>ho hp a.block (by rw [hv];simp [aH])
 ·have hl:l= []:=List.length_eq_zero_iff.1 (by omega)
  subst hl
  exact h.anyw
set_option maxHeartbeats 8000000 in
theorem aMw {M:List Nat} {lv sv:Value} {l:List En} {zs:List BSm} (h:Int) (w:World) (hv:SlE bE w lv l) (hg:CG l) (hsc:SC l) (hz:SlR pA M w sv zs) (hn:l.length≤70000) (hh:0≤h∧h≤1000000) (hM:∀b∈M,b<w.heap.size):
  K.Spec Tryz.prog F.kedgelaw13_made [lv,sv,.int .i64 h] w fun r w'=>∃txs,bD txR T.api_Tx w.heap.size M w' r txs∧txs.length≤4∧(∀t∈txs,MkOk t)∧Ext w w':=by
 refine aA1 rfl ?_
 unfold nJ
 refine oy ?_
 repeat (first|refine zG (d:=some 15) (E:=pA) (M:=M) (l:=zs) rfl hz ?_|refine aGc (d:=some 17) (E:=pA) (n:=min zs.length 4) rfl rfl (by omega) hz (by omega) rfl (fun v' hv'=>?_)|refine zG (d:=some 18) (E:=pA) (M:=M) (l:=zs.take (min zs.length 4)) rfl hv' ?_|refine go1 ?_|refine zg λ_ _=>?_|refine zi λ_ _=>?_)
 have hSl:(zs.take (min zs.length 4)).length≤4:=by rw [List.length_take];omega
 generalize zs.take (min zs.length 4)=S at*
 clear hz
 refine aL (fun (p:Nat × Value × List Tx × Value × List En) w'=>Ext w w'∧p.1≤S.length∧bD txR T.api_Tx w.heap.size M w' p.2.1 p.2.2.1∧p.2.2.1.length=p.1∧(∀t∈p.2.2.1,MkOk t)∧SlE bE w' p.2.2.2.1 p.2.2.2.2∧CG p.2.2.2.2∧SC p.2.2.2.2∧p.2.2.2.2.length≤l.length+3*p.1∧(0<p.2.2.2.2.length→∀y∈aH p.2.2.2.1,y∉aH p.2.1)) (fun p=> [(2,.int .i64 h),(7,p.2.1),(8,p.2.2.2.1),(17,v'),(18,.int .i64 (S.length:Nat)),(19,.int .i64 (p.1:Nat))]) (fun p=>S.length - p.1) (0,.slice none 0 0, [],lv,l) ⟨rfl,rfl,rfl,rfl,rfl,rfl,trivial⟩ ⟨Ext.refl _,by simp,bD.nil _ _ _ _,rfl,by simp,hv,hg,hsc,by simp,fun _ y _ hm=>by simp [aH] at hm⟩ ?_
 rintro ⟨k,vo,txs,vm,m⟩ ρ w1 ⟨x1,hk,o1,htl,hmk,hm1,g1,sc1,hml,hoff⟩
 simp only at hk o1 htl hmk hm1 g1 sc1 hml hoff
 dsimp only
 have s1:=x1.size
 repeat (first|refine go1 ?_|refine zg λ_ _=>?_|refine zi λ_ _=>?_)
 refine zL (x:=.tmp 20) (p:=((k:Nat):Int)<((S.length:Nat):Int)) rfl (fun h5=>?_) (fun h5=>?_)
 ·have hkl:k<S.length:=by omega
  have hM1:∀b∈M,b<w1.heap.size:=fun b hb=>nLt (hM b hb) s1
  have o1b:=o1.base
  have o1l:=o1.lt
  have hM1':∀b∈aH vo++M,b<w1.heap.size:=fun b hb=>by
   rcases List.mem_append.1 hb with hb|hb
   ·exact o1l b hb
   ·exact hM1 b hb
  have hvz:SlR pA (aH vo++M) w1 v' S:=hv'.step x1 (by simp) (aDv o1b)
  repeat (first|(refine aM (d:=some 22) (E:=pA) (M:=aH vo++M) rfl rfl (n:=k) (l:=S) hvz rfl hkl (fun ad cs r4 he=>?_);obtain ⟨fv,rfl,hfr, -⟩:=id he;obtain ⟨q1,q2,efv⟩:=hfr.form)|refine uX (d':=10) (e:=9) (fun _=>rfl) (fun _=>rfl) rfl rfl rfl (by rw [efv];rfl) (fun b10 w2 x2 a2 (r2:Row w2 ⟨b10,0,none⟩ (mL S[k] fv)) hb2=>?_)|refine go1 ?_|refine zg λ_ _=>?_|refine zi λ_ _=>?_)
  have s2:=x2.size
  refine zC (d:=some 27) rfl (aCy (M:=aH vo++M) (cs:=mL S[k] fv) (l:=m) (z:=S[k]) h _ (hm1.ext x2) g1 sc1 (R.ext he x2) (by omega) hh (fun b hb=>nLt (hM1' b hb) s2)) ?_
  rintro _ w3 ⟨cs',t,rfl,t3,mk3,x3⟩
  have ht3:=t3.rel (fun b hb=>nLt (hM1' b hb) s2)
  have ones:=txR.one ht3
  have hl4:=txR.len ht3
  obtain ⟨c0,c1,c2,c3,rfl⟩:∃c0 c1 c2 c3,cs'= [c0,c1,c2,c3]:=by
   match cs',hl4 with
   | [c0,c1,c2,c3],_=>exact ⟨c0,c1,c2,c3,rfl⟩
  repeat (first|refine zE (d':=11) (fun _=>rfl) rfl rfl (List.all_eq_true.2 ones) (fun b11 w4 x4 a4 (r4:Row w4 ⟨b11,0,none⟩ [c0,c1,c2,c3]) hb4=>?_)|refine zI (d:=some 30) (cs:= [c0,c1,c2,c3]) rfl (fun b30 w5 x5 a5 hb5=>?_)|refine go1 ?_|refine zg λ_ _=>?_|refine zi λ_ _=>?_)
  have x35:Ext w3 w5:=x4.trans x5
  have x15:Ext w1 w5:=(x2.trans x3).trans x35
  refine fM (d:=some 31) (E:=txR) (M:=M) (v:=vo) (cs:= [c0,c1,c2,c3]) (a:=t) rfl rfl (o1.ext x15) (nTr s1 x15.size) rfl rfl a5 (R.ext ht3 x35) (by omega) (fun v6 w6 o6 c6 hb6=>?_)
  have s36:=x3.size
  have s45:=x4.size
  have s56:=x5.size
  have s66:=c6.size
  have ht6:txR.rel (aH vo++M) w6 [c0,c1,c2,c3] t:=txR.step (R.ext ht3 x35) c6 (fun y hy=>.inl (by simp [hy])) (fun y hy=>.inl hy)
  have r6:=Row.chg c6 (Row.ext x5 r4) (fun h=>by have:=o1l _ h;simp only at this;omega)
  have hm6:SlE bE w6 vm m:=SlE.offO (hm1.ext x15) c6 hoff
  have x06:Ext w w6:=(Ext.chg (x1.trans x15) c6).mono (fun y hy=>.inr (o1b y hy))
  have hol:=mk3.outs
  repeat (first|refine go1 ?_|refine zg λ_ _=>?_|refine zi λ_ _=>?_)
  refine zC (d:=some 37) rfl (wG (M:=aH vo++M) (cs:= [c0,c1,c2,c3]) (t:=t) (l:=m) k h _ (by omega) hm6 g1 sc1 ht6 mk3.sm (by omega)) ?_
  rintro _ w7 ⟨vl,rfl,hvl,hnew,x7⟩
  unfold aOh
  have hlo:=pX g1 t k h
  repeat (first|refine go1 ?_|refine zg λ_ _=>?_|refine zi λ_ _=>?_)
  refine ⟨(k+1,v6,txs++ [t],vl,(cG m t k h).1),⟨rfl,rfl,rfl,rfl,rfl,rfl,trivial⟩,⟨x06.trans x7,by simp only;omega,o6.ext x7,by simp [htl],fun y hy=>?_,hvl,jY g1 _ _ _,uH g1 sc1 _ _ _,by simp only;omega,fun hp y hy hv6=>?_⟩,by simp only;omega⟩
  ·rcases List.mem_append.1 hy with hy|hy
   ·exact hmk y hy
   ·simp at hy;subst hy;exact mk3
  ·rcases hnew with ⟨rfl,e⟩|hf
   ·simp only [e] at hp
    have hlt:=SlE.blk_lt hm1 hp y hy
    rcases hb6 y hv6 with h|h
    ·exact hoff hp y hy h
    ·have:=x15.size;omega
   ·have:=hf y hy
    have:=o6.lt y hv6
    omega
 ·repeat (first|refine go1 ?_|refine zg λ_ _=>?_|refine zi λ_ _=>?_)
  exact aB rfl ⟨txs,o1,by omega,hmk,x1⟩
end
end Go.Proofs.YtgloknkcfchnlabGreatDoor
