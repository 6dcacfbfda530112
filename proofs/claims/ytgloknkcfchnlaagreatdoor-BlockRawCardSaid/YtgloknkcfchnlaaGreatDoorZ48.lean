/- Contracts: the fee of a transaction, by the document. Contra -/
import Derived.Test.YtgloknkcfchnlaaGreatDoorZ44
import Derived.Test.YtgloknkcfchnlaaGreatDoorZ46
import Derived.Test.YtgloknkcfchnlaaGreatDoorZ47
set_option linter.unusedVariables false
set_option linter.unusedSimpArgs false
namespace Go.Proofs.YtgloknkcfchnlaaGreatDoor
section
open Go Go.K
attribute [local irreducible] aD aK aV KOp.wp K.Spec u32 leS vnS str aN bM bE bU eI hY cC eN eS aI aO bI idT aY inE
theorem aS6 (V:List En) (q:Pt):(∃n,∃h:n<V.length,dY V q=(n:Nat)∧aT V q=some V[n].2)∨(dY V q= -1∧aT V q=none):=by
 unfold dY
 cases hi:cF V q with
 |none=>exact .inr ⟨rfl,oF hi⟩
 |some n=>exact .inl ⟨n,aDs hi,rfl,oA hi (aDs hi)⟩
theorem aLx {f:Pt→Option Cn} {t:Tx} {h:Int} {x:TIn} (e:f x.p=none):inE f t h x=8:=by unfold inE;rw [e]
theorem aMq {f:Pt→Option Cn} {t:Tx} {h:Int} {x:TIn} {c:Cn} (e:f x.p=some c) (h1:eN c.s t x≠0):inE f t h x=eN c.s t x:=by unfold inE;rw [e];simp only;rw [if_pos h1]
theorem aL9 {f:Pt→Option Cn} {t:Tx} {h:Int} {x:TIn} {c:Cn} (e:f x.p=some c) (h1:eN c.s t x=0) (h2:eS t x c.h h=false):inE f t h x=10:=by unfold inE;rw [e];simp only;rw [if_neg (by rw [h1];decide),h2];rfl
theorem aW9 {f:Pt→Option Cn} {t:Tx} {h:Int} {x:TIn} {c:Cn} (e:f x.p=some c) (h1:eN c.s t x=0) (h2:eS t x c.h h=true):inE f t h x=0:=by unfold inE;rw [e];simp only;rw [if_neg (by rw [h1];decide),h2];rfl
theorem aTi {f:Pt→Option Cn} {x:TIn} {c:Cn} (e:f x.p=some c):inV f x=c.v:=by unfold inV;rw [e];rfl
def xF (f:Pt→Option Cn) (t:Tx) (h:Int):Value:=.tuple #[.int .i64 (fR f t h).1,.int .i64 (fR f t h).2.1,.int .i64 (fR f t h).2.2]
set_option maxHeartbeats 4000000 in
theorem aG1 {M:List Nat} {v:Value} {cs:List Value} {t:Tx} {l:List En} (h:Int) (w:World) (hv:SlE aU w v l) (ht:txR.rel M w cs t) (hs:t.Sm) (hn:l.length≤100000) (hl:∀e∈l,e.2.s.size≤1000000):
  K.Spec Tryz.prog F.kedgeref11_Fee [v,.agg cs.toArray,.int .i64 h] w fun r w'=>r=xF (aT l) t h∧Ext w w':=by
 have ht0:=ht
 have hin:=hs.ins
 obtain ⟨iv,ov,rfl,h1,h2,h3,h4⟩:=ht
 by_cases hc:aI t=0
 ·obtain ⟨hpos,hbase⟩:=aM9 hc
  have hw:=fun {i} (hi:i<t.ins.length)=>aJ9 hc hi
  cases hg:aO t with
  |true=>
   rw [hg] at hbase
   have e:xF (aT l) t h=.tuple #[.int .i64 0,.int .i64 4,.int .i64 (-1)]:=by unfold xF;rw [aBa hc hg]
   rw [e]
   refine jU rfl ?_
   unfold gK
   refine oy ?_
   repeat' (first|refine zD rfl rfl (fun bp wp xp ap (rp:Row wp ⟨bp,0,none⟩ (aZ t iv ov)) hp0=>?_)|(refine zC (d:=some 21) rfl (kF (M:=M) (t:=t) (cs:=aZ t iv ov) _ (R.ext ht0 (by exact fx)) hs) ?_;rintro _ w2 ⟨rfl,x2⟩;rw [hc])|(refine aR (d:=some 27) (E:=inR) (M:=M) rfl rfl (n:=0) (l:=t.ins) (SlR.ext h1 (by exact fx)) rfl hpos (fun ad cs r4 he=>?_);obtain ⟨wv,rfl,hwv,hp5,hp6⟩:=he)|(refine zC (d:=some 30) rfl (qW t.ins[0].p _) ?_;rintro _ w3 ⟨rfl,x3⟩;rw [hbase])|refine go1 ?_|refine zg λ_ _=>?_|refine zi λ_ _=>?_)
   exact aB rfl ⟨rfl,by exact fx⟩
  |false=>
   rw [hg] at hbase
   refine jU rfl ?_
   unfold gK
   refine oy ?_
   repeat' (first|refine zD (d:=some 4) rfl rfl (fun bp wp xp ap (rp:Row wp ⟨bp,0,none⟩ (aZ t iv ov)) hp0=>?_)|(refine zC (d:=some 21) rfl (kF (M:=M) (t:=t) (cs:=aZ t iv ov) _ (R.ext ht0 (by exact fx)) hs) ?_;rintro _ w2 ⟨rfl,x2⟩;rw [hc])|(refine aR (d:=some 27) (E:=inR) (M:=M) rfl rfl (n:=0) (l:=t.ins) (SlR.ext h1 (by exact fx)) rfl hpos (fun ad cs r4 he=>?_);obtain ⟨wv,rfl,hwv,hp5,hp6⟩:=he)|(refine zC (d:=some 30) rfl (qW t.ins[0].p _) ?_;rintro _ w3 ⟨rfl,x3⟩;rw [hbase])|(refine aM (fun (p:Nat × Value) w'=>Ext wp w'∧p.1≤t.ins.length∧Own zZ T.int wp.heap.size w' p.2 ((t.ins.take p.1).map (inV (aT l)))∧∀j,j<p.1→∀hj:j<t.ins.length,inE (aT l) t h t.ins[j]=0) (fun p=> [(0,v),(2,.int .i64 h),(4,.pointer (some ⟨bp,0,none⟩)),(11,p.2),(12,.int .i64 (p.1:Nat))]) (fun p=>t.ins.length - p.1) (0,.slice none 0 0) ⟨rfl,rfl,rfl,rfl,rfl,trivial⟩ ⟨by exact fx,by simp,Own.nil _ _ _,fun j hj=>absurd hj (by simp)⟩ ?_;rintro ⟨i,v11⟩ ρ w4 ⟨x4,hi,ho,hk⟩;simp only at hi ho hk;dsimp only)|refine zG (d:=some 35) (E:=inR) (M:=M) (l:=t.ins) rfl (SlR.ext h1 (by exact fx)) ?_|refine zL (x:=.tmp 36) (p:=((i:Nat):Int)<((t.ins.length:Nat):Int)) rfl (fun h9=>?_) (fun h9=>?_)|refine go1 ?_|refine zg λ_ _=>?_|refine zi λ_ _=>?_)
   ·have hil:i<t.ins.length:=by omega
    have hwi:=hw hil
    have stop:inE (aT l) t h t.ins[i]≠0→xF (aT l) t h=.tuple #[.int .i64 0,.int .i64 (inE (aT l) t h t.ins[i]),.int .i64 (i:Nat)]:=fun he=>by unfold xF;rw [aN8 hc hg hil hk he]
    have rp4:Row w4 ⟨bp,0,none⟩ (aZ t iv ov):=rp.ext x4
    have x04:Ext w w4:=by exact fx
    have ht4:=R.ext ht0 x04
    have h14:=h1.ext x04
    have hv4:=hv.ext x04
    have x04':Unit→Ext w w4:=fun _=>x04
    have x4':Unit→Ext wp w4:=fun _=>x4
    clear x04 x4 xp x2 x3
    repeat' (first|(refine aR (d:=some 43) (E:=inR) (M:=M) rfl rfl (n:=i) (l:=t.ins) (SlR.ext h14 (by exact fx)) rfl hil (fun ad cs r4 he=>?_);obtain ⟨wv2,rfl,hwv2,hp52,hp62⟩:=he)|(refine zC (d:=some 46) rfl (nO t.ins[i].p _ (SlE.ext (w:=w4) (by exact fx) hv4) hn) ?_;rintro _ w5 ⟨rfl,x5⟩)|refine go1 ?_|refine zg λ_ _=>?_|refine zi λ_ _=>?_)
    rcases aS6 l t.ins[i].p with ⟨n,hnl,e1,e2⟩|⟨e1,e2⟩
    ·rw [e1]
     obtain ⟨c,hcc⟩:∃c,c=l[n].2:=⟨_,rfl⟩
     have hcs:c.s.size≤1000000:=by rw [hcc];exact hl _ (gMe hnl)
     rw [←hcc] at e2
     by_cases ho0:eN c.s t t.ins[i]=0
     ·cases hrp:eS t t.ins[i] c.h h with
      |false=>
       rw [stop (by rw [aL9 e2 ho0 hrp];decide),aL9 e2 ho0 hrp]
       repeat' (first|refine zL (x:=.tmp 48) rfl (fun h=>absurd h (by omega)) (fun _=>?_)|refine aL (d:=some 52) (E:=aU) rfl rfl (n:=n) (l:=l) (SlE.ext (w:=w4) (by exact fx) hv4) rfl hnl (fun ad52 r52=>?_)|(refine zE (d':=14) (fun _=>rfl) rfl rfl (by rfl) (fun b7 w7 x7 a7 (r7:Row w7 ⟨b7,0,none⟩ l[n].2.cs) hb7=>?_);rw [←hcc] at r7)|(refine zC (d:=some 60) rfl (wE (M:=M) (t:=t) (cs:=aZ t iv ov) c.s hcs i hil hin hwi _ (R.ext ht4 (by exact fx))) ?_;rintro _ w8 ⟨rfl,x8⟩;rw [ho0])|(refine zC (d:=some 70) rfl (aFe (M:=M) (t:=t) (cs:=aZ t iv ov) i hil hin c.h h _ (R.ext ht4 (by exact fx))) ?_;rintro _ w9 ⟨rfl,x9⟩;rw [hrp])|refine go1 ?_|refine zg λ_ _=>?_|refine zi λ_ _=>?_)
       exact aB rfl ⟨rfl,(x04' ()).trans (by exact fx)⟩
      |true=>
       have hok:=aW9 (h:=h) e2 ho0 hrp
       have hiv:=aTi e2
       repeat' (first|refine zL (x:=.tmp 48) rfl (fun h=>absurd h (by omega)) (fun _=>?_)|refine aL (d:=some 52) (E:=aU) rfl rfl (n:=n) (l:=l) (SlE.ext (w:=w4) (by exact fx) hv4) rfl hnl (fun ad52 r52=>?_)|(refine zE (d':=14) (fun _=>rfl) rfl rfl (by rfl) (fun b7 w7 x7 a7 (r7:Row w7 ⟨b7,0,none⟩ l[n].2.cs) hb7=>?_);rw [←hcc] at r7)|(refine zC (d:=some 60) rfl (wE (M:=M) (t:=t) (cs:=aZ t iv ov) c.s hcs i hil hin hwi _ (R.ext ht4 (by exact fx))) ?_;rintro _ w8 ⟨rfl,x8⟩;rw [ho0])|(refine zC (d:=some 70) rfl (aFe (M:=M) (t:=t) (cs:=aZ t iv ov) i hil hin c.h h _ (R.ext ht4 (by exact fx))) ?_;rintro _ w9 ⟨rfl,x9⟩;rw [hrp])|refine zI (d:=some 78) (cs:= [.int .i64 c.v]) rfl (fun b8 w8 x8 a8 hb8=>?_)|refine bK (d:=some 79) (E:=zZ) (v:=v11) (l2:= [c.v]) rfl (ho.ext (by exact fx)) (nTr (Ext.size (x4' ())) (Ext.size (w:=w4) (by exact fx))) rfl rfl (dG a8 rfl) rfl rfl (by simp;omega) (fun v10 w10 o10 c10=>?_)|refine go1 ?_|refine zg λ_ _=>?_|refine zi λ_ _=>?_)
       have x410:=Ext.chg ((x4' ()).trans (show Ext w4 _ by exact fx)) c10
       exact ⟨(i+1,v10),⟨rfl,rfl,rfl,rfl,rfl,trivial⟩,⟨x410.mono (fun b hb=>.inr (ho.base b hb)),by simp only;omega,by simp only;rw [List.take_succ_eq_append_getElem hil,List.map_append,List.map_cons,List.map_nil,hiv];exact o10,fun j hj hjl=>by
        simp only at hj
        by_cases e:j=i
        ·subst e;exact hok
        ·exact hk j (by omega) hjl⟩,by simp only;omega⟩
     ·rw [stop (by rw [aMq e2 ho0];exact ho0),aMq e2 ho0]
      repeat' (first|refine zL (x:=.tmp 48) rfl (fun h=>absurd h (by omega)) (fun _=>?_)|refine aL (d:=some 52) (E:=aU) rfl rfl (n:=n) (l:=l) (SlE.ext (w:=w4) (by exact fx) hv4) rfl hnl (fun ad52 r52=>?_)|(refine zE (d':=14) (fun _=>rfl) rfl rfl (by rfl) (fun b7 w7 x7 a7 (r7:Row w7 ⟨b7,0,none⟩ l[n].2.cs) hb7=>?_);rw [←hcc] at r7)|(refine zC (d:=some 60) rfl (wE (M:=M) (t:=t) (cs:=aZ t iv ov) c.s hcs i hil hin hwi _ (R.ext ht4 (by exact fx))) ?_;rintro _ w8 ⟨rfl,x8⟩)|refine zN (x:=.tmp 62) (p:=eN c.s t t.ins[i]=0) rfl (fun _=>?_) (fun h=>absurd h ho0)|refine go1 ?_|refine zg λ_ _=>?_|refine zi λ_ _=>?_)
      exact aB rfl ⟨rfl,(x04' ()).trans (by exact fx)⟩
    ·rw [e1,stop (by rw [aLx e2];decide),aLx e2]
     repeat' (first|refine go1 ?_|refine zg λ_ _=>?_|refine zi λ_ _=>?_)
     exact aB rfl ⟨rfl,(x04' ()).trans (by exact fx)⟩
   ·have ei:i=t.ins.length:=by omega
    subst ei
    rw [List.take_length] at ho
    have x04:Ext w w4:=by exact fx
    have ht4:=R.ext ht0 x04
    have rp4:Row w4 ⟨bp,0,none⟩ (aZ t iv ov):=rp.ext x4
    have hfa:=aI3 hc hg fun j hj=>hk j hj hj
    have hlen:((t.ins.map (inV (aT l))).length)≤1000000000000:=by simp;omega
    have x04':Unit→Ext w w4:=fun _=>x04
    clear x04 xp x2 x3 x4
    by_cases hsum:gT (t.ins.map (inV (aT l)))=0
    ·have hgood:=(cA _).1 (tW hsum)
     have hgv:=(cA _).1 (tW (aBr hc))
     rw [if_neg (by simpa using hsum)] at hfa
     by_cases hv8:dH (values t)>dH (t.ins.map (inV (aT l)))
     ·rw [if_pos hv8] at hfa
      rw [show xF (aT l) t h=.tuple #[.int .i64 0,.int .i64 12,.int .i64 (-1)] by unfold xF;rw [hfa]]
      repeat' (first|(refine zC (d:=some 82) rfl (tX (l:=t.ins.map (inV (aT l))) _ (SlE.ext (w:=w4) (by exact fx) ho.sl) hlen) ?_;rintro _ _ ⟨rfl,rfl⟩;rw [hsum])|(refine zC (d:=some 90) rfl (rY (M:=M) (t:=t) (cs:=aZ t iv ov) _ (R.ext ht4 (by exact fx)) hs) ?_;rintro _ w5 ⟨rfl,x5⟩)|refine zL (x:=.tmp 95) (p:=dH (values t)>dH (t.ins.map (inV (aT l)))) rfl (fun _=>?_) (fun h=>absurd hv8 h)|refine go1 ?_|refine zg λ_ _=>?_|refine zi λ_ _=>?_)
      exact aB rfl ⟨rfl,(x04' ()).trans (by exact fx)⟩
     ·rw [if_neg hv8] at hfa
      rw [show xF (aT l) t h=.tuple #[.int .i64 (dH (t.ins.map (inV (aT l))) - dH (values t)),.int .i64 0,.int .i64 (-1)] by unfold xF;rw [hfa]]
      repeat' (first|(refine zC (d:=some 82) rfl (tX (l:=t.ins.map (inV (aT l))) _ (SlE.ext (w:=w4) (by exact fx) ho.sl) hlen) ?_;rintro _ _ ⟨rfl,rfl⟩;rw [hsum])|(refine zC (d:=some 90) rfl (rY (M:=M) (t:=t) (cs:=aZ t iv ov) _ (R.ext ht4 (by exact fx)) hs) ?_;rintro _ w5 ⟨rfl,x5⟩)|refine zL (x:=.tmp 95) (p:=dH (values t)>dH (t.ins.map (inV (aT l)))) rfl (fun h=>absurd h hv8) (fun _=>?_)|refine go1 ?_|refine zg λ_ _=>?_|refine zi λ_ _=>?_)
      exact aB rfl ⟨rfl,(x04' ()).trans (by exact fx)⟩
    ·rw [if_pos hsum] at hfa
     rw [show xF (aT l) t h=.tuple #[.int .i64 0,.int .i64 (gT (t.ins.map (inV (aT l)))),.int .i64 (-1)] by unfold xF;rw [hfa]]
     repeat' (first|(refine zC (d:=some 82) rfl (tX (l:=t.ins.map (inV (aT l))) _ (SlE.ext (w:=w4) (by exact fx) ho.sl) hlen) ?_;rintro _ _ ⟨rfl,rfl⟩)|refine zN (x:=.tmp 86) (p:=gT (t.ins.map (inV (aT l)))=0) rfl (fun _=>?_) (fun h=>absurd h hsum)|refine go1 ?_|refine zg λ_ _=>?_|refine zi λ_ _=>?_)
     exact aB rfl ⟨rfl,(x04' ()).trans (by exact fx)⟩
 ·have e:xF (aT l) t h=.tuple #[.int .i64 0,.int .i64 (aI t),.int .i64 (-1)]:=by unfold xF;rw [aO8 hc]
  rw [e]
  refine jU rfl ?_
  unfold gK
  refine oy ?_
  repeat' (first|refine zD rfl rfl (fun bp wp xp ap (rp:Row wp ⟨bp,0,none⟩ (aZ t iv ov)) hp0=>?_)|(refine zC (d:=some 21) rfl (kF (M:=M) (t:=t) (cs:=aZ t iv ov) _ (R.ext ht0 (by exact fx)) hs) ?_;rintro _ w2 ⟨rfl,x2⟩)|refine zN (x:=.tmp 23) (p:=aI t=0) rfl (fun _=>?_) (fun h=>absurd h hc)|refine go1 ?_|refine zg λ_ _=>?_|refine zi λ_ _=>?_)
  exact aB rfl ⟨rfl,by exact fx⟩
end
end Go.Proofs.YtgloknkcfchnlaaGreatDoor
section
namespace Go.K
open Go Go.Proofs.YtgloknkcfchnlaaGreatDoor
end Go.K
namespace Go.Proofs.YtgloknkcfchnlaaGreatDoor
open Go Go.K
attribute [local irreducible] aD aK aV KOp.wp K.Spec u32 leS vnS str aN bM bE bU eI hY cC eN eS aI aO bI idT aY inE fR iB fD cW cI
theorem aTl:∀{l:List TIn} (h:0<l.length),l[0]=l.headD default
 |_::_,_=>rfl
def aQ2 (vl:Value) (l:List En) (t:Tx) (i:Nat) (h:Int):Value:=.tuple #[vl,.int .i64 (cW l t i h).2.1,.int .i64 (cW l t i h).2.2]
set_option maxHeartbeats 4000000 in
theorem aDp {M:List Nat} {v:Value} {cs:List Value} {t:Tx} {l:List En} (i:Nat) (h:Int) (w:World) (hi:i≤100000) (hv:SlE aU w v l) (hg:CG l) (hsc:SC l) (ht:txR.rel M w cs t) (hs:t.Sm) (hn:l.length+t.outs.length≤90000):
  K.Spec Tryz.prog F.kedgeref12_One [v,.agg cs.toArray,.int .i64 (i:Nat),.int .i64 h] w fun r w'=>∃vl,r=aQ2 vl l t i h∧SlE aU w' vl (cW l t i h).1∧kO v vl l (cW l t i h).1 w.heap.size∧Ext w w':=by
 have ht0:=ht
 have hin:=hs.ins
 have hout:=hs.outs
 have hl6:∀e∈l,e.2.s.size≤1000000:=fun e he=>by have:=(hsc e he).1;omega
 obtain ⟨iv,ov,rfl,h1,h2,h3,h4⟩:=ht
 have h41:=h4.1
 have h42:=h4.2
 have fail:∀{w':World} {c p:Int},Ext w w'→cW l t i h=(l,c,p)→∃vl,Value.tuple #[v,.int .i64 c,.int .i64 p]=aQ2 vl l t i h∧SlE aU w' vl (cW l t i h).1∧kO v vl l (cW l t i h).1 w.heap.size∧Ext w w':=fun x e=>⟨v,by unfold aQ2;rw [e],by rw [e];exact hv.ext x,.inl ⟨rfl,by rw [e]⟩,x⟩
 refine aAn rfl ?_
 unfold pW
 refine oy ?_
 repeat (first|refine zD (d:=some 5) rfl rfl (fun bp wp xp ap (rp:Row wp ⟨bp,0,none⟩ (aZ t iv ov)) hp0=>?_)|refine kK (a:=.seq (.reg false (.cons ⟨some 21,_,none⟩ _)) _) (fun (_:Unit) w'=>Ext wp w') (fun _=> [(0,v),(2,.int .i64 (i:Nat)),(3,.int .i64 h),(5,.pointer (some ⟨bp,0,none⟩)),(11,.bool (aO t))]) ?_ ?_|refine go1 ?_|refine zg λ_ _=>?_|refine zi λ_ _=>?_)
 ·by_cases hone:t.ins.length=1
  ·have hpos:0<t.ins.length:=by omega
   have hb:gD t.ins[0].p=aO t:=by
    rw [show aO t=(decide (t.ins.length=1)&&gD (t.ins.headD default).p) by unfold aO;rfl,dTr hone,Bool.true_and]
    rw [aTl hpos]
   repeat' (first|refine zG (d:=some 23) (E:=inR) (M:=M) (l:=t.ins) rfl (SlR.ext h1 (by exact fx)) ?_|refine zL (x:=.tmp 24) rfl (fun _=>?_) (fun h=>absurd (by omega) h)|(refine aR (d:=some 27) (E:=inR) (M:=M) rfl rfl (n:=0) (l:=t.ins) (SlR.ext h1 (by exact fx)) rfl hpos (fun ad cs r4 he=>?_);obtain ⟨wv,rfl,hwv,hp5,hp6⟩:=he)|(refine zC (d:=some 30) rfl (qW t.ins[0].p _) ?_;rintro _ w3 ⟨rfl,x3⟩;rw [hb])|refine go1 ?_|refine zg λ_ _=>?_|refine zi λ_ _=>?_)
   exact ⟨(),⟨rfl,rfl,rfl,rfl,rfl,trivial⟩,by exact fx⟩
  ·have hb:aO t=false:=by
    rw [show aO t=(decide (t.ins.length=1)&&gD (t.ins.headD default).p) by unfold aO;rfl,dFa hone,Bool.false_and]
   repeat' (first|refine zG (d:=some 23) (E:=inR) (M:=M) (l:=t.ins) rfl (SlR.ext h1 (by exact fx)) ?_|refine zL (x:=.tmp 24) rfl (fun h=>absurd h (by omega)) (fun _=>?_)|refine go1 ?_|refine zg λ_ _=>?_|refine zi λ_ _=>?_)
   exact ⟨(),⟨rfl,rfl,rfl,rfl,by rw [hb];rfl,trivial⟩,by exact fx⟩
 rintro _ ρ w1 x1
 refine kK (a:=.seq (.reg false (.cons ⟨some 31,_,none⟩ _)) _) (fun (_:Unit) w'=>Ext wp w'∧(iB l t i h).1=0) (fun _=> [(0,v),(3,.int .i64 h),(5,.pointer (some ⟨bp,0,none⟩)),(11,.bool (aO t))]) ?_ ?_
 ·cases hgr:aO t with
  |true=>
   by_cases hc:aI t=0
   ·repeat' (first|(refine zC (d:=some 33) rfl (kF (M:=M) (t:=t) (cs:=aZ t iv ov) _ (R.ext ht0 (by exact fx)) hs) ?_;rintro _ w2 ⟨rfl,x2⟩;rw [hc])|refine aG (d:=some 43) (.int .i64 t.lock) rfl (congrArg (fun n=>some (Value.int .i64 n)) (IntWalk.i64_in _ (by omega))) ?_|refine zJ (t:=40) (p:=((i:Nat):Int)>0) rfl (fun hi0=>?_) (fun hi0=>?_)|refine zN (x:=.tmp 46) (p:=t.lock=h) rfl (fun hl0=>?_) (fun hl0=>?_)|refine go1 ?_|refine zg λ_ _=>?_|refine zi λ_ _=>?_)
    ·exact aB rfl (fail (by exact fx) (by have e:=aAd (l:=l) hgr hc (h:=h) (i:=i) (.inl (by omega));rw [yK (by rw [e];decide),e]))
    ·exact aB rfl (fail (by exact fx) (by have e:=aAd (l:=l) hgr hc (h:=h) (i:=i) (.inr hl0);rw [yK (by rw [e];decide),e]))
    ·exact ⟨(),⟨rfl,rfl,rfl,rfl,trivial⟩,by exact fx,by rw [aUg (l:=l) hgr hc (h:=h) (i:=i) (by omega)]⟩
   ·repeat' (first|(refine zC (d:=some 33) rfl (kF (M:=M) (t:=t) (cs:=aZ t iv ov) _ (R.ext ht0 (by exact fx)) hs) ?_;rintro _ w2 ⟨rfl,x2⟩)|refine zN (x:=.tmp 35) (p:=aI t=0) rfl (fun _=>?_) (fun h=>absurd h hc)|refine go1 ?_|refine zg λ_ _=>?_|refine zi λ_ _=>?_)
    exact aB rfl (fail (by exact fx) (by have e:=aPo (l:=l) (h:=h) (i:=i) hgr hc;rw [yK (by rw [e];exact hc),e]))
  |false=>
   have e:=aPz (l:=l) (h:=h) (i:=i) hgr
   by_cases hf:(fR (aT l) t h).2.1=0
   ·repeat' (first|(refine zC (d:=some 52) rfl (aG1 (M:=M) (t:=t) (cs:=aZ t iv ov) (l:=l) h _ (SlE.ext (w:=w) (by exact fx) hv) (R.ext ht0 (by exact fx)) hs (by omega) hl6) ?_;rintro _ w2 ⟨rfl,x2⟩;unfold xF;rw [hf])|refine go1 ?_|refine zg λ_ _=>?_|refine zi λ_ _=>?_)
    exact ⟨(),⟨rfl,rfl,rfl,rfl,trivial⟩,by exact fx,by rw [e];exact hf⟩
   ·repeat' (first|(refine zC (d:=some 52) rfl (aG1 (M:=M) (t:=t) (cs:=aZ t iv ov) (l:=l) h _ (SlE.ext (w:=w) (by exact fx) hv) (R.ext ht0 (by exact fx)) hs (by omega) hl6) ?_;rintro _ w2 ⟨rfl,x2⟩;unfold xF)|refine zN (x:=.tmp 57) (p:=(fR (aT l) t h).2.1=0) rfl (fun _=>?_) (fun h=>absurd h hf)|refine go1 ?_|refine zg λ_ _=>?_|refine zi λ_ _=>?_)
    exact aB rfl (fail (by exact fx) (by rw [yK (by rw [e];exact hf),e]))
 clear x1
 rintro _ ρ w1 ⟨x1,hmay⟩
 have hc:=pF hmay
 have hsz:=mQ hs hc
 have rp1:Row w1 ⟨bp,0,none⟩ (aZ t iv ov):=Row.ext x1 rp
 have x01:Ext w w1:=xp.trans x1
 have hv1:=hv.ext x01
 have ht1:=R.ext ht0 x01
 have h11:=h1.ext x01
 have h21:=h2.ext x01
 have x01':Unit→Ext w w1:=fun _=>x01
 clear x01 x1 xp ap rp hv ht0 h1 h2
 repeat (first|refine kK (a:=.seq (.reg false (.cons ⟨some 17,_,none⟩ _)) _) (fun (vm:Value) w'=>Ext w1 w'∧SlE aU w' vm (gP l t)∧kO v vm l (gP l t) w.heap.size) (fun vm=> [(0,v),(3,.int .i64 h),(5,.pointer (some ⟨bp,0,none⟩)),(16,vm)]) ?_ ?_|refine go1 ?_|refine zg λ_ _=>?_|refine zi λ_ _=>?_)
 ·cases hgr:aO t with
  |true=>
   repeat' (first|(refine aM (fun (_:Unit) w'=>Ext w1 w') (fun _=> [(0,v),(3,.int .i64 h),(5,.pointer (some ⟨bp,0,none⟩)),(11,.bool true),(16,v),(17,.int .i64 0)]) (fun _=>0) () ⟨rfl,rfl,rfl,rfl,rfl,rfl,trivial⟩ (Ext.refl _) ?_;rintro _ ρ w2 x2)|refine zG (d:=some 65) (E:=inR) (M:=M) (l:=t.ins) rfl (SlR.ext h11 (by exact fx)) ?_|refine zJ (t:=67) rfl (fun hh=>?_) (fun hh=>?_)|refine go1 ?_|refine zg λ_ _=>?_|refine zi λ_ _=>?_)
   all_goals exact ⟨v,⟨rfl,rfl,rfl,rfl,trivial⟩,by exact fx,by unfold gP;rw [if_pos hgr];exact hv1.ext (by exact fx),.inl ⟨rfl,by unfold gP;rw [if_pos hgr]⟩⟩
  |false=>
   repeat' (first|(refine aM (fun (p:Nat × Value) w'=>Ext w1 w'∧p.1≤t.ins.length∧SlE aU w' p.2 (cI l (t.ins.take p.1))∧kO v p.2 l (cI l (t.ins.take p.1)) w.heap.size) (fun p=> [(0,v),(3,.int .i64 h),(5,.pointer (some ⟨bp,0,none⟩)),(11,.bool false),(16,p.2),(17,.int .i64 (p.1:Nat))]) (fun p=>t.ins.length - p.1) (0,v) ⟨rfl,rfl,rfl,rfl,rfl,rfl,trivial⟩ ⟨Ext.refl _,by simp,by unfold cI;exact hv1,.inl ⟨rfl,by unfold cI;rfl⟩⟩ ?_;rintro ⟨k,vm⟩ ρ w2 ⟨x2,hk,hvm,hbm⟩;simp only at hk hvm hbm;dsimp only)|refine zG (d:=some 65) (E:=inR) (M:=M) (l:=t.ins) rfl (SlR.ext h11 (by exact fx)) ?_|refine zJ (t:=67) (p:=((k:Nat):Int)<((t.ins.length:Nat):Int)) rfl (fun hh=>?_) (fun hh=>?_)|refine go1 ?_|refine zg λ_ _=>?_|refine zi λ_ _=>?_)
   ·have hkl:k<t.ins.length:=by omega
    have hlen:=tK (t.ins.take k) l
    repeat' (first|(refine aR (d:=some 78) (E:=inR) (M:=M) rfl rfl (n:=k) (l:=t.ins) (SlR.ext h11 (by exact fx)) rfl hkl (fun ad cs r4 he=>?_);obtain ⟨wv,rfl,hwv,hp5,hp6⟩:=he)|(refine zC (d:=some 81) rfl (aH0 t.ins[k].p _ (SlE.ext (w:=w2) (by exact fx) hvm) (by omega)) ?_;rintro _ w3 ⟨vl,rfl,hvl,hbl,x3⟩)|refine go1 ?_|refine zg λ_ _=>?_|refine zi λ_ _=>?_)
    exact ⟨(k+1,vl),⟨rfl,rfl,rfl,rfl,rfl,rfl,trivial⟩,⟨by exact fx,by simp only;omega,by simp only;rw [qK hkl];exact hvl,by simp only;rw [qK hkl];exact hbm.trans hbl (Ext.size (Ext.trans (x01' ()) (by exact fx)))⟩,by simp only;omega⟩
   ·have e:t.ins.take k=t.ins:=tLe (by omega)
    rw [e] at hvm
    exact ⟨vm,⟨rfl,rfl,rfl,rfl,trivial⟩,by exact fx,by unfold gP;rw [if_neg (by rw [hgr];decide)];exact hvm.ext (by exact fx),by unfold gP;rw [if_neg (by rw [hgr];decide)];rw [e] at hbm;exact hbm⟩
 rintro vm ρ w2 ⟨x2,hvm,hbm⟩
 have hgm:=zR hg t
 have hlm:=aLt l t
 repeat' (first|(refine zC (d:=some 86) rfl (aUf (M:=M) (cs:=aZ t iv ov) (t:=t) _ (R.ext ht1 (by exact fx)) hsz) ?_;rintro _ w3 ⟨rfl,x3⟩)|(refine aM (fun (p:Nat × Value × List En) w'=>Ext w1 w'∧p.1≤t.outs.length∧SlE aU w' p.2.1 p.2.2∧CG p.2.2∧p.2.2.length≤l.length+p.1∧kO v p.2.1 l p.2.2 w.heap.size∧vP (idT t) h t.outs (gP l t) p.1 p.2.2) (fun p=> [(0,v),(3,.int .i64 h),(5,.pointer (some ⟨bp,0,none⟩)),(16,p.2.1),(18,.string (idT t)),(19,.int .i64 (p.1:Nat))]) (fun p=>t.outs.length - p.1) (0,vm,gP l t) ⟨rfl,rfl,rfl,rfl,rfl,rfl,trivial⟩ ⟨by exact fx,by simp,hvm.ext (by exact fx),hgm,by simpa using hlm,hbm,aEw⟩ ?_;rintro ⟨k,vk,mk⟩ ρ w4 ⟨x4,hk,hvk,hgk,hlk,hbk,hpk⟩;simp only at hk hvk hgk hlk hbk hpk;dsimp only)|refine zG (d:=some 90) (E:=fT) (M:=M) (l:=t.outs) rfl (SlR.ext h21 (by exact fx)) ?_|refine go1 ?_|refine zg λ_ _=>?_|refine zi λ_ _=>?_)
 refine zL (x:=.tmp 91) (p:=((k:Nat):Int)<((t.outs.length:Nat):Int)) rfl (fun h9=>?_) (fun h9=>?_)
 ·have hkl:k<t.outs.length:=by omega
  clear x2 x3 hvm
  repeat' (first|refine aG (d:=some 98) (.int .u32 (k:Nat)) rfl (congrArg (fun n=>some (Value.int .u32 n)) (by rw [wrap32];omega)) ?_|refine bR (d:=some 99) (cs:=(⟨idT t,(k:Nat)⟩:Pt).cs) rfl ?_|(refine aR (d:=some 103) (E:=fT) (M:=M) rfl rfl (n:=k) (l:=t.outs) (SlR.ext h21 (by exact fx)) rfl hkl (fun ad cs r4 he=>?_);obtain ⟨rfl, -⟩:=he)|refine bR (d:=some 106) (cs:=(outC t.outs[k] h).cs) rfl ?_|(refine zC (d:=some 107) rfl (aKr ⟨idT t,(k:Nat)⟩ (outC t.outs[k] h) _ (SlE.ext (w:=w4) (by exact fx) hvk) (by omega) hgk.mon) ?_;rintro _ w5 ⟨vl,rfl,hvl,hbl,x5⟩)|refine zN (x:=.tmp 111) (p:=aQ mk ⟨idT t,(k:Nat)⟩ (outC t.outs[k] h)=0) rfl (fun h6=>?_) (fun h6=>?_)|refine go1 ?_|refine zg λ_ _=>?_|refine zi λ_ _=>?_)
  ·have e:=aGh hkl hpk h6
   exact aB rfl (fail ((x01' ()).trans (by exact fx)) (by rw [aIi hmay (by rw [e];exact h6),e]))
  ·have hlp:=xC mk ⟨idT t,(k:Nat)⟩ (outC t.outs[k] h) hgk.srt
   exact ⟨(k+1,vl,bG mk ⟨idT t,(k:Nat)⟩ (outC t.outs[k] h)),⟨rfl,rfl,rfl,rfl,rfl,rfl,trivial⟩,⟨by exact fx,by simp only;omega,hvl,hgk.put _ _,by simp only;omega,hbk.trans hbl (Ext.size (Ext.trans (x01' ()) (by exact fx))),aFi hkl hpk h6⟩,by simp only;omega⟩
 ·have e:=aGo (by omega) hpk
  have e2:=aM7 (i:=i) hmay (by rw [e])
  rw [e] at e2
  repeat' (first|refine go1 ?_|refine zg λ_ _=>?_|refine zi λ_ _=>?_)
  exact aB rfl ⟨vk,by unfold aQ2;rw [e2];rfl,by rw [e2];exact hvk,by rw [e2];exact hbk,(x01' ()).trans (by exact fx)⟩
end Go.Proofs.YtgloknkcfchnlaaGreatDoor
end
namespace Go.Proofs.YtgloknkcfchnlaaGreatDoor
section
open Go Go.K
attribute [local irreducible] aD aK aV KOp.wp K.Spec u32 leS vnS str aN aI aO bI idT aY inE fR iB fD cW cI
set_option maxHeartbeats 4000000 in
theorem vK {M:List Nat} {lv v:Value} {txs:List Tx} {l:List En} (h:Int) (w:World) (hv:SlE aU w lv l) (hg:CG l) (hsc:SC l) (hx:SlR txR M w v txs) (hs:∀t∈txs,t.Sm) (hn:l.length+cZ txs≤80000) (hk0:txs.length≤1000):
  K.Spec Tryz.prog F.kedgeref12_Apply [lv,v,.int .i64 h] w fun r w'=>∃vl,r=.tuple #[vl,.int .i64 (aP l txs h).2.1,.int .i64 (aP l txs h).2.2.1,.int .i64 (aP l txs h).2.2.2]∧SlE aU w' vl (aP l txs h).1∧kO lv vl l (aP l txs h).1 w.heap.size∧Ext w w':=by
 refine wD rfl ?_
 unfold mL
 refine oy ?_
 by_cases hr:0≤h∧h≤1000000
 ·have eA:aP l txs h=gF l h 0 txs l:=by unfold aP;rw [if_neg (by omega)]
  rw [eA]
  repeat' (first|refine aG (d:=some 15) (.bool false) rfl (congrArg (fun b=>some (Value.bool b)) (dFa (by omega))) ?_|refine aG (d:=some 18) (.bool false) rfl (congrArg (fun b=>some (Value.bool b)) (dFa (by omega))) ?_|(refine aM (fun (p:Nat × Value × List En) w'=>Ext w w'∧p.1≤txs.length∧SlE aU w' p.2.1 p.2.2∧CG p.2.2∧SC p.2.2∧vW l h txs p.1 p.2.2∧p.2.2.length≤l.length+cZ (txs.take p.1)∧kO lv p.2.1 l p.2.2 w.heap.size) (fun p=> [(0,lv),(1,v),(2,.int .i64 h),(10,p.2.1),(11,.int .i64 (p.1:Nat))]) (fun p=>txs.length - p.1) (0,lv,l) ⟨rfl,rfl,rfl,rfl,rfl,trivial⟩ ⟨Ext.refl _,by simp,hv,hg,hsc,aDw,by simp,.inl ⟨rfl,rfl⟩⟩ ?_;rintro ⟨k,mv,m⟩ ρ w3 ⟨x3,hk,hm3,g3,sc3,hok,hml,hnw⟩;simp only at hk hm3 g3 sc3 hok hml hnw;dsimp only)|refine zG (d:=some 24) (E:=txR) (M:=M) (l:=txs) rfl (SlR.ext hx (by exact fx)) ?_|refine zL (x:=.tmp 25) (p:=((k:Nat):Int)<((txs.length:Nat):Int)) rfl (fun h6=>?_) (fun h6=>?_)|refine go1 ?_|refine zg λ_ _=>?_|refine zi λ_ _=>?_)
  ·have hkl:k<txs.length:=by omega
   have hst:=hs _ (gMe hkl)
   have ho:=aNc hkl
   have ho2:=aNd txs (k+1)
   have hol:=yW g3 txs[k] k h
   repeat (first|(refine aR (d:=some 32) (E:=txR) (M:=M) rfl rfl (n:=k) (l:=txs) (SlR.ext hx (by exact fx)) rfl hkl (fun ad cs r4 he=>?_);obtain ⟨iv,ov,rfl,p1,p2,p3⟩:=id he)|refine go1 ?_|refine zg λ_ _=>?_|refine zi λ_ _=>?_)
   refine zC (d:=some 36) rfl (aDp (M:=M) (cs:=aZ txs[k] iv ov) (t:=txs[k]) (l:=m) k h _ (by omega) hm3 g3 sc3 he hst (by omega)) ?_
   rintro _ w4 ⟨vl,rfl,hvl,hn4,x4⟩
   unfold aQ2
   by_cases h0:(cW m txs[k] k h).2.1=0
   ·rw [h0]
    repeat (first|refine go1 ?_|refine zg λ_ _=>?_|refine zi λ_ _=>?_)
    exact ⟨(k+1,vl,(cW m txs[k] k h).1),⟨rfl,rfl,rfl,rfl,rfl,trivial⟩,⟨x3.trans x4,by simp only;omega,hvl,jV g3 _ _ _,aDa g3 sc3 _ _ _,aD8 hkl hok h0,by simp only;omega,hnw.trans hn4 x3.size⟩,by simp only;omega⟩
   ·have eR:=aG5 hkl hok h0
    rw [eR]
    repeat (first|refine aG (d:=some 41) (.bool true) rfl (congrArg (fun b=>some (Value.bool (!b))) (dFa h0)) ?_|refine go1 ?_|refine zg λ_ _=>?_|refine zi λ_ _=>?_)
    exact aB rfl ⟨lv,rfl,hv.ext (x3.trans x4),.inl ⟨rfl,rfl⟩,x3.trans x4⟩
  ·have ek:txs.length≤k:=by omega
   have eR:=aHn ek hok
   rw [eR]
   repeat (first|refine go1 ?_|refine zg λ_ _=>?_|refine zi λ_ _=>?_)
   exact aB rfl ⟨mv,rfl,hm3,hnw,x3⟩
 ·have eA:aP l txs h=(l,3, -1, -1):=by unfold aP;rw [if_pos (by omega)]
  rw [eA]
  repeat' (first|refine zJ (t:=16) (p:=h<0) rfl (fun hh=>?_) (fun hh=>?_)|refine zL (x:=.tmp 19) rfl (fun _=>?_) (fun h=>absurd (by omega) h)|refine go1 ?_|refine zg λ_ _=>?_|refine zi λ_ _=>?_)
  all_goals exact aB rfl ⟨lv,rfl,hv,.inl ⟨rfl,rfl⟩,Ext.refl _⟩
theorem qZ {M:List Nat} {lv v:Value} {txs:List Tx} {l:List En} (h:Int) (w:World) (hv:SlE aU w lv l) (hg:CG l) (hsc:SC l) (hx:SlR txR M w v txs) (hs:∀t∈txs,t.Sm) (hn:l.length+cZ txs≤80000) (hk0:txs.length≤1000):
  K.Spec Tryz.prog F.kedgeref12_Apply [lv,v,.int .i64 h] w fun r w'=>∃vl,r=.tuple #[vl,.int .i64 (aP l txs h).2.1,.int .i64 (aP l txs h).2.2.1,.int .i64 (aP l txs h).2.2.2]∧SlE aU w' vl (aP l txs h).1∧Ext w w':=
 fK (vK h w hv hg hsc hx hs hn hk0) fun _ _ ⟨vl,h1,h2,_,h4⟩=>⟨vl,h1,h2,h4⟩
end
end Go.Proofs.YtgloknkcfchnlaaGreatDoor
section
namespace Go.K
open Go Go.Proofs.YtgloknkcfchnlaaGreatDoor
theorem aPt {l0:List En} {h:Int}:∀(txs:List Tx) (i:Nat) (m:List En),(gF l0 h i txs m).2.1=0→(gF l0 h i txs m).2.2.1= -1
 | [],_,_,_=>rfl
 |t::ts,i,m,h0=>by
  unfold gF at h0 ⊢
  split
  ·rename_i hc
   rw [if_pos hc] at h0
   exact absurd h0 hc
  ·rename_i hc
   rw [if_neg hc] at h0
   exact aPt ts (i+1) _ h0
theorem aHc {l:List En} {txs:List Tx} {b:Int} (h0:(aP l txs b).2.1=0):(aP l txs b).2.2.1= -1:=by
 unfold aP at h0 ⊢
 split
 ·rfl
 ·rename_i hc
  rw [if_neg hc] at h0
  exact aPt _ _ _ h0
end Go.K
namespace Go.Proofs.YtgloknkcfchnlaaGreatDoor
open Go Go.K
attribute [local irreducible] aD aK aV KOp.wp K.Spec u32 leS vnS str aN aI aO bI idT aY aP
end Go.Proofs.YtgloknkcfchnlaaGreatDoor
end
namespace Go.Proofs.YtgloknkcfchnlaaGreatDoor
section
open Go Go.K
attribute [local irreducible] aD aK aV KOp.wp K.Spec u32 leS vnS str aN aI aO bI idT aY inE fR iB fD cW cI
theorem aMd:∀{txs:List Tx},(∀t∈txs,MkOk t)→cZ txs≤3*txs.length
 | [],_=>by simp [cZ]
 |t::ts,h=>by
  have h1:=aMd (txs:=ts) fun t ht=>h t (by simp [ht])
  have h2:=(h t (by simp)).outs
  have e:cZ (t::ts)=t.outs.length+cZ ts:=by simp [cZ]
  rw [e,List.length_cons];omega
theorem SlE.offO {α:Type} {F:Enc α} {w w':World} {v:Value} {l:List α} {L:List Nat} (h:SlE F w v l) (c:Chg L w w') (ho:0<l.length→∀y∈aH v,y∉L):SlE F w' v l:=by
 by_cases hp:0<l.length
 ·exact h.chg c fun a m k hv=>ho hp a.block (by rw [hv];simp [aH])
 ·have hl:l= []:=List.length_eq_zero_iff.1 (by omega)
  subst hl
  exact h.anyw
end
section
open Go Go.K
attribute [local irreducible] aD aK aV KOp.wp K.Spec u32 leS vnS str aN aI aO bI idT aY inE fR iB fD cW cI
set_option maxHeartbeats 8000000 in
theorem kV {M:List Nat} {lv sv:Value} {l:List En} {zs:List BSm} (h:Int) (w:World) (hv:SlE aU w lv l) (hg:CG l) (hsc:SC l) (hz:SlR hG M w sv zs) (hn:l.length≤70000) (hh:0≤h∧h≤1000000) (hM:∀b∈M,b<w.heap.size):
  K.Spec Tryz.prog F.kedgelaw12_made [lv,sv,.int .i64 h] w fun r w'=>∃txs,bH txR T.api_Tx w.heap.size M w' r txs∧txs.length≤5∧(∀t∈txs,MkOk t)∧Ext w w':=by
 refine yI rfl ?_
 unfold nH
 refine oy ?_
 repeat (first|refine zG (d:=some 15) (E:=hG) (M:=M) (l:=zs) rfl hz ?_|refine tP (d:=some 17) (E:=hG) (n:=min zs.length 5) rfl rfl (by omega) hz (by omega) rfl (fun v' hv'=>?_)|refine zG (d:=some 18) (E:=hG) (M:=M) (l:=zs.take (min zs.length 5)) rfl hv' ?_|refine go1 ?_|refine zg λ_ _=>?_|refine zi λ_ _=>?_)
 have hSl:(zs.take (min zs.length 5)).length≤5:=by rw [List.length_take];omega
 generalize zs.take (min zs.length 5)=S at*
 clear hz
 refine aM (fun (p:Nat × Value × List Tx × Value × List En) w'=>Ext w w'∧p.1≤S.length∧bH txR T.api_Tx w.heap.size M w' p.2.1 p.2.2.1∧p.2.2.1.length=p.1∧(∀t∈p.2.2.1,MkOk t)∧SlE aU w' p.2.2.2.1 p.2.2.2.2∧CG p.2.2.2.2∧SC p.2.2.2.2∧p.2.2.2.2.length≤l.length+3*p.1∧(0<p.2.2.2.2.length→∀y∈aH p.2.2.2.1,y∉aH p.2.1)) (fun p=> [(2,.int .i64 h),(7,p.2.1),(8,p.2.2.2.1),(17,v'),(18,.int .i64 (S.length:Nat)),(19,.int .i64 (p.1:Nat))]) (fun p=>S.length - p.1) (0,.slice none 0 0, [],lv,l) ⟨rfl,rfl,rfl,rfl,rfl,rfl,trivial⟩ ⟨Ext.refl _,by simp,bH.nil _ _ _ _,rfl,by simp,hv,hg,hsc,by simp,fun _ y _ hm=>by simp [aH] at hm⟩ ?_
 rintro ⟨k,vo,txs,vm,m⟩ ρ w1 ⟨x1,hk,o1,htl,hmk,hm1,g1,sc1,hml,hoff⟩
 simp only at hk o1 htl hmk hm1 g1 sc1 hml hoff
 dsimp only
 have s1:=x1.size
 repeat (first|refine go1 ?_|refine zg λ_ _=>?_|refine zi λ_ _=>?_)
 refine zL (x:=.tmp 20) (p:=((k:Nat):Int)<((S.length:Nat):Int)) rfl (fun h5=>?_) (fun h5=>?_)
 ·have hkl:k<S.length:=by omega
  have hM1:∀b∈M,b<w1.heap.size:=fun b hb=>nLt (hM b hb) s1
  have o1b:=o1.base
  have o1l:=o1.lt
  have hM1':∀b∈aH vo++M,b<w1.heap.size:=fun b hb=>by
   rcases List.mem_append.1 hb with hb|hb
   ·exact o1l b hb
   ·exact hM1 b hb
  have hvz:SlR hG (aH vo++M) w1 v' S:=hv'.step x1 (by simp) (aO4 o1b)
  repeat (first|(refine aR (d:=some 22) (E:=hG) (M:=aH vo++M) rfl rfl (n:=k) (l:=S) hvz rfl hkl (fun ad cs r4 he=>?_);obtain ⟨fv,rfl,hfr, -⟩:=id he;obtain ⟨q1,q2,efv⟩:=hfr.form)|refine aA8 (d':=10) (e:=9) (fun _=>rfl) (fun _=>rfl) rfl rfl rfl (by rw [efv];rfl) (fun b10 w2 x2 a2 (r2:Row w2 ⟨b10,0,none⟩ (pV S[k] fv)) hb2=>?_)|refine go1 ?_|refine zg λ_ _=>?_|refine zi λ_ _=>?_)
  have s2:=x2.size
  refine zC (d:=some 27) rfl (aLo (M:=aH vo++M) (cs:=pV S[k] fv) (l:=m) (z:=S[k]) h _ (hm1.ext x2) g1 sc1 (R.ext he x2) (by omega) hh (fun b hb=>nLt (hM1' b hb) s2)) ?_
  rintro _ w3 ⟨cs',t,rfl,t3,mk3,x3⟩
  have ht3:=t3.rel (fun b hb=>nLt (hM1' b hb) s2)
  have ones:=txR.one ht3
  have hl4:=txR.len ht3
  obtain ⟨c0,c1,c2,c3,rfl⟩:∃c0 c1 c2 c3,cs'= [c0,c1,c2,c3]:=by
   match cs',hl4 with
   | [c0,c1,c2,c3],_=>exact ⟨c0,c1,c2,c3,rfl⟩
  repeat (first|refine zE (d':=11) (fun _=>rfl) rfl rfl (List.all_eq_true.2 ones) (fun b11 w4 x4 a4 (r4:Row w4 ⟨b11,0,none⟩ [c0,c1,c2,c3]) hb4=>?_)|refine zI (d:=some 30) (cs:= [c0,c1,c2,c3]) rfl (fun b30 w5 x5 a5 hb5=>?_)|refine go1 ?_|refine zg λ_ _=>?_|refine zi λ_ _=>?_)
  have x35:Ext w3 w5:=x4.trans x5
  have x15:Ext w1 w5:=(x2.trans x3).trans x35
  refine fB (d:=some 31) (E:=txR) (M:=M) (v:=vo) (cs:= [c0,c1,c2,c3]) (a:=t) rfl rfl (o1.ext x15) (nTr s1 x15.size) rfl rfl a5 (R.ext ht3 x35) (by omega) (fun v6 w6 o6 c6 hb6=>?_)
  have s36:=x3.size
  have s45:=x4.size
  have s56:=x5.size
  have s66:=c6.size
  have ht6:txR.rel (aH vo++M) w6 [c0,c1,c2,c3] t:=txR.step (R.ext ht3 x35) c6 (fun y hy=>.inl (by simp [hy])) (fun y hy=>.inl hy)
  have r6:=Row.chg c6 (Row.ext x5 r4) (fun h=>by have:=o1l _ h;simp only at this;omega)
  have hm6:SlE aU w6 vm m:=SlE.offO (hm1.ext x15) c6 hoff
  have x06:Ext w w6:=(Ext.chg (x1.trans x15) c6).mono (fun y hy=>.inr (o1b y hy))
  have hol:=mk3.outs
  repeat (first|refine go1 ?_|refine zg λ_ _=>?_|refine zi λ_ _=>?_)
  refine zC (d:=some 37) rfl (aDp (M:=aH vo++M) (cs:= [c0,c1,c2,c3]) (t:=t) (l:=m) k h _ (by omega) hm6 g1 sc1 ht6 mk3.sm (by omega)) ?_
  rintro _ w7 ⟨vl,rfl,hvl,hnew,x7⟩
  unfold aQ2
  have hlo:=yW g1 t k h
  repeat (first|refine go1 ?_|refine zg λ_ _=>?_|refine zi λ_ _=>?_)
  refine ⟨(k+1,v6,txs++ [t],vl,(cW m t k h).1),⟨rfl,rfl,rfl,rfl,rfl,rfl,trivial⟩,⟨x06.trans x7,by simp only;omega,o6.ext x7,by simp [htl],fun y hy=>?_,hvl,jV g1 _ _ _,aDa g1 sc1 _ _ _,by simp only;omega,fun hp y hy hv6=>?_⟩,by simp only;omega⟩
  ·rcases List.mem_append.1 hy with hy|hy
   ·exact hmk y hy
   ·simp at hy;subst hy;exact mk3
  ·rcases hnew with ⟨rfl,e⟩|hf
   ·simp only [e] at hp
    have hlt:=SlE.blk_lt hm1 hp y hy
    rcases hb6 y hv6 with h|h
    ·exact hoff hp y hy h
    ·have:=x15.size;omega
   ·have:=hf y hy
    have:=o6.lt y hv6
    omega
 ·repeat (first|refine go1 ?_|refine zg λ_ _=>?_|refine zi λ_ _=>?_)
  exact aB rfl ⟨txs,o1,by omega,hmk,x1⟩
set_option maxHeartbeats 1000000 in
theorem aCt {b mb:Nat} {l spent made:List En} {sv mv:Value} (w:World) (hS:cH T.coins_Set w b mb l) (hs:SlR enR [b,mb] w sv spent) (hm:SlR enR [b,mb] w mv made) (hn1:spent.length≤100000) (hn2:made.length≤100000) (h1:(jF l made spent).1=false):K.Spec Tryz.prog F.block_Revert [.pointer (some ⟨b,0,none⟩),.agg #[sv,mv]] w fun r w'=>r=.int .i64 17∧Ext w w':=by
 have hlt:=hS.lt
 have o1:sv.oneCell'=true:=by obtain ⟨_,_,rfl⟩:=hs.form;rfl
 have o2:mv.oneCell'=true:=by obtain ⟨_,_,rfl⟩:=hm.form;rfl
 refine lM rfl ?_
 unfold jA
 refine oy ?_
 repeat' (first|refine zg (fun w1 x1=>?_)|refine zi (fun w1 x1=>?_)|refine sW (b:=.cons ⟨some 13,_,_⟩ _) (fun (p:Nat × Nat) w'=>Ext w w'∧cH T.coins_Set w' p.1 p.2 l∧w0.heap.size≤p.1∧w0.heap.size≤p.2∧Ext w0 w') (fun p=> [(0,.pointer (some ⟨b,0,none⟩)),(3,.pointer (some ⟨b3,0,none⟩)),(8,.pointer (some ⟨p.1,0,none⟩)),(10,mv),(12,sv)]) ?_ ?_|refine zD (d:=some 3) (cs:= [sv,mv]) rfl rfl (fun b3 w0 x0 a3 (r3:Row w0 ⟨b3,0,none⟩ [sv,mv]) hb3=>?_)|(refine zC (d:=some 8) rfl (rF _ (hS.ext (by exact fx))) ?_;rintro _ w2 ⟨b8,mb8,rfl,hS8,hb8,hmb8,x2⟩)|(exact ⟨(b8,mb8),⟨rfl,rfl,rfl,rfl,rfl,trivial⟩,by exact fx,hS8.ext (by exact fx),nTr (Ext.size (show Ext w0 _ by exact fx)) hb8,nTr (Ext.size (show Ext w0 _ by exact fx)) hmb8,by exact fx⟩)|refine go1 ?_|refine zg λ_ _=>?_|refine zi λ_ _=>?_|refine zB ?_ ?_)
 rintro ⟨b8,mb8⟩ ρ w3 ⟨x3,S8,hb80,hmb80,x03⟩
 simp only at S8 hb80 hmb80
 have l3:=a3.lt
 have s00:=x0.size
 have r33:Row w3 ⟨b3,0,none⟩ [sv,mv]:=Row.ext x03 r3
 have hb8:w.heap.size≤b8:=by omega
 have hmb8:w.heap.size≤mb8:=by omega
 have nin:∀y∈ [b8,mb8],w.heap.size≤y:=by intro y hy;simp at hy;rcases hy with rfl|rfl<;>assumption
 refine zC (d:=some 13) rfl (rE (b:=b8) (mb:=mb8) (l:=l) (out:=made) (inn:=spent) _ S8 (hm.step x3 (by simp) (fun y hy=>.inr (nin y hy))) (hs.step x3 (by simp) (fun y hy=>.inr (nin y hy))) hn2 hn1) ?_
 rintro _ w4 ⟨rfl,S4,c4⟩
 rw [h1]
 have x04:Ext w w4:=(Ext.chg x3 c4).mono (fun y hy=>.inr (nin y hy))
 have r34:Row w4 ⟨b3,0,none⟩ [sv,mv]:=Row.chg c4 r33 (by simp;omega)
 repeat (first|refine go1 ?_|refine zg λ_ _=>?_|refine zi λ_ _=>?_)
 exact aB rfl ⟨rfl,x04⟩
theorem aJz {sv mv:Value} (w:World) (o1:sv.oneCell'=true) (o2:mv.oneCell'=true):K.Spec Tryz.prog F.block_Revert [.pointer none,.agg #[sv,mv]] w fun r w'=>r=.int .i64 1∧Ext w w':=by
 refine lM rfl ?_
 unfold jA
 refine oy ?_
 repeat (first|refine zD (d:=some 3) (cs:= [sv,mv]) rfl rfl (fun b3 w0 x0 a3 (r3:Row w0 ⟨b3,0,none⟩ [sv,mv]) hb3=>?_)|refine go1 ?_|refine zg λ_ _=>?_|refine zi λ_ _=>?_)
 exact aB rfl ⟨rfl,x0⟩
end
section
open Go Go.K
attribute [local irreducible] aD aK aV KOp.wp K.Spec u32 leS vnS str aN aI aP bI idT aY EtR lU bA
theorem aVj {l:List En} {txs:List Tx} {b:Int} (h0:(aP l txs b).2.1≠0):(aP l txs b).1=l:=wA h0
set_option maxHeartbeats 4000000 in
theorem fF (w:World) (hg:EtR w):K.Spec Tryz.prog F.kedgelaw12_wakes [] w fun r w'=>r=.bool true∧Ext w w':=by
 refine wK rfl ?_
 unfold mF
 refine oy ?_
 repeat (first|refine go1 ?_|refine zg λ_ _=>?_|refine zi λ_ _=>?_)
 refine zC (d:=some 8) rfl (lC _) ?_
 rintro _ w1 ⟨b,mb,rfl,S1,hb1,hb2,x1⟩
 have hlt:=S1.lt
 have hne:=S1.ne
 have hM1:∀y∈ [b,mb],y<w1.heap.size:=fun y hy=>by simp at hy;rcases hy with rfl|rfl;exact hlt.1;exact hlt.2
 repeat (first|refine bR (d:=some 11) (cs:= [.int .i64 5,.string ⟨#[]⟩]) rfl ?_|refine zI (d:=some 12) (cs:= [.int .i64 5,.string ⟨#[]⟩]) rfl (fun b3 w3 x3 a3 hb3=>?_)|refine go1 ?_|refine zg λ_ _=>?_|refine zi λ_ _=>?_)
 have ho:SlR fT [b,mb] w3 (.slice (some ⟨b3,0,none⟩) 1 1) o5:=aSl (E:=fT) a3 ⟨rfl,⟨by decide,by decide⟩⟩ (fun hm=>by have:=hM1 _ hm;omega)
 have hM3:∀y∈ [b,mb],y<w3.heap.size:=fun y hy=>nLt (hM1 y hy) x3.size
 refine zC (d:=some 13) rfl (aEa (M:= [b,mb]) (outs:=o5) 3 _ ⟨by omega,by omega⟩ ho (by decide) hM3) ?_
 rintro _ w4 ⟨cs,rfl,t4,x4⟩
 obtain ⟨iv,ov,rfl, -⟩:=id t4
 have ones:=txR.one (t4.rel hM3)
 repeat (first|refine zI (d:=some 14) (cs:=aZ (grT 3 o5) iv ov) rfl (fun b5 w5 x5 a5 hb5=>?_)|refine go1 ?_|refine zg λ_ _=>?_|refine zi λ_ _=>?_)
 have hx5:=aPn t4 hM3 x5 a5 hb5 (fun y hy=>nLt (hM3 y hy) x4.size)
 have x15:Ext w1 w5:=x3.trans (x4.trans x5)
 have hM5:∀y∈ [b,mb],y<w5.heap.size:=fun y hy=>nLt (hM1 y hy) x15.size
 refine zC (d:=some 15) rfl (eU (M:= [b,mb]) (txs:= [gw 3]) (l:= []) 3 _ (S1.ext x15) CG.nil SC.nil (by simp) (by simp) hM5 hx5 (by simp;exact aWu _) (by decide) (by simp)) ?_
 rintro _ w6 ⟨sv,mv,e,rfl,E6,S6,hA, -,c6⟩
 rw [aYt] at E6
 obtain rfl:=(yJ.nilD E6).1 rfl
 obtain ⟨hsv,hmv,hvb⟩:=hA (by rw [aYt])
 rw [show (aP [] [gw 3] 3).1=lU by unfold lU;rfl] at S6 hsv hmv
 have o1:sv.oneCell'=true:=by obtain ⟨_,_,q⟩:=hsv.form;rw [q];rfl
 have o2:mv.oneCell'=true:=by obtain ⟨_,_,q⟩:=hmv.form;rw [q];rfl
 have s15:=x15.size
 have s01:=x1.size
 have x06:Ext w w6:=(Ext.chg (x1.trans x15) c6).mono (fun y hy=>.inr (by simp at hy;omega))
 have hs6:SlR enR [b,mb] w6 sv (bA [] lU):=hsv.en fun y hy hm=>by have:=hvb y (.inl hy);have:=hM5 y hm;omega
 have hm6:SlR enR [b,mb] w6 mv (bA lU []):=hmv.en fun y hy hm=>by have:=hvb y (.inr hy);have:=hM5 y hm;omega
 have hM6:∀y∈ [b,mb],y<w6.heap.size:=fun y hy=>nLt (hM5 y hy) c6.size
 have ones2:([sv,mv]:List Value).all (fun v=>v.oneCell')=true:=by simp [o1,o2]
 repeat (first|refine zE (d':=2) (fun _=>rfl) rfl rfl ones2 (fun b2 w7 x7 a7 (r7:Row w7 ⟨b2,0,none⟩ [sv,mv]) hb2'=>?_)|refine go1 ?_|refine zg λ_ _=>?_|refine zi λ_ _=>?_)
 have l7:=a7.lt
 refine zC (d:=some 19) rfl (gA _ (S6.ext x7)) ?_
 rintro _ w8 ⟨rfl,x8⟩
 rw [aWc]
 have hM8:∀y∈ [b,mb],y<w8.heap.size:=fun y hy=>nLt (hM6 y hy) (nTr x7.size x8.size)
 repeat (first|refine bR (d:=some 22) (cs:= [.int .i64 5,.string ⟨#[]⟩]) rfl ?_|refine zI (d:=some 23) (cs:= [.int .i64 5,.string ⟨#[]⟩]) rfl (fun b13 w13 x13 a13 hb13=>?_)|refine go1 ?_|refine zg λ_ _=>?_|refine zi λ_ _=>?_)
 have ho3:SlR fT [b,mb] w13 (.slice (some ⟨b13,0,none⟩) 1 1) o5:=aSl (E:=fT) a13 ⟨rfl,⟨by decide,by decide⟩⟩ (fun hm=>by have:=hM8 _ hm;omega)
 have hM13:∀y∈ [b,mb],y<w13.heap.size:=fun y hy=>nLt (hM8 y hy) x13.size
 refine zC (d:=some 24) rfl (aEa (M:= [b,mb]) (outs:=o5) 3 _ ⟨by omega,by omega⟩ ho3 (by decide) hM13) ?_
 rintro _ w14 ⟨cs,rfl,t14,x14⟩
 obtain ⟨iv2,ov2,rfl, -⟩:=id t14
 have ones3:=txR.one (t14.rel hM13)
 repeat (first|refine zI (d:=some 25) (cs:=aZ (grT 3 o5) iv2 ov2) rfl (fun b15 w15 x15 a15 hb15=>?_)|refine go1 ?_|refine zg λ_ _=>?_|refine zi λ_ _=>?_)
 have hx15:=aPn t14 hM13 x15 a15 hb15 (fun y hy=>nLt (hM13 y hy) x14.size)
 have x615:Ext w6 w15:=(x7.trans x8).trans (x13.trans (x14.trans x15))
 have x715:Ext w7 w15:=x8.trans (x13.trans (x14.trans x15))
 have hM15:∀y∈ [b,mb],y<w15.heap.size:=fun y hy=>nLt (hM6 y hy) x615.size
 have hcg:CG lU:=by
  have:CG (aP [] [gw 3] 3).1:=pZ CG.nil _ _
  unfold lU;exact this
 have hsc:SC lU:=by
  have:SC (aP [] [gw 3] 3).1:=vA CG.nil SC.nil _ _
  unfold lU;exact this
 refine zC (d:=some 26) rfl (eU (M:= [b,mb]) (txs:= [gw 3]) (l:=lU) 4 _ (S6.ext x615) hcg hsc (by simp) (by simp) hM15 hx15 (by simp;exact aWu _) (by rw [aJg];decide) (by simp)) ?_
 rintro _ w16 ⟨sv2,mv2,e2,rfl,E16,S16, -,hB,c16⟩
 rw [aYd] at E16
 obtain ⟨rfl,rfl⟩:=hB (by rw [aYd];decide)
 rw [aVj (by rw [aYd];decide)] at S16
 have r16:Row w16 ⟨b2,0,none⟩ [sv,mv]:=Row.chg c16 (Row.ext x715 r7) (by have:=hM6 b (by simp);have:=hM6 mb (by simp);simp;omega)
 have c616:Chg [b,mb] w6 w16:=Chg.trans x615 c16
 have x016:Ext w w16:=(Ext.chg x06 c616).mono (fun y hy=>.inr (by simp at hy;omega))
 have hs16:SlR enR [b,mb] w16 sv (bA [] lU):=hs6.step c616 (fun y hy=>.inl hy) (fun y hy=>.inl hy)
 have hm16:SlR enR [b,mb] w16 mv (bA lU []):=hm6.step c616 (fun y hy=>.inl hy) (fun y hy=>.inl hy)
 obtain ⟨bF,uF,rfl,aF,eF⟩:∃bF u,e2=.iface T.P_api_Fault (.pointer (some ⟨bF,0,none⟩))∧At w16 bF (.cells [.int .i64 0,u].toArray T.api_Fault (0,0))∧dM w16 1 u 4 (-1):=by
  rcases E16 with ⟨h, -⟩|⟨-,⟨-,h, -⟩|⟨-,bF,u,h3,h4,h5⟩⟩
  ·exact absurd h (by decide)
  ·exact absurd h (by decide)
  ·exact ⟨bF,u,h3,h4,h5⟩
 have hu:uF=sI 4:=by
  rcases eF with h|⟨-,h, -⟩
  ·exact tU h (by decide)
  ·exact absurd h (by decide)
 subst hu
 repeat (first|refine zE (d':=5) (fun _=>rfl) rfl rfl rfl (fun b17 w17 x17 a17 (r17:Row w17 ⟨b17,0,none⟩ [.slice none 0 0,.slice none 0 0]) hb17=>?_)|refine go1 ?_|refine zg λ_ _=>?_|refine zi λ_ _=>?_)
 have hsw:=uG hcg CG.nil
 refine zC (d:=some 31) rfl (qM (l:=lU) (spent:=bA [] lU) (made:=bA lU []) _ (S16.ext x17) (hs16.ext x17) (hm16.ext x17) (by rw [yT];simp) (by rw [yF,aJg];decide) (by rw [hsw])) ?_
 rw [hsw]
 rintro _ w18 ⟨rfl,S18,c18⟩
 have c1618:Chg [b,mb] w16 w18:=Chg.trans x17 c18
 have hbF:bF∉ [b,mb]:=fun hm=>by
  obtain ⟨_,_,_,hS⟩:=S16
  simp at hm
  rcases hm with rfl|rfl
  ·have:=hS.1.inj aF
   simp only [Obj.cells.injEq] at this
   exact absurd this.2.1 (by decide)
  ·obtain ⟨es,ck,h1, -⟩:=hS.2.1
   have:=h1.inj aF
   cases this
 have r18:Row w18 ⟨b2,0,none⟩ [sv,mv]:=Row.chg c18 (Row.ext x17 r16) (by have:=hM6 b (by simp);have:=hM6 mb (by simp);simp;omega)
 have aF18:=aF.chg c1618 hbF
 have x018:Ext w w18:=(Ext.chg x016 c1618).mono (fun y hy=>.inr (by simp at hy;omega))
 have hs18:=hs16.step c1618 (fun y hy=>.inl hy) (fun y hy=>.inl hy) (M':= [b,mb])
 have hm18:=hm16.step c1618 (fun y hy=>.inl hy) (fun y hy=>.inl hy) (M':= [b,mb])
 have e18:dM w18 2 (.iface T.P_api_Fault (.pointer (some ⟨bF,0,none⟩))) 4 0:=.inr ⟨by decide,by decide,bF,_, -1,rfl,aF18,.inl ⟨rfl,.inr ⟨by decide,rfl⟩⟩⟩
 repeat (first|(refine zG (d:=some 41) (E:=enR) (M:= [b,mb]) (l:=bA lU []) rfl hm18 ?_;rw [yF,aJg])|(refine zG (d:=some 47) (E:=enR) (M:= [b,mb]) (l:=bA [] lU) rfl hs18 ?_;rw [yT])|refine go1 ?_|refine zg λ_ _=>?_|refine zi λ_ _=>?_)
 refine zC (d:=some 53) rfl (aIj 4 bF _ (mZ aF18 rfl)) ?_
 rintro _ w19 ⟨rfl,rfl⟩
 repeat (first|refine go1 ?_|refine zg λ_ _=>?_|refine zi λ_ _=>?_)
 refine zC (d:=some 57) rfl (mC (hg.ext x018) e18) ?_
 rintro _ w20 ⟨rfl,x20⟩
 repeat (first|refine go1 ?_|refine zg λ_ _=>?_|refine zi λ_ _=>?_)
 refine zC (d:=some 66) rfl (aHo _ (S18.ext x20)) ?_
 rintro _ w21 ⟨rfl,x21⟩
 repeat (first|refine go1 ?_|refine zg λ_ _=>?_|refine zi λ_ _=>?_)
 exact aB rfl ⟨rfl,x018.trans (x20.trans x21)⟩
end
end Go.Proofs.YtgloknkcfchnlaaGreatDoor
section
namespace Go.Proofs.YtgloknkcfchnlaaGreatDoor
open Go Go.K
theorem aQt {w:World} {v:Value} {l m:List En} {b mb:Nat} {t:TypeId} (h:SlE aU w v l) (hS:cH t w b mb m) (hp:0<l.length):∀y∈aH v,y∉ [b,mb]:=by
 obtain ⟨_,_,_,hE⟩:=hS
 obtain ⟨h1,base,cap,rfl,hc,h2⟩:=h
 have hpos:0<(aU.flat l).length:=by rw [Enc.flat_length];exact Nat.mul_pos hp aU.pos
 obtain ⟨a,rfl,hr⟩:=h2 hpos
 intro y hy hm
 simp only [aH,List.mem_singleton] at hy
 subst hy
 obtain ⟨e,es,rfl⟩:∃e es,l=e::es:=by
  cases l with
  |nil=>simp at hp
  |cons e es=>exact ⟨e,es,rfl⟩
 have hcell:=hr 0 (.string e.1.s) rfl
 rw [add_zero] at hcell
 simp only [List.mem_cons,List.not_mem_nil,or_false] at hm
 rcases hm with hm|hm
 ·have:=aPe hE.1 hm hcell
  simp at this
 ·obtain ⟨es,ck,h3, -⟩:=hE.2.1
  unfold World.cell? at hcell
  unfold At at h3
  rw [hm,h3] at hcell
  simp at hcell
theorem SlE.offS {w w':World} {v:Value} {l m:List En} {b mb:Nat} {t:TypeId} (h:SlE aU w v l) (hS:cH t w b mb m) (c:Chg [b,mb] w w'):SlE aU w' v l:=SlE.offO h c (fun hp=>aQt h hS hp)
attribute [local irreducible] aD aK aV KOp.wp K.Spec
theorem aNr (v:Value) (h:Int) (w:World):K.Spec Tryz.prog F.block_Apply [.pointer none,v,.int .i64 h] w fun r w'=>r=.tuple #[.agg #[.slice none 0 0,.slice none 0 0],sI 1]∧Ext w w':=by
 refine vO rfl ?_
 unfold nY
 refine oy ?_
 repeat (first|refine zH (d:=some 6) (fun b6 w1 x1 a1 hb6=>?_)|refine go1 ?_|refine zg λ_ _=>?_|refine zi λ_ _=>?_)
 refine bQ (w0:=w) (n:=2) (vs:= [.slice none 0 0,.slice none 0 0]) x1 hb6 a1 rfl rfl rfl rfl rfl (fun w5 x5 c5 a5 r5=>?_)
 repeat (first|refine go1 ?_|refine zg λ_ _=>?_|refine zi λ_ _=>?_)
 exact aB (kU (cB r5 rfl rfl) bZ) ⟨rfl,x5⟩
theorem uQ {txs:List Tx} (h:∀t∈txs,MkOk t) (hl:txs.length≤5):cZ txs≤15:=by have:=aMd h;omega
end Go.Proofs.YtgloknkcfchnlaaGreatDoor
namespace Go.K
open Go Go.Proofs.YtgloknkcfchnlaaGreatDoor
theorem aK4 {l0:List En} {h:Int}:∀(txs:List Tx) (i:Nat) (m:List En),(gF l0 h i txs m).2.1=0→(gF l0 h i txs m).2.2.2= -1
 | [],_,_,_=>rfl
 |t::ts,i,m,h0=>by
  unfold gF at h0 ⊢
  split
  ·rename_i hc
   rw [if_pos hc] at h0
   exact absurd h0 hc
  ·rename_i hc
   rw [if_neg hc] at h0
   exact aK4 ts (i+1) _ h0
theorem aEy {l:List En} {txs:List Tx} {b:Int} (h0:(aP l txs b).2.1=0):(aP l txs b).2.2.2= -1:=by
 unfold aP at h0 ⊢
 split
 ·rfl
 ·rename_i hc
  rw [if_neg hc] at h0
  exact aK4 _ _ _ h0
theorem aLc (l:List En) (h:Int):aP l [] h=if h<0∨h>1000000 then (l,3, -1, -1) else (l,0, -1, -1):=by
 unfold aP
 split<;>rfl
end Go.K
namespace Go.Proofs.YtgloknkcfchnlaaGreatDoor
open Go Go.K
end Go.Proofs.YtgloknkcfchnlaaGreatDoor
end
