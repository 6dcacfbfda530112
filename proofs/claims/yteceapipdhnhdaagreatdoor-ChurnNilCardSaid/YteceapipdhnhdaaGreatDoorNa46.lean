/- Contracts: the fee of a transaction, by the document. Contra -/
import Derived.Test.YteceapipdhnhdaaGreatDoorNa43
import Derived.Test.YteceapipdhnhdaaGreatDoorNa45
set_option linter.unusedVariables false
set_option linter.unusedSimpArgs false
namespace Go.Proofs.YteceapipdhnhdaaGreatDoor
section
open Go Go.K
attribute [local irreducible] aH aM aY KOp.wp K.Spec u32 leS vnS str aP cA bS cO gU lL cX hZ iD aG aN bK idT aQ inE
theorem bKs (V:List En) (q:Pt):(∃n,∃h:n<V.length,jP V q=(n:Nat)∧aS V q=some V[n].2)∨(jP V q= -1∧aS V q=none):=by
 unfold jP
 cases hi:eN V q with
 |none=>exact .inr ⟨rfl,wI hi⟩
 |some n=>exact .inl ⟨n,aT6 hi,rfl,wH hi (aT6 hi)⟩
theorem aX7 {f:Pt→Option Cn} {t:Tx} {h:Int} {x:TIn} (e:f x.p=none):inE f t h x=8:=by unfold inE;rw [e]
theorem bAq {f:Pt→Option Cn} {t:Tx} {h:Int} {x:TIn} {c:Cn} (e:f x.p=some c) (h1:hZ c.s t x≠0):inE f t h x=hZ c.s t x:=by unfold inE;rw [e];simp only;rw [if_pos h1]
theorem bAa {f:Pt→Option Cn} {t:Tx} {h:Int} {x:TIn} {c:Cn} (e:f x.p=some c) (h1:hZ c.s t x=0) (h2:iD t x c.h h=false):inE f t h x=10:=by unfold inE;rw [e];simp only;rw [if_neg (by rw [h1];decide),h2];rfl
theorem bO9 {f:Pt→Option Cn} {t:Tx} {h:Int} {x:TIn} {c:Cn} (e:f x.p=some c) (h1:hZ c.s t x=0) (h2:iD t x c.h h=true):inE f t h x=0:=by unfold inE;rw [e];simp only;rw [if_neg (by rw [h1];decide),h2];rfl
theorem bI7 {f:Pt→Option Cn} {x:TIn} {c:Cn} (e:f x.p=some c):inV f x=c.v:=by unfold inV;rw [e];rfl
def aF2 (f:Pt→Option Cn) (t:Tx) (h:Int):Value:=.tuple #[.int .i64 (gJ f t h).1,.int .i64 (gJ f t h).2.1,.int .i64 (gJ f t h).2.2]
set_option maxHeartbeats 4000000 in
theorem aTb {M:List Nat} {v:Value} {cs:List Value} {t:Tx} {l:List En} (h:Int) (w:World) (hv:SlE cQ w v l) (ht:txR.rel M w cs t) (hs:t.Sm) (hn:l.length≤100000) (hl:∀e∈l,e.2.s.size≤1000000):
  K.Spec Tryz.prog F.kedgeref11_Fee [v,.agg cs.toArray,.int .i64 h] w fun r w'=>r=aF2 (aS l) t h∧Ext w w':=by
 have ht0:=ht
 have hin:=hs.ins
 obtain ⟨iv,ov,rfl,h1,h2,h3,h4⟩:=ht
 by_cases hc:aG t=0
 ·obtain ⟨hpos,hbase⟩:=aNw hc
  have hw:=fun {i} (hi:i<t.ins.length)=>aWt hc hi
  cases hg:aN t with
  |true=>
   rw [hg] at hbase
   have e:aF2 (aS l) t h=.tuple #[.int .i64 0,.int .i64 4,.int .i64 (-1)]:=by unfold aF2;rw [aJy hc hg]
   rw [e]
   refine qA rfl ?_
   unfold kK
   refine oy ?_
   repeat' (first|refine zD rfl rfl (fun bp wp xp ap (rp:Row wp ⟨bp,0,none⟩ (aK t iv ov)) hp0=>?_)|(refine zC (d:=some 21) rfl (qU (M:=M) (t:=t) (cs:=aK t iv ov) _ (R.ext ht0 (by exact fx)) hs) ?_;rintro _ w2 ⟨rfl,x2⟩;rw [hc])|(refine aR (d:=some 27) (E:=inR) (M:=M) rfl rfl (n:=0) (l:=t.ins) (SlR.ext h1 (by exact fx)) rfl hpos (fun ad cs r4 he=>?_);obtain ⟨wv,rfl,hwv,hp5,hp6⟩:=he)|(refine zC (d:=some 30) rfl (aAb t.ins[0].p _) ?_;rintro _ w3 ⟨rfl,x3⟩;rw [hbase])|(first|refine go2 ?_|fail))
   exact aA rfl ⟨rfl,by exact fx⟩
  |false=>
   rw [hg] at hbase
   refine qA rfl ?_
   unfold kK
   refine oy ?_
   repeat' (first|refine zD (d:=some 4) rfl rfl (fun bp wp xp ap (rp:Row wp ⟨bp,0,none⟩ (aK t iv ov)) hp0=>?_)|(refine zC (d:=some 21) rfl (qU (M:=M) (t:=t) (cs:=aK t iv ov) _ (R.ext ht0 (by exact fx)) hs) ?_;rintro _ w2 ⟨rfl,x2⟩;rw [hc])|(refine aR (d:=some 27) (E:=inR) (M:=M) rfl rfl (n:=0) (l:=t.ins) (SlR.ext h1 (by exact fx)) rfl hpos (fun ad cs r4 he=>?_);obtain ⟨wv,rfl,hwv,hp5,hp6⟩:=he)|(refine zC (d:=some 30) rfl (aAb t.ins[0].p _) ?_;rintro _ w3 ⟨rfl,x3⟩;rw [hbase])|(refine aJ (fun (p:Nat × Value) w'=>Ext wp w'∧p.1≤t.ins.length∧Own aCl T.int wp.heap.size w' p.2 ((t.ins.take p.1).map (inV (aS l)))∧∀j,j<p.1→∀hj:j<t.ins.length,inE (aS l) t h t.ins[j]=0) (fun p=> [(0,v),(2,.int .i64 h),(4,.pointer (some ⟨bp,0,none⟩)),(11,p.2),(12,.int .i64 (p.1:Nat))]) (fun p=>t.ins.length - p.1) (0,.slice none 0 0) ⟨rfl,rfl,rfl,rfl,rfl,trivial⟩ ⟨by exact fx,by simp,Own.nil _ _ _,fun j hj=>absurd hj (by simp)⟩ ?_;rintro ⟨i,v11⟩ ρ w4 ⟨x4,hi,ho,hk⟩;simp only at hi ho hk;dsimp only)|refine zG (d:=some 35) (E:=inR) (M:=M) (l:=t.ins) rfl (SlR.ext h1 (by exact fx)) ?_|refine zL (x:=.tmp 36) (p:=((i:Nat):Int)<((t.ins.length:Nat):Int)) rfl (fun h9=>?_) (fun h9=>?_)|(first|refine go2 ?_|fail))
   ·have hil:i<t.ins.length:=by omega
    have hwi:=hw hil
    have stop:inE (aS l) t h t.ins[i]≠0→aF2 (aS l) t h=.tuple #[.int .i64 0,.int .i64 (inE (aS l) t h t.ins[i]),.int .i64 (i:Nat)]:=fun he=>by unfold aF2;rw [bB2 hc hg hil hk he]
    have rp4:Row w4 ⟨bp,0,none⟩ (aK t iv ov):=rp.ext x4
    have x04:Ext w w4:=by exact fx
    have ht4:=R.ext ht0 x04
    have h14:=h1.ext x04
    have hv4:=hv.ext x04
    have x04':Unit→Ext w w4:=fun _=>x04
    have x4':Unit→Ext wp w4:=fun _=>x4
    clear x04 x4 xp x2 x3
    repeat' (first|(refine aR (d:=some 43) (E:=inR) (M:=M) rfl rfl (n:=i) (l:=t.ins) (SlR.ext h14 (by exact fx)) rfl hil (fun ad cs r4 he=>?_);obtain ⟨wv2,rfl,hwv2,hp52,hp62⟩:=he)|(refine zC (d:=some 46) rfl (aDi t.ins[i].p _ (SlE.ext (w:=w4) (by exact fx) hv4) hn) ?_;rintro _ w5 ⟨rfl,x5⟩)|(first|refine go2 ?_|fail))
    rcases bKs l t.ins[i].p with ⟨n,hnl,e1,e2⟩|⟨e1,e2⟩
    ·rw [e1]
     obtain ⟨c,hcc⟩:∃c,c=l[n].2:=⟨_,rfl⟩
     have hcs:c.s.size≤1000000:=by rw [hcc];exact hl _ (gMe hnl)
     rw [←hcc] at e2
     by_cases ho0:hZ c.s t t.ins[i]=0
     ·cases hrp:iD t t.ins[i] c.h h with
      |false=>
       rw [stop (by rw [bAa e2 ho0 hrp];decide),bAa e2 ho0 hrp]
       repeat' (first|refine zL (x:=.tmp 48) rfl (fun h=>absurd h (by omega)) (fun _=>?_)|refine aT (d:=some 52) (E:=cQ) rfl rfl (n:=n) (l:=l) (SlE.ext (w:=w4) (by exact fx) hv4) rfl hnl (fun ad52 r52=>?_)|(refine zE (d':=14) (fun _=>rfl) rfl rfl (by rfl) (fun b7 w7 x7 a7 (r7:Row w7 ⟨b7,0,none⟩ l[n].2.cs) hb7=>?_);rw [←hcc] at r7)|(refine zC (d:=some 60) rfl (aF5 (M:=M) (t:=t) (cs:=aK t iv ov) c.s hcs i hil hin hwi _ (R.ext ht4 (by exact fx))) ?_;rintro _ w8 ⟨rfl,x8⟩;rw [ho0])|(refine zC (d:=some 70) rfl (aQh (M:=M) (t:=t) (cs:=aK t iv ov) i hil hin c.h h _ (R.ext ht4 (by exact fx))) ?_;rintro _ w9 ⟨rfl,x9⟩;rw [hrp])|(first|refine go2 ?_|fail))
       exact aA rfl ⟨rfl,(x04' ()).trans (by exact fx)⟩
      |true=>
       have hok:=bO9 (h:=h) e2 ho0 hrp
       have hiv:=bI7 e2
       repeat' (first|refine zL (x:=.tmp 48) rfl (fun h=>absurd h (by omega)) (fun _=>?_)|refine aT (d:=some 52) (E:=cQ) rfl rfl (n:=n) (l:=l) (SlE.ext (w:=w4) (by exact fx) hv4) rfl hnl (fun ad52 r52=>?_)|(refine zE (d':=14) (fun _=>rfl) rfl rfl (by rfl) (fun b7 w7 x7 a7 (r7:Row w7 ⟨b7,0,none⟩ l[n].2.cs) hb7=>?_);rw [←hcc] at r7)|(refine zC (d:=some 60) rfl (aF5 (M:=M) (t:=t) (cs:=aK t iv ov) c.s hcs i hil hin hwi _ (R.ext ht4 (by exact fx))) ?_;rintro _ w8 ⟨rfl,x8⟩;rw [ho0])|(refine zC (d:=some 70) rfl (aQh (M:=M) (t:=t) (cs:=aK t iv ov) i hil hin c.h h _ (R.ext ht4 (by exact fx))) ?_;rintro _ w9 ⟨rfl,x9⟩;rw [hrp])|refine zI (d:=some 78) (cs:= [.int .i64 c.v]) rfl (fun b8 w8 x8 a8 hb8=>?_)|refine bZ (d:=some 79) (E:=aCl) (v:=v11) (l2:= [c.v]) rfl (ho.ext (by exact fx)) (nTr (Ext.size (x4' ())) (Ext.size (w:=w4) (by exact fx))) rfl rfl (dR a8 rfl) rfl rfl (by simp;omega) (fun v10 w10 o10 c10=>?_)|(first|refine go2 ?_|fail))
       have x410:=Ext.chg ((x4' ()).trans (show Ext w4 _ by exact fx)) c10
       exact ⟨(i+1,v10),⟨rfl,rfl,rfl,rfl,rfl,trivial⟩,⟨x410.mono (fun b hb=>.inr (ho.base b hb)),by simp only;omega,by simp only;rw [List.take_succ_eq_append_getElem hil,List.map_append,List.map_cons,List.map_nil,hiv];exact o10,fun j hj hjl=>by
        simp only at hj
        by_cases e:j=i
        ·subst e;exact hok
        ·exact hk j (by omega) hjl⟩,by simp only;omega⟩
     ·rw [stop (by rw [bAq e2 ho0];exact ho0),bAq e2 ho0]
      repeat' (first|refine zL (x:=.tmp 48) rfl (fun h=>absurd h (by omega)) (fun _=>?_)|refine aT (d:=some 52) (E:=cQ) rfl rfl (n:=n) (l:=l) (SlE.ext (w:=w4) (by exact fx) hv4) rfl hnl (fun ad52 r52=>?_)|(refine zE (d':=14) (fun _=>rfl) rfl rfl (by rfl) (fun b7 w7 x7 a7 (r7:Row w7 ⟨b7,0,none⟩ l[n].2.cs) hb7=>?_);rw [←hcc] at r7)|(refine zC (d:=some 60) rfl (aF5 (M:=M) (t:=t) (cs:=aK t iv ov) c.s hcs i hil hin hwi _ (R.ext ht4 (by exact fx))) ?_;rintro _ w8 ⟨rfl,x8⟩)|refine zN (x:=.tmp 62) (p:=hZ c.s t t.ins[i]=0) rfl (fun _=>?_) (fun h=>absurd h ho0)|(first|refine go2 ?_|fail))
      exact aA rfl ⟨rfl,(x04' ()).trans (by exact fx)⟩
    ·rw [e1,stop (by rw [aX7 e2];decide),aX7 e2]
     repeat' (first|(first|refine go2 ?_|fail))
     exact aA rfl ⟨rfl,(x04' ()).trans (by exact fx)⟩
   ·have ei:i=t.ins.length:=by omega
    subst ei
    rw [List.take_length] at ho
    have x04:Ext w w4:=by exact fx
    have ht4:=R.ext ht0 x04
    have rp4:Row w4 ⟨bp,0,none⟩ (aK t iv ov):=rp.ext x4
    have hfa:=aV5 hc hg fun j hj=>hk j hj hj
    have hlen:((t.ins.map (inV (aS l))).length)≤1000000000000:=by simp;omega
    have x04':Unit→Ext w w4:=fun _=>x04
    clear x04 xp x2 x3 x4
    by_cases hsum:nO (t.ins.map (inV (aS l)))=0
    ·have hgood:=(bR _).1 (sM hsum)
     have hgv:=(bR _).1 (sM (aKd hc))
     rw [if_neg (by simpa using hsum)] at hfa
     by_cases hv8:gX (values t)>gX (t.ins.map (inV (aS l)))
     ·rw [if_pos hv8] at hfa
      rw [show aF2 (aS l) t h=.tuple #[.int .i64 0,.int .i64 12,.int .i64 (-1)] by unfold aF2;rw [hfa]]
      repeat' (first|(refine zC (d:=some 82) rfl (aDt (l:=t.ins.map (inV (aS l))) _ (SlE.ext (w:=w4) (by exact fx) ho.sl) hlen) ?_;rintro _ _ ⟨rfl,rfl⟩;rw [hsum])|(refine zC (d:=some 90) rfl (aCu (M:=M) (t:=t) (cs:=aK t iv ov) _ (R.ext ht4 (by exact fx)) hs) ?_;rintro _ w5 ⟨rfl,x5⟩)|refine zL (x:=.tmp 95) (p:=gX (values t)>gX (t.ins.map (inV (aS l)))) rfl (fun _=>?_) (fun h=>absurd hv8 h)|(first|refine go2 ?_|fail))
      exact aA rfl ⟨rfl,(x04' ()).trans (by exact fx)⟩
     ·rw [if_neg hv8] at hfa
      rw [show aF2 (aS l) t h=.tuple #[.int .i64 (gX (t.ins.map (inV (aS l))) - gX (values t)),.int .i64 0,.int .i64 (-1)] by unfold aF2;rw [hfa]]
      repeat' (first|(refine zC (d:=some 82) rfl (aDt (l:=t.ins.map (inV (aS l))) _ (SlE.ext (w:=w4) (by exact fx) ho.sl) hlen) ?_;rintro _ _ ⟨rfl,rfl⟩;rw [hsum])|(refine zC (d:=some 90) rfl (aCu (M:=M) (t:=t) (cs:=aK t iv ov) _ (R.ext ht4 (by exact fx)) hs) ?_;rintro _ w5 ⟨rfl,x5⟩)|refine zL (x:=.tmp 95) (p:=gX (values t)>gX (t.ins.map (inV (aS l)))) rfl (fun h=>absurd h hv8) (fun _=>?_)|(first|refine go2 ?_|fail))
      exact aA rfl ⟨rfl,(x04' ()).trans (by exact fx)⟩
    ·rw [if_pos hsum] at hfa
     rw [show aF2 (aS l) t h=.tuple #[.int .i64 0,.int .i64 (nO (t.ins.map (inV (aS l)))),.int .i64 (-1)] by unfold aF2;rw [hfa]]
     repeat' (first|(refine zC (d:=some 82) rfl (aDt (l:=t.ins.map (inV (aS l))) _ (SlE.ext (w:=w4) (by exact fx) ho.sl) hlen) ?_;rintro _ _ ⟨rfl,rfl⟩)|refine zN (x:=.tmp 86) (p:=nO (t.ins.map (inV (aS l)))=0) rfl (fun _=>?_) (fun h=>absurd h hsum)|(first|refine go2 ?_|fail))
     exact aA rfl ⟨rfl,(x04' ()).trans (by exact fx)⟩
 ·have e:aF2 (aS l) t h=.tuple #[.int .i64 0,.int .i64 (aG t),.int .i64 (-1)]:=by unfold aF2;rw [bEe hc]
  rw [e]
  refine qA rfl ?_
  unfold kK
  refine oy ?_
  repeat' (first|refine zD rfl rfl (fun bp wp xp ap (rp:Row wp ⟨bp,0,none⟩ (aK t iv ov)) hp0=>?_)|(refine zC (d:=some 21) rfl (qU (M:=M) (t:=t) (cs:=aK t iv ov) _ (R.ext ht0 (by exact fx)) hs) ?_;rintro _ w2 ⟨rfl,x2⟩)|refine zN (x:=.tmp 23) (p:=aG t=0) rfl (fun _=>?_) (fun h=>absurd h hc)|(first|refine go2 ?_|fail))
  exact aA rfl ⟨rfl,by exact fx⟩
end
end Go.Proofs.YteceapipdhnhdaaGreatDoor
section
namespace Go.K
open Go Go.Proofs.YteceapipdhnhdaaGreatDoor
end Go.K
namespace Go.Proofs.YteceapipdhnhdaaGreatDoor
open Go Go.K
attribute [local irreducible] aH aM aY KOp.wp K.Spec u32 leS vnS str aP cA bS cO gU lL cX hZ iD aG aN bK idT aQ inE gJ nZ mY gG fP
theorem bJb:∀{l:List TIn} (h:0<l.length),l[0]=l.headD default
 |_::_,_=>rfl
def bK2 (vl:Value) (l:List En) (t:Tx) (i:Nat) (h:Int):Value:=.tuple #[vl,.int .i64 (gG l t i h).2.1,.int .i64 (gG l t i h).2.2]
set_option maxHeartbeats 4000000 in
theorem bAw {M:List Nat} {v:Value} {cs:List Value} {t:Tx} {l:List En} (i:Nat) (h:Int) (w:World) (hi:i≤100000) (hv:SlE cQ w v l) (hg:CG l) (hsc:SC l) (ht:txR.rel M w cs t) (hs:t.Sm) (hn:l.length+t.outs.length≤90000):
  K.Spec Tryz.prog F.kedgeref12_One [v,.agg cs.toArray,.int .i64 (i:Nat),.int .i64 h] w fun r w'=>∃vl,r=bK2 vl l t i h∧SlE cQ w' vl (gG l t i h).1∧rS v vl l (gG l t i h).1 w.heap.size∧Ext w w':=by
 have ht0:=ht
 have hin:=hs.ins
 have hout:=hs.outs
 have hl6:∀e∈l,e.2.s.size≤1000000:=fun e he=>by have:=(hsc e he).1;omega
 obtain ⟨iv,ov,rfl,h1,h2,h3,h4⟩:=ht
 have h41:=h4.1
 have h42:=h4.2
 have fail:∀{w':World} {c p:Int},Ext w w'→gG l t i h=(l,c,p)→∃vl,Value.tuple #[v,.int .i64 c,.int .i64 p]=bK2 vl l t i h∧SlE cQ w' vl (gG l t i h).1∧rS v vl l (gG l t i h).1 w.heap.size∧Ext w w':=fun x e=>⟨v,by unfold bK2;rw [e],by rw [e];exact hv.ext x,.inl ⟨rfl,by rw [e]⟩,x⟩
 refine aJk rfl ?_
 unfold xZ
 refine oy ?_
 repeat (first|refine zD (d:=some 5) rfl rfl (fun bp wp xp ap (rp:Row wp ⟨bp,0,none⟩ (aK t iv ov)) hp0=>?_)|refine rH (a:=.seq (.reg false (.cons ⟨some 21,_,none⟩ _)) _) (fun (_:Unit) w'=>Ext wp w') (fun _=> [(0,v),(2,.int .i64 (i:Nat)),(3,.int .i64 h),(5,.pointer (some ⟨bp,0,none⟩)),(11,.bool (aN t))]) ?_ ?_|(first|refine go2 ?_|fail))
 ·by_cases hone:t.ins.length=1
  ·have hpos:0<t.ins.length:=by omega
   have hb:kB t.ins[0].p=aN t:=by
    rw [show aN t=(decide (t.ins.length=1)&&kB (t.ins.headD default).p) by unfold aN;rfl,dTr hone,Bool.true_and]
    rw [bJb hpos]
   repeat' (first|refine zG (d:=some 23) (E:=inR) (M:=M) (l:=t.ins) rfl (SlR.ext h1 (by exact fx)) ?_|refine zL (x:=.tmp 24) rfl (fun _=>?_) (fun h=>absurd (by omega) h)|(refine aR (d:=some 27) (E:=inR) (M:=M) rfl rfl (n:=0) (l:=t.ins) (SlR.ext h1 (by exact fx)) rfl hpos (fun ad cs r4 he=>?_);obtain ⟨wv,rfl,hwv,hp5,hp6⟩:=he)|(refine zC (d:=some 30) rfl (aAb t.ins[0].p _) ?_;rintro _ w3 ⟨rfl,x3⟩;rw [hb])|(first|refine go2 ?_|fail))
   exact ⟨(),⟨rfl,rfl,rfl,rfl,rfl,trivial⟩,by exact fx⟩
  ·have hb:aN t=false:=by
    rw [show aN t=(decide (t.ins.length=1)&&kB (t.ins.headD default).p) by unfold aN;rfl,dFa hone,Bool.false_and]
   repeat' (first|refine zG (d:=some 23) (E:=inR) (M:=M) (l:=t.ins) rfl (SlR.ext h1 (by exact fx)) ?_|refine zL (x:=.tmp 24) rfl (fun h=>absurd h (by omega)) (fun _=>?_)|(first|refine go2 ?_|fail))
   exact ⟨(),⟨rfl,rfl,rfl,rfl,by rw [hb];rfl,trivial⟩,by exact fx⟩
 rintro _ ρ w1 x1
 refine rH (a:=.seq (.reg false (.cons ⟨some 31,_,none⟩ _)) _) (fun (_:Unit) w'=>Ext wp w'∧(nZ l t i h).1=0) (fun _=> [(0,v),(3,.int .i64 h),(5,.pointer (some ⟨bp,0,none⟩)),(11,.bool (aN t))]) ?_ ?_
 ·cases hgr:aN t with
  |true=>
   by_cases hc:aG t=0
   ·repeat' (first|(refine zC (d:=some 33) rfl (qU (M:=M) (t:=t) (cs:=aK t iv ov) _ (R.ext ht0 (by exact fx)) hs) ?_;rintro _ w2 ⟨rfl,x2⟩;rw [hc])|refine aL (d:=some 43) (.int .i64 t.lock) rfl (congrArg (fun n=>some (Value.int .i64 n)) (IntWalk.i64_in _ (by omega))) ?_|refine zJ (t:=40) (p:=((i:Nat):Int)>0) rfl (fun hi0=>?_) (fun hi0=>?_)|refine zN (x:=.tmp 46) (p:=t.lock=h) rfl (fun hl0=>?_) (fun hl0=>?_)|(first|refine go2 ?_|fail))
    ·exact aA rfl (fail (by exact fx) (by have e:=aI8 (l:=l) hgr hc (h:=h) (i:=i) (.inl (by omega));rw [aIq (by rw [e];decide),e]))
    ·exact aA rfl (fail (by exact fx) (by have e:=aI8 (l:=l) hgr hc (h:=h) (i:=i) (.inr hl0);rw [aIq (by rw [e];decide),e]))
    ·exact ⟨(),⟨rfl,rfl,rfl,rfl,trivial⟩,by exact fx,by rw [bJz (l:=l) hgr hc (h:=h) (i:=i) (by omega)]⟩
   ·repeat' (first|(refine zC (d:=some 33) rfl (qU (M:=M) (t:=t) (cs:=aK t iv ov) _ (R.ext ht0 (by exact fx)) hs) ?_;rintro _ w2 ⟨rfl,x2⟩)|refine zN (x:=.tmp 35) (p:=aG t=0) rfl (fun _=>?_) (fun h=>absurd h hc)|(first|refine go2 ?_|fail))
    exact aA rfl (fail (by exact fx) (by have e:=bFb (l:=l) (h:=h) (i:=i) hgr hc;rw [aIq (by rw [e];exact hc),e]))
  |false=>
   have e:=bFe (l:=l) (h:=h) (i:=i) hgr
   by_cases hf:(gJ (aS l) t h).2.1=0
   ·repeat' (first|(refine zC (d:=some 52) rfl (aTb (M:=M) (t:=t) (cs:=aK t iv ov) (l:=l) h _ (SlE.ext (w:=w) (by exact fx) hv) (R.ext ht0 (by exact fx)) hs (by omega) hl6) ?_;rintro _ w2 ⟨rfl,x2⟩;unfold aF2;rw [hf])|(first|refine go2 ?_|fail))
    exact ⟨(),⟨rfl,rfl,rfl,rfl,trivial⟩,by exact fx,by rw [e];exact hf⟩
   ·repeat' (first|(refine zC (d:=some 52) rfl (aTb (M:=M) (t:=t) (cs:=aK t iv ov) (l:=l) h _ (SlE.ext (w:=w) (by exact fx) hv) (R.ext ht0 (by exact fx)) hs (by omega) hl6) ?_;rintro _ w2 ⟨rfl,x2⟩;unfold aF2)|refine zN (x:=.tmp 57) (p:=(gJ (aS l) t h).2.1=0) rfl (fun _=>?_) (fun h=>absurd h hf)|(first|refine go2 ?_|fail))
    exact aA rfl (fail (by exact fx) (by rw [aIq (by rw [e];exact hf),e]))
 clear x1
 rintro _ ρ w1 ⟨x1,hmay⟩
 have hc:=aJs hmay
 have hsz:=cI hs hc
 have rp1:Row w1 ⟨bp,0,none⟩ (aK t iv ov):=Row.ext x1 rp
 have x01:Ext w w1:=xp.trans x1
 have hv1:=hv.ext x01
 have ht1:=R.ext ht0 x01
 have h11:=h1.ext x01
 have h21:=h2.ext x01
 have x01':Unit→Ext w w1:=fun _=>x01
 clear x01 x1 xp ap rp hv ht0 h1 h2
 repeat (first|refine rH (a:=.seq (.reg false (.cons ⟨some 17,_,none⟩ _)) _) (fun (vm:Value) w'=>Ext w1 w'∧SlE cQ w' vm (oW l t)∧rS v vm l (oW l t) w.heap.size) (fun vm=> [(0,v),(3,.int .i64 h),(5,.pointer (some ⟨bp,0,none⟩)),(16,vm)]) ?_ ?_|(first|refine go2 ?_|fail))
 ·cases hgr:aN t with
  |true=>
   repeat' (first|(refine aJ (fun (_:Unit) w'=>Ext w1 w') (fun _=> [(0,v),(3,.int .i64 h),(5,.pointer (some ⟨bp,0,none⟩)),(11,.bool true),(16,v),(17,.int .i64 0)]) (fun _=>0) () ⟨rfl,rfl,rfl,rfl,rfl,rfl,trivial⟩ (Ext.refl _) ?_;rintro _ ρ w2 x2)|refine zG (d:=some 65) (E:=inR) (M:=M) (l:=t.ins) rfl (SlR.ext h11 (by exact fx)) ?_|refine zJ (t:=67) rfl (fun hh=>?_) (fun hh=>?_)|(first|refine go2 ?_|fail))
   all_goals exact ⟨v,⟨rfl,rfl,rfl,rfl,trivial⟩,by exact fx,by unfold oW;rw [if_pos hgr];exact hv1.ext (by exact fx),.inl ⟨rfl,by unfold oW;rw [if_pos hgr]⟩⟩
  |false=>
   repeat' (first|(refine aJ (fun (p:Nat × Value) w'=>Ext w1 w'∧p.1≤t.ins.length∧SlE cQ w' p.2 (fP l (t.ins.take p.1))∧rS v p.2 l (fP l (t.ins.take p.1)) w.heap.size) (fun p=> [(0,v),(3,.int .i64 h),(5,.pointer (some ⟨bp,0,none⟩)),(11,.bool false),(16,p.2),(17,.int .i64 (p.1:Nat))]) (fun p=>t.ins.length - p.1) (0,v) ⟨rfl,rfl,rfl,rfl,rfl,rfl,trivial⟩ ⟨Ext.refl _,by simp,by unfold fP;exact hv1,.inl ⟨rfl,by unfold fP;rfl⟩⟩ ?_;rintro ⟨k,vm⟩ ρ w2 ⟨x2,hk,hvm,hbm⟩;simp only at hk hvm hbm;dsimp only)|refine zG (d:=some 65) (E:=inR) (M:=M) (l:=t.ins) rfl (SlR.ext h11 (by exact fx)) ?_|refine zJ (t:=67) (p:=((k:Nat):Int)<((t.ins.length:Nat):Int)) rfl (fun hh=>?_) (fun hh=>?_)|(first|refine go2 ?_|fail))
   ·have hkl:k<t.ins.length:=by omega
    have hlen:=aDg (t.ins.take k) l
    repeat' (first|(refine aR (d:=some 78) (E:=inR) (M:=M) rfl rfl (n:=k) (l:=t.ins) (SlR.ext h11 (by exact fx)) rfl hkl (fun ad cs r4 he=>?_);obtain ⟨wv,rfl,hwv,hp5,hp6⟩:=he)|(refine zC (d:=some 81) rfl (aT1 t.ins[k].p _ (SlE.ext (w:=w2) (by exact fx) hvm) (by omega)) ?_;rintro _ w3 ⟨vl,rfl,hvl,hbl,x3⟩)|(first|refine go2 ?_|fail))
    exact ⟨(k+1,vl),⟨rfl,rfl,rfl,rfl,rfl,rfl,trivial⟩,⟨by exact fx,by simp only;omega,by simp only;rw [zU hkl];exact hvl,by simp only;rw [zU hkl];exact hbm.trans hbl (Ext.size (Ext.trans (x01' ()) (by exact fx)))⟩,by simp only;omega⟩
   ·have e:t.ins.take k=t.ins:=tLe (by omega)
    rw [e] at hvm
    exact ⟨vm,⟨rfl,rfl,rfl,rfl,trivial⟩,by exact fx,by unfold oW;rw [if_neg (by rw [hgr];decide)];exact hvm.ext (by exact fx),by unfold oW;rw [if_neg (by rw [hgr];decide)];rw [e] at hbm;exact hbm⟩
 rintro vm ρ w2 ⟨x2,hvm,hbm⟩
 have hgm:=aNh hg t
 have hlm:=aZ2 l t
 repeat' (first|(refine zC (d:=some 86) rfl (aZ7 (M:=M) (cs:=aK t iv ov) (t:=t) _ (R.ext ht1 (by exact fx)) hsz) ?_;rintro _ w3 ⟨rfl,x3⟩)|(refine aJ (fun (p:Nat × Value × List En) w'=>Ext w1 w'∧p.1≤t.outs.length∧SlE cQ w' p.2.1 p.2.2∧CG p.2.2∧p.2.2.length≤l.length+p.1∧rS v p.2.1 l p.2.2 w.heap.size∧aE8 (idT t) h t.outs (oW l t) p.1 p.2.2) (fun p=> [(0,v),(3,.int .i64 h),(5,.pointer (some ⟨bp,0,none⟩)),(16,p.2.1),(18,.string (idT t)),(19,.int .i64 (p.1:Nat))]) (fun p=>t.outs.length - p.1) (0,vm,oW l t) ⟨rfl,rfl,rfl,rfl,rfl,rfl,trivial⟩ ⟨by exact fx,by simp,hvm.ext (by exact fx),hgm,by simpa using hlm,hbm,aOi⟩ ?_;rintro ⟨k,vk,mk⟩ ρ w4 ⟨x4,hk,hvk,hgk,hlk,hbk,hpk⟩;simp only at hk hvk hgk hlk hbk hpk;dsimp only)|refine zG (d:=some 90) (E:=gF) (M:=M) (l:=t.outs) rfl (SlR.ext h21 (by exact fx)) ?_|(first|refine go2 ?_|fail))
 refine zL (x:=.tmp 91) (p:=((k:Nat):Int)<((t.outs.length:Nat):Int)) rfl (fun h9=>?_) (fun h9=>?_)
 ·have hkl:k<t.outs.length:=by omega
  clear x2 x3 hvm
  repeat' (first|refine aL (d:=some 98) (.int .u32 (k:Nat)) rfl (congrArg (fun n=>some (Value.int .u32 n)) (by rw [wrap32];omega)) ?_|refine aZ (d:=some 99) (cs:=(⟨idT t,(k:Nat)⟩:Pt).cs) rfl ?_|(refine aR (d:=some 103) (E:=gF) (M:=M) rfl rfl (n:=k) (l:=t.outs) (SlR.ext h21 (by exact fx)) rfl hkl (fun ad cs r4 he=>?_);obtain ⟨rfl, -⟩:=he)|refine aZ (d:=some 106) (cs:=(outC t.outs[k] h).cs) rfl ?_|(refine zC (d:=some 107) rfl (aZh ⟨idT t,(k:Nat)⟩ (outC t.outs[k] h) _ (SlE.ext (w:=w4) (by exact fx) hvk) (by omega) hgk.mon) ?_;rintro _ w5 ⟨vl,rfl,hvl,hbl,x5⟩)|refine zN (x:=.tmp 111) (p:=aV mk ⟨idT t,(k:Nat)⟩ (outC t.outs[k] h)=0) rfl (fun h6=>?_) (fun h6=>?_)|(first|refine go2 ?_|fail))
  ·have e:=aSw hkl hpk h6
   exact aA rfl (fail ((x01' ()).trans (by exact fx)) (by rw [aVv hmay (by rw [e];exact h6),e]))
  ·have hlp:=aOq mk ⟨idT t,(k:Nat)⟩ (outC t.outs[k] h) hgk.srt
   exact ⟨(k+1,vl,cR mk ⟨idT t,(k:Nat)⟩ (outC t.outs[k] h)),⟨rfl,rfl,rfl,rfl,rfl,rfl,trivial⟩,⟨by exact fx,by simp only;omega,hvl,hgk.put _ _,by simp only;omega,hbk.trans hbl (Ext.size (Ext.trans (x01' ()) (by exact fx))),aQi hkl hpk h6⟩,by simp only;omega⟩
 ·have e:=aRx (by omega) hpk
  have e2:=bC2 (i:=i) hmay (by rw [e])
  rw [e] at e2
  repeat' (first|refine go2 ?_|fail)
  exact aA rfl ⟨vk,by unfold bK2;rw [e2];rfl,by rw [e2];exact hvk,by rw [e2];exact hbk,(x01' ()).trans (by exact fx)⟩
end Go.Proofs.YteceapipdhnhdaaGreatDoor
end
namespace Go.Proofs.YteceapipdhnhdaaGreatDoor
section
open Go Go.K
attribute [local irreducible] aH aM aY KOp.wp K.Spec u32 leS vnS str aP aG aN bK idT aQ inE gJ nZ mY gG fP
set_option maxHeartbeats 4000000 in
theorem aRs {M:List Nat} {lv v:Value} {txs:List Tx} {l:List En} (h:Int) (w:World) (hv:SlE cQ w lv l) (hg:CG l) (hsc:SC l) (hx:SlR txR M w v txs) (hs:∀t∈txs,t.Sm) (hn:l.length+dT txs≤80000) (hk0:txs.length≤1000):
  K.Spec Tryz.prog F.kedgeref12_Apply [lv,v,.int .i64 h] w fun r w'=>∃vl,r=.tuple #[vl,.int .i64 (aX l txs h).2.1,.int .i64 (aX l txs h).2.2.1,.int .i64 (aX l txs h).2.2.2]∧SlE cQ w' vl (aX l txs h).1∧rS lv vl l (aX l txs h).1 w.heap.size∧Ext w w':=by
 refine aFi rfl ?_
 unfold uC
 refine oy ?_
 by_cases hr:0≤h∧h≤1000000
 ·have eA:aX l txs h=kG l h 0 txs l:=by unfold aX;rw [if_neg (by omega)]
  rw [eA]
  repeat' (first|refine aL (d:=some 15) (.bool false) rfl (congrArg (fun b=>some (Value.bool b)) (dFa (by omega))) ?_|refine aL (d:=some 18) (.bool false) rfl (congrArg (fun b=>some (Value.bool b)) (dFa (by omega))) ?_|(refine aJ (fun (p:Nat × Value × List En) w'=>Ext w w'∧p.1≤txs.length∧SlE cQ w' p.2.1 p.2.2∧CG p.2.2∧SC p.2.2∧aE1 l h txs p.1 p.2.2∧p.2.2.length≤l.length+dT (txs.take p.1)∧rS lv p.2.1 l p.2.2 w.heap.size) (fun p=> [(0,lv),(1,v),(2,.int .i64 h),(10,p.2.1),(11,.int .i64 (p.1:Nat))]) (fun p=>txs.length - p.1) (0,lv,l) ⟨rfl,rfl,rfl,rfl,rfl,trivial⟩ ⟨Ext.refl _,by simp,hv,hg,hsc,aNr,by simp,.inl ⟨rfl,rfl⟩⟩ ?_;rintro ⟨k,mv,m⟩ ρ w3 ⟨x3,hk,hm3,g3,sc3,hok,hml,hnw⟩;simp only at hk hm3 g3 sc3 hok hml hnw;dsimp only)|refine zG (d:=some 24) (E:=txR) (M:=M) (l:=txs) rfl (SlR.ext hx (by exact fx)) ?_|refine zL (x:=.tmp 25) (p:=((k:Nat):Int)<((txs.length:Nat):Int)) rfl (fun h6=>?_) (fun h6=>?_)|(first|refine go2 ?_|fail))
  ·have hkl:k<txs.length:=by omega
   have hst:=hs _ (gMe hkl)
   have ho:=bA9 hkl
   have ho2:=bBf txs (k+1)
   have hol:=aOb g3 txs[k] k h
   repeat (first|(refine aR (d:=some 32) (E:=txR) (M:=M) rfl rfl (n:=k) (l:=txs) (SlR.ext hx (by exact fx)) rfl hkl (fun ad cs r4 he=>?_);obtain ⟨iv,ov,rfl,p1,p2,p3⟩:=id he)|(first|refine go2 ?_|fail))
   refine zC (d:=some 36) rfl (bAw (M:=M) (cs:=aK txs[k] iv ov) (t:=txs[k]) (l:=m) k h _ (by omega) hm3 g3 sc3 he hst (by omega)) ?_
   rintro _ w4 ⟨vl,rfl,hvl,hn4,x4⟩
   unfold bK2
   by_cases h0:(gG m txs[k] k h).2.1=0
   ·rw [h0]
    repeat (first|refine go2 ?_|fail)
    exact ⟨(k+1,vl,(gG m txs[k] k h).1),⟨rfl,rfl,rfl,rfl,rfl,trivial⟩,⟨x3.trans x4,by simp only;omega,hvl,aAl g3 _ _ _,aT9 g3 sc3 _ _ _,aN1 hkl hok h0,by simp only;omega,hnw.trans hn4 x3.size⟩,by simp only;omega⟩
   ·have eR:=aR6 hkl hok h0
    rw [eR]
    repeat (first|refine aL (d:=some 41) (.bool true) rfl (congrArg (fun b=>some (Value.bool (!b))) (dFa h0)) ?_|(first|refine go2 ?_|fail))
    exact aA rfl ⟨lv,rfl,hv.ext (x3.trans x4),.inl ⟨rfl,rfl⟩,x3.trans x4⟩
  ·have ek:txs.length≤k:=by omega
   have eR:=aTt ek hok
   rw [eR]
   repeat (first|refine go2 ?_|fail)
   exact aA rfl ⟨mv,rfl,hm3,hnw,x3⟩
 ·have eA:aX l txs h=(l,3, -1, -1):=by unfold aX;rw [if_pos (by omega)]
  rw [eA]
  repeat' (first|refine zJ (t:=16) (p:=h<0) rfl (fun hh=>?_) (fun hh=>?_)|refine zL (x:=.tmp 19) rfl (fun _=>?_) (fun h=>absurd (by omega) h)|(first|refine go2 ?_|fail))
  all_goals exact aA rfl ⟨lv,rfl,hv,.inl ⟨rfl,rfl⟩,Ext.refl _⟩
theorem aHl {M:List Nat} {lv v:Value} {txs:List Tx} {l:List En} (h:Int) (w:World) (hv:SlE cQ w lv l) (hg:CG l) (hsc:SC l) (hx:SlR txR M w v txs) (hs:∀t∈txs,t.Sm) (hn:l.length+dT txs≤80000) (hk0:txs.length≤1000):
  K.Spec Tryz.prog F.kedgeref12_Apply [lv,v,.int .i64 h] w fun r w'=>∃vl,r=.tuple #[vl,.int .i64 (aX l txs h).2.1,.int .i64 (aX l txs h).2.2.1,.int .i64 (aX l txs h).2.2.2]∧SlE cQ w' vl (aX l txs h).1∧Ext w w':=
 dO (aRs h w hv hg hsc hx hs hn hk0) fun _ _ ⟨vl,h1,h2,_,h4⟩=>⟨vl,h1,h2,h4⟩
end
end Go.Proofs.YteceapipdhnhdaaGreatDoor
section
namespace Go.K
open Go Go.Proofs.YteceapipdhnhdaaGreatDoor
def aQx (b:List Tx):Prop:=b.length≤30∧dT b≤90∧∀t∈b,t.Sm
theorem bEu {l0:List En} {h:Int}:∀(txs:List Tx) (i:Nat) (m:List En),(kG l0 h i txs m).2.1=0→(kG l0 h i txs m).2.2.1= -1
 | [],_,_,_=>rfl
 |t::ts,i,m,h0=>by
  unfold kG at h0 ⊢
  split
  ·rename_i hc
   rw [if_pos hc] at h0
   exact absurd h0 hc
  ·rename_i hc
   rw [if_neg hc] at h0
   exact bEu ts (i+1) _ h0
theorem bHu {l:List En} {txs:List Tx} {b:Int} (h0:(aX l txs b).2.1=0):(aX l txs b).2.2.1= -1:=by
 unfold aX at h0 ⊢
 split
 ·rfl
 ·rename_i hc
  rw [if_neg hc] at h0
  exact bEu _ _ _ h0
theorem aK1 {bs:List (List Tx)} (h:∀b∈bs,aQx b) (k:Nat):(cK bs k).length≤90*k:=aFz (fun b hb=>(h b hb).2.1) k
end Go.K
namespace Go.Proofs.YteceapipdhnhdaaGreatDoor
open Go Go.K
attribute [local irreducible] aH aM aY KOp.wp K.Spec u32 leS vnS str aP aG aN bK idT aQ aX
set_option maxHeartbeats 4000000 in
theorem aAz {M:List Nat} {bv:Value} {bs:List (List Tx)} (top:Int) (w:World) (hv:SlR (mL txR) M w bv bs) (hb:∀b∈bs,aQx b) (hl:bs.length≤800):
  K.Spec Tryz.prog F.kedgeref13_Coins [.agg #[bv,.int .i64 top]] w fun r w'=>SlE cQ w' r (bF bs)∧Ext w w':=by
 obtain ⟨q1,q2,ebv⟩:=hv.form
 refine aFw rfl ?_
 unfold sV
 refine oy ?_
 repeat' (first|refine zD (d:=some 1) (cs:= [bv,.int .i64 top]) rfl (by rw [ebv];rfl) (fun b1 w1 x1 a1 (r1:Row w1 ⟨b1,0,none⟩ [bv,.int .i64 top]) hb1=>?_)|(refine aJ (fun (p:Nat × Value) w'=>Ext w1 w'∧p.1≤bs.length∧SlE cQ w' p.2 (cK bs p.1)) (fun p=> [(1,.pointer (some ⟨b1,0,none⟩)),(3,p.2),(4,.int .i64 (p.1:Nat))]) (fun p=>bs.length - p.1) (0,.slice none 0 0) ⟨rfl,rfl,rfl,trivial⟩ ⟨Ext.refl _,by simp,SlE.nil _⟩ ?_;rintro ⟨k,lv⟩ ρ w3 ⟨x3,hk,hlv⟩;simp only at hk hlv;dsimp only)|refine zG (d:=some 8) (E:=mL txR) (M:=M) (l:=bs) rfl (SlR.ext hv (by exact fx)) ?_|refine zL (x:=.tmp 9) (p:=((k:Nat):Int)<((bs.length:Nat):Int)) rfl (fun h6=>?_) (fun h6=>?_)|(first|refine go2 ?_|fail))
 ·have hkl:k<bs.length:=by omega
  obtain ⟨hb1,hb2,hb3⟩:=hb _ (gMe hkl)
  have hcb:=aK1 hb k
  have ek:((k:Nat):Int)+1=((k+1:Nat):Int):=by omega
  have eg:bs.getD k []=bs[k]:=by rw [List.getD_eq_getElem?_getD,List.getElem?_eq_getElem hkl];rfl
  repeat (first|(refine aR (d:=some 17) (E:=mL txR) (M:=M) rfl rfl (n:=k) (l:=bs) (SlR.ext hv (by exact fx)) rfl hkl (fun ad cs r4 he=>?_);obtain ⟨xv,rfl,hxv⟩:=he)|(first|refine go2 ?_|fail))
  rw [ek]
  refine zC (d:=some 21) rfl (aHl (M:=M) (l:=cK bs k) (txs:=bs[k]) ((k+1:Nat):Int) _ hlv (jH bs k) (sL bs k) hxv hb3 (by omega) (by omega)) ?_
  rintro _ w4 ⟨vl,rfl,hvl,x4⟩
  repeat (first|refine go2 ?_|fail)
  exact ⟨(k+1,vl),⟨rfl,rfl,rfl,trivial⟩,⟨x3.trans x4,by simp only;omega,by show SlE cQ w4 vl (cK bs (k+1));unfold cK;rw [eg];exact hvl⟩,by simp only;omega⟩
 ·have ek:k=bs.length:=by omega
  subst ek
  repeat (first|refine go2 ?_|fail)
  exact aA rfl ⟨hlv,x1.trans x3⟩
end Go.Proofs.YteceapipdhnhdaaGreatDoor
end
namespace Go.Proofs.YteceapipdhnhdaaGreatDoor
section
open Go Go.K
attribute [local irreducible] aH aM aY KOp.wp K.Spec u32 leS vnS str aP aG aN bK idT aQ aX
set_option maxHeartbeats 8000000 in
theorem aXt {M:List Nat} {bv v:Value} {ch:Ch} {txs:List Tx} (w:World) (hv:SlR (mL txR) M w bv ch.bs) (hx:SlR txR M w v txs) (hb:∀b∈ch.bs,aQx b) (hbx:aQx txs) (hl:ch.bs.length≤800) (ht:ch.top≤1000) (hM:∀y∈M,y<w.heap.size):
  K.Spec Tryz.prog F.kedgeref13_Connect [.agg #[bv,.int .i64 (ch.top:Nat)],v] w fun r w'=>∃bv',r=.tuple #[.agg #[bv',.int .i64 ((dA ch txs).top:Nat)],.int .i64 (gN ch txs).1,.int .i64 (gN ch txs).2]∧SlR (mL txR) M w' bv' (dA ch txs).bs∧Ext w w':=by
 obtain ⟨q1,q2,ebv⟩:=hv.form
 obtain ⟨q3,q4,exw⟩:=hx.form
 have hcb:=aK1 hb ch.bs.length
 have hcl:(bF ch.bs).length≤90*ch.bs.length:=hcb
 obtain ⟨hb1,hb2,hb3⟩:=hbx
 have ek:((ch.bs.length:Nat):Int)+1=((ch.bs.length+1:Nat):Int):=by omega
 refine aCm rfl ?_
 unfold qM
 refine oy ?_
 repeat (first|refine zD (d:=some 2) (cs:= [bv,.int .i64 (ch.top:Nat)]) rfl (by rw [ebv];rfl) (fun b2 w1 x1 a1 (r1:Row w1 ⟨b2,0,none⟩ [bv,.int .i64 (ch.top:Nat)]) hb2=>?_)|refine zH (d:=some 4) (fun b4 w2 x2 a2 hb4=>?_)|(first|refine go2 ?_|fail))
 refine zC (d:=some 15) rfl (aAz (M:=M) ((ch.top:Nat):Int) _ (hv.ext (x1.trans x2)) hb hl) ?_
 rintro lv w3 ⟨hlv,x3⟩
 repeat (first|refine zG (d:=some 21) (E:=mL txR) (M:=M) (l:=ch.bs) rfl (SlR.ext hv (by exact fx)) ?_|(first|refine go2 ?_|fail))
 rw [ek]
 have x03:Ext w w3:=x1.trans (x2.trans x3)
 refine zC (d:=some 23) rfl (aHl (M:=M) (l:=bF ch.bs) (txs:=txs) ((ch.bs.length+1:Nat):Int) _ hlv (jH _ _) (sL _ _) (hx.ext x03) hb3 (by omega) (by omega)) ?_
 rintro _ w4 ⟨vl,rfl,hvl,x4⟩
 have x04:Ext w w4:=x03.trans x4
 have a24:=At.ext (x3.trans x4) a2
 have l2:=a1.lt
 have hb24:w.heap.size≤b4:=nTr x1.size hb4
 have s12:=x1.size
 have s04:=x04.size
 have r14:Row w4 ⟨b2,0,none⟩ [bv,.int .i64 (ch.top:Nat)]:=Row.ext (x2.trans (x3.trans x4)) r1
 have l4:=a2.lt
 have s24:=(x3.trans x4).size
 clear x1 x2 x3 x4 a1 a2 r1 x03
 by_cases h0:(gN ch txs).1=0
 ·have e2:dA ch txs=⟨ch.bs++ [txs],max ch.top (ch.bs.length+1)⟩:=by
   unfold dA
   rw [if_neg (by simpa using h0)]
  have e1:(gN ch txs).2= -1:=bHu h0
  have h0':(aX (bF ch.bs) txs ((ch.bs.length+1:Nat):Int)).2.1=0:=h0
  rw [h0',e1,e2,h0]
  repeat (first|refine zH (d:=some 12) (fun b12 w5 x5 a5 hb12=>?_)|(first|refine go2 ?_|fail))
  have l12:=a5.lt
  have s45:=x5.size
  have hv4:=hv.ext x04
  have hx4:=hx.ext x04
  have hMl:∀y∈b12::b4::M,y<w5.heap.size:=fun y hy=>by
   simp only [List.mem_cons] at hy
   rcases hy with rfl|rfl|hy
   ·exact l12
   ·omega
   ·have:=hM y hy;omega
  have hM4:∀y∈b12::b4::M,y∈M∨w.heap.size≤y:=fun y hy=>by
   simp only [List.mem_cons] at hy
   rcases hy with rfl|rfl|hy
   ·exact .inr (by omega)
   ·exact .inr hb24
   ·exact .inl hy
  refine aJ (fun (p:Nat × Value) w'=>Chg [b12] w5 w'∧p.1≤ch.bs.length∧bH (mL txR) T.L_api_Tx w5.heap.size (b12::b4::M) w' p.2 (ch.bs.take p.1)∧At w' b12 (.cells [p.2,.int .i64 0].toArray T.kedgeref13_Chain (0,0))) (fun p=> [(1,v),(2,.pointer (some ⟨b2,0,none⟩)),(4,.pointer (some ⟨b4,0,none⟩)),(12,.pointer (some ⟨b12,0,none⟩)),(13,.int .i64 (p.1:Nat))]) (fun p=>ch.bs.length - p.1) (0,.slice none 0 0) ⟨rfl,rfl,rfl,rfl,rfl,trivial⟩ ⟨Chg.refl _ _,by simp,bH.nil _ _ _ _,a5⟩ ?_
  rintro ⟨k,dv⟩ ρ w6 ⟨c6,hk,o6,a6⟩
  simp only at hk o6 a6
  dsimp only
  have x06:Ext w w6:=(Ext.chg (x04.trans x5) c6).mono (fun y hy=>.inr (by simp at hy;omega))
  have x46:Ext w4 w6:=(Ext.chg x5 c6).mono (fun y hy=>.inr (by simp at hy;omega))
  have r16:=Row.ext x46 r14
  have r66:=Row.of_at a6
  have odv:dv.oneCell'=true:=o6.one
  have hlen:(ch.bs.take k).length=k:=by rw [List.length_take];omega
  have ob:=o6.base
  have s56:=c6.size
  have hdM:∀y∈aC dv++b12::b4::M,y∈M∨w.heap.size≤y:=fun y hy=>by
   rcases List.mem_append.1 hy with hy|hy
   ·exact .inr (by have:=ob y hy;omega)
   ·exact hM4 y hy
  repeat (first|refine zG (d:=some 36) (E:=mL txR) (M:=M) (l:=ch.bs) rfl (hv.ext x06) ?_|(first|refine go2 ?_|fail))
  refine zL (x:=.tmp 37) (p:=((k:Nat):Int)<((ch.bs.length:Nat):Int)) rfl (fun h6=>?_) (fun h6=>?_)
  ·have hkl:k<ch.bs.length:=by omega
   repeat (first|refine zi (fun w7 x7=>?_)|refine dN (b:=.cons ⟨some 48,_,_⟩ _) (fun (p:Nat × Value) w'=>Ext w6 w'∧At w' p.1 (.cells [p.2].toArray T.L_api_Tx (0,0))∧SlR txR (aC dv++b12::b4::M) w' p.2 ch.bs[k]) (fun p=> [(1,v),(2,.pointer (some ⟨b2,0,none⟩)),(4,.pointer (some ⟨b4,0,none⟩)),(12,.pointer (some ⟨b12,0,none⟩)),(13,.int .i64 (k:Nat)),(41,dv),(47,.slice (some ⟨p.1,0,none⟩) 1 1)]) ?_ ?_|(first|refine go2 ?_|fail))
   ·repeat' (first|refine zB ?_ ?_|(refine aR (d:=some 45) (E:=mL txR) (M:=aC dv++b12::b4::M) rfl rfl (n:=k) (l:=ch.bs) (SlR.ext (hv.step x06 (by simp) hdM) (by exact fx)) rfl hkl (fun ad cs r4 he=>?_);obtain ⟨xv,rfl,hxv⟩:=he;obtain ⟨_,_,exv⟩:=hxv.form)|refine zI (d:=some 47) (cs:= [xv]) (by rw [exv];rfl) (fun b8 w8 x8 a8 hb8=>?_)|(first|refine go2 ?_|fail))
    all_goals exact ⟨(b8,xv),⟨rfl,rfl,rfl,rfl,rfl,rfl,rfl,trivial⟩,by exact fx,a8,hxv.ext (by exact fx)⟩
   ·rintro ⟨b8,xv⟩ ρ w8 ⟨x8,a8,hxv⟩
    dsimp only at x8 a8 hxv ⊢
    refine eM (d:=some 48) (E:=mL txR) (M:=b12::b4::M) (v:=dv) (cs:= [xv]) (a:=ch.bs[k]) rfl rfl (o6.ext x8) (nTr s56 x8.size) rfl rfl a8 ⟨xv,rfl,hxv⟩ (by omega) (fun v9 w9 o9 c9 hb9=>?_)
    have h12n:b12∉aC dv:=fun h=>by have:=ob _ h;omega
    have a9:=(a6.ext x8).chg c9 h12n
    have o9b:=o9.base
    repeat (first|refine go2 ?_|fail)
    refine bC (b:=b12) (o:=0) (cur:= [dv,.int .i64 0]) rfl rfl o9.one a9 (Nat.le_of_ble_eq_true rfl) (fun w10 c10 a10=>?_)
    have o10:=o9.step c10 (M':=b12::b4::M) (fun y hy=>by
     simp at hy;subst hy
     exact ⟨fun h=>by have:=o9b _ h;omega,.inl (by simp)⟩) (fun y hy=>.inl hy)
    have c510:Chg [b12] w5 w10:=((c6.trans (Chg.trans x8 c9)).trans c10).mono (fun y hy=>by
     simp at hy
     rcases hy with rfl|hy|rfl
     ·exact .inl (by simp)
     ·exact .inr (ob y hy)
     ·exact .inl (by simp))
    repeat (first|refine go2 ?_|fail)
    exact ⟨(k+1,v9),⟨rfl,rfl,rfl,rfl,rfl,trivial⟩,⟨c510,by simp only;omega,by simp only;rw [List.take_succ_eq_append_getElem hkl];exact o10,a10⟩,by simp only;omega⟩
  ·have ekk:k=ch.bs.length:=by omega
   subst ekk
   rw [List.take_length] at o6
   repeat (first|refine zI (d:=some 53) (cs:= [v]) (by rw [exw];rfl) (fun b8 w8 x8 a8 hb8=>?_)|(first|refine go2 ?_|fail))
   have hx8:SlR txR (aC dv++b12::b4::M) w8 v txs:=hx.step (x06.trans x8) (by simp) hdM
   have ov:v.oneCell'=true:=hx.one
   refine eM (d:=some 54) (E:=mL txR) (M:=b12::b4::M) (v:=dv) (cs:= [v]) (a:=txs) rfl rfl (o6.ext x8) (nTr s56 x8.size) rfl rfl a8 ⟨v,rfl,hx8⟩ (by omega) (fun v9 w9 o9 c9 hb9=>?_)
   have h12n:b12∉aC dv:=fun h=>by have:=ob _ h;omega
   have h4n:b4∉aC dv:=fun h=>by have:=ob _ h;omega
   have h2n:b2∉aC dv:=fun h=>by have:=ob _ h;omega
   have a9:=(a6.ext x8).chg c9 h12n
   have r29:=Row.chg c9 (Row.ext x8 r16) h2n
   have o9b:=o9.base
   have a49:=(At.ext (x46.trans x8) a24).chg c9 h4n
   repeat (first|refine go2 ?_|fail)
   refine bC (b:=b12) (o:=0) (cur:= [dv,.int .i64 0]) rfl rfl o9.one a9 (Nat.le_of_ble_eq_true rfl) (fun w10 c10 a10=>?_)
   have a10:At w10 b12 (.cells [v9,.int .i64 0].toArray T.kedgeref13_Chain (0,0)):=a10
   have h12v:b12∉aC v9:=fun h=>by have:=o9b _ h;omega
   have h4v:b4∉aC v9:=fun h=>by have:=o9b _ h;omega
   have o10:=o9.step c10 (M':=b12::b4::M) (fun y hy=>by simp at hy;subst hy;exact ⟨h12v,.inl (by simp)⟩) (fun y hy=>.inl hy)
   have r210:=Row.chg c10 r29 (by simp;omega)
   have a410:=a49.chg c10 (by simp;omega)
   have r1210:=Row.of_at a10
   have c510:Chg [b12] w5 w10:=((c6.trans (Chg.trans x8 c9)).trans c10).mono (fun y hy=>by
    simp at hy
    rcases hy with rfl|hy|rfl
    ·exact .inl (by simp)
    ·exact .inr (ob y hy)
    ·exact .inl (by simp))
   repeat (first|refine go2 ?_|fail)
   refine bC (b:=b12) (o:=1) (cur:= [v9,.int .i64 0]) rfl rfl rfl a10 (Nat.le_of_ble_eq_true rfl) (fun w11 c11 a11=>?_)
   have a11:At w11 b12 (.cells [v9,.int .i64 (ch.top:Nat)].toArray T.kedgeref13_Chain (0,0)):=a11
   have o11:=o10.step c11 (M':=b12::b4::M) (fun y hy=>by simp at hy;subst hy;exact ⟨h12v,.inl (by simp)⟩) (fun y hy=>.inl hy)
   have a411:=a410.chg c11 (by simp;omega)
   have r1211:=Row.of_at a11
   have c511:Chg [b12] w5 w11:=(c510.trans c11).mono (by simp)
   have off:∀y∈b12::b4::M,y∉aC v9:=fun y hy hv=>by have:=o9b y hv;have:=hMl y hy;omega
   have sl11:=o11.sl off
   have ell:(ch.bs++ [txs]).length=ch.bs.length+1:=by simp
   have ov9:v9.oneCell'=true:=o9.one
   by_cases hgt:ch.top<ch.bs.length+1
   ·have em:max ch.top (ch.bs.length+1)=(ch.bs++ [txs]).length:=by rw [ell];omega
    rw [em]
    repeat (first|refine zG (d:=some 61) (E:=mL txR) (M:=b12::b4::M) (l:=ch.bs++ [txs]) rfl sl11 ?_|refine aL (d:=some 64) (.bool true) rfl (congrArg (fun b=>some (Value.bool b)) (dTr (by rw [ell];omega))) ?_|refine zG (d:=some 67) (E:=mL txR) (M:=b12::b4::M) (l:=ch.bs++ [txs]) rfl sl11 ?_|(first|refine go2 ?_|fail))
    refine bC (b:=b12) (o:=1) (cur:= [v9,.int .i64 (ch.top:Nat)]) rfl rfl rfl a11 (Nat.le_of_ble_eq_true rfl) (fun w13 c13 a13=>?_)
    have a13:At w13 b12 (.cells [v9,.int .i64 ((ch.bs++ [txs]).length:Nat)].toArray T.kedgeref13_Chain (0,0)):=a13
    have r1213:=Row.of_at a13
    have a413:=a411.chg c13 (by simp;omega)
    have o13:=o11.step c13 (M':=b12::b4::M) (fun y hy=>by simp at hy;subst hy;exact ⟨h12v,.inl (by simp)⟩) (fun y hy=>.inl hy)
    have x13:Ext w w13:=(Ext.chg (x04.trans x5) (c511.trans c13)).mono (fun y hy=>.inr (by simp at hy;omega))
    repeat (first|refine go2 ?_|fail)
    refine aW (w0:=w) (n:=2) (vs:= [v9,.int .i64 ((ch.bs++ [txs]).length:Nat)]) x13 hb24 a413 rfl rfl rfl rfl (by simp [ov9];rfl) (fun w14 x14 c14 a14 r14=>?_)
    repeat (first|refine go2 ?_|fail)
    have o14:=o13.step c14 (M':=b12::b4::M) (fun y hy=>by simp at hy;subst hy;exact ⟨h4v,.inl (by simp)⟩) (fun y hy=>.inl hy)
    exact aA (bJd (bA r14 rfl rfl) bI bI) ⟨v9,rfl,(o14.sl off).sub (fun y hy=>.inl (by simp [hy])),x14⟩
   ·have em:max ch.top (ch.bs.length+1)=ch.top:=by omega
    rw [em]
    repeat (first|refine zG (d:=some 61) (E:=mL txR) (M:=b12::b4::M) (l:=ch.bs++ [txs]) rfl sl11 ?_|refine aL (d:=some 64) (.bool false) rfl (congrArg (fun b=>some (Value.bool b)) (dFa (by rw [ell];omega))) ?_|(first|refine go2 ?_|fail))
    have x13:Ext w w11:=(Ext.chg (x04.trans x5) c511).mono (fun y hy=>.inr (by simp at hy;omega))
    refine aW (w0:=w) (n:=2) (vs:= [v9,.int .i64 (ch.top:Nat)]) x13 hb24 a411 rfl rfl rfl rfl (by simp [ov9];rfl) (fun w14 x14 c14 a14 r14=>?_)
    repeat (first|refine go2 ?_|fail)
    have o14:=o11.step c14 (M':=b12::b4::M) (fun y hy=>by simp at hy;subst hy;exact ⟨h4v,.inl (by simp)⟩) (fun y hy=>.inl hy)
    exact aA (bJd (bA r14 rfl rfl) bI bI) ⟨v9,rfl,(o14.sl off).sub (fun y hy=>.inl (by simp [hy])),x14⟩
 ·have e2:dA ch txs=ch:=by unfold dA;rw [if_pos h0]
  have e1:(gN ch txs).2=(aX (bF ch.bs) txs ((ch.bs.length+1:Nat):Int)).2.2.1:=rfl
  have e0:(gN ch txs).1=(aX (bF ch.bs) txs ((ch.bs.length+1:Nat):Int)).2.1:=rfl
  rw [e2,e1,e0]
  repeat (first|refine aL (d:=some 29) (.bool true) rfl (congrArg (fun b=>some (Value.bool (!b))) (dFa h0)) ?_|(first|refine go2 ?_|fail))
  have ov:bv.oneCell'=true:=by rw [ebv];rfl
  refine aW (w0:=w) (n:=2) (vs:= [bv,.int .i64 (ch.top:Nat)]) x04 hb24 a24 rfl rfl rfl rfl (by simp [ov];rfl) (fun w14 x14 c14 a14 r14=>?_)
  repeat (first|refine go2 ?_|fail)
  exact aA (bJd (bA r14 rfl rfl) bI bI) ⟨bv,rfl,hv.ext x14,x14⟩
end
end Go.Proofs.YteceapipdhnhdaaGreatDoor
section
namespace Go.K
open Go
end Go.K
namespace Go.Proofs.YteceapipdhnhdaaGreatDoor
open Go Go.K
attribute [local irreducible] aH aM aY KOp.wp K.Spec u32 leS vnS str aP aG aN bK idT aQ aX
end Go.Proofs.YteceapipdhnhdaaGreatDoor
end
namespace Go.Proofs.YteceapipdhnhdaaGreatDoor
section
open Go Go.K
attribute [local irreducible] aH aM aY KOp.wp K.Spec u32 leS vnS str aP aG aX bK idT aQ
theorem bBo {U:List Nat} {B c:Nat} {M:List Nat} {ch:Ch} (p:Pt) (w:World) (h:ChR U w B c M ch):K.Spec Tryz.prog F.chain_Chain_Get [.pointer (some ⟨c,0,none⟩),p.val] w fun r w'=>r=.tuple #[(dH (bF ch.bs) p).val,.bool (aS (bF ch.bs) p).isSome]∧Ext w w':=by
 obtain ⟨b,mb,lv,h1,h2,h3,rfl,g1,g2,g3,g4,g5,g6,g8⟩:=h
 have r1:=Row.of_at h1
 refine aGv rfl ?_
 unfold uR
 refine oy ?_
 repeat (first|refine zD (d:=some 3) (cs:=p.cs) rfl rfl (fun b3 w3 x3 a3 (r3:Row w3 ⟨b3,0,none⟩ p.cs) hb3=>?_)|refine zH (d:=some 4) (fun b4 w4 x4 a4 hb4=>?_)|refine zg (fun w5 x5=>?_)|(first|refine go2 ?_|fail))
 have x35:Ext w3 w5:=x4.trans x5
 refine zC (d:=some 14) rfl (aSi p _ (h2.ext (x3.trans x35))) ?_
 rintro _ w6 ⟨rfl,x6⟩
 repeat (first|refine go2 ?_|fail)
 refine aW (w0:=w) (vs:=(dH (bF ch.bs) p).cs) (x3.trans (x35.trans x6)) (nTr x3.size hb4) (a4.ext (x5.trans x6)) rfl rfl rfl rfl rfl (fun w9 x9 c9 a9 r9=>?_)
 repeat (first|refine go2 ?_|fail)
 exact aA (iY (bA r9 rfl rfl) bI) ⟨rfl,x9⟩
end
section
open Go Go.K
theorem gV.of_chain {U:List Nat} {w:World} {B c:Nat} {M:List Nat} {ch:Ch} (h:ChR U w B c M ch):gV w (.iface T.P_chain_Chain (.pointer (some ⟨c,0,none⟩))) (aS (bF ch.bs)):=by
 refine ⟨⟨_,_,rfl,fun p hp w1 x1=>⟨F.chain_Chain_Get,.pointer (some ⟨c,0,none⟩),by kernel_rfl,by kernel_rfl,by kernel_rfl,?_⟩⟩,fun p c hc=>nTr (sL ch.bs ch.bs.length _ (nI hc)).1 (by decide)⟩
 have:=bBo p w1 (h.ext x1)
 unfold K.Spec at this ⊢
 exact this.mono fun e w2 ⟨v,e1,e2,x2⟩=>⟨v,e1,dH (bF ch.bs) p,e2,(aCj (jH ch.bs ch.bs.length).srt p).symm,x2⟩
theorem GrU.fresh {w:World} {B g:Nat} {M U:List Nat} (h:Gr w B g M []) (hU:∀b∈M,b∉U):GrU w B g M U []:=by
 obtain ⟨b1,vo,b2,m,sp,P,rfl⟩:=id h
 have hm:m= []:=by
  cases m with
  |nil=>rfl
  |cons e m=>have:=P.inv.ent e.1;simp [aS] at this
 subst hm
 refine ⟨h,⟨b1,vo,b2, [],sp,P.at_,?_,P.pts,P.ord.sl,P.inv⟩,hU⟩
 obtain ⟨mv,h1,h2⟩:=P.ents
 cases h2
 exact ⟨[],h1,.nil⟩
theorem GrU.sub {w:World} {B g:Nat} {M U U':List Nat} {l:List Ent} (h:GrU w B g M U l) (hU:∀b∈U',b∈U):GrU w B g M U' l:=h.more (Ext.refl w) fun b hb=>.inl (hU b hb)
abbrev sA (g:Nat) (P:CP):List Value:= [.pointer (some ⟨g,0,none⟩),.int .i64 P.most,.int .i64 P.floor]
def PoR (w:World) (p:Nat) (U:List Nat) (P:CP):Prop:=p∈U∧∃g B M,At w p (.cells (sA g P).toArray T.churn_Pool (0,0))∧GrU w B g M U P.l
theorem PoR.ext {w w':World} {p:Nat} {U:List Nat} {P:CP} (h:PoR w p U P) (x:Ext w w'):PoR w' p U P:=by
 obtain ⟨h0,g,B,M,h1,h2⟩:=h
 exact ⟨h0,g,B,M,h1.ext x,h2.ext x⟩
theorem PoR.chg {w w':World} {p:Nat} {L U U':List Nat} {P:CP} (h:PoR w p U P) (c:Chg L w w') (hL:∀b∈L,b∈U) (hp:p∉L) (hp':p∈U') (hU:∀b∈U',b∈U∨w.heap.size≤b):PoR w' p U' P:=by
 obtain ⟨h0,g,B,M,h1,h2⟩:=h
 exact ⟨hp',g,B,M,h1.chg c hp,h2.chg (c.mono fun b hb=>.inl (hL b hb)) hU⟩
theorem PoR.ok {w:World} {p:Nat} {U:List Nat} {P:CP} (h:PoR w p U P):(∀x∈P.l,EntOk x)∧(P.l.map (·.id)).Nodup∧P.l.Pairwise (fun x y=>∀q,spends x q=true→spends y q=false):=by
 obtain ⟨h0,g,B,M,h1,h2⟩:=h
 obtain ⟨b1,vo,b2,m,sp,G,e⟩:=h2.gr
 exact ⟨G.inv.ok,G.inv.nodup,G.inv.apart⟩
end
end Go.Proofs.YteceapipdhnhdaaGreatDoor
namespace Go.K
section
open Go Go.Proofs.YteceapipdhnhdaaGreatDoor
theorem bFv {m:List En} {t:Tx} {i:Nat} {h:Int} (h0:(gG m t i h).2.1=0):aG t=0:=by
 unfold gG at h0
 by_cases h1:(nZ m t i h).1≠0
 ·rw [if_pos h1] at h0;exact absurd h0 h1
 ·have h2:(nZ m t i h).1=0:=by simpa using h1
  unfold nZ at h2
  by_cases hc:aG t=0
  ·exact hc
  ·split at h2
   ·exact h2
   ·unfold gJ at h2;rw [if_pos hc] at h2;exact absurd h2 hc
theorem aS2 {l0:List En} {h:Int}:∀(txs:List Tx) (i:Nat) {m:List En},(kG l0 h i txs m).2.1=0→∀t∈txs,aG t=0
 | [],_,_,_,t,ht=>by simp at ht
 |u::us,i,m,h0,t,ht=>by
  obtain ⟨h1,e⟩:=aXn h0
  rcases List.mem_cons.1 ht with rfl|ht
  ·exact bFv h1
  ·rw [e] at h0;exact aS2 us (i+1) h0 t ht
theorem aSk {m:List En} {txs:List Tx} {h:Int} (h0:(aX m txs h).2.1=0):(0≤h∧h≤1000000)∧aX m txs h=kG m h 0 txs m:=by
 unfold aX at h0 ⊢
 by_cases hb:h<0∨h>1000000
 ·rw [if_pos hb] at h0;have h0:(3:Int)=0:=h0;omega
 ·rw [if_neg hb];exact ⟨by omega,rfl⟩
theorem aFf {c:Ch} {txs:List Tx} (h0:(gN c txs).1=0):∀t∈txs,aG t=0:=by
 have h1:(aX (bF c.bs) txs ((c.bs.length+1:Nat):Int)).2.1=0:=h0
 rw [(aSk h1).2] at h1
 exact aS2 txs 0 h1
theorem bEg {c:Ch} {txs:List Tx} (h0:(gN c txs).1=0):gN c txs=(0, -1)∧dA c txs=⟨c.bs++ [txs],max c.top (c.bs.length+1)⟩:=by
 have h1:(aX (bF c.bs) txs ((c.bs.length+1:Nat):Int)).2.1=0:=h0
 refine ⟨Prod.ext h0 ?_,by unfold dA;rw [if_neg (fun q=>q h0)]⟩
 have e:=(aSk h1).2
 show (aX (bF c.bs) txs ((c.bs.length+1:Nat):Int)).2.2.1= -1
 rw [e] at h1 ⊢
 suffices hk:∀(txs:List Tx) (i:Nat) (m:List En),(kG (bF c.bs) ((c.bs.length+1:Nat):Int) i txs m).2.1=0→(kG (bF c.bs) ((c.bs.length+1:Nat):Int) i txs m).2.2.1= -1 from hk txs 0 _ h1
 intro txs
 induction txs with
 |nil=>intro i m _;rfl
 |cons t txs ih=>
  intro i m h
  obtain ⟨-,e⟩:=aXn h
  rw [e] at h ⊢;exact ih _ _ h
theorem bHd (bs:List (List Tx)):SC (bF bs):=sL bs bs.length
def sQ (bs:List (List Tx)):Nat:=(bs.map dT).sum
theorem aJ2 (bs:List (List Tx)):(bF bs).length≤sQ bs:=by
 suffices hk:∀k,k≤bs.length→(cK bs k).length≤sQ (bs.take k) by
  have:=hk bs.length (Nat.le_refl _)
  rwa [List.take_length] at this
 intro k
 induction k with
 |zero=>intro _;simp [cK]
 |succ k ih=>
  intro hk
  have h1:=ih (by omega)
  have h2:=aFj (jH bs k) (bs.getD k []) ((k+1:Nat):Int)
  have e:bs.getD k []=bs[k]:=by rw [List.getD_eq_getElem?_getD,List.getElem?_eq_getElem (by omega)];rfl
  rw [e] at h2
  have e2:sQ (bs.take (k+1))=sQ (bs.take k)+dT bs[k]:=by
   unfold sQ
   rw [List.take_succ_eq_append_getElem (by omega),List.map_append,List.sum_append];simp
  have e3:cK bs (k+1)=(aX (cK bs k) bs[k] ((k+1:Nat):Int)).1:=by rw [←e];rfl
  rw [e3,e2];omega
theorem bCz (bs:List (List Tx)) (x:List Tx):sQ (bs++ [x])=sQ bs+dT x:=by
 unfold sQ;simp
theorem bA5 (f:Pt→Option Cn) (P:CP) (txs:List Tx) (h:Int):(∀x∈(xS f P txs h).l,EntOk x)∧(xS f P txs h).l.length≤txs.length:=by
 obtain ⟨h1,h2,h3⟩:=bMw (f:=f) (h:=h) txs
 have hs:(xS f P txs h).l.Sublist (kQ f h txs):=bKu h2
 exact ⟨fun x hx=>h1 x (hs.subset hx),nTr hs.length_le h3⟩
theorem bC1 (f:Pt→Option Cn) (P:CP) (txs:List Tx) (h:Int):∀x∈(jI f P txs h).l,EntOk x:=(bA5 _ _ _ _).1
structure BlkOk (s:BP) (txs:List Tx):Prop where
 bs:∀b∈s.ch.bs,aQx b
 tx:aQx txs
 len:s.ch.bs.length≤200
 top:s.ch.top≤200
 outs:sQ s.ch.bs+dT txs≤1000
 ents:s.p.l.length≤90
 floor:0≤s.p.floor∧s.p.floor≤1000000000000
 entq:s.q.l.length≤90
 floorq:0≤s.q.floor∧s.q.floor≤1000000000000
end
end Go.K
