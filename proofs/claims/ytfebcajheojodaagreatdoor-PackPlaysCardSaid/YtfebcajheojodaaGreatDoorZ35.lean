/- Contracts: the document's taking of a coin. Contracts: the f -/
import Derived.Test.YtfebcajheojodaaGreatDoorZ34
set_option linter.unusedVariables false
set_option linter.unusedSimpArgs false
namespace Go.Proofs.YtfebcajheojodaaGreatDoor
section
open Go Go.K
attribute [local irreducible] aO aU bQ KOp.wp K.Spec
end
section
open Go Go.K
attribute [local irreducible] aO aU bQ KOp.wp K.Spec u32 leS vnS str aV cB bS cS gG kT cW gL gN aG aX cD idT aR inE
theorem bIs (V:List En) (q:Pt):(∃n,∃h:n<V.length,kV V q=(n:Nat)∧aS V q=some V[n].2)∨(kV V q= -1∧aS V q=none):=by
 unfold kV
 cases hi:iJ V q with
 |none=>exact .inr ⟨rfl,wX hi⟩
 |some n=>exact .inl ⟨n,aVj hi,rfl,xC hi (aVj hi)⟩
theorem aYo {f:Pt→Option Cn} {t:Tx} {h:Int} {x:TIn} (e:f x.p=none):inE f t h x=8:=by unfold inE;rw [e]
theorem aZl {f:Pt→Option Cn} {t:Tx} {h:Int} {x:TIn} {c:Cn} (e:f x.p=some c) (h1:gL c.s t x≠0):inE f t h x=gL c.s t x:=by unfold inE;rw [e];simp only;rw [if_pos h1]
theorem aX1 {f:Pt→Option Cn} {t:Tx} {h:Int} {x:TIn} {c:Cn} (e:f x.p=some c) (h1:gL c.s t x=0) (h2:gN t x c.h h=false):inE f t h x=10:=by unfold inE;rw [e];simp only;rw [if_neg (by rw [h1];decide),h2];rfl
theorem bM8 {f:Pt→Option Cn} {t:Tx} {h:Int} {x:TIn} {c:Cn} (e:f x.p=some c) (h1:gL c.s t x=0) (h2:gN t x c.h h=true):inE f t h x=0:=by unfold inE;rw [e];simp only;rw [if_neg (by rw [h1];decide),h2];rfl
theorem bJ3 {f:Pt→Option Cn} {x:TIn} {c:Cn} (e:f x.p=some c):inV f x=c.v:=by unfold inV;rw [e];rfl
def aIv (f:Pt→Option Cn) (t:Tx) (h:Int):Value:=.tuple #[.int .i64 (eY f t h).1,.int .i64 (eY f t h).2.1,.int .i64 (eY f t h).2.2]
set_option maxHeartbeats 4000000 in
theorem bE2 {M:List Nat} {v:Value} {cs:List Value} {t:Tx} {l:List En} (h:Int) (w:World) (hv:SlE gC w v l) (ht:txR.rel M w cs t) (hs:t.Sm) (hn:l.length≤100000) (hl:∀e∈l,e.2.s.size≤1000000):
  K.Spec Tryz.prog F.kedgeref11_Fee [v,.agg cs.toArray,.int .i64 h] w fun r w'=>r=aIv (aS l) t h∧Ext w w':=by
 have ht0:=ht
 have hin:=hs.ins
 obtain ⟨iv,ov,rfl,h1,h2,h3,h4⟩:=ht
 by_cases hc:aG t=0
 ·obtain ⟨hpos,hbase⟩:=aGb hc
  have hw:=fun {i} (hi:i<t.ins.length)=>aWj hc hi
  cases hg:aX t with
  |true=>
   rw [hg] at hbase
   have e:aIv (aS l) t h=.tuple #[.int .i64 0,.int .i64 4,.int .i64 (-1)]:=by unfold aIv;rw [aEg hc hg]
   rw [e]
   refine qC rfl ?_
   unfold kY
   refine oy ?_
   repeat' (first|refine zD rfl rfl (fun bp wp xp ap (rp:Row wp ⟨bp,0,none⟩ (aK t iv ov)) hp0=>?_)|(refine zC (d:=some 21) rfl (fC (M:=M) (t:=t) (cs:=aK t iv ov) _ (R.ext ht0 (by exact fx)) hs) ?_;rintro _ w2 ⟨rfl,x2⟩;rw [hc])|(refine aL (d:=some 27) (E:=inR) (M:=M) rfl rfl (n:=0) (l:=t.ins) (SlR.ext h1 (by exact fx)) rfl hpos (fun ad cs r4 he=>?_);obtain ⟨wv,rfl,hwv,hp5,hp6⟩:=he)|(refine zC (d:=some 30) rfl (aA3 t.ins[0].p _) ?_;rintro _ w3 ⟨rfl,x3⟩;rw [hbase])|refine go1 ?_|refine zg λ_ _=>?_|refine zi λ_ _=>?_)
   exact aC rfl ⟨rfl,by exact fx⟩
  |false=>
   rw [hg] at hbase
   refine qC rfl ?_
   unfold kY
   refine oy ?_
   repeat' (first|refine zD (d:=some 4) rfl rfl (fun bp wp xp ap (rp:Row wp ⟨bp,0,none⟩ (aK t iv ov)) hp0=>?_)|(refine zC (d:=some 21) rfl (fC (M:=M) (t:=t) (cs:=aK t iv ov) _ (R.ext ht0 (by exact fx)) hs) ?_;rintro _ w2 ⟨rfl,x2⟩;rw [hc])|(refine aL (d:=some 27) (E:=inR) (M:=M) rfl rfl (n:=0) (l:=t.ins) (SlR.ext h1 (by exact fx)) rfl hpos (fun ad cs r4 he=>?_);obtain ⟨wv,rfl,hwv,hp5,hp6⟩:=he)|(refine zC (d:=some 30) rfl (aA3 t.ins[0].p _) ?_;rintro _ w3 ⟨rfl,x3⟩;rw [hbase])|(refine aQ (fun (p:Nat × Value) w'=>Ext wp w'∧p.1≤t.ins.length∧Own aJf T.int wp.heap.size w' p.2 ((t.ins.take p.1).map (inV (aS l)))∧∀j,j<p.1→∀hj:j<t.ins.length,inE (aS l) t h t.ins[j]=0) (fun p=> [(0,v),(2,.int .i64 h),(4,.pointer (some ⟨bp,0,none⟩)),(11,p.2),(12,.int .i64 (p.1:Nat))]) (fun p=>t.ins.length - p.1) (0,.slice none 0 0) ⟨rfl,rfl,rfl,rfl,rfl,trivial⟩ ⟨by exact fx,by simp,Own.nil _ _ _,fun j hj=>absurd hj (by simp)⟩ ?_;rintro ⟨i,v11⟩ ρ w4 ⟨x4,hi,ho,hk⟩;simp only at hi ho hk;dsimp only)|refine zG (d:=some 35) (E:=inR) (M:=M) (l:=t.ins) rfl (SlR.ext h1 (by exact fx)) ?_|refine zL (x:=.tmp 36) (p:=((i:Nat):Int)<((t.ins.length:Nat):Int)) rfl (fun h9=>?_) (fun h9=>?_)|refine go1 ?_|refine zg λ_ _=>?_|refine zi λ_ _=>?_)
   ·have hil:i<t.ins.length:=by omega
    have hwi:=hw hil
    have stop:inE (aS l) t h t.ins[i]≠0→aIv (aS l) t h=.tuple #[.int .i64 0,.int .i64 (inE (aS l) t h t.ins[i]),.int .i64 (i:Nat)]:=fun he=>by unfold aIv;rw [aVe hc hg hil hk he]
    have rp4:Row w4 ⟨bp,0,none⟩ (aK t iv ov):=rp.ext x4
    have x04:Ext w w4:=by exact fx
    have ht4:=R.ext ht0 x04
    have h14:=h1.ext x04
    have hv4:=hv.ext x04
    have x04':Unit→Ext w w4:=fun _=>x04
    have x4':Unit→Ext wp w4:=fun _=>x4
    clear x04 x4 xp x2 x3
    repeat' (first|(refine aL (d:=some 43) (E:=inR) (M:=M) rfl rfl (n:=i) (l:=t.ins) (SlR.ext h14 (by exact fx)) rfl hil (fun ad cs r4 he=>?_);obtain ⟨wv2,rfl,hwv2,hp52,hp62⟩:=he)|(refine zC (d:=some 46) rfl (aB8 t.ins[i].p _ (SlE.ext (w:=w4) (by exact fx) hv4) hn) ?_;rintro _ w5 ⟨rfl,x5⟩)|refine go1 ?_|refine zg λ_ _=>?_|refine zi λ_ _=>?_)
    rcases bIs l t.ins[i].p with ⟨n,hnl,e1,e2⟩|⟨e1,e2⟩
    ·rw [e1]
     obtain ⟨c,hcc⟩:∃c,c=l[n].2:=⟨_,rfl⟩
     have hcs:c.s.size≤1000000:=by rw [hcc];exact hl _ (gMe hnl)
     rw [←hcc] at e2
     by_cases ho0:gL c.s t t.ins[i]=0
     ·cases hrp:gN t t.ins[i] c.h h with
      |false=>
       rw [stop (by rw [aX1 e2 ho0 hrp];decide),aX1 e2 ho0 hrp]
       repeat' (first|refine zL (x:=.tmp 48) rfl (fun h=>absurd h (by omega)) (fun _=>?_)|refine aT (d:=some 52) (E:=gC) rfl rfl (n:=n) (l:=l) (SlE.ext (w:=w4) (by exact fx) hv4) rfl hnl (fun ad52 r52=>?_)|(refine zE (d':=14) (fun _=>rfl) rfl rfl (by rfl) (fun b7 w7 x7 a7 (r7:Row w7 ⟨b7,0,none⟩ l[n].2.cs) hb7=>?_);rw [←hcc] at r7)|(refine zC (d:=some 60) rfl (aFs (M:=M) (t:=t) (cs:=aK t iv ov) c.s hcs i hil hin hwi _ (R.ext ht4 (by exact fx))) ?_;rintro _ w8 ⟨rfl,x8⟩;rw [ho0])|(refine zC (d:=some 70) rfl (aQk (M:=M) (t:=t) (cs:=aK t iv ov) i hil hin c.h h _ (R.ext ht4 (by exact fx))) ?_;rintro _ w9 ⟨rfl,x9⟩;rw [hrp])|refine go1 ?_|refine zg λ_ _=>?_|refine zi λ_ _=>?_)
       exact aC rfl ⟨rfl,(x04' ()).trans (by exact fx)⟩
      |true=>
       have hok:=bM8 (h:=h) e2 ho0 hrp
       have hiv:=bJ3 e2
       repeat' (first|refine zL (x:=.tmp 48) rfl (fun h=>absurd h (by omega)) (fun _=>?_)|refine aT (d:=some 52) (E:=gC) rfl rfl (n:=n) (l:=l) (SlE.ext (w:=w4) (by exact fx) hv4) rfl hnl (fun ad52 r52=>?_)|(refine zE (d':=14) (fun _=>rfl) rfl rfl (by rfl) (fun b7 w7 x7 a7 (r7:Row w7 ⟨b7,0,none⟩ l[n].2.cs) hb7=>?_);rw [←hcc] at r7)|(refine zC (d:=some 60) rfl (aFs (M:=M) (t:=t) (cs:=aK t iv ov) c.s hcs i hil hin hwi _ (R.ext ht4 (by exact fx))) ?_;rintro _ w8 ⟨rfl,x8⟩;rw [ho0])|(refine zC (d:=some 70) rfl (aQk (M:=M) (t:=t) (cs:=aK t iv ov) i hil hin c.h h _ (R.ext ht4 (by exact fx))) ?_;rintro _ w9 ⟨rfl,x9⟩;rw [hrp])|refine zI (d:=some 78) (cs:= [.int .i64 c.v]) rfl (fun b8 w8 x8 a8 hb8=>?_)|refine cK (d:=some 79) (E:=aJf) (v:=v11) (l2:= [c.v]) rfl (ho.ext (by exact fx)) (nTr (Ext.size (x4' ())) (Ext.size (w:=w4) (by exact fx))) rfl rfl (eS a8 rfl) rfl rfl (by simp;omega) (fun v10 w10 o10 c10=>?_)|refine go1 ?_|refine zg λ_ _=>?_|refine zi λ_ _=>?_)
       have x410:=Ext.chg ((x4' ()).trans (show Ext w4 _ by exact fx)) c10
       exact ⟨(i+1,v10),⟨rfl,rfl,rfl,rfl,rfl,trivial⟩,⟨x410.mono (fun b hb=>.inr (ho.base b hb)),by simp only;omega,by simp only;rw [List.take_succ_eq_append_getElem hil,List.map_append,List.map_cons,List.map_nil,hiv];exact o10,fun j hj hjl=>by
        simp only at hj
        by_cases e:j=i
        ·subst e;exact hok
        ·exact hk j (by omega) hjl⟩,by simp only;omega⟩
     ·rw [stop (by rw [aZl e2 ho0];exact ho0),aZl e2 ho0]
      repeat' (first|refine zL (x:=.tmp 48) rfl (fun h=>absurd h (by omega)) (fun _=>?_)|refine aT (d:=some 52) (E:=gC) rfl rfl (n:=n) (l:=l) (SlE.ext (w:=w4) (by exact fx) hv4) rfl hnl (fun ad52 r52=>?_)|(refine zE (d':=14) (fun _=>rfl) rfl rfl (by rfl) (fun b7 w7 x7 a7 (r7:Row w7 ⟨b7,0,none⟩ l[n].2.cs) hb7=>?_);rw [←hcc] at r7)|(refine zC (d:=some 60) rfl (aFs (M:=M) (t:=t) (cs:=aK t iv ov) c.s hcs i hil hin hwi _ (R.ext ht4 (by exact fx))) ?_;rintro _ w8 ⟨rfl,x8⟩)|refine zN (x:=.tmp 62) (p:=gL c.s t t.ins[i]=0) rfl (fun _=>?_) (fun h=>absurd h ho0)|refine go1 ?_|refine zg λ_ _=>?_|refine zi λ_ _=>?_)
      exact aC rfl ⟨rfl,(x04' ()).trans (by exact fx)⟩
    ·rw [e1,stop (by rw [aYo e2];decide),aYo e2]
     repeat' (first|refine go1 ?_|refine zg λ_ _=>?_|refine zi λ_ _=>?_)
     exact aC rfl ⟨rfl,(x04' ()).trans (by exact fx)⟩
   ·have ei:i=t.ins.length:=by omega
    subst ei
    rw [List.take_length] at ho
    have x04:Ext w w4:=by exact fx
    have ht4:=R.ext ht0 x04
    have rp4:Row w4 ⟨bp,0,none⟩ (aK t iv ov):=rp.ext x4
    have hfa:=aNn hc hg fun j hj=>hk j hj hj
    have hlen:((t.ins.map (inV (aS l))).length)≤1000000000000:=by simp;omega
    have x04':Unit→Ext w w4:=fun _=>x04
    clear x04 xp x2 x3 x4
    by_cases hsum:kB (t.ins.map (inV (aS l)))=0
    ·have hgood:=(bG _).1 (sG hsum)
     have hgv:=(bG _).1 (sG (pM hc))
     rw [if_neg (by simpa using hsum)] at hfa
     by_cases hv8:fX (values t)>fX (t.ins.map (inV (aS l)))
     ·rw [if_pos hv8] at hfa
      rw [show aIv (aS l) t h=.tuple #[.int .i64 0,.int .i64 12,.int .i64 (-1)] by unfold aIv;rw [hfa]]
      repeat' (first|(refine zC (d:=some 82) rfl (aEc (l:=t.ins.map (inV (aS l))) _ (SlE.ext (w:=w4) (by exact fx) ho.sl) hlen) ?_;rintro _ _ ⟨rfl,rfl⟩;rw [hsum])|(refine zC (d:=some 90) rfl (aDg (M:=M) (t:=t) (cs:=aK t iv ov) _ (R.ext ht4 (by exact fx)) hs) ?_;rintro _ w5 ⟨rfl,x5⟩)|refine zL (x:=.tmp 95) (p:=fX (values t)>fX (t.ins.map (inV (aS l)))) rfl (fun _=>?_) (fun h=>absurd hv8 h)|refine go1 ?_|refine zg λ_ _=>?_|refine zi λ_ _=>?_)
      exact aC rfl ⟨rfl,(x04' ()).trans (by exact fx)⟩
     ·rw [if_neg hv8] at hfa
      rw [show aIv (aS l) t h=.tuple #[.int .i64 (fX (t.ins.map (inV (aS l))) - fX (values t)),.int .i64 0,.int .i64 (-1)] by unfold aIv;rw [hfa]]
      repeat' (first|(refine zC (d:=some 82) rfl (aEc (l:=t.ins.map (inV (aS l))) _ (SlE.ext (w:=w4) (by exact fx) ho.sl) hlen) ?_;rintro _ _ ⟨rfl,rfl⟩;rw [hsum])|(refine zC (d:=some 90) rfl (aDg (M:=M) (t:=t) (cs:=aK t iv ov) _ (R.ext ht4 (by exact fx)) hs) ?_;rintro _ w5 ⟨rfl,x5⟩)|refine zL (x:=.tmp 95) (p:=fX (values t)>fX (t.ins.map (inV (aS l)))) rfl (fun h=>absurd h hv8) (fun _=>?_)|refine go1 ?_|refine zg λ_ _=>?_|refine zi λ_ _=>?_)
      exact aC rfl ⟨rfl,(x04' ()).trans (by exact fx)⟩
    ·rw [if_pos hsum] at hfa
     rw [show aIv (aS l) t h=.tuple #[.int .i64 0,.int .i64 (kB (t.ins.map (inV (aS l)))),.int .i64 (-1)] by unfold aIv;rw [hfa]]
     repeat' (first|(refine zC (d:=some 82) rfl (aEc (l:=t.ins.map (inV (aS l))) _ (SlE.ext (w:=w4) (by exact fx) ho.sl) hlen) ?_;rintro _ _ ⟨rfl,rfl⟩)|refine zN (x:=.tmp 86) (p:=kB (t.ins.map (inV (aS l)))=0) rfl (fun _=>?_) (fun h=>absurd h hsum)|refine go1 ?_|refine zg λ_ _=>?_|refine zi λ_ _=>?_)
     exact aC rfl ⟨rfl,(x04' ()).trans (by exact fx)⟩
 ·have e:aIv (aS l) t h=.tuple #[.int .i64 0,.int .i64 (aG t),.int .i64 (-1)]:=by unfold aIv;rw [bC0 hc]
  rw [e]
  refine qC rfl ?_
  unfold kY
  refine oy ?_
  repeat' (first|refine zD rfl rfl (fun bp wp xp ap (rp:Row wp ⟨bp,0,none⟩ (aK t iv ov)) hp0=>?_)|(refine zC (d:=some 21) rfl (fC (M:=M) (t:=t) (cs:=aK t iv ov) _ (R.ext ht0 (by exact fx)) hs) ?_;rintro _ w2 ⟨rfl,x2⟩)|refine zN (x:=.tmp 23) (p:=aG t=0) rfl (fun _=>?_) (fun h=>absurd h hc)|refine go1 ?_|refine zg λ_ _=>?_|refine zi λ_ _=>?_)
  exact aC rfl ⟨rfl,by exact fx⟩
end
end Go.Proofs.YtfebcajheojodaaGreatDoor
namespace Go.K
section
open Go Go.Proofs.YtfebcajheojodaaGreatDoor
theorem aB0 {α:Type} (p:α→Bool) (l:List α):(idxOf p l<0∧l.find? p=none)∨∃i,∃h:i<l.length,idxOf p l=(i:Nat)∧l.find? p=some l[i]:=by
 induction l with
 |nil=>exact .inl ⟨by unfold idxOf;simp,rfl⟩
 |cons x l ih=>
  by_cases hx:p x=true
  ·refine .inr ⟨0,by simp,?_,?_⟩
   ·exact idxOf_hit (i:=0) (by simp) hx (fun j hj=>absurd hj (by omega))
   ·rw [List.find?_cons_of_pos hx];rfl
  ·have e:idxOf p (x::l)=if idxOf p l<0 then -1 else idxOf p l+1:=by
    unfold idxOf
    rw [List.findIdx?_cons,if_neg hx]
    cases l.findIdx? p with
    |none=>rfl
    |some i=>simp;omega
   rw [List.find?_cons_of_neg hx,e]
   rcases ih with ⟨h1,h2⟩|⟨i,hi,h1,h2⟩
   ·exact .inl ⟨by rw [if_pos h1];omega,h2⟩
   ·exact .inr ⟨i+1,by simpa using hi,by rw [if_neg (by omega),h1];omega,by rw [h2];simp⟩
theorem aWa {l:List Ent} {m:List Bool} (hn:(l.map (·.id)).Nodup) (hl:l.length=m.length) {k:Nat} (hk:k<l.length):inB (aM l m) l[k].id=m[k]'(by omega):=by
 rw [Bool.eq_iff_iff,aNg,jD]
 constructor
 ·rintro ⟨i,hi,h1,h2⟩
  have:=kJ hn hi hk (by rw [bJ hi,bJ hk];exact h2)
  subst this
  exact (List.getElem?_eq_some_iff.1 h1).2
 ·exact fun h=>⟨k,hk,by rw [List.getElem?_eq_getElem (by omega),h],rfl⟩
theorem bHr {l:List Ent} {m:List Bool} (hid:∀x∈l,x.id.size=32):inB (aM l m) ⟨#[]⟩=false:=by
 rw [←Bool.not_eq_true,aNg,jD]
 rintro ⟨i,hi,_,h2⟩
 have:=hid _ (gMe hi)
 rw [h2] at this
 exact absurd this (by decide)
def oW (l:List Ent) (t:Tx) (p:Pt):Bool:=dM l p&&(inB (aM l (evL l t)) p.s||!inB (aM l (bC l t)) (uN l p))
theorem bA9 (l:List Ent) (t:Tx):eQ l t=t.ins.any fun b=>oW l t b.p:=rfl
theorem bAj {l:List Ent} {t:Tx} {p:Pt} (h:bH l p.s<0):oW l t p=false:=by
 unfold oW dM
 rcases aB0 (fun x:Ent=>decide (x.id=p.s)) l with ⟨_,h2⟩|⟨i,hi,h1,_⟩
 ·rw [(aOd h2).1];rfl
 ·unfold bH at h;omega
theorem bC3 {l:List Ent} {s:ByteArray} (h:¬bH l s<0):∃k,∃hk:k<l.length,bH l s=(k:Nat)∧l[k].id=s∧dO l s=true∧dR l s=l[k]:=by
 rcases aB0 (fun x:Ent=>decide (x.id=s)) l with ⟨h1,_⟩|⟨i,hi,h1,h2⟩
 ·exact absurd h1 h
 ·obtain ⟨e1,e2,_,e4⟩:=aDh h2
  exact ⟨i,hi,h1,e4,e1,e2⟩
theorem aWi {l:List Ent} {t:Tx} {p:Pt} (hn:(l.map (·.id)).Nodup) {k:Nat} (hk:k<l.length) (h2:l[k].id=p.s) (h3:dO l p.s=true) (h4:dR l p.s=l[k]):
  oW l t p=(decide (p.i<(l[k].tx.outs.length:Int))&&((evL l t)[k]'(by rw [←jV];exact hk)||!inB (aM l (bC l t)) (uN l p))):=by
 unfold oW dM
 rw [h3,h4,Bool.true_and,←h2,aWa hn jV hk]
theorem bHj {l:List Ent} {p:Pt} (h:¬aB3 l p<0):∃s,∃hs:s<l.length,aB3 l p=(s:Nat)∧uN l p=l[s].id:=by
 rcases aB0 (fun x:Ent=>spends x p) l with ⟨h1,_⟩|⟨i,hi,h1,h2⟩
 ·exact absurd h1 h
 ·exact ⟨i,hi,h1,by unfold uN spE;rw [h2];rfl⟩
theorem bJf {l:List Ent} {p:Pt} (h:aB3 l p<0):uN l p=⟨#[]⟩:=by
 rcases aB0 (fun x:Ent=>spends x p) l with ⟨_,h2⟩|⟨i,hi,h1,_⟩
 ·unfold uN spE;rw [h2];rfl
 ·unfold aB3 at h;omega
end
end Go.K
section
namespace Go.K
open Go Go.Proofs.YtfebcajheojodaaGreatDoor
theorem aFo {α:Type} {p q:α→Bool}:∀(l:List α),(∀x∈l,p x=q x)→l.findIdx? p=l.findIdx? q
 | [],_=>rfl
 |x::l,h=>by
  rw [List.findIdx?_cons,List.findIdx?_cons,h x (by simp),aFo l (fun y hy=>h y (by simp [hy]))]
theorem aRw {f g:Pt→Option Cn} {t:Tx} {h:Int} {x:TIn} (e:f x.p=g x.p):inE f t h x=inE g t h x:=by unfold inE;rw [e]
theorem bE4 {f g:Pt→Option Cn} {t:Tx} {h:Int} (e:∀x∈t.ins,f x.p=g x.p):eY f t h=eY g t h:=by
 have h1:(t.ins.findIdx? fun x=>decide (inE f t h x≠0))=t.ins.findIdx? fun x=>decide (inE g t h x≠0):=aFo _ fun x hx=>by rw [aRw (e x hx)]
 have h2:t.ins.map (inV f)=t.ins.map (inV g):=List.map_congr_left fun x hx=>by unfold inV;rw [e x hx]
 unfold eY
 rw [h1,h2]
 cases hi:t.ins.findIdx? fun x=>decide (inE g t h x≠0) with
 |none=>rfl
 |some i=>
  have hil:i<t.ins.length:=(List.findIdx?_eq_some_iff_getElem.1 hi).1
  have h3:t.ins.getD i default=t.ins[i]:=by rw [List.getD_eq_getElem?_getD,List.getElem?_eq_getElem hil];rfl
  simp only
  rw [h3,aRw (e _ (gMe hil))]
end Go.K
namespace Go.Proofs.YtfebcajheojodaaGreatDoor
open Go Go.K
theorem aZ5 {M:List Nat} {w:World} {iv:Value} {ins:List TIn} (h:SlR inR M w iv ins):∀x∈ins,0≤x.p.i:=by
 obtain ⟨css,h1,h2,h3⟩:=h
 exact All2.right (fun _ _ ⟨_,_,_,h,_⟩=>h.1) h2
attribute [local irreducible] aO aU bQ KOp.wp K.Spec u32 leS vnS str aV cB bS cS gG kT cW gL gN aG aX cD idT aR inE eY fL bV dP
def bB8 (p:Int × Int × Int):Value:=.tuple #[.int .i64 p.1,.int .i64 p.2.1,.int .i64 p.2.2]
set_option maxHeartbeats 2000000 in
theorem aIy {M:List Nat} {v u:Value} {cs:List Value} {V:List En} {l:List Ent} {t:Tx} (h:Int) (w:World) (hv:SlE gC w v V) (hu:SlR bF M w u l) (ht:txR.rel M w cs t) (hs:t.Sm) (hV:V.length≤1000) (hl:l.length≤1000) (hE:∀x∈l,EntOk x) (hVk:(V.map (·.1)).Nodup) (hnd:(l.map (·.id)).Nodup) (hon:(bV V l h).length≤100000) (hos:∀e∈bV V l h,e.2.s.size≤1000000):
  K.Spec Tryz.prog F.kedgeref17_Plain [v,u,.agg cs.toArray,.int .i64 h] w fun r w'=>r=bB8 (aY (aS V) l t h)∧Ext w w':=by
 have ht0:=ht
 have hsm:∀x∈l,x.tx.outs.length≤1000:=fun x hx=>(fE (hE x hx).check).outs
 obtain ⟨iv,ov,rfl,h1,h2,h3,h4⟩:=ht
 have hfe:eY (aS (bV V l h)) t h=eY (dP (aS V) l h) t h:=bE4 fun x hx=>xZ hVk hnd (aZ5 h1 x hx)
 refine aG3 rfl ?_
 unfold tR
 refine oy ?_
 repeat (first|refine zD (d:=some 6) (cs:=aK t iv ov) rfl rfl (fun bp wp xp ap (rp:Row wp ⟨bp,0,none⟩ (aK t iv ov)) hp0=>?_)|refine go1 ?_|refine zg λ_ _=>?_|refine zi λ_ _=>?_)
 have tp:=R.ext ht0 xp
 refine zC (d:=some 20) rfl (fC (M:=M) (t:=t) (cs:=aK t iv ov) _ tp hs) ?_
 rintro _ w2 ⟨rfl,x2⟩
 by_cases hc:aG t=0
 ·have hz:=bI hs hc
  have r2:=Row.ext x2 rp
  repeat (first|refine aJ (d:=some 22) (.bool false) rfl (congrArg (fun b=>some (Value.bool (!b))) (dTr hc)) ?_|refine go1 ?_|refine zg λ_ _=>?_|refine zi λ_ _=>?_)
  refine zC (d:=some 25) rfl (aOi (M:=M) (t:=t) (cs:=aK t iv ov) _ (R.ext tp x2) hz) ?_
  rintro _ w3 ⟨rfl,x3⟩
  have x03:Ext w w3:=xp.trans (x2.trans x3)
  have r3:=Row.ext x3 r2
  repeat (first|refine go1 ?_|refine zg λ_ _=>?_|refine zi λ_ _=>?_)
  refine zC (d:=some 28) rfl (kZ (M:=M) (l:=l) (idT t) _ (hu.ext x03) (by omega)) ?_
  rintro _ w4 ⟨rfl,rfl⟩
  by_cases hf:bH l (idT t)<0
  ·have hh:dO l (idT t)=false:=by
    rcases aB0 (fun x:Ent=>decide (x.id=idT t)) l with ⟨_,h2⟩|⟨i,hi,h1,_⟩
    ·exact (aOd h2).1
    ·unfold bH at hf;omega
   repeat (first|refine aJ (d:=some 30) (.bool false) rfl (congrArg (fun b=>some (Value.bool b)) (dFa (by omega))) ?_|refine go1 ?_|refine zg λ_ _=>?_|refine zi λ_ _=>?_)
   refine zC (d:=some 34) rfl (aCo h _ (hv.ext x03) (hu.ext x03) hV hl hsm) ?_
   rintro ol w5 ⟨ho,x5⟩
   have r5:=Row.ext x5 r3
   repeat (first|refine go1 ?_|refine zg λ_ _=>?_|refine zi λ_ _=>?_)
   refine zC (d:=some 39) rfl (bE2 (M:=M) (t:=t) (cs:=aK t iv ov) (l:=bV V l h) h _ ho.sl (R.ext ht0 (x03.trans x5)) hs hon hos) ?_
   rintro _ w6 ⟨rfl,x6⟩
   have r6:=Row.ext x6 r5
   have x06:=(x03.trans x5).trans x6
   unfold aIv
   rw [hfe]
   by_cases hfz:(eY (dP (aS V) l h) t h).2.1=0
   ·rw [aJp hc hh hfz]
    repeat (first|refine aJ (d:=some 44) (.bool false) rfl (congrArg (fun b=>some (Value.bool (!b))) (dTr hfz)) ?_|refine go1 ?_|refine zg λ_ _=>?_|refine zi λ_ _=>?_)
    refine zC (d:=some 48) rfl (aYa (M:=M) (t:=t) (cs:=aK t iv ov) _ (R.ext ht0 x06) hs (fun y hy=>by have:=hz.scr y hy;omega)) ?_
    rintro _ w7 ⟨rfl,x7⟩
    by_cases hd:0≤fL t
    ·rw [if_pos hd]
     repeat (first|refine aJ (d:=some 50) (.bool true) rfl (congrArg (fun b=>some (Value.bool b)) (dTr hd)) ?_|refine go1 ?_|refine zg λ_ _=>?_|refine zi λ_ _=>?_)
     exact aC rfl ⟨rfl,x06.trans x7⟩
    ·rw [if_neg hd]
     repeat (first|refine aJ (d:=some 50) (.bool false) rfl (congrArg (fun b=>some (Value.bool b)) (dFa hd)) ?_|refine go1 ?_|refine zg λ_ _=>?_|refine zi λ_ _=>?_)
     exact aC rfl ⟨rfl,x06.trans x7⟩
   ·rw [aEa hc hh hfz]
    repeat (first|refine aJ (d:=some 44) (.bool true) rfl (congrArg (fun b=>some (Value.bool (!b))) (dFa hfz)) ?_|refine go1 ?_|refine zg λ_ _=>?_|refine zi λ_ _=>?_)
    exact aC rfl ⟨rfl,x06⟩
  ·have hh:dO l (idT t)=true:=by obtain ⟨k,hk, -, -,h3, -⟩:=bC3 hf;exact h3
   rw [aCl hc hh]
   repeat (first|refine aJ (d:=some 30) (.bool true) rfl (congrArg (fun b=>some (Value.bool b)) (dTr (by omega))) ?_|refine go1 ?_|refine zg λ_ _=>?_|refine zi λ_ _=>?_)
   exact aC rfl ⟨rfl,x03⟩
 ·rw [aKb hc]
  repeat (first|refine aJ (d:=some 22) (.bool true) rfl (congrArg (fun b=>some (Value.bool (!b))) (dFa hc)) ?_|refine go1 ?_|refine zg λ_ _=>?_|refine zi λ_ _=>?_)
  exact aC rfl ⟨rfl,xp.trans x2⟩
end Go.Proofs.YtfebcajheojodaaGreatDoor
end
namespace Go.Proofs.YtfebcajheojodaaGreatDoor
section
open Go Go.K
attribute [local irreducible] aO aU bQ KOp.wp K.Spec u32 leS vnS str aV cU cD idT aR aG aX idN bD cF bT bH cA cO aZ bA aM iC dT bC evL fS evI jS aBk aEx gP dN jW aCp cE oW aB3 kX
theorem bE0 {l:List Ent} {t:Tx} (h:∀x∈l,(cE t x&&!gP l x)=false):(l.any fun x=>cE t x&&!gP l x)=false:=List.any_eq_false.2 fun x hx=>by rw [h x hx];simp
theorem aY1 (k:Nat):max ((k:Nat):Int) 0=(k:Nat):=by omega
set_option maxHeartbeats 8000000 in
theorem aV5 {M : List Nat} {v : Value} {cs : List Value} {l : List Ent} {t : Tx} (fee : Int) (w : World) (hl : SlR bF M w v l) (ht : txR.rel M w cs t) (hs : t.Sm) (hn : l.length ≤ 1000) (hE : ∀ x ∈ l, EntOk x) (hf : ∀ x ∈ l, x.fee ≤ 1000000000000) (hnd : (l.map (·.id)).Nodup) (hid : ∀ x ∈ l, x.id.size = 32) :
    K.Spec Tryz.prog F.kedgeref16_Rules [v, .agg cs.toArray, .int .i64 fee] w fun r w' => r = .int .i64 (cH l t fee) ∧ Ext w w' := by
  have hsm : ∀ x ∈ l, x.tx.Sm := fun x hx => fE (hE x hx).check
  have hqe : ∀ x ∈ l, x.tx.ins.length ≤ 1000 := fun x hx => (hsm x hx).ins
  have hcl := kR (l := l) (t := t)
  have hel := jV (l := l) (t := t)
  have ht0 := ht
  obtain ⟨iv, ov, rfl, h1, h2, h3⟩ := ht
  by_cases hc : aG t = 0
  · cases hgf : bX fee with
    | false =>
      have e : cH l t fee = 3 := by rw [cH, if_neg (by simpa using hc), if_pos hgf]
      rw [e]
      refine mN rfl ?_
      unfold iV
      refine oy ?_
      repeat' (first|refine zF (d := some 24) (v := .bool false) ((qG _).trans (by rw [hgf])) ?_|refine go1 ?_|refine zg λ_ _=>?_|refine zi λ_ _=>?_|refine zD (d := some 4) rfl rfl (fun bp wp xp ap (rp : Row wp ⟨bp, 0, none⟩ (aK t iv ov)) hp0=>?_)|(refine zC (d := some 19) rfl (fC (M := M) (cs := aK t iv ov) (t := t) _ (R.ext ht0 (by exact fx)) hs) ?_; rintro _ w3 ⟨rfl, x3⟩; rw [hc]))
      exact aC rfl ⟨rfl, by exact fx⟩
    | true =>
      have hR : cH l t fee = if (l.any fun x => cE t x && !gP l x) = true then 15 else if l.any (cE t) = false then 0 else if (aM l (evL l t)).length > 100 then 15 else if eQ l t = true then 15 else if kX l t fee = true then 0 else 11 := by
        rw [cH, if_neg (by simpa using hc), if_neg (by rw [hgf]; simp)]
      rw [hR]
      have id0 : aM (l.take 0) ((evL l t).take 0) = [] := by rw [List.take_zero, List.take_zero]; unfold aM; rfl
      refine mN rfl ?_
      unfold iV
      refine oy ?_
      repeat' (first|refine zF (d := some 24) (v := .bool true) ((qG _).trans (by rw [hgf])) ?_|refine go1 ?_|refine zg λ_ _=>?_|refine zi λ_ _=>?_|refine zL rfl (fun h => ?_) (fun h => ?_)|refine zD (d := some 4) rfl rfl (fun bp wp xp ap (rp : Row wp ⟨bp, 0, none⟩ (aK t iv ov)) hp0=>?_)|(refine zC (d := some 19) rfl (fC (M := M) (cs := aK t iv ov) (t := t) _ (R.ext ht0 (by exact fx)) hs) ?_; rintro _ w3 ⟨rfl, x3⟩; rw [hc])|(refine zC (d := some 29) rfl (aAn (M := M) (l := l) (cs := aK t iv ov) (t := t) _ (SlR.ext hl (by exact fx)) (R.ext ht0 (by exact fx)) hs.ins hn hqe) ?_; rintro vc w4 ⟨sc, x4, -⟩)|(refine zC (d := some 32) rfl (aQg (M := M) (l := l) (cs := aK t iv ov) (t := t) _ (SlR.ext hl (by exact fx)) (R.ext ht0 (by exact fx)) hs.ins hn hsm) ?_; rintro vg w5 ⟨sg, x5, -⟩; have sc5 := SlE.ext x5 sc; have l5 : SlR bF M w5 v l := SlR.ext hl (by exact fx); have rp5 : Row w5 ⟨bp, 0, none⟩ (aK t iv ov) := Row.ext (by exact fx) rp; have h15 : SlR inR M w5 iv t.ins := SlR.ext h1 (by exact fx); have y05 : Ext w w5 := (by exact fx); have t5 := R.ext ht0 y05; have x05 : Unit → Ext w w5 := (fun _ => y05); clear y05 xp x3 x4 x5 rp ap sc)|refine zG (E := bF) (M := M) (l := l) rfl (SlR.ext l5 (by exact fx)) ?_|(refine aQ (fun (i : Nat) w' => Ext w5 w' ∧ i ≤ l.length ∧ ∀ x ∈ l.take i, (cE t x && !gP l x) = false) (fun i => [(0, v), (2, .int .i64 fee), (4, .pointer (some ⟨bp, 0, none⟩)), (9, vc), (10, vg), (11, .bool ((l.take i).any (cE t))), (12, .int .i64 ((aM (l.take i) ((evL l t).take i)).length : Nat)), (13, .int .i64 i)]) (fun i => l.length - i) 0 ⟨rfl, rfl, rfl, rfl, rfl, rfl, by rw [id0]; rfl, rfl, trivial⟩ ⟨Ext.refl _, by simp, by simp⟩ ?_; rintro i ρ w6 ⟨x6, hi, hk⟩))
      · have hil : i < l.length := by omega
        have hci : (bC l t)[i]'(by omega) = cE t l[i] := by
          have e : (bC l t)[i]? = some (cE t l[i]) := by unfold bC; rw [List.getElem?_map, List.getElem?_eq_getElem hil]; rfl
          exact (List.getElem?_eq_some_iff.1 e).2
        have htk : (l.take (i + 1)).any (cE t) = ((l.take i).any (cE t) || cE t l[i]) := by rw [List.take_succ_eq_append_getElem hil, List.any_append]; simp
        have hev := aQl (t := t) hil
        have hle := iX (l.take i) ((evL l t).take i)
        have htl : (l.take i).length = i := by rw [List.length_take]; omega
        have hk2 : (cE t l[i] && !gP l l[i]) = false → ∀ x ∈ l.take (i + 1), (cE t x && !gP l x) = false := fun h9 x hx => by
          rw [List.take_succ_eq_append_getElem hil] at hx
          rcases List.mem_append.1 hx with h8 | h8
          · exact hk x h8
          · simp only [List.mem_singleton] at h8; subst h8; exact h9
        obtain ⟨B, hB⟩ : ∃ B, cE t l[i] = B := ⟨_, rfl⟩
        obtain ⟨C, hC⟩ : ∃ C, gP l l[i] = C := ⟨_, rfl⟩
        obtain ⟨D, hD⟩ : ∃ D, (l.take i).any (cE t) = D := ⟨_, rfl⟩
        obtain ⟨E, hEv⟩ : ∃ E, (evL l t)[i]'(by omega) = E := ⟨_, rfl⟩
        rw [hEv] at hev
        rw [hD, hB] at htk
        rw [hB, hC] at hk2
        rw [hD]
        generalize aM (l.take i) ((evL l t).take i) = P at *
        cases B <;> cases C <;> cases D <;> cases E
        all_goals repeat' (first|refine go1 ?_|refine zg λ_ _=>?_|refine zi λ_ _=>?_|(refine zC (d := some 41) rfl (bD5 (M := M) (l := l) (n := i) _ (SlR.ext l5 (by exact fx)) hil hn hsm hnd) ?_; rintro _ w7 ⟨rfl, x7⟩; rw [hC])|(refine aT (d := some 44) (E := dJ) rfl rfl (n := i) (l := bC l t) (SlE.ext (by exact fx) sc5) rfl (by omega) (fun ad r9 => ?_); have r9 : Row _ ad [Value.bool ((bC l t)[i]'(by omega))] := r9; rw [hci, hB] at r9)|(refine aT (d := some 54) (E := dJ) rfl rfl (n := i) (l := bC l t) (SlE.ext (by exact fx) sc5) rfl (by omega) (fun ad r10 => ?_); have r10 : Row _ ad [Value.bool ((bC l t)[i]'(by omega))] := r10; rw [hci, hB] at r10)|(refine aT (d := some 59) (E := dJ) rfl rfl (n := i) (l := evL l t) (SlE.ext (by exact fx) sg) rfl (by omega) (fun ad r11 => ?_); have r11 : Row _ ad [Value.bool ((evL l t)[i]'(by omega))] := r11; rw [hEv] at r11))
        all_goals first
          | (rw [if_pos (show (l.any fun x => cE t x && !gP l x) = true from List.any_eq_true.2 ⟨l[i], gMe hil, by rw [hB, hC]; rfl⟩)]
             exact aC rfl ⟨rfl, Ext.trans (x05 ()) (by exact fx)⟩)
          | exact ⟨i + 1, ⟨rfl, rfl, rfl, rfl, rfl, congrArg Value.bool htk.symm, congrArg (fun n : Nat => Value.int .i64 (n : Nat)) (by rw [hev]; simp), rfl, trivial⟩, ⟨by exact fx, by omega, hk2 rfl⟩, by omega⟩
          | trace_state
      · have ei : i = l.length := by omega
        subst ei
        rw [List.take_length] at hk
        rw [List.take_length, tLe (show (evL l t).length ≤ l.length by omega), if_neg (by rw [bE0 hk]; simp)]
        cases hh : l.any (cE t) with
        | false =>
          rw [if_pos rfl]
          repeat' (first|refine go1 ?_|refine zg λ_ _=>?_|refine zi λ_ _=>?_)
          exact aC rfl ⟨rfl, Ext.trans (x05 ()) (by exact fx)⟩
        | true =>
          rw [if_neg (by simp)]
          by_cases hgt : (aM l (evL l t)).length > 100
          · rw [if_pos hgt]
            repeat' (first|refine go1 ?_|refine zg λ_ _=>?_|refine zi λ_ _=>?_|(refine zL (p := (((aM l (evL l t)).length : Nat) : Int) > 100) rfl (fun _ => ?_) (fun h => absurd (by omega) h)))
            exact aC rfl ⟨rfl, Ext.trans (x05 ()) (by exact fx)⟩
          · rw [if_neg hgt, bA9]
            have l6 := l5.ext x6
            have sc6 := SlE.ext x6 sc5
            have sg6 := SlE.ext x6 sg
            have rp6 := rp5.ext x6
            have h16 := SlR.ext h15 x6
            have t6 := R.ext t5 x6
            have x06 : Unit → Ext w w6 := fun _ => (x05 ()).trans x6
            clear x6 sc5 sg rp5 h15 t5 l5 hl ht0 h1
            repeat' (first|refine go1 ?_|refine zg λ_ _=>?_|refine zi λ_ _=>?_|(refine zL (p := (((aM l (evL l t)).length : Nat) : Int) > 100) rfl (fun h => absurd h (by omega)) (fun _ => ?_))|refine zL rfl (fun h => ?_) (fun h => ?_)|refine zG (d := some 70) (E := inR) (M := M) (l := t.ins) rfl (SlR.ext h16 (by exact fx)) ?_|(refine aQ (fun (j : Nat) w' => Ext w6 w' ∧ j ≤ t.ins.length ∧ ∀ b ∈ t.ins.take j, oW l t b.p = false) (fun j => [(0, v), (2, .int .i64 fee), (4, .pointer (some ⟨bp, 0, none⟩)), (9, vc), (10, vg), (15, .int .i64 j)]) (fun j => t.ins.length - j) 0 ⟨rfl, rfl, rfl, rfl, rfl, rfl, trivial⟩ ⟨Ext.refl _, by simp, by simp⟩ ?_; rintro j ρ2 w7 ⟨x7, hj, hfr⟩))
            · have hjl : j < t.ins.length := by omega
              have hsi := hs.ins
              have hfn : oW l t t.ins[j].p = false → ∀ b ∈ t.ins.take (j + 1), oW l t b.p = false := fun h9 b hb => by
                rw [List.take_succ_eq_append_getElem hjl] at hb
                rcases List.mem_append.1 hb with h8 | h8
                · exact hfr b h8
                · simp only [List.mem_singleton] at h8; subst h8; exact h9
              have hfy : oW l t t.ins[j].p = true → (t.ins.any fun b => oW l t b.p) = true := fun h9 => List.any_eq_true.2 ⟨_, gMe hjl, h9⟩
              by_cases hk0 : bH l t.ins[j].p.s < 0
              · have hno := bAj (t := t) hk0
                repeat' (first|refine aJ (d := some 84) (.bool true) rfl (congrArg (fun b => some (Value.bool b)) (dTr hk0)) ?_|refine go1 ?_|refine zg λ_ _=>?_|refine zi λ_ _=>?_|(refine aL (d := some 78) (E := inR) (M := M) rfl rfl (n := j) (l := t.ins) (SlR.ext h16 (by exact fx)) rfl hjl (fun ad cs r8 he => ?_); obtain ⟨wv8, rfl, -⟩ := he)|(refine zC (d := some 82) rfl (kZ (M := M) (l := l) t.ins[j].p.s _ (SlR.ext l6 (by exact fx)) (by omega)) ?_; rintro _ _ ⟨rfl, rfl⟩))
                exact ⟨j + 1, ⟨rfl, rfl, rfl, rfl, rfl, rfl, trivial⟩, ⟨by exact fx, by omega, hfn hno⟩, by omega⟩
              · obtain ⟨k, hkl, hkf, hki, hkh, hkg⟩ := bC3 hk0
                have hfy2 := aWi (t := t) hnd hkl hki hkh hkg
                obtain ⟨E, hEv⟩ : ∃ E, (evL l t)[k]'(by omega) = E := ⟨_, rfl⟩
                rw [hEv] at hfy2
                by_cases hsp : aB3 l t.ins[j].p < 0
                · rw [bJf hsp, bHr hid] at hfy2
                  by_cases hlt : t.ins[j].p.i < (l[k].tx.outs.length : Int)
                  · cases E
                    all_goals repeat' (first|refine aJ (d := some 84) (.bool false) rfl (congrArg (fun b => some (Value.bool b)) (dFa (show ¬ ((k : Nat) : Int) < 0 by omega))) ?_|refine aJ (d := some 93) (.int .i64 t.ins[j].p.i) rfl (congrArg (fun n => some (Value.int .i64 n)) (aJ4 hp8)) ?_|refine zL (p := t.ins[j].p.i ≥ ((l[k].tx.outs.length : Nat) : Int)) rfl (fun h => absurd h (by omega)) (fun _ => ?_)|refine aJ (d := some 118) (.bool true) rfl (congrArg (fun b => some (Value.bool b)) (dTr (by omega))) ?_|refine go1 ?_|refine zg λ_ _=>?_|refine zi λ_ _=>?_|(refine aL (d := some 78) (E := inR) (M := M) rfl rfl (n := j) (l := t.ins) (SlR.ext h16 (by exact fx)) rfl hjl (fun ad cs r8 he => ?_); obtain ⟨wv8, rfl, -, hp8, -⟩ := he)|(refine zC (d := some 82) rfl (kZ (M := M) (l := l) t.ins[j].p.s _ (SlR.ext l6 (by exact fx)) (by omega)) ?_; rintro _ _ ⟨rfl, rfl⟩; rw [hkf])|(apply zO; focus((conv=>lhs;whnf)<;>(first|with_reducible exact rfl|(refine congrArg Value.bool ?_;decide))))|(refine aL (d := some 89) (E := inR) (M := M) rfl rfl (n := j) (l := t.ins) (SlR.ext h16 (by exact fx)) rfl hjl (fun ad cs r9 he => ?_); obtain ⟨wv9, rfl, -⟩ := he)|(refine rH (d := some 96) rfl rfl ?_; rw [aY1])|(refine aL (d := some 97) (E := bF) (M := M) rfl rfl (n := k) (l := l) (SlR.ext l6 (by exact fx)) rfl hkl (fun ad cs r10 he => ?_); obtain ⟨iv10, ov10, rfl, i10, o10, -⟩ := he)|refine zG (d := some 101) (E := eX) (M := M) rfl (SlR.ext o10 (by exact fx)) ?_|(refine aL (d := some 108) (E := inR) (M := M) rfl rfl (n := j) (l := t.ins) (SlR.ext h16 (by exact fx)) rfl hjl (fun ad cs r11 he => ?_); obtain ⟨wv11, rfl, -⟩ := he)|(refine zC (d := some 111) rfl (lM (M := M) (l := l) t.ins[j].p _ (SlR.ext l6 (by exact fx)) (by omega) (fun x hx => by have := hqe x hx; omega)) ?_; rintro _ w8 ⟨rfl, x8⟩)|(refine aT (d := some 114) (E := dJ) rfl rfl (n := k) (l := evL l t) (SlE.ext (by exact fx) sg6) rfl (by omega) (fun ad r12 => ?_); have r12 : Row _ ad [Value.bool ((evL l t)[k]'(by omega))] := r12; rw [hEv] at r12)|(refine rH (d := some 123) rfl rfl ?_; rw [aY1]))
                    all_goals first
                      | (rw [if_pos (hfy (by rw [hfy2, dTr hlt]; rfl))]
                         exact aC rfl ⟨rfl, Ext.trans (x06 ()) (by exact fx)⟩)
                      | exact ⟨j + 1, ⟨rfl, rfl, rfl, rfl, rfl, rfl, trivial⟩, ⟨by exact fx, by omega, hfn (by rw [hfy2]; simp [hlt])⟩, by omega⟩
                      | trace_state
                  · cases E
                    all_goals repeat' (first|refine aJ (d := some 84) (.bool false) rfl (congrArg (fun b => some (Value.bool b)) (dFa (show ¬ ((k : Nat) : Int) < 0 by omega))) ?_|refine aJ (d := some 93) (.int .i64 t.ins[j].p.i) rfl (congrArg (fun n => some (Value.int .i64 n)) (aJ4 hp8)) ?_|refine zL (p := t.ins[j].p.i ≥ ((l[k].tx.outs.length : Nat) : Int)) rfl (fun _ => ?_) (fun h => absurd (show t.ins[j].p.i ≥ ((l[k].tx.outs.length : Nat) : Int) by omega) h)|refine aJ (d := some 118) (.bool true) rfl (congrArg (fun b => some (Value.bool b)) (dTr (by omega))) ?_|refine go1 ?_|refine zg λ_ _=>?_|refine zi λ_ _=>?_|(refine aL (d := some 78) (E := inR) (M := M) rfl rfl (n := j) (l := t.ins) (SlR.ext h16 (by exact fx)) rfl hjl (fun ad cs r8 he => ?_); obtain ⟨wv8, rfl, -, hp8, -⟩ := he)|(refine zC (d := some 82) rfl (kZ (M := M) (l := l) t.ins[j].p.s _ (SlR.ext l6 (by exact fx)) (by omega)) ?_; rintro _ _ ⟨rfl, rfl⟩; rw [hkf])|(apply zO; focus((conv=>lhs;whnf)<;>(first|with_reducible exact rfl|(refine congrArg Value.bool ?_;decide))))|(refine aL (d := some 89) (E := inR) (M := M) rfl rfl (n := j) (l := t.ins) (SlR.ext h16 (by exact fx)) rfl hjl (fun ad cs r9 he => ?_); obtain ⟨wv9, rfl, -⟩ := he)|(refine rH (d := some 96) rfl rfl ?_; rw [aY1])|(refine aL (d := some 97) (E := bF) (M := M) rfl rfl (n := k) (l := l) (SlR.ext l6 (by exact fx)) rfl hkl (fun ad cs r10 he => ?_); obtain ⟨iv10, ov10, rfl, i10, o10, -⟩ := he)|refine zG (d := some 101) (E := eX) (M := M) rfl (SlR.ext o10 (by exact fx)) ?_|(refine aL (d := some 108) (E := inR) (M := M) rfl rfl (n := j) (l := t.ins) (SlR.ext h16 (by exact fx)) rfl hjl (fun ad cs r11 he => ?_); obtain ⟨wv11, rfl, -⟩ := he)|(refine zC (d := some 111) rfl (lM (M := M) (l := l) t.ins[j].p _ (SlR.ext l6 (by exact fx)) (by omega) (fun x hx => by have := hqe x hx; omega)) ?_; rintro _ w8 ⟨rfl, x8⟩)|(refine aT (d := some 114) (E := dJ) rfl rfl (n := k) (l := evL l t) (SlE.ext (by exact fx) sg6) rfl (by omega) (fun ad r12 => ?_); have r12 : Row _ ad [Value.bool ((evL l t)[k]'(by omega))] := r12; rw [hEv] at r12)|(refine rH (d := some 123) rfl rfl ?_; rw [aY1]))
                    all_goals first
                      | (rw [if_pos (hfy (by rw [hfy2, dTr hlt]; rfl))]
                         exact aC rfl ⟨rfl, Ext.trans (x06 ()) (by exact fx)⟩)
                      | exact ⟨j + 1, ⟨rfl, rfl, rfl, rfl, rfl, rfl, trivial⟩, ⟨by exact fx, by omega, hfn (by rw [hfy2]; simp [hlt])⟩, by omega⟩
                      | trace_state
                · obtain ⟨s, hsl, hsf, hsi⟩ := bHj hsp
                  rw [hsi, aWa hnd kR hsl] at hfy2
                  obtain ⟨F, hF⟩ : ∃ F, (bC l t)[s]'(by omega) = F := ⟨_, rfl⟩
                  rw [hF] at hfy2
                  by_cases hlt : t.ins[j].p.i < (l[k].tx.outs.length : Int)
                  · cases E <;> cases F
                    all_goals repeat' (first|refine aJ (d := some 84) (.bool false) rfl (congrArg (fun b => some (Value.bool b)) (dFa (show ¬ ((k : Nat) : Int) < 0 by omega))) ?_|refine aJ (d := some 93) (.int .i64 t.ins[j].p.i) rfl (congrArg (fun n => some (Value.int .i64 n)) (aJ4 hp8)) ?_|refine zL (p := t.ins[j].p.i ≥ ((l[k].tx.outs.length : Nat) : Int)) rfl (fun h => absurd h (by omega)) (fun _ => ?_)|refine aJ (d := some 118) (.bool false) rfl (congrArg (fun b => some (Value.bool b)) (dFa (by omega))) ?_|refine go1 ?_|refine zg λ_ _=>?_|refine zi λ_ _=>?_|(refine aL (d := some 78) (E := inR) (M := M) rfl rfl (n := j) (l := t.ins) (SlR.ext h16 (by exact fx)) rfl hjl (fun ad cs r8 he => ?_); obtain ⟨wv8, rfl, -, hp8, -⟩ := he)|(refine zC (d := some 82) rfl (kZ (M := M) (l := l) t.ins[j].p.s _ (SlR.ext l6 (by exact fx)) (by omega)) ?_; rintro _ _ ⟨rfl, rfl⟩; rw [hkf])|(apply zO; focus((conv=>lhs;whnf)<;>(first|with_reducible exact rfl|(refine congrArg Value.bool ?_;decide))))|(refine aL (d := some 89) (E := inR) (M := M) rfl rfl (n := j) (l := t.ins) (SlR.ext h16 (by exact fx)) rfl hjl (fun ad cs r9 he => ?_); obtain ⟨wv9, rfl, -⟩ := he)|(refine rH (d := some 96) rfl rfl ?_; rw [aY1])|(refine aL (d := some 97) (E := bF) (M := M) rfl rfl (n := k) (l := l) (SlR.ext l6 (by exact fx)) rfl hkl (fun ad cs r10 he => ?_); obtain ⟨iv10, ov10, rfl, i10, o10, -⟩ := he)|refine zG (d := some 101) (E := eX) (M := M) rfl (SlR.ext o10 (by exact fx)) ?_|(refine aL (d := some 108) (E := inR) (M := M) rfl rfl (n := j) (l := t.ins) (SlR.ext h16 (by exact fx)) rfl hjl (fun ad cs r11 he => ?_); obtain ⟨wv11, rfl, -⟩ := he)|(refine zC (d := some 111) rfl (lM (M := M) (l := l) t.ins[j].p _ (SlR.ext l6 (by exact fx)) (by omega) (fun x hx => by have := hqe x hx; omega)) ?_; rintro _ w8 ⟨rfl, x8⟩; rw [hsf])|(refine aT (d := some 114) (E := dJ) rfl rfl (n := k) (l := evL l t) (SlE.ext (by exact fx) sg6) rfl (by omega) (fun ad r12 => ?_); have r12 : Row _ ad [Value.bool ((evL l t)[k]'(by omega))] := r12; rw [hEv] at r12)|(refine rH (d := some 123) rfl rfl ?_; rw [aY1])|(refine aT (d := some 124) (E := dJ) rfl rfl (n := s) (l := bC l t) (SlE.ext (by exact fx) sc6) rfl (by omega) (fun ad r13 => ?_); have r13 : Row _ ad [Value.bool ((bC l t)[s]'(by omega))] := r13; rw [hF] at r13)
                      )
                    all_goals first
                      | (rw [if_pos (hfy (by rw [hfy2, dTr hlt]; rfl))]
                         exact aC rfl ⟨rfl, Ext.trans (x06 ()) (by exact fx)⟩)
                      | exact ⟨j + 1, ⟨rfl, rfl, rfl, rfl, rfl, rfl, trivial⟩, ⟨by exact fx, by omega, hfn (by rw [hfy2]; simp [hlt])⟩, by omega⟩
                      | trace_state
                  · cases E <;> cases F
                    all_goals repeat' (first|refine aJ (d := some 84) (.bool false) rfl (congrArg (fun b => some (Value.bool b)) (dFa (show ¬ ((k : Nat) : Int) < 0 by omega))) ?_|refine aJ (d := some 93) (.int .i64 t.ins[j].p.i) rfl (congrArg (fun n => some (Value.int .i64 n)) (aJ4 hp8)) ?_|refine zL (p := t.ins[j].p.i ≥ ((l[k].tx.outs.length : Nat) : Int)) rfl (fun _ => ?_) (fun h => absurd (show t.ins[j].p.i ≥ ((l[k].tx.outs.length : Nat) : Int) by omega) h)|refine aJ (d := some 118) (.bool false) rfl (congrArg (fun b => some (Value.bool b)) (dFa (by omega))) ?_|refine go1 ?_|refine zg λ_ _=>?_|refine zi λ_ _=>?_|(refine aL (d := some 78) (E := inR) (M := M) rfl rfl (n := j) (l := t.ins) (SlR.ext h16 (by exact fx)) rfl hjl (fun ad cs r8 he => ?_); obtain ⟨wv8, rfl, -, hp8, -⟩ := he)|(refine zC (d := some 82) rfl (kZ (M := M) (l := l) t.ins[j].p.s _ (SlR.ext l6 (by exact fx)) (by omega)) ?_; rintro _ _ ⟨rfl, rfl⟩; rw [hkf])|(apply zO; focus((conv=>lhs;whnf)<;>(first|with_reducible exact rfl|(refine congrArg Value.bool ?_;decide))))|(refine aL (d := some 89) (E := inR) (M := M) rfl rfl (n := j) (l := t.ins) (SlR.ext h16 (by exact fx)) rfl hjl (fun ad cs r9 he => ?_); obtain ⟨wv9, rfl, -⟩ := he)|(refine rH (d := some 96) rfl rfl ?_; rw [aY1])|(refine aL (d := some 97) (E := bF) (M := M) rfl rfl (n := k) (l := l) (SlR.ext l6 (by exact fx)) rfl hkl (fun ad cs r10 he => ?_); obtain ⟨iv10, ov10, rfl, i10, o10, -⟩ := he)|refine zG (d := some 101) (E := eX) (M := M) rfl (SlR.ext o10 (by exact fx)) ?_|(refine aL (d := some 108) (E := inR) (M := M) rfl rfl (n := j) (l := t.ins) (SlR.ext h16 (by exact fx)) rfl hjl (fun ad cs r11 he => ?_); obtain ⟨wv11, rfl, -⟩ := he)|(refine zC (d := some 111) rfl (lM (M := M) (l := l) t.ins[j].p _ (SlR.ext l6 (by exact fx)) (by omega) (fun x hx => by have := hqe x hx; omega)) ?_; rintro _ w8 ⟨rfl, x8⟩; rw [hsf])|(refine aT (d := some 114) (E := dJ) rfl rfl (n := k) (l := evL l t) (SlE.ext (by exact fx) sg6) rfl (by omega) (fun ad r12 => ?_); have r12 : Row _ ad [Value.bool ((evL l t)[k]'(by omega))] := r12; rw [hEv] at r12)|(refine rH (d := some 123) rfl rfl ?_; rw [aY1])|(refine aT (d := some 124) (E := dJ) rfl rfl (n := s) (l := bC l t) (SlE.ext (by exact fx) sc6) rfl (by omega) (fun ad r13 => ?_); have r13 : Row _ ad [Value.bool ((bC l t)[s]'(by omega))] := r13; rw [hF] at r13)
                      )
                    all_goals first
                      | (rw [if_pos (hfy (by rw [hfy2, dTr hlt]; rfl))]
                         exact aC rfl ⟨rfl, Ext.trans (x06 ()) (by exact fx)⟩)
                      | exact ⟨j + 1, ⟨rfl, rfl, rfl, rfl, rfl, rfl, trivial⟩, ⟨by exact fx, by omega, hfn (by rw [hfy2]; simp [hlt])⟩, by omega⟩
                      | trace_state
            · have ej : j = t.ins.length := by omega
              subst ej
              rw [List.take_length] at hfr
              rw [if_neg (by rw [List.any_eq_false.2 fun b hb => by rw [hfr b hb]; simp]; simp)]
              cases hen : kX l t fee
              all_goals repeat' (first|refine go1 ?_|refine zg λ_ _=>?_|refine zi λ_ _=>?_|(refine zC (d := some 131) rfl (aU4 (M := M) (cs := aK t iv ov) (l := l) (t := t) fee _ (SlR.ext l6 (by exact fx)) (R.ext t6 (by exact fx)) hs hc hn hE hf) ?_; rintro _ w9 ⟨rfl, x9⟩; rw [hen]))
              all_goals exact aC rfl ⟨rfl, Ext.trans (x06 ()) (by exact fx)⟩
  · have e : cH l t fee = aG t := by rw [cH, if_pos hc]
    rw [e]
    refine mN rfl ?_
    unfold iV
    refine oy ?_
    repeat' (first|refine go1 ?_|refine zg λ_ _=>?_|refine zi λ_ _=>?_|refine zD (d := some 4) rfl rfl (fun bp wp xp ap (rp : Row wp ⟨bp, 0, none⟩ (aK t iv ov)) hp0=>?_)|(refine zC (d := some 19) rfl (fC (M := M) (cs := aK t iv ov) (t := t) _ (R.ext ht0 (by exact fx)) hs) ?_; rintro _ w3 ⟨rfl, x3⟩)|refine zN (p := aG t = 0) rfl (fun _ => ?_) (fun h => absurd h hc))
    exact aC rfl ⟨rfl, by exact fx⟩
end
end Go.Proofs.YtfebcajheojodaaGreatDoor
