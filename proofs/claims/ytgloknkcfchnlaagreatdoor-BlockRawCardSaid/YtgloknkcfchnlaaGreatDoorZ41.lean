/- Contracts: a transaction in a block, by the program. Contrac -/
import Derived.Test.YtgloknkcfchnlaaGreatDoorZ13
import Derived.Test.YtgloknkcfchnlaaGreatDoorZ39
set_option linter.unusedVariables false
set_option linter.unusedSimpArgs false
section
namespace Go.K
open Go Go.Proofs.YtgloknkcfchnlaaGreatDoor
theorem yK {l:List En} {t:Tx} {i:Nat} {h:Int} (h1:(iB l t i h).1≠0):cW l t i h=(l,iB l t i h):=by unfold cW;rw [if_pos h1]
theorem aIi {l:List En} {t:Tx} {i:Nat} {h:Int} (h1:(iB l t i h).1=0) (h2:(fD (idT t) h 0 t.outs (gP l t)).2≠0):cW l t i h=(l,(fD (idT t) h 0 t.outs (gP l t)).2, -1):=by unfold cW;rw [if_neg (by rw [h1];decide),if_pos h2]
theorem aM7 {l:List En} {t:Tx} {i:Nat} {h:Int} (h1:(iB l t i h).1=0) (h2:(fD (idT t) h 0 t.outs (gP l t)).2=0):cW l t i h=((fD (idT t) h 0 t.outs (gP l t)).1,0, -1):=by unfold cW;rw [if_neg (by rw [h1];decide),if_neg (by rw [h2];decide)]
theorem aPo {l:List En} {t:Tx} {i:Nat} {h:Int} (hg:aO t=true) (hc:aI t≠0):iB l t i h=(aI t, -1):=by unfold iB;rw [if_pos hg,if_pos hc]
theorem aAd {l:List En} {t:Tx} {i:Nat} {h:Int} (hg:aO t=true) (hc:aI t=0) (h1:0<i∨t.lock≠h):iB l t i h=(4, -1):=by unfold iB;rw [if_pos hg,if_neg (by rw [hc];decide),if_pos h1]
theorem aUg {l:List En} {t:Tx} {i:Nat} {h:Int} (hg:aO t=true) (hc:aI t=0) (h1:¬(0<i∨t.lock≠h)):iB l t i h=(0, -1):=by unfold iB;rw [if_pos hg,if_neg (by rw [hc];decide),if_neg h1]
theorem aPz {l:List En} {t:Tx} {i:Nat} {h:Int} (hg:aO t=false):iB l t i h=(fR (aT l) t h).2:=by unfold iB;rw [if_neg (by rw [hg];decide)]
end Go.K
namespace Go.Proofs.YtgloknkcfchnlaaGreatDoor
open Go Go.K
attribute [local irreducible] aD aK aV KOp.wp K.Spec u32 leS vnS str aN aI aO bI idT aY inE fR iB fD cW cI cJ aX bG aQ bP
set_option maxHeartbeats 1000000 in
theorem aQp {b mb:Nat} {M:List Nat} {cs:List Value} {t:Tx} {l:List En} (i:Nat) (h:Int) (w:World) (hS:cH T.coins_Set w b mb l) (hsc:SC l) (ht:txR.rel M w cs t) (hs:t.Sm):
  K.Spec Tryz.prog F.block_may [.pointer (some ⟨b,0,none⟩),.agg cs.toArray,.int .i64 (i:Nat),.int .i64 h] w fun r w'=>dM w' 1 r (iB l t i h).1 (iB l t i h).2∧Ext w w':=by
 have ht0:=ht
 have hl6:∀e∈l,e.2.s.size≤1000000:=fun e he=>by have:=(hsc e he).1;omega
 obtain ⟨iv,ov,rfl,h1,h2,h3,h4⟩:=ht
 have h41:=h4.1
 have h42:=h4.2
 refine aKg rfl ?_
 unfold aCp
 refine oy ?_
 cases hgr:aO t with
 |true=>
  by_cases hc:aI t=0
  ·repeat' (first|refine zD (d:=some 5) rfl rfl (fun bp wp xp ap (rp:Row wp ⟨bp,0,none⟩ (aZ t iv ov)) hp0=>?_)|(refine zC (d:=some 13) rfl (iI (M:=M) (t:=t) (cs:=aZ t iv ov) _ (R.ext ht0 (by exact fx)) hs) ?_;rintro _ w1 ⟨rfl,x1⟩;rw [hgr])|(refine zC (d:=some 25) rfl (nC (M:=M) (t:=t) (cs:=aZ t iv ov) _ (R.ext ht0 (by exact fx)) hs) ?_;rintro _ w2 ⟨rfl,x2⟩;rw [hc])|refine aG (d:=some 35) (.int .i64 t.lock) rfl (congrArg (fun n=>some (Value.int .i64 n)) (IntWalk.i64_in _ (by omega))) ?_|refine zJ (t:=32) (p:=((i:Nat):Int)>0) rfl (fun hi0=>?_) (fun hi0=>?_)|refine zN (x:=.tmp 38) (p:=t.lock=h) rfl (fun hl0=>?_) (fun hl0=>?_)|refine go1 ?_|refine zg λ_ _=>?_|refine zi λ_ _=>?_)
   ·exact aB rfl ⟨by rw [aAd (l:=l) hgr hc (h:=h) (i:=i) (.inl (by omega))];exact dM.num _ 1 (by decide),by exact fx⟩
   ·exact aB rfl ⟨by rw [aAd (l:=l) hgr hc (h:=h) (i:=i) (.inr hl0)];exact dM.num _ 1 (by decide),by exact fx⟩
   ·exact aB rfl ⟨by rw [aUg (l:=l) hgr hc (h:=h) (i:=i) (by omega)];exact dM.none_ _ 1,by exact fx⟩
  ·repeat' (first|refine zD (d:=some 5) rfl rfl (fun bp wp xp ap (rp:Row wp ⟨bp,0,none⟩ (aZ t iv ov)) hp0=>?_)|(refine zC (d:=some 13) rfl (iI (M:=M) (t:=t) (cs:=aZ t iv ov) _ (R.ext ht0 (by exact fx)) hs) ?_;rintro _ w1 ⟨rfl,x1⟩;rw [hgr])|(refine zC (d:=some 25) rfl (nC (M:=M) (t:=t) (cs:=aZ t iv ov) _ (R.ext ht0 (by exact fx)) hs) ?_;rintro _ w2 ⟨rfl,x2⟩)|refine zN (x:=.tmp 27) (p:=aI t=0) rfl (fun _=>?_) (fun h=>absurd h hc)|refine go1 ?_|refine zg λ_ _=>?_|refine zi λ_ _=>?_)
   exact aB rfl ⟨by rw [aPo (l:=l) hgr hc (h:=h) (i:=i)];exact dM.num _ 1 hc,by exact fx⟩
 |false=>
  repeat' (first|refine zD (d:=some 5) rfl rfl (fun bp wp xp ap (rp:Row wp ⟨bp,0,none⟩ (aZ t iv ov)) hp0=>?_)|(refine zC (d:=some 13) rfl (iI (M:=M) (t:=t) (cs:=aZ t iv ov) _ (R.ext ht0 (by exact fx)) hs) ?_;rintro _ w1 ⟨rfl,x1⟩;rw [hgr])|(refine zC (d:=some 20) rfl (aS4 (M:=M) (t:=t) (cs:=aZ t iv ov) h _ (aZr (hS.ext (by exact fx)) hl6) (R.ext ht0 (by exact fx)) hs) ?_;rintro _ w2 ⟨e,rfl,he,x2⟩)|refine go1 ?_|refine zg λ_ _=>?_|refine zi λ_ _=>?_)
  exact aB rfl ⟨by rw [aPz (l:=l) (h:=h) (i:=i) hgr];exact he.ext (by exact fx),by exact fx⟩
set_option maxHeartbeats 1000000 in
theorem aHg {b mb:Nat} {M:List Nat} {cs:List Value} {t:Tx} {m:List En} (h:Int) (w:World) (hS:cH T.coins_Set w b mb m) (hb:b∈M) (hmb:mb∈M) (ht:txR.rel M w cs t) (hs:t.Sm) (hc:aI t=0):
  K.Spec Tryz.prog F.block_pay [.pointer (some ⟨b,0,none⟩),.agg cs.toArray,.int .i64 h] w fun r w'=>(r=if (fD (idT t) h 0 t.outs m).2=0 then .nilIface else sI (fD (idT t) h 0 t.outs m).2)∧cH T.coins_Set w' b mb (fD (idT t) h 0 t.outs m).1∧Chg [b,mb] w w':=by
 have ht0:=ht
 have hlt:=hS.lt
 have hout:=hs.outs
 obtain ⟨iv,ov,rfl,h1,h2,h3,h4⟩:=ht
 refine aKz rfl ?_
 unfold aCd
 refine oy ?_
 repeat' (first|refine zD (d:=some 4) rfl rfl (fun bp wp xp ap (rp:Row wp ⟨bp,0,none⟩ (aZ t iv ov)) hp0=>?_)|(refine zC (d:=some 14) rfl (aU4 (M:=M) (t:=t) (cs:=aZ t iv ov) _ (R.ext ht0 (by exact fx)) hs) ?_;rintro _ w1 ⟨rfl,x1⟩;rw [aXf,show idS t=idT t by unfold idS;rw [if_pos hc]])|refine zG (d:=some 19) (E:=fT) (M:=M) (l:=t.outs) rfl (SlR.ext h2 (by exact fx)) ?_|(refine aM (fun (p:Nat × List En) w'=>Chg [b,mb] w1 w'∧p.1≤t.outs.length∧cH T.coins_Set w' b mb p.2∧vP (idT t) h t.outs m p.1 p.2) (fun p=> [(0,.pointer (some ⟨b,0,none⟩)),(2,.int .i64 h),(7,.string (idT t)),(18,ov),(19,.int .i64 (t.outs.length:Nat)),(20,.int .i64 (p.1:Nat))]) (fun p=>t.outs.length - p.1) (0,m) ⟨rfl,rfl,rfl,rfl,rfl,rfl,trivial⟩ ⟨Chg.refl _ _,by simp,hS.ext (by exact fx),aEw⟩ ?_;rintro ⟨k,mk⟩ ρ w4 ⟨c4,hk,hSk,hpk⟩;simp only at hk hSk hpk;dsimp only)|refine zL (x:=.tmp 21) (p:=((k:Nat):Int)<((t.outs.length:Nat):Int)) rfl (fun h9=>?_) (fun h9=>?_)|refine go1 ?_|refine zg λ_ _=>?_|refine zi λ_ _=>?_)
 ·have hkl:k<t.outs.length:=by omega
  have x01:Ext w w1:=xp.trans x1
  have c04:Chg [b,mb] w w4:=(Chg.trans x01 c4).mono (by simp)
  have h24:SlR fT M w4 ov t.outs:=h2.step c04 (fun y hy=>.inl (by simp at hy;rcases hy with rfl|rfl<;>assumption)) (fun y hy=>.inl hy)
  have s4:=c04.size
  have c14':Unit→Chg [b,mb] w1 w4:=fun _=>c4
  clear xp x1 c4 x01
  repeat (first|(refine aR (d:=some 23) (E:=fT) (M:=M) rfl rfl (n:=k) (l:=t.outs) h24 rfl hkl (fun ad cs r4 he=>?_);obtain ⟨rfl,hv64⟩:=he)|refine zH (d:=some 10) (fun b10 w5 x5 a5 hb5=>?_)|refine go1 ?_|refine zg λ_ _=>?_|refine zi λ_ _=>?_)
  refine bQ (w0:=w4) (n:=2) (vs:=tE t.outs[k]) x5 hb5 a5 rfl rfl rfl rfl rfl (fun w6 x6 c6 a6 r6=>?_)
  repeat (first|refine aG (d:=some 28) (.int .u32 (k:Nat)) rfl (congrArg (fun n=>some (Value.int .u32 n)) (by rw [wrap32];omega)) ?_|refine bR (d:=some 29) (cs:=(⟨idT t,(k:Nat)⟩:Pt).cs) rfl ?_|refine bR (d:=some 32) (cs:=(outC t.outs[k] h).cs) rfl ?_|refine go1 ?_|refine zg λ_ _=>?_|refine zi λ_ _=>?_)
  refine zC (d:=some 33) rfl (uM ⟨idT t,(k:Nat)⟩ (outC t.outs[k] h) _ (hSk.ext x6)) ?_
  rintro _ w7 ⟨rfl,S7,c7⟩
  have c17:Chg [b,mb] w w7:=(c04.trans (Chg.trans x6 c7)).mono (by simp)
  by_cases h6:aQ mk ⟨idT t,(k:Nat)⟩ (outC t.outs[k] h)=0
  ·rw [h6]
   repeat (first|refine go1 ?_|refine zg λ_ _=>?_|refine zi λ_ _=>?_)
   exact ⟨(k+1,bG mk ⟨idT t,(k:Nat)⟩ (outC t.outs[k] h)),⟨rfl,rfl,rfl,rfl,rfl,rfl,trivial⟩,⟨((c14' ()).trans (Chg.trans x6 c7)).mono (by simp),by simp only;omega,S7,aFi hkl hpk h6⟩,by simp only;omega⟩
  ·repeat (first|refine zN (x:=.tmp 35) (p:=aQ mk ⟨idT t,(k:Nat)⟩ (outC t.outs[k] h)=0) rfl (fun _=>?_) (fun h=>absurd h h6)|refine go1 ?_|refine zg λ_ _=>?_|refine zi λ_ _=>?_)
   have e:=aGh hkl hpk h6
   have e3:bG mk ⟨idT t,(k:Nat)⟩ (outC t.outs[k] h)=mk:=by unfold bG;rw [if_neg h6]
   rw [e3] at S7
   exact aB rfl ⟨by rw [e];simp only;rw [if_neg h6];rfl,by rw [e];exact S7,c17⟩
 ·have e:=aGo (by omega) hpk
  repeat (first|refine go1 ?_|refine zg λ_ _=>?_|refine zi λ_ _=>?_)
  exact aB rfl ⟨by rw [e];rfl,by rw [e];exact hSk,(Chg.trans (show Ext w w1 from xp.trans x1) c4).mono (by simp)⟩
end Go.Proofs.YtgloknkcfchnlaaGreatDoor
end
namespace Go.Proofs.YtgloknkcfchnlaaGreatDoor
section
open Go Go.K
attribute [local irreducible] aD aK aV KOp.wp K.Spec u32 leS vnS str aN aI aO bI idT aY inE fR iB fD cW cI cJ aX bG aQ bP bA fW pY
set_option maxHeartbeats 2000000 in
theorem aQy {b mb:Nat} {M:List Nat} {cs:List Value} {t:Tx} {l:List En} (i:Nat) (h:Int) (w:World) (hS:cH T.coins_Set w b mb l) (hg:CG l) (hsc:SC l) (hb:b∈M) (hmb:mb∈M) (ht:txR.rel M w cs t) (hs:t.Sm):
  K.Spec Tryz.prog F.block_apply [.pointer (some ⟨b,0,none⟩),.agg cs.toArray,.int .i64 (i:Nat),.int .i64 h] w fun r w'=>dM w' 1 r (cW l t i h).2.1 (cW l t i h).2.2∧(∃l',cH T.coins_Set w' b mb l'∧((cW l t i h).2.1=0→l'=(cW l t i h).1))∧Chg [b,mb] w w':=by
 have ht0:=ht
 have hlt:=hS.lt
 have hin:=hs.ins
 obtain ⟨iv,ov,rfl,h1,h2,h3,h4⟩:=ht
 have sub:∀y∈ [b,mb],y∈M:=by intro y hy;simp at hy;rcases hy with rfl|rfl<;>assumption
 refine aF5 rfl ?_
 unfold vH
 refine oy ?_
 repeat (first|refine zD (d:=some 5) rfl rfl (fun bp wp xp ap (rp:Row wp ⟨bp,0,none⟩ (aZ t iv ov)) hp0=>?_)|refine go1 ?_|refine zg λ_ _=>?_|refine zi λ_ _=>?_)
 refine zC (d:=some 16) rfl (aQp (M:=M) (t:=t) (cs:=aZ t iv ov) (l:=l) i h _ (hS.ext xp) hsc (R.ext ht0 xp) hs) ?_
 rintro e w1 ⟨he,x1⟩
 have x01:=xp.trans x1
 have lp:=ap.lt
 have rp1:Row w1 ⟨bp,0,none⟩ (aZ t iv ov):=Row.ext x1 rp
 by_cases hm:(iB l t i h).1=0
 ·obtain ⟨rfl, -⟩:=he.nil_iff.1 hm
  have hc:=pF hm
  have S1:=hS.ext x01
  have ht1:=R.ext ht0 x01
  have s01:=x01.size
  have lbp:bp<w1.heap.size:=nLt lp x1.size
  have hbn:bp∉ [b,mb]:=by simp;omega
  clear xp x1 ap rp he
  cases hgr:aO t with
  |true=>
   have hmid:gP l t=l:=by unfold gP;rw [if_pos hgr]
   repeat (first|(refine zC (d:=some 21) rfl (iI (M:=M) (t:=t) (cs:=aZ t iv ov) _ (R.ext ht1 (by exact fx)) hs) ?_;rintro _ w2 ⟨rfl,x2⟩;rw [hgr])|refine go1 ?_|refine zg λ_ _=>?_|refine zi λ_ _=>?_)
   refine zC (d:=some 38) rfl (aHg (M:=M) (t:=t) (cs:=aZ t iv ov) (m:=l) h _ (S1.ext x2) hb hmb (R.ext ht1 x2) hs hc) ?_
   rintro _ w3 ⟨rfl,S3,c3⟩
   rw [←hmid] at S3
   have c03:Chg [b,mb] w w3:=(Chg.trans x01 (Chg.trans x2 c3)).mono (by simp)
   by_cases hp:(fD (idT t) h 0 t.outs (gP l t)).2=0
   ·rw [hmid] at hp
    rw [if_pos hp]
    rw [←hmid] at hp
    have e:=aM7 hm hp
    repeat (first|refine go1 ?_|refine zg λ_ _=>?_|refine zi λ_ _=>?_)
    exact aB rfl ⟨by rw [e];exact dM.none_ _ 1,⟨_,S3,fun _=>by rw [e]⟩,c03⟩
   ·rw [hmid] at hp
    rw [if_neg hp]
    rw [←hmid] at hp
    have e:=aIi hm hp
    repeat (first|refine go1 ?_|refine zg λ_ _=>?_|refine zi λ_ _=>?_)
    exact aB rfl ⟨by rw [e,hmid];rw [hmid] at hp;exact dM.num _ 1 hp,⟨_,S3,fun q=>absurd (by rw [e] at q;exact q) hp⟩,c03⟩
  |false=>
   have hmid:gP l t=cI l t.ins:=by unfold gP;rw [if_neg (by rw [hgr];decide)]
   have h11:SlR inR M w1 iv t.ins:=h1.ext x01
   repeat' (first|(refine zC (d:=some 21) rfl (iI (M:=M) (t:=t) (cs:=aZ t iv ov) _ (R.ext ht1 (by exact fx)) hs) ?_;rintro _ w2 ⟨rfl,x2⟩;rw [hgr])|refine zG (d:=some 25) (E:=inR) (M:=M) (l:=t.ins) rfl (SlR.ext h11 (by exact fx)) ?_|(refine aM (fun (p:Nat) w'=>Chg [b,mb] w1 w'∧p≤t.ins.length∧cH T.coins_Set w' b mb (cI l (t.ins.take p))) (fun p=> [(0,.pointer (some ⟨b,0,none⟩)),(3,.int .i64 h),(5,.pointer (some ⟨bp,0,none⟩)),(24,iv),(25,.int .i64 (t.ins.length:Nat)),(26,.int .i64 (p:Nat))]) (fun p=>t.ins.length - p) 0 ⟨rfl,rfl,rfl,rfl,rfl,rfl,trivial⟩ ⟨Chg.mono x2 (by simp),by simp,by unfold cI;exact S1.ext (by exact fx)⟩ ?_;rintro k ρ w4 ⟨c4,hk,S4⟩)|refine zL (x:=.tmp 27) (p:=((k:Nat):Int)<((t.ins.length:Nat):Int)) rfl (fun h9=>?_) (fun h9=>?_)|refine go1 ?_|refine zg λ_ _=>?_|refine zi λ_ _=>?_)
   ·have hkl:k<t.ins.length:=by omega
    have h14:SlR inR M w4 iv t.ins:=h11.step c4 (fun y hy=>.inl (sub y hy)) (fun y hy=>.inl hy)
    have s4:=c4.size
    repeat (first|(refine aR (d:=some 28) (E:=inR) (M:=M) rfl rfl (n:=k) (l:=t.ins) h14 rfl hkl (fun ad cs r4 he=>?_);obtain ⟨wv,rfl,hwv,hp5,hp6⟩:=he)|refine zE (d':=11) (fun _=>rfl) rfl rfl (by have:=hwv.one;simp [gY,this];exact ⟨rfl,rfl,rfl⟩) (fun b7 w7 x7 a7 (r7:Row w7 ⟨b7,0,none⟩ (gY t.ins[k] wv)) hb7=>?_)|refine go1 ?_|refine zg λ_ _=>?_|refine zi λ_ _=>?_)
    refine zC (d:=some 33) rfl (qY t.ins[k].p _ (S4.ext x7)) ?_
    rintro _ w8 ⟨rfl,S8,c8⟩
    repeat (first|refine go1 ?_|refine zg λ_ _=>?_|refine zi λ_ _=>?_)
    exact ⟨k+1,⟨rfl,rfl,rfl,rfl,rfl,rfl,trivial⟩,⟨(c4.trans (Chg.trans x7 c8)).mono (by simp),by omega,by rw [qK hkl];exact S8⟩,by omega⟩
   ·have e:t.ins.take k=t.ins:=tLe (by omega)
    rw [e] at S4
    have ht4:txR.rel M w4 (aZ t iv ov) t:=R.step txR ht1 c4 (fun y hy=>.inl (sub y hy)) (fun y hy=>.inl hy)
    have rp4:Row w4 ⟨bp,0,none⟩ (aZ t iv ov):=Row.chg c4 rp1 hbn
    rw [←hmid] at S4
    repeat (first|refine go1 ?_|refine zg λ_ _=>?_|refine zi λ_ _=>?_)
    refine zC (d:=some 38) rfl (aHg (M:=M) (t:=t) (cs:=aZ t iv ov) (m:=gP l t) h _ S4 hb hmb ht4 hs hc) ?_
    rintro _ w5 ⟨rfl,S5,c5⟩
    have c05:Chg [b,mb] w w5:=(Chg.trans x01 (c4.trans c5)).mono (by simp)
    by_cases hp:(fD (idT t) h 0 t.outs (gP l t)).2=0
    ·rw [if_pos hp]
     have e:=aM7 hm hp
     repeat (first|refine go1 ?_|refine zg λ_ _=>?_|refine zi λ_ _=>?_)
     exact aB rfl ⟨by rw [e];exact dM.none_ _ 1,⟨_,S5,fun _=>by rw [e]⟩,c05⟩
    ·rw [if_neg hp]
     have e:=aIi hm hp
     repeat (first|refine go1 ?_|refine zg λ_ _=>?_|refine zi λ_ _=>?_)
     exact aB rfl ⟨by rw [e];exact dM.num _ 1 hp,⟨_,S5,fun q=>absurd (by rw [e] at q;exact q) hp⟩,c05⟩
 ·obtain ⟨et,eu,rfl⟩:=he.nil_iff.2 hm
  have e:=yK hm
  repeat (first|refine go1 ?_|refine zg λ_ _=>?_|refine zi λ_ _=>?_)
  exact aB rfl ⟨by rw [e];exact he,⟨l,hS.ext x01,fun q=>absurd (by rw [e] at q;exact q) hm⟩,Chg.mono x01 (by simp)⟩
end
section
open Go Go.K
attribute [local irreducible] aD aK aV KOp.wp K.Spec u32 leS vnS str aN aI aO bI idT aY inE fR iB fD cW cI cJ aX bG aQ bP bA fW pY
def yJ (w:World) (v:Value) (c a i:Int):Prop:=c=0∧v=.nilIface∨c≠0∧(v=sI c∧a= -1∧i= -1∨0≤a∧∃b u,v=.iface T.P_api_Fault (.pointer (some ⟨b,0,none⟩))∧At w b (.cells [.int .i64 a,u].toArray T.api_Fault (0,0))∧dM w 1 u c i)
theorem dM.off {w w':World} {b6:Nat} {z:Array Value} {t:TypeId} (ha:At w b6 (.cells z t (0,0))) (ht:t≠T.api_Fault) (cc:Chg [b6] w w'):∀{d:Nat} {v:Value} {c a:Int},dM w d v c a→dM w' d v c a
 |0,_,_,_,h=>h
 |_+1,_,_,_,.inl h=>.inl (dM.off ha ht cc h)
 |_+1,_,_,_,.inr ⟨h1,h2,b,u,a',h3,h4,h5⟩=>.inr ⟨h1,h2,b,u,a',h3,h4.chg cc (by
   simp only [List.mem_singleton]
   intro e
   subst e
   have:=h4.inj ha
   simp only [Obj.cells.injEq] at this
   exact ht this.2.1.symm),dM.off ha ht cc h5⟩
theorem aNd (txs:List Tx) (k:Nat):cZ (txs.take k)≤cZ txs:=by
 unfold cZ
 rw [List.map_take]
 have:=List.sum_append_nat (l₁:=(txs.map fun t=>t.outs.length).take k) (l₂:=(txs.map fun t=>t.outs.length).drop k)
 rw [List.take_append_drop] at this
 omega
theorem aNc {txs:List Tx} {k:Nat} (h:k<txs.length):cZ (txs.take (k+1))=cZ (txs.take k)+txs[k].outs.length:=by
 unfold cZ
 rw [List.take_succ_eq_append_getElem h,List.map_append,List.sum_append_nat];simp
set_option maxHeartbeats 4000000 in
theorem eU {b mb:Nat} {M:List Nat} {v:Value} {txs:List Tx} {l:List En} (h:Int) (w:World) (hS:cH T.coins_Set w b mb l) (hg:CG l) (hsc:SC l) (hb:b∈M) (hmb:mb∈M) (hM:∀y∈M,y<w.heap.size) (hx:SlR txR M w v txs) (hs:∀t∈txs,t.Sm) (hn:l.length+cZ txs≤80000) (hk0:txs.length≤1000):
  K.Spec Tryz.prog F.block_Apply [.pointer (some ⟨b,0,none⟩),v,.int .i64 h] w fun r w'=>∃sv mv e,r=.tuple #[.agg #[sv,mv],e]∧yJ w' e (aP l txs h).2.1 (aP l txs h).2.2.1 (aP l txs h).2.2.2∧cH T.coins_Set w' b mb (aP l txs h).1∧
   ((aP l txs h).2.1=0→SlE aU w' sv (bA l (aP l txs h).1)∧SlE aU w' mv (bA (aP l txs h).1 l)∧∀y,y∈aH sv∨y∈aH mv→w.heap.size≤y)∧((aP l txs h).2.1≠0→sv=.slice none 0 0∧mv=.slice none 0 0)∧Chg [b,mb] w w':=by
 have hlt:=hS.lt
 have hbmb:=hS.ne
 refine vO rfl ?_
 unfold nY
 refine oy ?_
 by_cases hr:0≤h∧h≤1000000
 ·have eA:aP l txs h=gF l h 0 txs l:=by unfold aP;rw [if_neg (by omega)]
  rw [eA]
  repeat' (first|refine zH (d:=some 6) (fun b6 w1 x1 a1 hb6=>?_)|refine aG (d:=some 20) (.bool false) rfl (congrArg (fun b=>some (Value.bool b)) (dFa (by omega))) ?_|refine aG (d:=some 23) (.bool false) rfl (congrArg (fun b=>some (Value.bool b)) (dFa (by omega))) ?_|(refine zC (d:=some 28) rfl (rF _ (hS.ext (by exact fx))) ?_;rintro _ w2 ⟨nb,nmb,rfl,N2,hnb,hnmb,x2⟩)|refine zG (d:=some 30) (E:=txR) (M:=M) (l:=txs) rfl (SlR.ext hx (by exact fx)) ?_|refine go1 ?_|refine zg λ_ _=>?_|refine zi λ_ _=>?_)
  have s1:=x1.size
  have s2:=x2.size
  have l6:=a1.lt
  have x02:Ext w w2:=x1.trans x2
  have a62:=At.ext x2 a1
  have nin:∀y∈ [nb,nmb],w1.heap.size≤y:=by intro y hy;simp at hy;rcases hy with rfl|rfl<;>assumption
  have x02':Unit→Ext w w2:=fun _=>x02
  have nlt:=N2.lt
  refine aM (fun (p:Nat × List En) w'=>Ext w w'∧Ext w1 w'∧p.1≤txs.length∧cH T.coins_Set w' nb nmb p.2∧CG p.2∧SC p.2∧vW l h txs p.1 p.2) (fun p=> [(0,.pointer (some ⟨b,0,none⟩)),(2,.int .i64 h),(6,.pointer (some ⟨b6,0,none⟩)),(8,.pointer (some ⟨nb,0,none⟩)),(29,v),(30,.int .i64 (txs.length:Nat)),(31,.int .i64 (p.1:Nat))]) (fun p=>txs.length - p.1) (0,l) ⟨rfl,rfl,rfl,rfl,rfl,rfl,rfl,trivial⟩ ⟨x02,x2,by simp,N2,hg,hsc,aDw⟩ ?_
  rintro ⟨k,m⟩ ρ w3 ⟨x3,x13,hk,N3,g3,sc3,hok⟩
  simp only at hk N3 g3 sc3 hok
  dsimp only
  have a63:=At.ext x13 a1
  have s13:=x13.size
  repeat (first|refine go1 ?_|refine zg λ_ _=>?_|refine zi λ_ _=>?_)
  refine zL (x:=.tmp 32) (p:=((k:Nat):Int)<((txs.length:Nat):Int)) rfl (fun h6=>?_) (fun h6=>?_)
  ·have hkl:k<txs.length:=by omega
   have hst:=hs _ (gMe hkl)
   have hx3:SlR txR (nb::nmb::M) w3 v txs:=hx.step x3 (by simp) (fun y hy=>by
    simp only [List.mem_cons] at hy
    rcases hy with rfl|rfl|hy
    ·exact .inr (by omega)
    ·exact .inr (by omega)
    ·exact .inl hy)
   have x03':Unit→Ext w w3:=fun _=>x3
   have x13':Unit→Ext w1 w3:=fun _=>x13
   clear x3 x13 x02 x1 x2
   repeat (first|(refine aR (d:=some 34) (E:=txR) (M:=nb::nmb::M) rfl rfl (n:=k) (l:=txs) hx3 rfl hkl (fun ad cs r4 he=>?_);obtain ⟨iv,ov,rfl,p1,p2,p3⟩:=id he)|refine zH (d:=some 10) (fun b10 w4 x4 a4 hb10=>?_)|refine go1 ?_|refine zg λ_ _=>?_|refine zi λ_ _=>?_)
   have o1:=p1.one
   have o2:=p2.one
   refine bQ (w0:=w3) (n:=4) (vs:=aZ txs[k] iv ov) x4 hb10 a4 rfl rfl rfl rfl (by simp [aZ,o1,o2];exact ⟨rfl,rfl⟩) (fun w5 x5 c5 a5 r5=>?_)
   repeat (first|refine go1 ?_|refine zg λ_ _=>?_|refine zi λ_ _=>?_)
   refine zC (d:=some 40) rfl (aQy (M:=nb::nmb::M) (cs:=aZ txs[k] iv ov) (t:=txs[k]) (l:=m) k h _ (N3.ext x5) g3 sc3 (by simp) (by simp) (R.ext he x5) hst) ?_
   rintro e w6 ⟨he6,⟨m',N6,hm'⟩,c6⟩
   have x06:Ext w w6:=(Ext.chg ((x03' ()).trans x5) c6).mono (fun y hy=>.inr (by have:=nin y hy;omega))
   have x16:Ext w1 w6:=(Ext.chg ((x13' ()).trans x5) c6).mono (fun y hy=>.inr (nin y hy))
   clear x4 x5 a4 c5 a5 r5 c6 p1 p2 r4
   by_cases h0:(cW m txs[k] k h).2.1=0
   ·obtain ⟨rfl, -⟩:=he6.nil_iff.1 h0
    repeat (first|refine go1 ?_|refine zg λ_ _=>?_|refine zi λ_ _=>?_)
    exact ⟨(k+1,m'),⟨rfl,rfl,rfl,rfl,rfl,rfl,rfl,trivial⟩,⟨x06,x16,by simp only;omega,N6,by rw [hm' h0];exact jV g3 _ _ _,by rw [hm' h0];exact aDa g3 sc3 _ _ _,by rw [hm' h0];exact aD8 hkl hok h0⟩,by simp only;omega⟩
   ·obtain ⟨et,eu,rfl⟩:=he6.nil_iff.2 h0
    have eR:=aG5 hkl hok h0
    rw [eR]
    have a66:=At.ext x16 a1
    repeat (first|refine bR (d:=some 46) (cs:= [.int .i64 (k:Nat),.iface et eu]) rfl ?_|refine zD (d:=some 47) (cs:= [.int .i64 (k:Nat),.iface et eu]) rfl rfl (fun b8 w8 x8 a8 r8 hb8=>?_)|refine go1 ?_|refine zg λ_ _=>?_|refine zi λ_ _=>?_)
    refine bQ (w0:=w) (n:=2) (vs:= [.slice none 0 0,.slice none 0 0]) (x06.trans x8) (by omega) (At.ext x8 a66) rfl rfl rfl rfl rfl (fun w9 x9 c9 a9 r9=>?_)
    repeat (first|refine go1 ?_|refine zg λ_ _=>?_|refine zi λ_ _=>?_)
    have l8:=a8.lt
    have h68:w1.heap.size≤b8:=nTr x16.size hb8
    exact aB (kU (cB r9 rfl rfl) bZ) ⟨.slice none 0 0,.slice none 0 0,_,rfl,.inr ⟨h0,.inr ⟨(show (0:Int)≤((k:Nat):Int) by omega),b8,_,rfl,At.chg c9 a8 (by simp;omega),dM.off (At.ext x8 a66) (by decide) c9 (he6.ext x8)⟩⟩,hS.ext x9,fun q=>absurd q h0,fun _=>⟨rfl,rfl⟩,Chg.mono x9 (by simp)⟩
  ·have ek:txs.length≤k:=by omega
   have eR:=aHn ek hok
   rw [eR]
   have S3:=hS.ext x3
   have hlm:m.length≤80000:=by
    have:=jL hg txs h
    rw [eA,eR] at this
    simp only at this;omega
   have x03':Unit→Ext w w3:=fun _=>x3
   have s03:=x3.size
   clear x3 x02 x1 x2
   repeat (first|refine go1 ?_|refine zg λ_ _=>?_|refine zi λ_ _=>?_)
   refine zC (d:=some 52) rfl (aFp _ S3 N3 (by omega)) ?_
   rintro sv w4 ⟨osv,x4⟩
   repeat (first|refine go1 ?_|refine zg λ_ _=>?_|refine zi λ_ _=>?_)
   refine zC (d:=some 55) rfl (aFp _ (N3.ext x4) (S3.ext x4) (by omega)) ?_
   rintro mv w5 ⟨omv,x5⟩
   have osv5:=osv.ext x5
   obtain ⟨q1,q2,hsv⟩:=osv5.sl.form
   obtain ⟨q3,q4,hmv⟩:=omv.sl.form
   have one1:sv.oneCell'=true:=by obtain ⟨_,_,e⟩:=osv5.sl.form;rw [e];rfl
   have one2:mv.oneCell'=true:=by obtain ⟨_,_,e⟩:=omv.sl.form;rw [e];rfl
   have hl1:=jN l m
   have hl2:=jN m l
   have bs1:=osv5.base
   have bs2:=omv.base
   have s34:=x4.size
   have s45:=x5.size
   repeat (first|refine bR (d:=some 56) (cs:= [sv,mv]) (by rw [hsv,hmv];rfl) ?_|refine zE (d':=12) (fun _=>rfl) rfl rfl (by show List.all [sv,mv] _=true;simp only [List.all_cons,List.all_nil,one1,one2];rfl) (fun b12 w6 x6 a12 (r12:Row w6 ⟨b12,0,none⟩ [sv,mv]) hb12=>?_)|refine go1 ?_|refine zg λ_ _=>?_|refine zi λ_ _=>?_)
   have x36:Ext w3 w6:=x4.trans (x5.trans x6)
   have osv6:=osv5.ext x6
   have omv6:=omv.ext x6
   have off1:SlR enR [b,mb,b6] w6 sv (bA l m):=osv6.sl.en fun y hy hm=>by
    have:=bs1 y hy
    simp at hm
    omega
   have off2:SlR enR [b,mb,b6] w6 mv (bA m l):=omv6.sl.en fun y hy hm=>by
    have:=bs2 y hy
    simp at hm
    omega
   refine zC (d:=some 62) rfl (rE (l:=l) (out:=bA l m) (inn:=bA m l) _ (S3.ext x36) (off1.sub (fun y hy=>.inl (by simp at hy ⊢;omega))) (off2.sub (fun y hy=>.inl (by simp at hy ⊢;omega))) (by omega) (by omega)) ?_
   rintro _ w7 ⟨rfl,S7,c7⟩
   rw [uG hg g3] at S7
   have r127:Row w7 ⟨b12,0,none⟩ [sv,mv]:=Row.chg c7 r12 (by simp;omega)
   have a67:=At.chg c7 (At.ext x36 a63) (by simp;omega)
   have off17:=off1.step c7 (M':= [b6]) (fun y hy=>.inl (by simp at hy ⊢;omega)) (fun y hy=>.inl (by simp at hy ⊢;omega))
   have off27:=off2.step c7 (M':= [b6]) (fun y hy=>.inl (by simp at hy ⊢;omega)) (fun y hy=>.inl (by simp at hy ⊢;omega))
   have c07:Chg [b,mb] w w7:=(Chg.trans ((x03' ()).trans x36) c7).mono (by simp)
   clear x4 x5 x6 x36 c7 a12 r12 off1 off2 osv6 omv6 osv5 osv omv
   repeat (first|refine go1 ?_|refine zg λ_ _=>?_|refine zi λ_ _=>?_)
   refine bW (b:=b6) (vs:= [sv,mv]) rfl rfl rfl (by simp [one1,one2]) a67 rfl (fun w8 c8 a8=>?_)
   repeat (first|refine go1 ?_|refine zg λ_ _=>?_|refine zi λ_ _=>?_)
   have S8:cH T.coins_Set w8 b mb m:=S7.chg c8 (by simp;omega) (by simp;omega)
   have fin1:=off17.step c8 (M':= []) (fun y hy=>.inl hy) (by simp)
   have fin2:=off27.step c8 (M':= []) (fun y hy=>.inl hy) (by simp)
   refine aB (kU (cB (Row.of_at a8) rfl rfl) bZ) ⟨sv,mv,_,rfl,.inl ⟨rfl,rfl⟩,S8,fun _=>⟨fin1.en,fin2.en,fun y hy=>?_⟩,fun q=>absurd rfl q,?_⟩
   ·rcases hy with hy|hy
    ·have:=bs1 y hy;omega
    ·have:=bs2 y hy;omega
   ·refine (c07.trans c8).mono ?_
    intro y hy
    simp at hy ⊢
    omega
 ·have eA:aP l txs h=(l,3, -1, -1):=by unfold aP;rw [if_pos (by omega)]
  rw [eA]
  repeat' (first|refine zH (d:=some 6) (fun b6 w1 x1 a1 hb6=>?_)|refine zJ (t:=21) (p:=h<0) rfl (fun hh=>?_) (fun hh=>?_)|refine zL (x:=.tmp 18) rfl (fun _=>?_) (fun h=>absurd (by omega) h)|refine go1 ?_|refine zg λ_ _=>?_|refine zi λ_ _=>?_)
  all_goals
   refine bQ (w0:=w) (n:=2) (vs:= [.slice none 0 0,.slice none 0 0]) x1 hb6 a1 rfl rfl rfl rfl rfl (fun w9 x9 c9 a9 r9=>?_)
   repeat (first|refine go1 ?_|refine zg λ_ _=>?_|refine zi λ_ _=>?_)
   exact aB (kU (cB r9 rfl rfl) bZ) ⟨.slice none 0 0,.slice none 0 0,_,rfl,.inr ⟨(show (3:Int)≠0 by decide),.inl ⟨rfl,rfl,rfl⟩⟩,hS.ext x9,fun q=>absurd q (show ¬(3:Int)=0 by decide),fun _=>⟨rfl,rfl⟩,Chg.mono x9 (by simp)⟩
end
section
open Go Go.K
attribute [local irreducible] aD aK aV KOp.wp K.Spec u32 leS vnS str aN aI aP bI idT aY
theorem yJ.off {w w':World} {b6:Nat} {z:Array Value} {t:TypeId} (ha:At w b6 (.cells z t (0,0))) (ht:t≠T.api_Fault) (cc:Chg [b6] w w') {v:Value} {c a i:Int} (h:yJ w v c a i):yJ w' v c a i:=by
 rcases h with h|⟨h1,h|⟨h2,b,u,h3,h4,h5⟩⟩
 ·exact .inl h
 ·exact .inr ⟨h1,.inl h⟩
 ·refine .inr ⟨h1,.inr ⟨h2,b,u,h3,h4.chg cc ?_,dM.off ha ht cc h5⟩⟩
  simp only [List.mem_singleton]
  intro e
  subst e
  have:=h4.inj ha
  simp only [Obj.cells.injEq] at this
  exact ht this.2.1.symm
theorem yJ.ext {w w':World} {v:Value} {c a i:Int} (h:yJ w v c a i) (x:Ext w w'):yJ w' v c a i:=by
 rcases h with h|⟨h1,h|⟨h2,b,u,h3,h4,h5⟩⟩
 ·exact .inl h
 ·exact .inr ⟨h1,.inl h⟩
 ·exact .inr ⟨h1,.inr ⟨h2,b,u,h3,h4.ext x,h5.ext x⟩⟩
theorem aMk {l0:List En} {h:Int}:∀(txs:List Tx) (i:Nat) (m:List En),(gF l0 h i txs m).2.1≠0→(gF l0 h i txs m).1=l0
 | [],_,_,h0=>absurd rfl h0
 |t::ts,i,m,h0=>by
  unfold gF at h0 ⊢
  split
  ·rfl
  ·rename_i hc
   rw [if_neg hc] at h0
   exact aMk ts (i+1) _ h0
theorem wA {l:List En} {txs:List Tx} {b:Int} (h0:(aP l txs b).2.1≠0):(aP l txs b).1=l:=by
 unfold aP at h0 ⊢
 split
 ·rfl
 ·rename_i hc
  rw [if_neg hc] at h0
  exact aMk _ _ _ h0
end
end Go.Proofs.YtgloknkcfchnlaaGreatDoor
section
namespace Go.K
open Go
section
variable {P:Program} {d:Option Tmp} {r:KR} {K:Env→World→Prop} {ρ:Env} {w:World}
theorem aDh {α:Type} {E:R α} {t:TypeId} {B:Nat} {M:List Nat} {v:Value} {l:List α} {size:Nat} {x i:Operand} {kd:IntKind} {n:Nat} (hx:ev ρ x=v) (hi:ev ρ i=.int kd (n:Nat)) (hs:bH E t B M w v l) (hk:size=E.k) (hr:n<l.length)
  (k:∀ad cs,Row w ad cs→E.rel (aH v++M) w cs l[n]→aD P r K (put ρ d (.pointer (some ad))) w):aD P (.cons ⟨d,.indexAddr size x i,none⟩ r) K ρ w:=by
 obtain ⟨css,h1,h2⟩:=hs
 have hr':n<css.length:=by rw [h2.length];exact hr
 exact aL (E:=jE E.k E.pos) hx hi h1.sl hk hr' fun ad hrow=>k ad _ hrow (h2.get n hr' hr)
end
end Go.K
namespace Go.Proofs.YtgloknkcfchnlaaGreatDoor
open Go Go.K
attribute [local irreducible] aD aK aV KOp.wp K.Spec u32 leS vnS str aN aI aP bI idT aY
end Go.Proofs.YtgloknkcfchnlaaGreatDoor
end
namespace Go.Proofs.YtgloknkcfchnlaaGreatDoor
section
open Go Go.K
attribute [local irreducible] aD aK aV KOp.wp K.Spec u32 leS vnS str aN aI aP bI idT aY
set_option maxHeartbeats 1000000 in
theorem aEa {M:List Nat} {v:Value} {outs:List TOut} (h:Int) (w:World) (hh:0≤h∧h≤1000000) (ho:SlR fT M w v outs) (hn:outs.length≤1000) (hM:∀y∈M,y<w.heap.size):K.Spec Tryz.prog F.tx_Grant [.int .i64 h,v] w fun r w'=>∃cs,r=.agg cs.toArray∧txO w.heap.size M w' cs (grT h outs)∧Ext w w':=by
 have ew:IntKind.u32.wrap h=h:=by show h%4294967296=h;omega
 refine aOh rfl ?_
 unfold aDg
 refine oy ?_
 repeat (first|refine zH (d:=some 4) (fun b4 w1 x1 a1 hb4=>?_)|(refine zC (d:=some 5) rfl (aBo _) ?_;rintro _ w2 ⟨rfl,x2⟩)|refine bR (d:=some 6) (cs:=gY ⟨nS,4294967295, []⟩ (.slice none 0 0)) rfl ?_|refine zI (d:=some 7) (cs:=gY ⟨nS,4294967295, []⟩ (.slice none 0 0)) rfl (fun b7 w3 x3 a3 hb7=>?_)|(refine zC (d:=some 9) rfl (aJr (M:=b4::b7::M) _ (ho.step (show Ext w _ by exact fx) (by simp) (fun y hy=>by simp only [List.mem_cons] at hy;rcases hy with rfl|rfl|hy;exact .inr hb4;exact .inr (by have:=Ext.size (show Ext w w2 by exact fx);omega);exact .inl hy)) (by omega) (fun y hy=>by simp only [List.mem_cons] at hy;rcases hy with rfl|rfl|hy;exact nLt a1.lt (Ext.size (by exact fx));exact a3.lt;exact nLt (hM y hy) (Ext.size (show Ext w w3 by exact fx)))) ?_;rintro ov w4 ⟨oo,x4⟩;obtain ⟨q1,q2,eov⟩:∃base cap,ov=.slice base outs.length cap:=(oo.sl (fun y hy hv=>by have:=oo.base y hv;simp only [List.mem_cons] at hy;rcases hy with rfl|rfl|hy;have:=a1.lt;have:=Ext.size (show Ext w1 w3 by exact fx);omega;have:=a3.lt;omega;have:=hM y hy;have:=Ext.size (show Ext w w3 by exact fx);omega)).form)|(rw [ew];refine bR (d:=some 12) (cs:=aZ (grT h outs) (.slice (some ⟨b7,0,none⟩) 1 1) ov) (by rw [eov];rfl) ?_)|refine go1 ?_|refine zg λ_ _=>?_|refine zi λ_ _=>?_)
 have x04:Ext w w4:=by exact fx
 have s03:=Ext.size (show Ext w w3 by exact fx)
 have s02:=Ext.size (show Ext w w2 by exact fx)
 have l3:=a3.lt
 refine bQ (w0:=w) (n:=4) (vs:=aZ (grT h outs) (.slice (some ⟨b7,0,none⟩) 1 1) ov) x04 hb4 (At.ext x4 (At.ext x3 (At.ext x2 a1))) rfl rfl rfl rfl (by rw [eov];rfl) (fun w5 x5 c5 a5 r5=>?_)
 repeat (first|refine go1 ?_|refine zg λ_ _=>?_|refine zi λ_ _=>?_)
 have hb74:b7≠b4:=by have:=a1.lt;have:=x2.size;omega
 have oib:bH inR T.api_In w.heap.size M w5 (.slice (some ⟨b7,0,none⟩) 1 1) [⟨nS,4294967295, []⟩]:=
  ⟨[⟨gY ⟨nS,4294967295, []⟩ (.slice none 0 0),rfl,by intro v hv;simp [gY] at hv;rcases hv with rfl|rfl|rfl|rfl<;>rfl⟩],.inr ⟨b7,1, [],rfl,by omega,(a3.ext x4).chg c5 (by simp;omega),rfl⟩,.cons ⟨_,rfl,SlR.nil _ _,⟨by decide,by decide⟩,⟨by decide,by decide⟩⟩ .nil⟩
 have oov:bH fT T.api_Out w.heap.size M w5 ov outs:=(oo.lower s03).step c5 (M':=M) (fun y hy=>by
  simp at hy;subst hy
  exact ⟨fun h=>by have:=oo.base _ h;have:=a1.lt;have:=Ext.size (show Ext w1 w3 by exact fx);omega,.inl (by simp)⟩) (fun y hy=>.inl (by simp [hy]))
 exact aB (aGc (cB r5 rfl rfl)) ⟨_,rfl,⟨_,_,rfl,oib,oov,(show iA 2 by unfold iA;omega),(show iA h by unfold iA;omega)⟩,x5⟩
end
section
open Go Go.K
attribute [local irreducible] aD aK aV KOp.wp K.Spec u32 leS vnS str aN aI aP bI idT aY
theorem aSl {α:Type} {E:R α} {M:List Nat} {w:World} {b:Nat} {t:TypeId} {cs:List Value} {a:α} (h:At w b (.cells cs.toArray t (0,0))) (ha:E.rel (b::M) w cs a) (hb:b∉M):SlR E M w (.slice (some ⟨b,0,none⟩) 1 1) [a]:=by
 have ef:(jE E.k E.pos).flat [R.vec ha]=cs:=by simp only [Enc.flat,List.flatMap_cons,List.flatMap_nil,List.append_nil];rfl
 have o:bH E t 0 M w (.slice (some ⟨b,0,none⟩) 1 1) [a]:=⟨[R.vec ha],.inr ⟨b,1, [],rfl,Nat.zero_le _,by rw [ef,List.append_nil];exact h,by rw [List.append_nil,Enc.flat_length];rfl⟩,.cons ha .nil⟩
 exact o.sl fun b' hb' h'=>by
  simp [aH] at h'
  subst h';exact hb hb'
theorem aPn {B:Nat} {M:List Nat} {w w':World} {cs:List Value} {t:Tx} {b:Nat} (h:txO B M w cs t) (hM:∀y∈M,y<B) (x:Ext w w') (a:At w' b (.cells cs.toArray T.api_Tx (0,0))) (hb:w.heap.size≤b) (hMl:∀y∈M,y<w.heap.size):SlR txR M w' (.slice (some ⟨b,0,none⟩) 1 1) [t]:=by
 have h2:txR.rel (b::M) w' cs t:=txR.step (h.rel hM) x (by simp) (fun y hy=>by simp only [List.mem_cons] at hy;rcases hy with rfl|hy;exact .inr hb;exact .inl hy)
 exact aSl (E:=txR) a h2 (fun hm=>by have:=hMl _ hm;omega)
end
end Go.Proofs.YtgloknkcfchnlaaGreatDoor
