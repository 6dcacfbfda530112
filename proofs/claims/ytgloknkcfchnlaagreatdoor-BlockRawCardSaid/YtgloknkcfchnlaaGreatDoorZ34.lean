/- Contracts: what goes for a transaction; may an entry be repl -/
import Derived.Test.YtgloknkcfchnlaaGreatDoorZ12
import Derived.Test.YtgloknkcfchnlaaGreatDoorZ30
import Derived.Test.YtgloknkcfchnlaaGreatDoorZ32
set_option linter.unusedVariables false
set_option linter.unusedSimpArgs false
namespace Go.Proofs.YtgloknkcfchnlaaGreatDoor
section
open Go Go.K
attribute [local irreducible] aD aK aV KOp.wp K.Spec u32 leS vnS str aN cR bI idT aY aI aO
end
end Go.Proofs.YtgloknkcfchnlaaGreatDoor
section
namespace Go.K
open Go Go.Proofs.YtgloknkcfchnlaaGreatDoor
def cH (t:TypeId) (w:World) (b mb:Nat) (l:List En):Prop:=Srt l∧∃m:List En,m.Perm l∧jT t w b mb m
theorem cH.chg {t:TypeId} {w w':World} {b mb:Nat} {l:List En} {L:List Nat} (hc:Chg L w w') (h:cH t w b mb l) (h1:b∉L) (h2:mb∉L):cH t w' b mb l:=by
 obtain ⟨hs,m,hp,h⟩:=h
 exact ⟨hs,m,hp,h.chg hc h1 h2⟩
theorem cH.ext {t:TypeId} {w w':World} {b mb:Nat} {l:List En} (hc:Ext w w') (h:cH t w b mb l):cH t w' b mb l:=h.chg hc (by simp) (by simp)
theorem cH.lt {t:TypeId} {w:World} {b mb:Nat} {l:List En} (h:cH t w b mb l):b<w.heap.size∧mb<w.heap.size:=by
 obtain ⟨_,m,_,h⟩:=h
 exact ⟨h.1.lt,h.2.1.lt⟩
theorem cH.ne {t:TypeId} {w:World} {b mb:Nat} {l:List En} (h:cH t w b mb l):b≠mb:=by
 obtain ⟨_,m,_,h⟩:=h
 exact h.ne
theorem cH.mon {t:TypeId} {w:World} {b mb:Nat} {l:List En} (h:cH t w b mb l):Mon l:=by
 obtain ⟨_,m,hp,h⟩:=h
 exact ⟨fun e he=>h.2.2.1 e (hp.mem_iff.2 he),by rw [←lK hp];exact h.2.2.2⟩
end Go.K
namespace Go.Proofs.YtgloknkcfchnlaaGreatDoor
open Go Go.K
attribute [local irreducible] aD aK aV KOp.wp K.Spec
theorem aZr {w:World} {b mb:Nat} {l:List En} (h:cH T.coins_Set w b mb l) (hs:∀e∈l,e.2.s.size≤1000000):rO w (.iface T.P_coins_Set (.pointer (some ⟨b,0,none⟩))) (aT l):=by
 obtain ⟨hq,m,hp,h⟩:=h
 have e:aT m=aT l:=funext fun p=>pT hp hq p
 rw [←e]
 exact rO.of_set h fun x hx=>hs x (hp.mem_iff.1 hx)
theorem lC (w:World):K.Spec Tryz.prog F.coins_New [] w fun v w'=>∃b mb,v=.pointer (some ⟨b,0,none⟩)∧cH T.coins_Set w' b mb []∧w.heap.size≤b∧w.heap.size≤mb∧Ext w w':=
 fK (aQm w) fun v w' ⟨b,mb,e,h,h1,h2,x⟩=>⟨b,mb,e,⟨.nil, [],List.Perm.refl _,h⟩,h1,h2,x⟩
theorem aR5 {b mb:Nat} {l:List En} (p:Pt) (w:World) (h:cH T.coins_Set w b mb l):K.Spec Tryz.prog F.coins_Set_Get [.pointer (some ⟨b,0,none⟩),p.val] w fun v w'=>v=.tuple #[(cJ l p).val,.bool (aT l p).isSome]∧Ext w w':=by
 obtain ⟨hs,m,hp,h⟩:=h
 refine fK (aHb p w h) fun v w' ⟨e,x⟩=>⟨?_,x⟩
 rw [e,oX hp hs,pT hp hs]
theorem uM {b mb:Nat} {l:List En} (p:Pt) (c:Cn) (w:World) (h:cH T.coins_Set w b mb l):K.Spec Tryz.prog F.coins_Set_Put [.pointer (some ⟨b,0,none⟩),p.val,c.val] w fun v w'=>
  v=.int .i64 (aQ l p c)∧cH T.coins_Set w' b mb (bG l p c)∧Chg [b,mb] w w':=by
 obtain ⟨hs,m,hp,h⟩:=h
 refine fK (aQ0 p c w h) fun v w' ⟨e,h',x⟩=>⟨?_,⟨(xZ hp hs p c).2.1,_,(xZ hp hs p c).1,h'⟩,x⟩
 rw [e,aFo hp hs]
theorem qY {b mb:Nat} {l:List En} (p:Pt) (w:World) (h:cH T.coins_Set w b mb l):K.Spec Tryz.prog F.coins_Set_Take [.pointer (some ⟨b,0,none⟩),p.val] w fun v w'=>
  v=.tuple #[(cJ l p).val,.int .i64 (bP l p)]∧cH T.coins_Set w' b mb (aX l p)∧Chg [b,mb] w w':=by
 obtain ⟨hs,m,hp,h⟩:=h
 refine fK (aM3 p w h) fun v w' ⟨e,h',x⟩=>⟨?_,⟨(aD2 hp hs p).2.1,_,(aD2 hp hs p).1,h'⟩,x⟩
 rw [e,oX hp hs,aBl hp hs]
theorem gA {b mb:Nat} {l:List En} (w:World) (h:cH T.coins_Set w b mb l):K.Spec Tryz.prog F.coins_Set_Total [.pointer (some ⟨b,0,none⟩)] w fun v w'=>v=.int .i64 (tot l)∧Ext w w':=by
 obtain ⟨hs,m,hp,h⟩:=h
 refine fK (aL1 w h) fun v w' ⟨e,x⟩=>⟨?_,x⟩
 rw [e,lK hp]
theorem lE {b mb:Nat} {l:List En} (w:World) (h:cH T.coins_Set w b mb l) (hn:l.length≤100000):K.Spec Tryz.prog F.coins_Set_All [.pointer (some ⟨b,0,none⟩)] w fun v w'=>SlE aU w' v l∧(∀x∈aH v,w.heap.size≤x)∧Ext w w':=by
 obtain ⟨hs,m,hp,h⟩:=h
 refine fK (aP7 w h (by rw [hp.length_eq];exact hn)) fun v w' ⟨l',hp',hs',hsl,hb,x⟩=>⟨?_,hb,x⟩
 have hp2:=hp'.trans hp
 have e:l'=l:=aAr hp2 (hs'.imp fun {a b} q=>by rwa [aDc] at q) hs
 rw [←e];exact hsl
theorem rF {b mb:Nat} {l:List En} (w:World) (h:cH T.coins_Set w b mb l):K.Spec Tryz.prog F.coins_Set_Copy [.pointer (some ⟨b,0,none⟩)] w fun v w'=>
  ∃b' mb',v=.pointer (some ⟨b',0,none⟩)∧cH T.coins_Set w' b' mb' l∧w.heap.size≤b'∧w.heap.size≤mb'∧Ext w w':=by
 obtain ⟨hs,m,hp,h⟩:=h
 exact fK (aM2 w h) fun v w' ⟨b',mb',e,h',h1,h2,x⟩=>⟨b',mb',e,⟨hs,m,hp,h'⟩,h1,h2,x⟩
end Go.Proofs.YtgloknkcfchnlaaGreatDoor
end
section
namespace Go.K
open Go Go.Proofs.YtgloknkcfchnlaaGreatDoor
theorem aJi (c d:Cn):(decide (c.v=d.v)&&(decide (c.s=d.s)&&(decide (c.h=d.h)&&true)))=decide (c=d):=by
 cases c;cases d
 simp [Cn.mk.injEq,Bool.decide_and]
theorem aMz {a b:List En} {i:Nat} (h:i<a.length):bA (a.take (i+1)) b=bA (a.take i) b++if aT b a[i].1=some a[i].2 then [] else [a[i]]:=by
 unfold bA
 rw [List.take_succ_eq_append_getElem h,List.filter_append]
 congr 1
 by_cases hx:aT b a[i].1=some a[i].2<;>simp [hx]
theorem jN (a b:List En):(bA a b).length≤a.length:=List.length_filter_le _ _
theorem aCf {l:List En} (h:Srt l) (p:Pt):cJ l p=(aT l p).getD cn0:=(oX (List.Perm.refl l) h p).symm
end Go.K
namespace Go.Proofs.YtgloknkcfchnlaaGreatDoor
open Go Go.K
attribute [local irreducible] aD aK aV KOp.wp K.Spec cJ aX bG aQ bP bA fW pY
set_option maxHeartbeats 1000000 in
theorem aFp {a ma b mb:Nat} {la lb:List En} (w:World) (ha:cH T.coins_Set w a ma la) (hb:cH T.coins_Set w b mb lb) (hn:la.length≤90000):K.Spec Tryz.prog F.block_missing [.pointer (some ⟨a,0,none⟩),.pointer (some ⟨b,0,none⟩)] w fun r w'=>Own aU T.coins_Entry w.heap.size w' r (bA la lb)∧Ext w w':=by
 have hsb:=hb.1
 refine aCy rfl ?_
 unfold rI
 refine oy ?_
 repeat' (first|(refine zC (d:=some 11) rfl (lE _ ha (by omega)) ?_;rintro v11 w1 ⟨hv1,hb1,x1⟩)|refine bN (d:=some 12) rfl (SlE.ext (w:=w1) (by exact fx) hv1) ?_|(refine aM (fun (p:Nat × Value) w'=>Ext w1 w'∧p.1≤la.length∧Own aU T.coins_Entry w1.heap.size w' p.2 (bA (la.take p.1) lb)) (fun p=> [(0,.pointer (some ⟨a,0,none⟩)),(1,.pointer (some ⟨b,0,none⟩)),(5,p.2),(11,v11),(12,.int .i64 (la.length:Nat)),(13,.int .i64 (p.1:Nat))]) (fun p=>la.length - p.1) (0,.slice none 0 0) ⟨rfl,rfl,rfl,rfl,rfl,rfl,trivial⟩ ⟨Ext.refl _,by simp,by unfold bA;exact Own.nil _ _ _⟩ ?_;rintro ⟨i,v5⟩ ρ w2 ⟨x2,hi,ho⟩;simp only at hi ho;dsimp only)|refine zL (x:=.tmp 14) (p:=((i:Nat):Int)<((la.length:Nat):Int)) rfl (fun h6=>?_) (fun h6=>?_)|refine go1 ?_|refine zg λ_ _=>?_|refine zi λ_ _=>?_)
 ·have hil:i<la.length:=by omega
  have ht:=aMz (b:=lb) hil
  have hll:=jN (la.take i) lb
  have hll2:(la.take i).length≤i:=by rw [List.length_take];omega
  have x02':Unit→Ext w w2:=fun _=>x1.trans x2
  have hv2:=hv1.ext x2
  have hb2:=hb.ext (x02' ())
  have hs2:=x2.size
  have x12':Unit→Ext w1 w2:=fun _=>x2
  obtain ⟨x,hx⟩:∃x,x=la[i]:=⟨_,rfl⟩
  rw [←hx] at ht
  clear x1 x2
  repeat (first|(refine aL (d:=some 15) (E:=aU) rfl rfl (n:=i) (l:=la) (SlE.ext (w:=w2) (by exact fx) hv2) rfl hil (fun ad3 r3=>?_);rw [←hx] at r3)|refine zE (d':=7) (fun _=>rfl) rfl rfl rfl (fun b7 w7 x7 a7 (r7:Row w7 ⟨b7,0,none⟩ (aU.f x)) hb7=>?_)|(refine zC (d:=some 21) rfl (aR5 x.1 _ (hb2.ext (by exact fx))) ?_;rintro _ w8 ⟨rfl,x8⟩)|refine go1 ?_|refine zg λ_ _=>?_|refine zi λ_ _=>?_)
  by_cases hsame:aT lb x.1=some x.2
  ·have e1:cJ lb x.1=x.2:=by rw [aCf hsb,hsame];rfl
   rw [if_pos hsame,List.append_nil] at ht
   rw [e1,hsame,Option.isSome_some]
   repeat (first|refine zE (d':=8) (fun _=>rfl) rfl rfl rfl (fun b9 w9 x9 a9 (r9:Row w9 ⟨b9,0,none⟩ x.2.cs) hb9=>?_)|refine aG (d:=some 30) (.bool false) rfl (congrArg (fun b=>some (Value.bool (!b))) ((aJi x.2 x.2).trans (dTr rfl))) ?_|refine go1 ?_|refine zg λ_ _=>?_|refine zi λ_ _=>?_)
   exact ⟨(i+1,v5),⟨rfl,rfl,rfl,rfl,rfl,rfl,trivial⟩,⟨(x12' ()).trans (by exact fx),by simp only;omega,by simp only;rw [ht];exact ho.ext (by exact fx)⟩,by simp only;omega⟩
  ·rw [if_neg hsame] at ht
   cases hg:aT lb x.1 with
   |none=>
    rw [Option.isSome_none]
    repeat (first|refine zE (d':=8) (fun _=>rfl) rfl rfl rfl (fun b9 w9 x9 a9 (r9:Row w9 ⟨b9,0,none⟩ (cJ lb x.1).cs) hb9=>?_)|refine zI (d:=some 34) (cs:=aU.f x) rfl (fun b10 w10 x10 a10 hb10=>?_)|refine bK (d:=some 35) (E:=aU) (v:=v5) (l2:= [x]) rfl (ho.ext (by exact fx)) (nTr hs2 (Ext.size (w:=w2) (by exact fx))) rfl rfl (dG a10 rfl) rfl rfl (by simp only [List.length_cons,List.length_nil];omega) (fun v12 w12 o12 c12=>?_)|refine go1 ?_|refine zg λ_ _=>?_|refine zi λ_ _=>?_)
    exact ⟨(i+1,v12),⟨rfl,rfl,rfl,rfl,rfl,rfl,trivial⟩,⟨(Ext.chg ((x12' ()).trans (show Ext w2 _ by exact fx)) c12).mono (fun y hy=>.inr (ho.base y hy)),by simp only;omega,by simp only;rw [ht];exact o12⟩,by simp only;omega⟩
   |some d=>
    have hd:d≠x.2:=fun e=>hsame (by rw [hg,e])
    have e1:cJ lb x.1=d:=by rw [aCf hsb,hg];rfl
    rw [e1,Option.isSome_some]
    repeat (first|refine zE (d':=8) (fun _=>rfl) rfl rfl rfl (fun b9 w9 x9 a9 (r9:Row w9 ⟨b9,0,none⟩ d.cs) hb9=>?_)|refine aG (d:=some 30) (.bool true) rfl (congrArg (fun b=>some (Value.bool (!b))) ((aJi d x.2).trans (dFa hd))) ?_|refine zI (d:=some 34) (cs:=aU.f x) rfl (fun b10 w10 x10 a10 hb10=>?_)|refine bK (d:=some 35) (E:=aU) (v:=v5) (l2:= [x]) rfl (ho.ext (by exact fx)) (nTr hs2 (Ext.size (w:=w2) (by exact fx))) rfl rfl (dG a10 rfl) rfl rfl (by simp only [List.length_cons,List.length_nil];omega) (fun v12 w12 o12 c12=>?_)|refine go1 ?_|refine zg λ_ _=>?_|refine zi λ_ _=>?_)
    exact ⟨(i+1,v12),⟨rfl,rfl,rfl,rfl,rfl,rfl,trivial⟩,⟨(Ext.chg ((x12' ()).trans (show Ext w2 _ by exact fx)) c12).mono (fun y hy=>.inr (ho.base y hy)),by simp only;omega,by simp only;rw [ht];exact o12⟩,by simp only;omega⟩
 ·have e:la.take i=la:=tLe (by omega)
  rw [e] at ho
  repeat (first|refine go1 ?_|refine zg λ_ _=>?_|refine zi λ_ _=>?_)
  exact aB rfl ⟨ho.lower x1.size,x1.trans x2⟩
end Go.Proofs.YtgloknkcfchnlaaGreatDoor
end
section
namespace Go.K
open Go Go.Proofs.YtgloknkcfchnlaaGreatDoor
theorem aMw {xs:List En} {m:List En} {i:Nat} (h:i<xs.length):fW (xs.drop i) m=if bP m xs[i].1=0∧cJ m xs[i].1=xs[i].2 then fW (xs.drop (i+1)) (aX m xs[i].1) else (false,aX m xs[i].1):=by
 rw [List.drop_eq_getElem_cons h,fW]
theorem aRp {xs:List En} {m:List En} {i:Nat} (h:i<xs.length):pY (xs.drop i) m=if aQ m xs[i].1 xs[i].2=0 then pY (xs.drop (i+1)) (bG m xs[i].1 xs[i].2) else (false,m):=by
 rw [List.drop_eq_getElem_cons h,pY]
end Go.K
namespace Go.Proofs.YtgloknkcfchnlaaGreatDoor
open Go Go.K
attribute [local irreducible] aD aK aV KOp.wp K.Spec cJ aX bG aQ bP bA fW pY
set_option maxHeartbeats 2000000 in
theorem rE {b mb:Nat} {l out inn:List En} {vo vi:Value} (w:World) (hS:cH T.coins_Set w b mb l) (ho:SlR enR [b,mb] w vo out) (hi:SlR enR [b,mb] w vi inn) (hn1:out.length≤100000) (hn2:inn.length≤100000):K.Spec Tryz.prog F.block_swap [.pointer (some ⟨b,0,none⟩),vo,vi] w fun r w'=>r=.bool (jF l out inn).1∧cH T.coins_Set w' b mb (jF l out inn).2∧Chg [b,mb] w w':=by
 have hlt:=hS.lt
 refine aJj rfl ?_
 unfold yC
 refine oy ?_
 repeat' (first|refine zG (d:=some 14) (E:=enR) (M:= [b,mb]) (l:=out) rfl ho ?_|(refine aM (fun (p:Nat × List En) w'=>Chg [b,mb] w w'∧p.1≤out.length∧cH T.coins_Set w' b mb p.2∧fW out l=fW (out.drop p.1) p.2) (fun p=> [(0,.pointer (some ⟨b,0,none⟩)),(2,vi),(13,vo),(14,.int .i64 (out.length:Nat)),(15,.int .i64 (p.1:Nat))]) (fun p=>out.length - p.1) (0,l) ⟨rfl,rfl,rfl,rfl,rfl,trivial⟩ ⟨Chg.refl _ _,by simp,hS,rfl⟩ ?_;rintro ⟨i,m⟩ ρ w2 ⟨c2,hi2,hS2,hk⟩;simp only at hi2 hS2 hk;dsimp only)|refine zL (x:=.tmp 16) (p:=((i:Nat):Int)<((out.length:Nat):Int)) rfl (fun h6=>?_) (fun h6=>?_)|refine go1 ?_|refine zg λ_ _=>?_|refine zi λ_ _=>?_)
 ·have hil:i<out.length:=by omega
  rw [aMw hil] at hk
  have ho2:SlR enR [b,mb] w2 vo out:=ho.step c2 (fun y hy=>.inl hy) (fun y hy=>.inl hy)
  have s2:=c2.size
  obtain ⟨x,hx⟩:∃x,x=out[i]:=⟨_,rfl⟩
  rw [←hx] at hk
  repeat (first|(refine aR (d:=some 17) (E:=enR) (M:= [b,mb]) rfl rfl (n:=i) (l:=out) ho2 rfl hil (fun ad cs r4 he=>?_);rw [←hx] at he;obtain rfl:cs=aU.f x:=he)|refine zE (d':=8) (fun _=>rfl) rfl rfl rfl (fun b7 w7 x7 a7 (r7:Row w7 ⟨b7,0,none⟩ (aU.f x)) hb7=>?_)|refine go1 ?_|refine zg λ_ _=>?_|refine zi λ_ _=>?_)
  have l7:=a7.lt
  refine zC (d:=some 23) rfl (qY x.1 _ (hS2.ext x7)) ?_
  rintro _ w8 ⟨rfl,S8,c8⟩
  have r8:Row w8 ⟨b7,0,none⟩ (aU.f x):=Row.chg c8 r7 (by simp;omega)
  have c08:Unit→Chg [b,mb] w w8:=fun _=>(c2.trans (Chg.trans x7 c8)).mono (by simp)
  clear x7 a7 r7 c8 r4 c2
  repeat (first|refine zE (d':=9) (fun _=>rfl) rfl rfl rfl (fun b9 w9 x9 a9 (r9:Row w9 ⟨b9,0,none⟩ (cJ m x.1).cs) hb9=>?_)|refine go1 ?_|refine zg λ_ _=>?_|refine zi λ_ _=>?_)
  have fin:∀{w':World},Ext w8 w'→Chg [b,mb] w w':=fun y=>((c08 ()).trans y).mono (by simp)
  by_cases h1:bP m x.1=0
  ·by_cases h2:cJ m x.1=x.2
   ·rw [if_pos ⟨h1,h2⟩] at hk
    rw [h2] at r9
    rw [h1]
    repeat (first|refine aG (d:=some 32) (.bool false) rfl (congrArg (fun b=>some (Value.bool (!b))) ((aJi x.2 x.2).trans (dTr rfl))) ?_|refine go1 ?_|refine zg λ_ _=>?_|refine zi λ_ _=>?_)
    exact ⟨(i+1,aX m x.1),⟨rfl,rfl,rfl,rfl,rfl,trivial⟩,⟨fin (by exact fx),by simp only;omega,S8.ext (by exact fx),hk⟩,by simp only;omega⟩
   ·rw [if_neg (fun q=>h2 q.2)] at hk
    rw [h1]
    repeat (first|refine aG (d:=some 32) (.bool true) rfl (congrArg (fun b=>some (Value.bool (!b))) ((aJi (cJ m x.1) x.2).trans (dFa h2))) ?_|refine go1 ?_|refine zg λ_ _=>?_|refine zi λ_ _=>?_)
    refine aB rfl ⟨?_,?_,fin (by exact fx)⟩
    ·unfold jF;rw [hk];rfl
    ·unfold jF;rw [hk];exact S8.ext (by exact fx)
  ·rw [if_neg (fun q=>h1 q.1)] at hk
   repeat (first|refine bB (t:=28) (p:=bP m x.1=0) rfl (fun _=>?_) (fun h=>absurd h h1)|refine go1 ?_|refine zg λ_ _=>?_|refine zi λ_ _=>?_)
   refine aB rfl ⟨?_,?_,fin (by exact fx)⟩
   ·unfold jF;rw [hk];rfl
   ·unfold jF;rw [hk];exact S8.ext (by exact fx)
 ·have ei:i=out.length:=by omega
  subst ei
  rw [List.drop_length,fW] at hk
  have hi3:SlR enR [b,mb] w2 vi inn:=hi.step c2 (fun y hy=>.inl hy) (fun y hy=>.inl hy)
  have hsw:jF l out inn=pY inn m:=by unfold jF;rw [hk];rfl
  rw [hsw]
  have s2:=c2.size
  repeat' (first|refine zG (d:=some 36) (E:=enR) (M:= [b,mb]) (l:=inn) rfl hi3 ?_|(refine aM (fun (p:Nat × List En) w'=>Chg [b,mb] w2 w'∧p.1≤inn.length∧cH T.coins_Set w' b mb p.2∧pY inn m=pY (inn.drop p.1) p.2) (fun p=> [(0,.pointer (some ⟨b,0,none⟩)),(35,vi),(36,.int .i64 (inn.length:Nat)),(37,.int .i64 (p.1:Nat))]) (fun p=>inn.length - p.1) (0,m) ⟨rfl,rfl,rfl,rfl,trivial⟩ ⟨Chg.refl _ _,by simp,hS2,rfl⟩ ?_;rintro ⟨j,q⟩ ρ w3 ⟨c3,hj2,hS3,hk3⟩;simp only at hj2 hS3 hk3;dsimp only)|refine zL (x:=.tmp 38) (p:=((j:Nat):Int)<((inn.length:Nat):Int)) rfl (fun h7=>?_) (fun h7=>?_)|refine go1 ?_|refine zg λ_ _=>?_|refine zi λ_ _=>?_)
  ·have hjl:j<inn.length:=by omega
   rw [aRp hjl] at hk3
   have hi4:SlR enR [b,mb] w3 vi inn:=hi3.step c3 (fun y hy=>.inl hy) (fun y hy=>.inl hy)
   have s3:=c3.size
   obtain ⟨x,hx⟩:∃x,x=inn[j]:=⟨_,rfl⟩
   rw [←hx] at hk3
   repeat (first|(refine aR (d:=some 39) (E:=enR) (M:= [b,mb]) rfl rfl (n:=j) (l:=inn) hi4 rfl hjl (fun ad cs r4 he=>?_);rw [←hx] at he;obtain rfl:cs=aU.f x:=he)|refine zE (d':=12) (fun _=>rfl) rfl rfl rfl (fun b7 w7 x7 a7 (r7:Row w7 ⟨b7,0,none⟩ (aU.f x)) hb7=>?_)|refine go1 ?_|refine zg λ_ _=>?_|refine zi λ_ _=>?_)
   refine zC (d:=some 46) rfl (uM x.1 x.2 _ (hS3.ext x7)) ?_
   rintro _ w8 ⟨rfl,S8,c8⟩
   have c08:Chg [b,mb] w2 w8:=(c3.trans (Chg.trans x7 c8)).mono (by simp)
   by_cases h1:aQ q x.1 x.2=0
   ·rw [if_pos h1] at hk3
    rw [h1]
    repeat (first|refine go1 ?_|refine zg λ_ _=>?_|refine zi λ_ _=>?_)
    exact ⟨(j+1,bG q x.1 x.2),⟨rfl,rfl,rfl,rfl,trivial⟩,⟨c08,by simp only;omega,S8,hk3⟩,by simp only;omega⟩
   ·rw [if_neg h1] at hk3
    have e:bG q x.1 x.2=q:=by unfold bG;rw [if_neg h1]
    rw [e] at S8
    repeat (first|refine zN (x:=.tmp 47) (p:=aQ q x.1 x.2=0) rfl (fun _=>?_) (fun h=>absurd h h1)|refine go1 ?_|refine zg λ_ _=>?_|refine zi λ_ _=>?_)
    exact aB rfl ⟨by rw [hk3];rfl,by rw [hk3];exact S8,(c2.trans c08).mono (by simp)⟩
  ·have ej:j=inn.length:=by omega
   subst ej
   rw [List.drop_length,pY] at hk3
   repeat (first|refine go1 ?_|refine zg λ_ _=>?_|refine zi λ_ _=>?_)
   exact aB rfl ⟨by rw [hk3];rfl,by rw [hk3];exact hS3,(c2.trans c3).mono (by simp)⟩
set_option maxHeartbeats 1000000 in
theorem qM {b mb:Nat} {l spent made:List En} {sv mv:Value} (w:World) (hS:cH T.coins_Set w b mb l) (hs:SlR enR [b,mb] w sv spent) (hm:SlR enR [b,mb] w mv made) (hn1:spent.length≤100000) (hn2:made.length≤100000) (h1:(jF l made spent).1=true):K.Spec Tryz.prog F.block_Revert [.pointer (some ⟨b,0,none⟩),.agg #[sv,mv]] w fun r w'=>r=.int .i64 0∧cH T.coins_Set w' b mb (jF l made spent).2∧Chg [b,mb] w w':=by
 have hlt:=hS.lt
 have o1:sv.oneCell'=true:=by obtain ⟨_,_,rfl⟩:=hs.form;rfl
 have o2:mv.oneCell'=true:=by obtain ⟨_,_,rfl⟩:=hm.form;rfl
 refine lM rfl ?_
 unfold jA
 refine oy ?_
 repeat' (first|refine zg (fun w1 x1=>?_)|refine zi (fun w1 x1=>?_)|refine sW (b:=.cons ⟨some 13,_,_⟩ _) (fun (p:Nat × Nat) w'=>Ext w w'∧cH T.coins_Set w' p.1 p.2 l∧w0.heap.size≤p.1∧w0.heap.size≤p.2∧Ext w0 w') (fun p=> [(0,.pointer (some ⟨b,0,none⟩)),(3,.pointer (some ⟨b3,0,none⟩)),(8,.pointer (some ⟨p.1,0,none⟩)),(10,mv),(12,sv)]) ?_ ?_|refine zD (d:=some 3) (cs:= [sv,mv]) rfl rfl (fun b3 w0 x0 a3 (r3:Row w0 ⟨b3,0,none⟩ [sv,mv]) hb3=>?_)|(refine zC (d:=some 8) rfl (rF _ (hS.ext (by exact fx))) ?_;rintro _ w2 ⟨b8,mb8,rfl,hS8,hb8,hmb8,x2⟩)|(exact ⟨(b8,mb8),⟨rfl,rfl,rfl,rfl,rfl,trivial⟩,by exact fx,hS8.ext (by exact fx),nTr (Ext.size (show Ext w0 _ by exact fx)) hb8,nTr (Ext.size (show Ext w0 _ by exact fx)) hmb8,by exact fx⟩)|refine go1 ?_|refine zg λ_ _=>?_|refine zi λ_ _=>?_|refine zB ?_ ?_)
 rintro ⟨b8,mb8⟩ ρ w3 ⟨x3,S8,hb80,hmb80,x03⟩
 simp only at S8 hb80 hmb80
 have l3:=a3.lt
 have s00:=x0.size
 have r33:Row w3 ⟨b3,0,none⟩ [sv,mv]:=Row.ext x03 r3
 have hb8:w.heap.size≤b8:=by omega
 have hmb8:w.heap.size≤mb8:=by omega
 have nin:∀y∈ [b8,mb8],w.heap.size≤y:=by intro y hy;simp at hy;rcases hy with rfl|rfl<;>assumption
 refine zC (d:=some 13) rfl (rE (b:=b8) (mb:=mb8) (l:=l) (out:=made) (inn:=spent) _ S8 (hm.step x3 (by simp) (fun y hy=>.inr (nin y hy))) (hs.step x3 (by simp) (fun y hy=>.inr (nin y hy))) hn2 hn1) ?_
 rintro _ w4 ⟨rfl,S4,c4⟩
 rw [h1]
 have x04:Ext w w4:=(Ext.chg x3 c4).mono (fun y hy=>.inr (nin y hy))
 have r34:Row w4 ⟨b3,0,none⟩ [sv,mv]:=Row.chg c4 r33 (by simp;omega)
 repeat (first|refine go1 ?_|refine zg λ_ _=>?_|refine zi λ_ _=>?_)
 refine zC (d:=some 20) rfl (rE (l:=l) (out:=made) (inn:=spent) _ (hS.ext x04) (hm.ext x04) (hs.ext x04) hn2 hn1) ?_
 rintro _ w5 ⟨rfl,S5,c5⟩
 repeat (first|refine go1 ?_|refine zg λ_ _=>?_|refine zi λ_ _=>?_)
 exact aB rfl ⟨rfl,S5,(Chg.trans x04 c5).mono (by simp)⟩
end Go.Proofs.YtgloknkcfchnlaaGreatDoor
end
section
namespace Go.K
open Go Go.Proofs.YtgloknkcfchnlaaGreatDoor
end Go.K
namespace Go.Proofs.YtgloknkcfchnlaaGreatDoor
open Go Go.K
end Go.Proofs.YtgloknkcfchnlaaGreatDoor
end
namespace Go.Proofs.YtgloknkcfchnlaaGreatDoor
section
open Go Go.K
attribute [local irreducible] aD aK aV KOp.wp K.Spec
theorem aSa {t:TypeId} {b mb:Nat} {m:List En} (w:World) (h:jT t w b mb m):K.Spec Tryz.prog F.coins_Set_Len [.pointer (some ⟨b,0,none⟩)] w fun v w'=>v=.int .i64 (m.length:Nat)∧Ext w w':=by
 refine aCx rfl ?_
 unfold rL
 refine oy ?_
 have r:=h.row
 repeat (first|refine go ?_|refine zg λ_ _=>?_|refine zi λ_ _=>?_)
 refine aP1 rfl h.2.1 ?_
 repeat (first|refine go ?_|refine zg λ_ _=>?_|refine zi λ_ _=>?_)
 exact aB rfl ⟨rfl,Ext.refl _⟩
theorem aHo {b mb:Nat} {l:List En} (w:World) (h:cH T.coins_Set w b mb l):K.Spec Tryz.prog F.coins_Set_Len [.pointer (some ⟨b,0,none⟩)] w fun v w'=>v=.int .i64 (l.length:Nat)∧Ext w w':=by
 obtain ⟨hs,m,hp,h⟩:=h
 refine fK (aSa w h) fun v w' ⟨e,x⟩=>⟨?_,x⟩
 rw [e,hp.length_eq]
end
end Go.Proofs.YtgloknkcfchnlaaGreatDoor
