/- Contracts: sets of coins: length, total, taking; in order; c -/
import Derived.Test.YtgloknkcfchnlaaGreatZ37
import Derived.Test.YtgloknkcfchnlaaGreatZ39
import Derived.Test.YtgloknkcfchnlaaGreatZ40
import Derived.Test.YtgloknkcfchnlaaGreatZ41
set_option linter.unusedVariables false
set_option linter.unusedSimpArgs false
namespace Go.Proofs.YtgloknkcfchnlaaGreat
section
open Go Go.K
attribute [local irreducible] aF aP bG KOp.wp
section
attribute [local irreducible] K.Spec
theorem bD8 {t:TypeId} {b mb:Nat} {m:List En} (p:Pt) (w:World) (h:mD t w b mb m):K.Spec Tryz.prog F.coins_Set_Take [.pointer (some ⟨b,0,none⟩),p.val] w fun v w'=>
  v=.tuple #[(lR m p).val,.int .i64 (aBd m p)]∧mD t w' b mb (aI8 m p)∧Chg [b,mb] w w':=by
 have r:=h.row
 have hM:=h.2.1
 have hne:=h.ne
 have hb:=h.1.lt
 have hmb:=h.2.1.lt
 refine aLf rfl ?_
 unfold yV
 refine oy ?_
 repeat' (first|refine zD (d:=some 3) rfl rfl (fun b1 w1 x1 a1 (r1:Row w1 ⟨b1,0,none⟩ p.cs) hb1=>?_)|(refine zH (d:=some 4) (fun b2 w2 x2 a2 hb2=>?_);have s2:w.heap.size≤b2:=nTr x1.size hb2)|refine lU (d:=some 17) (E:=ptK) (fv:=Cn.val) (k:=p) rfl rfl (dI.ext (w:=w) (by exact fx) hM) rfl rfl (fun c hc=>?_) (fun hc=>?_)|(refine zH (d:=some 6) (fun b6 w6 x6 a6 hb6=>?_);have s6:w.heap.size≤b6:=nTr (Ext.size (w:=w) (by exact fx)) hb6;have s26:w2.heap.size≤b6:=nTr (Ext.size (w:=w2) (by exact fx)) hb6;have s16:w1.heap.size≤b6:=nTr (Ext.size (w:=w1) (by exact fx)) hb6)|refine go1 ?_|refine zg λ_ _=>?_|refine zi λ_ _=>?_)
 ·have l1:=a1.lt
  have l2:=a2.lt
  refine aU (w0:=w) (n:=3) (vs:=c.cs) (by exact fx) s6 a6 rfl rfl rfl rfl rfl (fun w7 x7 c7 a7 r7=>?_)
  have a27:=At.chg c7 (At.ext (w:=w2) (by exact fx) a2) (by simp;omega)
  have r17:Row w7 ⟨b1,0,none⟩ p.cs:=Row.chg c7 (Row.ext (w:=w1) (by exact fx) r1) (by simp;omega)
  have h7:=h.ext x7
  have row7:=h7.row
  have l26:b2≠b6:=by omega
  clear x1 x2 x6 a1 r1 a2 a6 r c7 hM
  repeat (first|refine zg (fun w8 x8=>?_)|refine go1 ?_|refine zg λ_ _=>?_|refine zi λ_ _=>?_)
  have h8:=h7.ext x8
  refine aFf (E:=ptK) (fv:=Cn.val) (k:=p) rfl rfl h8.2.1 rfl rfl (fun w9 c9 hM9=>?_)
  have a9:=h8.1.chg c9 (by simp;omega)
  have row9:=Row.of_at a9
  have r69:Row w9 ⟨b6,0,none⟩ c.cs:=Row.chg c9 (Row.ext x8 r7) (by simp;omega)
  have a29:=At.chg c9 (At.ext x8 a27) (by simp;omega)
  have x08:=x7.trans x8
  have hv:=Mon.le h.2.2.1 _ (lF hc)
  have hv0:=h.2.2.1 _ (lF hc)
  have hT:=h.2.2.2
  simp only at hv hv0
  clear x7 x8 h7 h8 row7 r7 r17 a27 a7
  repeat (first|refine zg (fun w10 x10=>?_)|refine go1 ?_|refine zg λ_ _=>?_|refine zi λ_ _=>?_)
  refine bO (b:=b) (o:=1) rfl rfl rfl (a9.ext x10) (by simp) (fun w11 c11 a11=>?_)
  have r611:Row w11 ⟨b6,0,none⟩ c.cs:=Row.chg c11 (Row.ext x10 r69) (by simp;omega)
  have a211:=At.chg c11 (At.ext x10 a29) (by simp;omega)
  have hM11:=(hM9.ext x10).chg c11 (by simp;omega)
  have c011:=(Chg.trans x08 (c9.trans (Chg.trans x10 c11)))
  clear x10 c9 a9 row9 r69 a29
  repeat (first|refine go1 ?_|refine zg λ_ _=>?_|refine zi λ_ _=>?_)
  refine bX (b:=b2) (vs:=c.cs) rfl rfl rfl (iK rfl) a211 rfl (fun w12 c12 a12=>?_)
  repeat (first|refine go1 ?_|refine zg λ_ _=>?_|refine zi λ_ _=>?_)
  refine aA (iR (bD (Row.of_at a12) rfl rfl) bJ) ⟨by rw [lR,aBd,hc];rfl,⟨?_,?_,h.2.2.del p⟩,?_⟩
  ·rw [aI8,aOv h.2.1.nodup hc]
   exact a11.chg c12 (by simp;omega)
  ·exact hM11.chg c12 (by simp;omega)
  ·refine (c011.trans c12).mono ?_
   intro y hy
   simp at hy ⊢
   omega
 ·have l2:=a2.lt
  refine aU (w0:=w) (n:=3) (vs:=cn0.cs) (by exact fx) s6 a6 rfl rfl rfl rfl rfl (fun w7 x7 c7 a7 r7=>?_)
  have a27:=At.chg c7 (At.ext (w:=w2) (by exact fx) a2) (by simp;omega)
  repeat (first|refine go1 ?_|refine zg λ_ _=>?_|refine zi λ_ _=>?_)
  refine aU (w0:=w) (n:=3) (vs:=cn0.cs) (by exact fx) s2 a27 rfl rfl rfl rfl rfl (fun w8 x8 c8 a8 r8=>?_)
  repeat (first|refine go1 ?_|refine zg λ_ _=>?_|refine zi λ_ _=>?_)
  refine aA (iR (bD r8 rfl rfl) bJ) ⟨by rw [lR,aBd,hc];rfl,?_,Chg.mono x8 (by simp)⟩
  rw [aI8,bHh hc];exact h.ext x8
end
def aSc (a b:En):Int:=if lK a.1 b.1 then -1 else if lK b.1 a.1 then 1 else 0
theorem aOz (a b:En):ltOf aSc a b=lK a.1 b.1:=by
 unfold ltOf aSc
 cases h:lK a.1 b.1
 ·cases h':lK b.1 a.1<;>simp
 ·simp
theorem bO2:Sort.SWO (ltOf aSc) where
 irrefl x:=by rw [aOz,aDb]
 trans x y z h h':=by rw [aOz] at*;exact aBv h h'
 ntrans x y z h h':=by
  rw [aOz] at*
  cases h2:lK x.1 z.1
  ·rfl
  ·cases h3:lK y.1 x.1
   ·have e:=bAh h h3
    rw [e] at h2;rw [h2] at h';cases h'
   ·have:=aBv h3 h2
    rw [this] at h';cases h'
section
attribute [local irreducible] K.Spec
theorem aYz (a b:En) (w:World):K.Spec Tryz.prog F.coins_order [.agg (bM.f a).toArray,.agg (bM.f b).toArray] w fun v w'=>v=.int .i64 (aSc a b)∧Ext w w'∧w.drawn≤w'.drawn:=by
 refine aTh rfl ?_
 unfold aGf
 refine oy ?_
 repeat' (first|refine aOy (d:=some 2) (cs:=bM.f a) rfl rfl (fun b1 w1 x1 d1 r1=>?_)|refine aOy (d:=some 3) (cs:=bM.f b) rfl rfl (fun b2 w2 x2 d2 r2=>?_)|(refine iB (d:=some 10) rfl (aMi a.1 b.1 _) ?_;rintro _ w3 ⟨rfl,x3,d3⟩)|(refine iB (d:=some 16) rfl (aMi b.1 a.1 _) ?_;rintro _ w4 ⟨rfl,x4,d4⟩)|refine tZ (x:=.tmp 5) rfl (fun h=>?_) (fun h=>?_)|refine tZ (x:=.tmp 11) rfl (fun h2=>?_) (fun h2=>?_)|refine go1 ?_|refine zg λ_ _=>?_|refine zi λ_ _=>?_)
 ·exact aA rfl ⟨congrArg (Value.int .i64) (by rw [aSc,h];rfl),by repeat (first|assumption|exact Ext.refl _|refine Ext.trans ?_ (by assumption)),by omega⟩
 ·exact aA rfl ⟨congrArg (Value.int .i64) (by rw [aSc,h,h2];rfl),by repeat (first|assumption|exact Ext.refl _|refine Ext.trans ?_ (by assumption)),by omega⟩
 ·exact aA rfl ⟨congrArg (Value.int .i64) (by rw [aSc,h,h2];rfl),by repeat (first|assumption|exact Ext.refl _|refine Ext.trans ?_ (by assumption)),by omega⟩
end
theorem bEs (b n:Nat) (w:World):CmpLays Tryz.prog F.coins_order #[] bM.f bM.k aSc b 0 n w:=fun m os dk _ x y=>
 (aYz x y _).mono fun e w' ⟨v,he,hv,hx,hd⟩=>⟨by rw [he,hv],hx.grown hd⟩
theorem bEq {v:Value} {l:List En} {t:TypeId} {B:Nat} {w:World} (ho:Own bM t B w v l) (hl:l.length≤100000):
  K.Spec Tryz.prog F.slices_SortFunc_L_coins_Entry_coins_Entry [v,.func (.func F.coins_order) #[] #[]] w fun r w'=>r=.tuple #[]∧∃l':List En,l'.Perm l∧l'.Pairwise (fun a b=>ltOf aSc b a=false)∧SlE bM w' v l'∧Chg (aB v) w w':=by
 refine bOm ho (fun cap=>?_) (fun b cap hv hH hb=>?_)
 ·exact (AnyF.slices_SortFunc_none Tryz.sortEntry none cap _ w).mono fun e w' ⟨he,hw⟩=>⟨_,he,rfl,hw⟩
 ·exact AnyQ.slices_SortFunc Tryz.sortEntry 5 Tryz.isAgg114 Tryz.sizeOf114 bM.f (fun _=>rfl) bM.one aSc bO2 F.coins_order #[] b 0 cap l.toArray w (enters_of Tryz.func136 (by kernel_rfl) rfl) (bEs b _ w) hH hb (by simp;omega)
attribute [local irreducible] K.Spec
theorem bGx {t:TypeId} {b mb:Nat} {m:List En} (w:World) (h:mD t w b mb m) (hn:m.length≤100000):K.Spec Tryz.prog F.coins_Set_All [.pointer (some ⟨b,0,none⟩)] w fun v w'=>
  ∃l':List En,l'.Perm m∧l'.Pairwise (fun a b=>ltOf aSc b a=false)∧SlE bM w' v l'∧(∀x∈aB v,w.heap.size≤x)∧Ext w w':=by
 refine aOb rfl ?_
 unfold aCs
 refine oy ?_
 have r:=h.row
 have hb:=h.1.lt
 have hmb:=h.2.1.lt
 repeat (first|refine go ?_|refine zg λ_ _=>?_|refine zi λ_ _=>?_)
 refine bL3 rfl h.2.1 (fun it w1 x1 i1 hit=>?_)
 repeat (first|refine go ?_|refine zg λ_ _=>?_|refine zi λ_ _=>?_)
 refine aI (fun (s:List En × Value × List En) w'=>Ext w w'∧aE5 ptK Cn.val w' it mb s.1∧Own bM T.coins_Entry w.heap.size w' s.2.1 s.2.2∧(s.2.2++s.1).Perm m)
  (fun s=> [(3,s.2.1),(12,.pointer (some ⟨it,0,none⟩))]) (fun s=>s.1.length) (m,.slice none 0 0, []) ⟨rfl,rfl,trivial⟩ ⟨x1,i1,Own.nil _ _ _,by simp⟩ ?_
 rintro ⟨left,vo,out⟩ ρ w2 ⟨x2,i2,ho,hp⟩
 simp only at i2 ho hp
 repeat (first|refine go ?_|refine zg λ_ _=>?_|refine zi λ_ _=>?_)
 have fit:∀{w':World} {left':List En},aE5 ptK Cn.val w' it mb left'→∀{v':Value} {o':List En},Own bM T.coins_Entry w.heap.size w' v' o'→it∉aB v'∧mb∉aB v':=by
  intro w' left' hI v' o' hO
  obtain ⟨es,clock,seen,a1,a2,_⟩:=hI
  exact ⟨hO.free a1 (by simp),hO.free a2 (by simp)⟩
 have hlen:out.length+left.length≤100000:=by have:=hp.length_eq;simp at this;omega
 refine bOf rfl i2 (fun h0 w3 x3=>?_) (fun a p c hl w3 c3 i3 p3=>?_)
 ·repeat (first|refine go ?_|refine zg λ_ _=>?_|refine zi λ_ _=>?_)
  subst h0
  rw [List.append_nil] at hp
  simp at hlen
  refine iB rfl (bEq (ho.ext x3) hlen) ?_
  rintro _ w4 ⟨rfl,l',hp',hs',hsl,c4⟩
  repeat (first|refine go ?_|refine zg λ_ _=>?_|refine zi λ_ _=>?_)
  exact aA rfl ⟨l',hp'.trans hp,hs',hsl,ho.base,(((Ext.trans x2 x3).chg (show Chg (aB vo) _ _ from c4)).mono (fun b hb=>.inr (ho.base b (by simpa using hb))))⟩
 ·have ho3:=ho.chg c3 (fun y hy=>by have:=(fit i2 ho).1;simp;rintro rfl;exact this hy)
  have x03:Unit→Ext w w3:=fun _=>(Ext.chg x2 c3).mono (by intro y hy;simp at hy ⊢;omega)
  repeat (first|refine go ?_|refine zg λ_ _=>?_|refine zi λ_ _=>?_)
  refine bMo rfl p3 ?_
  repeat (first|refine go ?_|refine zg λ_ _=>?_|refine zi λ_ _=>?_)
  refine bDc rfl (fun _ _=>rfl) (fun _ _=>rfl) rfl rfl rfl rfl rfl rfl (fun b4 b5 w4 x4 r4 r5 hb4 hb5=>?_)
  repeat (first|refine go ?_|refine zg λ_ _=>?_|refine zi λ_ _=>?_)
  refine gP rfl (fun b6 w6 x6 a6 hb6=>?_)
  repeat (first|refine go ?_|refine zg λ_ _=>?_|refine zi λ_ _=>?_)
  have hll:left.length=a.length+c.length+1:=by rw [hl];simp;omega
  refine cA (E:=bM) (v:=vo) (l2:= [p]) rfl ((ho3.ext x4).ext x6) (((x03 ()).trans x4).trans x6).size rfl rfl (dX a6 rfl) rfl rfl (by simp;omega) (fun vo' w7 ho7 c7=>?_)
  repeat (first|refine go ?_|refine zg λ_ _=>?_|refine zi λ_ _=>?_)
  have i6:=(i3.ext x4).ext x6
  have hf:=fit i6 ((ho3.ext x4).ext x6)
  refine ⟨(a++c,vo',out++ [p]),⟨rfl,rfl,trivial⟩,⟨((((x03 ()).trans x4).trans x6).chg c7).mono (fun y hy=>.inr (ho.base y (by simpa using hy))),i6.chg c7 hf.1 hf.2,ho7,?_⟩,by simp;omega⟩
  refine List.Perm.trans ?_ hp
  show ((out++ [p])++(a++c)).Perm (out++left)
  rw [hl,List.append_assoc]
  refine List.Perm.append_left _ ?_
  simpa using (List.perm_middle (a:=p) (l₁:=a) (l₂:=c)).symm
section
attribute [local semireducible] K.Spec
theorem aN2 {mb:Nat} {m:List En} (w:World) (h:dI ptK Cn.val w mb m):K.Spec Tryz.prog F.maps_Clone_map_api_Point_api_Coin_api_Point_api_Coin [.map (some mb)] w fun v w'=>∃mb',v=.map (some mb')∧dI ptK Cn.val w' mb' m∧w.heap.size≤mb'∧Ext w w':=by
 obtain ⟨es,clock,h1,h2⟩:=h
 refine (AnyW.maps_Clone Tryz.cloneMap179 mb es clock w h1).mono fun e w' ⟨he,hw⟩=>⟨_,he,_,rfl,?_⟩
 subst hw
 exact ⟨⟨es,clock,At.new _ _,h2⟩,Nat.le_refl _,Ext.alloc _ _⟩
end
theorem bCh {t:TypeId} {b mb:Nat} {m:List En} (w:World) (h:mD t w b mb m):K.Spec Tryz.prog F.coins_Set_Copy [.pointer (some ⟨b,0,none⟩)] w fun v w'=>
  ∃b' mb',v=.pointer (some ⟨b',0,none⟩)∧mD T.coins_Set w' b' mb' m∧w.heap.size≤b'∧w.heap.size≤mb'∧Ext w w':=by
 refine aK6 rfl ?_
 unfold aAt
 refine oy ?_
 have r:=h.row
 repeat (first|refine go ?_|refine zg λ_ _=>?_|refine zi λ_ _=>?_)
 rename_i w1 x1
 refine fD ?_ ?_
 ·refine iB rfl (aN2 _ (h.2.1.ext x1)) ?_
  rintro _ w2 ⟨mb',rfl,hM,hmb,x2⟩
  repeat (first|refine go ?_|refine zg λ_ _=>?_|refine zi λ_ _=>?_)
  refine qN rfl rfl (fun b3 w3 x3 a3 r3 hb3=>?_)
  repeat (first|refine go ?_|refine zg λ_ _=>?_|refine zi λ_ _=>?_)
  have:=x1.size
  have:=x2.size
  exact aA rfl ⟨b3,mb',rfl,⟨a3,hM.ext x3,h.2.2⟩,by omega,by omega,by repeat (first|assumption|exact Ext.refl _|refine Ext.trans ?_ (by assumption))⟩
 ·repeat (first|refine go ?_|refine zg λ_ _=>?_|refine zi λ_ _=>?_)
  refine iB rfl (aN2 _ (h.2.1.ext x1)) ?_
  rintro _ w2 ⟨mb',rfl,hM,hmb,x2⟩
  repeat (first|refine go ?_|refine zg λ_ _=>?_|refine zi λ_ _=>?_)
  refine qN rfl rfl (fun b3 w3 x3 a3 r3 hb3=>?_)
  repeat (first|refine go ?_|refine zg λ_ _=>?_|refine zi λ_ _=>?_)
  have:=x1.size
  have:=x2.size
  exact aA rfl ⟨b3,mb',rfl,⟨a3,hM.ext x3,h.2.2⟩,by omega,by omega,by repeat (first|assumption|exact Ext.refl _|refine Ext.trans ?_ (by assumption))⟩
end
end Go.Proofs.YtgloknkcfchnlaaGreat
section
namespace Go.K
open Go Go.Proofs.YtgloknkcfchnlaaGreat
def iC (t:TypeId) (w:World) (b mb:Nat) (l:List En):Prop:=Srt l∧∃m:List En,m.Perm l∧mD t w b mb m
theorem iC.chg {t:TypeId} {w w':World} {b mb:Nat} {l:List En} {L:List Nat} (hc:Chg L w w') (h:iC t w b mb l) (h1:b∉L) (h2:mb∉L):iC t w' b mb l:=by
 obtain ⟨hs,m,hp,h⟩:=h
 exact ⟨hs,m,hp,h.chg hc h1 h2⟩
theorem iC.ext {t:TypeId} {w w':World} {b mb:Nat} {l:List En} (hc:Ext w w') (h:iC t w b mb l):iC t w' b mb l:=h.chg hc (by simp) (by simp)
theorem iC.lt {t:TypeId} {w:World} {b mb:Nat} {l:List En} (h:iC t w b mb l):b<w.heap.size∧mb<w.heap.size:=by
 obtain ⟨_,m,_,h⟩:=h
 exact ⟨h.1.lt,h.2.1.lt⟩
theorem iC.ne {t:TypeId} {w:World} {b mb:Nat} {l:List En} (h:iC t w b mb l):b≠mb:=by
 obtain ⟨_,m,_,h⟩:=h
 exact h.ne
theorem iC.mon {t:TypeId} {w:World} {b mb:Nat} {l:List En} (h:iC t w b mb l):Mon l:=by
 obtain ⟨_,m,hp,h⟩:=h
 exact ⟨fun e he=>h.2.2.1 e (hp.mem_iff.2 he),by rw [←zW hp];exact h.2.2.2⟩
end Go.K
namespace Go.Proofs.YtgloknkcfchnlaaGreat
open Go Go.K
attribute [local irreducible] aF aP bG KOp.wp K.Spec
theorem bS7 {w:World} {b mb:Nat} {l:List En} (h:iC T.coins_Set w b mb l) (hs:∀e∈l,e.2.s.size≤1000000):eH w (.iface T.P_coins_Set (.pointer (some ⟨b,0,none⟩))) (aL l):=by
 obtain ⟨hq,m,hp,h⟩:=h
 have e:aL m=aL l:=funext fun p=>aAe hp hq p
 rw [←e]
 exact eH.of_set h fun x hx=>hs x (hp.mem_iff.1 hx)
theorem bHb (w:World):K.Spec Tryz.prog F.coins_New [] w fun v w'=>∃b mb,v=.pointer (some ⟨b,0,none⟩)∧iC T.coins_Set w' b mb []∧w.heap.size≤b∧w.heap.size≤mb∧Ext w w':=
 eZ (aLw w) fun v w' ⟨b,mb,e,h,h1,h2,x⟩=>⟨b,mb,e,⟨.nil, [],List.Perm.refl _,h⟩,h1,h2,x⟩
theorem bH6 {b mb:Nat} {l:List En} (p:Pt) (w:World) (h:iC T.coins_Set w b mb l):K.Spec Tryz.prog F.coins_Set_Get [.pointer (some ⟨b,0,none⟩),p.val] w fun v w'=>v=.tuple #[(eV l p).val,.bool (aL l p).isSome]∧Ext w w':=by
 obtain ⟨hs,m,hp,h⟩:=h
 refine eZ (aL7 p w h) fun v w' ⟨e,x⟩=>⟨?_,x⟩
 rw [e,aFo hp hs,aAe hp hs]
theorem aU7 {b mb:Nat} {l:List En} (p:Pt) (c:Cn) (w:World) (h:iC T.coins_Set w b mb l):K.Spec Tryz.prog F.coins_Set_Put [.pointer (some ⟨b,0,none⟩),p.val,c.val] w fun v w'=>
  v=.int .i64 (aX l p c)∧iC T.coins_Set w' b mb (dD l p c)∧Chg [b,mb] w w':=by
 obtain ⟨hs,m,hp,h⟩:=h
 refine eZ (aL3 p c w h) fun v w' ⟨e,h',x⟩=>⟨?_,⟨(aFb hp hs p c).2.1,_,(aFb hp hs p c).1,h'⟩,x⟩
 rw [e,aSr hp hs]
theorem aP8 {b mb:Nat} {l:List En} (p:Pt) (w:World) (h:iC T.coins_Set w b mb l):K.Spec Tryz.prog F.coins_Set_Take [.pointer (some ⟨b,0,none⟩),p.val] w fun v w'=>
  v=.tuple #[(eV l p).val,.int .i64 (cW l p)]∧iC T.coins_Set w' b mb (cP l p)∧Chg [b,mb] w w':=by
 obtain ⟨hs,m,hp,h⟩:=h
 refine eZ (bD8 p w h) fun v w' ⟨e,h',x⟩=>⟨?_,⟨(aPn hp hs p).2.1,_,(aPn hp hs p).1,h'⟩,x⟩
 rw [e,aFo hp hs,aUb hp hs]
theorem aUa {b mb:Nat} {l:List En} (w:World) (h:iC T.coins_Set w b mb l) (hn:l.length≤100000):K.Spec Tryz.prog F.coins_Set_All [.pointer (some ⟨b,0,none⟩)] w fun v w'=>SlE bM w' v l∧(∀x∈aB v,w.heap.size≤x)∧Ext w w':=by
 obtain ⟨hs,m,hp,h⟩:=h
 refine eZ (bGx w h (by rw [hp.length_eq];exact hn)) fun v w' ⟨l',hp',hs',hsl,hb,x⟩=>⟨?_,hb,x⟩
 have hp2:=hp'.trans hp
 have e:l'=l:=aK5 hp2 (hs'.imp fun {a b} q=>by rwa [aOz] at q) hs
 rw [←e];exact hsl
theorem aSo {b mb:Nat} {l:List En} (w:World) (h:iC T.coins_Set w b mb l):K.Spec Tryz.prog F.coins_Set_Copy [.pointer (some ⟨b,0,none⟩)] w fun v w'=>
  ∃b' mb',v=.pointer (some ⟨b',0,none⟩)∧iC T.coins_Set w' b' mb' l∧w.heap.size≤b'∧w.heap.size≤mb'∧Ext w w':=by
 obtain ⟨hs,m,hp,h⟩:=h
 exact eZ (bCh w h) fun v w' ⟨b',mb',e,h',h1,h2,x⟩=>⟨b',mb',e,⟨hs,m,hp,h'⟩,h1,h2,x⟩
end Go.Proofs.YtgloknkcfchnlaaGreat
end
section
namespace Go.K
open Go Go.Proofs.YtgloknkcfchnlaaGreat
theorem aWu (c d:Cn):(decide (c.v=d.v)&&(decide (c.s=d.s)&&(decide (c.h=d.h)&&true)))=decide (c=d):=by
 cases c;cases d
 simp [Cn.mk.injEq,Bool.decide_and]
theorem bCf {a b:List En} {i:Nat} (h:i<a.length):fF (a.take (i+1)) b=fF (a.take i) b++if aL b a[i].1=some a[i].2 then [] else [a[i]]:=by
 unfold fF
 rw [List.take_succ_eq_append_getElem h,List.filter_append]
 congr 1
 by_cases hx:aL b a[i].1=some a[i].2<;>simp [hx]
theorem aA5 (a b:List En):(fF a b).length≤a.length:=List.length_filter_le _ _
theorem aM1 {l:List En} (h:Srt l) (p:Pt):eV l p=(aL l p).getD cn0:=(aFo (List.Perm.refl l) h p).symm
end Go.K
namespace Go.Proofs.YtgloknkcfchnlaaGreat
open Go Go.K
attribute [local irreducible] aF aP bG KOp.wp K.Spec eV cP dD aX cW fF nC aAm
set_option maxHeartbeats 1000000 in
theorem aSs {a ma b mb:Nat} {la lb:List En} (w:World) (ha:iC T.coins_Set w a ma la) (hb:iC T.coins_Set w b mb lb) (hn:la.length≤90000):K.Spec Tryz.prog F.block_missing [.pointer (some ⟨a,0,none⟩),.pointer (some ⟨b,0,none⟩)] w fun r w'=>Own bM T.coins_Entry w.heap.size w' r (fF la lb)∧Ext w w':=by
 have hsb:=hb.1
 refine aOd rfl ?_
 unfold aCr
 refine oy ?_
 repeat' (first|(refine zC (d:=some 11) rfl (aUa _ ha (by omega)) ?_;rintro v11 w1 ⟨hv1,hb1,x1⟩)|refine aY (d:=some 12) rfl (SlE.ext (w:=w1) (by exact fx) hv1) ?_|(refine aI (fun (p:Nat × Value) w'=>Ext w1 w'∧p.1≤la.length∧Own bM T.coins_Entry w1.heap.size w' p.2 (fF (la.take p.1) lb)) (fun p=> [(0,.pointer (some ⟨a,0,none⟩)),(1,.pointer (some ⟨b,0,none⟩)),(5,p.2),(11,v11),(12,.int .i64 (la.length:Nat)),(13,.int .i64 (p.1:Nat))]) (fun p=>la.length - p.1) (0,.slice none 0 0) ⟨rfl,rfl,rfl,rfl,rfl,rfl,trivial⟩ ⟨Ext.refl _,by simp,by unfold fF;exact Own.nil _ _ _⟩ ?_;rintro ⟨i,v5⟩ ρ w2 ⟨x2,hi,ho⟩;simp only at hi ho;dsimp only)|refine zL (x:=.tmp 14) (p:=((i:Nat):Int)<((la.length:Nat):Int)) rfl (fun h6=>?_) (fun h6=>?_)|refine go1 ?_|refine zg λ_ _=>?_|refine zi λ_ _=>?_)
 ·have hil:i<la.length:=by omega
  have ht:=bCf (b:=lb) hil
  have hll:=aA5 (la.take i) lb
  have hll2:(la.take i).length≤i:=by rw [List.length_take];omega
  have x02':Unit→Ext w w2:=fun _=>x1.trans x2
  have hv2:=hv1.ext x2
  have hb2:=hb.ext (x02' ())
  have hs2:=x2.size
  have x12':Unit→Ext w1 w2:=fun _=>x2
  obtain ⟨x,hx⟩:∃x,x=la[i]:=⟨_,rfl⟩
  rw [←hx] at ht
  clear x1 x2
  repeat (first|(refine aS (d:=some 15) (E:=bM) rfl rfl (n:=i) (l:=la) (SlE.ext (w:=w2) (by exact fx) hv2) rfl hil (fun ad3 r3=>?_);rw [←hx] at r3)|refine zE (d':=7) (fun _=>rfl) rfl rfl rfl (fun b7 w7 x7 a7 (r7:Row w7 ⟨b7,0,none⟩ (bM.f x)) hb7=>?_)|(refine zC (d:=some 21) rfl (bH6 x.1 _ (hb2.ext (by exact fx))) ?_;rintro _ w8 ⟨rfl,x8⟩)|refine go1 ?_|refine zg λ_ _=>?_|refine zi λ_ _=>?_)
  by_cases hsame:aL lb x.1=some x.2
  ·have e1:eV lb x.1=x.2:=by rw [aM1 hsb,hsame];rfl
   rw [if_pos hsame,List.append_nil] at ht
   rw [e1,hsame,Option.isSome_some]
   repeat (first|refine zE (d':=8) (fun _=>rfl) rfl rfl rfl (fun b9 w9 x9 a9 (r9:Row w9 ⟨b9,0,none⟩ x.2.cs) hb9=>?_)|refine aD (d:=some 30) (.bool false) rfl (congrArg (fun b=>some (Value.bool (!b))) ((aWu x.2 x.2).trans (dTr rfl))) ?_|refine go1 ?_|refine zg λ_ _=>?_|refine zi λ_ _=>?_)
   exact ⟨(i+1,v5),⟨rfl,rfl,rfl,rfl,rfl,rfl,trivial⟩,⟨(x12' ()).trans (by exact fx),by simp only;omega,by simp only;rw [ht];exact ho.ext (by exact fx)⟩,by simp only;omega⟩
  ·rw [if_neg hsame] at ht
   cases hg:aL lb x.1 with
   |none=>
    rw [Option.isSome_none]
    repeat (first|refine zE (d':=8) (fun _=>rfl) rfl rfl rfl (fun b9 w9 x9 a9 (r9:Row w9 ⟨b9,0,none⟩ (eV lb x.1).cs) hb9=>?_)|refine zI (d:=some 34) (cs:=bM.f x) rfl (fun b10 w10 x10 a10 hb10=>?_)|refine cA (d:=some 35) (E:=bM) (v:=v5) (l2:= [x]) rfl (ho.ext (by exact fx)) (nTr hs2 (Ext.size (w:=w2) (by exact fx))) rfl rfl (dX a10 rfl) rfl rfl (by simp only [List.length_cons,List.length_nil];omega) (fun v12 w12 o12 c12=>?_)|refine go1 ?_|refine zg λ_ _=>?_|refine zi λ_ _=>?_)
    exact ⟨(i+1,v12),⟨rfl,rfl,rfl,rfl,rfl,rfl,trivial⟩,⟨(Ext.chg ((x12' ()).trans (show Ext w2 _ by exact fx)) c12).mono (fun y hy=>.inr (ho.base y hy)),by simp only;omega,by simp only;rw [ht];exact o12⟩,by simp only;omega⟩
   |some d=>
    have hd:d≠x.2:=fun e=>hsame (by rw [hg,e])
    have e1:eV lb x.1=d:=by rw [aM1 hsb,hg];rfl
    rw [e1,Option.isSome_some]
    repeat (first|refine zE (d':=8) (fun _=>rfl) rfl rfl rfl (fun b9 w9 x9 a9 (r9:Row w9 ⟨b9,0,none⟩ d.cs) hb9=>?_)|refine aD (d:=some 30) (.bool true) rfl (congrArg (fun b=>some (Value.bool (!b))) ((aWu d x.2).trans (dFa hd))) ?_|refine zI (d:=some 34) (cs:=bM.f x) rfl (fun b10 w10 x10 a10 hb10=>?_)|refine cA (d:=some 35) (E:=bM) (v:=v5) (l2:= [x]) rfl (ho.ext (by exact fx)) (nTr hs2 (Ext.size (w:=w2) (by exact fx))) rfl rfl (dX a10 rfl) rfl rfl (by simp only [List.length_cons,List.length_nil];omega) (fun v12 w12 o12 c12=>?_)|refine go1 ?_|refine zg λ_ _=>?_|refine zi λ_ _=>?_)
    exact ⟨(i+1,v12),⟨rfl,rfl,rfl,rfl,rfl,rfl,trivial⟩,⟨(Ext.chg ((x12' ()).trans (show Ext w2 _ by exact fx)) c12).mono (fun y hy=>.inr (ho.base y hy)),by simp only;omega,by simp only;rw [ht];exact o12⟩,by simp only;omega⟩
 ·have e:la.take i=la:=tLe (by omega)
  rw [e] at ho
  repeat (first|refine go1 ?_|refine zg λ_ _=>?_|refine zi λ_ _=>?_)
  exact aA rfl ⟨ho.lower x1.size,x1.trans x2⟩
end Go.Proofs.YtgloknkcfchnlaaGreat
end
section
namespace Go.K
open Go Go.Proofs.YtgloknkcfchnlaaGreat
def lkR:R Lk where
 k:=5
 pos:=by decide
 ag:=true
 rel:=fun M w cs x=>∃tv iv sv mv mp,cs= [tv,iv,sv,mv,mp]∧SlR txR M w tv x.txs∧iv.oneCell'=true∧SlR enR M w sv x.spent∧SlR enR M w mv x.made∧mp.oneCell'=true
 len:=fun ⟨_,_,_,_,_,h,_⟩=>by rw [h];rfl
 one:=fun ⟨tv,iv,sv,mv,mp,h,h1,h2,h3,h4,h5⟩ v hv=>by
  obtain ⟨b,c,rfl⟩:=h1.form
  obtain ⟨b',c',rfl⟩:=h3.form
  obtain ⟨b'',c'',rfl⟩:=h4.form
  subst h;simp at hv;rcases hv with rfl|rfl|rfl|rfl|rfl
  ·rfl
  ·exact h2
  ·rfl
  ·rfl
  ·exact h5
 step:=fun ⟨tv,iv,sv,mv,mp,h,h1,h2,h3,h4,h5⟩ c hL hM=>⟨tv,iv,sv,mv,mp,h,h1.step c hL hM,h2,h3.step c hL hM,h4.step c hL hM,h5⟩
end Go.K
namespace Go.Proofs.YtgloknkcfchnlaaGreat
open Go Go.K
def aTo (b:Nat) (lv:Value) (top:Nat):List Value:= [.pointer (some ⟨b,0,none⟩),lv,.int .i64 (top:Nat)]
def ChR (U:List Nat) (w:World) (B c:Nat) (M:List Nat) (ch:Ch):Prop:=∃b mb lv,At w c (.cells (aTo b lv ch.top).toArray T.chain_Chain (0,0))∧iC T.coins_Set w b mb (aZ ch.bs)∧bR lkR T.chain_link B ([c,b,mb]++U) w lv (cU ch.bs)∧M= [c,b,mb]++aB lv∧B≤c∧B≤b∧B≤mb∧c≠b∧c≠mb∧(∀x∈aB lv,x≠c∧x≠b∧x≠mb)∧∀x∈M,x∉U
theorem ChR.ext {U:List Nat} {w w':World} {B c:Nat} {M:List Nat} {ch:Ch} (h:ChR U w B c M ch) (x:Ext w w'):ChR U w' B c M ch:=by
 obtain ⟨b,mb,lv,h1,h2,h3,h4⟩:=h
 exact ⟨b,mb,lv,h1.ext x,h2.ext x,h3.ext x,h4⟩
theorem ChR.lt {U:List Nat} {w:World} {B c:Nat} {M:List Nat} {ch:Ch} (h:ChR U w B c M ch):∀x∈M,x<w.heap.size:=by
 obtain ⟨b,mb,lv,h1,h2,h3,rfl, -⟩:=h
 intro x hx
 simp only [List.cons_append,List.nil_append,List.mem_cons] at hx
 rcases hx with rfl|rfl|rfl|hx
 ·exact h1.lt
 ·exact h2.lt.1
 ·exact h2.lt.2
 ·exact h3.lt x hx
theorem ChR.base {U:List Nat} {w:World} {B c:Nat} {M:List Nat} {ch:Ch} (h:ChR U w B c M ch):∀x∈M,B≤x:=by
 obtain ⟨b,mb,lv,h1,h2,h3,rfl,g1,g2,g3, -⟩:=h
 intro x hx
 simp only [List.cons_append,List.nil_append,List.mem_cons] at hx
 rcases hx with rfl|rfl|rfl|hx
 ·exact g1
 ·exact g2
 ·exact g3
 ·exact h3.base x hx
theorem ChR.off {U:List Nat} {w:World} {B c:Nat} {M:List Nat} {ch:Ch} (h:ChR U w B c M ch):∀x∈M,x∉U:=by
 obtain ⟨b,mb,lv,h1,h2,h3,h4,g1,g2,g3,g4,g5,g6,g7⟩:=h
 exact g7
theorem ChR.step {U L:List Nat} {w w':World} {B c:Nat} {M:List Nat} {ch:Ch} (h:ChR U w B c M ch) (cc:Chg L w w') (hL:∀y∈L,y∈U∨w.heap.size≤y):ChR U w' B c M ch:=by
 have hn:∀y∈L,y∉M:=fun y hy hm=>(hL y hy).elim (h.off y hm) (fun q=>by have:=h.lt y hm;omega)
 obtain ⟨b,mb,lv,h1,h2,h3,rfl,g⟩:=h
 exact ⟨b,mb,lv,h1.chg cc (fun q=>hn _ q (by simp)),h2.chg cc (fun q=>hn _ q (by simp)) (fun q=>hn _ q (by simp)),h3.step cc (fun y hy=>⟨fun q=>hn y hy (by simp [q]),(hL y hy).imp (fun q=>by simp [q]) id⟩) (fun y hy=>.inl hy),rfl,g⟩
theorem ChR.more {U U':List Nat} {w:World} {B c:Nat} {M:List Nat} {ch:Ch} (h:ChR U w B c M ch) (hU:∀y∈U',y∈U∨w.heap.size≤y):ChR U' w B c M ch:=by
 have hlt:=h.lt
 obtain ⟨b,mb,lv,h1,h2,h3,h4,g1,g2,g3,g4,g5,g6,g7⟩:=h
 refine ⟨b,mb,lv,h1,h2,h3.step (Chg.refl [] w) (by simp) (fun y hy=>?_),h4,g1,g2,g3,g4,g5,g6,fun x hx hu=>(hU x hu).elim (g7 x hx) (fun q=>by have:=hlt x hx;omega)⟩
 rcases List.mem_append.1 hy with hy|hy
 ·exact .inl (List.mem_append_left _ hy)
 ·exact (hU y hy).imp (fun q=>List.mem_append_right _ q) id
end Go.Proofs.YtgloknkcfchnlaaGreat
end
section
namespace Go.K
open Go Go.Proofs.YtgloknkcfchnlaaGreat
theorem bD4 {xs:List En} {m:List En} {i:Nat} (h:i<xs.length):nC (xs.drop i) m=if cW m xs[i].1=0∧eV m xs[i].1=xs[i].2 then nC (xs.drop (i+1)) (cP m xs[i].1) else (false,cP m xs[i].1):=by
 rw [List.drop_eq_getElem_cons h,nC]
theorem bHs {xs:List En} {m:List En} {i:Nat} (h:i<xs.length):aAm (xs.drop i) m=if aX m xs[i].1 xs[i].2=0 then aAm (xs.drop (i+1)) (dD m xs[i].1 xs[i].2) else (false,m):=by
 rw [List.drop_eq_getElem_cons h,aAm]
end Go.K
namespace Go.Proofs.YtgloknkcfchnlaaGreat
open Go Go.K
attribute [local irreducible] aF aP bG KOp.wp K.Spec eV cP dD aX cW fF nC aAm
set_option maxHeartbeats 2000000 in
theorem aHl {b mb:Nat} {l out inn:List En} {vo vi:Value} (w:World) (hS:iC T.coins_Set w b mb l) (ho:SlR enR [b,mb] w vo out) (hi:SlR enR [b,mb] w vi inn) (hn1:out.length≤100000) (hn2:inn.length≤100000):K.Spec Tryz.prog F.block_swap [.pointer (some ⟨b,0,none⟩),vo,vi] w fun r w'=>r=.bool (zU l out inn).1∧iC T.coins_Set w' b mb (zU l out inn).2∧Chg [b,mb] w w':=by
 have hlt:=hS.lt
 refine aWv rfl ?_
 unfold aIu
 refine oy ?_
 repeat' (first|refine zG (d:=some 14) (E:=enR) (M:= [b,mb]) (l:=out) rfl ho ?_|(refine aI (fun (p:Nat × List En) w'=>Chg [b,mb] w w'∧p.1≤out.length∧iC T.coins_Set w' b mb p.2∧nC out l=nC (out.drop p.1) p.2) (fun p=> [(0,.pointer (some ⟨b,0,none⟩)),(2,vi),(13,vo),(14,.int .i64 (out.length:Nat)),(15,.int .i64 (p.1:Nat))]) (fun p=>out.length - p.1) (0,l) ⟨rfl,rfl,rfl,rfl,rfl,trivial⟩ ⟨Chg.refl _ _,by simp,hS,rfl⟩ ?_;rintro ⟨i,m⟩ ρ w2 ⟨c2,hi2,hS2,hk⟩;simp only at hi2 hS2 hk;dsimp only)|refine zL (x:=.tmp 16) (p:=((i:Nat):Int)<((out.length:Nat):Int)) rfl (fun h6=>?_) (fun h6=>?_)|refine go1 ?_|refine zg λ_ _=>?_|refine zi λ_ _=>?_)
 ·have hil:i<out.length:=by omega
  rw [bD4 hil] at hk
  have ho2:SlR enR [b,mb] w2 vo out:=ho.step c2 (fun y hy=>.inl hy) (fun y hy=>.inl hy)
  have s2:=c2.size
  obtain ⟨x,hx⟩:∃x,x=out[i]:=⟨_,rfl⟩
  rw [←hx] at hk
  repeat (first|(refine aM (d:=some 17) (E:=enR) (M:= [b,mb]) rfl rfl (n:=i) (l:=out) ho2 rfl hil (fun ad cs r4 he=>?_);rw [←hx] at he;obtain rfl:cs=bM.f x:=he)|refine zE (d':=8) (fun _=>rfl) rfl rfl rfl (fun b7 w7 x7 a7 (r7:Row w7 ⟨b7,0,none⟩ (bM.f x)) hb7=>?_)|refine go1 ?_|refine zg λ_ _=>?_|refine zi λ_ _=>?_)
  have l7:=a7.lt
  refine zC (d:=some 23) rfl (aP8 x.1 _ (hS2.ext x7)) ?_
  rintro _ w8 ⟨rfl,S8,c8⟩
  have r8:Row w8 ⟨b7,0,none⟩ (bM.f x):=Row.chg c8 r7 (by simp;omega)
  have c08:Unit→Chg [b,mb] w w8:=fun _=>(c2.trans (Chg.trans x7 c8)).mono (by simp)
  clear x7 a7 r7 c8 r4 c2
  repeat (first|refine zE (d':=9) (fun _=>rfl) rfl rfl rfl (fun b9 w9 x9 a9 (r9:Row w9 ⟨b9,0,none⟩ (eV m x.1).cs) hb9=>?_)|refine go1 ?_|refine zg λ_ _=>?_|refine zi λ_ _=>?_)
  have fin:∀{w':World},Ext w8 w'→Chg [b,mb] w w':=fun y=>((c08 ()).trans y).mono (by simp)
  by_cases h1:cW m x.1=0
  ·by_cases h2:eV m x.1=x.2
   ·rw [if_pos ⟨h1,h2⟩] at hk
    rw [h2] at r9
    rw [h1]
    repeat (first|refine aD (d:=some 32) (.bool false) rfl (congrArg (fun b=>some (Value.bool (!b))) ((aWu x.2 x.2).trans (dTr rfl))) ?_|refine go1 ?_|refine zg λ_ _=>?_|refine zi λ_ _=>?_)
    exact ⟨(i+1,cP m x.1),⟨rfl,rfl,rfl,rfl,rfl,trivial⟩,⟨fin (by exact fx),by simp only;omega,S8.ext (by exact fx),hk⟩,by simp only;omega⟩
   ·rw [if_neg (fun q=>h2 q.2)] at hk
    rw [h1]
    repeat (first|refine aD (d:=some 32) (.bool true) rfl (congrArg (fun b=>some (Value.bool (!b))) ((aWu (eV m x.1) x.2).trans (dFa h2))) ?_|refine go1 ?_|refine zg λ_ _=>?_|refine zi λ_ _=>?_)
    refine aA rfl ⟨?_,?_,fin (by exact fx)⟩
    ·unfold zU;rw [hk];rfl
    ·unfold zU;rw [hk];exact S8.ext (by exact fx)
  ·rw [if_neg (fun q=>h1 q.1)] at hk
   repeat (first|refine cC (t:=28) (p:=cW m x.1=0) rfl (fun _=>?_) (fun h=>absurd h h1)|refine go1 ?_|refine zg λ_ _=>?_|refine zi λ_ _=>?_)
   refine aA rfl ⟨?_,?_,fin (by exact fx)⟩
   ·unfold zU;rw [hk];rfl
   ·unfold zU;rw [hk];exact S8.ext (by exact fx)
 ·have ei:i=out.length:=by omega
  subst ei
  rw [List.drop_length,nC] at hk
  have hi3:SlR enR [b,mb] w2 vi inn:=hi.step c2 (fun y hy=>.inl hy) (fun y hy=>.inl hy)
  have hsw:zU l out inn=aAm inn m:=by unfold zU;rw [hk];rfl
  rw [hsw]
  have s2:=c2.size
  repeat' (first|refine zG (d:=some 36) (E:=enR) (M:= [b,mb]) (l:=inn) rfl hi3 ?_|(refine aI (fun (p:Nat × List En) w'=>Chg [b,mb] w2 w'∧p.1≤inn.length∧iC T.coins_Set w' b mb p.2∧aAm inn m=aAm (inn.drop p.1) p.2) (fun p=> [(0,.pointer (some ⟨b,0,none⟩)),(35,vi),(36,.int .i64 (inn.length:Nat)),(37,.int .i64 (p.1:Nat))]) (fun p=>inn.length - p.1) (0,m) ⟨rfl,rfl,rfl,rfl,trivial⟩ ⟨Chg.refl _ _,by simp,hS2,rfl⟩ ?_;rintro ⟨j,q⟩ ρ w3 ⟨c3,hj2,hS3,hk3⟩;simp only at hj2 hS3 hk3;dsimp only)|refine zL (x:=.tmp 38) (p:=((j:Nat):Int)<((inn.length:Nat):Int)) rfl (fun h7=>?_) (fun h7=>?_)|refine go1 ?_|refine zg λ_ _=>?_|refine zi λ_ _=>?_)
  ·have hjl:j<inn.length:=by omega
   rw [bHs hjl] at hk3
   have hi4:SlR enR [b,mb] w3 vi inn:=hi3.step c3 (fun y hy=>.inl hy) (fun y hy=>.inl hy)
   have s3:=c3.size
   obtain ⟨x,hx⟩:∃x,x=inn[j]:=⟨_,rfl⟩
   rw [←hx] at hk3
   repeat (first|(refine aM (d:=some 39) (E:=enR) (M:= [b,mb]) rfl rfl (n:=j) (l:=inn) hi4 rfl hjl (fun ad cs r4 he=>?_);rw [←hx] at he;obtain rfl:cs=bM.f x:=he)|refine zE (d':=12) (fun _=>rfl) rfl rfl rfl (fun b7 w7 x7 a7 (r7:Row w7 ⟨b7,0,none⟩ (bM.f x)) hb7=>?_)|refine go1 ?_|refine zg λ_ _=>?_|refine zi λ_ _=>?_)
   refine zC (d:=some 46) rfl (aU7 x.1 x.2 _ (hS3.ext x7)) ?_
   rintro _ w8 ⟨rfl,S8,c8⟩
   have c08:Chg [b,mb] w2 w8:=(c3.trans (Chg.trans x7 c8)).mono (by simp)
   by_cases h1:aX q x.1 x.2=0
   ·rw [if_pos h1] at hk3
    rw [h1]
    repeat (first|refine go1 ?_|refine zg λ_ _=>?_|refine zi λ_ _=>?_)
    exact ⟨(j+1,dD q x.1 x.2),⟨rfl,rfl,rfl,rfl,trivial⟩,⟨c08,by simp only;omega,S8,hk3⟩,by simp only;omega⟩
   ·rw [if_neg h1] at hk3
    have e:dD q x.1 x.2=q:=by unfold dD;rw [if_neg h1]
    rw [e] at S8
    repeat (first|refine zN (x:=.tmp 47) (p:=aX q x.1 x.2=0) rfl (fun _=>?_) (fun h=>absurd h h1)|refine go1 ?_|refine zg λ_ _=>?_|refine zi λ_ _=>?_)
    exact aA rfl ⟨by rw [hk3];rfl,by rw [hk3];exact S8,(c2.trans c08).mono (by simp)⟩
  ·have ej:j=inn.length:=by omega
   subst ej
   rw [List.drop_length,aAm] at hk3
   repeat (first|refine go1 ?_|refine zg λ_ _=>?_|refine zi λ_ _=>?_)
   exact aA rfl ⟨by rw [hk3];rfl,by rw [hk3];exact hS3,(c2.trans c3).mono (by simp)⟩
set_option maxHeartbeats 1000000 in
theorem aW7 {b mb:Nat} {l spent made:List En} {sv mv:Value} (w:World) (hS:iC T.coins_Set w b mb l) (hs:SlR enR [b,mb] w sv spent) (hm:SlR enR [b,mb] w mv made) (hn1:spent.length≤100000) (hn2:made.length≤100000) (h1:(zU l made spent).1=true):K.Spec Tryz.prog F.block_Revert [.pointer (some ⟨b,0,none⟩),.agg #[sv,mv]] w fun r w'=>r=.int .i64 0∧iC T.coins_Set w' b mb (zU l made spent).2∧Chg [b,mb] w w':=by
 have hlt:=hS.lt
 have o1:sv.oneCell'=true:=by obtain ⟨_,_,rfl⟩:=hs.form;rfl
 have o2:mv.oneCell'=true:=by obtain ⟨_,_,rfl⟩:=hm.form;rfl
 refine aPq rfl ?_
 unfold aEe
 refine oy ?_
 repeat' (first|refine zg (fun w1 x1=>?_)|refine zi (fun w1 x1=>?_)|refine dJ (b:=.cons ⟨some 13,_,_⟩ _) (fun (p:Nat × Nat) w'=>Ext w w'∧iC T.coins_Set w' p.1 p.2 l∧w0.heap.size≤p.1∧w0.heap.size≤p.2∧Ext w0 w') (fun p=> [(0,.pointer (some ⟨b,0,none⟩)),(3,.pointer (some ⟨b3,0,none⟩)),(8,.pointer (some ⟨p.1,0,none⟩)),(10,mv),(12,sv)]) ?_ ?_|refine zD (d:=some 3) (cs:= [sv,mv]) rfl rfl (fun b3 w0 x0 a3 (r3:Row w0 ⟨b3,0,none⟩ [sv,mv]) hb3=>?_)|(refine zC (d:=some 8) rfl (aSo _ (hS.ext (by exact fx))) ?_;rintro _ w2 ⟨b8,mb8,rfl,hS8,hb8,hmb8,x2⟩)|(exact ⟨(b8,mb8),⟨rfl,rfl,rfl,rfl,rfl,trivial⟩,by exact fx,hS8.ext (by exact fx),nTr (Ext.size (show Ext w0 _ by exact fx)) hb8,nTr (Ext.size (show Ext w0 _ by exact fx)) hmb8,by exact fx⟩)|refine go1 ?_|refine zg λ_ _=>?_|refine zi λ_ _=>?_|refine zB ?_ ?_)
 rintro ⟨b8,mb8⟩ ρ w3 ⟨x3,S8,hb80,hmb80,x03⟩
 simp only at S8 hb80 hmb80
 have l3:=a3.lt
 have s00:=x0.size
 have r33:Row w3 ⟨b3,0,none⟩ [sv,mv]:=Row.ext x03 r3
 have hb8:w.heap.size≤b8:=by omega
 have hmb8:w.heap.size≤mb8:=by omega
 have nin:∀y∈ [b8,mb8],w.heap.size≤y:=by intro y hy;simp at hy;rcases hy with rfl|rfl<;>assumption
 refine zC (d:=some 13) rfl (aHl (b:=b8) (mb:=mb8) (l:=l) (out:=made) (inn:=spent) _ S8 (hm.step x3 (by simp) (fun y hy=>.inr (nin y hy))) (hs.step x3 (by simp) (fun y hy=>.inr (nin y hy))) hn2 hn1) ?_
 rintro _ w4 ⟨rfl,S4,c4⟩
 rw [h1]
 have x04:Ext w w4:=(Ext.chg x3 c4).mono (fun y hy=>.inr (nin y hy))
 have r34:Row w4 ⟨b3,0,none⟩ [sv,mv]:=Row.chg c4 r33 (by simp;omega)
 repeat (first|refine go1 ?_|refine zg λ_ _=>?_|refine zi λ_ _=>?_)
 refine zC (d:=some 20) rfl (aHl (l:=l) (out:=made) (inn:=spent) _ (hS.ext x04) (hm.ext x04) (hs.ext x04) hn2 hn1) ?_
 rintro _ w5 ⟨rfl,S5,c5⟩
 repeat (first|refine go1 ?_|refine zg λ_ _=>?_|refine zi λ_ _=>?_)
 exact aA rfl ⟨rfl,S5,(Chg.trans x04 c5).mono (by simp)⟩
end Go.Proofs.YtgloknkcfchnlaaGreat
end
section
namespace Go.K
open Go Go.Proofs.YtgloknkcfchnlaaGreat
theorem aJ7 {l:List En} {t:Tx} {i:Nat} {h:Int} (h1:(nP l t i h).1≠0):fB l t i h=(l,nP l t i h):=by unfold fB;rw [if_pos h1]
theorem aXc {l:List En} {t:Tx} {i:Nat} {h:Int} (h1:(nP l t i h).1=0) (h2:(jJ (idT t) h 0 t.outs (mT l t)).2≠0):fB l t i h=(l,(jJ (idT t) h 0 t.outs (mT l t)).2, -1):=by unfold fB;rw [if_neg (by rw [h1];decide),if_pos h2]
theorem bEd {l:List En} {t:Tx} {i:Nat} {h:Int} (h1:(nP l t i h).1=0) (h2:(jJ (idT t) h 0 t.outs (mT l t)).2=0):fB l t i h=((jJ (idT t) h 0 t.outs (mT l t)).1,0, -1):=by unfold fB;rw [if_neg (by rw [h1];decide),if_neg (by rw [h2];decide)]
theorem bGj {l:List En} {t:Tx} {i:Nat} {h:Int} (hg:aQ t=true) (hc:aE t≠0):nP l t i h=(aE t, -1):=by unfold nP;rw [if_pos hg,if_pos hc]
theorem aKq {l:List En} {t:Tx} {i:Nat} {h:Int} (hg:aQ t=true) (hc:aE t=0) (h1:0<i∨t.lock≠h):nP l t i h=(4, -1):=by unfold nP;rw [if_pos hg,if_neg (by rw [hc];decide),if_pos h1]
theorem bLk {l:List En} {t:Tx} {i:Nat} {h:Int} (hg:aQ t=true) (hc:aE t=0) (h1:¬(0<i∨t.lock≠h)):nP l t i h=(0, -1):=by unfold nP;rw [if_pos hg,if_neg (by rw [hc];decide),if_neg h1]
theorem bGq {l:List En} {t:Tx} {i:Nat} {h:Int} (hg:aQ t=false):nP l t i h=(dZ (aL l) t h).2:=by unfold nP;rw [if_neg (by rw [hg];decide)]
end Go.K
namespace Go.Proofs.YtgloknkcfchnlaaGreat
open Go Go.K
attribute [local irreducible] aF aP bG KOp.wp K.Spec u32 leS vnS str aR aE aQ bS idT aO inE dZ nP jJ fB eF eV cP dD aX cW
set_option maxHeartbeats 1000000 in
theorem bIp {b mb:Nat} {M:List Nat} {cs:List Value} {t:Tx} {l:List En} (i:Nat) (h:Int) (w:World) (hS:iC T.coins_Set w b mb l) (hsc:SC l) (ht:txR.rel M w cs t) (hs:t.Sm):
  K.Spec Tryz.prog F.block_may [.pointer (some ⟨b,0,none⟩),.agg cs.toArray,.int .i64 (i:Nat),.int .i64 h] w fun r w'=>dL w' 1 r (nP l t i h).1 (nP l t i h).2∧Ext w w':=by
 have ht0:=ht
 have hl6:∀e∈l,e.2.s.size≤1000000:=fun e he=>by have:=(hsc e he).1;omega
 obtain ⟨iv,ov,rfl,h1,h2,h3,h4⟩:=ht
 have h41:=h4.1
 have h42:=h4.2
 refine aYd rfl ?_
 unfold aM8
 refine oy ?_
 cases hgr:aQ t with
 |true=>
  by_cases hc:aE t=0
  ·repeat' (first|refine zD (d:=some 5) rfl rfl (fun bp wp xp ap (rp:Row wp ⟨bp,0,none⟩ (aJ t iv ov)) hp0=>?_)|(refine zC (d:=some 13) rfl (lI (M:=M) (t:=t) (cs:=aJ t iv ov) _ (R.ext ht0 (by exact fx)) hs) ?_;rintro _ w1 ⟨rfl,x1⟩;rw [hgr])|(refine zC (d:=some 25) rfl (sU (M:=M) (t:=t) (cs:=aJ t iv ov) _ (R.ext ht0 (by exact fx)) hs) ?_;rintro _ w2 ⟨rfl,x2⟩;rw [hc])|refine aD (d:=some 35) (.int .i64 t.lock) rfl (congrArg (fun n=>some (Value.int .i64 n)) (IntWalk.i64_in _ (by omega))) ?_|refine zJ (t:=32) (p:=((i:Nat):Int)>0) rfl (fun hi0=>?_) (fun hi0=>?_)|refine zN (x:=.tmp 38) (p:=t.lock=h) rfl (fun hl0=>?_) (fun hl0=>?_)|refine go1 ?_|refine zg λ_ _=>?_|refine zi λ_ _=>?_)
   ·exact aA rfl ⟨by rw [aKq (l:=l) hgr hc (h:=h) (i:=i) (.inl (by omega))];exact dL.num _ 1 (by decide),by exact fx⟩
   ·exact aA rfl ⟨by rw [aKq (l:=l) hgr hc (h:=h) (i:=i) (.inr hl0)];exact dL.num _ 1 (by decide),by exact fx⟩
   ·exact aA rfl ⟨by rw [bLk (l:=l) hgr hc (h:=h) (i:=i) (by omega)];exact dL.none_ _ 1,by exact fx⟩
  ·repeat' (first|refine zD (d:=some 5) rfl rfl (fun bp wp xp ap (rp:Row wp ⟨bp,0,none⟩ (aJ t iv ov)) hp0=>?_)|(refine zC (d:=some 13) rfl (lI (M:=M) (t:=t) (cs:=aJ t iv ov) _ (R.ext ht0 (by exact fx)) hs) ?_;rintro _ w1 ⟨rfl,x1⟩;rw [hgr])|(refine zC (d:=some 25) rfl (sU (M:=M) (t:=t) (cs:=aJ t iv ov) _ (R.ext ht0 (by exact fx)) hs) ?_;rintro _ w2 ⟨rfl,x2⟩)|refine zN (x:=.tmp 27) (p:=aE t=0) rfl (fun _=>?_) (fun h=>absurd h hc)|refine go1 ?_|refine zg λ_ _=>?_|refine zi λ_ _=>?_)
   exact aA rfl ⟨by rw [bGj (l:=l) hgr hc (h:=h) (i:=i)];exact dL.num _ 1 hc,by exact fx⟩
 |false=>
  repeat' (first|refine zD (d:=some 5) rfl rfl (fun bp wp xp ap (rp:Row wp ⟨bp,0,none⟩ (aJ t iv ov)) hp0=>?_)|(refine zC (d:=some 13) rfl (lI (M:=M) (t:=t) (cs:=aJ t iv ov) _ (R.ext ht0 (by exact fx)) hs) ?_;rintro _ w1 ⟨rfl,x1⟩;rw [hgr])|(refine zC (d:=some 20) rfl (aYc (M:=M) (t:=t) (cs:=aJ t iv ov) h _ (bS7 (hS.ext (by exact fx)) hl6) (R.ext ht0 (by exact fx)) hs) ?_;rintro _ w2 ⟨e,rfl,he,x2⟩)|refine go1 ?_|refine zg λ_ _=>?_|refine zi λ_ _=>?_)
  exact aA rfl ⟨by rw [bGq (l:=l) (h:=h) (i:=i) hgr];exact he.ext (by exact fx),by exact fx⟩
set_option maxHeartbeats 1000000 in
theorem aT7 {b mb:Nat} {M:List Nat} {cs:List Value} {t:Tx} {m:List En} (h:Int) (w:World) (hS:iC T.coins_Set w b mb m) (hb:b∈M) (hmb:mb∈M) (ht:txR.rel M w cs t) (hs:t.Sm) (hc:aE t=0):
  K.Spec Tryz.prog F.block_pay [.pointer (some ⟨b,0,none⟩),.agg cs.toArray,.int .i64 h] w fun r w'=>(r=if (jJ (idT t) h 0 t.outs m).2=0 then .nilIface else wR (jJ (idT t) h 0 t.outs m).2)∧iC T.coins_Set w' b mb (jJ (idT t) h 0 t.outs m).1∧Chg [b,mb] w w':=by
 have ht0:=ht
 have hlt:=hS.lt
 have hout:=hs.outs
 obtain ⟨iv,ov,rfl,h1,h2,h3,h4⟩:=ht
 refine aYu rfl ?_
 unfold aNw
 refine oy ?_
 repeat' (first|refine zD (d:=some 4) rfl rfl (fun bp wp xp ap (rp:Row wp ⟨bp,0,none⟩ (aJ t iv ov)) hp0=>?_)|(refine zC (d:=some 14) rfl (uD (M:=M) (t:=t) (cs:=aJ t iv ov) _ (R.ext ht0 (by exact fx)) hs) ?_;rintro _ w1 ⟨rfl,x1⟩;rw [aPo,show idS t=idT t by unfold idS;rw [if_pos hc]])|refine zG (d:=some 19) (E:=fS) (M:=M) (l:=t.outs) rfl (SlR.ext h2 (by exact fx)) ?_|(refine aI (fun (p:Nat × List En) w'=>Chg [b,mb] w1 w'∧p.1≤t.outs.length∧iC T.coins_Set w' b mb p.2∧aGv (idT t) h t.outs m p.1 p.2) (fun p=> [(0,.pointer (some ⟨b,0,none⟩)),(2,.int .i64 h),(7,.string (idT t)),(18,ov),(19,.int .i64 (t.outs.length:Nat)),(20,.int .i64 (p.1:Nat))]) (fun p=>t.outs.length - p.1) (0,m) ⟨rfl,rfl,rfl,rfl,rfl,rfl,trivial⟩ ⟨Chg.refl _ _,by simp,hS.ext (by exact fx),aQe⟩ ?_;rintro ⟨k,mk⟩ ρ w4 ⟨c4,hk,hSk,hpk⟩;simp only at hk hSk hpk;dsimp only)|refine zL (x:=.tmp 21) (p:=((k:Nat):Int)<((t.outs.length:Nat):Int)) rfl (fun h9=>?_) (fun h9=>?_)|refine go1 ?_|refine zg λ_ _=>?_|refine zi λ_ _=>?_)
 ·have hkl:k<t.outs.length:=by omega
  have x01:Ext w w1:=xp.trans x1
  have c04:Chg [b,mb] w w4:=(Chg.trans x01 c4).mono (by simp)
  have h24:SlR fS M w4 ov t.outs:=h2.step c04 (fun y hy=>.inl (by simp at hy;rcases hy with rfl|rfl<;>assumption)) (fun y hy=>.inl hy)
  have s4:=c04.size
  have c14':Unit→Chg [b,mb] w1 w4:=fun _=>c4
  clear xp x1 c4 x01
  repeat (first|(refine aM (d:=some 23) (E:=fS) (M:=M) rfl rfl (n:=k) (l:=t.outs) h24 rfl hkl (fun ad cs r4 he=>?_);obtain ⟨rfl,hv64⟩:=he)|refine zH (d:=some 10) (fun b10 w5 x5 a5 hb5=>?_)|refine go1 ?_|refine zg λ_ _=>?_|refine zi λ_ _=>?_)
  refine aU (w0:=w4) (n:=2) (vs:=iI t.outs[k]) x5 hb5 a5 rfl rfl rfl rfl rfl (fun w6 x6 c6 a6 r6=>?_)
  repeat (first|refine aD (d:=some 28) (.int .u32 (k:Nat)) rfl (congrArg (fun n=>some (Value.int .u32 n)) (by rw [wrap32];omega)) ?_|refine aT (d:=some 29) (cs:=(⟨idT t,(k:Nat)⟩:Pt).cs) rfl ?_|refine aT (d:=some 32) (cs:=(outC t.outs[k] h).cs) rfl ?_|refine go1 ?_|refine zg λ_ _=>?_|refine zi λ_ _=>?_)
  refine zC (d:=some 33) rfl (aU7 ⟨idT t,(k:Nat)⟩ (outC t.outs[k] h) _ (hSk.ext x6)) ?_
  rintro _ w7 ⟨rfl,S7,c7⟩
  have c17:Chg [b,mb] w w7:=(c04.trans (Chg.trans x6 c7)).mono (by simp)
  by_cases h6:aX mk ⟨idT t,(k:Nat)⟩ (outC t.outs[k] h)=0
  ·rw [h6]
   repeat (first|refine go1 ?_|refine zg λ_ _=>?_|refine zi λ_ _=>?_)
   exact ⟨(k+1,dD mk ⟨idT t,(k:Nat)⟩ (outC t.outs[k] h)),⟨rfl,rfl,rfl,rfl,rfl,rfl,trivial⟩,⟨((c14' ()).trans (Chg.trans x6 c7)).mono (by simp),by simp only;omega,S7,aSk hkl hpk h6⟩,by simp only;omega⟩
  ·repeat (first|refine zN (x:=.tmp 35) (p:=aX mk ⟨idT t,(k:Nat)⟩ (outC t.outs[k] h)=0) rfl (fun _=>?_) (fun h=>absurd h h6)|refine go1 ?_|refine zg λ_ _=>?_|refine zi λ_ _=>?_)
   have e:=aUm hkl hpk h6
   have e3:dD mk ⟨idT t,(k:Nat)⟩ (outC t.outs[k] h)=mk:=by unfold dD;rw [if_neg h6]
   rw [e3] at S7
   exact aA rfl ⟨by rw [e];simp only;rw [if_neg h6];rfl,by rw [e];exact S7,c17⟩
 ·have e:=aTr (by omega) hpk
  repeat (first|refine go1 ?_|refine zg λ_ _=>?_|refine zi λ_ _=>?_)
  exact aA rfl ⟨by rw [e];rfl,by rw [e];exact hSk,(Chg.trans (show Ext w w1 from xp.trans x1) c4).mono (by simp)⟩
end Go.Proofs.YtgloknkcfchnlaaGreat
end
namespace Go.Proofs.YtgloknkcfchnlaaGreat
section
open Go Go.K
attribute [local irreducible] aF aP bG KOp.wp K.Spec u32 leS vnS str aR aE aQ bS idT aO
set_option maxHeartbeats 1000000 in
theorem xS {M N:List Nat} {v:Value} {txs:List Tx} (w:World) (hx:SlR txR N w v txs) (hs:∀t∈txs,t.Sm) (hMN:∀b∈M,b∈N∨w.heap.size≤b) (hM:∀b∈M,b<w.heap.size) (hk0:txs.length≤1000):K.Spec Tryz.prog F.chain_copies [v] w fun r w'=>bR txR T.api_Tx w.heap.size M w' r txs∧Ext w w':=by
 refine aP3 rfl ?_
 unfold aEu
 refine oy ?_
 repeat' (first|refine zG (d:=some 7) (E:=txR) (M:=N) (l:=txs) rfl hx ?_|(refine aI (fun (p:Nat × Value) w'=>Ext w w'∧p.1≤txs.length∧bR txR T.api_Tx w.heap.size M w' p.2 (txs.take p.1)) (fun p=> [(3,p.2),(6,v),(7,.int .i64 (txs.length:Nat)),(8,.int .i64 (p.1:Nat))]) (fun p=>txs.length - p.1) (0,.slice none 0 0) ⟨rfl,rfl,rfl,rfl,trivial⟩ ⟨Ext.refl _,by simp,bR.nil _ _ _ _⟩ ?_;rintro ⟨k,v3⟩ ρ w2 ⟨x2,hk,ho⟩;simp only at hk ho;dsimp only)|refine zL (x:=.tmp 9) (p:=((k:Nat):Int)<((txs.length:Nat):Int)) rfl (fun h9=>?_) (fun h9=>?_)|refine go1 ?_|refine zg λ_ _=>?_|refine zi λ_ _=>?_)
 ·have hkl:k<txs.length:=by omega
  have hst:=hs _ (gMe hkl)
  have hb3:=ho.base
  have hl3:=ho.lt
  have s2:=x2.size
  have hx2:SlR txR (aB v3++M) w2 v txs:=hx.step x2 (by simp) (fun b hb=>(List.mem_append.1 hb).elim (fun h=>.inr (hb3 b h)) (hMN b))
  have x02':Unit→Ext w w2:=fun _=>x2
  have hll:(txs.take k).length≤k:=by rw [List.length_take];omega
  obtain ⟨t,ht⟩:∃t,t=txs[k]:=⟨_,rfl⟩
  rw [←ht] at hst
  clear x2
  repeat (first|(refine aM (d:=some 10) (E:=txR) (M:=aB v3++M) rfl rfl (n:=k) (l:=txs) hx2 rfl hkl (fun ad cs r4 he=>?_);rw [←ht] at he;obtain ⟨iv,ov,rfl,p1,p2,p3⟩:=id he;have o1:=p1.one;have o2:=p2.one)|refine zE (d':=5) (fun _=>rfl) rfl rfl (txR.one he |> List.all_eq_true.2) (fun b5 w4 x4 a4 (r5:Row w4 ⟨b5,0,none⟩ (aJ t iv ov)) hb5=>?_)|refine go1 ?_|refine zg λ_ _=>?_|refine zi λ_ _=>?_)
  refine zC (d:=some 14) rfl (xQ (M:=aB v3++M) (cs:=aJ t iv ov) (t:=t) _ (R.ext he x4) hst (fun b hb=>nLt ((List.mem_append.1 hb).elim (hl3 b) (fun h=>by have:=hM b h;omega)) x4.size)) ?_
  rintro _ w5 ⟨cs',rfl,tO,x5⟩
  have tO5:=tO.rel (fun b hb=>nLt ((List.mem_append.1 hb).elim (hl3 b) (fun h=>by have:=hM b h;omega)) x4.size)
  obtain ⟨iv',ov',rfl, -, -, -⟩:=id tO5
  repeat (first|refine zI (d:=some 15) (cs:=aJ t iv' ov') rfl (fun b6 w6 x6 a6 hb6=>?_)|refine gB (d:=some 16) (E:=txR) (M:=M) (v:=v3) (cs:=aJ t iv' ov') (a:=t) rfl rfl (ho.ext (by exact fx)) (nTr s2 (Ext.size (show Ext w2 _ by exact fx))) rfl rfl a6 (R.ext tO5 x6) (by omega) (fun v7 w7 o7 c7 hb7=>?_)|refine go1 ?_|refine zg λ_ _=>?_|refine zi λ_ _=>?_)
  exact ⟨(k+1,v7),⟨rfl,rfl,rfl,rfl,trivial⟩,⟨(Ext.chg ((x02' ()).trans (show Ext w2 w6 by exact fx)) c7).mono (fun b hb=>.inr (hb3 b hb)),by simp only;omega,by simp only;rw [List.take_succ_eq_append_getElem hkl,←ht];exact o7⟩,by simp only;omega⟩
 ·have e:txs.take k=txs:=tLe (by omega)
  rw [e] at ho
  repeat (first|refine go1 ?_|refine zg λ_ _=>?_|refine zi λ_ _=>?_)
  exact aA rfl ⟨ho,x2⟩
end
section
open Go Go.K
attribute [local irreducible] aF aP bG KOp.wp K.Spec u32 leS vnS str aR aE aQ bS idT aO
set_option maxHeartbeats 4000000 in
theorem bBc {M N:List Nat} {v sv mv:Value} {txs:List Tx} {spent made:List En} (w:World) (hx:SlR txR N w v txs) (hs:∀t∈txs,t.Sm) (hMN:∀b∈M,b∈N) (hM:∀b∈M,b<w.heap.size) (hk0:txs.length≤1000) (hsv:SlR enR M w sv spent) (hmv:SlR enR M w mv made):
  K.Spec Tryz.prog F.chain_linked [v,.agg #[sv,mv]] w fun r w'=>∃cs:List Value,r=.agg cs.toArray∧lkR.rel M w' cs ⟨txs,spent,made⟩∧Ext w w':=by
 obtain ⟨q1,q2,esv⟩:=hsv.form
 obtain ⟨q3,q4,emv⟩:=hmv.form
 have o1:sv.oneCell'=true:=by rw [esv];rfl
 have o2:mv.oneCell'=true:=by rw [emv];rfl
 refine aPm rfl ?_
 unfold aEi
 refine oy ?_
 repeat (first|refine zD (d:=some 3) (cs:= [sv,mv]) rfl (by rw [esv,emv];rfl) (fun b3 w0 x0 a3 (r3:Row w0 ⟨b3,0,none⟩ [sv,mv]) hb3=>?_)|refine zH (d:=some 4) (fun b4 w1 x1 a4 hb4=>?_)|refine zg (fun w2 x2=>?_)|refine zi (fun w2 x2=>?_)|refine dJ (b:=.cons ⟨none,.storeN _ _ _,_⟩ _) (fun (p:Value × Nat × Nat) w'=>Ext w1 w'∧SlR txR (p.2.2::p.2.1::b4::M) w' p.1 txs∧dI ptK Value.string w' p.2.1 []∧At w' p.2.2 (.cells [Value.slice none 0 0,.slice none 0 0,.slice none 0 0,.slice none 0 0,.map none].toArray T.chain_link (0,0))∧w1.heap.size≤p.2.1∧w1.heap.size≤p.2.2) (fun p=> [(0,v),(3,.pointer (some ⟨b3,0,none⟩)),(4,.pointer (some ⟨b4,0,none⟩)),(5,.pointer (some ⟨p.2.2,0,none⟩)),(16,.agg #[p.1,.slice none 0 0,sv,mv,.map (some p.2.1)])]) ?_ ?_|refine go1 ?_|refine zg λ_ _=>?_|refine zi λ_ _=>?_)
 ·have s01:=x0.size
  have s12:=x1.size
  have l4:=a4.lt
  clear a4 a3
  repeat' (first|refine zB ?_ ?_|(refine zH (d:=some 5) (fun b5 w5 x5 a5 hb5=>?_);have h15:w1.heap.size≤b5:=nTr (Ext.size (show Ext w1 _ by exact fx)) hb5)|(refine iQ (d:=some 15) (E:=ptK) (fv:=Value.string) (fun bm w6 x6 m6 hbm=>?_);have h16:w1.heap.size≤bm:=nTr (Ext.size (show Ext w1 _ by exact fx)) hbm)|(refine zC (d:=some 13) rfl (xS (M:=b5::bm::b4::M) (N:=b5::bm::b4::N) _ (hx.step (show Ext w _ by exact fx) (by simp) (fun y hy=>by simp only [List.mem_cons] at hy;rcases hy with rfl|rfl|rfl|hy;exact .inr (by omega);exact .inr (by omega);exact .inr (by omega);exact .inl hy)) hs (fun y hy=>by simp only [List.mem_cons] at hy;rcases hy with rfl|rfl|rfl|hy;exact .inl (by simp);exact .inl (by simp);exact .inl (by simp);exact .inl (by simp [hMN y hy])) (fun y hy=>by simp only [List.mem_cons] at hy;rcases hy with rfl|rfl|rfl|hy;exact nLt a5.lt (Ext.size (by exact fx));exact nLt m6.lt (Ext.size (by exact fx));exact nLt l4 (Ext.size (by exact fx));exact nLt (hM y hy) (Ext.size (by exact fx))) hk0) ?_;rintro tv w7 ⟨oT,x7⟩;have hT:=oT.slB (fun y hy=>by simp only [List.mem_cons] at hy;rcases hy with rfl|rfl|rfl|hy;exact nLt a5.lt (Ext.size (by exact fx));exact nLt m6.lt (Ext.size (by exact fx));exact nLt l4 (Ext.size (by exact fx));exact nLt (hM y hy) (Ext.size (by exact fx)));clear oT;obtain ⟨q5,q6,etv⟩:=hT.form)|(refine zC (d:=some 13) rfl (xS (M:=b5::b4::M) (N:=b5::b4::N) _ (hx.step (show Ext w _ by exact fx) (by simp) (fun y hy=>by simp only [List.mem_cons] at hy;rcases hy with rfl|rfl|hy;exact .inr (by omega);exact .inr (by omega);exact .inl hy)) hs (fun y hy=>by simp only [List.mem_cons] at hy;rcases hy with rfl|rfl|hy;exact .inl (by simp);exact .inl (by simp);exact .inl (by simp [hMN y hy])) (fun y hy=>by simp only [List.mem_cons] at hy;rcases hy with rfl|rfl|hy;exact nLt a5.lt (Ext.size (by exact fx));exact nLt l4 (Ext.size (by exact fx));exact nLt (hM y hy) (Ext.size (by exact fx))) hk0) ?_;rintro tv w7 ⟨oT,x7⟩;have hT:=oT.slB (fun y hy=>by simp only [List.mem_cons] at hy;rcases hy with rfl|rfl|hy;exact nLt a5.lt (Ext.size (by exact fx));exact nLt l4 (Ext.size (by exact fx));exact nLt (hM y hy) (Ext.size (by exact fx)));clear oT;obtain ⟨q5,q6,etv⟩:=hT.form)|(refine zC (d:=some 13) rfl (xS (M:=bm::b4::M) (N:=bm::b4::N) _ (hx.step (show Ext w _ by exact fx) (by simp) (fun y hy=>by simp only [List.mem_cons] at hy;rcases hy with rfl|rfl|hy;exact .inr (by omega);exact .inr (by omega);exact .inl hy)) hs (fun y hy=>by simp only [List.mem_cons] at hy;rcases hy with rfl|rfl|hy;exact .inl (by simp);exact .inl (by simp);exact .inl (by simp [hMN y hy])) (fun y hy=>by simp only [List.mem_cons] at hy;rcases hy with rfl|rfl|hy;exact nLt m6.lt (Ext.size (by exact fx));exact nLt l4 (Ext.size (by exact fx));exact nLt (hM y hy) (Ext.size (by exact fx))) hk0) ?_;rintro tv w7 ⟨oT,x7⟩;have hT:=oT.slB (fun y hy=>by simp only [List.mem_cons] at hy;rcases hy with rfl|rfl|hy;exact nLt m6.lt (Ext.size (by exact fx));exact nLt l4 (Ext.size (by exact fx));exact nLt (hM y hy) (Ext.size (by exact fx)));clear oT;obtain ⟨q5,q6,etv⟩:=hT.form)|(refine zC (d:=some 13) rfl (xS (M:=b4::M) (N:=b4::N) _ (hx.step (show Ext w _ by exact fx) (by simp) (fun y hy=>by simp only [List.mem_cons] at hy;rcases hy with rfl|hy;exact .inr (by omega);exact .inl hy)) hs (fun y hy=>by simp only [List.mem_cons] at hy;rcases hy with rfl|hy;exact .inl (by simp);exact .inl (by simp [hMN y hy])) (fun y hy=>by simp only [List.mem_cons] at hy;rcases hy with rfl|hy;exact nLt l4 (Ext.size (by exact fx));exact nLt (hM y hy) (Ext.size (by exact fx))) hk0) ?_;rintro tv w7 ⟨oT,x7⟩;have hT:=oT.slB (fun y hy=>by simp only [List.mem_cons] at hy;rcases hy with rfl|hy;exact nLt l4 (Ext.size (by exact fx));exact nLt (hM y hy) (Ext.size (by exact fx)));clear oT;obtain ⟨q5,q6,etv⟩:=hT.form)|refine aT (d:=some 16) (cs:= [tv,.slice none 0 0,sv,mv,.map (some bm)]) (by rw [etv,esv,emv];rfl) ?_|refine go1 ?_|refine zg λ_ _=>?_|refine zi λ_ _=>?_)
  all_goals exact ⟨(tv,bm,b5),⟨rfl,rfl,rfl,rfl,rfl,trivial⟩,by exact fx,hT.step (show Ext w7 _ by exact fx) (by simp) (by
   intro y hy
   simp only [List.mem_cons] at hy
   rcases hy with rfl|rfl|rfl|hy
   ·first
     |exact .inl (List.Mem.head _)
     |exact .inl (List.Mem.tail _ (List.Mem.head _))
     |exact .inr (nTr (Ext.size (show Ext w7 _ by exact fx)) hb5)
   ·first
     |exact .inl (List.Mem.head _)
     |exact .inl (List.Mem.tail _ (List.Mem.head _))
     |exact .inr (nTr (Ext.size (show Ext w7 _ by exact fx)) hbm)
   ·first
     |exact .inl (List.Mem.head _)
     |exact .inl (List.Mem.tail _ (List.Mem.head _))
     |exact .inl (List.Mem.tail _ (List.Mem.tail _ (List.Mem.head _)))
   ·first
     |exact .inl hy
     |exact .inl (List.Mem.tail _ hy)
     |exact .inl (List.Mem.tail _ (List.Mem.tail _ hy))
     |exact .inl (List.Mem.tail _ (List.Mem.tail _ (List.Mem.tail _ hy)))),m6.ext (by exact fx),At.ext (by exact fx) a5,h16,h15⟩
 ·rintro ⟨tv,bm,b5⟩ ρ w3 ⟨x13,hT,m3,a5,hbm,hb5⟩
  simp only at hT m3 a5 hbm hb5
  dsimp only
  obtain ⟨q5,q6,etv⟩:=hT.form
  have o3:tv.oneCell'=true:=by rw [etv];rfl
  have lbm:=m3.lt
  have lb5:=a5.lt
  have hne:b5≠bm:=by
   obtain ⟨es,clock,h1,_⟩:=m3
   exact a5.ne h1 (by simp)
  have x01:Ext w w1:=x0.trans x1
  have s01:=x01.size
  have s00:=x0.size
  have x03:Ext w w3:=x01.trans x13
  have a4':=At.ext x13 a4
  have l4:=a4.lt
  have hx3:SlR txR (b5::bm::N) w3 v txs:=hx.step x03 (by simp) (fun y hy=>by
   simp only [List.mem_cons] at hy
   rcases hy with rfl|rfl|hy
   ·exact .inr (by omega)
   ·exact .inr (by omega)
   ·exact .inl hy)
  have hsv3:SlR enR (b5::bm::b4::M) w3 sv spent:=hsv.step x03 (by simp) (fun y hy=>by
   simp only [List.mem_cons] at hy
   rcases hy with rfl|rfl|rfl|hy
   ·exact .inr (by omega)
   ·exact .inr (by omega)
   ·exact .inr (by omega)
   ·exact .inl hy)
  have hmv3:SlR enR (b5::bm::b4::M) w3 mv made:=hmv.step x03 (by simp) (fun y hy=>by
   simp only [List.mem_cons] at hy
   rcases hy with rfl|rfl|rfl|hy
   ·exact .inr (by omega)
   ·exact .inr (by omega)
   ·exact .inr (by omega)
   ·exact .inl hy)
  refine bX (b:=b5) (vs:= [tv,.slice none 0 0,sv,mv,.map (some bm)]) rfl rfl rfl (by simp [o1,o2,o3];exact ⟨rfl,rfl⟩) a5 rfl (fun w4 c4 a54=>?_)
  have s34:=c4.size
  clear x0 x1 x2 x01 a3 r3 a4
  have hx4:SlR txR (b5::bm::N) w4 v txs:=hx3.step c4 (fun y hy=>.inl (by simp at hy;simp [hy])) (fun y hy=>.inl hy)
  have hT4:SlR txR (b5::bm::b4::M) w4 tv txs:=hT.step c4 (fun y hy=>.inl (by simp at hy;simp [hy])) (fun y hy=>.inl hy)
  have hsv4:SlR enR (b5::bm::b4::M) w4 sv spent:=hsv3.step c4 (fun y hy=>.inl (by simp at hy;simp [hy])) (fun y hy=>.inl hy)
  have hmv4:SlR enR (b5::bm::b4::M) w4 mv made:=hmv3.step c4 (fun y hy=>.inl (by simp at hy;simp [hy])) (fun y hy=>.inl hy)
  have m4:=m3.chg c4 (by simp;omega)
  have a44:=At.chg c4 a4' (by simp;omega)
  have x04:Ext w w4:=(Ext.chg x03 c4).mono (fun y hy=>.inr (by simp at hy;omega))
  have sub:∀y∈ [b5,bm],∀L:List Nat,y∈b5::bm::L:=by
   intro y hy L
   simp at hy ⊢
   rcases hy with rfl|rfl
   ·exact .inl rfl
   ·exact .inr (.inl rfl)
  clear c4 x03 m3 a4' hT hx3 hsv3 hmv3 a5 x13
  repeat (first|refine zG (d:=some 18) (E:=txR) (M:=b5::bm::N) (l:=txs) rfl hx4 ?_|(refine aI (fun (p:Nat × Value × List ByteArray × List (Pt × ByteArray)) w'=>Chg [b5,bm] w4 w'∧p.1≤txs.length∧At w' b5 (.cells [tv,p.2.1,sv,mv,.map (some bm)].toArray T.chain_link (0,0))∧Own bL T.string w4.heap.size w' p.2.1 p.2.2.1∧p.2.2.1.length≤p.1∧dI ptK Value.string w' bm p.2.2.2) (fun p=> [(4,.pointer (some ⟨b4,0,none⟩)),(5,.pointer (some ⟨b5,0,none⟩)),(17,v),(18,.int .i64 (txs.length:Nat)),(19,.int .i64 (p.1:Nat))]) (fun p=>txs.length - p.1) (0,.slice none 0 0, [], []) ⟨rfl,rfl,rfl,rfl,rfl,trivial⟩ ⟨Chg.refl _ _,by simp,a54,Own.nil _ _ _,by simp,m4⟩ ?_;rintro ⟨k,idv,ids,sm⟩ ρ w5 ⟨c5,hk,a55,oi,hil,m5⟩;simp only at hk a55 oi hil m5;dsimp only)|refine go1 ?_|refine zg λ_ _=>?_|refine zi λ_ _=>?_)
  refine zL (x:=.tmp 20) (p:=((k:Nat):Int)<((txs.length:Nat):Int)) rfl (fun h9=>?_) (fun h9=>?_)
  ·have hkl:k<txs.length:=by omega
   have hst:=hs _ (gMe hkl)
   have x05:Ext w w5:=(Ext.chg x04 c5).mono (fun y hy=>.inr (by simp at hy;omega))
   have oib:=oi.base
   have s04:=x04.size
   have hx5:SlR txR (aB idv++b5::bm::N) w5 v txs:=hx.step x05 (by simp) (fun y hy=>by
    simp only [List.mem_append,List.mem_cons] at hy
    rcases hy with hy|rfl|rfl|hy
    ·exact .inr (by have:=oib y hy;omega)
    ·exact .inr (by omega)
    ·exact .inr (by omega)
    ·exact .inl hy)
   obtain ⟨t,ht⟩:∃t,t=txs[k]:=⟨_,rfl⟩
   rw [←ht] at hst
   have hins:=hst.ins
   have s45:=c5.size
   have row5:=Row.of_at a55
   have oione:idv.oneCell'=true:=by obtain ⟨_,_,e⟩:=oi.sl.form;rw [e];rfl
   have c45':Unit→Chg [b5,bm] w4 w5:=fun _=>c5
   clear c5
   repeat (first|(refine aM (d:=some 21) (E:=txR) (M:=aB idv++b5::bm::N) rfl rfl (n:=k) (l:=txs) hx5 rfl hkl (fun ad cs r4 he=>?_);rw [←ht] at he;obtain ⟨iv,ov,rfl,p1,p2,p3⟩:=id he)|refine zE (d':=7) (fun _=>rfl) rfl rfl (txR.one he |> List.all_eq_true.2) (fun b7 w6 x6 a7 (r7:Row w6 ⟨b7,0,none⟩ (aJ t iv ov)) hb7=>?_)|(refine zC (d:=some 25) rfl (uD (M:=aB idv++b5::bm::N) (cs:=aJ t iv ov) (t:=t) _ (R.ext he (by exact fx)) hst) ?_;rintro _ w7 ⟨rfl,x7⟩;rw [aPo])|refine zI (d:=some 31) (cs:= [.string (idS t)]) rfl (fun b8 w8 x8 a8 hb8=>?_)|refine cA (d:=some 32) (E:=bL) (v:=idv) (l2:= [idS t]) rfl (oi.ext (by exact fx)) (nTr s45 (Ext.size (show Ext w5 _ by exact fx))) rfl rfl (dX a8 rfl) rfl rfl (by simp only [List.length_cons,List.length_nil];omega) (fun v9 w9 o9 c9=>?_)|refine go1 ?_|refine zg λ_ _=>?_|refine zi λ_ _=>?_)
   have x58:Ext w5 w8:=by exact fx
   have n5:b5∉aB idv:=fun h=>by have:=oib _ h;omega
   have n7:b7∉aB idv:=fun h=>by have:=Own.blk_lt oi _ h;have:=a7.lt;omega
   have nm:bm∉aB idv:=fun h=>by have:=oib _ h;omega
   have a59:=At.chg c9 (At.ext x58 a55) n5
   have r79:Row w9 ⟨b7,0,none⟩ (aJ t iv ov):=Row.chg c9 (Row.ext (x7.trans x8) r7) n7
   have m9:=(m5.ext x58).chg c9 nm
   have p19:SlR inR (b5::bm::N) w9 iv t.ins:=p1.step (Chg.trans x58 c9) (fun y hy=>.inl (by simp only [List.nil_append] at hy;exact List.mem_append_left _ hy)) (fun y hy=>.inl (List.mem_append_right _ hy))
   have c49:Chg [b5,bm] w4 w9:=((c45' ()).trans (Chg.trans x58 c9)).mono (fun y hy=>by
    simp only [List.nil_append] at hy
    exact (List.mem_append.1 hy).elim .inl (fun h=>.inr (oib y h)))
   have o9one:v9.oneCell'=true:=by obtain ⟨_,_,e⟩:=o9.sl.form;rw [e];rfl
   have o9b:=o9.base
   have s89:=c9.size
   have l7:=a7.lt
   have row9:=Row.of_at a59
   clear x6 x7 x8 x58 a8 r7 a7 c9
   repeat (first|refine go1 ?_|refine zg λ_ _=>?_|refine zi λ_ _=>?_)
   refine bO (b:=b5) (o:=1) (cur:= [tv,idv,sv,mv,.map (some bm)]) rfl rfl o9one a59 (Nat.le_of_ble_eq_true rfl) (fun w10 c10 a10=>?_)
   have m10:=m9.chg c10 (by simp;omega)
   have r710:=Row.chg c10 r79 (by simp;omega)
   have p110:SlR inR (b5::bm::N) w10 iv t.ins:=p19.step c10 (fun y hy=>.inl (by simp at hy;simp [hy])) (fun y hy=>.inl hy)
   have o910:=o9.chg c10 (fun y hy=>by have:=o9b y hy;simp;omega)
   have c410:Chg [b5,bm] w4 w10:=(c49.trans c10).mono (by simp)
   have s910:=c10.size
   clear c49 c10 m9 r79 p19 o9 a59 row9 m5 oi a55 row5
   repeat (first|refine zG (d:=some 36) (E:=inR) (M:=b5::bm::N) (l:=t.ins) rfl p110 ?_|(refine aI (fun (p:Nat × List (Pt × ByteArray)) w'=>Chg [bm] w10 w'∧p.1≤t.ins.length∧dI ptK Value.string w' bm p.2) (fun p=> [(4,.pointer (some ⟨b4,0,none⟩)),(5,.pointer (some ⟨b5,0,none⟩)),(8,.string (idS t)),(17,v),(18,.int .i64 (txs.length:Nat)),(19,.int .i64 (k:Nat)),(35,iv),(36,.int .i64 (t.ins.length:Nat)),(37,.int .i64 (p.1:Nat))]) (fun p=>t.ins.length - p.1) (0,sm) ⟨rfl,rfl,rfl,rfl,rfl,rfl,rfl,rfl,rfl,trivial⟩ ⟨Chg.refl _ _,by simp,m10⟩ ?_;rintro ⟨j,sm2⟩ ρ w11 ⟨c11,hj,m11⟩;simp only at hj m11;dsimp only)|refine go1 ?_|refine zg λ_ _=>?_|refine zi λ_ _=>?_)
   have a11:=At.chg c11 a10 (by simp;omega)
   have row11:=Row.of_at a11
   refine zL (x:=.tmp 38) (p:=((j:Nat):Int)<((t.ins.length:Nat):Int)) rfl (fun h7=>?_) (fun h7=>?_)
   ·have hjl:j<t.ins.length:=by omega
    have p111:SlR inR (b5::bm::N) w11 iv t.ins:=p110.step c11 (fun y hy=>.inl (by simp at hy;simp [hy])) (fun y hy=>.inl hy)
    have lbm11:=m11.lt
    repeat (first|(refine aM (d:=some 39) (E:=inR) (M:=b5::bm::N) rfl rfl (n:=j) (l:=t.ins) p111 rfl hjl (fun ad cs r4 he=>?_);obtain ⟨wv,rfl,hwv,hp5,hp6⟩:=he)|refine zE (d':=11) (fun _=>rfl) rfl rfl (by have:=hwv.one;simp [eJ,this];exact ⟨rfl,rfl,rfl⟩) (fun b12 w12 x12 a12 (r12:Row w12 ⟨b12,0,none⟩ (eJ t.ins[j] wv)) hb12=>?_)|refine eQ (E:=ptK) (fv:=Value.string) (k:=t.ins[j].p) (v:=idS t) rfl rfl rfl (dI.ext (w:=w11) (by exact fx) m11) rfl rfl (fun w13 c13 m13=>?_)|refine go1 ?_|refine zg λ_ _=>?_|refine zi λ_ _=>?_)
    exact ⟨(j+1,fQ sm2 t.ins[j].p (idS t)),⟨rfl,rfl,rfl,rfl,rfl,rfl,rfl,rfl,rfl,trivial⟩,⟨(c11.trans (Chg.trans x12 c13)).mono (by simp),by simp only;omega,m13⟩,by simp only;omega⟩
   ·repeat (first|refine go1 ?_|refine zg λ_ _=>?_|refine zi λ_ _=>?_)
    exact ⟨(k+1,v9,ids++ [idS t],sm2),⟨rfl,rfl,rfl,rfl,rfl,trivial⟩,⟨(c410.trans c11).mono (by simp),by simp only;omega,a11,o910.chg c11 (fun y hy=>by have:=o9b y hy;simp;omega),by simp only [List.length_append,List.length_singleton];omega,m11⟩,by simp only;omega⟩
  ·have hkk:k=txs.length:=by omega
   have oione:idv.oneCell'=true:=by obtain ⟨_,_,e⟩:=oi.sl.form;rw [e];rfl
   have a45:=At.chg c5 a44 (by simp;omega)
   have row5:=Row.of_at a55
   repeat (first|refine go1 ?_|refine zg λ_ _=>?_|refine zi λ_ _=>?_)
   refine bX (b:=b4) (vs:= [tv,idv,sv,mv,.map (some bm)]) rfl rfl rfl (by simp [o1,o2,o3,oione];rfl) a45 rfl (fun w6 c6 a6=>?_)
   repeat (first|refine go1 ?_|refine zg λ_ _=>?_|refine zi λ_ _=>?_)
   have c46:Chg [b5,bm,b4] w4 w6:=(c5.trans c6).mono (fun y hy=>.inl (by simp at hy ⊢;omega))
   have sub3:∀y∈ [b5,bm,b4],y∈b5::bm::b4::M:=by intro y hy;simp at hy ⊢;omega
   have sup:∀y∈M,y∈b5::bm::b4::M:=fun y hy=>by simp [hy]
   exact aA (aOp (bD (Row.of_at a6) rfl rfl)) ⟨_,rfl,⟨tv,idv,sv,mv,.map (some bm),rfl,hT4.step c46 (fun y hy=>.inl (sub3 y hy)) (fun y hy=>.inl (sup y hy)),oione,hsv4.step c46 (fun y hy=>.inl (sub3 y hy)) (fun y hy=>.inl (sup y hy)),hmv4.step c46 (fun y hy=>.inl (sub3 y hy)) (fun y hy=>.inl (sup y hy)),rfl⟩,(Ext.chg x04 c46).mono (fun y hy=>.inr (by simp at hy;omega))⟩
end
section
open Go Go.K
attribute [local irreducible] aF aP bG KOp.wp K.Spec u32 leS vnS str aR aE aQ bS idT aO inE dZ nP jJ fB eF eV cP dD aX cW fF nC aAm
set_option maxHeartbeats 2000000 in
theorem bHa {b mb:Nat} {M:List Nat} {cs:List Value} {t:Tx} {l:List En} (i:Nat) (h:Int) (w:World) (hS:iC T.coins_Set w b mb l) (hg:CG l) (hsc:SC l) (hb:b∈M) (hmb:mb∈M) (ht:txR.rel M w cs t) (hs:t.Sm):
  K.Spec Tryz.prog F.block_apply [.pointer (some ⟨b,0,none⟩),.agg cs.toArray,.int .i64 (i:Nat),.int .i64 h] w fun r w'=>dL w' 1 r (fB l t i h).2.1 (fB l t i h).2.2∧(∃l',iC T.coins_Set w' b mb l'∧((fB l t i h).2.1=0→l'=(fB l t i h).1))∧Chg [b,mb] w w':=by
 have ht0:=ht
 have hlt:=hS.lt
 have hin:=hs.ins
 obtain ⟨iv,ov,rfl,h1,h2,h3,h4⟩:=ht
 have sub:∀y∈ [b,mb],y∈M:=by intro y hy;simp at hy;rcases hy with rfl|rfl<;>assumption
 refine aS0 rfl ?_
 unfold aGe
 refine oy ?_
 repeat (first|refine zD (d:=some 5) rfl rfl (fun bp wp xp ap (rp:Row wp ⟨bp,0,none⟩ (aJ t iv ov)) hp0=>?_)|refine go1 ?_|refine zg λ_ _=>?_|refine zi λ_ _=>?_)
 refine zC (d:=some 16) rfl (bIp (M:=M) (t:=t) (cs:=aJ t iv ov) (l:=l) i h _ (hS.ext xp) hsc (R.ext ht0 xp) hs) ?_
 rintro e w1 ⟨he,x1⟩
 have x01:=xp.trans x1
 have lp:=ap.lt
 have rp1:Row w1 ⟨bp,0,none⟩ (aJ t iv ov):=Row.ext x1 rp
 by_cases hm:(nP l t i h).1=0
 ·obtain ⟨rfl, -⟩:=he.nil_iff.1 hm
  have hc:=aFe hm
  have S1:=hS.ext x01
  have ht1:=R.ext ht0 x01
  have s01:=x01.size
  have lbp:bp<w1.heap.size:=nLt lp x1.size
  have hbn:bp∉ [b,mb]:=by simp;omega
  clear xp x1 ap rp he
  cases hgr:aQ t with
  |true=>
   have hmid:mT l t=l:=by unfold mT;rw [if_pos hgr]
   repeat (first|(refine zC (d:=some 21) rfl (lI (M:=M) (t:=t) (cs:=aJ t iv ov) _ (R.ext ht1 (by exact fx)) hs) ?_;rintro _ w2 ⟨rfl,x2⟩;rw [hgr])|refine go1 ?_|refine zg λ_ _=>?_|refine zi λ_ _=>?_)
   refine zC (d:=some 38) rfl (aT7 (M:=M) (t:=t) (cs:=aJ t iv ov) (m:=l) h _ (S1.ext x2) hb hmb (R.ext ht1 x2) hs hc) ?_
   rintro _ w3 ⟨rfl,S3,c3⟩
   rw [←hmid] at S3
   have c03:Chg [b,mb] w w3:=(Chg.trans x01 (Chg.trans x2 c3)).mono (by simp)
   by_cases hp:(jJ (idT t) h 0 t.outs (mT l t)).2=0
   ·rw [hmid] at hp
    rw [if_pos hp]
    rw [←hmid] at hp
    have e:=bEd hm hp
    repeat (first|refine go1 ?_|refine zg λ_ _=>?_|refine zi λ_ _=>?_)
    exact aA rfl ⟨by rw [e];exact dL.none_ _ 1,⟨_,S3,fun _=>by rw [e]⟩,c03⟩
   ·rw [hmid] at hp
    rw [if_neg hp]
    rw [←hmid] at hp
    have e:=aXc hm hp
    repeat (first|refine go1 ?_|refine zg λ_ _=>?_|refine zi λ_ _=>?_)
    exact aA rfl ⟨by rw [e,hmid];rw [hmid] at hp;exact dL.num _ 1 hp,⟨_,S3,fun q=>absurd (by rw [e] at q;exact q) hp⟩,c03⟩
  |false=>
   have hmid:mT l t=eF l t.ins:=by unfold mT;rw [if_neg (by rw [hgr];decide)]
   have h11:SlR inR M w1 iv t.ins:=h1.ext x01
   repeat' (first|(refine zC (d:=some 21) rfl (lI (M:=M) (t:=t) (cs:=aJ t iv ov) _ (R.ext ht1 (by exact fx)) hs) ?_;rintro _ w2 ⟨rfl,x2⟩;rw [hgr])|refine zG (d:=some 25) (E:=inR) (M:=M) (l:=t.ins) rfl (SlR.ext h11 (by exact fx)) ?_|(refine aI (fun (p:Nat) w'=>Chg [b,mb] w1 w'∧p≤t.ins.length∧iC T.coins_Set w' b mb (eF l (t.ins.take p))) (fun p=> [(0,.pointer (some ⟨b,0,none⟩)),(3,.int .i64 h),(5,.pointer (some ⟨bp,0,none⟩)),(24,iv),(25,.int .i64 (t.ins.length:Nat)),(26,.int .i64 (p:Nat))]) (fun p=>t.ins.length - p) 0 ⟨rfl,rfl,rfl,rfl,rfl,rfl,trivial⟩ ⟨Chg.mono x2 (by simp),by simp,by unfold eF;exact S1.ext (by exact fx)⟩ ?_;rintro k ρ w4 ⟨c4,hk,S4⟩)|refine zL (x:=.tmp 27) (p:=((k:Nat):Int)<((t.ins.length:Nat):Int)) rfl (fun h9=>?_) (fun h9=>?_)|refine go1 ?_|refine zg λ_ _=>?_|refine zi λ_ _=>?_)
   ·have hkl:k<t.ins.length:=by omega
    have h14:SlR inR M w4 iv t.ins:=h11.step c4 (fun y hy=>.inl (sub y hy)) (fun y hy=>.inl hy)
    have s4:=c4.size
    repeat (first|(refine aM (d:=some 28) (E:=inR) (M:=M) rfl rfl (n:=k) (l:=t.ins) h14 rfl hkl (fun ad cs r4 he=>?_);obtain ⟨wv,rfl,hwv,hp5,hp6⟩:=he)|refine zE (d':=11) (fun _=>rfl) rfl rfl (by have:=hwv.one;simp [eJ,this];exact ⟨rfl,rfl,rfl⟩) (fun b7 w7 x7 a7 (r7:Row w7 ⟨b7,0,none⟩ (eJ t.ins[k] wv)) hb7=>?_)|refine go1 ?_|refine zg λ_ _=>?_|refine zi λ_ _=>?_)
    refine zC (d:=some 33) rfl (aP8 t.ins[k].p _ (S4.ext x7)) ?_
    rintro _ w8 ⟨rfl,S8,c8⟩
    repeat (first|refine go1 ?_|refine zg λ_ _=>?_|refine zi λ_ _=>?_)
    exact ⟨k+1,⟨rfl,rfl,rfl,rfl,rfl,rfl,trivial⟩,⟨(c4.trans (Chg.trans x7 c8)).mono (by simp),by omega,by rw [aBl hkl];exact S8⟩,by omega⟩
   ·have e:t.ins.take k=t.ins:=tLe (by omega)
    rw [e] at S4
    have ht4:txR.rel M w4 (aJ t iv ov) t:=R.step txR ht1 c4 (fun y hy=>.inl (sub y hy)) (fun y hy=>.inl hy)
    have rp4:Row w4 ⟨bp,0,none⟩ (aJ t iv ov):=Row.chg c4 rp1 hbn
    rw [←hmid] at S4
    repeat (first|refine go1 ?_|refine zg λ_ _=>?_|refine zi λ_ _=>?_)
    refine zC (d:=some 38) rfl (aT7 (M:=M) (t:=t) (cs:=aJ t iv ov) (m:=mT l t) h _ S4 hb hmb ht4 hs hc) ?_
    rintro _ w5 ⟨rfl,S5,c5⟩
    have c05:Chg [b,mb] w w5:=(Chg.trans x01 (c4.trans c5)).mono (by simp)
    by_cases hp:(jJ (idT t) h 0 t.outs (mT l t)).2=0
    ·rw [if_pos hp]
     have e:=bEd hm hp
     repeat (first|refine go1 ?_|refine zg λ_ _=>?_|refine zi λ_ _=>?_)
     exact aA rfl ⟨by rw [e];exact dL.none_ _ 1,⟨_,S5,fun _=>by rw [e]⟩,c05⟩
    ·rw [if_neg hp]
     have e:=aXc hm hp
     repeat (first|refine go1 ?_|refine zg λ_ _=>?_|refine zi λ_ _=>?_)
     exact aA rfl ⟨by rw [e];exact dL.num _ 1 hp,⟨_,S5,fun q=>absurd (by rw [e] at q;exact q) hp⟩,c05⟩
 ·obtain ⟨et,eu,rfl⟩:=he.nil_iff.2 hm
  have e:=aJ7 hm
  repeat (first|refine go1 ?_|refine zg λ_ _=>?_|refine zi λ_ _=>?_)
  exact aA rfl ⟨by rw [e];exact he,⟨l,hS.ext x01,fun q=>absurd (by rw [e] at q;exact q) hm⟩,Chg.mono x01 (by simp)⟩
end
section
open Go Go.K
attribute [local irreducible] aF aP bG KOp.wp K.Spec u32 leS vnS str aR aE aQ bS idT aO inE dZ nP jJ fB eF eV cP dD aX cW fF nC aAm
def aRe (w:World) (v:Value) (c a i:Int):Prop:=c=0∧v=.nilIface∨c≠0∧(v=wR c∧a= -1∧i= -1∨0≤a∧∃b u,v=.iface T.P_api_Fault (.pointer (some ⟨b,0,none⟩))∧At w b (.cells [.int .i64 a,u].toArray T.api_Fault (0,0))∧dL w 1 u c i)
theorem dL.off {w w':World} {b6:Nat} {z:Array Value} {t:TypeId} (ha:At w b6 (.cells z t (0,0))) (ht:t≠T.api_Fault) (cc:Chg [b6] w w'):∀{d:Nat} {v:Value} {c a:Int},dL w d v c a→dL w' d v c a
 |0,_,_,_,h=>h
 |_+1,_,_,_,.inl h=>.inl (dL.off ha ht cc h)
 |_+1,_,_,_,.inr ⟨h1,h2,b,u,a',h3,h4,h5⟩=>.inr ⟨h1,h2,b,u,a',h3,h4.chg cc (by
   simp only [List.mem_singleton]
   intro e
   subst e
   have:=h4.inj ha
   simp only [Obj.cells.injEq] at this
   exact ht this.2.1.symm),dL.off ha ht cc h5⟩
theorem bCr (txs:List Tx) (k:Nat):fE (txs.take k)≤fE txs:=by
 unfold fE
 rw [List.map_take]
 have:=List.sum_append_nat (l₁:=(txs.map fun t=>t.outs.length).take k) (l₂:=(txs.map fun t=>t.outs.length).drop k)
 rw [List.take_append_drop] at this
 omega
theorem bCq {txs:List Tx} {k:Nat} (h:k<txs.length):fE (txs.take (k+1))=fE (txs.take k)+txs[k].outs.length:=by
 unfold fE
 rw [List.take_succ_eq_append_getElem h,List.map_append,List.sum_append_nat];simp
set_option maxHeartbeats 4000000 in
theorem aNl {b mb:Nat} {M:List Nat} {v:Value} {txs:List Tx} {l:List En} (h:Int) (w:World) (hS:iC T.coins_Set w b mb l) (hg:CG l) (hsc:SC l) (hb:b∈M) (hmb:mb∈M) (hM:∀y∈M,y<w.heap.size) (hx:SlR txR M w v txs) (hs:∀t∈txs,t.Sm) (hn:l.length+fE txs≤80000) (hk0:txs.length≤1000):
  K.Spec Tryz.prog F.block_Apply [.pointer (some ⟨b,0,none⟩),v,.int .i64 h] w fun r w'=>∃sv mv e,r=.tuple #[.agg #[sv,mv],e]∧aRe w' e (bI l txs h).2.1 (bI l txs h).2.2.1 (bI l txs h).2.2.2∧iC T.coins_Set w' b mb (bI l txs h).1∧
   ((bI l txs h).2.1=0→SlE bM w' sv (fF l (bI l txs h).1)∧SlE bM w' mv (fF (bI l txs h).1 l)∧∀y,y∈aB sv∨y∈aB mv→w.heap.size≤y)∧((bI l txs h).2.1≠0→sv=.slice none 0 0∧mv=.slice none 0 0)∧Chg [b,mb] w w':=by
 have hlt:=hS.lt
 have hbmb:=hS.ne
 refine aS6 rfl ?_
 unfold aGd
 refine oy ?_
 by_cases hr:0≤h∧h≤1000000
 ·have eA:bI l txs h=nR l h 0 txs l:=by unfold bI;rw [if_neg (by omega)]
  rw [eA]
  repeat' (first|refine zH (d:=some 6) (fun b6 w1 x1 a1 hb6=>?_)|refine aD (d:=some 20) (.bool false) rfl (congrArg (fun b=>some (Value.bool b)) (dFa (by omega))) ?_|refine aD (d:=some 23) (.bool false) rfl (congrArg (fun b=>some (Value.bool b)) (dFa (by omega))) ?_|(refine zC (d:=some 28) rfl (aSo _ (hS.ext (by exact fx))) ?_;rintro _ w2 ⟨nb,nmb,rfl,N2,hnb,hnmb,x2⟩)|refine zG (d:=some 30) (E:=txR) (M:=M) (l:=txs) rfl (SlR.ext hx (by exact fx)) ?_|refine go1 ?_|refine zg λ_ _=>?_|refine zi λ_ _=>?_)
  have s1:=x1.size
  have s2:=x2.size
  have l6:=a1.lt
  have x02:Ext w w2:=x1.trans x2
  have a62:=At.ext x2 a1
  have nin:∀y∈ [nb,nmb],w1.heap.size≤y:=by intro y hy;simp at hy;rcases hy with rfl|rfl<;>assumption
  have x02':Unit→Ext w w2:=fun _=>x02
  have nlt:=N2.lt
  refine aI (fun (p:Nat × List En) w'=>Ext w w'∧Ext w1 w'∧p.1≤txs.length∧iC T.coins_Set w' nb nmb p.2∧CG p.2∧SC p.2∧aGn l h txs p.1 p.2) (fun p=> [(0,.pointer (some ⟨b,0,none⟩)),(2,.int .i64 h),(6,.pointer (some ⟨b6,0,none⟩)),(8,.pointer (some ⟨nb,0,none⟩)),(29,v),(30,.int .i64 (txs.length:Nat)),(31,.int .i64 (p.1:Nat))]) (fun p=>txs.length - p.1) (0,l) ⟨rfl,rfl,rfl,rfl,rfl,rfl,rfl,trivial⟩ ⟨x02,x2,by simp,N2,hg,hsc,aPe⟩ ?_
  rintro ⟨k,m⟩ ρ w3 ⟨x3,x13,hk,N3,g3,sc3,hok⟩
  simp only at hk N3 g3 sc3 hok
  dsimp only
  have a63:=At.ext x13 a1
  have s13:=x13.size
  repeat (first|refine go1 ?_|refine zg λ_ _=>?_|refine zi λ_ _=>?_)
  refine zL (x:=.tmp 32) (p:=((k:Nat):Int)<((txs.length:Nat):Int)) rfl (fun h6=>?_) (fun h6=>?_)
  ·have hkl:k<txs.length:=by omega
   have hst:=hs _ (gMe hkl)
   have hx3:SlR txR (nb::nmb::M) w3 v txs:=hx.step x3 (by simp) (fun y hy=>by
    simp only [List.mem_cons] at hy
    rcases hy with rfl|rfl|hy
    ·exact .inr (by omega)
    ·exact .inr (by omega)
    ·exact .inl hy)
   have x03':Unit→Ext w w3:=fun _=>x3
   have x13':Unit→Ext w1 w3:=fun _=>x13
   clear x3 x13 x02 x1 x2
   repeat (first|(refine aM (d:=some 34) (E:=txR) (M:=nb::nmb::M) rfl rfl (n:=k) (l:=txs) hx3 rfl hkl (fun ad cs r4 he=>?_);obtain ⟨iv,ov,rfl,p1,p2,p3⟩:=id he)|refine zH (d:=some 10) (fun b10 w4 x4 a4 hb10=>?_)|refine go1 ?_|refine zg λ_ _=>?_|refine zi λ_ _=>?_)
   have o1:=p1.one
   have o2:=p2.one
   refine aU (w0:=w3) (n:=4) (vs:=aJ txs[k] iv ov) x4 hb10 a4 rfl rfl rfl rfl (by simp [aJ,o1,o2];exact ⟨rfl,rfl⟩) (fun w5 x5 c5 a5 r5=>?_)
   repeat (first|refine go1 ?_|refine zg λ_ _=>?_|refine zi λ_ _=>?_)
   refine zC (d:=some 40) rfl (bHa (M:=nb::nmb::M) (cs:=aJ txs[k] iv ov) (t:=txs[k]) (l:=m) k h _ (N3.ext x5) g3 sc3 (by simp) (by simp) (R.ext he x5) hst) ?_
   rintro e w6 ⟨he6,⟨m',N6,hm'⟩,c6⟩
   have x06:Ext w w6:=(Ext.chg ((x03' ()).trans x5) c6).mono (fun y hy=>.inr (by have:=nin y hy;omega))
   have x16:Ext w1 w6:=(Ext.chg ((x13' ()).trans x5) c6).mono (fun y hy=>.inr (nin y hy))
   clear x4 x5 a4 c5 a5 r5 c6 p1 p2 r4
   by_cases h0:(fB m txs[k] k h).2.1=0
   ·obtain ⟨rfl, -⟩:=he6.nil_iff.1 h0
    repeat (first|refine go1 ?_|refine zg λ_ _=>?_|refine zi λ_ _=>?_)
    exact ⟨(k+1,m'),⟨rfl,rfl,rfl,rfl,rfl,rfl,rfl,trivial⟩,⟨x06,x16,by simp only;omega,N6,by rw [hm' h0];exact sC g3 _ _ _,by rw [hm' h0];exact aIs g3 sc3 _ _ _,by rw [hm' h0];exact aPu hkl hok h0⟩,by simp only;omega⟩
   ·obtain ⟨et,eu,rfl⟩:=he6.nil_iff.2 h0
    have eR:=aTy hkl hok h0
    rw [eR]
    have a66:=At.ext x16 a1
    repeat (first|refine aT (d:=some 46) (cs:= [.int .i64 (k:Nat),.iface et eu]) rfl ?_|refine zD (d:=some 47) (cs:= [.int .i64 (k:Nat),.iface et eu]) rfl rfl (fun b8 w8 x8 a8 r8 hb8=>?_)|refine go1 ?_|refine zg λ_ _=>?_|refine zi λ_ _=>?_)
    refine aU (w0:=w) (n:=2) (vs:= [.slice none 0 0,.slice none 0 0]) (x06.trans x8) (by omega) (At.ext x8 a66) rfl rfl rfl rfl rfl (fun w9 x9 c9 a9 r9=>?_)
    repeat (first|refine go1 ?_|refine zg λ_ _=>?_|refine zi λ_ _=>?_)
    have l8:=a8.lt
    have h68:w1.heap.size≤b8:=nTr x16.size hb8
    exact aA (iR (bD r9 rfl rfl) bJ) ⟨.slice none 0 0,.slice none 0 0,_,rfl,.inr ⟨h0,.inr ⟨(show (0:Int)≤((k:Nat):Int) by omega),b8,_,rfl,At.chg c9 a8 (by simp;omega),dL.off (At.ext x8 a66) (by decide) c9 (he6.ext x8)⟩⟩,hS.ext x9,fun q=>absurd q h0,fun _=>⟨rfl,rfl⟩,Chg.mono x9 (by simp)⟩
  ·have ek:txs.length≤k:=by omega
   have eR:=aVf ek hok
   rw [eR]
   have S3:=hS.ext x3
   have hlm:m.length≤80000:=by
    have:=aPc hg txs h
    rw [eA,eR] at this
    simp only at this;omega
   have x03':Unit→Ext w w3:=fun _=>x3
   have s03:=x3.size
   clear x3 x02 x1 x2
   repeat (first|refine go1 ?_|refine zg λ_ _=>?_|refine zi λ_ _=>?_)
   refine zC (d:=some 52) rfl (aSs _ S3 N3 (by omega)) ?_
   rintro sv w4 ⟨osv,x4⟩
   repeat (first|refine go1 ?_|refine zg λ_ _=>?_|refine zi λ_ _=>?_)
   refine zC (d:=some 55) rfl (aSs _ (N3.ext x4) (S3.ext x4) (by omega)) ?_
   rintro mv w5 ⟨omv,x5⟩
   have osv5:=osv.ext x5
   obtain ⟨q1,q2,hsv⟩:=osv5.sl.form
   obtain ⟨q3,q4,hmv⟩:=omv.sl.form
   have one1:sv.oneCell'=true:=by obtain ⟨_,_,e⟩:=osv5.sl.form;rw [e];rfl
   have one2:mv.oneCell'=true:=by obtain ⟨_,_,e⟩:=omv.sl.form;rw [e];rfl
   have hl1:=aA5 l m
   have hl2:=aA5 m l
   have bs1:=osv5.base
   have bs2:=omv.base
   have s34:=x4.size
   have s45:=x5.size
   repeat (first|refine aT (d:=some 56) (cs:= [sv,mv]) (by rw [hsv,hmv];rfl) ?_|refine zE (d':=12) (fun _=>rfl) rfl rfl (by show List.all [sv,mv] _=true;simp only [List.all_cons,List.all_nil,one1,one2];rfl) (fun b12 w6 x6 a12 (r12:Row w6 ⟨b12,0,none⟩ [sv,mv]) hb12=>?_)|refine go1 ?_|refine zg λ_ _=>?_|refine zi λ_ _=>?_)
   have x36:Ext w3 w6:=x4.trans (x5.trans x6)
   have osv6:=osv5.ext x6
   have omv6:=omv.ext x6
   have off1:SlR enR [b,mb,b6] w6 sv (fF l m):=osv6.sl.en fun y hy hm=>by
    have:=bs1 y hy
    simp at hm
    omega
   have off2:SlR enR [b,mb,b6] w6 mv (fF m l):=omv6.sl.en fun y hy hm=>by
    have:=bs2 y hy
    simp at hm
    omega
   refine zC (d:=some 62) rfl (aHl (l:=l) (out:=fF l m) (inn:=fF m l) _ (S3.ext x36) (off1.sub (fun y hy=>.inl (by simp at hy ⊢;omega))) (off2.sub (fun y hy=>.inl (by simp at hy ⊢;omega))) (by omega) (by omega)) ?_
   rintro _ w7 ⟨rfl,S7,c7⟩
   rw [aU3 hg g3] at S7
   have r127:Row w7 ⟨b12,0,none⟩ [sv,mv]:=Row.chg c7 r12 (by simp;omega)
   have a67:=At.chg c7 (At.ext x36 a63) (by simp;omega)
   have off17:=off1.step c7 (M':= [b6]) (fun y hy=>.inl (by simp at hy ⊢;omega)) (fun y hy=>.inl (by simp at hy ⊢;omega))
   have off27:=off2.step c7 (M':= [b6]) (fun y hy=>.inl (by simp at hy ⊢;omega)) (fun y hy=>.inl (by simp at hy ⊢;omega))
   have c07:Chg [b,mb] w w7:=(Chg.trans ((x03' ()).trans x36) c7).mono (by simp)
   clear x4 x5 x6 x36 c7 a12 r12 off1 off2 osv6 omv6 osv5 osv omv
   repeat (first|refine go1 ?_|refine zg λ_ _=>?_|refine zi λ_ _=>?_)
   refine bX (b:=b6) (vs:= [sv,mv]) rfl rfl rfl (by simp [one1,one2]) a67 rfl (fun w8 c8 a8=>?_)
   repeat (first|refine go1 ?_|refine zg λ_ _=>?_|refine zi λ_ _=>?_)
   have S8:iC T.coins_Set w8 b mb m:=S7.chg c8 (by simp;omega) (by simp;omega)
   have fin1:=off17.step c8 (M':= []) (fun y hy=>.inl hy) (by simp)
   have fin2:=off27.step c8 (M':= []) (fun y hy=>.inl hy) (by simp)
   refine aA (iR (bD (Row.of_at a8) rfl rfl) bJ) ⟨sv,mv,_,rfl,.inl ⟨rfl,rfl⟩,S8,fun _=>⟨fin1.en,fin2.en,fun y hy=>?_⟩,fun q=>absurd rfl q,?_⟩
   ·rcases hy with hy|hy
    ·have:=bs1 y hy;omega
    ·have:=bs2 y hy;omega
   ·refine (c07.trans c8).mono ?_
    intro y hy
    simp at hy ⊢
    omega
 ·have eA:bI l txs h=(l,3, -1, -1):=by unfold bI;rw [if_pos (by omega)]
  rw [eA]
  repeat' (first|refine zH (d:=some 6) (fun b6 w1 x1 a1 hb6=>?_)|refine zJ (t:=21) (p:=h<0) rfl (fun hh=>?_) (fun hh=>?_)|refine zL (x:=.tmp 18) rfl (fun _=>?_) (fun h=>absurd (by omega) h)|refine go1 ?_|refine zg λ_ _=>?_|refine zi λ_ _=>?_)
  all_goals
   refine aU (w0:=w) (n:=2) (vs:= [.slice none 0 0,.slice none 0 0]) x1 hb6 a1 rfl rfl rfl rfl rfl (fun w9 x9 c9 a9 r9=>?_)
   repeat (first|refine go1 ?_|refine zg λ_ _=>?_|refine zi λ_ _=>?_)
   exact aA (iR (bD r9 rfl rfl) bJ) ⟨.slice none 0 0,.slice none 0 0,_,rfl,.inr ⟨(show (3:Int)≠0 by decide),.inl ⟨rfl,rfl,rfl⟩⟩,hS.ext x9,fun q=>absurd q (show ¬(3:Int)=0 by decide),fun _=>⟨rfl,rfl⟩,Chg.mono x9 (by simp)⟩
end
section
open Go Go.K
attribute [local irreducible] aF aP bG KOp.wp K.Spec u32 leS vnS str aR
theorem aCd {U:List Nat} (w:World) (hU:∀y∈U,y<w.heap.size):K.Spec Tryz.prog F.chain_New [] w fun r w'=>∃c M,r=.pointer (some ⟨c,0,none⟩)∧ChR U w' w.heap.size c M ⟨[],0⟩∧(∀y∈M,w.heap.size≤y)∧Ext w w':=by
 refine bBo rfl ?_
 unfold aNn
 refine oy ?_
 repeat (first|(refine zC (d:=some 1) rfl (bHb _) ?_;rintro _ w2 ⟨b,mb,rfl,hS,h1,h2,x2⟩)|refine zD (d:=some 3) (cs:=aTo b (.slice none 0 0) 0) rfl rfl (fun b3 w3 x3 a3 (r3:Row w3 ⟨b3,0,none⟩ (aTo b (.slice none 0 0) 0)) hb3=>?_)|refine go1 ?_|refine zg λ_ _=>?_|refine zi λ_ _=>?_)
 have hlt:=hS.lt
 have s2:=x2.size
 have hm:∀y∈ [b3,b,mb]++aB (.slice none 0 0),w.heap.size≤y:=fun y hy=>by
  simp [aB] at hy;omega
 exact aA rfl ⟨b3,_,rfl,⟨b,mb,.slice none 0 0,a3,hS.ext x3,bR.nil _ _ _ _,rfl,by omega,by omega,by omega,by omega,by omega,by simp [aB],fun y hy hu=>by have:=hm y hy;have:=hU y hu;omega⟩,hm,x2.trans x3⟩
theorem iN {U:List Nat} {B c:Nat} {M:List Nat} {ch:Ch} (w:World) (h:ChR U w B c M ch):K.Spec Tryz.prog F.chain_Chain_Height [.pointer (some ⟨c,0,none⟩)] w fun r w'=>r=.int .i64 (ch.bs.length:Nat)∧Ext w w':=by
 obtain ⟨b,mb,lv,h1,h2,h3,rfl,g1,g2,g3,g4,g5,g6,g8⟩:=h
 have r1:=Row.of_at h1
 have sl:=h3.sl (fun y hy hv=>by
  rcases List.mem_append.1 hy with hy|hy
  ·have:=g6 y hv;simp at hy;omega
  ·exact g8 y (List.mem_append_right _ hv) hy)
 rw [←aCe]
 refine tD rfl ?_
 unfold lL
 refine oy ?_
 repeat (first|refine zG (d:=some 9) (E:=lkR) (l:=cU ch.bs) rfl sl ?_|refine go1 ?_|refine zg λ_ _=>?_|refine zi λ_ _=>?_)
 exact aA rfl ⟨rfl,Ext.refl _⟩
theorem mL {U:List Nat} {B c:Nat} {M:List Nat} {ch:Ch} (w:World) (h:ChR U w B c M ch) (hn:(aZ ch.bs).length≤100000):K.Spec Tryz.prog F.chain_Chain_Coins [.pointer (some ⟨c,0,none⟩)] w fun r w'=>SlE bM w' r (aZ ch.bs)∧(∀x∈aB r,w.heap.size≤x)∧Ext w w':=by
 obtain ⟨b,mb,lv,h1,h2,h3,rfl,g1,g2,g3,g4,g5,g6,g8⟩:=h
 have r1:=Row.of_at h1
 refine tM rfl ?_
 unfold mP
 refine oy ?_
 repeat (first|(refine zC (d:=some 9) rfl (aUa _ h2 hn) ?_;rintro v w2 ⟨k1,k2,x2⟩)|refine go1 ?_|refine zg λ_ _=>?_|refine zi λ_ _=>?_)
 exact aA rfl ⟨k1,k2,x2⟩
theorem aBt (w:World):K.Spec Tryz.prog F.chain_Chain_Height [.pointer none] w fun r w'=>r=.int .i64 0∧Ext w w':=by
 refine tD rfl ?_
 unfold lL
 refine oy ?_
 repeat (first|refine go1 ?_|refine zg λ_ _=>?_|refine zi λ_ _=>?_)
 exact aA rfl ⟨rfl,Ext.refl _⟩
theorem aZt (w:World):K.Spec Tryz.prog F.chain_Chain_Coins [.pointer none] w fun r w'=>r=.slice none 0 0∧Ext w w':=by
 refine tM rfl ?_
 unfold mP
 refine oy ?_
 repeat (first|refine go1 ?_|refine zg λ_ _=>?_|refine zi λ_ _=>?_)
 exact aA rfl ⟨rfl,Ext.refl _⟩
theorem bDt (v:Value) (w:World):K.Spec Tryz.prog F.chain_Chain_Connect [.pointer none,v] w fun r w'=>r=wR 1∧Ext w w':=by
 refine qV rfl ?_
 unfold kK
 refine oy ?_
 repeat (first|refine go1 ?_|refine zg λ_ _=>?_|refine zi λ_ _=>?_)
 exact aA rfl ⟨rfl,Ext.refl _⟩
theorem bCz (w:World):K.Spec Tryz.prog F.chain_Chain_Disconnect [.pointer none] w fun r w'=>r=.tuple #[.slice none 0 0,.int .i64 1]∧Ext w w':=by
 refine nF rfl ?_
 unfold iO
 refine oy ?_
 repeat (first|refine go1 ?_|refine zg λ_ _=>?_|refine zi λ_ _=>?_)
 exact aA rfl ⟨rfl,Ext.refl _⟩
theorem bG5 (p:Pt) (w:World):K.Spec Tryz.prog F.chain_Chain_Get [.pointer none,p.val] w fun r w'=>r=.tuple #[cn0.val,.bool false]∧Ext w w':=by
 refine aIk rfl ?_
 unfold wS
 refine oy ?_
 repeat (first|refine zD (d:=some 3) (cs:=p.cs) rfl rfl (fun b3 w3 x3 a3 (r3:Row w3 ⟨b3,0,none⟩ p.cs) hb3=>?_)|refine zH (d:=some 4) (fun b4 w4 x4 a4 hb4=>?_)|refine aT (d:=some 8) (cs:=cZ) rfl ?_|refine go1 ?_|refine zg λ_ _=>?_|refine zi λ_ _=>?_)
 refine aU (w0:=w) (vs:=cZ) (x3.trans x4) (nTr x3.size hb4) a4 rfl rfl rfl rfl rfl (fun w9 x9 c9 a9 r9=>?_)
 repeat (first|refine go1 ?_|refine zg λ_ _=>?_|refine zi λ_ _=>?_)
 exact aA (iR (bD r9 rfl rfl) bJ) ⟨rfl,x9⟩
theorem bDb (s:ByteArray) (w:World):K.Spec Tryz.prog F.chain_Chain_Confirmed [.pointer none,.string s] w fun r w'=>r=.tuple #[.int .i64 0,.bool false]∧Ext w w':=by
 refine aAh rfl ?_
 unfold pD
 refine oy ?_
 repeat (first|(refine zC (d:=some 10) rfl (aBt _) ?_;rintro _ w2 ⟨rfl,x2⟩)|(refine aI (fun (_:Unit) w'=>w'=w2) (fun _=> [(6,.int .i64 0)]) (fun _=>0) () ⟨rfl,trivial⟩ rfl ?_;rintro _ ρ w3 rfl)|refine go1 ?_|refine zg λ_ _=>?_|refine zi λ_ _=>?_)
 exact aA rfl ⟨rfl,x2⟩
theorem bBd (p:Pt) (w:World):K.Spec Tryz.prog F.chain_Chain_Spender [.pointer none,p.val] w fun r w'=>r=.tuple #[.string ⟨#[]⟩,.int .i64 0,.bool false]∧Ext w w':=by
 refine aC6 rfl ?_
 unfold qY
 refine oy ?_
 repeat (first|refine zD (d:=some 3) (cs:=p.cs) rfl rfl (fun b3 w3 x3 a3 (r3:Row w3 ⟨b3,0,none⟩ p.cs) hb3=>?_)|(refine zC (d:=some 11) rfl (aBt _) ?_;rintro _ w2 ⟨rfl,x2⟩)|(refine aI (fun (_:Unit) w'=>w'=w2) (fun _=> [(7,.int .i64 0)]) (fun _=>0) () ⟨rfl,trivial⟩ rfl ?_;rintro _ ρ w4 rfl)|refine go1 ?_|refine zg λ_ _=>?_|refine zi λ_ _=>?_)
 exact aA rfl ⟨rfl,x3.trans x2⟩
end
section
open Go Go.K
attribute [local irreducible] aF aP bG KOp.wp K.Spec u32 leS vnS str aR aE bI bS idT aO
theorem bNr {P:Program} {d:Option Tmp} {r:KR} {K:Env→World→Prop} {ρ:Env} {w:World} {x y:Operand} {a b:Nat} (hx:ev ρ x=.int .i64 (a:Nat)) (hy:ev ρ y=.int .i64 (b:Nat)) (k:aF P r K (put ρ d (.int .i64 (max a b:Nat))) w):aF P (.cons ⟨d,.minmax true x [y],none⟩ r) K ρ w:=
 dH rfl (by
  have e:(if (a:Int)<(b:Int) then (b:Int) else (a:Int))=((max a b:Nat):Int):=by split<;>omega
  simp only [KOp.fix,List.foldl_cons,List.foldl_nil,hx,hy,Option.bind_some,sE,if_true,e]) k
theorem aRe.off {w w':World} {b6:Nat} {z:Array Value} {t:TypeId} (ha:At w b6 (.cells z t (0,0))) (ht:t≠T.api_Fault) (cc:Chg [b6] w w') {v:Value} {c a i:Int} (h:aRe w v c a i):aRe w' v c a i:=by
 rcases h with h|⟨h1,h|⟨h2,b,u,h3,h4,h5⟩⟩
 ·exact .inl h
 ·exact .inr ⟨h1,.inl h⟩
 ·refine .inr ⟨h1,.inr ⟨h2,b,u,h3,h4.chg cc ?_,dL.off ha ht cc h5⟩⟩
  simp only [List.mem_singleton]
  intro e
  subst e
  have:=h4.inj ha
  simp only [Obj.cells.injEq] at this
  exact ht this.2.1.symm
theorem aRe.ext {w w':World} {v:Value} {c a i:Int} (h:aRe w v c a i) (x:Ext w w'):aRe w' v c a i:=by
 rcases h with h|⟨h1,h|⟨h2,b,u,h3,h4,h5⟩⟩
 ·exact .inl h
 ·exact .inr ⟨h1,.inl h⟩
 ·exact .inr ⟨h1,.inr ⟨h2,b,u,h3,h4.ext x,h5.ext x⟩⟩
theorem bMn {M:List Nat} {w:World} {b:Nat} {v:Value} {l:List En} {t:TypeId} (h:SlR enR M w v l) (ha:At w b (.cells [Value.slice none 0 0,.slice none 0 0].toArray t (0,0))):SlR enR (b::M) w v l:=
 SlR.off h ha (fun cs x hr=>⟨.string x.1.s,_,hr,by simp⟩) (fun cs x hr=>hr)
theorem bB2 {l0:List En} {h:Int}:∀(txs:List Tx) (i:Nat) (m:List En),(nR l0 h i txs m).2.1≠0→(nR l0 h i txs m).1=l0
 | [],_,_,h0=>absurd rfl h0
 |t::ts,i,m,h0=>by
  unfold nR at h0 ⊢
  split
  ·rfl
  ·rename_i hc
   rw [if_neg hc] at h0
   exact bB2 ts (i+1) _ h0
theorem bCc {l:List En} {txs:List Tx} {b:Int} (h0:(bI l txs b).2.1≠0):(bI l txs b).1=l:=by
 unfold bI at h0 ⊢
 split
 ·rfl
 ·rename_i hc
  rw [if_neg hc] at h0
  exact bB2 _ _ _ h0
def bTo (w:World) (b mb:Nat) (l:List En) (x:List En × Int × Int × Int) (b5:Nat) (sv mv e:Value) (w':World):Prop:=
 aRe w' e x.2.1 x.2.2.1 x.2.2.2∧iC T.coins_Set w' b mb x.1∧(x.2.1=0→SlE bM w' sv (fF l x.1)∧SlE bM w' mv (fF x.1 l)∧∀y,y∈aB sv∨y∈aB mv→w.heap.size≤y)∧(x.2.1≠0→sv=.slice none 0 0∧mv=.slice none 0 0)∧Chg [b,mb] w w'∧
  At w' b5 (.cells [Value.slice none 0 0,.slice none 0 0].toArray T.block_Undo (0,0))∧w.heap.size≤b5
set_option maxHeartbeats 4000000 in
theorem pC {U:List Nat} {B c:Nat} {M N:List Nat} {ch:Ch} {v:Value} {txs:List Tx} (w:World) (h:ChR U w B c M ch) (hx:SlR txR N w v txs) (hMN:∀y∈M,y∈N) (hU:∀y∈U,y∈N) (hUl:∀y∈U,y<w.heap.size) (hs:∀t∈txs,t.Sm) (hk0:txs.length≤1000) (hn:(aZ ch.bs).length+fE txs≤80000) (hl:ch.bs.length≤100000) (ht:ch.top≤100000):
  K.Spec Tryz.prog F.chain_Chain_Connect [.pointer (some ⟨c,0,none⟩),v] w fun r w'=>(∃i,aRe w' r (kM ch txs).1 (kM ch txs).2 i)∧(∃M',ChR U w' B c M' (cS ch txs)∧∀y∈M',y∈M∨w.heap.size≤y)∧Chg M w w':=by
 have hlt:=h.lt
 obtain ⟨b,mb,lv,h1,h2,h3,hM,g1,g2,g3,g4,g5,g6,g8⟩:=id h
 have hcM:c∈M:=by rw [hM];simp
 have hbM:b∈M:=by rw [hM];simp
 have hmM:mb∈M:=by rw [hM];simp
 have hlM:∀y∈aB lv,y∈M:=fun y hy=>by rw [hM];simp [hy]
 have g7:=h2.ne
 have lc:=hlt c hcM
 have lb:=hlt b hbM
 have lm:=hlt mb hmM
 have r1:=Row.of_at h1
 have sl:=h3.sl (fun y hy hv=>by
  rcases List.mem_append.1 hy with hy|hy
  ·have:=g6 y hv;simp at hy;omega
  ·exact g8 y (hlM y hv) hy)
 have hll:(cU ch.bs).length=ch.bs.length:=aCe _
 have eI:(((cU ch.bs).length:Nat):Int)+1=((ch.bs.length+1:Nat):Int):=by rw [hll];omega
 refine qV rfl ?_
 unfold kK
 refine oy ?_
 repeat (first|refine zG (d:=some 16) (E:=lkR) (l:=cU ch.bs) rfl sl ?_|refine aD (d:=some 17) (.bool false) rfl (congrArg (fun b=>some (Value.bool b)) (dFa (by omega))) ?_|refine zG (d:=some 29) (E:=lkR) (l:=cU ch.bs) rfl (SlR.ext sl (by exact fx)) ?_|(refine zg (fun w1 x12=>?_);have s12:=x12.size)|refine dJ (b:=.cons ⟨none,.storeN _ _ _,_⟩ _) (fun (p:Nat × Value × Value × Value) w'=>bTo w b mb (aZ ch.bs) (bI (aZ ch.bs) txs ((ch.bs.length+1:Nat):Int)) p.1 p.2.1 p.2.2.1 p.2.2.2 w') (fun p=> [(0,.pointer (some ⟨c,0,none⟩)),(1,v),(5,.pointer (some ⟨p.1,0,none⟩)),(32,.agg #[p.2.1,p.2.2.1]),(33,p.2.2.2)]) ?_ ?_|refine go1 ?_|refine zg λ_ _=>?_|refine zi λ_ _=>?_)
 ·have hc0:=gA ch.bs ch.bs.length
  have hs0:=pF ch.bs ch.bs.length
  rw [eI]
  refine zB ?_ ?_
  ·repeat (first|refine zi (fun w2 x2=>?_)|(refine zC (d:=some 31) rfl (aNl (M:=M) (l:=aZ ch.bs) ((ch.bs.length+1:Nat):Int) _ (h2.ext (by exact fx)) hc0 hs0 hbM hmM (fun y hy=>nLt (hlt y hy) (Ext.size (show Ext w _ by exact fx))) ((hx.sub (fun y hy=>.inl (hMN y hy))).ext (by exact fx)) hs hn hk0) ?_;rintro _ w6 ⟨sv,mv,e,rfl,hA1,hA2,hA3,hA4,hA5⟩)|refine zH (d:=some 5) (fun b5 w5 x5 a5 hb5=>?_)|refine go1 ?_|refine zg λ_ _=>?_|refine zi λ_ _=>?_)
   exact ⟨(b5,sv,mv,e),⟨rfl,rfl,rfl,rfl,rfl,trivial⟩,hA1.ext x5,hA2.ext x5,fun q=>⟨(hA3 q).1.ext x5,(hA3 q).2.1.ext x5,fun y hy=>nTr s12 ((hA3 q).2.2 y hy)⟩,hA4,(Chg.trans x12 (hA5.trans x5)).mono (by simp),a5,nTr (nTr s12 hA5.size) hb5⟩
  ·repeat (first|refine zi (fun w2 x2=>?_)|(refine zC (d:=some 31) rfl (aNl (M:=M) (l:=aZ ch.bs) ((ch.bs.length+1:Nat):Int) _ (h2.ext (by exact fx)) hc0 hs0 hbM hmM (fun y hy=>nLt (hlt y hy) (Ext.size (show Ext w _ by exact fx))) ((hx.sub (fun y hy=>.inl (hMN y hy))).ext (by exact fx)) hs hn hk0) ?_;rintro _ w6 ⟨sv,mv,e,rfl,hA1,hA2,hA3,hA4,hA5⟩)|refine zH (d:=some 5) (fun b5 w5 x5 a5 hb5=>?_)|refine go1 ?_|refine zg λ_ _=>?_|refine zi λ_ _=>?_)
   exact ⟨(b5,sv,mv,e),⟨rfl,rfl,rfl,rfl,rfl,trivial⟩,hA1,hA2,fun q=>⟨(hA3 q).1,(hA3 q).2.1,fun y hy=>nTr (nTr s12 x5.size) ((hA3 q).2.2 y hy)⟩,hA4,(Chg.trans x12 (Chg.trans x5 hA5)).mono (by simp),a5.chg hA5 (by simp;omega),nTr s12 hb5⟩
 ·rintro ⟨b5,sv,mv,e⟩ ρ w3 ⟨hA1,hA2,hA3,hA4,hA5,a5,hb5⟩
  dsimp only
  simp only at hA1 hA2 hA3 hA4 hA5 a5 hb5
  have o1:sv.oneCell'=true:=by
   by_cases h0:(kM ch txs).1=0
   ·obtain ⟨_,_,_,q, -⟩:=(hA3 h0).1;rw [q];rfl
   ·rw [(hA4 h0).1];rfl
  have o2:mv.oneCell'=true:=by
   by_cases h0:(kM ch txs).1=0
   ·obtain ⟨_,_,_,q, -⟩:=(hA3 h0).2.1;rw [q];rfl
   ·rw [(hA4 h0).2];rfl
  refine bX (b:=b5) (vs:= [sv,mv]) rfl rfl rfl (by simp [o1,o2]) a5 rfl (fun w4 c4 a4=>?_)
  by_cases h0:(kM ch txs).1=0
  ·obtain ⟨hsv,hmv,hsb⟩:=hA3 h0
   have he:e=.nilIface:=by
    rcases hA1 with ⟨_,h5⟩|⟨h5, -⟩
    ·exact h5
    ·exact absurd h0 h5
   subst he
   have e0:(kM ch txs).1=0:=h0
   have e2:cS ch txs=⟨ch.bs++ [txs],max ch.top (ch.bs.length+1)⟩:=by
    unfold cS
    rw [if_neg (by simpa using h0)]
   obtain ⟨lk,hlk⟩:∃lk:Lk,lk=⟨txs,fF (aZ ch.bs) (bI (aZ ch.bs) txs ((ch.bs.length+1:Nat):Int)).1,fF (bI (aZ ch.bs) txs ((ch.bs.length+1:Nat):Int)).1 (aZ ch.bs)⟩:=⟨_,rfl⟩
   have elk:(⟨txs,lk.spent,lk.made⟩:Lk)=lk:=by rw [hlk]
   have c04:Chg [b,mb,b5] w w4:=hA5.trans c4
   have s04:=c04.size
   have hin:∀y∈aB lv++([c,b,mb]++U),y∈M∨y∈U:=fun y hy=>by
    simp at hy
    rcases hy with hy|rfl|rfl|rfl|hy
    ·exact .inl (hlM y hy)
    ·exact .inl hcM
    ·exact .inl hbM
    ·exact .inl hmM
    ·exact .inr hy
   have hinl:∀y∈aB lv++([c,b,mb]++U),y<w.heap.size:=fun y hy=>(hin y hy).elim (hlt y) (hUl y)
   have hinN:∀y∈aB lv++([c,b,mb]++U),y∈N:=fun y hy=>(hin y hy).elim (hMN y) (hU y)
   have hsv4:SlR enR (aB lv++([c,b,mb]++U)) w4 sv lk.spent:=by
    have q1:SlR enR (aB lv++([c,b,mb]++U)) w3 sv _:=hsv.en fun y hy hm=>by have:=hsb y (.inl hy);have:=hinl y hm;omega
    rw [hlk]
    exact (bMn q1 a5).step c4 (fun y hy=>.inl (by simp at hy;simp [hy])) (fun y hy=>.inl (List.mem_cons_of_mem _ hy))
   have hmv4:SlR enR (aB lv++([c,b,mb]++U)) w4 mv lk.made:=by
    have q1:SlR enR (aB lv++([c,b,mb]++U)) w3 mv _:=hmv.en fun y hy hm=>by have:=hsb y (.inr hy);have:=hinl y hm;omega
    rw [hlk]
    exact (bMn q1 a5).step c4 (fun y hy=>.inl (by simp at hy;simp [hy])) (fun y hy=>.inl (List.mem_cons_of_mem _ hy))
   have hx4:SlR txR N w4 v txs:=hx.step c04 (fun y hy=>by
    simp at hy
    rcases hy with rfl|rfl|rfl
    ·exact .inl (hMN _ hbM)
    ·exact .inl (hMN _ hmM)
    ·exact .inr hb5) (fun y hy=>.inl hy)
   have own4:bR lkR T.chain_link B ([c,b,mb]++U) w4 lv (cU ch.bs):=h3.step c04 (fun y hy=>by
    simp at hy
    rcases hy with rfl|rfl|rfl
    ·exact ⟨fun h=>(g6 _ h).2.1 rfl,.inl (by simp)⟩
    ·exact ⟨fun h=>(g6 _ h).2.2 rfl,.inl (by simp)⟩
    ·exact ⟨fun h=>by have:=hlt _ (hlM _ h);omega,.inr hb5⟩) (fun y hy=>.inl hy)
   have h14:At w4 c (.cells (aTo b lv ch.top).toArray T.chain_Chain (0,0)):=h1.chg c04 (by simp;omega)
   have S4:iC T.coins_Set w4 b mb (aZ (ch.bs++ [txs])):=by
    rw [aEs]
    exact hA2.chg c4 (by simp;omega) (by simp;omega)
   have r14:=Row.of_at h14
   have r54:=Row.of_at a4
   have hlt4:∀y∈aB lv++([c,b,mb]++U),y<w4.heap.size:=fun y hy=>nLt (hinl y hy) s04
   have hB4:B≤w4.heap.size:=by omega
   have ow:lv.oneCell'=true:=h3.one
   clear hA1 hA2 hA3 hA4 hA5 a5 a4 c4 hsv hmv r1 sl h2 h3 h1 h
   repeat (first|refine zg (fun w5 x5=>?_)|refine dJ (b:=.cons ⟨some 46,_,_⟩ _) (fun (p:Nat × List Value) w'=>Ext w4 w'∧At w' p.1 (.cells p.2.toArray T.chain_link (0,0))∧lkR.rel (aB lv++([c,b,mb]++U)) w' p.2 lk) (fun p=> [(0,.pointer (some ⟨c,0,none⟩)),(37,.pointer (some ⟨c,0,none⟩)),(41,lv),(45,.slice (some ⟨p.1,0,none⟩) 1 1)]) ?_ ?_|refine go1 ?_|refine zg λ_ _=>?_|refine zi λ_ _=>?_)
   ·repeat' (first|refine zB ?_ ?_|(refine zC (d:=some 44) rfl (bBc (M:=aB lv++([c,b,mb]++U)) (N:=N) (txs:=txs) (spent:=lk.spent) (made:=lk.made) _ (hx4.ext (by exact fx)) hs (fun y hy=>hinN y hy) (fun y hy=>nLt (hlt4 y hy) (Ext.size (show Ext w4 _ by exact fx))) hk0 (SlR.ext hsv4 (by exact fx)) (SlR.ext hmv4 (by exact fx))) ?_;rintro _ w6 ⟨cs,rfl,rel6,x6⟩;obtain ⟨tv,iv,sv',mv',mp,rfl,z1,z2,z3,z4,z5⟩:=id rel6)|refine zI (d:=some 45) (cs:= [tv,iv,sv',mv',mp]) rfl (fun b7 w7 x7 a7 hb7=>?_)|refine go1 ?_|refine zg λ_ _=>?_|refine zi λ_ _=>?_)
    all_goals exact aLu ⟨(b7, [tv,iv,sv',mv',mp]),⟨rfl,rfl,rfl,rfl,trivial⟩,x5.trans (x6.trans x7),a7,(congrArg (lkR.rel (aB lv++([c,b,mb]++U)) _ _) elk).mp (R.ext rel6 x7)⟩
   ·rintro ⟨b7,cs⟩ ρ w8 ⟨x8,a7,rel8⟩
    dsimp only at x8 a7 rel8 ⊢
    have s8:=x8.size
    refine gB (d:=some 46) (E:=lkR) (M:= [c,b,mb]++U) (v:=lv) (cs:=cs) (a:=lk) (B:=B) rfl rfl (own4.ext x8) (nTr hB4 s8) rfl rfl a7 rel8 (by rw [hll];omega) (fun v9 w9 o9 c9 hb9=>?_)
    have s9:=c9.size
    have h19:At w9 c (.cells (aTo b lv ch.top).toArray T.chain_Chain (0,0)):=(h14.ext x8).chg c9 (fun h=>(g6 _ h).1 rfl)
    have S9:iC T.coins_Set w9 b mb (aZ (ch.bs++ [txs])):=(S4.ext x8).chg c9 (fun h=>(g6 _ h).2.1 rfl) (fun h=>(g6 _ h).2.2 rfl)
    have o9b:∀y∈aB v9,y≠c∧y≠b∧y≠mb:=fun y hy=>by
     rcases hb9 y hy with h|h
     ·exact g6 y h
     ·omega
    repeat (first|refine go1 ?_|refine zg λ_ _=>?_|refine zi λ_ _=>?_)
    refine bO (b:=c) (o:=1) (cur:=aTo b lv ch.top) rfl rfl o9.one h19 (Nat.le_of_ble_eq_true rfl) (fun w10 c10 a10=>?_)
    have o10:=o9.step c10 (M':= [c,b,mb]++U) (fun y hy=>by
     simp at hy;subst hy
     exact ⟨fun h=>(o9b _ h).1 rfl,.inl (by simp)⟩) (fun y hy=>.inl hy)
    have S10:=S9.chg c10 (by simp;omega) (by simp;omega)
    have a10':At w10 c (.cells (aTo b v9 ch.top).toArray T.chain_Chain (0,0)):=a10
    have r10:=Row.of_at a10'
    have o9u:∀y∈aB v9,y∉U:=fun y hy hu=>by
     rcases hb9 y hy with h|h
     ·exact g8 y (hlM y h) hu
     ·have:=hUl y hu;omega
    have sl10:=o10.sl (fun y hy hv=>by
     rcases List.mem_append.1 hy with hy|hy
     ·have:=o9b y hv;simp at hy;omega
     ·exact o9u y hv hy)
    have ell:(cU ch.bs++ [lk]).length=ch.bs.length+1:=by simp [hll]
    repeat (first|refine zg (fun w11 x11=>?_)|refine zG (d:=some 58) (E:=lkR) (l:=cU ch.bs++ [lk]) rfl (SlR.ext sl10 (by exact fx)) ?_|refine bNr (d:=some 59) (a:=ch.top) (b:=(cU ch.bs++ [lk]).length) rfl rfl ?_|refine go1 ?_|refine zg λ_ _=>?_|refine zi λ_ _=>?_)
    refine bO (b:=c) (o:=2) (cur:=aTo b v9 ch.top) rfl rfl rfl (a10'.ext x11) (Nat.le_of_ble_eq_true rfl) (fun w12 c12 a12=>?_)
    repeat (first|refine go1 ?_|refine zg λ_ _=>?_|refine zi λ_ _=>?_)
    have o12:=(o10.ext x11).step c12 (M':= [c,b,mb]++U) (fun y hy=>by
     simp at hy;subst hy
     exact ⟨fun h=>(o9b _ h).1 rfl,.inl (by simp)⟩) (fun y hy=>.inl hy)
    have a12':At w12 c (.cells (aTo b v9 (max ch.top (ch.bs.length+1))).toArray T.chain_Chain (0,0)):=by rw [←ell];exact a12
    refine aA rfl ⟨⟨-1,.inl ⟨e0,rfl⟩⟩,⟨[c,b,mb]++aB v9,?_,fun y hy=>?_⟩,?_⟩
    ·rw [e2]
     refine ⟨b,mb,v9,a12',(S10.ext x11).chg c12 (by simp;omega) (by simp;omega),?_,rfl,g1,g2,g3,g4,g5,o9b,fun y hy hu=>by
      simp at hy
      rcases hy with rfl|rfl|rfl|hy
      ·exact g8 _ hcM hu
      ·exact g8 _ hbM hu
      ·exact g8 _ hmM hu
      ·exact o9u y hy hu⟩
     rw [aX6,←hlk]
     exact o12
    ·simp at hy
     rcases hy with rfl|rfl|rfl|hy
     ·exact .inl hcM
     ·exact .inl hbM
     ·exact .inl hmM
     ·exact (hb9 y hy).imp (hlM y) (fun h=>by omega)
    ·have q:=(((Chg.trans (c04.trans x8) c9).trans c10).trans x11).trans c12
     refine q.mono fun y hy=>?_
     simp at hy
     rcases hy with rfl|rfl|rfl|hy|rfl
     ·exact .inl hbM
     ·exact .inl hmM
     ·exact .inr hb5
     ·exact .inl (hlM y hy)
     ·exact .inl hcM
  ·have hA14:=hA1.off a5 (by decide) c4
   rcases hA14 with ⟨h5, -⟩|⟨-,h5⟩
   ·exact absurd h5 h0
   obtain ⟨et,eu,rfl⟩:∃et eu,e=.iface et eu:=by
    rcases h5 with ⟨h5, -⟩|⟨-,_,_,h5, -⟩
    ·exact ⟨_,_,h5⟩
    ·exact ⟨_,_,h5⟩
   repeat (first|refine go1 ?_|refine zg λ_ _=>?_|refine zi λ_ _=>?_)
   refine aA rfl ⟨⟨_,hA1.off a5 (by decide) c4⟩,⟨M,?_,fun y hy=>.inl hy⟩,(hA5.trans c4).mono (fun y hy=>by
    simp at hy
    rcases hy with rfl|rfl|rfl
    ·exact .inl hbM
    ·exact .inl hmM
    ·exact .inr hb5)⟩
   have e1:cS ch txs=ch:=by unfold cS;rw [if_pos h0]
   rw [e1]
   rw [bCc h0] at hA2
   exact ⟨b,mb,lv,h1.chg (hA5.trans c4) (by simp;omega),hA2.chg c4 (by simp;omega) (by simp;omega),h3.step (hA5.trans c4) (fun y hy=>by
    simp at hy
    rcases hy with rfl|rfl|rfl
    ·exact ⟨fun h=>(g6 _ h).2.1 rfl,.inl (by simp)⟩
    ·exact ⟨fun h=>(g6 _ h).2.2 rfl,.inl (by simp)⟩
    ·exact ⟨fun h=>by have:=hlt _ (hlM _ h);omega,.inr hb5⟩) (fun y hy=>.inl hy),hM,g1,g2,g3,g4,g5,g6,g8⟩
end
end Go.Proofs.YtgloknkcfchnlaaGreat
section
namespace Go.K
open Go
section
variable {P:Program} {d:Option Tmp} {r:KR} {K:Env→World→Prop} {ρ:Env} {w:World}
theorem aZ5 {α:Type} {E:R α} {t:TypeId} {B:Nat} {M:List Nat} {v:Value} {l:List α} {size:Nat} {x i:Operand} {kd:IntKind} {n:Nat} (hx:ev ρ x=v) (hi:ev ρ i=.int kd (n:Nat)) (hs:bR E t B M w v l) (hk:size=E.k) (hr:n<l.length)
  (k:∀ad cs,Row w ad cs→E.rel (aB v++M) w cs l[n]→aF P r K (put ρ d (.pointer (some ad))) w):aF P (.cons ⟨d,.indexAddr size x i,none⟩ r) K ρ w:=by
 obtain ⟨css,h1,h2⟩:=hs
 have hr':n<css.length:=by rw [h2.length];exact hr
 exact aS (E:=kA E.k E.pos) hx hi h1.sl hk hr' fun ad hrow=>k ad _ hrow (h2.get n hr' hr)
theorem yX {x:Operand} {n:Nat} (hx:ev ρ x=.int .i64 (n:Nat)) (h0:0<n) (hr:n≤1000000) (k:aF P r K (put ρ d (.int .i64 (n - 1:Nat))) w):aF P (.cons ⟨d,.bin .sub x (.const (.int .i64 1)),none⟩ r) K ρ w:=
 bLg hx rfl (by omega) (by rw [show ((n:Nat):Int) - 1=((n - 1:Nat):Int) by omega];exact k)
theorem bGk {size:Nat} {x h:Operand} {b len cap n:Nat} {kd:IntKind} (hx:ev ρ x=.slice (some ⟨b,0,none⟩) len cap) (hh:ev ρ h=.int kd (n:Nat)) (hn:n≤cap) (k:aF P r K (put ρ d (.slice (some ⟨b,0,none⟩) n cap)) w):aF P (.cons ⟨d,.sliceSl size x none (some h),none⟩ r) K ρ w:=by
 refine dH rfl ?_ k
 have e:(Addr.add ⟨b,0,none⟩ 0)=⟨b,0,none⟩:=rfl
 simp only [KOp.fix,hx,hh,Option.bind_some,Option.map_some]
 rw [if_pos (by omega)]
 by_cases hc:cap=0
 ·simp [hc]
 ·simp [hc,e]
end
end Go.K
namespace Go.Proofs.YtgloknkcfchnlaaGreat
open Go Go.K
attribute [local irreducible] aF aP bG KOp.wp K.Spec u32 leS vnS str aR aE bI bS idT aO
set_option maxHeartbeats 4000000 in
theorem sO {U:List Nat} {B c:Nat} {M:List Nat} {ch:Ch} (w:World) (h:ChR U w B c M ch) (hn:∀k,k≤ch.bs.length→(cM ch.bs k).length≤80000) (hl:ch.bs.length≤100000) (ht:ch.top≤100000):
  K.Spec Tryz.prog F.chain_Chain_Disconnect [.pointer (some ⟨c,0,none⟩)] w fun r w'=>∃tv M',r=.tuple #[tv,.int .i64 (fN ch)]∧ChR U w' B c M' (eW ch)∧(∀y∈M',y∈M)∧Chg M w w'∧(fN ch=0→SlR txR (M'++U) w' tv (ch.bs.getD (ch.bs.length - 1) []))∧(fN ch≠0→tv=.slice none 0 0):=by
 have hlt:=h.lt
 obtain ⟨b,mb,lv,h1,h2,h3,hM,g1,g2,g3,g4,g5,g6,g8⟩:=id h
 have hcM:c∈M:=by rw [hM];simp
 have hbM:b∈M:=by rw [hM];simp
 have hmM:mb∈M:=by rw [hM];simp
 have hlM:∀y∈aB lv,y∈M:=fun y hy=>by rw [hM];simp [hy]
 have g7:=h2.ne
 have lc:=hlt c hcM
 have lb:=hlt b hbM
 have lm:=hlt mb hmM
 have r1:=Row.of_at h1
 have sl:=h3.sl (fun y hy hv=>by
  rcases List.mem_append.1 hy with hy|hy
  ·have:=g6 y hv;simp at hy;omega
  ·exact g8 y (hlM y hv) hy)
 have hll:(cU ch.bs).length=ch.bs.length:=aCe _
 refine nF rfl ?_
 unfold iO
 refine oy ?_
 by_cases q0:ch.bs.length=0
 ·have e0:fN ch=8:=by unfold fN;rw [if_pos q0]
  have e1:eW ch=ch:=by unfold eW;rw [if_pos (by rw [e0];decide)]
  rw [e0,e1]
  repeat (first|refine zG (d:=some 14) (E:=lkR) (l:=cU ch.bs) rfl sl ?_|refine aD (d:=some 15) (.bool true) rfl (congrArg (fun b=>some (Value.bool b)) (dTr (by omega))) ?_|refine go1 ?_|refine zg λ_ _=>?_|refine zi λ_ _=>?_)
  exact aA rfl ⟨_,M,rfl,h,fun y hy=>hy,Chg.refl _ _,fun q=>absurd q (by decide),fun _=>rfl⟩
 ·by_cases q1:ch.bs.length+6≤ch.top
  ·have e0:fN ch=18:=by unfold fN;rw [if_neg q0,if_pos q1]
   have e1:eW ch=ch:=by unfold eW;rw [if_pos (by rw [e0];decide)]
   rw [e0,e1]
   repeat (first|refine zG (d:=some 14) (E:=lkR) (l:=cU ch.bs) rfl sl ?_|refine aD (d:=some 15) (.bool false) rfl (congrArg (fun b=>some (Value.bool b)) (dFa (by omega))) ?_|refine zg (fun w2 x2=>?_)|refine zG (d:=some 21) (E:=lkR) (l:=cU ch.bs) rfl (SlR.ext sl (by exact fx)) ?_|refine aD (d:=some 27) (.bool true) rfl (congrArg (fun b=>some (Value.bool b)) (dTr (by omega))) ?_|refine go1 ?_|refine zg λ_ _=>?_|refine zi λ_ _=>?_)
   exact aA rfl ⟨_,M,rfl,h.ext x2,fun y hy=>hy,Chg.mono x2 (by simp),fun q=>absurd q (by decide),fun _=>rfl⟩
  ·have e0:fN ch=0:=by unfold fN;rw [if_neg q0,if_neg q1]
   have e1:eW ch=⟨ch.bs.take (ch.bs.length - 1),ch.top⟩:=by unfold eW;rw [if_neg (by simp [e0])]
   obtain ⟨n,hnn⟩:∃n,ch.bs.length=n+1:=⟨ch.bs.length - 1,by omega⟩
   have en:ch.bs.length - 1=n:=by omega
   have hkl:n<(cU ch.bs).length:=by omega
   have eS:aZ ch.bs=cM ch.bs (n+1):=by unfold aZ;rw [hnn]
   rw [eS] at h2
   have elk:(cU ch.bs)[n]=lkN ch.bs n:=bIc (by omega)
   obtain ⟨bl,cap,elv,hcap⟩:∃bl cap,lv=.slice (some ⟨bl,0,none⟩) (cU ch.bs).length cap∧(cU ch.bs).length≤cap:=by
    rcases h3.form with ⟨-,h⟩|h
    ·rw [h] at hkl;simp at hkl
    ·exact h
   subst elv
   have hin:∀y∈ [bl]++ [c,b,mb],y∈M:=fun y hy=>by
    simp at hy
    rcases hy with rfl|rfl|rfl|rfl
    ·exact hlM _ (by simp [aB])
    ·exact hcM
    ·exact hbM
    ·exact hmM
   have g6':=g6 bl (by simp [aB])
   have lbl:=hlt bl (hin bl (by simp))
   repeat (first|refine zg (fun w3 x3=>?_)|refine zG (d:=some 14) (E:=lkR) (l:=cU ch.bs) rfl sl ?_|refine aD (d:=some 15) (.bool false) rfl (congrArg (fun b=>some (Value.bool b)) (dFa (by omega))) ?_|refine zG (d:=some 21) (E:=lkR) (l:=cU ch.bs) rfl (SlR.ext sl (by exact fx)) ?_|refine aD (d:=some 27) (.bool false) rfl (congrArg (fun b=>some (Value.bool b)) (dFa (by omega))) ?_|refine zG (d:=some 36) (E:=lkR) (l:=cU ch.bs) rfl (SlR.ext sl (by exact fx)) ?_|refine yX (d:=some 37) (n:=(cU ch.bs).length) rfl (by omega) (by omega) ?_|(rw [show (cU ch.bs).length - 1=n by omega];refine aZ5 (d:=some 38) (v:=.slice (some ⟨bl,0,none⟩) (cU ch.bs).length cap) (E:=lkR) (M:= [c,b,mb]++U) (B:=B) (t:=T.chain_link) rfl rfl (n:=n) (l:=cU ch.bs) (bR.ext h3 (by exact fx)) rfl hkl (fun ad cs r4 he=>?_);rw [elk] at he;obtain ⟨tv,iv,sv,mv,mp,rfl, -⟩:=id he)|refine zH (d:=some 4) (fun b4 w4 x4 a4 hb4=>?_)|refine go1 ?_|refine zg λ_ _=>?_|refine zi λ_ _=>?_)
   have x03:Ext w w3:=by exact fx
   have x04:Ext w w4:=by exact fx
   have s03:=x03.size
   have he':lkR.rel ([bl]++([c,b,mb]++U)) w3 [tv,iv,sv,mv,mp] (lkN ch.bs n):=he
   have ones:=lkR.one he'
   refine bX (b:=b4) (vs:= [tv,iv,sv,mv,mp]) rfl rfl rfl ones a4 rfl (fun w5 c5 a5=>?_)
   have c35:Chg [b4] w3 w5:=(Chg.trans x4 c5).mono (by simp)
   have c05:Chg [b4] w w5:=(Chg.trans x04 c5).mono (by simp)
   have he5:lkR.rel ([bl]++([c,b,mb]++U)) w5 [tv,iv,sv,mv,mp] (lkN ch.bs n):=lkR.step he' c35 (fun y hy=>.inr (by simp at hy;omega)) (fun y hy=>.inl hy)
   obtain ⟨tv',iv',sv',mv',mp',heq,z1,z2,z3,z4,z5⟩:=he5
   simp only [List.cons.injEq,and_true] at heq
   obtain ⟨rfl,rfl,rfl,rfl,rfl⟩:=heq
   have h15:=h1.chg c05 (by simp;omega)
   have S5:=h2.chg c05 (by simp;omega) (by simp;omega)
   have own5:=h3.step c05 (M':= [c,b,mb]++U) (fun y hy=>by
    simp at hy;subst hy
    exact ⟨by simp [aB];omega,.inr (by omega)⟩) (fun y hy=>.inl hy)
   have r15:=Row.of_at h15
   have r45:=Row.of_at a5
   have n1:=hn n (by omega)
   have n2:=hn (n+1) (by omega)
   have n3:=aA5 (cM ch.bs n) (cM ch.bs (n+1))
   have n4:=aA5 (cM ch.bs (n+1)) (cM ch.bs n)
   clear c35 c5 a4 x4 he he' r4 x03 x04 r1 sl h h1 h2 h3
   have sub:∀y∈ [b,mb],y∈ [bl]++([c,b,mb]++U):=fun y hy=>by simp at hy;rcases hy with rfl|rfl<;>simp
   refine aLu ?_
   repeat (first|refine zg (fun w6 x6=>?_)|refine go1 ?_|refine zg λ_ _=>?_|refine zi λ_ _=>?_|refine aLu ?_)
   refine zC (d:=some 46) rfl (aW7 (l:=cM ch.bs (n+1)) (spent:=(lkN ch.bs n).spent) (made:=(lkN ch.bs n).made) _ (S5.ext x6) ((z3.sub (fun y hy=>.inl (sub y hy))).ext x6) ((z4.sub (fun y hy=>.inl (sub y hy))).ext x6) (nTr n3 (by omega)) (nTr n4 (by omega)) (by rw [aUo])) ?_
   rw [aUo]
   rintro _ w7 ⟨rfl,S7,c7⟩
   have h17:=(h15.ext x6).chg c7 (by simp;omega)
   have a7:=(At.ext x6 a5).chg c7 (by simp;omega)
   have own7:=(own5.ext x6).step c7 (M':= [c,b,mb]++U) (fun y hy=>by
    simp at hy
    rcases hy with rfl|rfl
    ·exact ⟨by simp [aB];omega,.inl (by simp)⟩
    ·exact ⟨by simp [aB];omega,.inl (by simp)⟩) (fun y hy=>.inl hy)
   have z17:SlR txR ([bl]++([c,b,mb]++U)) w7 tv (lkN ch.bs n).txs:=(z1.ext x6).step c7 (fun y hy=>.inl (sub y hy)) (fun y hy=>.inl hy)
   have r17:=Row.of_at h17
   have r47:=Row.of_at a7
   have sl7:=own7.sl (fun y hy hv=>by
    simp [aB] at hv
    rcases List.mem_append.1 hy with hy|hy
    ·simp at hy;omega
    ·subst hv;exact g8 _ (hin _ (by simp)) hy)
   have hcl:=(cU ch.bs).length
   have s7:w.heap.size≤w7.heap.size:=nTr c05.size (nTr x6.size c7.size)
   have c07:Chg [b4,b,mb] w w7:=(c05.trans (Chg.trans x6 c7)).mono (by simp)
   clear x6 c7 c05 a5 h15 r15 r45 own5 S5 z1 z3 z4
   repeat (first|refine zg (fun w8 x8=>?_)|refine zG (d:=some 59) (E:=lkR) (l:=cU ch.bs) rfl (SlR.ext sl7 (by exact fx)) ?_|refine yX (d:=some 60) (n:=(cU ch.bs).length) rfl (by omega) (by omega) ?_|(rw [show (cU ch.bs).length - 1=n by omega];refine bGk (d:=some 61) (b:=bl) (len:=(cU ch.bs).length) (cap:=cap) (n:=n) rfl rfl (by omega) ?_)|refine go1 ?_|refine zg λ_ _=>?_|refine zi λ_ _=>?_|refine aLu ?_)
   refine bO (b:=c) (o:=1) (cur:=aTo b (.slice (some ⟨bl,0,none⟩) (cU ch.bs).length cap) ch.top) rfl rfl rfl (h17.ext x8) (Nat.le_of_ble_eq_true rfl) (fun w9 c9 a9=>?_)
   have r49:=Row.of_at ((At.ext x8 a7).chg c9 (by simp;omega))
   repeat (first|refine go1 ?_|refine zg λ_ _=>?_|refine zi λ_ _=>?_|refine aLu ?_)
   have own9:=((own7.ext x8).step c9 (M':= [c,b,mb]++U) (fun y hy=>by
    simp at hy;subst hy
    exact ⟨by simp [aB];omega,.inl (by simp)⟩) (fun y hy=>.inl hy)).cut (n:=n) (by omega)
   rw [e0,e1,en]
   refine aA rfl ⟨tv, [c,b,mb]++ [bl],rfl,⟨b,mb,.slice (some ⟨bl,0,none⟩) n cap,a9,?_,?_,rfl,g1,g2,g3,g4,g5,g6,fun y hy=>g8 y (hin y (by simp at hy ⊢;omega))⟩,fun y hy=>hin y (by simp at hy ⊢;omega),?_,fun _=>?_,fun q=>absurd rfl q⟩
   ·rw [aMr (by omega)]
    exact (S7.ext x8).chg c9 (by simp;omega) (by simp;omega)
   ·rw [bAw (by omega)]
    exact own9
   ·refine ((c07.trans x8).trans c9).mono fun y hy=>?_
    simp at hy
    rcases hy with rfl|rfl|rfl|rfl
    ·exact .inr (by omega)
    ·exact .inl hbM
    ·exact .inl hmM
    ·exact .inl hcM
   ·exact (z17.ext x8).step c9 (fun y hy=>.inl (by simp at hy;subst hy;simp)) (fun y hy=>.inl (by
     simp at hy ⊢
     rcases hy with h|h|h|h|h<;>simp [h]))
end Go.Proofs.YtgloknkcfchnlaaGreat
end
namespace Go.Proofs.YtgloknkcfchnlaaGreat
section
open Go Go.K
attribute [local irreducible] aF aP bG KOp.wp K.Spec u32 leS vnS str aR aE bI bS idT aO
set_option maxHeartbeats 1000000 in
theorem bEp {M:List Nat} {v:Value} {outs:List TOut} (h:Int) (w:World) (hh:0≤h∧h≤1000000) (ho:SlR fS M w v outs) (hn:outs.length≤1000) (hM:∀y∈M,y<w.heap.size):K.Spec Tryz.prog F.tx_Grant [.int .i64 h,v] w fun r w'=>∃cs,r=.agg cs.toArray∧txO w.heap.size M w' cs (grT h outs)∧Ext w w':=by
 have ew:IntKind.u32.wrap h=h:=by show h%4294967296=h;omega
 refine bDp rfl ?_
 unfold aO4
 refine oy ?_
 repeat (first|refine zH (d:=some 4) (fun b4 w1 x1 a1 hb4=>?_)|(refine zC (d:=some 5) rfl (aLq _) ?_;rintro _ w2 ⟨rfl,x2⟩)|refine aT (d:=some 6) (cs:=eJ ⟨xA,4294967295, []⟩ (.slice none 0 0)) rfl ?_|refine zI (d:=some 7) (cs:=eJ ⟨xA,4294967295, []⟩ (.slice none 0 0)) rfl (fun b7 w3 x3 a3 hb7=>?_)|(refine zC (d:=some 9) rfl (aNd (M:=b4::b7::M) _ (ho.step (show Ext w _ by exact fx) (by simp) (fun y hy=>by simp only [List.mem_cons] at hy;rcases hy with rfl|rfl|hy;exact .inr hb4;exact .inr (by have:=Ext.size (show Ext w w2 by exact fx);omega);exact .inl hy)) (by omega) (fun y hy=>by simp only [List.mem_cons] at hy;rcases hy with rfl|rfl|hy;exact nLt a1.lt (Ext.size (by exact fx));exact a3.lt;exact nLt (hM y hy) (Ext.size (show Ext w w3 by exact fx)))) ?_;rintro ov w4 ⟨oo,x4⟩;obtain ⟨q1,q2,eov⟩:∃base cap,ov=.slice base outs.length cap:=(oo.sl (fun y hy hv=>by have:=oo.base y hv;simp only [List.mem_cons] at hy;rcases hy with rfl|rfl|hy;have:=a1.lt;have:=Ext.size (show Ext w1 w3 by exact fx);omega;have:=a3.lt;omega;have:=hM y hy;have:=Ext.size (show Ext w w3 by exact fx);omega)).form)|(rw [ew];refine aT (d:=some 12) (cs:=aJ (grT h outs) (.slice (some ⟨b7,0,none⟩) 1 1) ov) (by rw [eov];rfl) ?_)|refine go1 ?_|refine zg λ_ _=>?_|refine zi λ_ _=>?_)
 have x04:Ext w w4:=by exact fx
 have s03:=Ext.size (show Ext w w3 by exact fx)
 have s02:=Ext.size (show Ext w w2 by exact fx)
 have l3:=a3.lt
 refine aU (w0:=w) (n:=4) (vs:=aJ (grT h outs) (.slice (some ⟨b7,0,none⟩) 1 1) ov) x04 hb4 (At.ext x4 (At.ext x3 (At.ext x2 a1))) rfl rfl rfl rfl (by rw [eov];rfl) (fun w5 x5 c5 a5 r5=>?_)
 repeat (first|refine go1 ?_|refine zg λ_ _=>?_|refine zi λ_ _=>?_)
 have hb74:b7≠b4:=by have:=a1.lt;have:=x2.size;omega
 have oib:bR inR T.api_In w.heap.size M w5 (.slice (some ⟨b7,0,none⟩) 1 1) [⟨xA,4294967295, []⟩]:=
  ⟨[⟨eJ ⟨xA,4294967295, []⟩ (.slice none 0 0),rfl,by intro v hv;simp [eJ] at hv;rcases hv with rfl|rfl|rfl|rfl<;>rfl⟩],.inr ⟨b7,1, [],rfl,by omega,(a3.ext x4).chg c5 (by simp;omega),rfl⟩,.cons ⟨_,rfl,SlR.nil _ _,⟨by decide,by decide⟩,⟨by decide,by decide⟩⟩ .nil⟩
 have oov:bR fS T.api_Out w.heap.size M w5 ov outs:=(oo.lower s03).step c5 (M':=M) (fun y hy=>by
  simp at hy;subst hy
  exact ⟨fun h=>by have:=oo.base _ h;have:=a1.lt;have:=Ext.size (show Ext w1 w3 by exact fx);omega,.inl (by simp)⟩) (fun y hy=>.inl (by simp [hy]))
 exact aA (aOp (bD r5 rfl rfl)) ⟨_,rfl,⟨_,_,rfl,oib,oov,(show dM 2 by unfold dM;omega),(show dM h by unfold dM;omega)⟩,x5⟩
end
section
open Go Go.K
attribute [local irreducible] aF aP bG KOp.wp K.Spec u32 leS vnS str aR aE bI bS idT aO bsW
theorem bP8 {α:Type} {E:R α} {M:List Nat} {w:World} {b:Nat} {t:TypeId} {cs:List Value} {a:α} (h:At w b (.cells cs.toArray t (0,0))) (ha:E.rel (b::M) w cs a) (hb:b∉M):SlR E M w (.slice (some ⟨b,0,none⟩) 1 1) [a]:=by
 have ef:(kA E.k E.pos).flat [R.vec ha]=cs:=by simp only [Enc.flat,List.flatMap_cons,List.flatMap_nil,List.append_nil];rfl
 have o:bR E t 0 M w (.slice (some ⟨b,0,none⟩) 1 1) [a]:=⟨[R.vec ha],.inr ⟨b,1, [],rfl,Nat.zero_le _,by rw [ef,List.append_nil];exact h,by rw [List.append_nil,Enc.flat_length];rfl⟩,.cons ha .nil⟩
 exact o.sl fun b' hb' h'=>by
  simp [aB] at h'
  subst h';exact hb hb'
theorem bPn {B:Nat} {M:List Nat} {w w':World} {cs:List Value} {t:Tx} {b:Nat} (h:txO B M w cs t) (hM:∀y∈M,y<B) (x:Ext w w') (a:At w' b (.cells cs.toArray T.api_Tx (0,0))) (hb:w.heap.size≤b) (hMl:∀y∈M,y<w.heap.size):SlR txR M w' (.slice (some ⟨b,0,none⟩) 1 1) [t]:=by
 have h2:txR.rel (b::M) w' cs t:=txR.step (h.rel hM) x (by simp) (fun y hy=>by simp only [List.mem_cons] at hy;rcases hy with rfl|hy;exact .inr hb;exact .inl hy)
 exact bP8 (E:=txR) a h2 (fun hm=>by have:=hMl _ hm;omega)
set_option maxHeartbeats 4000000 in
theorem tX (w:World):K.Spec Tryz.prog F.kedgelaw13_wakes [] w fun r w'=>r=.bool true∧Ext w w':=by
 refine aH0 rfl ?_
 unfold vA
 refine oy ?_
 repeat (first|refine go1 ?_|refine zg λ_ _=>?_|refine zi λ_ _=>?_)
 refine zC (d:=some 8) rfl (aCd (U:= []) _ (by simp)) ?_
 rintro _ w1 ⟨c,M1,rfl,C1, -,x1⟩
 repeat (first|(refine aI (fun (p:Nat × List Nat) w'=>Ext w w'∧p.1≤7∧ChR [] w' w.heap.size c p.2 ⟨bsW.take p.1,p.1⟩) (fun p=> [(1,.pointer (some ⟨c,0,none⟩)),(9,.int .i64 (p.1:Nat))]) (fun p=>7 - p.1) (0,M1) ⟨rfl,rfl,trivial⟩ ⟨x1,by simp,C1⟩ ?_;rintro ⟨k,M⟩ ρ w2 ⟨x2,hk,C2⟩;simp only at hk C2;dsimp only)|refine go1 ?_|refine zg λ_ _=>?_|refine zi λ_ _=>?_)
 refine zL (x:=.tmp 10) (p:=((k:Nat):Int)<7) rfl (fun h9=>?_) (fun h9=>?_)
 ·have hk7:k<7:=by omega
  have hlt:=C2.lt
  have hbs:=C2.base
  have s2:=x2.size
  have x2':Unit→Ext w w2:=fun _=>x2
  have ek:((k:Nat):Int)+1=((k+1:Nat):Int):=by omega
  clear x2 x1
  repeat (first|refine aT (d:=some 15) (cs:= [.int .i64 5,.string ⟨#[]⟩]) rfl ?_|refine zI (d:=some 16) (cs:= [.int .i64 5,.string ⟨#[]⟩]) rfl (fun b3 w3 x3 a3 hb3=>?_)|refine go1 ?_|refine zg λ_ _=>?_|refine zi λ_ _=>?_)
  have ho:SlR fS M w3 (.slice (some ⟨b3,0,none⟩) 1 1) o5:=bP8 (E:=fS) a3 ⟨rfl,⟨by decide,by decide⟩⟩ (fun hm=>by have:=hlt _ hm;omega)
  rw [ek]
  have hM3:∀y∈M,y<w3.heap.size:=fun y hy=>nLt (hlt y hy) x3.size
  refine zC (d:=some 17) rfl (bEp (M:=M) (outs:=o5) ((k+1:Nat):Int) _ ⟨by omega,by omega⟩ ho (by decide) hM3) ?_
  rintro _ w4 ⟨cs,rfl,t4,x4⟩
  obtain ⟨iv,ov,rfl, -⟩:=id t4
  have ones:=txR.one (t4.rel hM3)
  repeat (first|refine zI (d:=some 18) (cs:=aJ (grT ((k+1:Nat):Int) o5) iv ov) rfl (fun b5 w5 x5 a5 hb5=>?_)|refine go1 ?_|refine zg λ_ _=>?_|refine zi λ_ _=>?_)
  have x25:Ext w2 w5:=x3.trans (x4.trans x5)
  have C5:=C2.ext x25
  have hcl:(aZ (bsW.take k)).length+fE [gw (k+1)]≤80000:=by
   unfold aZ
   rw [wF hk]
   have:=aVn (n:=k) hk
   have e:fE [gw (k+1)]=1:=rfl
   omega
  have hx5:=bPn t4 hM3 x5 a5 hb5 (fun y hy=>nLt (hM3 y hy) x4.size)
  refine zC (d:=some 19) rfl (pC (N:=M) (txs:= [gw (k+1)]) _ C5 hx5 (fun y hy=>hy) (by simp) (by simp) (by simp;exact bSr _) (by simp) hcl (by rw [wF hk];omega) (show k≤100000 by omega)) ?_
  rintro e w6 ⟨⟨i,hE⟩,⟨M',C6,hM6⟩,c6⟩
  have he:e=.nilIface:=by
   rcases hE with ⟨_,h5⟩|⟨h5, -⟩
   ·exact h5
   ·exact absurd (bBh hk7) h5
  subst he
  rw [bJx hk7] at C6
  have x06:Ext w w6:=(Ext.chg ((x2' ()).trans x25) c6).mono (fun y hy=>.inr (hbs y hy))
  repeat (first|refine go1 ?_|refine zg λ_ _=>?_|refine zi λ_ _=>?_)
  exact ⟨(k+1,M'),⟨rfl,rfl,trivial⟩,⟨x06,by simp only;omega,C6⟩,by simp only;omega⟩
 ·have ek:k=7:=by omega
  subst ek
  repeat (first|refine go1 ?_|refine zg λ_ _=>?_|refine zi λ_ _=>?_)
  refine zC (d:=some 23) rfl (iN _ C2) ?_
  rintro _ w3 ⟨rfl,x3⟩
  have C3:=C2.ext x3
  have x03:Ext w w3:=x2.trans x3
  have e7:(⟨bsW.take 7,7⟩:Ch).bs.length=7:=wF (by omega)
  rw [e7]
  clear x1 x2 x3
  repeat (first|(refine aI (fun (p:Nat × List Nat) w'=>Ext w w'∧p.1≤6∧ChR [] w' w.heap.size c p.2 ⟨bsW.take (7 - p.1),7⟩) (fun p=> [(1,.pointer (some ⟨c,0,none⟩)),(3,.int .i64 ((7:Nat):Int)),(24,.int .i64 (p.1:Nat))]) (fun p=>6 - p.1) (0,M) ⟨rfl,rfl,rfl,trivial⟩ ⟨x03,by simp,C3⟩ ?_;rintro ⟨j,M4⟩ ρ w4 ⟨x4,hj,C4⟩;simp only at hj C4;dsimp only)|refine go1 ?_|refine zg λ_ _=>?_|refine zi λ_ _=>?_)
  have e4:(⟨bsW.take (7 - j),7⟩:Ch).bs.length=7 - j:=wF (by omega)
  have hcn:∀k,k≤(⟨bsW.take (7 - j),7⟩:Ch).bs.length→(cM (⟨bsW.take (7 - j),7⟩:Ch).bs k).length≤80000:=fun k hk=>nTr (aVn (by rw [e4] at hk;omega)) (by omega)
  have hb4:=C4.base
  refine zL (x:=.tmp 25) (p:=((j:Nat):Int)<6) rfl (fun h9=>?_) (fun h9=>?_)
  ·have hj6:j<6:=by omega
   obtain ⟨d1,d2⟩:=bLd hj6
   repeat (first|refine go1 ?_|refine zg λ_ _=>?_|refine zi λ_ _=>?_)
   refine zC (d:=some 28) rfl (sO _ C4 hcn (by rw [e4];omega) (show 7≤100000 by omega)) ?_
   rintro _ w5 ⟨tv,M',rfl,C5,hM5,c5,k1, -⟩
   rw [d2] at C5
   rw [d1]
   have k1:=k1 d1
   have eg:(⟨bsW.take (7 - j),7⟩:Ch).bs.getD ((⟨bsW.take (7 - j),7⟩:Ch).bs.length - 1) []= [gw (6 - j+1)]:=by
    rw [e4]
    show (bsW.take (7 - j)).getD (7 - j - 1) []=_
    rw [List.getD_eq_getElem?_getD,List.getElem?_take_of_lt (by omega),←List.getD_eq_getElem?_getD,bE1 (by omega)]
    congr 2;omega
   rw [eg] at k1
   repeat (first|refine zG (d:=some 32) (E:=txR) (l:= [gw (6 - j+1)]) rfl k1 ?_|refine aD (d:=some 33) (.bool false) rfl rfl ?_|refine go1 ?_|refine zg λ_ _=>?_|refine zi λ_ _=>?_)
   exact ⟨(j+1,M'),⟨rfl,rfl,rfl,trivial⟩,⟨(Ext.chg x4 c5).mono (fun y hy=>.inr (hb4 y hy)),by simp only;omega,C5⟩,by simp only;omega⟩
  ·have ej:j=6:=by omega
   subst ej
   repeat (first|refine go1 ?_|refine zg λ_ _=>?_|refine zi λ_ _=>?_)
   refine zC (d:=some 41) rfl (sO _ C4 hcn (by rw [e4];omega) (show 7≤100000 by omega)) ?_
   rintro _ w5 ⟨tv,M',rfl,C5,hM5,c5, -, -⟩
   rw [show fN ⟨bsW.take (7 - 6),7⟩=18 from bMk]
   rw [show eW ⟨bsW.take (7 - 6),7⟩=⟨bsW.take 1,7⟩ from bNc] at C5
   have x05:Ext w w5:=(Ext.chg x4 c5).mono (fun y hy=>.inr (hb4 y hy))
   repeat (first|refine go1 ?_|refine zg λ_ _=>?_|refine zi λ_ _=>?_)
   refine zC (d:=some 52) rfl (iN _ C5) ?_
   rintro _ w6 ⟨rfl,x6⟩
   rw [show (⟨bsW.take 1,7⟩:Ch).bs.length=1 from wF (by omega)]
   repeat (first|refine go1 ?_|refine zg λ_ _=>?_|refine zi λ_ _=>?_)
   refine zC (d:=some 57) rfl (mL _ (C5.ext x6) (by rw [show (aZ (⟨bsW.take 1,7⟩:Ch).bs).length=1 from bFo];omega)) ?_
   rintro v w7 ⟨k7, -,x7⟩
   repeat (first|(refine aY (d:=some 58) rfl k7 ?_;rw [show (aZ (⟨bsW.take 1,7⟩:Ch).bs).length=1 from bFo])|refine go1 ?_|refine zg λ_ _=>?_|refine zi λ_ _=>?_)
   exact aA rfl ⟨rfl,x05.trans (x6.trans x7)⟩
end
end Go.Proofs.YtgloknkcfchnlaaGreat
