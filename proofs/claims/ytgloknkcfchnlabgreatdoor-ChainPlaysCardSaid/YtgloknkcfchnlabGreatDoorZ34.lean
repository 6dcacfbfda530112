/- Contracts: the rules of replacing, by the program. Contracts -/
import Derived.Test.YtgloknkcfchnlabGreatDoorZ12
import Derived.Test.YtgloknkcfchnlabGreatDoorZ30
import Derived.Test.YtgloknkcfchnlabGreatDoorZ31
import Derived.Test.YtgloknkcfchnlabGreatDoorZ32
set_option linter.unusedVariables false
set_option linter.unusedSimpArgs false
namespace Go.Proofs.YtgloknkcfchnlabGreatDoor
section
open Go Go.K
attribute [local irreducible] aG aK aU KOp.wp K.Spec u32 leS vnS str aN cV bH idT aV aJ aO
end
end Go.Proofs.YtgloknkcfchnlabGreatDoor
section
namespace Go.K
open Go Go.Proofs.YtgloknkcfchnlabGreatDoor
def dD (t:TypeId) (w:World) (b mb:Nat) (l:List En):Prop:=Srt l∧∃m:List En,m.Perm l∧jW t w b mb m
theorem dD.chg {t:TypeId} {w w':World} {b mb:Nat} {l:List En} {L:List Nat} (hc:Chg L w w') (h:dD t w b mb l) (h1:b∉L) (h2:mb∉L):dD t w' b mb l:=by
 obtain ⟨hs,m,hp,h⟩:=h
 exact ⟨hs,m,hp,h.chg hc h1 h2⟩
theorem dD.ext {t:TypeId} {w w':World} {b mb:Nat} {l:List En} (hc:Ext w w') (h:dD t w b mb l):dD t w' b mb l:=h.chg hc (by simp) (by simp)
theorem dD.lt {t:TypeId} {w:World} {b mb:Nat} {l:List En} (h:dD t w b mb l):b<w.heap.size∧mb<w.heap.size:=by
 obtain ⟨_,m,_,h⟩:=h
 exact ⟨h.1.lt,h.2.1.lt⟩
theorem dD.ne {t:TypeId} {w:World} {b mb:Nat} {l:List En} (h:dD t w b mb l):b≠mb:=by
 obtain ⟨_,m,_,h⟩:=h
 exact h.ne
theorem dD.mon {t:TypeId} {w:World} {b mb:Nat} {l:List En} (h:dD t w b mb l):Mon l:=by
 obtain ⟨_,m,hp,h⟩:=h
 exact ⟨fun e he=>h.2.2.1 e (hp.mem_iff.2 he),by rw [←pH hp];exact h.2.2.2⟩
end Go.K
namespace Go.Proofs.YtgloknkcfchnlabGreatDoor
open Go Go.K
attribute [local irreducible] aG aK aU KOp.wp K.Spec
theorem bAt {w:World} {b mb:Nat} {l:List En} (h:dD T.coins_Set w b mb l) (hs:∀e∈l,e.2.s.size≤1000000):rS w (.iface T.P_coins_Set (.pointer (some ⟨b,0,none⟩))) (aX l):=by
 obtain ⟨hq,m,hp,h⟩:=h
 have e:aX m=aX l:=funext fun p=>pY hp hq p
 rw [←e]
 exact rS.of_set h fun x hx=>hs x (hp.mem_iff.1 hx)
theorem aBg (w:World):K.Spec Tryz.prog F.coins_New [] w fun v w'=>∃b mb,v=.pointer (some ⟨b,0,none⟩)∧dD T.coins_Set w' b mb []∧w.heap.size≤b∧w.heap.size≤mb∧Ext w w':=
 fT (aRh w) fun v w' ⟨b,mb,e,h,h1,h2,x⟩=>⟨b,mb,e,⟨.nil, [],List.Perm.refl _,h⟩,h1,h2,x⟩
theorem aIg {b mb:Nat} {l:List En} (p:Pt) (w:World) (h:dD T.coins_Set w b mb l):K.Spec Tryz.prog F.coins_Set_Get [.pointer (some ⟨b,0,none⟩),p.val] w fun v w'=>v=.tuple #[(cH l p).val,.bool (aX l p).isSome]∧Ext w w':=by
 obtain ⟨hs,m,hp,h⟩:=h
 refine fT (aH2 p w h) fun v w' ⟨e,x⟩=>⟨?_,x⟩
 rw [e,uC hp hs,pY hp hs]
theorem aHy {b mb:Nat} {l:List En} (p:Pt) (c:Cn) (w:World) (h:dD T.coins_Set w b mb l):K.Spec Tryz.prog F.coins_Set_Put [.pointer (some ⟨b,0,none⟩),p.val,c.val] w fun v w'=>
  v=.int .i64 (aS l p c)∧dD T.coins_Set w' b mb (bZ l p c)∧Chg [b,mb] w w':=by
 obtain ⟨hs,m,hp,h⟩:=h
 refine fT (aRv p c w h) fun v w' ⟨e,h',x⟩=>⟨?_,⟨(yP hp hs p c).2.1,_,(yP hp hs p c).1,h'⟩,x⟩
 rw [e,aGf hp hs]
theorem aFf {b mb:Nat} {l:List En} (p:Pt) (w:World) (h:dD T.coins_Set w b mb l):K.Spec Tryz.prog F.coins_Set_Take [.pointer (some ⟨b,0,none⟩),p.val] w fun v w'=>
  v=.tuple #[(cH l p).val,.int .i64 (bS l p)]∧dD T.coins_Set w' b mb (cC l p)∧Chg [b,mb] w w':=by
 obtain ⟨hs,m,hp,h⟩:=h
 refine fT (aN0 p w h) fun v w' ⟨e,h',x⟩=>⟨?_,⟨(aEn hp hs p).2.1,_,(aEn hp hs p).1,h'⟩,x⟩
 rw [e,uC hp hs,aIf hp hs]
theorem aMp {b mb:Nat} {l:List En} (w:World) (h:dD T.coins_Set w b mb l):K.Spec Tryz.prog F.coins_Set_Total [.pointer (some ⟨b,0,none⟩)] w fun v w'=>v=.int .i64 (tot l)∧Ext w w':=by
 obtain ⟨hs,m,hp,h⟩:=h
 refine fT (aMy w h) fun v w' ⟨e,x⟩=>⟨?_,x⟩
 rw [e,pH hp]
theorem lL {b mb:Nat} {l:List En} (w:World) (h:dD T.coins_Set w b mb l) (hn:l.length≤100000):K.Spec Tryz.prog F.coins_Set_All [.pointer (some ⟨b,0,none⟩)] w fun v w'=>SlE bE w' v l∧(∀x∈aH v,w.heap.size≤x)∧Ext w w':=by
 obtain ⟨hs,m,hp,h⟩:=h
 refine fT (aQ4 w h (by rw [hp.length_eq];exact hn)) fun v w' ⟨l',hp',hs',hsl,hb,x⟩=>⟨?_,hb,x⟩
 have hp2:=hp'.trans hp
 have e:l'=l:=aBa hp2 (hs'.imp fun {a b} q=>by rwa [aDx] at q) hs
 rw [←e];exact hsl
theorem xR {b mb:Nat} {l:List En} (w:World) (h:dD T.coins_Set w b mb l):K.Spec Tryz.prog F.coins_Set_Copy [.pointer (some ⟨b,0,none⟩)] w fun v w'=>
  ∃b' mb',v=.pointer (some ⟨b',0,none⟩)∧dD T.coins_Set w' b' mb' l∧w.heap.size≤b'∧w.heap.size≤mb'∧Ext w w':=by
 obtain ⟨hs,m,hp,h⟩:=h
 exact fT (aNz w h) fun v w' ⟨b',mb',e,h',h1,h2,x⟩=>⟨b',mb',e,⟨hs,m,hp,h'⟩,h1,h2,x⟩
end Go.Proofs.YtgloknkcfchnlabGreatDoor
end
namespace Go.K
section
open Go Go.Proofs.YtgloknkcfchnlabGreatDoor
def SC (l:List En):Prop:=∀e∈l,e.2.s.size≤40∧jM e.1.i
theorem SC.nil:SC []:=by simp [SC]
theorem SC.take {l:List En} (h:SC l) (hs:Srt l) (p:Pt):SC (cC l p):=fun e he=>by
 rw [lF hs] at he
 exact h e (List.mem_filter.1 he).1
theorem SC.put {l:List En} (h:SC l) (hs:Srt l) {p:Pt} {c:Cn} (hc:c.s.size≤40∧jM p.i):SC (bZ l p c):=fun e he=>by
 by_cases h0:aS l p c=0
 ·rcases List.mem_append.1 ((aEz hs h0).mem_iff.1 he) with he|he
  ·exact h e he
  ·simp at he;subst he;exact hc
 ·unfold bZ at he;rw [if_neg h0] at he;exact h e he
theorem aGa:∀(ins:List TIn) {l:List En},CG l→SC l→SC (cS l ins)
 | [],_,_,h=>h
 |x::xs,_,hg,h=>aGa xs (hg.take x.p) (h.take hg.srt x.p)
theorem aQt {s:ByteArray} {h:Int}:∀(os:List TOut) (i:Nat) {m:List En},i+os.length≤4294967296→CG m→(∀o∈os,o.s.size≤40)→SC m→SC (fW s h i os m).1
 | [],_,_,_,_,_,hm=>hm
 |o::os,i,m,hi,hg,ho,hm=>by
  rw [List.length_cons] at hi
  unfold fW
  split
  ·exact hm
  ·exact aQt os (i+1) (by omega) (hg.put _ _) (fun y hy=>ho y (by simp [hy])) (hm.put hg.srt ⟨ho o (by simp),by show jM ((i:Nat):Int);unfold jM;omega⟩)
theorem aRb {f:Pt→Option Cn} {t:Tx} {h:Int} (h0:(gY f t h).2.1=0):aJ t=0:=by
 unfold gY at h0
 split at h0
 ·exact h0
 ·rename_i hc;simpa using hc
theorem uP {l:List En} {t:Tx} {i:Nat} {h:Int} (h0:(gL l t i h).1=0):aJ t=0:=by
 unfold gL at h0
 split at h0
 ·split at h0
  ·exact h0
  ·rename_i hc;simpa using hc
 ·exact aRb h0
theorem aRd {t:Tx} (h:aJ t=0):∀o∈t.outs,o.s.size≤40:=by
 intro o ho
 unfold aJ at h
 split at h
 ·cases h
 ·split at h
  ·cases h
  ·rename_i hl
   simp only [pN,Bool.or_eq_true,not_or,List.any_eq_true,not_exists,not_and] at hl
   have:=hl.1 o ho
   simp only [nB,decide_eq_true_eq] at this
   omega
theorem aOf {t:Tx} (h:aJ t=0):t.outs.length≤256:=by
 unfold aJ at h
 split at h
 ·cases h
 ·rename_i hc
  simp only [Bool.not_eq_true',Bool.not_eq_false] at hc
  simp only [fN,Bool.and_eq_true,decide_eq_true_eq] at hc
  omega
theorem aWq {l:List En} (hg:CG l) (h:SC l) (t:Tx):SC (iJ l t):=by
 unfold iJ
 split
 ·exact h
 ·exact aGa _ hg h
theorem uH {l:List En} (hg:CG l) (h:SC l) (t:Tx) (i:Nat) (b:Int):SC (cG l t i b).1:=by
 unfold cG
 split
 ·exact h
 ·rename_i hm
  split
  ·exact h
  ·have hc:=uP (l:=l) (t:=t) (i:=i) (h:=b) (by simpa using hm)
   exact aQt _ _ (by have:=aOf hc;omega) (aD0 hg t) (aRd hc) (aWq hg h t)
theorem aQa {l0:List En} {h:Int} (h0:SC l0):∀(txs:List Tx) (i:Nat) {m:List En},CG m→SC m→SC (jC l0 h i txs m).1
 | [],_,_,_,hm=>hm
 |t::ts,i,m,hg,hm=>by
  unfold jC
  split
  ·exact h0
  ·exact aQa h0 ts (i+1) (jY hg t i h) (uH hg hm t i h)
theorem vK {l:List En} (hg:CG l) (h:SC l) (txs:List Tx) (b:Int):SC (aP l txs b).1:=by
 unfold aP
 split
 ·exact h
 ·exact aQa h txs 0 hg h
theorem qR {l:List En} (hg:CG l) (txs:List Tx) (b:Int):(aP l txs b).1.length≤l.length+cN txs:=by
 unfold aP
 split
 ·simp
 ·have:=aNi (l0:=l) (h:=b) txs 0 hg (by omega)
  omega
structure Ch where
 bs:List (List Tx)
 top:Nat
def bU (bs:List (List Tx)):Nat→List En
 |0=> []
 |k+1=>(aP (bU bs k) (bs.getD k []) ((k+1:Nat):Int)).1
def aY (bs:List (List Tx)):List En:=bU bs bs.length
theorem fU (bs:List (List Tx)):∀k,CG (bU bs k)
 |0=>CG.nil
 |k+1=>vI (fU bs k) _ _
theorem qL (bs:List (List Tx)):∀k,SC (bU bs k)
 |0=>SC.nil
 |k+1=>vK (fU bs k) (qL bs k) _ _
theorem xM {bs:List (List Tx)} {n:Nat} (h:∀b∈bs,cN b≤n):∀k,(bU bs k).length≤n*k
 |0=>by simp [bU]
 |k+1=>by
  have h1:=xM h k
  have h2:=qR (fU bs k) (bs.getD k []) ((k+1:Nat):Int)
  have h3:cN (bs.getD k [])≤n:=by
   rw [List.getD_eq_getElem?_getD]
   cases hk:bs[k]? with
   |none=>simp [cN]
   |some b=>exact h b (List.mem_of_getElem? hk)
  have e:bU bs (k+1)=(aP (bU bs k) (bs.getD k []) ((k+1:Nat):Int)).1:=rfl
  rw [e,Nat.mul_succ];omega
theorem kH (bs:List (List Tx)) (x:List Tx):∀k,k≤bs.length→bU (bs++ [x]) k=bU bs k
 |0,_=>rfl
 |k+1,h=>by
  have e1:(bs++ [x]).getD k []=bs.getD k []:=by
   rw [List.getD_eq_getElem?_getD,List.getD_eq_getElem?_getD,List.getElem?_append_left (by omega)]
  unfold bU
  rw [kH bs x k (by omega),e1]
theorem aCm (bs:List (List Tx)) (x:List Tx):aY (bs++ [x])=(aP (aY bs) x ((bs.length+1:Nat):Int)).1:=by
 unfold aY
 rw [List.length_append]
 show (aP (bU (bs++ [x]) bs.length) ((bs++ [x]).getD bs.length []) ((bs.length+1:Nat):Int)).1=_
 rw [kH bs x _ (Nat.le_refl _)]
 have e:(bs++ [x]).getD bs.length []=x:=by simp [List.getD_eq_getElem?_getD]
 rw [e]
theorem nX (bs:List (List Tx)):∀(k n:Nat),k≤n→n≤bs.length→bU (bs.take n) k=bU bs k
 |0,_,_,_=>rfl
 |k+1,n,h,hn=>by
  have e1:(bs.take n).getD k []=bs.getD k []:=by
   rw [List.getD_eq_getElem?_getD,List.getD_eq_getElem?_getD,List.getElem?_take_of_lt (by omega)]
  unfold bU
  rw [nX bs k n (by omega) hn,e1]
theorem aNd {bs:List (List Tx)} {n:Nat} (hn:n≤bs.length):aY (bs.take n)=bU bs n:=by
 unfold aY
 rw [List.length_take,Nat.min_eq_left hn]
 exact nX bs n n (Nat.le_refl _) hn
def jN (c:Ch) (x:List Tx):Int × Int:=((aP (aY c.bs) x ((c.bs.length+1:Nat):Int)).2.1,(aP (aY c.bs) x ((c.bs.length+1:Nat):Int)).2.2.1)
def fI (c:Ch) (x:List Tx):Ch:=if (jN c x).1≠0 then c else ⟨c.bs++ [x],max c.top (c.bs.length+1)⟩
def fH (c:Ch):Int:=if c.bs.length=0 then 8 else if c.bs.length+6≤c.top then 18 else 0
def eT (c:Ch):Ch:=if fH c≠0 then c else ⟨c.bs.take (c.bs.length - 1),c.top⟩
structure Lk where
 txs:List Tx
 spent:List En
 made:List En
def lkN (bs:List (List Tx)) (k:Nat):Lk:=⟨bs.getD k [],bO (bU bs k) (bU bs (k+1)),bO (bU bs (k+1)) (bU bs k)⟩
def bQ (bs:List (List Tx)):List Lk:=(List.range bs.length).map (lkN bs)
theorem qU (bs:List (List Tx)):(bQ bs).length=bs.length:=by simp [bQ]
theorem aKz (bs:List (List Tx)) (x:List Tx):bQ (bs++ [x])=bQ bs++ [⟨x,bO (aY bs) (aP (aY bs) x ((bs.length+1:Nat):Int)).1,bO (aP (aY bs) x ((bs.length+1:Nat):Int)).1 (aY bs)⟩]:=by
 unfold bQ
 rw [List.length_append,List.length_singleton,List.range_succ,List.map_append]
 congr 1
 ·refine List.map_congr_left fun k hk=>?_
  have hk:=List.mem_range.1 hk
  unfold lkN
  rw [kH _ _ k (by omega),kH _ _ (k+1) (by omega)]
  have e1:(bs++ [x]).getD k []=bs.getD k []:=by
   rw [List.getD_eq_getElem?_getD,List.getD_eq_getElem?_getD,List.getElem?_append_left hk]
  rw [e1]
 ·simp only [List.map_cons,List.map_nil]
  unfold lkN
  have e:(bs++ [x]).getD bs.length []=x:=by simp [List.getD_eq_getElem?_getD]
  have e2:=aCm bs x
  unfold aY at e2
  rw [List.length_append,List.length_singleton] at e2
  rw [e,kH _ _ _ (Nat.le_refl _),e2];rfl
theorem aLk {bs:List (List Tx)} {n:Nat} (h:n≤bs.length):bQ (bs.take n)=(bQ bs).take n:=by
 unfold bQ
 rw [←List.map_take,List.take_range,List.length_take,Nat.min_eq_left h]
 refine List.map_congr_left fun k hk=>?_
 have hk:=List.mem_range.1 hk
 unfold lkN
 rw [nX _ k _ (by omega) h,nX _ (k+1) _ (by omega) h]
 have e1:(bs.take n).getD k []=bs.getD k []:=by
  rw [List.getD_eq_getElem?_getD,List.getD_eq_getElem?_getD,List.getElem?_take_of_lt (by omega)]
 rw [e1]
theorem aQy {bs:List (List Tx)} {k:Nat} (h:k<bs.length):(bQ bs)[k]'(by rw [qU];exact h)=lkN bs k:=by
 unfold bQ
 rw [List.getElem_map,List.getElem_range]
theorem aHa {bs:List (List Tx)} {k:Nat}:nG (bU bs (k+1)) (lkN bs k).made (lkN bs k).spent=(true,bU bs k):=aBl (fU bs (k+1)) (fU bs k)
end
end Go.K
section
namespace Go.K
open Go Go.Proofs.YtgloknkcfchnlabGreatDoor
theorem aKb (c d:Cn):(decide (c.v=d.v)&&(decide (c.s=d.s)&&(decide (c.h=d.h)&&true)))=decide (c=d):=by
 cases c;cases d
 simp [Cn.mk.injEq,Bool.decide_and]
theorem aNx {a b:List En} {i:Nat} (h:i<a.length):bO (a.take (i+1)) b=bO (a.take i) b++if aX b a[i].1=some a[i].2 then [] else [a[i]]:=by
 unfold bO
 rw [List.take_succ_eq_append_getElem h,List.filter_append]
 congr 1
 by_cases hx:aX b a[i].1=some a[i].2<;>simp [hx]
theorem pT (a b:List En):(bO a b).length≤a.length:=List.length_filter_le _ _
theorem aC0 {l:List En} (h:Srt l) (p:Pt):cH l p=(aX l p).getD cn0:=(uC (List.Perm.refl l) h p).symm
end Go.K
namespace Go.Proofs.YtgloknkcfchnlabGreatDoor
open Go Go.K
attribute [local irreducible] aG aK aU KOp.wp K.Spec cH cC bZ aS bS bO hD qD
set_option maxHeartbeats 1000000 in
theorem aGg {a ma b mb:Nat} {la lb:List En} (w:World) (ha:dD T.coins_Set w a ma la) (hb:dD T.coins_Set w b mb lb) (hn:la.length≤90000):K.Spec Tryz.prog F.block_missing [.pointer (some ⟨a,0,none⟩),.pointer (some ⟨b,0,none⟩)] w fun r w'=>Own bE T.coins_Entry w.heap.size w' r (bO la lb)∧Ext w w':=by
 have hsb:=hb.1
 refine aDk rfl ?_
 unfold rM
 refine oy ?_
 repeat' (first|(refine zC (d:=some 11) rfl (lL _ ha (by omega)) ?_;rintro v11 w1 ⟨hv1,hb1,x1⟩)|refine bP (d:=some 12) rfl (SlE.ext (w:=w1) (by exact fx) hv1) ?_|(refine aL (fun (p:Nat × Value) w'=>Ext w1 w'∧p.1≤la.length∧Own bE T.coins_Entry w1.heap.size w' p.2 (bO (la.take p.1) lb)) (fun p=> [(0,.pointer (some ⟨a,0,none⟩)),(1,.pointer (some ⟨b,0,none⟩)),(5,p.2),(11,v11),(12,.int .i64 (la.length:Nat)),(13,.int .i64 (p.1:Nat))]) (fun p=>la.length - p.1) (0,.slice none 0 0) ⟨rfl,rfl,rfl,rfl,rfl,rfl,trivial⟩ ⟨Ext.refl _,by simp,by unfold bO;exact Own.nil _ _ _⟩ ?_;rintro ⟨i,v5⟩ ρ w2 ⟨x2,hi,ho⟩;simp only at hi ho;dsimp only)|refine zL (x:=.tmp 14) (p:=((i:Nat):Int)<((la.length:Nat):Int)) rfl (fun h6=>?_) (fun h6=>?_)|refine go1 ?_|refine zg λ_ _=>?_|refine zi λ_ _=>?_)
 ·have hil:i<la.length:=by omega
  have ht:=aNx (b:=lb) hil
  have hll:=pT (la.take i) lb
  have hll2:(la.take i).length≤i:=by rw [List.length_take];omega
  have x02':Unit→Ext w w2:=fun _=>x1.trans x2
  have hv2:=hv1.ext x2
  have hb2:=hb.ext (x02' ())
  have hs2:=x2.size
  have x12':Unit→Ext w1 w2:=fun _=>x2
  obtain ⟨x,hx⟩:∃x,x=la[i]:=⟨_,rfl⟩
  rw [←hx] at ht
  clear x1 x2
  repeat (first|(refine aQ (d:=some 15) (E:=bE) rfl rfl (n:=i) (l:=la) (SlE.ext (w:=w2) (by exact fx) hv2) rfl hil (fun ad3 r3=>?_);rw [←hx] at r3)|refine zE (d':=7) (fun _=>rfl) rfl rfl rfl (fun b7 w7 x7 a7 (r7:Row w7 ⟨b7,0,none⟩ (bE.f x)) hb7=>?_)|(refine zC (d:=some 21) rfl (aIg x.1 _ (hb2.ext (by exact fx))) ?_;rintro _ w8 ⟨rfl,x8⟩)|refine go1 ?_|refine zg λ_ _=>?_|refine zi λ_ _=>?_)
  by_cases hsame:aX lb x.1=some x.2
  ·have e1:cH lb x.1=x.2:=by rw [aC0 hsb,hsame];rfl
   rw [if_pos hsame,List.append_nil] at ht
   rw [e1,hsame,Option.isSome_some]
   repeat (first|refine zE (d':=8) (fun _=>rfl) rfl rfl rfl (fun b9 w9 x9 a9 (r9:Row w9 ⟨b9,0,none⟩ x.2.cs) hb9=>?_)|refine aD (d:=some 30) (.bool false) rfl (congrArg (fun b=>some (Value.bool (!b))) ((aKb x.2 x.2).trans (dTr rfl))) ?_|refine go1 ?_|refine zg λ_ _=>?_|refine zi λ_ _=>?_)
   exact ⟨(i+1,v5),⟨rfl,rfl,rfl,rfl,rfl,rfl,trivial⟩,⟨(x12' ()).trans (by exact fx),by simp only;omega,by simp only;rw [ht];exact ho.ext (by exact fx)⟩,by simp only;omega⟩
  ·rw [if_neg hsame] at ht
   cases hg:aX lb x.1 with
   |none=>
    rw [Option.isSome_none]
    repeat (first|refine zE (d':=8) (fun _=>rfl) rfl rfl rfl (fun b9 w9 x9 a9 (r9:Row w9 ⟨b9,0,none⟩ (cH lb x.1).cs) hb9=>?_)|refine zI (d:=some 34) (cs:=bE.f x) rfl (fun b10 w10 x10 a10 hb10=>?_)|refine bY (d:=some 35) (E:=bE) (v:=v5) (l2:= [x]) rfl (ho.ext (by exact fx)) (nTr hs2 (Ext.size (w:=w2) (by exact fx))) rfl rfl (eH a10 rfl) rfl rfl (by simp only [List.length_cons,List.length_nil];omega) (fun v12 w12 o12 c12=>?_)|refine go1 ?_|refine zg λ_ _=>?_|refine zi λ_ _=>?_)
    exact ⟨(i+1,v12),⟨rfl,rfl,rfl,rfl,rfl,rfl,trivial⟩,⟨(Ext.chg ((x12' ()).trans (show Ext w2 _ by exact fx)) c12).mono (fun y hy=>.inr (ho.base y hy)),by simp only;omega,by simp only;rw [ht];exact o12⟩,by simp only;omega⟩
   |some d=>
    have hd:d≠x.2:=fun e=>hsame (by rw [hg,e])
    have e1:cH lb x.1=d:=by rw [aC0 hsb,hg];rfl
    rw [e1,Option.isSome_some]
    repeat (first|refine zE (d':=8) (fun _=>rfl) rfl rfl rfl (fun b9 w9 x9 a9 (r9:Row w9 ⟨b9,0,none⟩ d.cs) hb9=>?_)|refine aD (d:=some 30) (.bool true) rfl (congrArg (fun b=>some (Value.bool (!b))) ((aKb d x.2).trans (dFa hd))) ?_|refine zI (d:=some 34) (cs:=bE.f x) rfl (fun b10 w10 x10 a10 hb10=>?_)|refine bY (d:=some 35) (E:=bE) (v:=v5) (l2:= [x]) rfl (ho.ext (by exact fx)) (nTr hs2 (Ext.size (w:=w2) (by exact fx))) rfl rfl (eH a10 rfl) rfl rfl (by simp only [List.length_cons,List.length_nil];omega) (fun v12 w12 o12 c12=>?_)|refine go1 ?_|refine zg λ_ _=>?_|refine zi λ_ _=>?_)
    exact ⟨(i+1,v12),⟨rfl,rfl,rfl,rfl,rfl,rfl,trivial⟩,⟨(Ext.chg ((x12' ()).trans (show Ext w2 _ by exact fx)) c12).mono (fun y hy=>.inr (ho.base y hy)),by simp only;omega,by simp only;rw [ht];exact o12⟩,by simp only;omega⟩
 ·have e:la.take i=la:=tLe (by omega)
  rw [e] at ho
  repeat (first|refine go1 ?_|refine zg λ_ _=>?_|refine zi λ_ _=>?_)
  exact aB rfl ⟨ho.lower x1.size,x1.trans x2⟩
end Go.Proofs.YtgloknkcfchnlabGreatDoor
end
section
namespace Go.K
open Go Go.Proofs.YtgloknkcfchnlabGreatDoor
def lkR:R Lk where
 k:=5
 pos:=by decide
 ag:=true
 rel:=fun M w cs x=>∃tv iv sv mv mp,cs= [tv,iv,sv,mv,mp]∧SlR txR M w tv x.txs∧iv.oneCell'=true∧SlR enR M w sv x.spent∧SlR enR M w mv x.made∧mp.oneCell'=true
 len:=fun ⟨_,_,_,_,_,h,_⟩=>by rw [h];rfl
 one:=fun ⟨tv,iv,sv,mv,mp,h,h1,h2,h3,h4,h5⟩ v hv=>by
  obtain ⟨b,c,rfl⟩:=h1.form
  obtain ⟨b',c',rfl⟩:=h3.form
  obtain ⟨b'',c'',rfl⟩:=h4.form
  subst h;simp at hv;rcases hv with rfl|rfl|rfl|rfl|rfl
  ·rfl
  ·exact h2
  ·rfl
  ·rfl
  ·exact h5
 step:=fun ⟨tv,iv,sv,mv,mp,h,h1,h2,h3,h4,h5⟩ c hL hM=>⟨tv,iv,sv,mv,mp,h,h1.step c hL hM,h2,h3.step c hL hM,h4.step c hL hM,h5⟩
end Go.K
namespace Go.Proofs.YtgloknkcfchnlabGreatDoor
open Go Go.K
def aG5 (b:Nat) (lv:Value) (top:Nat):List Value:= [.pointer (some ⟨b,0,none⟩),lv,.int .i64 (top:Nat)]
def ChR (U:List Nat) (w:World) (B c:Nat) (M:List Nat) (ch:Ch):Prop:=∃b mb lv,At w c (.cells (aG5 b lv ch.top).toArray T.chain_Chain (0,0))∧dD T.coins_Set w b mb (aY ch.bs)∧bD lkR T.chain_link B ([c,b,mb]++U) w lv (bQ ch.bs)∧M= [c,b,mb]++aH lv∧B≤c∧B≤b∧B≤mb∧c≠b∧c≠mb∧(∀x∈aH lv,x≠c∧x≠b∧x≠mb)∧∀x∈M,x∉U
theorem ChR.ext {U:List Nat} {w w':World} {B c:Nat} {M:List Nat} {ch:Ch} (h:ChR U w B c M ch) (x:Ext w w'):ChR U w' B c M ch:=by
 obtain ⟨b,mb,lv,h1,h2,h3,h4⟩:=h
 exact ⟨b,mb,lv,h1.ext x,h2.ext x,h3.ext x,h4⟩
theorem ChR.lt {U:List Nat} {w:World} {B c:Nat} {M:List Nat} {ch:Ch} (h:ChR U w B c M ch):∀x∈M,x<w.heap.size:=by
 obtain ⟨b,mb,lv,h1,h2,h3,rfl, -⟩:=h
 intro x hx
 simp only [List.cons_append,List.nil_append,List.mem_cons] at hx
 rcases hx with rfl|rfl|rfl|hx
 ·exact h1.lt
 ·exact h2.lt.1
 ·exact h2.lt.2
 ·exact h3.lt x hx
theorem ChR.base {U:List Nat} {w:World} {B c:Nat} {M:List Nat} {ch:Ch} (h:ChR U w B c M ch):∀x∈M,B≤x:=by
 obtain ⟨b,mb,lv,h1,h2,h3,rfl,g1,g2,g3, -⟩:=h
 intro x hx
 simp only [List.cons_append,List.nil_append,List.mem_cons] at hx
 rcases hx with rfl|rfl|rfl|hx
 ·exact g1
 ·exact g2
 ·exact g3
 ·exact h3.base x hx
theorem ChR.off {U:List Nat} {w:World} {B c:Nat} {M:List Nat} {ch:Ch} (h:ChR U w B c M ch):∀x∈M,x∉U:=by
 obtain ⟨b,mb,lv,h1,h2,h3,h4,g1,g2,g3,g4,g5,g6,g7⟩:=h
 exact g7
theorem ChR.step {U L:List Nat} {w w':World} {B c:Nat} {M:List Nat} {ch:Ch} (h:ChR U w B c M ch) (cc:Chg L w w') (hL:∀y∈L,y∈U∨w.heap.size≤y):ChR U w' B c M ch:=by
 have hn:∀y∈L,y∉M:=fun y hy hm=>(hL y hy).elim (h.off y hm) (fun q=>by have:=h.lt y hm;omega)
 obtain ⟨b,mb,lv,h1,h2,h3,rfl,g⟩:=h
 exact ⟨b,mb,lv,h1.chg cc (fun q=>hn _ q (by simp)),h2.chg cc (fun q=>hn _ q (by simp)) (fun q=>hn _ q (by simp)),h3.step cc (fun y hy=>⟨fun q=>hn y hy (by simp [q]),(hL y hy).imp (fun q=>by simp [q]) id⟩) (fun y hy=>.inl hy),rfl,g⟩
theorem ChR.more {U U':List Nat} {w:World} {B c:Nat} {M:List Nat} {ch:Ch} (h:ChR U w B c M ch) (hU:∀y∈U',y∈U∨w.heap.size≤y):ChR U' w B c M ch:=by
 have hlt:=h.lt
 obtain ⟨b,mb,lv,h1,h2,h3,h4,g1,g2,g3,g4,g5,g6,g7⟩:=h
 refine ⟨b,mb,lv,h1,h2,h3.step (Chg.refl [] w) (by simp) (fun y hy=>?_),h4,g1,g2,g3,g4,g5,g6,fun x hx hu=>(hU x hu).elim (g7 x hx) (fun q=>by have:=hlt x hx;omega)⟩
 rcases List.mem_append.1 hy with hy|hy
 ·exact .inl (List.mem_append_left _ hy)
 ·exact (hU y hy).imp (fun q=>List.mem_append_right _ q) id
end Go.Proofs.YtgloknkcfchnlabGreatDoor
end
section
namespace Go.K
open Go Go.Proofs.YtgloknkcfchnlabGreatDoor
theorem aNu {xs:List En} {m:List En} {i:Nat} (h:i<xs.length):hD (xs.drop i) m=if bS m xs[i].1=0∧cH m xs[i].1=xs[i].2 then hD (xs.drop (i+1)) (cC m xs[i].1) else (false,cC m xs[i].1):=by
 rw [List.drop_eq_getElem_cons h,hD]
theorem aSj {xs:List En} {m:List En} {i:Nat} (h:i<xs.length):qD (xs.drop i) m=if aS m xs[i].1 xs[i].2=0 then qD (xs.drop (i+1)) (bZ m xs[i].1 xs[i].2) else (false,m):=by
 rw [List.drop_eq_getElem_cons h,qD]
end Go.K
namespace Go.Proofs.YtgloknkcfchnlabGreatDoor
open Go Go.K
attribute [local irreducible] aG aK aU KOp.wp K.Spec cH cC bZ aS bS bO hD qD
set_option maxHeartbeats 2000000 in
theorem xP {b mb:Nat} {l out inn:List En} {vo vi:Value} (w:World) (hS:dD T.coins_Set w b mb l) (ho:SlR enR [b,mb] w vo out) (hi:SlR enR [b,mb] w vi inn) (hn1:out.length≤100000) (hn2:inn.length≤100000):K.Spec Tryz.prog F.block_swap [.pointer (some ⟨b,0,none⟩),vo,vi] w fun r w'=>r=.bool (nG l out inn).1∧dD T.coins_Set w' b mb (nG l out inn).2∧Chg [b,mb] w w':=by
 have hlt:=hS.lt
 refine aKc rfl ?_
 unfold yT
 refine oy ?_
 repeat' (first|refine zG (d:=some 14) (E:=enR) (M:= [b,mb]) (l:=out) rfl ho ?_|(refine aL (fun (p:Nat × List En) w'=>Chg [b,mb] w w'∧p.1≤out.length∧dD T.coins_Set w' b mb p.2∧hD out l=hD (out.drop p.1) p.2) (fun p=> [(0,.pointer (some ⟨b,0,none⟩)),(2,vi),(13,vo),(14,.int .i64 (out.length:Nat)),(15,.int .i64 (p.1:Nat))]) (fun p=>out.length - p.1) (0,l) ⟨rfl,rfl,rfl,rfl,rfl,trivial⟩ ⟨Chg.refl _ _,by simp,hS,rfl⟩ ?_;rintro ⟨i,m⟩ ρ w2 ⟨c2,hi2,hS2,hk⟩;simp only at hi2 hS2 hk;dsimp only)|refine zL (x:=.tmp 16) (p:=((i:Nat):Int)<((out.length:Nat):Int)) rfl (fun h6=>?_) (fun h6=>?_)|refine go1 ?_|refine zg λ_ _=>?_|refine zi λ_ _=>?_)
 ·have hil:i<out.length:=by omega
  rw [aNu hil] at hk
  have ho2:SlR enR [b,mb] w2 vo out:=ho.step c2 (fun y hy=>.inl hy) (fun y hy=>.inl hy)
  have s2:=c2.size
  obtain ⟨x,hx⟩:∃x,x=out[i]:=⟨_,rfl⟩
  rw [←hx] at hk
  repeat (first|(refine aM (d:=some 17) (E:=enR) (M:= [b,mb]) rfl rfl (n:=i) (l:=out) ho2 rfl hil (fun ad cs r4 he=>?_);rw [←hx] at he;obtain rfl:cs=bE.f x:=he)|refine zE (d':=8) (fun _=>rfl) rfl rfl rfl (fun b7 w7 x7 a7 (r7:Row w7 ⟨b7,0,none⟩ (bE.f x)) hb7=>?_)|refine go1 ?_|refine zg λ_ _=>?_|refine zi λ_ _=>?_)
  have l7:=a7.lt
  refine zC (d:=some 23) rfl (aFf x.1 _ (hS2.ext x7)) ?_
  rintro _ w8 ⟨rfl,S8,c8⟩
  have r8:Row w8 ⟨b7,0,none⟩ (bE.f x):=Row.chg c8 r7 (by simp;omega)
  have c08:Unit→Chg [b,mb] w w8:=fun _=>(c2.trans (Chg.trans x7 c8)).mono (by simp)
  clear x7 a7 r7 c8 r4 c2
  repeat (first|refine zE (d':=9) (fun _=>rfl) rfl rfl rfl (fun b9 w9 x9 a9 (r9:Row w9 ⟨b9,0,none⟩ (cH m x.1).cs) hb9=>?_)|refine go1 ?_|refine zg λ_ _=>?_|refine zi λ_ _=>?_)
  have fin:∀{w':World},Ext w8 w'→Chg [b,mb] w w':=fun y=>((c08 ()).trans y).mono (by simp)
  by_cases h1:bS m x.1=0
  ·by_cases h2:cH m x.1=x.2
   ·rw [if_pos ⟨h1,h2⟩] at hk
    rw [h2] at r9
    rw [h1]
    repeat (first|refine aD (d:=some 32) (.bool false) rfl (congrArg (fun b=>some (Value.bool (!b))) ((aKb x.2 x.2).trans (dTr rfl))) ?_|refine go1 ?_|refine zg λ_ _=>?_|refine zi λ_ _=>?_)
    exact ⟨(i+1,cC m x.1),⟨rfl,rfl,rfl,rfl,rfl,trivial⟩,⟨fin (by exact fx),by simp only;omega,S8.ext (by exact fx),hk⟩,by simp only;omega⟩
   ·rw [if_neg (fun q=>h2 q.2)] at hk
    rw [h1]
    repeat (first|refine aD (d:=some 32) (.bool true) rfl (congrArg (fun b=>some (Value.bool (!b))) ((aKb (cH m x.1) x.2).trans (dFa h2))) ?_|refine go1 ?_|refine zg λ_ _=>?_|refine zi λ_ _=>?_)
    refine aB rfl ⟨?_,?_,fin (by exact fx)⟩
    ·unfold nG;rw [hk];rfl
    ·unfold nG;rw [hk];exact S8.ext (by exact fx)
  ·rw [if_neg (fun q=>h1 q.1)] at hk
   repeat (first|refine aZ (t:=28) (p:=bS m x.1=0) rfl (fun _=>?_) (fun h=>absurd h h1)|refine go1 ?_|refine zg λ_ _=>?_|refine zi λ_ _=>?_)
   refine aB rfl ⟨?_,?_,fin (by exact fx)⟩
   ·unfold nG;rw [hk];rfl
   ·unfold nG;rw [hk];exact S8.ext (by exact fx)
 ·have ei:i=out.length:=by omega
  subst ei
  rw [List.drop_length,hD] at hk
  have hi3:SlR enR [b,mb] w2 vi inn:=hi.step c2 (fun y hy=>.inl hy) (fun y hy=>.inl hy)
  have hsw:nG l out inn=qD inn m:=by unfold nG;rw [hk];rfl
  rw [hsw]
  have s2:=c2.size
  repeat' (first|refine zG (d:=some 36) (E:=enR) (M:= [b,mb]) (l:=inn) rfl hi3 ?_|(refine aL (fun (p:Nat × List En) w'=>Chg [b,mb] w2 w'∧p.1≤inn.length∧dD T.coins_Set w' b mb p.2∧qD inn m=qD (inn.drop p.1) p.2) (fun p=> [(0,.pointer (some ⟨b,0,none⟩)),(35,vi),(36,.int .i64 (inn.length:Nat)),(37,.int .i64 (p.1:Nat))]) (fun p=>inn.length - p.1) (0,m) ⟨rfl,rfl,rfl,rfl,trivial⟩ ⟨Chg.refl _ _,by simp,hS2,rfl⟩ ?_;rintro ⟨j,q⟩ ρ w3 ⟨c3,hj2,hS3,hk3⟩;simp only at hj2 hS3 hk3;dsimp only)|refine zL (x:=.tmp 38) (p:=((j:Nat):Int)<((inn.length:Nat):Int)) rfl (fun h7=>?_) (fun h7=>?_)|refine go1 ?_|refine zg λ_ _=>?_|refine zi λ_ _=>?_)
  ·have hjl:j<inn.length:=by omega
   rw [aSj hjl] at hk3
   have hi4:SlR enR [b,mb] w3 vi inn:=hi3.step c3 (fun y hy=>.inl hy) (fun y hy=>.inl hy)
   have s3:=c3.size
   obtain ⟨x,hx⟩:∃x,x=inn[j]:=⟨_,rfl⟩
   rw [←hx] at hk3
   repeat (first|(refine aM (d:=some 39) (E:=enR) (M:= [b,mb]) rfl rfl (n:=j) (l:=inn) hi4 rfl hjl (fun ad cs r4 he=>?_);rw [←hx] at he;obtain rfl:cs=bE.f x:=he)|refine zE (d':=12) (fun _=>rfl) rfl rfl rfl (fun b7 w7 x7 a7 (r7:Row w7 ⟨b7,0,none⟩ (bE.f x)) hb7=>?_)|refine go1 ?_|refine zg λ_ _=>?_|refine zi λ_ _=>?_)
   refine zC (d:=some 46) rfl (aHy x.1 x.2 _ (hS3.ext x7)) ?_
   rintro _ w8 ⟨rfl,S8,c8⟩
   have c08:Chg [b,mb] w2 w8:=(c3.trans (Chg.trans x7 c8)).mono (by simp)
   by_cases h1:aS q x.1 x.2=0
   ·rw [if_pos h1] at hk3
    rw [h1]
    repeat (first|refine go1 ?_|refine zg λ_ _=>?_|refine zi λ_ _=>?_)
    exact ⟨(j+1,bZ q x.1 x.2),⟨rfl,rfl,rfl,rfl,trivial⟩,⟨c08,by simp only;omega,S8,hk3⟩,by simp only;omega⟩
   ·rw [if_neg h1] at hk3
    have e:bZ q x.1 x.2=q:=by unfold bZ;rw [if_neg h1]
    rw [e] at S8
    repeat (first|refine zN (x:=.tmp 47) (p:=aS q x.1 x.2=0) rfl (fun _=>?_) (fun h=>absurd h h1)|refine go1 ?_|refine zg λ_ _=>?_|refine zi λ_ _=>?_)
    exact aB rfl ⟨by rw [hk3];rfl,by rw [hk3];exact S8,(c2.trans c08).mono (by simp)⟩
  ·have ej:j=inn.length:=by omega
   subst ej
   rw [List.drop_length,qD] at hk3
   repeat (first|refine go1 ?_|refine zg λ_ _=>?_|refine zi λ_ _=>?_)
   exact aB rfl ⟨by rw [hk3];rfl,by rw [hk3];exact hS3,(c2.trans c3).mono (by simp)⟩
set_option maxHeartbeats 1000000 in
theorem yX {b mb:Nat} {l spent made:List En} {sv mv:Value} (w:World) (hS:dD T.coins_Set w b mb l) (hs:SlR enR [b,mb] w sv spent) (hm:SlR enR [b,mb] w mv made) (hn1:spent.length≤100000) (hn2:made.length≤100000) (h1:(nG l made spent).1=true):K.Spec Tryz.prog F.block_Revert [.pointer (some ⟨b,0,none⟩),.agg #[sv,mv]] w fun r w'=>r=.int .i64 0∧dD T.coins_Set w' b mb (nG l made spent).2∧Chg [b,mb] w w':=by
 have hlt:=hS.lt
 have o1:sv.oneCell'=true:=by obtain ⟨_,_,rfl⟩:=hs.form;rfl
 have o2:mv.oneCell'=true:=by obtain ⟨_,_,rfl⟩:=hm.form;rfl
 refine aEr rfl ?_
 unfold tQ
 refine oy ?_
 repeat' (first|refine zg (fun w1 x1=>?_)|refine zi (fun w1 x1=>?_)|refine jE (b:=.cons ⟨some 13,_,_⟩ _) (fun (p:Nat × Nat) w'=>Ext w w'∧dD T.coins_Set w' p.1 p.2 l∧w0.heap.size≤p.1∧w0.heap.size≤p.2∧Ext w0 w') (fun p=> [(0,.pointer (some ⟨b,0,none⟩)),(3,.pointer (some ⟨b3,0,none⟩)),(8,.pointer (some ⟨p.1,0,none⟩)),(10,mv),(12,sv)]) ?_ ?_|refine zD (d:=some 3) (cs:= [sv,mv]) rfl rfl (fun b3 w0 x0 a3 (r3:Row w0 ⟨b3,0,none⟩ [sv,mv]) hb3=>?_)|(refine zC (d:=some 8) rfl (xR _ (hS.ext (by exact fx))) ?_;rintro _ w2 ⟨b8,mb8,rfl,hS8,hb8,hmb8,x2⟩)|(exact ⟨(b8,mb8),⟨rfl,rfl,rfl,rfl,rfl,trivial⟩,by exact fx,hS8.ext (by exact fx),nTr (Ext.size (show Ext w0 _ by exact fx)) hb8,nTr (Ext.size (show Ext w0 _ by exact fx)) hmb8,by exact fx⟩)|refine go1 ?_|refine zg λ_ _=>?_|refine zi λ_ _=>?_|refine zB ?_ ?_)
 rintro ⟨b8,mb8⟩ ρ w3 ⟨x3,S8,hb80,hmb80,x03⟩
 simp only at S8 hb80 hmb80
 have l3:=a3.lt
 have s00:=x0.size
 have r33:Row w3 ⟨b3,0,none⟩ [sv,mv]:=Row.ext x03 r3
 have hb8:w.heap.size≤b8:=by omega
 have hmb8:w.heap.size≤mb8:=by omega
 have nin:∀y∈ [b8,mb8],w.heap.size≤y:=by intro y hy;simp at hy;rcases hy with rfl|rfl<;>assumption
 refine zC (d:=some 13) rfl (xP (b:=b8) (mb:=mb8) (l:=l) (out:=made) (inn:=spent) _ S8 (hm.step x3 (by simp) (fun y hy=>.inr (nin y hy))) (hs.step x3 (by simp) (fun y hy=>.inr (nin y hy))) hn2 hn1) ?_
 rintro _ w4 ⟨rfl,S4,c4⟩
 rw [h1]
 have x04:Ext w w4:=(Ext.chg x3 c4).mono (fun y hy=>.inr (nin y hy))
 have r34:Row w4 ⟨b3,0,none⟩ [sv,mv]:=Row.chg c4 r33 (by simp;omega)
 repeat (first|refine go1 ?_|refine zg λ_ _=>?_|refine zi λ_ _=>?_)
 refine zC (d:=some 20) rfl (xP (l:=l) (out:=made) (inn:=spent) _ (hS.ext x04) (hm.ext x04) (hs.ext x04) hn2 hn1) ?_
 rintro _ w5 ⟨rfl,S5,c5⟩
 repeat (first|refine go1 ?_|refine zg λ_ _=>?_|refine zi λ_ _=>?_)
 exact aB rfl ⟨rfl,S5,(Chg.trans x04 c5).mono (by simp)⟩
end Go.Proofs.YtgloknkcfchnlabGreatDoor
end
namespace Go.K
section
open Go Go.Proofs.YtgloknkcfchnlabGreatDoor
def grT (h:Int) (outs:List TOut):Tx:=⟨2, [⟨oA,4294967295, []⟩],outs,h⟩
def o5:List TOut:= [⟨5,⟨#[]⟩⟩]
def gw (h:Nat):Tx:=grT (h:Nat) o5
def bsW:List (List Tx):=(List.range 7).map fun i=> [gw (i+1)]
theorem aXn:((List.range 7).all fun k=>decide ((jN ⟨bsW.take k,k⟩ (bsW.getD k [])).1=0))=true:=by kernel_rfl
theorem aWw:decide ((bU bsW 1).length=1)=true:=by kernel_rfl
theorem aQd:bsW.length=7:=rfl
theorem aO3 {k:Nat} (hk:k<7):bsW.getD k []= [gw (k+1)]:=by
 rw [List.getD_eq_getElem?_getD]
 unfold bsW
 rw [List.getElem?_map,List.getElem?_range hk];rfl
theorem aMo {k:Nat} (hk:k<7):(jN ⟨bsW.take k,k⟩ [gw (k+1)]).1=0:=by
 have:=List.all_eq_true.1 aXn k (List.mem_range.2 hk)
 rw [aO3 hk] at this
 exact of_decide_eq_true this
theorem mO {k:Nat} (hk:k≤7):(bsW.take k).length=k:=by rw [List.length_take,aQd];omega
theorem aTx {k:Nat} (hk:k<7):bsW.take (k+1)=bsW.take k++ [[gw (k+1)]]:=by
 have h:k<bsW.length:=by rw [aQd];exact hk
 have e:=aO3 hk
 rw [List.getD_eq_getElem?_getD,List.getElem?_eq_getElem h] at e
 rw [List.take_succ_eq_append_getElem h]
 exact congrArg (fun x=>bsW.take k++ [x]) e
theorem aTb {k:Nat} (hk:k<7):fI ⟨bsW.take k,k⟩ [gw (k+1)]=⟨bsW.take (k+1),k+1⟩:=by
 unfold fI
 rw [if_neg (by rw [aMo hk];decide),aTx hk,mO (by omega)]
 show Ch.mk _ (max k (k+1))=_
 congr 1;omega
theorem aU5 {j:Nat} (hj:j<6):fH ⟨bsW.take (7 - j),7⟩=0∧eT ⟨bsW.take (7 - j),7⟩=⟨bsW.take (7 - (j+1)),7⟩:=by
 have hl:=mO (k:=7 - j) (by omega)
 have e0:fH ⟨bsW.take (7 - j),7⟩=0:=by
  unfold fH
  simp only [hl]
  rw [if_neg (by omega),if_neg (by omega)]
 refine ⟨e0,?_⟩
 unfold eT
 rw [if_neg (by simp [e0])]
 simp only [hl,List.take_take]
 congr 2;omega
theorem aUm:fH ⟨bsW.take 1,7⟩=18:=rfl
theorem aVp:eT ⟨bsW.take 1,7⟩=⟨bsW.take 1,7⟩:=rfl
theorem aPx:(aY (bsW.take 1)).length=1:=of_decide_eq_true aWw
theorem aTf {n:Nat}:∀b∈bsW.take n,cN b≤1:=fun b hb=>by
 have hb:=List.mem_of_mem_take hb
 unfold bsW at hb
 obtain ⟨i, -,rfl⟩:=List.mem_map.1 hb
 exact Nat.le_refl 1
theorem aIs {n k:Nat} (hk:k≤7):(bU (bsW.take n) k).length≤7:=by
 have:=xM (aTf (n:=n)) k
 omega
theorem aVo (h:Nat):(gw h).Sm:=⟨by simp [gw,grT],by simp [gw,grT,o5],by simp [gw,grT]⟩
end
end Go.K
