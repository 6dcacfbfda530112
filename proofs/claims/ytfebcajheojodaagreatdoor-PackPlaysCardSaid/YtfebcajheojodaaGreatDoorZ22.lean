/- Contracts: above and below, by the program. Plain: a transac -/
import Derived.RowKit
import Derived.OpenShut
import Derived.Deep.Slices
import Derived.ChangeSame
import Derived.Test.YtfebcajheojodaaGreatDoorZ21
set_option linter.unusedVariables false
set_option linter.unusedSimpArgs false
namespace Go.Proofs.YtfebcajheojodaaGreatDoor
section
open Go Go.K
attribute [local irreducible] aO aU bQ KOp.wp K.Spec u32 leS vnS str aV cU cD idT aR aG aX idN bD cF bT
theorem aPj {l:List Ent} {ins:List TIn}:∀s∈eH l ins,∃j,j<l.length∧(cP l j).id=s:=by
 intro s hs
 unfold eH at hs
 obtain ⟨x,hx,rfl⟩:=List.mem_map.1 hs
 obtain ⟨h1,h2⟩:=List.mem_filter.1 hx
 unfold dM dO at h2
 rw [Bool.and_eq_true,List.any_eq_true] at h2
 obtain ⟨⟨y,hy,hd⟩,_⟩:=h2
 obtain ⟨j,hj,rfl⟩:=List.getElem_of_mem hy
 exact ⟨j,hj,by rw [bJ hj];exact of_decide_eq_true hd⟩
theorem bDw {l:List Ent} {id:ByteArray} {n:Nat}:∀s∈jK l id n,∃j,j<l.length∧(cP l j).id=s:=by
 intro s hs
 obtain ⟨j,_,e,he,rfl⟩:=aF7.1 hs
 obtain ⟨q,hq,rfl⟩:=List.getElem_of_mem (List.mem_of_find?_eq_some he)
 exact ⟨q,hq,by rw [bJ hq]⟩
theorem aDd {g:Nat} {M N:List Nat} {l:List Ent} {cs:List Value} {t:Tx} (w:World) (hG:GrR w g M l) (hM:∀b∈M,b<w.heap.size) (ht:txR.rel N w cs t) (hs:t.ins.length≤1000) (hn:l.length≤1000):K.Spec Tryz.prog F.graph_Graph_Above [.pointer (some ⟨g,0,none⟩),.agg cs.toArray] w fun r w'=>
  Own bO T.string w.heap.size w' r (aM l (aZ l t))∧Ext w w':=by
 have hsm:∀x∈l,x.tx.Sm:=fun x hx=>fE (hG.ok x hx).check
 have hnd:=hG.nodup
 have ht0:=ht
 obtain ⟨iv,ov,rfl, -⟩:=ht
 refine aEq rfl ?_
 unfold rP
 refine oy ?_
 repeat' (first|refine go1 ?_|refine zg λ_ _=>?_|refine zi λ_ _=>?_|refine zD rfl rfl (fun bg wg xg ag (rg:Row wg ⟨bg,0,none⟩ [.pointer (some ⟨g,0,none⟩)]) hg0=>?_)|refine zD (d:=some 3) rfl rfl (fun bp wp xp ap (rp:Row wp ⟨bp,0,none⟩ (aK t iv ov)) hp0=>?_)|(refine zC rfl (aIc (M:=M) (N:=N) (cs:=aK t iv ov) (t:=t) _ (hG.ext (by exact fx)) (fun b hb=>nLt (hM b hb) (Ext.size (by exact fx))) (by exact fx) (by omega)) ?_;rintro v5 w5 ⟨o5,x5⟩;obtain ⟨b5,c5,rfl⟩:=o5.sl.form)|refine fR ?_ ?_)
 all_goals
  have xg5:Ext wg w5:=by exact fx
  have xw:Ext w w5:=xg.trans xg5
  have hle:(eH l t.ins).length≤1000:=nTr (rG _ _) hs
  refine zC rfl (aO1 (g:=g) (M:=M) (l:=l) (frm:=eH l t.ins) (nxt:=fun x=>eH l x.tx.ins) _ (hG.ext xw) (fun b hb=>nLt (hM b hb) xw.size) o5.sl ⟨F.graph_Graph_Above_1,#[],#[.pointer (some ⟨bg,0,none⟩)],rfl,bGc,fun x hx w' cs xx hr=>aYe (M:=M) (N:=M) (l:=l) (cs:=cs) (x:=x) w' (hG.ext (xw.trans xx)) (fun b hb=>nLt (hM b hb) (xw.trans xx).size) (At.ext (xg5.trans xx) ag) hr (by have:=(hsm x hx).ins;omega)⟩ hn hle aPj (fun i hi=>aPj) (fun x hx=>nTr (rG _ _) (hsm x hx).ins)) ?_
  rintro v6 w6 ⟨o6,x6⟩
  repeat (first|refine go ?_|refine zg λ_ _=>?_|refine zi λ_ _=>?_)
  rw [bH9 hnd] at o6
  exact aC rfl ⟨o6.lower xw.size,xw.trans x6⟩
theorem aL0 {g:Nat} {M:List Nat} {l:List Ent} (id:ByteArray) (w:World) (hG:GrR w g M l) (hM:∀b∈M,b<w.heap.size) (hn:l.length≤1000):K.Spec Tryz.prog F.graph_Graph_Below [.pointer (some ⟨g,0,none⟩),.string id] w fun r w'=>
  Own bO T.string w.heap.size w' r (aM l (bA l id))∧Ext w w':=by
 have hsm:∀x∈l,x.tx.Sm:=fun x hx=>fE (hG.ok x hx).check
 have hnd:=hG.nodup
 refine aEo rfl ?_
 unfold rM
 refine oy ?_
 repeat' (first|refine go1 ?_|refine zg λ_ _=>?_|refine zi λ_ _=>?_|(refine zC rfl (nR (M:=M) id _ (hG.ext (by exact fx)) (fun b hb=>nLt (hM b hb) (Ext.size (by exact fx)))) ?_;rintro v5 w5 ⟨ds,rfl,e5,x5⟩;obtain ⟨iv,ov,rfl,o1,o2,o3⟩:=e5;have i1:=o1.one;have i2:=o2.one)|refine zE (d':=5) (fun _=>rfl) rfl rfl (by simp [bN,i1,i2];exact ⟨rfl,rfl,rfl,rfl,rfl⟩) (fun b6 w6 x6 a6 (r6:Row w6 ⟨b6,0,none⟩ (bN (dR l id) iv ov)) hb6=>?_)|refine zM rfl (fun h=>?_) (fun h=>?_)|refine zI (d:=some 17) (cs:= [.string id]) rfl (fun b w10 x10 a10 hb=>?_))
 ·have hno:dO l id=false:=by simpa using h
  have hf:bH l id<0:=by
   rcases Int.lt_or_le (bH l id) 0 with h1|h1
   ·exact h1
   ·have h2:=jI (p:=fun x:Ent=>decide (x.id=id)) (l:=l)
    have h3:dO l id=true:=by unfold dO;rw [←h2];exact dTr h1
    rw [h3] at hno;cases hno
  have e0:aM l (bA l id)= []:=by
   refine aZ8 fun b hb=>?_
   unfold bA nS at hb
   obtain ⟨i,hi,rfl⟩:=List.mem_map.1 hb
   exact aGs (fun j _=>dFa (by omega)) _ _ (by simpa using hi)
  rw [e0]
  exact aC rfl ⟨Own.nil _ _ _,x5.trans x6⟩
 ·have hyes:dO l id=true:=by simpa using h
  have xw:Ext w w10:=(x5.trans x6).trans x10
  have hnx:bMm (.func (.func F.graph_Graph_children) #[.pointer (some ⟨g,0,none⟩)] #[]) l M w10 (fun x=>jK l x.id x.tx.outs.length):=⟨F.graph_Graph_children,#[.pointer (some ⟨g,0,none⟩)],#[],rfl,aX3,fun x hx w' cs xx hr=>aQ9 (M:=M) (N:=M) (l:=l) (cs:=cs) (x:=x) w' (hG.ext (xw.trans xx)) hr (by have:=(hsm x hx).outs;omega)⟩
  refine zC rfl (aO1 (g:=g) (M:=M) (l:=l) (frm:= [id]) (nxt:=fun x=>jK l x.id x.tx.outs.length) _ (hG.ext xw) (fun b hb=>nLt (hM b hb) xw.size) (SlE.new (E:=bO) (l:= [id]) a10 rfl (Nat.le_refl _)) hnx hn (by simp) (fun s hs=>?_) (fun i hi=>bDw) (fun x hx=>nTr (xE _ _ _) (hsm x hx).outs)) ?_
  ·simp only [List.mem_singleton] at hs
   subst hs
   unfold dO at hyes
   rw [List.any_eq_true] at hyes
   obtain ⟨y,hy,hd⟩:=hyes
   obtain ⟨j,hj,rfl⟩:=List.getElem_of_mem hy
   exact ⟨j,hj,by rw [bJ hj];exact of_decide_eq_true hd⟩
  rintro v6 w6 ⟨o6,x6⟩
  repeat (first|refine go ?_|refine zg λ_ _=>?_|refine zi λ_ _=>?_)
  have hinv:l.Pairwise fun x y=>∀p,spends x p=true→spends y p=false:=by
   obtain ⟨b1,vo,b2,m,sp,hP⟩:=hG;exact hP.inv.apart
  rw [bJp hnd hinv hG.pos] at o6
  exact aC rfl ⟨o6.lower xw.size,xw.trans x6⟩
end
end Go.Proofs.YtfebcajheojodaaGreatDoor
namespace Go.K
section
open Go
end
end Go.K
namespace Go.Proofs.YtfebcajheojodaaGreatDoor
section
open Go Go.K
attribute [local irreducible] aO aU bQ KOp.wp K.Spec u32 leS vnS str aV cU cD idT aR aG aX idN bD cF bT bH
theorem aOe {v u:Value} {l m:List ByteArray} (w:World) (hl:SlE bO w v l) (hm:SlE bO w u m) (he:l=m) (hn:l.length≤100000000):K.Spec Tryz.prog F.slices_Equal_L_string_string [v,u] w fun r w'=>r=.bool true∧Ext w w':=
 jH (aNz w hl hm hn) fun r w' ⟨h1,h2⟩=>⟨by rw [h1,dTr he],h2⟩
end
section
open Go Go.K
attribute [local irreducible] aO aU bQ KOp.wp K.Spec u32 leS vnS str aV cU cD idT aR aG aX idN bD cF bT bH cA cO
section
variable {P:Program} {d:Option Tmp} {r:KR} {K:Env→World→Prop} {ρ:Env} {w:World}
theorem bH2 {α:Type} {E:R α} {M:List Nat} {size:Nat} {x h:Operand} {v:Value} {l:List α} {kd:IntKind} {n:Nat} {m:Int} {w1:World} (hx:ev ρ x=v) (hh:ev ρ h=.int kd m) (hm:m=(n:Nat)) (hs:SlR E M w1 v l) (hn:n≤l.length) (hk:size=E.k)
  (k:∀v',SlR E M w1 v' (l.take n)→aO P r K (put ρ d v') w):aO P (.cons ⟨d,.sliceSl size x none (some h),none⟩ r) K ρ w:=by
 subst hm
 obtain ⟨css,h1,h2,h3⟩:=hs
 have hl:=h2.length
 refine bIt (E:=qN E.k E.pos) hx hh h1 (by rw [hl];exact hn) hk fun v' h4 h5=>k v' ⟨css.take n,h4,?_,fun hp b hb=>h3 (by rw [List.length_take] at hp;omega) b (h5 b hb)⟩
 have:=h2.take n
 exact All2.take n h2
end
end
section
open Go Go.K
attribute [local irreducible] aO aU bQ KOp.wp K.Spec u32 leS vnS str aV cU cD idT aR aG aX idN bD cF bT bH cA cO aB3 spends
end
end Go.Proofs.YtfebcajheojodaaGreatDoor
namespace Go.K
section
open Go Go.Proofs.YtfebcajheojodaaGreatDoor
section
variable {l:List Ent} {t:Tx}
abbrev aZw (l:List Ent):Prop:=∀x∈l,dZ x.fee x.size=true
theorem bA8 (hn:(l.map (·.id)).Nodup) (hp:aZw l) (hh:l.any (cE t)=true) {f:Int} (hf:dZ f (aR t:Nat)=true):kX l t f=true↔fH l t≤f:=by
 unfold kX fH
 rw [aUy,hh,Bool.and_eq_true,List.all_eq_true]
 simp only [Bool.not_true,Bool.false_or,decide_eq_true_eq,Bool.or_eq_true,Bool.not_eq_true']
 constructor
 ·rintro ⟨h1,h2⟩
  refine ⟨h2,fun s hs=>?_⟩
  obtain ⟨x,hx,h3,rfl⟩:=qX.1 hs
  rw [(get_mem hn hx).2]
  rcases h1 x hx with h|h
  ·rw [h3] at h;cases h
  ·exact (aVu hf (hp x hx)).1 h
 ·rintro ⟨h1,h2⟩
  refine ⟨fun x hx=>?_,h1⟩
  by_cases h3:cE t x=true
  ·have:=h2 x.id (qX.2 ⟨x,hx,h3,rfl⟩)
   rw [(get_mem hn hx).2] at this
   exact .inr ((aVu hf (hp x hx)).2 this)
  ·exact .inl (by simpa using h3)
theorem bGt {c:Nat} {l:List Ent} (hl:∀x∈l,0≤x.fee∧x.fee≤c) (m:List Bool):0≤dN l m∧dN l m≤c*l.length:=by
 induction l generalizing m with
 |nil=>simp [dN]
 |cons x l ih=>cases m with
  |nil=>simp only [dN];exact ⟨Int.le_refl _,Int.mul_nonneg (by omega) (by omega)⟩
  |cons b m=>
   have h1:=ih (fun y hy=>hl y (List.mem_cons_of_mem _ hy)) m
   have h2:=hl x (by simp)
   simp only [dN,List.length_cons,Int.natCast_add,Int.mul_add]
   split<;>omega
theorem aGz {c:Nat} (hf:∀x∈l,0≤x.fee∧x.fee≤c):0≤qY l t∧qY l t≤c*l.length:=bGt hf _
theorem bDz (hg:0≤qY l t) (hs:1≤aR t):1≤fH l t:=by
 have h:=bE5 (l:=l) (S:=(aR t:Nat)) (n:=qY l t+(aR t:Nat)) (ids:=aM l (bC l t))
 unfold fH
 omega
theorem bAy (hn:(l.map (·.id)).Nodup) (hp:aZw l) (hh:l.any (cE t)=true) {f need:Int} (hf:dZ f (aR t:Nat)=true) (hneed:need=if bX (fH l t)=true then fH l t else 2100000000000001) (h0:0≤fH l t):
  (if f<need then (11:Int) else 0)=if kX l t f=true then 0 else 11:=by
 have h1:=bA8 hn hp hh hf
 have h2:=(wH.1 hf).1
 by_cases h3:fH l t≤f
 ·rw [if_pos (h1.2 h3),if_neg]
  rw [hneed,if_pos ((bG _).2 (by omega))];omega
 ·rw [if_neg (fun h=>h3 (h1.1 h)),if_pos]
  rw [hneed]
  split<;>omega
theorem bLo:(aM l (bC l t)).any (fun s=>!gP l (dR l s))=l.any fun x=>cE t x&&!gP l (dR l x.id):=by
 rw [Bool.eq_iff_iff,List.any_eq_true,List.any_eq_true]
 constructor
 ·rintro ⟨s,hs,h⟩
  obtain ⟨x,hx,h3,rfl⟩:=qX.1 hs
  exact ⟨x,hx,by rw [h3,h];rfl⟩
 ·rintro ⟨x,hx,h⟩
  rw [Bool.and_eq_true] at h
  exact ⟨x.id,qX.2 ⟨x,hx,h.1,rfl⟩,h.2⟩
theorem aVz (hn:(l.map (·.id)).Nodup):(aM l (bC l t)).any (fun s=>!gP l (dR l s))=l.any fun x=>cE t x&&!gP l x:=by
 rw [bLo,Bool.eq_iff_iff,List.any_eq_true,List.any_eq_true]
 constructor<;>rintro ⟨x,hx,h⟩<;>exact ⟨x,hx,by rw [(get_mem hn hx).2] at*;exact h⟩
theorem bA0 {f:Int} (h:cH l t f=0):aG t=0∧bX f=true∧(l.any (cE t)=false∨(l.any (cE t)=true∧l.any (fun x=>cE t x&&!gP l x)=false∧(aM l (evL l t)).length≤100∧eQ l t=false∧kX l t f=true)):=by
 unfold cH at h
 by_cases h1:aG t=0
 ·rw [if_neg (by simpa using h1)] at h
  by_cases h2:bX f=true
  ·rw [if_neg (by simp [h2])] at h
   refine ⟨h1,h2,?_⟩
   by_cases h3:l.any (fun x=>cE t x&&!gP l x)=true
   ·rw [if_pos h3] at h;omega
   ·rw [if_neg h3] at h
    by_cases h4:l.any (cE t)=true
    ·rw [if_neg (by simp [h4])] at h
     refine .inr ⟨h4,by simpa using h3,?_⟩
     by_cases h5:(aM l (evL l t)).length>100
     ·rw [if_pos h5] at h;omega
     ·rw [if_neg h5] at h
      by_cases h6:eQ l t=true
      ·rw [if_pos h6] at h;omega
      ·rw [if_neg h6] at h
       by_cases h7:kX l t f=true
       ·exact ⟨by omega,by simpa using h6,h7⟩
       ·rw [if_neg h7] at h;omega
    ·exact .inl (by simpa using h4)
  ·rw [if_pos (by simpa using h2)] at h;omega
 ·rw [if_pos h1] at h;exact absurd h h1
theorem bFa (hn:(l.map (·.id)).Nodup) {x:Ent} (hx:x∈l) (h:dG t x=true):∃b∈t.ins,b.p.s=x.id∧dM l b.p=true:=by
 unfold dG at h
 obtain ⟨b,hb,h1⟩:=List.any_eq_true.1 h
 rw [Bool.and_eq_true,decide_eq_true_eq,decide_eq_true_eq] at h1
 refine ⟨b,hb,h1.1,?_⟩
 unfold dM
 rw [h1.1,(get_mem hn hx).1,(get_mem hn hx).2]
 exact dTr h1.2
theorem aVf (hn:(l.map (·.id)).Nodup) (hf:eQ l t=false) {x:Ent} (hx:x∈l) (h:dG t x=true):x.id∉aM l (evL l t):=by
 obtain ⟨b,hb,h1,h2⟩:=bFa hn hx h
 unfold eQ at hf
 rw [List.any_eq_false] at hf
 have h3:=hf b hb
 rw [h2,h1] at h3
 intro h4
 apply h3
 rw [aNg.2 h4];rfl
end
end
section
open Go Go.Proofs.YtfebcajheojodaaGreatDoor
def bS (s:ByteArray) (i:Nat):Nat:=(s.data.toList.getD i 0).toNat
theorem bD0 (s:ByteArray) (i:Nat):bS s i<256:=(s.data.toList.getD i 0).toNat_lt
def cB (s:ByteArray) (a:Nat):Nat→Nat
 |0=>0
 |k+1=>bS s a+256*cB s (a+1) k
theorem gW (s:ByteArray):∀(k a:Nat),cB s a k<256^k
 |0,a=>by simp [cB]
 |k+1,a=>by
  have h1:=bD0 s a
  have h2:=gW s k (a+1)
  simp only [cB,Nat.pow_succ];omega
theorem aPa (s:ByteArray):∀(k a:Nat),cB s a (k+1)=cB s a k+bS s (a+k)*256^k
 |0,a=>by simp [cB]
 |k+1,a=>by
  rw [cB,aPa s k (a+1),cB,show a+1+k=a+(k+1) by omega,Nat.pow_succ,Nat.mul_add,Nat.add_assoc,Nat.mul_left_comm,Nat.mul_comm 256 (256^k)]
theorem bGm (s:ByteArray) (a:Nat):cB s a 2=bS s a+256*bS s (a+1):=by simp [cB]
structure Br where
 tag:Nat
 delay:Nat
 height:Nat
deriving DecidableEq
def aC8 (s:ByteArray) (i:Nat):Br:=⟨cB s (1+8*i) 2,cB s (3+8*i) 2,cB s (5+8*i) 4⟩
structure BrOk (b:Br):Prop where
 tag:b.tag<65536
 delay:b.delay<65536
 height:b.height<4294967296
theorem bCg (s:ByteArray) (i:Nat):BrOk (aC8 s i):=⟨gW s 2 _,gW s 2 _,gW s 4 _⟩
def brE:Enc Br:=⟨fun b=> [.int .u16 (b.tag:Nat),.int .u16 (b.delay:Nat),.int .u32 (b.height:Nat)],3,fun _=>rfl,by decide,by
 intro x v hv
 simp at hv
 rcases hv with rfl|rfl|rfl<;>rfl⟩
def yK (s:ByteArray):Nat:=(s.size - 1) / 8
def jF (s:ByteArray):Bool:=(decide (s.size=9)||decide (s.size=17)||decide (s.size=25))&&decide (bS s 0=yK s)
def kT (s:ByteArray):List Br:=(List.range (yK s)).map (aC8 s)
def aV3 (b:Br):Bool:=decide (b.height≤1000000)
def cS (s:ByteArray):List Br:=if jF s&&(kT s).all aV3 then kT s else []
def gG (l:List ByteArray):Option (Nat × Nat):=if l.length=1∧(l.headD default).size=3∧bS (l.headD default) 0<3 then some (bS (l.headD default) 0,cB (l.headD default) 1 2) else none
def cW (s:ByteArray) (wit:List ByteArray):Option Br:=(gG wit).bind fun p=>((cS s)[p.1]?).bind fun b=>if b.tag=0∨b.tag=p.2 then some b else none
def gI (t:Tx) (x:TIn):Int:=if x.q<2147483648∧t.ver≥2 then x.q%65536 else 0
def gL (s:ByteArray) (t:Tx) (x:TIn):Int:=match cW s x.wit with
 |none=>9
 |some b=>if gI t x<(b.delay:Int) then 10 else if b.height>0∧(t.lock<(b.height:Int)∨x.q=4294967295) then 10 else 0
def kQ (n:Int):Bool:=decide (0≤n∧n≤1000000)
def gN (t:Tx) (x:TIn) (coin block:Int):Bool:=kQ coin&&kQ block&&decide (coin+gI t x≤block)&&(decide (t.lock<block)||t.ins.all fun y=>decide (y.q=4294967295))
def inE (v:Pt→Option Cn) (t:Tx) (h:Int) (x:TIn):Int:=match v x.p with
 |none=>8
 |some c=>if gL c.s t x≠0 then gL c.s t x else if gN t x c.h h then 0 else 10
def inV (v:Pt→Option Cn) (x:TIn):Int:=((v x.p).getD cn0).v
def eY (v:Pt→Option Cn) (t:Tx) (h:Int):Int × Int × Int:=
 if aG t≠0 then (0,aG t, -1) else if aX t then (0,4, -1) else
 match t.ins.findIdx? fun x=>decide (inE v t h x≠0) with
 |some i=>(0,inE v t h (t.ins.getD i default),(i:Nat))
 |none=>if kB (t.ins.map (inV v))≠0 then (0,kB (t.ins.map (inV v)), -1) else
  if fX (values t)>fX (t.ins.map (inV v)) then (0,12, -1) else (fX (t.ins.map (inV v)) - fX (values t),0, -1)
def oA (y:TOut):Nat:=8+(vnS y.s.size).size+y.s.size
def aFa (y:TOut):Bool:=decide ((y.s.size:Int)≤40)&&decide (y.v<(((3000*(oA y+67)+999) / 1000:Nat):Int))
def fL (t:Tx):Int:=idxOf aFa t.outs
def aE0 (l:List Ent) (h:Int) (p:Pt):Option Cn:=if dM l p then ((dR l p.s).tx.outs[p.i.toNat]?).map fun o=>⟨o.v,o.s,h⟩ else none
def dP (f:Pt→Option Cn) (l:List Ent) (h:Int) (p:Pt):Option Cn:=(f p).or (aE0 l h p)
def aY (f:Pt→Option Cn) (l:List Ent) (t:Tx) (h:Int):Int × Int × Int:=
 if aG t≠0 then (0,aG t, -1) else if dO l (idT t) then (0,7, -1) else
 if (eY (dP f l h) t h).2.1≠0 then (0,(eY (dP f l h) t h).2) else if 0≤fL t then (0,13,fL t) else ((eY (dP f l h) t h).1,0, -1)
def dA (rate:Int) (size:Nat):Int:=((((min (max rate 1000) 100000000).toNat*size+999) / 1000:Nat):Int)
def qI (l:List Ent) (t:Tx):List Ent:=bU l (aM l (evL l t))
def eO (f:Pt→Option Cn) (l:List Ent) (t:Tx) (h rate:Int):Int × Int:=
 if (aY f l t h).2.1≠0 then (aY f l t h).2 else if (aY f l t h).1<dA rate (aR t) then (11, -1) else
 if cH l t (aY f l t h).1≠0 then (cH l t (aY f l t h).1, -1) else if dF (qI l t) t≠0 then (dF (qI l t) t, -1) else (0, -1)
def eD (f:Pt→Option Cn) (l:List Ent) (t:Tx) (h rate:Int):List ByteArray:=if (eO f l t h rate).1=0 then aM l (evL l t) else []
def kD (f:Pt→Option Cn) (l:List Ent) (t:Tx) (h rate:Int):List Ent:=if (eO f l t h rate).1=0 then (cO (qI l t) t (aY f l t h).1).1 else l
end
end Go.K
namespace Go.Proofs.YtfebcajheojodaaGreatDoor
section
open Go Go.K
attribute [local irreducible] aO aU bQ KOp.wp K.Spec u32 leS vnS str aV cU cD idT aR aG aX idN bD cF bT
theorem aD7 {x:Ent} (h:EntOk x):bX x.fee=true∧0≤x.size∧x.size≤100000000000:=by
 refine ⟨h.fee,?_⟩
 have:=(bI (fE h.check) h.check).size
 rw [h.size]
 omega
theorem aTb {g:Nat} {M:List Nat} {l:List Ent} {v:Value} {ids:List ByteArray} (w:World) (hG:GrR w g M l) (hM:∀b∈M,b<w.heap.size) (hi:SlE bO w v ids) (hn:ids.length≤4000):K.Spec Tryz.prog F.graph_Graph_Sum [.pointer (some ⟨g,0,none⟩),v] w fun r w'=>
  r=.tuple #[.int .i64 (iC l ids),.int .i64 (dT l ids)]∧Ext w w':=by
 have hfit:∀x∈l,bX x.fee=true∧0≤x.size∧x.size≤100000000000:=fun x hx=>aD7 (hG.ok x hx)
 refine vS rfl ?_
 unfold nV
 refine oy ?_
 repeat' (first|refine go1 ?_|refine zg λ_ _=>?_|refine zi λ_ _=>?_|refine zL rfl (fun h=>?_) (fun h=>?_)|(refine kI (E:=sK) (fv:=fun n:Nat=>Value.int .i64 (n:Nat)) (fun bm w1 x1 m1 hb1=>?_);have lm:=m1.lt)|refine bY rfl (SlE.ext (w:=w) (by exact fx) hi) ?_|(refine aQ (fun (p:Nat × List (ByteArray × Nat)) w'=>Ext w w'∧p.1≤ids.length∧dW sK (fun n:Nat=>Value.int .i64 (n:Nat)) w' bm p.2∧∀s,(inB (ids.take p.1) s=false→aS p.2 s=none)∧(inB (ids.take p.1) s=true→∃c,aS p.2 s=some c∧1≤c∧c≤p.1)) (fun p=> [(0,.pointer (some ⟨g,0,none⟩)),(6,.int .i64 (iC l (ids.take p.1))),(7,.int .i64 (dT l (ids.take p.1))),(8,.map (some bm)),(14,v),(15,.int .i64 (ids.length:Nat)),(16,.int .i64 p.1)]) (fun p=>ids.length - p.1) (0, []) ⟨rfl,rfl,rfl,rfl,rfl,rfl,rfl,trivial⟩ ⟨x1,by simp,m1,fun s=>⟨fun _=>rfl,fun h=>by simp [inB] at h⟩⟩ ?_;rintro ⟨i,met⟩ ρ w3 ⟨x3,hi3,hm,hc⟩;simp only at hi3 hm hc;dsimp only))
 ·have hil:i<ids.length:=by omega
  have hb0:=aF4 hfit (ids:=ids.take i) (by rw [List.length_take];omega)
  have hb1':=aF4 hfit (ids:=ids.take (i+1)) (by rw [List.length_take];omega)
  have hf:=bFu (l:=l) hil
  have hz:=bB1 (l:=l) hil
  have hmem:∀s,inB (ids.take (i+1)) s=(inB (ids.take i) s||decide (ids[i]=s)):=fun s=>by
   rw [List.take_succ_eq_append_getElem hil];unfold inB;simp only [List.any_append,List.any_cons,List.any_nil,Bool.or_false]
  refine aT rfl rfl (n:=i) (l:=ids) (hi.ext x3) rfl hil (fun ad r5=>?_)
  have r5:Row w3 ad [Value.string ids[i]]:=r5
  generalize hq:iC l (ids.take i)=fee0 at*
  generalize hq2:dT l (ids.take i)=size0 at*
  cases hin:inB (ids.take i) ids[i] with
  |false=>
   rw [hin] at hf hz
   simp only [Bool.false_eq_true,if_false] at hf hz
   have hno:=(hc ids[i]).1 hin
   repeat' (first|refine go1 ?_|refine zg λ_ _=>?_|refine zi λ_ _=>?_|refine eR (d:=some 22) (E:=sK) (fv:=fun n:Nat=>Value.int .i64 (n:Nat)) (k:=ids[i]) rfl rfl hm rfl rfl (fun c hcc=>by rw [hno] at hcc;cases hcc) (fun hcn=>?_)|(refine fA (E:=sK) (fv:=fun n:Nat=>Value.int .i64 (n:Nat)) (k:=ids[i]) (v:=1) rfl rfl rfl hm rfl rfl (fun w4 c4 m4=>?_);have x4:Ext w w4:=(Ext.chg x3 c4).mono (by intro y hy;simp at hy;right;omega);clear x3)|(refine eR (d:=some 26) (E:=sK) (fv:=fun n:Nat=>Value.int .i64 (n:Nat)) (k:=ids[i]) rfl rfl m4 rfl rfl (fun c hcc=>?_) (fun hcn=>by rw [dB,if_pos rfl] at hcn;cases hcn);rw [dB,if_pos rfl] at hcc;injection hcc with hcc;subst hcc)|refine zL rfl (fun h9=>absurd h9 (by decide)) (fun h9=>?_)|(refine zC rfl (nR (M:=M) ids[i] _ (hG.ext (by exact fx)) (fun b hb=>nLt (hM b hb) (Ext.size (by exact fx)))) ?_;rintro _ w5 ⟨ds,rfl,e5,x5⟩;obtain ⟨iv,ov,rfl,o1,o2,o3⟩:=e5;have i1:=o1.one;have i2:=o2.one)|refine zE (d':=11) (fun _=>rfl) rfl rfl (by simp [bN,i1,i2];exact ⟨rfl,rfl,rfl,rfl,rfl⟩) (fun b6 w6 x6 a6 (r6:Row w6 ⟨b6,0,none⟩ (bN (dR l ids[i]) iv ov)) hb6=>?_))
   refine ⟨(i+1,fN met ids[i] 1),⟨rfl,?_,?_,rfl,rfl,rfl,rfl,trivial⟩,⟨by exact fx,by simp;omega,m4.ext (by exact fx),fun s=>?_⟩,by simp;omega⟩
   ·show _=Value.int .i64 (iC l (ids.take (i+1)));rw [hf];rw [hf] at hb1';exact congrArg (Value.int .i64) (IntWalk.i64_in _ (by show -9223372036854775808≤fee0+(qP l ids[i]).fee∧fee0+(qP l ids[i]).fee≤9223372036854775807;omega))
   ·show _=Value.int .i64 (dT l (ids.take (i+1)));rw [hz];rw [hz] at hb1';exact congrArg (Value.int .i64) (IntWalk.i64_in _ (by show -9223372036854775808≤size0+(qP l ids[i]).size∧size0+(qP l ids[i]).size≤9223372036854775807;omega))
   ·show (inB (ids.take (i+1)) s=false→_)∧(inB (ids.take (i+1)) s=true→∃c,_∧1≤c∧c≤i+1)
    rw [hmem,dB]
    by_cases e:ids[i]=s
    ·rw [if_pos e,dTr e];exact ⟨fun h=>by simp at h,fun _=>⟨1,rfl,by omega,by omega⟩⟩
    ·rw [if_neg e,dFa e,Bool.or_false]
     exact ⟨(hc s).1,fun h=>by obtain ⟨c,q1,q2,q3⟩:=(hc s).2 h;exact ⟨c,q1,q2,by omega⟩⟩
  |true=>
   rw [hin] at hf hz
   simp only [if_true] at hf hz
   obtain ⟨c0,hc0,hc1,hc2⟩:=(hc ids[i]).2 hin
   repeat' (first|refine go1 ?_|refine zg λ_ _=>?_|refine zi λ_ _=>?_|(refine eR (d:=some 22) (E:=sK) (fv:=fun n:Nat=>Value.int .i64 (n:Nat)) (k:=ids[i]) rfl rfl hm rfl rfl (fun c hcc=>?_) (fun hcn=>by rw [hc0] at hcn;cases hcn);rw [hc0] at hcc;injection hcc with hcc;subst hcc)|(refine fA (E:=sK) (fv:=fun n:Nat=>Value.int .i64 (n:Nat)) (k:=ids[i]) (v:=c0+1) rfl rfl rfl hm rfl rfl (fun w4 c4 m4=>?_);have x4:Ext w w4:=(Ext.chg x3 c4).mono (by intro y hy;simp at hy;right;omega);clear x3)|(refine eR (d:=some 26) (E:=sK) (fv:=fun n:Nat=>Value.int .i64 (n:Nat)) (k:=ids[i]) rfl rfl m4 rfl rfl (fun c hcc=>?_) (fun hcn=>by rw [dB,if_pos rfl] at hcn;cases hcn);rw [dB,if_pos rfl] at hcc;injection hcc with hcc;subst hcc)|refine zL rfl (fun h9=>?_) (fun h9=>absurd h9 (by omega)))
   refine ⟨(i+1,fN met ids[i] (c0+1)),⟨rfl,?_,?_,rfl,rfl,rfl,rfl,trivial⟩,⟨by exact fx,by simp;omega,m4.ext (by exact fx),fun s=>?_⟩,by simp;omega⟩
   ·show _=Value.int .i64 (iC l (ids.take (i+1)));rw [hf];rfl
   ·show _=Value.int .i64 (dT l (ids.take (i+1)));rw [hz];rfl
   ·show (inB (ids.take (i+1)) s=false→_)∧(inB (ids.take (i+1)) s=true→∃c,_∧1≤c∧c≤i+1)
    rw [hmem,dB]
    by_cases e:ids[i]=s
    ·rw [if_pos e,dTr e];exact ⟨fun h=>by simp at h,fun _=>⟨c0+1,rfl,by omega,by omega⟩⟩
    ·rw [if_neg e,dFa e,Bool.or_false]
     exact ⟨(hc s).1,fun h=>by obtain ⟨c,q1,q2,q3⟩:=(hc s).2 h;exact ⟨c,q1,q2,by omega⟩⟩
 ·have ei:i=ids.length:=by omega
  subst ei
  rw [tLe (Nat.le_refl _)]
  exact aC rfl ⟨rfl,x3⟩
end
end Go.Proofs.YtfebcajheojodaaGreatDoor
namespace Go.K
section
open Go
variable {l:List Ent}
end
end Go.K
namespace Go.Proofs.YtfebcajheojodaaGreatDoor
section
open Go Go.K
attribute [local irreducible] aO aU bQ KOp.wp K.Spec u32 leS vnS str aV cU cD idT aR aG aX idN bD cF bT bH cA cO aZ bA inS aM iC dT
theorem GrR.apart {w:World} {g:Nat} {M:List Nat} {l:List Ent} (h:GrR w g M l):l.Pairwise fun x y=>∀p,spends x p=true→spends y p=false:=by
 obtain ⟨b1,vo,b2,m,sp,hP⟩:=h;exact hP.inv.apart
end
end Go.Proofs.YtfebcajheojodaaGreatDoor
namespace Go.K
section
open Go Go.Proofs.YtfebcajheojodaaGreatDoor
section
variable {l:List Ent} {t:Tx}
theorem aD2 {s:ByteArray}:dO l s=true↔∃x∈l,x.id=s:=by
 unfold dO
 rw [List.any_eq_true]
 exact ⟨fun ⟨x,h1,h2⟩=>⟨x,h1,of_decide_eq_true h2⟩,fun ⟨x,h1,h2⟩=>⟨x,h1,dTr h2⟩⟩
theorem aVk {x:Ent}:cE t x=true↔∃b∈t.ins,spends x b.p=true:=by
 unfold cE spends
 simp only [List.any_eq_true,decide_eq_true_eq]
 constructor
 ·rintro ⟨a,ha,b,hb,e⟩;exact ⟨b,hb,a,ha,e⟩
 ·rintro ⟨b,hb,a,ha,e⟩;exact ⟨a,ha,b,hb,e⟩
theorem bH3 {x:Ent} (h:0<x.tx.ins.length):cE x.tx x=true:=by
 rw [aVk]
 refine ⟨x.tx.ins[0],gMe h,?_⟩
 unfold spends
 exact List.any_eq_true.2 ⟨_,gMe h,dTr rfl⟩
theorem bF0 (hn:(l.map (·.id)).Nodup) (hc:aG t=0) (hi:0<t.ins.length) (hg:aX t=false) {f:Int} (hf:bX f=true):
  (cO (dC l (evL l t)) t f).2=0∨((cO (dC l (evL l t)) t f).2=7∧dO (dC l (evL l t)) (idT t)=true∧(dR (dC l (evL l t)) (idT t)).tx≠t):=by
 have none:∀x∈dC l (evL l t),cE t x=false:=fun x hx=>by
  rw [←Bool.not_eq_true]
  exact fun h=>aD3 l _ hn hx (bKx hn ((gR _ _).subset hx) h)
 unfold cO
 rw [if_neg (by simpa using hc),if_neg (by simp [hg]),if_neg (by simp [hf])]
 by_cases h7:((dC l (evL l t)).any fun x=>decide (x.id=idT t))=true
 ·rw [if_pos h7]
  refine .inr ⟨rfl,h7,fun e=>?_⟩
  have hm:=(bDg (l:=dC l (evL l t)) h7).1
  have h1:=none _ hm
  have h2:cE (dR (dC l (evL l t)) (idT t)).tx (dR (dC l (evL l t)) (idT t))=true:=bH3 (by rw [e];exact hi)
  rw [e] at h2
  rw [h1] at h2
  cases h2
 ·rw [if_neg h7]
  have h8:(t.ins.any fun i=>(dC l (evL l t)).any fun x=>spends x i.p)=false:=by
   rw [List.any_eq_false]
   intro b hb h
   obtain ⟨x,hx,h2⟩:=List.any_eq_true.1 h
   have h3:=none x hx
   rw [aVk.2 ⟨b,hb,h2⟩] at h3
   cases h3
  rw [if_neg (by simp [h8])]
  exact .inl rfl
theorem aXf:∀{l:List Ent} {m:List Bool} {i:Nat} (hi:i<l.length),(∀j,j<l.length→(m[j]? =some true↔j=i))→aM l m= [l[i].id]
 |x::l, [],i,hi,h=>by
  have:=(h i hi).2 rfl
  simp at this
 |x::l,b::m,0,hi,h=>by
  have hb:b=true:=by simpa using (h 0 (by simp)).2 rfl
  subst hb
  have:aM l m= []:=by
   rw [List.eq_nil_iff_forall_not_mem]
   intro s hs
   obtain ⟨j,hj,h1,_⟩:=jD.1 hs
   have:=(h (j+1) (by simp;omega)).1 (by simpa using h1)
   omega
  show x.id::aM l m=_
  rw [this];rfl
 |x::l,b::m,i+1,hi,h=>by
  have hb:b=false:=by
   rw [←Bool.not_eq_true]
   intro e
   have:=(h 0 (by simp)).1 (by simp [e])
   omega
  subst hb
  show aM l m=_
  have hi':i<l.length:=by simpa using hi
  rw [aXf hi' (fun j hj=>?_)];· rfl
  have:=h (j+1) (by simp;omega)
  rw [List.getElem?_cons_succ] at this
  rw [this];omega
end
end
section
open Go Go.Proofs.YtfebcajheojodaaGreatDoor
def aLd (A:List En) (ps:List Pt):List En:=ps.foldl kW A
theorem aGh:∀(ps:List Pt) (A:List En) {e:En},e∈aLd A ps→e∈A
 | [],A,e,h=>h
 |q::ps,A,e,h=>(List.mem_filter.1 (aGh ps (kW A q) h)).1
theorem aFz:∀(ps:List Pt) (A:List En),(A.map (·.1)).Nodup→ps.Nodup→(∀p∈ps,(aS A p).isSome=true)→tot (aLd A ps)=tot A - (ps.map fun p=>((aS A p).getD cn0).v).sum
 | [],A,_,_,_=>by simp [aLd]
 |q::ps,A,hA,hp,hs=>by
  rw [List.nodup_cons] at hp
  obtain ⟨c,hc⟩:=Option.isSome_iff_exists.1 (hs q (by simp))
  have hk:((kW A q).map (·.1)).Nodup:=hA.sublist (List.Sublist.map _ List.filter_sublist)
  have hq:∀p∈ps,aS (kW A q) p=aS A p:=fun p h=>by
   rw [aP5,if_neg]
   rintro rfl;exact hp.1 h
  have ih:=aFz ps (kW A q) hk hp.2 (fun p h=>by rw [hq p h];exact hs p (by simp [h]))
  show tot (aLd (kW A q) ps)=_
  rw [ih,bDb hA hc,List.map_cons,List.sum_cons,hc,List.map_congr_left (g:=fun p=>((aS A p).getD cn0).v) fun p h=>by rw [hq p h]]
  simp only [Option.getD_some];omega
end
section
open Go
def iJ (l:List En) (p:Pt):Option Nat:=l.findIdx? fun e=>decide (e.1=p)
def kV (l:List En) (p:Pt):Int:=match iJ l p with
 |some i=>i
 |none=> -1
theorem aMm {l:List En} {p:Pt}:iJ l p=none↔∀e∈l,e.1≠p:=by simp [iJ,List.findIdx?_eq_none_iff]
theorem aLv {l:List En} {p:Pt} {i:Nat}:iJ l p=some i↔∃h:i<l.length,l[i].1=p∧∀j,∀hj:j<i,l[j].1≠p:=by
 rw [iJ,List.findIdx?_eq_some_iff_getElem];simp
theorem aYb {l:List En} {i:Nat} (h:i<l.length):tot (l.take (i+1))=tot (l.take i)+l[i].2.v:=by
 rw [List.take_succ_eq_append_getElem h,eT];simp
theorem qU {l:List En} (h:Mon l) (i:Nat):0≤tot (l.take i)∧tot (l.take i)≤tot l:=by
 have h1:0≤tot (l.take i):=Mon.pos fun e he=>h.1 e (List.mem_of_mem_take he)
 have h2:0≤tot (l.drop i):=Mon.pos fun e he=>h.1 e (List.mem_of_mem_drop he)
 have h3:tot l=tot (l.take i)+tot (l.drop i):=by rw [←eT,List.take_append_drop]
 omega
def iD (p:Pt) (c:Cn) (s:List En × Bool) (e:En):List En × Bool:=if uM p e.1&&!s.2 then (s.1++ [(p,c)]++ [e],true) else (s.1++ [e],s.2)
def dH (p:Pt) (c:Cn) (l:List En):List En × Bool:=l.foldl (iD p c) ([],false)
def aU5 (p:Pt) (c:Cn) (l:List En):List En:=if (dH p c l).2 then (dH p c l).1 else (dH p c l).1++ [(p,c)]
theorem aL4 {p:Pt} {c:Cn} {l:List En} {i:Nat} (h:i<l.length):dH p c (l.take (i+1))=iD p c (dH p c (l.take i)) l[i]:=by
 rw [List.take_succ_eq_append_getElem h,dH,List.foldl_append];rfl
theorem aZ7 (p:Pt) (c:Cn) (l:List En):(dH p c l).1.length≤l.length+1∧((dH p c l).2=false→(dH p c l).1.length=l.length):=by
 have key:∀(l:List En) (s:List En × Bool),(l.foldl (iD p c) s).1.length+(if s.2 then 1 else 0)=s.1.length+l.length+(if (l.foldl (iD p c) s).2 then 1 else 0):=by
  intro l
  induction l with
  |nil=>intro s;cases h:s.2<;>simp [h]
  |cons e l ih=>
   intro s
   rw [List.foldl_cons]
   have:=ih (iD p c s e)
   rw [List.length_cons]
   unfold iD at this ⊢
   by_cases h:uM p e.1=true
   ·cases hs:s.2
    ·simp [h,hs] at this ⊢;omega
    ·simp [h,hs] at this ⊢;omega
   ·simp [h] at this ⊢;omega
 have:=key l ([],false)
 simp only [List.length_nil,Nat.zero_add,Bool.false_eq_true,if_false,Nat.add_zero] at this
 unfold dH
 constructor
 ·split at this<;>omega
 ·intro h;rw [h] at this;simpa using this
def eE (l:List En) (p:Pt) (c:Cn):Int:=if eG p c then (if (iJ l p).isSome then 7 else if bX (tot l+c.v) then 0 else 3) else 2
def pS (l:List En) (p:Pt) (c:Cn):List En:=if eE l p c=0 then aU5 p c l else l
theorem wJ {l:List En} {p:Pt} {c:Cn} (h:eG p c=false):eE l p c=2:=by rw [eE,h];rfl
theorem aY0 {l:List En} {p:Pt} {c:Cn} {n:Nat} (h:eG p c=true) (hd:iJ l p=some n):eE l p c=7:=by rw [eE,h,hd];rfl
theorem aWh {l:List En} {p:Pt} {c:Cn} (h:eG p c=true) (hd:iJ l p=none):eE l p c=if bX (tot l+c.v) then 0 else 3:=by rw [eE,h,hd];rfl
theorem bBi {p:Pt} {c:Cn} {l:List En} {i:Nat} (h:i<l.length) (h1:uM p l[i].1=true) (h2:(dH p c (l.take i)).2=false):dH p c (l.take (i+1))=((dH p c (l.take i)).1++ [(p,c)]++ [l[i]],true):=by
 rw [aL4 h,iD,h1,h2];rfl
theorem bCb {p:Pt} {c:Cn} {l:List En} {i:Nat} (h:i<l.length) (h1:uM p l[i].1=false∨(dH p c (l.take i)).2=true):dH p c (l.take (i+1))=((dH p c (l.take i)).1++ [l[i]],(dH p c (l.take i)).2):=by
 rw [aL4 h,iD]
 rcases h1 with h1|h1<;>rw [h1]<;>simp
def Srt (l:List En):Prop:=l.Pairwise fun a b=>uM a.1 b.1=true
end
section
open Go
theorem aR7 {l:List En} (h:Srt l):(l.map (·.1)).Nodup:=by
 rw [List.Nodup,List.pairwise_map]
 exact h.imp fun hab e=>by rw [e,aVr] at hab;cases hab
theorem sU {m:List En} {p:Pt} {c:Cn} (hn:(m.map (·.1)).Nodup) (h:(p,c)∈m):aS m p=some c:=by
 induction m with
 |nil=>cases h
 |cons e m ih=>
  simp only [List.map_cons,List.nodup_cons] at hn
  rw [aS7]
  rcases List.mem_cons.1 h with h|h
  ·subst h;simp
  ·rw [if_neg,ih hn.2 h]
   intro e1
   exact hn.1 (e1▸List.mem_map_of_mem (f:=(·.1)) h)
theorem bGa {m l:List En} (hp:m.Perm l) (hs:Srt l) (p:Pt):aS m p=aS l p:=by
 have hl:=aR7 hs
 have hm:(m.map (·.1)).Nodup:=(hp.map _).nodup_iff.2 hl
 cases h:aS l p with
 |some c=>exact sU hm (hp.mem_iff.2 (tV h))
 |none=>
  cases h2:aS m p with
  |none=>rfl
  |some c=>rw [sU hl (hp.mem_iff.1 (tV h2))] at h;cases h
theorem xC {l:List En} {p:Pt} {n:Nat} (h:iJ l p=some n) (hn:n<l.length):aS l p=some l[n].2:=by
 rw [tC];unfold iJ at h;rw [h];simp [List.getElem?_eq_getElem hn]
theorem wX {l:List En} {p:Pt} (h:iJ l p=none):aS l p=none:=by
 rw [tC];unfold iJ at h;rw [h];rfl
theorem aVj {l:List En} {p:Pt} {n:Nat} (h:iJ l p=some n):n<l.length:=(aLv.1 h).1
theorem bBn (l:List En) (p:Pt):(aS l p).isSome=(iJ l p).isSome:=by
 cases h:iJ l p with
 |none=>rw [wX h];rfl
 |some n=>rw [xC h (aVj h)];rfl
section
variable {m l:List En} (hp:m.Perm l) (hs:Srt l)
include hp hs
theorem bJs (p:Pt) (c:Cn):gJ m p c=eE l p c:=by
 rw [gJ,eE,bGa hp hs,bBn,bGv hp]
end
def ins (p:Pt) (c:Cn):List En→List En
 | []=> [(p,c)]
 |e::l=>if uM p e.1 then (p,c)::e::l else e::ins p c l
theorem aZm (p:Pt) (c:Cn):∀(l out:List En),l.foldl (iD p c) (out,true)=(out++l,true)
 | [],out=>by simp
 |e::l,out=>by
  rw [List.foldl_cons]
  have:iD p c (out,true) e=(out++ [e],true):=by simp [iD]
  rw [this,aZm p c l];simp
theorem aS1 (p:Pt) (c:Cn):∀(l out:List En),(let s:=l.foldl (iD p c) (out,false);if s.2 then s.1 else s.1++ [(p,c)])=out++ins p c l
 | [],out=>by simp [ins]
 |e::l,out=>by
  rw [List.foldl_cons]
  by_cases h:uM p e.1=true
  ·have:iD p c (out,false) e=(out++ [(p,c)]++ [e],true):=by simp [iD,h]
   rw [this,aZm]
   simp [ins,h]
  ·have h:uM p e.1=false:=by simpa using h
   have:iD p c (out,false) e=(out++ [e],false):=by simp [iD,h]
   rw [this,aS1 p c l]
   simp [ins,h]
theorem bFb (p:Pt) (c:Cn) (l:List En):aU5 p c l=ins p c l:=by
 have:=aS1 p c l []
 rw [List.nil_append] at this
 exact this
theorem aOa (p:Pt) (c:Cn):∀l:List En,(ins p c l).Perm ((p,c)::l)
 | []=>List.Perm.refl _
 |e::l=>by
  unfold ins
  split
  ·exact List.Perm.refl _
  ·exact ((aOa p c l).cons e).trans (List.Perm.swap _ _ _)
theorem bCj (p:Pt) (c:Cn):∀{l:List En},Srt l→(∀e∈l,e.1≠p)→Srt (ins p c l)
 | [],_,_=>by simp [ins,Srt]
 |e::l,hs,hn=>by
  have hs':=List.pairwise_cons.1 hs
  unfold ins
  split
  ·rename_i h
   refine List.pairwise_cons.2 ⟨fun x hx=>?_,hs⟩
   rcases List.mem_cons.1 hx with h1|h1
   ·rw [h1];exact h
   ·exact aZ2 h (hs'.1 x h1)
  ·rename_i h
   refine List.pairwise_cons.2 ⟨fun x hx=>?_,bCj p c hs'.2 (fun x hx=>hn x (by simp [hx]))⟩
   rcases List.mem_cons.1 ((aOa p c l).mem_iff.1 hx) with h1|h1
   ·rw [h1]
    cases h2:uM e.1 p
    ·exact absurd (bHx h2 (by simpa using h)) (hn e (by simp))
    ·rfl
   ·exact hs'.1 x h1
theorem bL5 {m l:List En} (hp:m.Perm l) (hs:Srt l) (p:Pt) (c:Cn):(wK m p c).Perm (pS l p c)∧Srt (pS l p c)∧(pS l p c).length≤l.length+1:=by
 have hc:=bJs hp hs p c
 unfold wK pS
 rw [hc]
 split
 ·rename_i h0
  rw [bFb]
  have hi:iJ l p=none:=by
   unfold eE at h0
   cases h:iJ l p with
   |none=>rfl
   |some n=>
    rw [h] at h0
    simp only [Option.isSome_some,if_true] at h0
    split at h0<;>omega
  have h1:=aOa p c l
  refine ⟨?_,bCj p c hs (aMm.1 hi),by rw [h1.length_eq];simp⟩
  refine List.Perm.trans ?_ h1.symm
  exact (List.perm_append_singleton (p,c) m).trans (hp.cons _)
 ·exact ⟨hp,hs,by omega⟩
end
section
open Go
def Reads (P:Program) (W:World) (t:TypeId) (cs:List Value):Prop:=
 ∃(H:Type) (enc:TypeId × Value→H) (base:Nat) (spare:Nat→Bool) (held:Bool) (fuel:Nat) (x:DataW H × List MemPlace),DataW.trod enc P W base spare held fuel t cs=some x
variable {P:Program} {W:World} {t:TypeId} {cs:List Value}
theorem aDu {k:IntKind} (hu:P.underlying t=some (.int k)) (h:Reads P W t cs):∃n,cs= [.int k n]∧k.min≤n∧n≤k.max:=by
 obtain ⟨H,enc,base,spare,held,fuel,x,h⟩:=h
 obtain ⟨n,h1,_,h2⟩:=DataW.trod_int hu h
 exact ⟨n,h1,by simpa [Lit.wf] using h2⟩
theorem aOp (hu:P.underlying t=some .bool) (h:Reads P W t cs):∃b,cs= [.bool b]:=by
 obtain ⟨H,enc,base,spare,held,fuel,x,h⟩:=h
 obtain ⟨b,h1,_⟩:=DataW.trod_bool hu h
 exact ⟨b,h1⟩
theorem zY (hu:P.underlying t=some .string) (h:Reads P W t cs):∃s,cs= [.string s]∧s.size≤maxLen:=by
 obtain ⟨H,enc,base,spare,held,fuel,x,h⟩:=h
 obtain ⟨b,h1,_,h2⟩:=DataW.trod_string hu h
 exact ⟨b,h1,h2⟩
theorem kN {fs:Array Field} (hu:P.underlying t=some (.struct fs)) (h:Reads P W t cs):cs.length=P.cellsOf t∧∀f∈fs.toList,Reads P W f.type ((cs.drop f.offset).take (P.cellsOf f.type)):=by
 obtain ⟨H,enc,base,spare,held,fuel,x,h⟩:=h
 obtain ⟨xs,n,_,rfl,hl,hlen,hf⟩:=DataW.trod_struct hu h
 refine ⟨hl,fun f hm=>?_⟩
 obtain ⟨i,hi,rfl⟩:=List.getElem_of_mem hm
 have h1:=hf i fs.toList[i] (by simp)
 cases hx:xs[i]? with
 |none=>exact absurd (List.getElem?_eq_none_iff.1 hx) (by simp at hi;omega)
 |some y=>rw [hx] at h1;exact ⟨H,enc,base,spare,held,n,y,h1⟩
theorem bF3 {base n:Nat} {a:Addr} {l:List Value} (h:W.cells? base a n=some l):l.length=n∧Row W a l:=by
 obtain ⟨_,h1,h2⟩:=World.cells?_some h
 refine ⟨h1,fun j v hj=>?_⟩
 rw [h2 j (by have:=(List.getElem?_eq_some_iff.1 hj).1;omega)];exact hj
theorem aZh {e:TypeId} (hu:P.underlying t=some (.slice e)) (h:Reads P W t cs):
  cs= [.slice none 0 0]∨∃(a:Addr) (len cap:Nat),cs= [.slice (some a) len cap]∧len≤cap∧cap≤maxLen∧∀i,i<len→∃c,c.length=P.cellsOf e∧Row W (a.add (i*P.cellsOf e)) c∧Reads P W e c:=by
 obtain ⟨H,enc,base,spare,held,fuel,x,h⟩:=h
 rcases Go.Deep.open_slice hu h with ⟨h1,_⟩|⟨a,len,cap,m,n,D,Pl,h1,_,hl,hm,rfl,_,hi⟩
 ·exact .inl h1
 ·refine .inr ⟨a,len,cap,h1,hl,hm,fun i hil=>?_⟩
  obtain ⟨c,h2,h3⟩:=hi i (by split<;>omega)
  have h4:=bF3 h2
  exact ⟨c,h4.1,h4.2,H,enc,base,spare,held,n,_,h3⟩
theorem bBv {a:Addr} {l l':List Value} (h:Row W a l) (h':Row W (a.add l.length) l'):Row W a (l++l'):=by
 intro j v hj
 by_cases hl:j<l.length
 ·rw [List.getElem?_append_left hl] at hj;exact h j v hj
 ·rw [List.getElem?_append_right (by omega)] at hj
  have:=h' _ v hj
  rwa [add_add,show l.length+(j - l.length)=j by omega] at this
end
section
open Go
variable {P:Program} {W:World} {t:TypeId}
theorem aRs {α:Type} (E:R α) {a:Addr}:∀(n:Nat),(∀i,i<n→∃c x,Row W (a.add (i*E.k)) c∧E.rel [] W c x)→∃(css:List (Vec E.k)) (l:List α),css.length=n∧Row W a ((qN E.k E.pos).flat css)∧E.all [] W css l
 |0,_=>⟨[], [],rfl,fun j v hj=>by simp [Enc.flat] at hj,.nil⟩
 |n+1,h=>by
  obtain ⟨css,l,h1,h2,h3⟩:=aRs E n fun i hi=>h i (by omega)
  obtain ⟨c,x,hc,hx⟩:=h n (by omega)
  refine ⟨css++ [R.vec hx],l++ [x],by simp [h1],?_,h3.append (.cons hx .nil)⟩
  rw [Enc.flat_append]
  refine bBv h2 ?_
  rw [Enc.flat_length,h1]
  have e:(qN E.k E.pos).flat [R.vec hx]=c:=by show c++ []=c;exact List.append_nil _
  rw [e];exact hc
theorem sI {α:Type} (E:R α) {e:TypeId} {v:Value} (hu:P.underlying t=some (.slice e)) (hk:P.cellsOf e=E.k) (he:∀c,Reads P W e c→∃x,E.rel [] W c x) (h:Reads P W t [v]):∃l,SlR E [] W v l∧l.length≤maxLen:=by
 rcases aZh hu h with h1|⟨a,len,cap,h1,hl,hm,hi⟩
 ·simp at h1;subst h1
  exact ⟨[],SlR.nil _ _,by simp⟩
 ·simp at h1;subst h1
  obtain ⟨css,l,h2,h3,h4⟩:=aRs (W:=W) E (a:=a) len fun i hil=>by
   obtain ⟨c,_,h4,h5⟩:=hi i hil
   obtain ⟨x,hx⟩:=he c h5
   exact ⟨c,x,by rw [←hk];exact h4,hx⟩
  subst h2
  exact ⟨l,⟨css,⟨Enc.flat_length _ css,some a,cap,rfl,hl,fun _=>⟨a,rfl,h3⟩⟩,h4,fun _ b _ hm=>by simp at hm⟩,by rw [←h4.length];omega⟩
def R.and {α:Type} (E:R α) (p:α→Prop):R α where
 k:=E.k
 pos:=E.pos
 ag:=E.ag
 rel:=fun M w cs x=>E.rel M w cs x∧p x
 len:=fun h=>E.len h.1
 one:=fun h=>E.one h.1
 step:=fun h c hL hM=>⟨E.step h.1 c hL hM,h.2⟩
theorem All2.right {α β:Type} {r:α→β→Prop} {q:β→Prop} (h:∀a b,r a b→q b):∀{l:List α} {m:List β},All2 r l m→∀b∈m,q b
 |_,_,.nil,b,hb=>by simp at hb
 |_,_,.cons h1 t,b,hb=>by
  rcases List.mem_cons.1 hb with rfl|hb
  ·exact h _ _ h1
  ·exact All2.right h t b hb
theorem SlR.both {α:Type} {E:R α} {p:α→Prop} {M:List Nat} {w:World} {v:Value} {l:List α} (h:SlR (E.and p) M w v l):SlR E M w v l∧∀x∈l,p x:=by
 obtain ⟨css,h1,h2,h3⟩:=h
 exact ⟨⟨css,h1,h2.mono fun _ _ h=>h.1,h3⟩,All2.right (fun _ _ h=>h.2) h2⟩
end
end Go.K
namespace Go.Proofs.YtfebcajheojodaaGreatDoor
section
open Go Go.K
attribute [local irreducible] aO aU bQ KOp.wp K.Spec u32 leS vnS str aV cU cD idT aR aG aX idN bD cF bT bH cA cO
end
section
open Go Go.K
attribute [local irreducible] aO aU bQ KOp.wp K.Spec u32 leS vnS str aV cU cD idT aR aG aX idN bD cF bT bH cA cO
theorem cJ.outs {t:TypeId} {B:Nat} {M M':List Nat} {w:World} {v:Value} {l:List TOut} (h:cJ eX t B M w v l):cJ eX t B M' w v l:=by
 obtain ⟨css,h1,h2⟩:=h
 exact ⟨css,h1,h2.mono fun _ _ hr=>hr⟩
end
section
open Go Go.K
attribute [local irreducible] aO aU bQ KOp.wp K.Spec u32 leS vnS str aV cU cD idT aR aG aX idN bD cF bT bH cA cO
end
end Go.Proofs.YtfebcajheojodaaGreatDoor
