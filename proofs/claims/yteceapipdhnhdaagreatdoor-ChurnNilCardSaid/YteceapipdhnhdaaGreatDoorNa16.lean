/- Contracts: a block's schedule. Contracts: the document's lis -/
import Derived.Test.YteceapipdhnhdaaGreatDoorNa2
import Derived.Test.YteceapipdhnhdaaGreatDoorNa9
import Derived.Test.YteceapipdhnhdaaGreatDoorNa10
import Derived.Test.YteceapipdhnhdaaGreatDoorNa11
set_option linter.unusedVariables false
set_option linter.unusedSimpArgs false
namespace Go.Proofs.YteceapipdhnhdaaGreatDoor
section
open Go Go.K
attribute [local irreducible] aH aM aY KOp.wp K.Spec u32 leS vnS str aP dV jK wCs oJ mX lV gM wAt
theorem bQ5 {B:List W32} {i:Nat} {bs:List UInt8} {w:World} {b:Nat} {T:TypeId} {f:Nat × Nat} (h:i<64) (ha:At w b (.cells (wCs (mX B i)).toArray T f)):At w b (.cells (wCs (oJ B i (gM bs 0))).toArray T f):=by
 rw [aDz h] at ha
 have e:gM bs 0=0:=by unfold gM;rfl
 rw [e];exact ha
set_option maxHeartbeats 4000000 in
theorem bCd (s:ByteArray) (hs:64≤s.size) (hm:s.size≤100000000) (w:World):K.Spec Tryz.prog F.sha_schedule [.string s] w fun r w'=>r=.agg (wCs (jK (lV s.data.toList) 64)).toArray∧Ext w w':=by
 refine aOw rfl ?_
 unfold aC5
 refine oy ?_
 refine goR ?_
 refine zH (fun b2 w1 x1 a2 hb2=>?_)
 refine goR ?_
 refine zH (fun b3 w2 x2 a3 hb3=>?_)
 have a3:At w2 b3 (.cells (wCs (mX (lV s.data.toList) 0)).toArray T.n_64_uint32 (0,0)):=by
  rw [aDz (by decide),aTn,←bQy];exact a3
 have a2:At w1 b2 (.cells (List.replicate 64 (Value.int .u32 0)).toArray T.n_64_uint32 (0,0)):=a2
 have hb23:∀i,i<16→(s.extract (4*i) (4*i+4)).data.toList.length=4:=fun i hi=>by
  rw [aW9,List.length_take,List.length_drop,Array.length_toList]
  have:s.data.size=s.size:=rfl
  omega
 repeat' (first|(first|refine aD8 rfl rfl ?_|refine aDx rfl rfl ?_|refine aDy rfl rfl ?_|refine aJ1 rfl rfl ?_|refine aD5 rfl ?_|refine yF rfl ?_)|(first|refine zF (fE _ .i64 7 (by decide) (by decide)) ?_)|(first|refine zF (fE _ .i64 18 (by decide) (by decide)) ?_)|(first|refine zF (fE _ .i64 17 (by decide) (by decide)) ?_)|(first|refine zF (fE _ .i64 19 (by decide) (by decide)) ?_)|refine zZ 3 (by decide) rfl rfl ?_|refine zZ 10 (by decide) rfl rfl ?_|refine bL5 8 (by decide) rfl rfl ?_|refine fQ (i - 15) rfl (congrArg (Value.int .i64) (by omega)) (by omega) ?_|refine fQ (i - 2) rfl (congrArg (Value.int .i64) (by omega)) (by omega) ?_|refine fQ (i - 16) rfl (congrArg (Value.int .i64) (by omega)) (by omega) ?_|refine fQ (i - 7) rfl (congrArg (Value.int .i64) (by omega)) (by omega) ?_|refine fQ i rfl rfl (by omega) ?_|refine tR rfl rfl (by omega) ?_|refine pV _ rfl (Row.of_at (t:=T.n_64_uint32) (f:=(0,0)) (by exact atx)) (by first|(rw [iR (by omega)];omega)|(rw [aB7 (by omega)];omega)) ?_|(first|refine go2 ?_|fail)|refine zL rfl (fun h=>?_) (fun h=>?_)|(refine aJ (fun (i:Nat) w'=>Ext w1 w'∧i≤64∧At w' b3 (.cells (wCs (mX (lV s.data.toList) i)).toArray T.n_64_uint32 (0,0))) (fun i=> [(0,.string s),(2,.pointer (some ⟨b2,0,none⟩)),(3,.pointer (some ⟨b3,0,none⟩)),(9,.int .i64 i)]) (fun i=>64 - i) 0 ⟨rfl,rfl,rfl,rfl,trivial⟩ ⟨by exact fx,by omega,a3⟩ ?_;rintro i ρ w3 ⟨x3,hi,ha⟩)|refine tR rfl rfl (by omega) ?_|refine bIh (lo:=4*i) (hi:=4*i+4) rfl (congrArg (Value.int .i64) (by omega)) (congrArg (Value.int .i64) (by omega)) (by omega) (by omega) ?_|refine bCb rfl (fun v w4 x4 hv hb4=>?_)|refine bL rfl hv ?_|(have hi16:i<16:=(by omega);have hbl:=hb23 i hi16;refine aJ (fun (k:Nat) w'=>Ext w1 w'∧k≤4∧SlE u8E w' v (s.extract (4*i) (4*i+4)).data.toList∧At w' b3 (.cells (wCs (oJ (lV s.data.toList) i (gM (s.extract (4*i) (4*i+4)).data.toList k))).toArray T.n_64_uint32 (0,0))) (fun k=> [(0,.string s),(2,.pointer (some ⟨b2,0,none⟩)),(3,.pointer (some ⟨b3,0,none⟩)),(4,.int .i64 i),(9,.int .i64 i),(21,v),(22,.int .i64 ((s.extract (4*i) (4*i+4)).data.toList.length:Nat)),(23,.int .i64 k)]) (fun k=>4 - k) 0 ⟨rfl,rfl,rfl,rfl,rfl,rfl,rfl,rfl,trivial⟩ ⟨by exact fx,by omega,by exact fx,bQ5 (by omega) (by exact atx)⟩ ?_;rintro k ρ4 w6 ⟨x6,hk,hv6,ha6⟩)|(refine aT rfl rfl hv6 rfl (by omega) (fun ad r7=>?_);have hkl:k<4:=(by omega))|refine bC rfl rfl (aAg _) (by exact atx) (by rw [cJ];first|(rw [iR (by omega)];omega)|(rw [aB7 (by omega)];omega)) (fun w8 c8 a8=>?_)|(have e:i=64:=(by omega);subst e;refine tN (n:=64) rfl (Row.of_at ha) (by rw [cJ,iR (by omega)];exact Nat.le_refl _) (tLe (by rw [cJ,iR (by omega)];exact Nat.le_refl _)) ?_)|refine aW (w0:=w) (vs:=wCs (mX (lV s.data.toList) 64)) (by exact fx) hb2 (a2.ext x3) rfl rfl (by rw [cJ,iR (by omega)]) (by rw [List.length_replicate]) (lJ _) (fun w9 x9 c9 a9 r9=>?_))
 ·refine ⟨k+1,⟨rfl,rfl,rfl,rfl,rfl,rfl,rfl,rfl,trivial⟩,⟨(x6.chg c8).mono (by intro y hy;simp at hy;right;omega),by omega,SlE.chg c8 hv6 (fun a m c e hm=>?_),?_⟩,by omega⟩
  ·have h1:=hb4 a.block (by rw [e];simp [aC])
   have h2:=ha.lt
   simp at hm;omega
  ·rw [←bGb (by omega)]
   exact a8
 ·obtain rfl:k=4:=by omega
  rw [bGa hi16] at ha6
  exact ⟨i+1,⟨rfl,rfl,rfl,rfl,trivial⟩,⟨x6,by omega,ha6⟩,by omega⟩
 ·have x7:Ext w1 w8:=(Ext.chg (w:=w1) (by exact fx) c8).mono (by intro y hy;simp at hy;right;omega)
  refine ⟨i+1,⟨rfl,rfl,rfl,rfl,trivial⟩,⟨x7,by omega,?_⟩,by omega⟩
  rw [←bAj (by omega) (by omega)]
  exact a8
 ·exact aA (aEo (bA r9 rfl (by rw [cJ,iR (by omega)]))) ⟨by rw [bEt],x9⟩
end
section
open Go Go.K
attribute [local irreducible] aH aM aY KOp.wp K.Spec
theorem bA8 (p q:Pt) (w:World):K.Spec Tryz.prog F.kedgeref05_Less [p.val,q.val] w fun v w'=>v=.bool (lA p q)∧Ext w w':=by
 refine aI2 rfl ?_
 unfold vX
 refine oy ?_
 repeat (first|refine go ?_|refine zg λ_ _=>?_|refine zi λ_ _=>?_)
 refine nW rfl rfl (fun b1 w1 x1 _ r1 _=>?_)
 repeat (first|refine go ?_|refine zg λ_ _=>?_|refine zi λ_ _=>?_)
 refine nW rfl rfl (fun b2 w2 x2 _ r2 _=>?_)
 repeat (first|refine go ?_|refine zg λ_ _=>?_|refine zi λ_ _=>?_)
 refine rK rfl (fun h=>?_) (fun h=>?_)
 ·repeat (first|refine go ?_|refine zg λ_ _=>?_|refine zi λ_ _=>?_)
  exact aA rfl ⟨congrArg Value.bool (by rw [lA,if_pos h]),x1.trans x2⟩
 ·repeat (first|refine go ?_|refine zg λ_ _=>?_|refine zi λ_ _=>?_)
  exact aA rfl ⟨congrArg Value.bool (by rw [lA,if_neg h]),x1.trans x2⟩
theorem bAm (s s':ByteArray) (i i':Int) (w:World):K.Spec Tryz.prog F.kedgeref10_same [.agg #[.string s,.int .u32 i],.agg #[.string s',.int .u32 i']] w fun v w'=>v=.bool (decide (s=s'∧i=i'))∧Ext w w':=by
 refine aH5 rfl ?_
 unfold uJ
 refine oy ?_
 repeat (first|refine go ?_|refine zg λ_ _=>?_|refine zi λ_ _=>?_)
 refine nW rfl rfl (fun b1 w1 x1 _ r1 _=>?_)
 repeat (first|refine go ?_|refine zg λ_ _=>?_|refine zi λ_ _=>?_)
 refine nW rfl rfl (fun b2 w2 x2 _ r2 _=>?_)
 repeat (first|refine go ?_|refine zg λ_ _=>?_|refine zi λ_ _=>?_)
 refine qE rfl (fun h=>?_) (fun h=>?_)
 ·repeat (first|refine go ?_|refine zg λ_ _=>?_|refine zi λ_ _=>?_)
  refine aA rfl ⟨congrArg Value.bool ?_,x1.trans x2⟩
  simp [h]
 ·repeat (first|refine go ?_|refine zg λ_ _=>?_|refine zi λ_ _=>?_)
  refine aA rfl ⟨congrArg Value.bool ?_,x1.trans x2⟩
  simp [h]
theorem bCe (p q:Pt) (w:World):K.Spec Tryz.prog F.kedgeref10_same [p.val,q.val] w fun v w'=>v=.bool (decide (p=q))∧Ext w w':=by
 have h:=bAm p.s q.s p.i q.i w
 have e:decide (p.s=q.s∧p.i=q.i)=decide (p=q):=by cases p;cases q;simp
 rw [e] at h;exact h
theorem aDi {v:Value} {l:List En} (p:Pt) (w:World) (hs:SlE cQ w v l) (hn:l.length≤100000):K.Spec Tryz.prog F.kedgeref10_Find [v,p.val] w fun v' w'=>v'=.int .i64 (jP l p)∧Ext w w':=by
 refine aH1 rfl ?_
 unfold uV
 refine oy ?_
 repeat (first|refine go ?_|refine zg λ_ _=>?_|refine zi λ_ _=>?_)
 refine nW rfl rfl (fun b1 w1 x1 a1 r1 hb1=>?_)
 repeat (first|refine go ?_|refine zg λ_ _=>?_|refine zi λ_ _=>?_)
 refine aJ (fun (i:Nat) w'=>Ext w1 w'∧i≤l.length∧∀j,∀h:j<l.length,j<i→l[j].1≠p) (fun i=> [(0,v),(3,.pointer (some ⟨b1,0,none⟩)),(5,.int .i64 i)]) (fun i=>l.length - i) 0 ⟨rfl,rfl,rfl,trivial⟩ ⟨Ext.refl _,by omega,by intros;omega⟩ ?_
 rintro i ρ w2 ⟨x2,hi,hno⟩
 repeat (first|refine go ?_|refine zg λ_ _=>?_|refine zi λ_ _=>?_)
 refine bL rfl ((hs.ext x1).ext x2) ?_
 repeat (first|refine go ?_|refine zg λ_ _=>?_|refine zi λ_ _=>?_)
 refine rK rfl (fun h=>?_) (fun h=>?_)
 ·repeat (first|refine go ?_|refine zg λ_ _=>?_|refine zi λ_ _=>?_)
  rename_i w3 x3
  refine aT rfl rfl (((hs.ext x1).ext x2).ext x3) rfl (by omega) (fun ad r3=>?_)
  repeat (first|refine go ?_|refine zg λ_ _=>?_|refine zi λ_ _=>?_)
  have hil:i<l.length:=by omega
  refine gD rfl (bCe l[i].1 p _) ?_
  rintro _ w4 ⟨rfl,x4⟩
  repeat (first|refine go ?_|refine zg λ_ _=>?_|refine zi λ_ _=>?_)
  refine rK rfl (fun h2=>?_) (fun h2=>?_)
  ·repeat (first|refine go ?_|refine zg λ_ _=>?_|refine zi λ_ _=>?_)
   refine aA rfl ⟨congrArg (Value.int .i64) ?_,by repeat (first|assumption|exact Ext.refl _|refine Ext.trans ?_ (by assumption))⟩
   rw [jP,aDq.2 ⟨hil,h2,fun j hj=>hno j (by omega) hj⟩]
  ·repeat (first|refine go ?_|refine zg λ_ _=>?_|refine zi λ_ _=>?_)
   refine ⟨i+1,⟨rfl,rfl,rfl,trivial⟩,⟨by repeat (first|assumption|exact Ext.refl _|refine Ext.trans ?_ (by assumption)),by omega,fun j hj hji=>?_⟩,by omega⟩
   rcases Nat.lt_or_ge j i with h5|h5
   ·exact hno j hj h5
   ·have:j=i:=by omega
    subst this;exact h2
 ·repeat (first|refine go ?_|refine zg λ_ _=>?_|refine zi λ_ _=>?_)
  refine aA rfl ⟨congrArg (Value.int .i64) ?_,by repeat (first|assumption|exact Ext.refl _|refine Ext.trans ?_ (by assumption))⟩
  rw [jP,aLq.2]
  intro e he
  obtain ⟨j,hj,rfl⟩:=List.getElem_of_mem he
  exact hno j hj (by omega)
theorem aRc {v:Value} {l:List En} (w:World) (hs:SlE cQ w v l) (hn:l.length≤100000) (hm:Mon l):K.Spec Tryz.prog F.kedgeref10_Total [v] w fun v' w'=>v'=.int .i64 (tot l)∧Ext w w':=by
 refine aFl rfl ?_
 unfold sP
 refine oy ?_
 repeat (first|refine go ?_|refine zg λ_ _=>?_|refine zi λ_ _=>?_)
 refine aJ (fun (i:Nat) w'=>Ext w w'∧i≤l.length) (fun i=> [(0,v),(3,.int .i64 (tot (l.take i))),(4,.int .i64 i)]) (fun i=>l.length - i) 0 ⟨rfl,rfl,rfl,trivial⟩ ⟨Ext.refl _,by omega⟩ ?_
 rintro i ρ w1 ⟨x1,hi⟩
 repeat (first|refine go ?_|refine zg λ_ _=>?_|refine zi λ_ _=>?_)
 refine bL rfl (hs.ext x1) ?_
 repeat (first|refine go ?_|refine zg λ_ _=>?_|refine zi λ_ _=>?_)
 refine rK rfl (fun h=>?_) (fun h=>?_)
 ·repeat (first|refine go ?_|refine zg λ_ _=>?_|refine zi λ_ _=>?_)
  refine aT rfl rfl (hs.ext x1) rfl (by omega) (fun ad r3=>?_)
  have hil:i<l.length:=by omega
  have e:=bKl hil
  have b1:=aDc hm i
  have b2:=aDc hm (i+1)
  have b3:=hm.2
  repeat (first|refine go ?_|refine zg λ_ _=>?_|refine zi λ_ _=>?_)
  exact ⟨i+1,⟨rfl,congrArg (Value.int .i64) e.symm,rfl,trivial⟩,⟨x1,by omega⟩,by omega⟩
 ·repeat (first|refine go ?_|refine zg λ_ _=>?_|refine zi λ_ _=>?_)
  refine aA rfl ⟨congrArg (Value.int .i64) ?_,x1⟩
  rw [tLe (by omega)]
def rS (v vl:Value) (l l':List En) (B:Nat):Prop:=(vl=v∧l'=l)∨∀b∈aC vl,B≤b
theorem rS.old {v vl:Value} {l l':List En} {B:Nat} (h:rS v vl l l' B):∀b∈aC vl,b∈aC v∨B≤b:=by
 rcases h with ⟨rfl, -⟩|h
 ·exact fun b hb=>.inl hb
 ·exact fun b hb=>.inr (h b hb)
theorem rS.trans {v vm vl:Value} {l m l':List En} {B B':Nat} (h:rS v vm l m B) (h':rS vm vl m l' B') (hB:B≤B'):rS v vl l l' B:=by
 rcases h' with ⟨rfl,rfl⟩|h'
 ·exact h
 ·exact .inr fun b hb=>nTr hB (h' b hb)
theorem aZh {v:Value} {l:List En} (p:Pt) (c:Cn) (w:World) (hs:SlE cQ w v l) (hn:l.length≤100000) (hm:Mon l):K.Spec Tryz.prog F.kedgeref10_Put [v,p.val,c.val] w fun v' w'=>
  ∃vl,v'=.tuple #[vl,.int .i64 (aV l p c)]∧SlE cQ w' vl (cR l p c)∧rS v vl l (cR l p c) w.heap.size∧Ext w w':=by
 refine aKy rfl ?_
 unfold xQ
 refine oy ?_
 have fail:∀{w':World} {n:Int},Ext w w'→n≠0→aV l p c=n→∃vl,Value.tuple #[v,.int .i64 n]=.tuple #[vl,.int .i64 (aV l p c)]∧SlE cQ w' vl (cR l p c)∧rS v vl l (cR l p c) w.heap.size∧Ext w w':=by
  intro w' n x h0 hc
  refine ⟨v,by rw [hc],?_,.inl ⟨rfl,by rw [cR,if_neg (by rw [hc];exact h0)]⟩,x⟩
  rw [cR,if_neg (by rw [hc];exact h0)];exact hs.ext x
 repeat (first|refine go ?_|refine zg λ_ _=>?_|refine zi λ_ _=>?_)
 refine nW rfl rfl (fun b1 w1 x1 a1 r1 hb1=>?_)
 repeat (first|refine go ?_|refine zg λ_ _=>?_|refine zi λ_ _=>?_)
 refine nW rfl rfl (fun b2 w2 x2 a2 r2 hb2=>?_)
 repeat (first|refine go ?_|refine zg λ_ _=>?_|refine zi λ_ _=>?_)
 have e32:((p.s.size:Int)=32)↔p.s.size=32:=by omega
 refine aVf rfl (fun h1=>?_) (fun h1=>?_)
 ·repeat (first|refine go ?_|refine zg λ_ _=>?_|refine zi λ_ _=>?_)
  refine aA (iY bI bI) (fail (by repeat (first|assumption|exact Ext.refl _|refine Ext.trans ?_ (by assumption))) (by decide) (vH ?_))
  have h1':¬p.s.size=32:=fun h=>by simp [e32.2 h] at h1
  simp [dL,h1']
 have h1:p.s.size=32:=e32.1 (by simpa using h1)
 repeat (first|refine go ?_|refine zg λ_ _=>?_|refine zi λ_ _=>?_)
 refine qE rfl (fun h2=>?_) (fun h2=>?_)
 ·repeat (first|refine go ?_|refine zg λ_ _=>?_|refine zi λ_ _=>?_)
  refine aA (iY bI bI) (fail (by repeat (first|assumption|exact Ext.refl _|refine Ext.trans ?_ (by assumption))) (by decide) (vH ?_))
  have h2':¬0≤c.h:=by omega
  simp [dL,h2']
 repeat (first|refine go ?_|refine zg λ_ _=>?_|refine zi λ_ _=>?_)
 refine qE rfl (fun h3=>?_) (fun h3=>?_)
 ·repeat (first|refine go ?_|refine zg λ_ _=>?_|refine zi λ_ _=>?_)
  refine aA (iY bI bI) (fail (by repeat (first|assumption|exact Ext.refl _|refine Ext.trans ?_ (by assumption))) (by decide) (vH ?_))
  have h3':¬c.h≤1000000:=by omega
  simp [dL,h3']
 repeat (first|refine go ?_|refine zg λ_ _=>?_|refine zi λ_ _=>?_)
 refine rX rfl (fun h4=>?_) (fun h4=>?_)
 ·repeat (first|refine go ?_|refine zg λ_ _=>?_|refine zi λ_ _=>?_)
  refine aA (iY bI bI) (fail (by repeat (first|assumption|exact Ext.refl _|refine Ext.trans ?_ (by assumption))) (by decide) (vH ?_))
  have h4':bT c.v=false:=by simpa using h4
  simp [dL,h4']
 have h4:bT c.v=true:=by simpa using h4
 have hf:dL p c=true:=by simp [dL,h1,h4];omega
 have hcv:=(bR _).1 h4
 have ht:=aDc hm l.length
 rw [List.take_length] at ht
 have hT:=hm.2
 repeat (first|refine go ?_|refine zg λ_ _=>?_|refine zi λ_ _=>?_)
 refine gD rfl (aDi p _ ((hs.ext x1).ext x2) hn) ?_
 rintro _ w4 ⟨rfl,x4⟩
 repeat (first|refine go ?_|refine zg λ_ _=>?_|refine zi λ_ _=>?_)
 cases hi:eN l p with
 |some n=>
  have hfi:jP l p=(n:Int):=by rw [jP,hi]
  rw [hfi]
  have hpos:(n:Int)≥0:=by omega
  refine rK (p:=(n:Int)≥0) rfl (fun _=>?_) (fun h=>absurd hpos h)
  repeat (first|refine go ?_|refine zg λ_ _=>?_|refine zi λ_ _=>?_)
  exact aA (iY bI bI) (fail (by repeat (first|assumption|exact Ext.refl _|refine Ext.trans ?_ (by assumption))) (by decide) (aXh hf hi))
 |none=>
  have hfi:jP l p= -1:=by rw [jP,hi]
  rw [hfi]
  refine aGs rfl ?_
  repeat (first|refine go ?_|refine zg λ_ _=>?_|refine zi λ_ _=>?_)
  refine gD rfl (aRc _ (((hs.ext x1).ext x2).ext x4) hn hm) ?_
  rintro _ w5 ⟨rfl,x5⟩
  repeat (first|refine go ?_|refine zg λ_ _=>?_|refine zi λ_ _=>?_)
  have hc0:=aLm hf hi
  refine rX rfl (fun h5=>?_) (fun h5=>?_)
  ·repeat (first|refine go ?_|refine zg λ_ _=>?_|refine zi λ_ _=>?_)
   refine aA (iY bI bI) (fail (by repeat (first|assumption|exact Ext.refl _|refine Ext.trans ?_ (by assumption))) (by decide) ?_)
   rw [hc0,(by simpa using h5:bT (tot l+c.v)=false)];rfl
  have h5:bT (tot l+c.v)=true:=by simpa using h5
  rw [h5] at hc0
  have hc0:aV l p c=0:=hc0
  repeat (first|refine go ?_|refine zg λ_ _=>?_|refine zi λ_ _=>?_)
  have x06:Unit→Ext w w5:=fun _=>by repeat (first|assumption|exact Ext.refl _|refine Ext.trans ?_ (by assumption))
  have hs6:=hs.ext (x06 ())
  have r16:Row w5 ⟨b1,0,none⟩ _:=((r1.ext x2).ext x4).ext x5
  have r26:Row w5 ⟨b2,0,none⟩ _:=(r2.ext x4).ext x5
  refine aJ (fun (s:Nat × Value) w'=>Ext w5 w'∧s.1≤l.length∧Own cQ T.kedgeref10_Entry w5.heap.size w' s.2 (cW p c (l.take s.1)).1)
   (fun s=> [(0,v),(4,.pointer (some ⟨b1,0,none⟩)),(5,.pointer (some ⟨b2,0,none⟩)),(11,s.2),(12,.bool (cW p c (l.take s.1)).2),(13,.int .i64 s.1)]) (fun s=>l.length - s.1) (0,.slice none 0 0) ⟨rfl,rfl,rfl,rfl,rfl,rfl,trivial⟩ ⟨Ext.refl _,by simp,by simpa [cW] using Own.nil _ _ _⟩ ?_
  rintro ⟨i,vo⟩ ρ w7 ⟨x7,hil,ho⟩
  simp only at hil ho
  have hlen:=bA0 p c (l.take i)
  have hlt:(l.take i).length≤l.length:=by simp;omega
  repeat (first|refine go ?_|refine zg λ_ _=>?_|refine zi λ_ _=>?_)
  refine bL rfl (hs6.ext x7) ?_
  repeat (first|refine go ?_|refine zg λ_ _=>?_|refine zi λ_ _=>?_)
  refine rK rfl (fun h=>?_) (fun h=>?_)
  ·have hil':i<l.length:=by omega
   repeat (first|refine go ?_|refine zg λ_ _=>?_|refine zi λ_ _=>?_)
   rename_i w8 x8
   refine aT rfl rfl ((hs6.ext x7).ext x8) rfl hil' (fun ad r8=>?_)
   repeat (first|refine go ?_|refine zg λ_ _=>?_|refine zi λ_ _=>?_)
   refine gD rfl (bA8 p l[i].1 _) ?_
   rintro _ w9 ⟨rfl,x9⟩
   repeat (first|refine go ?_|refine zg λ_ _=>?_|refine zi λ_ _=>?_)
   have x79:Unit→Ext w5 w9:=fun _=>by repeat (first|assumption|exact Ext.refl _|refine Ext.trans ?_ (by assumption))
   have no:lA p l[i].1=false∨(cW p c (l.take i)).2=true→cW p c (l.take (i+1))=((cW p c (l.take i)).1++ [l[i]],(cW p c (l.take i)).2):=fun h=>bCn hil' h
   refine aVf rfl (fun hL=>?_) (fun hL=>?_)
   ·repeat (first|refine go ?_|refine zg λ_ _=>?_|refine zi λ_ _=>?_)
    refine rX rfl (fun hq=>?_) (fun hq=>?_)
    ·have hq:(cW p c (l.take i)).2=false:=by simpa using hq
     have yes:=bB3 (c:=c) hil' hL hq
     repeat (first|refine go ?_|refine zg λ_ _=>?_|refine zi λ_ _=>?_)
     refine fU rfl (fun b13 w13 x13 a13 hb13=>?_)
     repeat (first|refine go ?_|refine zg λ_ _=>?_|refine zi λ_ _=>?_)
     refine bZ (E:=cQ) (v:=vo) (l2:= [(p,c)]) rfl (((ho.ext x8).ext x9).ext x13) (nTr (Ext.size (x79 ())) x13.size) rfl rfl (dR a13 rfl) rfl rfl (by simp;omega) (fun vo1 w14 ho1 c14=>?_)
     have x614:Unit→Ext w5 w14:=fun _=>(((x79 ()).trans x13).chg c14).mono (fun b hb=>.inr (ho.base b (by simpa using hb)))
     repeat (first|refine go ?_|refine zg λ_ _=>?_|refine zi λ_ _=>?_)
     refine aT rfl rfl (hs6.ext (x614 ())) rfl hil' (fun ad r10=>?_)
     repeat (first|refine go ?_|refine zg λ_ _=>?_|refine zi λ_ _=>?_)
     refine fU rfl (fun b11 w11 x11 a11 hb11=>?_)
     repeat (first|refine go ?_|refine zg λ_ _=>?_|refine zi λ_ _=>?_)
     refine bZ (E:=cQ) (v:=vo1) (l2:= [l[i]]) rfl (ho1.ext x11) (nTr (Ext.size (x614 ())) x11.size) rfl rfl (dR a11 rfl) rfl rfl (by simp;omega) (fun vo' w12 ho' c12=>?_)
     repeat (first|refine go ?_|refine zg λ_ _=>?_|refine zi λ_ _=>?_)
     refine ⟨(i+1,vo'),⟨rfl,rfl,rfl,rfl,?_,rfl,trivial⟩,⟨(((x614 ()).trans x11).chg c12).mono (fun b hb=>.inr (ho1.base b (by simpa using hb))),by simp;omega,?_⟩,by simp;omega⟩
     ·show Value.bool true=.bool (cW p c (l.take (i+1))).2
      rw [yes]
     ·show Own _ _ _ _ _ (cW p c (l.take (i+1))).1
      rw [yes];exact ho'
    ·have hq:(cW p c (l.take i)).2=true:=by simpa using hq
     repeat (first|refine go ?_|refine zg λ_ _=>?_|refine zi λ_ _=>?_)
     refine aT rfl rfl (hs6.ext (x79 ())) rfl hil' (fun ad r10=>?_)
     repeat (first|refine go ?_|refine zg λ_ _=>?_|refine zi λ_ _=>?_)
     refine fU rfl (fun b11 w11 x11 a11 hb11=>?_)
     repeat (first|refine go ?_|refine zg λ_ _=>?_|refine zi λ_ _=>?_)
     refine bZ (E:=cQ) (v:=vo) (l2:= [l[i]]) rfl (((ho.ext x8).ext x9).ext x11) (nTr (Ext.size (x79 ())) x11.size) rfl rfl (dR a11 rfl) rfl rfl (by simp;omega) (fun vo' w12 ho' c12=>?_)
     repeat (first|refine go ?_|refine zg λ_ _=>?_|refine zi λ_ _=>?_)
     refine ⟨(i+1,vo'),⟨rfl,rfl,rfl,rfl,?_,rfl,trivial⟩,⟨(((x79 ()).trans x11).chg c12).mono (fun b hb=>.inr (ho.base b (by simpa using hb))),by simp;omega,?_⟩,by simp;omega⟩
     ·show Value.bool (cW p c (l.take i)).2=.bool (cW p c (l.take (i+1))).2
      rw [no (.inr hq)]
     ·show Own _ _ _ _ _ (cW p c (l.take (i+1))).1
      rw [no (.inr hq)];exact ho'
   ·repeat (first|refine go ?_|refine zg λ_ _=>?_|refine zi λ_ _=>?_)
    refine aT rfl rfl (hs6.ext (x79 ())) rfl hil' (fun ad r10=>?_)
    repeat (first|refine go ?_|refine zg λ_ _=>?_|refine zi λ_ _=>?_)
    refine fU rfl (fun b11 w11 x11 a11 hb11=>?_)
    repeat (first|refine go ?_|refine zg λ_ _=>?_|refine zi λ_ _=>?_)
    refine bZ (E:=cQ) (v:=vo) (l2:= [l[i]]) rfl (((ho.ext x8).ext x9).ext x11) (nTr (Ext.size (x79 ())) x11.size) rfl rfl (dR a11 rfl) rfl rfl (by simp;omega) (fun vo' w12 ho' c12=>?_)
    repeat (first|refine go ?_|refine zg λ_ _=>?_|refine zi λ_ _=>?_)
    refine ⟨(i+1,vo'),⟨rfl,rfl,rfl,rfl,?_,rfl,trivial⟩,⟨(((x79 ()).trans x11).chg c12).mono (fun b hb=>.inr (ho.base b (by simpa using hb))),by simp;omega,?_⟩,by simp;omega⟩
    ·show Value.bool (cW p c (l.take i)).2=.bool (cW p c (l.take (i+1))).2
     rw [no (.inl hL)]
    ·show Own _ _ _ _ _ (cW p c (l.take (i+1))).1
     rw [no (.inl hL)];exact ho'
  ·have el:l.take i=l:=tLe (by omega)
   have s6:=(x06 ()).size
   repeat (first|refine go ?_|refine zg λ_ _=>?_|refine zi λ_ _=>?_)
   refine rX rfl (fun hp=>?_) (fun hp=>?_)
   ·have hp:(cW p c (l.take i)).2=false:=by simpa using hp
    repeat (first|refine go ?_|refine zg λ_ _=>?_|refine zi λ_ _=>?_)
    refine fU rfl (fun b13 w13 x13 a13 hb13=>?_)
    repeat (first|refine go ?_|refine zg λ_ _=>?_|refine zi λ_ _=>?_)
    refine bZ (E:=cQ) (v:=vo) (l2:= [(p,c)]) rfl (ho.ext x13) (nTr x7.size x13.size) rfl rfl (dR a13 rfl) rfl rfl (by simp;omega) (fun vo1 w14 ho1 c14=>?_)
    have x614:Unit→Ext w5 w14:=fun _=>((x7.trans x13).chg c14).mono (fun b hb=>.inr (ho.base b (by simpa using hb)))
    repeat (first|refine go ?_|refine zg λ_ _=>?_|refine zi λ_ _=>?_)
    rw [el] at hp ho1
    refine aA (iY bI bI) ⟨vo1,by rw [hc0];rfl,?_,.inr fun b hb=>nTr s6 (ho1.base b hb),(x06 ()).trans (x614 ())⟩
    rw [cR,if_pos hc0,aV7,hp]
    exact ho1.sl
   ·have hp:(cW p c (l.take i)).2=true:=by simpa using hp
    repeat (first|refine go ?_|refine zg λ_ _=>?_|refine zi λ_ _=>?_)
    rw [el] at hp ho
    refine aA (iY bI bI) ⟨vo,by rw [hc0];rfl,?_,.inr fun b hb=>nTr s6 (ho.base b hb),(x06 ()).trans x7⟩
    rw [cR,if_pos hc0,aV7,hp]
    exact ho.sl
end
section
open Go Go.K
attribute [local irreducible] aH aM aY KOp.wp
theorem aLd (n:Int) (w:World):K.Spec Tryz.prog F.cmp_isNaN_uint32 [.int .u32 n] w fun v w'=>v=.bool false∧w'=w:=by
 refine aFt rfl ?_
 unfold tV
 refine oy ?_
 refine goR ?_
 exact aA rfl ⟨congrArg Value.bool (by simp),rfl⟩
theorem aZe (n m:Int) (w:World):K.Spec Tryz.prog F.cmp_Compare_uint32 [.int .u32 n,.int .u32 m] w fun v w'=>v=.int .i64 (bBr n m)∧w'=w:=by
 refine aC6 rfl ?_
 unfold qX
 refine oy ?_
 refine goR ?_
 refine gD rfl (aLd _ _) ?_
 rintro _ _ ⟨rfl,rfl⟩
 refine goR ?_
 refine gD rfl (aLd _ _) ?_
 rintro _ _ ⟨rfl,rfl⟩
 refine goR ?_
 refine rK rfl (fun h1=>?_) (fun h1=>?_)
 ·refine goR ?_
  exact aA rfl ⟨congrArg (Value.int .i64) (by rw [bBr,if_pos h1]),rfl⟩
 ·refine goR ?_
  refine rK rfl (fun h2=>?_) (fun h2=>?_)
  ·refine goR ?_
   exact aA rfl ⟨congrArg (Value.int .i64) (by rw [bBr,if_neg h1,if_pos h2]),rfl⟩
  ·refine goR ?_
   exact aA rfl ⟨congrArg (Value.int .i64) (by rw [bBr,if_neg h1,if_neg h2]),rfl⟩
def bSh:Enc Int:=⟨fun n=> [.int .i64 n],1,fun _=>rfl,by decide,by intro x v hv;simp at hv;subst hv;rfl⟩
theorem bK3 (a b:Int) (v:Value) (w:World) (hs:SlE bSh w v [a,b]):K.Spec Tryz.prog F.cmp_Or_int [v] w fun v w'=>v=.int .i64 (orI a b)∧w'=w:=by
 refine aHx rfl ?_
 unfold aAp
 refine oy ?_
 refine goR ?_
 refine bL rfl hs ?_
 refine goR ?_
 refine aJ (fun (i:Nat) w'=>w'=w∧i≤2∧(0<i→a=0)∧(1<i→b=0)) (fun i=> [(3,.int .i64 0),(6,v),(7,.int .i64 2),(8,.int .i64 i)]) (fun i=>2 - i) 0 ⟨rfl,rfl,rfl,rfl,trivial⟩ ⟨rfl,by omega,by omega,by omega⟩ ?_
 rintro i ρ _ ⟨rfl,hi,h0,h1⟩
 refine goR ?_
 refine rK rfl (fun h=>?_) (fun h=>?_)
 ·refine goR ?_
  refine aT rfl rfl hs rfl (by simp;omega) (fun ad r1=>?_)
  refine goR ?_
  refine aNj rfl (fun h2=>?_) (fun h2=>?_)
  ·refine goR ?_
   refine aA rfl ⟨congrArg (Value.int .i64) ?_,rfl⟩
   rcases (show i=0∨i=1 by omega) with rfl|rfl
   ·have h3:¬a=0:=h2
    show a=_
    rw [orI,if_neg h3]
   ·show b=_
    rw [orI,if_pos (h0 (by omega))]
  ·refine goR ?_
   have h3:(i=0→a=0)∧(i=1→b=0):=by
    constructor
    ·rintro rfl;exact h2
    ·rintro rfl;exact h2
   refine ⟨i+1,⟨rfl,rfl,rfl,rfl,trivial⟩,⟨rfl,by omega,fun _=>?_,fun _=>?_⟩,by omega⟩
   ·rcases (show i=0∨i=1 by omega) with e|e
    ·exact h3.1 e
    ·exact h0 (by omega)
   ·exact h3.2 (by omega)
 ·refine goR ?_
  have:i=2:=by omega
  subst this
  exact aA rfl ⟨congrArg (Value.int .i64) (by rw [orI,if_pos (h0 (by omega)),h1 (by omega)]),rfl⟩
theorem aVz (a b:ByteArray) (w:World):K.Spec Tryz.prog F.strings_Compare [.string a,.string b] w fun v w'=>v=.int .i64 (Lib.compareBytes a.data.toList b.data.toList)∧w'=w:=
 (Tryz.strings_Compare a b w).mono fun e w' ⟨he,hw⟩=>⟨_,he,rfl,hw⟩
attribute [local irreducible] K.Spec
theorem aK2 (p q:Pt) (w:World):K.Spec Tryz.prog F.tx_Less [p.val,q.val] w fun v w'=>v=.bool (lA p q)∧Ext w w'∧w.drawn≤w'.drawn:=by
 refine bF8 rfl ?_
 unfold aSg
 refine oy ?_
 repeat' (first|refine bIn (fun w3 x3 d3=>?_)|refine aNe (d:=some 2) (cs:=p.cs) rfl rfl (fun b1 w1 x1 d1 r1=>?_)|refine aNe (d:=some 3) (cs:=q.cs) rfl rfl (fun b2 w2 x2 d2 r2=>?_)|refine fG ?_ ?_|(refine gD rfl (aVz _ _ _) ?_;rintro _ _ ⟨rfl,rfl⟩)|(refine gD rfl (aZe _ _ _) ?_;rintro _ _ ⟨rfl,rfl⟩)|refine aO5 rfl (fun b4 w4 x4 d4 a4=>?_)|(refine gD rfl (bK3 (Lib.compareBytes p.s.data.toList q.s.data.toList) (bBr p.i q.i) _ _ (SlE.new (by assumption) rfl (Nat.le_refl _))) ?_;rintro _ _ ⟨rfl,rfl⟩)|(first|refine go2 ?_|fail))
 all_goals exact aA rfl ⟨congrArg Value.bool (bRo p q),by repeat (first|assumption|exact Ext.refl _|refine Ext.trans ?_ (by assumption)),by omega⟩
end
section
open Go Go.K
attribute [local irreducible] aH aM aY KOp.wp K.Spec
theorem aT1 {v:Value} {l:List En} (p:Pt) (w:World) (hs:SlE cQ w v l) (hn:l.length≤100000):K.Spec Tryz.prog F.kedgeref10_Take [v,p.val] w fun v' w'=>
  ∃vl,v'=.tuple #[vl,(dH l p).val,.int .i64 (cH l p)]∧SlE cQ w' vl (cY l p)∧rS v vl l (cY l p) w.heap.size∧Ext w w':=by
 refine aIa rfl ?_
 unfold uM
 refine oy ?_
 repeat (first|refine go ?_|refine zg λ_ _=>?_|refine zi λ_ _=>?_)
 refine nW rfl rfl (fun b1 w1 x1 a1 r1 hb1=>?_)
 repeat (first|refine go ?_|refine zg λ_ _=>?_|refine zi λ_ _=>?_)
 refine aDj (fun b2 w2 x2 a2 hb2=>?_)
 repeat (first|refine go ?_|refine zg λ_ _=>?_|refine zi λ_ _=>?_)
 refine gD rfl (aDi p _ ((hs.ext x1).ext x2) hn) ?_
 rintro _ w3 ⟨rfl,x3⟩
 repeat (first|refine go ?_|refine zg λ_ _=>?_|refine zi λ_ _=>?_)
 have hx:=fun (_:Unit)=>(x1.trans x2).trans x3
 have s1:=x1.size
 have s2:=x2.size
 cases hi:eN l p with
 |none=>
  have hf:jP l p= -1:=by rw [jP,hi]
  rw [hf]
  refine bJp rfl ?_
  repeat (first|refine go ?_|refine zg λ_ _=>?_|refine zi λ_ _=>?_)
  refine aW (hx ()) (nTr s1 hb2) (a2.ext x3) rfl rfl rfl rfl rfl (fun w5 x5 c5 a5 r5=>?_)
  repeat (first|refine go ?_|refine zg λ_ _=>?_|refine zi λ_ _=>?_)
  refine aA (bJd bI (bA r5 rfl rfl) bI) ⟨v,?_,?_,.inl ⟨rfl,by rw [cY,hi]⟩,x5⟩
  ·rw [dH,cH,hi];rfl
  ·rw [cY,hi];exact hs.ext x5
 |some n=>
  obtain ⟨hnl,hnp,_⟩:=aDq.1 hi
  have hf:jP l p=(n:Int):=by rw [jP,hi]
  rw [hf]
  have hneg:¬(n:Int)<0:=by omega
  refine rK (p:=(n:Int)<0) rfl (fun h=>absurd h hneg) (fun _=>?_)
  repeat (first|refine go ?_|refine zg λ_ _=>?_|refine zi λ_ _=>?_)
  have hs3:=hs.ext (hx ())
  refine aJ (fun (s:Nat × Value) w'=>Ext w3 w'∧s.1≤l.length∧Own cQ T.kedgeref10_Entry w3.heap.size w' s.2 ((l.take s.1).eraseIdx n))
   (fun s=> [(0,v),(5,.pointer (some ⟨b2,0,none⟩)),(7,.int .i64 n),(8,s.2),(9,.int .i64 s.1)]) (fun s=>l.length - s.1) (0,.slice none 0 0) ⟨rfl,rfl,rfl,rfl,rfl,trivial⟩ ⟨Ext.refl _,by simp,by simpa using Own.nil _ _ _⟩ ?_
  rintro ⟨i,vo⟩ ρ w4 ⟨x4,hil,ho⟩
  simp only at hil ho
  repeat (first|refine go ?_|refine zg λ_ _=>?_|refine zi λ_ _=>?_)
  refine bL rfl (hs3.ext x4) ?_
  repeat (first|refine go ?_|refine zg λ_ _=>?_|refine zi λ_ _=>?_)
  refine rK rfl (fun h=>?_) (fun h=>?_)
  ·repeat (first|refine go ?_|refine zg λ_ _=>?_|refine zi λ_ _=>?_)
   have hil':i<l.length:=by omega
   refine aNj rfl (fun h2=>?_) (fun h2=>?_)
   ·repeat (first|refine go ?_|refine zg λ_ _=>?_|refine zi λ_ _=>?_)
    refine aT rfl rfl (hs3.ext x4) rfl hil' (fun ad r4=>?_)
    repeat (first|refine go ?_|refine zg λ_ _=>?_|refine zi λ_ _=>?_)
    refine fU rfl (fun b5 w5 x5 a5 hb5=>?_)
    repeat (first|refine go ?_|refine zg λ_ _=>?_|refine zi λ_ _=>?_)
    have hlen:((l.take i).eraseIdx n).length≤100000:=by
     have:=List.length_eraseIdx_le (l.take i) n
     simp at this;omega
    refine bZ (E:=cQ) (v:=vo) (l2:= [l[i]]) rfl (ho.ext x5) (nTr x4.size x5.size) rfl rfl (dR a5 rfl) rfl rfl (by simp;omega) (fun vo' w6 ho' c6=>?_)
    repeat (first|refine go ?_|refine zg λ_ _=>?_|refine zi λ_ _=>?_)
    refine ⟨(i+1,vo'),⟨rfl,rfl,rfl,rfl,rfl,trivial⟩,⟨((x4.trans x5).chg c6).mono (fun b hb=>.inr (ho.base b (by simpa using hb))),by simp;omega,?_⟩,by simp;omega⟩
    have e:=aFh (n:=n) hil'
    rw [if_neg (by omega)] at e
    show Own _ _ _ _ _ ((l.take (i+1)).eraseIdx n)
    rw [e];exact ho'
   ·repeat (first|refine go ?_|refine zg λ_ _=>?_|refine zi λ_ _=>?_)
    refine ⟨(i+1,vo),⟨rfl,rfl,rfl,rfl,rfl,trivial⟩,⟨x4,by simp;omega,?_⟩,by simp;omega⟩
    have e:=aFh (n:=n) hil'
    rw [if_pos (by omega)] at e
    show Own _ _ _ _ _ ((l.take (i+1)).eraseIdx n)
    rw [e];exact ho
  ·repeat (first|refine go ?_|refine zg λ_ _=>?_|refine zi λ_ _=>?_)
   rename_i w5 x5
   refine aT rfl rfl ((hs3.ext x4).ext x5) rfl hnl (fun ad r4=>?_)
   repeat (first|refine go ?_|refine zg λ_ _=>?_|refine zi λ_ _=>?_)
   have hy:=fun (_:Unit)=>((hx ()).trans x4).trans x5
   refine aW (hy ()) (nTr s1 hb2) (((a2.ext x3).ext x4).ext x5) rfl rfl rfl rfl rfl (fun w6 x6 c6 a6 r6=>?_)
   repeat (first|refine go ?_|refine zg λ_ _=>?_|refine zi λ_ _=>?_)
   have hb3:=a2.lt
   have s3:=x3.size
   refine aA (bJd bI (bA r6 rfl rfl) bI) ⟨vo,?_,?_,.inr fun b hb=>?_,x6⟩
   ·rw [aVe hi hnl,aJz hi];rfl
   ·rw [cY,hi]
    have e:(l.take i).eraseIdx n=l.eraseIdx n:=by rw [tLe (by omega)]
    rw [e] at ho
    refine ((ho.ext x5).chg c6 (fun b hb=>?_)).sl
    have:=ho.base b hb
    simp;omega
   ·have:=ho.base b hb;have:=(hx ()).size;omega
end
end Go.Proofs.YteceapipdhnhdaaGreatDoor
