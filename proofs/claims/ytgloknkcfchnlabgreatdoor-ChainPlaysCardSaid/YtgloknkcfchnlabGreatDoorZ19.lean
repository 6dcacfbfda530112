/- Contracts: totals and the check of a transaction, by the pro -/
import Derived.Test.YtgloknkcfchnlabGreatDoorZ3
import Derived.Test.YtgloknkcfchnlabGreatDoorZ10
import Derived.Test.YtgloknkcfchnlabGreatDoorZ14
import Derived.Test.YtgloknkcfchnlabGreatDoorZ15
import Derived.Test.YtgloknkcfchnlabGreatDoorZ16
set_option linter.unusedVariables false
set_option linter.unusedSimpArgs false
namespace Go.Proofs.YtgloknkcfchnlabGreatDoor
section
open Go Go.K
attribute [local irreducible] aG aK aU KOp.wp K.Spec leS vnS str aN
theorem sA {M:List Nat} {cs:List Value} {t:Tx} (w:World) (ht:txR.rel M w cs t) (hs:t.Sm):K.Spec Tryz.prog F.tx_Total [.agg cs.toArray] w fun r w'=>r=.tuple #[.int .i64 (gG (values t)),.int .i64 (kG (values t))]∧Ext w w':=by
 obtain ⟨iv,ov,rfl,hi,ho,hv,hl⟩:=ht
 have h1:=hs.outs
 refine aO7 rfl ?_
 unfold aFa
 refine oy ?_
 repeat' (first|refine go1 ?_|refine zg λ_ _=>?_|refine zi λ_ _=>?_|(first|refine zD rfl rfl (fun bp wp xp ap rp hp0=>?_)|refine zE (fun _=>rfl) rfl rfl rfl (fun bq wq xq aq rq hq0=>?_))|refine zG rfl (by exact fx) ?_|refine zL rfl (fun h=>?_) (fun h=>?_)|(refine aL (fun (s:Nat × Value) w'=>Ext wp w'∧s.1≤t.outs.length∧Own aAo T.int wp.heap.size w' s.2 ((values t).take s.1)) (fun s=> [(4,s.2),(8,ov),(9,.int .i64 (t.outs.length:Nat)),(10,.int .i64 s.1)]) (fun s=>t.outs.length - s.1) (0,.slice none 0 0) ⟨rfl,rfl,rfl,rfl,trivial⟩ ⟨by exact fx,by simp,Own.nil _ _ _⟩ ?_;rintro ⟨i,vo⟩ ρ w1 ⟨x1,hi1,hO⟩;simp only at hi1 hO;dsimp only)|(refine aM rfl rfl (n:=i) (l:=t.outs) (by exact fx) rfl (by omega) (fun ad cs r2 he=>?_);obtain ⟨rfl,_⟩:=he;have hil:i<t.outs.length:=by omega)|refine zI rfl (fun b w3 x3 a3 hb=>?_)|refine bY (E:=aAo) (v:=vo) (l2:= [t.outs[i].v]) rfl (hO.ext (by exact fx)) (Ext.size (w:=wp) (by exact fx)) rfl rfl (eH a3 rfl) rfl rfl (by simp;omega) (fun vo' w4 ho4 c4=>?_)|(refine zC rfl (yJ (l:=(values t).take i) _ hO.sl (by simp;omega)) ?_;rintro _ _ ⟨rfl,rfl⟩))
 ·refine ⟨(i+1,vo'),⟨rfl,rfl,rfl,rfl,trivial⟩,⟨(Chg.ext (l:= []) (Ext.chg (w:=wp) (by exact fx) c4 |>.mono (fun b hb=>.inr (hO.base b (by simpa using hb)))) (Ext.refl _)),by simp;omega,?_⟩,by simp;omega⟩
  have e:(values t).take (i+1)=(values t).take i++ [t.outs[i].v]:=by
   rw [List.take_succ_eq_append_getElem (by simpa [values] using hil)];simp [values]
  show Own _ _ _ _ _ ((values t).take (i+1))
  rw [e];exact ho4
 ·have e:(values t).take i=values t:=tLe (by simp [values];omega)
  refine aB rfl ⟨?_,xp.trans x1⟩
  show Value.tuple #[.int .i64 (gG ((values t).take i)),.int .i64 (kG ((values t).take i))]=_
  rw [e]
theorem nL {M:List Nat} {cs:List Value} {t:Tx} (w:World) (ht:txR.rel M w cs t) (hs:t.Sm):K.Spec Tryz.prog F.tx_Check [.agg cs.toArray] w fun r w'=>r=.int .i64 (aJ t)∧Ext w w':=by
 have ht0:=ht
 obtain ⟨iv,ov,rfl,hi,ho,hv,hl⟩:=ht
 refine aPm rfl ?_
 unfold aF9
 refine oy ?_
 repeat' (first|refine go1 ?_|refine zg λ_ _=>?_|refine zi λ_ _=>?_|(first|refine zD rfl rfl (fun bp wp xp ap rp hp0=>?_)|refine zE (fun _=>rfl) rfl rfl rfl (fun bq wq xq aq rq hq0=>?_))|refine zM rfl (fun h=>?_) (fun h=>?_)|(refine zC rfl (sA (M:=M) _ (cs:=aT t iv ov) (by exact fx) hs) ?_;rintro _ w1 ⟨rfl,x1⟩)|(refine zC rfl (aJ3 (M:=M) _ (cs:=aT t iv ov) (by exact fx) hs) ?_;rintro _ w2 ⟨rfl,x2⟩)|(refine zC rfl (aOq (M:=M) _ (cs:=aT t iv ov) (by exact fx) hs) ?_;rintro _ w3 ⟨rfl,x3⟩)|(refine zC rfl (aJ4 (M:=M) _ (cs:=aT t iv ov) (by exact fx) hs) ?_;rintro _ w4 ⟨rfl,x4⟩)|(refine zC rfl (aMg (M:=M) _ (cs:=aT t iv ov) (by exact fx) hs) ?_;rintro _ w5 ⟨rfl,x5⟩))
 all_goals
  refine aB rfl ⟨congrArg (Value.int .i64) ?_,by exact fx⟩
  simp_all [aJ]
theorem aP8 {α:Type} {l:List α} {d:α} (h:0<l.length):l.headD d=l[0]:=by
 cases l with
 |nil=>cases h
 |cons x l=>rfl
theorem iO {M : List Nat} {cs : List Value} {t : Tx} (w : World) (ht : txR.rel M w cs t) (hs : t.Sm) : K.Spec Tryz.prog F.tx_Base [.agg cs.toArray] w fun r w' => r = .bool (aO t) ∧ Ext w w' := by
  obtain ⟨iv, ov, rfl, hi, ho, hv, hl⟩ := ht
  have h1 := hs.ins
  refine aSt rfl ?_
  unfold aIa
  refine oy ?_
  repeat' (first|refine go1 ?_|refine zg λ_ _=>?_|refine zi λ_ _=>?_|(first|refine zD rfl rfl (fun bp wp xp ap rp hp0=>?_)|refine zE (fun _=>rfl) rfl rfl rfl (fun bq wq xq aq rq hq0=>?_))|refine zG rfl (by exact fx) ?_|refine zB ?_ ?_|refine zJ rfl (fun h => ?_) (fun h => ?_)|(refine aM rfl rfl (n := 0) (l := t.ins) (by exact fx) rfl (by have h : (t.ins.length : Int) = 1 := h; omega) (fun ad cs r2 he => ?_); obtain ⟨wv, rfl, hw, _⟩ := he; obtain ⟨_, _, rfl⟩ := hw.form)|(refine zC rfl (aB7 _) ?_; rintro _ w3 ⟨rfl, x3⟩))
  all_goals refine aB rfl ⟨congrArg Value.bool ?_, by exact fx⟩
  all_goals rw [aO]
  all_goals by_cases hl : t.ins.length = 1
  all_goals first
    | (rw [dFa hl]; first | rfl | exact absurd (show (t.ins.length : Int) = 1 from h) (by omega))
    | exact absurd (show ¬ (t.ins.length : Int) = 1 from h) (by omega)
    | (rw [aP8 (by omega), dTr hl, Bool.true_and, gO]
       simp only [Bool.false_eq_true, if_false, Bool.and_true])
end
section
open Go Go.K
attribute [local irreducible] aG aK aU KOp.wp K.Spec u32 leS vnS str aN fO wCs jI iW iL eL jQ gF cY oZ xH addN shN aNa cW leL
theorem bAp {c:Nat} (h:c≤7):IntKind.u64.wrap (8*IntKind.u64.wrap ((7:Int) - c))=((8*(7 - c):Nat):Int):=by
 rw [dO (n:=(7:Int) - c) (by omega) (by omega),dO (by omega) (by omega)];omega
theorem bA2 (n c:Nat) (h:c≤7):bL .shr (.int .u64 (n:Nat)) (.int .u64 ((8*(7 - c):Nat):Int))=some (.int .u64 ((n / 256^(7 - c):Nat):Int)):=by
 simp only [bL,dJ,if_true]
 rw [if_neg (by omega)]
 have e:min ((8*(7 - c):Nat):Int).toNat IntKind.u64.bits=8*(7 - c):=by simp [IntKind.bits];omega
 have e2:(256:Nat)^(7 - c)=2^(8*(7 - c)):=by rw [Nat.pow_mul]
 rw [e,e2,Int.fdiv_eq_ediv_of_nonneg _ (by exact_mod_cast Nat.zero_le _)]
 norm_cast
section
variable {P:Program} {d:Option Tmp} {r:KR} {K:Env→World→Prop} {ρ:Env} {w:World}
theorem aY0 {x:Operand} {n:Nat} (hx:ev ρ x=.int .u64 (n:Nat)) (k:aG P r K (put ρ d (.int .u8 ((UInt8.ofNat n).toNat:Nat))) w):aG P (.cons ⟨d,.conv .u8 x,none⟩ r) K ρ w:=
 cJ rfl (by simp only [KOp.fix,hx];rw [zX]) k
end
theorem bA3 (l:List UInt8):xH l 0=l++ [128]:=by unfold xH;simp
theorem aV5 {l:ByteArray} {i:Nat} (h:i<l.size):l.data.toList.take (i+1)=l.data.toList.take i++ [l[i]]:=by
 have hl:i<l.data.toList.length:=by rw [Array.length_toList];exact h
 rw [List.take_succ_eq_append_getElem hl];rfl
theorem bA0 {m n k:Nat} (e:m=n+1+k) (h:((m%64:Nat):Int)=56) (hk:k≤kD n):k=kD n:=aWz (by omega) hk
theorem aT8 (s:ByteArray) (hs:s.size≤4000000) (w:World):K.Spec Tryz.prog F.kedgeref04_pad [.string s] w fun r w'=>SlE u8E w' r (oZ s.data.toList)∧Ext w w'∧∀b∈aH r,w.heap.size≤b:=by
 have hl:s.data.toList.length=s.size:=by rw [Array.length_toList];rfl
 have hpl:∀k,(xH s.data.toList k).length=s.size+1+k:=fun k=>by rw [aKy,hl]
 have hpn:kD s.size<64:=by unfold kD;omega
 have hrl:∀c,((leL (s.size*8) 8).reverse.take c).length≤8:=fun c=>by rw [List.length_take,List.length_reverse,bV];omega
 refine aBv rfl ?_
 unfold pJ
 refine oy ?_
 repeat' (first|refine aD (.int .u64 ((s.size*8:Nat):Int)) rfl (congrArg (fun x=>some (Value.int .u64 x)) (aXv hs)) ?_|refine aD (.int .u64 ((8*(7 - c):Nat):Int)) rfl (congrArg (fun x=>some (Value.int .u64 x)) (bAp (by omega))) ?_|refine cM rfl rfl (bA2 (s.size*8) c (by omega)) ?_|refine aY0 rfl ?_|refine aJj (n:=(xH s.data.toList k).length) (m:=64) rfl rfl (by decide) ?_|refine go1 ?_|refine zg λ_ _=>?_|refine zi λ_ _=>?_|refine zL rfl (fun h=>?_) (fun h=>?_)|refine zN rfl (fun h=>?_) (fun h=>?_)|(refine aL (fun (p:Nat × Value) w'=>Ext w w'∧p.1≤s.size∧Own u8E T.uint8 w.heap.size w' p.2 (s.data.toList.take p.1)) (fun p=> [(0,.string s),(3,p.2),(4,.int .i64 p.1)]) (fun p=>s.size - p.1) (0,.slice none 0 0) ⟨rfl,rfl,rfl,trivial⟩ ⟨Ext.refl _,by simp,Own.nil _ _ _⟩ ?_;rintro ⟨i,vo⟩ ρ w1 ⟨x1,hi,ho⟩;simp only at hi ho;dsimp only)|(refine aL (fun (p:Nat × Value) w'=>Ext w w'∧p.1≤kD s.size∧Own u8E T.uint8 w.heap.size w' p.2 (xH s.data.toList p.1)) (fun p=> [(0,.string s),(3,p.2)]) (fun p=>kD s.size - p.1) (0,_) ⟨rfl,rfl,trivial⟩ ⟨x5,by simp,by rw [bA3];exact ho5⟩ ?_;rintro ⟨k,vk⟩ ρ6 w6 ⟨x6,hk,hok⟩;simp only at hk hok;dsimp only)|(have hpk:k=kD s.size:=(bA0 (hpl k) (by assumption) hk);refine aL (fun (p:Nat × Value) w'=>Ext w w'∧p.1≤8∧Own u8E T.uint8 w.heap.size w' p.2 (xH s.data.toList (kD s.size)++(leL (s.size*8) 8).reverse.take p.1)) (fun p=> [(3,p.2),(5,.int .u64 ((s.size*8:Nat):Int)),(6,.int .i64 ((7:Int) - p.1))]) (fun p=>8 - p.1) (0,vk) ⟨rfl,rfl,rfl,trivial⟩ ⟨x6,by simp,by rw [List.take_zero,List.append_nil,←hpk];exact hok⟩ ?_;rintro ⟨c,vc⟩ ρ8 w8 ⟨x8,hc,hoc⟩;simp only at hc hoc;dsimp only)|(refine fL rfl rfl (n:=i) (by omega) ?_;have hil:i<s.size:=(by omega))|refine zI rfl (fun b w2 x2 a2 hb=>?_)|refine bY (E:=u8E) (v:=vo) (l2:= [s[i]]) rfl (ho.ext x2) (nTr x1.size x2.size) rfl rfl (eH a2 rfl) rfl rfl (by simp;omega) (fun v3 w3 ho3 c3=>?_)|(refine bY (E:=u8E) (v:=vo) (l2:= [128]) rfl (ho.ext x2) (nTr x1.size x2.size) rfl rfl (eH a2 rfl) rfl rfl (by simp;omega) (fun v5 w5 ho5 c5=>?_);have x5:Ext w w5:=((x1.trans x2).chg c5).mono (fun b hb=>.inr (ho.base b (by simpa using hb)));rw [tLe (by rw [hl];omega)] at ho5)|refine bY (E:=u8E) (v:=vk) (l2:= [0]) rfl (hok.ext x2) (nTr x6.size x2.size) rfl rfl (eH a2 rfl) rfl rfl (by rw [hpl];simp;omega) (fun v7 w7 ho7 c7=>?_)|refine bY (E:=u8E) (v:=vc) (l2:= [UInt8.ofNat (s.size*8 / 256^(7 - c))]) rfl (hoc.ext x2) (nTr x8.size x2.size) rfl rfl (eH a2 rfl) rfl rfl (by have:=hpl (kD s.size);have:=hrl c;rw [List.length_append];simp only [List.length_cons,List.length_nil];omega) (fun v9 w9 ho9 c9=>?_)|refine bP rfl hok.sl ?_)
 ·exact ⟨(i+1,v3),⟨rfl,rfl,rfl,trivial⟩,⟨((x1.trans x2).chg c3).mono (fun b hb=>.inr (ho.base b (by simpa using hb))),by simp;omega,by rw [aV5 hil];exact ho3⟩,by simp;omega⟩
 ·have hlt:k<kD s.size:=aV7 (by rw [←hpl k];omega) hk
  exact ⟨(k+1,v7),⟨rfl,rfl,trivial⟩,⟨((x6.trans x2).chg c7).mono (fun b hb=>.inr (hok.base b (by simpa using hb))),by simp;omega,by rw [aSo];exact ho7⟩,by simp;omega⟩
 ·exact ⟨(c+1,v9),⟨rfl,rfl,congrArg (Value.int .i64) (by simp;omega),trivial⟩,⟨((x8.trans x2).chg c9).mono (fun b hb=>.inr (hoc.base b (by simpa using hb))),by simp;omega,by rw [aUi (by omega),←List.append_assoc];exact ho9⟩,by simp;omega⟩
 ·obtain rfl:c=8:=by omega
  exact aB rfl ⟨by rw [aV0,hl];exact hoc.sl,x8,hoc.base⟩
end
section
open Go Go.K
attribute [local irreducible] aG aK aU KOp.wp K.Spec
theorem aJp (p:Pt) (c:Cn) (w:World):K.Spec Tryz.prog F.coins_formed [p.val,c.val] w fun v w'=>v=.bool (cI p c)∧Ext w w':=by
 refine aFc rfl ?_
 unfold sC
 refine oy ?_
 repeat (first|refine go ?_|refine zg λ_ _=>?_|refine zi λ_ _=>?_)
 refine jJ rfl rfl (fun b1 w1 x1 _ r1 _=>?_)
 repeat (first|refine go ?_|refine zg λ_ _=>?_|refine zi λ_ _=>?_)
 refine jJ rfl rfl (fun b2 w2 x2 _ r2 _=>?_)
 repeat (first|refine go ?_|refine zg λ_ _=>?_|refine zi λ_ _=>?_)
 have e32:((p.s.size:Int)=32)↔p.s.size=32:=by omega
 refine jK rfl (fun h1=>?_) (fun h1=>?_)
 ·repeat (first|refine go ?_|refine zg λ_ _=>?_|refine zi λ_ _=>?_)
  refine jK rfl (fun h2=>?_) (fun h2=>?_)
  ·repeat (first|refine go ?_|refine zg λ_ _=>?_|refine zi λ_ _=>?_)
   refine jK rfl (fun h3=>?_) (fun h3=>?_)
   ·repeat (first|refine go ?_|refine zg λ_ _=>?_|refine zi λ_ _=>?_)
    refine aB rfl ⟨congrArg Value.bool ?_,x1.trans x2⟩
    simp [cI,e32.1 h1,h2,h3]
   ·repeat (first|refine go ?_|refine zg λ_ _=>?_|refine zi λ_ _=>?_)
    refine aB rfl ⟨congrArg Value.bool ?_,x1.trans x2⟩
    simp [cI,h3]
  ·repeat (first|refine go ?_|refine zg λ_ _=>?_|refine zi λ_ _=>?_)
   refine aB rfl ⟨congrArg Value.bool ?_,x1.trans x2⟩
   simp [cI,h2]
 ·repeat (first|refine go ?_|refine zg λ_ _=>?_|refine zi λ_ _=>?_)
  refine aB rfl ⟨congrArg Value.bool ?_,x1.trans x2⟩
  have h1':¬p.s.size=32:=fun h=>h1 (e32.2 h)
  simp [cI,h1']
theorem aRh (w:World):K.Spec Tryz.prog F.coins_New [] w fun v w'=>∃b mb,v=.pointer (some ⟨b,0,none⟩)∧jW T.coins_Set w' b mb []∧w.heap.size≤b∧w.heap.size≤mb∧Ext w w':=by
 refine aLc rfl ?_
 unfold aCr
 refine oy ?_
 repeat (first|refine go ?_|refine zg λ_ _=>?_|refine zi λ_ _=>?_)
 refine wZ (E:=ptK) (fv:=Cn.val) (fun mb w1 x1 hm hmb=>?_)
 repeat (first|refine go ?_|refine zg λ_ _=>?_|refine zi λ_ _=>?_)
 refine jJ rfl rfl (fun b w2 x2 a2 r2 hb=>?_)
 repeat (first|refine go ?_|refine zg λ_ _=>?_|refine zi λ_ _=>?_)
 exact aB rfl ⟨b,mb,rfl,⟨a2,hm.ext x2,Mon.nil⟩,nTr x1.size hb,hmb,x1.trans x2⟩
theorem aH2 {t:TypeId} {b mb:Nat} {m:List En} (p:Pt) (w:World) (h:jW t w b mb m):K.Spec Tryz.prog F.coins_Set_Get [.pointer (some ⟨b,0,none⟩),p.val] w fun v w'=>v=.tuple #[(iA m p).val,.bool (aX m p).isSome]∧Ext w w':=by
 have r:=h.row
 have hM:=h.2.1
 refine aDm rfl ?_
 unfold rL
 refine oy ?_
 repeat' (first|refine zD (d:=some 3) rfl rfl (fun b1 w1 x1 a1 (r1:Row w1 ⟨b1,0,none⟩ p.cs) hb1=>?_)|(refine zH (d:=some 4) (fun b2 w2 x2 a2 hb2=>?_);have s2:w.heap.size≤b2:=nTr x1.size hb2)|refine tX (d:=some 17) (E:=ptK) (fv:=Cn.val) (k:=p) rfl rfl (dW.ext (w:=w) (by exact fx) hM) rfl rfl (fun c hc=>?_) (fun hc=>?_)|(refine zH (d:=some 6) (fun b6 w6 x6 a6 hb6=>?_);have s6:w.heap.size≤b6:=nTr (Ext.size (w:=w) (by exact fx)) hb6;have s26:w2.heap.size≤b6:=nTr (Ext.size (w:=w2) (by exact fx)) hb6)|refine go1 ?_|refine zg λ_ _=>?_|refine zi λ_ _=>?_)
 ·refine bA (w0:=w) (vs:=c.cs) (by exact fx) s6 a6 rfl rfl rfl rfl rfl (fun w7 x7 c7 a7 r7=>?_)
  have a2':=At.chg c7 (At.ext (w:=w2) (by exact fx) a2) (by have:=a2.lt;simp;omega)
  repeat (first|refine go1 ?_|refine zg λ_ _=>?_|refine zi λ_ _=>?_)
  refine bA (w0:=w) (vs:=c.cs) (by exact fx) s2 a2' rfl rfl rfl rfl rfl (fun w9 x9 c9 a9 r9=>?_)
  repeat (first|refine go1 ?_|refine zg λ_ _=>?_|refine zi λ_ _=>?_)
  exact aB (lA (bK r9 rfl rfl) bC) ⟨by rw [iA,hc];rfl,x9⟩
 ·refine bA (w0:=w) (vs:=cn0.cs) (by exact fx) s6 a6 rfl rfl rfl rfl rfl (fun w7 x7 c7 a7 r7=>?_)
  have a2':=At.chg c7 (At.ext (w:=w2) (by exact fx) a2) (by have:=a2.lt;simp;omega)
  repeat (first|refine go1 ?_|refine zg λ_ _=>?_|refine zi λ_ _=>?_)
  refine bA (w0:=w) (vs:=cn0.cs) (by exact fx) s2 a2' rfl rfl rfl rfl rfl (fun w9 x9 c9 a9 r9=>?_)
  repeat (first|refine go1 ?_|refine zg λ_ _=>?_|refine zi λ_ _=>?_)
  exact aB (lA (bK r9 rfl rfl) bC) ⟨by rw [iA,hc];rfl,x9⟩
set_option maxHeartbeats 1000000 in
theorem aRv {t:TypeId} {b mb:Nat} {m:List En} (p:Pt) (c:Cn) (w:World) (h:jW t w b mb m):K.Spec Tryz.prog F.coins_Set_Put [.pointer (some ⟨b,0,none⟩),p.val,c.val] w fun v w'=>
  v=.int .i64 (eX m p c)∧jW t w' b mb (sR m p c)∧Chg [b,mb] w w':=by
 have r:=h.row
 have hne:=h.ne
 have hb:=h.1.lt
 have hmb:=h.2.1.lt
 have hM:=h.2.1
 have fail:∀{w':World} {n:Int},Ext w w'→n≠0→eX m p c=n→Value.int .i64 n=.int .i64 (eX m p c)∧jW t w' b mb (sR m p c)∧Chg [b,mb] w w':=by
  intro w' n x hn hc
  refine ⟨by rw [hc],?_,Chg.mono x (by simp)⟩
  rw [sR,if_neg (by rw [hc];exact hn)];exact h.ext x
 refine aDh rfl ?_
 unfold rR
 refine oy ?_
 repeat' (first|refine zD (d:=some 4) rfl rfl (fun b1 w1 x1 a1 (r1:Row w1 ⟨b1,0,none⟩ p.cs) hb1=>?_)|refine zD (d:=some 5) rfl rfl (fun b2 w2 x2 a2 (r2:Row w2 ⟨b2,0,none⟩ c.cs) hb2=>?_)|(refine zC (d:=some 17) rfl (aJp p c _) ?_;rintro _ w3 ⟨rfl,x3⟩)|refine lG (x:=.tmp 14) rfl (fun hf=>?_) (fun hf=>?_)|refine tX (d:=some 25) (E:=ptK) (fv:=Cn.val) (k:=p) rfl rfl (dW.ext (w:=w) (by exact fx) hM) rfl rfl (fun d hd=>?_) (fun hd=>?_)|(refine zH (d:=some 7) (fun b6 w6 x6 a6 hb6=>?_);have s6:w.heap.size≤b6:=nTr (Ext.size (w:=w) (by exact fx)) hb6;have s26:w2.heap.size≤b6:=nTr (Ext.size (w:=w2) (by exact fx)) hb6)|refine bA (w0:=w) (n:=3) (vs:=d.cs) (by exact fx) s6 a6 rfl rfl rfl rfl rfl (fun w7 x7 c7 a7 r7=>?_)|(refine bA (w0:=w) (n:=3) (vs:=cn0.cs) (by exact fx) s6 a6 rfl rfl rfl rfl rfl (fun w7 x7 c7 a7 r7=>?_);replace r1:Row w7 ⟨b1,0,none⟩ p.cs:=Row.chg c7 (Row.ext (w:=w1) (by exact fx) r1) (by have:=a1.lt;have:=x2.size;simp;omega);replace r2:Row w7 ⟨b2,0,none⟩ c.cs:=Row.chg c7 (Row.ext (w:=w2) (by exact fx) r2) (by have:=a2.lt;simp;omega);have s01:=x1.size;clear x1 x2 x3 x6 c7 a6)|(refine zC (d:=some 37) rfl (aLh (tot m) c.v _) ?_;rintro _ w8 ⟨rfl,rfl⟩)|refine zN (p:=(if fK (tot m) c.v=true then (0:Int) else 3)=0) rfl (fun he=>?_) (fun he=>?_)|refine lI ?_ ?_|refine go1 ?_|refine zg λ_ _=>?_|refine zi λ_ _=>?_)
 ·exact aB rfl (fail (by exact fx) (by decide) (aUj (by simpa using hf)))
 ·exact aB rfl (fail x7 (by decide) (aVd (by simpa using hf) hd))
 ·have hP:=aL2 (by simpa using hf) hd h.2.2
  have ho:fK (tot m) c.v=false:=by
   cases hx:fK (tot m) c.v
   ·rfl
   ·rw [hx] at he;exact absurd rfl he
  rw [ho] at hP
  refine aB (v:=.int .i64 3) ?_ (fail (by exact fx) (by decide) hP)
  rw [ho];rfl
 all_goals
  have ho:fK (tot m) c.v=true:=by
   cases hx:fK (tot m) c.v
   ·rw [hx] at he;exact absurd he (by decide)
   ·rfl
  have hP:eX m p c=0:=by rw [aL2 (by simpa using hf) hd h.2.2,ho];rfl
  have hn:∀{w' w'':World},At w' b (.cells ([Value.map (some mb),.int .i64 (tot m)].set 1 (.int .i64 (if fK (tot m) c.v=true then tot m+c.v else 0))).toArray t (0,0))→dW ptK Cn.val w' mb (mH m p c)→Ext w' w''→jW t w'' b mb (sR m p c):=by
   intro w' w'' ha hM x
   rw [sR,if_pos hP]
   rw [aQ9 hd] at hM
   refine ⟨?_,hM.ext x,h.2.2.put hP⟩
   have:=ha.ext x
   rw [ho] at this
   have e:tot (m++ [(p,c)])=tot m+c.v:=by simp
   rw [e];exact this
  rename_i x78 w9 x89
  have x79:Ext w7 w9:=x78.trans x89
  have x09:Ext w w9:=x7.trans x79
  have h9:=h.ext x09
  have r19:=r1.ext x79
  have r29:=r2.ext x79
  have r9:=h9.row
  clear x7 x78 x89 x79 r1 r2 r r7 a7
  repeat' (first|(refine aMi (d:=some 51) (E:=ptK) (fv:=Cn.val) (k:=p) rfl rfl h9.2.1 rfl rfl (fun st w10 c10 hM10=>?_);have r210:Row w10 ⟨b2,0,none⟩ c.cs:=r29.chg c10 (by simp;omega);have a10:=h9.1.chg c10 (by simp;omega))|(refine vY (E:=ptK) (fv:=Cn.val) (k:=p) (v:=c) rfl rfl rfl hM10 (fun w11 c11 hM11=>?_);have a11:=a10.chg c11 (by simp;omega))|refine go1 ?_|refine zg λ_ _=>?_|refine zi λ_ _=>?_)
  refine bB (b:=b) (o:=1) rfl rfl rfl a11 (by simp) (fun w12 c12 a12=>?_)
  repeat (first|refine go1 ?_|refine zg λ_ _=>?_|refine zi λ_ _=>?_)
  refine aB rfl ⟨by rw [hP];rfl,hn a12 (hM11.chg c12 (by simp;omega)) (Ext.refl _),?_⟩
  refine (x09.chg (c10.trans (c11.trans c12))).mono ?_
  intro y hy
  simp at hy ⊢
  omega
end
section
open Go Go.K
attribute [local irreducible] aG aK aU KOp.wp
section
attribute [local irreducible] K.Spec
theorem aMy {t:TypeId} {b mb:Nat} {m:List En} (w:World) (h:jW t w b mb m):K.Spec Tryz.prog F.coins_Set_Total [.pointer (some ⟨b,0,none⟩)] w fun v w'=>v=.int .i64 (tot m)∧Ext w w':=by
 refine yL rfl ?_
 unfold nT
 refine oy ?_
 have r:=h.row
 repeat (first|refine go ?_|refine zg λ_ _=>?_|refine zi λ_ _=>?_)
 exact aB rfl ⟨rfl,Ext.refl _⟩
theorem aN0 {t:TypeId} {b mb:Nat} {m:List En} (p:Pt) (w:World) (h:jW t w b mb m):K.Spec Tryz.prog F.coins_Set_Take [.pointer (some ⟨b,0,none⟩),p.val] w fun v w'=>
  v=.tuple #[(iA m p).val,.int .i64 (qE m p)]∧jW t w' b mb (aAr m p)∧Chg [b,mb] w w':=by
 have r:=h.row
 have hM:=h.2.1
 have hne:=h.ne
 have hb:=h.1.lt
 have hmb:=h.2.1.lt
 refine aBo rfl ?_
 unfold pC
 refine oy ?_
 repeat' (first|refine zD (d:=some 3) rfl rfl (fun b1 w1 x1 a1 (r1:Row w1 ⟨b1,0,none⟩ p.cs) hb1=>?_)|(refine zH (d:=some 4) (fun b2 w2 x2 a2 hb2=>?_);have s2:w.heap.size≤b2:=nTr x1.size hb2)|refine tX (d:=some 17) (E:=ptK) (fv:=Cn.val) (k:=p) rfl rfl (dW.ext (w:=w) (by exact fx) hM) rfl rfl (fun c hc=>?_) (fun hc=>?_)|(refine zH (d:=some 6) (fun b6 w6 x6 a6 hb6=>?_);have s6:w.heap.size≤b6:=nTr (Ext.size (w:=w) (by exact fx)) hb6;have s26:w2.heap.size≤b6:=nTr (Ext.size (w:=w2) (by exact fx)) hb6;have s16:w1.heap.size≤b6:=nTr (Ext.size (w:=w1) (by exact fx)) hb6)|refine go1 ?_|refine zg λ_ _=>?_|refine zi λ_ _=>?_)
 ·have l1:=a1.lt
  have l2:=a2.lt
  refine bA (w0:=w) (n:=3) (vs:=c.cs) (by exact fx) s6 a6 rfl rfl rfl rfl rfl (fun w7 x7 c7 a7 r7=>?_)
  have a27:=At.chg c7 (At.ext (w:=w2) (by exact fx) a2) (by simp;omega)
  have r17:Row w7 ⟨b1,0,none⟩ p.cs:=Row.chg c7 (Row.ext (w:=w1) (by exact fx) r1) (by simp;omega)
  have h7:=h.ext x7
  have row7:=h7.row
  have l26:b2≠b6:=by omega
  clear x1 x2 x6 a1 r1 a2 a6 r c7 hM
  repeat (first|refine zg (fun w8 x8=>?_)|refine go1 ?_|refine zg λ_ _=>?_|refine zi λ_ _=>?_)
  have h8:=h7.ext x8
  refine aRy (E:=ptK) (fv:=Cn.val) (k:=p) rfl rfl h8.2.1 rfl rfl (fun w9 c9 hM9=>?_)
  have a9:=h8.1.chg c9 (by simp;omega)
  have row9:=Row.of_at a9
  have r69:Row w9 ⟨b6,0,none⟩ c.cs:=Row.chg c9 (Row.ext x8 r7) (by simp;omega)
  have a29:=At.chg c9 (At.ext x8 a27) (by simp;omega)
  have x08:=x7.trans x8
  have hv:=Mon.le h.2.2.1 _ (kM hc)
  have hv0:=h.2.2.1 _ (kM hc)
  have hT:=h.2.2.2
  simp only at hv hv0
  clear x7 x8 h7 h8 row7 r7 r17 a27 a7
  repeat (first|refine zg (fun w10 x10=>?_)|refine go1 ?_|refine zg λ_ _=>?_|refine zi λ_ _=>?_)
  refine bB (b:=b) (o:=1) rfl rfl rfl (a9.ext x10) (by simp) (fun w11 c11 a11=>?_)
  have r611:Row w11 ⟨b6,0,none⟩ c.cs:=Row.chg c11 (Row.ext x10 r69) (by simp;omega)
  have a211:=At.chg c11 (At.ext x10 a29) (by simp;omega)
  have hM11:=(hM9.ext x10).chg c11 (by simp;omega)
  have c011:=(Chg.trans x08 (c9.trans (Chg.trans x10 c11)))
  clear x10 c9 a9 row9 r69 a29
  repeat (first|refine go1 ?_|refine zg λ_ _=>?_|refine zi λ_ _=>?_)
  refine bG (b:=b2) (vs:=c.cs) rfl rfl rfl (fP rfl) a211 rfl (fun w12 c12 a12=>?_)
  repeat (first|refine go1 ?_|refine zg λ_ _=>?_|refine zi λ_ _=>?_)
  refine aB (lA (bK (Row.of_at a12) rfl rfl) bC) ⟨by rw [iA,qE,hc];rfl,⟨?_,?_,h.2.2.del p⟩,?_⟩
  ·rw [aAr,aQk h.2.1.nodup hc]
   exact a11.chg c12 (by simp;omega)
  ·exact hM11.chg c12 (by simp;omega)
  ·refine (c011.trans c12).mono ?_
   intro y hy
   simp at hy ⊢
   omega
 ·have l2:=a2.lt
  refine bA (w0:=w) (n:=3) (vs:=cn0.cs) (by exact fx) s6 a6 rfl rfl rfl rfl rfl (fun w7 x7 c7 a7 r7=>?_)
  have a27:=At.chg c7 (At.ext (w:=w2) (by exact fx) a2) (by simp;omega)
  repeat (first|refine go1 ?_|refine zg λ_ _=>?_|refine zi λ_ _=>?_)
  refine bA (w0:=w) (n:=3) (vs:=cn0.cs) (by exact fx) s2 a27 rfl rfl rfl rfl rfl (fun w8 x8 c8 a8 r8=>?_)
  repeat (first|refine go1 ?_|refine zg λ_ _=>?_|refine zi λ_ _=>?_)
  refine aB (lA (bK r8 rfl rfl) bC) ⟨by rw [iA,qE,hc];rfl,?_,Chg.mono x8 (by simp)⟩
  rw [aAr,aR1 hc];exact h.ext x8
end
def aFt (a b:En):Int:=if gI a.1 b.1 then -1 else if gI b.1 a.1 then 1 else 0
theorem aDx (a b:En):ltOf aFt a b=gI a.1 b.1:=by
 unfold ltOf aFt
 cases h:gI a.1 b.1
 ·cases h':gI b.1 a.1<;>simp
 ·simp
theorem aV6:Sort.SWO (ltOf aFt) where
 irrefl x:=by rw [aDx,rX]
 trans x y z h h':=by rw [aDx] at*;exact qY h h'
 ntrans x y z h h':=by
  rw [aDx] at*
  cases h2:gI x.1 z.1
  ·rfl
  ·cases h3:gI y.1 x.1
   ·have e:=aKu h h3
    rw [e] at h2;rw [h2] at h';cases h'
   ·have:=qY h3 h2
    rw [this] at h';cases h'
section
attribute [local irreducible] K.Spec
theorem aL1 (a b:En) (w:World):K.Spec Tryz.prog F.coins_order [.agg (bE.f a).toArray,.agg (bE.f b).toArray] w fun v w'=>v=.int .i64 (aFt a b)∧Ext w w'∧w.drawn≤w'.drawn:=by
 refine aGr rfl ?_
 unfold vR
 refine oy ?_
 repeat' (first|refine aDu (d:=some 2) (cs:=bE.f a) rfl rfl (fun b1 w1 x1 d1 r1=>?_)|refine aDu (d:=some 3) (cs:=bE.f b) rfl rfl (fun b2 w2 x2 d2 r2=>?_)|(refine eG (d:=some 10) rfl (aCe a.1 b.1 _) ?_;rintro _ w3 ⟨rfl,x3,d3⟩)|(refine eG (d:=some 16) rfl (aCe b.1 a.1 _) ?_;rintro _ w4 ⟨rfl,x4,d4⟩)|refine lG (x:=.tmp 5) rfl (fun h=>?_) (fun h=>?_)|refine lG (x:=.tmp 11) rfl (fun h2=>?_) (fun h2=>?_)|refine go1 ?_|refine zg λ_ _=>?_|refine zi λ_ _=>?_)
 ·exact aB rfl ⟨congrArg (Value.int .i64) (by rw [aFt,h];rfl),by repeat (first|assumption|exact Ext.refl _|refine Ext.trans ?_ (by assumption)),by omega⟩
 ·exact aB rfl ⟨congrArg (Value.int .i64) (by rw [aFt,h,h2];rfl),by repeat (first|assumption|exact Ext.refl _|refine Ext.trans ?_ (by assumption)),by omega⟩
 ·exact aB rfl ⟨congrArg (Value.int .i64) (by rw [aFt,h,h2];rfl),by repeat (first|assumption|exact Ext.refl _|refine Ext.trans ?_ (by assumption)),by omega⟩
end
theorem aOr (b n:Nat) (w:World):CmpLays Tryz.prog F.coins_order #[] bE.f bE.k aFt b 0 n w:=fun m os dk _ x y=>
 (aL1 x y _).mono fun e w' ⟨v,he,hv,hx,hd⟩=>⟨by rw [he,hv],hx.grown hd⟩
theorem aOk {v:Value} {l:List En} {t:TypeId} {B:Nat} {w:World} (ho:Own bE t B w v l) (hl:l.length≤100000):
  K.Spec Tryz.prog F.slices_SortFunc_L_coins_Entry_coins_Entry [v,.func (.func F.coins_order) #[] #[]] w fun r w'=>r=.tuple #[]∧∃l':List En,l'.Perm l∧l'.Pairwise (fun a b=>ltOf aFt b a=false)∧SlE bE w' v l'∧Chg (aH v) w w':=by
 refine aXd ho (fun cap=>?_) (fun b cap hv hH hb=>?_)
 ·exact (AnyF.slices_SortFunc_none Tryz.sortEntry none cap _ w).mono fun e w' ⟨he,hw⟩=>⟨_,he,rfl,hw⟩
 ·exact AnyQ.slices_SortFunc Tryz.sortEntry 5 Tryz.isAgg55 Tryz.sizeOf55 bE.f (fun _=>rfl) bE.one aFt aV6 F.coins_order #[] b 0 cap l.toArray w (enters_of Tryz.func42 (by kernel_rfl) rfl) (aOr b _ w) hH hb (by simp;omega)
attribute [local irreducible] K.Spec
theorem aQ4 {t:TypeId} {b mb:Nat} {m:List En} (w:World) (h:jW t w b mb m) (hn:m.length≤100000):K.Spec Tryz.prog F.coins_Set_All [.pointer (some ⟨b,0,none⟩)] w fun v w'=>
  ∃l':List En,l'.Perm m∧l'.Pairwise (fun a b=>ltOf aFt b a=false)∧SlE bE w' v l'∧(∀x∈aH v,w.heap.size≤x)∧Ext w w':=by
 refine aDi rfl ?_
 unfold rN
 refine oy ?_
 have r:=h.row
 have hb:=h.1.lt
 have hmb:=h.2.1.lt
 repeat (first|refine go ?_|refine zg λ_ _=>?_|refine zi λ_ _=>?_)
 refine aTk rfl h.2.1 (fun it w1 x1 i1 hit=>?_)
 repeat (first|refine go ?_|refine zg λ_ _=>?_|refine zi λ_ _=>?_)
 refine aL (fun (s:List En × Value × List En) w'=>Ext w w'∧tU ptK Cn.val w' it mb s.1∧Own bE T.coins_Entry w.heap.size w' s.2.1 s.2.2∧(s.2.2++s.1).Perm m)
  (fun s=> [(3,s.2.1),(12,.pointer (some ⟨it,0,none⟩))]) (fun s=>s.1.length) (m,.slice none 0 0, []) ⟨rfl,rfl,trivial⟩ ⟨x1,i1,Own.nil _ _ _,by simp⟩ ?_
 rintro ⟨left,vo,out⟩ ρ w2 ⟨x2,i2,ho,hp⟩
 simp only at i2 ho hp
 repeat (first|refine go ?_|refine zg λ_ _=>?_|refine zi λ_ _=>?_)
 have fit:∀{w':World} {left':List En},tU ptK Cn.val w' it mb left'→∀{v':Value} {o':List En},Own bE T.coins_Entry w.heap.size w' v' o'→it∉aH v'∧mb∉aH v':=by
  intro w' left' hI v' o' hO
  obtain ⟨es,clock,seen,a1,a2,_⟩:=hI
  exact ⟨hO.free a1 (by simp),hO.free a2 (by simp)⟩
 have hlen:out.length+left.length≤100000:=by have:=hp.length_eq;simp at this;omega
 refine aW5 rfl i2 (fun h0 w3 x3=>?_) (fun a p c hl w3 c3 i3 p3=>?_)
 ·repeat (first|refine go ?_|refine zg λ_ _=>?_|refine zi λ_ _=>?_)
  subst h0
  rw [List.append_nil] at hp
  simp at hlen
  refine eG rfl (aOk (ho.ext x3) hlen) ?_
  rintro _ w4 ⟨rfl,l',hp',hs',hsl,c4⟩
  repeat (first|refine go ?_|refine zg λ_ _=>?_|refine zi λ_ _=>?_)
  exact aB rfl ⟨l',hp'.trans hp,hs',hsl,ho.base,(((Ext.trans x2 x3).chg (show Chg (aH vo) _ _ from c4)).mono (fun b hb=>.inr (ho.base b (by simpa using hb))))⟩
 ·have ho3:=ho.chg c3 (fun y hy=>by have:=(fit i2 ho).1;simp;rintro rfl;exact this hy)
  have x03:Unit→Ext w w3:=fun _=>(Ext.chg x2 c3).mono (by intro y hy;simp at hy ⊢;omega)
  repeat (first|refine go ?_|refine zg λ_ _=>?_|refine zi λ_ _=>?_)
  refine aUr rfl p3 ?_
  repeat (first|refine go ?_|refine zg λ_ _=>?_|refine zi λ_ _=>?_)
  refine aOz rfl (fun _ _=>rfl) (fun _ _=>rfl) rfl rfl rfl rfl rfl rfl (fun b4 b5 w4 x4 r4 r5 hb4 hb5=>?_)
  repeat (first|refine go ?_|refine zg λ_ _=>?_|refine zi λ_ _=>?_)
  refine dZ rfl (fun b6 w6 x6 a6 hb6=>?_)
  repeat (first|refine go ?_|refine zg λ_ _=>?_|refine zi λ_ _=>?_)
  have hll:left.length=a.length+c.length+1:=by rw [hl];simp;omega
  refine bY (E:=bE) (v:=vo) (l2:= [p]) rfl ((ho3.ext x4).ext x6) (((x03 ()).trans x4).trans x6).size rfl rfl (eH a6 rfl) rfl rfl (by simp;omega) (fun vo' w7 ho7 c7=>?_)
  repeat (first|refine go ?_|refine zg λ_ _=>?_|refine zi λ_ _=>?_)
  have i6:=(i3.ext x4).ext x6
  have hf:=fit i6 ((ho3.ext x4).ext x6)
  refine ⟨(a++c,vo',out++ [p]),⟨rfl,rfl,trivial⟩,⟨((((x03 ()).trans x4).trans x6).chg c7).mono (fun y hy=>.inr (ho.base y (by simpa using hy))),i6.chg c7 hf.1 hf.2,ho7,?_⟩,by simp;omega⟩
  refine List.Perm.trans ?_ hp
  show ((out++ [p])++(a++c)).Perm (out++left)
  rw [hl,List.append_assoc]
  refine List.Perm.append_left _ ?_
  simpa using (List.perm_middle (a:=p) (l₁:=a) (l₂:=c)).symm
section
attribute [local semireducible] K.Spec
theorem aC7 {mb:Nat} {m:List En} (w:World) (h:dW ptK Cn.val w mb m):K.Spec Tryz.prog F.maps_Clone_map_api_Point_api_Coin_api_Point_api_Coin [.map (some mb)] w fun v w'=>∃mb',v=.map (some mb')∧dW ptK Cn.val w' mb' m∧w.heap.size≤mb'∧Ext w w':=by
 obtain ⟨es,clock,h1,h2⟩:=h
 refine (AnyW.maps_Clone Tryz.cloneMap36 mb es clock w h1).mono fun e w' ⟨he,hw⟩=>⟨_,he,_,rfl,?_⟩
 subst hw
 exact ⟨⟨es,clock,At.new _ _,h2⟩,Nat.le_refl _,Ext.alloc _ _⟩
end
theorem aNz {t:TypeId} {b mb:Nat} {m:List En} (w:World) (h:jW t w b mb m):K.Spec Tryz.prog F.coins_Set_Copy [.pointer (some ⟨b,0,none⟩)] w fun v w'=>
  ∃b' mb',v=.pointer (some ⟨b',0,none⟩)∧jW T.coins_Set w' b' mb' m∧w.heap.size≤b'∧w.heap.size≤mb'∧Ext w w':=by
 refine aBb rfl ?_
 unfold qN
 refine oy ?_
 have r:=h.row
 repeat (first|refine go ?_|refine zg λ_ _=>?_|refine zi λ_ _=>?_)
 rename_i w1 x1
 refine lI ?_ ?_
 ·refine eG rfl (aC7 _ (h.2.1.ext x1)) ?_
  rintro _ w2 ⟨mb',rfl,hM,hmb,x2⟩
  repeat (first|refine go ?_|refine zg λ_ _=>?_|refine zi λ_ _=>?_)
  refine jJ rfl rfl (fun b3 w3 x3 a3 r3 hb3=>?_)
  repeat (first|refine go ?_|refine zg λ_ _=>?_|refine zi λ_ _=>?_)
  have:=x1.size
  have:=x2.size
  exact aB rfl ⟨b3,mb',rfl,⟨a3,hM.ext x3,h.2.2⟩,by omega,by omega,by repeat (first|assumption|exact Ext.refl _|refine Ext.trans ?_ (by assumption))⟩
 ·repeat (first|refine go ?_|refine zg λ_ _=>?_|refine zi λ_ _=>?_)
  refine eG rfl (aC7 _ (h.2.1.ext x1)) ?_
  rintro _ w2 ⟨mb',rfl,hM,hmb,x2⟩
  repeat (first|refine go ?_|refine zg λ_ _=>?_|refine zi λ_ _=>?_)
  refine jJ rfl rfl (fun b3 w3 x3 a3 r3 hb3=>?_)
  repeat (first|refine go ?_|refine zg λ_ _=>?_|refine zi λ_ _=>?_)
  have:=x1.size
  have:=x2.size
  exact aB rfl ⟨b3,mb',rfl,⟨a3,hM.ext x3,h.2.2⟩,by omega,by omega,by repeat (first|assumption|exact Ext.refl _|refine Ext.trans ?_ (by assumption))⟩
end
end Go.Proofs.YtgloknkcfchnlabGreatDoor
