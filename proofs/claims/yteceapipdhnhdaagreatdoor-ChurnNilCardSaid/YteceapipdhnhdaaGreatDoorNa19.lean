/- Contracts: totals and the check of a transaction, by the pro -/
import Derived.Test.YteceapipdhnhdaaGreatDoorNa3
import Derived.Test.YteceapipdhnhdaaGreatDoorNa14
import Derived.Test.YteceapipdhnhdaaGreatDoorNa15
import Derived.Test.YteceapipdhnhdaaGreatDoorNa16
set_option linter.unusedVariables false
set_option linter.unusedSimpArgs false
namespace Go.Proofs.YteceapipdhnhdaaGreatDoor
section
open Go Go.K
attribute [local irreducible] aH aM aY KOp.wp K.Spec leS vnS str aP
theorem aCs {M:List Nat} {cs:List Value} {t:Tx} (w:World) (ht:txR.rel M w cs t) (hs:t.Sm):K.Spec Tryz.prog F.tx_Total [.agg cs.toArray] w fun r w'=>r=.tuple #[.int .i64 (gX (values t)),.int .i64 (nO (values t))]∧Ext w w':=by
 obtain ⟨iv,ov,rfl,hi,ho,hv,hl⟩:=ht
 have h1:=hs.outs
 refine bDq rfl ?_
 unfold aN9
 refine oy ?_
 repeat' (first|(first|refine go2 ?_|fail)|(first|refine zD rfl rfl (fun bp wp xp ap rp hp0=>?_)|refine zE (fun _=>rfl) rfl rfl rfl (fun bq wq xq aq rq hq0=>?_))|refine zG rfl (by exact fx) ?_|refine zL rfl (fun h=>?_) (fun h=>?_)|(refine aJ (fun (s:Nat × Value) w'=>Ext wp w'∧s.1≤t.outs.length∧Own aCl T.int wp.heap.size w' s.2 ((values t).take s.1)) (fun s=> [(4,s.2),(8,ov),(9,.int .i64 (t.outs.length:Nat)),(10,.int .i64 s.1)]) (fun s=>t.outs.length - s.1) (0,.slice none 0 0) ⟨rfl,rfl,rfl,rfl,trivial⟩ ⟨by exact fx,by simp,Own.nil _ _ _⟩ ?_;rintro ⟨i,vo⟩ ρ w1 ⟨x1,hi1,hO⟩;simp only at hi1 hO;dsimp only)|(refine aR rfl rfl (n:=i) (l:=t.outs) (by exact fx) rfl (by omega) (fun ad cs r2 he=>?_);obtain ⟨rfl,_⟩:=he;have hil:i<t.outs.length:=by omega)|refine zI rfl (fun b w3 x3 a3 hb=>?_)|refine bZ (E:=aCl) (v:=vo) (l2:= [t.outs[i].v]) rfl (hO.ext (by exact fx)) (Ext.size (w:=wp) (by exact fx)) rfl rfl (dR a3 rfl) rfl rfl (by simp;omega) (fun vo' w4 ho4 c4=>?_)|(refine zC rfl (aGz (l:=(values t).take i) _ hO.sl (by simp;omega)) ?_;rintro _ _ ⟨rfl,rfl⟩))
 ·refine ⟨(i+1,vo'),⟨rfl,rfl,rfl,rfl,trivial⟩,⟨(Chg.ext (l:= []) (Ext.chg (w:=wp) (by exact fx) c4 |>.mono (fun b hb=>.inr (hO.base b (by simpa using hb)))) (Ext.refl _)),by simp;omega,?_⟩,by simp;omega⟩
  have e:(values t).take (i+1)=(values t).take i++ [t.outs[i].v]:=by
   rw [List.take_succ_eq_append_getElem (by simpa [values] using hil)];simp [values]
  show Own _ _ _ _ _ ((values t).take (i+1))
  rw [e];exact ho4
 ·have e:(values t).take i=values t:=tLe (by simp [values];omega)
  refine aA rfl ⟨?_,xp.trans x1⟩
  show Value.tuple #[.int .i64 (gX ((values t).take i)),.int .i64 (nO ((values t).take i))]=_
  rw [e]
theorem rB {M:List Nat} {cs:List Value} {t:Tx} (w:World) (ht:txR.rel M w cs t) (hs:t.Sm):K.Spec Tryz.prog F.tx_Check [.agg cs.toArray] w fun r w'=>r=.int .i64 (aG t)∧Ext w w':=by
 have ht0:=ht
 obtain ⟨iv,ov,rfl,hi,ho,hv,hl⟩:=ht
 refine bD2 rfl ?_
 unfold aQj
 refine oy ?_
 repeat' (first|(first|refine go2 ?_|fail)|(first|refine zD rfl rfl (fun bp wp xp ap rp hp0=>?_)|refine zE (fun _=>rfl) rfl rfl rfl (fun bq wq xq aq rq hq0=>?_))|refine zM rfl (fun h=>?_) (fun h=>?_)|(refine zC rfl (aCs (M:=M) _ (cs:=aK t iv ov) (by exact fx) hs) ?_;rintro _ w1 ⟨rfl,x1⟩)|(refine zC rfl (aUx (M:=M) _ (cs:=aK t iv ov) (by exact fx) hs) ?_;rintro _ w2 ⟨rfl,x2⟩)|(refine zC rfl (bBs (M:=M) _ (cs:=aK t iv ov) (by exact fx) hs) ?_;rintro _ w3 ⟨rfl,x3⟩)|(refine zC rfl (aUy (M:=M) _ (cs:=aK t iv ov) (by exact fx) hs) ?_;rintro _ w4 ⟨rfl,x4⟩)|(refine zC rfl (aZv (M:=M) _ (cs:=aK t iv ov) (by exact fx) hs) ?_;rintro _ w5 ⟨rfl,x5⟩))
 all_goals
  refine aA rfl ⟨congrArg (Value.int .i64) ?_,by exact fx⟩
  simp_all [aG]
theorem bEi {α:Type} {l:List α} {d:α} (h:0<l.length):l.headD d=l[0]:=by
 cases l with
 |nil=>cases h
 |cons x l=>rfl
theorem kA {M : List Nat} {cs : List Value} {t : Tx} (w : World) (ht : txR.rel M w cs t) (hs : t.Sm) : K.Spec Tryz.prog F.tx_Base [.agg cs.toArray] w fun r w' => r = .bool (aN t) ∧ Ext w w' := by
  obtain ⟨iv, ov, rfl, hi, ho, hv, hl⟩ := ht
  have h1 := hs.ins
  refine bH3 rfl ?_
  unfold aSf
  refine oy ?_
  repeat' (first|(first|refine go2 ?_|fail)|(first|refine zD rfl rfl (fun bp wp xp ap rp hp0=>?_)|refine zE (fun _=>rfl) rfl rfl rfl (fun bq wq xq aq rq hq0=>?_))|refine zG rfl (by exact fx) ?_|refine zB ?_ ?_|refine zJ rfl (fun h => ?_) (fun h => ?_)|(refine aR rfl rfl (n := 0) (l := t.ins) (by exact fx) rfl (by have h : (t.ins.length : Int) = 1 := h; omega) (fun ad cs r2 he => ?_); obtain ⟨wv, rfl, hw, _⟩ := he; obtain ⟨_, _, rfl⟩ := hw.form)|(refine zC rfl (aKb _) ?_; rintro _ w3 ⟨rfl, x3⟩))
  all_goals refine aA rfl ⟨congrArg Value.bool ?_, by exact fx⟩
  all_goals rw [aN]
  all_goals by_cases hl : t.ins.length = 1
  all_goals first
    | (rw [dFa hl]; first | rfl | exact absurd (show (t.ins.length : Int) = 1 from h) (by omega))
    | exact absurd (show ¬ (t.ins.length : Int) = 1 from h) (by omega)
    | (rw [bEi (by omega), dTr hl, Bool.true_and, kB]
       simp only [Bool.false_eq_true, if_false, Bool.and_true])
end
section
open Go Go.K
attribute [local irreducible] aH aM aY KOp.wp K.Spec u32 leS vnS str aP jK wCs oJ mX lV gM pM jW dZ yW aFx addN shN bDz dV leL
theorem bRg {c:Nat} (h:c≤7):IntKind.u64.wrap (8*IntKind.u64.wrap ((7:Int) - c))=((8*(7 - c):Nat):Int):=by
 rw [eZ (n:=(7:Int) - c) (by omega) (by omega),eZ (by omega) (by omega)];omega
theorem bR8 (n c:Nat) (h:c≤7):bM .shr (.int .u64 (n:Nat)) (.int .u64 ((8*(7 - c):Nat):Int))=some (.int .u64 ((n / 256^(7 - c):Nat):Int)):=by
 simp only [bM,dK,if_true]
 rw [if_neg (by omega)]
 have e:min ((8*(7 - c):Nat):Int).toNat IntKind.u64.bits=8*(7 - c):=by simp [IntKind.bits];omega
 have e2:(256:Nat)^(7 - c)=2^(8*(7 - c)):=by rw [Nat.pow_mul]
 rw [e,e2,Int.fdiv_eq_ediv_of_nonneg _ (by exact_mod_cast Nat.zero_le _)]
 norm_cast
section
variable {P:Program} {d:Option Tmp} {r:KR} {K:Env→World→Prop} {ρ:Env} {w:World}
theorem bPk {x:Operand} {n:Nat} (hx:ev ρ x=.int .u64 (n:Nat)) (k:aH P r K (put ρ d (.int .u8 ((UInt8.ofNat n).toNat:Nat))) w):aH P (.cons ⟨d,.conv .u8 x,none⟩ r) K ρ w:=
 cS rfl (by simp only [KOp.fix,hx];rw [aDw]) k
end
theorem bSj (l:List UInt8):aFx l 0=l++ [128]:=by unfold aFx;simp
theorem bNn {l:ByteArray} {i:Nat} (h:i<l.size):l.data.toList.take (i+1)=l.data.toList.take i++ [l[i]]:=by
 have hl:i<l.data.toList.length:=by rw [Array.length_toList];exact h
 rw [List.take_succ_eq_append_getElem hl];rfl
theorem bR5 {m n k:Nat} (e:m=n+1+k) (h:((m%64:Nat):Int)=56) (hk:k≤qZ n):k=qZ n:=bN2 (by omega) hk
theorem bI4 (s:ByteArray) (hs:s.size≤4000000) (w:World):K.Spec Tryz.prog F.kedgeref04_pad [.string s] w fun r w'=>SlE u8E w' r (yW s.data.toList)∧Ext w w'∧∀b∈aC r,w.heap.size≤b:=by
 have hl:s.data.toList.length=s.size:=by rw [Array.length_toList];rfl
 have hpl:∀k,(aFx s.data.toList k).length=s.size+1+k:=fun k=>by rw [aY6,hl]
 have hpn:qZ s.size<64:=by unfold qZ;omega
 have hrl:∀c,((leL (s.size*8) 8).reverse.take c).length≤8:=fun c=>by rw [List.length_take,List.length_reverse,dE];omega
 refine aKs rfl ?_
 unfold yI
 refine oy ?_
 repeat' (first|refine aL (.int .u64 ((s.size*8:Nat):Int)) rfl (congrArg (fun x=>some (Value.int .u64 x)) (bOv hs)) ?_|refine aL (.int .u64 ((8*(7 - c):Nat):Int)) rfl (congrArg (fun x=>some (Value.int .u64 x)) (bRg (by omega))) ?_|refine dF rfl rfl (bR8 (s.size*8) c (by omega)) ?_|refine bPk rfl ?_|refine aN5 (n:=(aFx s.data.toList k).length) (m:=64) rfl rfl (by decide) ?_|(first|refine go2 ?_|fail)|refine zL rfl (fun h=>?_) (fun h=>?_)|refine zN rfl (fun h=>?_) (fun h=>?_)|(refine aJ (fun (p:Nat × Value) w'=>Ext w w'∧p.1≤s.size∧Own u8E T.uint8 w.heap.size w' p.2 (s.data.toList.take p.1)) (fun p=> [(0,.string s),(3,p.2),(4,.int .i64 p.1)]) (fun p=>s.size - p.1) (0,.slice none 0 0) ⟨rfl,rfl,rfl,trivial⟩ ⟨Ext.refl _,by simp,Own.nil _ _ _⟩ ?_;rintro ⟨i,vo⟩ ρ w1 ⟨x1,hi,ho⟩;simp only at hi ho;dsimp only)|(refine aJ (fun (p:Nat × Value) w'=>Ext w w'∧p.1≤qZ s.size∧Own u8E T.uint8 w.heap.size w' p.2 (aFx s.data.toList p.1)) (fun p=> [(0,.string s),(3,p.2)]) (fun p=>qZ s.size - p.1) (0,_) ⟨rfl,rfl,trivial⟩ ⟨x5,by simp,by rw [bSj];exact ho5⟩ ?_;rintro ⟨k,vk⟩ ρ6 w6 ⟨x6,hk,hok⟩;simp only at hk hok;dsimp only)|(have hpk:k=qZ s.size:=(bR5 (hpl k) (by assumption) hk);refine aJ (fun (p:Nat × Value) w'=>Ext w w'∧p.1≤8∧Own u8E T.uint8 w.heap.size w' p.2 (aFx s.data.toList (qZ s.size)++(leL (s.size*8) 8).reverse.take p.1)) (fun p=> [(3,p.2),(5,.int .u64 ((s.size*8:Nat):Int)),(6,.int .i64 ((7:Int) - p.1))]) (fun p=>8 - p.1) (0,vk) ⟨rfl,rfl,rfl,trivial⟩ ⟨x6,by simp,by rw [List.take_zero,List.append_nil,←hpk];exact hok⟩ ?_;rintro ⟨c,vc⟩ ρ8 w8 ⟨x8,hc,hoc⟩;simp only at hc hoc;dsimp only)|(refine iT rfl rfl (n:=i) (by omega) ?_;have hil:i<s.size:=(by omega))|refine zI rfl (fun b w2 x2 a2 hb=>?_)|refine bZ (E:=u8E) (v:=vo) (l2:= [s[i]]) rfl (ho.ext x2) (nTr x1.size x2.size) rfl rfl (dR a2 rfl) rfl rfl (by simp;omega) (fun v3 w3 ho3 c3=>?_)|(refine bZ (E:=u8E) (v:=vo) (l2:= [128]) rfl (ho.ext x2) (nTr x1.size x2.size) rfl rfl (dR a2 rfl) rfl rfl (by simp;omega) (fun v5 w5 ho5 c5=>?_);have x5:Ext w w5:=((x1.trans x2).chg c5).mono (fun b hb=>.inr (ho.base b (by simpa using hb)));rw [tLe (by rw [hl];omega)] at ho5)|refine bZ (E:=u8E) (v:=vk) (l2:= [0]) rfl (hok.ext x2) (nTr x6.size x2.size) rfl rfl (dR a2 rfl) rfl rfl (by rw [hpl];simp;omega) (fun v7 w7 ho7 c7=>?_)|refine bZ (E:=u8E) (v:=vc) (l2:= [UInt8.ofNat (s.size*8 / 256^(7 - c))]) rfl (hoc.ext x2) (nTr x8.size x2.size) rfl rfl (dR a2 rfl) rfl rfl (by have:=hpl (qZ s.size);have:=hrl c;rw [List.length_append];simp only [List.length_cons,List.length_nil];omega) (fun v9 w9 ho9 c9=>?_)|refine bL rfl hok.sl ?_)
 ·exact ⟨(i+1,v3),⟨rfl,rfl,rfl,trivial⟩,⟨((x1.trans x2).chg c3).mono (fun b hb=>.inr (ho.base b (by simpa using hb))),by simp;omega,by rw [bNn hil];exact ho3⟩,by simp;omega⟩
 ·have hlt:k<qZ s.size:=bL4 (by rw [←hpl k];omega) hk
  exact ⟨(k+1,v7),⟨rfl,rfl,trivial⟩,⟨((x6.trans x2).chg c7).mono (fun b hb=>.inr (hok.base b (by simpa using hb))),by simp;omega,by rw [bGk];exact ho7⟩,by simp;omega⟩
 ·exact ⟨(c+1,v9),⟨rfl,rfl,congrArg (Value.int .i64) (by simp;omega),trivial⟩,⟨((x8.trans x2).chg c9).mono (fun b hb=>.inr (hoc.base b (by simpa using hb))),by simp;omega,by rw [bK5 (by omega),←List.append_assoc];exact ho9⟩,by simp;omega⟩
 ·obtain rfl:c=8:=by omega
  exact aA rfl ⟨by rw [bNj,hl];exact hoc.sl,x8,hoc.base⟩
end
section
open Go Go.K
attribute [local irreducible] aH aM aY KOp.wp K.Spec
theorem aUm (p:Pt) (c:Cn) (w:World):K.Spec Tryz.prog F.coins_formed [p.val,c.val] w fun v w'=>v=.bool (dL p c)∧Ext w w':=by
 refine aP2 rfl ?_
 unfold aCt
 refine oy ?_
 repeat (first|refine go ?_|refine zg λ_ _=>?_|refine zi λ_ _=>?_)
 refine nW rfl rfl (fun b1 w1 x1 _ r1 _=>?_)
 repeat (first|refine go ?_|refine zg λ_ _=>?_|refine zi λ_ _=>?_)
 refine nW rfl rfl (fun b2 w2 x2 _ r2 _=>?_)
 repeat (first|refine go ?_|refine zg λ_ _=>?_|refine zi λ_ _=>?_)
 have e32:((p.s.size:Int)=32)↔p.s.size=32:=by omega
 refine qE rfl (fun h1=>?_) (fun h1=>?_)
 ·repeat (first|refine go ?_|refine zg λ_ _=>?_|refine zi λ_ _=>?_)
  refine qE rfl (fun h2=>?_) (fun h2=>?_)
  ·repeat (first|refine go ?_|refine zg λ_ _=>?_|refine zi λ_ _=>?_)
   refine qE rfl (fun h3=>?_) (fun h3=>?_)
   ·repeat (first|refine go ?_|refine zg λ_ _=>?_|refine zi λ_ _=>?_)
    refine aA rfl ⟨congrArg Value.bool ?_,x1.trans x2⟩
    simp [dL,e32.1 h1,h2,h3]
   ·repeat (first|refine go ?_|refine zg λ_ _=>?_|refine zi λ_ _=>?_)
    refine aA rfl ⟨congrArg Value.bool ?_,x1.trans x2⟩
    simp [dL,h3]
  ·repeat (first|refine go ?_|refine zg λ_ _=>?_|refine zi λ_ _=>?_)
   refine aA rfl ⟨congrArg Value.bool ?_,x1.trans x2⟩
   simp [dL,h2]
 ·repeat (first|refine go ?_|refine zg λ_ _=>?_|refine zi λ_ _=>?_)
  refine aA rfl ⟨congrArg Value.bool ?_,x1.trans x2⟩
  have h1':¬p.s.size=32:=fun h=>h1 (e32.2 h)
  simp [dL,h1']
theorem bG8 (w:World):K.Spec Tryz.prog F.coins_New [] w fun v w'=>∃b mb,v=.pointer (some ⟨b,0,none⟩)∧rI T.coins_Set w' b mb []∧w.heap.size≤b∧w.heap.size≤mb∧Ext w w':=by
 refine aW1 rfl ?_
 unfold aLi
 refine oy ?_
 repeat (first|refine go ?_|refine zg λ_ _=>?_|refine zi λ_ _=>?_)
 refine iX (E:=ptK) (fv:=Cn.val) (fun mb w1 x1 hm hmb=>?_)
 repeat (first|refine go ?_|refine zg λ_ _=>?_|refine zi λ_ _=>?_)
 refine nW rfl rfl (fun b w2 x2 a2 r2 hb=>?_)
 repeat (first|refine go ?_|refine zg λ_ _=>?_|refine zi λ_ _=>?_)
 exact aA rfl ⟨b,mb,rfl,⟨a2,hm.ext x2,Mon.nil⟩,nTr x1.size hb,hmb,x1.trans x2⟩
theorem aTk {t:TypeId} {b mb:Nat} {m:List En} (p:Pt) (w:World) (h:rI t w b mb m):K.Spec Tryz.prog F.coins_Set_Get [.pointer (some ⟨b,0,none⟩),p.val] w fun v w'=>v=.tuple #[(lF m p).val,.bool (aS m p).isSome]∧Ext w w':=by
 have r:=h.row
 have hM:=h.2.1
 refine aM0 rfl ?_
 unfold aBi
 refine oy ?_
 repeat' (first|refine zD (d:=some 3) rfl rfl (fun b1 w1 x1 a1 (r1:Row w1 ⟨b1,0,none⟩ p.cs) hb1=>?_)|(refine zH (d:=some 4) (fun b2 w2 x2 a2 hb2=>?_);have s2:w.heap.size≤b2:=nTr x1.size hb2)|refine mV (d:=some 17) (E:=ptK) (fv:=Cn.val) (k:=p) rfl rfl (dB.ext (w:=w) (by exact fx) hM) rfl rfl (fun c hc=>?_) (fun hc=>?_)|(refine zH (d:=some 6) (fun b6 w6 x6 a6 hb6=>?_);have s6:w.heap.size≤b6:=nTr (Ext.size (w:=w) (by exact fx)) hb6;have s26:w2.heap.size≤b6:=nTr (Ext.size (w:=w2) (by exact fx)) hb6)|refine go1 ?_|refine zg λ_ _=>?_|refine zi λ_ _=>?_)
 ·refine aW (w0:=w) (vs:=c.cs) (by exact fx) s6 a6 rfl rfl rfl rfl rfl (fun w7 x7 c7 a7 r7=>?_)
  have a2':=At.chg c7 (At.ext (w:=w2) (by exact fx) a2) (by have:=a2.lt;simp;omega)
  repeat (first|refine go1 ?_|refine zg λ_ _=>?_|refine zi λ_ _=>?_)
  refine aW (w0:=w) (vs:=c.cs) (by exact fx) s2 a2' rfl rfl rfl rfl rfl (fun w9 x9 c9 a9 r9=>?_)
  repeat (first|refine go1 ?_|refine zg λ_ _=>?_|refine zi λ_ _=>?_)
  exact aA (iY (bA r9 rfl rfl) bI) ⟨by rw [lF,hc];rfl,x9⟩
 ·refine aW (w0:=w) (vs:=cn0.cs) (by exact fx) s6 a6 rfl rfl rfl rfl rfl (fun w7 x7 c7 a7 r7=>?_)
  have a2':=At.chg c7 (At.ext (w:=w2) (by exact fx) a2) (by have:=a2.lt;simp;omega)
  repeat (first|refine go1 ?_|refine zg λ_ _=>?_|refine zi λ_ _=>?_)
  refine aW (w0:=w) (vs:=cn0.cs) (by exact fx) s2 a2' rfl rfl rfl rfl rfl (fun w9 x9 c9 a9 r9=>?_)
  repeat (first|refine go1 ?_|refine zg λ_ _=>?_|refine zi λ_ _=>?_)
  exact aA (iY (bA r9 rfl rfl) bI) ⟨by rw [lF,hc];rfl,x9⟩
set_option maxHeartbeats 1000000 in
theorem bHf {t:TypeId} {b mb:Nat} {m:List En} (p:Pt) (c:Cn) (w:World) (h:rI t w b mb m):K.Spec Tryz.prog F.coins_Set_Put [.pointer (some ⟨b,0,none⟩),p.val,c.val] w fun v w'=>
  v=.int .i64 (gZ m p c)∧rI t w' b mb (aC1 m p c)∧Chg [b,mb] w w':=by
 have r:=h.row
 have hne:=h.ne
 have hb:=h.1.lt
 have hmb:=h.2.1.lt
 have hM:=h.2.1
 have fail:∀{w':World} {n:Int},Ext w w'→n≠0→gZ m p c=n→Value.int .i64 n=.int .i64 (gZ m p c)∧rI t w' b mb (aC1 m p c)∧Chg [b,mb] w w':=by
  intro w' n x hn hc
  refine ⟨by rw [hc],?_,Chg.mono x (by simp)⟩
  rw [aC1,if_neg (by rw [hc];exact hn)];exact h.ext x
 refine aMr rfl ?_
 unfold aBk
 refine oy ?_
 repeat' (first|refine zD (d:=some 4) rfl rfl (fun b1 w1 x1 a1 (r1:Row w1 ⟨b1,0,none⟩ p.cs) hb1=>?_)|refine zD (d:=some 5) rfl rfl (fun b2 w2 x2 a2 (r2:Row w2 ⟨b2,0,none⟩ c.cs) hb2=>?_)|(refine zC (d:=some 17) rfl (aUm p c _) ?_;rintro _ w3 ⟨rfl,x3⟩)|refine rX (x:=.tmp 14) rfl (fun hf=>?_) (fun hf=>?_)|refine mV (d:=some 25) (E:=ptK) (fv:=Cn.val) (k:=p) rfl rfl (dB.ext (w:=w) (by exact fx) hM) rfl rfl (fun d hd=>?_) (fun hd=>?_)|(refine zH (d:=some 7) (fun b6 w6 x6 a6 hb6=>?_);have s6:w.heap.size≤b6:=nTr (Ext.size (w:=w) (by exact fx)) hb6;have s26:w2.heap.size≤b6:=nTr (Ext.size (w:=w2) (by exact fx)) hb6)|refine aW (w0:=w) (n:=3) (vs:=d.cs) (by exact fx) s6 a6 rfl rfl rfl rfl rfl (fun w7 x7 c7 a7 r7=>?_)|(refine aW (w0:=w) (n:=3) (vs:=cn0.cs) (by exact fx) s6 a6 rfl rfl rfl rfl rfl (fun w7 x7 c7 a7 r7=>?_);replace r1:Row w7 ⟨b1,0,none⟩ p.cs:=Row.chg c7 (Row.ext (w:=w1) (by exact fx) r1) (by have:=a1.lt;have:=x2.size;simp;omega);replace r2:Row w7 ⟨b2,0,none⟩ c.cs:=Row.chg c7 (Row.ext (w:=w2) (by exact fx) r2) (by have:=a2.lt;simp;omega);have s01:=x1.size;clear x1 x2 x3 x6 c7 a6)|(refine zC (d:=some 37) rfl (aZd (tot m) c.v _) ?_;rintro _ w8 ⟨rfl,rfl⟩)|refine zN (p:=(if iP (tot m) c.v=true then (0:Int) else 3)=0) rfl (fun he=>?_) (fun he=>?_)|refine fG ?_ ?_|refine go1 ?_|refine zg λ_ _=>?_|refine zi λ_ _=>?_)
 ·exact aA rfl (fail (by exact fx) (by decide) (bJf (by simpa using hf)))
 ·exact aA rfl (fail x7 (by decide) (bJy (by simpa using hf) hd))
 ·have hP:=aXk (by simpa using hf) hd h.2.2
  have ho:iP (tot m) c.v=false:=by
   cases hx:iP (tot m) c.v
   ·rfl
   ·rw [hx] at he;exact absurd rfl he
  rw [ho] at hP
  refine aA (v:=.int .i64 3) ?_ (fail (by exact fx) (by decide) hP)
  rw [ho];rfl
 all_goals
  have ho:iP (tot m) c.v=true:=by
   cases hx:iP (tot m) c.v
   ·rw [hx] at he;exact absurd he (by decide)
   ·rfl
  have hP:gZ m p c=0:=by rw [aXk (by simpa using hf) hd h.2.2,ho];rfl
  have hn:∀{w' w'':World},At w' b (.cells ([Value.map (some mb),.int .i64 (tot m)].set 1 (.int .i64 (if iP (tot m) c.v=true then tot m+c.v else 0))).toArray t (0,0))→dB ptK Cn.val w' mb (fV m p c)→Ext w' w''→rI t w'' b mb (aC1 m p c):=by
   intro w' w'' ha hM x
   rw [aC1,if_pos hP]
   rw [bFo hd] at hM
   refine ⟨?_,hM.ext x,h.2.2.put hP⟩
   have:=ha.ext x
   rw [ho] at this
   have e:tot (m++ [(p,c)])=tot m+c.v:=by simp
   rw [e];exact this
  rename_i x78 w9 x89
  have x79:Ext w7 w9:=x78.trans x89
  have x09:Ext w w9:=x7.trans x79
  have h9:=h.ext x09
  have r19:=r1.ext x79
  have r29:=r2.ext x79
  have r9:=h9.row
  clear x7 x78 x89 x79 r1 r2 r r7 a7
  repeat' (first|(refine aXu (d:=some 51) (E:=ptK) (fv:=Cn.val) (k:=p) rfl rfl h9.2.1 rfl rfl (fun st w10 c10 hM10=>?_);have r210:Row w10 ⟨b2,0,none⟩ c.cs:=r29.chg c10 (by simp;omega);have a10:=h9.1.chg c10 (by simp;omega))|(refine aEz (E:=ptK) (fv:=Cn.val) (k:=p) (v:=c) rfl rfl rfl hM10 (fun w11 c11 hM11=>?_);have a11:=a10.chg c11 (by simp;omega))|refine go1 ?_|refine zg λ_ _=>?_|refine zi λ_ _=>?_)
  refine bC (b:=b) (o:=1) rfl rfl rfl a11 (by simp) (fun w12 c12 a12=>?_)
  repeat (first|refine go1 ?_|refine zg λ_ _=>?_|refine zi λ_ _=>?_)
  refine aA rfl ⟨by rw [hP];rfl,hn a12 (hM11.chg c12 (by simp;omega)) (Ext.refl _),?_⟩
  refine (x09.chg (c10.trans (c11.trans c12))).mono ?_
  intro y hy
  simp at hy ⊢
  omega
end
section
open Go Go.K
attribute [local irreducible] aH aM aY KOp.wp
section
attribute [local irreducible] K.Spec
theorem bCw {t:TypeId} {b mb:Nat} {m:List En} (p:Pt) (w:World) (h:rI t w b mb m):K.Spec Tryz.prog F.coins_Set_Take [.pointer (some ⟨b,0,none⟩),p.val] w fun v w'=>
  v=.tuple #[(lF m p).val,.int .i64 (yT m p)]∧rI t w' b mb (aHq m p)∧Chg [b,mb] w w':=by
 have r:=h.row
 have hM:=h.2.1
 have hne:=h.ne
 have hb:=h.1.lt
 have hmb:=h.2.1.lt
 refine aJv rfl ?_
 unfold xE
 refine oy ?_
 repeat' (first|refine zD (d:=some 3) rfl rfl (fun b1 w1 x1 a1 (r1:Row w1 ⟨b1,0,none⟩ p.cs) hb1=>?_)|(refine zH (d:=some 4) (fun b2 w2 x2 a2 hb2=>?_);have s2:w.heap.size≤b2:=nTr x1.size hb2)|refine mV (d:=some 17) (E:=ptK) (fv:=Cn.val) (k:=p) rfl rfl (dB.ext (w:=w) (by exact fx) hM) rfl rfl (fun c hc=>?_) (fun hc=>?_)|(refine zH (d:=some 6) (fun b6 w6 x6 a6 hb6=>?_);have s6:w.heap.size≤b6:=nTr (Ext.size (w:=w) (by exact fx)) hb6;have s26:w2.heap.size≤b6:=nTr (Ext.size (w:=w2) (by exact fx)) hb6;have s16:w1.heap.size≤b6:=nTr (Ext.size (w:=w1) (by exact fx)) hb6)|refine go1 ?_|refine zg λ_ _=>?_|refine zi λ_ _=>?_)
 ·have l1:=a1.lt
  have l2:=a2.lt
  refine aW (w0:=w) (n:=3) (vs:=c.cs) (by exact fx) s6 a6 rfl rfl rfl rfl rfl (fun w7 x7 c7 a7 r7=>?_)
  have a27:=At.chg c7 (At.ext (w:=w2) (by exact fx) a2) (by simp;omega)
  have r17:Row w7 ⟨b1,0,none⟩ p.cs:=Row.chg c7 (Row.ext (w:=w1) (by exact fx) r1) (by simp;omega)
  have h7:=h.ext x7
  have row7:=h7.row
  have l26:b2≠b6:=by omega
  clear x1 x2 x6 a1 r1 a2 a6 r c7 hM
  repeat (first|refine zg (fun w8 x8=>?_)|refine go1 ?_|refine zg λ_ _=>?_|refine zi λ_ _=>?_)
  have h8:=h7.ext x8
  refine aDv (E:=ptK) (fv:=Cn.val) (k:=p) rfl rfl h8.2.1 rfl rfl (fun w9 c9 hM9=>?_)
  have a9:=h8.1.chg c9 (by simp;omega)
  have row9:=Row.of_at a9
  have r69:Row w9 ⟨b6,0,none⟩ c.cs:=Row.chg c9 (Row.ext x8 r7) (by simp;omega)
  have a29:=At.chg c9 (At.ext x8 a27) (by simp;omega)
  have x08:=x7.trans x8
  have hv:=Mon.le h.2.2.1 _ (nI hc)
  have hv0:=h.2.2.1 _ (nI hc)
  have hT:=h.2.2.2
  simp only at hv hv0
  clear x7 x8 h7 h8 row7 r7 r17 a27 a7
  repeat (first|refine zg (fun w10 x10=>?_)|refine go1 ?_|refine zg λ_ _=>?_|refine zi λ_ _=>?_)
  refine bC (b:=b) (o:=1) rfl rfl rfl (a9.ext x10) (by simp) (fun w11 c11 a11=>?_)
  have r611:Row w11 ⟨b6,0,none⟩ c.cs:=Row.chg c11 (Row.ext x10 r69) (by simp;omega)
  have a211:=At.chg c11 (At.ext x10 a29) (by simp;omega)
  have hM11:=(hM9.ext x10).chg c11 (by simp;omega)
  have c011:=(Chg.trans x08 (c9.trans (Chg.trans x10 c11)))
  clear x10 c9 a9 row9 r69 a29
  repeat (first|refine go1 ?_|refine zg λ_ _=>?_|refine zi λ_ _=>?_)
  refine cE (b:=b2) (vs:=c.cs) rfl rfl rfl (gQ rfl) a211 rfl (fun w12 c12 a12=>?_)
  repeat (first|refine go1 ?_|refine zg λ_ _=>?_|refine zi λ_ _=>?_)
  refine aA (iY (bA (Row.of_at a12) rfl rfl) bI) ⟨by rw [lF,yT,hc];rfl,⟨?_,?_,h.2.2.del p⟩,?_⟩
  ·rw [aHq,bEs h.2.1.nodup hc]
   exact a11.chg c12 (by simp;omega)
  ·exact hM11.chg c12 (by simp;omega)
  ·refine (c011.trans c12).mono ?_
   intro y hy
   simp at hy ⊢
   omega
 ·have l2:=a2.lt
  refine aW (w0:=w) (n:=3) (vs:=cn0.cs) (by exact fx) s6 a6 rfl rfl rfl rfl rfl (fun w7 x7 c7 a7 r7=>?_)
  have a27:=At.chg c7 (At.ext (w:=w2) (by exact fx) a2) (by simp;omega)
  repeat (first|refine go1 ?_|refine zg λ_ _=>?_|refine zi λ_ _=>?_)
  refine aW (w0:=w) (n:=3) (vs:=cn0.cs) (by exact fx) s2 a27 rfl rfl rfl rfl rfl (fun w8 x8 c8 a8 r8=>?_)
  repeat (first|refine go1 ?_|refine zg λ_ _=>?_|refine zi λ_ _=>?_)
  refine aA (iY (bA r8 rfl rfl) bI) ⟨by rw [lF,yT,hc];rfl,?_,Chg.mono x8 (by simp)⟩
  rw [aHq,bF3 hc];exact h.ext x8
end
def aQc (a b:En):Int:=if lA a.1 b.1 then -1 else if lA b.1 a.1 then 1 else 0
theorem aNg (a b:En):ltOf aQc a b=lA a.1 b.1:=by
 unfold ltOf aQc
 cases h:lA a.1 b.1
 ·cases h':lA b.1 a.1<;>simp
 ·simp
theorem bNo:Sort.SWO (ltOf aQc) where
 irrefl x:=by rw [aNg,aBu]
 trans x y z h h':=by rw [aNg] at*;exact aAa h h'
 ntrans x y z h h':=by
  rw [aNg] at*
  cases h2:lA x.1 z.1
  ·rfl
  ·cases h3:lA y.1 x.1
   ·have e:=aY1 h h3
    rw [e] at h2;rw [h2] at h';cases h'
   ·have:=aAa h3 h2
    rw [this] at h';cases h'
section
attribute [local irreducible] K.Spec
theorem aXj (a b:En) (w:World):K.Spec Tryz.prog F.coins_order [.agg (cQ.f a).toArray,.agg (cQ.f b).toArray] w fun v w'=>v=.int .i64 (aQc a b)∧Ext w w'∧w.drawn≤w'.drawn:=by
 refine aRm rfl ?_
 unfold aEt
 refine oy ?_
 repeat' (first|refine aNe (d:=some 2) (cs:=cQ.f a) rfl rfl (fun b1 w1 x1 d1 r1=>?_)|refine aNe (d:=some 3) (cs:=cQ.f b) rfl rfl (fun b2 w2 x2 d2 r2=>?_)|(refine gD (d:=some 10) rfl (aK2 a.1 b.1 _) ?_;rintro _ w3 ⟨rfl,x3,d3⟩)|(refine gD (d:=some 16) rfl (aK2 b.1 a.1 _) ?_;rintro _ w4 ⟨rfl,x4,d4⟩)|refine rX (x:=.tmp 5) rfl (fun h=>?_) (fun h=>?_)|refine rX (x:=.tmp 11) rfl (fun h2=>?_) (fun h2=>?_)|refine go1 ?_|refine zg λ_ _=>?_|refine zi λ_ _=>?_)
 ·exact aA rfl ⟨congrArg (Value.int .i64) (by rw [aQc,h];rfl),by repeat (first|assumption|exact Ext.refl _|refine Ext.trans ?_ (by assumption)),by omega⟩
 ·exact aA rfl ⟨congrArg (Value.int .i64) (by rw [aQc,h,h2];rfl),by repeat (first|assumption|exact Ext.refl _|refine Ext.trans ?_ (by assumption)),by omega⟩
 ·exact aA rfl ⟨congrArg (Value.int .i64) (by rw [aQc,h,h2];rfl),by repeat (first|assumption|exact Ext.refl _|refine Ext.trans ?_ (by assumption)),by omega⟩
end
theorem bDf (b n:Nat) (w:World):CmpLays Tryz.prog F.coins_order #[] cQ.f cQ.k aQc b 0 n w:=fun m os dk _ x y=>
 (aXj x y _).mono fun e w' ⟨v,he,hv,hx,hd⟩=>⟨by rw [he,hv],hx.grown hd⟩
theorem bDc {v:Value} {l:List En} {t:TypeId} {B:Nat} {w:World} (ho:Own cQ t B w v l) (hl:l.length≤100000):
  K.Spec Tryz.prog F.slices_SortFunc_L_coins_Entry_coins_Entry [v,.func (.func F.coins_order) #[] #[]] w fun r w'=>r=.tuple #[]∧∃l':List En,l'.Perm l∧l'.Pairwise (fun a b=>ltOf aQc b a=false)∧SlE cQ w' v l'∧Chg (aC v) w w':=by
 refine bM4 ho (fun cap=>?_) (fun b cap hv hH hb=>?_)
 ·exact (AnyF.slices_SortFunc_none Tryz.sortEntry none cap _ w).mono fun e w' ⟨he,hw⟩=>⟨_,he,rfl,hw⟩
 ·exact AnyQ.slices_SortFunc Tryz.sortEntry 5 Tryz.isAgg278 Tryz.sizeOf278 cQ.f (fun _=>rfl) cQ.one aQc bNo F.coins_order #[] b 0 cap l.toArray w (enters_of Tryz.func242 (by kernel_rfl) rfl) (bDf b _ w) hH hb (by simp;omega)
attribute [local irreducible] K.Spec
theorem bFl {t:TypeId} {b mb:Nat} {m:List En} (w:World) (h:rI t w b mb m) (hn:m.length≤100000):K.Spec Tryz.prog F.coins_Set_All [.pointer (some ⟨b,0,none⟩)] w fun v w'=>
  ∃l':List En,l'.Perm m∧l'.Pairwise (fun a b=>ltOf aQc b a=false)∧SlE cQ w' v l'∧(∀x∈aC v,w.heap.size≤x)∧Ext w w':=by
 refine aMs rfl ?_
 unfold aBa
 refine oy ?_
 have r:=h.row
 have hb:=h.1.lt
 have hmb:=h.2.1.lt
 repeat (first|refine go ?_|refine zg λ_ _=>?_|refine zi λ_ _=>?_)
 refine bKk rfl h.2.1 (fun it w1 x1 i1 hit=>?_)
 repeat (first|refine go ?_|refine zg λ_ _=>?_|refine zi λ_ _=>?_)
 refine aJ (fun (s:List En × Value × List En) w'=>Ext w w'∧aDm ptK Cn.val w' it mb s.1∧Own cQ T.coins_Entry w.heap.size w' s.2.1 s.2.2∧(s.2.2++s.1).Perm m)
  (fun s=> [(3,s.2.1),(12,.pointer (some ⟨it,0,none⟩))]) (fun s=>s.1.length) (m,.slice none 0 0, []) ⟨rfl,rfl,trivial⟩ ⟨x1,i1,Own.nil _ _ _,by simp⟩ ?_
 rintro ⟨left,vo,out⟩ ρ w2 ⟨x2,i2,ho,hp⟩
 simp only at i2 ho hp
 repeat (first|refine go ?_|refine zg λ_ _=>?_|refine zi λ_ _=>?_)
 have fit:∀{w':World} {left':List En},aDm ptK Cn.val w' it mb left'→∀{v':Value} {o':List En},Own cQ T.coins_Entry w.heap.size w' v' o'→it∉aC v'∧mb∉aC v':=by
  intro w' left' hI v' o' hO
  obtain ⟨es,clock,seen,a1,a2,_⟩:=hI
  exact ⟨hO.free a1 (by simp),hO.free a2 (by simp)⟩
 have hlen:out.length+left.length≤100000:=by have:=hp.length_eq;simp at this;omega
 refine bMy rfl i2 (fun h0 w3 x3=>?_) (fun a p c hl w3 c3 i3 p3=>?_)
 ·repeat (first|refine go ?_|refine zg λ_ _=>?_|refine zi λ_ _=>?_)
  subst h0
  rw [List.append_nil] at hp
  simp at hlen
  refine gD rfl (bDc (ho.ext x3) hlen) ?_
  rintro _ w4 ⟨rfl,l',hp',hs',hsl,c4⟩
  repeat (first|refine go ?_|refine zg λ_ _=>?_|refine zi λ_ _=>?_)
  exact aA rfl ⟨l',hp'.trans hp,hs',hsl,ho.base,(((Ext.trans x2 x3).chg (show Chg (aC vo) _ _ from c4)).mono (fun b hb=>.inr (ho.base b (by simpa using hb))))⟩
 ·have ho3:=ho.chg c3 (fun y hy=>by have:=(fit i2 ho).1;simp;rintro rfl;exact this hy)
  have x03:Unit→Ext w w3:=fun _=>(Ext.chg x2 c3).mono (by intro y hy;simp at hy ⊢;omega)
  repeat (first|refine go ?_|refine zg λ_ _=>?_|refine zi λ_ _=>?_)
  refine bK8 rfl p3 ?_
  repeat (first|refine go ?_|refine zg λ_ _=>?_|refine zi λ_ _=>?_)
  refine bBy rfl (fun _ _=>rfl) (fun _ _=>rfl) rfl rfl rfl rfl rfl rfl (fun b4 b5 w4 x4 r4 r5 hb4 hb5=>?_)
  repeat (first|refine go ?_|refine zg λ_ _=>?_|refine zi λ_ _=>?_)
  refine fU rfl (fun b6 w6 x6 a6 hb6=>?_)
  repeat (first|refine go ?_|refine zg λ_ _=>?_|refine zi λ_ _=>?_)
  have hll:left.length=a.length+c.length+1:=by rw [hl];simp;omega
  refine bZ (E:=cQ) (v:=vo) (l2:= [p]) rfl ((ho3.ext x4).ext x6) (((x03 ()).trans x4).trans x6).size rfl rfl (dR a6 rfl) rfl rfl (by simp;omega) (fun vo' w7 ho7 c7=>?_)
  repeat (first|refine go ?_|refine zg λ_ _=>?_|refine zi λ_ _=>?_)
  have i6:=(i3.ext x4).ext x6
  have hf:=fit i6 ((ho3.ext x4).ext x6)
  refine ⟨(a++c,vo',out++ [p]),⟨rfl,rfl,trivial⟩,⟨((((x03 ()).trans x4).trans x6).chg c7).mono (fun y hy=>.inr (ho.base y (by simpa using hy))),i6.chg c7 hf.1 hf.2,ho7,?_⟩,by simp;omega⟩
  refine List.Perm.trans ?_ hp
  show ((out++ [p])++(a++c)).Perm (out++left)
  rw [hl,List.append_assoc]
  refine List.Perm.append_left _ ?_
  simpa using (List.perm_middle (a:=p) (l₁:=a) (l₂:=c)).symm
section
attribute [local semireducible] K.Spec
theorem aMl {mb:Nat} {m:List En} (w:World) (h:dB ptK Cn.val w mb m):K.Spec Tryz.prog F.maps_Clone_map_api_Point_api_Coin_api_Point_api_Coin [.map (some mb)] w fun v w'=>∃mb',v=.map (some mb')∧dB ptK Cn.val w' mb' m∧w.heap.size≤mb'∧Ext w w':=by
 obtain ⟨es,clock,h1,h2⟩:=h
 refine (AnyW.maps_Clone Tryz.cloneMap167 mb es clock w h1).mono fun e w' ⟨he,hw⟩=>⟨_,he,_,rfl,?_⟩
 subst hw
 exact ⟨⟨es,clock,At.new _ _,h2⟩,Nat.le_refl _,Ext.alloc _ _⟩
end
theorem bAz {t:TypeId} {b mb:Nat} {m:List En} (w:World) (h:rI t w b mb m):K.Spec Tryz.prog F.coins_Set_Copy [.pointer (some ⟨b,0,none⟩)] w fun v w'=>
  ∃b' mb',v=.pointer (some ⟨b',0,none⟩)∧rI T.coins_Set w' b' mb' m∧w.heap.size≤b'∧w.heap.size≤mb'∧Ext w w':=by
 refine aJo rfl ?_
 unfold yD
 refine oy ?_
 have r:=h.row
 repeat (first|refine go ?_|refine zg λ_ _=>?_|refine zi λ_ _=>?_)
 rename_i w1 x1
 refine fG ?_ ?_
 ·refine gD rfl (aMl _ (h.2.1.ext x1)) ?_
  rintro _ w2 ⟨mb',rfl,hM,hmb,x2⟩
  repeat (first|refine go ?_|refine zg λ_ _=>?_|refine zi λ_ _=>?_)
  refine nW rfl rfl (fun b3 w3 x3 a3 r3 hb3=>?_)
  repeat (first|refine go ?_|refine zg λ_ _=>?_|refine zi λ_ _=>?_)
  have:=x1.size
  have:=x2.size
  exact aA rfl ⟨b3,mb',rfl,⟨a3,hM.ext x3,h.2.2⟩,by omega,by omega,by repeat (first|assumption|exact Ext.refl _|refine Ext.trans ?_ (by assumption))⟩
 ·repeat (first|refine go ?_|refine zg λ_ _=>?_|refine zi λ_ _=>?_)
  refine gD rfl (aMl _ (h.2.1.ext x1)) ?_
  rintro _ w2 ⟨mb',rfl,hM,hmb,x2⟩
  repeat (first|refine go ?_|refine zg λ_ _=>?_|refine zi λ_ _=>?_)
  refine nW rfl rfl (fun b3 w3 x3 a3 r3 hb3=>?_)
  repeat (first|refine go ?_|refine zg λ_ _=>?_|refine zi λ_ _=>?_)
  have:=x1.size
  have:=x2.size
  exact aA rfl ⟨b3,mb',rfl,⟨a3,hM.ext x3,h.2.2⟩,by omega,by omega,by repeat (first|assumption|exact Ext.refl _|refine Ext.trans ?_ (by assumption))⟩
end
end Go.Proofs.YteceapipdhnhdaaGreatDoor
