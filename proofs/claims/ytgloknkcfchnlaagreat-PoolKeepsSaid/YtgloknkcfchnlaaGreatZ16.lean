/- Contracts: totals and the check of a transaction, by the pro -/
import Derived.Test.YtgloknkcfchnlaaGreatZ11
import Derived.Test.YtgloknkcfchnlaaGreatZ12
set_option linter.unusedVariables false
set_option linter.unusedSimpArgs false
namespace Go.Proofs.YtgloknkcfchnlaaGreat
section
open Go Go.K
attribute [local irreducible] aF aP bG KOp.wp K.Spec leS vnS str aR
theorem xG {M:List Nat} {cs:List Value} {t:Tx} (w:World) (ht:txR.rel M w cs t) (hs:t.Sm):K.Spec Tryz.prog F.tx_Total [.agg cs.toArray] w fun r w'=>r=.tuple #[.int .i64 (fG (values t)),.int .i64 (lM (values t))]∧Ext w w':=by
 obtain ⟨iv,ov,rfl,hi,ho,hv,hl⟩:=ht
 have h1:=hs.outs
 refine bE2 rfl ?_
 unfold aP4
 refine oy ?_
 repeat' (first|refine go1 ?_|refine zg λ_ _=>?_|refine zi λ_ _=>?_|(first|refine zD rfl rfl (fun bp wp xp ap rp hp0=>?_)|refine zE (fun _=>rfl) rfl rfl rfl (fun bq wq xq aq rq hq0=>?_))|refine zG rfl (by exact fx) ?_|refine zL rfl (fun h=>?_) (fun h=>?_)|(refine aI (fun (s:Nat × Value) w'=>Ext wp w'∧s.1≤t.outs.length∧Own aAj T.int wp.heap.size w' s.2 ((values t).take s.1)) (fun s=> [(4,s.2),(8,ov),(9,.int .i64 (t.outs.length:Nat)),(10,.int .i64 s.1)]) (fun s=>t.outs.length - s.1) (0,.slice none 0 0) ⟨rfl,rfl,rfl,rfl,trivial⟩ ⟨by exact fx,by simp,Own.nil _ _ _⟩ ?_;rintro ⟨i,vo⟩ ρ w1 ⟨x1,hi1,hO⟩;simp only at hi1 hO;dsimp only)|(refine aM rfl rfl (n:=i) (l:=t.outs) (by exact fx) rfl (by omega) (fun ad cs r2 he=>?_);obtain ⟨rfl,_⟩:=he;have hil:i<t.outs.length:=by omega)|refine zI rfl (fun b w3 x3 a3 hb=>?_)|refine cA (E:=aAj) (v:=vo) (l2:= [t.outs[i].v]) rfl (hO.ext (by exact fx)) (Ext.size (w:=wp) (by exact fx)) rfl rfl (dX a3 rfl) rfl rfl (by simp;omega) (fun vo' w4 ho4 c4=>?_)|(refine zC rfl (aIn (l:=(values t).take i) _ hO.sl (by simp;omega)) ?_;rintro _ _ ⟨rfl,rfl⟩))
 ·refine ⟨(i+1,vo'),⟨rfl,rfl,rfl,rfl,trivial⟩,⟨(Chg.ext (l:= []) (Ext.chg (w:=wp) (by exact fx) c4 |>.mono (fun b hb=>.inr (hO.base b (by simpa using hb)))) (Ext.refl _)),by simp;omega,?_⟩,by simp;omega⟩
  have e:(values t).take (i+1)=(values t).take i++ [t.outs[i].v]:=by
   rw [List.take_succ_eq_append_getElem (by simpa [values] using hil)];simp [values]
  show Own _ _ _ _ _ ((values t).take (i+1))
  rw [e];exact ho4
 ·have e:(values t).take i=values t:=tLe (by simp [values];omega)
  refine aA rfl ⟨?_,xp.trans x1⟩
  show Value.tuple #[.int .i64 (fG ((values t).take i)),.int .i64 (lM ((values t).take i))]=_
  rw [e]
theorem sU {M:List Nat} {cs:List Value} {t:Tx} (w:World) (ht:txR.rel M w cs t) (hs:t.Sm):K.Spec Tryz.prog F.tx_Check [.agg cs.toArray] w fun r w'=>r=.int .i64 (aE t)∧Ext w w':=by
 have ht0:=ht
 obtain ⟨iv,ov,rfl,hi,ho,hv,hl⟩:=ht
 refine bFg rfl ?_
 unfold aSl
 refine oy ?_
 repeat' (first|refine go1 ?_|refine zg λ_ _=>?_|refine zi λ_ _=>?_|(first|refine zD rfl rfl (fun bp wp xp ap rp hp0=>?_)|refine zE (fun _=>rfl) rfl rfl rfl (fun bq wq xq aq rq hq0=>?_))|refine zM rfl (fun h=>?_) (fun h=>?_)|(refine zC rfl (xG (M:=M) _ (cs:=aJ t iv ov) (by exact fx) hs) ?_;rintro _ w1 ⟨rfl,x1⟩)|(refine zC rfl (aWk (M:=M) _ (cs:=aJ t iv ov) (by exact fx) hs) ?_;rintro _ w2 ⟨rfl,x2⟩)|(refine zC rfl (bC5 (M:=M) _ (cs:=aJ t iv ov) (by exact fx) hs) ?_;rintro _ w3 ⟨rfl,x3⟩)|(refine zC rfl (aWm (M:=M) _ (cs:=aJ t iv ov) (by exact fx) hs) ?_;rintro _ w4 ⟨rfl,x4⟩)|(refine zC rfl (bBb (M:=M) _ (cs:=aJ t iv ov) (by exact fx) hs) ?_;rintro _ w5 ⟨rfl,x5⟩))
 all_goals
  refine aA rfl ⟨congrArg (Value.int .i64) ?_,by exact fx⟩
  simp_all [aE]
theorem bFx {α:Type} {l:List α} {d:α} (h:0<l.length):l.headD d=l[0]:=by
 cases l with
 |nil=>cases h
 |cons x l=>rfl
theorem lI {M : List Nat} {cs : List Value} {t : Tx} (w : World) (ht : txR.rel M w cs t) (hs : t.Sm) : K.Spec Tryz.prog F.tx_Base [.agg cs.toArray] w fun r w' => r = .bool (aQ t) ∧ Ext w w' := by
  obtain ⟨iv, ov, rfl, hi, ho, hv, hl⟩ := ht
  have h1 := hs.ins
  refine bJg rfl ?_
  unfold aT8
  refine oy ?_
  repeat' (first|refine go1 ?_|refine zg λ_ _=>?_|refine zi λ_ _=>?_|(first|refine zD rfl rfl (fun bp wp xp ap rp hp0=>?_)|refine zE (fun _=>rfl) rfl rfl rfl (fun bq wq xq aq rq hq0=>?_))|refine zG rfl (by exact fx) ?_|refine zB ?_ ?_|refine zJ rfl (fun h => ?_) (fun h => ?_)|(refine aM rfl rfl (n := 0) (l := t.ins) (by exact fx) rfl (by have h : (t.ins.length : Int) = 1 := h; omega) (fun ad cs r2 he => ?_); obtain ⟨wv, rfl, hw, _⟩ := he; obtain ⟨_, _, rfl⟩ := hw.form)|(refine zC rfl (aLq _) ?_; rintro _ w3 ⟨rfl, x3⟩))
  all_goals refine aA rfl ⟨congrArg Value.bool ?_, by exact fx⟩
  all_goals rw [aQ]
  all_goals by_cases hl : t.ins.length = 1
  all_goals first
    | (rw [dFa hl]; first | rfl | exact absurd (show (t.ins.length : Int) = 1 from h) (by omega))
    | exact absurd (show ¬ (t.ins.length : Int) = 1 from h) (by omega)
    | (rw [bFx (by omega), dTr hl, Bool.true_and, lJ]
       simp only [Bool.false_eq_true, if_false, Bool.and_true])
end
section
open Go Go.K
attribute [local irreducible] aF aP bG KOp.wp K.Spec u32 leS vnS str aR jT wCs pW pN nY iG rG kV fA yU aHg addN shN bBu eM leL
theorem bSo {c:Nat} (h:c≤7):IntKind.u64.wrap (8*IntKind.u64.wrap ((7:Int) - c))=((8*(7 - c):Nat):Int):=by
 rw [fT (n:=(7:Int) - c) (by omega) (by omega),fT (by omega) (by omega)];omega
theorem bTg (n c:Nat) (h:c≤7):bZ .shr (.int .u64 (n:Nat)) (.int .u64 ((8*(7 - c):Nat):Int))=some (.int .u64 ((n / 256^(7 - c):Nat):Int)):=by
 simp only [bZ,dY,if_true]
 rw [if_neg (by omega)]
 have e:min ((8*(7 - c):Nat):Int).toNat IntKind.u64.bits=8*(7 - c):=by simp [IntKind.bits];omega
 have e2:(256:Nat)^(7 - c)=2^(8*(7 - c)):=by rw [Nat.pow_mul]
 rw [e,e2,Int.fdiv_eq_ediv_of_nonneg _ (by exact_mod_cast Nat.zero_le _)]
 norm_cast
section
variable {P:Program} {d:Option Tmp} {r:KR} {K:Env→World→Prop} {ρ:Env} {w:World}
theorem bQy {x:Operand} {n:Nat} (hx:ev ρ x=.int .u64 (n:Nat)) (k:aF P r K (put ρ d (.int .u8 ((UInt8.ofNat n).toNat:Nat))) w):aF P (.cons ⟨d,.conv .u8 x,none⟩ r) K ρ w:=
 dH rfl (by simp only [KOp.fix,hx];rw [aFg]) k
end
theorem bTq (l:List UInt8):aHg l 0=l++ [128]:=by unfold aHg;simp
theorem bO1 {l:ByteArray} {i:Nat} (h:i<l.size):l.data.toList.take (i+1)=l.data.toList.take i++ [l[i]]:=by
 have hl:i<l.data.toList.length:=by rw [Array.length_toList];exact h
 rw [List.take_succ_eq_append_getElem hl];rfl
theorem bTd {m n k:Nat} (e:m=n+1+k) (h:((m%64:Nat):Int)=56) (hk:k≤sT n):k=sT n:=bPe (by omega) hk
theorem bKm (s:ByteArray) (hs:s.size≤4000000) (w:World):K.Spec Tryz.prog F.kedgeref04_pad [.string s] w fun r w'=>SlE u8E w' r (yU s.data.toList)∧Ext w w'∧∀b∈aB r,w.heap.size≤b:=by
 have hl:s.data.toList.length=s.size:=by rw [Array.length_toList];rfl
 have hpl:∀k,(aHg s.data.toList k).length=s.size+1+k:=fun k=>by rw [bAl,hl]
 have hpn:sT s.size<64:=by unfold sT;omega
 have hrl:∀c,((leL (s.size*8) 8).reverse.take c).length≤8:=fun c=>by rw [List.length_take,List.length_reverse,cY];omega
 refine aL9 rfl ?_
 unfold aAz
 refine oy ?_
 repeat' (first|refine aD (.int .u64 ((s.size*8:Nat):Int)) rfl (congrArg (fun x=>some (Value.int .u64 x)) (bQb hs)) ?_|refine aD (.int .u64 ((8*(7 - c):Nat):Int)) rfl (congrArg (fun x=>some (Value.int .u64 x)) (bSo (by omega))) ?_|refine cR rfl rfl (bTg (s.size*8) c (by omega)) ?_|refine bQy rfl ?_|refine aD2 (n:=(aHg s.data.toList k).length) (m:=64) rfl rfl (by decide) ?_|refine go1 ?_|refine zg λ_ _=>?_|refine zi λ_ _=>?_|refine zL rfl (fun h=>?_) (fun h=>?_)|refine zN rfl (fun h=>?_) (fun h=>?_)|(refine aI (fun (p:Nat × Value) w'=>Ext w w'∧p.1≤s.size∧Own u8E T.uint8 w.heap.size w' p.2 (s.data.toList.take p.1)) (fun p=> [(0,.string s),(3,p.2),(4,.int .i64 p.1)]) (fun p=>s.size - p.1) (0,.slice none 0 0) ⟨rfl,rfl,rfl,trivial⟩ ⟨Ext.refl _,by simp,Own.nil _ _ _⟩ ?_;rintro ⟨i,vo⟩ ρ w1 ⟨x1,hi,ho⟩;simp only at hi ho;dsimp only)|(refine aI (fun (p:Nat × Value) w'=>Ext w w'∧p.1≤sT s.size∧Own u8E T.uint8 w.heap.size w' p.2 (aHg s.data.toList p.1)) (fun p=> [(0,.string s),(3,p.2)]) (fun p=>sT s.size - p.1) (0,_) ⟨rfl,rfl,trivial⟩ ⟨x5,by simp,by rw [bTq];exact ho5⟩ ?_;rintro ⟨k,vk⟩ ρ6 w6 ⟨x6,hk,hok⟩;simp only at hk hok;dsimp only)|(have hpk:k=sT s.size:=(bTd (hpl k) (by assumption) hk);refine aI (fun (p:Nat × Value) w'=>Ext w w'∧p.1≤8∧Own u8E T.uint8 w.heap.size w' p.2 (aHg s.data.toList (sT s.size)++(leL (s.size*8) 8).reverse.take p.1)) (fun p=> [(3,p.2),(5,.int .u64 ((s.size*8:Nat):Int)),(6,.int .i64 ((7:Int) - p.1))]) (fun p=>8 - p.1) (0,vk) ⟨rfl,rfl,rfl,trivial⟩ ⟨x6,by simp,by rw [List.take_zero,List.append_nil,←hpk];exact hok⟩ ?_;rintro ⟨c,vc⟩ ρ8 w8 ⟨x8,hc,hoc⟩;simp only at hc hoc;dsimp only)|(refine jS rfl rfl (n:=i) (by omega) ?_;have hil:i<s.size:=(by omega))|refine zI rfl (fun b w2 x2 a2 hb=>?_)|refine cA (E:=u8E) (v:=vo) (l2:= [s[i]]) rfl (ho.ext x2) (nTr x1.size x2.size) rfl rfl (dX a2 rfl) rfl rfl (by simp;omega) (fun v3 w3 ho3 c3=>?_)|(refine cA (E:=u8E) (v:=vo) (l2:= [128]) rfl (ho.ext x2) (nTr x1.size x2.size) rfl rfl (dX a2 rfl) rfl rfl (by simp;omega) (fun v5 w5 ho5 c5=>?_);have x5:Ext w w5:=((x1.trans x2).chg c5).mono (fun b hb=>.inr (ho.base b (by simpa using hb)));rw [tLe (by rw [hl];omega)] at ho5)|refine cA (E:=u8E) (v:=vk) (l2:= [0]) rfl (hok.ext x2) (nTr x6.size x2.size) rfl rfl (dX a2 rfl) rfl rfl (by rw [hpl];simp;omega) (fun v7 w7 ho7 c7=>?_)|refine cA (E:=u8E) (v:=vc) (l2:= [UInt8.ofNat (s.size*8 / 256^(7 - c))]) rfl (hoc.ext x2) (nTr x8.size x2.size) rfl rfl (dX a2 rfl) rfl rfl (by have:=hpl (sT s.size);have:=hrl c;rw [List.length_append];simp only [List.length_cons,List.length_nil];omega) (fun v9 w9 ho9 c9=>?_)|refine aY rfl hok.sl ?_)
 ·exact ⟨(i+1,v3),⟨rfl,rfl,rfl,trivial⟩,⟨((x1.trans x2).chg c3).mono (fun b hb=>.inr (ho.base b (by simpa using hb))),by simp;omega,by rw [bO1 hil];exact ho3⟩,by simp;omega⟩
 ·have hlt:k<sT s.size:=bNk (by rw [←hpl k];omega) hk
  exact ⟨(k+1,v7),⟨rfl,rfl,trivial⟩,⟨((x6.trans x2).chg c7).mono (fun b hb=>.inr (hok.base b (by simpa using hb))),by simp;omega,by rw [bHy];exact ho7⟩,by simp;omega⟩
 ·exact ⟨(c+1,v9),⟨rfl,rfl,congrArg (Value.int .i64) (by simp;omega),trivial⟩,⟨((x8.trans x2).chg c9).mono (fun b hb=>.inr (hoc.base b (by simpa using hb))),by simp;omega,by rw [bMi (by omega),←List.append_assoc];exact ho9⟩,by simp;omega⟩
 ·obtain rfl:c=8:=by omega
  exact aA rfl ⟨by rw [bOx,hl];exact hoc.sl,x8,hoc.base⟩
end
end Go.Proofs.YtgloknkcfchnlaaGreat
