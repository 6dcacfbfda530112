/- Contracts: digests by the reference. Contracts: a round of a -/
import Derived.Test.YtfebcajheojodaaGreatDoorZ14
set_option linter.unusedVariables false
set_option linter.unusedSimpArgs false
namespace Go.Proofs.YtfebcajheojodaaGreatDoor
section
open Go Go.K
attribute [local irreducible] aO aU bQ KOp.wp K.Spec u32 leS vnS str aV iU wCs nX nH mF gS pK jX eK wW aFv addN shN aV1 eC leL
theorem bPm {c:Nat} (h:c≤7):IntKind.u64.wrap (8*IntKind.u64.wrap ((7:Int) - c))=((8*(7 - c):Nat):Int):=by
 rw [fF (n:=(7:Int) - c) (by omega) (by omega),fF (by omega) (by omega)];omega
theorem bP7 (n c:Nat) (h:c≤7):cC .shr (.int .u64 (n:Nat)) (.int .u64 ((8*(7 - c):Nat):Int))=some (.int .u64 ((n / 256^(7 - c):Nat):Int)):=by
 simp only [cC,dX,if_true]
 rw [if_neg (by omega)]
 have e:min ((8*(7 - c):Nat):Int).toNat IntKind.u64.bits=8*(7 - c):=by simp [IntKind.bits];omega
 have e2:(256:Nat)^(7 - c)=2^(8*(7 - c)):=by rw [Nat.pow_mul]
 rw [e,e2,Int.fdiv_eq_ediv_of_nonneg _ (by exact_mod_cast Nat.zero_le _)]
 norm_cast
section
variable {P:Program} {d:Option Tmp} {r:KR} {K:Env→World→Prop} {ρ:Env} {w:World}
theorem bM9 {x:Operand} {n:Nat} (hx:ev ρ x=.int .u64 (n:Nat)) (k:aO P r K (put ρ d (.int .u8 ((UInt8.ofNat n).toNat:Nat))) w):aO P (.cons ⟨d,.conv .u8 x,none⟩ r) K ρ w:=
 dK rfl (by simp only [KOp.fix,hx];rw [aEf]) k
end
theorem bPu (l:List UInt8):aFv l 0=l++ [128]:=by unfold aFv;simp
theorem bMh {l:ByteArray} {i:Nat} (h:i<l.size):l.data.toList.take (i+1)=l.data.toList.take i++ [l[i]]:=by
 have hl:i<l.data.toList.length:=by rw [Array.length_toList];exact h
 rw [List.take_succ_eq_append_getElem hl];rfl
theorem bPx {m n k:Nat} (e:m=n+1+k) (h:((m%64:Nat):Int)=56) (hk:k≤qH n):k=qH n:=bLd (by omega) hk
theorem bH4 (s:ByteArray) (hs:s.size≤4000000) (w:World):K.Spec Tryz.prog F.kedgeref04_pad [.string s] w fun r w'=>SlE u8E w' r (wW s.data.toList)∧Ext w w'∧∀b∈aP r,w.heap.size≤b:=by
 have hl:s.data.toList.length=s.size:=by rw [Array.length_toList];rfl
 have hpl:∀k,(aFv s.data.toList k).length=s.size+1+k:=fun k=>by rw [aXa,hl]
 have hpn:qH s.size<64:=by unfold qH;omega
 have hrl:∀c,((leL (s.size*8) 8).reverse.take c).length≤8:=fun c=>by rw [List.length_take,List.length_reverse,cY];omega
 refine aKe rfl ?_
 unfold xV
 refine oy ?_
 repeat' (first|refine aJ (.int .u64 ((s.size*8:Nat):Int)) rfl (congrArg (fun x=>some (Value.int .u64 x)) (bMs hs)) ?_|refine aJ (.int .u64 ((8*(7 - c):Nat):Int)) rfl (congrArg (fun x=>some (Value.int .u64 x)) (bPm (by omega))) ?_|refine dS rfl rfl (bP7 (s.size*8) c (by omega)) ?_|refine bM9 rfl ?_|refine sX (n:=(aFv s.data.toList k).length) (m:=64) rfl rfl (by decide) ?_|refine go1 ?_|refine zg λ_ _=>?_|refine zi λ_ _=>?_|refine zL rfl (fun h=>?_) (fun h=>?_)|refine zN rfl (fun h=>?_) (fun h=>?_)|(refine aQ (fun (p:Nat × Value) w'=>Ext w w'∧p.1≤s.size∧Own u8E T.uint8 w.heap.size w' p.2 (s.data.toList.take p.1)) (fun p=> [(0,.string s),(3,p.2),(4,.int .i64 p.1)]) (fun p=>s.size - p.1) (0,.slice none 0 0) ⟨rfl,rfl,rfl,trivial⟩ ⟨Ext.refl _,by simp,Own.nil _ _ _⟩ ?_;rintro ⟨i,vo⟩ ρ w1 ⟨x1,hi,ho⟩;simp only at hi ho;dsimp only)|(refine aQ (fun (p:Nat × Value) w'=>Ext w w'∧p.1≤qH s.size∧Own u8E T.uint8 w.heap.size w' p.2 (aFv s.data.toList p.1)) (fun p=> [(0,.string s),(3,p.2)]) (fun p=>qH s.size - p.1) (0,_) ⟨rfl,rfl,trivial⟩ ⟨x5,by simp,by rw [bPu];exact ho5⟩ ?_;rintro ⟨k,vk⟩ ρ6 w6 ⟨x6,hk,hok⟩;simp only at hk hok;dsimp only)|(have hpk:k=qH s.size:=(bPx (hpl k) (by assumption) hk);refine aQ (fun (p:Nat × Value) w'=>Ext w w'∧p.1≤8∧Own u8E T.uint8 w.heap.size w' p.2 (aFv s.data.toList (qH s.size)++(leL (s.size*8) 8).reverse.take p.1)) (fun p=> [(3,p.2),(5,.int .u64 ((s.size*8:Nat):Int)),(6,.int .i64 ((7:Int) - p.1))]) (fun p=>8 - p.1) (0,vk) ⟨rfl,rfl,rfl,trivial⟩ ⟨x6,by simp,by rw [List.take_zero,List.append_nil,←hpk];exact hok⟩ ?_;rintro ⟨c,vc⟩ ρ8 w8 ⟨x8,hc,hoc⟩;simp only at hc hoc;dsimp only)|(refine iY rfl rfl (n:=i) (by omega) ?_;have hil:i<s.size:=(by omega))|refine zI rfl (fun b w2 x2 a2 hb=>?_)|refine cK (E:=u8E) (v:=vo) (l2:= [s[i]]) rfl (ho.ext x2) (nTr x1.size x2.size) rfl rfl (eS a2 rfl) rfl rfl (by simp;omega) (fun v3 w3 ho3 c3=>?_)|(refine cK (E:=u8E) (v:=vo) (l2:= [128]) rfl (ho.ext x2) (nTr x1.size x2.size) rfl rfl (eS a2 rfl) rfl rfl (by simp;omega) (fun v5 w5 ho5 c5=>?_);have x5:Ext w w5:=((x1.trans x2).chg c5).mono (fun b hb=>.inr (ho.base b (by simpa using hb)));rw [tLe (by rw [hl];omega)] at ho5)|refine cK (E:=u8E) (v:=vk) (l2:= [0]) rfl (hok.ext x2) (nTr x6.size x2.size) rfl rfl (eS a2 rfl) rfl rfl (by rw [hpl];simp;omega) (fun v7 w7 ho7 c7=>?_)|refine cK (E:=u8E) (v:=vc) (l2:= [UInt8.ofNat (s.size*8 / 256^(7 - c))]) rfl (hoc.ext x2) (nTr x8.size x2.size) rfl rfl (eS a2 rfl) rfl rfl (by have:=hpl (qH s.size);have:=hrl c;rw [List.length_append];simp only [List.length_cons,List.length_nil];omega) (fun v9 w9 ho9 c9=>?_)|refine bY rfl hok.sl ?_)
 ·exact ⟨(i+1,v3),⟨rfl,rfl,rfl,trivial⟩,⟨((x1.trans x2).chg c3).mono (fun b hb=>.inr (ho.base b (by simpa using hb))),by simp;omega,by rw [bMh hil];exact ho3⟩,by simp;omega⟩
 ·have hlt:k<qH s.size:=bLs (by rw [←hpl k];omega) hk
  exact ⟨(k+1,v7),⟨rfl,rfl,trivial⟩,⟨((x6.trans x2).chg c7).mono (fun b hb=>.inr (hok.base b (by simpa using hb))),by simp;omega,by rw [bE9];exact ho7⟩,by simp;omega⟩
 ·exact ⟨(c+1,v9),⟨rfl,rfl,congrArg (Value.int .i64) (by simp;omega),trivial⟩,⟨((x8.trans x2).chg c9).mono (fun b hb=>.inr (hoc.base b (by simpa using hb))),by simp;omega,by rw [bI9 (by omega),←List.append_assoc];exact ho9⟩,by simp;omega⟩
 ·obtain rfl:c=8:=by omega
  exact aC rfl ⟨by rw [bKq,hl];exact hoc.sl,x8,hoc.base⟩
end
section
open Go Go.K
attribute [local irreducible] aO aU bQ KOp.wp K.Spec u32
theorem aZy (s:S8) (k x:W32) (w:World):K.Spec Tryz.prog F.sha_round [.agg s.cs.toArray,u32 k,u32 x] w fun r w'=>r=.agg (rnd s k x).cs.toArray∧Ext w w':=by
 refine aWv rfl ?_
 unfold aL2
 refine oy ?_
 repeat' (first|(first|refine aD0 rfl rfl ?_|refine aEk rfl rfl ?_|refine aEm rfl rfl ?_|refine aKi rfl rfl ?_|refine aDs rfl ?_|refine yS rfl ?_)|(first|refine zF (fI _ .i64 6 (by decide) (by decide)) ?_)|(first|refine zF (fI _ .i64 11 (by decide) (by decide)) ?_)|(first|refine zF (fI _ .i64 25 (by decide) (by decide)) ?_)|(first|refine zF (fI _ .i64 2 (by decide) (by decide)) ?_)|(first|refine zF (fI _ .i64 13 (by decide) (by decide)) ?_)|(first|refine zF (fI _ .i64 22 (by decide) (by decide)) ?_)|refine go1 ?_|refine zg λ_ _=>?_|refine zi λ_ _=>?_|(first|refine zD rfl rfl (fun bp wp xp ap rp hp0=>?_)|refine zE (fun _=>rfl) rfl rfl rfl (fun bq wq xq aq rq hq0=>?_))|refine zB ?_ ?_|refine zH (fun b w1 x1 a1 hb=>?_)|refine bL (bPf (s:=rnd s k x) rfl rfl rfl rfl rfl rfl rfl rfl) ?_|refine bP (w0:=w) (vs:=(rnd s k x).cs) (by exact fx) (nTr (by exact fx) hb) (by focus (repeat (first|assumption|(apply At.ext;assumption)))) rfl rfl rfl rfl (bAx _) (fun w5 x5 c5 a5 r5=>?_))
 exact aC (aRf (cL r5 rfl rfl)) ⟨rfl,x5⟩
end
section
open Go Go.K
attribute [local irreducible] aO aU bQ KOp.wp K.Spec u32 leS vnS str aV eC iU wCs nX nH mF gS wAt
theorem bPc {B:List W32} {i:Nat} {bs:List UInt8} {w:World} {b:Nat} {T:TypeId} {f:Nat × Nat} (h:i<64) (ha:At w b (.cells (wCs (nH B i)).toArray T f)):At w b (.cells (wCs (nX B i (gS bs 0))).toArray T f):=by
 rw [aDy h] at ha
 have e:gS bs 0=0:=by unfold gS;rfl
 rw [e];exact ha
set_option maxHeartbeats 4000000 in
theorem aZ0 (s:ByteArray) (hs:64≤s.size) (hm:s.size≤100000000) (w:World):K.Spec Tryz.prog F.sha_schedule [.string s] w fun r w'=>r=.agg (wCs (iU (mF s.data.toList) 64)).toArray∧Ext w w':=by
 refine aO2 rfl ?_
 unfold aB2
 refine oy ?_
 repeat (first|refine go ?_|refine zg λ_ _=>?_|refine zi λ_ _=>?_)
 refine zH (fun b2 w1 x1 a2 hb2=>?_)
 repeat (first|refine go ?_|refine zg λ_ _=>?_|refine zi λ_ _=>?_)
 refine zH (fun b3 w2 x2 a3 hb3=>?_)
 have a3:At w2 b3 (.cells (wCs (nH (mF s.data.toList) 0)).toArray T.n_64_uint32 (0,0)):=by
  rw [aDy (by decide),aS4,←bO5];exact a3
 have a2:At w1 b2 (.cells (List.replicate 64 (Value.int .u32 0)).toArray T.n_64_uint32 (0,0)):=a2
 have hb23:∀i,i<16→(s.extract (4*i) (4*i+4)).data.toList.length=4:=fun i hi=>by
  rw [aQc,List.length_take,List.length_drop,Array.length_toList]
  have:s.data.size=s.size:=rfl
  omega
 repeat' (first|(first|refine aD0 rfl rfl ?_|refine aEk rfl rfl ?_|refine aEm rfl rfl ?_|refine aKi rfl rfl ?_|refine aDs rfl ?_|refine yS rfl ?_)|(first|refine zF (fI _ .i64 7 (by decide) (by decide)) ?_)|(first|refine zF (fI _ .i64 18 (by decide) (by decide)) ?_)|(first|refine zF (fI _ .i64 17 (by decide) (by decide)) ?_)|(first|refine zF (fI _ .i64 19 (by decide) (by decide)) ?_)|refine aAs 3 (by decide) rfl rfl ?_|refine aAs 10 (by decide) rfl rfl ?_|refine bL4 8 (by decide) rfl rfl ?_|refine fT (i - 15) rfl (congrArg (Value.int .i64) (by omega)) (by omega) ?_|refine fT (i - 2) rfl (congrArg (Value.int .i64) (by omega)) (by omega) ?_|refine fT (i - 16) rfl (congrArg (Value.int .i64) (by omega)) (by omega) ?_|refine fT (i - 7) rfl (congrArg (Value.int .i64) (by omega)) (by omega) ?_|refine fT i rfl rfl (by omega) ?_|refine rI rfl rfl (by omega) ?_|refine pY _ rfl (Row.of_at (t:=T.n_64_uint32) (f:=(0,0)) (by focus (repeat (first|assumption|(apply At.ext;assumption))))) (by first|(rw [iT (by omega)];omega)|(rw [aC4 (by omega)];omega)) ?_|refine go1 ?_|refine zg λ_ _=>?_|refine zi λ_ _=>?_|refine zL rfl (fun h=>?_) (fun h=>?_)|(refine aQ (fun (i:Nat) w'=>Ext w1 w'∧i≤64∧At w' b3 (.cells (wCs (nH (mF s.data.toList) i)).toArray T.n_64_uint32 (0,0))) (fun i=> [(0,.string s),(2,.pointer (some ⟨b2,0,none⟩)),(3,.pointer (some ⟨b3,0,none⟩)),(9,.int .i64 i)]) (fun i=>64 - i) 0 ⟨rfl,rfl,rfl,rfl,trivial⟩ ⟨by exact fx,by omega,a3⟩ ?_;rintro i ρ w3 ⟨x3,hi,ha⟩)|refine rI rfl rfl (by omega) ?_|refine bDl (lo:=4*i) (hi:=4*i+4) rfl (congrArg (Value.int .i64) (by omega)) (congrArg (Value.int .i64) (by omega)) (by omega) (by omega) ?_|refine bAt rfl (fun v w4 x4 hv hb4=>?_)|refine bY rfl hv ?_|(have hi16:i<16:=(by omega);have hbl:=hb23 i hi16;refine aQ (fun (k:Nat) w'=>Ext w1 w'∧k≤4∧SlE u8E w' v (s.extract (4*i) (4*i+4)).data.toList∧At w' b3 (.cells (wCs (nX (mF s.data.toList) i (gS (s.extract (4*i) (4*i+4)).data.toList k))).toArray T.n_64_uint32 (0,0))) (fun k=> [(0,.string s),(2,.pointer (some ⟨b2,0,none⟩)),(3,.pointer (some ⟨b3,0,none⟩)),(4,.int .i64 i),(9,.int .i64 i),(21,v),(22,.int .i64 ((s.extract (4*i) (4*i+4)).data.toList.length:Nat)),(23,.int .i64 k)]) (fun k=>4 - k) 0 ⟨rfl,rfl,rfl,rfl,rfl,rfl,rfl,rfl,trivial⟩ ⟨by exact fx,by omega,by exact fx,bPc (by omega) (by focus (repeat (first|assumption|(apply At.ext;assumption))))⟩ ?_;rintro k ρ4 w6 ⟨x6,hk,hv6,ha6⟩)|(refine aT rfl rfl hv6 rfl (by omega) (fun ad r7=>?_);have hkl:k<4:=(by omega))|refine cN rfl rfl (aAm _) (by focus (repeat (first|assumption|(apply At.ext;assumption)))) (by rw [cV];first|(rw [iT (by omega)];omega)|(rw [aC4 (by omega)];omega)) (fun w8 c8 a8=>?_)|(have e:i=64:=(by omega);subst e;refine mD (n:=64) rfl (Row.of_at ha) (by rw [cV,iT (by omega)];exact Nat.le_refl _) (tLe (by rw [cV,iT (by omega)];exact Nat.le_refl _)) ?_)|refine bP (w0:=w) (vs:=wCs (nH (mF s.data.toList) 64)) (by exact fx) hb2 (a2.ext x3) rfl rfl (by rw [cV,iT (by omega)]) (by rw [List.length_replicate]) (lV _) (fun w9 x9 c9 a9 r9=>?_))
 ·refine ⟨k+1,⟨rfl,rfl,rfl,rfl,rfl,rfl,rfl,rfl,trivial⟩,⟨(x6.chg c8).mono (by intro y hy;simp at hy;right;omega),by omega,SlE.chg c8 hv6 (fun a m c e hm=>?_),?_⟩,by omega⟩
  ·have h1:=hb4 a.block (by rw [e];simp [aP])
   have h2:=ha.lt
   simp at hm;omega
  ·rw [←bFo (by omega)]
   exact a8
 ·obtain rfl:k=4:=by omega
  rw [bEj hi16] at ha6
  exact ⟨i+1,⟨rfl,rfl,rfl,rfl,trivial⟩,⟨x6,by omega,ha6⟩,by omega⟩
 ·have x7:Ext w1 w8:=(Ext.chg (w:=w1) (by exact fx) c8).mono (by intro y hy;simp at hy;right;omega)
  refine ⟨i+1,⟨rfl,rfl,rfl,rfl,trivial⟩,⟨x7,by omega,?_⟩,by omega⟩
  rw [←aYr (by omega) (by omega)]
  exact a8
 ·exact aC (aRf (cL r9 rfl (by rw [cV,iT (by omega)]))) ⟨by rw [bC5],x9⟩
end
section
open Go Go.K
attribute [local irreducible] aO aU bQ KOp.wp K.Spec u32 leS vnS str aV iU wCs nX nH mF gS wAt pK jX eK wW addN aV1 eC
theorem bAi (w:World):K.Spec Tryz.prog F.sha_begin [] w fun r w'=>r=.agg (wCs aCg.l).toArray∧Ext w w':=by
 refine aYx rfl ?_
 unfold aLo
 refine oy ?_
 repeat' (first|refine bL (cs:=aCg.cs) (by kernel_rfl) ?_|refine go1 ?_|refine zg λ_ _=>?_|refine zi λ_ _=>?_|refine zH (fun b w1 x1 a1 hb=>?_)|refine bP (w0:=w) (vs:=aCg.cs) (by exact fx) (nTr (by exact fx) hb) (by focus (repeat (first|assumption|(apply At.ext;assumption)))) rfl rfl rfl rfl (bAx _) (fun w5 x5 c5 a5 r5=>?_))
 exact aC (aRf (cL r5 rfl rfl)) ⟨by rw [S8.cs_eq],x5⟩
theorem bD6 (w:World):K.Spec Tryz.prog F.sha_keys [] w fun r w'=>r=.agg (wCs pK).toArray∧Ext w w':=by
 refine bBf rfl ?_
 unfold aNy
 refine oy ?_
 repeat' (first|refine bL (cs:=wCs pK) (by kernel_rfl) ?_|refine go1 ?_|refine zg λ_ _=>?_|refine zi λ_ _=>?_|refine zH (fun b w1 x1 a1 hb=>?_)|refine bP (w0:=w) (vs:=wCs pK) (by exact fx) (nTr (by exact fx) hb) (by focus (repeat (first|assumption|(apply At.ext;assumption)))) rfl rfl (by kernel_rfl) (by kernel_rfl) (lV _) (fun w5 x5 c5 a5 r5=>?_))
 exact aC (aRf (cL r5 rfl (by kernel_rfl))) ⟨rfl,x5⟩
abbrev ZR (n:Nat):List Value:=List.replicate n (Value.int .u32 0)
theorem l8 (s:S8):s.l.length=8:=rfl
theorem bAq (x:W32) (w:World):K.Spec Tryz.prog F.sha_high [.int .u64 (x.toNat:Nat),.int .i64 4] w fun r w'=>r=.string (str (leL x.toNat 4).reverse)∧Ext w w':=aTh x.toNat 4 (by decide) w
theorem bMk (m:List UInt8):eK m 0=aCg:=by unfold eK;rfl
theorem bOd {m:List UInt8} {N n:Nat} (hN:m.length=64*N) (hn:n≤N):(str (m.drop (64*n))).size=64*(N - n):=by
 rw [gZ,List.length_drop];omega
theorem bJ4 {m:List UInt8} {N n:Nat} (hN:m.length=64*N) (hn:n≤N) (h:¬str (m.drop (64*n))=⟨#[]⟩):n<N:=by
 rcases Nat.lt_or_ge n N with h1|h1
 ·exact h1
 ·exact absurd (by rw [List.drop_eq_nil_of_le (by omega),bCq]) h
theorem aY6 (s:S8) (k x:W32) (w:World):K.Spec Tryz.prog F.sha_round [.agg (wCs s.l).toArray,u32 k,u32 x] w fun r w'=>r=.agg (wCs (rnd s k x).l).toArray∧Ext w w':=by
 rw [←S8.cs_eq,←S8.cs_eq];exact aZy s k x w
theorem bGx (W:List W32) (H:S8):jX W H 0=H:=by unfold jX;rfl
theorem bIx (W:List W32) (H:S8) (i:Nat):jX W H (i+1)=rnd (jX W H i) (wAt pK i) (wAt W i):=by conv=>lhs;unfold jX
theorem aYq:pK.length=64:=by unfold pK;rfl
theorem bIa (s t:S8):addN s.l t.l 0=s.l:=bFs s t
theorem bMl (m:List UInt8) (n:Nat):eK m (n+1)=aYg (eK m n) (jX (iU (mF (m.drop (64*n))) 64) (eK m n) 64):=by conv=>lhs;unfold eK;unfold aUb
section
variable {P:Program} {d:Option Tmp} {r:KR} {K:Env→World→Prop} {ρ:Env} {w:World}
theorem bAh {x l:Operand} {s:ByteArray} {kl:IntKind} {lo:Nat} (hx:ev ρ x=.string s) (hl:ev ρ l=.int kl (lo:Nat)) (h2:lo≤s.size) (k:aO P r K (put ρ d (.string (s.extract lo s.size))) w):aO P (.cons ⟨d,.sliceStr x (some l) none,none⟩ r) K ρ w:=
 dK rfl (by
  simp only [KOp.fix,hx,hl]
  rw [Option.bind_some,if_pos (by omega),Option.map_some,Int.toNat_natCast]) k
end
set_option maxHeartbeats 4000000 in
theorem aXn (s:ByteArray) (hs:s.size≤4000000) (w:World):K.Spec Tryz.prog F.sha_Sum [.string s] w fun r w'=>r=.string (aPh s)∧Ext w w':=by
 obtain ⟨N,hN⟩:∃N,(wW s.data.toList).length=64*N:=⟨_,aXc s⟩
 have hl:=bCr s
 generalize hm:wW s.data.toList=m at hN hl
 refine bFx rfl ?_
 unfold aSb
 refine oy ?_
 repeat' (first|refine go1 ?_|refine zg λ_ _=>?_|refine zi λ_ _=>?_|(refine zC rfl (bAi _) ?_;rintro _ w1 ⟨rfl,x1⟩)|(refine zC rfl (bD6 _) ?_;rintro _ w2 ⟨rfl,x2⟩)|(refine zH (fun b3 w3 x3 (a3:At w3 b3 (.cells (ZR 8).toArray T.n_8_uint32 (0,0))) hb3=>?_);have l3:=a3.lt)|(refine zH (fun b4 w4 x4 (a4:At w4 b4 (.cells (ZR 64).toArray T.n_64_uint32 (0,0))) hb4=>?_);have l4:=a4.lt)|(refine cQ (vs:=wCs aCg.l) rfl rfl (by rw [cV];rfl) (jO (lV _)) (cur:=ZR 8) (by focus (repeat (first|assumption|(apply At.ext;assumption)))) rfl (fun w5 c5 a5=>?_);have a6:=At.chg c5 a4 (by simp;omega))|(refine cQ (vs:=wCs pK) rfl rfl (by unfold wCs pK;rfl) (jO (lV _)) (cur:=ZR 64) a6 rfl (fun w6 c6 a7=>?_);have a8:=At.chg c6 a5 (by simp;omega);have x6:Ext w w6:=(Ext.chg (w:=w) (by exact fx) (c5.trans c6)).mono (by have:=x1.size;have:=x2.size;have:=x3.size;intro y hy;simp at hy;right;omega))|(refine zC rfl (aWc s hs _) ?_;rintro _ w7 ⟨rfl,x7⟩;rw [hm]))
 repeat' (first|(refine jA (b:=.cons ⟨none,.storeN 8 (t 6) (t 22),none⟩ .nil) (fun (p:Nat × Nat) w'=>Ext w8 w'∧w8.heap.size≤p.1∧w8.heap.size≤p.2∧p.1≠p.2∧At w' p.1 (.cells (wCs (iU (mF (m.drop (64*n))) 64)).toArray T.n_64_uint32 (0,0))∧At w' p.2 (.cells (ZR 8).toArray T.n_8_uint32 (0,0))) (fun p=> [(0,.string (str (m.drop (64*n)))),(2,.string ⟨#[]⟩),(3,.pointer (some ⟨b3,0,none⟩)),(4,.pointer (some ⟨b4,0,none⟩)),(5,.pointer (some ⟨p.1,0,none⟩)),(6,.pointer (some ⟨p.2,0,none⟩)),(22,.agg (wCs (eK m n).l).toArray)]) ?_ ?_)|(rintro ⟨b5,b6⟩ ρ2 w9 ⟨x9,(g5:w8.heap.size≤b5),(g6:w8.heap.size≤b6),(g56:b5≠b6),(d5:At w9 b5 (.cells (wCs (iU (mF (m.drop (64*n))) 64)).toArray T.n_64_uint32 (0,0))),(d6:At w9 b6 (.cells (ZR 8).toArray T.n_8_uint32 (0,0)))⟩;dsimp only)|refine go1 ?_|refine zg λ_ _=>?_|refine zi λ_ _=>?_|(refine aQ (fun (n:Nat) w'=>Ext w w'∧n≤N∧At w' b3 (.cells (wCs (eK m n).l).toArray T.n_8_uint32 (0,0))∧At w' b4 (.cells (wCs pK).toArray T.n_64_uint32 (0,0))) (fun n=> [(0,.string (str (m.drop (64*n)))),(2,.string ⟨#[]⟩),(3,.pointer (some ⟨b3,0,none⟩)),(4,.pointer (some ⟨b4,0,none⟩))]) (fun n=>N - n) 0 ⟨rfl,rfl,rfl,rfl,trivial⟩ ⟨by exact fx,by omega,by rw [bMk];focus (repeat (first|assumption|(apply At.ext;assumption))),by focus (repeat (first|assumption|(apply At.ext;assumption)))⟩ ?_;rintro n ρ w8 ⟨x8,hn,h3,h4⟩;have hsz:=bOd hN hn)|refine zN rfl (fun h=>?_) (fun h=>?_)|refine zB ?_ ?_|(refine zC rfl (aZ0 _ (by rw [hsz];have:=bJ4 hN hn h;omega) (by omega) _) ?_;rintro _ w9 ⟨rfl,x9⟩;have s9:=x9.size)|(refine mD (n:=8) (l:=wCs (eK m n).l) rfl (Row.of_at (t:=T.n_8_uint32) (f:=(0,0)) (by first|(focus (repeat (first|assumption|(apply At.ext;assumption)));done)|exact h3.ext z10)) (by rw [cV];exact Nat.le_refl _) (by rw [tLe];rw [cV];exact Nat.le_refl _) ?_)|(refine zH (fun b6 w6 y6 (d6:At w6 b6 (.cells (ZR 8).toArray T.n_8_uint32 (0,0))) hb6=>?_);have s6:=y6.size;have l6:=d6.lt;have g6:w8.heap.size≤b6:=nTr (Ext.size (by exact fx)) hb6)|(refine zH (fun b5 w5 y5 (d5:At w5 b5 (.cells (ZR 64).toArray T.n_64_uint32 (0,0))) hb5=>?_);have s5:=y5.size;have l5:=d5.lt;have g5:w8.heap.size≤b5:=nTr (Ext.size (by exact fx)) hb5)|(refine cQ (vs:=wCs (iU (mF (m.drop (64*n))) 64)) rfl (congrArg (fun l:List UInt8=>Value.agg (wCs (iU (mF l) 64)).toArray) (aXo _)) (by rw [cV,gU]) (jO (lV _)) (cur:=ZR 64) (by focus (repeat (first|assumption|(apply At.ext;assumption)))) rfl (fun w10 c10 d10=>?_);have z10:Ext w8 w10:=(Ext.chg (w:=w8) (by exact fx) c10).mono (by intro y hy;simp at hy;right;omega)))
 all_goals first
  |(exact ⟨(b5,b6),⟨rfl,rfl,rfl,rfl,rfl,rfl,rfl,trivial⟩,by exact fx,by omega,by omega,by show b5≠b6;omega,by focus (repeat (first|assumption|(apply At.ext;assumption))),by first|(focus (repeat (first|assumption|(apply At.ext;assumption)));done)|exact At.chg c10 (by focus (repeat (first|assumption|(apply At.ext;assumption)))) (by simp;omega)⟩)
  |skip
 ·generalize hW:iU (mF (m.drop (64*n))) 64=W at*
  have lW:W.length=64:=by rw [←hW,gU]
  refine cQ (vs:=wCs (eK m n).l) rfl rfl (by rw [cV];rfl) (jO (lV _)) (cur:=ZR 8) d6 rfl (fun w10 c10 d10=>?_)
  have e5:=At.chg c10 d5 (by simp;omega)
  have z10:Ext w8 w10:=(Ext.chg x9 c10).mono (by intro y hy;simp at hy;right;omega)
  repeat' (first|refine go1 ?_|refine zg λ_ _=>?_|refine zi λ_ _=>?_|refine zL rfl (fun h=>?_) (fun h=>?_)|(refine aQ (fun (i:Nat) w'=>Ext w8 w'∧i≤64∧At w' b5 (.cells (wCs W).toArray T.n_64_uint32 (0,0))∧At w' b6 (.cells (wCs (jX W (eK m n) i).l).toArray T.n_8_uint32 (0,0))) (fun i=> [(0,.string (str (m.drop (64*n)))),(2,.string ⟨#[]⟩),(3,.pointer (some ⟨b3,0,none⟩)),(4,.pointer (some ⟨b4,0,none⟩)),(5,.pointer (some ⟨b5,0,none⟩)),(6,.pointer (some ⟨b6,0,none⟩)),(23,.int .i64 i)]) (fun i=>64 - i) 0 ⟨rfl,rfl,rfl,rfl,rfl,rfl,rfl,trivial⟩ ⟨z10,by omega,e5,by rw [bGx];exact d10⟩ ?_;rintro i ρ3 w11 ⟨x11,hi,q5,q6⟩)|(refine aQ (fun (j:Nat) w'=>Ext w w'∧j≤8∧At w' b4 (.cells (wCs pK).toArray T.n_64_uint32 (0,0))∧At w' b3 (.cells (wCs (addN (eK m n).l (jX W (eK m n) 64).l j)).toArray T.n_8_uint32 (0,0))∧At w' b6 (.cells (wCs (jX W (eK m n) 64).l).toArray T.n_8_uint32 (0,0))) (fun j=> [(0,.string (str (m.drop (64*n)))),(2,.string ⟨#[]⟩),(3,.pointer (some ⟨b3,0,none⟩)),(4,.pointer (some ⟨b4,0,none⟩)),(6,.pointer (some ⟨b6,0,none⟩)),(35,.int .i64 j)]) (fun j=>8 - j) 0 ⟨rfl,rfl,rfl,rfl,rfl,rfl,trivial⟩ ⟨x8.trans x11,by omega,h4.ext x11,by rw [bIa];exact h3.ext x11,by rw [show 64=i by omega];exact q6⟩ ?_;rintro j ρ4 w12 ⟨x12,hj,q4,q3,q7⟩)|refine fT i rfl rfl (by omega) ?_|refine fT j rfl rfl (by omega) ?_|refine pY (l:=W) (ad:=⟨b5,0,none⟩) i rfl (Row.of_at (t:=T.n_64_uint32) (f:=(0,0)) (by focus (repeat (first|assumption|(apply At.ext;assumption))))) (by omega) ?_|refine pY (l:=pK) (ad:=⟨b4,0,none⟩) i rfl (Row.of_at (t:=T.n_64_uint32) (f:=(0,0)) (by focus (repeat (first|assumption|(apply At.ext;assumption))))) (by rw [aYq];omega) ?_|refine pY (l:=addN (eK m n).l (jX W (eK m n) 64).l j) (ad:=⟨b3,0,none⟩) j rfl (Row.of_at (t:=T.n_8_uint32) (f:=(0,0)) (by focus (repeat (first|assumption|(apply At.ext;assumption))))) (by rw [vG];omega) ?_|refine pY (l:=(jX W (eK m n) 64).l) (ad:=⟨b6,0,none⟩) j rfl (Row.of_at (t:=T.n_8_uint32) (f:=(0,0)) (by focus (repeat (first|assumption|(apply At.ext;assumption))))) (by rw [l8];omega) ?_|refine mD (n:=8) (l:=wCs (jX W (eK m n) i).l) rfl (Row.of_at (t:=T.n_8_uint32) (f:=(0,0)) (by focus (repeat (first|assumption|(apply At.ext;assumption))))) (by rw [cV];exact Nat.le_refl _) (by rw [tLe];rw [cV];exact Nat.le_refl _) ?_|(refine zC rfl (aY6 (jX W (eK m n) i) (wAt pK i) (wAt W i) _) ?_;rintro _ w13 ⟨rfl,x13⟩)|(first|refine aD0 rfl rfl ?_|refine aEk rfl rfl ?_|refine aEm rfl rfl ?_|refine aKi rfl rfl ?_|refine aDs rfl ?_|refine yS rfl ?_)|refine cQ (vs:=wCs (rnd (jX W (eK m n) i) (wAt pK i) (wAt W i)).l) rfl rfl (by rw [cV];rfl) (jO (lV _)) (cur:=wCs (jX W (eK m n) i).l) (by focus (repeat (first|assumption|(apply At.ext;assumption)))) (by rw [cV];rfl) (fun w14 c14 d14=>?_)|refine cN rfl rfl (aAm _) (by focus (repeat (first|assumption|(apply At.ext;assumption)))) (by rw [cV,vG];omega) (fun w15 c15 d15=>?_)|refine bAh (lo:=64) rfl rfl (by rw [hsz];have:=bJ4 hN hn (by assumption);omega) ?_)
  ·exact ⟨i+1,⟨rfl,rfl,rfl,rfl,rfl,rfl,rfl,trivial⟩,⟨(Ext.chg (w:=w8) (by exact fx) c14).mono (by intro y hy;simp at hy;right;omega),by omega,At.chg c14 (by focus (repeat (first|assumption|(apply At.ext;assumption)))) (by simp;omega),by rw [bIx];exact d14⟩,by omega⟩
  ·have hl3:=h3.lt
   have z1:=x1.size
   have z2:=x2.size
   exact ⟨j+1,⟨rfl,rfl,rfl,rfl,rfl,rfl,trivial⟩,⟨(Ext.chg (w:=w) (by exact fx) c15).mono (by intro y hy;simp at hy;right;omega),by omega,At.chg c15 (by focus (repeat (first|assumption|(apply At.ext;assumption)))) (by simp;omega),by rw [←aVv (by omega)];exact d15,At.chg c15 (by focus (repeat (first|assumption|(apply At.ext;assumption)))) (by simp;omega)⟩,by omega⟩
  ·have hlt:=bJ4 hN hn (by assumption)
   have ej:j=8:=by omega
   subst ej
   exact ⟨n+1,⟨congrArg Value.string (by rw [bHp,aXo,List.drop_drop];rfl),rfl,rfl,rfl,trivial⟩,⟨by exact fx,by omega,by rw [bMl,hW,←aO3];exact q3,q4⟩,by omega⟩
 ·have hn0:n=N:=by
   rcases Nat.lt_or_ge n N with h1|h1
   ·rw [h] at hsz
    have h0:(⟨#[]⟩:ByteArray).size=0:=rfl
    omega
   ·omega
  subst hn0
  have hout:∀j,(eC (fun x:W32=>str (leL x.toNat 4).reverse) ((eK m n).l.take j)).size≤32:=fun j=>by
   have h1:=pW (fun x:W32=>str (leL x.toNat 4).reverse) 4 ((eK m n).l.take j) fun x _=>by rw [gZ,List.length_reverse,cY];exact Nat.le_refl _
   have h2:((eK m n).l.take j).length≤8:=by rw [List.length_take,l8];omega
   omega
  repeat' (first|refine go1 ?_|refine zg λ_ _=>?_|refine zi λ_ _=>?_|refine zL rfl (fun h=>?_) (fun h=>?_)|(refine zH (fun b w9 x9 a9 hb9=>?_);have hW:uL b b ⟨#[]⟩ w9:=(Bld.new (Nat.le_refl _) a9))|refine mD (n:=8) (l:=wCs (eK m n).l) rfl (Row.of_at (t:=T.n_8_uint32) (f:=(0,0)) (h3.ext x9)) (by rw [cV];exact Nat.le_refl _) (by rw [tLe];rw [cV];exact Nat.le_refl _) ?_|(refine aQ (fun (j:Nat) w'=>Ext w8 w'∧j≤8∧uL b b (eC (fun x:W32=>str (leL x.toNat 4).reverse) ((eK m n).l.take j)) w') (fun j=> [(9,.pointer (some ⟨b,0,none⟩)),(47,.agg (wCs (eK m n).l).toArray),(48,.int .i64 j)]) (fun j=>8 - j) 0 ⟨rfl,rfl,rfl,trivial⟩ ⟨by exact fx,by omega,by rw [List.take_zero,tS];exact hW⟩ ?_;rintro j ρ4 w10 ⟨x10,hj,hB⟩;have hz:=hout j)|refine bLy (l:=(eK m n).l) rfl rfl (by omega) (l8 _) ?_|refine bHk rfl ?_|(refine zC rfl (bAq (wAt (eK m n).l j) _) ?_;rintro _ w11 ⟨rfl,x11⟩)|(refine zC rfl (aTp (str (leL (wAt (eK m n).l j).toNat 4).reverse) _ (hB.ext x11) (by rw [gZ,List.length_reverse,cY];omega)) ?_;rintro _ w12 ⟨hB2,hW2⟩)|(refine zC rfl (aKd _ hB) ?_;rintro _ w13 ⟨rfl,hB3,hW3⟩))
  ·refine ⟨j+1,⟨rfl,rfl,rfl,trivial⟩,⟨hW2.ext (x10.trans x11) hb9,by omega,?_⟩,by omega⟩
   have hjl:j<(eK m n).l.length:=by rw [l8];omega
   rw [iM _ hjl]
   have e:wAt (eK m n).l j=(eK m n).l[j]:=by unfold wAt;rw [List.getD_eq_getElem?_getD,List.getElem?_eq_getElem hjl];rfl
   rw [←e];exact hB2
  ·refine aC rfl ⟨congrArg Value.string ?_,x8.trans (hW3.ext x10 hb9)⟩
   rw [tLe (by rw [l8];omega),aPh,hm,hN,Nat.mul_div_cancel_left _ (by decide),aV1]
theorem bB5 (s:ByteArray) (hs:s.size≤4000000) (w:World):K.Spec Tryz.prog F.sha_Twice [.string s] w fun r w'=>r=.string (cU s)∧Ext w w':=by
 refine aYp rfl ?_
 unfold aMz
 refine oy ?_
 repeat' (first|refine go1 ?_|refine zg λ_ _=>?_|refine zi λ_ _=>?_|(refine zC rfl (aXn s hs _) ?_;rintro _ w1 ⟨rfl,x1⟩)|(refine zC rfl (aXn (aPh s) (by rw [aKs];decide) _) ?_;rintro _ w2 ⟨rfl,x2⟩))
 exact aC rfl ⟨by rw [cU];rfl,by exact fx⟩
end
section
open Go Go.K
attribute [local irreducible] aO aU bQ KOp.wp K.Spec u32 leS vnS str aV iU wCs nX nH mF gS pK jX eK wW aFv addN shN aV1 eC leL
theorem bLq (w:World):K.Spec Tryz.prog F.kedgeref04_k [] w fun r w'=>r=.agg (wCs pK).toArray∧Ext w w':=by
 refine aPz rfl ?_
 unfold aDi
 refine oy ?_
 repeat' (first|refine bL (cs:=wCs pK) (by kernel_rfl) ?_|refine go1 ?_|refine zg λ_ _=>?_|refine zi λ_ _=>?_|refine zH (fun b w1 x1 a1 hb=>?_)|refine bP (w0:=w) (vs:=wCs pK) (by exact fx) (nTr (by exact fx) hb) (by focus (repeat (first|assumption|(apply At.ext;assumption)))) rfl rfl (by kernel_rfl) (by kernel_rfl) (lV _) (fun w5 x5 c5 a5 r5=>?_))
 exact aC (aRf (cL r5 rfl (by kernel_rfl))) ⟨rfl,x5⟩
structure BlkI (w:World) (b2 b4 b5 b6:Nat) (H:S8) (X:List W32) (w':World):Prop where
 x:Ext w w'
 a2:At w' b2 (.cells (wCs H.l).toArray T.n_8_uint32 (0,0))
 a4:At w' b4 (.cells (ZR 8).toArray T.n_8_uint32 (0,0))
 a5:At w' b5 (.cells (wCs X).toArray T.n_64_uint32 (0,0))
 a6:At w' b6 (.cells (wCs pK).toArray T.n_64_uint32 (0,0))
section
variable {w w' w'':World} {b2 b4 b5 b6 b:Nat} {H:S8} {X Y:List W32}
theorem BlkI.e (c:Ext w' w'') (h:BlkI w b2 b4 b5 b6 H X w'):BlkI w b2 b4 b5 b6 H X w'':=⟨h.x.trans c,h.a2.ext c,h.a4.ext c,h.a5.ext c,h.a6.ext c⟩
theorem BlkI.c (h:BlkI w b2 b4 b5 b6 H X w') (c:Chg [b] w' w'') (h0:w.heap.size≤b) (h2:b2≠b) (h4:b4≠b) (h5:b5≠b) (h6:b6≠b):BlkI w b2 b4 b5 b6 H X w'':=
 ⟨(h.x.chg c).mono (by intro y hy;simp at hy;right;omega),At.chg c h.a2 (by simpa using h2),At.chg c h.a4 (by simpa using h4),At.chg c h.a5 (by simpa using h5),At.chg c h.a6 (by simpa using h6)⟩
theorem BlkI.s (h:BlkI w b2 b4 b5 b6 H X w') (c:Chg [b5] w' w'') (a:At w'' b5 (.cells (wCs Y).toArray T.n_64_uint32 (0,0))) (h0:w.heap.size≤b5) (h2:b2≠b5) (h4:b4≠b5) (h6:b6≠b5):BlkI w b2 b4 b5 b6 H Y w'':=
 ⟨(h.x.chg c).mono (by intro y hy;simp at hy;right;omega),At.chg c h.a2 (by simpa using h2),At.chg c h.a4 (by simpa using h4),a,At.chg c h.a6 (by simpa using h6)⟩
theorem BlkI.r2 (h:BlkI w b2 b4 b5 b6 H X w'):Row w' ⟨b2,0,none⟩ (wCs H.l):=Row.of_at h.a2
theorem BlkI.r5 (h:BlkI w b2 b4 b5 b6 H X w'):Row w' ⟨b5,0,none⟩ (wCs X):=Row.of_at h.a5
theorem BlkI.r6 (h:BlkI w b2 b4 b5 b6 H X w'):Row w' ⟨b6,0,none⟩ (wCs pK):=Row.of_at h.a6
end
theorem bKa (s:S8) (k x:W32):wAt s.l 7+(rot (wAt s.l 4) 6^^^rot (wAt s.l 4) 11^^^rot (wAt s.l 4) 25)+(wAt s.l 4&&& wAt s.l 5^^^ ~~~(wAt s.l 4)&&& wAt s.l 6)+k+x=bBg s k x:=rfl
theorem bKn (s:S8):(rot (wAt s.l 0) 2^^^rot (wAt s.l 0) 13^^^rot (wAt s.l 0) 22)+(wAt s.l 0&&& wAt s.l 1^^^wAt s.l 0&&& wAt s.l 2^^^wAt s.l 1&&& wAt s.l 2)=bJx s:=rfl
theorem bPp (B:List W32):List.replicate 64 (Value.int .u32 0)=wCs (nH B 0):=by
 rw [aDy (by decide),aS4,←bO5]
theorem bNg {X:S8} {c:Nat}:(wCs (shN X.l c)).length=8:=by rw [cV,aPg]
set_option maxHeartbeats 8000000 in
theorem bBk (H:S8) {v:Value} {l:List UInt8} (hl:l.length=64) (w:World) (hv:SlE u8E w v l):K.Spec Tryz.prog F.kedgeref04_block [.agg (wCs H.l).toArray,v] w fun r w'=>r=.agg (wCs (aUb H l).l).toArray∧Ext w w':=by
 refine aGr rfl ?_
 unfold tY
 refine oy ?_
 repeat (first|refine go ?_|refine zg λ_ _=>?_|refine zi λ_ _=>?_)
 refine zD rfl rfl (fun b2 w2 x2 a2 r2 hb2=>?_)
 repeat (first|refine go ?_|refine zg λ_ _=>?_|refine zi λ_ _=>?_)
 refine zH (fun b4 w4 x4 (a4:At w4 b4 (.cells (ZR 8).toArray T.n_8_uint32 (0,0))) hb4=>?_)
 repeat (first|refine go ?_|refine zg λ_ _=>?_|refine zi λ_ _=>?_)
 refine zH (fun b5 w5 x5 (a5:At w5 b5 (.cells (ZR 64).toArray T.n_64_uint32 (0,0))) hb5=>?_)
 rw [ZR,bPp (mF l)] at a5
 repeat (first|refine go ?_|refine zg λ_ _=>?_|refine zi λ_ _=>?_)
 refine zC rfl (bLq _) ?_
 rintro _ w6 ⟨rfl,x6⟩
 repeat (first|refine go ?_|refine zg λ_ _=>?_|refine zi λ_ _=>?_)
 refine zH (fun b6 w7 x7 (a6:At w7 b6 (.cells (ZR 64).toArray T.n_64_uint32 (0,0))) hb6=>?_)
 repeat (first|refine go ?_|refine zg λ_ _=>?_|refine zi λ_ _=>?_)
 have l2:=a2.lt
 have l4:=a4.lt
 have l5:=a5.lt
 have l6:=a6.lt
 have s6:=x6.size
 have h24:b2<b4:=by omega
 have h45:b4<b5:=by omega
 have h56:b5<b6:=by omega
 refine cQ (vs:=wCs pK) rfl rfl (by kernel_rfl) (jO (lV _)) a6 rfl (fun w8 c8 a8=>?_)
 have hI:BlkI w b2 b4 b5 b6 H (nH (mF l) 0) w8:=⟨(Ext.chg (w:=w) (by exact fx) c8).mono (by have:=x2.size;have:=x4.size;have:=x5.size;intro y hy;simp at hy;right;omega),At.chg c8 (by focus (repeat (first|assumption|(apply At.ext;assumption)))) (by simp;omega),At.chg c8 (by focus (repeat (first|assumption|(apply At.ext;assumption)))) (by simp;omega),At.chg c8 (by focus (repeat (first|assumption|(apply At.ext;assumption)))) (by simp;omega),a8⟩
 have g5:w.heap.size≤b5:=by have:=x2.size;have:=x4.size;omega
 clear x2 a2 r2 x4 a4 x5 a5 x6 x7 a6 c8 a8
 repeat' (first|(first|refine zF (fI _ .u64 7 (by decide) (by decide)) ?_)|(first|refine zF (fI _ .u64 18 (by decide) (by decide)) ?_)|(first|refine zF (fI _ .u64 17 (by decide) (by decide)) ?_)|(first|refine zF (fI _ .u64 19 (by decide) (by decide)) ?_)|refine aAs 3 (by decide) rfl rfl ?_|refine aAs 10 (by decide) rfl rfl ?_|refine rI rfl rfl (by omega) ?_|refine aUu (b:=BitVec.ofNat 32 16777216) rfl (by unfold u32;rfl) ?_|refine aUu (b:=BitVec.ofNat 32 65536) rfl (by unfold u32;rfl) ?_|refine aUu (b:=BitVec.ofNat 32 256) rfl (by unfold u32;rfl) ?_|(first|refine aD0 rfl rfl ?_|refine aEk rfl rfl ?_|refine aEm rfl rfl ?_|refine aKi rfl rfl ?_|refine aDs rfl ?_|refine yS rfl ?_)|refine fT (i - 15) rfl (congrArg (Value.int .i64) (by omega)) (by omega) ?_|refine fT (i - 2) rfl (congrArg (Value.int .i64) (by omega)) (by omega) ?_|refine fT (i - 16) rfl (congrArg (Value.int .i64) (by omega)) (by omega) ?_|refine fT (i - 7) rfl (congrArg (Value.int .i64) (by omega)) (by omega) ?_|refine fT i rfl rfl (by omega) ?_|refine pY (ad:=⟨b5,0,none⟩) (l:=nH (mF l) i) _ rfl (BlkI.r5 (BlkI.e (w':=w10) (by exact fx) hQ)) (by rw [iT (by omega)];omega) ?_|refine go1 ?_|refine zg λ_ _=>?_|refine zi λ_ _=>?_|refine zL rfl (fun h=>?_) (fun h=>?_)|refine aT (n:=4*i) (l:=l) rfl (congrArg (Value.int .i64) (by omega)) (SlE.ext (w:=w9) (by exact fx) hv2) rfl (by omega) (fun ad r7=>?_)|refine aT (n:=4*i+1) (l:=l) rfl (congrArg (Value.int .i64) (by omega)) (SlE.ext (w:=w9) (by exact fx) hv2) rfl (by omega) (fun ad r7=>?_)|refine aT (n:=4*i+2) (l:=l) rfl (congrArg (Value.int .i64) (by omega)) (SlE.ext (w:=w9) (by exact fx) hv2) rfl (by omega) (fun ad r7=>?_)|refine aT (n:=4*i+3) (l:=l) rfl (congrArg (Value.int .i64) (by omega)) (SlE.ext (w:=w9) (by exact fx) hv2) rfl (by omega) (fun ad r7=>?_)|(refine aQ (fun (i:Nat) w'=>BlkI w b2 b4 b5 b6 H (nH (mF l) i) w'∧i≤16) (fun i=> [(1,v),(2,.pointer (some ⟨b2,0,none⟩)),(4,.pointer (some ⟨b4,0,none⟩)),(5,.pointer (some ⟨b5,0,none⟩)),(6,.pointer (some ⟨b6,0,none⟩)),(7,.int .i64 i)]) (fun i=>16 - i) 0 ⟨rfl,rfl,rfl,rfl,rfl,rfl,trivial⟩ ⟨hI,by omega⟩ ?_;rintro i ρ w9 ⟨hJ,hi⟩;have hv2:=hv.ext hJ.x;have a5:=hJ.a5)|(refine aQ (fun (i:Nat) w'=>BlkI w b2 b4 b5 b6 H (nH (mF l) i) w'∧16≤i∧i≤64) (fun i=> [(2,.pointer (some ⟨b2,0,none⟩)),(4,.pointer (some ⟨b4,0,none⟩)),(5,.pointer (some ⟨b5,0,none⟩)),(6,.pointer (some ⟨b6,0,none⟩)),(8,.int .i64 i)]) (fun i=>64 - i) 16 ⟨rfl,rfl,rfl,rfl,rfl,trivial⟩ ⟨by rw [show 16=i by omega];exact hJ,by omega,by omega⟩ ?_;clear hJ hi hv2 a5 h;clear i;rintro i ρ9 w10 ⟨hQ,hi,hi2⟩;have a5:=hQ.a5)|refine cN rfl rfl (aAm _) (by focus (repeat (first|assumption|(apply At.ext;assumption)))) (by rw [cV,iT (by omega)];omega) (fun w11 c11 a11=>?_))
 ·refine ⟨i+1,⟨rfl,rfl,rfl,rfl,rfl,rfl,trivial⟩,⟨BlkI.s (BlkI.e (w':=w9) (by exact fx) hJ) c11 ?_ g5 (by omega) (by omega) (by omega),by omega⟩,by omega⟩
  rw [←bN0 (by omega),←bPd (by omega) hl]
  exact a11
 ·refine ⟨i+1,⟨rfl,rfl,rfl,rfl,rfl,trivial⟩,⟨BlkI.s (BlkI.e (w':=w10) (by exact fx) hQ) c11 ?_ g5 (by omega) (by omega) (by omega),by omega,by omega⟩,by omega⟩
  rw [←aYr (by omega) (by omega)]
  exact a11
 obtain rfl:i=64:=by omega
 clear a5
 rw [bC5] at hQ
 generalize hW:iU (mF l) 64=W at hQ
 have lW:W.length=64:=by rw [←hW,gU]
 refine mD (n:=8) (l:=wCs H.l) rfl hQ.r2 (by rw [cV];exact Nat.le_refl _) (tLe (by rw [cV];exact Nat.le_refl _)) ?_
 repeat (first|refine go ?_|refine zg λ_ _=>?_|refine zi λ_ _=>?_)
 refine zH (fun b13 w11 x11 (a13:At w11 b13 (.cells (ZR 8).toArray T.n_8_uint32 (0,0))) hb13=>?_)
 have l5':=hQ.a5.lt
 have l6':=hQ.a6.lt
 repeat (first|refine go ?_|refine zg λ_ _=>?_|refine zi λ_ _=>?_)
 refine cQ (vs:=wCs H.l) rfl rfl (by rw [cV];rfl) (jO (lV _)) (cur:=ZR 8) a13 rfl (fun w12 c12 a12=>?_)
 have hR:=BlkI.c (BlkI.e x11 hQ) c12 (by have:=hQ.x.size;omega) (by omega) (by omega) (by omega) (by omega)
 have g13:w.heap.size≤b13:=by have:=hQ.x.size;omega
 clear hQ x11 a13 c12
 repeat' (first|(first|refine zF (fI _ .u64 6 (by decide) (by decide)) ?_)|(first|refine zF (fI _ .u64 11 (by decide) (by decide)) ?_)|(first|refine zF (fI _ .u64 25 (by decide) (by decide)) ?_)|(first|refine zF (fI _ .u64 2 (by decide) (by decide)) ?_)|(first|refine zF (fI _ .u64 13 (by decide) (by decide)) ?_)|(first|refine zF (fI _ .u64 22 (by decide) (by decide)) ?_)|(first|refine aD0 rfl rfl ?_|refine aEk rfl rfl ?_|refine aEm rfl rfl ?_|refine aKi rfl rfl ?_|refine aDs rfl ?_|refine yS rfl ?_)|refine fT 0 rfl rfl (by decide) ?_|refine fT 1 rfl rfl (by decide) ?_|refine fT 2 rfl rfl (by decide) ?_|refine fT 4 rfl rfl (by decide) ?_|refine fT 5 rfl rfl (by decide) ?_|refine fT 6 rfl rfl (by decide) ?_|refine fT 7 rfl rfl (by decide) ?_|refine fT i rfl rfl (by omega) ?_|refine fT j rfl rfl (by omega) ?_|refine fT (6 - c) rfl (congrArg (Value.int .i64) (by omega)) (by omega) ?_|refine fT (7 - c) rfl (congrArg (Value.int .i64) (by omega)) (by omega) ?_|refine pY (ad:=⟨b6,0,none⟩) (l:=pK) _ rfl (BlkI.r6 (BlkI.e (w':=w13) (by exact fx) hS)) (by rw [aYq];omega) ?_|refine pY (ad:=⟨b5,0,none⟩) (l:=W) _ rfl (BlkI.r5 (BlkI.e (w':=w13) (by exact fx) hS)) (by rw [lW];omega) ?_|refine pY (ad:=⟨b2,0,none⟩) (l:=H.l) _ rfl (BlkI.r2 (BlkI.e (w':=w18) (by exact fx) hV)) (by rw [l8];omega) ?_|refine pY (ad:=⟨b13,0,none⟩) (l:=shN (jX W H i).l c) _ rfl (Row.of_at (t:=T.n_8_uint32) (f:=(0,0)) (by focus (repeat (first|assumption|(apply At.ext;assumption))))) (by rw [aPg];omega) ?_|refine pY (ad:=⟨b13,0,none⟩) (l:=addN (jX W H 64).l H.l j) _ rfl (Row.of_at (t:=T.n_8_uint32) (f:=(0,0)) (by focus (repeat (first|assumption|(apply At.ext;assumption))))) (by rw [vG];omega) ?_|refine pY (ad:=⟨b13,0,none⟩) (l:=(jX W H i).l) _ rfl (Row.of_at (t:=T.n_8_uint32) (f:=(0,0)) (by focus (repeat (first|assumption|(apply At.ext;assumption))))) (by rw [l8];omega) ?_|refine go1 ?_|refine zg λ_ _=>?_|refine zi λ_ _=>?_|refine zL rfl (fun h=>?_) (fun h=>?_)|(refine aQ (fun (i:Nat) w'=>BlkI w b2 b4 b5 b6 H W w'∧i≤64∧At w' b13 (.cells (wCs (jX W H i).l).toArray T.n_8_uint32 (0,0))) (fun i=> [(2,.pointer (some ⟨b2,0,none⟩)),(4,.pointer (some ⟨b4,0,none⟩)),(5,.pointer (some ⟨b5,0,none⟩)),(6,.pointer (some ⟨b6,0,none⟩)),(13,.pointer (some ⟨b13,0,none⟩)),(14,.int .i64 i)]) (fun i=>64 - i) 0 ⟨rfl,rfl,rfl,rfl,rfl,rfl,trivial⟩ ⟨hR,by omega,by rw [bGx];exact a12⟩ ?_;rintro i ρ13 w13 ⟨hS,hi,hx⟩)|(refine aQ (fun (c:Nat) w'=>BlkI w b2 b4 b5 b6 H W w'∧c≤7∧At w' b13 (.cells (wCs (shN (jX W H i).l c)).toArray T.n_8_uint32 (0,0))) (fun c=> [(2,.pointer (some ⟨b2,0,none⟩)),(4,.pointer (some ⟨b4,0,none⟩)),(5,.pointer (some ⟨b5,0,none⟩)),(6,.pointer (some ⟨b6,0,none⟩)),(13,.pointer (some ⟨b13,0,none⟩)),(14,.int .i64 i),(18,u32 (bBg (jX W H i) (wAt pK i) (wAt W i))),(19,u32 (bJx (jX W H i))),(20,.int .i64 ((7:Int) - c))]) (fun c=>7 - c) 0 ⟨rfl,rfl,rfl,rfl,rfl,rfl,congrArg u32 (bKa _ _ _),congrArg u32 (bKn _),rfl,trivial⟩ ⟨BlkI.e (w':=w13) (by exact fx) hS,by omega,by rw [show shN (jX W H i).l 0=(jX W H i).l from bI6 _];focus (repeat (first|assumption|(apply At.ext;assumption)))⟩ ?_;rintro c ρ14 w14 ⟨hT,hc,hy⟩)|(refine aQ (fun (j:Nat) w'=>BlkI w b2 b4 b5 b6 H W w'∧j≤8∧At w' b13 (.cells (wCs (addN (jX W H 64).l H.l j)).toArray T.n_8_uint32 (0,0))) (fun j=> [(2,.pointer (some ⟨b2,0,none⟩)),(4,.pointer (some ⟨b4,0,none⟩)),(13,.pointer (some ⟨b13,0,none⟩)),(21,.int .i64 j)]) (fun j=>8 - j) 0 ⟨rfl,rfl,rfl,rfl,trivial⟩ ⟨hS,by omega,by rw [bIa,show 64=i by omega];exact hx⟩ ?_;rintro j ρ18 w18 ⟨hV,hj,hz⟩))
 ·have hc7:c<7:=by omega
  refine cN rfl rfl (aAm _) hy (by rw [bNg];omega) (fun w15 c15 a15=>?_)
  repeat (first|refine go ?_|refine zg λ_ _=>?_|refine zi λ_ _=>?_)
  refine ⟨c+1,⟨rfl,rfl,rfl,rfl,rfl,rfl,rfl,rfl,congrArg (Value.int .i64) (by omega),trivial⟩,⟨BlkI.c hT c15 g13 (by omega) (by omega) (by omega) (by omega),by omega,?_⟩,by omega⟩
  rw [←bK9 (o:=7 - c) hc7 rfl]
  exact a15
 ·obtain rfl:c=7:=by omega
  refine cN (o:=4*1) rfl rfl (aAm _) hy (by rw [bNg];omega) (fun w15 c15 a15=>?_)
  repeat (first|refine go ?_|refine zg λ_ _=>?_|refine zi λ_ _=>?_)
  (first|refine aD0 rfl rfl ?_|refine aEk rfl rfl ?_|refine aEm rfl rfl ?_|refine aKi rfl rfl ?_|refine aDs rfl ?_|refine yS rfl ?_)
  repeat (first|refine go ?_|refine zg λ_ _=>?_|refine zi λ_ _=>?_)
  refine cN (o:=0*1) rfl rfl (aAm _) a15 (by rw [List.length_set,bNg];omega) (fun w16 c16 a16=>?_)
  repeat (first|refine go ?_|refine zg λ_ _=>?_|refine zi λ_ _=>?_)
  refine ⟨i+1,⟨rfl,rfl,rfl,rfl,rfl,rfl,trivial⟩,⟨BlkI.c (BlkI.c hT c15 g13 (by omega) (by omega) (by omega) (by omega)) c16 g13 (by omega) (by omega) (by omega) (by omega),by omega,?_⟩,by omega⟩
  have e:=bM0 (jX W H i) (bBg (jX W H i) (wAt pK i) (wAt W i)) (bJx (jX W H i))
  rw [bIx,bOu,←e,←aAf,←aAf]
  exact a16
 ·refine cN rfl rfl (aAm _) (At.ext (by assumption) hz) (by rw [cV,vG];omega) (fun w19 c19 a19=>?_)
  repeat (first|refine go ?_|refine zg λ_ _=>?_|refine zi λ_ _=>?_)
  refine ⟨j+1,⟨rfl,rfl,rfl,rfl,trivial⟩,⟨BlkI.c (BlkI.e (w':=w18) (by assumption) hV) c19 g13 (by omega) (by omega) (by omega) (by omega),by omega,?_⟩,by omega⟩
  rw [←aVv (by omega)]
  exact a19
 ·obtain rfl:j=8:=by omega
  rw [aO3] at hz
  refine mD (n:=8) (l:=wCs (aYg (jX W H 64) H).l) rfl (Row.of_at hz) (by rw [cV];exact Nat.le_refl _) (tLe (by rw [cV];exact Nat.le_refl _)) ?_
  refine bP (w0:=w) (vs:=wCs (aYg (jX W H 64) H).l) hV.x (by omega) hV.a4 rfl rfl (by rw [cV];rfl) rfl (lV _) (fun w20 x20 c20 a20 r20=>?_)
  repeat (first|refine go ?_|refine zg λ_ _=>?_|refine zi λ_ _=>?_)
  refine aC (aRf (cL r20 rfl (by rw [cV];rfl))) ⟨?_,x20⟩
  rw [aUb,hW,bEa]
end
end Go.Proofs.YtfebcajheojodaaGreatDoor
namespace Go.K
section
open Go
def idT (t:Tx):ByteArray:=cU (cD false t)
def lX (t:Tx):Nat:=3*(cD false t).size+(cD (aIb t) t).size
def aR (t:Tx):Nat:=(lX t+3) / 4
theorem aVx (t:Tx):(idT t).size=32:=by unfold idT cU;exact aKs _
theorem Tx.Sz.all {t:Tx} (h:t.Sz) (b:Bool):(cD b t).size≤3300000:=by
 have:=h.e4 b
 rw [cD,ByteArray.size_append,cR];omega
theorem Tx.Sz.weight {t:Tx} (h:t.Sz):lX t≤13200000:=by
 have:=h.all false;have:=h.all (aIb t)
 unfold lX;omega
theorem Tx.Sz.size {t:Tx} (h:t.Sz):aR t≤3300001:=by
 have:=h.weight
 unfold aR;omega
end
end Go.K
namespace Go.Proofs.YtfebcajheojodaaGreatDoor
section
open Go Go.K
attribute [local irreducible] aO aU bQ KOp.wp K.Spec u32 leS vnS str aV iU wCs nX nH mF gS pK jX eK wW aFv addN shN aV1 eC leL aPh cU cD
section
variable {P:Program} {d:Option Tmp} {r:KR} {K:Env→World→Prop} {ρ:Env} {w:World}
theorem aKu {x y:Operand} {n m:Nat} (hx:ev ρ x=.int .i64 (n:Nat)) (hy:ev ρ y=.int .i64 (m:Nat)) (h0:0<m) (hn:n<9223372036854775808) (k:aO P r K (put ρ d (.int .i64 ((n / m:Nat):Int))) w):aO P (.cons ⟨d,.bin .quo x y,none⟩ r) K ρ w:=
 dS hx hy (by
  have hne:(m:Int)≠0:=by omega
  simp only [cC,dX,Bool.false_eq_true,if_false,if_true,dL]
  rw [td,if_neg hne]
  have h1:n / m≤n:=Nat.div_le_self n m
  generalize n / m=q at h1 ⊢
  rw [IntWalk.i64_in _ (by omega)]) k
end
set_option maxHeartbeats 2000000 in
theorem aRp (s:ByteArray) (hs:s.size≤4000000) (w:World):K.Spec Tryz.prog F.kedgeref04_Sum [.string s] w fun r w'=>r=.string (aPh s)∧Ext w w':=by
 obtain ⟨N,hN⟩:∃N,(wW s.data.toList).length=64*N:=⟨_,aXc s⟩
 have hl:=bCr s
 generalize hm:wW s.data.toList=m at hN hl
 have hout:∀n j,(eC (fun x:W32=>str (leL x.toNat 4).reverse) ((eK m n).l.take j)).size≤32:=fun n j=>by
  have h1:=pW (fun x:W32=>str (leL x.toNat 4).reverse) 4 ((eK m n).l.take j) fun x _=>by rw [gZ,List.length_reverse,cY];exact Nat.le_refl _
  have h2:((eK m n).l.take j).length≤8:=by rw [List.length_take,l8];omega
  omega
 refine aKm rfl ?_
 unfold yG
 refine oy ?_
 repeat' (first|refine bL (cs:=aCg.cs) (by kernel_rfl) ?_|(refine pY (ad:=⟨b3,0,none⟩) (l:=(eK m n).l) j rfl (Row.of_at (t:=T.n_8_uint32) (f:=(0,0)) (by focus (repeat (first|assumption|(apply At.ext;assumption))))) (by rw [l8];omega) ?_;have hj8:j<8:=(by omega))|refine fT j rfl rfl (by omega) ?_|refine aAs 24 (by decide) rfl rfl ?_|refine aAs 16 (by decide) rfl rfl ?_|refine aAs 8 (by decide) rfl rfl ?_|refine bNz rfl ?_|refine go1 ?_|refine zg λ_ _=>?_|refine zi λ_ _=>?_|refine zL rfl (fun h=>?_) (fun h=>?_)|refine zH (fun b3 w1 x1 a1 hb3=>?_)|(refine cQ (vs:=aCg.cs) rfl rfl rfl (jO (bAx _)) (cur:=ZR 8) a1 rfl (fun w2 c2 a2=>?_);have x2:Ext w w2:=(Ext.chg x1 c2).mono (by intro y hy;simp at hy;right;omega);rw [S8.cs_eq] at a2)|(refine zC rfl (bH4 s hs _) ?_;rintro v w3 ⟨hv,x3,hvb⟩;rw [hm] at hv;have l3:=a2.lt)|refine bY rfl (SlE.ext (w:=w4) (by exact fx) hv4) ?_|(refine aQ (fun (n:Nat) w'=>Ext w w'∧SlE u8E w' v m∧n≤N∧At w' b3 (.cells (wCs (eK m n).l).toArray T.n_8_uint32 (0,0))) (fun n=> [(2,.string ⟨#[]⟩),(3,.pointer (some ⟨b3,0,none⟩)),(4,v),(5,.int .i64 ((64*n:Nat):Int))]) (fun n=>N - n) 0 ⟨rfl,rfl,rfl,rfl,trivial⟩ ⟨by exact fx,hv,by omega,by rw [bMk];focus (repeat (first|assumption|(apply At.ext;assumption)))⟩ ?_;rintro n ρ w4 ⟨x4,hv4,hn,h3⟩)|(refine aQ (fun (j:Nat) w'=>Ext w4 w'∧j≤8) (fun j=> [(3,.pointer (some ⟨b3,0,none⟩)),(6,.string (eC (fun x:W32=>str (leL x.toNat 4).reverse) ((eK m n).l.take j))),(7,.int .i64 j)]) (fun j=>8 - j) 0 ⟨rfl,congrArg Value.string (by rw [List.take_zero,tS]),rfl,trivial⟩ ⟨Ext.refl _,by omega⟩ ?_;rintro j ρ8 w8 ⟨x8,hj⟩;have hz:=hout n j)|refine mD (n:=8) (l:=wCs (eK m n).l) rfl (Row.of_at (t:=T.n_8_uint32) (f:=(0,0)) (by focus (repeat (first|assumption|(apply At.ext;assumption))))) (by rw [cV];exact Nat.le_refl _) (by rw [tLe];rw [cV];exact Nat.le_refl _) ?_)
 ·have hn2:n<N:=by omega
  refine bFh (lo:=64*n) (hi:=64*n+64) rfl rfl (congrArg (Value.int .i64) (by omega)) (SlE.ext (w:=w4) (by exact fx) hv4) (by omega) (by omega) rfl (fun v5 hv5 _=>?_)
  refine zC rfl (bBk (eK m n) (by rw [List.length_take,List.length_drop];omega) _ hv5) ?_
  rintro _ w6 ⟨rfl,x6⟩
  have e:aUb (eK m n) ((m.drop (64*n)).take (64*n+64 - 64*n))=eK m (n+1):=by
   rw [show 64*n+64 - 64*n=64 by omega,bDq,bMl,aUb]
  rw [e]
  refine cQ (vs:=wCs (eK m (n+1)).l) rfl rfl (by rw [cV];rfl) (jO (lV _)) (cur:=wCs (eK m n).l) (by focus (repeat (first|assumption|(apply At.ext;assumption)))) (by rw [cV];rfl) (fun w7 c7 a7=>?_)
  repeat (first|refine go ?_|refine zg λ_ _=>?_|refine zi λ_ _=>?_)
  exact ⟨n+1,⟨rfl,rfl,rfl,congrArg (Value.int .i64) (by omega),trivial⟩,⟨(Ext.chg (w:=w) (by exact fx) c7).mono (by intro y hy;simp at hy;right;omega),SlE.chg c7 (SlE.ext (w:=w4) (by exact fx) hv4) (fun a m c e hm=>by have:=hvb a.block (by rw [e];simp [aP]);simp at hm;omega),by omega,a7⟩,by omega⟩
 ·refine zI rfl (fun b w9 x9 a9 hb9=>?_)
  refine aAp (l:= [UInt8.ofNat (wAt (eK m n).l j>>>24).toNat,UInt8.ofNat (wAt (eK m n).l j>>>16).toNat,UInt8.ofNat (wAt (eK m n).l j>>>8).toNat,UInt8.ofNat (wAt (eK m n).l j).toNat]) rfl (SlE.new (E:=u8E) a9 rfl (Nat.le_refl _)) ?_
  rw [be4]
  refine lZ rfl rfl (by rw [gZ,List.length_reverse,cY];omega) ?_
  repeat (first|refine go ?_|refine zg λ_ _=>?_|refine zi λ_ _=>?_)
  refine ⟨j+1,⟨rfl,congrArg Value.string ?_,rfl,trivial⟩,⟨by exact fx,by omega⟩,by omega⟩
  have hjl:j<(eK m n).l.length:=by rw [l8];omega
  have e:wAt (eK m n).l j=(eK m n).l[j]:=by unfold wAt;rw [List.getD_eq_getElem?_getD,List.getElem?_eq_getElem hjl];rfl
  rw [iM _ hjl,←e]
 ·have hn2:n=N:=by omega
  subst hn2
  refine aC rfl ⟨congrArg Value.string ?_,by exact fx⟩
  rw [tLe (by rw [l8];omega),aPh,hm,hN,Nat.mul_div_cancel_left _ (by decide),aV1]
theorem aZj (s:ByteArray) (hs:s.size≤4000000) (w:World):K.Spec Tryz.prog F.kedgeref04_Twice [.string s] w fun r w'=>r=.string (cU s)∧Ext w w':=by
 refine aF6 rfl ?_
 unfold tL
 refine oy ?_
 repeat' (first|refine go1 ?_|refine zg λ_ _=>?_|refine zi λ_ _=>?_|(refine zC rfl (aRp s hs _) ?_;rintro _ w1 ⟨rfl,x1⟩)|(refine zC rfl (aRp (aPh s) (by rw [aKs];decide) _) ?_;rintro _ w2 ⟨rfl,x2⟩))
 exact aC rfl ⟨by rw [cU];rfl,by exact fx⟩
theorem bDa {M:List Nat} {cs:List Value} {t:Tx} (w:World) (ht:txR.rel M w cs t) (hs:t.Sz):K.Spec Tryz.prog F.kedgeref06_Bytes [.agg cs.toArray,.bool true] w fun r w'=>r=.string (cD false t)∧Ext w w':=aL6 true w ht hs
theorem bLh {M:List Nat} {cs:List Value} {t:Tx} (w:World) (ht:txR.rel M w cs t) (hs:t.Sz):K.Spec Tryz.prog F.kedgeref06_Bytes [.agg cs.toArray,.bool false] w fun r w'=>r=.string (cD (aIb t) t)∧Ext w w':=aL6 false w ht hs
theorem aOi {M:List Nat} {cs:List Value} {t:Tx} (w:World) (ht:txR.rel M w cs t) (hs:t.Sz):K.Spec Tryz.prog F.kedgeref07_ID [.agg cs.toArray] w fun r w'=>r=.string (idT t)∧Ext w w':=by
 have ht0:=ht
 obtain ⟨iv,ov,rfl,hi,ho,hv,hl⟩:=ht
 refine aM8 rfl ?_
 unfold aBd
 refine oy ?_
 repeat' (first|refine go1 ?_|refine zg λ_ _=>?_|refine zi λ_ _=>?_|(first|refine zD rfl rfl (fun bp wp xp ap rp hp0=>?_)|refine zE (fun _=>rfl) rfl rfl rfl (fun bq wq xq aq rq hq0=>?_))|(refine zC rfl (bDa (M:=M) _ (cs:=aK t iv ov) (by exact fx) hs) ?_;rintro _ w1 ⟨rfl,x1⟩)|(refine zC rfl (aZj (cD false t) (by have:=hs.all false;omega) _) ?_;rintro _ w2 ⟨rfl,x2⟩))
 exact aC rfl ⟨by rw [idT];rfl,by exact fx⟩
theorem aVd {M:List Nat} {cs:List Value} {t:Tx} (w:World) (ht:txR.rel M w cs t) (hs:t.Sz):K.Spec Tryz.prog F.kedgeref07_Weight [.agg cs.toArray] w fun r w'=>r=.int .i64 (lX t:Nat)∧Ext w w':=by
 have ht0:=ht
 obtain ⟨iv,ov,rfl,hi,ho,hv,hl⟩:=ht
 have h1:=hs.all false
 have h2:=hs.all (aIb t)
 refine aEs rfl ?_
 unfold rT
 refine oy ?_
 repeat' (first|refine rI rfl rfl (by omega) ?_|refine go1 ?_|refine zg λ_ _=>?_|refine zi λ_ _=>?_|(first|refine zD rfl rfl (fun bp wp xp ap rp hp0=>?_)|refine zE (fun _=>rfl) rfl rfl rfl (fun bq wq xq aq rq hq0=>?_))|(refine zC rfl (bDa (M:=M) _ (cs:=aK t iv ov) (by exact fx) hs) ?_;rintro _ w1 ⟨rfl,x1⟩)|(refine zC rfl (bLh (M:=M) _ (cs:=aK t iv ov) (by exact fx) hs) ?_;rintro _ w2 ⟨rfl,x2⟩))
 exact aC rfl ⟨congrArg (Value.int .i64) (by rw [lX];omega),by exact fx⟩
theorem pT {M:List Nat} {cs:List Value} {t:Tx} (w:World) (ht:txR.rel M w cs t) (hs:t.Sz):K.Spec Tryz.prog F.kedgeref07_Size [.agg cs.toArray] w fun r w'=>r=.int .i64 (aR t:Nat)∧Ext w w':=by
 have ht0:=ht
 obtain ⟨iv,ov,rfl,hi,ho,hv,hl⟩:=ht
 have h1:=hs.weight
 refine aHf rfl ?_
 unfold wI
 refine oy ?_
 repeat' (first|refine sX (n:=lX t) (m:=4) rfl rfl (by decide) ?_|refine aKu (n:=lX t) (m:=4) rfl rfl (by decide) (by omega) ?_|refine go1 ?_|refine zg λ_ _=>?_|refine zi λ_ _=>?_|(first|refine zD rfl rfl (fun bp wp xp ap rp hp0=>?_)|refine zE (fun _=>rfl) rfl rfl rfl (fun bq wq xq aq rq hq0=>?_))|refine zL rfl (fun h=>?_) (fun h=>?_)|(refine zC rfl (aVd (M:=M) _ (cs:=aK t iv ov) (by exact fx) hs) ?_;rintro _ w1 ⟨rfl,x1⟩))
 all_goals exact aC rfl ⟨congrArg (Value.int .i64) (by rw [aR];omega),by exact fx⟩
end
end Go.Proofs.YtfebcajheojodaaGreatDoor
namespace Go.K
section
open Go
variable {P:Program}
def Vec.set {k:Nat} (c:Vec k) (o:Nat) (u:Value) (hu:u.oneCell'=true):Vec k:=
 ⟨c.1.set o u,by rw [List.length_set];exact c.2.1,fun v hv=>by
  rcases List.mem_or_eq_of_mem_set hv with h|h
  ·exact c.2.2 v h
  ·rw [h];exact hu⟩
theorem aWd {k:Nat} (hk:0<k) {u:Value} (hu:u.oneCell'=true) {o:Nat} (ho:o<k):∀(css:List (Vec k)) (i:Nat) (h:i<css.length),((qN k hk).flat css).set (i*k+o) u=(qN k hk).flat (css.set i (css[i].set o u hu))
 |c::css,0,_=>by
  have hc:c.1.length=k:=c.2.1
  simp only [Enc.flat,List.flatMap_cons,List.set_cons_zero,List.getElem_cons_zero,Nat.zero_mul,Nat.zero_add]
  rw [List.set_append_left _ _ (by show o<c.1.length;omega)]
  rfl
 |c::css,i+1,h=>by
  have hc:c.1.length=k:=c.2.1
  have ih:=aWd hk hu ho css i (by simpa using h)
  simp only [Enc.flat,List.flatMap_cons,List.set_cons_succ,List.getElem_cons_succ] at ih ⊢
  have e:(qN k hk).f c=c.1:=rfl
  rw [e,List.set_append_right _ _ (by rw [hc,Nat.add_mul];omega),hc,←ih]
  congr 2
  rw [Nat.add_mul];omega
section
variable {α:Type} {E:R α} {M M' L:List Nat} {w w':World} {t:TypeId} {B:Nat} {v:Value} {l:List α}
theorem All2.set {α β:Type} {r:α→β→Prop} {a:α} {b:β} (hr:r a b):∀{l:List α} {m:List β},All2 r l m→∀i,All2 r (l.set i a) (m.set i b)
 |_,_,.nil,_=>by simpa using All2.nil
 |_,_,.cons _ t,0=>by simpa using All2.cons hr t
 |_,_,.cons h t,i+1=>by simpa using All2.cons h (t.set hr i)
theorem cJ.open (h:cJ E t B M w v l) (hp:0<l.length):∃(b cap:Nat) (css:List (Vec E.k)) (junk:List Value),v=.slice (some ⟨b,0,none⟩) l.length cap∧B≤b∧At w b (.cells ((qN E.k E.pos).flat css++junk).toArray t (0,0))∧css.length=l.length∧((qN E.k E.pos).flat css++junk).length=cap*E.k∧E.all (b::M) w css l∧SlE (qN E.k E.pos) w v css:=by
 obtain ⟨css,h1,h2⟩:=h
 have hlen:=h2.length
 have hsl:=h1.sl
 rcases h1 with ⟨rfl,rfl⟩|⟨b,cap,junk,rfl,hB,hat,hl⟩
 ·rw [←hlen] at hp;simp at hp
 ·exact ⟨b,cap,css,junk,by rw [hlen],hB,hat,hlen,hl,h2,hsl⟩
theorem bEv {d:Option Tmp} {r:KR} {K:Env→World→Prop} {ρ:Env} {x y:Operand} {b cap i o:Nat} {css:List (Vec E.k)} {junk:List Value} {u:Value} {a:α}
  (hx:ev ρ x=.pointer (some ((Addr.add ⟨b,0,none⟩ (i*E.k)).add o))) (hy:ev ρ y=u) (hu:u.oneCell'=true) (hB:B≤b) (hat:At w b (.cells ((qN E.k E.pos).flat css++junk).toArray t (0,0))) (hc:css.length=l.length) (hl:((qN E.k E.pos).flat css++junk).length=cap*E.k) (ha:E.all (b::M) w css l)
  (hi:i<l.length) (ho:o<E.k) (hn:∀w',Chg [b] w w'→E.rel (b::M) w' ((css[i]'(by omega)).1.set o u) a)
  (k:∀w',Chg [b] w w'→cJ E t B M w' (.slice (some ⟨b,0,none⟩) l.length cap) (l.set i a)→aO P r K (put ρ d undef) w'):aO P (.cons ⟨d,.store x y,none⟩ r) K ρ w:=by
 have hk:=E.pos
 have hflat:((qN E.k E.pos).flat css).length=l.length*E.k:=by rw [Enc.flat_length,hc];rfl
 have hlt:i*E.k+o<((qN E.k E.pos).flat css).length:=by
  have:=Nat.mul_le_mul_right E.k (show i+1≤l.length from hi)
  rw [Nat.add_mul] at this;omega
 refine cN (o:=i*E.k+o) (by rw [hx,add_add]) hy hu hat (by rw [List.length_append];omega) fun w' c a'=>?_
 refine k w' c ⟨css.set i ((css[i]'(by omega)).set o u hu),.inr ⟨b,cap,junk,by rw [List.length_set,hc],hB,?_,?_⟩,?_⟩
 ·rw [List.set_append_left _ _ hlt,aWd E.pos hu ho css i (by omega)] at a'
  exact a'
 ·rw [List.length_append] at hl ⊢
  rw [Enc.flat_length] at hl ⊢
  rw [List.length_set];exact hl
 ·have h3:E.all (b::M) w' css l:=ha.mono fun _ _ hr=>E.step hr c (fun b hb=>.inl (by simp at hb;subst hb;simp)) (fun b hb=>.inl hb)
  exact All2.set (r:=fun (c:Vec E.k) x=>E.rel (b::M) w' c.1 x) (a:=(css[i]'(by omega)).set o u hu) (hn w' c) h3 i
theorem SlR.nil_of {n cap:Nat} (h:SlR E M w (.slice none n cap) l):l= []:=by
 obtain ⟨css,⟨h1,base,c,hv,_,h2⟩,h3,_⟩:=h
 rcases Nat.eq_zero_or_pos l.length with h4|h4
 ·exact List.length_eq_zero_iff.1 h4
 ·have h5:=h3.length
  rw [Enc.flat_length] at h2
  obtain ⟨a,ha,_⟩:=h2 (Nat.mul_pos (by omega) E.pos)
  injection hv with e1;subst e1;cases ha
theorem cJ.empty {b:Nat} (hB:B≤b) (h:At w b (.cells #[] t (0,0))):cJ E t B M w (.slice (some ⟨b,0,none⟩) 0 0) []:=
 ⟨[],.inr ⟨b,0, [],rfl,hB,h,by simp [Enc.flat]⟩,.nil⟩
theorem cJ.sub (h:cJ E t B M w v l) (hm:∀b∈M',b∈M∨w.heap.size≤b):cJ E t B M' w v l:=h.step (Chg.refl [] w) (by simp) hm
theorem bLj {css:List (Vec E.k)} (h:E.all M w css l) (c:Ext w w'):E.all M w' css l:=h.mono fun _ _ hr=>R.ext hr c
theorem cJ.one (h:cJ E t B M w v l):v.oneCell'=true:=by
 obtain ⟨css,h1,_⟩:=h
 rcases h1 with ⟨rfl,_⟩|⟨b,cap,junk,rfl,_⟩<;>rfl
theorem SlR.one (h:SlR E M w v l):v.oneCell'=true:=by
 obtain ⟨_,_,rfl⟩:=h.form;rfl
end
end
end Go.K
