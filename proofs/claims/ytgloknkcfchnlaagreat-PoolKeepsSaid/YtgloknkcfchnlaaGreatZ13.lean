/- Contracts: a block's schedule. -/
import Derived.Test.YtgloknkcfchnlaaGreatZ8
import Derived.Test.YtgloknkcfchnlaaGreatZ9
import Derived.Test.YtgloknkcfchnlaaGreatZ10
set_option linter.unusedVariables false
set_option linter.unusedSimpArgs false
namespace Go.Proofs.YtgloknkcfchnlaaGreat
section
open Go Go.K
attribute [local irreducible] aF aP bG KOp.wp K.Spec u32 leS vnS str aR eM jT wCs pW pN nY iG wAt
theorem bSd {B:List W32} {i:Nat} {bs:List UInt8} {w:World} {b:Nat} {T:TypeId} {f:Nat × Nat} (h:i<64) (ha:At w b (.cells (wCs (pN B i)).toArray T f)):At w b (.cells (wCs (pW B i (iG bs 0))).toArray T f):=by
 rw [aFl h] at ha
 have e:iG bs 0=0:=by unfold iG;rfl
 rw [e];exact ha
set_option maxHeartbeats 4000000 in
theorem bDs (s:ByteArray) (hs:64≤s.size) (hm:s.size≤100000000) (w:World):K.Spec Tryz.prog F.sha_schedule [.string s] w fun r w'=>r=.agg (wCs (jT (nY s.data.toList) 64)).toArray∧Ext w w':=by
 refine aQv rfl ?_
 unfold aEv
 refine oy ?_
 repeat (first|refine go ?_|refine zg λ_ _=>?_|refine zi λ_ _=>?_)
 refine zH (fun b2 w1 x1 a2 hb2=>?_)
 repeat (first|refine go ?_|refine zg λ_ _=>?_|refine zi λ_ _=>?_)
 refine zH (fun b3 w2 x2 a3 hb3=>?_)
 have a3:At w2 b3 (.cells (wCs (pN (nY s.data.toList) 0)).toArray T.n_64_uint32 (0,0)):=by
  rw [aFl (by decide),aVa,←bR7];exact a3
 have a2:At w1 b2 (.cells (List.replicate 64 (Value.int .u32 0)).toArray T.n_64_uint32 (0,0)):=a2
 have hb23:∀i,i<16→(s.extract (4*i) (4*i+4)).data.toList.length=4:=fun i hi=>by
  rw [aPs,List.length_take,List.length_drop,Array.length_toList]
  have:s.data.size=s.size:=rfl
  omega
 repeat' (first|(first|refine aFs rfl rfl ?_|refine aFj rfl rfl ?_|refine aFk rfl rfl ?_|refine aLj rfl rfl ?_|refine aFq rfl ?_|refine aAv rfl ?_)|(first|refine zF (fW _ .i64 7 (by decide) (by decide)) ?_)|(first|refine zF (fW _ .i64 18 (by decide) (by decide)) ?_)|(first|refine zF (fW _ .i64 17 (by decide) (by decide)) ?_)|(first|refine zF (fW _ .i64 19 (by decide) (by decide)) ?_)|refine aBu 3 (by decide) rfl rfl ?_|refine aBu 10 (by decide) rfl rfl ?_|refine bNl 8 (by decide) rfl rfl ?_|refine gM (i - 15) rfl (congrArg (Value.int .i64) (by omega)) (by omega) ?_|refine gM (i - 2) rfl (congrArg (Value.int .i64) (by omega)) (by omega) ?_|refine gM (i - 16) rfl (congrArg (Value.int .i64) (by omega)) (by omega) ?_|refine gM (i - 7) rfl (congrArg (Value.int .i64) (by omega)) (by omega) ?_|refine gM i rfl rfl (by omega) ?_|refine tH rfl rfl (by omega) ?_|refine rP _ rfl (Row.of_at (t:=T.n_64_uint32) (f:=(0,0)) (by focus (repeat (first|assumption|(apply At.ext;assumption))))) (by first|(rw [jQ (by omega)];omega)|(rw [aDq (by omega)];omega)) ?_|refine go1 ?_|refine zg λ_ _=>?_|refine zi λ_ _=>?_|refine zL rfl (fun h=>?_) (fun h=>?_)|(refine aI (fun (i:Nat) w'=>Ext w1 w'∧i≤64∧At w' b3 (.cells (wCs (pN (nY s.data.toList) i)).toArray T.n_64_uint32 (0,0))) (fun i=> [(0,.string s),(2,.pointer (some ⟨b2,0,none⟩)),(3,.pointer (some ⟨b3,0,none⟩)),(9,.int .i64 i)]) (fun i=>64 - i) 0 ⟨rfl,rfl,rfl,rfl,trivial⟩ ⟨by exact fx,by omega,a3⟩ ?_;rintro i ρ w3 ⟨x3,hi,ha⟩)|refine tH rfl rfl (by omega) ?_|refine bJr (lo:=4*i) (hi:=4*i+4) rfl (congrArg (Value.int .i64) (by omega)) (congrArg (Value.int .i64) (by omega)) (by omega) (by omega) ?_|refine bDr rfl (fun v w4 x4 hv hb4=>?_)|refine aY rfl hv ?_|(have hi16:i<16:=(by omega);have hbl:=hb23 i hi16;refine aI (fun (k:Nat) w'=>Ext w1 w'∧k≤4∧SlE u8E w' v (s.extract (4*i) (4*i+4)).data.toList∧At w' b3 (.cells (wCs (pW (nY s.data.toList) i (iG (s.extract (4*i) (4*i+4)).data.toList k))).toArray T.n_64_uint32 (0,0))) (fun k=> [(0,.string s),(2,.pointer (some ⟨b2,0,none⟩)),(3,.pointer (some ⟨b3,0,none⟩)),(4,.int .i64 i),(9,.int .i64 i),(21,v),(22,.int .i64 ((s.extract (4*i) (4*i+4)).data.toList.length:Nat)),(23,.int .i64 k)]) (fun k=>4 - k) 0 ⟨rfl,rfl,rfl,rfl,rfl,rfl,rfl,rfl,trivial⟩ ⟨by exact fx,by omega,by exact fx,bSd (by omega) (by focus (repeat (first|assumption|(apply At.ext;assumption))))⟩ ?_;rintro k ρ4 w6 ⟨x6,hk,hv6,ha6⟩)|(refine aS rfl rfl hv6 rfl (by omega) (fun ad r7=>?_);have hkl:k<4:=(by omega))|refine bO rfl rfl (aB1 _) (by focus (repeat (first|assumption|(apply At.ext;assumption)))) (by rw [dA];first|(rw [jQ (by omega)];omega)|(rw [aDq (by omega)];omega)) (fun w8 c8 a8=>?_)|(have e:i=64:=(by omega);subst e;refine vR (n:=64) rfl (Row.of_at ha) (by rw [dA,jQ (by omega)];exact Nat.le_refl _) (tLe (by rw [dA,jQ (by omega)];exact Nat.le_refl _)) ?_)|refine aU (w0:=w) (vs:=wCs (pN (nY s.data.toList) 64)) (by exact fx) hb2 (a2.ext x3) rfl rfl (by rw [dA,jQ (by omega)]) (by rw [List.length_replicate]) (nH _) (fun w9 x9 c9 a9 r9=>?_))
 ·refine ⟨k+1,⟨rfl,rfl,rfl,rfl,rfl,rfl,rfl,rfl,trivial⟩,⟨(x6.chg c8).mono (by intro y hy;simp at hy;right;omega),by omega,SlE.chg c8 hv6 (fun a m c e hm=>?_),?_⟩,by omega⟩
  ·have h1:=hb4 a.block (by rw [e];simp [aB])
   have h2:=ha.lt
   simp at hm;omega
  ·rw [←bHp (by omega)]
   exact a8
 ·obtain rfl:k=4:=by omega
  rw [bHo hi16] at ha6
  exact ⟨i+1,⟨rfl,rfl,rfl,rfl,trivial⟩,⟨x6,by omega,ha6⟩,by omega⟩
 ·have x7:Ext w1 w8:=(Ext.chg (w:=w1) (by exact fx) c8).mono (by intro y hy;simp at hy;right;omega)
  refine ⟨i+1,⟨rfl,rfl,rfl,rfl,trivial⟩,⟨x7,by omega,?_⟩,by omega⟩
  rw [←bB0 (by omega) (by omega)]
  exact a8
 ·exact aA (aOp (bD r9 rfl (by rw [dA,jQ (by omega)]))) ⟨by rw [bF4],x9⟩
end
end Go.Proofs.YtgloknkcfchnlaaGreat
