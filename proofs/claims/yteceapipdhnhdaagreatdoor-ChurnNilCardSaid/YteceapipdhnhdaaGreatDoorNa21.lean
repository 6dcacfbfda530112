/- Contracts: a block of a digest by the reference. The engine, -/
import Derived.Shelf.SlicesE.DeleteFunc
import Derived.Test.YteceapipdhnhdaaGreatDoorNa3
import Derived.Test.YteceapipdhnhdaaGreatDoorNa18
set_option linter.unusedVariables false
set_option linter.unusedSimpArgs false
namespace Go.Proofs.YteceapipdhnhdaaGreatDoor
section
open Go Go.K
attribute [local irreducible] aH aM aY KOp.wp K.Spec u32 leS vnS str aP jK wCs oJ mX lV gM pM jW dZ yW aFx addN shN bDz dV leL
theorem bN3 (w:World):K.Spec Tryz.prog F.kedgeref04_k [] w fun r w'=>r=.agg (wCs pM).toArray∧Ext w w':=by
 refine aP9 rfl ?_
 unfold aDh
 refine oy ?_
 repeat' (first|refine aZ (cs:=wCs pM) (by kernel_rfl) ?_|(first|refine go2 ?_|fail)|refine zH (fun b w1 x1 a1 hb=>?_)|refine aW (w0:=w) (vs:=wCs pM) (by exact fx) (nTr (by exact fx) hb) (by exact atx) rfl rfl (by kernel_rfl) (by kernel_rfl) (lJ _) (fun w5 x5 c5 a5 r5=>?_))
 exact aA (aEo (bA r5 rfl (by kernel_rfl))) ⟨rfl,x5⟩
structure BlkI (w:World) (b2 b4 b5 b6:Nat) (H:S8) (X:List W32) (w':World):Prop where
 x:Ext w w'
 a2:At w' b2 (.cells (wCs H.l).toArray T.n_8_uint32 (0,0))
 a4:At w' b4 (.cells (ZR 8).toArray T.n_8_uint32 (0,0))
 a5:At w' b5 (.cells (wCs X).toArray T.n_64_uint32 (0,0))
 a6:At w' b6 (.cells (wCs pM).toArray T.n_64_uint32 (0,0))
section
variable {w w' w'':World} {b2 b4 b5 b6 b:Nat} {H:S8} {X Y:List W32}
theorem BlkI.e (c:Ext w' w'') (h:BlkI w b2 b4 b5 b6 H X w'):BlkI w b2 b4 b5 b6 H X w'':=⟨h.x.trans c,h.a2.ext c,h.a4.ext c,h.a5.ext c,h.a6.ext c⟩
theorem BlkI.c (h:BlkI w b2 b4 b5 b6 H X w') (c:Chg [b] w' w'') (h0:w.heap.size≤b) (h2:b2≠b) (h4:b4≠b) (h5:b5≠b) (h6:b6≠b):BlkI w b2 b4 b5 b6 H X w'':=
 ⟨(h.x.chg c).mono (by intro y hy;simp at hy;right;omega),At.chg c h.a2 (by simpa using h2),At.chg c h.a4 (by simpa using h4),At.chg c h.a5 (by simpa using h5),At.chg c h.a6 (by simpa using h6)⟩
theorem BlkI.s (h:BlkI w b2 b4 b5 b6 H X w') (c:Chg [b5] w' w'') (a:At w'' b5 (.cells (wCs Y).toArray T.n_64_uint32 (0,0))) (h0:w.heap.size≤b5) (h2:b2≠b5) (h4:b4≠b5) (h6:b6≠b5):BlkI w b2 b4 b5 b6 H Y w'':=
 ⟨(h.x.chg c).mono (by intro y hy;simp at hy;right;omega),At.chg c h.a2 (by simpa using h2),At.chg c h.a4 (by simpa using h4),a,At.chg c h.a6 (by simpa using h6)⟩
theorem BlkI.r2 (h:BlkI w b2 b4 b5 b6 H X w'):Row w' ⟨b2,0,none⟩ (wCs H.l):=Row.of_at h.a2
theorem BlkI.r5 (h:BlkI w b2 b4 b5 b6 H X w'):Row w' ⟨b5,0,none⟩ (wCs X):=Row.of_at h.a5
theorem BlkI.r6 (h:BlkI w b2 b4 b5 b6 H X w'):Row w' ⟨b6,0,none⟩ (wCs pM):=Row.of_at h.a6
end
theorem bN9 (s:S8) (k x:W32):wAt s.l 7+(rot (wAt s.l 4) 6^^^rot (wAt s.l 4) 11^^^rot (wAt s.l 4) 25)+(wAt s.l 4&&& wAt s.l 5^^^ ~~~(wAt s.l 4)&&& wAt s.l 6)+k+x=bBp s k x:=rfl
theorem bN4 (s:S8):(rot (wAt s.l 0) 2^^^rot (wAt s.l 0) 13^^^rot (wAt s.l 0) 22)+(wAt s.l 0&&& wAt s.l 1^^^wAt s.l 0&&& wAt s.l 2^^^wAt s.l 1&&& wAt s.l 2)=bKc s:=rfl
theorem bSm (B:List W32):List.replicate 64 (Value.int .u32 0)=wCs (mX B 0):=by
 rw [aDz (by decide),aTn,←bQy]
theorem bQg {X:S8} {c:Nat}:(wCs (shN X.l c)).length=8:=by rw [cJ,aNt]
set_option maxHeartbeats 8000000 in
theorem bBi (H:S8) {v:Value} {l:List UInt8} (hl:l.length=64) (w:World) (hv:SlE u8E w v l):K.Spec Tryz.prog F.kedgeref04_block [.agg (wCs H.l).toArray,v] w fun r w'=>r=.agg (wCs (aV0 H l).l).toArray∧Ext w w':=by
 refine aGg rfl ?_
 unfold sR
 refine oy ?_
 refine goR ?_
 refine zD rfl rfl (fun b2 w2 x2 a2 r2 hb2=>?_)
 refine goR ?_
 refine zH (fun b4 w4 x4 (a4:At w4 b4 (.cells (ZR 8).toArray T.n_8_uint32 (0,0))) hb4=>?_)
 refine goR ?_
 refine zH (fun b5 w5 x5 (a5:At w5 b5 (.cells (ZR 64).toArray T.n_64_uint32 (0,0))) hb5=>?_)
 rw [ZR,bSm (lV l)] at a5
 refine goR ?_
 refine zC rfl (bN3 _) ?_
 rintro _ w6 ⟨rfl,x6⟩
 refine goR ?_
 refine zH (fun b6 w7 x7 (a6:At w7 b6 (.cells (ZR 64).toArray T.n_64_uint32 (0,0))) hb6=>?_)
 refine goR ?_
 have l2:=a2.lt
 have l4:=a4.lt
 have l5:=a5.lt
 have l6:=a6.lt
 have s6:=x6.size
 have h24:b2<b4:=by omega
 have h45:b4<b5:=by omega
 have h56:b5<b6:=by omega
 refine cE (vs:=wCs pM) rfl rfl (by kernel_rfl) (gQ (lJ _)) a6 rfl (fun w8 c8 a8=>?_)
 have hI:BlkI w b2 b4 b5 b6 H (mX (lV l) 0) w8:=⟨(Ext.chg (w:=w) (by exact fx) c8).mono (by have:=x2.size;have:=x4.size;have:=x5.size;intro y hy;simp at hy;right;omega),At.chg c8 (by exact atx) (by simp;omega),At.chg c8 (by exact atx) (by simp;omega),At.chg c8 (by exact atx) (by simp;omega),a8⟩
 have g5:w.heap.size≤b5:=by have:=x2.size;have:=x4.size;omega
 clear x2 a2 r2 x4 a4 x5 a5 x6 x7 a6 c8 a8
 repeat' (first|(first|refine zF (fE _ .u64 7 (by decide) (by decide)) ?_)|(first|refine zF (fE _ .u64 18 (by decide) (by decide)) ?_)|(first|refine zF (fE _ .u64 17 (by decide) (by decide)) ?_)|(first|refine zF (fE _ .u64 19 (by decide) (by decide)) ?_)|refine zZ 3 (by decide) rfl rfl ?_|refine zZ 10 (by decide) rfl rfl ?_|refine tR rfl rfl (by omega) ?_|refine aV1 (b:=BitVec.ofNat 32 16777216) rfl (by unfold u32;rfl) ?_|refine aV1 (b:=BitVec.ofNat 32 65536) rfl (by unfold u32;rfl) ?_|refine aV1 (b:=BitVec.ofNat 32 256) rfl (by unfold u32;rfl) ?_|(first|refine aD8 rfl rfl ?_|refine aDx rfl rfl ?_|refine aDy rfl rfl ?_|refine aJ1 rfl rfl ?_|refine aD5 rfl ?_|refine yF rfl ?_)|refine fQ (i - 15) rfl (congrArg (Value.int .i64) (by omega)) (by omega) ?_|refine fQ (i - 2) rfl (congrArg (Value.int .i64) (by omega)) (by omega) ?_|refine fQ (i - 16) rfl (congrArg (Value.int .i64) (by omega)) (by omega) ?_|refine fQ (i - 7) rfl (congrArg (Value.int .i64) (by omega)) (by omega) ?_|refine fQ i rfl rfl (by omega) ?_|refine pV (ad:=⟨b5,0,none⟩) (l:=mX (lV l) i) _ rfl (BlkI.r5 (BlkI.e (w':=w10) (by exact fx) hQ)) (by rw [iR (by omega)];omega) ?_|(first|refine go2 ?_|fail)|refine zL rfl (fun h=>?_) (fun h=>?_)|refine aT (n:=4*i) (l:=l) rfl (congrArg (Value.int .i64) (by omega)) (SlE.ext (w:=w9) (by exact fx) hv2) rfl (by omega) (fun ad r7=>?_)|refine aT (n:=4*i+1) (l:=l) rfl (congrArg (Value.int .i64) (by omega)) (SlE.ext (w:=w9) (by exact fx) hv2) rfl (by omega) (fun ad r7=>?_)|refine aT (n:=4*i+2) (l:=l) rfl (congrArg (Value.int .i64) (by omega)) (SlE.ext (w:=w9) (by exact fx) hv2) rfl (by omega) (fun ad r7=>?_)|refine aT (n:=4*i+3) (l:=l) rfl (congrArg (Value.int .i64) (by omega)) (SlE.ext (w:=w9) (by exact fx) hv2) rfl (by omega) (fun ad r7=>?_)|(refine aJ (fun (i:Nat) w'=>BlkI w b2 b4 b5 b6 H (mX (lV l) i) w'∧i≤16) (fun i=> [(1,v),(2,.pointer (some ⟨b2,0,none⟩)),(4,.pointer (some ⟨b4,0,none⟩)),(5,.pointer (some ⟨b5,0,none⟩)),(6,.pointer (some ⟨b6,0,none⟩)),(7,.int .i64 i)]) (fun i=>16 - i) 0 ⟨rfl,rfl,rfl,rfl,rfl,rfl,trivial⟩ ⟨hI,by omega⟩ ?_;rintro i ρ w9 ⟨hJ,hi⟩;have hv2:=hv.ext hJ.x;have a5:=hJ.a5)|(refine aJ (fun (i:Nat) w'=>BlkI w b2 b4 b5 b6 H (mX (lV l) i) w'∧16≤i∧i≤64) (fun i=> [(2,.pointer (some ⟨b2,0,none⟩)),(4,.pointer (some ⟨b4,0,none⟩)),(5,.pointer (some ⟨b5,0,none⟩)),(6,.pointer (some ⟨b6,0,none⟩)),(8,.int .i64 i)]) (fun i=>64 - i) 16 ⟨rfl,rfl,rfl,rfl,rfl,trivial⟩ ⟨by rw [show 16=i by omega];exact hJ,by omega,by omega⟩ ?_;clear hJ hi hv2 a5 h;clear i;rintro i ρ9 w10 ⟨hQ,hi,hi2⟩;have a5:=hQ.a5)|refine bC rfl rfl (aAg _) (by exact atx) (by rw [cJ,iR (by omega)];omega) (fun w11 c11 a11=>?_))
 ·refine ⟨i+1,⟨rfl,rfl,rfl,rfl,rfl,rfl,trivial⟩,⟨BlkI.s (BlkI.e (w':=w9) (by exact fx) hJ) c11 ?_ g5 (by omega) (by omega) (by omega),by omega⟩,by omega⟩
  rw [←bQh (by omega),←bQz (by omega) hl]
  exact a11
 ·refine ⟨i+1,⟨rfl,rfl,rfl,rfl,rfl,trivial⟩,⟨BlkI.s (BlkI.e (w':=w10) (by exact fx) hQ) c11 ?_ g5 (by omega) (by omega) (by omega),by omega,by omega⟩,by omega⟩
  rw [←bAj (by omega) (by omega)]
  exact a11
 obtain rfl:i=64:=by omega
 clear a5
 rw [bEt] at hQ
 generalize hW:jK (lV l) 64=W at hQ
 have lW:W.length=64:=by rw [←hW,gL]
 refine tN (n:=8) (l:=wCs H.l) rfl hQ.r2 (by rw [cJ];exact Nat.le_refl _) (tLe (by rw [cJ];exact Nat.le_refl _)) ?_
 refine goR ?_
 refine zH (fun b13 w11 x11 (a13:At w11 b13 (.cells (ZR 8).toArray T.n_8_uint32 (0,0))) hb13=>?_)
 have l5':=hQ.a5.lt
 have l6':=hQ.a6.lt
 refine goR ?_
 refine cE (vs:=wCs H.l) rfl rfl (by rw [cJ];rfl) (gQ (lJ _)) (cur:=ZR 8) a13 rfl (fun w12 c12 a12=>?_)
 have hR:=BlkI.c (BlkI.e x11 hQ) c12 (by have:=hQ.x.size;omega) (by omega) (by omega) (by omega) (by omega)
 have g13:w.heap.size≤b13:=by have:=hQ.x.size;omega
 clear hQ x11 a13 c12
 repeat' (first|(first|refine zF (fE _ .u64 6 (by decide) (by decide)) ?_)|(first|refine zF (fE _ .u64 11 (by decide) (by decide)) ?_)|(first|refine zF (fE _ .u64 25 (by decide) (by decide)) ?_)|(first|refine zF (fE _ .u64 2 (by decide) (by decide)) ?_)|(first|refine zF (fE _ .u64 13 (by decide) (by decide)) ?_)|(first|refine zF (fE _ .u64 22 (by decide) (by decide)) ?_)|(first|refine aD8 rfl rfl ?_|refine aDx rfl rfl ?_|refine aDy rfl rfl ?_|refine aJ1 rfl rfl ?_|refine aD5 rfl ?_|refine yF rfl ?_)|refine fQ 0 rfl rfl (by decide) ?_|refine fQ 1 rfl rfl (by decide) ?_|refine fQ 2 rfl rfl (by decide) ?_|refine fQ 4 rfl rfl (by decide) ?_|refine fQ 5 rfl rfl (by decide) ?_|refine fQ 6 rfl rfl (by decide) ?_|refine fQ 7 rfl rfl (by decide) ?_|refine fQ i rfl rfl (by omega) ?_|refine fQ j rfl rfl (by omega) ?_|refine fQ (6 - c) rfl (congrArg (Value.int .i64) (by omega)) (by omega) ?_|refine fQ (7 - c) rfl (congrArg (Value.int .i64) (by omega)) (by omega) ?_|refine pV (ad:=⟨b6,0,none⟩) (l:=pM) _ rfl (BlkI.r6 (BlkI.e (w':=w13) (by exact fx) hS)) (by rw [aXz];omega) ?_|refine pV (ad:=⟨b5,0,none⟩) (l:=W) _ rfl (BlkI.r5 (BlkI.e (w':=w13) (by exact fx) hS)) (by rw [lW];omega) ?_|refine pV (ad:=⟨b2,0,none⟩) (l:=H.l) _ rfl (BlkI.r2 (BlkI.e (w':=w18) (by exact fx) hV)) (by rw [l8];omega) ?_|refine pV (ad:=⟨b13,0,none⟩) (l:=shN (jW W H i).l c) _ rfl (Row.of_at (t:=T.n_8_uint32) (f:=(0,0)) (by exact atx)) (by rw [aNt];omega) ?_|refine pV (ad:=⟨b13,0,none⟩) (l:=addN (jW W H 64).l H.l j) _ rfl (Row.of_at (t:=T.n_8_uint32) (f:=(0,0)) (by exact atx)) (by rw [wA];omega) ?_|refine pV (ad:=⟨b13,0,none⟩) (l:=(jW W H i).l) _ rfl (Row.of_at (t:=T.n_8_uint32) (f:=(0,0)) (by exact atx)) (by rw [l8];omega) ?_|(first|refine go2 ?_|fail)|refine zL rfl (fun h=>?_) (fun h=>?_)|(refine aJ (fun (i:Nat) w'=>BlkI w b2 b4 b5 b6 H W w'∧i≤64∧At w' b13 (.cells (wCs (jW W H i).l).toArray T.n_8_uint32 (0,0))) (fun i=> [(2,.pointer (some ⟨b2,0,none⟩)),(4,.pointer (some ⟨b4,0,none⟩)),(5,.pointer (some ⟨b5,0,none⟩)),(6,.pointer (some ⟨b6,0,none⟩)),(13,.pointer (some ⟨b13,0,none⟩)),(14,.int .i64 i)]) (fun i=>64 - i) 0 ⟨rfl,rfl,rfl,rfl,rfl,rfl,trivial⟩ ⟨hR,by omega,by rw [bKe];exact a12⟩ ?_;rintro i ρ13 w13 ⟨hS,hi,hx⟩)|(refine aJ (fun (c:Nat) w'=>BlkI w b2 b4 b5 b6 H W w'∧c≤7∧At w' b13 (.cells (wCs (shN (jW W H i).l c)).toArray T.n_8_uint32 (0,0))) (fun c=> [(2,.pointer (some ⟨b2,0,none⟩)),(4,.pointer (some ⟨b4,0,none⟩)),(5,.pointer (some ⟨b5,0,none⟩)),(6,.pointer (some ⟨b6,0,none⟩)),(13,.pointer (some ⟨b13,0,none⟩)),(14,.int .i64 i),(18,u32 (bBp (jW W H i) (wAt pM i) (wAt W i))),(19,u32 (bKc (jW W H i))),(20,.int .i64 ((7:Int) - c))]) (fun c=>7 - c) 0 ⟨rfl,rfl,rfl,rfl,rfl,rfl,congrArg u32 (bN9 _ _ _),congrArg u32 (bN4 _),rfl,trivial⟩ ⟨BlkI.e (w':=w13) (by exact fx) hS,by omega,by rw [show shN (jW W H i).l 0=(jW W H i).l from bIx _];exact atx⟩ ?_;rintro c ρ14 w14 ⟨hT,hc,hy⟩)|(refine aJ (fun (j:Nat) w'=>BlkI w b2 b4 b5 b6 H W w'∧j≤8∧At w' b13 (.cells (wCs (addN (jW W H 64).l H.l j)).toArray T.n_8_uint32 (0,0))) (fun j=> [(2,.pointer (some ⟨b2,0,none⟩)),(4,.pointer (some ⟨b4,0,none⟩)),(13,.pointer (some ⟨b13,0,none⟩)),(21,.int .i64 j)]) (fun j=>8 - j) 0 ⟨rfl,rfl,rfl,rfl,trivial⟩ ⟨hS,by omega,by rw [bJn,show 64=i by omega];exact hx⟩ ?_;rintro j ρ18 w18 ⟨hV,hj,hz⟩))
 ·have hc7:c<7:=by omega
  refine bC rfl rfl (aAg _) hy (by rw [bQg];omega) (fun w15 c15 a15=>?_)
  refine goR ?_
  refine ⟨c+1,⟨rfl,rfl,rfl,rfl,rfl,rfl,rfl,rfl,congrArg (Value.int .i64) (by omega),trivial⟩,⟨BlkI.c hT c15 g13 (by omega) (by omega) (by omega) (by omega),by omega,?_⟩,by omega⟩
  rw [←bMf (o:=7 - c) hc7 rfl]
  exact a15
 ·obtain rfl:c=7:=by omega
  refine bC (o:=4*1) rfl rfl (aAg _) hy (by rw [bQg];omega) (fun w15 c15 a15=>?_)
  refine goR ?_
  (first|refine aD8 rfl rfl ?_|refine aDx rfl rfl ?_|refine aDy rfl rfl ?_|refine aJ1 rfl rfl ?_|refine aD5 rfl ?_|refine yF rfl ?_)
  refine goR ?_
  refine bC (o:=0*1) rfl rfl (aAg _) a15 (by rw [List.length_set,bQg];omega) (fun w16 c16 a16=>?_)
  refine goR ?_
  refine ⟨i+1,⟨rfl,rfl,rfl,rfl,rfl,rfl,trivial⟩,⟨BlkI.c (BlkI.c hT c15 g13 (by omega) (by omega) (by omega) (by omega)) c16 g13 (by omega) (by omega) (by omega) (by omega),by omega,?_⟩,by omega⟩
  have e:=bP2 (jW W H i) (bBp (jW W H i) (wAt pM i) (wAt W i)) (bKc (jW W H i))
  rw [bLh,bRj,←e,←zX,←zX]
  exact a16
 ·refine bC rfl rfl (aAg _) (At.ext (by first|assumption|exact Ext.drew _) hz) (by rw [cJ,wA];omega) (fun w19 c19 a19=>?_)
  refine goR ?_
  refine ⟨j+1,⟨rfl,rfl,rfl,rfl,trivial⟩,⟨BlkI.c (BlkI.e (w':=w18) (by first|assumption|exact Ext.drew _) hV) c19 g13 (by omega) (by omega) (by omega) (by omega),by omega,?_⟩,by omega⟩
  rw [←aXq (by omega)]
  exact a19
 ·obtain rfl:j=8:=by omega
  rw [aQd] at hz
  refine tN (n:=8) (l:=wCs (aZi (jW W H 64) H).l) rfl (Row.of_at hz) (by rw [cJ];exact Nat.le_refl _) (tLe (by rw [cJ];exact Nat.le_refl _)) ?_
  refine aW (w0:=w) (vs:=wCs (aZi (jW W H 64) H).l) hV.x (by omega) hV.a4 rfl rfl (by rw [cJ];rfl) rfl (lJ _) (fun w20 x20 c20 a20 r20=>?_)
  refine goR ?_
  refine aA (aEo (bA r20 rfl (by rw [cJ];rfl))) ⟨?_,x20⟩
  rw [aV0,hW,bFg]
end
end Go.Proofs.YteceapipdhnhdaaGreatDoor
namespace Go.K
section
open Go
variable {P:Program}
def Vec.set {k:Nat} (c:Vec k) (o:Nat) (u:Value) (hu:u.oneCell'=true):Vec k:=
 ⟨c.1.set o u,by grind,fun v hv=>by
  grind⟩
theorem aWg {k:Nat} (hk:0<k) {u:Value} (hu:u.oneCell'=true) {o:Nat} (ho:o<k):∀(css:List (Vec k)) (i:Nat) (h:i<css.length),((jM k hk).flat css).set (i*k+o) u=(jM k hk).flat (css.set i (css[i].set o u hu))
 |c::css,0,_=>by
  have hc:c.1.length=k:=c.2.1
  simp only [Enc.flat,List.flatMap_cons,List.set_cons_zero,List.getElem_cons_zero,Nat.zero_mul,Nat.zero_add]
  rw [List.set_append_left _ _ (by show o<c.1.length;omega)]
  rfl
 |c::css,i+1,h=>by
  have hc:c.1.length=k:=c.2.1
  have ih:=aWg hk hu ho css i (by simp_all)
  simp only [Enc.flat,List.flatMap_cons,List.set_cons_succ,List.getElem_cons_succ] at ih ⊢
  have e:(jM k hk).f c=c.1:=rfl
  grind
section
variable {α:Type} {E:R α} {M M' L:List Nat} {w w':World} {t:TypeId} {B:Nat} {v:Value} {l:List α}
theorem All2.set {α β:Type} {r:α→β→Prop} {a:α} {b:β} (hr:r a b):∀{l:List α} {m:List β},All2 r l m→∀i,All2 r (l.set i a) (m.set i b)
 |_,_,.nil,_=>by simpa using All2.nil
 |_,_,.cons _ t,0=>by grind [All2.cons]
 |_,_,.cons h t,i+1=>by simpa using All2.cons h (t.set hr i)
theorem bH.open (h:bH E t B M w v l) (hp:0<l.length):∃(b cap:Nat) (css:List (Vec E.k)) (junk:List Value),v=.slice (some ⟨b,0,none⟩) l.length cap∧B≤b∧At w b (.cells ((jM E.k E.pos).flat css++junk).toArray t (0,0))∧css.length=l.length∧((jM E.k E.pos).flat css++junk).length=cap*E.k∧E.all (b::M) w css l∧SlE (jM E.k E.pos) w v css:=by
 obtain ⟨css,h1,h2⟩:=h
 have hlen:=h2.length
 have hsl:=h1.sl
 rcases h1 with ⟨rfl,rfl⟩|⟨b,cap,junk,rfl,hB,hat,hl⟩
 ·simp_all
 ·exact ⟨b,cap,css,junk,by rw [hlen],hB,hat,hlen,hl,h2,hsl⟩
theorem bFz {d:Option Tmp} {r:KR} {K:Env→World→Prop} {ρ:Env} {x y:Operand} {b cap i o:Nat} {css:List (Vec E.k)} {junk:List Value} {u:Value} {a:α}
  (hx:ev ρ x=.pointer (some ((Addr.add ⟨b,0,none⟩ (i*E.k)).add o))) (hy:ev ρ y=u) (hu:u.oneCell'=true) (hB:B≤b) (hat:At w b (.cells ((jM E.k E.pos).flat css++junk).toArray t (0,0))) (hc:css.length=l.length) (hl:((jM E.k E.pos).flat css++junk).length=cap*E.k) (ha:E.all (b::M) w css l)
  (hi:i<l.length) (ho:o<E.k) (hn:∀w',Chg [b] w w'→E.rel (b::M) w' ((css[i]'(by omega)).1.set o u) a)
  (k:∀w',Chg [b] w w'→bH E t B M w' (.slice (some ⟨b,0,none⟩) l.length cap) (l.set i a)→aH P r K (put ρ d undef) w'):aH P (.cons ⟨d,.store x y,none⟩ r) K ρ w:=by
 have hk:=E.pos
 have hflat:((jM E.k E.pos).flat css).length=l.length*E.k:=by rw [Enc.flat_length,hc];rfl
 have hlt:i*E.k+o<((jM E.k E.pos).flat css).length:=by
  have:=Nat.mul_le_mul_right E.k (show i+1≤l.length from hi)
  rw [Nat.add_mul] at this;omega
 refine bC (o:=i*E.k+o) (by rw [hx,add_add]) hy hu hat (by grind) fun w' c a'=>?_
 refine k w' c ⟨css.set i ((css[i]'(by omega)).set o u hu),.inr ⟨b,cap,junk,by rw [List.length_set,hc],hB,?_,?_⟩,?_⟩
 ·rw [List.set_append_left _ _ hlt,aWg E.pos hu ho css i (by omega)] at a'
  exact a'
 ·rw [List.length_append] at hl ⊢
  rw [Enc.flat_length] at hl ⊢
  rw [List.length_set];exact hl
 ·have h3:E.all (b::M) w' css l:=ha.mono fun _ _ hr=>E.step hr c (fun b hb=>.inl (by simp at hb;subst hb;simp)) (fun b hb=>.inl hb)
  exact All2.set (r:=fun (c:Vec E.k) x=>E.rel (b::M) w' c.1 x) (a:=(css[i]'(by omega)).set o u hu) (hn w' c) h3 i
theorem SlR.nil_of {n cap:Nat} (h:SlR E M w (.slice none n cap) l):l= []:=by
 obtain ⟨css,⟨h1,base,c,hv,_,h2⟩,h3,_⟩:=h
 rcases Nat.eq_zero_or_pos l.length with h4|h4
 ·simp_all
 ·have h5:=h3.length
  rw [Enc.flat_length] at h2
  obtain ⟨a,ha,_⟩:=h2 (Nat.mul_pos (by omega) E.pos)
  simp_all
theorem bH.empty {b:Nat} (hB:B≤b) (h:At w b (.cells #[] t (0,0))):bH E t B M w (.slice (some ⟨b,0,none⟩) 0 0) []:=
 ⟨[],.inr ⟨b,0, [],rfl,hB,h,by simp [Enc.flat]⟩,.nil⟩
theorem bH.sub (h:bH E t B M w v l) (hm:∀b∈M',b∈M∨w.heap.size≤b):bH E t B M' w v l:=h.step (Chg.refl [] w) (by simp) hm
theorem bMm {css:List (Vec E.k)} (h:E.all M w css l) (c:Ext w w'):E.all M w' css l:=h.mono fun _ _ hr=>R.ext hr c
theorem bH.one (h:bH E t B M w v l):v.oneCell'=true:=by
 obtain ⟨css,h1,_⟩:=h
 rcases h1 with ⟨rfl,_⟩|⟨b,cap,junk,rfl,_⟩<;>rfl
theorem SlR.one (h:SlR E M w v l):v.oneCell'=true:=by
 obtain ⟨_,_,rfl⟩:=h.form;rfl
end
end
section
open Go
def bQ (l:List Ent) (id:ByteArray):Int:=idxOf (fun x=>decide (x.id=id)) l
def spends (x:Ent) (p:Pt):Bool:=x.tx.ins.any fun i=>decide (i.p=p)
def xL (t:Tx) (x:Ent):Bool:=t.ins.any fun i=>decide (i.p.s=x.id)&&decide (i.p.i<(x.tx.outs.length:Int))
def aO:List Ent→List Bool→List ByteArray
 |x::l,b::m=>if b then x.id::aO l m else aO l m
 |_,_=> []
def lI:List Ent→List Bool→Int
 |x::l,b::m=>(if b then x.fee else 0)+lI l m
 |_,_=>0
def aUq:List Ent→List Bool→Int
 |x::l,b::m=>(if b then x.size else 0)+aUq l m
 |_,_=>0
def cF (l:List Ent) (id:ByteArray):List Ent × Int:=if bQ l id<0 then (l,8) else (l.eraseIdx (bQ l id).toNat,0)
def fM (l:List Ent) (t:Tx) (fee:Int):List Ent × Int:=
 if aG t≠0 then (l,aG t) else if aN t then (l,4) else if !bT fee then (l,3) else if l.any (fun x=>decide (x.id=idT t)) then (l,7)
 else if t.ins.any (fun i=>l.any fun x=>spends x i.p) then (l,15) else (l++ [⟨t,idT t,fee,(aQ t:Nat)⟩],0)
theorem aUh {l l':List Ent} {m m':List Bool} (h:l.length=m.length):aO (l++l') (m++m')=aO l m++aO l' m':=by
 induction l generalizing m with
 |nil=>cases m with
  |nil=>cases l'<;>cases m'<;>rfl
  |cons=>grind
 |cons x l ih=>cases m with
  |nil=>grind
  |cons b m=>
   grind [aO]
section
variable {l:List Ent} {m:List Bool} (h:l.length=m.length) {i:Nat} (hi:i<l.length)
include h hi
theorem aOg:aO (l.take (i+1)) (m.take (i+1))=aO (l.take i) (m.take i)++(if m[i]'(h▸hi) then [l[i].id] else []):=by
 grind [List.take_succ_eq_append_getElem,aUh,aO]
end
theorem rV:∀(l:List Ent) (m:List Bool),(aO l m).length≤l.length
 | [],_=>by simp [aO]
 |_::_, []=>by simp [aO]
 |x::l,b::m=>by
  have:=rV l m
  simp only [aO];split<;>simp<;>omega
structure EntOk (x:Ent):Prop where
 check:aG x.tx=0
 grant:aN x.tx=false
 fee:bT x.fee=true
 id:x.id=idT x.tx
 size:x.size=(aQ x.tx:Nat)
def idN (n:Nat):ByteArray:=str ((List.range 32).map fun i=>UInt8.ofNat (n / 2^(i%8))^^^UInt8.ofNat i)
theorem bJa (n i:Nat) (h:i<32):str (((List.range 32).map fun i=>UInt8.ofNat (n / 2^(i%8))^^^UInt8.ofNat i).take (i+1))=str (((List.range 32).map fun i=>UInt8.ofNat (n / 2^(i%8))^^^UInt8.ofNat i).take i)++str [UInt8.ofNat (n / 2^(i%8))^^^UInt8.ofNat i]:=by
 grind [List.take_succ_eq_append_getElem,aOj]
end
section
open Go
def bG (base:Nat→Bool) (edge:Nat→Nat→Bool) (n:Nat):Nat→Nat→Bool
 |0,_=>false
 |r+1,i=>base i||(List.range n).any fun k=>bG base edge n r k&&edge k i
section
variable {base:Nat→Bool} {edge:Nat→Nat→Bool} {n:Nat}
theorem iV {r i:Nat}:bG base edge n (r+1) i=true↔base i=true∨∃k,k<n∧bG base edge n r k=true∧edge k i=true:=by
 simp only [bG,Bool.or_eq_true,List.any_eq_true,List.mem_range,Bool.and_eq_true]
theorem aGn:∀{r i:Nat},bG base edge n r i=true→bG base edge n (r+1) i=true
 |0,_,h=>by simp [bG] at h
 |r+1,i,h=>by
  rw [iV] at h ⊢
  rcases h with h|⟨k,h1,h2,h3⟩
  ·exact .inl h
  ·exact .inr ⟨k,h1,aGn h2,h3⟩
theorem aYq {r s i:Nat} (h:bG base edge n r i=true) (hrs:r≤s):bG base edge n s i=true:=by
 induction s with
 |zero=>simp_all
 |succ s ih=>
  grind [aGn]
theorem aNs {r:Nat} (hs:∀i,i<n→bG base edge n (r+1) i=true→bG base edge n r i=true):∀(d i:Nat),i<n→bG base edge n (r+d) i=true→bG base edge n r i=true
 |0,_,_,h=>h
 |d+1,i,hi,h=>by
  refine hs i hi ?_
  rw [show r+(d+1)=(r+d)+1 by omega,iV] at h
  rw [iV]
  rcases h with h|⟨k,h1,h2,h3⟩
  ·exact .inl h
  ·exact .inr ⟨k,h1,aNs hs d k h1 h2,h3⟩
def bMl (base:Nat→Bool) (edge:Nat→Nat→Bool) (n r:Nat):Nat:=(List.range n).countP (bG base edge n r)
theorem aTp {α:Type} {p q:α→Bool} {a:α}:∀{l:List α},(∀x∈l,p x=true→q x=true)→a∈l→p a=false→q a=true→l.countP p<l.countP q
 |x::l,h,ha,h1,h2=>by
  have hl:l.countP p≤l.countP q:=List.countP_mono_left fun y hy=>h y (by grind)
  rw [List.countP_cons,List.countP_cons]
  rcases List.mem_cons.1 ha with rfl|ha
  ·grind
  ·have ih:=aTp (fun y hy=>h y (by grind)) ha h1 h2
   grind
theorem bD1 (r:Nat):(∃s,s≤r∧∀i,i<n→bG base edge n (s+1) i=true→bG base edge n s i=true)∨r+1≤bMl base edge n (r+1):=by
 induction r with
 |zero=>
  by_cases h:∃i,i<n∧bG base edge n 1 i=true
  ·grind [bMl,List.countP_pos_iff]
  simp_all
 |succ r ih=>
  rcases ih with ⟨s,h1,h2⟩|ih
  ·exact .inl ⟨s,by omega,h2⟩
  ·by_cases h:∃i,i<n∧bG base edge n (r+2) i=true∧bG base edge n (r+1) i=false
   ·obtain ⟨i,h1,h2,h3⟩:=h
    refine .inr (Nat.lt_of_le_of_lt ih ?_)
    unfold bMl
    exact aTp (fun x _=>aGn) (by simp [*]) h3 h2
   ·refine .inl ⟨r+1,Nat.le_refl _,fun i hi hs=>?_⟩
    simp_all
theorem aTv {r i:Nat} (hi:i<n) (h:bG base edge n r i=true):bG base edge n n i=true:=by
 rcases bD1 (base:=base) (edge:=edge) (n:=n) n with ⟨s,h1,h2⟩|h1
 ·rcases Nat.lt_or_ge r s with h3|h3
  ·grind [aYq]
  ·have:=aNs h2 (r - s) i hi (by rwa [show s+(r - s)=r by omega])
   exact aYq this h1
 grind [bMl,List.countP_le_length]
theorem aAc {k i:Nat} (hi:i<n) (hk:k<n) (h:bG base edge n n k=true) (he:edge k i=true):bG base edge n n i=true:=
 aTv (r:=n+1) hi (iV.2 (.inr ⟨k,hk,h,he⟩))
theorem aPn {i:Nat} (hi:i<n) (h:base i=true):bG base edge n n i=true:=aTv (r:=1) hi (iV.2 (.inl h))
theorem aC7 {p:Nat→Prop} (hb:∀i,i<n→base i=true→p i) (he:∀k i,k<n→i<n→p k→edge k i=true→p i):∀(r i:Nat),i<n→bG base edge n r i=true→p i
 |0,_,_,h=>by simp [bG] at h
 |r+1,i,hi,h=>by
  rcases iV.1 h with h|⟨k,h1,h2,h3⟩
  ·simp [*]
  ·exact he k i h1 hi (aC7 hb he r k h1 h2) h3
end
def tJ (base:Nat→Bool) (edge:Nat→Nat→Bool) (n:Nat):List Bool:=(List.range n).map (bG base edge n n)
theorem aRg (base:Nat→Bool) (edge:Nat→Nat→Bool) (n:Nat):(tJ base edge n).length=n:=by simp [tJ]
def dM (l:List Ent) (i:Nat):Ent:=l.getD i default
def aJa (l:List Ent) (k i:Nat):Bool:=xL (dM l k).tx (dM l i)
def dC (l:List Ent) (t:Tx):List Bool:=tJ (fun i=>xL t (dM l i)) (aJa l) l.length
def bV (l:List Ent) (id:ByteArray):List Bool:=tJ (fun i=>decide ((i:Int)=bQ l id)) (fun k i=>aJa l i k) l.length
theorem bY {l:List Ent} {i:Nat} (h:i<l.length):dM l i=l[i]:=by grind [dM]
section
variable {base:Nat→Bool} {edge:Nat→Nat→Bool} {n:Nat} {m:List Bool}
end
end
end Go.K
section
namespace Go.Proofs
open Go.Shelf Go.RowKit Go.Lib Go.Sort
variable {P:Program} {ρ:Ren} {α:Type} [Inhabited α]
set_option maxHeartbeats 2000000 in
set_option maxRecDepth 100000 in
theorem YteceapipdhnhdaaGreatDoor.del_empty (L:SlLaysH.n10 P ρ) (a:Option Addr) (c:Nat) (fv:Value) (w:World):Calls P (ρ.f 10) #[.slice a 0 c,fv] w fun e w'=>e=.returned (.slice a 0 c)∧w'=w:=by
 have mixed:=L.mixed;have t0:=L.t0;have a0:=L.a0;have z0:=L.z0;have v0:=L.v0;have t3:=L.t3;have a3:=L.a3;have z3:=L.z3;have v3:=L.v3;have t4:=L.t4;have a4:=L.a4;have z4:=L.z4;have v4:=L.v4;have t22:=L.t22;have a22:=L.a22;have z22:=L.z22;have v22:=L.v22;have a23:=L.a23;have z23:=L.z23;have t25:=L.t25;have a25:=L.a25;have z25:=L.z25;have v25:=L.v25
 have e6:∀args w,(callFunc (ρ.f 6) args).run P w=.ok (.enter (ρ.f 6) args) w:=L.f6.enters rfl
 have hIF:=AnyE.slices_IndexFunc_empty (P:=P) (ρ:=ρ) {L with} a c fv w
 obtain ⟨_,_,FG⟩:=L.f10
 go_enter FG,SlBodyH.n10_ntmps ρ
 go_wp2_with (go_at_fn (ρ.f 6);refine hIF.mono ?_;rintro e w' ⟨rfl,rfl⟩)
 go_ret
 exact ⟨rfl,rfl⟩
end Go.Proofs
namespace Go.Proofs.YteceapipdhnhdaaGreatDoor
open Go Go.K
theorem bRu:∃i0,Tryz.prog.info? 9=some i0∧i0.zero=some (.string ⟨#[]⟩)∧i0.size=1∧i0.bytes=16:=by
 have h:(Tryz.prog.info? 9).map (fun i=>(i.zero,i.size,i.bytes))=some (some (.string ⟨#[]⟩),1,16):=by kernel_rfl
 obtain ⟨i0,h1,h2⟩:=Option.map_eq_some_iff.1 h
 simp only [Prod.mk.injEq] at h2
 exact ⟨i0,h1,h2⟩
theorem bG6 (n:Nat) (hn:n≤100000000) (w:World):K.Spec Tryz.prog F.slices_Grow_L_string_string [.slice none 0 0,.int .i64 (n:Nat)] w fun r w'=>Own bB T.string w.heap.size w' r []∧Ext w w':=by
 rcases Nat.eq_zero_or_pos n with h|h
 ·subst h
  exact (Any8.slices_Grow_room Tryz.growS none 0 0 0 w (by omega) (by omega) (by omega) (by omega)).mono fun e w' ⟨he,hw⟩=>⟨_,he,Own.nil _ _ _,hw▸Ext.refl _⟩
 ·obtain ⟨i0,h1,h2,h3,h4⟩:=bRu
  exact (Any8.slices_Grow_grow Tryz.growS i0 (.string ⟨#[]⟩) h1 h2 (by omega) none 0 0 n [] w (by omega) (by omega) (by rw [h4];omega) (by omega) (by simp) (by simp) (by simp)).mono fun e w' ⟨he,hw⟩=>⟨_,he,by
   have hg:=grownCap_ge w (0+n) 0 9
   have hc:grownCap w (0+n) 0 (Tryz.growS_ren.t 25)=grownCap w (0+n) 0 9:=rfl
   subst hw
   rw [hc]
   refine ⟨.inr ⟨w.heap.size,_,(Builtin.zeroCells (Value.string ⟨#[]⟩).cells (0+n - 0)++Builtin.zeroCells (Value.string ⟨#[]⟩).cells (grownCap w (0+n) 0 9 - (0+n))).toList,rfl,Nat.le_refl _,?_,?_⟩,(Ext.drew w).trans (Ext.alloc _ _)⟩
   ·have e:∀X Y:Array Value,(#[]:Array Value)++X++Y=(bB.flat []++(X++Y).toList).toArray:=fun X Y=>by simp [Enc.flat]
    rw [show ([]:List Value).toArray=#[] from rfl,e]
    exact At.new w.drew _
   ·have e:(Value.string ⟨#[]⟩).cells.size=1:=rfl
    simp only [Enc.flat,List.flatMap_nil,List.nil_append,Array.length_toList,Array.size_append,size_zeroCells,e]
    show _=_*1
    omega⟩
theorem bGt {w:World} {b:Nat} {cs:Array Value} {t:TypeId} {f:Nat × Nat} (h:At w b (.cells cs t f)) (g:Array Value→Array Value):At (Sort.mapBlock w b g) b (.cells (g cs) t f):=by
 unfold At at h ⊢
 simp [Sort.mapBlock,Array.getElem?_modify,h,Sort.onCells]
theorem aH6 (w:World) (b:Nat) (g:Array Value→Array Value):Chg [b] w (Sort.mapBlock w b g):=
 ⟨rfl,rfl,rfl,by simp [Sort.mapBlock],fun c _ hn=>by
  show (w.heap.modify b _)[c]? =_
  rw [Array.getElem?_modify,if_neg (by simp at hn;omega)]⟩
theorem aKa (w:World) (q:Nat):Ext w (Sort.ahead w q):=⟨rfl,rfl,rfl,Nat.le_refl _,fun _ _ _=>rfl⟩
theorem bNp (D l:List ByteArray) (junk:List Value) (h:D.length=l.length):Sort.putCells Value.string 0 D.toArray (l.map Value.string++junk).toArray=(D.map Value.string++junk).toArray:=by
 apply Array.ext
 ·simp [Sort.putCells,h]
 ·intro k h1 h2
  simp only [Sort.putCells,Array.getElem_mapIdx,List.getElem_toArray,Nat.zero_add,Nat.sub_zero,List.size_toArray]
  by_cases hk:k<D.length
  ·rw [if_pos ⟨Nat.zero_le _,hk⟩,List.getElem_append_left (by simpa using hk)]
   simp [getElem!_pos,hk]
  ·rw [if_neg (by omega),List.getElem_append_right (by simp;omega),List.getElem_append_right (by simp;omega)]
   simp [h]
theorem aO7 {g:FuncId} {capl:List Value} {v:Value} {l:List ByteArray} {B:Nat} (w:World) (p:ByteArray→Bool) (hb:bW Tryz.prog g=true) (ho:Own bB T.string B w v l) (hn:l.length≤100000000)
  (hp:∀(W:World) (x:ByteArray),Chg (aC v) w W→K.Spec Tryz.prog g (Value.string x::capl) W fun r w'=>r=.bool (p x)∧w'=W):
  K.Spec Tryz.prog F.slices_DeleteFunc_L_string_string [v,.func (.func g) #[] capl.toArray] w fun r w'=>Own bB T.string B w' r (l.filter fun x=>!p x)∧Chg (aC v) w w'∧∀b∈aC r,b∈aC v:=by
 have ho0:=ho
 rcases ho with ⟨rfl,rfl⟩|⟨b,cap,junk,rfl,hB,hat,hlen⟩
 ·exact (YteceapipdhnhdaaGreatDoor.del_empty Tryz.deleteFunc none 0 (.func (.func g) #[] capl.toArray) w).mono fun e w' ⟨he,hw⟩=>⟨_,he,.inl ⟨rfl,by simp⟩,hw▸Chg.refl _ _,by simp⟩
 ·have hcap:l.length≤cap:=by
   rw [List.length_append,Enc.flat_length] at hlen
   have e:bB.k=1:=rfl
   rw [e] at hlen;omega
  have hflat:∀m:List ByteArray,bB.flat m=m.map Value.string:=fun m=>by
   induction m with
   |nil=>rfl
   |cons x m ih=>simp only [Enc.flat,List.flatMap_cons,List.map_cons] at ih ⊢;rw [ih];rfl
  rw [hflat] at hat hlen
  have hcall:∀(W:World) (x:ByteArray),Chg [b] w W→FnGives Tryz.prog g capl.toArray #[Value.string x] (.bool (p x)) W:=fun W x hc=>by
   unfold FnGives
   have:=hp W x (by simpa [aC] using hc)
   have e:(#[Value.string x]++capl.toArray:Array Value)=(Value.string x::capl).toArray:=by simp
   rw [e]
   exact Calls.mono this fun e w' ⟨r,he,hr,hw⟩=>⟨by rw [he,hr],0,by rw [hw];rfl⟩
  have hH:Sort.Holds Value.string w b 0 l.toArray:=fun j hj=>by
   have hj':j<l.length:=by simpa using hj
   have hat':w.heap[b]? =some (.cells (l.map Value.string++junk).toArray T.string (0,0)):=hat
   refine ⟨?_,?_⟩
   ·simp only [World.cell?,hat',Nat.zero_add]
    simp [hj',List.getElem?_append_left,getElem!_pos]
   ·simp [World.frozen?,hat']
  have key:=AnyE.slices_DeleteFunc Tryz.deleteFunc Value.string (fun _=>rfl) p g capl.toArray (fun args W=>aSt hb) ⟨#[]⟩ Tryz.zeroValue9 b 0 cap l.toArray w (fun W x hb=>hcall W x (by
    exact ⟨hb.os,hb.tape,hb.output,hb.size,fun c hc _=>hb.block c hc⟩)) (fun n os dk x hd=>hcall _ x ?_) hH (by simp;omega) (by simpa using hcap)
  ·simp only [List.size_toArray] at key
   refine Calls.mono (show Calls Tryz.prog F.slices_DeleteFunc_L_string_string #[.slice (some ⟨b,0,none⟩) l.length cap,.func (.func g) #[] capl.toArray] w _ from key) ?_
   rintro e w' ⟨he,q,rfl⟩
   have hfl:(l.filter fun x=>!p x).length≤l.length:=List.length_filter_le _ _
   have hm:=bGt (At.ext (aKa w q) hat) (Sort.putCells Value.string 0 ((l.filter fun x=>!p x)++List.replicate (l.length - (l.filter fun x=>!p x).length) (⟨#[]⟩:ByteArray)).toArray)
   rw [bNp _ _ _ (by simp;omega),List.map_append,List.append_assoc] at hm
   refine ⟨_,he,.inr ⟨b,cap,_,rfl,hB,by rw [hflat];exact hm,?_⟩,?_,fun c hc=>by simpa [aC] using hc⟩
   ·rw [hflat]
    simp only [List.length_append,List.length_map,List.length_replicate] at hlen ⊢
    rw [←hlen];omega
   ·exact (Ext.chg (aKa w q) (aH6 _ _ _)).mono (fun c hc=>.inl (by simpa [aC] using hc))
  ·have c1:Chg [b] w (Sort.putRow Value.string (Sort.ahead w n) b 0 dk):=Ext.chg (aKa w n) (aH6 _ _ _)
   refine Chg.ext c1 ⟨rfl,rfl,rfl,by simp only [sortWorld,Sort.grow,Array.size_append];omega,fun c hc _=>?_⟩
   show ((Sort.putRow Value.string (Sort.ahead w n) b 0 dk).heap++os)[c]? =_
   rw [Array.getElem?_append_left hc]
attribute [local irreducible] aH aM aY KOp.wp K.Spec u32 leS vnS str aP cM bK idT
theorem bAr {v:Value} {l:List ByteArray} (a:ByteArray) (w:World) (hs:SlE bB w v l) (hn:l.length≤1000000000000):K.Spec Tryz.prog F.slices_Index_L_string_string [v,.string a] w fun r w'=>r=.int .i64 (idxOf (fun x=>decide (a=x)) l)∧w'=w:=by
 refine pZ rfl ?_
 unfold iJ
 refine oy ?_
 refine goR ?_
 refine bL rfl hs ?_
 refine goR ?_
 refine aJ (fun (i:Nat) w'=>w'=w∧i≤l.length∧∀j,j<i→∀h:j<l.length,a≠l[j]) (fun i=> [(0,v),(1,.string a),(6,v),(7,.int .i64 (l.length:Nat)),(8,.int .i64 i)]) (fun i=>l.length - i) 0 ⟨rfl,rfl,rfl,rfl,rfl,trivial⟩ ⟨rfl,by omega,by omega⟩ ?_
 rintro i ρ w1 ⟨rfl,hi,hk⟩
 refine goR ?_
 refine zL rfl (fun h=>?_) (fun h=>?_)
 ·have hil:i<l.length:=by omega
  refine goR ?_
  refine aT rfl rfl hs rfl hil (fun ad r1=>?_)
  refine goR ?_
  refine zL rfl (fun h2=>?_) (fun h2=>?_)
  ·refine goR ?_
   exact aA rfl ⟨congrArg (Value.int .i64) (idxOf_hit hil (by simpa using h2) (fun j hj=>by simpa using hk j hj (by omega))).symm,rfl⟩
  ·refine goR ?_
   refine ⟨i+1,⟨rfl,rfl,rfl,rfl,rfl,trivial⟩,⟨rfl,by omega,fun j hj hl=>?_⟩,by omega⟩
   by_cases hji:j=i
   ·subst hji;exact h2
   ·exact hk j (by omega) hl
 ·refine goR ?_
  exact aA rfl ⟨congrArg (Value.int .i64) (idxOf_miss (fun j hj=>by simpa using hk j (by omega) hj)).symm,rfl⟩
theorem aDd {v:Value} {l:List ByteArray} (a:ByteArray) (w:World) (hs:SlE bB w v l) (hn:l.length≤1000000000000):K.Spec Tryz.prog F.slices_Contains_L_string_string [v,.string a] w fun r w'=>r=.bool (l.any fun x=>decide (a=x))∧w'=w:=by
 refine mZ rfl ?_
 unfold gH
 refine oy ?_
 refine goR ?_
 refine zC rfl (bAr a _ hs hn) ?_
 rintro _ _ ⟨rfl,rfl⟩
 refine goR ?_
 exact aA rfl ⟨congrArg Value.bool mS,rfl⟩
theorem bH.toOwn {α:Type} {F:Enc α} {ag:Bool} {t:TypeId} {B:Nat} {M:List Nat} {w:World} {v:Value} {l:List α} (h:bH (R.flat F ag) t B M w v l):Own F t B w v l:=by
 obtain ⟨css,h1,h2⟩:=h
 have hlen:=h2.length
 have e:css=l.map F.vec:=by
  clear h1 hlen
  induction h2 with
  |nil=>rfl
  |cons hx _ ih=>rw [ih,List.map_cons];congr 1;exact Subtype.ext hx
 subst e
 rcases h1 with ⟨rfl,h⟩|⟨b,cap,junk,rfl,hB,hat,hl⟩
 ·exact .inl ⟨rfl,List.map_eq_nil_iff.1 h⟩
 ·refine .inr ⟨b,cap,junk,congrArg (fun n=>Value.slice (some ⟨b,0,none⟩) n cap) hlen,hB,?_,?_⟩
  ·rw [←xY];exact hat
  ·rw [←xY];exact hl
def aOu (l1 l2:List ByteArray):Nat→List ByteArray
 |0=> []
 |1=>l1
 |_=>l1++l2
theorem aPb (l1 l2:List ByteArray) (i:Nat):(aOu l1 l2 i).length≤l1.length+l2.length:=by
 match i with
 |0=>simp [aOu]
 |1=>simp [aOu]
 |_+2=>simp [aOu]
theorem lt2 {n:Nat} (h:(n:Int)<2):n=0∨n=1:=by omega
theorem aYh {bq : Nat} {v1 v2 : Value} {l1 l2 : List ByteArray} (w : World) (h : At w bq (.cells [v1, v2].toArray T.L_string (0, 0))) (h1 : SlE bB w v1 l1) (h2 : SlE bB w v2 l2) (hn : l1.length + l2.length ≤ 100000000) : K.Spec Tryz.prog F.slices_Concat_L_string_string [.slice (some ⟨bq, 0, none⟩) 2 2] w fun r w' => Own bB T.string w.heap.size w' r (l1 ++ l2) ∧ Ext w w' := by
  have hr : Row w ⟨bq, 0, none⟩ [v1, v2] := Row.of_at h
  have hq := h.lt
  refine oP rfl ?_
  unfold gT
  refine oy ?_
  repeat' (first|(first|refine go2 ?_|fail)|refine zL rfl (fun h => ?_) (fun h => ?_)|(refine (lt2 (n := i) h).elim (fun e => ?_) (fun e => ?_) <;> subst e)|(refine (lt2 (n := j) h).elim (fun e => ?_) (fun e => ?_) <;> subst e)|refine aOk rfl rfl (by omega) ?_|refine bL rfl (SlE.ext (w := w) (by exact fx) h1) ?_|refine bL rfl (SlE.ext (w := w) (by exact fx) h2) ?_|refine bZ (E := bB) (v := vo) (l2 := l1) rfl (ho4.ext (by exact fx)) (Ext.size (w := w) (by exact fx)) rfl rfl (SlE.cells (SlE.ext (w := w) (by exact fx) h1)) rfl rfl (by have := aPb l1 l2 0; omega) (fun v5 w5 ho5 c5 => ?_)|refine bZ (E := bB) (v := vo) (l2 := l2) rfl (ho4.ext (by exact fx)) (Ext.size (w := w) (by exact fx)) rfl rfl (SlE.cells (SlE.ext (w := w) (by exact fx) h2)) rfl rfl (by have := aPb l1 l2 1; omega) (fun v6 w6 ho6 c6 => ?_)|(refine aJ (fun (i : Nat) w' => Ext w w' ∧ i ≤ 2) (fun i => [(0, .slice (some ⟨bq, 0, none⟩) 2 2), (3, .int .i64 ((aOu l1 l2 i).length : Nat)), (9, .slice (some ⟨bq, 0, none⟩) 2 2), (10, .int .i64 2), (11, .int .i64 i)]) (fun i => 2 - i) 0 ⟨rfl, rfl, rfl, rfl, rfl, trivial⟩ ⟨Ext.refl _, by omega⟩ ?_; rintro i ρ w2 ⟨x2, hi⟩; have hcl := aPb l1 l2 i)|(refine zC rfl (bG6 (aOu l1 l2 i).length (by omega) _) ?_; rintro v3 w3 ⟨ho3, x3⟩)|(refine aJ (fun (p : Nat × Value) w' => Ext w w' ∧ p.1 ≤ 2 ∧ Own bB T.string w.heap.size w' p.2 (aOu l1 l2 p.1)) (fun p => [(6, p.2), (25, .slice (some ⟨bq, 0, none⟩) 2 2), (26, .int .i64 2), (27, .int .i64 p.1)]) (fun p => 2 - p.1) (0, v3) ⟨rfl, rfl, rfl, rfl, trivial⟩ ⟨by exact fx, by simp, ho3.lower x2.size⟩ ?_; rintro ⟨j, vo⟩ ρ4 w4 ⟨x4, hj, ho4⟩; simp only at hj ho4; dsimp only))
  all_goals first
    | exact absurd (by assumption : _ < (0 : Int)) (by omega)
    | exact ⟨1, ⟨rfl, congrArg (Value.int .i64) (by show _ = ((l1.length : Nat) : Int); simp [aOu]), rfl, rfl, rfl, trivial⟩, ⟨by exact fx, by omega⟩, by omega⟩
    | exact ⟨2, ⟨rfl, congrArg (Value.int .i64) (by show _ = (((l1 ++ l2).length : Nat) : Int); simp [aOu]), rfl, rfl, rfl, trivial⟩, ⟨by exact fx, by omega⟩, by omega⟩
    | exact ⟨(1, v5), ⟨rfl, rfl, rfl, rfl, trivial⟩, ⟨(Ext.chg (w := w) (by exact fx) c5).mono (fun b hb => .inr (ho4.base b (by simpa using hb))), by simp, by simpa [aOu] using ho5⟩, by simp⟩
    | exact ⟨(2, v6), ⟨rfl, rfl, rfl, rfl, trivial⟩, ⟨(Ext.chg (w := w) (by exact fx) c6).mono (fun b hb => .inr (ho4.base b (by simpa using hb))), by simp, by simpa [aOu] using ho6⟩, by simp⟩
    | (obtain rfl : j = 2 := by omega
       exact aA rfl ⟨ho4, by exact fx⟩)
    | trace_state
end Go.Proofs.YteceapipdhnhdaaGreatDoor
end
namespace Go.K
section
open Go
end
section
open Go
def sc9:List UInt8:= [1,1,0,0,0,0,0,0,0]
def bOg (L:List UInt8) (m:Nat):Tx:=⟨2, [⟨⟨str L,0⟩,4294967293, []⟩], [⟨1000,str sc9⟩],(m:Nat)⟩
def idL (n:Nat):List UInt8:=(List.range 32).map fun i=>UInt8.ofNat (n / 2^(i%8))^^^UInt8.ofNat i
def r80:List UInt8:= [25,42,22,115,193,51,64,181,222,26,82,10,253,151,117,98,228,107,119,5,141,58,45,0,248,199,16,181,194,251,33,230]
def r90:List UInt8:= [224,231,132,22,155,147,84,141,189,81,171,96,167,26,13,249,123,4,161,235,106,182,26,208,68,46,184,58,28,38,199,133]
end
end Go.K
