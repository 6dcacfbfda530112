/- Contracts: a block of a digest by the reference. The engine, -/
import Derived.Shelf.SlicesE.DeleteFunc
import Derived.Test.YtgloknkcfchnlabGreatDoorZ3
import Derived.Test.YtgloknkcfchnlabGreatDoorZ18
set_option linter.unusedVariables false
set_option linter.unusedSimpArgs false
namespace Go.Proofs.YtgloknkcfchnlabGreatDoor
section
open Go Go.K
attribute [local irreducible] aG aK aU KOp.wp K.Spec u32 leS vnS str aN fO wCs jI iW iL eL jQ gF cY oZ xH addN shN aNa cW leL
theorem aW0 (w:World):K.Spec Tryz.prog F.kedgeref04_k [] w fun r w'=>r=.agg (wCs jQ).toArray∧Ext w w':=by
 refine aFn rfl ?_
 unfold tR
 refine oy ?_
 repeat' (first|refine bT (cs:=wCs jQ) (by kernel_rfl) ?_|refine go1 ?_|refine zg λ_ _=>?_|refine zi λ_ _=>?_|refine zH (fun b w1 x1 a1 hb=>?_)|refine bA (w0:=w) (vs:=wCs jQ) (by exact fx) (nTr (by exact fx) hb) (by focus (repeat (first|assumption|(apply At.ext;assumption)))) rfl rfl (by kernel_rfl) (by kernel_rfl) (iD _) (fun w5 x5 c5 a5 r5=>?_))
 exact aB (aFx (bK r5 rfl (by kernel_rfl))) ⟨rfl,x5⟩
structure BlkI (w:World) (b2 b4 b5 b6:Nat) (H:S8) (X:List W32) (w':World):Prop where
 x:Ext w w'
 a2:At w' b2 (.cells (wCs H.l).toArray T.n_8_uint32 (0,0))
 a4:At w' b4 (.cells (ZR 8).toArray T.n_8_uint32 (0,0))
 a5:At w' b5 (.cells (wCs X).toArray T.n_64_uint32 (0,0))
 a6:At w' b6 (.cells (wCs jQ).toArray T.n_64_uint32 (0,0))
section
variable {w w' w'':World} {b2 b4 b5 b6 b:Nat} {H:S8} {X Y:List W32}
theorem BlkI.e (c:Ext w' w'') (h:BlkI w b2 b4 b5 b6 H X w'):BlkI w b2 b4 b5 b6 H X w'':=⟨h.x.trans c,h.a2.ext c,h.a4.ext c,h.a5.ext c,h.a6.ext c⟩
theorem BlkI.c (h:BlkI w b2 b4 b5 b6 H X w') (c:Chg [b] w' w'') (h0:w.heap.size≤b) (h2:b2≠b) (h4:b4≠b) (h5:b5≠b) (h6:b6≠b):BlkI w b2 b4 b5 b6 H X w'':=
 ⟨(h.x.chg c).mono (by intro y hy;simp at hy;right;omega),At.chg c h.a2 (by simpa using h2),At.chg c h.a4 (by simpa using h4),At.chg c h.a5 (by simpa using h5),At.chg c h.a6 (by simpa using h6)⟩
theorem BlkI.s (h:BlkI w b2 b4 b5 b6 H X w') (c:Chg [b5] w' w'') (a:At w'' b5 (.cells (wCs Y).toArray T.n_64_uint32 (0,0))) (h0:w.heap.size≤b5) (h2:b2≠b5) (h4:b4≠b5) (h6:b6≠b5):BlkI w b2 b4 b5 b6 H Y w'':=
 ⟨(h.x.chg c).mono (by intro y hy;simp at hy;right;omega),At.chg c h.a2 (by simpa using h2),At.chg c h.a4 (by simpa using h4),a,At.chg c h.a6 (by simpa using h6)⟩
theorem BlkI.r2 (h:BlkI w b2 b4 b5 b6 H X w'):Row w' ⟨b2,0,none⟩ (wCs H.l):=Row.of_at h.a2
theorem BlkI.r5 (h:BlkI w b2 b4 b5 b6 H X w'):Row w' ⟨b5,0,none⟩ (wCs X):=Row.of_at h.a5
theorem BlkI.r6 (h:BlkI w b2 b4 b5 b6 H X w'):Row w' ⟨b6,0,none⟩ (wCs jQ):=Row.of_at h.a6
end
theorem aXa (s:S8) (k x:W32):wAt s.l 7+(rot (wAt s.l 4) 6^^^rot (wAt s.l 4) 11^^^rot (wAt s.l 4) 25)+(wAt s.l 4&&& wAt s.l 5^^^ ~~~(wAt s.l 4)&&& wAt s.l 6)+k+x=aOn s k x:=rfl
theorem aW2 (s:S8):(rot (wAt s.l 0) 2^^^rot (wAt s.l 0) 13^^^rot (wAt s.l 0) 22)+(wAt s.l 0&&& wAt s.l 1^^^wAt s.l 0&&& wAt s.l 2^^^wAt s.l 1&&& wAt s.l 2)=aVr s:=rfl
theorem bA6 (B:List W32):List.replicate 64 (Value.int .u32 0)=wCs (iW B 0):=by
 rw [vA (by decide),aH6,←aZw]
theorem aYt {X:S8} {c:Nat}:(wCs (shN X.l c)).length=8:=by rw [bW,aEi]
set_option maxHeartbeats 8000000 in
theorem aOe (H:S8) {v:Value} {l:List UInt8} (hl:l.length=64) (w:World) (hv:SlE u8E w v l):K.Spec Tryz.prog F.kedgeref04_block [.agg (wCs H.l).toArray,v] w fun r w'=>r=.agg (wCs (aJh H l).l).toArray∧Ext w w':=by
 refine xF rfl ?_
 unfold lP
 refine oy ?_
 repeat (first|refine go ?_|refine zg λ_ _=>?_|refine zi λ_ _=>?_)
 refine zD rfl rfl (fun b2 w2 x2 a2 r2 hb2=>?_)
 repeat (first|refine go ?_|refine zg λ_ _=>?_|refine zi λ_ _=>?_)
 refine zH (fun b4 w4 x4 (a4:At w4 b4 (.cells (ZR 8).toArray T.n_8_uint32 (0,0))) hb4=>?_)
 repeat (first|refine go ?_|refine zg λ_ _=>?_|refine zi λ_ _=>?_)
 refine zH (fun b5 w5 x5 (a5:At w5 b5 (.cells (ZR 64).toArray T.n_64_uint32 (0,0))) hb5=>?_)
 rw [ZR,bA6 (iL l)] at a5
 repeat (first|refine go ?_|refine zg λ_ _=>?_|refine zi λ_ _=>?_)
 refine zC rfl (aW0 _) ?_
 rintro _ w6 ⟨rfl,x6⟩
 repeat (first|refine go ?_|refine zg λ_ _=>?_|refine zi λ_ _=>?_)
 refine zH (fun b6 w7 x7 (a6:At w7 b6 (.cells (ZR 64).toArray T.n_64_uint32 (0,0))) hb6=>?_)
 repeat (first|refine go ?_|refine zg λ_ _=>?_|refine zi λ_ _=>?_)
 have l2:=a2.lt
 have l4:=a4.lt
 have l5:=a5.lt
 have l6:=a6.lt
 have s6:=x6.size
 have h24:b2<b4:=by omega
 have h45:b4<b5:=by omega
 have h56:b5<b6:=by omega
 refine bG (vs:=wCs jQ) rfl rfl (by kernel_rfl) (fP (iD _)) a6 rfl (fun w8 c8 a8=>?_)
 have hI:BlkI w b2 b4 b5 b6 H (iW (iL l) 0) w8:=⟨(Ext.chg (w:=w) (by exact fx) c8).mono (by have:=x2.size;have:=x4.size;have:=x5.size;intro y hy;simp at hy;right;omega),At.chg c8 (by focus (repeat (first|assumption|(apply At.ext;assumption)))) (by simp;omega),At.chg c8 (by focus (repeat (first|assumption|(apply At.ext;assumption)))) (by simp;omega),At.chg c8 (by focus (repeat (first|assumption|(apply At.ext;assumption)))) (by simp;omega),a8⟩
 have g5:w.heap.size≤b5:=by have:=x2.size;have:=x4.size;omega
 clear x2 a2 r2 x4 a4 x5 a5 x6 x7 a6 c8 a8
 repeat' (first|(first|refine zF (dN _ .u64 7 (by decide) (by decide)) ?_)|(first|refine zF (dN _ .u64 18 (by decide) (by decide)) ?_)|(first|refine zF (dN _ .u64 17 (by decide) (by decide)) ?_)|(first|refine zF (dN _ .u64 19 (by decide) (by decide)) ?_)|refine qX 3 (by decide) rfl rfl ?_|refine qX 10 (by decide) rfl rfl ?_|refine oO rfl rfl (by omega) ?_|refine aJk (b:=BitVec.ofNat 32 16777216) rfl (by unfold u32;rfl) ?_|refine aJk (b:=BitVec.ofNat 32 65536) rfl (by unfold u32;rfl) ?_|refine aJk (b:=BitVec.ofNat 32 256) rfl (by unfold u32;rfl) ?_|(first|refine uR rfl rfl ?_|refine uY rfl rfl ?_|refine uZ rfl rfl ?_|refine aBu rfl rfl ?_|refine uG rfl ?_|refine pE rfl ?_)|refine dU (i - 15) rfl (congrArg (Value.int .i64) (by omega)) (by omega) ?_|refine dU (i - 2) rfl (congrArg (Value.int .i64) (by omega)) (by omega) ?_|refine dU (i - 16) rfl (congrArg (Value.int .i64) (by omega)) (by omega) ?_|refine dU (i - 7) rfl (congrArg (Value.int .i64) (by omega)) (by omega) ?_|refine dU i rfl rfl (by omega) ?_|refine jT (ad:=⟨b5,0,none⟩) (l:=iW (iL l) i) _ rfl (BlkI.r5 (BlkI.e (w':=w10) (by exact fx) hQ)) (by rw [fJ (by omega)];omega) ?_|refine go1 ?_|refine zg λ_ _=>?_|refine zi λ_ _=>?_|refine zL rfl (fun h=>?_) (fun h=>?_)|refine aQ (n:=4*i) (l:=l) rfl (congrArg (Value.int .i64) (by omega)) (SlE.ext (w:=w9) (by exact fx) hv2) rfl (by omega) (fun ad r7=>?_)|refine aQ (n:=4*i+1) (l:=l) rfl (congrArg (Value.int .i64) (by omega)) (SlE.ext (w:=w9) (by exact fx) hv2) rfl (by omega) (fun ad r7=>?_)|refine aQ (n:=4*i+2) (l:=l) rfl (congrArg (Value.int .i64) (by omega)) (SlE.ext (w:=w9) (by exact fx) hv2) rfl (by omega) (fun ad r7=>?_)|refine aQ (n:=4*i+3) (l:=l) rfl (congrArg (Value.int .i64) (by omega)) (SlE.ext (w:=w9) (by exact fx) hv2) rfl (by omega) (fun ad r7=>?_)|(refine aL (fun (i:Nat) w'=>BlkI w b2 b4 b5 b6 H (iW (iL l) i) w'∧i≤16) (fun i=> [(1,v),(2,.pointer (some ⟨b2,0,none⟩)),(4,.pointer (some ⟨b4,0,none⟩)),(5,.pointer (some ⟨b5,0,none⟩)),(6,.pointer (some ⟨b6,0,none⟩)),(7,.int .i64 i)]) (fun i=>16 - i) 0 ⟨rfl,rfl,rfl,rfl,rfl,rfl,trivial⟩ ⟨hI,by omega⟩ ?_;rintro i ρ w9 ⟨hJ,hi⟩;have hv2:=hv.ext hJ.x;have a5:=hJ.a5)|(refine aL (fun (i:Nat) w'=>BlkI w b2 b4 b5 b6 H (iW (iL l) i) w'∧16≤i∧i≤64) (fun i=> [(2,.pointer (some ⟨b2,0,none⟩)),(4,.pointer (some ⟨b4,0,none⟩)),(5,.pointer (some ⟨b5,0,none⟩)),(6,.pointer (some ⟨b6,0,none⟩)),(8,.int .i64 i)]) (fun i=>64 - i) 16 ⟨rfl,rfl,rfl,rfl,rfl,trivial⟩ ⟨by rw [show 16=i by omega];exact hJ,by omega,by omega⟩ ?_;clear hJ hi hv2 a5 h;clear i;rintro i ρ9 w10 ⟨hQ,hi,hi2⟩;have a5:=hQ.a5)|refine bB rfl rfl (rE _) (by focus (repeat (first|assumption|(apply At.ext;assumption)))) (by rw [bW,fJ (by omega)];omega) (fun w11 c11 a11=>?_))
 ·refine ⟨i+1,⟨rfl,rfl,rfl,rfl,rfl,rfl,trivial⟩,⟨BlkI.s (BlkI.e (w':=w9) (by exact fx) hJ) c11 ?_ g5 (by omega) (by omega) (by omega),by omega⟩,by omega⟩
  rw [←aYu (by omega),←aZx (by omega) hl]
  exact a11
 ·refine ⟨i+1,⟨rfl,rfl,rfl,rfl,rfl,trivial⟩,⟨BlkI.s (BlkI.e (w':=w10) (by exact fx) hQ) c11 ?_ g5 (by omega) (by omega) (by omega),by omega,by omega⟩,by omega⟩
  rw [←aNe (by omega) (by omega)]
  exact a11
 obtain rfl:i=64:=by omega
 clear a5
 rw [aQn] at hQ
 generalize hW:fO (iL l) 64=W at hQ
 have lW:W.length=64:=by rw [←hW,eK]
 refine lT (n:=8) (l:=wCs H.l) rfl hQ.r2 (by rw [bW];exact Nat.le_refl _) (tLe (by rw [bW];exact Nat.le_refl _)) ?_
 repeat (first|refine go ?_|refine zg λ_ _=>?_|refine zi λ_ _=>?_)
 refine zH (fun b13 w11 x11 (a13:At w11 b13 (.cells (ZR 8).toArray T.n_8_uint32 (0,0))) hb13=>?_)
 have l5':=hQ.a5.lt
 have l6':=hQ.a6.lt
 repeat (first|refine go ?_|refine zg λ_ _=>?_|refine zi λ_ _=>?_)
 refine bG (vs:=wCs H.l) rfl rfl (by rw [bW];rfl) (fP (iD _)) (cur:=ZR 8) a13 rfl (fun w12 c12 a12=>?_)
 have hR:=BlkI.c (BlkI.e x11 hQ) c12 (by have:=hQ.x.size;omega) (by omega) (by omega) (by omega) (by omega)
 have g13:w.heap.size≤b13:=by have:=hQ.x.size;omega
 clear hQ x11 a13 c12
 repeat' (first|(first|refine zF (dN _ .u64 6 (by decide) (by decide)) ?_)|(first|refine zF (dN _ .u64 11 (by decide) (by decide)) ?_)|(first|refine zF (dN _ .u64 25 (by decide) (by decide)) ?_)|(first|refine zF (dN _ .u64 2 (by decide) (by decide)) ?_)|(first|refine zF (dN _ .u64 13 (by decide) (by decide)) ?_)|(first|refine zF (dN _ .u64 22 (by decide) (by decide)) ?_)|(first|refine uR rfl rfl ?_|refine uY rfl rfl ?_|refine uZ rfl rfl ?_|refine aBu rfl rfl ?_|refine uG rfl ?_|refine pE rfl ?_)|refine dU 0 rfl rfl (by decide) ?_|refine dU 1 rfl rfl (by decide) ?_|refine dU 2 rfl rfl (by decide) ?_|refine dU 4 rfl rfl (by decide) ?_|refine dU 5 rfl rfl (by decide) ?_|refine dU 6 rfl rfl (by decide) ?_|refine dU 7 rfl rfl (by decide) ?_|refine dU i rfl rfl (by omega) ?_|refine dU j rfl rfl (by omega) ?_|refine dU (6 - c) rfl (congrArg (Value.int .i64) (by omega)) (by omega) ?_|refine dU (7 - c) rfl (congrArg (Value.int .i64) (by omega)) (by omega) ?_|refine jT (ad:=⟨b6,0,none⟩) (l:=jQ) _ rfl (BlkI.r6 (BlkI.e (w':=w13) (by exact fx) hS)) (by rw [aMk];omega) ?_|refine jT (ad:=⟨b5,0,none⟩) (l:=W) _ rfl (BlkI.r5 (BlkI.e (w':=w13) (by exact fx) hS)) (by rw [lW];omega) ?_|refine jT (ad:=⟨b2,0,none⟩) (l:=H.l) _ rfl (BlkI.r2 (BlkI.e (w':=w18) (by exact fx) hV)) (by rw [l8];omega) ?_|refine jT (ad:=⟨b13,0,none⟩) (l:=shN (gF W H i).l c) _ rfl (Row.of_at (t:=T.n_8_uint32) (f:=(0,0)) (by focus (repeat (first|assumption|(apply At.ext;assumption))))) (by rw [aEi];omega) ?_|refine jT (ad:=⟨b13,0,none⟩) (l:=addN (gF W H 64).l H.l j) _ rfl (Row.of_at (t:=T.n_8_uint32) (f:=(0,0)) (by focus (repeat (first|assumption|(apply At.ext;assumption))))) (by rw [nS];omega) ?_|refine jT (ad:=⟨b13,0,none⟩) (l:=(gF W H i).l) _ rfl (Row.of_at (t:=T.n_8_uint32) (f:=(0,0)) (by focus (repeat (first|assumption|(apply At.ext;assumption))))) (by rw [l8];omega) ?_|refine go1 ?_|refine zg λ_ _=>?_|refine zi λ_ _=>?_|refine zL rfl (fun h=>?_) (fun h=>?_)|(refine aL (fun (i:Nat) w'=>BlkI w b2 b4 b5 b6 H W w'∧i≤64∧At w' b13 (.cells (wCs (gF W H i).l).toArray T.n_8_uint32 (0,0))) (fun i=> [(2,.pointer (some ⟨b2,0,none⟩)),(4,.pointer (some ⟨b4,0,none⟩)),(5,.pointer (some ⟨b5,0,none⟩)),(6,.pointer (some ⟨b6,0,none⟩)),(13,.pointer (some ⟨b13,0,none⟩)),(14,.int .i64 i)]) (fun i=>64 - i) 0 ⟨rfl,rfl,rfl,rfl,rfl,rfl,trivial⟩ ⟨hR,by omega,by rw [aTa];exact a12⟩ ?_;rintro i ρ13 w13 ⟨hS,hi,hx⟩)|(refine aL (fun (c:Nat) w'=>BlkI w b2 b4 b5 b6 H W w'∧c≤7∧At w' b13 (.cells (wCs (shN (gF W H i).l c)).toArray T.n_8_uint32 (0,0))) (fun c=> [(2,.pointer (some ⟨b2,0,none⟩)),(4,.pointer (some ⟨b4,0,none⟩)),(5,.pointer (some ⟨b5,0,none⟩)),(6,.pointer (some ⟨b6,0,none⟩)),(13,.pointer (some ⟨b13,0,none⟩)),(14,.int .i64 i),(18,u32 (aOn (gF W H i) (wAt jQ i) (wAt W i))),(19,u32 (aVr (gF W H i))),(20,.int .i64 ((7:Int) - c))]) (fun c=>7 - c) 0 ⟨rfl,rfl,rfl,rfl,rfl,rfl,congrArg u32 (aXa _ _ _),congrArg u32 (aW2 _),rfl,trivial⟩ ⟨BlkI.e (w':=w13) (by exact fx) hS,by omega,by rw [show shN (gF W H i).l 0=(gF W H i).l from aTw _];focus (repeat (first|assumption|(apply At.ext;assumption)))⟩ ?_;rintro c ρ14 w14 ⟨hT,hc,hy⟩)|(refine aL (fun (j:Nat) w'=>BlkI w b2 b4 b5 b6 H W w'∧j≤8∧At w' b13 (.cells (wCs (addN (gF W H 64).l H.l j)).toArray T.n_8_uint32 (0,0))) (fun j=> [(2,.pointer (some ⟨b2,0,none⟩)),(4,.pointer (some ⟨b4,0,none⟩)),(13,.pointer (some ⟨b13,0,none⟩)),(21,.int .i64 j)]) (fun j=>8 - j) 0 ⟨rfl,rfl,rfl,rfl,trivial⟩ ⟨hS,by omega,by rw [aUy,show 64=i by omega];exact hx⟩ ?_;rintro j ρ18 w18 ⟨hV,hj,hz⟩))
 ·have hc7:c<7:=by omega
  refine bB rfl rfl (rE _) hy (by rw [aYt];omega) (fun w15 c15 a15=>?_)
  repeat (first|refine go ?_|refine zg λ_ _=>?_|refine zi λ_ _=>?_)
  refine ⟨c+1,⟨rfl,rfl,rfl,rfl,rfl,rfl,rfl,rfl,congrArg (Value.int .i64) (by omega),trivial⟩,⟨BlkI.c hT c15 g13 (by omega) (by omega) (by omega) (by omega),by omega,?_⟩,by omega⟩
  rw [←aWj (o:=7 - c) hc7 rfl]
  exact a15
 ·obtain rfl:c=7:=by omega
  refine bB (o:=4*1) rfl rfl (rE _) hy (by rw [aYt];omega) (fun w15 c15 a15=>?_)
  repeat (first|refine go ?_|refine zg λ_ _=>?_|refine zi λ_ _=>?_)
  (first|refine uR rfl rfl ?_|refine uY rfl rfl ?_|refine uZ rfl rfl ?_|refine aBu rfl rfl ?_|refine uG rfl ?_|refine pE rfl ?_)
  repeat (first|refine go ?_|refine zg λ_ _=>?_|refine zi λ_ _=>?_)
  refine bB (o:=0*1) rfl rfl (rE _) a15 (by rw [List.length_set,aYt];omega) (fun w16 c16 a16=>?_)
  repeat (first|refine go ?_|refine zg λ_ _=>?_|refine zi λ_ _=>?_)
  refine ⟨i+1,⟨rfl,rfl,rfl,rfl,rfl,rfl,trivial⟩,⟨BlkI.c (BlkI.c hT c15 g13 (by omega) (by omega) (by omega) (by omega)) c16 g13 (by omega) (by omega) (by omega) (by omega),by omega,?_⟩,by omega⟩
  have e:=aX5 (gF W H i) (aOn (gF W H i) (wAt jQ i) (wAt W i)) (aVr (gF W H i))
  rw [aU7,aZp,←e,←qV,←qV]
  exact a16
 ·refine bB rfl rfl (rE _) (At.ext (by assumption) hz) (by rw [bW,nS];omega) (fun w19 c19 a19=>?_)
  repeat (first|refine go ?_|refine zg λ_ _=>?_|refine zi λ_ _=>?_)
  refine ⟨j+1,⟨rfl,rfl,rfl,rfl,trivial⟩,⟨BlkI.c (BlkI.e (w':=w18) (by assumption) hV) c19 g13 (by omega) (by omega) (by omega) (by omega),by omega,?_⟩,by omega⟩
  rw [←aMc (by omega)]
  exact a19
 ·obtain rfl:j=8:=by omega
  rw [aFu] at hz
  refine lT (n:=8) (l:=wCs (aLp (gF W H 64) H).l) rfl (Row.of_at hz) (by rw [bW];exact Nat.le_refl _) (tLe (by rw [bW];exact Nat.le_refl _)) ?_
  refine bA (w0:=w) (vs:=wCs (aLp (gF W H 64) H).l) hV.x (by omega) hV.a4 rfl rfl (by rw [bW];rfl) rfl (iD _) (fun w20 x20 c20 a20 r20=>?_)
  repeat (first|refine go ?_|refine zg λ_ _=>?_|refine zi λ_ _=>?_)
  refine aB (aFx (bK r20 rfl (by rw [bW];rfl))) ⟨?_,x20⟩
  rw [aJh,hW,aQz]
end
end Go.Proofs.YtgloknkcfchnlabGreatDoor
namespace Go.K
section
open Go
variable {P:Program}
def Vec.set {k:Nat} (c:Vec k) (o:Nat) (u:Value) (hu:u.oneCell'=true):Vec k:=
 ⟨c.1.set o u,by rw [List.length_set];exact c.2.1,fun v hv=>by
  rcases List.mem_or_eq_of_mem_set hv with h|h
  ·exact c.2.2 v h
  ·rw [h];exact hu⟩
theorem aKh {k:Nat} (hk:0<k) {u:Value} (hu:u.oneCell'=true) {o:Nat} (ho:o<k):∀(css:List (Vec k)) (i:Nat) (h:i<css.length),((fY k hk).flat css).set (i*k+o) u=(fY k hk).flat (css.set i (css[i].set o u hu))
 |c::css,0,_=>by
  have hc:c.1.length=k:=c.2.1
  simp only [Enc.flat,List.flatMap_cons,List.set_cons_zero,List.getElem_cons_zero,Nat.zero_mul,Nat.zero_add]
  rw [List.set_append_left _ _ (by show o<c.1.length;omega)]
  rfl
 |c::css,i+1,h=>by
  have hc:c.1.length=k:=c.2.1
  have ih:=aKh hk hu ho css i (by simpa using h)
  simp only [Enc.flat,List.flatMap_cons,List.set_cons_succ,List.getElem_cons_succ] at ih ⊢
  have e:(fY k hk).f c=c.1:=rfl
  rw [e,List.set_append_right _ _ (by rw [hc,Nat.add_mul];omega),hc,←ih]
  congr 2
  rw [Nat.add_mul];omega
section
variable {α:Type} {E:R α} {M M' L:List Nat} {w w':World} {t:TypeId} {B:Nat} {v:Value} {l:List α}
theorem All2.set {α β:Type} {r:α→β→Prop} {a:α} {b:β} (hr:r a b):∀{l:List α} {m:List β},All2 r l m→∀i,All2 r (l.set i a) (m.set i b)
 |_,_,.nil,_=>by simpa using All2.nil
 |_,_,.cons _ t,0=>by simpa using All2.cons hr t
 |_,_,.cons h t,i+1=>by simpa using All2.cons h (t.set hr i)
theorem bD.open (h:bD E t B M w v l) (hp:0<l.length):∃(b cap:Nat) (css:List (Vec E.k)) (junk:List Value),v=.slice (some ⟨b,0,none⟩) l.length cap∧B≤b∧At w b (.cells ((fY E.k E.pos).flat css++junk).toArray t (0,0))∧css.length=l.length∧((fY E.k E.pos).flat css++junk).length=cap*E.k∧E.all (b::M) w css l∧SlE (fY E.k E.pos) w v css:=by
 obtain ⟨css,h1,h2⟩:=h
 have hlen:=h2.length
 have hsl:=h1.sl
 rcases h1 with ⟨rfl,rfl⟩|⟨b,cap,junk,rfl,hB,hat,hl⟩
 ·rw [←hlen] at hp;simp at hp
 ·exact ⟨b,cap,css,junk,by rw [hlen],hB,hat,hlen,hl,h2,hsl⟩
theorem aRw {d:Option Tmp} {r:KR} {K:Env→World→Prop} {ρ:Env} {x y:Operand} {b cap i o:Nat} {css:List (Vec E.k)} {junk:List Value} {u:Value} {a:α}
  (hx:ev ρ x=.pointer (some ((Addr.add ⟨b,0,none⟩ (i*E.k)).add o))) (hy:ev ρ y=u) (hu:u.oneCell'=true) (hB:B≤b) (hat:At w b (.cells ((fY E.k E.pos).flat css++junk).toArray t (0,0))) (hc:css.length=l.length) (hl:((fY E.k E.pos).flat css++junk).length=cap*E.k) (ha:E.all (b::M) w css l)
  (hi:i<l.length) (ho:o<E.k) (hn:∀w',Chg [b] w w'→E.rel (b::M) w' ((css[i]'(by omega)).1.set o u) a)
  (k:∀w',Chg [b] w w'→bD E t B M w' (.slice (some ⟨b,0,none⟩) l.length cap) (l.set i a)→aG P r K (put ρ d undef) w'):aG P (.cons ⟨d,.store x y,none⟩ r) K ρ w:=by
 have hk:=E.pos
 have hflat:((fY E.k E.pos).flat css).length=l.length*E.k:=by rw [Enc.flat_length,hc];rfl
 have hlt:i*E.k+o<((fY E.k E.pos).flat css).length:=by
  have:=Nat.mul_le_mul_right E.k (show i+1≤l.length from hi)
  rw [Nat.add_mul] at this;omega
 refine bB (o:=i*E.k+o) (by rw [hx,add_add]) hy hu hat (by rw [List.length_append];omega) fun w' c a'=>?_
 refine k w' c ⟨css.set i ((css[i]'(by omega)).set o u hu),.inr ⟨b,cap,junk,by rw [List.length_set,hc],hB,?_,?_⟩,?_⟩
 ·rw [List.set_append_left _ _ hlt,aKh E.pos hu ho css i (by omega)] at a'
  exact a'
 ·rw [List.length_append] at hl ⊢
  rw [Enc.flat_length] at hl ⊢
  rw [List.length_set];exact hl
 ·have h3:E.all (b::M) w' css l:=ha.mono fun _ _ hr=>E.step hr c (fun b hb=>.inl (by simp at hb;subst hb;simp)) (fun b hb=>.inl hb)
  exact All2.set (r:=fun (c:Vec E.k) x=>E.rel (b::M) w' c.1 x) (a:=(css[i]'(by omega)).set o u hu) (hn w' c) h3 i
theorem SlR.nil_of {n cap:Nat} (h:SlR E M w (.slice none n cap) l):l= []:=by
 obtain ⟨css,⟨h1,base,c,hv,_,h2⟩,h3,_⟩:=h
 rcases Nat.eq_zero_or_pos l.length with h4|h4
 ·exact List.length_eq_zero_iff.1 h4
 ·have h5:=h3.length
  rw [Enc.flat_length] at h2
  obtain ⟨a,ha,_⟩:=h2 (Nat.mul_pos (by omega) E.pos)
  injection hv with e1;subst e1;cases ha
theorem bD.empty {b:Nat} (hB:B≤b) (h:At w b (.cells #[] t (0,0))):bD E t B M w (.slice (some ⟨b,0,none⟩) 0 0) []:=
 ⟨[],.inr ⟨b,0, [],rfl,hB,h,by simp [Enc.flat]⟩,.nil⟩
theorem bD.sub (h:bD E t B M w v l) (hm:∀b∈M',b∈M∨w.heap.size≤b):bD E t B M' w v l:=h.step (Chg.refl [] w) (by simp) hm
theorem aWo {css:List (Vec E.k)} (h:E.all M w css l) (c:Ext w w'):E.all M w' css l:=h.mono fun _ _ hr=>R.ext hr c
theorem bD.one (h:bD E t B M w v l):v.oneCell'=true:=by
 obtain ⟨css,h1,_⟩:=h
 rcases h1 with ⟨rfl,_⟩|⟨b,cap,junk,rfl,_⟩<;>rfl
theorem SlR.one (h:SlR E M w v l):v.oneCell'=true:=by
 obtain ⟨_,_,rfl⟩:=h.form;rfl
end
end
section
open Go
def spends (x:Ent) (p:Pt):Bool:=x.tx.ins.any fun i=>decide (i.p=p)
section
variable {l:List Ent} {m:List Bool} (h:l.length=m.length) {i:Nat} (hi:i<l.length)
include h hi
end
end
section
open Go
section
variable {base:Nat→Bool} {edge:Nat→Nat→Bool} {n:Nat}
end
section
variable {base:Nat→Bool} {edge:Nat→Nat→Bool} {n:Nat} {m:List Bool}
end
end
end Go.K
section
namespace Go.Proofs
open Go.Shelf Go.RowKit Go.Lib Go.Sort
variable {P:Program} {ρ:Ren} {α:Type} [Inhabited α]
end Go.Proofs
namespace Go.Proofs.YtgloknkcfchnlabGreatDoor
open Go Go.K
attribute [local irreducible] aG aK aU KOp.wp K.Spec u32 leS vnS str aN cV bH idT
theorem aD2 {α:Type} {l m:List α} {i:Nat} (h:l.take i=m.take i) (h1:i<l.length) (h2:i<m.length) (e:l[i]=m[i]):l.take (i+1)=m.take (i+1):=by
 rw [List.take_succ_eq_append_getElem h1,List.take_succ_eq_append_getElem h2,h,e]
end Go.Proofs.YtgloknkcfchnlabGreatDoor
end
namespace Go.K
section
open Go
end
section
open Go
def sc9:List UInt8:= [1,1,0,0,0,0,0,0,0]
def aZi (L:List UInt8) (m:Nat):Tx:=⟨2, [⟨⟨str L,0⟩,4294967293, []⟩], [⟨1000,str sc9⟩],(m:Nat)⟩
def idL (n:Nat):List UInt8:=(List.range 32).map fun i=>UInt8.ofNat (n / 2^(i%8))^^^UInt8.ofNat i
def r80:List UInt8:= [25,42,22,115,193,51,64,181,222,26,82,10,253,151,117,98,228,107,119,5,141,58,45,0,248,199,16,181,194,251,33,230]
end
end Go.K
