/- Contracts: a block of a digest by the reference. Plain: what a transaction is told by, and its size. Contracts: digests by the reference; ids and sizes of transactions. The engine, part 16: stores into elements of slices of the function's own; slices cut from their head on. Contracts: ids and sizes; copies; slices of texts. -/
import Derived.Test.YtfebcajheojodaaGreatDoorDc16
set_option linter.unusedVariables false
set_option linter.unusedSimpArgs false
section
namespace Go.Proofs.YtfebcajheojodaaGreatDoor
open Go Go.K
attribute [local irreducible] regK codeK retK KOp.wp K.Spec u32 leS vnS str zero32 wseq wCs schR schA blkW partW kTab rnds runP padL padZ addN shN outW catB leL
theorem rk_spec (w:World):K.Spec Tryz.prog F.kedgeref04_k [] w fun r w'=>r=.agg (wCs kTab).toArray∧Ext w w':=by
 refine s_kedgeref04_k rfl ?_
 unfold k_kedgeref04_k
 refine oy ?_
 repeat' (first|(refine st_build (cs:=wCs kTab) (by kernel_rfl) ?_)|(first|refine go1 ?_|refine zg (fun _ _=>?_)|refine zi (fun _ _=>?_))|(refine zH (fun b w1 x1 a1 hb=>?_))|refine st_setN (w0:=w) (vs:=wCs kTab) (by exact fx) (Nat.le_trans (by exact fx) hb) (by focus (repeat (first|assumption|(apply At.ext;assumption)))) rfl rfl (by kernel_rfl) (by kernel_rfl) (wCs_one _) (fun w5 x5 c5 a5 r5=>?_))
 exact x_ret (ret1 (rv_cell r5 rfl (by kernel_rfl))) ⟨rfl,x5⟩
structure BlkI (w:World) (b2 b4 b5 b6:Nat) (H:S8) (X:List W32) (w':World):Prop where
 x:Ext w w'
 a2:At w' b2 (.cells (wCs H.l).toArray T.n_8_uint32 (0,0))
 a4:At w' b4 (.cells (ZR 8).toArray T.n_8_uint32 (0,0))
 a5:At w' b5 (.cells (wCs X).toArray T.n_64_uint32 (0,0))
 a6:At w' b6 (.cells (wCs kTab).toArray T.n_64_uint32 (0,0))
section
variable {w w' w'':World} {b2 b4 b5 b6 b:Nat} {H:S8} {X Y:List W32}
theorem BlkI.e (c:Ext w' w'') (h:BlkI w b2 b4 b5 b6 H X w'):BlkI w b2 b4 b5 b6 H X w'':=⟨h.x.trans c,h.a2.ext c,h.a4.ext c,h.a5.ext c,h.a6.ext c⟩
theorem BlkI.c (h:BlkI w b2 b4 b5 b6 H X w') (c:Chg [b] w' w'') (h0:w.heap.size≤b) (h2:b2≠b) (h4:b4≠b) (h5:b5≠b) (h6:b6≠b):BlkI w b2 b4 b5 b6 H X w'':=
 ⟨(h.x.chg c).mono (by intro y hy;simp at hy;right;omega),At.chg c h.a2 (by simpa using h2),At.chg c h.a4 (by simpa using h4),At.chg c h.a5 (by simpa using h5),At.chg c h.a6 (by simpa using h6)⟩
theorem BlkI.s (h:BlkI w b2 b4 b5 b6 H X w') (c:Chg [b5] w' w'') (a:At w'' b5 (.cells (wCs Y).toArray T.n_64_uint32 (0,0))) (h0:w.heap.size≤b5) (h2:b2≠b5) (h4:b4≠b5) (h6:b6≠b5):BlkI w b2 b4 b5 b6 H Y w'':=
 ⟨(h.x.chg c).mono (by intro y hy;simp at hy;right;omega),At.chg c h.a2 (by simpa using h2),At.chg c h.a4 (by simpa using h4),a,At.chg c h.a6 (by simpa using h6)⟩
theorem BlkI.r2 (h:BlkI w b2 b4 b5 b6 H X w'):Row w' ⟨b2,0,none⟩ (wCs H.l):=Row.of_at h.a2
theorem BlkI.r5 (h:BlkI w b2 b4 b5 b6 H X w'):Row w' ⟨b5,0,none⟩ (wCs X):=Row.of_at h.a5
theorem BlkI.r6 (h:BlkI w b2 b4 b5 b6 H X w'):Row w' ⟨b6,0,none⟩ (wCs kTab):=Row.of_at h.a6
end
theorem tOne_eq (s:S8) (k x:W32):wAt s.l 7+(rot (wAt s.l 4) 6^^^rot (wAt s.l 4) 11^^^rot (wAt s.l 4) 25)+(wAt s.l 4&&& wAt s.l 5^^^ ~~~(wAt s.l 4)&&& wAt s.l 6)+k+x=tOne s k x:=rfl
theorem tTwo_eq (s:S8):(rot (wAt s.l 0) 2^^^rot (wAt s.l 0) 13^^^rot (wAt s.l 0) 22)+(wAt s.l 0&&& wAt s.l 1^^^wAt s.l 0&&& wAt s.l 2^^^wAt s.l 1&&& wAt s.l 2)=tTwo s:=rfl
theorem schZ (B:List W32):List.replicate 64 (Value.int .u32 0)=wCs (schA B 0):=by
 rw [schA_lt (by decide),schR_zero,←wz64]
theorem rlen {X:S8} {c:Nat}:(wCs (shN X.l c)).length=8:=by rw [wCs_len,shN_length]
set_option maxHeartbeats 8000000 in
theorem block_spec (H:S8) {v:Value} {l:List UInt8} (hl:l.length=64) (w:World) (hv:SlE u8E w v l):K.Spec Tryz.prog F.kedgeref04_block [.agg (wCs H.l).toArray,v] w fun r w'=>r=.agg (wCs (comp H l).l).toArray∧Ext w w':=by
 refine s_kedgeref04_block rfl ?_
 unfold k_kedgeref04_block
 refine oy ?_
 repeat (first|refine go ?_|refine zg (fun _ _=>?_)|refine zi (fun _ _=>?_))
 refine zD rfl rfl (fun b2 w2 x2 a2 r2 hb2=>?_)
 repeat (first|refine go ?_|refine zg (fun _ _=>?_)|refine zi (fun _ _=>?_))
 refine zH (fun b4 w4 x4 (a4:At w4 b4 (.cells (ZR 8).toArray T.n_8_uint32 (0,0))) hb4=>?_)
 repeat (first|refine go ?_|refine zg (fun _ _=>?_)|refine zi (fun _ _=>?_))
 refine zH (fun b5 w5 x5 (a5:At w5 b5 (.cells (ZR 64).toArray T.n_64_uint32 (0,0))) hb5=>?_)
 rw [ZR,schZ (blkW l)] at a5
 repeat (first|refine go ?_|refine zg (fun _ _=>?_)|refine zi (fun _ _=>?_))
 refine zC rfl (rk_spec _) ?_
 rintro _ w6 ⟨rfl,x6⟩
 repeat (first|refine go ?_|refine zg (fun _ _=>?_)|refine zi (fun _ _=>?_))
 refine zH (fun b6 w7 x7 (a6:At w7 b6 (.cells (ZR 64).toArray T.n_64_uint32 (0,0))) hb6=>?_)
 repeat (first|refine go ?_|refine zg (fun _ _=>?_)|refine zi (fun _ _=>?_))
 have l2:=a2.lt
 have l4:=a4.lt
 have l5:=a5.lt
 have l6:=a6.lt
 have s6:=x6.size
 have h24:b2<b4:=by omega
 have h45:b4<b5:=by omega
 have h56:b5<b6:=by omega
 refine st_storeN0 (vs:=wCs kTab) rfl rfl (by kernel_rfl) (all_one (wCs_one _)) a6 rfl (fun w8 c8 a8=>?_)
 have hI:BlkI w b2 b4 b5 b6 H (schA (blkW l) 0) w8:=⟨(Ext.chg (w:=w) (by exact fx) c8).mono (by have:=x2.size;have:=x4.size;have:=x5.size;intro y hy;simp at hy;right;omega),At.chg c8 (by focus (repeat (first|assumption|(apply At.ext;assumption)))) (by simp;omega),At.chg c8 (by focus (repeat (first|assumption|(apply At.ext;assumption)))) (by simp;omega),At.chg c8 (by focus (repeat (first|assumption|(apply At.ext;assumption)))) (by simp;omega),a8⟩
 have g5:w.heap.size≤b5:=by have:=x2.size;have:=x4.size;omega
 clear x2 a2 r2 x4 a4 x5 a5 x6 x7 a6 c8 a8
 repeat' (first|(first|refine zF (qRot_eq _ .u64 7 (by decide) (by decide)) ?_)|(first|refine zF (qRot_eq _ .u64 18 (by decide) (by decide)) ?_)|(first|refine zF (qRot_eq _ .u64 17 (by decide) (by decide)) ?_)|(first|refine zF (qRot_eq _ .u64 19 (by decide) (by decide)) ?_)|refine st_wShr 3 (by decide) rfl rfl ?_|refine st_wShr 10 (by decide) rfl rfl ?_|(refine st_mul rfl rfl (by omega) ?_)|(refine st_wMul (b:=BitVec.ofNat 32 16777216) rfl (by unfold u32;rfl) ?_)|(refine st_wMul (b:=BitVec.ofNat 32 65536) rfl (by unfold u32;rfl) ?_)|(refine st_wMul (b:=BitVec.ofNat 32 256) rfl (by unfold u32;rfl) ?_)|(first|refine st_wAdd rfl rfl ?_|refine st_wXor rfl rfl ?_|refine st_wAnd rfl rfl ?_|refine st_wOr rfl rfl ?_|refine st_wNot rfl ?_|refine st_wByte rfl ?_)|(refine st_arr (i - 15) rfl (congrArg (Value.int .i64) (by omega)) (by omega) ?_)|(refine st_arr (i - 2) rfl (congrArg (Value.int .i64) (by omega)) (by omega) ?_)|(refine st_arr (i - 16) rfl (congrArg (Value.int .i64) (by omega)) (by omega) ?_)|(refine st_arr (i - 7) rfl (congrArg (Value.int .i64) (by omega)) (by omega) ?_)|(refine st_arr i rfl rfl (by omega) ?_)|(refine st_ldW (ad:=⟨b5,0,none⟩) (l:=schA (blkW l) i) _ rfl (BlkI.r5 (BlkI.e (w':=w10) (by exact fx) hQ)) (by rw [schA_length (by omega)];omega) ?_)|(first|refine go1 ?_|refine zg (fun _ _=>?_)|refine zi (fun _ _=>?_))|refine zL rfl (fun h=>?_) (fun h=>?_)|(refine st_elemE (n:=4*i) (l:=l) rfl (congrArg (Value.int .i64) (by omega)) (SlE.ext (w:=w9) (by exact fx) hv2) rfl (by omega) (fun ad r7=>?_))|(refine st_elemE (n:=4*i+1) (l:=l) rfl (congrArg (Value.int .i64) (by omega)) (SlE.ext (w:=w9) (by exact fx) hv2) rfl (by omega) (fun ad r7=>?_))|(refine st_elemE (n:=4*i+2) (l:=l) rfl (congrArg (Value.int .i64) (by omega)) (SlE.ext (w:=w9) (by exact fx) hv2) rfl (by omega) (fun ad r7=>?_))|(refine st_elemE (n:=4*i+3) (l:=l) rfl (congrArg (Value.int .i64) (by omega)) (SlE.ext (w:=w9) (by exact fx) hv2) rfl (by omega) (fun ad r7=>?_))|(refine c_loopV (fun (i:Nat) w'=>BlkI w b2 b4 b5 b6 H (schA (blkW l) i) w'∧i≤16) (fun i=> [(1,v),(2,.pointer (some ⟨b2,0,none⟩)),(4,.pointer (some ⟨b4,0,none⟩)),(5,.pointer (some ⟨b5,0,none⟩)),(6,.pointer (some ⟨b6,0,none⟩)),(7,.int .i64 i)]) (fun i=>16 - i) 0 ⟨rfl,rfl,rfl,rfl,rfl,rfl,trivial⟩ ⟨hI,by omega⟩ ?_;rintro i ρ w9 ⟨hJ,hi⟩;have hv2:=hv.ext hJ.x;have a5:=hJ.a5)|(refine c_loopV (fun (i:Nat) w'=>BlkI w b2 b4 b5 b6 H (schA (blkW l) i) w'∧16≤i∧i≤64) (fun i=> [(2,.pointer (some ⟨b2,0,none⟩)),(4,.pointer (some ⟨b4,0,none⟩)),(5,.pointer (some ⟨b5,0,none⟩)),(6,.pointer (some ⟨b6,0,none⟩)),(8,.int .i64 i)]) (fun i=>64 - i) 16 ⟨rfl,rfl,rfl,rfl,rfl,trivial⟩ ⟨by rw [show 16=i by omega];exact hJ,by omega,by omega⟩ ?_;clear hJ hi hv2 a5 h;clear i;rintro i ρ9 w10 ⟨hQ,hi,hi2⟩;have a5:=hQ.a5)|(refine st_store rfl rfl (u32_one _) (by focus (repeat (first|assumption|(apply At.ext;assumption)))) (by rw [wCs_len,schA_length (by omega)];omega) (fun w11 c11 a11=>?_)))
 ·refine ⟨i+1,⟨rfl,rfl,rfl,rfl,rfl,rfl,trivial⟩,⟨BlkI.s (BlkI.e (w':=w9) (by exact fx) hJ) c11 ?_ g5 (by omega) (by omega) (by omega),by omega⟩,by omega⟩
  rw [←sch_lo (by omega),←be_at (by omega) hl]
  exact a11
 ·refine ⟨i+1,⟨rfl,rfl,rfl,rfl,rfl,trivial⟩,⟨BlkI.s (BlkI.e (w':=w10) (by exact fx) hQ) c11 ?_ g5 (by omega) (by omega) (by omega),by omega,by omega⟩,by omega⟩
  rw [←sch_step (by omega) (by omega)]
  exact a11
 obtain rfl:i=64:=by omega
 clear a5
 rw [schA_64] at hQ
 generalize hW:wseq (blkW l) 64=W at hQ
 have lW:W.length=64:=by rw [←hW,wseq_length]
 refine st_lN0 (n:=8) (l:=wCs H.l) rfl hQ.r2 (by rw [wCs_len];exact Nat.le_refl _) (List.take_of_length_le (by rw [wCs_len];exact Nat.le_refl _)) ?_
 repeat (first|refine go ?_|refine zg (fun _ _=>?_)|refine zi (fun _ _=>?_))
 refine zH (fun b13 w11 x11 (a13:At w11 b13 (.cells (ZR 8).toArray T.n_8_uint32 (0,0))) hb13=>?_)
 have l5':=hQ.a5.lt
 have l6':=hQ.a6.lt
 repeat (first|refine go ?_|refine zg (fun _ _=>?_)|refine zi (fun _ _=>?_))
 refine st_storeN0 (vs:=wCs H.l) rfl rfl (by rw [wCs_len];rfl) (all_one (wCs_one _)) (cur:=ZR 8) a13 rfl (fun w12 c12 a12=>?_)
 have hR:=BlkI.c (BlkI.e x11 hQ) c12 (by have:=hQ.x.size;omega) (by omega) (by omega) (by omega) (by omega)
 have g13:w.heap.size≤b13:=by have:=hQ.x.size;omega
 clear hQ x11 a13 c12
 repeat' (first|(first|refine zF (qRot_eq _ .u64 6 (by decide) (by decide)) ?_)|(first|refine zF (qRot_eq _ .u64 11 (by decide) (by decide)) ?_)|(first|refine zF (qRot_eq _ .u64 25 (by decide) (by decide)) ?_)|(first|refine zF (qRot_eq _ .u64 2 (by decide) (by decide)) ?_)|(first|refine zF (qRot_eq _ .u64 13 (by decide) (by decide)) ?_)|(first|refine zF (qRot_eq _ .u64 22 (by decide) (by decide)) ?_)|(first|refine st_wAdd rfl rfl ?_|refine st_wXor rfl rfl ?_|refine st_wAnd rfl rfl ?_|refine st_wOr rfl rfl ?_|refine st_wNot rfl ?_|refine st_wByte rfl ?_)|(refine st_arr 0 rfl rfl (by decide) ?_)|(refine st_arr 1 rfl rfl (by decide) ?_)|(refine st_arr 2 rfl rfl (by decide) ?_)|(refine st_arr 4 rfl rfl (by decide) ?_)|(refine st_arr 5 rfl rfl (by decide) ?_)|(refine st_arr 6 rfl rfl (by decide) ?_)|(refine st_arr 7 rfl rfl (by decide) ?_)|(refine st_arr i rfl rfl (by omega) ?_)|(refine st_arr j rfl rfl (by omega) ?_)|(refine st_arr (6 - c) rfl (congrArg (Value.int .i64) (by omega)) (by omega) ?_)|(refine st_arr (7 - c) rfl (congrArg (Value.int .i64) (by omega)) (by omega) ?_)|(refine st_ldW (ad:=⟨b6,0,none⟩) (l:=kTab) _ rfl (BlkI.r6 (BlkI.e (w':=w13) (by exact fx) hS)) (by rw [kTab_len];omega) ?_)|(refine st_ldW (ad:=⟨b5,0,none⟩) (l:=W) _ rfl (BlkI.r5 (BlkI.e (w':=w13) (by exact fx) hS)) (by rw [lW];omega) ?_)|(refine st_ldW (ad:=⟨b2,0,none⟩) (l:=H.l) _ rfl (BlkI.r2 (BlkI.e (w':=w18) (by exact fx) hV)) (by rw [l8];omega) ?_)|(refine st_ldW (ad:=⟨b13,0,none⟩) (l:=shN (rnds W H i).l c) _ rfl (Row.of_at (t:=T.n_8_uint32) (f:=(0,0)) (by focus (repeat (first|assumption|(apply At.ext;assumption))))) (by rw [shN_length];omega) ?_)|(refine st_ldW (ad:=⟨b13,0,none⟩) (l:=addN (rnds W H 64).l H.l j) _ rfl (Row.of_at (t:=T.n_8_uint32) (f:=(0,0)) (by focus (repeat (first|assumption|(apply At.ext;assumption))))) (by rw [addN_length];omega) ?_)|(refine st_ldW (ad:=⟨b13,0,none⟩) (l:=(rnds W H i).l) _ rfl (Row.of_at (t:=T.n_8_uint32) (f:=(0,0)) (by focus (repeat (first|assumption|(apply At.ext;assumption))))) (by rw [l8];omega) ?_)|(first|refine go1 ?_|refine zg (fun _ _=>?_)|refine zi (fun _ _=>?_))|refine zL rfl (fun h=>?_) (fun h=>?_)|(refine c_loopV (fun (i:Nat) w'=>BlkI w b2 b4 b5 b6 H W w'∧i≤64∧At w' b13 (.cells (wCs (rnds W H i).l).toArray T.n_8_uint32 (0,0))) (fun i=> [(2,.pointer (some ⟨b2,0,none⟩)),(4,.pointer (some ⟨b4,0,none⟩)),(5,.pointer (some ⟨b5,0,none⟩)),(6,.pointer (some ⟨b6,0,none⟩)),(13,.pointer (some ⟨b13,0,none⟩)),(14,.int .i64 i)]) (fun i=>64 - i) 0 ⟨rfl,rfl,rfl,rfl,rfl,rfl,trivial⟩ ⟨hR,by omega,by rw [rnds_z];exact a12⟩ ?_;rintro i ρ13 w13 ⟨hS,hi,hx⟩)|(refine c_loopV (fun (c:Nat) w'=>BlkI w b2 b4 b5 b6 H W w'∧c≤7∧At w' b13 (.cells (wCs (shN (rnds W H i).l c)).toArray T.n_8_uint32 (0,0))) (fun c=> [(2,.pointer (some ⟨b2,0,none⟩)),(4,.pointer (some ⟨b4,0,none⟩)),(5,.pointer (some ⟨b5,0,none⟩)),(6,.pointer (some ⟨b6,0,none⟩)),(13,.pointer (some ⟨b13,0,none⟩)),(14,.int .i64 i),(18,u32 (tOne (rnds W H i) (wAt kTab i) (wAt W i))),(19,u32 (tTwo (rnds W H i))),(20,.int .i64 ((7:Int) - c))]) (fun c=>7 - c) 0 ⟨rfl,rfl,rfl,rfl,rfl,rfl,congrArg u32 (tOne_eq _ _ _),congrArg u32 (tTwo_eq _),rfl,trivial⟩ ⟨BlkI.e (w':=w13) (by exact fx) hS,by omega,by rw [show shN (rnds W H i).l 0=(rnds W H i).l from shN_zero _];focus (repeat (first|assumption|(apply At.ext;assumption)))⟩ ?_;rintro c ρ14 w14 ⟨hT,hc,hy⟩)|(refine c_loopV (fun (j:Nat) w'=>BlkI w b2 b4 b5 b6 H W w'∧j≤8∧At w' b13 (.cells (wCs (addN (rnds W H 64).l H.l j)).toArray T.n_8_uint32 (0,0))) (fun j=> [(2,.pointer (some ⟨b2,0,none⟩)),(4,.pointer (some ⟨b4,0,none⟩)),(13,.pointer (some ⟨b13,0,none⟩)),(21,.int .i64 j)]) (fun j=>8 - j) 0 ⟨rfl,rfl,rfl,rfl,trivial⟩ ⟨hS,by omega,by rw [addN_z,show 64=i by omega];exact hx⟩ ?_;rintro j ρ18 w18 ⟨hV,hj,hz⟩))
 ·have hc7:c<7:=by omega
  refine st_store rfl rfl (u32_one _) hy (by rw [rlen];omega) (fun w15 c15 a15=>?_)
  repeat (first|refine go ?_|refine zg (fun _ _=>?_)|refine zi (fun _ _=>?_))
  refine ⟨c+1,⟨rfl,rfl,rfl,rfl,rfl,rfl,rfl,rfl,congrArg (Value.int .i64) (by omega),trivial⟩,⟨BlkI.c hT c15 g13 (by omega) (by omega) (by omega) (by omega),by omega,?_⟩,by omega⟩
  rw [←sh_step (o:=7 - c) hc7 rfl]
  exact a15
 ·obtain rfl:c=7:=by omega
  refine st_store (o:=4*1) rfl rfl (u32_one _) hy (by rw [rlen];omega) (fun w15 c15 a15=>?_)
  repeat (first|refine go ?_|refine zg (fun _ _=>?_)|refine zi (fun _ _=>?_))
  (first|refine st_wAdd rfl rfl ?_|refine st_wXor rfl rfl ?_|refine st_wAnd rfl rfl ?_|refine st_wOr rfl rfl ?_|refine st_wNot rfl ?_|refine st_wByte rfl ?_)
  repeat (first|refine go ?_|refine zg (fun _ _=>?_)|refine zi (fun _ _=>?_))
  refine st_store (o:=0*1) rfl rfl (u32_one _) a15 (by rw [List.length_set,rlen];omega) (fun w16 c16 a16=>?_)
  repeat (first|refine go ?_|refine zg (fun _ _=>?_)|refine zi (fun _ _=>?_))
  refine ⟨i+1,⟨rfl,rfl,rfl,rfl,rfl,rfl,trivial⟩,⟨BlkI.c (BlkI.c hT c15 g13 (by omega) (by omega) (by omega) (by omega)) c16 g13 (by omega) (by omega) (by omega) (by omega),by omega,?_⟩,by omega⟩
  have e:=sh_end (rnds W H i) (tOne (rnds W H i) (wAt kTab i) (wAt W i)) (tTwo (rnds W H i))
  rw [rnds_s,rnd_l,←e,←wCs_set,←wCs_set]
  exact a16
 ·refine st_store rfl rfl (u32_one _) (At.ext (by assumption) hz) (by rw [wCs_len,addN_length];omega) (fun w19 c19 a19=>?_)
  repeat (first|refine go ?_|refine zg (fun _ _=>?_)|refine zi (fun _ _=>?_))
  refine ⟨j+1,⟨rfl,rfl,rfl,rfl,trivial⟩,⟨BlkI.c (BlkI.e (w':=w18) (by assumption) hV) c19 g13 (by omega) (by omega) (by omega) (by omega),by omega,?_⟩,by omega⟩
  rw [←add_step (by omega)]
  exact a19
 ·obtain rfl:j=8:=by omega
  rw [addN_eight] at hz
  refine st_lN0 (n:=8) (l:=wCs (add8 (rnds W H 64) H).l) rfl (Row.of_at hz) (by rw [wCs_len];exact Nat.le_refl _) (List.take_of_length_le (by rw [wCs_len];exact Nat.le_refl _)) ?_
  refine st_setN (w0:=w) (vs:=wCs (add8 (rnds W H 64) H).l) hV.x (by omega) hV.a4 rfl rfl (by rw [wCs_len];rfl) rfl (wCs_one _) (fun w20 x20 c20 a20 r20=>?_)
  repeat (first|refine go ?_|refine zg (fun _ _=>?_)|refine zi (fun _ _=>?_))
  refine x_ret (ret1 (rv_cell r20 rfl (by rw [wCs_len];rfl))) ⟨?_,x20⟩
  rw [comp,hW,add8_comm]
end Go.Proofs.YtfebcajheojodaaGreatDoor
end
section
namespace Go.K
open Go
def idT (t:Tx):ByteArray:=sha2 (encT false t)
def weightT (t:Tx):Nat:=3*(encT false t).size+(encT (witB t) t).size
def sizeT (t:Tx):Nat:=(weightT t+3) / 4
theorem idT_size (t:Tx):(idT t).size=32:=by unfold idT sha2;exact shaS_size _
theorem Tx.Sz.all {t:Tx} (h:t.Sz) (b:Bool):(encT b t).size≤3300000:=by
 have:=h.e4 b
 rw [encT,ByteArray.size_append,leS_size];omega
theorem Tx.Sz.weight {t:Tx} (h:t.Sz):weightT t≤13200000:=by
 have:=h.all false;have:=h.all (witB t)
 unfold weightT;omega
theorem Tx.Sz.size {t:Tx} (h:t.Sz):sizeT t≤3300001:=by
 have:=h.weight
 unfold sizeT;omega
end Go.K
end
section
namespace Go.Proofs.YtfebcajheojodaaGreatDoor
open Go Go.K
attribute [local irreducible] regK codeK retK KOp.wp K.Spec u32 leS vnS str zero32 wseq wCs schR schA blkW partW kTab rnds runP padL padZ addN shN outW catB leL shaS sha2 encT
section
variable {P:Program} {d:Option Tmp} {r:KR} {K:Env→World→Prop} {ρ:Env} {w:World}
theorem st_quo {x y:Operand} {n m:Nat} (hx:ev ρ x=.int .i64 (n:Nat)) (hy:ev ρ y=.int .i64 (m:Nat)) (h0:0<m) (hn:n<9223372036854775808) (k:regK P r K (put ρ d (.int .i64 ((n / m:Nat):Int))) w):regK P (.cons ⟨d,.bin .quo x y,none⟩ r) K ρ w:=
 st_bin hx hy (by
  have hne:(m:Int)≠0:=by omega
  simp only [binVal,isShift,Bool.false_eq_true,if_false,if_true,intBin]
  rw [td,if_neg hne]
  have h1:n / m≤n:=Nat.div_le_self n m
  generalize n / m=q at h1 ⊢
  rw [IntWalk.i64_in _ (by omega)]) k
end
set_option maxHeartbeats 2000000 in
theorem rdig_spec (s:ByteArray) (hs:s.size≤4000000) (w:World):K.Spec Tryz.prog F.kedgeref04_Sum [.string s] w fun r w'=>r=.string (shaS s)∧Ext w w':=by
 obtain ⟨N,hN⟩:∃N,(padL s.data.toList).length=64*N:=⟨_,padL_len s⟩
 have hl:=padL_le s
 generalize hm:padL s.data.toList=m at hN hl
 have hout:∀n j,(catB (fun x:W32=>str (leL x.toNat 4).reverse) ((runP m n).l.take j)).size≤32:=fun n j=>by
  have h1:=catB_size (fun x:W32=>str (leL x.toNat 4).reverse) 4 ((runP m n).l.take j) fun x _=>by rw [str_size,List.length_reverse,leL_length];exact Nat.le_refl _
  have h2:((runP m n).l.take j).length≤8:=by rw [List.length_take,l8];omega
  omega
 refine s_kedgeref04_Sum rfl ?_
 unfold k_kedgeref04_Sum
 refine oy ?_
 repeat' (first|(refine st_build (cs:=s8Init.cs) (by kernel_rfl) ?_)|(refine st_ldW (ad:=⟨b3,0,none⟩) (l:=(runP m n).l) j rfl (Row.of_at (t:=T.n_8_uint32) (f:=(0,0)) (by focus (repeat (first|assumption|(apply At.ext;assumption))))) (by rw [l8];omega) ?_;have hj8:j<8:=(by omega))|(refine st_arr j rfl rfl (by omega) ?_)|(refine st_wShr 24 (by decide) rfl rfl ?_)|(refine st_wShr 16 (by decide) rfl rfl ?_)|(refine st_wShr 8 (by decide) rfl rfl ?_)|(refine st_wU8 rfl ?_)|(first|refine go1 ?_|refine zg (fun _ _=>?_)|refine zi (fun _ _=>?_))|refine zL rfl (fun h=>?_) (fun h=>?_)|(refine zH (fun b3 w1 x1 a1 hb3=>?_))|(refine st_storeN0 (vs:=s8Init.cs) rfl rfl rfl (all_one (cs_one _)) (cur:=ZR 8) a1 rfl (fun w2 c2 a2=>?_);have x2:Ext w w2:=(Ext.chg x1 c2).mono (by intro y hy;simp at hy;right;omega);rw [S8.cs_eq] at a2)|(refine zC rfl (pad_spec s hs _) ?_;rintro v w3 ⟨hv,x3,hvb⟩;rw [hm] at hv;have l3:=a2.lt)|(refine st_len rfl (SlE.ext (w:=w4) (by exact fx) hv4) ?_)|(refine c_loopV (fun (n:Nat) w'=>Ext w w'∧SlE u8E w' v m∧n≤N∧At w' b3 (.cells (wCs (runP m n).l).toArray T.n_8_uint32 (0,0))) (fun n=> [(2,.string ⟨#[]⟩),(3,.pointer (some ⟨b3,0,none⟩)),(4,v),(5,.int .i64 ((64*n:Nat):Int))]) (fun n=>N - n) 0 ⟨rfl,rfl,rfl,rfl,trivial⟩ ⟨by exact fx,hv,by omega,by rw [run_z];focus (repeat (first|assumption|(apply At.ext;assumption)))⟩ ?_;rintro n ρ w4 ⟨x4,hv4,hn,h3⟩)|(refine c_loopV (fun (j:Nat) w'=>Ext w4 w'∧j≤8) (fun j=> [(3,.pointer (some ⟨b3,0,none⟩)),(6,.string (catB (fun x:W32=>str (leL x.toNat 4).reverse) ((runP m n).l.take j))),(7,.int .i64 j)]) (fun j=>8 - j) 0 ⟨rfl,congrArg Value.string (by rw [List.take_zero,catB_nil]),rfl,trivial⟩ ⟨Ext.refl _,by omega⟩ ?_;rintro j ρ8 w8 ⟨x8,hj⟩;have hz:=hout n j)|(refine st_lN0 (n:=8) (l:=wCs (runP m n).l) rfl (Row.of_at (t:=T.n_8_uint32) (f:=(0,0)) (by focus (repeat (first|assumption|(apply At.ext;assumption))))) (by rw [wCs_len];exact Nat.le_refl _) (by rw [List.take_of_length_le];rw [wCs_len];exact Nat.le_refl _) ?_))
 ·have hn2:n<N:=by omega
  refine st_sliceE (lo:=64*n) (hi:=64*n+64) rfl rfl (congrArg (Value.int .i64) (by omega)) (SlE.ext (w:=w4) (by exact fx) hv4) (by omega) (by omega) rfl (fun v5 hv5 _=>?_)
  refine zC rfl (block_spec (runP m n) (by rw [List.length_take,List.length_drop];omega) _ hv5) ?_
  rintro _ w6 ⟨rfl,x6⟩
  have e:comp (runP m n) ((m.drop (64*n)).take (64*n+64 - 64*n))=runP m (n+1):=by
   rw [show 64*n+64 - 64*n=64 by omega,comp_take,run_s,comp]
  rw [e]
  refine st_storeN0 (vs:=wCs (runP m (n+1)).l) rfl rfl (by rw [wCs_len];rfl) (all_one (wCs_one _)) (cur:=wCs (runP m n).l) (by focus (repeat (first|assumption|(apply At.ext;assumption)))) (by rw [wCs_len];rfl) (fun w7 c7 a7=>?_)
  repeat (first|refine go ?_|refine zg (fun _ _=>?_)|refine zi (fun _ _=>?_))
  exact ⟨n+1,⟨rfl,rfl,rfl,congrArg (Value.int .i64) (by omega),trivial⟩,⟨(Ext.chg (w:=w) (by exact fx) c7).mono (by intro y hy;simp at hy;right;omega),SlE.chg c7 (SlE.ext (w:=w4) (by exact fx) hv4) (fun a m c e hm=>by have:=hvb a.block (by rw [e];simp [blkOf]);simp at hm;omega),by omega,a7⟩,by omega⟩
 ·refine zI rfl (fun b w9 x9 a9 hb9=>?_)
  refine st_strU (l:= [UInt8.ofNat (wAt (runP m n).l j>>>24).toNat,UInt8.ofNat (wAt (runP m n).l j>>>16).toNat,UInt8.ofNat (wAt (runP m n).l j>>>8).toNat,UInt8.ofNat (wAt (runP m n).l j).toNat]) rfl (SlE.new (E:=u8E) a9 rfl (Nat.le_refl _)) ?_
  rw [be4]
  refine st_catS rfl rfl (by rw [str_size,List.length_reverse,leL_length];omega) ?_
  repeat (first|refine go ?_|refine zg (fun _ _=>?_)|refine zi (fun _ _=>?_))
  refine ⟨j+1,⟨rfl,congrArg Value.string ?_,rfl,trivial⟩,⟨by exact fx,by omega⟩,by omega⟩
  have hjl:j<(runP m n).l.length:=by rw [l8];omega
  have e:wAt (runP m n).l j=(runP m n).l[j]:=by unfold wAt;rw [List.getD_eq_getElem?_getD,List.getElem?_eq_getElem hjl];rfl
  rw [catB_take _ hjl,←e]
 ·have hn2:n=N:=by omega
  subst hn2
  refine x_ret rfl ⟨congrArg Value.string ?_,by exact fx⟩
  rw [List.take_of_length_le (by rw [l8];omega),shaS,hm,hN,Nat.mul_div_cancel_left _ (by decide),outW]
theorem rtwice_spec (s:ByteArray) (hs:s.size≤4000000) (w:World):K.Spec Tryz.prog F.kedgeref04_Twice [.string s] w fun r w'=>r=.string (sha2 s)∧Ext w w':=by
 refine s_kedgeref04_Twice rfl ?_
 unfold k_kedgeref04_Twice
 refine oy ?_
 repeat' (first|(first|refine go1 ?_|refine zg (fun _ _=>?_)|refine zi (fun _ _=>?_))|(refine zC rfl (rdig_spec s hs _) ?_;rintro _ w1 ⟨rfl,x1⟩)|(refine zC rfl (rdig_spec (shaS s) (by rw [shaS_size];decide) _) ?_;rintro _ w2 ⟨rfl,x2⟩))
 exact x_ret rfl ⟨by rw [sha2];rfl,by exact fx⟩
theorem rbytesT {M:List Nat} {cs:List Value} {t:Tx} (w:World) (ht:txR.rel M w cs t) (hs:t.Sz):K.Spec Tryz.prog F.kedgeref06_Bytes [.agg cs.toArray,.bool true] w fun r w'=>r=.string (encT false t)∧Ext w w':=rbytes_spec true w ht hs
theorem rbytesF {M:List Nat} {cs:List Value} {t:Tx} (w:World) (ht:txR.rel M w cs t) (hs:t.Sz):K.Spec Tryz.prog F.kedgeref06_Bytes [.agg cs.toArray,.bool false] w fun r w'=>r=.string (encT (witB t) t)∧Ext w w':=rbytes_spec false w ht hs
theorem rid_spec {M:List Nat} {cs:List Value} {t:Tx} (w:World) (ht:txR.rel M w cs t) (hs:t.Sz):K.Spec Tryz.prog F.kedgeref07_ID [.agg cs.toArray] w fun r w'=>r=.string (idT t)∧Ext w w':=by
 have ht0:=ht
 obtain ⟨iv,ov,rfl,hi,ho,hv,hl⟩:=ht
 refine s_kedgeref07_ID rfl ?_
 unfold k_kedgeref07_ID
 refine oy ?_
 repeat' (first|(first|refine go1 ?_|refine zg (fun _ _=>?_)|refine zi (fun _ _=>?_))|(first|refine zD rfl rfl (fun bp wp xp ap rp hp0=>?_)|refine zE (fun _=>rfl) rfl rfl rfl (fun bq wq xq aq rq hq0=>?_))|(refine zC rfl (rbytesT (M:=M) _ (cs:=txCs t iv ov) (by exact fx) hs) ?_;rintro _ w1 ⟨rfl,x1⟩)|(refine zC rfl (rtwice_spec (encT false t) (by have:=hs.all false;omega) _) ?_;rintro _ w2 ⟨rfl,x2⟩))
 exact x_ret rfl ⟨by rw [idT];rfl,by exact fx⟩
theorem rweight_spec {M:List Nat} {cs:List Value} {t:Tx} (w:World) (ht:txR.rel M w cs t) (hs:t.Sz):K.Spec Tryz.prog F.kedgeref07_Weight [.agg cs.toArray] w fun r w'=>r=.int .i64 (weightT t:Nat)∧Ext w w':=by
 have ht0:=ht
 obtain ⟨iv,ov,rfl,hi,ho,hv,hl⟩:=ht
 have h1:=hs.all false
 have h2:=hs.all (witB t)
 refine s_kedgeref07_Weight rfl ?_
 unfold k_kedgeref07_Weight
 refine oy ?_
 repeat' (first|(refine st_mul rfl rfl (by omega) ?_)|(first|refine go1 ?_|refine zg (fun _ _=>?_)|refine zi (fun _ _=>?_))|(first|refine zD rfl rfl (fun bp wp xp ap rp hp0=>?_)|refine zE (fun _=>rfl) rfl rfl rfl (fun bq wq xq aq rq hq0=>?_))|(refine zC rfl (rbytesT (M:=M) _ (cs:=txCs t iv ov) (by exact fx) hs) ?_;rintro _ w1 ⟨rfl,x1⟩)|(refine zC rfl (rbytesF (M:=M) _ (cs:=txCs t iv ov) (by exact fx) hs) ?_;rintro _ w2 ⟨rfl,x2⟩))
 exact x_ret rfl ⟨congrArg (Value.int .i64) (by rw [weightT];omega),by exact fx⟩
theorem rsize_spec {M:List Nat} {cs:List Value} {t:Tx} (w:World) (ht:txR.rel M w cs t) (hs:t.Sz):K.Spec Tryz.prog F.kedgeref07_Size [.agg cs.toArray] w fun r w'=>r=.int .i64 (sizeT t:Nat)∧Ext w w':=by
 have ht0:=ht
 obtain ⟨iv,ov,rfl,hi,ho,hv,hl⟩:=ht
 have h1:=hs.weight
 refine s_kedgeref07_Size rfl ?_
 unfold k_kedgeref07_Size
 refine oy ?_
 repeat' (first|(refine st_rem (n:=weightT t) (m:=4) rfl rfl (by decide) ?_)|(refine st_quo (n:=weightT t) (m:=4) rfl rfl (by decide) (by omega) ?_)|(first|refine go1 ?_|refine zg (fun _ _=>?_)|refine zi (fun _ _=>?_))|(first|refine zD rfl rfl (fun bp wp xp ap rp hp0=>?_)|refine zE (fun _=>rfl) rfl rfl rfl (fun bq wq xq aq rq hq0=>?_))|refine zL rfl (fun h=>?_) (fun h=>?_)|(refine zC rfl (rweight_spec (M:=M) _ (cs:=txCs t iv ov) (by exact fx) hs) ?_;rintro _ w1 ⟨rfl,x1⟩))
 all_goals exact x_ret rfl ⟨congrArg (Value.int .i64) (by rw [sizeT];omega),by exact fx⟩
end Go.Proofs.YtfebcajheojodaaGreatDoor
end
section
namespace Go.K
open Go
variable {P:Program}
def Vec.set {k:Nat} (c:Vec k) (o:Nat) (u:Value) (hu:u.oneCell'=true):Vec k:=
 ⟨c.1.set o u,by rw [List.length_set];exact c.2.1,fun v hv=>by
  rcases List.mem_or_eq_of_mem_set hv with h|h
  ·exact c.2.2 v h
  ·rw [h];exact hu⟩
theorem flat_set {k:Nat} (hk:0<k) {u:Value} (hu:u.oneCell'=true) {o:Nat} (ho:o<k):∀(css:List (Vec k)) (i:Nat) (h:i<css.length),((vecE k hk).flat css).set (i*k+o) u=(vecE k hk).flat (css.set i (css[i].set o u hu))
 |c::css,0,_=>by
  have hc:c.1.length=k:=c.2.1
  simp only [Enc.flat,List.flatMap_cons,List.set_cons_zero,List.getElem_cons_zero,Nat.zero_mul,Nat.zero_add]
  rw [List.set_append_left _ _ (by show o<c.1.length;omega)]
  rfl
 |c::css,i+1,h=>by
  have hc:c.1.length=k:=c.2.1
  have ih:=flat_set hk hu ho css i (by simpa using h)
  simp only [Enc.flat,List.flatMap_cons,List.set_cons_succ,List.getElem_cons_succ] at ih ⊢
  have e:(vecE k hk).f c=c.1:=rfl
  rw [e,List.set_append_right _ _ (by rw [hc,Nat.add_mul];omega),hc,←ih]
  congr 2
  rw [Nat.add_mul];omega
section
variable {α:Type} {E:R α} {M M' L:List Nat} {w w':World} {t:TypeId} {B:Nat} {v:Value} {l:List α}
theorem All2.set {α β:Type} {r:α→β→Prop} {a:α} {b:β} (hr:r a b):∀{l:List α} {m:List β},All2 r l m→∀i,All2 r (l.set i a) (m.set i b)
 |_,_,.nil,_=>by simpa using All2.nil
 |_,_,.cons _ t,0=>by simpa using All2.cons hr t
 |_,_,.cons h t,i+1=>by simpa using All2.cons h (t.set hr i)
theorem OwnR.open (h:OwnR E t B M w v l) (hp:0<l.length):∃(b cap:Nat) (css:List (Vec E.k)) (junk:List Value),v=.slice (some ⟨b,0,none⟩) l.length cap∧B≤b∧At w b (.cells ((vecE E.k E.pos).flat css++junk).toArray t (0,0))∧css.length=l.length∧((vecE E.k E.pos).flat css++junk).length=cap*E.k∧E.all (b::M) w css l∧SlE (vecE E.k E.pos) w v css:=by
 obtain ⟨css,h1,h2⟩:=h
 have hlen:=h2.length
 have hsl:=h1.sl
 rcases h1 with ⟨rfl,rfl⟩|⟨b,cap,junk,rfl,hB,hat,hl⟩
 ·rw [←hlen] at hp;simp at hp
 ·exact ⟨b,cap,css,junk,by rw [hlen],hB,hat,hlen,hl,h2,hsl⟩
theorem st_storeO {d:Option Tmp} {r:KR} {K:Env→World→Prop} {ρ:Env} {x y:Operand} {b cap i o:Nat} {css:List (Vec E.k)} {junk:List Value} {u:Value} {a:α}
  (hx:ev ρ x=.pointer (some ((Addr.add ⟨b,0,none⟩ (i*E.k)).add o))) (hy:ev ρ y=u) (hu:u.oneCell'=true) (hB:B≤b) (hat:At w b (.cells ((vecE E.k E.pos).flat css++junk).toArray t (0,0))) (hc:css.length=l.length) (hl:((vecE E.k E.pos).flat css++junk).length=cap*E.k) (ha:E.all (b::M) w css l)
  (hi:i<l.length) (ho:o<E.k) (hn:∀w',Chg [b] w w'→E.rel (b::M) w' ((css[i]'(by omega)).1.set o u) a)
  (k:∀w',Chg [b] w w'→OwnR E t B M w' (.slice (some ⟨b,0,none⟩) l.length cap) (l.set i a)→regK P r K (put ρ d undef) w'):regK P (.cons ⟨d,.store x y,none⟩ r) K ρ w:=by
 have hk:=E.pos
 have hflat:((vecE E.k E.pos).flat css).length=l.length*E.k:=by rw [Enc.flat_length,hc];rfl
 have hlt:i*E.k+o<((vecE E.k E.pos).flat css).length:=by
  have:=Nat.mul_le_mul_right E.k (show i+1≤l.length from hi)
  rw [Nat.add_mul] at this;omega
 refine st_store (o:=i*E.k+o) (by rw [hx,add_add]) hy hu hat (by rw [List.length_append];omega) fun w' c a'=>?_
 refine k w' c ⟨css.set i ((css[i]'(by omega)).set o u hu),.inr ⟨b,cap,junk,by rw [List.length_set,hc],hB,?_,?_⟩,?_⟩
 ·rw [List.set_append_left _ _ hlt,flat_set E.pos hu ho css i (by omega)] at a'
  exact a'
 ·rw [List.length_append] at hl ⊢
  rw [Enc.flat_length] at hl ⊢
  rw [List.length_set];exact hl
 ·have h3:E.all (b::M) w' css l:=ha.mono fun _ _ hr=>E.step hr c (fun b hb=>.inl (by simp at hb;subst hb;simp)) (fun b hb=>.inl hb)
  exact All2.set (r:=fun (c:Vec E.k) x=>E.rel (b::M) w' c.1 x) (a:=(css[i]'(by omega)).set o u hu) (hn w' c) h3 i
theorem SlR.nil_of {n cap:Nat} (h:SlR E M w (.slice none n cap) l):l= []:=by
 obtain ⟨css,⟨h1,base,c,hv,_,h2⟩,h3,_⟩:=h
 rcases Nat.eq_zero_or_pos l.length with h4|h4
 ·exact List.length_eq_zero_iff.1 h4
 ·have h5:=h3.length
  rw [Enc.flat_length] at h2
  obtain ⟨a,ha,_⟩:=h2 (Nat.mul_pos (by omega) E.pos)
  injection hv with e1;subst e1;cases ha
theorem OwnR.empty {b:Nat} (hB:B≤b) (h:At w b (.cells #[] t (0,0))):OwnR E t B M w (.slice (some ⟨b,0,none⟩) 0 0) []:=
 ⟨[],.inr ⟨b,0, [],rfl,hB,h,by simp [Enc.flat]⟩,.nil⟩
theorem OwnR.sub (h:OwnR E t B M w v l) (hm:∀b∈M',b∈M∨w.heap.size≤b):OwnR E t B M' w v l:=h.step (Chg.refl [] w) (by simp) hm
theorem all_ext {css:List (Vec E.k)} (h:E.all M w css l) (c:Ext w w'):E.all M w' css l:=h.mono fun _ _ hr=>R.ext hr c
theorem OwnR.one (h:OwnR E t B M w v l):v.oneCell'=true:=by
 obtain ⟨css,h1,_⟩:=h
 rcases h1 with ⟨rfl,_⟩|⟨b,cap,junk,rfl,_⟩<;>rfl
theorem SlR.one (h:SlR E M w v l):v.oneCell'=true:=by
 obtain ⟨_,_,rfl⟩:=h.form;rfl
end
end Go.K
end
section
namespace Go.Proofs.YtfebcajheojodaaGreatDoor
open Go Go.K
attribute [local irreducible] regK codeK retK KOp.wp K.Spec u32 leS vnS str zero32 sha2 encT idT
def idV (t:Tx):Value:=if checkT t=0 then .tuple #[.string (idT t),.int .i64 0] else .tuple #[.string ⟨#[]⟩,.int .i64 (checkT t)]
def weightV (t:Tx):Value:=if checkT t=0 then .tuple #[.int .i64 (weightT t:Nat),.int .i64 0] else .tuple #[.int .i64 0,.int .i64 (checkT t)]
def sizeV (t:Tx):Value:=if checkT t=0 then .tuple #[.int .i64 (sizeT t:Nat),.int .i64 0] else .tuple #[.int .i64 0,.int .i64 (checkT t)]
theorem id_spec {M:List Nat} {cs:List Value} {t:Tx} (w:World) (ht:txR.rel M w cs t) (hs:t.Sm):K.Spec Tryz.prog F.ident_ID [.agg cs.toArray] w fun r w'=>r=idV t∧Ext w w':=by
 have ht0:=ht
 obtain ⟨iv,ov,rfl,hi,ho,hv,hl⟩:=ht
 by_cases hc:checkT t=0
 ·have hz:=sz_of_check hs hc
  rw [idV,if_pos hc]
  refine s_ident_ID rfl ?_
  unfold k_ident_ID
  refine oy ?_
  repeat' (first|(first|refine go1 ?_|refine zg (fun _ _=>?_)|refine zi (fun _ _=>?_))|(first|refine zD rfl rfl (fun bp wp xp ap rp hp0=>?_)|refine zE (fun _=>rfl) rfl rfl rfl (fun bq wq xq aq rq hq0=>?_))|refine zN rfl (fun h=>?_) (fun h=>?_)|(refine zC rfl (bare_spec (M:=M) _ (cs:=txCs t iv ov) (by exact fx) hs) ?_;rintro _ w1 ⟨rfl,x1⟩;rw [bareV,if_pos hc])|(refine zC rfl (twice_spec (encT false t) (by have:=hz.all false;omega) _) ?_;rintro _ w2 ⟨rfl,x2⟩))
  all_goals first
   |exact x_ret rfl ⟨by rw [idT];rfl,by exact fx⟩
   |exact absurd rfl (by assumption)
 ·rw [idV,if_neg hc]
  refine s_ident_ID rfl ?_
  unfold k_ident_ID
  refine oy ?_
  repeat' (first|(first|refine go1 ?_|refine zg (fun _ _=>?_)|refine zi (fun _ _=>?_))|(first|refine zD rfl rfl (fun bp wp xp ap rp hp0=>?_)|refine zE (fun _=>rfl) rfl rfl rfl (fun bq wq xq aq rq hq0=>?_))|refine zN rfl (fun h=>?_) (fun h=>?_)|(refine zC rfl (bare_spec (M:=M) _ (cs:=txCs t iv ov) (by exact fx) hs) ?_;rintro _ w1 ⟨rfl,x1⟩;rw [bareV,if_neg hc]))
  all_goals first
   |exact x_ret rfl ⟨rfl,by exact fx⟩
   |exact absurd (by assumption) hc
theorem weight_spec {M:List Nat} {cs:List Value} {t:Tx} (w:World) (ht:txR.rel M w cs t) (hs:t.Sm):K.Spec Tryz.prog F.ident_Weight [.agg cs.toArray] w fun r w'=>r=weightV t∧Ext w w':=by
 have ht0:=ht
 obtain ⟨iv,ov,rfl,hi,ho,hv,hl⟩:=ht
 by_cases hc:checkT t=0
 ·have hz:=sz_of_check hs hc
  have h1:=hz.all false
  have h2:=hz.all (witB t)
  rw [weightV,if_pos hc]
  refine s_ident_Weight rfl ?_
  unfold k_ident_Weight
  refine oy ?_
  repeat' (first|(refine st_mul rfl rfl (by omega) ?_)|(first|refine go1 ?_|refine zg (fun _ _=>?_)|refine zi (fun _ _=>?_))|(first|refine zD rfl rfl (fun bp wp xp ap rp hp0=>?_)|refine zE (fun _=>rfl) rfl rfl rfl (fun bq wq xq aq rq hq0=>?_))|refine zN rfl (fun h=>?_) (fun h=>?_)|(refine zC rfl (bare_spec (M:=M) _ (cs:=txCs t iv ov) (by exact fx) hs) ?_;rintro _ w1 ⟨rfl,x1⟩;rw [bareV,if_pos hc])|(refine zC rfl (encodeE_spec (M:=M) _ (cs:=txCs t iv ov) (by exact fx) hs) ?_;rintro _ w2 ⟨rfl,x2⟩;rw [bareV,if_pos hc]))
  all_goals first
   |exact x_ret rfl ⟨congrArg (fun n:Int=>Value.tuple #[.int .i64 n,.int .i64 0]) (by rw [weightT];omega),by exact fx⟩
   |exact absurd rfl (by assumption)
 ·rw [weightV,if_neg hc]
  refine s_ident_Weight rfl ?_
  unfold k_ident_Weight
  refine oy ?_
  repeat' (first|(first|refine go1 ?_|refine zg (fun _ _=>?_)|refine zi (fun _ _=>?_))|(first|refine zD rfl rfl (fun bp wp xp ap rp hp0=>?_)|refine zE (fun _=>rfl) rfl rfl rfl (fun bq wq xq aq rq hq0=>?_))|refine zN rfl (fun h=>?_) (fun h=>?_)|(refine zC rfl (bare_spec (M:=M) _ (cs:=txCs t iv ov) (by exact fx) hs) ?_;rintro _ w1 ⟨rfl,x1⟩;rw [bareV,if_neg hc]))
  all_goals first
   |exact x_ret rfl ⟨rfl,by exact fx⟩
   |exact absurd (by assumption) hc
theorem size_spec {M:List Nat} {cs:List Value} {t:Tx} (w:World) (ht:txR.rel M w cs t) (hs:t.Sm):K.Spec Tryz.prog F.ident_Size [.agg cs.toArray] w fun r w'=>r=sizeV t∧Ext w w':=by
 have ht0:=ht
 obtain ⟨iv,ov,rfl,hi,ho,hv,hl⟩:=ht
 by_cases hc:checkT t=0
 ·have hz:=sz_of_check hs hc
  have h1:=hz.weight
  rw [sizeV,if_pos hc]
  refine s_ident_Size rfl ?_
  unfold k_ident_Size
  refine oy ?_
  repeat' (first|(refine st_quo (n:=weightT t+3) (m:=4) (congrArg (Value.int .i64) (by omega)) rfl (by decide) (by omega) ?_)|(first|refine go1 ?_|refine zg (fun _ _=>?_)|refine zi (fun _ _=>?_))|(first|refine zD rfl rfl (fun bp wp xp ap rp hp0=>?_)|refine zE (fun _=>rfl) rfl rfl rfl (fun bq wq xq aq rq hq0=>?_))|(refine zC rfl (weight_spec (M:=M) _ (cs:=txCs t iv ov) (by exact fx) hs) ?_;rintro _ w1 ⟨rfl,x1⟩;rw [weightV,if_pos hc]))
  exact x_ret rfl ⟨rfl,by exact fx⟩
 ·rw [sizeV,if_neg hc]
  refine s_ident_Size rfl ?_
  unfold k_ident_Size
  refine oy ?_
  repeat' (first|(first|refine go1 ?_|refine zg (fun _ _=>?_)|refine zi (fun _ _=>?_))|(first|refine zD rfl rfl (fun bp wp xp ap rp hp0=>?_)|refine zE (fun _=>rfl) rfl rfl rfl (fun bq wq xq aq rq hq0=>?_))|(refine zC rfl (weight_spec (M:=M) _ (cs:=txCs t iv ov) (by exact fx) hs) ?_;rintro _ w1 ⟨rfl,x1⟩;rw [weightV,if_neg hc]))
  exact x_ret rfl ⟨rfl,by exact fx⟩
theorem cloneS_spec {M:List Nat} {v:Value} {l:List ByteArray} (w:World) (hs:SlR strR M w v l) (hn:l.length≤100000000) (hM:∀b∈M,b<w.heap.size):K.Spec Tryz.prog F.slices_Clone_L_string_string [v] w fun r w'=>OwnR strR T.string w.heap.size M w' r l∧Ext w w':=by
 have hs0:=hs
 obtain ⟨base,cap,rfl⟩:=hs.form
 cases base with
 |none=>
  have hl:=hs.nil_of
  subst hl
  refine s_slices_Clone_L_string_string rfl ?_
  unfold k_slices_Clone_L_string_string
  refine oy ?_
  repeat (first|refine go ?_|refine zg (fun _ _=>?_)|refine zi (fun _ _=>?_))
  exact x_ret rfl ⟨OwnR.nil _ _ _ _,Ext.refl _⟩
 |some a=>
  refine s_slices_Clone_L_string_string rfl ?_
  unfold k_slices_Clone_L_string_string
  refine oy ?_
  repeat (first|refine go ?_|refine zg (fun _ _=>?_)|refine zi (fun _ _=>?_))
  refine zI (cs:= []) rfl (fun b w1 x1 a1 hb=>?_)
  repeat (first|refine go ?_|refine zg (fun _ _=>?_)|refine zi (fun _ _=>?_))
  obtain ⟨css,h1,h2,_⟩:=hs0
  have hown:OwnR strR T.string w.heap.size M w1 (.slice (some ⟨b,0,none⟩) 0 0) []:=OwnR.empty hb a1
  have hall:(strR).all (blkOf (.slice (some ⟨b,0,none⟩) 0 0)++M) w1 css l:=h2.mono fun _ _ hr=>(strR).step hr x1 (by simp) (fun c hc=>by
   rcases List.mem_append.1 hc with h|h
   ·simp [blkOf] at h;right;omega
   ·exact .inl h)
  refine st_appendR (E:=strR) (M:=M) (v:=.slice (some ⟨b,0,none⟩) 0 0) rfl hown x1.size rfl rfl (h1.ext x1).cells rfl hall h2.length (by simp;omega) (fun v2 w2 ho2 c2 hb2=>?_)
  repeat (first|refine go ?_|refine zg (fun _ _=>?_)|refine zi (fun _ _=>?_))
  exact x_ret rfl ⟨ho2,(Ext.chg x1 c2).mono (by intro y hy;simp [blkOf] at hy;subst hy;exact .inr hb)⟩
theorem cloneI_spec {M:List Nat} {v:Value} {l:List TIn} (w:World) (hs:SlR inR M w v l) (hn:l.length≤100000000) (hM:∀b∈M,b<w.heap.size):K.Spec Tryz.prog F.slices_Clone_L_api_In_api_In [v] w fun r w'=>OwnR inR T.api_In w.heap.size M w' r l∧Ext w w':=by
 have hs0:=hs
 obtain ⟨base,cap,rfl⟩:=hs.form
 cases base with
 |none=>
  have hl:=hs.nil_of
  subst hl
  refine s_slices_Clone_L_api_In_api_In rfl ?_
  unfold k_slices_Clone_L_api_In_api_In
  refine oy ?_
  repeat (first|refine go ?_|refine zg (fun _ _=>?_)|refine zi (fun _ _=>?_))
  exact x_ret rfl ⟨OwnR.nil _ _ _ _,Ext.refl _⟩
 |some a=>
  refine s_slices_Clone_L_api_In_api_In rfl ?_
  unfold k_slices_Clone_L_api_In_api_In
  refine oy ?_
  repeat (first|refine go ?_|refine zg (fun _ _=>?_)|refine zi (fun _ _=>?_))
  refine zI (cs:= []) rfl (fun b w1 x1 a1 hb=>?_)
  repeat (first|refine go ?_|refine zg (fun _ _=>?_)|refine zi (fun _ _=>?_))
  obtain ⟨css,h1,h2,_⟩:=hs0
  have hown:OwnR inR T.api_In w.heap.size M w1 (.slice (some ⟨b,0,none⟩) 0 0) []:=OwnR.empty hb a1
  have hall:(inR).all (blkOf (.slice (some ⟨b,0,none⟩) 0 0)++M) w1 css l:=h2.mono fun _ _ hr=>(inR).step hr x1 (by simp) (fun c hc=>by
   rcases List.mem_append.1 hc with h|h
   ·simp [blkOf] at h;right;omega
   ·exact .inl h)
  refine st_appendR (E:=inR) (M:=M) (v:=.slice (some ⟨b,0,none⟩) 0 0) rfl hown x1.size rfl rfl (h1.ext x1).cells rfl hall h2.length (by simp;omega) (fun v2 w2 ho2 c2 hb2=>?_)
  repeat (first|refine go ?_|refine zg (fun _ _=>?_)|refine zi (fun _ _=>?_))
  exact x_ret rfl ⟨ho2,(Ext.chg x1 c2).mono (by intro y hy;simp [blkOf] at hy;subst hy;exact .inr hb)⟩
theorem cloneO_spec {M:List Nat} {v:Value} {l:List TOut} (w:World) (hs:SlR outR M w v l) (hn:l.length≤100000000) (hM:∀b∈M,b<w.heap.size):K.Spec Tryz.prog F.slices_Clone_L_api_Out_api_Out [v] w fun r w'=>OwnR outR T.api_Out w.heap.size M w' r l∧Ext w w':=by
 have hs0:=hs
 obtain ⟨base,cap,rfl⟩:=hs.form
 cases base with
 |none=>
  have hl:=hs.nil_of
  subst hl
  refine s_slices_Clone_L_api_Out_api_Out rfl ?_
  unfold k_slices_Clone_L_api_Out_api_Out
  refine oy ?_
  repeat (first|refine go ?_|refine zg (fun _ _=>?_)|refine zi (fun _ _=>?_))
  exact x_ret rfl ⟨OwnR.nil _ _ _ _,Ext.refl _⟩
 |some a=>
  refine s_slices_Clone_L_api_Out_api_Out rfl ?_
  unfold k_slices_Clone_L_api_Out_api_Out
  refine oy ?_
  repeat (first|refine go ?_|refine zg (fun _ _=>?_)|refine zi (fun _ _=>?_))
  refine zI (cs:= []) rfl (fun b w1 x1 a1 hb=>?_)
  repeat (first|refine go ?_|refine zg (fun _ _=>?_)|refine zi (fun _ _=>?_))
  obtain ⟨css,h1,h2,_⟩:=hs0
  have hown:OwnR outR T.api_Out w.heap.size M w1 (.slice (some ⟨b,0,none⟩) 0 0) []:=OwnR.empty hb a1
  have hall:(outR).all (blkOf (.slice (some ⟨b,0,none⟩) 0 0)++M) w1 css l:=h2.mono fun _ _ hr=>(outR).step hr x1 (by simp) (fun c hc=>by
   rcases List.mem_append.1 hc with h|h
   ·simp [blkOf] at h;right;omega
   ·exact .inl h)
  refine st_appendR (E:=outR) (M:=M) (v:=.slice (some ⟨b,0,none⟩) 0 0) rfl hown x1.size rfl rfl (h1.ext x1).cells rfl hall h2.length (by simp;omega) (fun v2 w2 ho2 c2 hb2=>?_)
  repeat (first|refine go ?_|refine zg (fun _ _=>?_)|refine zi (fun _ _=>?_))
  exact x_ret rfl ⟨ho2,(Ext.chg x1 c2).mono (by intro y hy;simp [blkOf] at hy;subst hy;exact .inr hb)⟩
def txO (B:Nat) (M:List Nat) (w:World) (cs:List Value) (t:Tx):Prop:=∃iv ov,cs=txCs t iv ov∧OwnR inR T.api_In B M w iv t.ins∧OwnR outR T.api_Out B M w ov t.outs∧is32 t.ver∧is32 t.lock
theorem txO.rel {B:Nat} {M:List Nat} {w:World} {cs:List Value} {t:Tx} (h:txO B M w cs t) (hM:∀b∈M,b<B):txR.rel M w cs t:=by
 obtain ⟨iv,ov,rfl,h1,h2,h3⟩:=h
 exact ⟨iv,ov,rfl,h1.slB hM,h2.slB hM,h3⟩
theorem mem_app {L M:List Nat} {w:World} (h:∀b∈L,w.heap.size≤b):∀b∈L++M,b∈M∨w.heap.size≤b:=fun b hb=>by
 rcases List.mem_append.1 hb with h1|h1
 ·exact .inr (h b h1)
 ·exact .inl h1
set_option maxHeartbeats 2000000 in
theorem txcopy_spec {M:List Nat} {cs:List Value} {t:Tx} (w:World) (ht:txR.rel M w cs t) (hs:t.Sm) (hM:∀b∈M,b<w.heap.size):K.Spec Tryz.prog F.tx_Copy [.agg cs.toArray] w fun r w'=>∃cs',r=.agg cs'.toArray∧txO w.heap.size M w' cs' t∧Ext w w':=by
 have ht0:=ht
 obtain ⟨iv,ov,rfl,hi,ho,hv,hl⟩:=ht
 have hs1:=hs.ins
 have hs2:=hs.outs
 refine s_tx_Copy rfl ?_
 unfold k_tx_Copy
 refine oy ?_
 repeat' (first|(first|refine go1 ?_|refine zg (fun _ _=>?_)|refine zi (fun _ _=>?_))|(first|refine zD rfl rfl (fun bp wp xp ap rp hp0=>?_)|refine zE (fun _=>rfl) rfl rfl rfl (fun bq wq xq aq rq hq0=>?_)))
 refine zH (fun b2 w2 x2 a2 hb2=>?_)
 have lp:=ap.lt
 have l2:=a2.lt
 have sp:=xp.size
 have s2:=x2.size
 have xw:Unit→Ext w w2:=fun _=>xp.trans x2
 obtain ⟨M1,hM1⟩:∃M1,M1= [b2,bp]++M:=⟨_,rfl⟩
 have hmem:∀b∈M1,b∈M∨w.heap.size≤b:=by
  rw [hM1];exact mem_app (fun y hy=>by simp at hy;omega)
 have hi1:SlR inR M1 w2 iv t.ins:=hi.step (xw ()) (by simp) hmem
 have ho1:SlR outR M1 w2 ov t.outs:=ho.step (xw ()) (by simp) hmem
 have hM1b:∀b∈M1,b<w2.heap.size:=by
  intro y hy;rw [hM1] at hy;simp at hy
  rcases hy with h|h|h
  ·omega
  ·omega
  ·have:=hM y h;omega
 have mb:bp∈M1:=by rw [hM1];simp
 have m2:b2∈M1:=by rw [hM1];simp
 have mM:∀b∈M,b∈M1:=by intro y hy;rw [hM1];simp [hy]
 repeat' (first|(first|refine go1 ?_|refine zg (fun _ _=>?_)|refine zi (fun _ _=>?_))|refine zB ?_ ?_|(refine zC rfl (cloneI_spec (M:=M1) (l:=t.ins) _ (by exact fx) (by omega) (fun b hb=>Nat.lt_of_lt_of_le (hM1b b hb) (Ext.size (by exact fx)))) ?_;rintro v1 w3 ⟨hv1,x3⟩;have l1:=hv1.lt;have hv1:=hv1.lower (B':=w2.heap.size) (by first|exact Nat.le_refl _|(apply Ext.size;assumption));have g1:=hv1.base;have x23:Ext w2 w3:=(by exact fx))|(refine zC rfl (cloneO_spec (M:=blkOf v1++M1) (l:=t.outs) _ (ho1.step x23 (by simp) (mem_app g1)) (by omega) (fun b hb=>?_)) ?_)|(rcases List.mem_append.1 hb with h|h;exact l1 b h;exact Nat.lt_of_lt_of_le (hM1b b h) (Ext.size (by exact fx)))|(rintro v2 w4 ⟨hv2,x4⟩;have g2:=hv2.base;have x24:Ext w2 w4:=(by exact fx);have hv1:=hv1.ext x4;have ap:=At.ext x24 (At.ext x2 ap);have a2:=At.ext x24 a2;have s24:=x24.size))
 trace_state
 all_goals
  have hbp:bp∉blkOf v1:=fun h=>by have:=g1 _ h;omega
  have hb2':b2∉blkOf v1:=fun h=>by have:=g1 _ h;omega
  have s23:=x23.size
  have hbp2:bp∉blkOf v2:=fun h=>by have:=g2 _ h;omega
  have hb22:b2∉blkOf v2:=fun h=>by have:=g2 _ h;omega
  have h12:∀b∈blkOf v1,b∉blkOf v2:=fun b h h'=>by have:=g2 _ h';have:=l1 _ h;omega
  refine st_store (b:=bp) (o:=1) (cur:=txCs t iv ov) rfl rfl hv1.one ap (Nat.le_of_ble_eq_true rfl) (fun w5 c5 a5=>?_)
  repeat (first|refine go ?_|refine zg (fun _ _=>?_)|refine zi (fun _ _=>?_))
  refine st_store (b:=bp) (o:=2) (cur:=txCs t v1 ov) rfl rfl hv2.one a5 (Nat.le_of_ble_eq_true rfl) (fun w6 c6 a6=>?_)
  have c56:Chg [bp] w4 w6:=(c5.trans c6).mono (by simp)
  have hv1:=hv1.step (M':=M1) c56 (by intro y hy;simp at hy;subst hy;exact ⟨hbp,.inl mb⟩) (fun _ h=>.inl h)
  have hv2:=hv2.step (M':=blkOf v1++M1) c56 (by intro y hy;simp at hy;subst hy;exact ⟨hbp2,.inl (by simp [mb])⟩) (fun _ h=>.inl h)
  have a6:At w6 bp (.cells (txCs t v1 v2).toArray T.api_Tx (0,0)):=a6
  have a2:=At.chg c56 a2 (by simp;omega)
  have x26:Ext w w6:=(Ext.chg ((xw ()).trans x24) c56).mono (by intro y hy;simp at hy;right;omega)
  have l1':=hv1.lt
  have r6:Row w6 ⟨bp,0,none⟩ (txCs t v1 v2):=Row.of_at a6
  clear c5 c6 c56 a5 ap x3 x4
  repeat' (first|(first|refine go1 ?_|refine zg (fun _ _=>?_)|refine zi (fun _ _=>?_))|refine zB ?_ ?_|refine zL rfl (fun h=>?_) (fun h=>?_)|(refine zG (l:=t.ins) rfl (hv1.slB (B:=w2.heap.size) hM1b) ?_)|(refine c_loopV (fun (k:Nat) w'=>Ext w w'∧k≤t.ins.length∧w6.heap.size≤w'.heap.size∧At w' bp (.cells (txCs t v1 v2).toArray T.api_Tx (0,0))∧At w' b2 (.cells [Value.int .u32 0,.slice none 0 0,.slice none 0 0,.int .u32 0].toArray T.api_Tx (0,0))∧OwnR inR T.api_In w2.heap.size M1 w' v1 t.ins∧OwnR outR T.api_Out w3.heap.size (blkOf v1++M1) w' v2 t.outs) (fun k=> [(1,.pointer (some ⟨bp,0,none⟩)),(2,.pointer (some ⟨b2,0,none⟩)),(13,v1),(14,.int .i64 (t.ins.length:Nat)),(15,.int .i64 k)]) (fun k=>t.ins.length - k) 0 ⟨rfl,rfl,rfl,rfl,rfl,trivial⟩ ⟨x26,Nat.zero_le _,Nat.le_refl _,a6,a2,hv1,hv2⟩ ?_;rintro k ρ w7 ⟨x7,hk,s7,a7,q2,o1,o2⟩;have r7:Row w7 ⟨bp,0,none⟩ (txCs t v1 v2):=Row.of_at a7))
  ·have hki:k<t.ins.length:=by omega
   have hwl:=hs.wit _ (List.getElem_mem hki)
   obtain ⟨b1,cap,css,junk,rfl,hB,hat,hc,hln,hall,hsl⟩:=o1.open (by omega)
   obtain ⟨wv,hcs,hw,hp5,hp6⟩:=hall.get k (by omega) hki
   have hb1:b1<w7.heap.size:=hat.lt
   have hMb:∀b∈b1::M1,b<w7.heap.size:=fun b hb=>by
    rcases List.mem_cons.1 hb with h|h
    ·omega
    ·have:=hM1b b h;omega
   refine st_elemE (d:=some 24) (E:=vecE inR.k inR.pos) (l:=css) (n:=k) rfl rfl (by exact fx) rfl (by omega) (fun ad r8=>?_)
   have r8:Row _ ad css[k].1:=r8
   rw [hcs] at r8
   repeat' (first|(first|refine go1 ?_|refine zg (fun _ _=>?_)|refine zi (fun _ _=>?_))|refine zB ?_ ?_|(refine zC rfl (cloneS_spec (M:=b1::M1) (l:=t.ins[k].wit) _ (hw.ext (by exact fx)) (by omega) (fun b hb=>Nat.lt_of_lt_of_le (hMb b hb) (Ext.size (by exact fx)))) ?_;rintro v3 w9 ⟨hv3,x9⟩;have hv3:=hv3.lower (B':=w7.heap.size) (Ext.size (by exact fx));have s9:=Ext.size (w:=w7) (w':=w9) (by exact fx))|(refine st_index (d:=some 28) rfl rfl (by omega) ?_))
   all_goals
    have hx79:Ext w7 w9:=by exact fx
    refine st_storeO (E:=inR) (M:=M1) (B:=w2.heap.size) (l:=t.ins) (i:=k) (o:=3) (a:=t.ins[k]) (css:=css) (junk:=junk) (cap:=cap) rfl rfl hv3.one hB (hat.ext hx79) hc hln (all_ext hall hx79) hki (by decide) (fun w10 c10=>?_) (fun w10 c10 o10=>?_)
    ·refine ⟨v3,by rw [hcs];rfl,?_,hp5,hp6⟩
     exact (hv3.slB hMb).step c10 (by intro y hy;simp at hy;subst hy;simp) (fun b hb=>.inl hb)
    ·have hbb:b1≠bp:=fun e=>hbp (by rw [←e];simp [blkOf])
     have hbb2:b1≠b2:=fun e=>hb2' (by rw [←e];simp [blkOf])
     have hbv:b1∉blkOf v2:=h12 b1 (by simp [blkOf])
     have a7':=At.chg c10 (a7.ext hx79) (by simp;omega)
     have q2':=At.chg c10 (q2.ext hx79) (by simp;omega)
     have hs10:=c10.size
     have hwb:w.heap.size≤b1:=by omega
     have o2':=(o2.ext hx79).step c10 (M':=blkOf (.slice (some ⟨b1,0,none⟩) t.ins.length cap)++M1) (by intro y hy;simp at hy;subst hy;exact ⟨hbv,.inl (by simp [blkOf])⟩) (fun _ h=>.inl h)
     have x10:Ext w w10:=((x7.trans hx79).chg c10).mono (by intro y hy;simp at hy;right;omega)
     rw [List.set_getElem_self] at o10
     clear hx79
     repeat (first|refine go1 ?_|refine zg (fun _ _=>?_)|refine zi (fun _ _=>?_))
     exact ⟨k+1,⟨rfl,rfl,rfl,rfl,rfl,trivial⟩,⟨x10,by omega,by omega,a7',q2',o10,o2'⟩,by omega⟩
  ·refine st_setN (w0:=w) (vs:=txCs t v1 v2) x7 (by omega) q2 rfl rfl rfl rfl ?_ (fun w11 x11 c11 a11 r11=>?_)
   ·have e1:=hv1.one
    have e2:=hv2.one
    simp [txCs,e1,e2];exact ⟨rfl,rfl⟩
   repeat (first|refine go1 ?_|refine zg (fun _ _=>?_)|refine zi (fun _ _=>?_))
   have p1:=(o1.step (M':=M1) c11 (by intro y hy;simp at hy;subst hy;exact ⟨hb2',.inl m2⟩) (fun _ h=>.inl h)).sub (M':=M) (fun b hb=>.inl (mM b hb))
   have p2:=(o2.step (M':=M1) c11 (by intro y hy;simp at hy;subst hy;exact ⟨hb22,.inl (by simp [m2])⟩) (fun _ h=>.inl (by simp [h]))).sub (M':=M) (fun b hb=>.inl (mM b hb))
   exact x_ret (ret1 (rv_cell r11 rfl rfl)) ⟨_,rfl,⟨v1,v2,rfl,p1.lower (by omega),p2.lower (by omega),hv,hl⟩,x11⟩
end Go.Proofs.YtfebcajheojodaaGreatDoor
end
