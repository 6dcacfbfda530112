/- Contracts: a block of a digest by the reference. -/
import Derived.Test.YtfeifodeaphbjaaGreatH27
set_option linter.unusedVariables false
set_option linter.unusedSimpArgs false
section
namespace Go.Proofs.YtfeifodeaphbjaaGreat
open Go Go.K
attribute [local irreducible] regK codeK retK KOp.wp K.Spec u32 leS vnS str zero32 wseq wCs schR schA blkW partW kTab rnds runP padL padZ addN shN outW catB leL

theorem rk_spec (w : World) : K.Spec Tryz.prog F.kedgeref04_k [] w fun r w' => r = .agg (wCs kTab).toArray ∧ Ext w w' := by
  refine s_kedgeref04_k rfl ?_
  unfold k_kedgeref04_k
  refine ox ?_
  repeat' (first|(refine st_build (cs := wCs kTab) (by kernel_rfl) ?_)|(first|refine go1 ?_|refine zg (fun _ _=>?_)|refine zi (fun _ _=>?_))|(refine zH (fun b w1 x1 a1 hb => ?_))|refine st_setN (w0 := w) (vs := wCs kTab) (by exact fx) (Nat.le_trans (by exact fx) hb) (by focus (repeat (first | assumption | (apply At.ext; assumption)))) rfl rfl (by kernel_rfl) (by kernel_rfl) (wCs_one _) (fun w5 x5 c5 a5 r5 => ?_))
  exact x_ret (ret1 (rv_cell r5 rfl (by kernel_rfl))) ⟨rfl, x5⟩
/-- What lies there, while a block's words are made. -/
structure BlkI (w : World) (b2 b4 b5 b6 : Nat) (H : S8) (X : List W32) (w' : World) : Prop where
  x : Ext w w'
  a2 : At w' b2 (.cells (wCs H.l).toArray T.n_8_uint32 (0, 0))
  a4 : At w' b4 (.cells (ZR 8).toArray T.n_8_uint32 (0, 0))
  a5 : At w' b5 (.cells (wCs X).toArray T.n_64_uint32 (0, 0))
  a6 : At w' b6 (.cells (wCs kTab).toArray T.n_64_uint32 (0, 0))
section
variable {w w' w'' : World} {b2 b4 b5 b6 b : Nat} {H : S8} {X Y : List W32}
theorem BlkI.e (c : Ext w' w'') (h : BlkI w b2 b4 b5 b6 H X w') : BlkI w b2 b4 b5 b6 H X w'' := ⟨h.x.trans c, h.a2.ext c, h.a4.ext c, h.a5.ext c, h.a6.ext c⟩
theorem BlkI.c (h : BlkI w b2 b4 b5 b6 H X w') (c : Chg [b] w' w'') (h0 : w.heap.size ≤ b) (h2 : b2 ≠ b) (h4 : b4 ≠ b) (h5 : b5 ≠ b) (h6 : b6 ≠ b) : BlkI w b2 b4 b5 b6 H X w'' :=
  ⟨(h.x.chg c).mono (by intro y hy; simp at hy; right; omega), At.chg c h.a2 (by simpa using h2), At.chg c h.a4 (by simpa using h4), At.chg c h.a5 (by simpa using h5), At.chg c h.a6 (by simpa using h6)⟩
theorem BlkI.s (h : BlkI w b2 b4 b5 b6 H X w') (c : Chg [b5] w' w'') (a : At w'' b5 (.cells (wCs Y).toArray T.n_64_uint32 (0, 0))) (h0 : w.heap.size ≤ b5) (h2 : b2 ≠ b5) (h4 : b4 ≠ b5) (h6 : b6 ≠ b5) : BlkI w b2 b4 b5 b6 H Y w'' :=
  ⟨(h.x.chg c).mono (by intro y hy; simp at hy; right; omega), At.chg c h.a2 (by simpa using h2), At.chg c h.a4 (by simpa using h4), a, At.chg c h.a6 (by simpa using h6)⟩
theorem BlkI.r2 (h : BlkI w b2 b4 b5 b6 H X w') : Row w' ⟨b2, 0, none⟩ (wCs H.l) := Row.of_at h.a2
theorem BlkI.r5 (h : BlkI w b2 b4 b5 b6 H X w') : Row w' ⟨b5, 0, none⟩ (wCs X) := Row.of_at h.a5
theorem BlkI.r6 (h : BlkI w b2 b4 b5 b6 H X w') : Row w' ⟨b6, 0, none⟩ (wCs kTab) := Row.of_at h.a6
end
theorem tOne_eq (s : S8) (k x : W32) : wAt s.l 7 + (rot (wAt s.l 4) 6 ^^^ rot (wAt s.l 4) 11 ^^^ rot (wAt s.l 4) 25) + (wAt s.l 4 &&& wAt s.l 5 ^^^ ~~~(wAt s.l 4) &&& wAt s.l 6) + k + x = tOne s k x := rfl
theorem tTwo_eq (s : S8) : (rot (wAt s.l 0) 2 ^^^ rot (wAt s.l 0) 13 ^^^ rot (wAt s.l 0) 22) + (wAt s.l 0 &&& wAt s.l 1 ^^^ wAt s.l 0 &&& wAt s.l 2 ^^^ wAt s.l 1 &&& wAt s.l 2) = tTwo s := rfl
theorem schZ (B : List W32) : List.replicate 64 (Value.int .u32 0) = wCs (schA B 0) := by
  rw [schA_lt (by decide), schR_zero, ← wz64]
theorem rlen {X : S8} {c : Nat} : (wCs (shN X.l c)).length = 8 := by rw [wCs_len, shN_length]
set_option maxHeartbeats 8000000 in
theorem block_spec (H : S8) {v : Value} {l : List UInt8} (hl : l.length = 64) (w : World) (hv : SlE u8E w v l) : K.Spec Tryz.prog F.kedgeref04_block [.agg (wCs H.l).toArray, v] w fun r w' => r = .agg (wCs (comp H l).l).toArray ∧ Ext w w' := by
  refine s_kedgeref04_block rfl ?_
  unfold k_kedgeref04_block
  refine ox ?_
  repeat (first|refine go ?_|refine zg (fun _ _=>?_)|refine zi (fun _ _=>?_))
  refine zD rfl rfl (fun b2 w2 x2 a2 r2 hb2 => ?_)
  repeat (first|refine go ?_|refine zg (fun _ _=>?_)|refine zi (fun _ _=>?_))
  refine zH (fun b4 w4 x4 (a4 : At w4 b4 (.cells (ZR 8).toArray T.n_8_uint32 (0, 0))) hb4 => ?_)
  repeat (first|refine go ?_|refine zg (fun _ _=>?_)|refine zi (fun _ _=>?_))
  refine zH (fun b5 w5 x5 (a5 : At w5 b5 (.cells (ZR 64).toArray T.n_64_uint32 (0, 0))) hb5 => ?_)
  rw [ZR, schZ (blkW l)] at a5
  repeat (first|refine go ?_|refine zg (fun _ _=>?_)|refine zi (fun _ _=>?_))
  refine zC rfl (rk_spec _) ?_
  rintro _ w6 ⟨rfl, x6⟩
  repeat (first|refine go ?_|refine zg (fun _ _=>?_)|refine zi (fun _ _=>?_))
  refine zH (fun b6 w7 x7 (a6 : At w7 b6 (.cells (ZR 64).toArray T.n_64_uint32 (0, 0))) hb6 => ?_)
  repeat (first|refine go ?_|refine zg (fun _ _=>?_)|refine zi (fun _ _=>?_))
  have l2 := a2.lt
  have l4 := a4.lt
  have l5 := a5.lt
  have l6 := a6.lt
  have s6 := x6.size
  have h24 : b2 < b4 := by omega
  have h45 : b4 < b5 := by omega
  have h56 : b5 < b6 := by omega
  refine st_storeN0 (vs := wCs kTab) rfl rfl (by kernel_rfl) (all_one (wCs_one _)) a6 rfl (fun w8 c8 a8 => ?_)
  have hI : BlkI w b2 b4 b5 b6 H (schA (blkW l) 0) w8 := ⟨(Ext.chg (w := w) (by exact fx) c8).mono (by have := x2.size; have := x4.size; have := x5.size; intro y hy; simp at hy; right; omega), At.chg c8 (by focus (repeat (first | assumption | (apply At.ext; assumption)))) (by simp; omega), At.chg c8 (by focus (repeat (first | assumption | (apply At.ext; assumption)))) (by simp; omega), At.chg c8 (by focus (repeat (first | assumption | (apply At.ext; assumption)))) (by simp; omega), a8⟩
  have g5 : w.heap.size ≤ b5 := by have := x2.size; have := x4.size; omega
  clear x2 a2 r2 x4 a4 x5 a5 x6 x7 a6 c8 a8
  repeat' (first|(first|refine zF (qRot_eq _ .u64 7 (by decide) (by decide)) ?_)|(first|refine zF (qRot_eq _ .u64 18 (by decide) (by decide)) ?_)|(first|refine zF (qRot_eq _ .u64 17 (by decide) (by decide)) ?_)|(first|refine zF (qRot_eq _ .u64 19 (by decide) (by decide)) ?_)|refine st_wShr 3 (by decide) rfl rfl ?_|refine st_wShr 10 (by decide) rfl rfl ?_|(refine st_mul rfl rfl (by omega) ?_)|(refine st_wMul (b := BitVec.ofNat 32 16777216) rfl (by unfold u32; rfl) ?_)|(refine st_wMul (b := BitVec.ofNat 32 65536) rfl (by unfold u32; rfl) ?_)|(refine st_wMul (b := BitVec.ofNat 32 256) rfl (by unfold u32; rfl) ?_)|(first|refine st_wAdd rfl rfl ?_|refine st_wXor rfl rfl ?_|refine st_wAnd rfl rfl ?_|refine st_wOr rfl rfl ?_|refine st_wNot rfl ?_|refine st_wByte rfl ?_)|(refine st_arr (i - 15) rfl (congrArg (Value.int .i64) (by omega)) (by omega) ?_)|(refine st_arr (i - 2) rfl (congrArg (Value.int .i64) (by omega)) (by omega) ?_)|(refine st_arr (i - 16) rfl (congrArg (Value.int .i64) (by omega)) (by omega) ?_)|(refine st_arr (i - 7) rfl (congrArg (Value.int .i64) (by omega)) (by omega) ?_)|(refine st_arr i rfl rfl (by omega) ?_)|(refine st_ldW (ad := ⟨b5, 0, none⟩) (l := schA (blkW l) i) _ rfl (BlkI.r5 (BlkI.e (w' := w10) (by exact fx) hQ)) (by rw [schA_length (by omega)]; omega) ?_)|(first|refine go1 ?_|refine zg (fun _ _=>?_)|refine zi (fun _ _=>?_))|refine zL rfl (fun h => ?_) (fun h => ?_)|(refine st_elemE (n := 4 * i) (l := l) rfl (congrArg (Value.int .i64) (by omega)) (SlE.ext (w := w9) (by exact fx) hv2) rfl (by omega) (fun ad r7 => ?_))|(refine st_elemE (n := 4 * i + 1) (l := l) rfl (congrArg (Value.int .i64) (by omega)) (SlE.ext (w := w9) (by exact fx) hv2) rfl (by omega) (fun ad r7 => ?_))|(refine st_elemE (n := 4 * i + 2) (l := l) rfl (congrArg (Value.int .i64) (by omega)) (SlE.ext (w := w9) (by exact fx) hv2) rfl (by omega) (fun ad r7 => ?_))|(refine st_elemE (n := 4 * i + 3) (l := l) rfl (congrArg (Value.int .i64) (by omega)) (SlE.ext (w := w9) (by exact fx) hv2) rfl (by omega) (fun ad r7 => ?_))|(refine c_loopV (fun (i : Nat) w' => BlkI w b2 b4 b5 b6 H (schA (blkW l) i) w' ∧ i ≤ 16) (fun i => [(1, v), (2, .pointer (some ⟨b2, 0, none⟩)), (4, .pointer (some ⟨b4, 0, none⟩)), (5, .pointer (some ⟨b5, 0, none⟩)), (6, .pointer (some ⟨b6, 0, none⟩)), (7, .int .i64 i)]) (fun i => 16 - i) 0 ⟨rfl, rfl, rfl, rfl, rfl, rfl, trivial⟩ ⟨hI, by omega⟩ ?_; rintro i ρ w9 ⟨hJ, hi⟩; have hv2 := hv.ext hJ.x; have a5 := hJ.a5)|(refine c_loopV (fun (i : Nat) w' => BlkI w b2 b4 b5 b6 H (schA (blkW l) i) w' ∧ 16 ≤ i ∧ i ≤ 64) (fun i => [(2, .pointer (some ⟨b2, 0, none⟩)), (4, .pointer (some ⟨b4, 0, none⟩)), (5, .pointer (some ⟨b5, 0, none⟩)), (6, .pointer (some ⟨b6, 0, none⟩)), (8, .int .i64 i)]) (fun i => 64 - i) 16 ⟨rfl, rfl, rfl, rfl, rfl, trivial⟩ ⟨by rw [show 16 = i by omega]; exact hJ, by omega, by omega⟩ ?_; clear hJ hi hv2 a5 h; clear i; rintro i ρ9 w10 ⟨hQ, hi, hi2⟩; have a5 := hQ.a5)|(refine st_store rfl rfl (u32_one _) (by focus (repeat (first | assumption | (apply At.ext; assumption)))) (by rw [wCs_len, schA_length (by omega)]; omega) (fun w11 c11 a11 => ?_)))
  · refine ⟨i + 1, ⟨rfl, rfl, rfl, rfl, rfl, rfl, trivial⟩, ⟨BlkI.s (BlkI.e (w' := w9) (by exact fx) hJ) c11 ?_ g5 (by omega) (by omega) (by omega), by omega⟩, by omega⟩
    rw [← sch_lo (by omega), ← be_at (by omega) hl]
    exact a11
  · refine ⟨i + 1, ⟨rfl, rfl, rfl, rfl, rfl, trivial⟩, ⟨BlkI.s (BlkI.e (w' := w10) (by exact fx) hQ) c11 ?_ g5 (by omega) (by omega) (by omega), by omega, by omega⟩, by omega⟩
    rw [← sch_step (by omega) (by omega)]
    exact a11
  obtain rfl : i = 64 := by omega
  clear a5
  rw [schA_64] at hQ
  generalize hW : wseq (blkW l) 64 = W at hQ
  have lW : W.length = 64 := by rw [← hW, wseq_length]
  refine st_lN0 (n := 8) (l := wCs H.l) rfl hQ.r2 (by rw [wCs_len]; exact Nat.le_refl _) (List.take_of_length_le (by rw [wCs_len]; exact Nat.le_refl _)) ?_
  repeat (first|refine go ?_|refine zg (fun _ _=>?_)|refine zi (fun _ _=>?_))
  refine zH (fun b13 w11 x11 (a13 : At w11 b13 (.cells (ZR 8).toArray T.n_8_uint32 (0, 0))) hb13 => ?_)
  have l5' := hQ.a5.lt
  have l6' := hQ.a6.lt
  repeat (first|refine go ?_|refine zg (fun _ _=>?_)|refine zi (fun _ _=>?_))
  refine st_storeN0 (vs := wCs H.l) rfl rfl (by rw [wCs_len]; rfl) (all_one (wCs_one _)) (cur := ZR 8) a13 rfl (fun w12 c12 a12 => ?_)
  have hR := BlkI.c (BlkI.e x11 hQ) c12 (by have := hQ.x.size; omega) (by omega) (by omega) (by omega) (by omega)
  have g13 : w.heap.size ≤ b13 := by have := hQ.x.size; omega
  clear hQ x11 a13 c12
  repeat' (first|(first|refine zF (qRot_eq _ .u64 6 (by decide) (by decide)) ?_)|(first|refine zF (qRot_eq _ .u64 11 (by decide) (by decide)) ?_)|(first|refine zF (qRot_eq _ .u64 25 (by decide) (by decide)) ?_)|(first|refine zF (qRot_eq _ .u64 2 (by decide) (by decide)) ?_)|(first|refine zF (qRot_eq _ .u64 13 (by decide) (by decide)) ?_)|(first|refine zF (qRot_eq _ .u64 22 (by decide) (by decide)) ?_)|(first|refine st_wAdd rfl rfl ?_|refine st_wXor rfl rfl ?_|refine st_wAnd rfl rfl ?_|refine st_wOr rfl rfl ?_|refine st_wNot rfl ?_|refine st_wByte rfl ?_)|(refine st_arr 0 rfl rfl (by decide) ?_)|(refine st_arr 1 rfl rfl (by decide) ?_)|(refine st_arr 2 rfl rfl (by decide) ?_)|(refine st_arr 4 rfl rfl (by decide) ?_)|(refine st_arr 5 rfl rfl (by decide) ?_)|(refine st_arr 6 rfl rfl (by decide) ?_)|(refine st_arr 7 rfl rfl (by decide) ?_)|(refine st_arr i rfl rfl (by omega) ?_)|(refine st_arr j rfl rfl (by omega) ?_)|(refine st_arr (6 - c) rfl (congrArg (Value.int .i64) (by omega)) (by omega) ?_)|(refine st_arr (7 - c) rfl (congrArg (Value.int .i64) (by omega)) (by omega) ?_)|(refine st_ldW (ad := ⟨b6, 0, none⟩) (l := kTab) _ rfl (BlkI.r6 (BlkI.e (w' := w13) (by exact fx) hS)) (by rw [kTab_len]; omega) ?_)|(refine st_ldW (ad := ⟨b5, 0, none⟩) (l := W) _ rfl (BlkI.r5 (BlkI.e (w' := w13) (by exact fx) hS)) (by rw [lW]; omega) ?_)|(refine st_ldW (ad := ⟨b2, 0, none⟩) (l := H.l) _ rfl (BlkI.r2 (BlkI.e (w' := w18) (by exact fx) hV)) (by rw [l8]; omega) ?_)|(refine st_ldW (ad := ⟨b13, 0, none⟩) (l := shN (rnds W H i).l c) _ rfl (Row.of_at (t := T.n_8_uint32) (f := (0, 0)) (by focus (repeat (first | assumption | (apply At.ext; assumption))))) (by rw [shN_length]; omega) ?_)|(refine st_ldW (ad := ⟨b13, 0, none⟩) (l := addN (rnds W H 64).l H.l j) _ rfl (Row.of_at (t := T.n_8_uint32) (f := (0, 0)) (by focus (repeat (first | assumption | (apply At.ext; assumption))))) (by rw [addN_length]; omega) ?_)|(refine st_ldW (ad := ⟨b13, 0, none⟩) (l := (rnds W H i).l) _ rfl (Row.of_at (t := T.n_8_uint32) (f := (0, 0)) (by focus (repeat (first | assumption | (apply At.ext; assumption))))) (by rw [l8]; omega) ?_)|(first|refine go1 ?_|refine zg (fun _ _=>?_)|refine zi (fun _ _=>?_))|refine zL rfl (fun h => ?_) (fun h => ?_)|(refine c_loopV (fun (i : Nat) w' => BlkI w b2 b4 b5 b6 H W w' ∧ i ≤ 64 ∧ At w' b13 (.cells (wCs (rnds W H i).l).toArray T.n_8_uint32 (0, 0))) (fun i => [(2, .pointer (some ⟨b2, 0, none⟩)), (4, .pointer (some ⟨b4, 0, none⟩)), (5, .pointer (some ⟨b5, 0, none⟩)), (6, .pointer (some ⟨b6, 0, none⟩)), (13, .pointer (some ⟨b13, 0, none⟩)), (14, .int .i64 i)]) (fun i => 64 - i) 0 ⟨rfl, rfl, rfl, rfl, rfl, rfl, trivial⟩ ⟨hR, by omega, by rw [rnds_z]; exact a12⟩ ?_; rintro i ρ13 w13 ⟨hS, hi, hx⟩)|(refine c_loopV (fun (c : Nat) w' => BlkI w b2 b4 b5 b6 H W w' ∧ c ≤ 7 ∧ At w' b13 (.cells (wCs (shN (rnds W H i).l c)).toArray T.n_8_uint32 (0, 0))) (fun c => [(2, .pointer (some ⟨b2, 0, none⟩)), (4, .pointer (some ⟨b4, 0, none⟩)), (5, .pointer (some ⟨b5, 0, none⟩)), (6, .pointer (some ⟨b6, 0, none⟩)), (13, .pointer (some ⟨b13, 0, none⟩)), (14, .int .i64 i), (18, u32 (tOne (rnds W H i) (wAt kTab i) (wAt W i))), (19, u32 (tTwo (rnds W H i))), (20, .int .i64 ((7 : Int) - c))]) (fun c => 7 - c) 0 ⟨rfl, rfl, rfl, rfl, rfl, rfl, congrArg u32 (tOne_eq _ _ _), congrArg u32 (tTwo_eq _), rfl, trivial⟩ ⟨BlkI.e (w' := w13) (by exact fx) hS, by omega, by rw [show shN (rnds W H i).l 0 = (rnds W H i).l from shN_zero _]; focus (repeat (first | assumption | (apply At.ext; assumption)))⟩ ?_; rintro c ρ14 w14 ⟨hT, hc, hy⟩)|(refine c_loopV (fun (j : Nat) w' => BlkI w b2 b4 b5 b6 H W w' ∧ j ≤ 8 ∧ At w' b13 (.cells (wCs (addN (rnds W H 64).l H.l j)).toArray T.n_8_uint32 (0, 0))) (fun j => [(2, .pointer (some ⟨b2, 0, none⟩)), (4, .pointer (some ⟨b4, 0, none⟩)), (13, .pointer (some ⟨b13, 0, none⟩)), (21, .int .i64 j)]) (fun j => 8 - j) 0 ⟨rfl, rfl, rfl, rfl, trivial⟩ ⟨hS, by omega, by rw [addN_z, show 64 = i by omega]; exact hx⟩ ?_; rintro j ρ18 w18 ⟨hV, hj, hz⟩))
  · have hc7 : c < 7 := by omega
    refine st_store rfl rfl (u32_one _) hy (by rw [rlen]; omega) (fun w15 c15 a15 => ?_)
    repeat (first|refine go ?_|refine zg (fun _ _=>?_)|refine zi (fun _ _=>?_))
    refine ⟨c + 1, ⟨rfl, rfl, rfl, rfl, rfl, rfl, rfl, rfl, congrArg (Value.int .i64) (by omega), trivial⟩, ⟨BlkI.c hT c15 g13 (by omega) (by omega) (by omega) (by omega), by omega, ?_⟩, by omega⟩
    rw [← sh_step (o := 7 - c) hc7 rfl]
    exact a15
  · obtain rfl : c = 7 := by omega
    refine st_store (o := 4 * 1) rfl rfl (u32_one _) hy (by rw [rlen]; omega) (fun w15 c15 a15 => ?_)
    repeat (first|refine go ?_|refine zg (fun _ _=>?_)|refine zi (fun _ _=>?_))
    (first|refine st_wAdd rfl rfl ?_|refine st_wXor rfl rfl ?_|refine st_wAnd rfl rfl ?_|refine st_wOr rfl rfl ?_|refine st_wNot rfl ?_|refine st_wByte rfl ?_)
    repeat (first|refine go ?_|refine zg (fun _ _=>?_)|refine zi (fun _ _=>?_))
    refine st_store (o := 0 * 1) rfl rfl (u32_one _) a15 (by rw [List.length_set, rlen]; omega) (fun w16 c16 a16 => ?_)
    repeat (first|refine go ?_|refine zg (fun _ _=>?_)|refine zi (fun _ _=>?_))
    refine ⟨i + 1, ⟨rfl, rfl, rfl, rfl, rfl, rfl, trivial⟩, ⟨BlkI.c (BlkI.c hT c15 g13 (by omega) (by omega) (by omega) (by omega)) c16 g13 (by omega) (by omega) (by omega) (by omega), by omega, ?_⟩, by omega⟩
    have e := sh_end (rnds W H i) (tOne (rnds W H i) (wAt kTab i) (wAt W i)) (tTwo (rnds W H i))
    rw [rnds_s, rnd_l, ← e, ← wCs_set, ← wCs_set]
    exact a16
  · refine st_store rfl rfl (u32_one _) (At.ext (by assumption) hz) (by rw [wCs_len, addN_length]; omega) (fun w19 c19 a19 => ?_)
    repeat (first|refine go ?_|refine zg (fun _ _=>?_)|refine zi (fun _ _=>?_))
    refine ⟨j + 1, ⟨rfl, rfl, rfl, rfl, trivial⟩, ⟨BlkI.c (BlkI.e (w' := w18) (by assumption) hV) c19 g13 (by omega) (by omega) (by omega) (by omega), by omega, ?_⟩, by omega⟩
    rw [← add_step (by omega)]
    exact a19
  · obtain rfl : j = 8 := by omega
    rw [addN_eight] at hz
    refine st_lN0 (n := 8) (l := wCs (add8 (rnds W H 64) H).l) rfl (Row.of_at hz) (by rw [wCs_len]; exact Nat.le_refl _) (List.take_of_length_le (by rw [wCs_len]; exact Nat.le_refl _)) ?_
    refine st_setN (w0 := w) (vs := wCs (add8 (rnds W H 64) H).l) hV.x (by omega) hV.a4 rfl rfl (by rw [wCs_len]; rfl) rfl (wCs_one _) (fun w20 x20 c20 a20 r20 => ?_)
    repeat (first|refine go ?_|refine zg (fun _ _=>?_)|refine zi (fun _ _=>?_))
    refine x_ret (ret1 (rv_cell r20 rfl (by rw [wCs_len]; rfl))) ⟨?_, x20⟩
    rw [comp, hW, add8_comm]
end Go.Proofs.YtfeifodeaphbjaaGreat
end
