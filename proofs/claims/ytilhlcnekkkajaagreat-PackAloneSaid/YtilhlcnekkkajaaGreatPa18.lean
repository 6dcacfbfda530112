/- Plain: digests. Plain: digests as the reference makes them; steps over slices. Contracts: digests by the reference. Contracts: a round of a digest. Contracts: a block's schedule. Contracts: digests. Contracts: a block of a digest by the reference. Plain: what a transaction is told by, and its size. Contracts: digests by the reference; ids and sizes of transactions. The engine, part 16: stores into -/
import Derived.Test.YtilhlcnekkkajaaGreatPa17
set_option linter.unusedVariables false
set_option linter.unusedSimpArgs false
section
namespace Go.K
open Go
/-- The words behind n blocks. -/
def runP (m : List UInt8) : Nat → S8
  | 0 => s8Init
  | n + 1 => comp (runP m n) (m.drop (64 * n))
def shaS (s : ByteArray) : ByteArray := outW (runP (padL s.data.toList) ((padL s.data.toList).length / 64)).l
def sha2 (s : ByteArray) : ByteArray := shaS (shaS s)
theorem padL_len (s : ByteArray) : (padL s.data.toList).length = 64 * ((padL s.data.toList).length / 64) := by
  have := padL_length s.data.toList; omega
theorem padL_le (s : ByteArray) : (padL s.data.toList).length ≤ s.size + 73 := by
  have hl : s.data.toList.length = s.size := by rw [Array.length_toList]; rfl
  simp only [padL, List.length_append, List.length_reverse, leL_length, List.length_replicate, List.length_cons, List.length_nil, padN, hl]
  omega
theorem shaS_size (s : ByteArray) : (shaS s).size = 32 := by
  unfold shaS outW
  simp only [catB, S8.l, List.map_cons, List.map_nil, List.foldl_cons, List.foldl_nil, ByteArray.size_append, str_size, List.length_reverse, leL_length]
  rfl
/-- A row of which the first n words have been added to. -/
def addN (a b : List W32) (n : Nat) : List W32 := (List.range 8).map fun i => if i < n then wAt a i + wAt b i else wAt a i
theorem addN_length (a b : List W32) (n : Nat) : (addN a b n).length = 8 := by simp [addN]
theorem addN_at {a b : List W32} {n i : Nat} (h : i < 8) : wAt (addN a b n) i = if i < n then wAt a i + wAt b i else wAt a i := by
  unfold addN
  conv => lhs; unfold wAt
  rw [List.getD_eq_getElem?_getD, List.getElem?_map, List.getElem?_range h]; rfl
theorem addN_zero (s t : S8) : addN s.l t.l 0 = s.l := rfl
theorem addN_eight (s t : S8) : addN s.l t.l 8 = (add8 s t).l := rfl
theorem addN_set {a b : List W32} {n : Nat} (h : n < 8) : (addN a b n).set n (wAt a n + wAt b n) = addN a b (n + 1) := by
  apply List.ext_getElem
  · simp [addN]
  · intro i h1 h2
    simp only [List.getElem_set, addN, List.getElem_map, List.getElem_range]
    by_cases e : n = i
    · subst e; simp
    · rw [if_neg e]
      by_cases h3 : i < n
      · rw [if_pos h3, if_pos (by omega)]
      · rw [if_neg h3, if_neg (by omega)]
theorem add_step {a b : List W32} {n : Nat} (h : n < 8) : (wCs (addN a b n)).set (n * 1) (u32 (wAt (addN a b n) n + wAt b n)) = wCs (addN a b (n + 1)) := by
  rw [addN_at h, if_neg (by omega), Nat.mul_one, wCs_set, addN_set h]
section
variable {P : Program} {d : Option Tmp} {r : KR} {K : Env → World → Prop} {ρ : Env} {w : World}
theorem st_joinV {a b : KR} {σ : Type} (I : σ → World → Prop) (E : σ → List (Tmp × Value)) (h1 : regK P a (fun ρ' w' => ∃ s, Has ρ' (E s) ∧ I s w') ρ w) (h2 : ∀ s ρ w, I s w → regK P b K (upds ρ (E s)) w) : regK P (.join a b) K ρ w :=
  st_join (regK_mono (fun ρ w ⟨s, g1, g2⟩ => by have := h2 s ρ w g2; rwa [upds_eq g1] at this) a h1)
theorem st_wWide {x : Operand} {a : W32} (hx : ev ρ x = u32 a) (k : regK P r K (put ρ d (.int .u64 (a.toNat : Nat))) w) : regK P (.cons ⟨d, .conv .u64 x, none⟩ r) K ρ w :=
  st_fix rfl (by
    simp only [KOp.fix, hx, u32]
    rw [u64_wrap (by omega) (by have := a.isLt; omega)]) k
theorem st_aggW {x i : Operand} {l : List W32} {kd : IntKind} {n ln : Nat} (hx : ev ρ x = .agg (wCs l).toArray) (hi : ev ρ i = .int kd (n : Nat)) (hn : n < ln) (hl : l.length = ln) (k : regK P r K (put ρ d (u32 (wAt l n))) w) : regK P (.cons ⟨d, .indexAgg ln x i, none⟩ r) K ρ w :=
  st_fix rfl (by
    simp only [KOp.fix, hx, hi]
    rw [if_pos (by omega), Int.toNat_natCast, List.getElem?_toArray, wCs_get (by omega)]) k
end
theorem drop_str (s : ByteArray) (n : Nat) : s.extract n s.size = str (s.data.toList.drop n) := by
  have h := sub_list s n s.size
  have hl : s.data.toList.length = s.size := by rw [Array.length_toList]; rfl
  rw [str_self (s.extract n s.size), h, List.take_of_length_le (by rw [List.length_drop, hl]; omega)]
theorem str_list (l : List UInt8) : (str l).data.toList = l := by simp [str]
end Go.K
end
section
namespace Go.K
open Go
/-- A text's padding: what has been laid behind it. -/
def padZ (l : List UInt8) (k : Nat) : List UInt8 := l ++ [128] ++ List.replicate k 0
/-- A row of eight words, moved up by one from its end on, c times. -/
def shN (l : List W32) (c : Nat) : List W32 := (List.range 8).map fun j => if j ≤ 7 - c then wAt l j else wAt l (j - 1)
section
variable {P : Program} {d : Option Tmp} {r : KR} {K : Env → World → Prop} {ρ : Env} {w : World}
theorem st_fixV {o : KOp} (v : Value) (hs : o.isFix = true) (h : o.fix ρ = some v) (k : regK P r K (put ρ d v) w) : regK P (.cons ⟨d, o, none⟩ r) K ρ w := st_fix hs h k
end
end Go.K
end
section
namespace Go.Proofs.YtilhlcnekkkajaaGreat
open Go Go.K
attribute [local irreducible] regK codeK retK KOp.wp K.Spec u32 leS vnS str zero32 wseq wCs schR schA blkW partW kTab rnds runP padL padZ addN shN outW catB leL

section
variable {P : Program} {d : Option Tmp} {r : KR} {K : Env → World → Prop} {ρ : Env} {w : World}
end
end Go.Proofs.YtilhlcnekkkajaaGreat
end
section
namespace Go.Proofs.YtilhlcnekkkajaaGreat
open Go Go.K
attribute [local irreducible] regK codeK retK KOp.wp K.Spec u32

theorem round_spec (s : S8) (k x : W32) (w : World) : K.Spec Tryz.prog F.sha_round [.agg s.cs.toArray, u32 k, u32 x] w fun r w' => r = .agg (rnd s k x).cs.toArray ∧ Ext w w' := by
  refine s_sha_round rfl ?_
  unfold k_sha_round
  refine oy ?_
  repeat' (first|(first|refine st_wAdd rfl rfl ?_|refine st_wXor rfl rfl ?_|refine st_wAnd rfl rfl ?_|refine st_wOr rfl rfl ?_|refine st_wNot rfl ?_|refine st_wByte rfl ?_)|(first|refine zF (qRot_eq _ .i64 6 (by decide) (by decide)) ?_)|(first|refine zF (qRot_eq _ .i64 11 (by decide) (by decide)) ?_)|(first|refine zF (qRot_eq _ .i64 25 (by decide) (by decide)) ?_)|(first|refine zF (qRot_eq _ .i64 2 (by decide) (by decide)) ?_)|(first|refine zF (qRot_eq _ .i64 13 (by decide) (by decide)) ?_)|(first|refine zF (qRot_eq _ .i64 22 (by decide) (by decide)) ?_)|(first|refine go1 ?_|refine zg (fun _ _=>?_)|refine zi (fun _ _=>?_))|(first|refine zD rfl rfl (fun bp wp xp ap rp hp0=>?_)|refine zE (fun _=>rfl) rfl rfl rfl (fun bq wq xq aq rq hq0=>?_))|refine zB ?_ ?_|(refine zH (fun b w1 x1 a1 hb => ?_))|(refine st_build (fill8 (s := rnd s k x) rfl rfl rfl rfl rfl rfl rfl rfl) ?_)|refine st_setN (w0 := w) (vs := (rnd s k x).cs) (by exact fx) (Nat.le_trans (by exact fx) hb) (by focus (repeat (first | assumption | (apply At.ext; assumption)))) rfl rfl rfl rfl (cs_one _) (fun w5 x5 c5 a5 r5 => ?_))
  exact x_ret (ret1 (rv_cell r5 rfl rfl)) ⟨rfl, x5⟩
end Go.Proofs.YtilhlcnekkkajaaGreat
end
section
namespace Go.Proofs.YtilhlcnekkkajaaGreat
open Go Go.K
attribute [local irreducible] regK codeK retK KOp.wp K.Spec u32 leS vnS str zero32 catB wseq wCs schR schA blkW partW wAt

theorem part0 {B : List W32} {i : Nat} {bs : List UInt8} {w : World} {b : Nat} {T : TypeId} {f : Nat × Nat} (h : i < 64) (ha : At w b (.cells (wCs (schA B i)).toArray T f)) : At w b (.cells (wCs (schR B i (partW bs 0))).toArray T f) := by
  rw [schA_lt h] at ha
  have e : partW bs 0 = 0 := by unfold partW; rfl
  rw [e]; exact ha
set_option maxHeartbeats 4000000 in
theorem sched_spec (s : ByteArray) (hs : 64 ≤ s.size) (hm : s.size ≤ 100000000) (w : World) : K.Spec Tryz.prog F.sha_schedule [.string s] w fun r w' => r = .agg (wCs (wseq (blkW s.data.toList) 64)).toArray ∧ Ext w w' := by
  refine s_sha_schedule rfl ?_
  unfold k_sha_schedule
  refine oy ?_
  repeat (first|refine go ?_|refine zg (fun _ _=>?_)|refine zi (fun _ _=>?_))
  refine zH (fun b2 w1 x1 a2 hb2 => ?_)
  repeat (first|refine go ?_|refine zg (fun _ _=>?_)|refine zi (fun _ _=>?_))
  refine zH (fun b3 w2 x2 a3 hb3 => ?_)
  have a3 : At w2 b3 (.cells (wCs (schA (blkW s.data.toList) 0)).toArray T.n_64_uint32 (0, 0)) := by
    rw [schA_lt (by decide), schR_zero, ← wz64]; exact a3
  have a2 : At w1 b2 (.cells (List.replicate 64 (Value.int .u32 0)).toArray T.n_64_uint32 (0, 0)) := a2
  have hb23 : ∀ i, i < 16 → (s.extract (4 * i) (4 * i + 4)).data.toList.length = 4 := fun i hi => by
    rw [sub_list, List.length_take, List.length_drop, Array.length_toList]
    have : s.data.size = s.size := rfl
    omega
  repeat' (first|(first|refine st_wAdd rfl rfl ?_|refine st_wXor rfl rfl ?_|refine st_wAnd rfl rfl ?_|refine st_wOr rfl rfl ?_|refine st_wNot rfl ?_|refine st_wByte rfl ?_)|(first|refine zF (qRot_eq _ .i64 7 (by decide) (by decide)) ?_)|(first|refine zF (qRot_eq _ .i64 18 (by decide) (by decide)) ?_)|(first|refine zF (qRot_eq _ .i64 17 (by decide) (by decide)) ?_)|(first|refine zF (qRot_eq _ .i64 19 (by decide) (by decide)) ?_)|refine st_wShr 3 (by decide) rfl rfl ?_|refine st_wShr 10 (by decide) rfl rfl ?_|refine st_wShl 8 (by decide) rfl rfl ?_|(refine st_arr (i - 15) rfl (congrArg (Value.int .i64) (by omega)) (by omega) ?_)|(refine st_arr (i - 2) rfl (congrArg (Value.int .i64) (by omega)) (by omega) ?_)|(refine st_arr (i - 16) rfl (congrArg (Value.int .i64) (by omega)) (by omega) ?_)|(refine st_arr (i - 7) rfl (congrArg (Value.int .i64) (by omega)) (by omega) ?_)|(refine st_arr i rfl rfl (by omega) ?_)|(refine st_mul rfl rfl (by omega) ?_)|(refine st_ldW _ rfl (Row.of_at (t := T.n_64_uint32) (f := (0, 0)) (by focus (repeat (first | assumption | (apply At.ext; assumption))))) (by first|(rw [schA_length (by omega)]; omega)|(rw [schR_length (by omega)]; omega)) ?_)|(first|refine go1 ?_|refine zg (fun _ _=>?_)|refine zi (fun _ _=>?_))|refine zL rfl (fun h => ?_) (fun h => ?_)|(refine c_loopV (fun (i : Nat) w' => Ext w1 w' ∧ i ≤ 64 ∧ At w' b3 (.cells (wCs (schA (blkW s.data.toList) i)).toArray T.n_64_uint32 (0, 0))) (fun i => [(0, .string s), (2, .pointer (some ⟨b2, 0, none⟩)), (3, .pointer (some ⟨b3, 0, none⟩)), (9, .int .i64 i)]) (fun i => 64 - i) 0 ⟨rfl, rfl, rfl, rfl, trivial⟩ ⟨by exact fx, by omega, a3⟩ ?_; rintro i ρ w3 ⟨x3, hi, ha⟩)|(refine st_mul rfl rfl (by omega) ?_)|(refine st_subStr (lo := 4 * i) (hi := 4 * i + 4) rfl (congrArg (Value.int .i64) (by omega)) (congrArg (Value.int .i64) (by omega)) (by omega) (by omega) ?_)|(refine st_bytesOf rfl (fun v w4 x4 hv hb4 => ?_))|(refine st_len rfl hv ?_)|(have hi16 : i < 16 := (by omega); have hbl := hb23 i hi16; refine c_loopV (fun (k : Nat) w' => Ext w1 w' ∧ k ≤ 4 ∧ SlE u8E w' v (s.extract (4 * i) (4 * i + 4)).data.toList ∧ At w' b3 (.cells (wCs (schR (blkW s.data.toList) i (partW (s.extract (4 * i) (4 * i + 4)).data.toList k))).toArray T.n_64_uint32 (0, 0))) (fun k => [(0, .string s), (2, .pointer (some ⟨b2, 0, none⟩)), (3, .pointer (some ⟨b3, 0, none⟩)), (4, .int .i64 i), (9, .int .i64 i), (21, v), (22, .int .i64 ((s.extract (4 * i) (4 * i + 4)).data.toList.length : Nat)), (23, .int .i64 k)]) (fun k => 4 - k) 0 ⟨rfl, rfl, rfl, rfl, rfl, rfl, rfl, rfl, trivial⟩ ⟨by exact fx, by omega, by exact fx, part0 (by omega) (by focus (repeat (first | assumption | (apply At.ext; assumption))))⟩ ?_; rintro k ρ4 w6 ⟨x6, hk, hv6, ha6⟩)|(refine st_elemE rfl rfl hv6 rfl (by omega) (fun ad r7 => ?_); have hkl : k < 4 := (by omega))|(refine st_store rfl rfl (u32_one _) (by focus (repeat (first | assumption | (apply At.ext; assumption)))) (by rw [wCs_len]; first|(rw [schA_length (by omega)]; omega)|(rw [schR_length (by omega)]; omega)) (fun w8 c8 a8 => ?_))|(have e : i = 64 := (by omega); subst e; refine st_lN0 (n := 64) rfl (Row.of_at ha) (by rw [wCs_len, schA_length (by omega)]; exact Nat.le_refl _) (List.take_of_length_le (by rw [wCs_len, schA_length (by omega)]; exact Nat.le_refl _)) ?_)|(refine st_setN (w0 := w) (vs := wCs (schA (blkW s.data.toList) 64)) (by exact fx) hb2 (a2.ext x3) rfl rfl (by rw [wCs_len, schA_length (by omega)]) (by rw [List.length_replicate]) (wCs_one _) (fun w9 x9 c9 a9 r9 => ?_)))
  · refine ⟨k + 1, ⟨rfl, rfl, rfl, rfl, rfl, rfl, rfl, rfl, trivial⟩, ⟨(x6.chg c8).mono (by intro y hy; simp at hy; right; omega), by omega, SlE.chg c8 hv6 (fun a m c e hm => ?_), ?_⟩, by omega⟩
    · have h1 := hb4 a.block (by rw [e]; simp [blkOf])
      have h2 := ha.lt
      simp at hm; omega
    · rw [← part_step (by omega)]
      exact a8
  · obtain rfl : k = 4 := by omega
    rw [part_last hi16] at ha6
    exact ⟨i + 1, ⟨rfl, rfl, rfl, rfl, trivial⟩, ⟨x6, by omega, ha6⟩, by omega⟩
  · have x7 : Ext w1 w8 := (Ext.chg (w := w1) (by exact fx) c8).mono (by intro y hy; simp at hy; right; omega)
    refine ⟨i + 1, ⟨rfl, rfl, rfl, rfl, trivial⟩, ⟨x7, by omega, ?_⟩, by omega⟩
    rw [← sch_step (by omega) (by omega)]
    exact a8
  · exact x_ret (ret1 (rv_cell r9 rfl (by rw [wCs_len, schA_length (by omega)]))) ⟨by rw [schA_64], x9⟩
end Go.Proofs.YtilhlcnekkkajaaGreat
end
section
namespace Go.Proofs.YtilhlcnekkkajaaGreat
open Go Go.K
attribute [local irreducible] regK codeK retK KOp.wp K.Spec u32 leS vnS str zero32 wseq wCs schR schA blkW partW wAt kTab rnds runP padL addN outW catB

theorem begin_spec (w : World) : K.Spec Tryz.prog F.sha_begin [] w fun r w' => r = .agg (wCs s8Init.l).toArray ∧ Ext w w' := by
  refine s_sha_begin rfl ?_
  unfold k_sha_begin
  refine oy ?_
  repeat' (first|(refine st_build (cs := s8Init.cs) (by kernel_rfl) ?_)|(first|refine go1 ?_|refine zg (fun _ _=>?_)|refine zi (fun _ _=>?_))|(refine zH (fun b w1 x1 a1 hb => ?_))|refine st_setN (w0 := w) (vs := s8Init.cs) (by exact fx) (Nat.le_trans (by exact fx) hb) (by focus (repeat (first | assumption | (apply At.ext; assumption)))) rfl rfl rfl rfl (cs_one _) (fun w5 x5 c5 a5 r5 => ?_))
  exact x_ret (ret1 (rv_cell r5 rfl rfl)) ⟨by rw [S8.cs_eq], x5⟩
theorem keys_spec (w : World) : K.Spec Tryz.prog F.sha_keys [] w fun r w' => r = .agg (wCs kTab).toArray ∧ Ext w w' := by
  refine s_sha_keys rfl ?_
  unfold k_sha_keys
  refine oy ?_
  repeat' (first|(refine st_build (cs := wCs kTab) (by kernel_rfl) ?_)|(first|refine go1 ?_|refine zg (fun _ _=>?_)|refine zi (fun _ _=>?_))|(refine zH (fun b w1 x1 a1 hb => ?_))|refine st_setN (w0 := w) (vs := wCs kTab) (by exact fx) (Nat.le_trans (by exact fx) hb) (by focus (repeat (first | assumption | (apply At.ext; assumption)))) rfl rfl (by kernel_rfl) (by kernel_rfl) (wCs_one _) (fun w5 x5 c5 a5 r5 => ?_))
  exact x_ret (ret1 (rv_cell r5 rfl (by kernel_rfl))) ⟨rfl, x5⟩
abbrev ZR (n : Nat) : List Value := List.replicate n (Value.int .u32 0)
theorem l8 (s : S8) : s.l.length = 8 := rfl
theorem high4_spec (x : W32) (w : World) : K.Spec Tryz.prog F.sha_high [.int .u64 (x.toNat : Nat), .int .i64 4] w fun r w' => r = .string (str (leL x.toNat 4).reverse) ∧ Ext w w' := high_spec x.toNat 4 (by decide) w
theorem run_z (m : List UInt8) : runP m 0 = s8Init := by unfold runP; rfl
theorem dsize {m : List UInt8} {N n : Nat} (hN : m.length = 64 * N) (hn : n ≤ N) : (str (m.drop (64 * n))).size = 64 * (N - n) := by
  rw [str_size, List.length_drop]; omega
theorem ne_sz {m : List UInt8} {N n : Nat} (hN : m.length = 64 * N) (hn : n ≤ N) (h : ¬ str (m.drop (64 * n)) = ⟨#[]⟩) : n < N := by
  rcases Nat.lt_or_ge n N with h1 | h1
  · exact h1
  · exact absurd (by rw [List.drop_eq_nil_of_le (by omega), str_nil]) h
theorem round2_spec (s : S8) (k x : W32) (w : World) : K.Spec Tryz.prog F.sha_round [.agg (wCs s.l).toArray, u32 k, u32 x] w fun r w' => r = .agg (wCs (rnd s k x).l).toArray ∧ Ext w w' := by
  rw [← S8.cs_eq, ← S8.cs_eq]; exact round_spec s k x w
theorem rnds_z (W : List W32) (H : S8) : rnds W H 0 = H := by unfold rnds; rfl
theorem rnds_s (W : List W32) (H : S8) (i : Nat) : rnds W H (i + 1) = rnd (rnds W H i) (wAt kTab i) (wAt W i) := by conv => lhs; unfold rnds
theorem kTab_len : kTab.length = 64 := by unfold kTab; rfl
theorem addN_z (s t : S8) : addN s.l t.l 0 = s.l := addN_zero s t
theorem run_s (m : List UInt8) (n : Nat) : runP m (n + 1) = add8 (runP m n) (rnds (wseq (blkW (m.drop (64 * n))) 64) (runP m n) 64) := by conv => lhs; unfold runP; unfold comp
section
variable {P : Program} {d : Option Tmp} {r : KR} {K : Env → World → Prop} {ρ : Env} {w : World}
theorem st_dropStr {x l : Operand} {s : ByteArray} {kl : IntKind} {lo : Nat} (hx : ev ρ x = .string s) (hl : ev ρ l = .int kl (lo : Nat)) (h2 : lo ≤ s.size) (k : regK P r K (put ρ d (.string (s.extract lo s.size))) w) : regK P (.cons ⟨d, .sliceStr x (some l) none, none⟩ r) K ρ w :=
  st_fix rfl (by
    simp only [KOp.fix, hx, hl]
    rw [Option.bind_some, if_pos (by omega), Option.map_some, Int.toNat_natCast]) k
end
set_option maxHeartbeats 4000000 in
theorem dig_spec (s : ByteArray) (hs : s.size ≤ 4000000) (w : World) : K.Spec Tryz.prog F.sha_Sum [.string s] w fun r w' => r = .string (shaS s) ∧ Ext w w' := by
  obtain ⟨N, hN⟩ : ∃ N, (padL s.data.toList).length = 64 * N := ⟨_, padL_len s⟩
  have hl := padL_le s
  generalize hm : padL s.data.toList = m at hN hl
  refine s_sha_Sum rfl ?_
  unfold k_sha_Sum
  refine oy ?_
  repeat' (first|(first|refine go1 ?_|refine zg (fun _ _=>?_)|refine zi (fun _ _=>?_))|(refine zC rfl (begin_spec _) ?_; rintro _ w1 ⟨rfl, x1⟩)|(refine zC rfl (keys_spec _) ?_; rintro _ w2 ⟨rfl, x2⟩)|(refine zH (fun b3 w3 x3 (a3 : At w3 b3 (.cells (ZR 8).toArray T.n_8_uint32 (0, 0))) hb3 => ?_); have l3 := a3.lt)|(refine zH (fun b4 w4 x4 (a4 : At w4 b4 (.cells (ZR 64).toArray T.n_64_uint32 (0, 0))) hb4 => ?_); have l4 := a4.lt)|(refine st_storeN0 (vs := wCs s8Init.l) rfl rfl (by rw [wCs_len]; rfl) (all_one (wCs_one _)) (cur := ZR 8) (by focus (repeat (first | assumption | (apply At.ext; assumption)))) rfl (fun w5 c5 a5 => ?_); have a6 := At.chg c5 a4 (by simp; omega))|(refine st_storeN0 (vs := wCs kTab) rfl rfl (by unfold wCs kTab; rfl) (all_one (wCs_one _)) (cur := ZR 64) a6 rfl (fun w6 c6 a7 => ?_); have a8 := At.chg c6 a5 (by simp; omega); have x6 : Ext w w6 := (Ext.chg (w := w) (by exact fx) (c5.trans c6)).mono (by have := x1.size; have := x2.size; have := x3.size; intro y hy; simp at hy; right; omega))|(refine zC rfl (padded_spec s hs _) ?_; rintro _ w7 ⟨rfl, x7⟩; rw [hm]))
  repeat' (first|(refine st_joinV (b := .cons ⟨none, .storeN 8 (t 6) (t 22), none⟩ .nil) (fun (p : Nat × Nat) w' => Ext w8 w' ∧ w8.heap.size ≤ p.1 ∧ w8.heap.size ≤ p.2 ∧ p.1 ≠ p.2 ∧ At w' p.1 (.cells (wCs (wseq (blkW (m.drop (64 * n))) 64)).toArray T.n_64_uint32 (0, 0)) ∧ At w' p.2 (.cells (ZR 8).toArray T.n_8_uint32 (0, 0))) (fun p => [(0, .string (str (m.drop (64 * n)))), (2, .string ⟨#[]⟩), (3, .pointer (some ⟨b3, 0, none⟩)), (4, .pointer (some ⟨b4, 0, none⟩)), (5, .pointer (some ⟨p.1, 0, none⟩)), (6, .pointer (some ⟨p.2, 0, none⟩)), (22, .agg (wCs (runP m n).l).toArray)]) ?_ ?_)|(rintro ⟨b5, b6⟩ ρ2 w9 ⟨x9, (g5 : w8.heap.size ≤ b5), (g6 : w8.heap.size ≤ b6), (g56 : b5 ≠ b6), (d5 : At w9 b5 (.cells (wCs (wseq (blkW (m.drop (64 * n))) 64)).toArray T.n_64_uint32 (0, 0))), (d6 : At w9 b6 (.cells (ZR 8).toArray T.n_8_uint32 (0, 0)))⟩; dsimp only)|(first|refine go1 ?_|refine zg (fun _ _=>?_)|refine zi (fun _ _=>?_))|(refine c_loopV (fun (n : Nat) w' => Ext w w' ∧ n ≤ N ∧ At w' b3 (.cells (wCs (runP m n).l).toArray T.n_8_uint32 (0, 0)) ∧ At w' b4 (.cells (wCs kTab).toArray T.n_64_uint32 (0, 0))) (fun n => [(0, .string (str (m.drop (64 * n)))), (2, .string ⟨#[]⟩), (3, .pointer (some ⟨b3, 0, none⟩)), (4, .pointer (some ⟨b4, 0, none⟩))]) (fun n => N - n) 0 ⟨rfl, rfl, rfl, rfl, trivial⟩ ⟨by exact fx, by omega, by rw [run_z]; focus (repeat (first | assumption | (apply At.ext; assumption))), by focus (repeat (first | assumption | (apply At.ext; assumption)))⟩ ?_; rintro n ρ w8 ⟨x8, hn, h3, h4⟩; have hsz := dsize hN hn)|(refine zN rfl (fun h => ?_) (fun h => ?_))|refine zB ?_ ?_|(refine zC rfl (sched_spec _ (by rw [hsz]; have := ne_sz hN hn h; omega) (by omega) _) ?_; rintro _ w9 ⟨rfl, x9⟩; have s9 := x9.size)|(refine st_lN0 (n := 8) (l := wCs (runP m n).l) rfl (Row.of_at (t := T.n_8_uint32) (f := (0, 0)) (by first | (focus (repeat (first | assumption | (apply At.ext; assumption))); done) | exact h3.ext z10)) (by rw [wCs_len]; exact Nat.le_refl _) (by rw [List.take_of_length_le]; rw [wCs_len]; exact Nat.le_refl _) ?_)|(refine zH (fun b6 w6 y6 (d6 : At w6 b6 (.cells (ZR 8).toArray T.n_8_uint32 (0, 0))) hb6 => ?_); have s6 := y6.size; have l6 := d6.lt; have g6 : w8.heap.size ≤ b6 := Nat.le_trans (Ext.size (by exact fx)) hb6)|(refine zH (fun b5 w5 y5 (d5 : At w5 b5 (.cells (ZR 64).toArray T.n_64_uint32 (0, 0))) hb5 => ?_); have s5 := y5.size; have l5 := d5.lt; have g5 : w8.heap.size ≤ b5 := Nat.le_trans (Ext.size (by exact fx)) hb5)|(refine st_storeN0 (vs := wCs (wseq (blkW (m.drop (64 * n))) 64)) rfl (congrArg (fun l : List UInt8 => Value.agg (wCs (wseq (blkW l) 64)).toArray) (str_list _)) (by rw [wCs_len, wseq_length]) (all_one (wCs_one _)) (cur := ZR 64) (by focus (repeat (first | assumption | (apply At.ext; assumption)))) rfl (fun w10 c10 d10 => ?_); have z10 : Ext w8 w10 := (Ext.chg (w := w8) (by exact fx) c10).mono (by intro y hy; simp at hy; right; omega)))
  all_goals first
    | (exact ⟨(b5, b6), ⟨rfl, rfl, rfl, rfl, rfl, rfl, rfl, trivial⟩, by exact fx, by omega, by omega, by show b5 ≠ b6; omega, by focus (repeat (first | assumption | (apply At.ext; assumption))), by first | (focus (repeat (first | assumption | (apply At.ext; assumption))); done) | exact At.chg c10 (by focus (repeat (first | assumption | (apply At.ext; assumption)))) (by simp; omega)⟩)
    | skip
  · generalize hW : wseq (blkW (m.drop (64 * n))) 64 = W at *
    have lW : W.length = 64 := by rw [← hW, wseq_length]
    refine st_storeN0 (vs := wCs (runP m n).l) rfl rfl (by rw [wCs_len]; rfl) (all_one (wCs_one _)) (cur := ZR 8) d6 rfl (fun w10 c10 d10 => ?_)
    have e5 := At.chg c10 d5 (by simp; omega)
    have z10 : Ext w8 w10 := (Ext.chg x9 c10).mono (by intro y hy; simp at hy; right; omega)
    repeat' (first|(first|refine go1 ?_|refine zg (fun _ _=>?_)|refine zi (fun _ _=>?_))|refine zL rfl (fun h => ?_) (fun h => ?_)|(refine c_loopV (fun (i : Nat) w' => Ext w8 w' ∧ i ≤ 64 ∧ At w' b5 (.cells (wCs W).toArray T.n_64_uint32 (0, 0)) ∧ At w' b6 (.cells (wCs (rnds W (runP m n) i).l).toArray T.n_8_uint32 (0, 0))) (fun i => [(0, .string (str (m.drop (64 * n)))), (2, .string ⟨#[]⟩), (3, .pointer (some ⟨b3, 0, none⟩)), (4, .pointer (some ⟨b4, 0, none⟩)), (5, .pointer (some ⟨b5, 0, none⟩)), (6, .pointer (some ⟨b6, 0, none⟩)), (23, .int .i64 i)]) (fun i => 64 - i) 0 ⟨rfl, rfl, rfl, rfl, rfl, rfl, rfl, trivial⟩ ⟨z10, by omega, e5, by rw [rnds_z]; exact d10⟩ ?_; rintro i ρ3 w11 ⟨x11, hi, q5, q6⟩)|(refine c_loopV (fun (j : Nat) w' => Ext w w' ∧ j ≤ 8 ∧ At w' b4 (.cells (wCs kTab).toArray T.n_64_uint32 (0, 0)) ∧ At w' b3 (.cells (wCs (addN (runP m n).l (rnds W (runP m n) 64).l j)).toArray T.n_8_uint32 (0, 0)) ∧ At w' b6 (.cells (wCs (rnds W (runP m n) 64).l).toArray T.n_8_uint32 (0, 0))) (fun j => [(0, .string (str (m.drop (64 * n)))), (2, .string ⟨#[]⟩), (3, .pointer (some ⟨b3, 0, none⟩)), (4, .pointer (some ⟨b4, 0, none⟩)), (6, .pointer (some ⟨b6, 0, none⟩)), (35, .int .i64 j)]) (fun j => 8 - j) 0 ⟨rfl, rfl, rfl, rfl, rfl, rfl, trivial⟩ ⟨x8.trans x11, by omega, h4.ext x11, by rw [addN_z]; exact h3.ext x11, by rw [show 64 = i by omega]; exact q6⟩ ?_; rintro j ρ4 w12 ⟨x12, hj, q4, q3, q7⟩)|(refine st_arr i rfl rfl (by omega) ?_)|(refine st_arr j rfl rfl (by omega) ?_)|(refine st_ldW (l := W) (ad := ⟨b5, 0, none⟩) i rfl (Row.of_at (t := T.n_64_uint32) (f := (0, 0)) (by focus (repeat (first | assumption | (apply At.ext; assumption))))) (by omega) ?_)|(refine st_ldW (l := kTab) (ad := ⟨b4, 0, none⟩) i rfl (Row.of_at (t := T.n_64_uint32) (f := (0, 0)) (by focus (repeat (first | assumption | (apply At.ext; assumption))))) (by rw [kTab_len]; omega) ?_)|(refine st_ldW (l := addN (runP m n).l (rnds W (runP m n) 64).l j) (ad := ⟨b3, 0, none⟩) j rfl (Row.of_at (t := T.n_8_uint32) (f := (0, 0)) (by focus (repeat (first | assumption | (apply At.ext; assumption))))) (by rw [addN_length]; omega) ?_)|(refine st_ldW (l := (rnds W (runP m n) 64).l) (ad := ⟨b6, 0, none⟩) j rfl (Row.of_at (t := T.n_8_uint32) (f := (0, 0)) (by focus (repeat (first | assumption | (apply At.ext; assumption))))) (by rw [l8]; omega) ?_)|(refine st_lN0 (n := 8) (l := wCs (rnds W (runP m n) i).l) rfl (Row.of_at (t := T.n_8_uint32) (f := (0, 0)) (by focus (repeat (first | assumption | (apply At.ext; assumption))))) (by rw [wCs_len]; exact Nat.le_refl _) (by rw [List.take_of_length_le]; rw [wCs_len]; exact Nat.le_refl _) ?_)|(refine zC rfl (round2_spec (rnds W (runP m n) i) (wAt kTab i) (wAt W i) _) ?_; rintro _ w13 ⟨rfl, x13⟩)|(first|refine st_wAdd rfl rfl ?_|refine st_wXor rfl rfl ?_|refine st_wAnd rfl rfl ?_|refine st_wOr rfl rfl ?_|refine st_wNot rfl ?_|refine st_wByte rfl ?_)|(refine st_storeN0 (vs := wCs (rnd (rnds W (runP m n) i) (wAt kTab i) (wAt W i)).l) rfl rfl (by rw [wCs_len]; rfl) (all_one (wCs_one _)) (cur := wCs (rnds W (runP m n) i).l) (by focus (repeat (first | assumption | (apply At.ext; assumption)))) (by rw [wCs_len]; rfl) (fun w14 c14 d14 => ?_))|(refine st_store rfl rfl (u32_one _) (by focus (repeat (first | assumption | (apply At.ext; assumption)))) (by rw [wCs_len, addN_length]; omega) (fun w15 c15 d15 => ?_))|(refine st_dropStr (lo := 64) rfl rfl (by rw [hsz]; have := ne_sz hN hn (by assumption); omega) ?_))
    · exact ⟨i + 1, ⟨rfl, rfl, rfl, rfl, rfl, rfl, rfl, trivial⟩, ⟨(Ext.chg (w := w8) (by exact fx) c14).mono (by intro y hy; simp at hy; right; omega), by omega, At.chg c14 (by focus (repeat (first | assumption | (apply At.ext; assumption)))) (by simp; omega), by rw [rnds_s]; exact d14⟩, by omega⟩
    · have hl3 := h3.lt
      have z1 := x1.size
      have z2 := x2.size
      exact ⟨j + 1, ⟨rfl, rfl, rfl, rfl, rfl, rfl, trivial⟩, ⟨(Ext.chg (w := w) (by exact fx) c15).mono (by intro y hy; simp at hy; right; omega), by omega, At.chg c15 (by focus (repeat (first | assumption | (apply At.ext; assumption)))) (by simp; omega), by rw [← add_step (by omega)]; exact d15, At.chg c15 (by focus (repeat (first | assumption | (apply At.ext; assumption)))) (by simp; omega)⟩, by omega⟩
    · have hlt := ne_sz hN hn (by assumption)
      have ej : j = 8 := by omega
      subst ej
      exact ⟨n + 1, ⟨congrArg Value.string (by rw [drop_str, str_list, List.drop_drop]; rfl), rfl, rfl, rfl, trivial⟩, ⟨by exact fx, by omega, by rw [run_s, hW, ← addN_eight]; exact q3, q4⟩, by omega⟩
  · have hn0 : n = N := by
      rcases Nat.lt_or_ge n N with h1 | h1
      · rw [h] at hsz
        have h0 : (⟨#[]⟩ : ByteArray).size = 0 := rfl
        omega
      · omega
    subst hn0
    have hout : ∀ j, (catB (fun x : W32 => str (leL x.toNat 4).reverse) ((runP m n).l.take j)).size ≤ 32 := fun j => by
      have h1 := catB_size (fun x : W32 => str (leL x.toNat 4).reverse) 4 ((runP m n).l.take j) fun x _ => by rw [str_size, List.length_reverse, leL_length]; exact Nat.le_refl _
      have h2 : ((runP m n).l.take j).length ≤ 8 := by rw [List.length_take, l8]; omega
      omega
    repeat' (first|(first|refine go1 ?_|refine zg (fun _ _=>?_)|refine zi (fun _ _=>?_))|refine zL rfl (fun h => ?_) (fun h => ?_)|(refine zH (fun b w9 x9 a9 hb9 => ?_); have hW : BldT b b ⟨#[]⟩ w9 := (Bld.new (Nat.le_refl _) a9))|(refine st_lN0 (n := 8) (l := wCs (runP m n).l) rfl (Row.of_at (t := T.n_8_uint32) (f := (0, 0)) (h3.ext x9)) (by rw [wCs_len]; exact Nat.le_refl _) (by rw [List.take_of_length_le]; rw [wCs_len]; exact Nat.le_refl _) ?_)|(refine c_loopV (fun (j : Nat) w' => Ext w8 w' ∧ j ≤ 8 ∧ BldT b b (catB (fun x : W32 => str (leL x.toNat 4).reverse) ((runP m n).l.take j)) w') (fun j => [(9, .pointer (some ⟨b, 0, none⟩)), (47, .agg (wCs (runP m n).l).toArray), (48, .int .i64 j)]) (fun j => 8 - j) 0 ⟨rfl, rfl, rfl, trivial⟩ ⟨by exact fx, by omega, by rw [List.take_zero, catB_nil]; exact hW⟩ ?_; rintro j ρ4 w10 ⟨x10, hj, hB⟩; have hz := hout j)|(refine st_aggW (l := (runP m n).l) rfl rfl (by omega) (l8 _) ?_)|(refine st_wWide rfl ?_)|(refine zC rfl (high4_spec (wAt (runP m n).l j) _) ?_; rintro _ w11 ⟨rfl, x11⟩)|(refine zC rfl (wr_spec (str (leL (wAt (runP m n).l j).toNat 4).reverse) _ (hB.ext x11) (by rw [str_size, List.length_reverse, leL_length]; omega)) ?_; rintro _ w12 ⟨hB2, hW2⟩)|(refine zC rfl (bstr_spec _ hB) ?_; rintro _ w13 ⟨rfl, hB3, hW3⟩))
    · refine ⟨j + 1, ⟨rfl, rfl, rfl, trivial⟩, ⟨hW2.ext (x10.trans x11) hb9, by omega, ?_⟩, by omega⟩
      have hjl : j < (runP m n).l.length := by rw [l8]; omega
      rw [catB_take _ hjl]
      have e : wAt (runP m n).l j = (runP m n).l[j] := by unfold wAt; rw [List.getD_eq_getElem?_getD, List.getElem?_eq_getElem hjl]; rfl
      rw [← e]; exact hB2
    · refine x_ret rfl ⟨congrArg Value.string ?_, x8.trans (hW3.ext x10 hb9)⟩
      rw [List.take_of_length_le (by rw [l8]; omega), shaS, hm, hN, Nat.mul_div_cancel_left _ (by decide), outW]
theorem twice_spec (s : ByteArray) (hs : s.size ≤ 4000000) (w : World) : K.Spec Tryz.prog F.sha_Twice [.string s] w fun r w' => r = .string (sha2 s) ∧ Ext w w' := by
  refine s_sha_Twice rfl ?_
  unfold k_sha_Twice
  refine oy ?_
  repeat' (first|(first|refine go1 ?_|refine zg (fun _ _=>?_)|refine zi (fun _ _=>?_))|(refine zC rfl (dig_spec s hs _) ?_; rintro _ w1 ⟨rfl, x1⟩)|(refine zC rfl (dig_spec (shaS s) (by rw [shaS_size]; decide) _) ?_; rintro _ w2 ⟨rfl, x2⟩))
  exact x_ret rfl ⟨by rw [sha2]; rfl, by exact fx⟩
end Go.Proofs.YtilhlcnekkkajaaGreat
end
section
namespace Go.Proofs.YtilhlcnekkkajaaGreat
open Go Go.K
attribute [local irreducible] regK codeK retK KOp.wp K.Spec u32 leS vnS str zero32 wseq wCs schR schA blkW partW kTab rnds runP padL padZ addN shN outW catB leL

/-- What lies there, while a block's words are made. -/
structure BlkI (w : World) (b2 b4 b5 b6 : Nat) (H : S8) (X : List W32) (w' : World) : Prop where
  x : Ext w w'
  a2 : At w' b2 (.cells (wCs H.l).toArray T.n_8_uint32 (0, 0))
  a4 : At w' b4 (.cells (ZR 8).toArray T.n_8_uint32 (0, 0))
  a5 : At w' b5 (.cells (wCs X).toArray T.n_64_uint32 (0, 0))
  a6 : At w' b6 (.cells (wCs kTab).toArray T.n_64_uint32 (0, 0))
section
variable {w w' w'' : World} {b2 b4 b5 b6 b : Nat} {H : S8} {X Y : List W32}
theorem BlkI.e (c : Ext w' w'') (h : BlkI w b2 b4 b5 b6 H X w') : BlkI w b2 b4 b5 b6 H X w'' := ⟨h.x.trans c, h.a2.ext c, h.a4.ext c, h.a5.ext c, h.a6.ext c⟩
theorem BlkI.c (h : BlkI w b2 b4 b5 b6 H X w') (c : Chg [b] w' w'') (h0 : w.heap.size ≤ b) (h2 : b2 ≠ b) (h4 : b4 ≠ b) (h5 : b5 ≠ b) (h6 : b6 ≠ b) : BlkI w b2 b4 b5 b6 H X w'' :=
  ⟨(h.x.chg c).mono (by intro y hy; simp at hy; right; omega), At.chg c h.a2 (by simpa using h2), At.chg c h.a4 (by simpa using h4), At.chg c h.a5 (by simpa using h5), At.chg c h.a6 (by simpa using h6)⟩
theorem BlkI.s (h : BlkI w b2 b4 b5 b6 H X w') (c : Chg [b5] w' w'') (a : At w'' b5 (.cells (wCs Y).toArray T.n_64_uint32 (0, 0))) (h0 : w.heap.size ≤ b5) (h2 : b2 ≠ b5) (h4 : b4 ≠ b5) (h6 : b6 ≠ b5) : BlkI w b2 b4 b5 b6 H Y w'' :=
  ⟨(h.x.chg c).mono (by intro y hy; simp at hy; right; omega), At.chg c h.a2 (by simpa using h2), At.chg c h.a4 (by simpa using h4), a, At.chg c h.a6 (by simpa using h6)⟩
theorem BlkI.r2 (h : BlkI w b2 b4 b5 b6 H X w') : Row w' ⟨b2, 0, none⟩ (wCs H.l) := Row.of_at h.a2
theorem BlkI.r5 (h : BlkI w b2 b4 b5 b6 H X w') : Row w' ⟨b5, 0, none⟩ (wCs X) := Row.of_at h.a5
theorem BlkI.r6 (h : BlkI w b2 b4 b5 b6 H X w') : Row w' ⟨b6, 0, none⟩ (wCs kTab) := Row.of_at h.a6
end
end Go.Proofs.YtilhlcnekkkajaaGreat
end
section
namespace Go.K
open Go
def idT (t : Tx) : ByteArray := sha2 (encT false t)
def weightT (t : Tx) : Nat := 3 * (encT false t).size + (encT (witB t) t).size
def sizeT (t : Tx) : Nat := (weightT t + 3) / 4
theorem Tx.Sz.all {t : Tx} (h : t.Sz) (b : Bool) : (encT b t).size ≤ 3300000 := by
  have := h.e4 b
  rw [encT, ByteArray.size_append, leS_size]; omega
theorem Tx.Sz.weight {t : Tx} (h : t.Sz) : weightT t ≤ 13200000 := by
  have := h.all false; have := h.all (witB t)
  unfold weightT; omega
theorem Tx.Sz.size {t : Tx} (h : t.Sz) : sizeT t ≤ 3300001 := by
  have := h.weight
  unfold sizeT; omega
end Go.K
end
section
namespace Go.Proofs.YtilhlcnekkkajaaGreat
open Go Go.K
attribute [local irreducible] regK codeK retK KOp.wp K.Spec u32 leS vnS str zero32 wseq wCs schR schA blkW partW kTab rnds runP padL padZ addN shN outW catB leL shaS sha2 encT

section
variable {P : Program} {d : Option Tmp} {r : KR} {K : Env → World → Prop} {ρ : Env} {w : World}
theorem st_quo {x y : Operand} {n m : Nat} (hx : ev ρ x = .int .i64 (n : Nat)) (hy : ev ρ y = .int .i64 (m : Nat)) (h0 : 0 < m) (hn : n < 9223372036854775808) (k : regK P r K (put ρ d (.int .i64 ((n / m : Nat) : Int))) w) : regK P (.cons ⟨d, .bin .quo x y, none⟩ r) K ρ w :=
  st_bin hx hy (by
    have hne : (m : Int) ≠ 0 := by omega
    simp only [binVal, isShift, Bool.false_eq_true, if_false, if_true, intBin]
    rw [td, if_neg hne]
    have h1 : n / m ≤ n := Nat.div_le_self n m
    generalize n / m = q at h1 ⊢
    rw [IntWalk.i64_in _ (by omega)]) k
end
end Go.Proofs.YtilhlcnekkkajaaGreat
end
section
namespace Go.K
open Go
variable {P : Program}
def Vec.set {k : Nat} (c : Vec k) (o : Nat) (u : Value) (hu : u.oneCell' = true) : Vec k :=
  ⟨c.1.set o u, by rw [List.length_set]; exact c.2.1, fun v hv => by
    rcases List.mem_or_eq_of_mem_set hv with h | h
    · exact c.2.2 v h
    · rw [h]; exact hu⟩
theorem flat_set {k : Nat} (hk : 0 < k) {u : Value} (hu : u.oneCell' = true) {o : Nat} (ho : o < k) : ∀ (css : List (Vec k)) (i : Nat) (h : i < css.length), ((vecE k hk).flat css).set (i * k + o) u = (vecE k hk).flat (css.set i (css[i].set o u hu))
  | c :: css, 0, _ => by
    have hc : c.1.length = k := c.2.1
    simp only [Enc.flat, List.flatMap_cons, List.set_cons_zero, List.getElem_cons_zero, Nat.zero_mul, Nat.zero_add]
    rw [List.set_append_left _ _ (by show o < c.1.length; omega)]
    rfl
  | c :: css, i + 1, h => by
    have hc : c.1.length = k := c.2.1
    have ih := flat_set hk hu ho css i (by simpa using h)
    simp only [Enc.flat, List.flatMap_cons, List.set_cons_succ, List.getElem_cons_succ] at ih ⊢
    have e : (vecE k hk).f c = c.1 := rfl
    rw [e, List.set_append_right _ _ (by rw [hc, Nat.add_mul]; omega), hc, ← ih]
    congr 2
    rw [Nat.add_mul]; omega
section
variable {α : Type} {E : R α} {M M' L : List Nat} {w w' : World} {t : TypeId} {B : Nat} {v : Value} {l : List α}
theorem All2.set {α β : Type} {r : α → β → Prop} {a : α} {b : β} (hr : r a b) : ∀ {l : List α} {m : List β}, All2 r l m → ∀ i, All2 r (l.set i a) (m.set i b)
  | _, _, .nil, _ => by simpa using All2.nil
  | _, _, .cons _ t, 0 => by simpa using All2.cons hr t
  | _, _, .cons h t, i + 1 => by simpa using All2.cons h (t.set hr i)
/-- What such a slice is, if it has an element. -/
theorem OwnR.open (h : OwnR E t B M w v l) (hp : 0 < l.length) : ∃ (b cap : Nat) (css : List (Vec E.k)) (junk : List Value), v = .slice (some ⟨b, 0, none⟩) l.length cap ∧ B ≤ b ∧ At w b (.cells ((vecE E.k E.pos).flat css ++ junk).toArray t (0, 0)) ∧ css.length = l.length ∧ ((vecE E.k E.pos).flat css ++ junk).length = cap * E.k ∧ E.all (b :: M) w css l ∧ SlE (vecE E.k E.pos) w v css := by
  obtain ⟨css, h1, h2⟩ := h
  have hlen := h2.length
  have hsl := h1.sl
  rcases h1 with ⟨rfl, rfl⟩ | ⟨b, cap, junk, rfl, hB, hat, hl⟩
  · rw [← hlen] at hp; simp at hp
  · exact ⟨b, cap, css, junk, by rw [hlen], hB, hat, hlen, hl, h2, hsl⟩
/-- A store of one cell into an element. -/
theorem st_storeO {d : Option Tmp} {r : KR} {K : Env → World → Prop} {ρ : Env} {x y : Operand} {b cap i o : Nat} {css : List (Vec E.k)} {junk : List Value} {u : Value} {a : α}
    (hx : ev ρ x = .pointer (some ((Addr.add ⟨b, 0, none⟩ (i * E.k)).add o))) (hy : ev ρ y = u) (hu : u.oneCell' = true) (hB : B ≤ b) (hat : At w b (.cells ((vecE E.k E.pos).flat css ++ junk).toArray t (0, 0))) (hc : css.length = l.length) (hl : ((vecE E.k E.pos).flat css ++ junk).length = cap * E.k) (ha : E.all (b :: M) w css l)
    (hi : i < l.length) (ho : o < E.k) (hn : ∀ w', Chg [b] w w' → E.rel (b :: M) w' ((css[i]'(by omega)).1.set o u) a)
    (k : ∀ w', Chg [b] w w' → OwnR E t B M w' (.slice (some ⟨b, 0, none⟩) l.length cap) (l.set i a) → regK P r K (put ρ d undef) w') : regK P (.cons ⟨d, .store x y, none⟩ r) K ρ w := by
  have hk := E.pos
  have hflat : ((vecE E.k E.pos).flat css).length = l.length * E.k := by rw [Enc.flat_length, hc]; rfl
  have hlt : i * E.k + o < ((vecE E.k E.pos).flat css).length := by
    have := Nat.mul_le_mul_right E.k (show i + 1 ≤ l.length from hi)
    rw [Nat.add_mul] at this; omega
  refine st_store (o := i * E.k + o) (by rw [hx, add_add]) hy hu hat (by rw [List.length_append]; omega) fun w' c a' => ?_
  refine k w' c ⟨css.set i ((css[i]'(by omega)).set o u hu), .inr ⟨b, cap, junk, by rw [List.length_set, hc], hB, ?_, ?_⟩, ?_⟩
  · rw [List.set_append_left _ _ hlt, flat_set E.pos hu ho css i (by omega)] at a'
    exact a'
  · rw [List.length_append] at hl ⊢
    rw [Enc.flat_length] at hl ⊢
    rw [List.length_set]; exact hl
  · have h3 : E.all (b :: M) w' css l := ha.mono fun _ _ hr => E.step hr c (fun b hb => .inl (by simp at hb; subst hb; simp)) (fun b hb => .inl hb)
    exact All2.set (r := fun (c : Vec E.k) x => E.rel (b :: M) w' c.1 x) (a := (css[i]'(by omega)).set o u hu) (hn w' c) h3 i
theorem SlR.nil_of {n cap : Nat} (h : SlR E M w (.slice none n cap) l) : l = [] := by
  obtain ⟨css, ⟨h1, base, c, hv, _, h2⟩, h3, _⟩ := h
  rcases Nat.eq_zero_or_pos l.length with h4 | h4
  · exact List.length_eq_zero_iff.1 h4
  · have h5 := h3.length
    rw [Enc.flat_length] at h2
    obtain ⟨a, ha, _⟩ := h2 (Nat.mul_pos (by omega) E.pos)
    injection hv with e1; subst e1; cases ha
/-- A slice that is nil, or of no element in a block of its own. -/
theorem OwnR.empty {b : Nat} (hB : B ≤ b) (h : At w b (.cells #[] t (0, 0))) : OwnR E t B M w (.slice (some ⟨b, 0, none⟩) 0 0) [] :=
  ⟨[], .inr ⟨b, 0, [], rfl, hB, h, by simp [Enc.flat]⟩, .nil⟩
theorem OwnR.sub (h : OwnR E t B M w v l) (hm : ∀ b ∈ M', b ∈ M ∨ w.heap.size ≤ b) : OwnR E t B M' w v l := h.step (Chg.refl [] w) (by simp) hm
theorem all_ext {css : List (Vec E.k)} (h : E.all M w css l) (c : Ext w w') : E.all M w' css l := h.mono fun _ _ hr => R.ext hr c
theorem OwnR.one (h : OwnR E t B M w v l) : v.oneCell' = true := by
  obtain ⟨css, h1, _⟩ := h
  rcases h1 with ⟨rfl, _⟩ | ⟨b, cap, junk, rfl, _⟩ <;> rfl
theorem SlR.one (h : SlR E M w v l) : v.oneCell' = true := by
  obtain ⟨_, _, rfl⟩ := h.form; rfl
end
end Go.K
end
