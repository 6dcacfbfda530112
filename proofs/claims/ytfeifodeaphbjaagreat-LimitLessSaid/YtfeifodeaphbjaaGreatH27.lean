/- Contracts: digests. -/
import Derived.Test.YtfeifodeaphbjaaGreatH26
set_option linter.unusedVariables false
set_option linter.unusedSimpArgs false
section
namespace Go.Proofs.YtfeifodeaphbjaaGreat
open Go Go.K
attribute [local irreducible] regK codeK retK KOp.wp K.Spec u32 leS vnS str zero32 wseq wCs schR schA blkW partW wAt kTab rnds runP padL addN outW catB

theorem begin_spec (w : World) : K.Spec Tryz.prog F.sha_begin [] w fun r w' => r = .agg (wCs s8Init.l).toArray ∧ Ext w w' := by
  refine s_sha_begin rfl ?_
  unfold k_sha_begin
  refine ox ?_
  repeat' (first|(refine st_build (cs := s8Init.cs) (by kernel_rfl) ?_)|(first|refine go1 ?_|refine zg (fun _ _=>?_)|refine zi (fun _ _=>?_))|(refine zH (fun b w1 x1 a1 hb => ?_))|refine st_setN (w0 := w) (vs := s8Init.cs) (by exact fx) (Nat.le_trans (by exact fx) hb) (by focus (repeat (first | assumption | (apply At.ext; assumption)))) rfl rfl rfl rfl (cs_one _) (fun w5 x5 c5 a5 r5 => ?_))
  exact x_ret (ret1 (rv_cell r5 rfl rfl)) ⟨by rw [S8.cs_eq], x5⟩
theorem keys_spec (w : World) : K.Spec Tryz.prog F.sha_keys [] w fun r w' => r = .agg (wCs kTab).toArray ∧ Ext w w' := by
  refine s_sha_keys rfl ?_
  unfold k_sha_keys
  refine ox ?_
  repeat' (first|(refine st_build (cs := wCs kTab) (by kernel_rfl) ?_)|(first|refine go1 ?_|refine zg (fun _ _=>?_)|refine zi (fun _ _=>?_))|(refine zH (fun b w1 x1 a1 hb => ?_))|refine st_setN (w0 := w) (vs := wCs kTab) (by exact fx) (Nat.le_trans (by exact fx) hb) (by focus (repeat (first | assumption | (apply At.ext; assumption)))) rfl rfl (by kernel_rfl) (by kernel_rfl) (wCs_one _) (fun w5 x5 c5 a5 r5 => ?_))
  exact x_ret (ret1 (rv_cell r5 rfl (by kernel_rfl))) ⟨rfl, x5⟩
abbrev ZR (n : Nat) : List Value := List.replicate n (Value.int .u32 0)
theorem w8_at {w : World} {b : Nat} {s : S8} {T : TypeId} (h : At w b (.cells s.cs.toArray T (0, 0))) : At w b (.cells (wCs s.l).toArray T (0, 0)) := by rw [← S8.cs_eq]; exact h
theorem l8 (s : S8) : s.l.length = 8 := rfl
theorem high4_spec (x : W32) (w : World) : K.Spec Tryz.prog F.sha_high [.int .u64 (x.toNat : Nat), .int .i64 4] w fun r w' => r = .string (str (leL x.toNat 4).reverse) ∧ Ext w w' := high_spec x.toNat 4 (by decide) w
theorem run_z (m : List UInt8) : runP m 0 = s8Init := by unfold runP; rfl
theorem dsize {m : List UInt8} {N n : Nat} (hN : m.length = 64 * N) (hn : n ≤ N) : (str (m.drop (64 * n))).size = 64 * (N - n) := by
  rw [str_size, List.length_drop]; omega
theorem ne_sz {m : List UInt8} {N n : Nat} (hN : m.length = 64 * N) (hn : n ≤ N) (h : ¬ str (m.drop (64 * n)) = ⟨#[]⟩) : n < N := by
  rcases Nat.lt_or_ge n N with h1 | h1
  · exact h1
  · exact absurd (by rw [List.drop_eq_nil_of_le (by omega), str_nil]) h
theorem round2_spec (s : S8) (k x : W32) (w : World) : K.Spec Tryz.prog F.sha_round [.agg (wCs s.l).toArray, u32 k, u32 x] w fun r w' => r = .agg (wCs (rnd s k x).l).toArray ∧ Ext w w' := by
  rw [← S8.cs_eq, ← S8.cs_eq]; exact round_spec s k x w
theorem rnds_z (W : List W32) (H : S8) : rnds W H 0 = H := by unfold rnds; rfl
theorem rnds_s (W : List W32) (H : S8) (i : Nat) : rnds W H (i + 1) = rnd (rnds W H i) (wAt kTab i) (wAt W i) := by conv => lhs; unfold rnds
theorem kTab_len : kTab.length = 64 := by unfold kTab; rfl
theorem addN_z (s t : S8) : addN s.l t.l 0 = s.l := addN_zero s t
theorem run_s (m : List UInt8) (n : Nat) : runP m (n + 1) = add8 (runP m n) (rnds (wseq (blkW (m.drop (64 * n))) 64) (runP m n) 64) := by conv => lhs; unfold runP; unfold comp
section
variable {P : Program} {d : Option Tmp} {r : KR} {K : Env → World → Prop} {ρ : Env} {w : World}
theorem st_dropStr {x l : Operand} {s : ByteArray} {kl : IntKind} {lo : Nat} (hx : ev ρ x = .string s) (hl : ev ρ l = .int kl (lo : Nat)) (h2 : lo ≤ s.size) (k : regK P r K (put ρ d (.string (s.extract lo s.size))) w) : regK P (.cons ⟨d, .sliceStr x (some l) none, none⟩ r) K ρ w :=
  st_fix rfl (by
    simp only [KOp.fix, hx, hl]
    rw [Option.bind_some, if_pos (by omega), Option.map_some, Int.toNat_natCast]) k
end
set_option maxHeartbeats 4000000 in
theorem dig_spec (s : ByteArray) (hs : s.size ≤ 4000000) (w : World) : K.Spec Tryz.prog F.sha_Sum [.string s] w fun r w' => r = .string (shaS s) ∧ Ext w w' := by
  obtain ⟨N, hN⟩ : ∃ N, (padL s.data.toList).length = 64 * N := ⟨_, padL_len s⟩
  have hl := padL_le s
  generalize hm : padL s.data.toList = m at hN hl
  refine s_sha_Sum rfl ?_
  unfold k_sha_Sum
  refine ox ?_
  repeat' (first|(first|refine go1 ?_|refine zg (fun _ _=>?_)|refine zi (fun _ _=>?_))|(refine zC rfl (begin_spec _) ?_; rintro _ w1 ⟨rfl, x1⟩)|(refine zC rfl (keys_spec _) ?_; rintro _ w2 ⟨rfl, x2⟩)|(refine zH (fun b3 w3 x3 (a3 : At w3 b3 (.cells (ZR 8).toArray T.n_8_uint32 (0, 0))) hb3 => ?_); have l3 := a3.lt)|(refine zH (fun b4 w4 x4 (a4 : At w4 b4 (.cells (ZR 64).toArray T.n_64_uint32 (0, 0))) hb4 => ?_); have l4 := a4.lt)|(refine st_storeN0 (vs := wCs s8Init.l) rfl rfl (by rw [wCs_len]; rfl) (all_one (wCs_one _)) (cur := ZR 8) (by focus (repeat (first | assumption | (apply At.ext; assumption)))) rfl (fun w5 c5 a5 => ?_); have a6 := At.chg c5 a4 (by simp; omega))|(refine st_storeN0 (vs := wCs kTab) rfl rfl (by unfold wCs kTab; rfl) (all_one (wCs_one _)) (cur := ZR 64) a6 rfl (fun w6 c6 a7 => ?_); have a8 := At.chg c6 a5 (by simp; omega); have x6 : Ext w w6 := (Ext.chg (w := w) (by exact fx) (c5.trans c6)).mono (by have := x1.size; have := x2.size; have := x3.size; intro y hy; simp at hy; right; omega))|(refine zC rfl (padded_spec s hs _) ?_; rintro _ w7 ⟨rfl, x7⟩; rw [hm]))
  repeat' (first|(refine st_joinV (b := .cons ⟨none, .storeN 8 (t 6) (t 22), none⟩ .nil) (fun (p : Nat × Nat) w' => Ext w8 w' ∧ w8.heap.size ≤ p.1 ∧ w8.heap.size ≤ p.2 ∧ p.1 ≠ p.2 ∧ At w' p.1 (.cells (wCs (wseq (blkW (m.drop (64 * n))) 64)).toArray T.n_64_uint32 (0, 0)) ∧ At w' p.2 (.cells (ZR 8).toArray T.n_8_uint32 (0, 0))) (fun p => [(0, .string (str (m.drop (64 * n)))), (2, .string ⟨#[]⟩), (3, .pointer (some ⟨b3, 0, none⟩)), (4, .pointer (some ⟨b4, 0, none⟩)), (5, .pointer (some ⟨p.1, 0, none⟩)), (6, .pointer (some ⟨p.2, 0, none⟩)), (22, .agg (wCs (runP m n).l).toArray)]) ?_ ?_)|(rintro ⟨b5, b6⟩ ρ2 w9 ⟨x9, (g5 : w8.heap.size ≤ b5), (g6 : w8.heap.size ≤ b6), (g56 : b5 ≠ b6), (d5 : At w9 b5 (.cells (wCs (wseq (blkW (m.drop (64 * n))) 64)).toArray T.n_64_uint32 (0, 0))), (d6 : At w9 b6 (.cells (ZR 8).toArray T.n_8_uint32 (0, 0)))⟩; dsimp only)|(first|refine go1 ?_|refine zg (fun _ _=>?_)|refine zi (fun _ _=>?_))|(refine c_loopV (fun (n : Nat) w' => Ext w w' ∧ n ≤ N ∧ At w' b3 (.cells (wCs (runP m n).l).toArray T.n_8_uint32 (0, 0)) ∧ At w' b4 (.cells (wCs kTab).toArray T.n_64_uint32 (0, 0))) (fun n => [(0, .string (str (m.drop (64 * n)))), (2, .string ⟨#[]⟩), (3, .pointer (some ⟨b3, 0, none⟩)), (4, .pointer (some ⟨b4, 0, none⟩))]) (fun n => N - n) 0 ⟨rfl, rfl, rfl, rfl, trivial⟩ ⟨by exact fx, by omega, by rw [run_z]; focus (repeat (first | assumption | (apply At.ext; assumption))), by focus (repeat (first | assumption | (apply At.ext; assumption)))⟩ ?_; rintro n ρ w8 ⟨x8, hn, h3, h4⟩; have hsz := dsize hN hn)|(refine zN rfl (fun h => ?_) (fun h => ?_))|refine zB ?_ ?_|(refine zC rfl (sched_spec _ (by rw [hsz]; have := ne_sz hN hn h; omega) (by omega) _) ?_; rintro _ w9 ⟨rfl, x9⟩; have s9 := x9.size)|(refine st_lN0 (n := 8) (l := wCs (runP m n).l) rfl (Row.of_at (t := T.n_8_uint32) (f := (0, 0)) (by first | (focus (repeat (first | assumption | (apply At.ext; assumption))); done) | exact h3.ext z10)) (by rw [wCs_len]; exact Nat.le_refl _) (by rw [List.take_of_length_le]; rw [wCs_len]; exact Nat.le_refl _) ?_)|(refine zH (fun b6 w6 y6 (d6 : At w6 b6 (.cells (ZR 8).toArray T.n_8_uint32 (0, 0))) hb6 => ?_); have s6 := y6.size; have l6 := d6.lt; have g6 : w8.heap.size ≤ b6 := Nat.le_trans (Ext.size (by exact fx)) hb6)|(refine zH (fun b5 w5 y5 (d5 : At w5 b5 (.cells (ZR 64).toArray T.n_64_uint32 (0, 0))) hb5 => ?_); have s5 := y5.size; have l5 := d5.lt; have g5 : w8.heap.size ≤ b5 := Nat.le_trans (Ext.size (by exact fx)) hb5)|(refine st_storeN0 (vs := wCs (wseq (blkW (m.drop (64 * n))) 64)) rfl (congrArg (fun l : List UInt8 => Value.agg (wCs (wseq (blkW l) 64)).toArray) (str_list _)) (by rw [wCs_len, wseq_length]) (all_one (wCs_one _)) (cur := ZR 64) (by focus (repeat (first | assumption | (apply At.ext; assumption)))) rfl (fun w10 c10 d10 => ?_); have z10 : Ext w8 w10 := (Ext.chg (w := w8) (by exact fx) c10).mono (by intro y hy; simp at hy; right; omega)))
  all_goals first
    | (exact ⟨(b5, b6), ⟨rfl, rfl, rfl, rfl, rfl, rfl, rfl, trivial⟩, by exact fx, by omega, by omega, by show b5 ≠ b6; omega, by focus (repeat (first | assumption | (apply At.ext; assumption))), by first | (focus (repeat (first | assumption | (apply At.ext; assumption))); done) | exact At.chg c10 (by focus (repeat (first | assumption | (apply At.ext; assumption)))) (by simp; omega)⟩)
    | skip
  · generalize hW : wseq (blkW (m.drop (64 * n))) 64 = W at *
    have lW : W.length = 64 := by rw [← hW, wseq_length]
    refine st_storeN0 (vs := wCs (runP m n).l) rfl rfl (by rw [wCs_len]; rfl) (all_one (wCs_one _)) (cur := ZR 8) d6 rfl (fun w10 c10 d10 => ?_)
    have e5 := At.chg c10 d5 (by simp; omega)
    have z10 : Ext w8 w10 := (Ext.chg x9 c10).mono (by intro y hy; simp at hy; right; omega)
    repeat' (first|(first|refine go1 ?_|refine zg (fun _ _=>?_)|refine zi (fun _ _=>?_))|refine zL rfl (fun h => ?_) (fun h => ?_)|(refine c_loopV (fun (i : Nat) w' => Ext w8 w' ∧ i ≤ 64 ∧ At w' b5 (.cells (wCs W).toArray T.n_64_uint32 (0, 0)) ∧ At w' b6 (.cells (wCs (rnds W (runP m n) i).l).toArray T.n_8_uint32 (0, 0))) (fun i => [(0, .string (str (m.drop (64 * n)))), (2, .string ⟨#[]⟩), (3, .pointer (some ⟨b3, 0, none⟩)), (4, .pointer (some ⟨b4, 0, none⟩)), (5, .pointer (some ⟨b5, 0, none⟩)), (6, .pointer (some ⟨b6, 0, none⟩)), (23, .int .i64 i)]) (fun i => 64 - i) 0 ⟨rfl, rfl, rfl, rfl, rfl, rfl, rfl, trivial⟩ ⟨z10, by omega, e5, by rw [rnds_z]; exact d10⟩ ?_; rintro i ρ3 w11 ⟨x11, hi, q5, q6⟩)|(refine c_loopV (fun (j : Nat) w' => Ext w w' ∧ j ≤ 8 ∧ At w' b4 (.cells (wCs kTab).toArray T.n_64_uint32 (0, 0)) ∧ At w' b3 (.cells (wCs (addN (runP m n).l (rnds W (runP m n) 64).l j)).toArray T.n_8_uint32 (0, 0)) ∧ At w' b6 (.cells (wCs (rnds W (runP m n) 64).l).toArray T.n_8_uint32 (0, 0))) (fun j => [(0, .string (str (m.drop (64 * n)))), (2, .string ⟨#[]⟩), (3, .pointer (some ⟨b3, 0, none⟩)), (4, .pointer (some ⟨b4, 0, none⟩)), (6, .pointer (some ⟨b6, 0, none⟩)), (35, .int .i64 j)]) (fun j => 8 - j) 0 ⟨rfl, rfl, rfl, rfl, rfl, rfl, trivial⟩ ⟨x8.trans x11, by omega, h4.ext x11, by rw [addN_z]; exact h3.ext x11, by rw [show 64 = i by omega]; exact q6⟩ ?_; rintro j ρ4 w12 ⟨x12, hj, q4, q3, q7⟩)|(refine st_arr i rfl rfl (by omega) ?_)|(refine st_arr j rfl rfl (by omega) ?_)|(refine st_ldW (l := W) (ad := ⟨b5, 0, none⟩) i rfl (Row.of_at (t := T.n_64_uint32) (f := (0, 0)) (by focus (repeat (first | assumption | (apply At.ext; assumption))))) (by omega) ?_)|(refine st_ldW (l := kTab) (ad := ⟨b4, 0, none⟩) i rfl (Row.of_at (t := T.n_64_uint32) (f := (0, 0)) (by focus (repeat (first | assumption | (apply At.ext; assumption))))) (by rw [kTab_len]; omega) ?_)|(refine st_ldW (l := addN (runP m n).l (rnds W (runP m n) 64).l j) (ad := ⟨b3, 0, none⟩) j rfl (Row.of_at (t := T.n_8_uint32) (f := (0, 0)) (by focus (repeat (first | assumption | (apply At.ext; assumption))))) (by rw [addN_length]; omega) ?_)|(refine st_ldW (l := (rnds W (runP m n) 64).l) (ad := ⟨b6, 0, none⟩) j rfl (Row.of_at (t := T.n_8_uint32) (f := (0, 0)) (by focus (repeat (first | assumption | (apply At.ext; assumption))))) (by rw [l8]; omega) ?_)|(refine st_lN0 (n := 8) (l := wCs (rnds W (runP m n) i).l) rfl (Row.of_at (t := T.n_8_uint32) (f := (0, 0)) (by focus (repeat (first | assumption | (apply At.ext; assumption))))) (by rw [wCs_len]; exact Nat.le_refl _) (by rw [List.take_of_length_le]; rw [wCs_len]; exact Nat.le_refl _) ?_)|(refine zC rfl (round2_spec (rnds W (runP m n) i) (wAt kTab i) (wAt W i) _) ?_; rintro _ w13 ⟨rfl, x13⟩)|(first|refine st_wAdd rfl rfl ?_|refine st_wXor rfl rfl ?_|refine st_wAnd rfl rfl ?_|refine st_wOr rfl rfl ?_|refine st_wNot rfl ?_|refine st_wByte rfl ?_)|(refine st_storeN0 (vs := wCs (rnd (rnds W (runP m n) i) (wAt kTab i) (wAt W i)).l) rfl rfl (by rw [wCs_len]; rfl) (all_one (wCs_one _)) (cur := wCs (rnds W (runP m n) i).l) (by focus (repeat (first | assumption | (apply At.ext; assumption)))) (by rw [wCs_len]; rfl) (fun w14 c14 d14 => ?_))|(refine st_store rfl rfl (u32_one _) (by focus (repeat (first | assumption | (apply At.ext; assumption)))) (by rw [wCs_len, addN_length]; omega) (fun w15 c15 d15 => ?_))|(refine st_dropStr (lo := 64) rfl rfl (by rw [hsz]; have := ne_sz hN hn (by assumption); omega) ?_))
    · exact ⟨i + 1, ⟨rfl, rfl, rfl, rfl, rfl, rfl, rfl, trivial⟩, ⟨(Ext.chg (w := w8) (by exact fx) c14).mono (by intro y hy; simp at hy; right; omega), by omega, At.chg c14 (by focus (repeat (first | assumption | (apply At.ext; assumption)))) (by simp; omega), by rw [rnds_s]; exact d14⟩, by omega⟩
    · have hl3 := h3.lt
      have z1 := x1.size
      have z2 := x2.size
      exact ⟨j + 1, ⟨rfl, rfl, rfl, rfl, rfl, rfl, trivial⟩, ⟨(Ext.chg (w := w) (by exact fx) c15).mono (by intro y hy; simp at hy; right; omega), by omega, At.chg c15 (by focus (repeat (first | assumption | (apply At.ext; assumption)))) (by simp; omega), by rw [← add_step (by omega)]; exact d15, At.chg c15 (by focus (repeat (first | assumption | (apply At.ext; assumption)))) (by simp; omega)⟩, by omega⟩
    · have hlt := ne_sz hN hn (by assumption)
      have ej : j = 8 := by omega
      subst ej
      exact ⟨n + 1, ⟨congrArg Value.string (by rw [drop_str, str_list, List.drop_drop]; rfl), rfl, rfl, rfl, trivial⟩, ⟨by exact fx, by omega, by rw [run_s, hW, ← addN_eight]; exact q3, q4⟩, by omega⟩
  · have hn0 : n = N := by
      rcases Nat.lt_or_ge n N with h1 | h1
      · rw [h] at hsz
        have h0 : (⟨#[]⟩ : ByteArray).size = 0 := rfl
        omega
      · omega
    subst hn0
    have hout : ∀ j, (catB (fun x : W32 => str (leL x.toNat 4).reverse) ((runP m n).l.take j)).size ≤ 32 := fun j => by
      have h1 := catB_size (fun x : W32 => str (leL x.toNat 4).reverse) 4 ((runP m n).l.take j) fun x _ => by rw [str_size, List.length_reverse, leL_length]; exact Nat.le_refl _
      have h2 : ((runP m n).l.take j).length ≤ 8 := by rw [List.length_take, l8]; omega
      omega
    repeat' (first|(first|refine go1 ?_|refine zg (fun _ _=>?_)|refine zi (fun _ _=>?_))|refine zL rfl (fun h => ?_) (fun h => ?_)|(refine zH (fun b w9 x9 a9 hb9 => ?_); have hW : BldT b b ⟨#[]⟩ w9 := (Bld.new (Nat.le_refl _) a9))|(refine st_lN0 (n := 8) (l := wCs (runP m n).l) rfl (Row.of_at (t := T.n_8_uint32) (f := (0, 0)) (h3.ext x9)) (by rw [wCs_len]; exact Nat.le_refl _) (by rw [List.take_of_length_le]; rw [wCs_len]; exact Nat.le_refl _) ?_)|(refine c_loopV (fun (j : Nat) w' => Ext w8 w' ∧ j ≤ 8 ∧ BldT b b (catB (fun x : W32 => str (leL x.toNat 4).reverse) ((runP m n).l.take j)) w') (fun j => [(9, .pointer (some ⟨b, 0, none⟩)), (47, .agg (wCs (runP m n).l).toArray), (48, .int .i64 j)]) (fun j => 8 - j) 0 ⟨rfl, rfl, rfl, trivial⟩ ⟨by exact fx, by omega, by rw [List.take_zero, catB_nil]; exact hW⟩ ?_; rintro j ρ4 w10 ⟨x10, hj, hB⟩; have hz := hout j)|(refine st_aggW (l := (runP m n).l) rfl rfl (by omega) (l8 _) ?_)|(refine st_wWide rfl ?_)|(refine zC rfl (high4_spec (wAt (runP m n).l j) _) ?_; rintro _ w11 ⟨rfl, x11⟩)|(refine zC rfl (wr_spec (str (leL (wAt (runP m n).l j).toNat 4).reverse) _ (hB.ext x11) (by rw [str_size, List.length_reverse, leL_length]; omega)) ?_; rintro _ w12 ⟨hB2, hW2⟩)|(refine zC rfl (bstr_spec _ hB) ?_; rintro _ w13 ⟨rfl, hB3, hW3⟩))
    · refine ⟨j + 1, ⟨rfl, rfl, rfl, trivial⟩, ⟨hW2.ext (x10.trans x11) hb9, by omega, ?_⟩, by omega⟩
      have hjl : j < (runP m n).l.length := by rw [l8]; omega
      rw [catB_take _ hjl]
      have e : wAt (runP m n).l j = (runP m n).l[j] := by unfold wAt; rw [List.getD_eq_getElem?_getD, List.getElem?_eq_getElem hjl]; rfl
      rw [← e]; exact hB2
    · refine x_ret rfl ⟨congrArg Value.string ?_, x8.trans (hW3.ext x10 hb9)⟩
      rw [List.take_of_length_le (by rw [l8]; omega), shaS, hm, hN, Nat.mul_div_cancel_left _ (by decide), outW]
theorem twice_spec (s : ByteArray) (hs : s.size ≤ 4000000) (w : World) : K.Spec Tryz.prog F.sha_Twice [.string s] w fun r w' => r = .string (sha2 s) ∧ Ext w w' := by
  refine s_sha_Twice rfl ?_
  unfold k_sha_Twice
  refine ox ?_
  repeat' (first|(first|refine go1 ?_|refine zg (fun _ _=>?_)|refine zi (fun _ _=>?_))|(refine zC rfl (dig_spec s hs _) ?_; rintro _ w1 ⟨rfl, x1⟩)|(refine zC rfl (dig_spec (shaS s) (by rw [shaS_size]; decide) _) ?_; rintro _ w2 ⟨rfl, x2⟩))
  exact x_ret rfl ⟨by rw [sha2]; rfl, by exact fx⟩
end Go.Proofs.YtfeifodeaphbjaaGreat
end
