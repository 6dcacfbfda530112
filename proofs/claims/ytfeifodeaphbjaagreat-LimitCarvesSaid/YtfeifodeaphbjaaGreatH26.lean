/- Contracts: digests by the reference. Contracts: a round of a digest. Contracts: a block's schedule. -/
import Derived.Test.YtfeifodeaphbjaaGreatH25
set_option linter.unusedVariables false
set_option linter.unusedSimpArgs false
section
namespace Go.Proofs.YtfeifodeaphbjaaGreat
open Go Go.K
attribute [local irreducible] regK codeK retK KOp.wp K.Spec u32 leS vnS str zero32 wseq wCs schR schA blkW partW kTab rnds runP padL padZ addN shN outW catB leL

theorem wrap7 {c : Nat} (h : c ≤ 7) : IntKind.u64.wrap (8 * IntKind.u64.wrap ((7 : Int) - c)) = ((8 * (7 - c) : Nat) : Int) := by
  rw [u64_wrap (n := (7 : Int) - c) (by omega) (by omega), u64_wrap (by omega) (by omega)]; omega
theorem shrN (n c : Nat) (h : c ≤ 7) : binVal .shr (.int .u64 (n : Nat)) (.int .u64 ((8 * (7 - c) : Nat) : Int)) = some (.int .u64 ((n / 256 ^ (7 - c) : Nat) : Int)) := by
  simp only [binVal, isShift, if_true]
  rw [if_neg (by omega)]
  have e : min ((8 * (7 - c) : Nat) : Int).toNat IntKind.u64.bits = 8 * (7 - c) := by simp [IntKind.bits]; omega
  have e2 : (256 : Nat) ^ (7 - c) = 2 ^ (8 * (7 - c)) := by rw [Nat.pow_mul]
  rw [e, e2, Int.fdiv_eq_ediv_of_nonneg _ (by exact_mod_cast Nat.zero_le _)]
  norm_cast
section
variable {P : Program} {d : Option Tmp} {r : KR} {K : Env → World → Prop} {ρ : Env} {w : World}
theorem st_nU8 {x : Operand} {n : Nat} (hx : ev ρ x = .int .u64 (n : Nat)) (k : regK P r K (put ρ d (.int .u8 ((UInt8.ofNat n).toNat : Nat))) w) : regK P (.cons ⟨d, .conv .u8 x, none⟩ r) K ρ w :=
  st_fix rfl (by simp only [KOp.fix, hx]; rw [u8_wrap]) k
end
theorem pad0 (l : List UInt8) : padZ l 0 = l ++ [128] := by unfold padZ; simp
theorem get_app {l : ByteArray} {i : Nat} (h : i < l.size) : l.data.toList.take (i + 1) = l.data.toList.take i ++ [l[i]] := by
  have hl : i < l.data.toList.length := by rw [Array.length_toList]; exact h
  rw [List.take_succ_eq_append_getElem hl]; rfl
theorem padK {m n k : Nat} (e : m = n + 1 + k) (h : ((m % 64 : Nat) : Int) = 56) (hk : k ≤ padN n) : k = padN n := padN_at (by omega) hk
theorem pad_spec (s : ByteArray) (hs : s.size ≤ 4000000) (w : World) : K.Spec Tryz.prog F.kedgeref04_pad [.string s] w fun r w' => SlE u8E w' r (padL s.data.toList) ∧ Ext w w' ∧ ∀ b ∈ blkOf r, w.heap.size ≤ b := by
  have hl : s.data.toList.length = s.size := by rw [Array.length_toList]; rfl
  have hpl : ∀ k, (padZ s.data.toList k).length = s.size + 1 + k := fun k => by rw [padZ_length, hl]
  have hpn : padN s.size < 64 := by unfold padN; omega
  have hrl : ∀ c, ((leL (s.size * 8) 8).reverse.take c).length ≤ 8 := fun c => by rw [List.length_take, List.length_reverse, leL_length]; omega
  refine s_kedgeref04_pad rfl ?_
  unfold k_kedgeref04_pad
  refine ox ?_
  repeat' (first|(refine st_fixV (.int .u64 ((s.size * 8 : Nat) : Int)) rfl (congrArg (fun x => some (Value.int .u64 x)) (wrap8 hs)) ?_)|(refine st_fixV (.int .u64 ((8 * (7 - c) : Nat) : Int)) rfl (congrArg (fun x => some (Value.int .u64 x)) (wrap7 (by omega))) ?_)|(refine st_bin rfl rfl (shrN (s.size * 8) c (by omega)) ?_)|(refine st_nU8 rfl ?_)|(refine st_rem (n := (padZ s.data.toList k).length) (m := 64) rfl rfl (by decide) ?_)|(first|refine go1 ?_|refine zg (fun _ _=>?_)|refine zi (fun _ _=>?_))|refine zL rfl (fun h => ?_) (fun h => ?_)|refine zN rfl (fun h => ?_) (fun h => ?_)|(refine c_loopV (fun (p : Nat × Value) w' => Ext w w' ∧ p.1 ≤ s.size ∧ Own u8E T.uint8 w.heap.size w' p.2 (s.data.toList.take p.1)) (fun p => [(0, .string s), (3, p.2), (4, .int .i64 p.1)]) (fun p => s.size - p.1) (0, .slice none 0 0) ⟨rfl, rfl, rfl, trivial⟩ ⟨Ext.refl _, by simp, Own.nil _ _ _⟩ ?_; rintro ⟨i, vo⟩ ρ w1 ⟨x1, hi, ho⟩; simp only at hi ho; dsimp only)|(refine c_loopV (fun (p : Nat × Value) w' => Ext w w' ∧ p.1 ≤ padN s.size ∧ Own u8E T.uint8 w.heap.size w' p.2 (padZ s.data.toList p.1)) (fun p => [(0, .string s), (3, p.2)]) (fun p => padN s.size - p.1) (0, _) ⟨rfl, rfl, trivial⟩ ⟨x5, by simp, by rw [pad0]; exact ho5⟩ ?_; rintro ⟨k, vk⟩ ρ6 w6 ⟨x6, hk, hok⟩; simp only at hk hok; dsimp only)|(have hpk : k = padN s.size := (padK (hpl k) (by assumption) hk); refine c_loopV (fun (p : Nat × Value) w' => Ext w w' ∧ p.1 ≤ 8 ∧ Own u8E T.uint8 w.heap.size w' p.2 (padZ s.data.toList (padN s.size) ++ (leL (s.size * 8) 8).reverse.take p.1)) (fun p => [(3, p.2), (5, .int .u64 ((s.size * 8 : Nat) : Int)), (6, .int .i64 ((7 : Int) - p.1))]) (fun p => 8 - p.1) (0, vk) ⟨rfl, rfl, rfl, trivial⟩ ⟨x6, by simp, by rw [List.take_zero, List.append_nil, ← hpk]; exact hok⟩ ?_; rintro ⟨c, vc⟩ ρ8 w8 ⟨x8, hc, hoc⟩; simp only at hc hoc; dsimp only)|(refine st_idxS rfl rfl (n := i) (by omega) ?_; have hil : i < s.size := (by omega))|(refine zI rfl (fun b w2 x2 a2 hb => ?_))|(refine st_append (E := u8E) (v := vo) (l2 := [s[i]]) rfl (ho.ext x2) (Nat.le_trans x1.size x2.size) rfl rfl (sl_new a2 rfl) rfl rfl (by simp; omega) (fun v3 w3 ho3 c3 => ?_))|(refine st_append (E := u8E) (v := vo) (l2 := [128]) rfl (ho.ext x2) (Nat.le_trans x1.size x2.size) rfl rfl (sl_new a2 rfl) rfl rfl (by simp; omega) (fun v5 w5 ho5 c5 => ?_); have x5 : Ext w w5 := ((x1.trans x2).chg c5).mono (fun b hb => .inr (ho.base b (by simpa using hb))); rw [List.take_of_length_le (by rw [hl]; omega)] at ho5)|(refine st_append (E := u8E) (v := vk) (l2 := [0]) rfl (hok.ext x2) (Nat.le_trans x6.size x2.size) rfl rfl (sl_new a2 rfl) rfl rfl (by rw [hpl]; simp; omega) (fun v7 w7 ho7 c7 => ?_))|(refine st_append (E := u8E) (v := vc) (l2 := [UInt8.ofNat (s.size * 8 / 256 ^ (7 - c))]) rfl (hoc.ext x2) (Nat.le_trans x8.size x2.size) rfl rfl (sl_new a2 rfl) rfl rfl (by have := hpl (padN s.size); have := hrl c; rw [List.length_append]; simp only [List.length_cons, List.length_nil]; omega) (fun v9 w9 ho9 c9 => ?_))|(refine st_len rfl hok.sl ?_))
  · exact ⟨(i + 1, v3), ⟨rfl, rfl, rfl, trivial⟩, ⟨((x1.trans x2).chg c3).mono (fun b hb => .inr (ho.base b (by simpa using hb))), by simp; omega, by rw [get_app hil]; exact ho3⟩, by simp; omega⟩
  · have hlt : k < padN s.size := padN_lt (by rw [← hpl k]; omega) hk
    exact ⟨(k + 1, v7), ⟨rfl, rfl, trivial⟩, ⟨((x6.trans x2).chg c7).mono (fun b hb => .inr (hok.base b (by simpa using hb))), by simp; omega, by rw [padZ_succ]; exact ho7⟩, by simp; omega⟩
  · exact ⟨(c + 1, v9), ⟨rfl, rfl, congrArg (Value.int .i64) (by simp; omega), trivial⟩, ⟨((x8.trans x2).chg c9).mono (fun b hb => .inr (hoc.base b (by simpa using hb))), by simp; omega, by rw [rev_take (by omega), ← List.append_assoc]; exact ho9⟩, by simp; omega⟩
  · obtain rfl : c = 8 := by omega
    exact x_ret rfl ⟨by rw [padL_eq, hl]; exact hoc.sl, x8, hoc.base⟩
end Go.Proofs.YtfeifodeaphbjaaGreat
end
section
namespace Go.Proofs.YtfeifodeaphbjaaGreat
open Go Go.K
attribute [local irreducible] regK codeK retK KOp.wp K.Spec u32

theorem round_spec (s : S8) (k x : W32) (w : World) : K.Spec Tryz.prog F.sha_round [.agg s.cs.toArray, u32 k, u32 x] w fun r w' => r = .agg (rnd s k x).cs.toArray ∧ Ext w w' := by
  refine s_sha_round rfl ?_
  unfold k_sha_round
  refine ox ?_
  repeat' (first|(first|refine st_wAdd rfl rfl ?_|refine st_wXor rfl rfl ?_|refine st_wAnd rfl rfl ?_|refine st_wOr rfl rfl ?_|refine st_wNot rfl ?_|refine st_wByte rfl ?_)|(first|refine zF (qRot_eq _ .i64 6 (by decide) (by decide)) ?_)|(first|refine zF (qRot_eq _ .i64 11 (by decide) (by decide)) ?_)|(first|refine zF (qRot_eq _ .i64 25 (by decide) (by decide)) ?_)|(first|refine zF (qRot_eq _ .i64 2 (by decide) (by decide)) ?_)|(first|refine zF (qRot_eq _ .i64 13 (by decide) (by decide)) ?_)|(first|refine zF (qRot_eq _ .i64 22 (by decide) (by decide)) ?_)|(first|refine go1 ?_|refine zg (fun _ _=>?_)|refine zi (fun _ _=>?_))|(first|refine zD rfl rfl (fun bp wp xp ap rp hp0=>?_)|refine zE (fun _=>rfl) rfl rfl rfl (fun bq wq xq aq rq hq0=>?_))|refine zB ?_ ?_|(refine zH (fun b w1 x1 a1 hb => ?_))|(refine st_build (fill8 (s := rnd s k x) rfl rfl rfl rfl rfl rfl rfl rfl) ?_)|refine st_setN (w0 := w) (vs := (rnd s k x).cs) (by exact fx) (Nat.le_trans (by exact fx) hb) (by focus (repeat (first | assumption | (apply At.ext; assumption)))) rfl rfl rfl rfl (cs_one _) (fun w5 x5 c5 a5 r5 => ?_))
  exact x_ret (ret1 (rv_cell r5 rfl rfl)) ⟨rfl, x5⟩
end Go.Proofs.YtfeifodeaphbjaaGreat
end
section
namespace Go.Proofs.YtfeifodeaphbjaaGreat
open Go Go.K
attribute [local irreducible] regK codeK retK KOp.wp K.Spec u32 leS vnS str zero32 catB wseq wCs schR schA blkW partW wAt

theorem part0 {B : List W32} {i : Nat} {bs : List UInt8} {w : World} {b : Nat} {T : TypeId} {f : Nat × Nat} (h : i < 64) (ha : At w b (.cells (wCs (schA B i)).toArray T f)) : At w b (.cells (wCs (schR B i (partW bs 0))).toArray T f) := by
  rw [schA_lt h] at ha
  have e : partW bs 0 = 0 := by unfold partW; rfl
  rw [e]; exact ha
set_option maxHeartbeats 4000000 in
theorem sched_spec (s : ByteArray) (hs : 64 ≤ s.size) (hm : s.size ≤ 100000000) (w : World) : K.Spec Tryz.prog F.sha_schedule [.string s] w fun r w' => r = .agg (wCs (wseq (blkW s.data.toList) 64)).toArray ∧ Ext w w' := by
  refine s_sha_schedule rfl ?_
  unfold k_sha_schedule
  refine ox ?_
  repeat (first|refine go ?_|refine zg (fun _ _=>?_)|refine zi (fun _ _=>?_))
  refine zH (fun b2 w1 x1 a2 hb2 => ?_)
  repeat (first|refine go ?_|refine zg (fun _ _=>?_)|refine zi (fun _ _=>?_))
  refine zH (fun b3 w2 x2 a3 hb3 => ?_)
  have a3 : At w2 b3 (.cells (wCs (schA (blkW s.data.toList) 0)).toArray T.n_64_uint32 (0, 0)) := by
    rw [schA_lt (by decide), schR_zero, ← wz64]; exact a3
  have a2 : At w1 b2 (.cells (List.replicate 64 (Value.int .u32 0)).toArray T.n_64_uint32 (0, 0)) := a2
  have hb23 : ∀ i, i < 16 → (s.extract (4 * i) (4 * i + 4)).data.toList.length = 4 := fun i hi => by
    rw [sub_list, List.length_take, List.length_drop, Array.length_toList]
    have : s.data.size = s.size := rfl
    omega
  repeat' (first|(first|refine st_wAdd rfl rfl ?_|refine st_wXor rfl rfl ?_|refine st_wAnd rfl rfl ?_|refine st_wOr rfl rfl ?_|refine st_wNot rfl ?_|refine st_wByte rfl ?_)|(first|refine zF (qRot_eq _ .i64 7 (by decide) (by decide)) ?_)|(first|refine zF (qRot_eq _ .i64 18 (by decide) (by decide)) ?_)|(first|refine zF (qRot_eq _ .i64 17 (by decide) (by decide)) ?_)|(first|refine zF (qRot_eq _ .i64 19 (by decide) (by decide)) ?_)|refine st_wShr 3 (by decide) rfl rfl ?_|refine st_wShr 10 (by decide) rfl rfl ?_|refine st_wShl 8 (by decide) rfl rfl ?_|(refine st_arr (i - 15) rfl (congrArg (Value.int .i64) (by omega)) (by omega) ?_)|(refine st_arr (i - 2) rfl (congrArg (Value.int .i64) (by omega)) (by omega) ?_)|(refine st_arr (i - 16) rfl (congrArg (Value.int .i64) (by omega)) (by omega) ?_)|(refine st_arr (i - 7) rfl (congrArg (Value.int .i64) (by omega)) (by omega) ?_)|(refine st_arr i rfl rfl (by omega) ?_)|(refine st_mul rfl rfl (by omega) ?_)|(refine st_ldW _ rfl (Row.of_at (t := T.n_64_uint32) (f := (0, 0)) (by focus (repeat (first | assumption | (apply At.ext; assumption))))) (by first|(rw [schA_length (by omega)]; omega)|(rw [schR_length (by omega)]; omega)) ?_)|(first|refine go1 ?_|refine zg (fun _ _=>?_)|refine zi (fun _ _=>?_))|refine zL rfl (fun h => ?_) (fun h => ?_)|(refine c_loopV (fun (i : Nat) w' => Ext w1 w' ∧ i ≤ 64 ∧ At w' b3 (.cells (wCs (schA (blkW s.data.toList) i)).toArray T.n_64_uint32 (0, 0))) (fun i => [(0, .string s), (2, .pointer (some ⟨b2, 0, none⟩)), (3, .pointer (some ⟨b3, 0, none⟩)), (9, .int .i64 i)]) (fun i => 64 - i) 0 ⟨rfl, rfl, rfl, rfl, trivial⟩ ⟨by exact fx, by omega, a3⟩ ?_; rintro i ρ w3 ⟨x3, hi, ha⟩)|(refine st_mul rfl rfl (by omega) ?_)|(refine st_subStr (lo := 4 * i) (hi := 4 * i + 4) rfl (congrArg (Value.int .i64) (by omega)) (congrArg (Value.int .i64) (by omega)) (by omega) (by omega) ?_)|(refine st_bytesOf rfl (fun v w4 x4 hv hb4 => ?_))|(refine st_len rfl hv ?_)|(have hi16 : i < 16 := (by omega); have hbl := hb23 i hi16; refine c_loopV (fun (k : Nat) w' => Ext w1 w' ∧ k ≤ 4 ∧ SlE u8E w' v (s.extract (4 * i) (4 * i + 4)).data.toList ∧ At w' b3 (.cells (wCs (schR (blkW s.data.toList) i (partW (s.extract (4 * i) (4 * i + 4)).data.toList k))).toArray T.n_64_uint32 (0, 0))) (fun k => [(0, .string s), (2, .pointer (some ⟨b2, 0, none⟩)), (3, .pointer (some ⟨b3, 0, none⟩)), (4, .int .i64 i), (9, .int .i64 i), (21, v), (22, .int .i64 ((s.extract (4 * i) (4 * i + 4)).data.toList.length : Nat)), (23, .int .i64 k)]) (fun k => 4 - k) 0 ⟨rfl, rfl, rfl, rfl, rfl, rfl, rfl, rfl, trivial⟩ ⟨by exact fx, by omega, by exact fx, part0 (by omega) (by focus (repeat (first | assumption | (apply At.ext; assumption))))⟩ ?_; rintro k ρ4 w6 ⟨x6, hk, hv6, ha6⟩)|(refine st_elemE rfl rfl hv6 rfl (by omega) (fun ad r7 => ?_); have hkl : k < 4 := (by omega))|(refine st_store rfl rfl (u32_one _) (by focus (repeat (first | assumption | (apply At.ext; assumption)))) (by rw [wCs_len]; first|(rw [schA_length (by omega)]; omega)|(rw [schR_length (by omega)]; omega)) (fun w8 c8 a8 => ?_))|(have e : i = 64 := (by omega); subst e; refine st_lN0 (n := 64) rfl (Row.of_at ha) (by rw [wCs_len, schA_length (by omega)]; exact Nat.le_refl _) (List.take_of_length_le (by rw [wCs_len, schA_length (by omega)]; exact Nat.le_refl _)) ?_)|(refine st_setN (w0 := w) (vs := wCs (schA (blkW s.data.toList) 64)) (by exact fx) hb2 (a2.ext x3) rfl rfl (by rw [wCs_len, schA_length (by omega)]) (by rw [List.length_replicate]) (wCs_one _) (fun w9 x9 c9 a9 r9 => ?_)))
  · refine ⟨k + 1, ⟨rfl, rfl, rfl, rfl, rfl, rfl, rfl, rfl, trivial⟩, ⟨(x6.chg c8).mono (by intro y hy; simp at hy; right; omega), by omega, SlE.chg c8 hv6 (fun a m c e hm => ?_), ?_⟩, by omega⟩
    · have h1 := hb4 a.block (by rw [e]; simp [blkOf])
      have h2 := ha.lt
      simp at hm; omega
    · rw [← part_step (by omega)]
      exact a8
  · obtain rfl : k = 4 := by omega
    rw [part_last hi16] at ha6
    exact ⟨i + 1, ⟨rfl, rfl, rfl, rfl, trivial⟩, ⟨x6, by omega, ha6⟩, by omega⟩
  · have x7 : Ext w1 w8 := (Ext.chg (w := w1) (by exact fx) c8).mono (by intro y hy; simp at hy; right; omega)
    refine ⟨i + 1, ⟨rfl, rfl, rfl, rfl, trivial⟩, ⟨x7, by omega, ?_⟩, by omega⟩
    rw [← sch_step (by omega) (by omega)]
    exact a8
  · exact x_ret (ret1 (rv_cell r9 rfl (by rw [wCs_len, schA_length (by omega)]))) ⟨by rw [schA_64], x9⟩
end Go.Proofs.YtfeifodeaphbjaaGreat
end
