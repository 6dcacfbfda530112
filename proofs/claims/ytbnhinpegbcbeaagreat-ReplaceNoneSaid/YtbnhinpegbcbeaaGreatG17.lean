/- Contracts: amounts, numbers in bytes. -/
import Derived.Test.YtbnhinpegbcbeaaGreatG13
import Derived.Test.YtbnhinpegbcbeaaGreatG14
import Derived.Test.YtbnhinpegbcbeaaGreatG15
import Derived.Test.YtbnhinpegbcbeaaGreatG16
set_option linter.unusedVariables false
set_option linter.unusedSimpArgs false
section
namespace Go.Proofs.YtbnhinpegbcbeaaGreat
open Go Go.K
attribute [local irreducible] regK codeK retK KOp.wp K.Spec leS vnS str

theorem add_spec (a b : Int) (w : World) : K.Spec Tryz.prog F.amount_Add [.int .i64 a, .int .i64 b] w fun v w' => v = .tuple #[.int .i64 (if addOk a b then a + b else 0), .int .i64 (if addOk a b then 0 else 3)] ∧ w' = w := by
  refine s_amount_Add rfl ?_
  unfold k_amount_Add
  refine ox ?_
  have fl : addOk a b = false → Value.tuple #[.int .i64 0, .int .i64 3] = .tuple #[.int .i64 (if addOk a b then a + b else 0), .int .i64 (if addOk a b then 0 else 3)] := fun h => by rw [h]; rfl
  have tr : addOk a b = true → Value.tuple #[.int .i64 (a + b), .int .i64 0] = .tuple #[.int .i64 (if addOk a b then a + b else 0), .int .i64 (if addOk a b then 0 else 3)] := fun h => by rw [h]; rfl
  repeat (first|refine go ?_|refine zg (fun _ _=>?_)|refine zi (fun _ _=>?_))
  refine zK rfl (fun h => ?_) (fun h => ?_)
  · repeat (first|refine go ?_|refine zg (fun _ _=>?_)|refine zi (fun _ _=>?_))
    exact x_ret rfl ⟨fl (by simp at h; simp [addOk, h]), rfl⟩
  · have ha := (goodB_iff a).1 (by simpa using h)
    repeat (first|refine go ?_|refine zg (fun _ _=>?_)|refine zi (fun _ _=>?_))
    refine zK rfl (fun h2 => ?_) (fun h2 => ?_)
    · repeat (first|refine go ?_|refine zg (fun _ _=>?_)|refine zi (fun _ _=>?_))
      exact x_ret rfl ⟨fl (by simp at h2; simp [addOk, h2]), rfl⟩
    · have hb := (goodB_iff b).1 (by simpa using h2)
      repeat (first|refine go ?_|refine zg (fun _ _=>?_)|refine zi (fun _ _=>?_))
      refine zM rfl (fun h3 => ?_) (fun h3 => ?_)
      · repeat (first|refine go ?_|refine zg (fun _ _=>?_)|refine zi (fun _ _=>?_))
        exact x_ret rfl ⟨fl (by simp at h3; simp [addOk, h3]), rfl⟩
      · repeat (first|refine go ?_|refine zg (fun _ _=>?_)|refine zi (fun _ _=>?_))
        exact x_ret rfl ⟨tr (by simp at h h2 h3; simp [addOk, h, h2, h3]), rfl⟩
theorem sum_spec {v : Value} {l : List Int} (w : World) (hs : SlE intE w v l) (hn : l.length ≤ 1000000000000) : K.Spec Tryz.prog F.amount_Sum [v] w fun r w' => r = .tuple #[.int .i64 (sumV l), .int .i64 (sumE l)] ∧ w' = w := by
  refine s_amount_Sum rfl ?_
  unfold k_amount_Sum
  refine ox ?_
  repeat (first|refine go ?_|refine zg (fun _ _=>?_)|refine zi (fun _ _=>?_))
  refine st_len rfl hs ?_
  repeat (first|refine go ?_|refine zg (fun _ _=>?_)|refine zi (fun _ _=>?_))
  refine c_loopV (fun (s : Nat × Int) w' => w' = w ∧ s.1 ≤ l.length ∧ sumOk 0 (l.take s.1) = some s.2) (fun s => [(4, .int .i64 s.2), (8, v), (9, .int .i64 (l.length : Nat)), (10, .int .i64 s.1)]) (fun s => l.length - s.1) (0, 0) ⟨rfl, rfl, rfl, rfl, trivial⟩ ⟨rfl, by simp, rfl⟩ ?_
  rintro ⟨i, s⟩ ρ w1 ⟨rfl, hi, hk⟩
  simp only at hi hk
  dsimp only
  have hg := sumOk_good _ _ _ (by decide) hk
  repeat (first|refine go ?_|refine zg (fun _ _=>?_)|refine zi (fun _ _=>?_))
  refine zL rfl (fun h => ?_) (fun h => ?_)
  · have hil : i < l.length := by omega
    have ht := sumOk_take hil
    rw [hk, Option.bind_some] at ht
    repeat (first|refine go ?_|refine zg (fun _ _=>?_)|refine zi (fun _ _=>?_))
    refine st_elemE rfl rfl hs rfl hil (fun ad r1 => ?_)
    repeat (first|refine go ?_|refine zg (fun _ _=>?_)|refine zi (fun _ _=>?_))
    refine zC rfl (add_spec s l[i] _) ?_
    rintro _ _ ⟨rfl, rfl⟩
    repeat (first|refine go ?_|refine zg (fun _ _=>?_)|refine zi (fun _ _=>?_))
    have e : addOk s l[i] = (goodB l[i] && goodB (s + l[i])) := by rw [addOk, hg]; rfl
    refine c_condN rfl (fun h2 => ?_) (fun h2 => ?_)
    · have ho : addOk s l[i] = false := by
        cases ho : addOk s l[i]
        · rfl
        · rw [ho] at h2; exact absurd rfl h2
      repeat (first|refine go ?_|refine zg (fun _ _=>?_)|refine zi (fun _ _=>?_))
      have hno := sumOk_none (show sumOk 0 (l.take (i + 1)) = none by rw [ht, ← e, ho]; rfl)
      refine x_ret rfl ⟨?_, rfl⟩
      rw [sumV, sumE, hno, ho]; rfl
    · have ho : addOk s l[i] = true := by
        cases ho : addOk s l[i]
        · rw [ho] at h2; exact absurd h2 (by decide)
        · rfl
      repeat (first|refine go ?_|refine zg (fun _ _=>?_)|refine zi (fun _ _=>?_))
      refine ⟨(i + 1, s + l[i]), ⟨by rw [ho]; rfl, rfl, rfl, rfl, trivial⟩, ⟨rfl, by simp; omega, ?_⟩, by simp; omega⟩
      rw [ht, ← e, ho]; rfl
  · repeat (first|refine go ?_|refine zg (fun _ _=>?_)|refine zi (fun _ _=>?_))
    have e : l.take i = l := List.take_of_length_le (by omega)
    rw [e] at hk
    refine x_ret rfl ⟨?_, rfl⟩
    rw [sumV, sumE, hk]; rfl
theorem rsum_spec {v : Value} {l : List Int} (w : World) (hs : SlE intE w v l) (hn : l.length ≤ 1000000000000) : K.Spec Tryz.prog F.kedgeref01_Sum [v] w fun r w' => r = .tuple #[.int .i64 (sumV l), .int .i64 (sumE l)] ∧ w' = w := by
  refine s_kedgeref01_Sum rfl ?_
  unfold k_kedgeref01_Sum
  refine ox ?_
  repeat (first|refine go ?_|refine zg (fun _ _=>?_)|refine zi (fun _ _=>?_))
  refine c_loopV (fun (s : Nat × Int) w' => w' = w ∧ s.1 ≤ l.length ∧ sumOk 0 (l.take s.1) = some s.2) (fun s => [(0, v), (4, .int .i64 s.2), (5, .int .i64 s.1)]) (fun s => l.length - s.1) (0, 0) ⟨rfl, rfl, rfl, trivial⟩ ⟨rfl, by simp, rfl⟩ ?_
  rintro ⟨i, s⟩ ρ w1 ⟨rfl, hi, hk⟩
  simp only at hi hk
  dsimp only
  have hg := (goodB_iff _).1 (sumOk_good _ _ _ (by decide) hk)
  repeat (first|refine go ?_|refine zg (fun _ _=>?_)|refine zi (fun _ _=>?_))
  refine st_len rfl hs ?_
  repeat (first|refine go ?_|refine zg (fun _ _=>?_)|refine zi (fun _ _=>?_))
  refine zL rfl (fun h => ?_) (fun h => ?_)
  · have hil : i < l.length := by omega
    have ht := sumOk_take hil
    rw [hk, Option.bind_some] at ht
    repeat (first|refine go ?_|refine zg (fun _ _=>?_)|refine zi (fun _ _=>?_))
    refine st_elemE rfl rfl hs rfl hil (fun ad r1 => ?_)
    repeat (first|refine go ?_|refine zg (fun _ _=>?_)|refine zi (fun _ _=>?_))
    refine zM rfl (fun h2 => ?_) (fun h2 => ?_)
    · repeat (first|refine go ?_|refine zg (fun _ _=>?_)|refine zi (fun _ _=>?_))
      have ho : goodB l[i] = false := by simpa using h2
      have hno := sumOk_none (show sumOk 0 (l.take (i + 1)) = none by rw [ht, ho]; rfl)
      refine x_ret rfl ⟨?_, rfl⟩
      rw [sumV, sumE, hno]; rfl
    · have hgl : goodB l[i] = true := by simpa using h2
      have hgl' := (goodB_iff _).1 hgl
      repeat (first|refine go ?_|refine zg (fun _ _=>?_)|refine zi (fun _ _=>?_))
      refine st_elemE rfl rfl hs rfl hil (fun ad2 r2 => ?_)
      repeat (first|refine go ?_|refine zg (fun _ _=>?_)|refine zi (fun _ _=>?_))
      refine zM rfl (fun h3 => ?_) (fun h3 => ?_)
      · repeat (first|refine go ?_|refine zg (fun _ _=>?_)|refine zi (fun _ _=>?_))
        have ho : goodB (s + l[i]) = false := by simpa using h3
        have hno := sumOk_none (show sumOk 0 (l.take (i + 1)) = none by rw [ht, ho, hgl]; rfl)
        refine x_ret rfl ⟨?_, rfl⟩
        rw [sumV, sumE, hno]; rfl
      · have ho : goodB (s + l[i]) = true := by simpa using h3
        repeat (first|refine go ?_|refine zg (fun _ _=>?_)|refine zi (fun _ _=>?_))
        refine ⟨(i + 1, s + l[i]), ⟨rfl, rfl, rfl, trivial⟩, ⟨rfl, by simp; omega, ?_⟩, by simp; omega⟩
        rw [ht, ho, hgl]; rfl
  · repeat (first|refine go ?_|refine zg (fun _ _=>?_)|refine zi (fun _ _=>?_))
    have e : l.take i = l := List.take_of_length_le (by omega)
    rw [e] at hk
    refine x_ret rfl ⟨?_, rfl⟩
    rw [sumV, sumE, hk]; rfl
theorem indexI_spec {v : Value} {l : List Int} (a : Int) (w : World) (hs : SlE intE w v l) (hn : l.length ≤ 1000000000000) : K.Spec Tryz.prog F.slices_Index_L_int_int [v, .int .i64 a] w fun r w' => r = .int .i64 (idxOf (fun x => decide (a = x)) l) ∧ w' = w := by
  refine s_slices_Index_L_int_int rfl ?_
  unfold k_slices_Index_L_int_int
  refine ox ?_
  repeat (first|refine go ?_|refine zg (fun _ _=>?_)|refine zi (fun _ _=>?_))
  refine st_len rfl hs ?_
  repeat (first|refine go ?_|refine zg (fun _ _=>?_)|refine zi (fun _ _=>?_))
  refine c_loopV (fun (i : Nat) w' => w' = w ∧ i ≤ l.length ∧ ∀ j, j < i → ∀ h : j < l.length, a ≠ l[j]) (fun i => [(0, v), (1, .int .i64 a), (6, v), (7, .int .i64 (l.length : Nat)), (8, .int .i64 i)]) (fun i => l.length - i) 0 ⟨rfl, rfl, rfl, rfl, rfl, trivial⟩ ⟨rfl, by omega, by omega⟩ ?_
  rintro i ρ w1 ⟨rfl, hi, hk⟩
  repeat (first|refine go ?_|refine zg (fun _ _=>?_)|refine zi (fun _ _=>?_))
  refine zL rfl (fun h => ?_) (fun h => ?_)
  · have hil : i < l.length := by omega
    repeat (first|refine go ?_|refine zg (fun _ _=>?_)|refine zi (fun _ _=>?_))
    refine st_elemE rfl rfl hs rfl hil (fun ad r1 => ?_)
    repeat (first|refine go ?_|refine zg (fun _ _=>?_)|refine zi (fun _ _=>?_))
    refine zL rfl (fun h2 => ?_) (fun h2 => ?_)
    · repeat (first|refine go ?_|refine zg (fun _ _=>?_)|refine zi (fun _ _=>?_))
      exact x_ret rfl ⟨congrArg (Value.int .i64) (idxOf_hit hil (by simpa using h2) (fun j hj => by simpa using hk j hj (by omega))).symm, rfl⟩
    · repeat (first|refine go ?_|refine zg (fun _ _=>?_)|refine zi (fun _ _=>?_))
      refine ⟨i + 1, ⟨rfl, rfl, rfl, rfl, rfl, trivial⟩, ⟨rfl, by omega, fun j hj hl => ?_⟩, by omega⟩
      by_cases hji : j = i
      · subst hji; exact h2
      · exact hk j (by omega) hl
  · repeat (first|refine go ?_|refine zg (fun _ _=>?_)|refine zi (fun _ _=>?_))
    exact x_ret rfl ⟨congrArg (Value.int .i64) (idxOf_miss (fun j hj => by simpa using hk j (by omega) hj)).symm, rfl⟩
theorem containsI_spec {v : Value} {l : List Int} (a : Int) (w : World) (hs : SlE intE w v l) (hn : l.length ≤ 1000000000000) : K.Spec Tryz.prog F.slices_Contains_L_int_int [v, .int .i64 a] w fun r w' => r = .bool (l.any fun x => decide (a = x)) ∧ w' = w := by
  refine s_slices_Contains_L_int_int rfl ?_
  unfold k_slices_Contains_L_int_int
  refine ox ?_
  repeat (first|refine go ?_|refine zg (fun _ _=>?_)|refine zi (fun _ _=>?_))
  refine zC rfl (indexI_spec a _ hs hn) ?_
  rintro _ _ ⟨rfl, rfl⟩
  repeat (first|refine go ?_|refine zg (fun _ _=>?_)|refine zi (fun _ _=>?_))
  exact x_ret rfl ⟨congrArg Value.bool idxOf_any, rfl⟩
theorem known_spec (k : Nat) (hk : k = 1 ∨ k = 2 ∨ k = 4 ∨ k = 8) (w : World) : K.Spec Tryz.prog F.octet_known [.int .i64 (k : Nat)] w fun r w' => r = .bool true ∧ Ext w w' := by
  refine s_octet_known rfl ?_
  unfold k_octet_known
  refine ox ?_
  repeat (first|refine go ?_|refine zg (fun _ _=>?_)|refine zi (fun _ _=>?_))
  refine zI rfl (fun b w1 x1 a1 hb => ?_)
  repeat (first|refine go ?_|refine zg (fun _ _=>?_)|refine zi (fun _ _=>?_))
  refine zC rfl (containsI_spec (l := [1, 2, 4, 8]) (k : Nat) _ (SlE.new (E := intE) a1 rfl (Nat.le_refl _)) (by decide)) ?_
  rintro _ _ ⟨rfl, rfl⟩
  repeat (first|refine go ?_|refine zg (fun _ _=>?_)|refine zi (fun _ _=>?_))
  refine x_ret rfl ⟨congrArg Value.bool ?_, x1⟩
  rcases hk with rfl | rfl | rfl | rfl <;> rfl
theorem put_spec (n k : Nat) (hk : k = 1 ∨ k = 2 ∨ k = 4 ∨ k = 8) (hn : n < 18446744073709551616) (w : World) : K.Spec Tryz.prog F.octet_Put [.int .u64 (n : Nat), .int .i64 (k : Nat)] w fun r w' => r = .string (leS n k) ∧ Ext w w' := by
  refine s_octet_Put rfl ?_
  unfold k_octet_Put
  refine ox ?_
  repeat (first|refine go ?_|refine zg (fun _ _=>?_)|refine zi (fun _ _=>?_))
  refine zC rfl (known_spec k hk _) ?_
  rintro _ w1 ⟨rfl, x1⟩
  repeat (first|refine go ?_|refine zg (fun _ _=>?_)|refine zi (fun _ _=>?_))
  refine c_loopV (fun (s : Nat × Value) w' => Ext w w' ∧ s.1 ≤ k ∧ Own u8E T.uint8 w.heap.size w' s.2 (leL n s.1)) (fun s => [(0, .int .u64 ((n / 256 ^ s.1 : Nat) : Int)), (5, s.2), (9, .int .i64 (k : Nat)), (10, .int .i64 s.1)]) (fun s => k - s.1) (0, .slice none 0 0) ⟨by simp; rfl, rfl, rfl, rfl, trivial⟩ ⟨x1, by simp, Own.nil _ _ _⟩ ?_
  rintro ⟨i, vo⟩ ρ w2 ⟨x2, hi, ho⟩
  simp only at hi ho
  dsimp only
  repeat (first|refine go ?_|refine zg (fun _ _=>?_)|refine zi (fun _ _=>?_))
  refine zL rfl (fun h => ?_) (fun h => ?_)
  · repeat (first|refine go ?_|refine zg (fun _ _=>?_)|refine zi (fun _ _=>?_))
    refine zI rfl (fun b w3 x3 a3 hb => ?_)
    repeat (first|refine go ?_|refine zg (fun _ _=>?_)|refine zi (fun _ _=>?_))
    refine st_append (E := u8E) (v := vo) (l2 := [UInt8.ofNat (n / 256 ^ i)]) rfl (ho.ext x3) (Nat.le_trans x2.size x3.size) rfl rfl (sl_new a3 rfl) (by rw [u8_wrap]; rfl) rfl (by rw [leL_length]; simp; omega) (fun vo' w4 ho4 c4 => ?_)
    repeat (first|refine go ?_|refine zg (fun _ _=>?_)|refine zi (fun _ _=>?_))
    refine ⟨(i + 1, vo'), ⟨?_, rfl, rfl, rfl, trivial⟩, ⟨((x2.trans x3).chg c4).mono (fun b hb => .inr (ho.base b (by simpa using hb))), by simp; omega, ho4⟩, by simp; omega⟩
    show Value.int .u64 (Int.fdiv ((n / 256 ^ i : Nat) : Int) (2 ^ (min (8 : Int).toNat IntKind.u64.bits))) = _
    congr 1
    rw [Nat.pow_succ, ← Nat.div_div_eq_div_mul]
    rw [Int.fdiv_eq_ediv_of_nonneg _ (by decide)]
    rfl
  · repeat (first|refine go ?_|refine zg (fun _ _=>?_)|refine zi (fun _ _=>?_))
    have e : i = k := by omega
    subst e
    refine st_strU rfl ho.sl ?_
    repeat (first|refine go ?_|refine zg (fun _ _=>?_)|refine zi (fun _ _=>?_))
    exact x_ret rfl ⟨by rw [leS]; rfl, x2⟩
theorem rput_spec (n k : Nat) (hk : k = 1 ∨ k = 2 ∨ k = 4 ∨ k = 8) (hn : n < 18446744073709551616) (w : World) : K.Spec Tryz.prog F.kedgeref02_Put [.int .u64 (n : Nat), .int .i64 (k : Nat)] w fun r w' => r = .string (leS n k) ∧ Ext w w' := by
  refine s_kedgeref02_Put rfl ?_
  unfold k_kedgeref02_Put
  refine ox ?_
  have hk4 : k ≤ 8 := by omega
  apply zf; apply z0; apply z1; apply zf; apply z0; apply z1
  refine c_cutV (fun (_ : Unit) w' => w' = w) (fun _ => [(0, .int .u64 (n : Nat)), (1, .int .i64 (k : Nat)), (5, .string ⟨#[]⟩)]) ?_ ?_
  · repeat (first|refine go ?_|refine zg (fun _ _=>?_)|refine zi (fun _ _=>?_))
    rcases hk with rfl | rfl | rfl | rfl
    all_goals
      repeat (first|refine go ?_|refine zg (fun _ _=>?_)|refine zi (fun _ _=>?_))
      exact ⟨(), ⟨rfl, rfl, rfl, trivial⟩, rfl⟩
  rintro _ ρ w rfl
  repeat (first|refine go ?_|refine zg (fun _ _=>?_)|refine zi (fun _ _=>?_))
  refine c_loopV (fun (s : Nat) w' => Ext w w' ∧ s ≤ k) (fun s => [(0, .int .u64 ((n / 256 ^ s : Nat) : Int)), (1, .int .i64 (k : Nat)), (5, .string (leS n s)), (6, .int .i64 s)]) (fun s => k - s) 0 ⟨by simp; rfl, rfl, by rw [leS_zero]; rfl, rfl, trivial⟩ ⟨Ext.refl _, Nat.zero_le _⟩ ?_
  rintro i ρ w2 ⟨x2, hi⟩
  repeat (first|refine go ?_|refine zg (fun _ _=>?_)|refine zi (fun _ _=>?_))
  refine zL rfl (fun h => ?_) (fun h => ?_)
  · repeat (first|refine go ?_|refine zg (fun _ _=>?_)|refine zi (fun _ _=>?_))
    refine zI rfl (fun b w3 x3 a3 hb => ?_)
    repeat (first|refine go ?_|refine zg (fun _ _=>?_)|refine zi (fun _ _=>?_))
    have em : Int.tmod ((n / 256 ^ i : Nat) : Int) 256 = ((n / 256 ^ i % 256 : Nat) : Int) := tm _ 256
    have a4 : At w3 b (.cells [Value.int .u8 (IntKind.u8.wrap ((n / 256 ^ i % 256 : Nat) : Int))].toArray T.uint8 (0, 0)) := by rw [← em]; exact a3
    refine st_str1 rfl a4 ?_
    repeat (first|refine go ?_|refine zg (fun _ _=>?_)|refine zi (fun _ _=>?_))
    have e1 : UInt8.ofNat (n / 256 ^ i % 256) = UInt8.ofNat (n / 256 ^ i) := by apply UInt8.toNat_inj.1; simp
    refine st_catS rfl rfl (by rw [leS_size, str_size]; simp; omega) ?_
    repeat (first|refine go ?_|refine zg (fun _ _=>?_)|refine zi (fun _ _=>?_))
    refine ⟨i + 1, ⟨?_, rfl, ?_, rfl, trivial⟩, ⟨x2.trans x3, by omega⟩, by omega⟩
    · show Value.int .u64 (IntKind.u64.wrap (Int.tdiv ((n / 256 ^ i : Nat) : Int) 256)) = _
      have hlt : n / 256 ^ i < 18446744073709551616 := Nat.lt_of_le_of_lt (Nat.div_le_self _ _) hn
      have e2 : Int.tdiv ((n / 256 ^ i : Nat) : Int) 256 = ((n / 256 ^ (i + 1) : Nat) : Int) := by
        rw [Nat.pow_succ, ← Nat.div_div_eq_div_mul]; exact td _ 256
      have h8 := Nat.div_le_self n (256 ^ (i + 1))
      rw [e2, u64_wrap (Int.natCast_nonneg _) (by omega)]
    · show Value.string (leS n i ++ str [UInt8.ofNat (n / 256 ^ i % 256)]) = Value.string (leS n (i + 1))
      rw [e1, leS_succ]
  · repeat (first|refine go ?_|refine zg (fun _ _=>?_)|refine zi (fun _ _=>?_))
    have e : i = k := by omega
    subst e
    exact x_ret rfl ⟨rfl, x2⟩
theorem vput_spec (n : Nat) (hn : n < 18446744073709551616) (w : World) : K.Spec Tryz.prog F.vint_Put [.int .u64 (n : Nat)] w fun r w' => r = .string (vnS n) ∧ Ext w w' := by
  refine s_vint_Put rfl ?_
  unfold k_vint_Put
  refine ox ?_
  repeat' (first|(first|refine go1 ?_|refine zg (fun _ _=>?_)|refine zi (fun _ _=>?_))|refine zL rfl (fun h => ?_) (fun h => ?_)|(refine zC rfl (put_spec _ _ (by decide) (by first|exact hn|decide) _) ?_;rintro _ _ ⟨rfl, _⟩)|refine st_catS rfl rfl (by rw [leS_size, leS_size]; decide) ?_)
  · exact x_ret rfl ⟨congrArg Value.string (by rw [vnS, if_pos (by omega)]), by repeat (first | assumption | exact Ext.refl _ | refine Ext.trans ?_ (by assumption))⟩
  · exact x_ret rfl ⟨congrArg Value.string (by rw [vnS, if_neg (by omega), if_pos (by omega)]), by repeat (first | assumption | exact Ext.refl _ | refine Ext.trans ?_ (by assumption))⟩
  · exact x_ret rfl ⟨congrArg Value.string (by rw [vnS, if_neg (by omega), if_neg (by omega), if_pos (by omega)]), by repeat (first | assumption | exact Ext.refl _ | refine Ext.trans ?_ (by assumption))⟩
  · exact x_ret rfl ⟨congrArg Value.string (by rw [vnS, if_neg (by omega), if_neg (by omega), if_neg (by omega)]), by repeat (first | assumption | exact Ext.refl _ | refine Ext.trans ?_ (by assumption))⟩
theorem rvput_spec (n : Nat) (hn : n < 18446744073709551616) (w : World) : K.Spec Tryz.prog F.kedgeref03_Put [.int .u64 (n : Nat)] w fun r w' => r = .string (vnS n) ∧ Ext w w' := by
  refine s_kedgeref03_Put rfl ?_
  unfold k_kedgeref03_Put
  refine ox ?_
  repeat' (first|(first|refine go1 ?_|refine zg (fun _ _=>?_)|refine zi (fun _ _=>?_))|refine zL rfl (fun h => ?_) (fun h => ?_)|(refine zC rfl (rput_spec _ _ (by decide) hn _) ?_;rintro _ _ ⟨rfl, _⟩)|refine st_catS rfl rfl (by rw [leS_size]; decide) ?_)
  · exact x_ret rfl ⟨congrArg Value.string (by rw [vnS, if_pos (by omega)]), by repeat (first | assumption | exact Ext.refl _ | refine Ext.trans ?_ (by assumption))⟩
  · exact x_ret rfl ⟨congrArg Value.string (by rw [vnS, if_neg (by omega), if_pos (by omega), leS_fd]), by repeat (first | assumption | exact Ext.refl _ | refine Ext.trans ?_ (by assumption))⟩
  · exact x_ret rfl ⟨congrArg Value.string (by rw [vnS, if_neg (by omega), if_neg (by omega), if_pos (by omega), leS_fe]), by repeat (first | assumption | exact Ext.refl _ | refine Ext.trans ?_ (by assumption))⟩
  · exact x_ret rfl ⟨congrArg Value.string (by rw [vnS, if_neg (by omega), if_neg (by omega), if_neg (by omega), leS_ff]), by repeat (first | assumption | exact Ext.refl _ | refine Ext.trans ?_ (by assumption))⟩
theorem counted_spec (n : Nat) (hn : n < 9223372036854775808) (w : World) : K.Spec Tryz.prog F.wire_counted [.int .i64 (n : Nat)] w fun r w' => r = .string (vnS n) ∧ Ext w w' := by
  refine s_wire_counted rfl ?_
  unfold k_wire_counted
  refine ox ?_
  repeat (first|refine go ?_|refine zg (fun _ _=>?_)|refine zi (fun _ _=>?_))
  rw [u64_wrap (by omega) (by omega)]
  refine zC rfl (vput_spec n (by omega) _) ?_
  rintro _ w1 ⟨rfl, x1⟩
  repeat (first|refine go ?_|refine zg (fun _ _=>?_)|refine zi (fun _ _=>?_))
  exact x_ret rfl ⟨rfl, x1⟩
theorem rlength_spec (n : Nat) (hn : n < 9223372036854775808) (w : World) : K.Spec Tryz.prog F.kedgeref06_length [.int .i64 (n : Nat)] w fun r w' => r = .string (vnS n) ∧ Ext w w' := by
  refine s_kedgeref06_length rfl ?_
  unfold k_kedgeref06_length
  refine ox ?_
  repeat (first|refine go ?_|refine zg (fun _ _=>?_)|refine zi (fun _ _=>?_))
  rw [u64_wrap (by omega) (by omega)]
  refine zC rfl (rvput_spec n (by omega) _) ?_
  rintro _ w1 ⟨rfl, x1⟩
  repeat (first|refine go ?_|refine zg (fun _ _=>?_)|refine zi (fun _ _=>?_))
  exact x_ret rfl ⟨rfl, x1⟩
theorem sized_spec (s : ByteArray) (hs : s.size ≤ 1000000) (w : World) : K.Spec Tryz.prog F.wire_sized [.string s] w fun r w' => r = .string (vnS s.size ++ s) ∧ Ext w w' := by
  refine s_wire_sized rfl ?_
  unfold k_wire_sized
  refine ox ?_
  repeat (first|refine go ?_|refine zg (fun _ _=>?_)|refine zi (fun _ _=>?_))
  refine zC rfl (counted_spec s.size (by omega) _) ?_
  rintro _ w1 ⟨rfl, x1⟩
  repeat (first|refine go ?_|refine zg (fun _ _=>?_)|refine zi (fun _ _=>?_))
  have := vnS_size s.size
  refine st_catS rfl rfl (by omega) ?_
  repeat (first|refine go ?_|refine zg (fun _ _=>?_)|refine zi (fun _ _=>?_))
  exact x_ret rfl ⟨rfl, x1⟩
end Go.Proofs.YtbnhinpegbcbeaaGreat
end
