/- Contracts: amounts, numbers in bytes. Contracts: checks of a transaction, by the reference. Contracts: the check of a transaction by the reference. DERIVED: THE SHELF's CONTRACTS AT THIS DUMP, IN PLAIN WORDS (tools/lay-plain.mjs out of 'YtilhlcnekkkajaaGreatShelf.lean', which tools/lay-shelf.mjs wrote): THE SAME DECLARATIONS UNDER THE SAME NAMES: 'import', 'namespace', 'open', 'def', 'theorem' AND -/
import Derived.Shelf.Strings.Builder1
import Derived.Shelf.Strings.Builder2
import Derived.Shelf.Small.Strs
import Derived.Shelf.Strings.BuilderF
import Derived.Shelf.Strings.BuilderK
import Derived.Shelf.Strings.Prefix
import Derived.Shelf.Bits.Mul64
import Derived.Shelf.Strings.Repeat
import Derived.Ground.SlgnProg
import Derived.Ground.SlgfProg
import Derived.Test.YtilhlcnekkkajaaGreatProg
import Derived.Ground.SlmcProg
import Derived.Shelf.SlMaps.Clone
import Derived.Shelf.SlicesE.DeleteFunc
import Derived.Test.YtilhlcnekkkajaaGreatPa13
set_option linter.unusedVariables false
set_option linter.unusedSimpArgs false
section
namespace Go.Proofs.YtilhlcnekkkajaaGreat
open Go Go.K
attribute [local irreducible] regK codeK retK KOp.wp K.Spec leS vnS str

theorem add_spec (a b : Int) (w : World) : K.Spec Tryz.prog F.amount_Add [.int .i64 a, .int .i64 b] w fun v w' => v = .tuple #[.int .i64 (if addOk a b then a + b else 0), .int .i64 (if addOk a b then 0 else 3)] ∧ w' = w := by
  refine s_amount_Add rfl ?_
  unfold k_amount_Add
  refine oy ?_
  have fl : addOk a b = false → Value.tuple #[.int .i64 0, .int .i64 3] = .tuple #[.int .i64 (if addOk a b then a + b else 0), .int .i64 (if addOk a b then 0 else 3)] := fun h => by rw [h]; rfl
  have tr : addOk a b = true → Value.tuple #[.int .i64 (a + b), .int .i64 0] = .tuple #[.int .i64 (if addOk a b then a + b else 0), .int .i64 (if addOk a b then 0 else 3)] := fun h => by rw [h]; rfl
  repeat (first|refine go ?_|refine zg (fun _ _=>?_)|refine zi (fun _ _=>?_))
  refine zK rfl (fun h => ?_) (fun h => ?_)
  · repeat (first|refine go ?_|refine zg (fun _ _=>?_)|refine zi (fun _ _=>?_))
    exact x_ret rfl ⟨fl (by simp at h; simp [addOk, h]), rfl⟩
  · have ha := (goodB_iff a).1 (by simpa using h)
    repeat (first|refine go ?_|refine zg (fun _ _=>?_)|refine zi (fun _ _=>?_))
    refine zK rfl (fun h2 => ?_) (fun h2 => ?_)
    · repeat (first|refine go ?_|refine zg (fun _ _=>?_)|refine zi (fun _ _=>?_))
      exact x_ret rfl ⟨fl (by simp at h2; simp [addOk, h2]), rfl⟩
    · have hb := (goodB_iff b).1 (by simpa using h2)
      repeat (first|refine go ?_|refine zg (fun _ _=>?_)|refine zi (fun _ _=>?_))
      refine zM rfl (fun h3 => ?_) (fun h3 => ?_)
      · repeat (first|refine go ?_|refine zg (fun _ _=>?_)|refine zi (fun _ _=>?_))
        exact x_ret rfl ⟨fl (by simp at h3; simp [addOk, h3]), rfl⟩
      · repeat (first|refine go ?_|refine zg (fun _ _=>?_)|refine zi (fun _ _=>?_))
        exact x_ret rfl ⟨tr (by simp at h h2 h3; simp [addOk, h, h2, h3]), rfl⟩
theorem sum_spec {v : Value} {l : List Int} (w : World) (hs : SlE intE w v l) (hn : l.length ≤ 1000000000000) : K.Spec Tryz.prog F.amount_Sum [v] w fun r w' => r = .tuple #[.int .i64 (sumV l), .int .i64 (sumE l)] ∧ w' = w := by
  refine s_amount_Sum rfl ?_
  unfold k_amount_Sum
  refine oy ?_
  repeat (first|refine go ?_|refine zg (fun _ _=>?_)|refine zi (fun _ _=>?_))
  refine st_len rfl hs ?_
  repeat (first|refine go ?_|refine zg (fun _ _=>?_)|refine zi (fun _ _=>?_))
  refine c_loopV (fun (s : Nat × Int) w' => w' = w ∧ s.1 ≤ l.length ∧ sumOk 0 (l.take s.1) = some s.2) (fun s => [(4, .int .i64 s.2), (8, v), (9, .int .i64 (l.length : Nat)), (10, .int .i64 s.1)]) (fun s => l.length - s.1) (0, 0) ⟨rfl, rfl, rfl, rfl, trivial⟩ ⟨rfl, by simp, rfl⟩ ?_
  rintro ⟨i, s⟩ ρ w1 ⟨rfl, hi, hk⟩
  simp only at hi hk
  dsimp only
  have hg := sumOk_good _ _ _ (by decide) hk
  repeat (first|refine go ?_|refine zg (fun _ _=>?_)|refine zi (fun _ _=>?_))
  refine zL rfl (fun h => ?_) (fun h => ?_)
  · have hil : i < l.length := by omega
    have ht := sumOk_take hil
    rw [hk, Option.bind_some] at ht
    repeat (first|refine go ?_|refine zg (fun _ _=>?_)|refine zi (fun _ _=>?_))
    refine st_elemE rfl rfl hs rfl hil (fun ad r1 => ?_)
    repeat (first|refine go ?_|refine zg (fun _ _=>?_)|refine zi (fun _ _=>?_))
    refine zC rfl (add_spec s l[i] _) ?_
    rintro _ _ ⟨rfl, rfl⟩
    repeat (first|refine go ?_|refine zg (fun _ _=>?_)|refine zi (fun _ _=>?_))
    have e : addOk s l[i] = (goodB l[i] && goodB (s + l[i])) := by rw [addOk, hg]; rfl
    refine c_condN rfl (fun h2 => ?_) (fun h2 => ?_)
    · have ho : addOk s l[i] = false := by
        cases ho : addOk s l[i]
        · rfl
        · rw [ho] at h2; exact absurd rfl h2
      repeat (first|refine go ?_|refine zg (fun _ _=>?_)|refine zi (fun _ _=>?_))
      have hno := sumOk_none (show sumOk 0 (l.take (i + 1)) = none by rw [ht, ← e, ho]; rfl)
      refine x_ret rfl ⟨?_, rfl⟩
      rw [sumV, sumE, hno, ho]; rfl
    · have ho : addOk s l[i] = true := by
        cases ho : addOk s l[i]
        · rw [ho] at h2; exact absurd h2 (by decide)
        · rfl
      repeat (first|refine go ?_|refine zg (fun _ _=>?_)|refine zi (fun _ _=>?_))
      refine ⟨(i + 1, s + l[i]), ⟨by rw [ho]; rfl, rfl, rfl, rfl, trivial⟩, ⟨rfl, by simp; omega, ?_⟩, by simp; omega⟩
      rw [ht, ← e, ho]; rfl
  · repeat (first|refine go ?_|refine zg (fun _ _=>?_)|refine zi (fun _ _=>?_))
    have e : l.take i = l := List.take_of_length_le (by omega)
    rw [e] at hk
    refine x_ret rfl ⟨?_, rfl⟩
    rw [sumV, sumE, hk]; rfl
theorem indexI_spec {v : Value} {l : List Int} (a : Int) (w : World) (hs : SlE intE w v l) (hn : l.length ≤ 1000000000000) : K.Spec Tryz.prog F.slices_Index_L_int_int [v, .int .i64 a] w fun r w' => r = .int .i64 (idxOf (fun x => decide (a = x)) l) ∧ w' = w := by
  refine s_slices_Index_L_int_int rfl ?_
  unfold k_slices_Index_L_int_int
  refine oy ?_
  repeat (first|refine go ?_|refine zg (fun _ _=>?_)|refine zi (fun _ _=>?_))
  refine st_len rfl hs ?_
  repeat (first|refine go ?_|refine zg (fun _ _=>?_)|refine zi (fun _ _=>?_))
  refine c_loopV (fun (i : Nat) w' => w' = w ∧ i ≤ l.length ∧ ∀ j, j < i → ∀ h : j < l.length, a ≠ l[j]) (fun i => [(0, v), (1, .int .i64 a), (6, v), (7, .int .i64 (l.length : Nat)), (8, .int .i64 i)]) (fun i => l.length - i) 0 ⟨rfl, rfl, rfl, rfl, rfl, trivial⟩ ⟨rfl, by omega, by omega⟩ ?_
  rintro i ρ w1 ⟨rfl, hi, hk⟩
  repeat (first|refine go ?_|refine zg (fun _ _=>?_)|refine zi (fun _ _=>?_))
  refine zL rfl (fun h => ?_) (fun h => ?_)
  · have hil : i < l.length := by omega
    repeat (first|refine go ?_|refine zg (fun _ _=>?_)|refine zi (fun _ _=>?_))
    refine st_elemE rfl rfl hs rfl hil (fun ad r1 => ?_)
    repeat (first|refine go ?_|refine zg (fun _ _=>?_)|refine zi (fun _ _=>?_))
    refine zL rfl (fun h2 => ?_) (fun h2 => ?_)
    · repeat (first|refine go ?_|refine zg (fun _ _=>?_)|refine zi (fun _ _=>?_))
      exact x_ret rfl ⟨congrArg (Value.int .i64) (idxOf_hit hil (by simpa using h2) (fun j hj => by simpa using hk j hj (by omega))).symm, rfl⟩
    · repeat (first|refine go ?_|refine zg (fun _ _=>?_)|refine zi (fun _ _=>?_))
      refine ⟨i + 1, ⟨rfl, rfl, rfl, rfl, rfl, trivial⟩, ⟨rfl, by omega, fun j hj hl => ?_⟩, by omega⟩
      by_cases hji : j = i
      · subst hji; exact h2
      · exact hk j (by omega) hl
  · repeat (first|refine go ?_|refine zg (fun _ _=>?_)|refine zi (fun _ _=>?_))
    exact x_ret rfl ⟨congrArg (Value.int .i64) (idxOf_miss (fun j hj => by simpa using hk j (by omega) hj)).symm, rfl⟩
theorem containsI_spec {v : Value} {l : List Int} (a : Int) (w : World) (hs : SlE intE w v l) (hn : l.length ≤ 1000000000000) : K.Spec Tryz.prog F.slices_Contains_L_int_int [v, .int .i64 a] w fun r w' => r = .bool (l.any fun x => decide (a = x)) ∧ w' = w := by
  refine s_slices_Contains_L_int_int rfl ?_
  unfold k_slices_Contains_L_int_int
  refine oy ?_
  repeat (first|refine go ?_|refine zg (fun _ _=>?_)|refine zi (fun _ _=>?_))
  refine zC rfl (indexI_spec a _ hs hn) ?_
  rintro _ _ ⟨rfl, rfl⟩
  repeat (first|refine go ?_|refine zg (fun _ _=>?_)|refine zi (fun _ _=>?_))
  exact x_ret rfl ⟨congrArg Value.bool idxOf_any, rfl⟩
theorem known_spec (k : Nat) (hk : k = 1 ∨ k = 2 ∨ k = 4 ∨ k = 8) (w : World) : K.Spec Tryz.prog F.octet_known [.int .i64 (k : Nat)] w fun r w' => r = .bool true ∧ Ext w w' := by
  refine s_octet_known rfl ?_
  unfold k_octet_known
  refine oy ?_
  repeat (first|refine go ?_|refine zg (fun _ _=>?_)|refine zi (fun _ _=>?_))
  refine zI rfl (fun b w1 x1 a1 hb => ?_)
  repeat (first|refine go ?_|refine zg (fun _ _=>?_)|refine zi (fun _ _=>?_))
  refine zC rfl (containsI_spec (l := [1, 2, 4, 8]) (k : Nat) _ (SlE.new (E := intE) a1 rfl (Nat.le_refl _)) (by decide)) ?_
  rintro _ _ ⟨rfl, rfl⟩
  repeat (first|refine go ?_|refine zg (fun _ _=>?_)|refine zi (fun _ _=>?_))
  refine x_ret rfl ⟨congrArg Value.bool ?_, x1⟩
  rcases hk with rfl | rfl | rfl | rfl <;> rfl
theorem put_spec (n k : Nat) (hk : k = 1 ∨ k = 2 ∨ k = 4 ∨ k = 8) (hn : n < 18446744073709551616) (w : World) : K.Spec Tryz.prog F.octet_Put [.int .u64 (n : Nat), .int .i64 (k : Nat)] w fun r w' => r = .string (leS n k) ∧ Ext w w' := by
  refine s_octet_Put rfl ?_
  unfold k_octet_Put
  refine oy ?_
  repeat (first|refine go ?_|refine zg (fun _ _=>?_)|refine zi (fun _ _=>?_))
  refine zC rfl (known_spec k hk _) ?_
  rintro _ w1 ⟨rfl, x1⟩
  repeat (first|refine go ?_|refine zg (fun _ _=>?_)|refine zi (fun _ _=>?_))
  refine c_loopV (fun (s : Nat × Value) w' => Ext w w' ∧ s.1 ≤ k ∧ Own u8E T.uint8 w.heap.size w' s.2 (leL n s.1)) (fun s => [(0, .int .u64 ((n / 256 ^ s.1 : Nat) : Int)), (5, s.2), (9, .int .i64 (k : Nat)), (10, .int .i64 s.1)]) (fun s => k - s.1) (0, .slice none 0 0) ⟨by simp; rfl, rfl, rfl, rfl, trivial⟩ ⟨x1, by simp, Own.nil _ _ _⟩ ?_
  rintro ⟨i, vo⟩ ρ w2 ⟨x2, hi, ho⟩
  simp only at hi ho
  dsimp only
  repeat (first|refine go ?_|refine zg (fun _ _=>?_)|refine zi (fun _ _=>?_))
  refine zL rfl (fun h => ?_) (fun h => ?_)
  · repeat (first|refine go ?_|refine zg (fun _ _=>?_)|refine zi (fun _ _=>?_))
    refine zI rfl (fun b w3 x3 a3 hb => ?_)
    repeat (first|refine go ?_|refine zg (fun _ _=>?_)|refine zi (fun _ _=>?_))
    refine st_append (E := u8E) (v := vo) (l2 := [UInt8.ofNat (n / 256 ^ i)]) rfl (ho.ext x3) (Nat.le_trans x2.size x3.size) rfl rfl (sl_new a3 rfl) (by rw [u8_wrap]; rfl) rfl (by rw [leL_length]; simp; omega) (fun vo' w4 ho4 c4 => ?_)
    repeat (first|refine go ?_|refine zg (fun _ _=>?_)|refine zi (fun _ _=>?_))
    refine ⟨(i + 1, vo'), ⟨?_, rfl, rfl, rfl, trivial⟩, ⟨((x2.trans x3).chg c4).mono (fun b hb => .inr (ho.base b (by simpa using hb))), by simp; omega, ho4⟩, by simp; omega⟩
    show Value.int .u64 (Int.fdiv ((n / 256 ^ i : Nat) : Int) (2 ^ (min (8 : Int).toNat IntKind.u64.bits))) = _
    congr 1
    rw [Nat.pow_succ, ← Nat.div_div_eq_div_mul]
    rw [Int.fdiv_eq_ediv_of_nonneg _ (by decide)]
    rfl
  · repeat (first|refine go ?_|refine zg (fun _ _=>?_)|refine zi (fun _ _=>?_))
    have e : i = k := by omega
    subst e
    refine st_strU rfl ho.sl ?_
    repeat (first|refine go ?_|refine zg (fun _ _=>?_)|refine zi (fun _ _=>?_))
    exact x_ret rfl ⟨by rw [leS]; rfl, x2⟩
theorem vput_spec (n : Nat) (hn : n < 18446744073709551616) (w : World) : K.Spec Tryz.prog F.vint_Put [.int .u64 (n : Nat)] w fun r w' => r = .string (vnS n) ∧ Ext w w' := by
  refine s_vint_Put rfl ?_
  unfold k_vint_Put
  refine oy ?_
  repeat' (first|(first|refine go1 ?_|refine zg (fun _ _=>?_)|refine zi (fun _ _=>?_))|refine zL rfl (fun h => ?_) (fun h => ?_)|(refine zC rfl (put_spec _ _ (by decide) (by first|exact hn|decide) _) ?_;rintro _ _ ⟨rfl, _⟩)|refine st_catS rfl rfl (by rw [leS_size, leS_size]; decide) ?_)
  · exact x_ret rfl ⟨congrArg Value.string (by rw [vnS, if_pos (by omega)]), by repeat (first | assumption | exact Ext.refl _ | refine Ext.trans ?_ (by assumption))⟩
  · exact x_ret rfl ⟨congrArg Value.string (by rw [vnS, if_neg (by omega), if_pos (by omega)]), by repeat (first | assumption | exact Ext.refl _ | refine Ext.trans ?_ (by assumption))⟩
  · exact x_ret rfl ⟨congrArg Value.string (by rw [vnS, if_neg (by omega), if_neg (by omega), if_pos (by omega)]), by repeat (first | assumption | exact Ext.refl _ | refine Ext.trans ?_ (by assumption))⟩
  · exact x_ret rfl ⟨congrArg Value.string (by rw [vnS, if_neg (by omega), if_neg (by omega), if_neg (by omega)]), by repeat (first | assumption | exact Ext.refl _ | refine Ext.trans ?_ (by assumption))⟩
theorem counted_spec (n : Nat) (hn : n < 9223372036854775808) (w : World) : K.Spec Tryz.prog F.wire_counted [.int .i64 (n : Nat)] w fun r w' => r = .string (vnS n) ∧ Ext w w' := by
  refine s_wire_counted rfl ?_
  unfold k_wire_counted
  refine oy ?_
  repeat (first|refine go ?_|refine zg (fun _ _=>?_)|refine zi (fun _ _=>?_))
  rw [u64_wrap (by omega) (by omega)]
  refine zC rfl (vput_spec n (by omega) _) ?_
  rintro _ w1 ⟨rfl, x1⟩
  repeat (first|refine go ?_|refine zg (fun _ _=>?_)|refine zi (fun _ _=>?_))
  exact x_ret rfl ⟨rfl, x1⟩
theorem sized_spec (s : ByteArray) (hs : s.size ≤ 1000000) (w : World) : K.Spec Tryz.prog F.wire_sized [.string s] w fun r w' => r = .string (vnS s.size ++ s) ∧ Ext w w' := by
  refine s_wire_sized rfl ?_
  unfold k_wire_sized
  refine oy ?_
  repeat (first|refine go ?_|refine zg (fun _ _=>?_)|refine zi (fun _ _=>?_))
  refine zC rfl (counted_spec s.size (by omega) _) ?_
  rintro _ w1 ⟨rfl, x1⟩
  repeat (first|refine go ?_|refine zg (fun _ _=>?_)|refine zi (fun _ _=>?_))
  have := vnS_size s.size
  refine st_catS rfl rfl (by omega) ?_
  repeat (first|refine go ?_|refine zg (fun _ _=>?_)|refine zi (fun _ _=>?_))
  exact x_ret rfl ⟨rfl, x1⟩
end Go.Proofs.YtilhlcnekkkajaaGreat
end
section
namespace Go.Proofs.YtilhlcnekkkajaaGreat
open Go Go.K
attribute [local irreducible] regK codeK retK KOp.wp K.Spec leS vnS str

theorem any_at {α : Type} {p : α → Bool} {l : List α} {i : Nat} (h : i < l.length) (hp : p l[i] = true) : l.any p = true := List.any_eq_true.2 ⟨_, List.getElem_mem h, hp⟩
theorem st_idxS {P : Program} {d : Option Tmp} {r : KR} {K : Env → World → Prop} {ρ : Env} {w : World} {x i : Operand} {s : ByteArray} {k : IntKind} {n : Nat} (hx : ev ρ x = .string s) (hi : ev ρ i = .int k n) (h : n < s.size) (kk : regK P r K (put ρ d (.int .u8 (s[n].toNat : Nat))) w) : regK P (.cons ⟨d, .indexStr x i, none⟩ r) K ρ w := st_fix rfl (by simp [KOp.fix, hx, hi, h]) kk
theorem neq_t {p : Prop} [Decidable p] (h : (!decide p) = true) : ¬ p := by simpa using h
theorem neq_f {p : Prop} [Decidable p] (h : (!decide p) = false) : p := by simpa using h
end Go.Proofs.YtilhlcnekkkajaaGreat
end
section
namespace Go.Proofs.YtilhlcnekkkajaaGreat
open Go Go.K
attribute [local irreducible] regK codeK retK KOp.wp K.Spec leS vnS str zero32

theorem pt_ext {p q : Pt} (h1 : p.s = q.s) (h2 : p.i = q.i) : p = q := by cases p; cases q; simp_all
end Go.Proofs.YtilhlcnekkkajaaGreat
end
section
namespace Go.Proofs
open Go.Shelf
def Tryz.lays106_ren : Go.Shelf.Ren := ⟨fun | 106 => 218 | 213 => 242 | 265 => 251 | n => n, fun | 9 => 9 | 3 => 3 | n => n, fun | n => n⟩
theorem Tryz.lays106 : Go.Proofs.Lays.n106 Tryz.prog Tryz.lays106_ren := {
  mixed := by kernel_rfl
  f106 := Tryz.func218.trans (congrArg some (by kernel_rfl))
  f213 := Tryz.func242.trans (congrArg some (by kernel_rfl))
  f265 := Tryz.func251.trans (congrArg some (by kernel_rfl))
  t3 := Tryz.underlying3
  a3 := Tryz.isAgg3
  z3 := Tryz.sizeOf3
  v3 := Tryz.zeroValue3
  t9 := Tryz.underlying9
  a9 := Tryz.isAgg9
  z9 := Tryz.sizeOf9
  v9 := Tryz.zeroValue9 }
open Go.RowKit in
/-- strings.Compare: "Compare returns an integer comparing two strings lexicographically. The result will be 0 if a == b, -1 if a < b, and +1 if a > b.": IT RETURNS 'Lib.compareBytes a b'; the world is as it was. (LAID: no walk: one application.) -/
theorem Tryz.strings_Compare (a b : ByteArray) (w : World) :
    Calls Tryz.prog 218 #[.string a, .string b] w fun e w' => e = .returned (.int .i64 (Lib.compareBytes a.data.toList b.data.toList)) ∧ w' = w := Any.strings_Compare Tryz.lays106 a b w
def Tryz.lays105_ren : Go.Shelf.Ren := ⟨fun | 105 => 129 | 212 => 180 | 99 => 181 | 165 => 182 | 166 => 161 | 170 => 183 | 169 => 165 | 263 => 220 | 264 => 192 | 206 => 221 | 240 => 203 | 241 => 222 | 276 => 234 | 277 => 244 | n => n, fun | 9 => 9 | 3 => 3 | 4 => 4 | 20 => 20 | 0 => 0 | 46 => 277 | 109 => 278 | 5 => 5 | 72 => 258 | 76 => 123 | 51 => 45 | 146 => 308 | 53 => 259 | 148 => 286 | 70 => 256 | 37 => 24 | 75 => 42 | 127 => 294 | 164 => 315 | 80 => 263 | n => n, fun | n => n⟩
theorem Tryz.lays105 : Go.Proofs.Lays.n105 Tryz.prog Tryz.lays105_ren := {
  mixed := by kernel_rfl
  f99 := Tryz.func181.trans (congrArg some (by kernel_rfl))
  f105 := Tryz.func129.trans (congrArg some (by kernel_rfl))
  f165 := Tryz.func182.trans (congrArg some (by kernel_rfl))
  f166 := Tryz.func161.trans (congrArg some (by kernel_rfl))
  f169 := Tryz.func165.trans (congrArg some (by kernel_rfl))
  f170 := Tryz.func183.trans (congrArg some (by kernel_rfl))
  f206 := Tryz.func221.trans (congrArg some (by kernel_rfl))
  f212 := Tryz.func180.trans (congrArg some (by kernel_rfl))
  f240 := Tryz.func203.trans (congrArg some (by kernel_rfl))
  f241 := Tryz.func222.trans (congrArg some (by kernel_rfl))
  f263 := Tryz.func220.trans (congrArg some (by kernel_rfl))
  f264 := Tryz.func192.trans (congrArg some (by kernel_rfl))
  f276 := Tryz.func234.trans (congrArg some (by kernel_rfl))
  f277 := Tryz.func244.trans (congrArg some (by kernel_rfl))
  t0 := Tryz.underlying0
  a0 := Tryz.isAgg0
  z0 := Tryz.sizeOf0
  v0 := Tryz.zeroValue0
  t3 := Tryz.underlying3
  a3 := Tryz.isAgg3
  z3 := Tryz.sizeOf3
  v3 := Tryz.zeroValue3
  t4 := Tryz.underlying4
  a4 := Tryz.isAgg4
  z4 := Tryz.sizeOf4
  v4 := Tryz.zeroValue4
  t5 := Tryz.underlying5
  a5 := Tryz.isAgg5
  z5 := Tryz.sizeOf5
  v5 := Tryz.zeroValue5
  t9 := Tryz.underlying9
  a9 := Tryz.isAgg9
  z9 := Tryz.sizeOf9
  v9 := Tryz.zeroValue9
  t20 := Tryz.underlying20
  a20 := Tryz.isAgg20
  z20 := Tryz.sizeOf20
  v20 := Tryz.zeroValue20
  t37 := Tryz.underlying24
  a37 := Tryz.isAgg24
  z37 := Tryz.sizeOf24
  v37 := Tryz.zeroValue24
  t46 := Tryz.underlying277
  a46 := Tryz.isAgg277
  z46 := Tryz.sizeOf277
  v46 := Tryz.zeroValue277
  t51 := Tryz.underlying45
  a51 := Tryz.isAgg45
  z51 := Tryz.sizeOf45
  v51 := Tryz.zeroValue45
  t53 := Tryz.underlying259
  a53 := Tryz.isAgg259
  z53 := Tryz.sizeOf259
  v53 := Tryz.zeroValue259
  t70 := Tryz.underlying256
  a70 := Tryz.isAgg256
  z70 := Tryz.sizeOf256
  v70 := Tryz.zeroValue256
  t72 := Tryz.underlying258
  a72 := Tryz.isAgg258
  z72 := Tryz.sizeOf258
  v72 := Tryz.zeroValue258
  t75 := Tryz.underlying42
  a75 := Tryz.isAgg42
  z75 := Tryz.sizeOf42
  v75 := Tryz.zeroValue42
  t76 := Tryz.underlying123
  a76 := Tryz.isAgg123
  z76 := Tryz.sizeOf123
  v76 := Tryz.zeroValue123
  t109 := Tryz.underlying278
  a109 := Tryz.isAgg278
  z109 := Tryz.sizeOf278
  v109 := Tryz.zeroValue278
  t127 := Tryz.underlying294
  a127 := Tryz.isAgg294
  z127 := Tryz.sizeOf294
  v127 := Tryz.zeroValue294
  t146 := Tryz.underlying308
  a146 := Tryz.isAgg308
  z146 := Tryz.sizeOf308
  v146 := Tryz.zeroValue308
  t148 := Tryz.underlying286
  a148 := Tryz.isAgg286
  z148 := Tryz.sizeOf286
  v148 := Tryz.zeroValue286
  t164 := Tryz.underlying315
  a164 := Tryz.isAgg315
  z164 := Tryz.sizeOf315
  v164 := Tryz.zeroValue315 }
theorem Tryz.Builder_Extra_105 : Builder.Extra Tryz.prog Tryz.lays105_ren := {
  sizeBuilder := by kernel_rfl
  liesBuilder := by kernel_rfl
  t5 := Tryz.underlying5
  a5 := Tryz.isAgg5
  z5 := Tryz.sizeOf5
  v5 := Tryz.zeroValue5
  infoByte := by kernel_rfl
  cellsByte := by kernel_rfl
  sizeByte := by kernel_rfl
  neB5 := by decide }
open Go.RowKit Go.Lib in
/-- **strings.Repeat: count ≥ 0, the result within one allocation: count copies of s.** (LAID: no walk: one application.) -/
theorem Tryz.strings_Repeat (s : ByteArray) (c : Nat) (w : World) (hc : c ≤ 9223372036854775807) (hlen : s.size * c ≤ 140737488355328) :
    Calls Tryz.prog 129 #[.string s, .int .i64 c] w fun e w' => e = .returned (.string ⟨(Lib.repeatL s.data.toList c).toArray⟩) ∧ Below w.heap.size w w' := Any.strings_Repeat Tryz.lays105 Tryz.Builder_Extra_105 s c w hc hlen
open Go.RowKit in
/-- (*strings.Builder).WriteString: "WriteString appends the contents of s to b's buffer. It returns the length of s and a nil error.": UNDER Go's OWN LIMIT: the new length takes at most 2^47 bytes. THE FORM '_k': OVER 'Lib.IsBuilderF' (a builder that 'String()' may have read), AND WITH THE FRAME THAT REACHES ABOVE THE BUILDER: 'Lib.OthersKept': every block that is not b and is no row of uint8's stands as it stood: the iterator of a range among them.' HAS READ, TOO: the bytes go in BEHIND what is frozen, or, where there is no room, all goes over into a new row.) (LAID: no walk: one application.) -/
theorem Tryz.Builder_WriteString_k (B b : Nat) (bs : List Value) (s : ByteArray) (w : World) (h : Lib.IsBuilderF 258 5 B b bs w) (hlen : bs.length + s.size ≤ 140737488355328) (hBw : B ≤ w.heap.size) :
    Calls Tryz.prog 161 #[.pointer (some ⟨b, 0, none⟩), .string s] w fun e w' => e = .returned (.tuple #[.int .i64 s.size, .nilIface]) ∧ (Lib.BuilderAtF 258 5 B b (.pointer (some ⟨b, 0, none⟩)) (bs ++ Lib.strCells s) w' ∧ Below B w w' ∧ Lib.OthersKept 5 (some b) w w') := Any.Builder_WriteString_k { Tryz.lays105 with } Tryz.Builder_Extra_105 B b bs s w h hlen hBw
open Go.RowKit in
/-- (*strings.Builder).String: "String returns the accumulated string.": WHATEVER THE BUILDER HOLDS; THE FORM '_k': OVER 'Lib.IsBuilderF' (a builder that 'String()' may have read), AND WITH THE FRAME THAT REACHES ABOVE THE BUILDER: 'Lib.OthersKept': every block that is not b and is no row of uint8's stands as it stood: the iterator of a range among them. (LAID: no walk: one application.) -/
theorem Tryz.Builder_String_any_k (B b : Nat) (l : List UInt8) (w : World) (h : Lib.IsBuilderF 258 5 B b (Lib.byteCells l) w) (hBw : B ≤ w.heap.size) :
    Calls Tryz.prog 165 #[.pointer (some ⟨b, 0, none⟩)] w fun e w' => e = .returned (.string ⟨l.toArray⟩) ∧ (Lib.IsBuilderF 258 5 B b (Lib.byteCells l) w' ∧ Below B w w' ∧ Lib.OthersKept 5 (some b) w w') := Any.Builder_String_any_k { Tryz.lays105 with } Tryz.Builder_Extra_105 B b l w h hBw
def Tryz.cloneMap55_ren : Go.Shelf.Ren := ⟨fun | 5 => 55 | 7 => 114 | n => n, fun | 23 => 116 | 25 => 9 | 3 => 135 | 4 => 4 | 20 => 20 | n => n, fun | n => n⟩
theorem Tryz.cloneMap55 : Go.Proofs.SlLaysW.n5 Tryz.prog Tryz.cloneMap55_ren := {
  mixed := by kernel_rfl
  f5 := ⟨Tryz.f55.name, by decide, Tryz.func55.trans (congrArg some (by kernel_rfl))⟩
  f7 := Tryz.func114.trans (congrArg some (by kernel_rfl))
  t4 := Tryz.underlying4
  a4 := Tryz.isAgg4
  z4 := Tryz.sizeOf4
  v4 := Tryz.zeroValue4
  t20 := Tryz.underlying20
  a20 := Tryz.isAgg20
  z20 := Tryz.sizeOf20
  v20 := Tryz.zeroValue20
  t23 := Tryz.underlying116
  a23 := Tryz.isAgg116
  z23 := Tryz.sizeOf116
  v23 := Tryz.zeroValue116 }
def Tryz.cloneMap57_ren : Go.Shelf.Ren := ⟨fun | 5 => 57 | 7 => 114 | n => n, fun | 23 => 117 | 25 => 86 | 3 => 9 | 4 => 4 | 20 => 20 | n => n, fun | n => n⟩
theorem Tryz.cloneMap57 : Go.Proofs.SlLaysW.n5 Tryz.prog Tryz.cloneMap57_ren := {
  mixed := by kernel_rfl
  f5 := ⟨Tryz.f57.name, by decide, Tryz.func57.trans (congrArg some (by kernel_rfl))⟩
  f7 := Tryz.func114.trans (congrArg some (by kernel_rfl))
  t4 := Tryz.underlying4
  a4 := Tryz.isAgg4
  z4 := Tryz.sizeOf4
  v4 := Tryz.zeroValue4
  t20 := Tryz.underlying20
  a20 := Tryz.isAgg20
  z20 := Tryz.sizeOf20
  v20 := Tryz.zeroValue20
  t23 := Tryz.underlying117
  a23 := Tryz.isAgg117
  z23 := Tryz.sizeOf117
  v23 := Tryz.zeroValue117 }
def Tryz.deleteFunc_ren : Go.Shelf.Ren := ⟨fun | 10 => 109 | 6 => 149 | n => n, fun | 22 => 40 | 23 => 9 | 25 => 200 | 3 => 3 | 4 => 4 | 0 => 0 | n => n, fun | n => n⟩
theorem Tryz.deleteFunc : Go.Proofs.SlLaysH.n10 Tryz.prog Tryz.deleteFunc_ren := {
  mixed := by kernel_rfl
  f6 := ⟨Tryz.f149.name, by decide, Tryz.func149.trans (congrArg some (by kernel_rfl))⟩
  f10 := ⟨Tryz.f109.name, by decide, Tryz.func109.trans (congrArg some (by kernel_rfl))⟩
  t0 := Tryz.underlying0
  a0 := Tryz.isAgg0
  z0 := Tryz.sizeOf0
  v0 := Tryz.zeroValue0
  t3 := Tryz.underlying3
  a3 := Tryz.isAgg3
  z3 := Tryz.sizeOf3
  v3 := Tryz.zeroValue3
  t4 := Tryz.underlying4
  a4 := Tryz.isAgg4
  z4 := Tryz.sizeOf4
  v4 := Tryz.zeroValue4
  t22 := Tryz.underlying40
  a22 := Tryz.isAgg40
  z22 := Tryz.sizeOf40
  v22 := Tryz.zeroValue40
  a23 := Tryz.isAgg9
  z23 := Tryz.sizeOf9
  t25 := Tryz.underlying200
  a25 := Tryz.isAgg200
  z25 := Tryz.sizeOf200
  v25 := Tryz.zeroValue200 }
def Tryz.cloneMap173_ren : Go.Shelf.Ren := ⟨fun | 5 => 173 | 7 => 114 | n => n, fun | 23 => 186 | 25 => 86 | 3 => 90 | 4 => 4 | 20 => 20 | n => n, fun | n => n⟩
end Go.Proofs
end
section
namespace Go.Proofs.YtilhlcnekkkajaaGreat
open Go Go.K

theorem repeatL_zero : ∀ n : Nat, Lib.repeatL [0] n = List.replicate n 0
  | 0 => rfl
  | n + 1 => by
    have := repeatL_zero n
    simp only [Lib.repeatL, List.replicate_succ] at this ⊢
    first | (rw [this]; rfl) | simp [this]
theorem rep_spec (n : Nat) (hn : n ≤ 1000) (w : World) : K.Spec Tryz.prog F.strings_Repeat [.string ⟨#[0]⟩, .int .i64 (n : Nat)] w fun r w' => r = .string (str (List.replicate n 0)) ∧ Ext w w' :=
  (Tryz.strings_Repeat ⟨#[0]⟩ n w (by omega) (by show 1 * n ≤ _; omega)).mono fun e w' ⟨he, hb⟩ => ⟨_, he, by
    show Value.string ⟨(Lib.repeatL [0] n).toArray⟩ = _
    rw [repeatL_zero]; rfl, Ext.of_below hb⟩
abbrev BldT (B b : Nat) (s : ByteArray) (w : World) : Prop := Bld T.strings_Builder T.uint8 B b s w
abbrev WrT (B b : Nat) (w w' : World) : Prop := Wr T.uint8 B b w w'
theorem wr_spec {B b : Nat} {a : ByteArray} (s : ByteArray) (w : World) (h : BldT B b a w) (hl : a.size + s.size ≤ 100000000) : K.Spec Tryz.prog F.strings_Builder_WriteString [.pointer (some ⟨b, 0, none⟩), .string s] w fun _ w' => BldT B b (a ++ s) w' ∧ WrT B b w w' :=
  (Tryz.Builder_WriteString_k B b _ s w h.2 (by
    rw [Lib.byteCells_length, Array.length_toList]
    have : a.data.size = a.size := rfl
    omega) h.1).mono fun e w' ⟨he, h1, h2, h3⟩ => ⟨_, he, ⟨Nat.le_trans h.1 h2.size, .inr (by rw [← byteCells_append]; exact h1)⟩, h2, h3⟩
theorem bstr_spec {B b : Nat} {a : ByteArray} (w : World) (h : BldT B b a w) : K.Spec Tryz.prog F.strings_Builder_String [.pointer (some ⟨b, 0, none⟩)] w fun r w' => r = .string a ∧ BldT B b a w' ∧ WrT B b w w' :=
  (Tryz.Builder_String_any_k B b _ w h.2 h.1).mono fun e w' ⟨he, h1, h2, h3⟩ => ⟨_, he, rfl, ⟨Nat.le_trans h.1 h2.size, h1⟩, h2, h3⟩
attribute [local irreducible] regK codeK retK KOp.wp K.Spec leS vnS str
theorem base_spec (w : World) : K.Spec Tryz.prog F.tx_base [] w fun r w' => r = baseP.val ∧ Ext w w' := by
  refine s_tx_base rfl ?_
  unfold k_tx_base
  refine oy ?_
  repeat' (first|(first|refine go1 ?_|refine zg (fun _ _=>?_)|refine zi (fun _ _=>?_))|refine zH (fun b w1 x1 a1 hb => ?_)|(refine zC rfl (rep_spec 32 (by decide) _) ?_;rintro _ w2 ⟨rfl, x2⟩)|refine st_setN (vs := baseP.cs) (Ext.trans x1 x2) hb (a1.ext x2) rfl rfl rfl rfl rfl (fun w5 x5 c5 a5 r5 => ?_))
  exact x_ret (ret1 (rv_cell r5 rfl rfl)) ⟨rfl, x5⟩
/-- What a function value answers, of what lies in a list. -/
def Tells {α : Type} (g : FuncId) (capl : List Value) (E : R α) (val : List Value → Value) (M : List Nat) (w : World) (l : List α) (p : α → Bool) : Prop :=
  ∀ x ∈ l, ∀ w' cs, Ext w w' → E.rel M w' cs x → K.Spec Tryz.prog g (val cs :: capl) w' fun r w'' => r = .bool (p x) ∧ Ext w' w''
end Go.Proofs.YtilhlcnekkkajaaGreat
end
section
namespace Go.Proofs.YtilhlcnekkkajaaGreat
open Go Go.K
attribute [local irreducible] regK codeK retK KOp.wp K.Spec leS vnS str

theorem idxIn_spec {M : List Nat} {v : Value} {l : List TIn} {g : FuncId} {capl : List Value} {p : TIn → Bool} (w : World) (hb : hasBody Tryz.prog g = true) (hs : SlR inR M w v l) (hn : l.length ≤ 1000000000000) (hp : Tells g capl inR (fun cs => .agg cs.toArray) M w l p) :
    K.Spec Tryz.prog F.slices_IndexFunc_L_api_In_api_In [v, .func (.func g) #[] capl.toArray] w fun r w' => r = .int .i64 (idxOf p l) ∧ Ext w w' := by
  refine s_slices_IndexFunc_L_api_In_api_In rfl ?_
  unfold k_slices_IndexFunc_L_api_In_api_In
  refine oy ?_
  repeat' (first|(first|refine go1 ?_|refine zg (fun _ _=>?_)|refine zi (fun _ _=>?_))|refine zG rfl hs ?_|(refine c_loopV (fun (i : Nat) w' => Ext w w' ∧ i ≤ l.length ∧ ∀ j, j < i → ∀ h : j < l.length, p l[j] = false) (fun i => [(0, v), (1, .func (.func g) #[] capl.toArray), (6, v), (7, .int .i64 (l.length : Nat)), (8, .int .i64 i)]) (fun i => l.length - i) 0 ⟨rfl, rfl, rfl, rfl, rfl, trivial⟩ ⟨Ext.refl _, by omega, by omega⟩ ?_; rintro i ρ w1 ⟨x1, hi, hk⟩)|refine zL rfl (fun h => ?_) (fun h => ?_)|(refine st_elemR rfl rfl (hs.ext x1) rfl (by omega) (fun ad cs r1 he => ?_))|refine st_lN0 rfl r1 (by rw [inR.len he]; exact Nat.le_refl _) (List.take_of_length_le (by rw [inR.len he]; exact Nat.le_refl _)) ?_|(refine st_callV rfl hb rfl (hp _ (List.getElem_mem _) _ _ x1 he) ?_; rintro _ w2 ⟨rfl, x2⟩)|refine zM rfl (fun h2 => ?_) (fun h2 => ?_))
  · exact x_ret rfl ⟨congrArg (Value.int .i64) (idxOf_hit (by omega) h2 (fun j hj => hk j hj (by omega))).symm, by repeat (first | assumption | exact Ext.refl _ | refine Ext.trans ?_ (by assumption))⟩
  · refine ⟨i + 1, ⟨rfl, rfl, rfl, rfl, rfl, trivial⟩, ⟨x1.trans x2, by omega, fun j hj hl => ?_⟩, by omega⟩
    by_cases hji : j = i
    · subst hji; exact h2
    · exact hk j (by omega) hl
  · exact x_ret rfl ⟨congrArg (Value.int .i64) (idxOf_miss (fun j hj => hk j (by omega) hj)).symm, x1⟩
theorem idxIn_any {M : List Nat} {v : Value} {l : List TIn} {g : FuncId} {capl : List Value} {p : TIn → Bool} (w : World) (hb : hasBody Tryz.prog g = true) (hs : SlR inR M w v l) (hn : l.length ≤ 1000000000000) (hp : Tells g capl inR (fun cs => .agg cs.toArray) M w l p) :
    K.Spec Tryz.prog F.slices_ContainsFunc_L_api_In_api_In [v, .func (.func g) #[] capl.toArray] w fun r w' => r = .bool (l.any p) ∧ Ext w w' := by
  refine s_slices_ContainsFunc_L_api_In_api_In rfl ?_
  unfold k_slices_ContainsFunc_L_api_In_api_In
  refine oy ?_
  repeat' (first|(first|refine go1 ?_|refine zg (fun _ _=>?_)|refine zi (fun _ _=>?_))|(refine zC rfl (idxIn_spec _ hb hs hn hp) ?_; rintro _ w2 ⟨rfl, x2⟩))
  exact x_ret rfl ⟨congrArg Value.bool idxOf_any, x2⟩
theorem idxOut_spec {M : List Nat} {v : Value} {l : List TOut} {g : FuncId} {capl : List Value} {p : TOut → Bool} (w : World) (hb : hasBody Tryz.prog g = true) (hs : SlR outR M w v l) (hn : l.length ≤ 1000000000000) (hp : Tells g capl outR (fun cs => .agg cs.toArray) M w l p) :
    K.Spec Tryz.prog F.slices_IndexFunc_L_api_Out_api_Out [v, .func (.func g) #[] capl.toArray] w fun r w' => r = .int .i64 (idxOf p l) ∧ Ext w w' := by
  refine s_slices_IndexFunc_L_api_Out_api_Out rfl ?_
  unfold k_slices_IndexFunc_L_api_Out_api_Out
  refine oy ?_
  repeat' (first|(first|refine go1 ?_|refine zg (fun _ _=>?_)|refine zi (fun _ _=>?_))|refine zG rfl hs ?_|(refine c_loopV (fun (i : Nat) w' => Ext w w' ∧ i ≤ l.length ∧ ∀ j, j < i → ∀ h : j < l.length, p l[j] = false) (fun i => [(0, v), (1, .func (.func g) #[] capl.toArray), (6, v), (7, .int .i64 (l.length : Nat)), (8, .int .i64 i)]) (fun i => l.length - i) 0 ⟨rfl, rfl, rfl, rfl, rfl, trivial⟩ ⟨Ext.refl _, by omega, by omega⟩ ?_; rintro i ρ w1 ⟨x1, hi, hk⟩)|refine zL rfl (fun h => ?_) (fun h => ?_)|(refine st_elemR rfl rfl (hs.ext x1) rfl (by omega) (fun ad cs r1 he => ?_))|refine st_lN0 rfl r1 (by rw [outR.len he]; exact Nat.le_refl _) (List.take_of_length_le (by rw [outR.len he]; exact Nat.le_refl _)) ?_|(refine st_callV rfl hb rfl (hp _ (List.getElem_mem _) _ _ x1 he) ?_; rintro _ w2 ⟨rfl, x2⟩)|refine zM rfl (fun h2 => ?_) (fun h2 => ?_))
  · exact x_ret rfl ⟨congrArg (Value.int .i64) (idxOf_hit (by omega) h2 (fun j hj => hk j hj (by omega))).symm, by repeat (first | assumption | exact Ext.refl _ | refine Ext.trans ?_ (by assumption))⟩
  · refine ⟨i + 1, ⟨rfl, rfl, rfl, rfl, rfl, trivial⟩, ⟨x1.trans x2, by omega, fun j hj hl => ?_⟩, by omega⟩
    by_cases hji : j = i
    · subst hji; exact h2
    · exact hk j (by omega) hl
  · exact x_ret rfl ⟨congrArg (Value.int .i64) (idxOf_miss (fun j hj => hk j (by omega) hj)).symm, x1⟩
theorem idxOut_any {M : List Nat} {v : Value} {l : List TOut} {g : FuncId} {capl : List Value} {p : TOut → Bool} (w : World) (hb : hasBody Tryz.prog g = true) (hs : SlR outR M w v l) (hn : l.length ≤ 1000000000000) (hp : Tells g capl outR (fun cs => .agg cs.toArray) M w l p) :
    K.Spec Tryz.prog F.slices_ContainsFunc_L_api_Out_api_Out [v, .func (.func g) #[] capl.toArray] w fun r w' => r = .bool (l.any p) ∧ Ext w w' := by
  refine s_slices_ContainsFunc_L_api_Out_api_Out rfl ?_
  unfold k_slices_ContainsFunc_L_api_Out_api_Out
  refine oy ?_
  repeat' (first|(first|refine go1 ?_|refine zg (fun _ _=>?_)|refine zi (fun _ _=>?_))|(refine zC rfl (idxOut_spec _ hb hs hn hp) ?_; rintro _ w2 ⟨rfl, x2⟩))
  exact x_ret rfl ⟨congrArg Value.bool idxOf_any, x2⟩
theorem idxStr_spec {M : List Nat} {v : Value} {l : List ByteArray} {g : FuncId} {capl : List Value} {p : ByteArray → Bool} (w : World) (hb : hasBody Tryz.prog g = true) (hs : SlR strR M w v l) (hn : l.length ≤ 1000000000000) (hp : Tells g capl strR (fun cs => cs.headD undef) M w l p) :
    K.Spec Tryz.prog F.slices_IndexFunc_L_string_string [v, .func (.func g) #[] capl.toArray] w fun r w' => r = .int .i64 (idxOf p l) ∧ Ext w w' := by
  refine s_slices_IndexFunc_L_string_string rfl ?_
  unfold k_slices_IndexFunc_L_string_string
  refine oy ?_
  repeat' (first|(first|refine go1 ?_|refine zg (fun _ _=>?_)|refine zi (fun _ _=>?_))|refine zG rfl hs ?_|(refine c_loopV (fun (i : Nat) w' => Ext w w' ∧ i ≤ l.length ∧ ∀ j, j < i → ∀ h : j < l.length, p l[j] = false) (fun i => [(0, v), (1, .func (.func g) #[] capl.toArray), (6, v), (7, .int .i64 (l.length : Nat)), (8, .int .i64 i)]) (fun i => l.length - i) 0 ⟨rfl, rfl, rfl, rfl, rfl, trivial⟩ ⟨Ext.refl _, by omega, by omega⟩ ?_; rintro i ρ w1 ⟨x1, hi, hk⟩)|refine zL rfl (fun h => ?_) (fun h => ?_)|(refine st_elemR rfl rfl (hs.ext x1) rfl (by omega) (fun ad cs r1 he => ?_); have hq : cs = [Value.string l[i]] := he; rw [hq] at r1 he)|refine st_lN0 rfl r1 (by rw [strR.len he]; exact Nat.le_refl _) (List.take_of_length_le (by rw [strR.len he]; exact Nat.le_refl _)) ?_|(refine st_callV rfl hb rfl (hp _ (List.getElem_mem _) _ _ x1 he) ?_; rintro _ w2 ⟨rfl, x2⟩)|refine zM rfl (fun h2 => ?_) (fun h2 => ?_))
  · exact x_ret rfl ⟨congrArg (Value.int .i64) (idxOf_hit (by omega) h2 (fun j hj => hk j hj (by omega))).symm, by repeat (first | assumption | exact Ext.refl _ | refine Ext.trans ?_ (by assumption))⟩
  · refine ⟨i + 1, ⟨rfl, rfl, rfl, rfl, rfl, trivial⟩, ⟨x1.trans x2, by omega, fun j hj hl => ?_⟩, by omega⟩
    by_cases hji : j = i
    · subst hji; exact h2
    · exact hk j (by omega) hl
  · exact x_ret rfl ⟨congrArg (Value.int .i64) (idxOf_miss (fun j hj => hk j (by omega) hj)).symm, x1⟩
theorem idxStr_any {M : List Nat} {v : Value} {l : List ByteArray} {g : FuncId} {capl : List Value} {p : ByteArray → Bool} (w : World) (hb : hasBody Tryz.prog g = true) (hs : SlR strR M w v l) (hn : l.length ≤ 1000000000000) (hp : Tells g capl strR (fun cs => cs.headD undef) M w l p) :
    K.Spec Tryz.prog F.slices_ContainsFunc_L_string_string [v, .func (.func g) #[] capl.toArray] w fun r w' => r = .bool (l.any p) ∧ Ext w w' := by
  refine s_slices_ContainsFunc_L_string_string rfl ?_
  unfold k_slices_ContainsFunc_L_string_string
  refine oy ?_
  repeat' (first|(first|refine go1 ?_|refine zg (fun _ _=>?_)|refine zi (fun _ _=>?_))|(refine zC rfl (idxStr_spec _ hb hs hn hp) ?_; rintro _ w2 ⟨rfl, x2⟩))
  exact x_ret rfl ⟨congrArg Value.bool idxOf_any, x2⟩
end Go.Proofs.YtilhlcnekkkajaaGreat
end
