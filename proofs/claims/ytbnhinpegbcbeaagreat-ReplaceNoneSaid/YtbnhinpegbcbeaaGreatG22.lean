/- Plain: words of four bytes; the schedule's row. Plain: digests. Plain: digests as the reference makes them; steps over slices. -/
import Derived.Test.YtbnhinpegbcbeaaGreatG21
set_option linter.unusedVariables false
set_option linter.unusedSimpArgs false
section
namespace Go.K
open Go
theorem shl_or (x : W32) (c : Nat) (hx : x.toNat < 16777216) (hc : c < 256) : (x <<< 8 ||| BitVec.ofNat 32 c).toNat = x.toNat * 256 + c := by
  rw [BitVec.toNat_or, BitVec.toNat_shiftLeft, BitVec.toNat_ofNat]
  have e1 : x.toNat <<< 8 % 2 ^ 32 = x.toNat <<< 8 := by
    rw [Nat.shiftLeft_eq]; exact Nat.mod_eq_of_lt (by omega)
  have e2 : c % 2 ^ 32 = c := Nat.mod_eq_of_lt (by omega)
  rw [e1, e2, ← Nat.shiftLeft_add_eq_or_of_lt (by simpa using hc), Nat.shiftLeft_eq]
def partW (l : List UInt8) : Nat → W32
  | 0 => 0
  | k + 1 => partW l k <<< 8 ||| BitVec.ofNat 32 (l.getD k 0).toNat
theorem partW_4 (l : List UInt8) : partW l 4 = be32 l := by
  have b0 := (l.getD 0 0).toNat_lt
  have b1 := (l.getD 1 0).toNat_lt
  have b2 := (l.getD 2 0).toNat_lt
  have b3 := (l.getD 3 0).toNat_lt
  have h0 : (partW l 0).toNat = 0 := rfl
  have h1 : (partW l 1).toNat = (l.getD 0 0).toNat := by rw [partW, shl_or _ _ (by omega) (by omega)]; omega
  have h2 : (partW l 2).toNat = (l.getD 0 0).toNat * 256 + (l.getD 1 0).toNat := by rw [partW, shl_or _ _ (by omega) (by omega)]; omega
  have h3 : (partW l 3).toNat = ((l.getD 0 0).toNat * 256 + (l.getD 1 0).toNat) * 256 + (l.getD 2 0).toNat := by rw [partW, shl_or _ _ (by omega) (by omega)]; omega
  apply BitVec.eq_of_toNat_eq
  rw [partW, shl_or _ _ (by omega) (by omega), h3, be32, BitVec.toNat_ofNat, Nat.mod_eq_of_lt (by omega)]
  omega
theorem partW_eq {l m : List UInt8} (k : Nat) (h : ∀ j, j < k → l.getD j 0 = m.getD j 0) : partW l k = partW m k := by
  induction k with
  | zero => rfl
  | succ k ih => rw [partW, partW, ih fun j hj => h j (by omega), h k (by omega)]
/-- The row of a schedule, with n words made and the next one at x. -/
def schR (B : List W32) (n : Nat) (x : W32) : List W32 := wseq B n ++ x :: List.replicate (63 - n) 0
theorem schR_length {B : List W32} {n : Nat} {x : W32} (h : n < 64) : (schR B n x).length = 64 := by simp [schR, wseq_length]; omega
theorem schR_set {B : List W32} {n : Nat} {x y : W32} : (schR B n x).set n y = schR B n y := by
  have h : (wseq B n).length = n := wseq_length B n
  rw [schR, List.set_append_right _ _ (by omega), h, Nat.sub_self]; rfl
theorem schR_low {B : List W32} {n j : Nat} {x : W32} (h : j < n) : wAt (schR B n x) j = wAt (wseq B n) j := by
  have : (wseq B n).length = n := wseq_length B n
  unfold wAt schR
  rw [List.getD_eq_getElem?_getD, List.getD_eq_getElem?_getD, List.getElem?_append_left (by omega)]
theorem schR_at {B : List W32} {n : Nat} {x : W32} : wAt (schR B n x) n = x := by
  have h : (wseq B n).length = n := wseq_length B n
  unfold wAt schR
  rw [List.getD_eq_getElem?_getD, List.getElem?_append_right (by omega), h, Nat.sub_self]; rfl
def nextW (B : List W32) (n : Nat) : W32 := if n < 16 then wAt B n else wAt (wseq B n) (n - 16) + sml0 (wAt (wseq B n) (n - 15)) + wAt (wseq B n) (n - 7) + sml1 (wAt (wseq B n) (n - 2))
theorem schR_next {B : List W32} {n : Nat} (h : n < 63) : schR B n (nextW B n) = schR B (n + 1) 0 := by
  obtain ⟨m, hm⟩ : ∃ m, 63 - n = m + 1 := ⟨62 - n, by omega⟩
  rw [schR, schR, hm, show 63 - (n + 1) = m by omega, wseq, List.append_assoc]; rfl
theorem schR_last {B : List W32} : schR B 63 (nextW B 63) = wseq B 64 := rfl
theorem schR_zero {B : List W32} : schR B 0 0 = List.replicate 64 0 := rfl
theorem wCs_set (l : List W32) (n : Nat) (x : W32) : (wCs l).set n (u32 x) = wCs (l.set n x) := by simp [wCs, List.map_set]
theorem wz64 : List.replicate 64 (Value.int .u32 0) = wCs (List.replicate 64 0) := by
  rw [wCs, List.map_replicate]; rfl
theorem blkW_at {m : List UInt8} {i : Nat} (h : i < 16) : wAt (blkW m) i = be32 (m.drop (4 * i)) := by
  unfold wAt blkW
  rw [List.getD_eq_getElem?_getD, List.getElem?_map, List.getElem?_range h]; rfl
section
variable {P : Program} {d : Option Tmp} {r : KR} {K : Env → World → Prop} {ρ : Env} {w : World}
theorem Row.left {w : World} {ad : Addr} {a b : List Value} (h : Row w ad (a ++ b)) : Row w ad a := fun j v hj => h j v (by
  rw [List.getElem?_append_left (List.getElem?_eq_some_iff.1 hj).1]; exact hj)
theorem st_bytesOf {x : Operand} {t : TypeId} {s : ByteArray} (hx : ev ρ x = .string s) (k : ∀ v w', Ext w w' → SlE u8E w' v s.data.toList → (∀ b ∈ blkOf v, w.heap.size ≤ b) → regK P r K (put ρ d v) w') : regK P (.cons ⟨d, .bytesOf t x, none⟩ r) K ρ w :=
  st_wp ⟨s, hx, fun c hc w' hb hs ht ho hu ⟨fz, hat⟩ => by
    have hl : s.data.toList.length = s.size := by rw [Array.length_toList]; rfl
    refine k _ _ ⟨ho, ht, hu, by omega, fun b hb' _ => hb b hb'⟩ ?_ (by simp [blkOf])
    refine ⟨u8E.flat_length _, some ⟨w.heap.size, 0, none⟩, c, by rw [hl], by rw [hl]; exact hc, fun _ => ⟨_, rfl, ?_⟩⟩
    refine Row.left (b := List.replicate (c - s.size) (Value.int .u8 0)) (Row.of_at (t := t) (f := fz) ?_)
    rw [u8_flat]
    exact hat⟩
theorem st_subStr {x l h : Operand} {s : ByteArray} {kl kh : IntKind} {lo hi : Nat} (hx : ev ρ x = .string s) (hl : ev ρ l = .int kl (lo : Nat)) (hh : ev ρ h = .int kh (hi : Nat)) (h1 : lo ≤ hi) (h2 : hi ≤ s.size) (k : regK P r K (put ρ d (.string (s.extract lo hi))) w) : regK P (.cons ⟨d, .sliceStr x (some l) (some h), none⟩ r) K ρ w :=
  st_fix rfl (by
    simp only [KOp.fix, hx, hl, hh]
    rw [if_pos (by omega), Option.bind_some, Int.toNat_natCast, if_pos (by omega), Option.map_some, Int.toNat_natCast]) k
theorem u32_one (x : W32) : (u32 x).oneCell' = true := rfl
end
theorem sub_list (s : ByteArray) (a b : Nat) : (s.extract a b).data.toList = (s.data.toList.drop a).take (b - a) := by
  rw [ByteArray.data_extract, Array.toList_extract, List.extract_eq_take_drop]
theorem sub_word (s : ByteArray) (i : Nat) : partW (s.extract (4 * i) (4 * i + 4)).data.toList 4 = be32 (s.data.toList.drop (4 * i)) := by
  rw [← partW_4]
  refine partW_eq 4 fun j hj => ?_
  rw [sub_list, List.getD_eq_getElem?_getD, List.getD_eq_getElem?_getD, List.getElem?_take, if_pos (by omega)]
def schA (B : List W32) (i : Nat) : List W32 := if i < 64 then schR B i 0 else wseq B 64
theorem schA_succ {B : List W32} {i : Nat} (h : i < 64) : schR B i (nextW B i) = schA B (i + 1) := by
  unfold schA
  split
  · exact schR_next (by omega)
  · obtain rfl : i = 63 := by omega
    exact schR_last
theorem schA_lt {B : List W32} {i : Nat} (h : i < 64) : schA B i = schR B i 0 := if_pos h
theorem schA_length {B : List W32} {i : Nat} (h : i ≤ 64) : (schA B i).length = 64 := by
  unfold schA
  split
  · exact schR_length (by omega)
  · exact wseq_length B 64
theorem schA_low {B : List W32} {i j : Nat} (h : i < 64) (hj : j < i) : wAt (schA B i) j = wAt (wseq B i) j := by
  rw [schA_lt h, schR_low hj]
theorem wCs_len (l : List W32) : (wCs l).length = l.length := by simp [wCs]
theorem wCs_one (l : List W32) : (wCs l).all (fun v => v.oneCell') = true := by
  simp only [wCs, List.all_map, List.all_eq_true]
  intro x _; rfl
theorem next_lo {B : List W32} {n : Nat} (h : n < 16) : nextW B n = wAt B n := if_pos h
theorem next_hi {B : List W32} {n : Nat} (h : ¬ n < 16) : nextW B n = wAt (wseq B n) (n - 16) + sml0 (wAt (wseq B n) (n - 15)) + wAt (wseq B n) (n - 7) + sml1 (wAt (wseq B n) (n - 2)) := if_neg h
theorem getD_lt {l : List UInt8} {k : Nat} (h : k < l.length) : l.getD k 0 = l[k] := by
  rw [List.getD_eq_getElem?_getD, List.getElem?_eq_getElem h]; rfl
theorem part_step {B : List W32} {i k : Nat} {bs : List UInt8} (h : k < bs.length) : (wCs (schR B i (partW bs k))).set (i * 1) (u32 (wAt (schR B i (partW bs k)) i <<< 8 ||| BitVec.ofNat 32 bs[k].toNat)) = wCs (schR B i (partW bs (k + 1))) := by
  rw [Nat.mul_one, wCs_set, schR_set, schR_at, partW, getD_lt h]
theorem part_last {s : ByteArray} {i : Nat} (h : i < 16) : schR (blkW s.data.toList) i (partW (s.extract (4 * i) (4 * i + 4)).data.toList 4) = schA (blkW s.data.toList) (i + 1) := by
  rw [sub_word, ← blkW_at h, ← next_lo h, schA_succ (by omega)]
theorem sch_step {B : List W32} {i : Nat} (h1 : 16 ≤ i) (h2 : i < 64) : (wCs (schA B i)).set (i * 1) (u32 (wAt (schA B i) (i - 16) + sml0 (wAt (schA B i) (i - 15)) + wAt (schA B i) (i - 7) + sml1 (wAt (schA B i) (i - 2)))) = wCs (schA B (i + 1)) := by
  rw [schA_low h2 (by omega), schA_low h2 (by omega), schA_low h2 (by omega), schA_low h2 (by omega), ← next_hi (by omega), schA_lt h2, Nat.mul_one, wCs_set, schR_set, schA_succ h2]
theorem schA_64 {B : List W32} : schA B 64 = wseq B 64 := if_neg (by decide)
end Go.K
end
section
namespace Go.K
open Go
/-- The words behind n blocks. -/
def runP (m : List UInt8) : Nat → S8
  | 0 => s8Init
  | n + 1 => comp (runP m n) (m.drop (64 * n))
def shaS (s : ByteArray) : ByteArray := outW (runP (padL s.data.toList) ((padL s.data.toList).length / 64)).l
def sha2 (s : ByteArray) : ByteArray := shaS (shaS s)
theorem padL_len (s : ByteArray) : (padL s.data.toList).length = 64 * ((padL s.data.toList).length / 64) := by
  have := padL_length s.data.toList; omega
theorem padL_le (s : ByteArray) : (padL s.data.toList).length ≤ s.size + 73 := by
  have hl : s.data.toList.length = s.size := by rw [Array.length_toList]; rfl
  simp only [padL, List.length_append, List.length_reverse, leL_length, List.length_replicate, List.length_cons, List.length_nil, padN, hl]
  omega
theorem shaS_size (s : ByteArray) : (shaS s).size = 32 := by
  unfold shaS outW
  simp only [catB, S8.l, List.map_cons, List.map_nil, List.foldl_cons, List.foldl_nil, ByteArray.size_append, str_size, List.length_reverse, leL_length]
  rfl
/-- A row of which the first n words have been added to. -/
def addN (a b : List W32) (n : Nat) : List W32 := (List.range 8).map fun i => if i < n then wAt a i + wAt b i else wAt a i
theorem addN_length (a b : List W32) (n : Nat) : (addN a b n).length = 8 := by simp [addN]
theorem addN_at {a b : List W32} {n i : Nat} (h : i < 8) : wAt (addN a b n) i = if i < n then wAt a i + wAt b i else wAt a i := by
  unfold addN
  conv => lhs; unfold wAt
  rw [List.getD_eq_getElem?_getD, List.getElem?_map, List.getElem?_range h]; rfl
theorem addN_zero (s t : S8) : addN s.l t.l 0 = s.l := rfl
theorem addN_eight (s t : S8) : addN s.l t.l 8 = (add8 s t).l := rfl
theorem addN_set {a b : List W32} {n : Nat} (h : n < 8) : (addN a b n).set n (wAt a n + wAt b n) = addN a b (n + 1) := by
  apply List.ext_getElem
  · simp [addN]
  · intro i h1 h2
    simp only [List.getElem_set, addN, List.getElem_map, List.getElem_range]
    by_cases e : n = i
    · subst e; simp
    · rw [if_neg e]
      by_cases h3 : i < n
      · rw [if_pos h3, if_pos (by omega)]
      · rw [if_neg h3, if_neg (by omega)]
theorem add_step {a b : List W32} {n : Nat} (h : n < 8) : (wCs (addN a b n)).set (n * 1) (u32 (wAt (addN a b n) n + wAt b n)) = wCs (addN a b (n + 1)) := by
  rw [addN_at h, if_neg (by omega), Nat.mul_one, wCs_set, addN_set h]
section
variable {P : Program} {d : Option Tmp} {r : KR} {K : Env → World → Prop} {ρ : Env} {w : World}
theorem st_joinV {a b : KR} {σ : Type} (I : σ → World → Prop) (E : σ → List (Tmp × Value)) (h1 : regK P a (fun ρ' w' => ∃ s, Has ρ' (E s) ∧ I s w') ρ w) (h2 : ∀ s ρ w, I s w → regK P b K (upds ρ (E s)) w) : regK P (.join a b) K ρ w :=
  st_join (regK_mono (fun ρ w ⟨s, g1, g2⟩ => by have := h2 s ρ w g2; rwa [upds_eq g1] at this) a h1)
theorem st_wWide {x : Operand} {a : W32} (hx : ev ρ x = u32 a) (k : regK P r K (put ρ d (.int .u64 (a.toNat : Nat))) w) : regK P (.cons ⟨d, .conv .u64 x, none⟩ r) K ρ w :=
  st_fix rfl (by
    simp only [KOp.fix, hx, u32]
    rw [u64_wrap (by omega) (by have := a.isLt; omega)]) k
theorem st_aggW {x i : Operand} {l : List W32} {kd : IntKind} {n ln : Nat} (hx : ev ρ x = .agg (wCs l).toArray) (hi : ev ρ i = .int kd (n : Nat)) (hn : n < ln) (hl : l.length = ln) (k : regK P r K (put ρ d (u32 (wAt l n))) w) : regK P (.cons ⟨d, .indexAgg ln x i, none⟩ r) K ρ w :=
  st_fix rfl (by
    simp only [KOp.fix, hx, hi]
    rw [if_pos (by omega), Int.toNat_natCast, List.getElem?_toArray, wCs_get (by omega)]) k
end
theorem drop_str (s : ByteArray) (n : Nat) : s.extract n s.size = str (s.data.toList.drop n) := by
  have h := sub_list s n s.size
  have hl : s.data.toList.length = s.size := by rw [Array.length_toList]; rfl
  rw [str_self (s.extract n s.size), h, List.take_of_length_le (by rw [List.length_drop, hl]; omega)]
theorem str_list (l : List UInt8) : (str l).data.toList = l := by simp [str]
end Go.K
end
section
namespace Go.K
open Go
theorem leL_get (n : Nat) : ∀ (k i : Nat) (h : i < (leL n k).length), (leL n k)[i] = UInt8.ofNat (n / 256 ^ i)
  | 0, i, h => by simp [leL] at h
  | k + 1, i, h => by
    rw [leL_length] at h
    simp only [leL]
    by_cases hi : i < k
    · rw [List.getElem_append_left (by rw [leL_length]; exact hi), leL_get n k i]
    · obtain rfl : i = k := by omega
      rw [List.getElem_append_right (by rw [leL_length]; omega)]
      simp
theorem rev_take {n c : Nat} (h : c < 8) : (leL n 8).reverse.take (c + 1) = (leL n 8).reverse.take c ++ [UInt8.ofNat (n / 256 ^ (7 - c))] := by
  rw [List.take_succ_eq_append_getElem (by rw [List.length_reverse, leL_length]; exact h), List.getElem_reverse, leL_get]
  simp only [leL_length]
/-- A text's padding: what has been laid behind it. -/
def padZ (l : List UInt8) (k : Nat) : List UInt8 := l ++ [128] ++ List.replicate k 0
theorem padZ_length (l : List UInt8) (k : Nat) : (padZ l k).length = l.length + 1 + k := by simp [padZ]; omega
theorem padZ_succ (l : List UInt8) (k : Nat) : padZ l (k + 1) = padZ l k ++ [0] := by simp [padZ, List.replicate_succ']
theorem padL_eq (l : List UInt8) : padL l = padZ l (padN l.length) ++ (leL (l.length * 8) 8).reverse.take 8 := by
  rw [List.take_of_length_le (by rw [List.length_reverse, leL_length]; exact Nat.le_refl _)]; rfl
theorem padN_at {n k : Nat} (h : (n + 1 + k) % 64 = 56) (hk : k ≤ padN n) : k = padN n := by unfold padN at *; omega
theorem padN_lt {n k : Nat} (h : ¬ (n + 1 + k) % 64 = 56) (hk : k ≤ padN n) : k < padN n := by unfold padN at *; omega
theorem w32_mul (a b : W32) : binVal .mul (u32 a) (u32 b) = some (u32 (a * b)) := w32_bin (by
  simp only [intBin, wrap32, BitVec.toNat_mul]
  refine congrArg some (congrArg (Value.int .u32) ?_)
  rw [← Int.natCast_mul, Int.natCast_emod]; rfl) rfl
theorem be_gen (a b c d p q r : Nat) : BitVec.ofNat 32 a * BitVec.ofNat 32 p + BitVec.ofNat 32 b * BitVec.ofNat 32 q + BitVec.ofNat 32 c * BitVec.ofNat 32 r + BitVec.ofNat 32 d = BitVec.ofNat 32 (a * p + b * q + c * r + d) := by
  rw [← BitVec.ofNat_mul, ← BitVec.ofNat_mul, ← BitVec.ofNat_mul, ← BitVec.ofNat_add, ← BitVec.ofNat_add, ← BitVec.ofNat_add]
theorem be_sum (a b c d : UInt8) : BitVec.ofNat 32 a.toNat * BitVec.ofNat 32 16777216 + BitVec.ofNat 32 b.toNat * BitVec.ofNat 32 65536 + BitVec.ofNat 32 c.toNat * BitVec.ofNat 32 256 + BitVec.ofNat 32 d.toNat = BitVec.ofNat 32 (((a.toNat * 256 + b.toNat) * 256 * 256 + c.toNat * 256 + d.toNat)) :=
  (be_gen _ _ _ _ _ _ _).trans (congrArg (BitVec.ofNat 32) (by omega))
theorem be_at {l : List UInt8} {i : Nat} (h : i < 16) (hl : l.length = 64) : BitVec.ofNat 32 (l[4 * i]'(by omega)).toNat * BitVec.ofNat 32 16777216 + BitVec.ofNat 32 (l[4 * i + 1]'(by omega)).toNat * BitVec.ofNat 32 65536 + BitVec.ofNat 32 (l[4 * i + 2]'(by omega)).toNat * BitVec.ofNat 32 256 + BitVec.ofNat 32 (l[4 * i + 3]'(by omega)).toNat = wAt (blkW l) i := by
  rw [blkW_at h, be_sum, be32]
  have e : ∀ j (hj : 4 * i + j < l.length), (l.drop (4 * i)).getD j 0 = l[4 * i + j] := fun j hj => by
    rw [List.getD_eq_getElem?_getD, List.getElem?_drop, List.getElem?_eq_getElem hj]; rfl
  rw [e 0 (by omega), e 1 (by omega), e 2 (by omega), e 3 (by omega)]
  rfl
theorem sch_lo {B : List W32} {i : Nat} (h : i < 16) : (wCs (schA B i)).set (i * 1) (u32 (wAt B i)) = wCs (schA B (i + 1)) := by
  rw [← next_lo h, schA_lt (by omega), Nat.mul_one, wCs_set, schR_set, schA_succ (by omega)]
theorem blkW_take (l : List UInt8) : blkW (l.take 64) = blkW l := by
  unfold blkW
  refine List.map_congr_left fun i hi => ?_
  have hi' : i < 16 := by simpa using hi
  unfold be32
  have e : ∀ j, j < 4 → ((l.take 64).drop (4 * i)).getD j 0 = (l.drop (4 * i)).getD j 0 := fun j hj => by
    rw [List.getD_eq_getElem?_getD, List.getD_eq_getElem?_getD, List.getElem?_drop, List.getElem?_drop, List.getElem?_take, if_pos (by omega)]
  rw [e 0 (by omega), e 1 (by omega), e 2 (by omega), e 3 (by omega)]
theorem comp_take (s : S8) (l : List UInt8) : comp s (l.take 64) = comp s l := by unfold comp; rw [blkW_take]
/-- A row of eight words, moved up by one from its end on, c times. -/
def shN (l : List W32) (c : Nat) : List W32 := (List.range 8).map fun j => if j ≤ 7 - c then wAt l j else wAt l (j - 1)
theorem shN_length (l : List W32) (c : Nat) : (shN l c).length = 8 := by simp [shN]
theorem shN_at {l : List W32} {c j : Nat} (h : j < 8) : wAt (shN l c) j = if j ≤ 7 - c then wAt l j else wAt l (j - 1) := by
  unfold shN
  conv => lhs; unfold wAt
  rw [List.getD_eq_getElem?_getD, List.getElem?_map, List.getElem?_range h]; rfl
theorem shN_set {l : List W32} {c : Nat} (h : c < 7) : (shN l c).set (7 - c) (wAt l (6 - c)) = shN l (c + 1) := by
  apply List.ext_getElem
  · simp [shN]
  · intro i h1 h2
    simp only [List.getElem_set, shN, List.getElem_map, List.getElem_range]
    by_cases e : 7 - c = i
    · subst e
      rw [if_pos rfl, if_neg (by omega), show 7 - c - 1 = 6 - c by omega]
    · rw [if_neg e]
      by_cases h3 : i ≤ 7 - c
      · rw [if_pos h3, if_pos (by omega)]
      · rw [if_neg h3, if_neg (by omega)]
theorem shN_zero (s : S8) : shN s.l 0 = s.l := rfl
theorem sh_step {l : List W32} {c o : Nat} (h : c < 7) (ho : o = 7 - c) : (wCs (shN l c)).set (o * 1) (u32 (wAt (shN l c) (6 - c))) = wCs (shN l (c + 1)) := by
  subst ho
  rw [shN_at (by omega), if_pos (by omega), Nat.mul_one, wCs_set, shN_set h]
theorem rnd_l (s : S8) (k w : W32) : (rnd s k w).l = [tOne s k w + tTwo s, s.a, s.b, s.c, s.d + tOne s k w, s.e, s.f, s.g] := rfl
theorem sh_end (s : S8) (t u : W32) : (((shN s.l 7).set 4 (wAt (shN s.l 7) 4 + t)).set 0 (t + u)) = [t + u, s.a, s.b, s.c, s.d + t, s.e, s.f, s.g] := rfl
theorem add8_comm (s t : S8) : add8 s t = add8 t s := by simp only [add8, BitVec.add_comm]
section
variable {P : Program} {d : Option Tmp} {r : KR} {K : Env → World → Prop} {ρ : Env} {w : World}
theorem st_wMul {x y : Operand} {a b : W32} (hx : ev ρ x = u32 a) (hy : ev ρ y = u32 b) (k : regK P r K (put ρ d (u32 (a * b))) w) : regK P (.cons ⟨d, .bin .mul x y, none⟩ r) K ρ w := st_bin hx hy (w32_mul a b) k
theorem st_fixV {o : KOp} (v : Value) (hs : o.isFix = true) (h : o.fix ρ = some v) (k : regK P r K (put ρ d v) w) : regK P (.cons ⟨d, o, none⟩ r) K ρ w := st_fix hs h k
theorem st_wU8 {x : Operand} {a : W32} (hx : ev ρ x = u32 a) (k : regK P r K (put ρ d (.int .u8 ((UInt8.ofNat a.toNat).toNat : Nat))) w) : regK P (.cons ⟨d, .conv .u8 x, none⟩ r) K ρ w :=
  st_fix rfl (by simp only [KOp.fix, hx, u32]; rw [u8_wrap]) k
/-- s[lo:hi] -/
theorem st_sliceE {α : Type} {E : Enc α} {size : Nat} {x a h : Operand} {v : Value} {l : List α} {ka kd : IntKind} {lo hi : Nat} (hx : ev ρ x = v) (ha : ev ρ a = .int ka (lo : Nat)) (hh : ev ρ h = .int kd (hi : Nat)) (hs : SlE E w v l) (h1 : lo ≤ hi) (hn : hi ≤ l.length) (hk : size = E.k)
    (k : ∀ v', SlE E w v' ((l.drop lo).take (hi - lo)) → (∀ b ∈ blkOf v', b ∈ blkOf v) → regK P r K (put ρ d v') w) : regK P (.cons ⟨d, .sliceSl size x (some a) (some h), none⟩ r) K ρ w := by
  subst hk
  obtain ⟨hl, base, cap, rfl, hc, hr⟩ := hs
  have h2 := SlE.cut (E := E) (lo := lo) (hi := hi) ⟨hl, base, cap, rfl, hc, hr⟩ h1 hn (cap - lo) (by omega)
  refine st_fix rfl (v := .slice (if cap = lo then base else base.map fun ad : Addr => ad.add (lo * E.k)) (hi - lo) (cap - lo)) ?_ (k _ h2 ?_)
  · simp only [KOp.fix, hx, hh, ha, Option.bind_some, Option.map_some]
    rw [if_pos (by omega)]
    simp only [Option.bind_some, Int.toNat_natCast]
    rw [if_pos (by omega)]
    simp
  · intro b hb
    cases base with
    | none => simp [blkOf] at hb
    | some a => split at hb <;> simpa [blkOf, add_block] using hb
end
/-- The highest first. -/
theorem be4 (x : W32) : [UInt8.ofNat (x >>> 24).toNat, UInt8.ofNat (x >>> 16).toNat, UInt8.ofNat (x >>> 8).toNat, UInt8.ofNat x.toNat] = (leL x.toNat 4).reverse := by
  have e : ∀ n : Nat, (x >>> n).toNat = x.toNat / 2 ^ n := fun n => by rw [BitVec.toNat_ushiftRight, Nat.shiftRight_eq_div_pow]
  rw [e, e, e]
  simp [leL]
end Go.K
end
