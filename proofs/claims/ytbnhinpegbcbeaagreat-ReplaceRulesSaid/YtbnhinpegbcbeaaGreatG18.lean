/- Contracts: checks of a transaction, by the reference. Contracts: the check of a transaction by the reference. DERIVED: THE SHELF's CONTRACTS AT THIS DUMP, IN PLAIN WORDS (tools/lay-plain.mjs out of 'YtbnhinpegbcbeaaGreatShelf.lean', which tools/lay-shelf.mjs wrote): THE SAME DECLARATIONS UNDER THE SAME NAMES: 'import', 'namespace', 'open', 'def', 'theorem' AND NOTHING ELSE: no command of the shelf -/
import Derived.Shelf.Strings.Builder1
import Derived.Shelf.Strings.Builder2
import Derived.Shelf.Strings.BuilderF
import Derived.Shelf.Strings.BuilderK
import Derived.Shelf.Strings.Prefix
import Derived.Shelf.Bits.Mul64
import Derived.Shelf.Strings.Repeat
import Derived.Ground.SlgnProg
import Derived.Ground.SlgfProg
import Derived.Test.YtbnhinpegbcbeaaGreatProg
import Derived.Ground.SlmcProg
import Derived.Shelf.SlMaps.Clone
import Derived.Shelf.SlicesE.DeleteFunc
import Derived.Test.YtbnhinpegbcbeaaGreatG17
set_option linter.unusedVariables false
set_option linter.unusedSimpArgs false
section
namespace Go.Proofs.YtbnhinpegbcbeaaGreat
open Go Go.K
attribute [local irreducible] regK codeK retK KOp.wp K.Spec leS vnS str

theorem rtotal_spec {M : List Nat} {cs : List Value} {t : Tx} (w : World) (ht : txR.rel M w cs t) (hs : t.Sm) : K.Spec Tryz.prog F.kedgeref05_Total [.agg cs.toArray] w fun r w' => r = .tuple #[.int .i64 (sumV (values t)), .int .i64 (sumE (values t))] ∧ Ext w w' := by
  obtain ⟨iv, ov, rfl, hi, ho, hv, hl⟩ := ht
  have h1 := hs.outs
  refine s_kedgeref05_Total rfl ?_
  unfold k_kedgeref05_Total
  refine ox ?_
  repeat' (first|(first|refine go1 ?_|refine zg (fun _ _=>?_)|refine zi (fun _ _=>?_))|(first|refine zD rfl rfl (fun bp wp xp ap rp hp0=>?_)|refine zE (fun _=>rfl) rfl rfl rfl (fun bq wq xq aq rq hq0=>?_))|refine zG rfl (by exact fx) ?_|refine zL rfl (fun h => ?_) (fun h => ?_)|(refine c_loopV (fun (s : Nat × Value) w' => Ext wp w' ∧ s.1 ≤ t.outs.length ∧ Own intE T.int wp.heap.size w' s.2 ((values t).take s.1)) (fun s => [(1, .pointer (some ⟨bp, 0, none⟩)), (4, s.2), (5, .int .i64 s.1)]) (fun s => t.outs.length - s.1) (0, .slice none 0 0) ⟨rfl, rfl, rfl, trivial⟩ ⟨by exact fx, by simp, Own.nil _ _ _⟩ ?_; rintro ⟨i, vo⟩ ρ w1 ⟨x1, hi1, hO⟩; simp only at hi1 hO; dsimp only)|(refine st_elemR rfl rfl (n := i) (l := t.outs) (by exact fx) rfl (by omega) (fun ad cs r2 he => ?_); obtain ⟨rfl, _⟩ := he; have hil : i < t.outs.length := by omega)|refine zI rfl (fun b w3 x3 a3 hb => ?_)|(refine st_append (E := intE) (v := vo) (l2 := [t.outs[i].v]) rfl (hO.ext (by exact fx)) (Ext.size (w := wp) (by exact fx)) rfl rfl (sl_new a3 rfl) rfl rfl (by simp; omega) (fun vo' w4 ho4 c4 => ?_))|(refine zC rfl (rsum_spec (l := (values t).take i) _ hO.sl (by simp; omega)) ?_; rintro _ _ ⟨rfl, rfl⟩))
  · refine ⟨(i + 1, vo'), ⟨rfl, rfl, rfl, trivial⟩, ⟨(Chg.ext (l := []) (Ext.chg (w := wp) (by exact fx) c4 |>.mono (fun b hb => .inr (hO.base b (by simpa using hb)))) (Ext.refl _)), by simp; omega, ?_⟩, by simp; omega⟩
    have e : (values t).take (i + 1) = (values t).take i ++ [t.outs[i].v] := by
      rw [List.take_succ_eq_append_getElem (by simpa [values] using hil)]; simp [values]
    show Own _ _ _ _ _ ((values t).take (i + 1))
    rw [e]; exact ho4
  · have e : (values t).take i = values t := List.take_of_length_le (by simp [values]; omega)
    refine x_ret rfl ⟨?_, xp.trans x1⟩
    show Value.tuple #[.int .i64 (sumV ((values t).take i)), .int .i64 (sumE ((values t).take i))] = _
    rw [e]
theorem any_at {α : Type} {p : α → Bool} {l : List α} {i : Nat} (h : i < l.length) (hp : p l[i] = true) : l.any p = true := List.any_eq_true.2 ⟨_, List.getElem_mem h, hp⟩
theorem any_none {α : Type} {p : α → Bool} {l : List α} (hp : ∀ j (h : j < l.length), p l[j] = false) : l.any p = false := List.any_eq_false.2 fun x hx => by
  obtain ⟨j, h, rfl⟩ := List.getElem_of_mem hx
  rw [hp j h]; simp
theorem rlong_spec {M : List Nat} {cs : List Value} {t : Tx} (w : World) (ht : txR.rel M w cs t) (hs : t.Sm) : K.Spec Tryz.prog F.kedgeref05_long [.agg cs.toArray] w fun r w' => r = .bool (longB t) ∧ Ext w w' := by
  obtain ⟨iv, ov, rfl, hi, ho, hv, hl⟩ := ht
  have h1 := hs.outs
  have h2 := hs.ins
  have h3 := hs.wit
  refine s_kedgeref05_long rfl ?_
  unfold k_kedgeref05_long
  refine ox ?_
  repeat' (first|(first|refine go1 ?_|refine zg (fun _ _=>?_)|refine zi (fun _ _=>?_))|(first|refine zD rfl rfl (fun bp wp xp ap rp hp0=>?_)|refine zE (fun _=>rfl) rfl rfl rfl (fun bq wq xq aq rq hq0=>?_))|refine zG rfl (by exact fx) ?_|refine zL rfl (fun h => ?_) (fun h => ?_)|(refine c_loopV (fun (i : Nat) w' => wp = w' ∧ i ≤ t.outs.length ∧ ∀ j, j < i → ∀ h : j < t.outs.length, longOut t.outs[j] = false) (fun i => [(1, .pointer (some ⟨bp, 0, none⟩)), (3, .int .i64 i)]) (fun i => t.outs.length - i) 0 ⟨rfl, rfl, trivial⟩ ⟨rfl, by omega, by omega⟩ ?_; rintro i ρ _ ⟨rfl, hi1, hk⟩)|(have hal : a < t.ins.length := (by omega); refine c_loopV (fun (k : Nat) w' => wp = w' ∧ k ≤ t.ins[a].wit.length ∧ ∀ j, j < k → ∀ h : j < t.ins[a].wit.length, longItem t.ins[a].wit[j] = false) (fun k => [(1, .pointer (some ⟨bp, 0, none⟩)), (4, .int .i64 a), (5, .int .i64 k)]) (fun k => t.ins[a].wit.length - k) 0 ⟨rfl, rfl, rfl, trivial⟩ ⟨rfl, by omega, by omega⟩ ?_; rintro k ρ3 _ ⟨rfl, hk1, hkk⟩)|(refine c_loopV (fun (a : Nat) w' => wp = w' ∧ a ≤ t.ins.length ∧ ∀ j, j < a → ∀ h : j < t.ins.length, longIn t.ins[j] = false) (fun a => [(1, .pointer (some ⟨bp, 0, none⟩)), (4, .int .i64 a)]) (fun a => t.ins.length - a) 0 ⟨rfl, rfl, trivial⟩ ⟨rfl, by omega, by omega⟩ ?_; rintro a ρ2 _ ⟨rfl, ha1, hka⟩)|(refine st_elemR rfl rfl (n := k) (l := t.ins[a].wit) (by exact fx) rfl (by omega) (fun ad cs r4 he => ?_); have hq : cs = [Value.string t.ins[a].wit[k]] := he; rw [hq] at r4)|(refine st_elemR rfl rfl (n := a) (l := t.ins) (by exact fx) rfl (by omega) (fun ad cs r2 he => ?_); obtain ⟨wv, rfl, hw, _⟩ := he; have hm := h3 _ (List.getElem_mem hal))|(refine st_elemR rfl rfl (n := i) (l := t.outs) (by exact fx) rfl (by omega) (fun ad cs r2 he => ?_); obtain ⟨rfl, _⟩ := he; have hil : i < t.outs.length := by omega))
  · refine x_ret rfl ⟨congrArg Value.bool ?_, by exact fx⟩
    rw [longB, any_at hil (by simpa [longOut] using h)]; rfl
  · exact ⟨i + 1, ⟨rfl, rfl, trivial⟩, ⟨rfl, by omega, fun j hj hl => by
      rcases Nat.lt_succ_iff_lt_or_eq.1 hj with hj | rfl
      · exact hk j hj hl
      · simpa [longOut] using h⟩, by omega⟩
  · refine x_ret rfl ⟨congrArg Value.bool ?_, by exact fx⟩
    have hkl : k < t.ins[a].wit.length := by omega
    have e1 : longIn t.ins[a] = true := any_at hkl (by simpa [longItem] using h)
    rw [longB, any_at (l := t.ins) hal e1, Bool.or_true]
  · exact ⟨k + 1, ⟨rfl, rfl, rfl, trivial⟩, ⟨rfl, by omega, fun j hj hl => by
      rcases Nat.lt_succ_iff_lt_or_eq.1 hj with hj | rfl
      · exact hkk j hj hl
      · simpa [longItem] using h⟩, by omega⟩
  · exact ⟨a + 1, ⟨rfl, rfl, trivial⟩, ⟨rfl, by omega, fun j hj hl => by
      rcases Nat.lt_succ_iff_lt_or_eq.1 hj with hj | rfl
      · exact hka j hj hl
      · exact any_none fun k' hk' => hkk k' (by omega) hk'⟩, by omega⟩
  · refine x_ret rfl ⟨congrArg Value.bool ?_, by exact fx⟩
    rw [longB, any_none fun j hj => hk j (by omega) hj, any_none fun j hj => hka j (by omega) hj]; rfl
theorem st_idxS {P : Program} {d : Option Tmp} {r : KR} {K : Env → World → Prop} {ρ : Env} {w : World} {x i : Operand} {s : ByteArray} {k : IntKind} {n : Nat} (hx : ev ρ x = .string s) (hi : ev ρ i = .int k n) (h : n < s.size) (kk : regK P r K (put ρ d (.int .u8 (s[n].toNat : Nat))) w) : regK P (.cons ⟨d, .indexStr x i, none⟩ r) K ρ w := st_fix rfl (by simp [KOp.fix, hx, hi, h]) kk
theorem zero_data : zero32.data = Array.replicate 32 0 := by
  unfold zero32 str; rfl
theorem zero_ext {s : ByteArray} (hs : s.size = 32) (h : ∀ j (hj : j < s.size), s[j].toNat = 0) : s = zero32 := by
  apply ByteArray.ext
  rw [zero_data]
  apply Array.ext
  · rw [Array.size_replicate]; exact hs
  · intro i h1 h2
    rw [Array.getElem_replicate]
    exact UInt8.toNat_inj.1 (h i h1)
theorem zero_size : zero32.size = 32 := by
  show zero32.data.size = 32
  rw [zero_data, Array.size_replicate]
theorem zero_get {s : ByteArray} (e : s = zero32) {j : Nat} (hj : j < s.size) : s[j].toNat = 0 := by
  subst e
  show (zero32.data[j]'hj).toNat = 0
  have : ∀ (a : Array UInt8) (h : j < a.size), a = Array.replicate 32 0 → (a[j]'h).toNat = 0 := by
    intro a h e
    subst e
    rw [Array.getElem_replicate]; rfl
  exact this _ _ zero_data
theorem neq_t {p : Prop} [Decidable p] (h : (!decide p) = true) : ¬ p := by simpa using h
theorem neq_f {p : Prop} [Decidable p] (h : (!decide p) = false) : p := by simpa using h
theorem rbase_spec (p : Pt) (w : World) : K.Spec Tryz.prog F.kedgeref05_Base [.agg p.cs.toArray] w fun r w' => r = .bool (isBase p) ∧ Ext w w' := by
  refine s_kedgeref05_Base rfl ?_
  unfold k_kedgeref05_Base
  refine ox ?_
  repeat' (first|(first|refine go1 ?_|refine zg (fun _ _=>?_)|refine zi (fun _ _=>?_))|(first|refine zD rfl rfl (fun bp wp xp ap rp hp0=>?_)|refine zE (fun _=>rfl) rfl rfl rfl (fun bq wq xq aq rq hq0=>?_))|refine zG rfl (by exact fx) ?_|refine zL rfl (fun h => ?_) (fun h => ?_)|refine zK rfl (fun h1 => ?_) (fun h1 => ?_)|refine zM rfl (fun h2 => ?_) (fun h2 => ?_)|(have hs : p.s.size = 32 := (by have := neq_f h1; omega); refine st_idxS (n := i) rfl rfl (by omega) ?_)|(refine c_loopV (fun (i : Nat) w' => wp = w' ∧ i ≤ 32 ∧ ∀ j, j < i → ∀ h : j < p.s.size, p.s[j].toNat = 0) (fun i => [(1, .pointer (some ⟨bp, 0, none⟩)), (3, .int .i64 i)]) (fun i => 32 - i) 0 ⟨rfl, rfl, trivial⟩ ⟨rfl, by omega, by omega⟩ ?_; rintro i ρ _ ⟨rfl, hi1, hk⟩))
  · refine x_ret rfl ⟨congrArg Value.bool ?_, by exact fx⟩
    have h : p.s ≠ zero32 := fun e => neq_t h1 (by rw [e, zero_size]; rfl)
    rw [isBase, decide_eq_false (p := p.s = baseP.s) h]; rfl
  · refine x_ret rfl ⟨congrArg Value.bool ?_, by exact fx⟩
    have h := neq_t h2
    rw [isBase, decide_eq_false (p := p.i = baseP.i) h, Bool.and_false]
  · refine x_ret rfl ⟨congrArg Value.bool ?_, by exact fx⟩
    have h : p.s ≠ zero32 := fun e => neq_t h2 (by rw [zero_get e]; rfl)
    rw [isBase, decide_eq_false (p := p.s = baseP.s) h]; rfl
  · exact ⟨i + 1, ⟨rfl, rfl, trivial⟩, ⟨rfl, by omega, fun j hj hl => by
      rcases Nat.lt_succ_iff_lt_or_eq.1 hj with hj | rfl
      · exact hk j hj hl
      · have := neq_f h2; omega⟩, by omega⟩
  · refine x_ret rfl ⟨congrArg Value.bool ?_, by exact fx⟩
    have hs : p.s.size = 32 := by have := neq_f h1; omega
    have h : p.s = baseP.s := zero_ext hs fun j hj => hk j (by omega) hj
    rw [isBase, decide_eq_true h, decide_eq_true (p := p.i = baseP.i) (neq_f h2)]; rfl
end Go.Proofs.YtbnhinpegbcbeaaGreat
end
section
namespace Go.Proofs.YtbnhinpegbcbeaaGreat
open Go Go.K
attribute [local irreducible] regK codeK retK KOp.wp K.Spec leS vnS str zero32

theorem counts_F {t : Tx} (h : ¬ (1 ≤ (t.ins.length : Int) ∧ (t.ins.length : Int) ≤ 256 ∧ 1 ≤ (t.outs.length : Int) ∧ (t.outs.length : Int) ≤ 256)) : checkT t = 6 := by
  have : countsB t = false := by
    unfold countsB
    by_cases h1 : 1 ≤ (t.ins.length : Int) ∧ (t.ins.length : Int) ≤ 256
    · have h2 : ¬ (1 ≤ (t.outs.length : Int) ∧ (t.outs.length : Int) ≤ 256) := by omega
      rw [decide_eq_false h2]; simp
    · rw [decide_eq_false h1]; simp
  rw [checkT, this]; rfl
theorem counts_W {t : Tx} {j : Nat} (h : j < t.ins.length) (hw : (t.ins[j].wit.length : Int) > 4) : checkT t = 6 := by
  have : countsB t = false := by
    unfold countsB
    rw [any_at h (by simpa using hw)]; simp
  rw [checkT, this]; rfl
theorem counts_T {t : Tx} (h : 1 ≤ (t.ins.length : Int) ∧ (t.ins.length : Int) ≤ 256 ∧ 1 ≤ (t.outs.length : Int) ∧ (t.outs.length : Int) ≤ 256) (hw : ∀ j (h : j < t.ins.length), ¬ (t.ins[j].wit.length : Int) > 4) : countsB t = true := by
  unfold countsB
  rw [any_none (p := fun x : TIn => decide ((x.wit.length : Int) > 4)) fun j h => decide_eq_false (hw j h), decide_eq_true (p := 1 ≤ (t.ins.length : Int) ∧ (t.ins.length : Int) ≤ 256) (by omega), decide_eq_true (p := 1 ≤ (t.outs.length : Int) ∧ (t.outs.length : Int) ≤ 256) (by omega)]; rfl
theorem formed_F {t : Tx} {j : Nat} (h : j < t.ins.length) (hb : badIn t t.ins[j] = true) : formedT t = false := by
  rw [formedT, any_at h hb]; rfl
theorem formed_T {t : Tx} (h : ∀ j (h : j < t.ins.length), badIn t t.ins[j] = false) : formedT t = true := by
  rw [formedT, any_none h]; rfl
theorem twice_F {t : Tx} {a b : Nat} (ha : a < t.ins.length) (hb : b < a) (h : t.ins[a].p = t.ins[b].p) : twiceB t = true := by
  have hpl : (points t).length = t.ins.length := by simp [points]
  refine dupB_full (i := a + 1) ?_
  rw [dupB_take (by omega)]
  have : ((points t).take a).contains (points t)[a] = true := by
    rw [List.contains_iff_mem]
    refine List.mem_take_iff_getElem.2 ⟨b, by omega, ?_⟩
    simp only [points, List.getElem_map]
    exact h.symm
  rw [this]; rfl
theorem twice_S {t : Tx} {a : Nat} (ha : a < (points t).length) (hd : dupB ((points t).take a).reverse = false) (h : ∀ j (hj : j < a), (points t)[j] ≠ (points t)[a]) : dupB ((points t).take (a + 1)).reverse = false := by
  rw [dupB_take ha, hd, Bool.or_false]
  rw [← Bool.not_eq_true, List.contains_iff_mem, List.mem_take_iff_getElem]
  rintro ⟨j, hj, e⟩
  exact h j (by omega) e
theorem twice_T {t : Tx} {a : Nat} (h : t.ins.length ≤ a) (hd : dupB ((points t).take a).reverse = false) : twiceB t = false := by
  rw [List.take_of_length_le (by simp [points]; omega)] at hd; exact hd
theorem pt_ext {p q : Pt} (h1 : p.s = q.s) (h2 : p.i = q.i) : p = q := by cases p; cases q; simp_all
set_option maxHeartbeats 2000000 in
theorem rcheck_spec {M : List Nat} {cs : List Value} {t : Tx} (w : World) (ht : txR.rel M w cs t) (hs : t.Sm) : K.Spec Tryz.prog F.kedgeref05_Check [.agg cs.toArray] w fun r w' => r = .int .i64 (checkT t) ∧ Ext w w' := by
  have ht0 := ht
  obtain ⟨iv, ov, rfl, hi, ho, hv, hl⟩ := ht
  have h1 := hs.outs
  have h2 := hs.ins
  have h3 := hs.wit
  have hpl : (points t).length = t.ins.length := by simp [points]
  have hpg : ∀ i (h : i < t.ins.length), (points t)[i]'(by rw [hpl]; exact h) = t.ins[i].p := fun i h => by simp [points]
  refine s_kedgeref05_Check rfl ?_
  unfold k_kedgeref05_Check
  refine ox ?_
  repeat' (first|(first|refine go1 ?_|refine zg (fun _ _=>?_)|refine zi (fun _ _=>?_))|(first|refine zD rfl rfl (fun bp wp xp ap rp hp0=>?_)|refine zE (fun _=>rfl) rfl rfl rfl (fun bq wq xq aq rq hq0=>?_))|refine zG rfl (by exact fx) ?_|refine zL rfl (fun h => ?_) (fun h => ?_)|refine zK rfl (fun h => ?_) (fun h => ?_)|refine zM rfl (fun h => ?_) (fun h => ?_)|(refine zC rfl (rlong_spec (M := M) _ (cs := txCs t iv ov) (by exact fx) hs) ?_; rintro _ w3 ⟨rfl, x3⟩)|(refine zC rfl (rtotal_spec (M := M) _ (cs := txCs t iv ov) (by exact fx) hs) ?_; rintro _ w4 ⟨rfl, x4⟩)|(refine c_loopV (fun (i : Nat) w' => wp = w' ∧ i ≤ t.ins.length ∧ ∀ j, j < i → ∀ h : j < t.ins.length, ¬ (t.ins[j].wit.length : Int) > 4) (fun i => [(1, .pointer (some ⟨bp, 0, none⟩)), (3, .int .i64 i)]) (fun i => t.ins.length - i) 0 ⟨rfl, rfl, trivial⟩ ⟨rfl, by omega, by omega⟩ ?_; rintro i ρ _ ⟨rfl, hi1, hk⟩)|(refine c_loopV (fun (u : Nat) w' => Ext wp w' ∧ u ≤ t.ins.length ∧ ∀ j, j < u → ∀ h : j < t.ins.length, badIn t t.ins[j] = false) (fun u => [(1, .pointer (some ⟨bp, 0, none⟩)), (5, .int .i64 u)]) (fun u => t.ins.length - u) 0 ⟨rfl, rfl, trivial⟩ ⟨by exact fx, by omega, by omega⟩ ?_; rintro u ρ2 w5 ⟨x5, hu1, hku⟩)|(refine c_loopV (fun (b : Nat) w' => Ext w6 w' ∧ b ≤ a ∧ ∀ j (hj : j < b) (hl : j < (points t).length) (ha : a < (points t).length), (points t)[j] ≠ (points t)[a]) (fun b => [(1, .pointer (some ⟨bp, 0, none⟩)), (7, .int .i64 a), (8, .int .i64 b)]) (fun b => a - b) 0 ⟨rfl, rfl, rfl, trivial⟩ ⟨Ext.refl _, by omega, by omega⟩ ?_; rintro b ρ4 w8 ⟨x8, hb1, hkb⟩)|(refine c_loopV (fun (a : Nat) w' => Ext wp w' ∧ a ≤ t.ins.length ∧ dupB ((points t).take a).reverse = false) (fun a => [(1, .pointer (some ⟨bp, 0, none⟩)), (7, .int .i64 a)]) (fun a => t.ins.length - a) 0 ⟨rfl, rfl, trivial⟩ ⟨by exact fx, by omega, by simp [dupB]⟩ ?_; rintro a ρ3 w6 ⟨x6, ha1, hd⟩)|(refine zC rfl (rbase_spec _ _) ?_; rintro _ w7 ⟨rfl, x7⟩)|(refine st_elemR rfl rfl (n := b) (l := t.ins) (by exact fx) rfl (by omega) (fun ad cs r2 he => ?_); obtain ⟨wv, rfl, hw, _⟩ := he; obtain ⟨_, _, rfl⟩ := hw.form; have hbl : b < t.ins.length := (by omega))|(refine st_elemR rfl rfl (n := a) (l := t.ins) (by exact fx) rfl (by omega) (fun ad cs r2 he => ?_); obtain ⟨wv, rfl, hw, _⟩ := he; obtain ⟨_, _, rfl⟩ := hw.form; have hal : a < t.ins.length := (by omega))|(refine st_elemR rfl rfl (n := u) (l := t.ins) (by exact fx) rfl (by omega) (fun ad cs r2 he => ?_); obtain ⟨wv, rfl, hw, _⟩ := he; obtain ⟨_, _, rfl⟩ := hw.form; have hul : u < t.ins.length := (by omega))|(refine st_elemR rfl rfl (n := i) (l := t.ins) (by exact fx) rfl (by omega) (fun ad cs r2 he => ?_); obtain ⟨wv, rfl, hw, _⟩ := he; obtain ⟨_, _, rfl⟩ := hw.form; have hil : i < t.ins.length := (by omega)))
  all_goals try simp only [decide_eq_true_eq, decide_eq_false_iff_not] at *
  all_goals first
    | (refine x_ret rfl ⟨congrArg (Value.int .i64) ?_, by exact fx⟩
       first
       | (refine (counts_F ?_).symm; omega)
       | exact (counts_W (j := i) (by omega) (by assumption)).symm
       | (have c1 := counts_T (t := t) (by omega) (fun j hj => hk j (by omega) hj)
          rw [checkT, c1]
          first
          | (have hlong : longB t = true := by assumption
             rw [hlong]; rfl)
          | (have hlong : longB t = false := by assumption
             rw [hlong]
             first
             | (rw [formed_F (j := u) (by omega) (by simp_all [badIn, isBase])]; rfl)
             | (rw [formed_T fun j hj => hku j (by omega) hj]
                first
                | (rw [twice_F (a := a) (b := b) (by omega) (by omega) (pt_ext (by simp_all) (by simp_all))]; rfl)
                | (rw [twice_T (a := a) (by omega) hd]; rfl)))))
    | exact ⟨i + 1, ⟨rfl, rfl, trivial⟩, ⟨by trivial, by omega, fun j hj hl => by
        rcases Nat.lt_succ_iff_lt_or_eq.1 hj with hj | rfl
        · exact hk j hj hl
        · assumption⟩, by omega⟩
    | (refine ⟨u + 1, ⟨rfl, rfl, trivial⟩, ⟨by exact fx, by omega, fun j hj hl => ?_⟩, by omega⟩
       by_cases hji : j = u
       · subst hji; simp_all [badIn, isBase]; done
       · exact hku j (by omega) hl)
    | (refine ⟨b + 1, ⟨rfl, rfl, rfl, trivial⟩, ⟨by exact fx, by omega, fun j hj hl ha => ?_⟩, by omega⟩
       by_cases hji : j = b
       · subst hji; rw [hpg _ hbl, hpg _ hal]; intro e; simp_all; done
       · exact hkb j (by omega) hl ha)
    | exact ⟨a + 1, ⟨rfl, rfl, trivial⟩, ⟨by exact fx, by omega, twice_S (by omega) hd fun j hj => hkb j (by omega) (by omega) (by omega)⟩, by omega⟩
    | trace_state
end Go.Proofs.YtbnhinpegbcbeaaGreat
end
section
namespace Go.Proofs
open Go.Shelf
def Tryz.lays105_ren : Go.Shelf.Ren := ⟨fun | 105 => 190 | 212 => 204 | 99 => 205 | 165 => 206 | 166 => 161 | 170 => 207 | 169 => 165 | 263 => 214 | 264 => 119 | 206 => 215 | 240 => 187 | 241 => 216 | 276 => 202 | 277 => 219 | n => n, fun | 9 => 9 | 3 => 3 | 4 => 4 | 20 => 20 | 0 => 0 | 46 => 222 | 109 => 266 | 5 => 5 | 72 => 235 | 76 => 153 | 51 => 28 | 146 => 278 | 53 => 191 | 148 => 192 | 70 => 233 | 37 => 23 | 75 => 80 | 127 => 252 | 164 => 263 | 80 => 239 | n => n, fun | n => n⟩
theorem Tryz.lays105 : Go.Proofs.Lays.n105 Tryz.prog Tryz.lays105_ren := {
  mixed := by kernel_rfl
  f99 := Tryz.func205.trans (congrArg some (by kernel_rfl))
  f105 := Tryz.func190.trans (congrArg some (by kernel_rfl))
  f165 := Tryz.func206.trans (congrArg some (by kernel_rfl))
  f166 := Tryz.func161.trans (congrArg some (by kernel_rfl))
  f169 := Tryz.func165.trans (congrArg some (by kernel_rfl))
  f170 := Tryz.func207.trans (congrArg some (by kernel_rfl))
  f206 := Tryz.func215.trans (congrArg some (by kernel_rfl))
  f212 := Tryz.func204.trans (congrArg some (by kernel_rfl))
  f240 := Tryz.func187.trans (congrArg some (by kernel_rfl))
  f241 := Tryz.func216.trans (congrArg some (by kernel_rfl))
  f263 := Tryz.func214.trans (congrArg some (by kernel_rfl))
  f264 := Tryz.func119.trans (congrArg some (by kernel_rfl))
  f276 := Tryz.func202.trans (congrArg some (by kernel_rfl))
  f277 := Tryz.func219.trans (congrArg some (by kernel_rfl))
  t0 := Tryz.underlying0
  a0 := Tryz.isAgg0
  z0 := Tryz.sizeOf0
  v0 := Tryz.zeroValue0
  t3 := Tryz.underlying3
  a3 := Tryz.isAgg3
  z3 := Tryz.sizeOf3
  v3 := Tryz.zeroValue3
  t4 := Tryz.underlying4
  a4 := Tryz.isAgg4
  z4 := Tryz.sizeOf4
  v4 := Tryz.zeroValue4
  t5 := Tryz.underlying5
  a5 := Tryz.isAgg5
  z5 := Tryz.sizeOf5
  v5 := Tryz.zeroValue5
  t9 := Tryz.underlying9
  a9 := Tryz.isAgg9
  z9 := Tryz.sizeOf9
  v9 := Tryz.zeroValue9
  t20 := Tryz.underlying20
  a20 := Tryz.isAgg20
  z20 := Tryz.sizeOf20
  v20 := Tryz.zeroValue20
  t37 := Tryz.underlying23
  a37 := Tryz.isAgg23
  z37 := Tryz.sizeOf23
  v37 := Tryz.zeroValue23
  t46 := Tryz.underlying222
  a46 := Tryz.isAgg222
  z46 := Tryz.sizeOf222
  v46 := Tryz.zeroValue222
  t51 := Tryz.underlying28
  a51 := Tryz.isAgg28
  z51 := Tryz.sizeOf28
  v51 := Tryz.zeroValue28
  t53 := Tryz.underlying191
  a53 := Tryz.isAgg191
  z53 := Tryz.sizeOf191
  v53 := Tryz.zeroValue191
  t70 := Tryz.underlying233
  a70 := Tryz.isAgg233
  z70 := Tryz.sizeOf233
  v70 := Tryz.zeroValue233
  t72 := Tryz.underlying235
  a72 := Tryz.isAgg235
  z72 := Tryz.sizeOf235
  v72 := Tryz.zeroValue235
  t75 := Tryz.underlying80
  a75 := Tryz.isAgg80
  z75 := Tryz.sizeOf80
  v75 := Tryz.zeroValue80
  t76 := Tryz.underlying153
  a76 := Tryz.isAgg153
  z76 := Tryz.sizeOf153
  v76 := Tryz.zeroValue153
  t109 := Tryz.underlying266
  a109 := Tryz.isAgg266
  z109 := Tryz.sizeOf266
  v109 := Tryz.zeroValue266
  t127 := Tryz.underlying252
  a127 := Tryz.isAgg252
  z127 := Tryz.sizeOf252
  v127 := Tryz.zeroValue252
  t146 := Tryz.underlying278
  a146 := Tryz.isAgg278
  z146 := Tryz.sizeOf278
  v146 := Tryz.zeroValue278
  t148 := Tryz.underlying192
  a148 := Tryz.isAgg192
  z148 := Tryz.sizeOf192
  v148 := Tryz.zeroValue192
  t164 := Tryz.underlying263
  a164 := Tryz.isAgg263
  z164 := Tryz.sizeOf263
  v164 := Tryz.zeroValue263 }
theorem Tryz.Builder_Extra_105 : Builder.Extra Tryz.prog Tryz.lays105_ren := {
  sizeBuilder := by kernel_rfl
  liesBuilder := by kernel_rfl
  t5 := Tryz.underlying5
  a5 := Tryz.isAgg5
  z5 := Tryz.sizeOf5
  v5 := Tryz.zeroValue5
  infoByte := by kernel_rfl
  cellsByte := by kernel_rfl
  sizeByte := by kernel_rfl
  neB5 := by decide }
open Go.RowKit Go.Lib in
/-- **strings.Repeat: count ≥ 0, the result within one allocation: count copies of s.** (LAID: no walk: one application.) -/
theorem Tryz.strings_Repeat (s : ByteArray) (c : Nat) (w : World) (hc : c ≤ 9223372036854775807) (hlen : s.size * c ≤ 140737488355328) :
    Calls Tryz.prog 190 #[.string s, .int .i64 c] w fun e w' => e = .returned (.string ⟨(Lib.repeatL s.data.toList c).toArray⟩) ∧ Below w.heap.size w w' := Any.strings_Repeat Tryz.lays105 Tryz.Builder_Extra_105 s c w hc hlen
open Go.RowKit in
/-- (*strings.Builder).WriteString: "WriteString appends the contents of s to b's buffer. It returns the length of s and a nil error.": UNDER Go's OWN LIMIT: the new length takes at most 2^47 bytes. THE FORM '_k': OVER 'Lib.IsBuilderF' (a builder that 'String()' may have read), AND WITH THE FRAME THAT REACHES ABOVE THE BUILDER: 'Lib.OthersKept': every block that is not b and is no row of uint8's stands as it stood: the iterator of a range among them.' HAS READ, TOO: the bytes go in BEHIND what is frozen, or, where there is no room, all goes over into a new row.) (LAID: no walk: one application.) -/
theorem Tryz.Builder_WriteString_k (B b : Nat) (bs : List Value) (s : ByteArray) (w : World) (h : Lib.IsBuilderF 235 5 B b bs w) (hlen : bs.length + s.size ≤ 140737488355328) (hBw : B ≤ w.heap.size) :
    Calls Tryz.prog 161 #[.pointer (some ⟨b, 0, none⟩), .string s] w fun e w' => e = .returned (.tuple #[.int .i64 s.size, .nilIface]) ∧ (Lib.BuilderAtF 235 5 B b (.pointer (some ⟨b, 0, none⟩)) (bs ++ Lib.strCells s) w' ∧ Below B w w' ∧ Lib.OthersKept 5 (some b) w w') := Any.Builder_WriteString_k { Tryz.lays105 with } Tryz.Builder_Extra_105 B b bs s w h hlen hBw
open Go.RowKit in
/-- (*strings.Builder).String: "String returns the accumulated string.": WHATEVER THE BUILDER HOLDS; THE FORM '_k': OVER 'Lib.IsBuilderF' (a builder that 'String()' may have read), AND WITH THE FRAME THAT REACHES ABOVE THE BUILDER: 'Lib.OthersKept': every block that is not b and is no row of uint8's stands as it stood: the iterator of a range among them. (LAID: no walk: one application.) -/
theorem Tryz.Builder_String_any_k (B b : Nat) (l : List UInt8) (w : World) (h : Lib.IsBuilderF 235 5 B b (Lib.byteCells l) w) (hBw : B ≤ w.heap.size) :
    Calls Tryz.prog 165 #[.pointer (some ⟨b, 0, none⟩)] w fun e w' => e = .returned (.string ⟨l.toArray⟩) ∧ (Lib.IsBuilderF 235 5 B b (Lib.byteCells l) w' ∧ Below B w w' ∧ Lib.OthersKept 5 (some b) w w') := Any.Builder_String_any_k { Tryz.lays105 with } Tryz.Builder_Extra_105 B b l w h hBw
def Tryz.cloneMap88_ren : Go.Shelf.Ren := ⟨fun | 5 => 88 | 7 => 135 | n => n, fun | 23 => 141 | 25 => 9 | 3 => 57 | 4 => 4 | 20 => 20 | n => n, fun | n => n⟩
def Tryz.cloneMap90_ren : Go.Shelf.Ren := ⟨fun | 5 => 90 | 7 => 135 | n => n, fun | 23 => 142 | 25 => 60 | 3 => 9 | 4 => 4 | 20 => 20 | n => n, fun | n => n⟩
def Tryz.deleteFunc_ren : Go.Shelf.Ren := ⟨fun | 10 => 122 | 6 => 109 | n => n, fun | 22 => 41 | 23 => 9 | 25 => 130 | 3 => 3 | 4 => 4 | 0 => 0 | n => n, fun | n => n⟩
theorem Tryz.deleteFunc : Go.Proofs.SlLaysH.n10 Tryz.prog Tryz.deleteFunc_ren := {
  mixed := by kernel_rfl
  f6 := ⟨Tryz.f109.name, by decide, Tryz.func109.trans (congrArg some (by kernel_rfl))⟩
  f10 := ⟨Tryz.f122.name, by decide, Tryz.func122.trans (congrArg some (by kernel_rfl))⟩
  t0 := Tryz.underlying0
  a0 := Tryz.isAgg0
  z0 := Tryz.sizeOf0
  v0 := Tryz.zeroValue0
  t3 := Tryz.underlying3
  a3 := Tryz.isAgg3
  z3 := Tryz.sizeOf3
  v3 := Tryz.zeroValue3
  t4 := Tryz.underlying4
  a4 := Tryz.isAgg4
  z4 := Tryz.sizeOf4
  v4 := Tryz.zeroValue4
  t22 := Tryz.underlying41
  a22 := Tryz.isAgg41
  z22 := Tryz.sizeOf41
  v22 := Tryz.zeroValue41
  a23 := Tryz.isAgg9
  z23 := Tryz.sizeOf9
  t25 := Tryz.underlying130
  a25 := Tryz.isAgg130
  z25 := Tryz.sizeOf130
  v25 := Tryz.zeroValue130 }
end Go.Proofs
end
section
namespace Go.Proofs.YtbnhinpegbcbeaaGreat
open Go Go.K

theorem repeatL_zero : ∀ n : Nat, Lib.repeatL [0] n = List.replicate n 0
  | 0 => rfl
  | n + 1 => by
    have := repeatL_zero n
    simp only [Lib.repeatL, List.replicate_succ] at this ⊢
    first | (rw [this]; rfl) | simp [this]
theorem rep_spec (n : Nat) (hn : n ≤ 1000) (w : World) : K.Spec Tryz.prog F.strings_Repeat [.string ⟨#[0]⟩, .int .i64 (n : Nat)] w fun r w' => r = .string (str (List.replicate n 0)) ∧ Ext w w' :=
  (Tryz.strings_Repeat ⟨#[0]⟩ n w (by omega) (by show 1 * n ≤ _; omega)).mono fun e w' ⟨he, hb⟩ => ⟨_, he, by
    show Value.string ⟨(Lib.repeatL [0] n).toArray⟩ = _
    rw [repeatL_zero]; rfl, Ext.of_below hb⟩
abbrev BldT (B b : Nat) (s : ByteArray) (w : World) : Prop := Bld T.strings_Builder T.uint8 B b s w
abbrev WrT (B b : Nat) (w w' : World) : Prop := Wr T.uint8 B b w w'
theorem wr_spec {B b : Nat} {a : ByteArray} (s : ByteArray) (w : World) (h : BldT B b a w) (hl : a.size + s.size ≤ 100000000) : K.Spec Tryz.prog F.strings_Builder_WriteString [.pointer (some ⟨b, 0, none⟩), .string s] w fun _ w' => BldT B b (a ++ s) w' ∧ WrT B b w w' :=
  (Tryz.Builder_WriteString_k B b _ s w h.2 (by
    rw [Lib.byteCells_length, Array.length_toList]
    have : a.data.size = a.size := rfl
    omega) h.1).mono fun e w' ⟨he, h1, h2, h3⟩ => ⟨_, he, ⟨Nat.le_trans h.1 h2.size, .inr (by rw [← byteCells_append]; exact h1)⟩, h2, h3⟩
theorem bstr_spec {B b : Nat} {a : ByteArray} (w : World) (h : BldT B b a w) : K.Spec Tryz.prog F.strings_Builder_String [.pointer (some ⟨b, 0, none⟩)] w fun r w' => r = .string a ∧ BldT B b a w' ∧ WrT B b w w' :=
  (Tryz.Builder_String_any_k B b _ w h.2 h.1).mono fun e w' ⟨he, h1, h2, h3⟩ => ⟨_, he, rfl, ⟨Nat.le_trans h.1 h2.size, h1⟩, h2, h3⟩
attribute [local irreducible] regK codeK retK KOp.wp K.Spec leS vnS str
theorem base_spec (w : World) : K.Spec Tryz.prog F.tx_base [] w fun r w' => r = baseP.val ∧ Ext w w' := by
  refine s_tx_base rfl ?_
  unfold k_tx_base
  refine ox ?_
  repeat' (first|(first|refine go1 ?_|refine zg (fun _ _=>?_)|refine zi (fun _ _=>?_))|refine zH (fun b w1 x1 a1 hb => ?_)|(refine zC rfl (rep_spec 32 (by decide) _) ?_;rintro _ w2 ⟨rfl, x2⟩)|refine st_setN (vs := baseP.cs) (Ext.trans x1 x2) hb (a1.ext x2) rfl rfl rfl rfl rfl (fun w5 x5 c5 a5 r5 => ?_))
  exact x_ret (ret1 (rv_cell r5 rfl rfl)) ⟨rfl, x5⟩
/-- What a function value answers, of what lies in a list. -/
def Tells {α : Type} (g : FuncId) (capl : List Value) (E : R α) (val : List Value → Value) (M : List Nat) (w : World) (l : List α) (p : α → Bool) : Prop :=
  ∀ x ∈ l, ∀ w' cs, Ext w w' → E.rel M w' cs x → K.Spec Tryz.prog g (val cs :: capl) w' fun r w'' => r = .bool (p x) ∧ Ext w' w''
end Go.Proofs.YtbnhinpegbcbeaaGreat
end
section
namespace Go.Proofs.YtbnhinpegbcbeaaGreat
open Go Go.K
attribute [local irreducible] regK codeK retK KOp.wp K.Spec leS vnS str

theorem idxIn_spec {M : List Nat} {v : Value} {l : List TIn} {g : FuncId} {capl : List Value} {p : TIn → Bool} (w : World) (hb : hasBody Tryz.prog g = true) (hs : SlR inR M w v l) (hn : l.length ≤ 1000000000000) (hp : Tells g capl inR (fun cs => .agg cs.toArray) M w l p) :
    K.Spec Tryz.prog F.slices_IndexFunc_L_api_In_api_In [v, .func (.func g) #[] capl.toArray] w fun r w' => r = .int .i64 (idxOf p l) ∧ Ext w w' := by
  refine s_slices_IndexFunc_L_api_In_api_In rfl ?_
  unfold k_slices_IndexFunc_L_api_In_api_In
  refine ox ?_
  repeat' (first|(first|refine go1 ?_|refine zg (fun _ _=>?_)|refine zi (fun _ _=>?_))|refine zG rfl hs ?_|(refine c_loopV (fun (i : Nat) w' => Ext w w' ∧ i ≤ l.length ∧ ∀ j, j < i → ∀ h : j < l.length, p l[j] = false) (fun i => [(0, v), (1, .func (.func g) #[] capl.toArray), (6, v), (7, .int .i64 (l.length : Nat)), (8, .int .i64 i)]) (fun i => l.length - i) 0 ⟨rfl, rfl, rfl, rfl, rfl, trivial⟩ ⟨Ext.refl _, by omega, by omega⟩ ?_; rintro i ρ w1 ⟨x1, hi, hk⟩)|refine zL rfl (fun h => ?_) (fun h => ?_)|(refine st_elemR rfl rfl (hs.ext x1) rfl (by omega) (fun ad cs r1 he => ?_))|refine st_lN0 rfl r1 (by rw [inR.len he]; exact Nat.le_refl _) (List.take_of_length_le (by rw [inR.len he]; exact Nat.le_refl _)) ?_|(refine st_callV rfl hb rfl (hp _ (List.getElem_mem _) _ _ x1 he) ?_; rintro _ w2 ⟨rfl, x2⟩)|refine zM rfl (fun h2 => ?_) (fun h2 => ?_))
  · exact x_ret rfl ⟨congrArg (Value.int .i64) (idxOf_hit (by omega) h2 (fun j hj => hk j hj (by omega))).symm, by repeat (first | assumption | exact Ext.refl _ | refine Ext.trans ?_ (by assumption))⟩
  · refine ⟨i + 1, ⟨rfl, rfl, rfl, rfl, rfl, trivial⟩, ⟨x1.trans x2, by omega, fun j hj hl => ?_⟩, by omega⟩
    by_cases hji : j = i
    · subst hji; exact h2
    · exact hk j (by omega) hl
  · exact x_ret rfl ⟨congrArg (Value.int .i64) (idxOf_miss (fun j hj => hk j (by omega) hj)).symm, x1⟩
theorem idxIn_any {M : List Nat} {v : Value} {l : List TIn} {g : FuncId} {capl : List Value} {p : TIn → Bool} (w : World) (hb : hasBody Tryz.prog g = true) (hs : SlR inR M w v l) (hn : l.length ≤ 1000000000000) (hp : Tells g capl inR (fun cs => .agg cs.toArray) M w l p) :
    K.Spec Tryz.prog F.slices_ContainsFunc_L_api_In_api_In [v, .func (.func g) #[] capl.toArray] w fun r w' => r = .bool (l.any p) ∧ Ext w w' := by
  refine s_slices_ContainsFunc_L_api_In_api_In rfl ?_
  unfold k_slices_ContainsFunc_L_api_In_api_In
  refine ox ?_
  repeat' (first|(first|refine go1 ?_|refine zg (fun _ _=>?_)|refine zi (fun _ _=>?_))|(refine zC rfl (idxIn_spec _ hb hs hn hp) ?_; rintro _ w2 ⟨rfl, x2⟩))
  exact x_ret rfl ⟨congrArg Value.bool idxOf_any, x2⟩
theorem idxOut_spec {M : List Nat} {v : Value} {l : List TOut} {g : FuncId} {capl : List Value} {p : TOut → Bool} (w : World) (hb : hasBody Tryz.prog g = true) (hs : SlR outR M w v l) (hn : l.length ≤ 1000000000000) (hp : Tells g capl outR (fun cs => .agg cs.toArray) M w l p) :
    K.Spec Tryz.prog F.slices_IndexFunc_L_api_Out_api_Out [v, .func (.func g) #[] capl.toArray] w fun r w' => r = .int .i64 (idxOf p l) ∧ Ext w w' := by
  refine s_slices_IndexFunc_L_api_Out_api_Out rfl ?_
  unfold k_slices_IndexFunc_L_api_Out_api_Out
  refine ox ?_
  repeat' (first|(first|refine go1 ?_|refine zg (fun _ _=>?_)|refine zi (fun _ _=>?_))|refine zG rfl hs ?_|(refine c_loopV (fun (i : Nat) w' => Ext w w' ∧ i ≤ l.length ∧ ∀ j, j < i → ∀ h : j < l.length, p l[j] = false) (fun i => [(0, v), (1, .func (.func g) #[] capl.toArray), (6, v), (7, .int .i64 (l.length : Nat)), (8, .int .i64 i)]) (fun i => l.length - i) 0 ⟨rfl, rfl, rfl, rfl, rfl, trivial⟩ ⟨Ext.refl _, by omega, by omega⟩ ?_; rintro i ρ w1 ⟨x1, hi, hk⟩)|refine zL rfl (fun h => ?_) (fun h => ?_)|(refine st_elemR rfl rfl (hs.ext x1) rfl (by omega) (fun ad cs r1 he => ?_))|refine st_lN0 rfl r1 (by rw [outR.len he]; exact Nat.le_refl _) (List.take_of_length_le (by rw [outR.len he]; exact Nat.le_refl _)) ?_|(refine st_callV rfl hb rfl (hp _ (List.getElem_mem _) _ _ x1 he) ?_; rintro _ w2 ⟨rfl, x2⟩)|refine zM rfl (fun h2 => ?_) (fun h2 => ?_))
  · exact x_ret rfl ⟨congrArg (Value.int .i64) (idxOf_hit (by omega) h2 (fun j hj => hk j hj (by omega))).symm, by repeat (first | assumption | exact Ext.refl _ | refine Ext.trans ?_ (by assumption))⟩
  · refine ⟨i + 1, ⟨rfl, rfl, rfl, rfl, rfl, trivial⟩, ⟨x1.trans x2, by omega, fun j hj hl => ?_⟩, by omega⟩
    by_cases hji : j = i
    · subst hji; exact h2
    · exact hk j (by omega) hl
  · exact x_ret rfl ⟨congrArg (Value.int .i64) (idxOf_miss (fun j hj => hk j (by omega) hj)).symm, x1⟩
theorem idxOut_any {M : List Nat} {v : Value} {l : List TOut} {g : FuncId} {capl : List Value} {p : TOut → Bool} (w : World) (hb : hasBody Tryz.prog g = true) (hs : SlR outR M w v l) (hn : l.length ≤ 1000000000000) (hp : Tells g capl outR (fun cs => .agg cs.toArray) M w l p) :
    K.Spec Tryz.prog F.slices_ContainsFunc_L_api_Out_api_Out [v, .func (.func g) #[] capl.toArray] w fun r w' => r = .bool (l.any p) ∧ Ext w w' := by
  refine s_slices_ContainsFunc_L_api_Out_api_Out rfl ?_
  unfold k_slices_ContainsFunc_L_api_Out_api_Out
  refine ox ?_
  repeat' (first|(first|refine go1 ?_|refine zg (fun _ _=>?_)|refine zi (fun _ _=>?_))|(refine zC rfl (idxOut_spec _ hb hs hn hp) ?_; rintro _ w2 ⟨rfl, x2⟩))
  exact x_ret rfl ⟨congrArg Value.bool idxOf_any, x2⟩
theorem idxStr_spec {M : List Nat} {v : Value} {l : List ByteArray} {g : FuncId} {capl : List Value} {p : ByteArray → Bool} (w : World) (hb : hasBody Tryz.prog g = true) (hs : SlR strR M w v l) (hn : l.length ≤ 1000000000000) (hp : Tells g capl strR (fun cs => cs.headD undef) M w l p) :
    K.Spec Tryz.prog F.slices_IndexFunc_L_string_string [v, .func (.func g) #[] capl.toArray] w fun r w' => r = .int .i64 (idxOf p l) ∧ Ext w w' := by
  refine s_slices_IndexFunc_L_string_string rfl ?_
  unfold k_slices_IndexFunc_L_string_string
  refine ox ?_
  repeat' (first|(first|refine go1 ?_|refine zg (fun _ _=>?_)|refine zi (fun _ _=>?_))|refine zG rfl hs ?_|(refine c_loopV (fun (i : Nat) w' => Ext w w' ∧ i ≤ l.length ∧ ∀ j, j < i → ∀ h : j < l.length, p l[j] = false) (fun i => [(0, v), (1, .func (.func g) #[] capl.toArray), (6, v), (7, .int .i64 (l.length : Nat)), (8, .int .i64 i)]) (fun i => l.length - i) 0 ⟨rfl, rfl, rfl, rfl, rfl, trivial⟩ ⟨Ext.refl _, by omega, by omega⟩ ?_; rintro i ρ w1 ⟨x1, hi, hk⟩)|refine zL rfl (fun h => ?_) (fun h => ?_)|(refine st_elemR rfl rfl (hs.ext x1) rfl (by omega) (fun ad cs r1 he => ?_); have hq : cs = [Value.string l[i]] := he; rw [hq] at r1 he)|refine st_lN0 rfl r1 (by rw [strR.len he]; exact Nat.le_refl _) (List.take_of_length_le (by rw [strR.len he]; exact Nat.le_refl _)) ?_|(refine st_callV rfl hb rfl (hp _ (List.getElem_mem _) _ _ x1 he) ?_; rintro _ w2 ⟨rfl, x2⟩)|refine zM rfl (fun h2 => ?_) (fun h2 => ?_))
  · exact x_ret rfl ⟨congrArg (Value.int .i64) (idxOf_hit (by omega) h2 (fun j hj => hk j hj (by omega))).symm, by repeat (first | assumption | exact Ext.refl _ | refine Ext.trans ?_ (by assumption))⟩
  · refine ⟨i + 1, ⟨rfl, rfl, rfl, rfl, rfl, trivial⟩, ⟨x1.trans x2, by omega, fun j hj hl => ?_⟩, by omega⟩
    by_cases hji : j = i
    · subst hji; exact h2
    · exact hk j (by omega) hl
  · exact x_ret rfl ⟨congrArg (Value.int .i64) (idxOf_miss (fun j hj => hk j (by omega) hj)).symm, x1⟩
theorem idxStr_any {M : List Nat} {v : Value} {l : List ByteArray} {g : FuncId} {capl : List Value} {p : ByteArray → Bool} (w : World) (hb : hasBody Tryz.prog g = true) (hs : SlR strR M w v l) (hn : l.length ≤ 1000000000000) (hp : Tells g capl strR (fun cs => cs.headD undef) M w l p) :
    K.Spec Tryz.prog F.slices_ContainsFunc_L_string_string [v, .func (.func g) #[] capl.toArray] w fun r w' => r = .bool (l.any p) ∧ Ext w w' := by
  refine s_slices_ContainsFunc_L_string_string rfl ?_
  unfold k_slices_ContainsFunc_L_string_string
  refine ox ?_
  repeat' (first|(first|refine go1 ?_|refine zg (fun _ _=>?_)|refine zi (fun _ _=>?_))|(refine zC rfl (idxStr_spec _ hb hs hn hp) ?_; rintro _ w2 ⟨rfl, x2⟩))
  exact x_ret rfl ⟨congrArg Value.bool idxOf_any, x2⟩
end Go.Proofs.YtbnhinpegbcbeaaGreat
end
