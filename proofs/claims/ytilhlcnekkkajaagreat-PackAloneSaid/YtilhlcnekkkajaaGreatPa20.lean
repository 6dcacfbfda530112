/- Plain: entries that hang on one another. Contracts: the reference's list of entries. Contracts: ids of numbers; alike transactions; counts. Plain: transactions as small numbers. Contracts: transactions made of small numbers. Contracts: transactions cut to a size. Contracts: the reference's list of entries, with one more or one less; ids of numbers; alike transactions. Plain: what is reached, step  -/
import Derived.Test.YtilhlcnekkkajaaGreatPa19
set_option linter.unusedVariables false
set_option linter.unusedSimpArgs false
section
namespace Go.K
open Go
def findI (l : List Ent) (id : ByteArray) : Int := idxOf (fun x => decide (x.id = id)) l
def spends (x : Ent) (p : Pt) : Bool := x.tx.ins.any fun i => decide (i.p = p)
def spendI (l : List Ent) (p : Pt) : Int := idxOf (fun x => spends x p) l
def hangs (t : Tx) (x : Ent) : Bool := t.ins.any fun i => decide (i.p.s = x.id) && decide (i.p.i < (x.tx.outs.length : Int))
def idsOf : List Ent → List Bool → List ByteArray
  | x :: l, b :: m => if b then x.id :: idsOf l m else idsOf l m
  | _, _ => []
def feeOf : List Ent → List Bool → Int
  | x :: l, b :: m => (if b then x.fee else 0) + feeOf l m
  | _, _ => 0
def szOf : List Ent → List Bool → Int
  | x :: l, b :: m => (if b then x.size else 0) + szOf l m
  | _, _ => 0
def dropG (l : List Ent) (id : ByteArray) : List Ent × Int := if findI l id < 0 then (l, 8) else (l.eraseIdx (findI l id).toNat, 0)
def addG (l : List Ent) (t : Tx) (fee : Int) : List Ent × Int :=
  if checkT t ≠ 0 then (l, checkT t) else if grantB t then (l, 4) else if !goodB fee then (l, 3) else if l.any (fun x => decide (x.id = idT t)) then (l, 7)
  else if t.ins.any (fun i => l.any fun x => spends x i.p) then (l, 15) else (l ++ [⟨t, idT t, fee, (sizeT t : Nat)⟩], 0)
theorem idsOf_append {l l' : List Ent} {m m' : List Bool} (h : l.length = m.length) : idsOf (l ++ l') (m ++ m') = idsOf l m ++ idsOf l' m' := by
  induction l generalizing m with
  | nil => cases m with
    | nil => cases l' <;> cases m' <;> rfl
    | cons => simp at h
  | cons x l ih => cases m with
    | nil => simp at h
    | cons b m =>
      have := ih (m := m) (by simpa using h)
      simp only [List.cons_append, idsOf, this]; split <;> rfl
section
variable {l : List Ent} {m : List Bool} (h : l.length = m.length) {i : Nat} (hi : i < l.length)
include h hi
theorem idsOf_take : idsOf (l.take (i + 1)) (m.take (i + 1)) = idsOf (l.take i) (m.take i) ++ (if m[i]'(h ▸ hi) then [l[i].id] else []) := by
  rw [List.take_succ_eq_append_getElem hi, List.take_succ_eq_append_getElem (h ▸ hi), idsOf_append (by simp [h])]
  simp only [idsOf]
end
theorem idsOf_length : ∀ (l : List Ent) (m : List Bool), (idsOf l m).length ≤ l.length
  | [], _ => by simp [idsOf]
  | _ :: _, [] => by simp [idsOf]
  | x :: l, b :: m => by
    have := idsOf_length l m
    simp only [idsOf]; split <;> simp <;> omega
/-- What an entry is within. -/
structure EntOk (x : Ent) : Prop where
  check : checkT x.tx = 0
  grant : grantB x.tx = false
  fee : goodB x.fee = true
  id : x.id = idT x.tx
  size : x.size = (sizeT x.tx : Nat)
/-- The bytes of a number that stand for an id. -/
def idN (n : Nat) : ByteArray := str ((List.range 32).map fun i => UInt8.ofNat (n / 2 ^ (i % 8)) ^^^ UInt8.ofNat i)
theorem idN_size (n : Nat) : (idN n).size = 32 := by rw [idN, str_size]; simp
theorem idN_take (n i : Nat) (h : i < 32) : str (((List.range 32).map fun i => UInt8.ofNat (n / 2 ^ (i % 8)) ^^^ UInt8.ofNat i).take (i + 1)) = str (((List.range 32).map fun i => UInt8.ofNat (n / 2 ^ (i % 8)) ^^^ UInt8.ofNat i).take i) ++ str [UInt8.ofNat (n / 2 ^ (i % 8)) ^^^ UInt8.ofNat i] := by
  rw [List.take_succ_eq_append_getElem (by simpa using h), str_append]
  simp
def sameT (t u : Tx) : Bool := decide (t = u)
end Go.K
end
section
namespace Go.Proofs.YtilhlcnekkkajaaGreat
open Go Go.K
attribute [local irreducible] regK codeK retK KOp.wp K.Spec u32 leS vnS str zero32 sha2 encT idT sizeT checkT grantB

def boolE : Enc Bool := ⟨fun b => [.bool b], 1, fun _ => rfl, by decide, by intro x v hv; simp at hv; subst hv; rfl⟩
theorem wrap_i {n : Int} (h : is32 n) : IntKind.i64.wrap n = n := IntWalk.i64_in _ (by unfold is32 at h; omega)
end Go.Proofs.YtilhlcnekkkajaaGreat
end
section
namespace Go.Proofs.YtilhlcnekkkajaaGreat
open Go Go.K
attribute [local irreducible] regK codeK retK KOp.wp K.Spec u32 leS vnS str zero32 sha2 encT idT sizeT checkT grantB

theorem u8_xor (a b : UInt8) : binVal .xor (.int .u8 (a.toNat : Nat)) (.int .u8 (b.toNat : Nat)) = some (.int .u8 ((a ^^^ b).toNat : Nat)) := by
  have e : ∀ x : UInt8, BitVec.ofInt 8 (x.toNat : Nat) = x.toBitVec := fun x => by
    apply BitVec.eq_of_toNat_eq
    have := x.toNat_lt
    simp [BitVec.toNat_ofInt]
  simp only [binVal, isShift, Bool.false_eq_true, if_false, if_true, intBin, IntKind.bits]
  rw [e, e]
  refine congrArg some (congrArg (Value.int .u8) ?_)
  have h : IntKind.u8.wrap ((a.toBitVec ^^^ b.toBitVec).toNat : Nat) = (((a ^^^ b).toNat : Nat) : Int) % 256 := rfl
  refine h.trans ?_
  have := (a ^^^ b).toNat_lt
  omega
theorem shr_n (n i : Nat) : binVal .shr (.int .i64 (n : Nat)) (.int .i64 ((i % 8 : Nat) : Int)) = some (.int .i64 ((n / 2 ^ (i % 8) : Nat) : Int)) := by
  simp only [binVal, isShift, if_true]
  rw [if_neg (by omega)]
  have e : min ((i % 8 : Nat) : Int).toNat IntKind.i64.bits = i % 8 := by simp [IntKind.bits]; omega
  rw [e, Int.fdiv_eq_ediv_of_nonneg _ (by exact_mod_cast Nat.zero_le _)]
  norm_cast
section
variable {P : Program} {d : Option Tmp} {r : KR} {K : Env → World → Prop} {ρ : Env} {w : World}
theorem st_iU8 {x : Operand} {n : Nat} (hx : ev ρ x = .int .i64 (n : Nat)) (k : regK P r K (put ρ d (.int .u8 ((UInt8.ofNat n).toNat : Nat))) w) : regK P (.cons ⟨d, .conv .u8 x, none⟩ r) K ρ w :=
  st_fix rfl (by simp only [KOp.fix, hx]; rw [u8_wrap]) k
end
theorem idn_spec (n : Nat) (w : World) : K.Spec Tryz.prog F.kedgeref05_ID [.int .i64 (n : Nat)] w fun r w' => r = .string (idN n) ∧ Ext w w' := by
  refine s_kedgeref05_ID rfl ?_
  unfold k_kedgeref05_ID
  refine oy ?_
  repeat' (first|(refine st_rem (n := i) (m := 8) rfl rfl (by decide) ?_)|(refine st_bin rfl rfl (shr_n n i) ?_)|(refine st_iU8 rfl ?_)|(refine st_bin rfl rfl (u8_xor (UInt8.ofNat (n / 2 ^ (i % 8))) (UInt8.ofNat i)) ?_)|(first|refine go1 ?_|refine zg (fun _ _=>?_)|refine zi (fun _ _=>?_))|refine zL rfl (fun h => ?_) (fun h => ?_)|(refine c_loopV (fun (i : Nat) w' => Ext w w' ∧ i ≤ 32) (fun i => [(0, .int .i64 (n : Nat)), (3, .string (str (((List.range 32).map fun i => UInt8.ofNat (n / 2 ^ (i % 8)) ^^^ UInt8.ofNat i).take i))), (4, .int .i64 i)]) (fun i => 32 - i) 0 ⟨rfl, congrArg Value.string str_nil.symm, rfl, trivial⟩ ⟨Ext.refl _, by omega⟩ ?_; rintro i ρ w1 ⟨x1, hi⟩)|(refine zI rfl (fun b w2 x2 a2 hb => ?_))|(refine st_strU (l := [UInt8.ofNat (n / 2 ^ (i % 8)) ^^^ UInt8.ofNat i]) rfl (SlE.new (E := u8E) a2 rfl (Nat.le_refl _)) ?_)|(refine st_catS rfl rfl (by rw [str_size, str_size]; simp; omega) ?_))
  · exact ⟨i + 1, ⟨rfl, congrArg Value.string (idN_take n i (by omega)).symm, rfl, trivial⟩, ⟨by exact fx, by omega⟩, by omega⟩
  · exact x_ret rfl ⟨congrArg Value.string (by rw [idN, List.take_of_length_le (by simp; omega)]), by exact fx⟩
set_option maxHeartbeats 1000000 in
theorem same_spec {M N : List Nat} {cs ds : List Value} {t : Tx} (w : World) (ht : txR.rel M w cs t) (hu : txR.rel N w ds t) (hs : t.Sm) : K.Spec Tryz.prog F.kedgeref05_Same [.agg cs.toArray, .agg ds.toArray] w fun r w' => r = .bool true ∧ Ext w w' := by
  obtain ⟨iv, ov, rfl, h1, h2, h3⟩ := ht
  obtain ⟨iv2, ov2, rfl, g1, g2, g3⟩ := hu
  have hq1 := hs.ins
  have hq2 := hs.outs
  refine s_kedgeref05_Same rfl ?_
  unfold k_kedgeref05_Same
  refine oy ?_
  repeat' (first|(first|refine go1 ?_|refine zg (fun _ _=>?_)|refine zi (fun _ _=>?_))|refine zD rfl rfl (fun bp wp xp ap (rp : Row wp ⟨bp, 0, none⟩ (txCs t iv ov)) hp0=>?_)|refine zD rfl rfl (fun bq wq xq aq (rq : Row wq ⟨bq, 0, none⟩ (txCs t iv2 ov2)) hq0=>?_)|(refine zK rfl (fun h => absurd h (by simp)) (fun _ => ?_))|(refine zN rfl (fun h => absurd rfl h) (fun _ => ?_))|(refine zL rfl (fun h => ?_) (fun h => ?_))|(refine st_lenR (E := inR) (M := M) (l := t.ins) rfl (SlR.ext (w := w) h1 (by exact fx)) ?_)|(refine st_lenR (E := inR) (M := N) (l := t.ins) rfl (SlR.ext (w := w) g1 (by exact fx)) ?_)|(refine st_lenR (E := outR) (M := M) (l := t.outs) rfl (SlR.ext (w := w) h2 (by exact fx)) ?_)|(refine st_lenR (E := outR) (M := N) (l := t.outs) rfl (SlR.ext (w := w) g2 (by exact fx)) ?_)|(refine c_loopV (fun (i : Nat) w' => Ext wq w' ∧ i ≤ t.ins.length) (fun i => [(2, .pointer (some ⟨bp, 0, none⟩)), (3, .pointer (some ⟨bq, 0, none⟩)), (5, .int .i64 i)]) (fun i => t.ins.length - i) 0 ⟨rfl, rfl, rfl, trivial⟩ ⟨Ext.refl _, by omega⟩ ?_; rintro i ρ w1 ⟨x1, hi⟩)|(refine st_elemR (d := some 50) (E := inR) (M := M) rfl rfl (n := i) (l := t.ins) (SlR.ext (w := w) h1 (by exact fx)) rfl (by omega) (fun ad cs r4 he => ?_); obtain ⟨wv, rfl, hw, _⟩ := he; obtain ⟨bs1, cp1, rfl⟩ := hw.form)|(refine st_elemR (d := some 55) (E := inR) (M := N) rfl rfl (n := i) (l := t.ins) (SlR.ext (w := w) g1 (by exact fx)) rfl (by omega) (fun ad cs r4 he => ?_); obtain ⟨wv2, rfl, hw2, _⟩ := he; obtain ⟨bs2, cp2, rfl⟩ := hw2.form)|(refine st_elemR (d := some 117) (E := outR) (M := M) rfl rfl (n := k) (l := t.outs) (SlR.ext (w := w) h2 (by exact fx)) rfl (by omega) (fun ad cs r4 he => ?_); obtain ⟨rfl, _⟩ := he)|(refine st_elemR (d := some 123) (E := outR) (M := N) rfl rfl (n := k) (l := t.outs) (SlR.ext (w := w) g2 (by exact fx)) rfl (by omega) (fun ad cs r4 he => ?_); obtain ⟨rfl, _⟩ := he)|(refine st_elemR (d := some 131) (E := outR) (M := M) rfl rfl (n := k) (l := t.outs) (SlR.ext (w := w) h2 (by exact fx)) rfl (by omega) (fun ad cs r4 he => ?_); obtain ⟨rfl, _⟩ := he)|(refine st_elemR (d := some 137) (E := outR) (M := N) rfl rfl (n := k) (l := t.outs) (SlR.ext (w := w) g2 (by exact fx)) rfl (by omega) (fun ad cs r4 he => ?_); obtain ⟨rfl, _⟩ := he)|(refine zE (fun _=>rfl) rfl rfl rfl (fun b6 w6 x6 a6 (r6 : Row w6 ⟨b6, 0, none⟩ (inCs t.ins[i] (.slice bs1 t.ins[i].wit.length cp1))) hb6=>?_))|(refine zE (fun _=>rfl) rfl rfl rfl (fun b7 w7 x7 a7 (r7 : Row w7 ⟨b7, 0, none⟩ (inCs t.ins[i] (.slice bs2 t.ins[i].wit.length cp2))) hb7=>?_); have hwl := hs.wit _ (List.getElem_mem (show i < t.ins.length by omega)))|(refine c_loopV (fun (j : Nat) w' => Ext w7 w' ∧ j ≤ t.ins[i].wit.length) (fun j => [(2, .pointer (some ⟨bp, 0, none⟩)), (3, .pointer (some ⟨bq, 0, none⟩)), (5, .int .i64 i), (6, .pointer (some ⟨b6, 0, none⟩)), (7, .pointer (some ⟨b7, 0, none⟩)), (8, .int .i64 j)]) (fun j => t.ins[i].wit.length - j) 0 ⟨rfl, rfl, rfl, rfl, rfl, rfl, trivial⟩ ⟨Ext.refl _, by omega⟩ ?_; rintro j ρ8 w8 ⟨x8, hj⟩)|(refine st_lenR (E := strR) (l := t.ins[i].wit) rfl (by exact fx) ?_)|(refine st_elemR (d := some 99) (E := strR) rfl rfl (n := j) (l := t.ins[i].wit) (SlR.ext hw (by exact fx)) rfl (by omega) (fun ad cs r4 he => ?_); subst he)|(refine st_elemR (d := some 104) (E := strR) rfl rfl (n := j) (l := t.ins[i].wit) (SlR.ext hw2 (by exact fx)) rfl (by omega) (fun ad cs r4 he => ?_); subst he)|(refine c_loopV (fun (k : Nat) w' => Ext wq w' ∧ k ≤ t.outs.length) (fun k => [(2, .pointer (some ⟨bp, 0, none⟩)), (3, .pointer (some ⟨bq, 0, none⟩)), (9, .int .i64 k)]) (fun k => t.outs.length - k) 0 ⟨rfl, rfl, rfl, trivial⟩ ⟨by exact fx, by omega⟩ ?_; rintro k ρ9 w9 ⟨x9, hk⟩))
  all_goals first
    | exact ⟨i + 1, ⟨rfl, rfl, rfl, trivial⟩, ⟨by exact fx, by omega⟩, by omega⟩
    | exact ⟨j + 1, ⟨rfl, rfl, rfl, rfl, rfl, rfl, trivial⟩, ⟨by exact fx, by omega⟩, by omega⟩
    | exact ⟨k + 1, ⟨rfl, rfl, rfl, trivial⟩, ⟨by exact fx, by omega⟩, by omega⟩
    | exact x_ret rfl ⟨rfl, by exact fx⟩
    | trace_state
end Go.Proofs.YtilhlcnekkkajaaGreat
end
section
namespace Go.K
open Go
structure Small where
  frm : List UInt8
  idx : UInt8
  outs : UInt8
  fee : Int
  mark : UInt8
  long : UInt8
instance : Inhabited Small := ⟨⟨[], 0, 0, 0, 0, 0⟩⟩
def u8R : R UInt8 := R.flat u8E false
def u8V (b : UInt8) : Value := .int .u8 (b.toNat : Nat)
def smallCs (z : Small) (fv : Value) : List Value := [fv, u8V z.idx, u8V z.outs, .int .i64 z.fee, u8V z.mark, u8V z.long]
def smallR : R Small where
  k := 6
  pos := by decide
  ag := true
  rel := fun M w cs z => ∃ fv, cs = smallCs z fv ∧ SlR u8R M w fv z.frm ∧ is64 z.fee
  len := fun ⟨_, h, _⟩ => by rw [h]; rfl
  one := fun ⟨fv, h, hs, _⟩ v hv => by
    obtain ⟨b, c, rfl⟩ := hs.form
    subst h; simp [smallCs] at hv; rcases hv with rfl | rfl | rfl | rfl | rfl | rfl <;> rfl
  step := fun ⟨fv, h, hs, h2⟩ c hL hM => ⟨fv, h, hs.step c hL hM, h2⟩
/-- What an input that was made is within. -/
structure InMade (x : TIn) : Prop where
  lo : 0 ≤ x.p.i
  hi : x.p.i < 4
  q : x.q = 4294967293
  wit : x.wit = []
  id : x.p.s.size = 32
structure OutMade (y : TOut) : Prop where
  lo : 0 ≤ y.v
  hi : y.v ≤ 2000
  s : y.s.size ≤ 40
structure Made (z : Small) (t : Tx) : Prop where
  ver : t.ver = 2
  lock : t.lock = (z.mark.toNat : Nat)
  ins : t.ins.length = min z.frm.length 4
  each : ∀ x ∈ t.ins, InMade x
  outs : t.outs.length = z.outs.toNat % 3 + 1 + z.long.toNat
  eacho : ∀ y ∈ t.outs, OutMade y
theorem wrap_u8 (b : UInt8) : IntKind.i64.wrap (b.toNat : Nat) = (b.toNat : Nat) := IntWalk.i64_in _ (by have := b.toNat_lt; omega)
theorem rem_u8 (n m : Nat) (h : 0 < m) : binVal .rem (.int .u8 (n : Nat)) (.int .u8 (m : Nat)) = some (.int .u8 ((n % m : Nat) : Int)) := by
  have hne : (m : Int) ≠ 0 := by omega
  simp only [binVal, isShift, Bool.false_eq_true, if_false, if_true, intBin]
  rw [tm, if_neg hne]
theorem rem_u32 (m : Int) : ∃ n : Int, binVal .rem (.int .u32 (IntKind.u32.wrap m)) (.int .u32 4) = some (.int .u32 n) ∧ 0 ≤ n ∧ n < 4 := by
  refine ⟨Int.tmod (IntKind.u32.wrap m) 4, ?_, ?_⟩
  · simp only [binVal, isShift, Bool.false_eq_true, if_false, if_true, intBin]
    rw [if_neg (by decide)]
  · have h : IntKind.u32.wrap m = m % 4294967296 := rfl
    rw [h, Int.tmod_eq_emod_of_nonneg (by omega)]; omega
theorem wrap_n8 {n : Nat} (h : n < 256) : IntKind.i64.wrap (n : Nat) = (n : Nat) := IntWalk.i64_in _ (by omega)
theorem Made.sm {z : Small} {t : Tx} (h : Made z t) : t.Sm := by
  have h1 := h.ins; have h2 := h.outs; have h3 := z.long.toNat_lt
  exact ⟨by omega, by omega, fun x hx => by rw [(h.each x hx).wit]; simp⟩
end Go.K
end
section
namespace Go.Proofs.YtilhlcnekkkajaaGreat
open Go Go.K
attribute [local irreducible] regK codeK retK KOp.wp K.Spec u32 leS vnS str zero32 sha2 encT idT sizeT checkT grantB idN

noncomputable def pI (z : Small) (i : Nat) : Int := (rem_u32 ((IntKind.i64.wrap (z.idx.toNat : Nat)).fdiv (2 ^ (min (2 * (i : Int)).toNat IntKind.i64.bits)))).choose
attribute [local irreducible] pI
end Go.Proofs.YtilhlcnekkkajaaGreat
end
section
namespace Go.Proofs.YtilhlcnekkkajaaGreat
open Go Go.K
attribute [local irreducible] regK codeK retK KOp.wp K.Spec u32 leS vnS str zero32 sha2 encT idT sizeT checkT grantB idN

/-- What came in is not beyond all. -/
structure _root_.Go.K.Tx.Raw (t : Tx) : Prop where
  ins : t.ins.length ≤ 9223372036854775807
  outs : t.outs.length ≤ 9223372036854775807
  wit : ∀ x ∈ t.ins, x.wit.length ≤ 9223372036854775807
/-- What is left of a transaction is small. -/
structure _root_.Go.K.Tx.Cut (t : Tx) (n : Nat) : Prop where
  ins : t.ins.length ≤ n
  outs : t.outs.length ≤ n
  wit : ∀ x ∈ t.ins, x.wit.length ≤ 6
end Go.Proofs.YtilhlcnekkkajaaGreat
end
section
namespace Go.Proofs.YtilhlcnekkkajaaGreat
open Go Go.K
attribute [local irreducible] regK codeK retK KOp.wp K.Spec u32 leS vnS str zero32 sha2 encT idT sizeT checkT grantB

theorem chk_parts {t : Tx} (h : checkT t = 0) : countsB t = true ∧ longB t = false ∧ formedT t = true ∧ twiceB t = false ∧ sumE (values t) = 0 := by
  unfold checkT at h
  by_cases h1 : countsB t = true
  · by_cases h2 : longB t = true
    · rw [h1, h2] at h; simp at h
    · by_cases h3 : formedT t = true
      · by_cases h4 : twiceB t = true
        · rw [h1, h3, h4] at h; simp at h; exact absurd h (by split <;> decide)
        · simp only [Bool.not_eq_true] at h2 h4
          rw [h1, h2, h3, h4] at h
          exact ⟨h1, h2, h3, h4, by simpa using h⟩
      · simp only [Bool.not_eq_true] at h2 h3
        rw [h1, h2, h3] at h; simp at h
  · simp only [Bool.not_eq_true] at h1
    rw [h1] at h; simp at h
theorem chk_sm {t : Tx} (h : checkT t = 0) : t.Sm := by
  have h1 := (chk_parts h).1
  unfold countsB at h1
  simp only [Bool.and_eq_true, decide_eq_true_eq, Bool.not_eq_true', List.any_eq_false, Int.not_lt, gt_iff_lt] at h1
  exact ⟨by omega, by omega, fun x hx => by have := h1.2 x hx; omega⟩
/-- What the reference says of one more: the first error. -/
theorem radd_grant {t : Tx} (h : checkT t = 0) : ∃ hi : 0 < t.ins.length, isBase t.ins[0].p = grantB t := by
  have hp := chk_parts h
  have h1 := hp.1
  unfold countsB at h1
  simp only [Bool.and_eq_true, decide_eq_true_eq] at h1
  have hi : 0 < t.ins.length := by omega
  refine ⟨hi, ?_⟩
  unfold grantB
  by_cases hl : t.ins.length = 1
  · rw [decide_eq_true hl, Bool.true_and, headD_0 hi]
  · rw [decide_eq_false hl, Bool.false_and]
    have h3 := hp.2.2.1
    unfold formedT at h3
    simp only [Bool.not_eq_true', List.any_eq_false] at h3
    have h4 := h3 _ (List.getElem_mem hi)
    unfold badIn at h4
    simp only [Bool.or_eq_true, not_or, Bool.and_eq_true, decide_eq_true_eq, not_and] at h4
    by_cases hb : isBase t.ins[0].p = true
    · exact absurd (by omega) (h4.2 hb)
    · simpa using hb
end Go.Proofs.YtilhlcnekkkajaaGreat
end
section
namespace Go.K
open Go
def stepR (base : Nat → Bool) (edge : Nat → Nat → Bool) (n : Nat) : Nat → Nat → Bool
  | 0, _ => false
  | r + 1, i => base i || (List.range n).any fun k => stepR base edge n r k && edge k i
section
variable {base : Nat → Bool} {edge : Nat → Nat → Bool} {n : Nat}
theorem stepR_succ {r i : Nat} : stepR base edge n (r + 1) i = true ↔ base i = true ∨ ∃ k, k < n ∧ stepR base edge n r k = true ∧ edge k i = true := by
  simp only [stepR, Bool.or_eq_true, List.any_eq_true, List.mem_range, Bool.and_eq_true]
theorem stepR_mono : ∀ {r i : Nat}, stepR base edge n r i = true → stepR base edge n (r + 1) i = true
  | 0, _, h => by simp [stepR] at h
  | r + 1, i, h => by
    rw [stepR_succ] at h ⊢
    rcases h with h | ⟨k, h1, h2, h3⟩
    · exact .inl h
    · exact .inr ⟨k, h1, stepR_mono h2, h3⟩
theorem stepR_le {r s i : Nat} (h : stepR base edge n r i = true) (hrs : r ≤ s) : stepR base edge n s i = true := by
  induction s with
  | zero => obtain rfl : r = 0 := by omega
            exact h
  | succ s ih =>
    by_cases e : r = s + 1
    · subst e; exact h
    · exact stepR_mono (ih (by omega))
/-- Once nothing is added, nothing ever is. -/
theorem stepR_stop {r : Nat} (hs : ∀ i, i < n → stepR base edge n (r + 1) i = true → stepR base edge n r i = true) : ∀ (d i : Nat), i < n → stepR base edge n (r + d) i = true → stepR base edge n r i = true
  | 0, _, _, h => h
  | d + 1, i, hi, h => by
    refine hs i hi ?_
    rw [show r + (d + 1) = (r + d) + 1 by omega, stepR_succ] at h
    rw [stepR_succ]
    rcases h with h | ⟨k, h1, h2, h3⟩
    · exact .inl h
    · exact .inr ⟨k, h1, stepR_stop hs d k h1 h2, h3⟩
def cntR (base : Nat → Bool) (edge : Nat → Nat → Bool) (n r : Nat) : Nat := (List.range n).countP (stepR base edge n r)
theorem countP_lt {α : Type} {p q : α → Bool} {a : α} : ∀ {l : List α}, (∀ x ∈ l, p x = true → q x = true) → a ∈ l → p a = false → q a = true → l.countP p < l.countP q
  | x :: l, h, ha, h1, h2 => by
    have hl : l.countP p ≤ l.countP q := List.countP_mono_left fun y hy => h y (by simp [hy])
    rw [List.countP_cons, List.countP_cons]
    rcases List.mem_cons.1 ha with rfl | ha
    · rw [h1, h2]; simp; omega
    · have ih := countP_lt (fun y hy => h y (by simp [hy])) ha h1 h2
      have := h x (by simp)
      by_cases hp : p x = true
      · rw [hp, this hp]; simp; omega
      · simp only [Bool.not_eq_true] at hp
        rw [hp]; simp; omega
theorem stepR_grow (r : Nat) : (∃ s, s ≤ r ∧ ∀ i, i < n → stepR base edge n (s + 1) i = true → stepR base edge n s i = true) ∨ r + 1 ≤ cntR base edge n (r + 1) := by
  induction r with
  | zero =>
    by_cases h : ∃ i, i < n ∧ stepR base edge n 1 i = true
    · obtain ⟨i, h1, h2⟩ := h
      refine .inr ?_
      unfold cntR
      exact List.countP_pos_iff.2 ⟨i, by simpa using h1, h2⟩
    · exact .inl ⟨0, Nat.le_refl _, fun i hi hs => absurd ⟨i, hi, hs⟩ h⟩
  | succ r ih =>
    rcases ih with ⟨s, h1, h2⟩ | ih
    · exact .inl ⟨s, by omega, h2⟩
    · by_cases h : ∃ i, i < n ∧ stepR base edge n (r + 2) i = true ∧ stepR base edge n (r + 1) i = false
      · obtain ⟨i, h1, h2, h3⟩ := h
        refine .inr (Nat.lt_of_le_of_lt ih ?_)
        unfold cntR
        exact countP_lt (fun x _ => stepR_mono) (by simpa using h1) h3 h2
      · refine .inl ⟨r + 1, Nat.le_refl _, fun i hi hs => ?_⟩
        by_cases h4 : stepR base edge n (r + 1) i = true
        · exact h4
        · exact absurd ⟨i, hi, hs, by simpa using h4⟩ h
theorem stepR_all {r i : Nat} (hi : i < n) (h : stepR base edge n r i = true) : stepR base edge n n i = true := by
  rcases stepR_grow (base := base) (edge := edge) (n := n) n with ⟨s, h1, h2⟩ | h1
  · rcases Nat.lt_or_ge r s with h3 | h3
    · exact stepR_le h (by omega)
    · have := stepR_stop h2 (r - s) i hi (by rwa [show s + (r - s) = r by omega])
      exact stepR_le this h1
  · have : cntR base edge n (n + 1) ≤ n := by
      unfold cntR
      exact Nat.le_trans List.countP_le_length (by simp)
    omega
theorem stepR_closed {k i : Nat} (hi : i < n) (hk : k < n) (h : stepR base edge n n k = true) (he : edge k i = true) : stepR base edge n n i = true :=
  stepR_all (r := n + 1) hi (stepR_succ.2 (.inr ⟨k, hk, h, he⟩))
theorem stepR_base {i : Nat} (hi : i < n) (h : base i = true) : stepR base edge n n i = true := stepR_all (r := 1) hi (stepR_succ.2 (.inl h))
/-- The least set. -/
theorem stepR_least {p : Nat → Prop} (hb : ∀ i, i < n → base i = true → p i) (he : ∀ k i, k < n → i < n → p k → edge k i = true → p i) : ∀ (r i : Nat), i < n → stepR base edge n r i = true → p i
  | 0, _, _, h => by simp [stepR] at h
  | r + 1, i, hi, h => by
    rcases stepR_succ.1 h with h | ⟨k, h1, h2, h3⟩
    · exact hb i hi h
    · exact he k i h1 hi (stepR_least hb he r k h1 h2) h3
end
def reachL (base : Nat → Bool) (edge : Nat → Nat → Bool) (n : Nat) : List Bool := (List.range n).map (stepR base edge n n)
theorem reachL_length (base : Nat → Bool) (edge : Nat → Nat → Bool) (n : Nat) : (reachL base edge n).length = n := by simp [reachL]
def entD (l : List Ent) (i : Nat) : Ent := l.getD i default
def hangE (l : List Ent) (k i : Nat) : Bool := hangs (entD l k).tx (entD l i)
def aboveL (l : List Ent) (t : Tx) : List Bool := reachL (fun i => hangs t (entD l i)) (hangE l) l.length
def belowL (l : List Ent) (id : ByteArray) : List Bool := reachL (fun i => decide ((i : Int) = findI l id)) (fun k i => hangE l i k) l.length
theorem entD_get {l : List Ent} {i : Nat} (h : i < l.length) : entD l i = l[i] := by unfold entD; rw [List.getD_eq_getElem?_getD, List.getElem?_eq_getElem h]; rfl
/-- A row of marks, on the way. -/
structure Marks (base : Nat → Bool) (edge : Nat → Nat → Bool) (n : Nat) (m : List Bool) : Prop where
  len : m.length = n
  sound : ∀ i (h : i < m.length), m[i] = true → stepR base edge n n i = true
def has (m : List Bool) (i : Nat) : Prop := m[i]? = some true
theorem has_set {m : List Bool} {i j : Nat} {x : Bool} (hi : i < m.length) (h : has m j) : has (m.set i (m[i] || x)) j := by
  unfold has at *
  rw [List.getElem?_set]
  split
  · rename_i e
    subst e
    rw [List.getElem?_eq_getElem hi] at h
    simp at h
    rw [h]; rfl
  · exact h
section
variable {base : Nat → Bool} {edge : Nat → Nat → Bool} {n : Nat} {m : List Bool}
theorem Marks.set {i : Nat} {x : Bool} (h : Marks base edge n m) (hi : i < m.length) (hx : x = true → stepR base edge n n i = true) : Marks base edge n (m.set i (m[i] || x)) := by
  refine ⟨by rw [List.length_set]; exact h.len, fun j hj hm => ?_⟩
  rw [List.getElem_set] at hm
  split at hm
  · rename_i e; subst e
    rcases Bool.or_eq_true_iff.1 hm with h1 | h1
    · exact h.sound _ hi h1
    · exact hx h1
  · exact h.sound j (by simpa using hj) hm
theorem Marks.done (h : Marks base edge n m) (hc : ∀ i, i < n → stepR base edge n n i = true → has m i) : m = reachL base edge n := by
  have hl := h.len
  apply List.ext_getElem
  · rw [reachL_length]; exact hl
  · intro i h1 h2
    simp only [reachL, List.getElem_map, List.getElem_range]
    rw [Bool.eq_iff_iff]
    refine ⟨h.sound i h1, fun hs => ?_⟩
    have := hc i (by omega) hs
    unfold has at this
    rw [List.getElem?_eq_getElem h1] at this
    simpa using this
end
end Go.K
end
