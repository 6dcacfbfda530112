/- Contracts: ids of numbers; alike transactions; counts. Plain: transactions as small numbers. -/
import Derived.Test.YtfeifodeaphbjaaGreatG33
section
namespace Go.Proofs.YtfeifodeaphbjaaGreat
open Go Go.K
attribute [local irreducible] regK codeK retK KOp.wp K.Spec u32 leS vnS str zero32 sha2 encT idT sizeT checkT grantB

theorem u8_xor (a b : UInt8) : binVal .xor (.int .u8 (a.toNat : Nat)) (.int .u8 (b.toNat : Nat)) = some (.int .u8 ((a ^^^ b).toNat : Nat)) := by
  have e : ∀ x : UInt8, BitVec.ofInt 8 (x.toNat : Nat) = x.toBitVec := fun x => by
    apply BitVec.eq_of_toNat_eq
    have := x.toNat_lt
    simp [BitVec.toNat_ofInt]
  simp only [binVal, isShift, Bool.false_eq_true, if_false, if_true, intBin, IntKind.bits]
  rw [e, e]
  refine congrArg some (congrArg (Value.int .u8) ?_)
  have h : IntKind.u8.wrap ((a.toBitVec ^^^ b.toBitVec).toNat : Nat) = (((a ^^^ b).toNat : Nat) : Int) % 256 := rfl
  refine h.trans ?_
  have := (a ^^^ b).toNat_lt
  omega
theorem shr_n (n i : Nat) : binVal .shr (.int .i64 (n : Nat)) (.int .i64 ((i % 8 : Nat) : Int)) = some (.int .i64 ((n / 2 ^ (i % 8) : Nat) : Int)) := by
  simp only [binVal, isShift, if_true]
  rw [if_neg (by omega)]
  have e : min ((i % 8 : Nat) : Int).toNat IntKind.i64.bits = i % 8 := by simp [IntKind.bits]; omega
  rw [e, Int.fdiv_eq_ediv_of_nonneg _ (by exact_mod_cast Nat.zero_le _)]
  norm_cast
section
variable {P : Program} {d : Option Tmp} {r : KR} {K : Env → World → Prop} {ρ : Env} {w : World}
theorem st_iU8 {x : Operand} {n : Nat} (hx : ev ρ x = .int .i64 (n : Nat)) (k : regK P r K (put ρ d (.int .u8 ((UInt8.ofNat n).toNat : Nat))) w) : regK P (.cons ⟨d, .conv .u8 x, none⟩ r) K ρ w :=
  st_fix rfl (by simp only [KOp.fix, hx]; rw [u8_wrap]) k
end
theorem idn_spec (n : Nat) (w : World) : K.Spec Tryz.prog F.kedgeref05_ID [.int .i64 (n : Nat)] w fun r w' => r = .string (idN n) ∧ Ext w w' := by
  refine s_kedgeref05_ID rfl ?_
  unfold k_kedgeref05_ID
  refine ox ?_
  repeat' (first|(refine st_rem (n := i) (m := 8) rfl rfl (by decide) ?_)|(refine st_bin rfl rfl (shr_n n i) ?_)|(refine st_iU8 rfl ?_)|(refine st_bin rfl rfl (u8_xor (UInt8.ofNat (n / 2 ^ (i % 8))) (UInt8.ofNat i)) ?_)|(first|refine go1 ?_|refine zg (fun _ _=>?_)|refine zi (fun _ _=>?_))|refine zL rfl (fun h => ?_) (fun h => ?_)|(refine c_loopV (fun (i : Nat) w' => Ext w w' ∧ i ≤ 32) (fun i => [(0, .int .i64 (n : Nat)), (3, .string (str (((List.range 32).map fun i => UInt8.ofNat (n / 2 ^ (i % 8)) ^^^ UInt8.ofNat i).take i))), (4, .int .i64 i)]) (fun i => 32 - i) 0 ⟨rfl, congrArg Value.string str_nil.symm, rfl, trivial⟩ ⟨Ext.refl _, by omega⟩ ?_; rintro i ρ w1 ⟨x1, hi⟩)|(refine zI rfl (fun b w2 x2 a2 hb => ?_))|(refine st_strU (l := [UInt8.ofNat (n / 2 ^ (i % 8)) ^^^ UInt8.ofNat i]) rfl (SlE.new (E := u8E) a2 rfl (Nat.le_refl _)) ?_)|(refine st_catS rfl rfl (by rw [str_size, str_size]; simp; omega) ?_))
  · exact ⟨i + 1, ⟨rfl, congrArg Value.string (idN_take n i (by omega)).symm, rfl, trivial⟩, ⟨by exact fx, by omega⟩, by omega⟩
  · exact x_ret rfl ⟨congrArg Value.string (by rw [idN, List.take_of_length_le (by simp; omega)]), by exact fx⟩
theorem count_spec {v : Value} {m : List Bool} (w : World) (hm : SlE boolE w v m) (hn : m.length ≤ 100000000) : K.Spec Tryz.prog F.kedgeref15_count [v] w fun r w' => r = .int .i64 ((m.countP id : Nat) : Int) ∧ Ext w w' := by
  have hc : ∀ i, (m.take i).countP id ≤ m.length := fun i => Nat.le_trans (List.countP_le_length) (by rw [List.length_take]; omega)
  refine s_kedgeref15_count rfl ?_
  unfold k_kedgeref15_count
  refine ox ?_
  repeat' (first|(first|refine go1 ?_|refine zg (fun _ _=>?_)|refine zi (fun _ _=>?_))|refine zL rfl (fun h => ?_) (fun h => ?_)|refine zM rfl (fun h => ?_) (fun h => ?_)|(refine st_len rfl (SlE.ext (w := w) (by exact fx) hm) ?_)|(refine c_loopV (fun (i : Nat) w' => Ext w w' ∧ i ≤ m.length) (fun i => [(0, v), (3, .int .i64 (((m.take i).countP id : Nat) : Int)), (4, .int .i64 i)]) (fun i => m.length - i) 0 ⟨rfl, rfl, rfl, trivial⟩ ⟨Ext.refl _, by omega⟩ ?_; rintro i ρ w1 ⟨x1, hi⟩; have hci := hc i)|(refine st_elemE (E := boolE) rfl rfl (n := i) (l := m) (SlE.ext (w := w) (by exact fx) hm) rfl (by omega) (fun ad r2 => ?_); have hil : i < m.length := (by omega)))
  all_goals first
    | exact ⟨i + 1, ⟨rfl, congrArg (Value.int .i64) (by rw [List.take_succ_eq_append_getElem hil, List.countP_append, h]; simp), rfl, trivial⟩, ⟨by exact fx, by omega⟩, by omega⟩
    | exact x_ret rfl ⟨congrArg (Value.int .i64) (by rw [List.take_of_length_le (by omega)]), by exact fx⟩
    | trace_state
set_option maxHeartbeats 1000000 in
theorem same_spec {M N : List Nat} {cs ds : List Value} {t : Tx} (w : World) (ht : txR.rel M w cs t) (hu : txR.rel N w ds t) (hs : t.Sm) : K.Spec Tryz.prog F.kedgeref05_Same [.agg cs.toArray, .agg ds.toArray] w fun r w' => r = .bool true ∧ Ext w w' := by
  obtain ⟨iv, ov, rfl, h1, h2, h3⟩ := ht
  obtain ⟨iv2, ov2, rfl, g1, g2, g3⟩ := hu
  have hq1 := hs.ins
  have hq2 := hs.outs
  refine s_kedgeref05_Same rfl ?_
  unfold k_kedgeref05_Same
  refine ox ?_
  repeat' (first|(first|refine go1 ?_|refine zg (fun _ _=>?_)|refine zi (fun _ _=>?_))|refine zD rfl rfl (fun bp wp xp ap (rp : Row wp ⟨bp, 0, none⟩ (txCs t iv ov)) hp0=>?_)|refine zD rfl rfl (fun bq wq xq aq (rq : Row wq ⟨bq, 0, none⟩ (txCs t iv2 ov2)) hq0=>?_)|(refine zK rfl (fun h => absurd h (by simp)) (fun _ => ?_))|(refine zN rfl (fun h => absurd rfl h) (fun _ => ?_))|(refine zL rfl (fun h => ?_) (fun h => ?_))|(refine st_lenR (E := inR) (M := M) (l := t.ins) rfl (SlR.ext (w := w) h1 (by exact fx)) ?_)|(refine st_lenR (E := inR) (M := N) (l := t.ins) rfl (SlR.ext (w := w) g1 (by exact fx)) ?_)|(refine st_lenR (E := outR) (M := M) (l := t.outs) rfl (SlR.ext (w := w) h2 (by exact fx)) ?_)|(refine st_lenR (E := outR) (M := N) (l := t.outs) rfl (SlR.ext (w := w) g2 (by exact fx)) ?_)|(refine c_loopV (fun (i : Nat) w' => Ext wq w' ∧ i ≤ t.ins.length) (fun i => [(2, .pointer (some ⟨bp, 0, none⟩)), (3, .pointer (some ⟨bq, 0, none⟩)), (5, .int .i64 i)]) (fun i => t.ins.length - i) 0 ⟨rfl, rfl, rfl, trivial⟩ ⟨Ext.refl _, by omega⟩ ?_; rintro i ρ w1 ⟨x1, hi⟩)|(refine st_elemR (d := some 50) (E := inR) (M := M) rfl rfl (n := i) (l := t.ins) (SlR.ext (w := w) h1 (by exact fx)) rfl (by omega) (fun ad cs r4 he => ?_); obtain ⟨wv, rfl, hw, _⟩ := he; obtain ⟨bs1, cp1, rfl⟩ := hw.form)|(refine st_elemR (d := some 55) (E := inR) (M := N) rfl rfl (n := i) (l := t.ins) (SlR.ext (w := w) g1 (by exact fx)) rfl (by omega) (fun ad cs r4 he => ?_); obtain ⟨wv2, rfl, hw2, _⟩ := he; obtain ⟨bs2, cp2, rfl⟩ := hw2.form)|(refine st_elemR (d := some 117) (E := outR) (M := M) rfl rfl (n := k) (l := t.outs) (SlR.ext (w := w) h2 (by exact fx)) rfl (by omega) (fun ad cs r4 he => ?_); obtain ⟨rfl, _⟩ := he)|(refine st_elemR (d := some 123) (E := outR) (M := N) rfl rfl (n := k) (l := t.outs) (SlR.ext (w := w) g2 (by exact fx)) rfl (by omega) (fun ad cs r4 he => ?_); obtain ⟨rfl, _⟩ := he)|(refine st_elemR (d := some 131) (E := outR) (M := M) rfl rfl (n := k) (l := t.outs) (SlR.ext (w := w) h2 (by exact fx)) rfl (by omega) (fun ad cs r4 he => ?_); obtain ⟨rfl, _⟩ := he)|(refine st_elemR (d := some 137) (E := outR) (M := N) rfl rfl (n := k) (l := t.outs) (SlR.ext (w := w) g2 (by exact fx)) rfl (by omega) (fun ad cs r4 he => ?_); obtain ⟨rfl, _⟩ := he)|(refine zE (fun _=>rfl) rfl rfl rfl (fun b6 w6 x6 a6 (r6 : Row w6 ⟨b6, 0, none⟩ (inCs t.ins[i] (.slice bs1 t.ins[i].wit.length cp1))) hb6=>?_))|(refine zE (fun _=>rfl) rfl rfl rfl (fun b7 w7 x7 a7 (r7 : Row w7 ⟨b7, 0, none⟩ (inCs t.ins[i] (.slice bs2 t.ins[i].wit.length cp2))) hb7=>?_); have hwl := hs.wit _ (List.getElem_mem (show i < t.ins.length by omega)))|(refine c_loopV (fun (j : Nat) w' => Ext w7 w' ∧ j ≤ t.ins[i].wit.length) (fun j => [(2, .pointer (some ⟨bp, 0, none⟩)), (3, .pointer (some ⟨bq, 0, none⟩)), (5, .int .i64 i), (6, .pointer (some ⟨b6, 0, none⟩)), (7, .pointer (some ⟨b7, 0, none⟩)), (8, .int .i64 j)]) (fun j => t.ins[i].wit.length - j) 0 ⟨rfl, rfl, rfl, rfl, rfl, rfl, trivial⟩ ⟨Ext.refl _, by omega⟩ ?_; rintro j ρ8 w8 ⟨x8, hj⟩)|(refine st_lenR (E := strR) (l := t.ins[i].wit) rfl (by exact fx) ?_)|(refine st_elemR (d := some 99) (E := strR) rfl rfl (n := j) (l := t.ins[i].wit) (SlR.ext hw (by exact fx)) rfl (by omega) (fun ad cs r4 he => ?_); subst he)|(refine st_elemR (d := some 104) (E := strR) rfl rfl (n := j) (l := t.ins[i].wit) (SlR.ext hw2 (by exact fx)) rfl (by omega) (fun ad cs r4 he => ?_); subst he)|(refine c_loopV (fun (k : Nat) w' => Ext wq w' ∧ k ≤ t.outs.length) (fun k => [(2, .pointer (some ⟨bp, 0, none⟩)), (3, .pointer (some ⟨bq, 0, none⟩)), (9, .int .i64 k)]) (fun k => t.outs.length - k) 0 ⟨rfl, rfl, rfl, trivial⟩ ⟨by exact fx, by omega⟩ ?_; rintro k ρ9 w9 ⟨x9, hk⟩))
  all_goals first
    | exact ⟨i + 1, ⟨rfl, rfl, rfl, trivial⟩, ⟨by exact fx, by omega⟩, by omega⟩
    | exact ⟨j + 1, ⟨rfl, rfl, rfl, rfl, rfl, rfl, trivial⟩, ⟨by exact fx, by omega⟩, by omega⟩
    | exact ⟨k + 1, ⟨rfl, rfl, rfl, trivial⟩, ⟨by exact fx, by omega⟩, by omega⟩
    | exact x_ret rfl ⟨rfl, by exact fx⟩
    | trace_state
end Go.Proofs.YtfeifodeaphbjaaGreat
end
section
namespace Go.K
open Go
structure Small where
  frm : List UInt8
  idx : UInt8
  outs : UInt8
  fee : Int
  mark : UInt8
  long : UInt8
instance : Inhabited Small := ⟨⟨[], 0, 0, 0, 0, 0⟩⟩
def u8R : R UInt8 := R.flat u8E false
def u8V (b : UInt8) : Value := .int .u8 (b.toNat : Nat)
def smallCs (z : Small) (fv : Value) : List Value := [fv, u8V z.idx, u8V z.outs, .int .i64 z.fee, u8V z.mark, u8V z.long]
def smallR : R Small where
  k := 6
  pos := by decide
  ag := true
  rel := fun M w cs z => ∃ fv, cs = smallCs z fv ∧ SlR u8R M w fv z.frm ∧ is64 z.fee
  len := fun ⟨_, h, _⟩ => by rw [h]; rfl
  one := fun ⟨fv, h, hs, _⟩ v hv => by
    obtain ⟨b, c, rfl⟩ := hs.form
    subst h; simp [smallCs] at hv; rcases hv with rfl | rfl | rfl | rfl | rfl | rfl <;> rfl
  step := fun ⟨fv, h, hs, h2⟩ c hL hM => ⟨fv, h, hs.step c hL hM, h2⟩
/-- What an input that was made is within. -/
structure InMade (x : TIn) : Prop where
  lo : 0 ≤ x.p.i
  hi : x.p.i < 4
  q : x.q = 4294967293
  wit : x.wit = []
  id : x.p.s.size = 32
structure OutMade (y : TOut) : Prop where
  lo : 0 ≤ y.v
  hi : y.v ≤ 2000
  s : y.s.size ≤ 40
structure Made (z : Small) (t : Tx) : Prop where
  ver : t.ver = 2
  lock : t.lock = (z.mark.toNat : Nat)
  ins : t.ins.length = min z.frm.length 4
  each : ∀ x ∈ t.ins, InMade x
  outs : t.outs.length = z.outs.toNat % 3 + 1 + z.long.toNat
  eacho : ∀ y ∈ t.outs, OutMade y
theorem wrap_u8 (b : UInt8) : IntKind.i64.wrap (b.toNat : Nat) = (b.toNat : Nat) := IntWalk.i64_in _ (by have := b.toNat_lt; omega)
theorem rem_u8 (n m : Nat) (h : 0 < m) : binVal .rem (.int .u8 (n : Nat)) (.int .u8 (m : Nat)) = some (.int .u8 ((n % m : Nat) : Int)) := by
  have hne : (m : Int) ≠ 0 := by omega
  simp only [binVal, isShift, Bool.false_eq_true, if_false, if_true, intBin]
  rw [tm, if_neg hne]
theorem rem_u32 (m : Int) : ∃ n : Int, binVal .rem (.int .u32 (IntKind.u32.wrap m)) (.int .u32 4) = some (.int .u32 n) ∧ 0 ≤ n ∧ n < 4 := by
  refine ⟨Int.tmod (IntKind.u32.wrap m) 4, ?_, ?_⟩
  · simp only [binVal, isShift, Bool.false_eq_true, if_false, if_true, intBin]
    rw [if_neg (by decide)]
  · have h : IntKind.u32.wrap m = m % 4294967296 := rfl
    rw [h, Int.tmod_eq_emod_of_nonneg (by omega)]; omega
theorem wrap_n8 {n : Nat} (h : n < 256) : IntKind.i64.wrap (n : Nat) = (n : Nat) := IntWalk.i64_in _ (by omega)
theorem is32_u8 (b : UInt8) : is32 (b.toNat : Nat) := by have := b.toNat_lt; unfold is32; omega
theorem Made.sm {z : Small} {t : Tx} (h : Made z t) : t.Sm := by
  have h1 := h.ins; have h2 := h.outs; have h3 := z.long.toNat_lt
  exact ⟨by omega, by omega, fun x hx => by rw [(h.each x hx).wit]; simp⟩
end Go.K
end
