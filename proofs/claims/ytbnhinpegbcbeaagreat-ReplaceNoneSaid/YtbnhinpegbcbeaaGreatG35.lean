/- Contracts: sum. Contracts: nil graphs. DERIVED: THE SHELF's CONTRACTS AT THIS DUMP, IN PLAIN WORDS (tools/lay-plain.mjs out of 'YtbnhinpegbcbeaaGreatShelf3.lean', which tools/lay-shelf.mjs wrote): THE SAME DECLARATIONS UNDER THE SAME NAMES: 'import', 'namespace', 'open', 'def', 'theorem' AND NOTHING ELSE: no command of the shelf's: FOR A HAND-IN. Each laying: the table of numbers ('.._ren') and on -/
import Derived.Shelf.Bits.Mul64
import Derived.Ground.SlgnProg
import Derived.Ground.SlgfProg
import Derived.Test.YtbnhinpegbcbeaaGreatProg
import Derived.Ground.NamesProg
import Derived.Test.YtbnhinpegbcbeaaGreatG34
set_option linter.unusedVariables false
set_option linter.unusedSimpArgs false
section
namespace Go.Proofs.YtbnhinpegbcbeaaGreat
open Go Go.K
attribute [local irreducible] regK codeK retK KOp.wp K.Spec u32 leS vnS str zero32 sha2 encT idT sizeT checkT grantB idN stepR workL reachE

theorem entOk_fit {x : Ent} (h : EntOk x) : goodB x.fee = true ∧ 0 ≤ x.size ∧ x.size ≤ 100000000000 := by
  refine ⟨h.fee, ?_⟩
  have := (sz_of_check (chk_sm h.check) h.check).size
  rw [h.size]
  omega
theorem gsum_spec {g : Nat} {M : List Nat} {l : List Ent} {v : Value} {ids : List ByteArray} (w : World) (hG : GrR w g M l) (hM : ∀ b ∈ M, b < w.heap.size) (hi : SlE strE w v ids) (hn : ids.length ≤ 4000) : K.Spec Tryz.prog F.graph_Graph_Sum [.pointer (some ⟨g, 0, none⟩), v] w fun r w' =>
    r = .tuple #[.int .i64 (feeD l ids), .int .i64 (sizeD l ids)] ∧ Ext w w' := by
  have hfit : ∀ x ∈ l, goodB x.fee = true ∧ 0 ≤ x.size ∧ x.size ≤ 100000000000 := fun x hx => entOk_fit (hG.ok x hx)
  refine s_graph_Graph_Sum rfl ?_
  unfold k_graph_Graph_Sum
  refine ox ?_
  repeat' (first|(first|refine go1 ?_|refine zg (fun _ _=>?_)|refine zi (fun _ _=>?_))|refine zL rfl (fun h => ?_) (fun h => ?_)|(refine st_makeMap (E := sK) (fv := fun n : Nat => Value.int .i64 (n : Nat)) (fun bm w1 x1 m1 hb1 => ?_); have lm := m1.lt)|(refine st_len rfl (SlE.ext (w := w) (by exact fx) hi) ?_)|(refine c_loopV (fun (p : Nat × List (ByteArray × Nat)) w' => Ext w w' ∧ p.1 ≤ ids.length ∧ MapE sK (fun n : Nat => Value.int .i64 (n : Nat)) w' bm p.2 ∧ ∀ s, (inB (ids.take p.1) s = false → aget p.2 s = none) ∧ (inB (ids.take p.1) s = true → ∃ c, aget p.2 s = some c ∧ 1 ≤ c ∧ c ≤ p.1)) (fun p => [(0, .pointer (some ⟨g, 0, none⟩)), (6, .int .i64 (feeD l (ids.take p.1))), (7, .int .i64 (sizeD l (ids.take p.1))), (8, .map (some bm)), (14, v), (15, .int .i64 (ids.length : Nat)), (16, .int .i64 p.1)]) (fun p => ids.length - p.1) (0, []) ⟨rfl, rfl, rfl, rfl, rfl, rfl, rfl, trivial⟩ ⟨x1, by simp, m1, fun s => ⟨fun _ => rfl, fun h => by simp [inB] at h⟩⟩ ?_; rintro ⟨i, met⟩ ρ w3 ⟨x3, hi3, hm, hc⟩; simp only at hi3 hm hc; dsimp only))
  · have hil : i < ids.length := by omega
    have hb0 := feeD_bound hfit (ids := ids.take i) (by rw [List.length_take]; omega)
    have hb1' := feeD_bound hfit (ids := ids.take (i + 1)) (by rw [List.length_take]; omega)
    have hf := feeD_take (l := l) hil
    have hz := sizeD_take (l := l) hil
    have hmem : ∀ s, inB (ids.take (i + 1)) s = (inB (ids.take i) s || decide (ids[i] = s)) := fun s => by
      rw [List.take_succ_eq_append_getElem hil]; unfold inB; simp only [List.any_append, List.any_cons, List.any_nil, Bool.or_false]
    refine st_elemE rfl rfl (n := i) (l := ids) (hi.ext x3) rfl hil (fun ad r5 => ?_)
    have r5 : Row w3 ad [Value.string ids[i]] := r5
    generalize hq : feeD l (ids.take i) = fee0 at *
    generalize hq2 : sizeD l (ids.take i) = size0 at *
    cases hin : inB (ids.take i) ids[i] with
    | false =>
      rw [hin] at hf hz
      simp only [Bool.false_eq_true, if_false] at hf hz
      have hno := (hc ids[i]).1 hin
      repeat' (first|(first|refine go1 ?_|refine zg (fun _ _=>?_)|refine zi (fun _ _=>?_))|(refine st_lookup (d := some 22) (E := sK) (fv := fun n : Nat => Value.int .i64 (n : Nat)) (k := ids[i]) rfl rfl hm rfl rfl (fun c hcc => by rw [hno] at hcc; cases hcc) (fun hcn => ?_))|(refine st_mapUpdate (E := sK) (fv := fun n : Nat => Value.int .i64 (n : Nat)) (k := ids[i]) (v := 1) rfl rfl rfl hm rfl rfl (fun w4 c4 m4 => ?_); have x4 : Ext w w4 := (Ext.chg x3 c4).mono (by intro y hy; simp at hy; right; omega); clear x3)|(refine st_lookup (d := some 26) (E := sK) (fv := fun n : Nat => Value.int .i64 (n : Nat)) (k := ids[i]) rfl rfl m4 rfl rfl (fun c hcc => ?_) (fun hcn => by rw [aget_set', if_pos rfl] at hcn; cases hcn); rw [aget_set', if_pos rfl] at hcc; injection hcc with hcc; subst hcc)|(refine zL rfl (fun h9 => absurd h9 (by decide)) (fun h9 => ?_))|(refine zC rfl (get_spec (M := M) ids[i] _ (hG.ext (by exact fx)) (fun b hb => Nat.lt_of_lt_of_le (hM b hb) (Ext.size (by exact fx)))) ?_; rintro _ w5 ⟨ds, rfl, e5, x5⟩; obtain ⟨iv, ov, rfl, o1, o2, o3⟩ := e5; have i1 := o1.one; have i2 := o2.one)|(refine zE (d' := 11) (fun _=>rfl) rfl rfl (by simp [entCs, i1, i2]; exact ⟨rfl, rfl, rfl, rfl, rfl⟩) (fun b6 w6 x6 a6 (r6 : Row w6 ⟨b6, 0, none⟩ (entCs (getE l ids[i]) iv ov)) hb6=>?_)))
      refine ⟨(i + 1, aset met ids[i] 1), ⟨rfl, ?_, ?_, rfl, rfl, rfl, rfl, trivial⟩, ⟨by exact fx, by simp; omega, m4.ext (by exact fx), fun s => ?_⟩, by simp; omega⟩
      · show _ = Value.int .i64 (feeD l (ids.take (i + 1))); rw [hf]; rw [hf] at hb1'; exact congrArg (Value.int .i64) (IntWalk.i64_in _ (by show -9223372036854775808 ≤ fee0 + (getG l ids[i]).fee ∧ fee0 + (getG l ids[i]).fee ≤ 9223372036854775807; omega))
      · show _ = Value.int .i64 (sizeD l (ids.take (i + 1))); rw [hz]; rw [hz] at hb1'; exact congrArg (Value.int .i64) (IntWalk.i64_in _ (by show -9223372036854775808 ≤ size0 + (getG l ids[i]).size ∧ size0 + (getG l ids[i]).size ≤ 9223372036854775807; omega))
      · show (inB (ids.take (i + 1)) s = false → _) ∧ (inB (ids.take (i + 1)) s = true → ∃ c, _ ∧ 1 ≤ c ∧ c ≤ i + 1)
        rw [hmem, aget_set']
        by_cases e : ids[i] = s
        · rw [if_pos e, decide_eq_true e]; exact ⟨fun h => by simp at h, fun _ => ⟨1, rfl, by omega, by omega⟩⟩
        · rw [if_neg e, decide_eq_false e, Bool.or_false]
          exact ⟨(hc s).1, fun h => by obtain ⟨c, q1, q2, q3⟩ := (hc s).2 h; exact ⟨c, q1, q2, by omega⟩⟩
    | true =>
      rw [hin] at hf hz
      simp only [if_true] at hf hz
      obtain ⟨c0, hc0, hc1, hc2⟩ := (hc ids[i]).2 hin
      repeat' (first|(first|refine go1 ?_|refine zg (fun _ _=>?_)|refine zi (fun _ _=>?_))|(refine st_lookup (d := some 22) (E := sK) (fv := fun n : Nat => Value.int .i64 (n : Nat)) (k := ids[i]) rfl rfl hm rfl rfl (fun c hcc => ?_) (fun hcn => by rw [hc0] at hcn; cases hcn); rw [hc0] at hcc; injection hcc with hcc; subst hcc)|(refine st_mapUpdate (E := sK) (fv := fun n : Nat => Value.int .i64 (n : Nat)) (k := ids[i]) (v := c0 + 1) rfl rfl rfl hm rfl rfl (fun w4 c4 m4 => ?_); have x4 : Ext w w4 := (Ext.chg x3 c4).mono (by intro y hy; simp at hy; right; omega); clear x3)|(refine st_lookup (d := some 26) (E := sK) (fv := fun n : Nat => Value.int .i64 (n : Nat)) (k := ids[i]) rfl rfl m4 rfl rfl (fun c hcc => ?_) (fun hcn => by rw [aget_set', if_pos rfl] at hcn; cases hcn); rw [aget_set', if_pos rfl] at hcc; injection hcc with hcc; subst hcc)|(refine zL rfl (fun h9 => ?_) (fun h9 => absurd h9 (by omega))))
      refine ⟨(i + 1, aset met ids[i] (c0 + 1)), ⟨rfl, ?_, ?_, rfl, rfl, rfl, rfl, trivial⟩, ⟨by exact fx, by simp; omega, m4.ext (by exact fx), fun s => ?_⟩, by simp; omega⟩
      · show _ = Value.int .i64 (feeD l (ids.take (i + 1))); rw [hf]; rfl
      · show _ = Value.int .i64 (sizeD l (ids.take (i + 1))); rw [hz]; rfl
      · show (inB (ids.take (i + 1)) s = false → _) ∧ (inB (ids.take (i + 1)) s = true → ∃ c, _ ∧ 1 ≤ c ∧ c ≤ i + 1)
        rw [hmem, aget_set']
        by_cases e : ids[i] = s
        · rw [if_pos e, decide_eq_true e]; exact ⟨fun h => by simp at h, fun _ => ⟨c0 + 1, rfl, by omega, by omega⟩⟩
        · rw [if_neg e, decide_eq_false e, Bool.or_false]
          exact ⟨(hc s).1, fun h => by obtain ⟨c, q1, q2, q3⟩ := (hc s).2 h; exact ⟨c, q1, q2, by omega⟩⟩
  · have ei : i = ids.length := by omega
    subst ei
    rw [List.take_of_length_le (Nat.le_refl _)]
    exact x_ret rfl ⟨rfl, x3⟩
end Go.Proofs.YtbnhinpegbcbeaaGreat
end
section
namespace Go.Proofs.YtbnhinpegbcbeaaGreat
open Go Go.K
attribute [local irreducible] regK codeK retK KOp.wp K.Spec u32 leS vnS str zero32 sha2 encT idT sizeT checkT grantB idN stepR workL reachE

theorem all_nil (w : World) : K.Spec Tryz.prog F.graph_Graph_All [.pointer none] w fun r w' => r = .slice none 0 0 ∧ Ext w w' := by
  refine s_graph_Graph_All rfl ?_
  unfold k_graph_Graph_All
  refine ox ?_
  repeat' (first|(first|refine go1 ?_|refine zg (fun _ _=>?_)|refine zi (fun _ _=>?_))|(first|refine zD rfl rfl (fun bp wp xp ap rp hp0=>?_)|refine zE (fun _=>rfl) rfl rfl rfl (fun bq wq xq aq rq hq0=>?_)))
  exact x_ret rfl ⟨rfl, by exact fx⟩
end Go.Proofs.YtbnhinpegbcbeaaGreat
end
section
namespace Go.Proofs
open Go.Shelf
def Tryz.lays264_ren : Go.Shelf.Ren := ⟨fun | 264 => 119 | n => n, fun | 53 => 191 | 46 => 222 | n => n, fun | n => n⟩
theorem Tryz.lays264 : Go.Proofs.Lays.n264 Tryz.prog Tryz.lays264_ren := {
  mixed := by kernel_rfl
  f264 := Tryz.func119.trans (congrArg some (by kernel_rfl))
  t46 := Tryz.underlying222
  a46 := Tryz.isAgg222
  z46 := Tryz.sizeOf222
  v46 := Tryz.zeroValue222
  t53 := Tryz.underlying191
  a53 := Tryz.isAgg191
  z53 := Tryz.sizeOf191
  v53 := Tryz.zeroValue191 }
open Go.RowKit Go.Lib in
theorem Tryz.bits_Mul64 (x y : Nat) (hx : x < 18446744073709551616) (hy : y < 18446744073709551616) (w : World) :
    Calls Tryz.prog 119 #[.int .u64 x, .int .u64 y] w fun e w' => e = .returned (.tuple #[.int .u64 ((x * y / 18446744073709551616 : Nat) : Int), .int .u64 ((x * y % 18446744073709551616 : Nat) : Int)]) ∧ w' = w := Any.bits_Mul64 Tryz.lays264 x y hx hy w
end Go.Proofs
end
section
namespace Go.K
open Go
def cntB : List Bool → Int
  | [] => 0
  | b :: m => (if b then 1 else 0) + cntB m
/-- Some ids, and so much more, within a count and a size. -/
def wiP (l : List Ent) (ids : List ByteArray) (more count size : Int) : Bool := decide ((ids.length : Int) + 1 ≤ count) && decide (sizeD l ids + more ≤ size)
def hoP (l : List Ent) (line : List ByteArray) (more count size : Int) : Bool := line.all fun s => wiP l (idsOf l (belowL l s)) more count size
def fitsL (l : List Ent) (t : Tx) : Int :=
  if checkT t ≠ 0 then checkT t
  else if wiP l (idsOf l (aboveL l t)) (sizeT t : Nat) 25 101000 = false then 14
  else if hoP l (idsOf l (aboveL l t)) (sizeT t : Nat) 25 101000 then 0
  else if ((idsOf l (aboveL l t)).length : Int) = 1 ∧ ((sizeT t : Nat) : Int) ≤ 10000 ∧ hoP l (idsOf l (aboveL l t)) (sizeT t : Nat) 26 111000 = true then 0 else 14
end Go.K
end
section
namespace Go.K
open Go
variable {l : List Ent} {s : ByteArray}
theorem aboveL_len (l : List Ent) (t : Tx) : l.length = (aboveL l t).length := (reachL_length _ _ _).symm
theorem belowL_len (l : List Ent) (s : ByteArray) : l.length = (belowL l s).length := (reachL_length _ _ _).symm
theorem ids_no : ∀ {l : List Ent} {m : List Bool}, (∀ b ∈ m, b = false) → idsOf l m = []
  | [], m, _ => by cases m <;> rfl
  | _ :: _, [], _ => rfl
  | x :: l, b :: m, h => by
    have hb := h b (by simp)
    subst hb
    exact ids_no (l := l) (m := m) fun b hb => h b (by simp [hb])
end Go.K
end
section
namespace Go.K
open Go
end Go.K
end
section
namespace Go.K
open Go
inductive Path (l : List Ent) : Nat → Nat → Prop
  | one {i j : Nat} : i < l.length → j < l.length → hangE l i j = true → Path l i j
  | snoc {i k j : Nat} : Path l i k → k < l.length → j < l.length → hangE l k j = true → Path l i j
variable {l : List Ent}
theorem Path.lt {i j : Nat} (h : Path l i j) : i < l.length := by
  induction h with
  | one h _ _ => exact h
  | snoc _ _ _ _ ih => exact ih
theorem Path.cons {i k j : Nat} (hi : i < l.length) (h : hangE l i k = true) (hp : Path l k j) : Path l i j := by
  induction hp with
  | one h1 h2 h3 => exact (Path.one hi h1 h).snoc h1 h2 h3
  | snoc _ h2 h3 h4 ih => exact ih.snoc h2 h3 h4
theorem Path.trans {i k j : Nat} (h1 : Path l i k) (h2 : Path l k j) : Path l i j := by
  induction h2 with
  | one g1 g2 g3 => exact h1.snoc g1 g2 g3
  | snoc _ g2 g3 g4 ih => exact ih.snoc g2 g3 g4
def aboveS (l : List Ent) (t : Tx) (j : Nat) : Bool := stepR (fun i => hangs t (entD l i)) (hangE l) l.length l.length j
def belowS (l : List Ent) (id : ByteArray) (j : Nat) : Bool := stepR (fun i => decide ((i : Int) = findI l id)) (fun k i => hangE l i k) l.length l.length j
theorem findI_at {j : Nat} (hn : (l.map (·.id)).Nodup) (hj : j < l.length) : findI l l[j].id = j := by
  unfold findI
  exact idxOf_hit hj (decide_eq_true rfl) (fun i hi => decide_eq_false fun e => by
    have := entD_inj hn (show i < l.length by omega) hj (by rw [entD_get (by omega), entD_get hj]; exact e)
    omega)
theorem belowS_iff {i j : Nat} (hn : (l.map (·.id)).Nodup) (hi : i < l.length) (hj : j < l.length) : belowS l l[j].id i = true ↔ i = j ∨ Path l i j := by
  have hf := findI_at hn hj
  constructor
  · intro h
    refine stepR_least (p := fun i => i = j ∨ Path l i j) (fun k hk h => .inl ?_) (fun k m hk hm h1 h2 => .inr ?_) _ _ hi h
    · have := of_decide_eq_true h; rw [hf] at this; omega
    · rcases h1 with rfl | h1
      · exact .one hm hk h2
      · exact Path.cons hm h2 h1
  · have h0 : belowS l l[j].id j = true := stepR_base hj (decide_eq_true hf.symm)
    rintro (rfl | h)
    · exact h0
    · have : ∀ {a m : Nat}, Path l a m → belowS l l[j].id m = true → belowS l l[j].id a = true := fun {a m} hp => by
        induction hp with
        | one g1 g2 g3 => exact fun h => stepR_closed (k := _) g1 g2 h g3
        | snoc h1 g2 g3 g4 ih => exact fun h => ih (stepR_closed (k := _) g2 g3 h g4)
      exact this h h0
theorem mem_mask : ∀ {l : List Ent} {m : List Bool} {s : ByteArray}, s ∈ idsOf l m ↔ ∃ i, ∃ h : i < l.length, m[i]? = some true ∧ l[i].id = s
  | [], m, s => by
    have : idsOf [] m = [] := by cases m <;> rfl
    rw [this]; simp
  | x :: l, [], s => by
    have : idsOf (x :: l) [] = [] := rfl
    rw [this]; simp
  | x :: l, b :: m, s => by
    have e : idsOf (x :: l) (b :: m) = if b then x.id :: idsOf l m else idsOf l m := rfl
    rw [e]
    constructor
    · intro h
      by_cases hb : b = true
      · rw [if_pos hb] at h
        rcases List.mem_cons.1 h with h | h
        · exact ⟨0, by simp, by simp [hb], by simp [h]⟩
        · obtain ⟨i, hi, h1, h2⟩ := mem_mask.1 h
          exact ⟨i + 1, by simp; omega, by simpa using h1, by simpa using h2⟩
      · rw [if_neg hb] at h
        obtain ⟨i, hi, h1, h2⟩ := mem_mask.1 h
        exact ⟨i + 1, by simp; omega, by simpa using h1, by simpa using h2⟩
    · rintro ⟨i, hi, h1, h2⟩
      cases i with
      | zero =>
        simp at h1 h2
        rw [if_pos h1, h2]; simp
      | succ i =>
        have h3 : s ∈ idsOf l m := mem_mask.2 ⟨i, by simpa using hi, by simpa using h1, by simpa using h2⟩
        split
        · exact List.mem_cons_of_mem _ h3
        · exact h3
theorem mem_reach {p : Nat → Bool} {j : Nat} (hn : (l.map (·.id)).Nodup) (hj : j < l.length) : l[j].id ∈ idsOf l ((List.range l.length).map p) ↔ p j = true := by
  rw [mem_mask]
  constructor
  · rintro ⟨i, hi, h1, h2⟩
    have := entD_inj hn hi hj (by rw [entD_get hi, entD_get hj]; exact h2)
    subst this
    simpa [hi] using h1
  · intro h
    exact ⟨j, hj, by simp [hj, h], rfl⟩
def inS (ids : List ByteArray) (s : ByteArray) : Bool := ids.any fun x => decide (s = x)
theorem inS_iff {ids : List ByteArray} {s : ByteArray} : inS ids s = true ↔ s ∈ ids := by
  unfold inS
  rw [List.any_eq_true]
  exact ⟨fun ⟨y, h1, h2⟩ => by rw [of_decide_eq_true h2]; exact h1, fun h => ⟨s, h, decide_eq_true rfl⟩⟩
theorem both_self {i : Nat} (hn : (l.map (·.id)).Nodup) (hi : i < l.length) : inS (idsOf l (belowL l l[i].id)) l[i].id = true := by
  have h2 : l[i].id ∈ idsOf l (belowL l l[i].id) ↔ belowS l l[i].id i = true := mem_reach hn hi
  rw [inS_iff, h2, belowS_iff hn hi hi]
  exact .inl rfl
end Go.K
end
section
namespace Go.K
open Go
def upI (q j : Nat) : Nat := if j < q then j else j + 1
def dnI (q i : Nat) : Nat := if i < q then i else i - 1
end Go.K
end
section
namespace Go.K
open Go
def pricedB (f s : Int) : Bool := goodB f && decide (1 ≤ s ∧ s ≤ 1000000)
def cmpR (f s o i : Int) : Int := if pricedB f s && pricedB o i then (if f * i < o * s then -1 else if o * s < f * i then 1 else 0) else 0
def rateR (f s : Int) : Int := if pricedB f s then f * 1000 / s else 0
def scoreL (l : List Ent) (x : Ent) : Int × Int :=
  if cmpR (feeOf l (belowL l x.id)) (szOf l (belowL l x.id)) x.fee x.size > 0 then (feeOf l (belowL l x.id), szOf l (belowL l x.id)) else (x.fee, x.size)
def worstI (l : List Ent) : Nat → Int
  | 0 => -1
  | i + 1 => if worstI l i < 0 ∨ cmpR (scoreL l (entD l i)).1 (scoreL l (entD l i)).2 (scoreL l (entD l (worstI l i).toNat)).1 (scoreL l (entD l (worstI l i).toNat)).2 ≤ 0 then i else worstI l i
theorem worstI_lt (l : List Ent) : ∀ i, -1 ≤ worstI l i ∧ worstI l i < i ∧ (0 < i → 0 ≤ worstI l i)
  | 0 => ⟨by rw [worstI]; omega, by rw [worstI]; omega, by omega⟩
  | i + 1 => by
    have ih := worstI_lt l i
    rw [worstI]
    split
    · refine ⟨?_, ?_, ?_⟩ <;> omega
    · rename_i h
      refine ⟨?_, ?_, ?_⟩ <;> omega
def sizeL (l : List Ent) : Int := (l.map (·.size)).sum
def leftL : List Ent → List Bool → List Ent
  | x :: l, b :: m => if b then leftL l m else x :: leftL l m
  | l, _ => l
theorem leftL_sub : ∀ (l : List Ent) (m : List Bool), (leftL l m).Sublist l
  | [], [] => List.Sublist.slnil
  | [], _ :: _ => List.Sublist.slnil
  | _ :: _, [] => List.Sublist.refl _
  | x :: l, b :: m => by
    rw [leftL]
    cases b
    · exact (leftL_sub l m).cons_cons _
    · exact (leftL_sub l m).cons _
theorem leftL_len : ∀ (l : List Ent) (m : List Bool), (leftL l m).length + (idsOf l m).length = l.length
  | [], [] => rfl
  | [], _ :: _ => rfl
  | _ :: _, [] => rfl
  | x :: l, b :: m => by
    have := leftL_len l m
    rw [leftL, idsOf, List.length_cons]
    cases b
    · simp only [Bool.false_eq_true, if_false, List.length_cons]; omega
    · simp only [if_true, List.length_cons]; omega
def dropAll (l : List Ent) (ids : List ByteArray) : List Ent := ids.foldl (fun l s => (dropG l s).1) l
def worstE (l : List Ent) : Ent := entD l (worstI l l.length).toNat
def wMask (l : List Ent) : List Bool := belowL l (worstE l).id
def askR (p : Int × Int) : Int := min (rateR p.1 p.2 + 1000) 100000000
theorem rateR_nonneg (f s : Int) : 0 ≤ rateR f s := by
  unfold rateR pricedB
  split
  · rename_i h
    rw [Bool.and_eq_true, goodB_iff, decide_eq_true_eq] at h
    exact Int.ediv_nonneg (by omega) (by omega)
  · omega
theorem askR_pos (p : Int × Int) : 1 ≤ askR p ∧ askR p ≤ 100000000 := by
  have := rateR_nonneg p.1 p.2
  unfold askR; omega
theorem worst_lt {l : List Ent} (h : 0 < l.length) : (worstI l l.length).toNat < l.length := by
  have := worstI_lt l l.length
  omega
theorem worst_in {l : List Ent} (hn : (l.map (·.id)).Nodup) (h : 0 < l.length) : (worstE l).id ∈ idsOf l (wMask l) := by
  unfold wMask worstE
  rw [entD_get (worst_lt h)]
  exact inS_iff.1 (both_self hn (worst_lt h))
theorem left_less {l : List Ent} (hn : (l.map (·.id)).Nodup) (h : 0 < l.length) : (leftL l (wMask l)).length < l.length := by
  have h1 := leftL_len l (wMask l)
  have h2 := List.length_pos_of_mem (worst_in hn h)
  omega
def trimF : Nat → Int → List Ent → List Ent × List ByteArray × Int
  | 0, _, l => (l, [], 0)
  | k + 1, m, l => if l.length = 0 ∨ sizeL l ≤ m then (l, [], 0) else
    ((trimF k m (leftL l (wMask l))).1, idsOf l (wMask l) ++ (trimF k m (leftL l (wMask l))).2.1, max (askR (scoreL l (worstE l))) (trimF k m (leftL l (wMask l))).2.2)
def trimL (m : Int) (l : List Ent) : List Ent × List ByteArray × Int := trimF l.length m l
theorem left_nodup {l : List Ent} (hn : (l.map (·.id)).Nodup) (m : List Bool) : ((leftL l m).map (·.id)).Nodup := ((leftL_sub l m).map _).nodup hn
theorem trimF_fuel (m : Int) : ∀ (k : Nat) (l : List Ent), (l.map (·.id)).Nodup → l.length ≤ k → trimF k m l = trimL m l := by
  intro k
  induction k using Nat.strongRecOn with
  | _ k ih =>
    intro l hn hk
    unfold trimL
    cases h : l.length with
    | zero =>
      cases k with
      | zero => rfl
      | succ k => rw [trimF, trimF, if_pos (.inl h)]
    | succ j =>
      cases k with
      | zero => omega
      | succ k =>
        rw [trimF, trimF]
        have h1 := left_less hn (by omega)
        have h2 := left_nodup hn (wMask l)
        rw [ih k (by omega) _ h2 (by omega), ih j (by omega) _ h2 (by omega)]
theorem trimL_stop {m : Int} {l : List Ent} (h : l.length = 0 ∨ sizeL l ≤ m) : trimL m l = (l, [], 0) := by
  unfold trimL
  cases e : l.length with
  | zero => rfl
  | succ j => rw [trimF, if_pos h]
theorem trimL_step {m : Int} {l : List Ent} (hn : (l.map (·.id)).Nodup) (h : ¬ (l.length = 0 ∨ sizeL l ≤ m)) :
    trimL m l = ((trimL m (leftL l (wMask l))).1, idsOf l (wMask l) ++ (trimL m (leftL l (wMask l))).2.1, max (askR (scoreL l (worstE l))) (trimL m (leftL l (wMask l))).2.2) := by
  have h1 := left_less hn (by omega)
  have h3 : trimL m l = trimF l.length m l := rfl
  rw [h3]
  cases e : l.length with
  | zero => omega
  | succ j =>
    rw [trimF, if_neg h, trimF_fuel m j _ (left_nodup hn _) (by omega)]
theorem trim_ind {P : List Ent → Prop} (m : Int) (stop : ∀ l, l.length = 0 ∨ sizeL l ≤ m → P l) (step : ∀ l, (l.map (·.id)).Nodup → ¬ (l.length = 0 ∨ sizeL l ≤ m) → P (leftL l (wMask l)) → P l) (l : List Ent) (hn : (l.map (·.id)).Nodup) : P l := by
  generalize e : l.length = n
  induction n using Nat.strongRecOn generalizing l with
  | _ n ih =>
    by_cases h : l.length = 0 ∨ sizeL l ≤ m
    · exact stop l h
    · exact step l hn h (ih _ (by have := left_less hn (by omega); omega) _ (left_nodup hn _) rfl)
theorem trim_rate {m : Int} {l : List Ent} (hn : (l.map (·.id)).Nodup) : 0 ≤ (trimL m l).2.2 ∧ (trimL m l).2.2 ≤ 100000000 := by
  refine trim_ind (P := fun l => 0 ≤ (trimL m l).2.2 ∧ (trimL m l).2.2 ≤ 100000000) m (fun l h => ?_) (fun l hn h ih => ?_) l hn
  · rw [trimL_stop h]; simp
  · rw [trimL_step hn h]
    have := askR_pos (scoreL l (worstE l))
    simp only; omega
end Go.K
end
section
namespace Go.K
open Go Go.Proofs.YtbnhinpegbcbeaaGreat
theorem feeD_once {l : List Ent} (h : (l.map (·.id)).Nodup) (m : List Bool) : feeD l (idsOf l m) = feeOf l m := by
  unfold feeD
  rw [dist_nodup ((idsOf_sub l m).nodup h)]
  exact (sums_mask h m).1
/-- The score of what bears an id. -/
def scoreP (l : List Ent) (id : ByteArray) : Int × Int := if hasE l id = true then scoreL l (getE l id) else (0, 0)
theorem has_mem {l : List Ent} {id : ByteArray} (h : hasE l id = true) : getE l id ∈ l ∧ (getE l id).id = id := by
  unfold hasE at h
  rw [← find_any, Option.isSome_iff_exists] at h
  obtain ⟨y, hy⟩ := h
  have h1 := List.mem_of_find?_eq_some hy
  have h2 := List.find?_some hy
  unfold getE
  rw [hy]
  exact ⟨h1, by simpa using h2⟩
theorem get_mem {l : List Ent} (hn : (l.map (·.id)).Nodup) {x : Ent} (hx : x ∈ l) : hasE l x.id = true ∧ getE l x.id = x := by
  obtain ⟨i, hi, rfl⟩ := List.getElem_of_mem hx
  have h := getE_get hn hi
  unfold hasE getE
  rw [← find_any, h]
  exact ⟨rfl, rfl⟩
/-! The worst so far, as the program keeps it. -/
def wS (l : List Ent) (i : Nat) : ByteArray := if i = 0 then ⟨#[]⟩ else (entD l (worstI l i).toNat).id
def wP (l : List Ent) (i : Nat) : Int × Int := if i = 0 then (0, 0) else scoreL l (entD l (worstI l i).toNat)
/-- What stays of the first entries. -/
def stayL (a l : List Ent) : List Ent := l.filter fun x => hasE a x.id
/-! Sizes of what was checked. -/
theorem Tx.Sz.sizeM {t : Tx} (h : t.Sz) : 1 ≤ sizeT t ∧ sizeT t ≤ 1000000 := by
  have a1 := h.e3 false
  have a2 := h.e3 true
  have a3 := h.witC t.ins.length
  rw [List.take_length] at a3
  have e1 : (encT false t).size = (enc3 false t).size + 4 := by
    unfold encT enc4
    simp only [Bool.false_eq_true, if_false, ByteArray.size_append, leS_size]
    have h0 : (⟨#[]⟩ : ByteArray).size = 0 := rfl
    omega
  have e2 : (encT true t).size = (enc3 true t).size + (catB encWit t.ins).size + 4 := by
    unfold encT enc4
    simp only [if_true, ByteArray.size_append, leS_size]
  unfold sizeT weightT
  cases witB t
  · rw [e1]; omega
  · rw [e1, e2]; omega
end Go.K
end
section
namespace Go.K
open Go
def cmpU (a b : Nat) : Int := if a < b then -1 else if b < a then 1 else 0
def orU (a b : Int) : Int := if a = 0 then b else a
theorem pricedB_iff {f s : Int} : pricedB f s = true ↔ (0 ≤ f ∧ f ≤ 2100000000000000) ∧ 1 ≤ s ∧ s ≤ 1000000 := by
  unfold pricedB
  rw [Bool.and_eq_true, goodB_iff, decide_eq_true_eq]
theorem pricedB_nat {f s : Int} (h : pricedB f s = true) : ∃ F S : Nat, f = (F : Nat) ∧ s = (S : Nat) ∧ F ≤ 2100000000000000 ∧ 1 ≤ S ∧ S ≤ 1000000 := by
  rw [pricedB_iff] at h
  exact ⟨f.toNat, s.toNat, by omega, by omega, by omega, by omega, by omega⟩
theorem cmpR_nat {F S O I : Nat} (h1 : pricedB (F : Nat) (S : Nat) = true) (h2 : pricedB (O : Nat) (I : Nat) = true) : cmpR (F : Nat) (S : Nat) (O : Nat) (I : Nat) = cmpU (F * I) (O * S) := by
  unfold cmpR cmpU
  rw [h1, h2, Bool.and_self, if_pos rfl, ← Int.natCast_mul, ← Int.natCast_mul]
  generalize F * I = a
  generalize O * S = b
  split <;> (try split) <;> (try split) <;> (try split) <;> omega
theorem cmpR_no {f s o i : Int} (h : pricedB f s = false ∨ pricedB o i = false) : cmpR f s o i = 0 := by
  unfold cmpR
  rw [if_neg]
  rcases h with h | h <;> rw [h] <;> simp
theorem parts_nat (a b : Nat) : a / 1000000 * b + a % 1000000 * b / 1000000 = a * b / 1000000 ∧ a % 1000000 * b % 1000000 = a * b % 1000000 := by
  have e : a * b = 1000000 * (a / 1000000 * b) + a % 1000000 * b := by
    conv => lhs; rw [← Nat.div_add_mod a 1000000]
    rw [Nat.add_mul, Nat.mul_assoc]
  rw [e]
  generalize a / 1000000 * b = x
  generalize a % 1000000 * b = y
  omega
theorem cmpU_parts {a b : Nat} : cmpU a b = if a / 1000000 < b / 1000000 ∨ a / 1000000 = b / 1000000 ∧ a % 1000000 < b % 1000000 then -1 else if b / 1000000 < a / 1000000 ∨ b % 1000000 < a % 1000000 then 1 else 0 := by
  unfold cmpU
  split <;> split <;> (try split) <;> (try split) <;> omega
end Go.K
end
