/- Plain: locks, and transactions against coins. Contracts: sum. Plain: entries that are added anew, and dropped from the last one on. The walk of GraphAgain. Plain: what comes in place of others; what an entry conflicts with. Plain: what is left of a list of coins once some are taken. Plain: the reference's sorted list of entries. -/
import Derived.Test.YtilhlcnekkkajaaGreatPa26
set_option linter.unusedVariables false
set_option linter.unusedSimpArgs false
section
namespace Go.K
open Go Go.Proofs.YtilhlcnekkkajaaGreat
/-! Numbers in bytes. -/
def byteAt (s : ByteArray) (i : Nat) : Nat := (s.data.toList.getD i 0).toNat
theorem byteAt_lt (s : ByteArray) (i : Nat) : byteAt s i < 256 := (s.data.toList.getD i 0).toNat_lt
def numAt (s : ByteArray) (a : Nat) : Nat → Nat
  | 0 => 0
  | k + 1 => byteAt s a + 256 * numAt s (a + 1) k
theorem numAt_lt (s : ByteArray) : ∀ (k a : Nat), numAt s a k < 256 ^ k
  | 0, a => by simp [numAt]
  | k + 1, a => by
    have h1 := byteAt_lt s a
    have h2 := numAt_lt s k (a + 1)
    simp only [numAt, Nat.pow_succ]; omega
/-! Locks. -/
structure Br where
  tag : Nat
  delay : Nat
  height : Nat
deriving DecidableEq
def brAt (s : ByteArray) (i : Nat) : Br := ⟨numAt s (1 + 8 * i) 2, numAt s (3 + 8 * i) 2, numAt s (5 + 8 * i) 4⟩
structure BrOk (b : Br) : Prop where
  tag : b.tag < 65536
  delay : b.delay < 65536
  height : b.height < 4294967296
theorem brAt_ok (s : ByteArray) (i : Nat) : BrOk (brAt s i) := ⟨numAt_lt s 2 _, numAt_lt s 2 _, numAt_lt s 4 _⟩
def brE : Enc Br := ⟨fun b => [.int .u16 (b.tag : Nat), .int .u16 (b.delay : Nat), .int .u32 (b.height : Nat)], 3, fun _ => rfl, by decide, by
  intro x v hv
  simp at hv
  rcases hv with rfl | rfl | rfl <;> rfl⟩
def lockN (s : ByteArray) : Nat := (s.size - 1) / 8
def lockForm (s : ByteArray) : Bool := (decide (s.size = 9) || decide (s.size = 17) || decide (s.size = 25)) && decide (byteAt s 0 = lockN s)
def brsL (s : ByteArray) : List Br := (List.range (lockN s)).map (brAt s)
def lowB (b : Br) : Bool := decide (b.height ≤ 1000000)
def lockL (s : ByteArray) : List Br := if lockForm s && (brsL s).all lowB then brsL s else []
def signL (l : List ByteArray) : Option (Nat × Nat) := if l.length = 1 ∧ (l.headD default).size = 3 ∧ byteAt (l.headD default) 0 < 3 then some (byteAt (l.headD default) 0, numAt (l.headD default) 1 2) else none
def chosenB (s : ByteArray) (wit : List ByteArray) : Option Br := (signL wit).bind fun p => ((lockL s)[p.1]?).bind fun b => if b.tag = 0 ∨ b.tag = p.2 then some b else none
def waitsT (t : Tx) (x : TIn) : Int := if x.q < 2147483648 ∧ t.ver ≥ 2 then x.q % 65536 else 0
def openE (s : ByteArray) (t : Tx) (x : TIn) : Int := match chosenB s x.wit with
  | none => 9
  | some b => if waitsT t x < (b.delay : Int) then 10 else if b.height > 0 ∧ (t.lock < (b.height : Int) ∨ x.q = 4294967295) then 10 else 0
def heightB (n : Int) : Bool := decide (0 ≤ n ∧ n ≤ 1000000)
def ripeB (t : Tx) (x : TIn) (coin block : Int) : Bool := heightB coin && heightB block && decide (coin + waitsT t x ≤ block) && (decide (t.lock < block) || t.ins.all fun y => decide (y.q = 4294967295))
/-! Against coins. -/
def inE (v : Pt → Option Cn) (t : Tx) (h : Int) (x : TIn) : Int := match v x.p with
  | none => 8
  | some c => if openE c.s t x ≠ 0 then openE c.s t x else if ripeB t x c.h h then 0 else 10
def inV (v : Pt → Option Cn) (x : TIn) : Int := ((v x.p).getD cn0).v
def feeP (v : Pt → Option Cn) (t : Tx) (h : Int) : Int × Int × Int :=
  if checkT t ≠ 0 then (0, checkT t, -1) else if grantB t then (0, 4, -1) else
  match t.ins.findIdx? fun x => decide (inE v t h x ≠ 0) with
  | some i => (0, inE v t h (t.ins.getD i default), (i : Nat))
  | none => if sumE (t.ins.map (inV v)) ≠ 0 then (0, sumE (t.ins.map (inV v)), -1) else
    if sumV (values t) > sumV (t.ins.map (inV v)) then (0, 12, -1) else (sumV (t.ins.map (inV v)) - sumV (values t), 0, -1)
/-! Dust. -/
def outSz (y : TOut) : Nat := 8 + (vnS y.s.size).size + y.s.size
def dustB (y : TOut) : Bool := decide ((y.s.size : Int) ≤ 40) && decide (y.v < (((3000 * (outSz y + 67) + 999) / 1000 : Nat) : Int))
def dustI (t : Tx) : Int := idxOf dustB t.outs
/-! A pool. -/
def coinAt (m : List En) (p : Pt) : Option Cn := aget m p
def outAt (l : List Ent) (h : Int) (p : Pt) : Option Cn := if outHas l p then ((getE l p.s).tx.outs[p.i.toNat]?).map fun o => ⟨o.v, o.s, h⟩ else none
def overV (f : Pt → Option Cn) (l : List Ent) (h : Int) (p : Pt) : Option Cn := (f p).or (outAt l h p)
def plainP (f : Pt → Option Cn) (l : List Ent) (t : Tx) (h : Int) : Int × Int × Int :=
  if checkT t ≠ 0 then (0, checkT t, -1) else if hasE l (idT t) then (0, 7, -1) else
  if (feeP (overV f l h) t h).2.1 ≠ 0 then (0, (feeP (overV f l h) t h).2) else if 0 ≤ dustI t then (0, 13, dustI t) else ((feeP (overV f l h) t h).1, 0, -1)
def askedF (rate : Int) (size : Nat) : Int := ((((min (max rate 1000) 100000000).toNat * size + 999) / 1000 : Nat) : Int)
def restL (l : List Ent) (t : Tx) : List Ent := dropAll l (idsOf l (evL l t))
def accE (f : Pt → Option Cn) (l : List Ent) (t : Tx) (h rate : Int) : Int × Int :=
  if (plainP f l t h).2.1 ≠ 0 then (plainP f l t h).2 else if (plainP f l t h).1 < askedF rate (sizeT t) then (11, -1) else
  if rulesL l t (plainP f l t h).1 ≠ 0 then (rulesL l t (plainP f l t h).1, -1) else if fitsL (restL l t) t ≠ 0 then (fitsL (restL l t) t, -1) else (0, -1)
def accIds (f : Pt → Option Cn) (l : List Ent) (t : Tx) (h rate : Int) : List ByteArray := if (accE f l t h rate).1 = 0 then idsOf l (evL l t) else []
def accL (f : Pt → Option Cn) (l : List Ent) (t : Tx) (h rate : Int) : List Ent := if (accE f l t h rate).1 = 0 then (addG (restL l t) t (plainP f l t h).1).1 else l
end Go.K
end
section
namespace Go.Proofs.YtilhlcnekkkajaaGreat
open Go Go.K
attribute [local irreducible] regK codeK retK KOp.wp K.Spec u32 leS vnS str zero32 sha2 encT idT sizeT checkT grantB idN stepR workL reachE

theorem entOk_fit {x : Ent} (h : EntOk x) : goodB x.fee = true ∧ 0 ≤ x.size ∧ x.size ≤ 100000000000 := by
  refine ⟨h.fee, ?_⟩
  have := (sz_of_check (chk_sm h.check) h.check).size
  rw [h.size]
  omega
theorem gsum_spec {g : Nat} {M : List Nat} {l : List Ent} {v : Value} {ids : List ByteArray} (w : World) (hG : GrR w g M l) (hM : ∀ b ∈ M, b < w.heap.size) (hi : SlE strE w v ids) (hn : ids.length ≤ 4000) : K.Spec Tryz.prog F.graph_Graph_Sum [.pointer (some ⟨g, 0, none⟩), v] w fun r w' =>
    r = .tuple #[.int .i64 (feeD l ids), .int .i64 (sizeD l ids)] ∧ Ext w w' := by
  have hfit : ∀ x ∈ l, goodB x.fee = true ∧ 0 ≤ x.size ∧ x.size ≤ 100000000000 := fun x hx => entOk_fit (hG.ok x hx)
  refine s_graph_Graph_Sum rfl ?_
  unfold k_graph_Graph_Sum
  refine oy ?_
  repeat' (first|(first|refine go1 ?_|refine zg (fun _ _=>?_)|refine zi (fun _ _=>?_))|refine zL rfl (fun h => ?_) (fun h => ?_)|(refine st_makeMap (E := sK) (fv := fun n : Nat => Value.int .i64 (n : Nat)) (fun bm w1 x1 m1 hb1 => ?_); have lm := m1.lt)|(refine st_len rfl (SlE.ext (w := w) (by exact fx) hi) ?_)|(refine c_loopV (fun (p : Nat × List (ByteArray × Nat)) w' => Ext w w' ∧ p.1 ≤ ids.length ∧ MapE sK (fun n : Nat => Value.int .i64 (n : Nat)) w' bm p.2 ∧ ∀ s, (inB (ids.take p.1) s = false → aget p.2 s = none) ∧ (inB (ids.take p.1) s = true → ∃ c, aget p.2 s = some c ∧ 1 ≤ c ∧ c ≤ p.1)) (fun p => [(0, .pointer (some ⟨g, 0, none⟩)), (6, .int .i64 (feeD l (ids.take p.1))), (7, .int .i64 (sizeD l (ids.take p.1))), (8, .map (some bm)), (14, v), (15, .int .i64 (ids.length : Nat)), (16, .int .i64 p.1)]) (fun p => ids.length - p.1) (0, []) ⟨rfl, rfl, rfl, rfl, rfl, rfl, rfl, trivial⟩ ⟨x1, by simp, m1, fun s => ⟨fun _ => rfl, fun h => by simp [inB] at h⟩⟩ ?_; rintro ⟨i, met⟩ ρ w3 ⟨x3, hi3, hm, hc⟩; simp only at hi3 hm hc; dsimp only))
  · have hil : i < ids.length := by omega
    have hb0 := feeD_bound hfit (ids := ids.take i) (by rw [List.length_take]; omega)
    have hb1' := feeD_bound hfit (ids := ids.take (i + 1)) (by rw [List.length_take]; omega)
    have hf := feeD_take (l := l) hil
    have hz := sizeD_take (l := l) hil
    have hmem : ∀ s, inB (ids.take (i + 1)) s = (inB (ids.take i) s || decide (ids[i] = s)) := fun s => by
      rw [List.take_succ_eq_append_getElem hil]; unfold inB; simp only [List.any_append, List.any_cons, List.any_nil, Bool.or_false]
    refine st_elemE rfl rfl (n := i) (l := ids) (hi.ext x3) rfl hil (fun ad r5 => ?_)
    have r5 : Row w3 ad [Value.string ids[i]] := r5
    generalize hq : feeD l (ids.take i) = fee0 at *
    generalize hq2 : sizeD l (ids.take i) = size0 at *
    cases hin : inB (ids.take i) ids[i] with
    | false =>
      rw [hin] at hf hz
      simp only [Bool.false_eq_true, if_false] at hf hz
      have hno := (hc ids[i]).1 hin
      repeat' (first|(first|refine go1 ?_|refine zg (fun _ _=>?_)|refine zi (fun _ _=>?_))|(refine st_lookup (d := some 22) (E := sK) (fv := fun n : Nat => Value.int .i64 (n : Nat)) (k := ids[i]) rfl rfl hm rfl rfl (fun c hcc => by rw [hno] at hcc; cases hcc) (fun hcn => ?_))|(refine st_mapUpdate (E := sK) (fv := fun n : Nat => Value.int .i64 (n : Nat)) (k := ids[i]) (v := 1) rfl rfl rfl hm rfl rfl (fun w4 c4 m4 => ?_); have x4 : Ext w w4 := (Ext.chg x3 c4).mono (by intro y hy; simp at hy; right; omega); clear x3)|(refine st_lookup (d := some 26) (E := sK) (fv := fun n : Nat => Value.int .i64 (n : Nat)) (k := ids[i]) rfl rfl m4 rfl rfl (fun c hcc => ?_) (fun hcn => by rw [aget_set', if_pos rfl] at hcn; cases hcn); rw [aget_set', if_pos rfl] at hcc; injection hcc with hcc; subst hcc)|(refine zL rfl (fun h9 => absurd h9 (by decide)) (fun h9 => ?_))|(refine zC rfl (get_spec (M := M) ids[i] _ (hG.ext (by exact fx)) (fun b hb => Nat.lt_of_lt_of_le (hM b hb) (Ext.size (by exact fx)))) ?_; rintro _ w5 ⟨ds, rfl, e5, x5⟩; obtain ⟨iv, ov, rfl, o1, o2, o3⟩ := e5; have i1 := o1.one; have i2 := o2.one)|(refine zE (d' := 11) (fun _=>rfl) rfl rfl (by simp [entCs, i1, i2]; exact ⟨rfl, rfl, rfl, rfl, rfl⟩) (fun b6 w6 x6 a6 (r6 : Row w6 ⟨b6, 0, none⟩ (entCs (getE l ids[i]) iv ov)) hb6=>?_)))
      refine ⟨(i + 1, aset met ids[i] 1), ⟨rfl, ?_, ?_, rfl, rfl, rfl, rfl, trivial⟩, ⟨by exact fx, by simp; omega, m4.ext (by exact fx), fun s => ?_⟩, by simp; omega⟩
      · show _ = Value.int .i64 (feeD l (ids.take (i + 1))); rw [hf]; rw [hf] at hb1'; exact congrArg (Value.int .i64) (IntWalk.i64_in _ (by show -9223372036854775808 ≤ fee0 + (getG l ids[i]).fee ∧ fee0 + (getG l ids[i]).fee ≤ 9223372036854775807; omega))
      · show _ = Value.int .i64 (sizeD l (ids.take (i + 1))); rw [hz]; rw [hz] at hb1'; exact congrArg (Value.int .i64) (IntWalk.i64_in _ (by show -9223372036854775808 ≤ size0 + (getG l ids[i]).size ∧ size0 + (getG l ids[i]).size ≤ 9223372036854775807; omega))
      · show (inB (ids.take (i + 1)) s = false → _) ∧ (inB (ids.take (i + 1)) s = true → ∃ c, _ ∧ 1 ≤ c ∧ c ≤ i + 1)
        rw [hmem, aget_set']
        by_cases e : ids[i] = s
        · rw [if_pos e, decide_eq_true e]; exact ⟨fun h => by simp at h, fun _ => ⟨1, rfl, by omega, by omega⟩⟩
        · rw [if_neg e, decide_eq_false e, Bool.or_false]
          exact ⟨(hc s).1, fun h => by obtain ⟨c, q1, q2, q3⟩ := (hc s).2 h; exact ⟨c, q1, q2, by omega⟩⟩
    | true =>
      rw [hin] at hf hz
      simp only [if_true] at hf hz
      obtain ⟨c0, hc0, hc1, hc2⟩ := (hc ids[i]).2 hin
      repeat' (first|(first|refine go1 ?_|refine zg (fun _ _=>?_)|refine zi (fun _ _=>?_))|(refine st_lookup (d := some 22) (E := sK) (fv := fun n : Nat => Value.int .i64 (n : Nat)) (k := ids[i]) rfl rfl hm rfl rfl (fun c hcc => ?_) (fun hcn => by rw [hc0] at hcn; cases hcn); rw [hc0] at hcc; injection hcc with hcc; subst hcc)|(refine st_mapUpdate (E := sK) (fv := fun n : Nat => Value.int .i64 (n : Nat)) (k := ids[i]) (v := c0 + 1) rfl rfl rfl hm rfl rfl (fun w4 c4 m4 => ?_); have x4 : Ext w w4 := (Ext.chg x3 c4).mono (by intro y hy; simp at hy; right; omega); clear x3)|(refine st_lookup (d := some 26) (E := sK) (fv := fun n : Nat => Value.int .i64 (n : Nat)) (k := ids[i]) rfl rfl m4 rfl rfl (fun c hcc => ?_) (fun hcn => by rw [aget_set', if_pos rfl] at hcn; cases hcn); rw [aget_set', if_pos rfl] at hcc; injection hcc with hcc; subst hcc)|(refine zL rfl (fun h9 => ?_) (fun h9 => absurd h9 (by omega))))
      refine ⟨(i + 1, aset met ids[i] (c0 + 1)), ⟨rfl, ?_, ?_, rfl, rfl, rfl, rfl, trivial⟩, ⟨by exact fx, by simp; omega, m4.ext (by exact fx), fun s => ?_⟩, by simp; omega⟩
      · show _ = Value.int .i64 (feeD l (ids.take (i + 1))); rw [hf]; rfl
      · show _ = Value.int .i64 (sizeD l (ids.take (i + 1))); rw [hz]; rfl
      · show (inB (ids.take (i + 1)) s = false → _) ∧ (inB (ids.take (i + 1)) s = true → ∃ c, _ ∧ 1 ≤ c ∧ c ≤ i + 1)
        rw [hmem, aget_set']
        by_cases e : ids[i] = s
        · rw [if_pos e, decide_eq_true e]; exact ⟨fun h => by simp at h, fun _ => ⟨c0 + 1, rfl, by omega, by omega⟩⟩
        · rw [if_neg e, decide_eq_false e, Bool.or_false]
          exact ⟨(hc s).1, fun h => by obtain ⟨c, q1, q2, q3⟩ := (hc s).2 h; exact ⟨c, q1, q2, by omega⟩⟩
  · have ei : i = ids.length := by omega
    subst ei
    rw [List.take_of_length_le (Nat.le_refl _)]
    exact x_ret rfl ⟨rfl, x3⟩
end Go.Proofs.YtilhlcnekkkajaaGreat
end
section
namespace Go.K
open Go
variable {l : List Ent}
end Go.K
end
section
namespace Go.Proofs.YtilhlcnekkkajaaGreat
open Go Go.K
attribute [local irreducible] regK codeK retK KOp.wp K.Spec u32 leS vnS str zero32 sha2 encT idT sizeT checkT grantB idN stepR workL reachE findI dropG addG aboveL belowL inS idsOf feeD sizeD

theorem GrR.apart {w : World} {g : Nat} {M : List Nat} {l : List Ent} (h : GrR w g M l) : l.Pairwise fun x y => ∀ p, spends x p = true → spends y p = false := by
  obtain ⟨b1, vo, b2, m, sp, hP⟩ := h; exact hP.inv.apart
end Go.Proofs.YtilhlcnekkkajaaGreat
end
section
namespace Go.K
open Go Go.Proofs.YtilhlcnekkkajaaGreat
section
variable {l : List Ent} {t : Tx}
theorem has_iff {s : ByteArray} : hasE l s = true ↔ ∃ x ∈ l, x.id = s := by
  unfold hasE
  rw [List.any_eq_true]
  exact ⟨fun ⟨x, h1, h2⟩ => ⟨x, h1, of_decide_eq_true h2⟩, fun ⟨x, h1, h2⟩ => ⟨x, h1, decide_eq_true h2⟩⟩
theorem hit_iff {x : Ent} : hitE t x = true ↔ ∃ b ∈ t.ins, spends x b.p = true := by
  unfold hitE spends
  simp only [List.any_eq_true, decide_eq_true_eq]
  constructor
  · rintro ⟨a, ha, b, hb, e⟩; exact ⟨b, hb, a, ha, e⟩
  · rintro ⟨b, hb, a, ha, e⟩; exact ⟨a, ha, b, hb, e⟩
theorem hit_self {x : Ent} (h : 0 < x.tx.ins.length) : hitE x.tx x = true := by
  rw [hit_iff]
  refine ⟨x.tx.ins[0], List.getElem_mem h, ?_⟩
  unfold spends
  exact List.any_eq_true.2 ⟨_, List.getElem_mem h, decide_eq_true rfl⟩
theorem comes_add (hn : (l.map (·.id)).Nodup) (hc : checkT t = 0) (hi : 0 < t.ins.length) (hg : grantB t = false) {f : Int} (hf : goodB f = true) :
    (addG (leftL l (evL l t)) t f).2 = 0 ∨ ((addG (leftL l (evL l t)) t f).2 = 7 ∧ hasE (leftL l (evL l t)) (idT t) = true ∧ (getE (leftL l (evL l t)) (idT t)).tx ≠ t) := by
  have none : ∀ x ∈ leftL l (evL l t), hitE t x = false := fun x hx => by
    rw [← Bool.not_eq_true]
    exact fun h => leftL_not l _ hn hx (conf_ev hn ((leftL_sub _ _).subset hx) h)
  unfold addG
  rw [if_neg (by simpa using hc), if_neg (by simp [hg]), if_neg (by simp [hf])]
  by_cases h7 : ((leftL l (evL l t)).any fun x => decide (x.id = idT t)) = true
  · rw [if_pos h7]
    refine .inr ⟨rfl, h7, fun e => ?_⟩
    have hm := (has_mem (l := leftL l (evL l t)) h7).1
    have h1 := none _ hm
    have h2 : hitE (getE (leftL l (evL l t)) (idT t)).tx (getE (leftL l (evL l t)) (idT t)) = true := hit_self (by rw [e]; exact hi)
    rw [e] at h2
    rw [h1] at h2
    cases h2
  · rw [if_neg h7]
    have h8 : (t.ins.any fun i => (leftL l (evL l t)).any fun x => spends x i.p) = false := by
      rw [List.any_eq_false]
      intro b hb h
      obtain ⟨x, hx, h2⟩ := List.any_eq_true.1 h
      have h3 := none x hx
      rw [hit_iff.2 ⟨b, hb, h2⟩] at h3
      cases h3
    rw [if_neg (by simp [h8])]
    exact .inl rfl
/-! What an entry itself conflicts with. -/
end
end Go.K
end
section
namespace Go.K
open Go Go.Proofs.YtilhlcnekkkajaaGreat
def delAll (A : List En) (ps : List Pt) : List En := ps.foldl adel A
theorem delAll_mem : ∀ (ps : List Pt) (A : List En) {e : En}, e ∈ delAll A ps → e ∈ A
  | [], A, e, h => h
  | q :: ps, A, e, h => (List.mem_filter.1 (delAll_mem ps (adel A q) h)).1
theorem tot_delAll : ∀ (ps : List Pt) (A : List En), (A.map (·.1)).Nodup → ps.Nodup → (∀ p ∈ ps, (aget A p).isSome = true) → tot (delAll A ps) = tot A - (ps.map fun p => ((aget A p).getD cn0).v).sum
  | [], A, _, _, _ => by simp [delAll]
  | q :: ps, A, hA, hp, hs => by
    rw [List.nodup_cons] at hp
    obtain ⟨c, hc⟩ := Option.isSome_iff_exists.1 (hs q (by simp))
    have hk : ((adel A q).map (·.1)).Nodup := hA.sublist (List.Sublist.map _ List.filter_sublist)
    have hq : ∀ p ∈ ps, aget (adel A q) p = aget A p := fun p h => by
      rw [aget_del, if_neg]
      rintro rfl; exact hp.1 h
    have ih := tot_delAll ps (adel A q) hk hp.2 (fun p h => by rw [hq p h]; exact hs p (by simp [h]))
    show tot (delAll (adel A q) ps) = _
    rw [ih, tot_del hA hc, List.map_cons, List.sum_cons, hc, List.map_congr_left (g := fun p => ((aget A p).getD cn0).v) fun p h => by rw [hq p h]]
    simp only [Option.getD_some]; omega
end Go.K
end
section
namespace Go.K
open Go
def refIdx (l : List En) (p : Pt) : Option Nat := l.findIdx? fun e => decide (e.1 = p)
def refFind (l : List En) (p : Pt) : Int := match refIdx l p with
  | some i => i
  | none => -1
theorem refIdx_none {l : List En} {p : Pt} : refIdx l p = none ↔ ∀ e ∈ l, e.1 ≠ p := by simp [refIdx, List.findIdx?_eq_none_iff]
theorem refIdx_some {l : List En} {p : Pt} {i : Nat} : refIdx l p = some i ↔ ∃ h : i < l.length, l[i].1 = p ∧ ∀ j, ∀ hj : j < i, l[j].1 ≠ p := by
  rw [refIdx, List.findIdx?_eq_some_iff_getElem]; simp
theorem tot_take {l : List En} {i : Nat} (h : i < l.length) : tot (l.take (i + 1)) = tot (l.take i) + l[i].2.v := by
  rw [List.take_succ_eq_append_getElem h, tot_append]; simp
theorem tot_take_le {l : List En} (h : Mon l) (i : Nat) : 0 ≤ tot (l.take i) ∧ tot (l.take i) ≤ tot l := by
  have h1 : 0 ≤ tot (l.take i) := Mon.pos fun e he => h.1 e (List.mem_of_mem_take he)
  have h2 : 0 ≤ tot (l.drop i) := Mon.pos fun e he => h.1 e (List.mem_of_mem_drop he)
  have h3 : tot l = tot (l.take i) + tot (l.drop i) := by rw [← tot_append, List.take_append_drop]
  omega
def insStep (p : Pt) (c : Cn) (s : List En × Bool) (e : En) : List En × Bool := if ptLt p e.1 && !s.2 then (s.1 ++ [(p, c)] ++ [e], true) else (s.1 ++ [e], s.2)
def insRun (p : Pt) (c : Cn) (l : List En) : List En × Bool := l.foldl (insStep p c) ([], false)
def insEnd (p : Pt) (c : Cn) (l : List En) : List En := if (insRun p c l).2 then (insRun p c l).1 else (insRun p c l).1 ++ [(p, c)]
theorem insRun_take {p : Pt} {c : Cn} {l : List En} {i : Nat} (h : i < l.length) : insRun p c (l.take (i + 1)) = insStep p c (insRun p c (l.take i)) l[i] := by
  rw [List.take_succ_eq_append_getElem h, insRun, List.foldl_append]; rfl
theorem insRun_len (p : Pt) (c : Cn) (l : List En) : (insRun p c l).1.length ≤ l.length + 1 ∧ ((insRun p c l).2 = false → (insRun p c l).1.length = l.length) := by
  have key : ∀ (l : List En) (s : List En × Bool), (l.foldl (insStep p c) s).1.length + (if s.2 then 1 else 0) = s.1.length + l.length + (if (l.foldl (insStep p c) s).2 then 1 else 0) := by
    intro l
    induction l with
    | nil => intro s; cases h : s.2 <;> simp [h]
    | cons e l ih =>
      intro s
      rw [List.foldl_cons]
      have := ih (insStep p c s e)
      rw [List.length_cons]
      unfold insStep at this ⊢
      by_cases h : ptLt p e.1 = true
      · cases hs : s.2
        · simp [h, hs] at this ⊢; omega
        · simp [h, hs] at this ⊢; omega
      · simp [h] at this ⊢; omega
  have := key l ([], false)
  simp only [List.length_nil, Nat.zero_add, Bool.false_eq_true, if_false, Nat.add_zero] at this
  unfold insRun
  constructor
  · split at this <;> omega
  · intro h; rw [h] at this; simpa using this
def refPutCode (l : List En) (p : Pt) (c : Cn) : Int := if formedB p c then (if (refIdx l p).isSome then 7 else if goodB (tot l + c.v) then 0 else 3) else 2
def refPut (l : List En) (p : Pt) (c : Cn) : List En := if refPutCode l p c = 0 then insEnd p c l else l
def refTakeCode (l : List En) (p : Pt) : Int := if (refIdx l p).isSome then 0 else 8
def refTake (l : List En) (p : Pt) : List En := match refIdx l p with
  | some i => l.eraseIdx i
  | none => l
def refCoin (l : List En) (p : Pt) : Cn := match refIdx l p with
  | some i => ((l[i]?).map (·.2)).getD cn0
  | none => cn0
theorem refPutCode2 {l : List En} {p : Pt} {c : Cn} (h : formedB p c = false) : refPutCode l p c = 2 := by rw [refPutCode, h]; rfl
theorem refPutCode7 {l : List En} {p : Pt} {c : Cn} {n : Nat} (h : formedB p c = true) (hd : refIdx l p = some n) : refPutCode l p c = 7 := by rw [refPutCode, h, hd]; rfl
theorem refPutCode0 {l : List En} {p : Pt} {c : Cn} (h : formedB p c = true) (hd : refIdx l p = none) : refPutCode l p c = if goodB (tot l + c.v) then 0 else 3 := by rw [refPutCode, h, hd]; rfl
theorem insRun_put {p : Pt} {c : Cn} {l : List En} {i : Nat} (h : i < l.length) (h1 : ptLt p l[i].1 = true) (h2 : (insRun p c (l.take i)).2 = false) : insRun p c (l.take (i + 1)) = ((insRun p c (l.take i)).1 ++ [(p, c)] ++ [l[i]], true) := by
  rw [insRun_take h, insStep, h1, h2]; rfl
theorem insRun_not {p : Pt} {c : Cn} {l : List En} {i : Nat} (h : i < l.length) (h1 : ptLt p l[i].1 = false ∨ (insRun p c (l.take i)).2 = true) : insRun p c (l.take (i + 1)) = ((insRun p c (l.take i)).1 ++ [l[i]], (insRun p c (l.take i)).2) := by
  rw [insRun_take h, insStep]
  rcases h1 with h1 | h1 <;> rw [h1] <;> simp
/-- Sorted by points, strictly. -/
def Srt (l : List En) : Prop := l.Pairwise fun a b => ptLt a.1 b.1 = true
end Go.K
end
