/- Plain: entries that hang on one another. Contracts: the reference's list of entries. Contracts: ids of numbers; alike transactions; counts. Plain: transactions as small numbers. -/
import Derived.Test.YtbnhinpegbcbeaaGreatG25
set_option linter.unusedVariables false
set_option linter.unusedSimpArgs false
section
namespace Go.K
open Go
def findI (l : List Ent) (id : ByteArray) : Int := idxOf (fun x => decide (x.id = id)) l
def spends (x : Ent) (p : Pt) : Bool := x.tx.ins.any fun i => decide (i.p = p)
def spendI (l : List Ent) (p : Pt) : Int := idxOf (fun x => spends x p) l
def hangs (t : Tx) (x : Ent) : Bool := t.ins.any fun i => decide (i.p.s = x.id) && decide (i.p.i < (x.tx.outs.length : Int))
def idsOf : List Ent → List Bool → List ByteArray
  | x :: l, b :: m => if b then x.id :: idsOf l m else idsOf l m
  | _, _ => []
def feeOf : List Ent → List Bool → Int
  | x :: l, b :: m => (if b then x.fee else 0) + feeOf l m
  | _, _ => 0
def szOf : List Ent → List Bool → Int
  | x :: l, b :: m => (if b then x.size else 0) + szOf l m
  | _, _ => 0
def dropG (l : List Ent) (id : ByteArray) : List Ent × Int := if findI l id < 0 then (l, 8) else (l.eraseIdx (findI l id).toNat, 0)
def addG (l : List Ent) (t : Tx) (fee : Int) : List Ent × Int :=
  if checkT t ≠ 0 then (l, checkT t) else if grantB t then (l, 4) else if !goodB fee then (l, 3) else if l.any (fun x => decide (x.id = idT t)) then (l, 7)
  else if t.ins.any (fun i => l.any fun x => spends x i.p) then (l, 15) else (l ++ [⟨t, idT t, fee, (sizeT t : Nat)⟩], 0)
theorem idsOf_append {l l' : List Ent} {m m' : List Bool} (h : l.length = m.length) : idsOf (l ++ l') (m ++ m') = idsOf l m ++ idsOf l' m' := by
  induction l generalizing m with
  | nil => cases m with
    | nil => cases l' <;> cases m' <;> rfl
    | cons => simp at h
  | cons x l ih => cases m with
    | nil => simp at h
    | cons b m =>
      have := ih (m := m) (by simpa using h)
      simp only [List.cons_append, idsOf, this]; split <;> rfl
theorem feeOf_append {l l' : List Ent} {m m' : List Bool} (h : l.length = m.length) : feeOf (l ++ l') (m ++ m') = feeOf l m + feeOf l' m' := by
  induction l generalizing m with
  | nil => cases m with
    | nil => cases l' <;> cases m' <;> simp [feeOf]
    | cons => simp at h
  | cons x l ih => cases m with
    | nil => simp at h
    | cons b m =>
      have := ih (m := m) (by simpa using h)
      simp only [List.cons_append, feeOf, this]; omega
theorem szOf_append {l l' : List Ent} {m m' : List Bool} (h : l.length = m.length) : szOf (l ++ l') (m ++ m') = szOf l m + szOf l' m' := by
  induction l generalizing m with
  | nil => cases m with
    | nil => cases l' <;> cases m' <;> simp [szOf]
    | cons => simp at h
  | cons x l ih => cases m with
    | nil => simp at h
    | cons b m =>
      have := ih (m := m) (by simpa using h)
      simp only [List.cons_append, szOf, this]; omega
section
variable {l : List Ent} {m : List Bool} (h : l.length = m.length) {i : Nat} (hi : i < l.length)
include h hi
theorem idsOf_take : idsOf (l.take (i + 1)) (m.take (i + 1)) = idsOf (l.take i) (m.take i) ++ (if m[i]'(h ▸ hi) then [l[i].id] else []) := by
  rw [List.take_succ_eq_append_getElem hi, List.take_succ_eq_append_getElem (h ▸ hi), idsOf_append (by simp [h])]
  simp only [idsOf]
theorem feeOf_take : feeOf (l.take (i + 1)) (m.take (i + 1)) = feeOf (l.take i) (m.take i) + (if m[i]'(h ▸ hi) then l[i].fee else 0) := by
  rw [List.take_succ_eq_append_getElem hi, List.take_succ_eq_append_getElem (h ▸ hi), feeOf_append (by simp [h])]
  simp [feeOf]
theorem szOf_take : szOf (l.take (i + 1)) (m.take (i + 1)) = szOf (l.take i) (m.take i) + (if m[i]'(h ▸ hi) then l[i].size else 0) := by
  rw [List.take_succ_eq_append_getElem hi, List.take_succ_eq_append_getElem (h ▸ hi), szOf_append (by simp [h])]
  simp [szOf]
end
theorem idsOf_length : ∀ (l : List Ent) (m : List Bool), (idsOf l m).length ≤ l.length
  | [], _ => by simp [idsOf]
  | _ :: _, [] => by simp [idsOf]
  | x :: l, b :: m => by
    have := idsOf_length l m
    simp only [idsOf]; split <;> simp <;> omega
/-- What an entry is within. -/
structure EntOk (x : Ent) : Prop where
  check : checkT x.tx = 0
  grant : grantB x.tx = false
  fee : goodB x.fee = true
  id : x.id = idT x.tx
  size : x.size = (sizeT x.tx : Nat)
theorem feeOf_bound {l : List Ent} (hl : ∀ x ∈ l, goodB x.fee = true) (m : List Bool) : 0 ≤ feeOf l m ∧ feeOf l m ≤ 2100000000000000 * l.length := by
  induction l generalizing m with
  | nil => simp [feeOf]
  | cons x l ih => cases m with
    | nil => simp [feeOf]; omega
    | cons b m =>
      have h1 := ih (fun y hy => hl y (by simp [hy])) m
      have h2 := (goodB_iff x.fee).1 (hl x (by simp))
      simp only [feeOf, List.length_cons]
      split <;> omega
theorem szOf_bound {c : Nat} {l : List Ent} (hl : ∀ x ∈ l, 0 ≤ x.size ∧ x.size ≤ c) (m : List Bool) : 0 ≤ szOf l m ∧ szOf l m ≤ c * l.length := by
  induction l generalizing m with
  | nil => simp [szOf]
  | cons x l ih => cases m with
    | nil => simp only [szOf]; refine ⟨Int.le_refl _, Int.mul_nonneg (by omega) (by omega)⟩
    | cons b m =>
      have h1 := ih (fun y hy => hl y (by simp [hy])) m
      have h2 := hl x (by simp)
      simp only [szOf, List.length_cons]
      rw [Int.natCast_add, Int.mul_add]
      split <;> omega
/-- The bytes of a number that stand for an id. -/
def idN (n : Nat) : ByteArray := str ((List.range 32).map fun i => UInt8.ofNat (n / 2 ^ (i % 8)) ^^^ UInt8.ofNat i)
theorem idN_size (n : Nat) : (idN n).size = 32 := by rw [idN, str_size]; simp
theorem idN_take (n i : Nat) (h : i < 32) : str (((List.range 32).map fun i => UInt8.ofNat (n / 2 ^ (i % 8)) ^^^ UInt8.ofNat i).take (i + 1)) = str (((List.range 32).map fun i => UInt8.ofNat (n / 2 ^ (i % 8)) ^^^ UInt8.ofNat i).take i) ++ str [UInt8.ofNat (n / 2 ^ (i % 8)) ^^^ UInt8.ofNat i] := by
  rw [List.take_succ_eq_append_getElem (by simpa using h), str_append]
  simp
def sameT (t u : Tx) : Bool := decide (t = u)
end Go.K
end
section
namespace Go.Proofs.YtbnhinpegbcbeaaGreat
open Go Go.K
attribute [local irreducible] regK codeK retK KOp.wp K.Spec u32 leS vnS str zero32 sha2 encT idT sizeT checkT grantB

def boolE : Enc Bool := ⟨fun b => [.bool b], 1, fun _ => rfl, by decide, by intro x v hv; simp at hv; subst hv; rfl⟩
theorem find_spec {M : List Nat} {v : Value} {l : List Ent} (id : ByteArray) (w : World) (hl : SlR entR M w v l) (hn : l.length ≤ 100000000) : K.Spec Tryz.prog F.kedgeref14_Find [v, .string id] w fun r w' => r = .int .i64 (findI l id) ∧ w' = w := by
  refine s_kedgeref14_Find rfl ?_
  unfold k_kedgeref14_Find
  refine ox ?_
  repeat' (first|(first|refine go1 ?_|refine zg (fun _ _=>?_)|refine zi (fun _ _=>?_))|refine zL rfl (fun h => ?_) (fun h => ?_)|refine zG rfl (by exact fx) ?_|(refine c_loopV (fun (i : Nat) w' => Ext w w' ∧ w' = w ∧ i ≤ l.length ∧ ∀ j, j < i → ∀ h : j < l.length, decide (l[j].id = id) = false) (fun i => [(0, v), (1, .string id), (5, .int .i64 i)]) (fun i => l.length - i) 0 ⟨rfl, rfl, rfl, trivial⟩ ⟨Ext.refl _, rfl, by omega, by omega⟩ ?_; rintro i ρ w1 ⟨x1, hw, hi, hk⟩)|(refine st_elemR rfl rfl (n := i) (l := l) (by exact fx) rfl (by omega) (fun ad cs r2 he => ?_); obtain ⟨iv, ov, rfl, h1, h2, h3⟩ := he; have hil : i < l.length := (by omega)))
  · exact x_ret rfl ⟨congrArg (Value.int .i64) (idxOf_hit hil (decide_eq_true h) (fun j hj => hk j hj (by omega))).symm, hw⟩
  · refine ⟨i + 1, ⟨rfl, rfl, rfl, trivial⟩, ⟨by exact fx, hw, by omega, fun j hj hl => ?_⟩, by omega⟩
    by_cases hji : j = i
    · subst hji; exact decide_eq_false h
    · exact hk j (by omega) hl
  · exact x_ret rfl ⟨congrArg (Value.int .i64) (idxOf_miss (fun j hj => hk j (by omega) hj)).symm, hw⟩
theorem rspender_spec {M : List Nat} {v : Value} {l : List Ent} (p : Pt) (w : World) (hl : SlR entR M w v l) (hn : l.length ≤ 100000000) (hs : ∀ x ∈ l, x.tx.ins.length ≤ 100000000) : K.Spec Tryz.prog F.kedgeref14_Spender [v, .agg p.cs.toArray] w fun r w' => r = .int .i64 (spendI l p) ∧ Ext w w' := by
  refine s_kedgeref14_Spender rfl ?_
  unfold k_kedgeref14_Spender
  refine ox ?_
  repeat' (first|(first|refine go1 ?_|refine zg (fun _ _=>?_)|refine zi (fun _ _=>?_))|(first|refine zD rfl rfl (fun bp wp xp ap rp hp0=>?_)|refine zE (fun _=>rfl) rfl rfl rfl (fun bq wq xq aq rq hq0=>?_))|refine zL rfl (fun h => ?_) (fun h => ?_)|refine zM rfl (fun h => ?_) (fun h => ?_)|refine zJ rfl (fun h => ?_) (fun h => ?_)|refine zG rfl (by exact fx) ?_|(refine c_loopV (fun (i : Nat) w' => Ext wp w' ∧ i ≤ l.length ∧ ∀ j, j < i → ∀ h : j < l.length, spends l[j] p = false) (fun i => [(0, v), (3, .pointer (some ⟨bp, 0, none⟩)), (5, .int .i64 i)]) (fun i => l.length - i) 0 ⟨rfl, rfl, rfl, trivial⟩ ⟨Ext.refl _, by omega, by omega⟩ ?_; rintro i ρ w1 ⟨x1, hi, hk⟩)|(have hil : i < l.length := (by omega); have hsl := hs _ (List.getElem_mem hil); refine c_loopV (fun (j : Nat) w' => Ext wp w' ∧ j ≤ l[i].tx.ins.length ∧ ∀ q, q < j → ∀ h : q < l[i].tx.ins.length, decide (l[i].tx.ins[q].p = p) = false) (fun j => [(0, v), (3, .pointer (some ⟨bp, 0, none⟩)), (5, .int .i64 i), (6, .int .i64 j)]) (fun j => l[i].tx.ins.length - j) 0 ⟨rfl, rfl, rfl, rfl, trivial⟩ ⟨by exact fx, by omega, by omega⟩ ?_; rintro j ρ2 w2 ⟨x2, hj, hkj⟩)|(refine st_elemR (E := entR) rfl rfl (n := i) (l := l) (by exact fx) rfl hil (fun ad cs r2 he => ?_); obtain ⟨iv, ov, rfl, h1, h2, h3⟩ := he)|(refine st_elemR (E := inR) rfl rfl (n := j) (l := l[i].tx.ins) (by exact fx) rfl (by omega) (fun ad cs r4 he => ?_); obtain ⟨wv, rfl, hw, _⟩ := he; obtain ⟨_, _, rfl⟩ := hw.form))
  all_goals first
    | (refine x_ret rfl ⟨congrArg (Value.int .i64) (idxOf_hit (p := fun x => spends x p) hil ?_ (fun j hj => hk j hj (by omega))).symm, by exact fx⟩
       exact List.any_eq_true.2 ⟨_, List.getElem_mem (show j < l[i].tx.ins.length by omega), decide_eq_true (pt_ext (by assumption) (by assumption))⟩)
    | exact ⟨j + 1, ⟨rfl, rfl, rfl, rfl, trivial⟩, ⟨by exact fx, by omega, fun q hq hl => by
        by_cases hqj : q = j
        · subst hqj; exact decide_eq_false (fun e => by subst e; exact h rfl)
        · exact hkj q (by omega) hl⟩, by omega⟩
    | exact ⟨i + 1, ⟨rfl, rfl, rfl, trivial⟩, ⟨by exact fx, by omega, fun q hq hl => by
        by_cases hqi : q = i
        · subst hqi; exact any_none fun r hr => hkj r (by omega) hr
        · exact hk q (by omega) hl⟩, by omega⟩
    | exact x_ret rfl ⟨congrArg (Value.int .i64) (idxOf_miss (fun j hj => hk j (by omega) hj)).symm, by exact fx⟩
    | trace_state
theorem wrap_i {n : Int} (h : is32 n) : IntKind.i64.wrap n = n := IntWalk.i64_in _ (by unfold is32 at h; omega)
theorem hangs_spec {M : List Nat} {cs ds : List Value} {t : Tx} {x : Ent} (w : World) (ht : txR.rel M w cs t) (hx : entR.rel M w ds x) (hs : t.ins.length ≤ 100000000) : K.Spec Tryz.prog F.kedgeref14_Hangs [.agg cs.toArray, .agg ds.toArray] w fun r w' => r = .bool (hangs t x) ∧ Ext w w' := by
  obtain ⟨iv, ov, rfl, h1, h2, h3⟩ := ht
  obtain ⟨iv2, ov2, rfl, g1, g2, g3⟩ := hx
  refine s_kedgeref14_Hangs rfl ?_
  unfold k_kedgeref14_Hangs
  refine ox ?_
  repeat' (first|(first|refine go1 ?_|refine zg (fun _ _=>?_)|refine zi (fun _ _=>?_))|refine zD rfl rfl (fun bp wp xp ap (rp : Row wp ⟨bp, 0, none⟩ (txCs t iv ov)) hp0=>?_)|refine zD rfl rfl (fun bq wq xq aq rq hq0=>?_)|refine zL rfl (fun h => ?_) (fun h => ?_)|refine zM rfl (fun h => ?_) (fun h => ?_)|refine zJ rfl (fun h => ?_) (fun h => ?_)|refine zG rfl (by exact fx) ?_|(refine c_loopV (fun (i : Nat) w' => Ext wq w' ∧ i ≤ t.ins.length ∧ ∀ j, j < i → ∀ h : j < t.ins.length, (decide (t.ins[j].p.s = x.id) && decide (t.ins[j].p.i < (x.tx.outs.length : Int))) = false) (fun i => [(2, .pointer (some ⟨bp, 0, none⟩)), (3, .pointer (some ⟨bq, 0, none⟩)), (5, .int .i64 i)]) (fun i => t.ins.length - i) 0 ⟨rfl, rfl, rfl, trivial⟩ ⟨Ext.refl _, by omega, by omega⟩ ?_; rintro i ρ w1 ⟨x1, hi, hk⟩)|(refine st_elemR (E := inR) rfl rfl (n := i) (l := t.ins) (by exact fx) rfl (by omega) (fun ad cs r4 he => ?_); obtain ⟨wv, rfl, hw, hp5, hp6⟩ := he; obtain ⟨_, _, rfl⟩ := hw.form; have hil : i < t.ins.length := (by omega)))
  all_goals first
    | (rw [wrap_i hp5] at h
       first
       | (refine x_ret rfl ⟨congrArg Value.bool (any_at (p := fun i : TIn => decide (i.p.s = x.id) && decide (i.p.i < (x.tx.outs.length : Int))) hil ?_).symm, by exact fx⟩
          simp only [decide_eq_true_eq, Bool.and_eq_true]; exact ⟨by assumption, h⟩)
       | exact ⟨i + 1, ⟨rfl, rfl, rfl, trivial⟩, ⟨by exact fx, by omega, fun q hq hl => by
            by_cases hqi : q = i
            · subst hqi; rw [decide_eq_false h, Bool.and_false]
            · exact hk q (by omega) hl⟩, by omega⟩)
    | exact ⟨i + 1, ⟨rfl, rfl, rfl, trivial⟩, ⟨by exact fx, by omega, fun q hq hl => by
        by_cases hqi : q = i
        · subst hqi; rw [decide_eq_false h]; rfl
        · exact hk q (by omega) hl⟩, by omega⟩
    | exact x_ret rfl ⟨congrArg Value.bool (any_none fun j hj => hk j (by omega) hj).symm, by exact fx⟩
    | trace_state
theorem ids_spec {M : List Nat} {v u : Value} {l : List Ent} {m : List Bool} (w : World) (hl : SlR entR M w v l) (hm : SlE boolE w u m) (hlm : l.length = m.length) (hn : l.length ≤ 100000000) : K.Spec Tryz.prog F.kedgeref14_IDs [v, u] w fun r w' => Own strE T.string w.heap.size w' r (idsOf l m) ∧ Ext w w' := by
  refine s_kedgeref14_IDs rfl ?_
  unfold k_kedgeref14_IDs
  refine ox ?_
  repeat' (first|(first|refine go1 ?_|refine zg (fun _ _=>?_)|refine zi (fun _ _=>?_))|refine zL rfl (fun h => ?_) (fun h => ?_)|refine zM rfl (fun h => ?_) (fun h => ?_)|refine zG rfl (by exact fx) ?_|(refine c_loopV (fun (p : Nat × Value) w' => Ext w w' ∧ p.1 ≤ l.length ∧ Own strE T.string w.heap.size w' p.2 (idsOf (l.take p.1) (m.take p.1))) (fun p => [(0, v), (1, u), (5, p.2), (6, .int .i64 p.1)]) (fun p => l.length - p.1) (0, .slice none 0 0) ⟨rfl, rfl, rfl, rfl, trivial⟩ ⟨Ext.refl _, by simp, Own.nil _ _ _⟩ ?_; rintro ⟨i, vo⟩ ρ w1 ⟨x1, hi, ho⟩; simp only at hi ho; dsimp only)|(refine st_elemE (d := some 15) (E := boolE) rfl rfl (n := i) (l := m) (SlE.ext (w := w) (by exact fx) hm) rfl (by omega) (fun ad r2 => ?_); have hil : i < l.length := (by omega))|(refine st_elemR (d := some 20) (E := entR) rfl rfl (n := i) (l := l) (by exact fx) rfl (by omega) (fun ad cs r4 he => ?_); obtain ⟨iv, ov, rfl, h1, h2, h3⟩ := he)|(refine zI rfl (fun b w3 x3 a3 hb => ?_))|(refine st_append (E := strE) (v := vo) (l2 := [l[i].id]) rfl (ho.ext (by exact fx)) (Ext.size (w := w) (by exact fx)) rfl rfl (sl_new a3 rfl) rfl rfl (by have := idsOf_length (l.take i) (m.take i); have := List.length_take_le i l; simp only [List.length_cons, List.length_nil]; omega) (fun v5 w5 ho5 c5 => ?_)))
  all_goals first
    | exact ⟨(i + 1, v5), ⟨rfl, rfl, rfl, rfl, trivial⟩, ⟨(Ext.chg (w := w) (by exact fx) c5).mono (fun b hb => .inr (ho.base b (by simpa using hb))), by simp; omega, by rw [idsOf_take hlm hil, h]; exact ho5⟩, by simp; omega⟩
    | exact ⟨(i + 1, vo), ⟨rfl, rfl, rfl, rfl, trivial⟩, ⟨by exact fx, by simp; omega, by rw [idsOf_take hlm hil, h]; simpa using ho⟩, by simp; omega⟩
    | (rw [List.take_of_length_le (l := l) (by omega), List.take_of_length_le (l := m) (by omega)] at ho
       exact x_ret rfl ⟨ho, by exact fx⟩)
    | trace_state
theorem rsum14_spec {M : List Nat} {v u : Value} {l : List Ent} {m : List Bool} (w : World) (hl : SlR entR M w v l) (hm : SlE boolE w u m) (hlm : l.length = m.length) (hn : l.length ≤ 1000) (hf : ∀ x ∈ l, goodB x.fee = true) (hz : ∀ x ∈ l, 0 ≤ x.size ∧ x.size ≤ (100000000000 : Nat)) : K.Spec Tryz.prog F.kedgeref14_Sum [v, u] w fun r w' => r = .tuple #[.int .i64 (feeOf l m), .int .i64 (szOf l m)] ∧ Ext w w' := by
  have hF : ∀ i m', 0 ≤ feeOf (l.take i) m' ∧ feeOf (l.take i) m' ≤ 2100000000000000 * 1000 := fun i m' => by
    have h1 := feeOf_bound (l := l.take i) (fun x hx => hf x (List.mem_of_mem_take hx)) m'
    have h2 : (l.take i).length ≤ l.length := by rw [List.length_take]; omega
    omega
  have hS : ∀ i m', 0 ≤ szOf (l.take i) m' ∧ szOf (l.take i) m' ≤ 100000000000 * 1000 := fun i m' => by
    have h1 := szOf_bound (c := 100000000000) (l := l.take i) (fun x hx => hz x (List.mem_of_mem_take hx)) m'
    have h2 : (l.take i).length ≤ l.length := by rw [List.length_take]; omega
    omega
  refine s_kedgeref14_Sum rfl ?_
  unfold k_kedgeref14_Sum
  refine ox ?_
  repeat' (first|(first|refine go1 ?_|refine zg (fun _ _=>?_)|refine zi (fun _ _=>?_))|refine zL rfl (fun h => ?_) (fun h => ?_)|refine zM rfl (fun h => ?_) (fun h => ?_)|refine zG rfl (by exact fx) ?_|(refine c_loopV (fun (i : Nat) w' => Ext w w' ∧ i ≤ l.length) (fun i => [(0, v), (1, u), (6, .int .i64 (feeOf (l.take i) (m.take i))), (7, .int .i64 (szOf (l.take i) (m.take i))), (8, .int .i64 i)]) (fun i => l.length - i) 0 ⟨rfl, rfl, rfl, rfl, rfl, trivial⟩ ⟨Ext.refl _, by omega⟩ ?_; rintro i ρ w1 ⟨x1, hi⟩; have f1 := hF i (m.take i); have s1 := hS i (m.take i))|(refine st_elemE (d := some 17) (E := boolE) rfl rfl (n := i) (l := m) (SlE.ext (w := w) (by exact fx) hm) rfl (by omega) (fun ad r2 => ?_); have hil : i < l.length := (by omega); have f2 := (goodB_iff _).1 (hf _ (List.getElem_mem hil)); have s2 := hz _ (List.getElem_mem hil))|(refine st_elemR (E := entR) rfl rfl (n := i) (l := l) (by exact fx) rfl (by omega) (fun ad cs r4 he => ?_); obtain ⟨iv, ov, rfl, h1, h2, h3⟩ := he))
  all_goals first
    | exact ⟨i + 1, ⟨rfl, rfl, congrArg (Value.int .i64) (by rw [feeOf_take hlm hil, h]; rfl), congrArg (Value.int .i64) (by rw [szOf_take hlm hil, h]; rfl), rfl, trivial⟩, ⟨by exact fx, by omega⟩, by omega⟩
    | exact ⟨i + 1, ⟨rfl, rfl, congrArg (Value.int .i64) (by rw [feeOf_take hlm hil, h]; simp), congrArg (Value.int .i64) (by rw [szOf_take hlm hil, h]; simp), rfl, trivial⟩, ⟨by exact fx, by omega⟩, by omega⟩
    | (refine x_ret rfl ⟨?_, by exact fx⟩
       rw [List.take_of_length_le (l := l) (by omega), List.take_of_length_le (l := m) (by omega)]; rfl)
    | trace_state
end Go.Proofs.YtbnhinpegbcbeaaGreat
end
section
namespace Go.Proofs.YtbnhinpegbcbeaaGreat
open Go Go.K
attribute [local irreducible] regK codeK retK KOp.wp K.Spec u32 leS vnS str zero32 sha2 encT idT sizeT checkT grantB

theorem u8_xor (a b : UInt8) : binVal .xor (.int .u8 (a.toNat : Nat)) (.int .u8 (b.toNat : Nat)) = some (.int .u8 ((a ^^^ b).toNat : Nat)) := by
  have e : ∀ x : UInt8, BitVec.ofInt 8 (x.toNat : Nat) = x.toBitVec := fun x => by
    apply BitVec.eq_of_toNat_eq
    have := x.toNat_lt
    simp [BitVec.toNat_ofInt]
  simp only [binVal, isShift, Bool.false_eq_true, if_false, if_true, intBin, IntKind.bits]
  rw [e, e]
  refine congrArg some (congrArg (Value.int .u8) ?_)
  have h : IntKind.u8.wrap ((a.toBitVec ^^^ b.toBitVec).toNat : Nat) = (((a ^^^ b).toNat : Nat) : Int) % 256 := rfl
  refine h.trans ?_
  have := (a ^^^ b).toNat_lt
  omega
theorem shr_n (n i : Nat) : binVal .shr (.int .i64 (n : Nat)) (.int .i64 ((i % 8 : Nat) : Int)) = some (.int .i64 ((n / 2 ^ (i % 8) : Nat) : Int)) := by
  simp only [binVal, isShift, if_true]
  rw [if_neg (by omega)]
  have e : min ((i % 8 : Nat) : Int).toNat IntKind.i64.bits = i % 8 := by simp [IntKind.bits]; omega
  rw [e, Int.fdiv_eq_ediv_of_nonneg _ (by exact_mod_cast Nat.zero_le _)]
  norm_cast
section
variable {P : Program} {d : Option Tmp} {r : KR} {K : Env → World → Prop} {ρ : Env} {w : World}
theorem st_iU8 {x : Operand} {n : Nat} (hx : ev ρ x = .int .i64 (n : Nat)) (k : regK P r K (put ρ d (.int .u8 ((UInt8.ofNat n).toNat : Nat))) w) : regK P (.cons ⟨d, .conv .u8 x, none⟩ r) K ρ w :=
  st_fix rfl (by simp only [KOp.fix, hx]; rw [u8_wrap]) k
end
theorem idn_spec (n : Nat) (w : World) : K.Spec Tryz.prog F.kedgeref05_ID [.int .i64 (n : Nat)] w fun r w' => r = .string (idN n) ∧ Ext w w' := by
  refine s_kedgeref05_ID rfl ?_
  unfold k_kedgeref05_ID
  refine ox ?_
  repeat' (first|(refine st_rem (n := i) (m := 8) rfl rfl (by decide) ?_)|(refine st_bin rfl rfl (shr_n n i) ?_)|(refine st_iU8 rfl ?_)|(refine st_bin rfl rfl (u8_xor (UInt8.ofNat (n / 2 ^ (i % 8))) (UInt8.ofNat i)) ?_)|(first|refine go1 ?_|refine zg (fun _ _=>?_)|refine zi (fun _ _=>?_))|refine zL rfl (fun h => ?_) (fun h => ?_)|(refine c_loopV (fun (i : Nat) w' => Ext w w' ∧ i ≤ 32) (fun i => [(0, .int .i64 (n : Nat)), (3, .string (str (((List.range 32).map fun i => UInt8.ofNat (n / 2 ^ (i % 8)) ^^^ UInt8.ofNat i).take i))), (4, .int .i64 i)]) (fun i => 32 - i) 0 ⟨rfl, congrArg Value.string str_nil.symm, rfl, trivial⟩ ⟨Ext.refl _, by omega⟩ ?_; rintro i ρ w1 ⟨x1, hi⟩)|(refine zI rfl (fun b w2 x2 a2 hb => ?_))|(refine st_strU (l := [UInt8.ofNat (n / 2 ^ (i % 8)) ^^^ UInt8.ofNat i]) rfl (SlE.new (E := u8E) a2 rfl (Nat.le_refl _)) ?_)|(refine st_catS rfl rfl (by rw [str_size, str_size]; simp; omega) ?_))
  · exact ⟨i + 1, ⟨rfl, congrArg Value.string (idN_take n i (by omega)).symm, rfl, trivial⟩, ⟨by exact fx, by omega⟩, by omega⟩
  · exact x_ret rfl ⟨congrArg Value.string (by rw [idN, List.take_of_length_le (by simp; omega)]), by exact fx⟩
end Go.Proofs.YtbnhinpegbcbeaaGreat
end
section
namespace Go.K
open Go
structure Small where
  frm : List UInt8
  idx : UInt8
  outs : UInt8
  fee : Int
  mark : UInt8
  long : UInt8
instance : Inhabited Small := ⟨⟨[], 0, 0, 0, 0, 0⟩⟩
def u8R : R UInt8 := R.flat u8E false
def u8V (b : UInt8) : Value := .int .u8 (b.toNat : Nat)
def smallCs (z : Small) (fv : Value) : List Value := [fv, u8V z.idx, u8V z.outs, .int .i64 z.fee, u8V z.mark, u8V z.long]
def smallR : R Small where
  k := 6
  pos := by decide
  ag := true
  rel := fun M w cs z => ∃ fv, cs = smallCs z fv ∧ SlR u8R M w fv z.frm ∧ is64 z.fee
  len := fun ⟨_, h, _⟩ => by rw [h]; rfl
  one := fun ⟨fv, h, hs, _⟩ v hv => by
    obtain ⟨b, c, rfl⟩ := hs.form
    subst h; simp [smallCs] at hv; rcases hv with rfl | rfl | rfl | rfl | rfl | rfl <;> rfl
  step := fun ⟨fv, h, hs, h2⟩ c hL hM => ⟨fv, h, hs.step c hL hM, h2⟩
/-- What an input that was made is within. -/
structure InMade (x : TIn) : Prop where
  lo : 0 ≤ x.p.i
  hi : x.p.i < 4
  q : x.q = 4294967293
  wit : x.wit = []
  id : x.p.s.size = 32
structure OutMade (y : TOut) : Prop where
  lo : 0 ≤ y.v
  hi : y.v ≤ 2000
  s : y.s.size ≤ 40
structure Made (z : Small) (t : Tx) : Prop where
  ver : t.ver = 2
  lock : t.lock = (z.mark.toNat : Nat)
  ins : t.ins.length = min z.frm.length 4
  each : ∀ x ∈ t.ins, InMade x
  outs : t.outs.length = z.outs.toNat % 3 + 1 + z.long.toNat
  eacho : ∀ y ∈ t.outs, OutMade y
theorem wrap_u8 (b : UInt8) : IntKind.i64.wrap (b.toNat : Nat) = (b.toNat : Nat) := IntWalk.i64_in _ (by have := b.toNat_lt; omega)
theorem rem_u8 (n m : Nat) (h : 0 < m) : binVal .rem (.int .u8 (n : Nat)) (.int .u8 (m : Nat)) = some (.int .u8 ((n % m : Nat) : Int)) := by
  have hne : (m : Int) ≠ 0 := by omega
  simp only [binVal, isShift, Bool.false_eq_true, if_false, if_true, intBin]
  rw [tm, if_neg hne]
theorem rem_u32 (m : Int) : ∃ n : Int, binVal .rem (.int .u32 (IntKind.u32.wrap m)) (.int .u32 4) = some (.int .u32 n) ∧ 0 ≤ n ∧ n < 4 := by
  refine ⟨Int.tmod (IntKind.u32.wrap m) 4, ?_, ?_⟩
  · simp only [binVal, isShift, Bool.false_eq_true, if_false, if_true, intBin]
    rw [if_neg (by decide)]
  · have h : IntKind.u32.wrap m = m % 4294967296 := rfl
    rw [h, Int.tmod_eq_emod_of_nonneg (by omega)]; omega
theorem wrap_n8 {n : Nat} (h : n < 256) : IntKind.i64.wrap (n : Nat) = (n : Nat) := IntWalk.i64_in _ (by omega)
theorem is32_u8 (b : UInt8) : is32 (b.toNat : Nat) := by have := b.toNat_lt; unfold is32; omega
theorem Made.sm {z : Small} {t : Tx} (h : Made z t) : t.Sm := by
  have h1 := h.ins; have h2 := h.outs; have h3 := z.long.toNat_lt
  exact ⟨by omega, by omega, fun x hx => by rw [(h.each x hx).wit]; simp⟩
end Go.K
end
