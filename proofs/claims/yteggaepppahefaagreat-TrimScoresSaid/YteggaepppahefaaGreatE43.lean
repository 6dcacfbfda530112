/- Plain: what the walks of trimming lean on. Plain: rates are compared by products. Contracts: rates, and how they are compared, by the program and by the document. -/
import Derived.Test.YteggaepppahefaaGreatE42
set_option linter.unusedVariables false
set_option linter.unusedSimpArgs false
section
namespace Go.K
open Go Go.Proofs.YteggaepppahefaaGreat
theorem feeD_once {l : List Ent} (h : (l.map (·.id)).Nodup) (m : List Bool) : feeD l (idsOf l m) = feeOf l m := by
  unfold feeD
  rw [dist_nodup ((idsOf_sub l m).nodup h)]
  exact (sums_mask h m).1
/-- The score of what bears an id. -/
def scoreP (l : List Ent) (id : ByteArray) : Int × Int := if hasE l id = true then scoreL l (getE l id) else (0, 0)
theorem has_mem {l : List Ent} {id : ByteArray} (h : hasE l id = true) : getE l id ∈ l ∧ (getE l id).id = id := by
  unfold hasE at h
  rw [← find_any, Option.isSome_iff_exists] at h
  obtain ⟨y, hy⟩ := h
  have h1 := List.mem_of_find?_eq_some hy
  have h2 := List.find?_some hy
  unfold getE
  rw [hy]
  exact ⟨h1, by simpa using h2⟩
theorem get_mem {l : List Ent} (hn : (l.map (·.id)).Nodup) {x : Ent} (hx : x ∈ l) : hasE l x.id = true ∧ getE l x.id = x := by
  obtain ⟨i, hi, rfl⟩ := List.getElem_of_mem hx
  have h := getE_get hn hi
  unfold hasE getE
  rw [← find_any, h]
  exact ⟨rfl, rfl⟩
theorem scoreP_mem {l : List Ent} (hn : (l.map (·.id)).Nodup) {x : Ent} (hx : x ∈ l) : scoreP l x.id = scoreL l x := by
  obtain ⟨h1, h2⟩ := get_mem hn hx
  unfold scoreP
  rw [if_pos h1, h2]
theorem scoreP_has {l : List Ent} (hn : (l.map (·.id)).Nodup) {id : ByteArray} (h : hasE l id = true) :
    scoreP l id = if cmpR (feeD l (idsOf l (belowL l id))) (sizeD l (idsOf l (belowL l id))) (getE l id).fee (getE l id).size > 0 then (feeD l (idsOf l (belowL l id)), sizeD l (idsOf l (belowL l id))) else ((getE l id).fee, (getE l id).size) := by
  unfold scoreP
  rw [if_pos h]
  unfold scoreL
  rw [(has_mem h).2, feeD_once hn, sums_once hn]
/-! The worst so far, as the program keeps it. -/
def wS (l : List Ent) (i : Nat) : ByteArray := if i = 0 then ⟨#[]⟩ else (entD l (worstI l i).toNat).id
def wP (l : List Ent) (i : Nat) : Int × Int := if i = 0 then (0, 0) else scoreL l (entD l (worstI l i).toNat)
theorem wS_ne {l : List Ent} (hid : ∀ x ∈ l, x.id.size = 32) {i : Nat} (h0 : 0 < i) (hi : i ≤ l.length) : wS l i ≠ ⟨#[]⟩ := by
  have h1 := worstI_lt l i
  have h2 := h1.2.2 h0
  unfold wS
  rw [if_neg (by omega), entD_get (by omega)]
  intro e
  have := hid _ (List.getElem_mem (show (worstI l i).toNat < l.length by omega))
  rw [e] at this
  exact absurd this (by decide)
theorem w_take {l : List Ent} (hid : ∀ x ∈ l, x.id.size = 32) {i : Nat} (hi : i < l.length) (h : wS l i = ⟨#[]⟩ ∨ cmpR (scoreL l l[i]).1 (scoreL l l[i]).2 (wP l i).1 (wP l i).2 ≤ 0) :
    worstI l (i + 1) = (i : Nat) ∧ wS l (i + 1) = l[i].id ∧ wP l (i + 1) = scoreL l l[i] := by
  have e : worstI l (i + 1) = (i : Nat) := by
    rw [worstI]
    by_cases h0 : i = 0
    · subst h0; rw [if_pos (.inl (by rw [worstI]; omega))]
    · rcases h with h | h
      · exact absurd h (wS_ne hid (by omega) (by omega))
      · unfold wP at h
        rw [if_neg h0] at h
        rw [if_pos (.inr (by rw [entD_get hi]; exact h))]
  refine ⟨e, ?_, ?_⟩
  · unfold wS
    rw [if_neg (by omega), e, Int.toNat_natCast, entD_get hi]
  · unfold wP
    rw [if_neg (by omega), e, Int.toNat_natCast, entD_get hi]
theorem w_keep {l : List Ent} {i : Nat} (hi : i < l.length) (h : wS l i ≠ ⟨#[]⟩) (hc : ¬ cmpR (scoreL l l[i]).1 (scoreL l l[i]).2 (wP l i).1 (wP l i).2 ≤ 0) :
    worstI l (i + 1) = worstI l i ∧ wS l (i + 1) = wS l i ∧ wP l (i + 1) = wP l i := by
  have h0 : i ≠ 0 := fun e => h (by unfold wS; rw [if_pos e])
  have h1 := (worstI_lt l i).2.2 (by omega)
  have e : worstI l (i + 1) = worstI l i := by
    rw [worstI, if_neg]
    unfold wP at hc
    rw [if_neg h0] at hc
    rw [entD_get hi]
    rintro (h2 | h2)
    · omega
    · exact hc h2
  refine ⟨e, ?_, ?_⟩
  · unfold wS
    rw [if_neg (by omega), if_neg h0, e]
  · unfold wP
    rw [if_neg (by omega), if_neg h0, e]
theorem sizeL_take {l : List Ent} {i : Nat} (h : i < l.length) : sizeL (l.take (i + 1)) = sizeL (l.take i) + l[i].size := by
  unfold sizeL
  rw [List.take_succ_eq_append_getElem h, List.map_append, List.sum_append_int]
  simp
theorem sizeL_bound {c : Nat} : ∀ {l : List Ent}, (∀ x ∈ l, 0 ≤ x.size ∧ x.size ≤ c) → 0 ≤ sizeL l ∧ sizeL l ≤ c * l.length
  | [], _ => by simp [sizeL]
  | x :: l, h => by
    have h1 := sizeL_bound fun y hy => h y (List.mem_cons_of_mem _ hy)
    have h2 := h x (by simp)
    unfold sizeL at *
    rw [List.map_cons, List.sum_cons, List.length_cons, Int.natCast_add, Int.mul_add]
    omega
theorem leftL_take {l : List Ent} {m : List Bool} (hl : l.length = m.length) {i : Nat} (hi : i < l.length) : leftL (l.take (i + 1)) (m.take (i + 1)) = leftL (l.take i) (m.take i) ++ if m[i]'(by omega) then [] else [l[i]] := by
  induction l generalizing m i with
  | nil => simp at hi
  | cons x l ih =>
    cases m with
    | nil => simp at hl
    | cons b m =>
      cases i with
      | zero => cases b <;> simp [leftL]
      | succ i =>
        simp only [List.length_cons, Nat.add_right_cancel_iff] at hl hi
        have := ih hl (by omega : i < l.length)
        simp only [List.take_succ_cons, leftL, List.getElem_cons_succ]
        rw [this]
        cases b <;> simp
theorem leftL_all : ∀ {l : List Ent} {m : List Bool}, l.length = m.length → leftL (l.take l.length) (m.take l.length) = leftL l m := fun h => by
  rw [List.take_length, List.take_of_length_le (by omega)]
theorem dropAll_len {l : List Ent} {ids : List ByteArray} : (dropAll l ids).length ≤ l.length := by
  unfold dropAll
  induction ids generalizing l with
  | nil => exact Nat.le_refl _
  | cons s ids ih =>
    rw [List.foldl_cons]
    refine Nat.le_trans ih ?_
    unfold dropG
    split
    · exact Nat.le_refl _
    · rw [List.length_eraseIdx]; split <;> omega
theorem trim_pos {m : Int} {l : List Ent} (hn : (l.map (·.id)).Nodup) : ((trimL m l).2.2 > 0 ↔ (trimL m l).2.1.length > 0) := by
  by_cases h : l.length = 0 ∨ sizeL l ≤ m
  · rw [trimL_stop h]; simp
  · rw [trimL_step hn h]
    have h1 := askR_pos (scoreL l (worstE l))
    have h2 := List.length_pos_of_mem (worst_in hn (by omega))
    simp only [List.length_append]
    constructor <;> intro <;> omega
theorem trim_ids_len {m : Int} {l : List Ent} (hn : (l.map (·.id)).Nodup) : (trimL m l).2.1.length + (trimL m l).1.length = l.length := by
  refine trim_ind (P := fun l => (trimL m l).2.1.length + (trimL m l).1.length = l.length) m (fun l h => ?_) (fun l hn h ih => ?_) l hn
  · rw [trimL_stop h]; simp
  · rw [trimL_step hn h]
    have := leftL_len l (wMask l)
    simp only [List.length_append]
    omega
theorem trim_has {m : Int} {l : List Ent} (hn : (l.map (·.id)).Nodup) {x : Ent} (hx : x ∈ l) : hasE (trimL m l).1 x.id = true ↔ x.id ∉ (trimL m l).2.1 := by
  have hn2 : ((trimL m l).1.map (·.id)).Nodup := ((trim_sub hn).map _).nodup hn
  rcases trim_or (m := m) hn hx with ⟨h1, h2⟩ | ⟨h1, h2⟩
  · exact ⟨fun _ => h2, fun _ => (get_mem hn2 h1).1⟩
  · refine ⟨fun h => ?_, fun h => absurd h2 h⟩
    obtain ⟨h3, h4⟩ := has_mem h
    have h5 := (trim_sub hn).subset h3
    obtain ⟨i, hi, e1⟩ := List.getElem_of_mem h5
    obtain ⟨j, hj, e2⟩ := List.getElem_of_mem hx
    have := entD_inj hn hi hj (by rw [entD_get hi, entD_get hj, e1, e2]; exact h4)
    subst this
    rw [e1] at e2
    rw [e2] at h3
    exact absurd h3 h1
/-- What stays of the first entries. -/
def stayL (a l : List Ent) : List Ent := l.filter fun x => hasE a x.id
theorem stay_take {a l : List Ent} {i : Nat} (h : i < l.length) : sizeL (stayL a (l.take (i + 1))) = sizeL (stayL a (l.take i)) + if hasE a l[i].id = true then l[i].size else 0 := by
  unfold stayL
  rw [List.take_succ_eq_append_getElem h, List.filter_append]
  unfold sizeL
  rw [List.map_append, List.sum_append_int]
  by_cases e : hasE a l[i].id = true
  · rw [List.filter_cons_of_pos (by simpa using e), if_pos e]; simp
  · rw [List.filter_cons_of_neg (by simpa using e), if_neg e]; simp
theorem stay_all {a l : List Ent} (h : a.Sublist l) (hn : (l.map (·.id)).Nodup) : stayL a l = a := sub_filter h hn
/-! Sizes of what was checked. -/
theorem Tx.Sz.sizeM {t : Tx} (h : t.Sz) : 1 ≤ sizeT t ∧ sizeT t ≤ 1000000 := by
  have a1 := h.e3 false
  have a2 := h.e3 true
  have a3 := h.witC t.ins.length
  rw [List.take_length] at a3
  have e1 : (encT false t).size = (enc3 false t).size + 4 := by
    unfold encT enc4
    simp only [Bool.false_eq_true, if_false, ByteArray.size_append, leS_size]
    have h0 : (⟨#[]⟩ : ByteArray).size = 0 := rfl
    omega
  have e2 : (encT true t).size = (enc3 true t).size + (catB encWit t.ins).size + 4 := by
    unfold encT enc4
    simp only [if_true, ByteArray.size_append, leS_size]
  unfold sizeT weightT
  cases witB t
  · rw [e1]; omega
  · rw [e1, e2]; omega
theorem score_priced {l : List Ent} {x : Ent} (hp : pricedB x.fee x.size = true) : pricedB (scoreL l x).1 (scoreL l x).2 = true := by
  unfold scoreL
  split
  · rename_i hc
    unfold cmpR at hc
    split at hc
    · rename_i h2
      rw [Bool.and_eq_true] at h2
      exact h2.1
    · omega
  · exact hp
end Go.K
end
section
namespace Go.K
open Go
def cmpU (a b : Nat) : Int := if a < b then -1 else if b < a then 1 else 0
theorem cmpU_lt {a b : Nat} (h : a < b) : cmpU a b = -1 := if_pos h
theorem cmpU_gt {a b : Nat} (h : b < a) : cmpU a b = 1 := by unfold cmpU; rw [if_neg (by omega), if_pos h]
theorem cmpU_eq {a : Nat} : cmpU a a = 0 := by unfold cmpU; rw [if_neg (by omega), if_neg (by omega)]
def orU (a b : Int) : Int := if a = 0 then b else a
theorem cmpU_two {a b : Nat} : orU (cmpU (a / 18446744073709551616) (b / 18446744073709551616)) (cmpU (a % 18446744073709551616) (b % 18446744073709551616)) = cmpU a b := by
  unfold orU cmpU
  split <;> (try split) <;> (try split) <;> (try split) <;> (try split) <;> omega
theorem pricedB_iff {f s : Int} : pricedB f s = true ↔ (0 ≤ f ∧ f ≤ 2100000000000000) ∧ 1 ≤ s ∧ s ≤ 1000000 := by
  unfold pricedB
  rw [Bool.and_eq_true, goodB_iff, decide_eq_true_eq]
theorem pricedB_nat {f s : Int} (h : pricedB f s = true) : ∃ F S : Nat, f = (F : Nat) ∧ s = (S : Nat) ∧ F ≤ 2100000000000000 ∧ 1 ≤ S ∧ S ≤ 1000000 := by
  rw [pricedB_iff] at h
  exact ⟨f.toNat, s.toNat, by omega, by omega, by omega, by omega, by omega⟩
theorem pricedB_of {F S : Nat} (h1 : F ≤ 2100000000000000) (h2 : 1 ≤ S) (h3 : S ≤ 1000000) : pricedB (F : Nat) (S : Nat) = true := pricedB_iff.2 (by omega)
theorem cmpR_nat {F S O I : Nat} (h1 : pricedB (F : Nat) (S : Nat) = true) (h2 : pricedB (O : Nat) (I : Nat) = true) : cmpR (F : Nat) (S : Nat) (O : Nat) (I : Nat) = cmpU (F * I) (O * S) := by
  unfold cmpR cmpU
  rw [h1, h2, Bool.and_self, if_pos rfl, ← Int.natCast_mul, ← Int.natCast_mul]
  generalize F * I = a
  generalize O * S = b
  split <;> (try split) <;> (try split) <;> (try split) <;> omega
theorem cmpR_no {f s o i : Int} (h : pricedB f s = false ∨ pricedB o i = false) : cmpR f s o i = 0 := by
  unfold cmpR
  rw [if_neg]
  rcases h with h | h <;> rw [h] <;> simp
theorem priced_no {f s : Int} (h : ¬ (0 ≤ f ∧ f ≤ 2100000000000000) ∨ s < 1 ∨ 1000000 < s) : pricedB f s = false := by
  rw [← Bool.not_eq_true, pricedB_iff]; omega
theorem parts_nat (a b : Nat) : a / 1000000 * b + a % 1000000 * b / 1000000 = a * b / 1000000 ∧ a % 1000000 * b % 1000000 = a * b % 1000000 := by
  have e : a * b = 1000000 * (a / 1000000 * b) + a % 1000000 * b := by
    conv => lhs; rw [← Nat.div_add_mod a 1000000]
    rw [Nat.add_mul, Nat.mul_assoc]
  rw [e]
  generalize a / 1000000 * b = x
  generalize a % 1000000 * b = y
  omega
theorem cmpU_parts {a b : Nat} : cmpU a b = if a / 1000000 < b / 1000000 ∨ a / 1000000 = b / 1000000 ∧ a % 1000000 < b % 1000000 then -1 else if b / 1000000 < a / 1000000 ∨ b % 1000000 < a % 1000000 then 1 else 0 := by
  unfold cmpU
  split <;> split <;> (try split) <;> (try split) <;> omega
end Go.K
end
section
namespace Go.Proofs.YteggaepppahefaaGreat
open Go Go.K
theorem mul64_spec (x y : Nat) (hx : x < 18446744073709551616) (hy : y < 18446744073709551616) (w : World) : K.Spec Tryz.prog F.math_bits_Mul64 [.int .u64 (x : Nat), .int .u64 (y : Nat)] w fun v w' => v = .tuple #[.int .u64 ((x * y / 18446744073709551616 : Nat) : Int), .int .u64 ((x * y % 18446744073709551616 : Nat) : Int)] ∧ Ext w w' :=
  (Tryz.bits_Mul64 x y hx hy w).mono fun e w' ⟨he, hw⟩ => ⟨_, he, rfl, by rw [hw]; exact Ext.refl _⟩
attribute [local irreducible] regK codeK retK KOp.wp K.Spec u32 leS vnS str zero32 sha2

theorem priced_spec (f s : Int) (w : World) : K.Spec Tryz.prog F.amount_priced [.int .i64 f, .int .i64 s] w fun r w' => r = .bool (pricedB f s) ∧ Ext w w' := by
  refine s_amount_priced rfl ?_
  unfold k_amount_priced
  refine ox ?_
  repeat' (first|(first|refine go1 ?_|refine zg (fun _ _=>?_)|refine zi (fun _ _=>?_))|(refine zK rfl (fun h => ?_) (fun h => ?_))|(refine zJ rfl (fun h => ?_) (fun h => ?_)))
  all_goals refine x_ret rfl ⟨congrArg Value.bool ?_, by exact fx⟩
  · unfold pricedB
    rw [‹goodB f = true›, Bool.true_and]
    exact decide_eq_decide.2 (by have := of_decide_eq_true h; omega)
  · unfold pricedB
    rw [decide_eq_false (by have := of_decide_eq_false h; omega), Bool.and_false]
  · unfold pricedB
    rw [h]; rfl
theorem isNaN64_spec (n : Int) (w : World) : K.Spec Tryz.prog F.cmp_isNaN_uint64 [.int .u64 n] w fun v w' => v = .bool false ∧ Ext w w' := by
  refine s_cmp_isNaN_uint64 rfl ?_
  unfold k_cmp_isNaN_uint64
  refine ox ?_
  repeat' (first|refine go1 ?_|refine zg (fun _ _=>?_)|refine zi (fun _ _=>?_))
  exact x_ret rfl ⟨congrArg Value.bool (by simp), Ext.refl _⟩
theorem cmp64_spec (n m : Nat) (w : World) : K.Spec Tryz.prog F.cmp_Compare_uint64 [.int .u64 (n : Nat), .int .u64 (m : Nat)] w fun v w' => v = .int .i64 (cmpU n m) ∧ Ext w w' := by
  refine s_cmp_Compare_uint64 rfl ?_
  unfold k_cmp_Compare_uint64
  refine ox ?_
  repeat' (first|(first|refine go1 ?_|refine zg (fun _ _=>?_)|refine zi (fun _ _=>?_))|(refine zC rfl (isNaN64_spec _ _) ?_; rintro _ _ ⟨rfl, _⟩)|(refine zL rfl (fun h => ?_) (fun h => ?_)))
  all_goals refine x_ret rfl ⟨congrArg (Value.int .i64) ?_, by exact fx⟩
  · exact (cmpU_lt (by omega)).symm
  · exact (cmpU_gt (by omega)).symm
  · unfold cmpU; rw [if_neg (by omega), if_neg (by omega)]
def intE : Enc Int := ⟨fun n => [.int .i64 n], 1, fun _ => rfl, by decide, by intro x v hv; simp at hv; subst hv; rfl⟩
theorem or_spec (a b : Int) (v : Value) (w : World) (hs : SlE intE w v [a, b]) : K.Spec Tryz.prog F.cmp_Or_int [v] w fun v w' => v = .int .i64 (orU a b) ∧ Ext w w' := by
  refine s_cmp_Or_int rfl ?_
  unfold k_cmp_Or_int
  refine ox ?_
  repeat' (first|(first|refine go1 ?_|refine zg (fun _ _=>?_)|refine zi (fun _ _=>?_))|(refine zL rfl (fun h => ?_) (fun h => ?_))|(refine st_len rfl hs ?_)|(refine c_loopV (fun (i : Nat) w' => Ext w w' ∧ i ≤ 2 ∧ (0 < i → a = 0) ∧ (1 < i → b = 0)) (fun i => [(3, .int .i64 0), (6, v), (7, .int .i64 2), (8, .int .i64 i)]) (fun i => 2 - i) 0 ⟨rfl, rfl, rfl, rfl, trivial⟩ ⟨Ext.refl _, by omega, by omega, by omega⟩ ?_; rintro i ρ w1 ⟨x1, hi, h0, h1⟩)|(refine st_elemE (E := intE) (l := [a, b]) rfl rfl (hs.ext x1) rfl (by simp; omega) (fun ad r1 => ?_))|(refine zN rfl (fun h2 => ?_) (fun h2 => ?_)))
  · refine x_ret rfl ⟨congrArg (Value.int .i64) ?_, x1⟩
    rcases (show i = 0 ∨ i = 1 by omega) with rfl | rfl
    · have h3 : ¬ a = 0 := h2
      show a = _
      unfold orU; rw [if_neg h3]
    · show b = _
      unfold orU; rw [if_pos (h0 (by omega))]
  · have h3 : (i = 0 → a = 0) ∧ (i = 1 → b = 0) := by
      constructor
      · rintro rfl; exact h2
      · rintro rfl; exact h2
    exact ⟨i + 1, ⟨rfl, rfl, rfl, rfl, trivial⟩, ⟨x1, by omega, fun _ => by rcases Nat.eq_zero_or_pos i with e | e; exact h3.1 e; exact h0 e, fun _ => h3.2 (by omega)⟩, by omega⟩
  · have : i = 2 := by omega
    subst this
    exact x_ret rfl ⟨congrArg (Value.int .i64) (by unfold orU; rw [if_pos (h0 (by omega)), h1 (by omega)]), x1⟩
theorem u64_w {n : Nat} (h : n ≤ 2100000000000000) : IntKind.u64.wrap (n : Int) = (n : Nat) := by
  have e : ∀ m : Int, IntKind.u64.wrap m = m % 18446744073709551616 := fun _ => rfl
  rw [e]; omega
theorem priced_val {f s : Int} {b : Bool} (h : pricedB f s = b) (w : World) : K.Spec Tryz.prog F.amount_priced [.int .i64 f, .int .i64 s] w fun r w' => r = .bool b ∧ Ext w w' := by
  subst h; exact priced_spec f s w
theorem prod_lt {a b : Nat} (h1 : a ≤ 2100000000000000) (h2 : b ≤ 1000000) : a * b ≤ 2100000000000000000000 := Nat.mul_le_mul h1 h2
theorem compare_spec (f s o i : Int) (w : World) : K.Spec Tryz.prog F.amount_Compare [.int .i64 f, .int .i64 s, .int .i64 o, .int .i64 i] w fun r w' => r = .int .i64 (cmpR f s o i) ∧ Ext w w' := by
  cases h1 : pricedB f s with
  | true =>
    cases h2 : pricedB o i with
    | true =>
      obtain ⟨F', S', rfl, rfl, b1, b2, b3⟩ := pricedB_nat h1
      obtain ⟨O', I', rfl, rfl, c1, c2, c3⟩ := pricedB_nat h2
      rw [cmpR_nat h1 h2, ← cmpU_two]
      refine s_amount_Compare rfl ?_
      unfold k_amount_Compare
      refine ox ?_
      repeat' (first|(refine st_fixV (d := some 25) (.int .u64 (F' : Nat)) rfl (congrArg (fun n => some (Value.int .u64 n)) (u64_w b1)) ?_)|(refine st_fixV (d := some 27) (.int .u64 (I' : Nat)) rfl (congrArg (fun n => some (Value.int .u64 n)) (u64_w (by omega))) ?_)|(refine st_fixV (d := some 33) (.int .u64 (O' : Nat)) rfl (congrArg (fun n => some (Value.int .u64 n)) (u64_w c1)) ?_)|(refine st_fixV (d := some 35) (.int .u64 (S' : Nat)) rfl (congrArg (fun n => some (Value.int .u64 n)) (u64_w (by omega))) ?_)|(first|refine go1 ?_|refine zg (fun _ _=>?_)|refine zi (fun _ _=>?_))|(refine zC (d := some 15) rfl (priced_val h1 _) ?_; rintro _ w1 ⟨rfl, x1⟩)|(refine zC (d := some 20) rfl (priced_val h2 _) ?_; rintro _ w2 ⟨rfl, x2⟩)|(refine zC (d := some 28) rfl (mul64_spec F' I' (by omega) (by omega) _) ?_; rintro _ w3 ⟨rfl, x3⟩)|(refine zC (d := some 36) rfl (mul64_spec O' S' (by omega) (by omega) _) ?_; rintro _ w4 ⟨rfl, x4⟩)|(refine zC (d := some 41) rfl (cmp64_spec _ _ _) ?_; rintro _ w5 ⟨rfl, x5⟩)|(refine zC (d := some 44) rfl (cmp64_spec _ _ _) ?_; rintro _ w6 ⟨rfl, x6⟩)|(refine zI (d := some 45) (cs := [.int .i64 (cmpU (F' * I' / 18446744073709551616) (O' * S' / 18446744073709551616)), .int .i64 (cmpU (F' * I' % 18446744073709551616) (O' * S' % 18446744073709551616))]) rfl (fun b w7 x7 a7 hb => ?_); have s7 := SlE.new (E := intE) (l := [cmpU (F' * I' / 18446744073709551616) (O' * S' / 18446744073709551616), cmpU (F' * I' % 18446744073709551616) (O' * S' % 18446744073709551616)]) a7 rfl (Nat.le_refl _))|(refine zC (d := some 46) rfl (or_spec _ _ _ _ s7) ?_; rintro _ w8 ⟨rfl, x8⟩))
      exact x_ret rfl ⟨rfl, by exact fx⟩
    | false =>
      rw [cmpR_no (.inr h2)]
      refine s_amount_Compare rfl ?_
      unfold k_amount_Compare
      refine ox ?_
      repeat' (first|(first|refine go1 ?_|refine zg (fun _ _=>?_)|refine zi (fun _ _=>?_))|(refine zC (d := some 15) rfl (priced_val h1 _) ?_; rintro _ w1 ⟨rfl, x1⟩)|(refine zC (d := some 20) rfl (priced_val h2 _) ?_; rintro _ w2 ⟨rfl, x2⟩))
      exact x_ret rfl ⟨rfl, by exact fx⟩
  | false =>
    rw [cmpR_no (.inl h1)]
    refine s_amount_Compare rfl ?_
    unfold k_amount_Compare
    refine ox ?_
    repeat' (first|(first|refine go1 ?_|refine zg (fun _ _=>?_)|refine zi (fun _ _=>?_))|(refine zC (d := some 15) rfl (priced_val h1 _) ?_; rintro _ w1 ⟨rfl, x1⟩))
    exact x_ret rfl ⟨rfl, by exact fx⟩
theorem rateR_nat {F' S' : Nat} (h : pricedB (F' : Nat) (S' : Nat) = true) : rateR (F' : Nat) (S' : Nat) = ((F' * 1000 / S' : Nat) : Int) := by
  unfold rateR; rw [if_pos h]; rfl
theorem rate_spec (f s : Int) (w : World) : K.Spec Tryz.prog F.amount_Rate [.int .i64 f, .int .i64 s] w fun r w' => r = .tuple #[.int .i64 (rateR f s), .int .i64 (if pricedB f s then 0 else 3)] ∧ Ext w w' := by
  cases h1 : pricedB f s with
  | true =>
    obtain ⟨F', S', rfl, rfl, b1, b2, b3⟩ := pricedB_nat h1
    rw [rateR_nat h1]
    refine s_amount_Rate rfl ?_
    unfold k_amount_Rate
    refine ox ?_
    repeat' (first|(refine st_fixV (d := some 11) (.int .i64 ((F' * 1000 : Nat) : Int)) rfl (congrArg (fun n => some (Value.int .i64 n)) (IntWalk.i64_in _ (by omega))) ?_)|(refine st_quo (d := some 13) (n := F' * 1000) (m := S') rfl rfl (by omega) (by omega) ?_)|(first|refine go1 ?_|refine zg (fun _ _=>?_)|refine zi (fun _ _=>?_))|(refine zC (d := some 8) rfl (priced_val h1 _) ?_; rintro _ w1 ⟨rfl, x1⟩))
    exact x_ret rfl ⟨rfl, by exact fx⟩
  | false =>
    have e : rateR f s = 0 := by unfold rateR; rw [h1]; rfl
    rw [e]
    refine s_amount_Rate rfl ?_
    unfold k_amount_Rate
    refine ox ?_
    repeat' (first|(first|refine go1 ?_|refine zg (fun _ _=>?_)|refine zi (fun _ _=>?_))|(refine zC (d := some 8) rfl (priced_val h1 _) ?_; rintro _ w1 ⟨rfl, x1⟩))
    exact x_ret rfl ⟨rfl, by exact fx⟩
/-! The document's. -/
theorem parts_spec (a b : Nat) (ha : a ≤ 2100000000000000) (hb : b ≤ 1000000) (w : World) : K.Spec Tryz.prog F.kedgeref01_parts [.int .i64 (a : Nat), .int .i64 (b : Nat)] w fun r w' => r = .tuple #[.int .i64 ((a * b / 1000000 : Nat) : Int), .int .i64 ((a * b % 1000000 : Nat) : Int)] ∧ Ext w w' := by
  have h1 : a % 1000000 * b ≤ 1000000 * 1000000 := Nat.mul_le_mul (by omega) hb
  have h2 : a / 1000000 * b ≤ 2100000000 * 1000000 := Nat.mul_le_mul (by omega) hb
  obtain ⟨e1, e2⟩ := parts_nat a b
  rw [← e1, ← e2]
  refine s_kedgeref01_parts rfl ?_
  unfold k_kedgeref01_parts
  refine ox ?_
  repeat' (first|(refine st_quo (d := some 10) (n := a) (m := 1000000) rfl rfl (by omega) (by omega) ?_)|(refine st_rem (d := some 12) (n := a) (m := 1000000) rfl rfl (by omega) ?_)|(refine st_fixV (d := some 15) (.int .i64 ((a % 1000000 * b : Nat) : Int)) rfl (congrArg (fun n => some (Value.int .i64 n)) (IntWalk.i64_in _ (by omega))) ?_)|(refine st_fixV (d := some 18) (.int .i64 ((a / 1000000 * b : Nat) : Int)) rfl (congrArg (fun n => some (Value.int .i64 n)) (IntWalk.i64_in _ (by omega))) ?_)|(refine st_quo (d := some 20) (n := a % 1000000 * b) (m := 1000000) rfl rfl (by omega) (by omega) ?_)|(refine st_rem (d := some 23) (n := a % 1000000 * b) (m := 1000000) rfl rfl (by omega) ?_)|(first|refine go1 ?_|refine zg (fun _ _=>?_)|refine zi (fun _ _=>?_)))
  exact x_ret rfl ⟨rfl, by exact fx⟩
theorem rcompare_spec (f s o i : Int) (w : World) : K.Spec Tryz.prog F.kedgeref01_Compare [.int .i64 f, .int .i64 s, .int .i64 o, .int .i64 i] w fun r w' => r = .int .i64 (cmpR f s o i) ∧ Ext w w' := by
  by_cases hp : pricedB f s = true ∧ pricedB o i = true
  · obtain ⟨h1, h2⟩ := hp
    have g1 := h1
    have g2 := h2
    obtain ⟨F', S', rfl, rfl, b1, b2, b3⟩ := pricedB_nat h1
    obtain ⟨O', I', rfl, rfl, c1, c2, c3⟩ := pricedB_nat h2
    rw [cmpR_nat h1 h2, cmpU_parts]
    have q1 : goodB (F' : Nat) = true := (goodB_iff _).2 (by omega)
    have q2 : goodB (O' : Nat) = true := (goodB_iff _).2 (by omega)
    refine s_kedgeref01_Compare rfl ?_
    unfold k_kedgeref01_Compare
    refine ox ?_
    repeat' (first|(refine zF (d := some 16) (v := .bool true) (by show some (Value.bool (goodB (F' : Nat))) = _; rw [q1]) ?_)|(refine zF (d := some 18) (v := .bool true) (by show some (Value.bool (goodB (O' : Nat))) = _; rw [q2]) ?_)|(first|refine go1 ?_|refine zg (fun _ _=>?_)|refine zi (fun _ _=>?_))|(refine zC (d := some 44) rfl (parts_spec F' I' (by omega) (by omega) _) ?_; rintro _ w3 ⟨rfl, x3⟩)|(refine zC (d := some 50) rfl (parts_spec O' S' (by omega) (by omega) _) ?_; rintro _ w4 ⟨rfl, x4⟩)|(refine zJ rfl (fun h => ?_) (fun h => ?_))|(refine zL rfl (fun h => ?_) (fun h => ?_)))
    all_goals first
      | (exfalso; omega)
      | (refine x_ret rfl ⟨congrArg (Value.int .i64) ?_, by exact fx⟩
         split <;> (try split) <;> omega)
  · have e : cmpR f s o i = 0 := cmpR_no (by cases h1 : pricedB f s <;> cases h2 : pricedB o i <;> simp_all)
    rw [e]
    have hp2 : ¬ ((goodB f = true ∧ 1 ≤ s ∧ s ≤ 1000000) ∧ goodB o = true ∧ 1 ≤ i ∧ i ≤ 1000000) := by
      intro h; apply hp; rw [pricedB_iff, pricedB_iff, ← goodB_iff, ← goodB_iff]; exact h
    refine s_kedgeref01_Compare rfl ?_
    unfold k_kedgeref01_Compare
    refine ox ?_
    repeat' (first|(first|refine go1 ?_|refine zg (fun _ _=>?_)|refine zi (fun _ _=>?_))|(refine zJ rfl (fun h => ?_) (fun h => ?_))|(refine zK rfl (fun h => ?_) (fun h => ?_))|(refine zL rfl (fun h => ?_) (fun h => ?_)))
    all_goals first
      | exact x_ret rfl ⟨rfl, by exact fx⟩
      | exact absurd ⟨⟨by simp_all, by omega, by omega⟩, by simp_all, by omega, by omega⟩ hp2
theorem rrate_spec (f s : Int) (w : World) : K.Spec Tryz.prog F.kedgeref01_Rate [.int .i64 f, .int .i64 s] w fun r w' => r = .tuple #[.int .i64 (rateR f s), .int .i64 (if pricedB f s then 0 else 3)] ∧ Ext w w' := by
  by_cases h1 : pricedB f s = true
  · rw [if_pos h1]
    obtain ⟨F', S', rfl, rfl, b1, b2, b3⟩ := pricedB_nat h1
    rw [rateR_nat h1]
    have q1 : goodB (F' : Nat) = true := (goodB_iff _).2 (by omega)
    refine s_kedgeref01_Rate rfl ?_
    unfold k_kedgeref01_Rate
    refine ox ?_
    repeat' (first|(refine zF (d := some 8) (v := .bool true) (by show some (Value.bool (goodB (F' : Nat))) = _; rw [q1]) ?_)|(refine st_fixV (d := some 20) (.int .i64 ((F' * 1000 : Nat) : Int)) rfl (congrArg (fun n => some (Value.int .i64 n)) (IntWalk.i64_in _ (by omega))) ?_)|(refine st_quo (d := some 22) (n := F' * 1000) (m := S') rfl rfl (by omega) (by omega) ?_)|(first|refine go1 ?_|refine zg (fun _ _=>?_)|refine zi (fun _ _=>?_))|(refine zJ rfl (fun h => ?_) (fun h => ?_))|(refine zL rfl (fun h => ?_) (fun h => ?_)))
    all_goals first | omega | exact x_ret rfl ⟨rfl, by exact fx⟩
  · have e : rateR f s = 0 := by unfold rateR; rw [if_neg h1]
    rw [if_neg h1, e]
    have hp2 : ¬ (goodB f = true ∧ 1 ≤ s ∧ s ≤ 1000000) := by
      intro h; apply h1; rw [pricedB_iff, ← goodB_iff]; exact h
    refine s_kedgeref01_Rate rfl ?_
    unfold k_kedgeref01_Rate
    refine ox ?_
    repeat' (first|(first|refine go1 ?_|refine zg (fun _ _=>?_)|refine zi (fun _ _=>?_))|(refine zJ rfl (fun h => ?_) (fun h => ?_))|(refine zL rfl (fun h => ?_) (fun h => ?_))|(refine zK rfl (fun h => ?_) (fun h => ?_)))
    all_goals first
      | exact x_ret rfl ⟨rfl, by exact fx⟩
      | exact absurd ⟨by simp_all, by omega, by omega⟩ hp2
end Go.Proofs.YteggaepppahefaaGreat
end
