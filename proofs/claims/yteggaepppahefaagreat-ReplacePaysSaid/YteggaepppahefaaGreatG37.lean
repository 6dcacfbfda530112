/- Plain: scores of entries, the worst one, and what goes. Plain: what the walks of trimming lean on. Plain: rates are compared by products. Contracts: rates, and how they are compared, by the program and by the document. Contracts: the score of an entry, the worst one, the total size, by the program. Contracts: trimming a graph, by the program. -/
import Derived.Test.YteggaepppahefaaGreatG36
set_option linter.unusedVariables false
set_option linter.unusedSimpArgs false
section
namespace Go.K
open Go
def pricedB (f s : Int) : Bool := goodB f && decide (1 ≤ s ∧ s ≤ 1000000)
def cmpR (f s o i : Int) : Int := if pricedB f s && pricedB o i then (if f * i < o * s then -1 else if o * s < f * i then 1 else 0) else 0
def rateR (f s : Int) : Int := if pricedB f s then f * 1000 / s else 0
def scoreL (l : List Ent) (x : Ent) : Int × Int :=
  if cmpR (feeOf l (belowL l x.id)) (szOf l (belowL l x.id)) x.fee x.size > 0 then (feeOf l (belowL l x.id), szOf l (belowL l x.id)) else (x.fee, x.size)
def worstI (l : List Ent) : Nat → Int
  | 0 => -1
  | i + 1 => if worstI l i < 0 ∨ cmpR (scoreL l (entD l i)).1 (scoreL l (entD l i)).2 (scoreL l (entD l (worstI l i).toNat)).1 (scoreL l (entD l (worstI l i).toNat)).2 ≤ 0 then i else worstI l i
theorem worstI_lt (l : List Ent) : ∀ i, -1 ≤ worstI l i ∧ worstI l i < i ∧ (0 < i → 0 ≤ worstI l i)
  | 0 => ⟨by rw [worstI]; omega, by rw [worstI]; omega, by omega⟩
  | i + 1 => by
    have ih := worstI_lt l i
    rw [worstI]
    split
    · refine ⟨?_, ?_, ?_⟩ <;> omega
    · rename_i h
      refine ⟨?_, ?_, ?_⟩ <;> omega
def sizeL (l : List Ent) : Int := (l.map (·.size)).sum
def leftL : List Ent → List Bool → List Ent
  | x :: l, b :: m => if b then leftL l m else x :: leftL l m
  | l, _ => l
theorem leftL_sub : ∀ (l : List Ent) (m : List Bool), (leftL l m).Sublist l
  | [], [] => List.Sublist.slnil
  | [], _ :: _ => List.Sublist.slnil
  | _ :: _, [] => List.Sublist.refl _
  | x :: l, b :: m => by
    rw [leftL]
    cases b
    · exact (leftL_sub l m).cons_cons _
    · exact (leftL_sub l m).cons _
theorem leftL_len : ∀ (l : List Ent) (m : List Bool), (leftL l m).length + (idsOf l m).length = l.length
  | [], [] => rfl
  | [], _ :: _ => rfl
  | _ :: _, [] => rfl
  | x :: l, b :: m => by
    have := leftL_len l m
    rw [leftL, idsOf, List.length_cons]
    cases b
    · simp only [Bool.false_eq_true, if_false, List.length_cons]; omega
    · simp only [if_true, List.length_cons]; omega
theorem leftL_not : ∀ (l : List Ent) (m : List Bool) {x : Ent}, (l.map (·.id)).Nodup → x ∈ leftL l m → x.id ∉ idsOf l m
  | [], m, _, _, h => by cases m <;> cases h
  | _ :: _, [], _, _, _ => by simp [idsOf]
  | y :: l, b :: m, x, hn, h => by
    rw [List.map_cons, List.nodup_cons] at hn
    rw [leftL] at h
    rw [idsOf]
    cases b
    · simp only [Bool.false_eq_true, if_false] at h ⊢
      rcases List.mem_cons.1 h with rfl | h
      · exact fun e => hn.1 ((idsOf_sub l m).subset e)
      · exact leftL_not l m hn.2 h
    · simp only [if_true] at h ⊢
      intro e
      rcases List.mem_cons.1 e with e | e
      · exact hn.1 (by rw [← e]; exact List.mem_map_of_mem ((leftL_sub l m).subset h))
      · exact leftL_not l m hn.2 h e
theorem findI_cons_eq {x : Ent} {l : List Ent} : findI (x :: l) x.id = 0 := by
  unfold findI
  exact idxOf_hit (i := 0) (by simp) (decide_eq_true rfl) (fun j hj => by omega)
theorem findI_cons_ne {x : Ent} {l : List Ent} {s : ByteArray} (h : x.id ≠ s) : findI (x :: l) s = if findI l s < 0 then -1 else findI l s + 1 := by
  unfold findI idxOf
  rw [List.findIdx?_cons, if_neg (by simpa using h)]
  cases l.findIdx? fun x => decide (x.id = s) with
  | none => rfl
  | some i => simp; omega
theorem dropG_cons_eq {x : Ent} {l : List Ent} : (dropG (x :: l) x.id).1 = l := by
  unfold dropG
  rw [findI_cons_eq, if_neg (by omega)]; rfl
theorem dropG_cons_ne {x : Ent} {l : List Ent} {s : ByteArray} (h : x.id ≠ s) : (dropG (x :: l) s).1 = x :: (dropG l s).1 := by
  unfold dropG
  rw [findI_cons_ne h]
  by_cases h1 : findI l s < 0
  · rw [if_pos h1, if_pos h1, if_pos (by omega)]
  · rw [if_neg h1, if_neg h1, if_neg (by omega)]
    have : (findI l s + 1).toNat = (findI l s).toNat + 1 := by omega
    rw [this]; rfl
def dropAll (l : List Ent) (ids : List ByteArray) : List Ent := ids.foldl (fun l s => (dropG l s).1) l
theorem dropAll_succ {l : List Ent} {ids : List ByteArray} {i : Nat} (h : i < ids.length) : dropAll l (ids.take (i + 1)) = (dropG (dropAll l (ids.take i)) ids[i]).1 := by
  unfold dropAll
  rw [List.take_succ_eq_append_getElem h, List.foldl_append]; rfl
theorem dropAll_cons : ∀ (ids : List ByteArray) {x : Ent} {l : List Ent}, x.id ∉ ids → dropAll (x :: l) ids = x :: dropAll l ids
  | [], _, _, _ => rfl
  | s :: ids, x, l, h => by
    simp only [List.mem_cons, not_or] at h
    show dropAll (dropG (x :: l) s).1 ids = x :: dropAll (dropG l s).1 ids
    rw [dropG_cons_ne h.1, dropAll_cons ids h.2]
theorem dropAll_left : ∀ (l : List Ent) (m : List Bool), (l.map (·.id)).Nodup → dropAll l (idsOf l m) = leftL l m
  | [], [], _ => rfl
  | [], _ :: _, _ => rfl
  | _ :: _, [], _ => rfl
  | x :: l, b :: m, hn => by
    rw [List.map_cons, List.nodup_cons] at hn
    have ih := dropAll_left l m hn.2
    rw [idsOf, leftL]
    cases b
    · simp only [Bool.false_eq_true, if_false]
      rw [dropAll_cons _ (fun e => hn.1 ((idsOf_sub l m).subset e)), ih]
    · simp only [if_true]
      show dropAll (dropG (x :: l) x.id).1 (idsOf l m) = _
      rw [dropG_cons_eq, ih]
def worstE (l : List Ent) : Ent := entD l (worstI l l.length).toNat
def wMask (l : List Ent) : List Bool := belowL l (worstE l).id
def askR (p : Int × Int) : Int := min (rateR p.1 p.2 + 1000) 100000000
theorem rateR_nonneg (f s : Int) : 0 ≤ rateR f s := by
  unfold rateR pricedB
  split
  · rename_i h
    rw [Bool.and_eq_true, goodB_iff, decide_eq_true_eq] at h
    exact Int.ediv_nonneg (by omega) (by omega)
  · omega
theorem askR_pos (p : Int × Int) : 1 ≤ askR p ∧ askR p ≤ 100000000 := by
  have := rateR_nonneg p.1 p.2
  unfold askR; omega
theorem worst_lt {l : List Ent} (h : 0 < l.length) : (worstI l l.length).toNat < l.length := by
  have := worstI_lt l l.length
  omega
theorem worst_in {l : List Ent} (hn : (l.map (·.id)).Nodup) (h : 0 < l.length) : (worstE l).id ∈ idsOf l (wMask l) := by
  unfold wMask worstE
  rw [entD_get (worst_lt h)]
  exact inS_iff.1 (both_self hn (worst_lt h))
theorem left_less {l : List Ent} (hn : (l.map (·.id)).Nodup) (h : 0 < l.length) : (leftL l (wMask l)).length < l.length := by
  have h1 := leftL_len l (wMask l)
  have h2 := List.length_pos_of_mem (worst_in hn h)
  omega
def trimF : Nat → Int → List Ent → List Ent × List ByteArray × Int
  | 0, _, l => (l, [], 0)
  | k + 1, m, l => if l.length = 0 ∨ sizeL l ≤ m then (l, [], 0) else
    ((trimF k m (leftL l (wMask l))).1, idsOf l (wMask l) ++ (trimF k m (leftL l (wMask l))).2.1, max (askR (scoreL l (worstE l))) (trimF k m (leftL l (wMask l))).2.2)
def trimL (m : Int) (l : List Ent) : List Ent × List ByteArray × Int := trimF l.length m l
theorem left_nodup {l : List Ent} (hn : (l.map (·.id)).Nodup) (m : List Bool) : ((leftL l m).map (·.id)).Nodup := ((leftL_sub l m).map _).nodup hn
theorem trimF_fuel (m : Int) : ∀ (k : Nat) (l : List Ent), (l.map (·.id)).Nodup → l.length ≤ k → trimF k m l = trimL m l := by
  intro k
  induction k using Nat.strongRecOn with
  | _ k ih =>
    intro l hn hk
    unfold trimL
    cases h : l.length with
    | zero =>
      cases k with
      | zero => rfl
      | succ k => rw [trimF, trimF, if_pos (.inl h)]
    | succ j =>
      cases k with
      | zero => omega
      | succ k =>
        rw [trimF, trimF]
        have h1 := left_less hn (by omega)
        have h2 := left_nodup hn (wMask l)
        rw [ih k (by omega) _ h2 (by omega), ih j (by omega) _ h2 (by omega)]
theorem trimL_stop {m : Int} {l : List Ent} (h : l.length = 0 ∨ sizeL l ≤ m) : trimL m l = (l, [], 0) := by
  unfold trimL
  cases e : l.length with
  | zero => rfl
  | succ j => rw [trimF, if_pos h]
theorem trimL_step {m : Int} {l : List Ent} (hn : (l.map (·.id)).Nodup) (h : ¬ (l.length = 0 ∨ sizeL l ≤ m)) :
    trimL m l = ((trimL m (leftL l (wMask l))).1, idsOf l (wMask l) ++ (trimL m (leftL l (wMask l))).2.1, max (askR (scoreL l (worstE l))) (trimL m (leftL l (wMask l))).2.2) := by
  have h1 := left_less hn (by omega)
  have h3 : trimL m l = trimF l.length m l := rfl
  rw [h3]
  cases e : l.length with
  | zero => omega
  | succ j =>
    rw [trimF, if_neg h, trimF_fuel m j _ (left_nodup hn _) (by omega)]
theorem trim_ind {P : List Ent → Prop} (m : Int) (stop : ∀ l, l.length = 0 ∨ sizeL l ≤ m → P l) (step : ∀ l, (l.map (·.id)).Nodup → ¬ (l.length = 0 ∨ sizeL l ≤ m) → P (leftL l (wMask l)) → P l) (l : List Ent) (hn : (l.map (·.id)).Nodup) : P l := by
  generalize e : l.length = n
  induction n using Nat.strongRecOn generalizing l with
  | _ n ih =>
    by_cases h : l.length = 0 ∨ sizeL l ≤ m
    · exact stop l h
    · exact step l hn h (ih _ (by have := left_less hn (by omega); omega) _ (left_nodup hn _) rfl)
theorem trim_rate {m : Int} {l : List Ent} (hn : (l.map (·.id)).Nodup) : 0 ≤ (trimL m l).2.2 ∧ (trimL m l).2.2 ≤ 100000000 := by
  refine trim_ind (P := fun l => 0 ≤ (trimL m l).2.2 ∧ (trimL m l).2.2 ≤ 100000000) m (fun l h => ?_) (fun l hn h ih => ?_) l hn
  · rw [trimL_stop h]; simp
  · rw [trimL_step hn h]
    have := askR_pos (scoreL l (worstE l))
    simp only; omega
end Go.K
end
section
namespace Go.K
open Go Go.Proofs.YteggaepppahefaaGreat
theorem feeD_once {l : List Ent} (h : (l.map (·.id)).Nodup) (m : List Bool) : feeD l (idsOf l m) = feeOf l m := by
  unfold feeD
  rw [dist_nodup ((idsOf_sub l m).nodup h)]
  exact (sums_mask h m).1
/-- The score of what bears an id. -/
def scoreP (l : List Ent) (id : ByteArray) : Int × Int := if hasE l id = true then scoreL l (getE l id) else (0, 0)
theorem has_mem {l : List Ent} {id : ByteArray} (h : hasE l id = true) : getE l id ∈ l ∧ (getE l id).id = id := by
  unfold hasE at h
  rw [← find_any, Option.isSome_iff_exists] at h
  obtain ⟨y, hy⟩ := h
  have h1 := List.mem_of_find?_eq_some hy
  have h2 := List.find?_some hy
  unfold getE
  rw [hy]
  exact ⟨h1, by simpa using h2⟩
theorem get_mem {l : List Ent} (hn : (l.map (·.id)).Nodup) {x : Ent} (hx : x ∈ l) : hasE l x.id = true ∧ getE l x.id = x := by
  obtain ⟨i, hi, rfl⟩ := List.getElem_of_mem hx
  have h := getE_get hn hi
  unfold hasE getE
  rw [← find_any, h]
  exact ⟨rfl, rfl⟩
/-! The worst so far, as the program keeps it. -/
def wS (l : List Ent) (i : Nat) : ByteArray := if i = 0 then ⟨#[]⟩ else (entD l (worstI l i).toNat).id
def wP (l : List Ent) (i : Nat) : Int × Int := if i = 0 then (0, 0) else scoreL l (entD l (worstI l i).toNat)
theorem dropAll_len {l : List Ent} {ids : List ByteArray} : (dropAll l ids).length ≤ l.length := by
  unfold dropAll
  induction ids generalizing l with
  | nil => exact Nat.le_refl _
  | cons s ids ih =>
    rw [List.foldl_cons]
    refine Nat.le_trans ih ?_
    unfold dropG
    split
    · exact Nat.le_refl _
    · rw [List.length_eraseIdx]; split <;> omega
/-- What stays of the first entries. -/
def stayL (a l : List Ent) : List Ent := l.filter fun x => hasE a x.id
/-! Sizes of what was checked. -/
theorem Tx.Sz.sizeM {t : Tx} (h : t.Sz) : 1 ≤ sizeT t ∧ sizeT t ≤ 1000000 := by
  have a1 := h.e3 false
  have a2 := h.e3 true
  have a3 := h.witC t.ins.length
  rw [List.take_length] at a3
  have e1 : (encT false t).size = (enc3 false t).size + 4 := by
    unfold encT enc4
    simp only [Bool.false_eq_true, if_false, ByteArray.size_append, leS_size]
    have h0 : (⟨#[]⟩ : ByteArray).size = 0 := rfl
    omega
  have e2 : (encT true t).size = (enc3 true t).size + (catB encWit t.ins).size + 4 := by
    unfold encT enc4
    simp only [if_true, ByteArray.size_append, leS_size]
  unfold sizeT weightT
  cases witB t
  · rw [e1]; omega
  · rw [e1, e2]; omega
end Go.K
end
section
namespace Go.K
open Go
def cmpU (a b : Nat) : Int := if a < b then -1 else if b < a then 1 else 0
theorem cmpU_lt {a b : Nat} (h : a < b) : cmpU a b = -1 := if_pos h
theorem cmpU_gt {a b : Nat} (h : b < a) : cmpU a b = 1 := by unfold cmpU; rw [if_neg (by omega), if_pos h]
def orU (a b : Int) : Int := if a = 0 then b else a
theorem cmpU_two {a b : Nat} : orU (cmpU (a / 18446744073709551616) (b / 18446744073709551616)) (cmpU (a % 18446744073709551616) (b % 18446744073709551616)) = cmpU a b := by
  unfold orU cmpU
  split <;> (try split) <;> (try split) <;> (try split) <;> (try split) <;> omega
theorem pricedB_iff {f s : Int} : pricedB f s = true ↔ (0 ≤ f ∧ f ≤ 2100000000000000) ∧ 1 ≤ s ∧ s ≤ 1000000 := by
  unfold pricedB
  rw [Bool.and_eq_true, goodB_iff, decide_eq_true_eq]
theorem pricedB_nat {f s : Int} (h : pricedB f s = true) : ∃ F S : Nat, f = (F : Nat) ∧ s = (S : Nat) ∧ F ≤ 2100000000000000 ∧ 1 ≤ S ∧ S ≤ 1000000 := by
  rw [pricedB_iff] at h
  exact ⟨f.toNat, s.toNat, by omega, by omega, by omega, by omega, by omega⟩
theorem cmpR_nat {F S O I : Nat} (h1 : pricedB (F : Nat) (S : Nat) = true) (h2 : pricedB (O : Nat) (I : Nat) = true) : cmpR (F : Nat) (S : Nat) (O : Nat) (I : Nat) = cmpU (F * I) (O * S) := by
  unfold cmpR cmpU
  rw [h1, h2, Bool.and_self, if_pos rfl, ← Int.natCast_mul, ← Int.natCast_mul]
  generalize F * I = a
  generalize O * S = b
  split <;> (try split) <;> (try split) <;> (try split) <;> omega
theorem cmpR_no {f s o i : Int} (h : pricedB f s = false ∨ pricedB o i = false) : cmpR f s o i = 0 := by
  unfold cmpR
  rw [if_neg]
  rcases h with h | h <;> rw [h] <;> simp
end Go.K
end
section
namespace Go.Proofs.YteggaepppahefaaGreat
open Go Go.K
theorem mul64_spec (x y : Nat) (hx : x < 18446744073709551616) (hy : y < 18446744073709551616) (w : World) : K.Spec Tryz.prog F.math_bits_Mul64 [.int .u64 (x : Nat), .int .u64 (y : Nat)] w fun v w' => v = .tuple #[.int .u64 ((x * y / 18446744073709551616 : Nat) : Int), .int .u64 ((x * y % 18446744073709551616 : Nat) : Int)] ∧ Ext w w' :=
  (Tryz.bits_Mul64 x y hx hy w).mono fun e w' ⟨he, hw⟩ => ⟨_, he, rfl, by rw [hw]; exact Ext.refl _⟩
attribute [local irreducible] regK codeK retK KOp.wp K.Spec u32 leS vnS str zero32 sha2

theorem priced_spec (f s : Int) (w : World) : K.Spec Tryz.prog F.amount_priced [.int .i64 f, .int .i64 s] w fun r w' => r = .bool (pricedB f s) ∧ Ext w w' := by
  refine s_amount_priced rfl ?_
  unfold k_amount_priced
  refine ox ?_
  repeat' (first|(first|refine go1 ?_|refine zg (fun _ _=>?_)|refine zi (fun _ _=>?_))|(refine zK rfl (fun h => ?_) (fun h => ?_))|(refine zJ rfl (fun h => ?_) (fun h => ?_)))
  all_goals refine x_ret rfl ⟨congrArg Value.bool ?_, by exact fx⟩
  · unfold pricedB
    rw [‹goodB f = true›, Bool.true_and]
    exact decide_eq_decide.2 (by have := of_decide_eq_true h; omega)
  · unfold pricedB
    rw [decide_eq_false (by have := of_decide_eq_false h; omega), Bool.and_false]
  · unfold pricedB
    rw [h]; rfl
theorem isNaN64_spec (n : Int) (w : World) : K.Spec Tryz.prog F.cmp_isNaN_uint64 [.int .u64 n] w fun v w' => v = .bool false ∧ Ext w w' := by
  refine s_cmp_isNaN_uint64 rfl ?_
  unfold k_cmp_isNaN_uint64
  refine ox ?_
  repeat' (first|refine go1 ?_|refine zg (fun _ _=>?_)|refine zi (fun _ _=>?_))
  exact x_ret rfl ⟨congrArg Value.bool (by simp), Ext.refl _⟩
theorem cmp64_spec (n m : Nat) (w : World) : K.Spec Tryz.prog F.cmp_Compare_uint64 [.int .u64 (n : Nat), .int .u64 (m : Nat)] w fun v w' => v = .int .i64 (cmpU n m) ∧ Ext w w' := by
  refine s_cmp_Compare_uint64 rfl ?_
  unfold k_cmp_Compare_uint64
  refine ox ?_
  repeat' (first|(first|refine go1 ?_|refine zg (fun _ _=>?_)|refine zi (fun _ _=>?_))|(refine zC rfl (isNaN64_spec _ _) ?_; rintro _ _ ⟨rfl, _⟩)|(refine zL rfl (fun h => ?_) (fun h => ?_)))
  all_goals refine x_ret rfl ⟨congrArg (Value.int .i64) ?_, by exact fx⟩
  · exact (cmpU_lt (by omega)).symm
  · exact (cmpU_gt (by omega)).symm
  · unfold cmpU; rw [if_neg (by omega), if_neg (by omega)]
def intE : Enc Int := ⟨fun n => [.int .i64 n], 1, fun _ => rfl, by decide, by intro x v hv; simp at hv; subst hv; rfl⟩
theorem or_spec (a b : Int) (v : Value) (w : World) (hs : SlE intE w v [a, b]) : K.Spec Tryz.prog F.cmp_Or_int [v] w fun v w' => v = .int .i64 (orU a b) ∧ Ext w w' := by
  refine s_cmp_Or_int rfl ?_
  unfold k_cmp_Or_int
  refine ox ?_
  repeat' (first|(first|refine go1 ?_|refine zg (fun _ _=>?_)|refine zi (fun _ _=>?_))|(refine zL rfl (fun h => ?_) (fun h => ?_))|(refine st_len rfl hs ?_)|(refine c_loopV (fun (i : Nat) w' => Ext w w' ∧ i ≤ 2 ∧ (0 < i → a = 0) ∧ (1 < i → b = 0)) (fun i => [(3, .int .i64 0), (6, v), (7, .int .i64 2), (8, .int .i64 i)]) (fun i => 2 - i) 0 ⟨rfl, rfl, rfl, rfl, trivial⟩ ⟨Ext.refl _, by omega, by omega, by omega⟩ ?_; rintro i ρ w1 ⟨x1, hi, h0, h1⟩)|(refine st_elemE (E := intE) (l := [a, b]) rfl rfl (hs.ext x1) rfl (by simp; omega) (fun ad r1 => ?_))|(refine zN rfl (fun h2 => ?_) (fun h2 => ?_)))
  · refine x_ret rfl ⟨congrArg (Value.int .i64) ?_, x1⟩
    rcases (show i = 0 ∨ i = 1 by omega) with rfl | rfl
    · have h3 : ¬ a = 0 := h2
      show a = _
      unfold orU; rw [if_neg h3]
    · show b = _
      unfold orU; rw [if_pos (h0 (by omega))]
  · have h3 : (i = 0 → a = 0) ∧ (i = 1 → b = 0) := by
      constructor
      · rintro rfl; exact h2
      · rintro rfl; exact h2
    exact ⟨i + 1, ⟨rfl, rfl, rfl, rfl, trivial⟩, ⟨x1, by omega, fun _ => by rcases Nat.eq_zero_or_pos i with e | e; exact h3.1 e; exact h0 e, fun _ => h3.2 (by omega)⟩, by omega⟩
  · have : i = 2 := by omega
    subst this
    exact x_ret rfl ⟨congrArg (Value.int .i64) (by unfold orU; rw [if_pos (h0 (by omega)), h1 (by omega)]), x1⟩
theorem u64_w {n : Nat} (h : n ≤ 2100000000000000) : IntKind.u64.wrap (n : Int) = (n : Nat) := by
  have e : ∀ m : Int, IntKind.u64.wrap m = m % 18446744073709551616 := fun _ => rfl
  rw [e]; omega
theorem priced_val {f s : Int} {b : Bool} (h : pricedB f s = b) (w : World) : K.Spec Tryz.prog F.amount_priced [.int .i64 f, .int .i64 s] w fun r w' => r = .bool b ∧ Ext w w' := by
  subst h; exact priced_spec f s w
theorem compare_spec (f s o i : Int) (w : World) : K.Spec Tryz.prog F.amount_Compare [.int .i64 f, .int .i64 s, .int .i64 o, .int .i64 i] w fun r w' => r = .int .i64 (cmpR f s o i) ∧ Ext w w' := by
  cases h1 : pricedB f s with
  | true =>
    cases h2 : pricedB o i with
    | true =>
      obtain ⟨F', S', rfl, rfl, b1, b2, b3⟩ := pricedB_nat h1
      obtain ⟨O', I', rfl, rfl, c1, c2, c3⟩ := pricedB_nat h2
      rw [cmpR_nat h1 h2, ← cmpU_two]
      refine s_amount_Compare rfl ?_
      unfold k_amount_Compare
      refine ox ?_
      repeat' (first|(refine st_fixV (d := some 25) (.int .u64 (F' : Nat)) rfl (congrArg (fun n => some (Value.int .u64 n)) (u64_w b1)) ?_)|(refine st_fixV (d := some 27) (.int .u64 (I' : Nat)) rfl (congrArg (fun n => some (Value.int .u64 n)) (u64_w (by omega))) ?_)|(refine st_fixV (d := some 33) (.int .u64 (O' : Nat)) rfl (congrArg (fun n => some (Value.int .u64 n)) (u64_w c1)) ?_)|(refine st_fixV (d := some 35) (.int .u64 (S' : Nat)) rfl (congrArg (fun n => some (Value.int .u64 n)) (u64_w (by omega))) ?_)|(first|refine go1 ?_|refine zg (fun _ _=>?_)|refine zi (fun _ _=>?_))|(refine zC (d := some 15) rfl (priced_val h1 _) ?_; rintro _ w1 ⟨rfl, x1⟩)|(refine zC (d := some 20) rfl (priced_val h2 _) ?_; rintro _ w2 ⟨rfl, x2⟩)|(refine zC (d := some 28) rfl (mul64_spec F' I' (by omega) (by omega) _) ?_; rintro _ w3 ⟨rfl, x3⟩)|(refine zC (d := some 36) rfl (mul64_spec O' S' (by omega) (by omega) _) ?_; rintro _ w4 ⟨rfl, x4⟩)|(refine zC (d := some 41) rfl (cmp64_spec _ _ _) ?_; rintro _ w5 ⟨rfl, x5⟩)|(refine zC (d := some 44) rfl (cmp64_spec _ _ _) ?_; rintro _ w6 ⟨rfl, x6⟩)|(refine zI (d := some 45) (cs := [.int .i64 (cmpU (F' * I' / 18446744073709551616) (O' * S' / 18446744073709551616)), .int .i64 (cmpU (F' * I' % 18446744073709551616) (O' * S' % 18446744073709551616))]) rfl (fun b w7 x7 a7 hb => ?_); have s7 := SlE.new (E := intE) (l := [cmpU (F' * I' / 18446744073709551616) (O' * S' / 18446744073709551616), cmpU (F' * I' % 18446744073709551616) (O' * S' % 18446744073709551616)]) a7 rfl (Nat.le_refl _))|(refine zC (d := some 46) rfl (or_spec _ _ _ _ s7) ?_; rintro _ w8 ⟨rfl, x8⟩))
      exact x_ret rfl ⟨rfl, by exact fx⟩
    | false =>
      rw [cmpR_no (.inr h2)]
      refine s_amount_Compare rfl ?_
      unfold k_amount_Compare
      refine ox ?_
      repeat' (first|(first|refine go1 ?_|refine zg (fun _ _=>?_)|refine zi (fun _ _=>?_))|(refine zC (d := some 15) rfl (priced_val h1 _) ?_; rintro _ w1 ⟨rfl, x1⟩)|(refine zC (d := some 20) rfl (priced_val h2 _) ?_; rintro _ w2 ⟨rfl, x2⟩))
      exact x_ret rfl ⟨rfl, by exact fx⟩
  | false =>
    rw [cmpR_no (.inl h1)]
    refine s_amount_Compare rfl ?_
    unfold k_amount_Compare
    refine ox ?_
    repeat' (first|(first|refine go1 ?_|refine zg (fun _ _=>?_)|refine zi (fun _ _=>?_))|(refine zC (d := some 15) rfl (priced_val h1 _) ?_; rintro _ w1 ⟨rfl, x1⟩))
    exact x_ret rfl ⟨rfl, by exact fx⟩
/-! The document's. -/
end Go.Proofs.YteggaepppahefaaGreat
end
section
namespace Go.Proofs.YteggaepppahefaaGreat
open Go Go.K
attribute [local irreducible] regK codeK retK KOp.wp K.Spec u32 leS vnS str zero32 sha2 encT idT sizeT checkT grantB idN stepR workL reachE findI dropG addG aboveL belowL idsOf feeD sizeD scoreL worstI cmpR rateR sizeL

theorem idsOf_le1 (l : List Ent) (m : List Bool) : (idsOf l m).length ≤ l.length := by
  have := (idsOf_sub l m).length_le
  simpa using this
end Go.Proofs.YteggaepppahefaaGreat
end
section
namespace Go.Proofs.YteggaepppahefaaGreat
open Go Go.K
section
variable {P : Program} {d : Option Tmp} {r : KR} {K : Env → World → Prop} {ρ : Env} {w : World}
theorem st_max {x y : Operand} {a b : Int} (hx : ev ρ x = .int .i64 a) (hy : ev ρ y = .int .i64 b) (k : regK P r K (put ρ d (.int .i64 (max a b))) w) : regK P (.cons ⟨d, .minmax true x [y], none⟩ r) K ρ w :=
  st_fix rfl (by
    have e : (if b > a then b else a) = max a b := by split <;> omega
    simp only [KOp.fix, List.foldl_cons, List.foldl_nil, hx, hy, Option.bind_some, minmax2, if_true, e]) k
end
theorem Own.blk_lt {α : Type} {E : Enc α} {t : TypeId} {B : Nat} {w : World} {v : Value} {l : List α} (h : Own E t B w v l) : ∀ b ∈ blkOf v, b < w.heap.size := by
  rcases h with ⟨rfl, rfl⟩ | ⟨b, cap, junk, rfl, hB, hat, hl⟩ <;> simp [blkOf]
  exact hat.lt
attribute [local irreducible] regK codeK retK KOp.wp K.Spec u32 leS vnS str zero32 sha2 encT idT sizeT checkT grantB idN stepR workL reachE findI dropG addG aboveL belowL idsOf feeD sizeD scoreL worstI cmpR rateR sizeL trimL wMask worstE leftL dropAll wS

structure TrimI (w : World) (l : List Ent) (n : Int) (B g : Nat) (M U : List Nat) (L : List Ent) (M1 : List Nat) (v : Value) (G : List ByteArray) (R : Int) (w' : World) : Prop where
  chg : Chg M w w'
  gr : GrU w' B g M1 (blkOf v ++ U) L
  own : Own strE T.string w.heap.size w' v G
  low : ∀ b ∈ M1, b ∈ M ∨ w.heap.size ≤ b
  eq : trimL n l = ((trimL n L).1, G ++ (trimL n L).2.1, max R (trimL n L).2.2)
  rate : 0 ≤ R
  len : G.length + L.length ≤ l.length
theorem TrimI.start {w : World} {l : List Ent} {n : Int} {B g : Nat} {M U : List Nat} (hG : GrU w B g M U l) : TrimI w l n B g M U l M (.slice none 0 0) [] 0 w :=
  ⟨Chg.refl _ _, hG, Own.nil _ _ _, fun _ h => .inl h, by
    have := (trim_rate (m := n) hG.gr.nodup).1
    rw [List.nil_append, Int.max_eq_right this], Int.le_refl _, by simp⟩
theorem TrimI.stop {w w' : World} {l L : List Ent} {n R : Int} {B g : Nat} {M U M1 : List Nat} {v : Value} {G : List ByteArray} (h : TrimI w l n B g M U L M1 v G R w') (hs : L.length = 0 ∨ sizeL L ≤ n) : trimL n l = (L, G, R) := by
  have e := h.eq
  rw [trimL_stop hs, List.append_nil] at e
  rw [e, Int.max_eq_left h.rate]
end Go.Proofs.YteggaepppahefaaGreat
end
