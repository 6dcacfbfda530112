/- Plain: scores of entries, the worst one, and what goes. -/
import Derived.Test.YteggaepppahefaaGreatE41
set_option linter.unusedVariables false
set_option linter.unusedSimpArgs false
section
namespace Go.K
open Go
def pricedB (f s : Int) : Bool := goodB f && decide (1 ≤ s ∧ s ≤ 1000000)
def cmpR (f s o i : Int) : Int := if pricedB f s && pricedB o i then (if f * i < o * s then -1 else if o * s < f * i then 1 else 0) else 0
def rateR (f s : Int) : Int := if pricedB f s then f * 1000 / s else 0
def scoreL (l : List Ent) (x : Ent) : Int × Int :=
  if cmpR (feeOf l (belowL l x.id)) (szOf l (belowL l x.id)) x.fee x.size > 0 then (feeOf l (belowL l x.id), szOf l (belowL l x.id)) else (x.fee, x.size)
def worstI (l : List Ent) : Nat → Int
  | 0 => -1
  | i + 1 => if worstI l i < 0 ∨ cmpR (scoreL l (entD l i)).1 (scoreL l (entD l i)).2 (scoreL l (entD l (worstI l i).toNat)).1 (scoreL l (entD l (worstI l i).toNat)).2 ≤ 0 then i else worstI l i
theorem worstI_lt (l : List Ent) : ∀ i, -1 ≤ worstI l i ∧ worstI l i < i ∧ (0 < i → 0 ≤ worstI l i)
  | 0 => ⟨by rw [worstI]; omega, by rw [worstI]; omega, by omega⟩
  | i + 1 => by
    have ih := worstI_lt l i
    rw [worstI]
    split
    · refine ⟨?_, ?_, ?_⟩ <;> omega
    · rename_i h
      refine ⟨?_, ?_, ?_⟩ <;> omega
def sizeL (l : List Ent) : Int := (l.map (·.size)).sum
def leftL : List Ent → List Bool → List Ent
  | x :: l, b :: m => if b then leftL l m else x :: leftL l m
  | l, _ => l
theorem leftL_sub : ∀ (l : List Ent) (m : List Bool), (leftL l m).Sublist l
  | [], [] => List.Sublist.slnil
  | [], _ :: _ => List.Sublist.slnil
  | _ :: _, [] => List.Sublist.refl _
  | x :: l, b :: m => by
    rw [leftL]
    cases b
    · exact (leftL_sub l m).cons_cons _
    · exact (leftL_sub l m).cons _
theorem leftL_len : ∀ (l : List Ent) (m : List Bool), (leftL l m).length + (idsOf l m).length = l.length
  | [], [] => rfl
  | [], _ :: _ => rfl
  | _ :: _, [] => rfl
  | x :: l, b :: m => by
    have := leftL_len l m
    rw [leftL, idsOf, List.length_cons]
    cases b
    · simp only [Bool.false_eq_true, if_false, List.length_cons]; omega
    · simp only [if_true, List.length_cons]; omega
theorem leftL_or : ∀ (l : List Ent) (m : List Bool) {x : Ent}, x ∈ l → x ∈ leftL l m ∨ x.id ∈ idsOf l m
  | [], _, _, h => by cases h
  | _ :: _, [], _, h => .inl h
  | y :: l, b :: m, x, h => by
    rw [leftL, idsOf]
    rcases List.mem_cons.1 h with rfl | h
    · cases b <;> simp
    · rcases leftL_or l m h with h | h <;> cases b <;> simp [h]
theorem leftL_not : ∀ (l : List Ent) (m : List Bool) {x : Ent}, (l.map (·.id)).Nodup → x ∈ leftL l m → x.id ∉ idsOf l m
  | [], m, _, _, h => by cases m <;> cases h
  | _ :: _, [], _, _, _ => by simp [idsOf]
  | y :: l, b :: m, x, hn, h => by
    rw [List.map_cons, List.nodup_cons] at hn
    rw [leftL] at h
    rw [idsOf]
    cases b
    · simp only [Bool.false_eq_true, if_false] at h ⊢
      rcases List.mem_cons.1 h with rfl | h
      · exact fun e => hn.1 ((idsOf_sub l m).subset e)
      · exact leftL_not l m hn.2 h
    · simp only [if_true] at h ⊢
      intro e
      rcases List.mem_cons.1 e with e | e
      · exact hn.1 (by rw [← e]; exact List.mem_map_of_mem ((leftL_sub l m).subset h))
      · exact leftL_not l m hn.2 h e
theorem findI_cons_eq {x : Ent} {l : List Ent} : findI (x :: l) x.id = 0 := by
  unfold findI
  exact idxOf_hit (i := 0) (by simp) (decide_eq_true rfl) (fun j hj => by omega)
theorem findI_cons_ne {x : Ent} {l : List Ent} {s : ByteArray} (h : x.id ≠ s) : findI (x :: l) s = if findI l s < 0 then -1 else findI l s + 1 := by
  unfold findI idxOf
  rw [List.findIdx?_cons, if_neg (by simpa using h)]
  cases l.findIdx? fun x => decide (x.id = s) with
  | none => rfl
  | some i => simp; omega
theorem dropG_cons_eq {x : Ent} {l : List Ent} : (dropG (x :: l) x.id).1 = l := by
  unfold dropG
  rw [findI_cons_eq, if_neg (by omega)]; rfl
theorem dropG_cons_ne {x : Ent} {l : List Ent} {s : ByteArray} (h : x.id ≠ s) : (dropG (x :: l) s).1 = x :: (dropG l s).1 := by
  unfold dropG
  rw [findI_cons_ne h]
  by_cases h1 : findI l s < 0
  · rw [if_pos h1, if_pos h1, if_pos (by omega)]
  · rw [if_neg h1, if_neg h1, if_neg (by omega)]
    have : (findI l s + 1).toNat = (findI l s).toNat + 1 := by omega
    rw [this]; rfl
def dropAll (l : List Ent) (ids : List ByteArray) : List Ent := ids.foldl (fun l s => (dropG l s).1) l
theorem dropAll_succ {l : List Ent} {ids : List ByteArray} {i : Nat} (h : i < ids.length) : dropAll l (ids.take (i + 1)) = (dropG (dropAll l (ids.take i)) ids[i]).1 := by
  unfold dropAll
  rw [List.take_succ_eq_append_getElem h, List.foldl_append]; rfl
theorem dropAll_cons : ∀ (ids : List ByteArray) {x : Ent} {l : List Ent}, x.id ∉ ids → dropAll (x :: l) ids = x :: dropAll l ids
  | [], _, _, _ => rfl
  | s :: ids, x, l, h => by
    simp only [List.mem_cons, not_or] at h
    show dropAll (dropG (x :: l) s).1 ids = x :: dropAll (dropG l s).1 ids
    rw [dropG_cons_ne h.1, dropAll_cons ids h.2]
theorem dropAll_left : ∀ (l : List Ent) (m : List Bool), (l.map (·.id)).Nodup → dropAll l (idsOf l m) = leftL l m
  | [], [], _ => rfl
  | [], _ :: _, _ => rfl
  | _ :: _, [], _ => rfl
  | x :: l, b :: m, hn => by
    rw [List.map_cons, List.nodup_cons] at hn
    have ih := dropAll_left l m hn.2
    rw [idsOf, leftL]
    cases b
    · simp only [Bool.false_eq_true, if_false]
      rw [dropAll_cons _ (fun e => hn.1 ((idsOf_sub l m).subset e)), ih]
    · simp only [if_true]
      show dropAll (dropG (x :: l) x.id).1 (idsOf l m) = _
      rw [dropG_cons_eq, ih]
def worstE (l : List Ent) : Ent := entD l (worstI l l.length).toNat
def wMask (l : List Ent) : List Bool := belowL l (worstE l).id
def askR (p : Int × Int) : Int := min (rateR p.1 p.2 + 1000) 100000000
theorem rateR_nonneg (f s : Int) : 0 ≤ rateR f s := by
  unfold rateR pricedB
  split
  · rename_i h
    rw [Bool.and_eq_true, goodB_iff, decide_eq_true_eq] at h
    exact Int.ediv_nonneg (by omega) (by omega)
  · omega
theorem askR_pos (p : Int × Int) : 1 ≤ askR p ∧ askR p ≤ 100000000 := by
  have := rateR_nonneg p.1 p.2
  unfold askR; omega
theorem worst_lt {l : List Ent} (h : 0 < l.length) : (worstI l l.length).toNat < l.length := by
  have := worstI_lt l l.length
  omega
theorem worst_mem {l : List Ent} (h : 0 < l.length) : worstE l ∈ l := by
  unfold worstE
  rw [entD_get (worst_lt h)]
  exact List.getElem_mem _
theorem worst_in {l : List Ent} (hn : (l.map (·.id)).Nodup) (h : 0 < l.length) : (worstE l).id ∈ idsOf l (wMask l) := by
  unfold wMask worstE
  rw [entD_get (worst_lt h)]
  exact inS_iff.1 (both_self hn (worst_lt h))
theorem left_less {l : List Ent} (hn : (l.map (·.id)).Nodup) (h : 0 < l.length) : (leftL l (wMask l)).length < l.length := by
  have h1 := leftL_len l (wMask l)
  have h2 := List.length_pos_of_mem (worst_in hn h)
  omega
def trimF : Nat → Int → List Ent → List Ent × List ByteArray × Int
  | 0, _, l => (l, [], 0)
  | k + 1, m, l => if l.length = 0 ∨ sizeL l ≤ m then (l, [], 0) else
    ((trimF k m (leftL l (wMask l))).1, idsOf l (wMask l) ++ (trimF k m (leftL l (wMask l))).2.1, max (askR (scoreL l (worstE l))) (trimF k m (leftL l (wMask l))).2.2)
def trimL (m : Int) (l : List Ent) : List Ent × List ByteArray × Int := trimF l.length m l
theorem left_nodup {l : List Ent} (hn : (l.map (·.id)).Nodup) (m : List Bool) : ((leftL l m).map (·.id)).Nodup := ((leftL_sub l m).map _).nodup hn
theorem trimF_fuel (m : Int) : ∀ (k : Nat) (l : List Ent), (l.map (·.id)).Nodup → l.length ≤ k → trimF k m l = trimL m l := by
  intro k
  induction k using Nat.strongRecOn with
  | _ k ih =>
    intro l hn hk
    unfold trimL
    cases h : l.length with
    | zero =>
      cases k with
      | zero => rfl
      | succ k => rw [trimF, trimF, if_pos (.inl h)]
    | succ j =>
      cases k with
      | zero => omega
      | succ k =>
        rw [trimF, trimF]
        have h1 := left_less hn (by omega)
        have h2 := left_nodup hn (wMask l)
        rw [ih k (by omega) _ h2 (by omega), ih j (by omega) _ h2 (by omega)]
theorem trimL_stop {m : Int} {l : List Ent} (h : l.length = 0 ∨ sizeL l ≤ m) : trimL m l = (l, [], 0) := by
  unfold trimL
  cases e : l.length with
  | zero => rfl
  | succ j => rw [trimF, if_pos h]
theorem trimL_step {m : Int} {l : List Ent} (hn : (l.map (·.id)).Nodup) (h : ¬ (l.length = 0 ∨ sizeL l ≤ m)) :
    trimL m l = ((trimL m (leftL l (wMask l))).1, idsOf l (wMask l) ++ (trimL m (leftL l (wMask l))).2.1, max (askR (scoreL l (worstE l))) (trimL m (leftL l (wMask l))).2.2) := by
  have h1 := left_less hn (by omega)
  have h3 : trimL m l = trimF l.length m l := rfl
  rw [h3]
  cases e : l.length with
  | zero => omega
  | succ j =>
    rw [trimF, if_neg h, trimF_fuel m j _ (left_nodup hn _) (by omega)]
theorem trim_ind {P : List Ent → Prop} (m : Int) (stop : ∀ l, l.length = 0 ∨ sizeL l ≤ m → P l) (step : ∀ l, (l.map (·.id)).Nodup → ¬ (l.length = 0 ∨ sizeL l ≤ m) → P (leftL l (wMask l)) → P l) (l : List Ent) (hn : (l.map (·.id)).Nodup) : P l := by
  generalize e : l.length = n
  induction n using Nat.strongRecOn generalizing l with
  | _ n ih =>
    by_cases h : l.length = 0 ∨ sizeL l ≤ m
    · exact stop l h
    · exact step l hn h (ih _ (by have := left_less hn (by omega); omega) _ (left_nodup hn _) rfl)
theorem trim_rate {m : Int} {l : List Ent} (hn : (l.map (·.id)).Nodup) : 0 ≤ (trimL m l).2.2 ∧ (trimL m l).2.2 ≤ 100000000 := by
  refine trim_ind (P := fun l => 0 ≤ (trimL m l).2.2 ∧ (trimL m l).2.2 ≤ 100000000) m (fun l h => ?_) (fun l hn h ih => ?_) l hn
  · rw [trimL_stop h]; simp
  · rw [trimL_step hn h]
    have := askR_pos (scoreL l (worstE l))
    simp only; omega
theorem trim_sub {m : Int} {l : List Ent} (hn : (l.map (·.id)).Nodup) : (trimL m l).1.Sublist l := by
  refine trim_ind (P := fun l => (trimL m l).1.Sublist l) m (fun l h => ?_) (fun l hn h ih => ?_) l hn
  · rw [trimL_stop h]; exact List.Sublist.refl _
  · rw [trimL_step hn h]
    exact ih.trans (leftL_sub _ _)
theorem trim_end {m : Int} {l : List Ent} (hn : (l.map (·.id)).Nodup) : (trimL m l).1.length = 0 ∨ sizeL (trimL m l).1 ≤ m := by
  refine trim_ind (P := fun l => (trimL m l).1.length = 0 ∨ sizeL (trimL m l).1 ≤ m) m (fun l h => ?_) (fun l hn h ih => ?_) l hn
  · rw [trimL_stop h]; exact h
  · rw [trimL_step hn h]; exact ih
/-- To trim to a size, and then to a lesser one. -/
theorem trim_parts {m n : Int} (hm : m ≤ n) {l : List Ent} (hn : (l.map (·.id)).Nodup) :
    trimL m l = ((trimL m (trimL n l).1).1, (trimL n l).2.1 ++ (trimL m (trimL n l).1).2.1, max (trimL n l).2.2 (trimL m (trimL n l).1).2.2) := by
  have key : (l.map (·.id)).Nodup → trimL m l = ((trimL m (trimL n l).1).1, (trimL n l).2.1 ++ (trimL m (trimL n l).1).2.1, max (trimL n l).2.2 (trimL m (trimL n l).1).2.2) := by
    refine trim_ind (P := fun l => (l.map (·.id)).Nodup → trimL m l = ((trimL m (trimL n l).1).1, (trimL n l).2.1 ++ (trimL m (trimL n l).1).2.1, max (trimL n l).2.2 (trimL m (trimL n l).1).2.2)) n (fun l h hn => ?_) (fun l hn h ih _ => ?_) l hn
    · rw [trimL_stop (m := n) h]
      have h1 := trim_rate (m := m) hn
      have h2 : max 0 (trimL m l).2.2 = (trimL m l).2.2 := by omega
      simp only [List.nil_append, h2]
    · rw [trimL_step (m := n) hn h, trimL_step (m := m) hn (by omega), ih (left_nodup hn _)]
      simp only [List.append_assoc, Int.max_assoc]
  exact key hn
theorem trim_again {m : Int} {l : List Ent} (hn : (l.map (·.id)).Nodup) : trimL m (trimL m l).1 = ((trimL m l).1, [], 0) := trimL_stop (trim_end hn)
/-- Each entry stays or goes. -/
theorem trim_or {m : Int} {l : List Ent} (hn : (l.map (·.id)).Nodup) {x : Ent} (hx : x ∈ l) : (x ∈ (trimL m l).1 ∧ x.id ∉ (trimL m l).2.1) ∨ (x ∉ (trimL m l).1 ∧ x.id ∈ (trimL m l).2.1) := by
  have key := trim_ind (P := fun l => ∀ x ∈ l, (x ∈ (trimL m l).1 ∧ x.id ∉ (trimL m l).2.1) ∨ (x ∉ (trimL m l).1 ∧ x.id ∈ (trimL m l).2.1)) m (fun l h x hx => by
    rw [trimL_stop h]; exact .inl ⟨hx, by simp⟩) (fun l hn h ih x hx => by
    rw [trimL_step hn h]
    simp only [List.mem_append]
    rcases leftL_or l (wMask l) hx with h1 | h1
    · have h2 := leftL_not l _ hn h1
      rcases ih x h1 with ⟨h3, h4⟩ | ⟨h3, h4⟩
      · exact .inl ⟨h3, fun e => e.elim h2 h4⟩
      · exact .inr ⟨h3, .inr h4⟩
    · exact .inr ⟨fun e => leftL_not l _ hn ((trim_sub (left_nodup hn _)).subset e) h1, .inl h1⟩) l hn
  exact key x hx
theorem mask_closed {l : List Ent} (hn : (l.map (·.id)).Nodup) {x y : Ent} {s : ByteArray} (hx : x ∈ l) (hy : y ∈ l) (h : hangs x.tx y = true) (hi : y.id ∈ idsOf l (belowL l s)) : x.id ∈ idsOf l (belowL l s) := by
  obtain ⟨i, h1, rfl⟩ := List.getElem_of_mem hx
  obtain ⟨j, h2, rfl⟩ := List.getElem_of_mem hy
  have h3 : belowS l s j = true := (mem_reach hn h2).1 hi
  refine (mem_reach hn h1).2 (?_ : belowS l s i = true)
  unfold belowS at h3 ⊢
  exact stepR_closed h1 h2 h3 (by unfold hangE; rw [entD_get h1, entD_get h2]; exact h)
/-- What stays keeps what it hangs on. -/
theorem trim_keeps {m : Int} {l : List Ent} (hn : (l.map (·.id)).Nodup) : ∀ x ∈ (trimL m l).1, ∀ y ∈ l, hangs x.tx y = true → y ∈ (trimL m l).1 := by
  refine trim_ind (P := fun l => ∀ x ∈ (trimL m l).1, ∀ y ∈ l, hangs x.tx y = true → y ∈ (trimL m l).1) m (fun l h => ?_) (fun l hn h ih => ?_) l hn
  · rw [trimL_stop h]; exact fun _ _ y hy _ => hy
  · rw [trimL_step hn h]
    intro x hx y hy hh
    have hx1 := (trim_sub (left_nodup hn (wMask l))).subset hx
    refine ih x hx y ?_ hh
    rcases leftL_or l (wMask l) hy with h1 | h1
    · exact h1
    · exact absurd (mask_closed hn ((leftL_sub _ _).subset hx1) hy hh h1) (leftL_not l _ hn hx1)
theorem trim_above {m : Int} {l : List Ent} (hn : (l.map (·.id)).Nodup) {x : Ent} (hx : x ∈ (trimL m l).1) {s : ByteArray} (hs : s ∈ idsOf l (aboveL l x.tx)) : ∃ y ∈ (trimL m l).1, y.id = s := by
  obtain ⟨i, h1, h2, h3, rfl⟩ := mem_idsOf hs
  refine ⟨l[i], ?_, rfl⟩
  have h4 : aboveS l x.tx i = true := by
    have e : (aboveL l x.tx)[i]'h2 = aboveS l x.tx i := by simp only [aboveL, reachL, List.getElem_map, List.getElem_range]; rfl
    rw [← e]; exact h3
  have h5 : ∃ h : i < l.length, l[i] ∈ (trimL m l).1 := by
    refine stepR_least (p := fun i => ∃ h : i < l.length, l[i] ∈ (trimL m l).1) (fun i hi h => ⟨hi, ?_⟩) (fun k i hk hi h1 h2 => ⟨hi, ?_⟩) _ _ h1 h4
    · rw [entD_get hi] at h
      exact trim_keeps hn x hx _ (List.getElem_mem hi) h
    · obtain ⟨h3, h4⟩ := h1
      unfold hangE at h2
      rw [entD_get hi, entD_get hk] at h2
      exact trim_keeps hn _ h4 _ (List.getElem_mem hi) h2
  exact h5.2
theorem sub_filter : ∀ {a l : List Ent}, a.Sublist l → (l.map (·.id)).Nodup → l.filter (fun x => a.any fun y => decide (y.id = x.id)) = a
  | _, _, .slnil, _ => rfl
  | a, x :: l, .cons _ h, hn => by
    rw [List.map_cons, List.nodup_cons] at hn
    rw [List.filter_cons_of_neg, sub_filter h hn.2]
    simp only [List.any_eq_true, decide_eq_true_eq, not_exists, not_and]
    intro y hy e
    exact hn.1 (by rw [← e]; exact List.mem_map_of_mem (h.subset hy))
  | x :: a, _ :: l, .cons_cons _ h, hn => by
    rw [List.map_cons, List.nodup_cons] at hn
    rw [List.filter_cons_of_pos (by simp)]
    congr 1
    conv => rhs; rw [← sub_filter h hn.2]
    refine List.filter_congr fun y hy => ?_
    have : x.id ≠ y.id := fun e => hn.1 (by rw [e]; exact List.mem_map_of_mem hy)
    simp [this]
theorem trim_went {m : Int} {l : List Ent} (hn : (l.map (·.id)).Nodup) (h : ¬ (l.length = 0 ∨ sizeL l ≤ m)) : (worstE l).id ∈ (trimL m l).2.1 ∧ askR (scoreL l (worstE l)) ≤ (trimL m l).2.2 := by
  rw [trimL_step hn h]
  exact ⟨List.mem_append_left _ (worst_in hn (by omega)), by simp only; omega⟩
/-- What is asked is more than the score. -/
theorem ask_more {f s r : Int} (hp : pricedB f s = true) (h : askR (f, s) ≤ r) (hr : r ≤ 100000000) : r = 100000000 ∨ cmpR f s r 1000 < 0 := by
  by_cases e : r = 100000000
  · exact .inl e
  · refine .inr ?_
    have h1 : rateR f s + 1000 ≤ r := by unfold askR at h; simp only at h; omega
    have hp2 := hp
    unfold pricedB at hp2
    rw [Bool.and_eq_true, goodB_iff, decide_eq_true_eq] at hp2
    have h0 := rateR_nonneg f s
    have hq : pricedB r 1000 = true := by
      unfold pricedB
      rw [Bool.and_eq_true, goodB_iff, decide_eq_true_eq]; omega
    have h2 : rateR f s = f * 1000 / s := by unfold rateR; rw [if_pos hp]
    have h3 : f * 1000 < (f * 1000 / s + 1) * s := by
      have := Int.lt_ediv_add_one_mul_self (f * 1000) (show 0 < s by omega)
      exact this
    have h4 : (f * 1000 / s + 1) * s ≤ r * s := Int.mul_le_mul_of_nonneg_right (by omega) (by omega)
    unfold cmpR
    rw [hp, hq, Bool.and_self, if_pos rfl, if_pos (by omega)]
    omega
end Go.K
end
