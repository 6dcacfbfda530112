/- Plain: accepting step by step: what is there then, what stays, and the money of it. Plain: transactions over coins, made of small numbers. Plain: what the document fixes of pools. Plain: a parent and a child that come together. -/
import Derived.Test.YtilhlcnekkkajaaGreatPa35
set_option linter.unusedVariables false
set_option linter.unusedSimpArgs false
section
namespace Go.K
open Go Go.Proofs.YtilhlcnekkkajaaGreat
section
variable {f : Pt → Option Cn} {l : List Ent} {t : Tx} {h rate : Int}
theorem acc_zero (h0 : (accE f l t h rate).1 = 0) : (plainP f l t h).2.1 = 0 ∧ askedF rate (sizeT t) ≤ (plainP f l t h).1 ∧ rulesL l t (plainP f l t h).1 = 0 ∧ fitsL (restL l t) t = 0 := by
  by_cases h1 : (plainP f l t h).2.1 = 0
  · by_cases h2 : (plainP f l t h).1 < askedF rate (sizeT t)
    · rw [acc_fee h1 h2] at h0; exact absurd h0 (show ¬ (11 : Int) = 0 by decide)
    · by_cases h3 : rulesL l t (plainP f l t h).1 = 0
      · by_cases h4 : fitsL (restL l t) t = 0
        · exact ⟨h1, by omega, h3, h4⟩
        · rw [acc_fits h1 h2 h3 h4] at h0; exact absurd h0 h4
      · rw [acc_rules h1 h2 h3] at h0; exact absurd h0 h3
  · rw [(acc_plain h1).1] at h0; exact absurd h0 h1
theorem acc_not (h0 : (accE f l t h rate).1 ≠ 0) : accIds f l t h rate = [] ∧ accL f l t h rate = l := by
  unfold accIds accL
  rw [if_neg h0, if_neg h0]; exact ⟨rfl, rfl⟩
theorem addG_ok {f : Int} (h : (addG l t f).2 = 0) : (addG l t f).1 = l ++ [⟨t, idT t, f, (sizeT t : Nat)⟩] := by
  unfold addG at h ⊢
  split
  · rename_i a; rw [if_pos a] at h; exact absurd h a
  rename_i a; rw [if_neg a] at h
  split
  · rename_i a; rw [if_pos a] at h; exact absurd h (show ¬ (4 : Int) = 0 by decide)
  rename_i a; rw [if_neg a] at h
  split
  · rename_i a; rw [if_pos a] at h; exact absurd h (show ¬ (3 : Int) = 0 by decide)
  rename_i a; rw [if_neg a] at h
  split
  · rename_i a; rw [if_pos a] at h; exact absurd h (show ¬ (7 : Int) = 0 by decide)
  rename_i a; rw [if_neg a] at h
  split
  · rename_i a; rw [if_pos a] at h; exact absurd h (show ¬ (15 : Int) = 0 by decide)
  · rfl
/-- The new entry. -/
abbrev newE (t : Tx) (fee : Int) : Ent := ⟨t, idT t, fee, (sizeT t : Nat)⟩
theorem acc_new (hn : (l.map (·.id)).Nodup) (h0 : (accE f l t h rate).1 = 0) : accIds f l t h rate = idsOf l (evL l t) ∧ restL l t = leftL l (evL l t) ∧ accL f l t h rate = leftL l (evL l t) ++ [newE t (plainP f l t h).1] := by
  obtain ⟨h1, h2, h3, h4⟩ := acc_zero h0
  obtain ⟨hc, hg, hh, hgd⟩ := plain_good h1
  obtain ⟨-, e2, e3⟩ := acc_ok (rate := rate) h1 (by omega) h3 h4
  have er : restL l t = leftL l (evL l t) := by unfold restL; exact dropAll_left _ _ hn
  refine ⟨e2, er, ?_⟩
  rw [e3, er]
  obtain ⟨hi, -⟩ := radd_grant hc
  refine addG_ok ?_
  rcases comes_add (f := (plainP f l t h).1) hn hc hi hg hgd with h5 | ⟨-, h6, -⟩
  · exact h5
  · obtain ⟨x, hx, e⟩ := has_iff.1 h6
    have : hasE l (idT t) = true := has_iff.2 ⟨x, (leftL_sub _ _).subset hx, e⟩
    rw [hh] at this; cases this
theorem acc_len (hn : (l.map (·.id)).Nodup) (h0 : (accE f l t h rate).1 = 0) : (accL f l t h rate).length + (accIds f l t h rate).length = l.length + 1 := by
  obtain ⟨e1, -, e2⟩ := acc_new hn h0
  have := leftL_len l (evL l t)
  rw [e1, e2, List.length_append, List.length_singleton]; omega
theorem acc_le (hn : (l.map (·.id)).Nodup) : (accL f l t h rate).length ≤ l.length + 1 := by
  by_cases h0 : (accE f l t h rate).1 = 0
  · have := acc_len (f := f) (h := h) (rate := rate) hn h0; omega
  · rw [(acc_not h0).2]; omega
theorem fee_src (hc : checkT t = 0) (h0 : (feeP f t h).2.1 = 0) : (∀ x ∈ t.ins, (f x.p).isSome = true) ∧ sumE (t.ins.map (inV f)) = 0 ∧ (feeP f t h).1 = sumV (t.ins.map (inV f)) - sumV (values t) := by
  cases hg : grantB t with
  | true => rw [fee_grant hc hg] at h0; exact absurd h0 (show ¬ (4 : Int) = 0 by decide)
  | false =>
    by_cases hk : ∀ j, ∀ hj : j < t.ins.length, inE f t h t.ins[j] = 0
    · refine ⟨fun x hx => ?_, ?_⟩
      · obtain ⟨j, hj, rfl⟩ := List.getElem_of_mem hx
        have := hk j hj
        unfold inE at this
        cases hf : f t.ins[j].p with
        | none => rw [hf] at this; exact absurd this (show ¬ (8 : Int) = 0 by decide)
        | some c => rfl
      · rw [fee_all hc hg hk] at h0 ⊢
        by_cases h1 : sumE (t.ins.map (inV f)) = 0
        · rw [if_neg (show ¬ sumE (t.ins.map (inV f)) ≠ 0 from fun q => q h1)] at h0 ⊢
          by_cases h2 : sumV (values t) > sumV (t.ins.map (inV f))
          · rw [if_pos h2] at h0; exact absurd h0 (show ¬ (12 : Int) = 0 by decide)
          · rw [if_neg h2]; exact ⟨h1, rfl⟩
        · rw [if_pos (show sumE (t.ins.map (inV f)) ≠ 0 from h1)] at h0; exact absurd h0 h1
    · exfalso
      have : ∃ i, (t.ins.findIdx? fun x => decide (inE f t h x ≠ 0)) = some i := by
        cases hq : t.ins.findIdx? fun x => decide (inE f t h x ≠ 0) with
        | some i => exact ⟨i, rfl⟩
        | none =>
          refine absurd (fun j hj => ?_) hk
          have := List.findIdx?_eq_none_iff.1 hq _ (List.getElem_mem hj)
          simpa using this
      obtain ⟨i, hi⟩ := this
      obtain ⟨h1, h2, h3⟩ := List.findIdx?_eq_some_iff_getElem.1 hi
      have he : inE f t h t.ins[i] ≠ 0 := of_decide_eq_true h2
      rw [fee_in hc hg h1 (fun j hj hjl => by have := h3 j hj; simpa using this) he] at h0
      exact he h0
theorem plain_fee0 (h0 : (plainP f l t h).2.1 = 0) : (feeP (overV f l h) t h).2.1 = 0 ∧ (plainP f l t h).1 = (feeP (overV f l h) t h).1 := by
  obtain ⟨hc, -, hh, -⟩ := plain_good h0
  by_cases hf : (feeP (overV f l h) t h).2.1 = 0
  · refine ⟨hf, ?_⟩
    rw [plain_ok hc hh hf] at h0 ⊢
    by_cases hd : 0 ≤ dustI t
    · rw [if_pos hd] at h0; exact absurd h0 (show ¬ (13 : Int) = 0 by decide)
    · rw [if_neg hd]
  · rw [plain_fee hc hh hf] at h0; exact absurd h0 hf
end
/-! No output twice. -/
theorem dup_nodup : ∀ {l : List Pt}, dupB l = false → l.Nodup
  | [], _ => List.nodup_nil
  | p :: l, h => by
    unfold dupB at h
    rw [Bool.or_eq_false_iff] at h
    exact List.nodup_cons.2 ⟨fun hm => (by rw [List.contains_iff_mem.2 hm] at h; exact absurd h.1 (by decide)), dup_nodup h.2⟩
theorem check_once {t : Tx} (h : checkT t = 0) : (points t).Nodup := by
  have h1 := (chk_parts h).2.2.2.1
  unfold twiceB at h1
  have := dup_nodup h1
  exact (List.pairwise_reverse.1 this).imp fun h => Ne.symm h
/-! Sums. -/
theorem sumOk_sum : ∀ (l : List Int) (s r : Int), sumOk s l = some r → r = s + l.sum ∧ ∀ a ∈ l, 0 ≤ a
  | [], s, r, h => by simp [sumOk] at h; simp [h]
  | a :: l, s, r, h => by
    simp only [sumOk] at h
    split at h
    · rename_i hc
      simp only [Bool.and_eq_true] at hc
      obtain ⟨h1, h2⟩ := sumOk_sum l _ r h
      refine ⟨by rw [h1, List.sum_cons]; omega, fun b hb => ?_⟩
      rcases List.mem_cons.1 hb with rfl | hb
      · exact ((goodB_iff _).1 hc.1).1
      · exact h2 b hb
    · cases h
theorem sumV_sum {l : List Int} (h : sumE l = 0) : sumV l = l.sum ∧ ∀ a ∈ l, 0 ≤ a := by
  unfold sumE at h
  cases hs : sumOk 0 l with
  | none => rw [hs] at h; exact absurd h (show ¬ (3 : Int) = 0 by decide)
  | some r =>
    obtain ⟨h1, h2⟩ := sumOk_sum l 0 r hs
    exact ⟨by unfold sumV; rw [hs]; show r = _; omega, h2⟩
/-! What each entry pays, and what it spends. -/
structure Keep (f : Pt → Option Cn) (rate : Int) (l : List Ent) : Prop where
  pays : ∀ x ∈ l, askedF rate (sizeT x.tx) ≤ x.fee
  src : ∀ x ∈ l, ∀ p ∈ points x.tx, (f p).isSome = true ∨ outHas l p = true
theorem Keep.nil (f : Pt → Option Cn) (rate : Int) : Keep f rate [] := ⟨by simp, by simp⟩
theorem outHas_iff {l : List Ent} (hn : (l.map (·.id)).Nodup) {p : Pt} : outHas l p = true ↔ ∃ z ∈ l, z.id = p.s ∧ p.i < (z.tx.outs.length : Int) := by
  unfold outHas
  rw [Bool.and_eq_true, has_iff, decide_eq_true_eq]
  constructor
  · rintro ⟨⟨z, hz, e⟩, h⟩
    have := (get_mem hn hz).2
    rw [e] at this
    rw [this] at h
    exact ⟨z, hz, e, h⟩
  · rintro ⟨z, hz, e, h⟩
    refine ⟨⟨z, hz, e⟩, ?_⟩
    have := (get_mem hn hz).2
    rw [e] at this
    rw [this]; exact h
theorem hangs_of {t : Tx} {z : Ent} {p : Pt} (hp : p ∈ points t) (e : z.id = p.s) (h : p.i < (z.tx.outs.length : Int)) : hangs t z = true := by
  obtain ⟨b, hb, rfl⟩ := List.mem_map.1 hp
  unfold hangs
  exact List.any_eq_true.2 ⟨b, hb, by rw [decide_eq_true e.symm, decide_eq_true h]; rfl⟩
theorem acc_nodup {f : Pt → Option Cn} {l : List Ent} {t : Tx} {h rate : Int} (hn : (l.map (·.id)).Nodup) (h0 : (accE f l t h rate).1 = 0) : ((leftL l (evL l t) ++ [newE t (plainP f l t h).1]).map (·.id)).Nodup := by
  obtain ⟨-, -, hh, -⟩ := plain_good (acc_zero h0).1
  rw [List.map_append, List.nodup_append]
  refine ⟨left_nodup hn _, by simp, fun a ha b hb => ?_⟩
  simp only [List.map_cons, List.map_nil, List.mem_singleton] at hb
  subst hb
  rintro rfl
  obtain ⟨x, hx, e⟩ := List.mem_map.1 ha
  have : hasE l (idT t) = true := has_iff.2 ⟨x, (leftL_sub _ _).subset hx, e⟩
  rw [hh] at this; cases this
theorem Keep.acc {f : Pt → Option Cn} {l : List Ent} {t : Tx} {h rate : Int} (hK : Keep f rate l) (hn : (l.map (·.id)).Nodup) : Keep f rate (accL f l t h rate) := by
  by_cases h0 : (accE f l t h rate).1 = 0
  · obtain ⟨e1, -, e2⟩ := acc_new hn h0
    obtain ⟨h1, h2, h3, -⟩ := acc_zero h0
    have hnd := acc_nodup hn h0
    rw [e2]
    have keep : ∀ p, (∃ z ∈ l, z.id = p.s ∧ p.i < (z.tx.outs.length : Int) ∧ z.id ∉ idsOf l (evL l t)) → outHas (leftL l (evL l t) ++ [newE t (plainP f l t h).1]) p = true := by
      rintro p ⟨z, hz, ea, eb, ec⟩
      refine (outHas_iff hnd).2 ⟨z, List.mem_append_left _ ?_, ea, eb⟩
      rcases leftL_or l (evL l t) hz with h5 | h5
      · exact h5
      · exact absurd h5 ec
    refine ⟨fun x hx => ?_, fun x hx p hp => ?_⟩
    · rcases List.mem_append.1 hx with hx | hx
      · exact hK.pays x ((leftL_sub _ _).subset hx)
      · simp only [List.mem_singleton] at hx
        subst hx; exact h2
    · rcases List.mem_append.1 hx with hx | hx
      · have hxl := (leftL_sub _ _).subset hx
        rcases hK.src x hxl p hp with h5 | h5
        · exact .inl h5
        · obtain ⟨z, hz, ea, eb⟩ := (outHas_iff hn).1 h5
          refine .inr (keep p ⟨z, hz, ea, eb, fun hev => ?_⟩)
          obtain ⟨j, hj, rfl⟩ := List.getElem_of_mem hz
          obtain ⟨i, hi, e⟩ := List.getElem_of_mem hxl
          have hh : hangE l i j = true := by
            unfold hangE
            rw [entD_get hi, entD_get hj, e]; exact hangs_of hp ea eb
          refine leftL_not l _ hn hx ?_
          rw [← e]
          exact ev_closed hn hi hj (.one hi hj hh) hev
      · simp only [List.mem_singleton] at hx
        subst hx
        obtain ⟨hc, -, -, -⟩ := plain_good h1
        obtain ⟨b, hb, rfl⟩ := List.mem_map.1 hp
        have hs := (fee_src hc (plain_fee0 h1).1).1 b hb
        unfold overV at hs
        cases hf : f b.p with
        | some c => exact .inl rfl
        | none =>
          rw [hf] at hs
          have ho : outHas l b.p = true := by
            unfold outAt at hs
            by_cases ho : outHas l b.p = true
            · exact ho
            · rw [if_neg ho] at hs; cases hs
          obtain ⟨z, hz, ea, eb⟩ := (outHas_iff hn).1 ho
          refine .inr (keep b.p ⟨z, hz, ea, eb, ?_⟩)
          obtain ⟨-, -, h6⟩ := rules_zero h3
          rcases h6 with h6 | ⟨-, -, -, h6, -⟩
          · rw [ev_none hn h6]; simp
          · exact fresh_parent hn h6 hz (hangs_of hp ea eb)
  · rw [(acc_not h0).2]; exact hK
/-! The document's list of coins and outputs. -/
def outE (h : Int) (x : Ent) (k : Nat) : En := (⟨x.id, (k : Nat)⟩, ⟨(x.tx.outs.getD k default).v, (x.tx.outs.getD k default).s, h⟩)
def overK (m : List En) (h : Int) (x : Ent) (k : Nat) : List En := ((List.range k).map (outE h x)).filter fun e => (aget m e.1).isNone
def overX (m : List En) (h : Int) (x : Ent) : List En := overK m h x x.tx.outs.length
def overL (m : List En) (l : List Ent) (h : Int) : List En := m ++ l.flatMap (overX m h)
theorem overK_succ (m : List En) (h : Int) (x : Ent) (k : Nat) : overK m h x (k + 1) = overK m h x k ++ if (aget m ⟨x.id, (k : Nat)⟩).isNone then [outE h x k] else [] := by
  unfold overK
  rw [List.range_succ, List.map_append, List.filter_append]
  congr 1
  rw [List.map_cons, List.map_nil, List.filter_cons]
  rfl
theorem overK_mem {m : List En} {h : Int} {x : Ent} {k : Nat} {e : En} : e ∈ overK m h x k ↔ ∃ j, j < k ∧ e = outE h x j ∧ aget m e.1 = none := by
  unfold overK
  rw [List.mem_filter, List.mem_map]
  constructor
  · rintro ⟨⟨j, hj, rfl⟩, h2⟩; exact ⟨j, List.mem_range.1 hj, rfl, Option.isNone_iff_eq_none.1 h2⟩
  · rintro ⟨j, hj, rfl, h2⟩; exact ⟨⟨j, List.mem_range.2 hj, rfl⟩, Option.isNone_iff_eq_none.2 h2⟩
theorem overL_mem {m : List En} {l : List Ent} {h : Int} {e : En} : e ∈ overL m l h ↔ e ∈ m ∨ ∃ x ∈ l, ∃ j, j < x.tx.outs.length ∧ e = outE h x j ∧ aget m e.1 = none := by
  unfold overL overX
  rw [List.mem_append, List.mem_flatMap]
  simp only [overK_mem]
theorem overX_keys (m : List En) (h : Int) (x : Ent) : ((overX m h x).map (·.1)).Nodup := by
  have h1 : (((List.range x.tx.outs.length).map (outE h x)).map (·.1)).Nodup := by
    rw [List.map_map]
    refine List.Pairwise.map _ (fun a b hab e => ?_) List.nodup_range
    have : ((a : Nat) : Int) = (b : Nat) := congrArg Pt.i e
    exact hab (by omega)
  exact h1.sublist (List.Sublist.map _ List.filter_sublist)
theorem overL_keys {m : List En} (hm : (m.map (·.1)).Nodup) : ∀ {l : List Ent} (_ : (l.map (·.id)).Nodup) (h : Int), ((overL m l h).map (·.1)).Nodup := by
  intro l hn h
  unfold overL
  rw [List.map_append, List.nodup_append]
  refine ⟨hm, ?_, ?_⟩
  · induction l with
    | nil => exact List.nodup_nil
    | cons x l ih =>
      rw [List.map_cons, List.nodup_cons] at hn
      rw [List.flatMap_cons, List.map_append, List.nodup_append]
      refine ⟨overX_keys m h x, ih hn.2, fun a ha b hb => ?_⟩
      rintro rfl
      obtain ⟨e, he, rfl⟩ := List.mem_map.1 ha
      obtain ⟨d, hd, e2⟩ := List.mem_map.1 hb
      obtain ⟨y, hy, hd⟩ := List.mem_flatMap.1 hd
      obtain ⟨j, -, rfl, -⟩ := overK_mem.1 he
      obtain ⟨k, -, rfl, -⟩ := overK_mem.1 hd
      have : y.id = x.id := congrArg Pt.s e2
      exact hn.1 (List.mem_map.2 ⟨y, hy, this⟩)
  · intro a ha b hb
    rintro rfl
    obtain ⟨d, hd, rfl⟩ := List.mem_map.1 hb
    obtain ⟨y, -, hd⟩ := List.mem_flatMap.1 hd
    obtain ⟨k, -, rfl, h2⟩ := overK_mem.1 hd
    obtain ⟨e, he, e2⟩ := List.mem_map.1 ha
    have := mem_aget (m := m) (p := e.1) (c := e.2) hm he
    rw [e2, h2] at this; cases this
/-- The list answers as the view does. -/
theorem over_get {m : List En} {l : List Ent} {h : Int} (hm : (m.map (·.1)).Nodup) (hn : (l.map (·.id)).Nodup) {p : Pt} (hp : 0 ≤ p.i) : aget (overL m l h) p = overV (aget m) l h p := by
  have hk := overL_keys hm hn h
  unfold overV
  cases hf : aget m p with
  | some c => exact mem_aget hk (overL_mem.2 (.inl (aget_mem hf)))
  | none =>
    show _ = outAt l h p
    unfold outAt
    by_cases ho : outHas l p = true
    · rw [if_pos ho]
      obtain ⟨z, hz, ea, eb⟩ := (outHas_iff hn).1 ho
      have hg := (get_mem hn hz).2
      rw [ea] at hg
      rw [hg]
      have hi : p.i.toNat < z.tx.outs.length := by omega
      rw [List.getElem?_eq_getElem hi]
      have e : (p, (⟨z.tx.outs[p.i.toNat].v, z.tx.outs[p.i.toNat].s, h⟩ : Cn)) = outE h z p.i.toNat := by
        unfold outE
        have : p = ⟨z.id, ((p.i.toNat : Nat) : Int)⟩ := by
          rw [ea, show ((p.i.toNat : Nat) : Int) = p.i by omega]
        rw [← this]
        simp [List.getD_eq_getElem?_getD, List.getElem?_eq_getElem hi]
      refine mem_aget hk (overL_mem.2 (.inr ⟨z, hz, p.i.toNat, hi, e, hf⟩))
    · rw [if_neg ho]
      cases hq : aget (overL m l h) p with
      | none => rfl
      | some c =>
        exfalso
        rcases overL_mem.1 (aget_mem hq) with h5 | ⟨x, hx, j, hj, e, -⟩
        · have := mem_aget hm h5
          rw [hf] at this; cases this
        · refine ho ((outHas_iff hn).2 ⟨x, hx, ?_, ?_⟩)
          · exact (congrArg (fun e : En => e.1.s) e).symm
          · have : p.i = ((j : Nat) : Int) := congrArg (fun e : En => e.1.i) e
            rw [this]; omega
theorem tot_outs (h : Int) (x : Ent) : tot ((List.range x.tx.outs.length).map (outE h x)) = (values x.tx).sum := by
  unfold tot values
  rw [List.map_map]
  congr 1
  apply List.ext_getElem
  · simp
  · intro i h1 h2
    simp only [List.length_map, List.length_range] at h1
    simp [outE, List.getD_eq_getElem?_getD, List.getElem?_eq_getElem h1]
theorem tot_filter (p : En → Bool) : ∀ (A : List En), (∀ e ∈ A, 0 ≤ e.2.v) → tot (A.filter p) ≤ tot A
  | [], _ => by simp
  | e :: A, hA => by
    have ih := tot_filter p A (fun d hd => hA d (by simp [hd]))
    have h0 := hA e (by simp)
    rw [List.filter_cons]
    split
    · rw [tot_cons, tot_cons]; omega
    · rw [tot_cons]; omega
theorem outE_pos {x : Ent} (hx : EntOk x) (h : Int) (k : Nat) (hk : k < x.tx.outs.length) : 0 ≤ (outE h x k).2.v := by
  have := (sumV_sum (check_sum hx.check)).2
  unfold outE
  simp only [List.getD_eq_getElem?_getD, List.getElem?_eq_getElem hk, Option.getD_some]
  exact this _ (List.mem_map.2 ⟨_, List.getElem_mem hk, rfl⟩)
theorem overX_le (m : List En) (h : Int) {x : Ent} (hx : EntOk x) : tot (overX m h x) ≤ (values x.tx).sum := by
  rw [← tot_outs h x]
  refine tot_filter _ _ fun e he => ?_
  obtain ⟨k, hk, rfl⟩ := List.mem_map.1 he
  exact outE_pos hx h k (List.mem_range.1 hk)
theorem overL_pos {m : List En} (hm : ∀ e ∈ m, 0 ≤ e.2.v) {l : List Ent} (hE : ∀ x ∈ l, EntOk x) (h : Int) : ∀ e ∈ overL m l h, 0 ≤ e.2.v := by
  intro e he
  rcases overL_mem.1 he with h5 | ⟨x, hx, j, hj, rfl, -⟩
  · exact hm e h5
  · exact outE_pos (hE x hx) h j hj
theorem flat_sub {m : List En} {h : Int} {l l' : List Ent} (hs : l'.Sublist l) (hp : ∀ x ∈ l, ∀ e ∈ overX m h x, 0 ≤ e.2.v) : tot (l'.flatMap (overX m h)) ≤ tot (l.flatMap (overX m h)) := by
  induction hs with
  | slnil => exact Int.le_refl _
  | cons x _ ih =>
    have h1 := ih (fun y hy => hp y (by simp [hy]))
    have h2 := Mon.pos (hp x (by simp))
    rw [List.flatMap_cons, tot_append]; omega
  | cons_cons x _ ih =>
    have h1 := ih (fun y hy => hp y (by simp [hy]))
    rw [List.flatMap_cons, tot_append, List.flatMap_cons, tot_append]; omega
/-- All money of a pool is within B; so is each fee. -/
structure Money (m : List En) (l : List Ent) (h B : Int) : Prop where
  all : tot (overL m l h) ≤ B
  fee : ∀ x ∈ l, x.fee ≤ B
theorem Money.nil {m : List En} {h B : Int} (hB : tot m ≤ B) : Money m [] h B := ⟨by unfold overL; simpa using hB, by simp⟩
theorem Money.more {m : List En} {l : List Ent} {h B B' : Int} (hM : Money m l h B) (hb : B ≤ B') : Money m l h B' := ⟨by have := hM.all; omega, fun x hx => by have := hM.fee x hx; omega⟩
theorem Money.acc {m : List En} {l : List Ent} {t : Tx} {h rate B : Int} (hM : Money m l h B) (hk : (m.map (·.1)).Nodup) (hm : ∀ e ∈ m, 0 ≤ e.2.v) (hn : (l.map (·.id)).Nodup) (hE : ∀ x ∈ l, EntOk x) (ht : ∀ p ∈ points t, 0 ≤ p.i) : Money m (accL (aget m) l t h rate) h (2 * B) := by
  have hpos := Mon.pos (overL_pos hm hE h)
  have hall := hM.all
  by_cases h0 : (accE (aget m) l t h rate).1 = 0
  · obtain ⟨e1, -, e2⟩ := acc_new hn h0
    obtain ⟨h1, h2, h3, -⟩ := acc_zero h0
    obtain ⟨hc, -, -, hgd⟩ := plain_good h1
    obtain ⟨hf1, hf2⟩ := plain_fee0 h1
    obtain ⟨hs1, hs2, hs3⟩ := fee_src hc hf1
    obtain ⟨hv1, hv2⟩ := sumV_sum (check_sum hc)
    obtain ⟨hw1, hw2⟩ := sumV_sum hs2
    have hfee := (goodB_iff _).1 hgd
    have hx : EntOk (newE t (plainP (aget m) l t h).1) := ⟨hc, (plain_good h1).2.1, hgd, rfl, rfl⟩
    have hin : (t.ins.map (inV (overV (aget m) l h))).sum ≤ tot (overL m l h) := by
      have hd : (points t).Nodup := check_once hc
      have hsome : ∀ p ∈ points t, (aget (overL m l h) p).isSome = true := fun p hp => by
        rw [over_get hk hn (ht p hp)]
        obtain ⟨b, hb, rfl⟩ := List.mem_map.1 hp
        exact hs1 b hb
      have h5 := tot_delAll (points t) (overL m l h) (overL_keys hk hn h) hd hsome
      have h6 : 0 ≤ tot (delAll (overL m l h) (points t)) := Mon.pos fun e he => overL_pos hm hE h e (delAll_mem _ _ he)
      have h7 : ((points t).map fun p => ((aget (overL m l h) p).getD cn0).v) = t.ins.map (inV (overV (aget m) l h)) := by
        unfold points
        rw [List.map_map]
        refine List.map_congr_left fun b hb => ?_
        show ((aget (overL m l h) b.p).getD cn0).v = _
        rw [over_get hk hn (ht _ (List.mem_map.2 ⟨b, hb, rfl⟩))]; rfl
      rw [h7] at h5
      omega
    have hvs : 0 ≤ (values t).sum := by
      have : ∀ {L : List Int}, (∀ a ∈ L, 0 ≤ a) → 0 ≤ L.sum := fun {L} hL => by
        induction L with
        | nil => simp
        | cons a L ih =>
          rw [List.sum_cons]
          have := hL a (by simp)
          have := ih (fun b hb => hL b (by simp [hb]))
          omega
      exact this hv2
    rw [hf2, hs3, hw1, hv1] at hfee
    rw [e2]
    refine ⟨?_, fun x hx => ?_⟩
    · unfold overL
      rw [tot_append, List.flatMap_append, tot_append, List.flatMap_cons, List.flatMap_nil, List.append_nil]
      have h8 := flat_sub (m := m) (h := h) (leftL_sub l (evL l t)) (fun x hx e he => by
        obtain ⟨j, hj, rfl, -⟩ := overK_mem.1 he
        exact outE_pos (hE x hx) h j hj)
      have h9 := overX_le m h hx
      have h10 : tot (overL m l h) = tot m + tot (l.flatMap (overX m h)) := by unfold overL; rw [tot_append]
      have h11 : (values (newE t (plainP (aget m) l t h).1).tx).sum = (values t).sum := rfl
      omega
    · rcases List.mem_append.1 hx with hx | hx
      · have := hM.fee x ((leftL_sub _ _).subset hx); omega
      · simp only [List.mem_singleton] at hx
        subst hx
        show (plainP (aget m) l t h).1 ≤ _
        rw [hf2, hs3, hw1, hv1]; omega
  · rw [(acc_not h0).2]
    exact hM.more (by omega)
end Go.K
end
section
namespace Go.K
open Go Go.Proofs.YtilhlcnekkkajaaGreat
structure PSm where
  spends : List UInt8
  tag : UInt8
  fee : Int
  pays : UInt8
  mark : UInt8
  final : Bool
  wait : UInt8
instance : Inhabited PSm := ⟨⟨[], 0, 0, 0, 0, false, 0⟩⟩
def psmCs (z : PSm) (fv : Value) : List Value := [fv, u8V z.tag, .int .u16 z.fee, u8V z.pays, u8V z.mark, .bool z.final, u8V z.wait]
def psmR : R PSm where
  k := 7
  pos := by decide
  ag := true
  rel := fun M w cs z => ∃ fv, cs = psmCs z fv ∧ SlR u8R M w fv z.spends ∧ 0 ≤ z.fee ∧ z.fee ≤ 65535
  len := fun ⟨_, h, _⟩ => by rw [h]; rfl
  one := fun ⟨fv, h, hs, _⟩ v hv => by
    obtain ⟨b, c, rfl⟩ := hs.form
    subst h; simp [psmCs] at hv; rcases hv with rfl | rfl | rfl | rfl | rfl | rfl | rfl <;> rfl
  step := fun ⟨fv, h, hs, h2⟩ c hL hM => ⟨fv, h, hs.step c hL hM, h2⟩
/-- A number of two bytes. -/
def u16R : R Int where
  k := 1
  pos := by decide
  ag := false
  rel := fun _ _ cs n => cs = [.int .u16 n] ∧ 0 ≤ n ∧ n ≤ 65535
  len := fun ⟨h, _⟩ => by rw [h]; rfl
  one := fun ⟨h, _⟩ v hv => by subst h; simp at hv; subst hv; rfl
  step := fun h _ _ _ => h
/-! Coins of numbers. -/
def lockP : ByteArray := ⟨#[1, 1, 0, 0, 0, 0, 0, 0, 0]⟩
def coinP (n : Int) : Cn := ⟨10 * n, lockP, 1⟩
def coinsP (vals : List Int) : Nat → List En
  | 0 => []
  | n + 1 => refPut (coinsP vals n) ⟨idN (300 + n), 0⟩ (coinP (vals.getD n 0))
/-- The coin that a number names. -/
def pickP (V : List En) (s : UInt8) : Option En := if s.toNat < 250 ∧ 0 < V.length then V[s.toNat % V.length]? else none
def ptP (V : List En) (s : UInt8) : Pt := match pickP V s with
  | some e => e.1
  | none => ⟨idN s.toNat, 0⟩
def valP (V : List En) (s : UInt8) : Int := match pickP V s with
  | some e => e.2.v
  | none => 0
def seqP (z : PSm) : Int := if 0 < z.wait.toNat then ((z.wait.toNat % 8 : Nat) : Int) else if z.final then 4294967294 else 4294967293
def witZ (z : PSm) : ByteArray := str [0, UInt8.ofNat (z.tag.toNat % 3), 0]
def inP (V : List En) (z : PSm) (s : UInt8) : TIn := ⟨ptP V s, seqP z, [witZ z]⟩
def scrP (z : PSm) : ByteArray := ((⟨#[1, 1, 0]⟩ : ByteArray) ++ str [UInt8.ofNat (z.pays.toNat / 64)]) ++ (⟨#[0, 0, 0, 0, 0]⟩ : ByteArray)
def cutP (left : Int) (k : Nat) : Int := if left.tdiv (k : Nat) < 0 then 0 else left.tdiv (k : Nat)
def outsP (s : ByteArray) : Nat → Int → List TOut
  | 0, _ => []
  | k + 1, left => ⟨cutP left (k + 1), s⟩ :: outsP s k (left - cutP left (k + 1))
def sumP (V : List En) (z : PSm) : Int := ((z.spends.take 4).map (valP V)).sum
def makeP (V : List En) (z : PSm) : Tx := ⟨2, (z.spends.take 4).map (inP V z), outsP (scrP z) (1 + z.pays.toNat % 3) (sumP V z - z.fee), ((z.mark.toNat % 3 : Nat) : Int)⟩
theorem outsP_len (s : ByteArray) : ∀ (k : Nat) (left : Int), (outsP s k left).length = k
  | 0, _ => rfl
  | k + 1, left => by rw [outsP, List.length_cons, outsP_len s k]
theorem makeP_ins (V : List En) (z : PSm) : (makeP V z).ins.length ≤ 4 := by
  show ((z.spends.take 4).map (inP V z)).length ≤ 4
  rw [List.length_map, List.length_take]; omega
theorem makeP_outs (V : List En) (z : PSm) : 1 ≤ (makeP V z).outs.length ∧ (makeP V z).outs.length ≤ 3 := by
  show 1 ≤ (outsP _ _ _).length ∧ (outsP _ _ _).length ≤ 3
  rw [outsP_len]; omega
theorem makeP_sm (V : List En) (z : PSm) : (makeP V z).Sm := by
  refine ⟨by have := makeP_ins V z; omega, by have := makeP_outs V z; omega, fun x hx => ?_⟩
  obtain ⟨s, -, rfl⟩ := List.mem_map.1 (show x ∈ (z.spends.take 4).map (inP V z) from hx)
  show [witZ z].length ≤ 1000
  simp
theorem pick_mem {V : List En} {s : UInt8} {e : En} (h : pickP V s = some e) : e ∈ V := by
  unfold pickP at h
  split at h
  · exact List.mem_of_getElem? h
  · cases h
theorem ptP_is32 {V : List En} (hV : ∀ e ∈ V, is32 e.1.i) (s : UInt8) : is32 (ptP V s).i := by
  unfold ptP
  cases h : pickP V s with
  | some e => exact hV e (pick_mem h)
  | none => exact ⟨by show (0 : Int) ≤ 0; omega, by show (0 : Int) < 4294967296; omega⟩
theorem makeP_pts {V : List En} (hV : ∀ e ∈ V, is32 e.1.i) (z : PSm) : ∀ p ∈ points (makeP V z), is32 p.i := by
  intro p hp
  obtain ⟨x, hx, rfl⟩ := List.mem_map.1 hp
  obtain ⟨s, -, rfl⟩ := List.mem_map.1 (show x ∈ (z.spends.take 4).map (inP V z) from hx)
  exact ptP_is32 hV s
theorem valP_le {V : List En} {B : Int} (hB : 0 ≤ B) (hV : ∀ e ∈ V, 0 ≤ e.2.v ∧ e.2.v ≤ B) (s : UInt8) : 0 ≤ valP V s ∧ valP V s ≤ B := by
  unfold valP
  cases h : pickP V s with
  | some e => exact hV e (pick_mem h)
  | none => exact ⟨Int.le_refl _, hB⟩
theorem sum_take_le {V : List En} {B : Int} (hB : 0 ≤ B) (hV : ∀ e ∈ V, 0 ≤ e.2.v ∧ e.2.v ≤ B) : ∀ (l : List UInt8), 0 ≤ (l.map (valP V)).sum ∧ (l.map (valP V)).sum ≤ B * l.length
  | [] => by simp
  | s :: l => by
    have h1 := valP_le hB hV s
    have h2 := sum_take_le hB hV l
    rw [List.map_cons, List.sum_cons, List.length_cons]
    have e : B * ((l.length + 1 : Nat) : Int) = B * (l.length : Nat) + B := by push_cast; rw [Int.mul_add, Int.mul_one]
    rw [e]; omega
theorem sumP_le {V : List En} {B : Int} (hB : 0 ≤ B) (hV : ∀ e ∈ V, 0 ≤ e.2.v ∧ e.2.v ≤ B) (z : PSm) : 0 ≤ sumP V z ∧ sumP V z ≤ 4 * B := by
  have h := sum_take_le hB hV (z.spends.take 4)
  have h2 : (z.spends.take 4).length ≤ 4 := by rw [List.length_take]; omega
  refine ⟨h.1, Int.le_trans h.2 ?_⟩
  rw [Int.mul_comm 4 B]
  exact Int.mul_le_mul_of_nonneg_left (by omega) hB
/-- What is left of an amount behind outputs. -/
theorem cutP_bound {left : Int} {k : Nat} (hk : 0 < k) (hl : -100000 ≤ left) {C : Int} (hC : left ≤ C) (h0 : 0 ≤ C) : 0 ≤ cutP left k ∧ cutP left k ≤ C ∧ -100000 ≤ left - cutP left k ∧ left - cutP left k ≤ C := by
  unfold cutP
  by_cases hn : 0 ≤ left
  · obtain ⟨n, rfl⟩ := Int.eq_ofNat_of_zero_le hn
    have e : ((n : Nat) : Int).tdiv (k : Nat) = ((n / k : Nat) : Int) := by
      rw [Int.tdiv_eq_ediv_of_nonneg (by omega)]; rfl
    have := Nat.div_le_self n k
    rw [e]
    generalize n / k = q at this ⊢
    rw [if_neg (by omega)]; omega
  · have e : left.tdiv (k : Nat) ≤ 0 := by
      obtain ⟨n, hn2⟩ := Int.eq_ofNat_of_zero_le (show 0 ≤ -left by omega)
      have : left = -((n : Nat) : Int) := by omega
      rw [this, Int.neg_tdiv, Int.tdiv_eq_ediv_of_nonneg (by omega)]
      have : (0 : Int) ≤ ((n : Nat) : Int) / ((k : Nat) : Int) := Int.ediv_nonneg (by omega) (by omega)
      omega
    split <;> omega
/-! What holds of coins of numbers. -/
structure CoinsOk (V : List En) (n : Nat) : Prop where
  srt : Srt V
  len : V.length ≤ n
  each : ∀ e ∈ V, e.1.s.size = 32 ∧ e.1.i = 0 ∧ 0 ≤ e.2.v ∧ e.2.v ≤ 655350 ∧ e.2.s = lockP ∧ e.2.h = 1
theorem tot_le_len {V : List En} {c : Int} (h : ∀ e ∈ V, e.2.v ≤ c) : tot V ≤ c * (V.length : Nat) := by
  induction V with
  | nil => simp
  | cons e V ih =>
    have h1 := ih (fun d hd => h d (by simp [hd]))
    have h2 := h e (by simp)
    rw [tot_cons, List.length_cons]
    have e1 : c * ((V.length + 1 : Nat) : Int) = c * (V.length : Nat) + c := by push_cast; rw [Int.mul_add, Int.mul_one]
    rw [e1]; omega
theorem CoinsOk.tot {V : List En} {n : Nat} (h : CoinsOk V n) (hn : n ≤ 1000) : 0 ≤ tot V ∧ tot V ≤ 655350 * (n : Nat) := by
  have h1 := tot_le_len (V := V) (c := 655350) (fun e he => (h.each e he).2.2.2.1)
  have h2 := h.len
  exact ⟨Mon.pos fun e he => (h.each e he).2.2.1, by omega⟩
theorem CoinsOk.mon {V : List En} {n : Nat} (h : CoinsOk V n) (hn : n ≤ 1000) : Mon V := ⟨fun e he => (h.each e he).2.2.1, by have := (h.tot hn).2; omega⟩
theorem CoinsOk.nodup {V : List En} {n : Nat} (h : CoinsOk V n) : (V.map (·.1)).Nodup := srt_nodup h.srt
theorem coinsP_ok {vals : List Int} (hv : ∀ a ∈ vals, 0 ≤ a ∧ a ≤ 65535) : ∀ n, CoinsOk (coinsP vals n) n
  | 0 => ⟨List.Pairwise.nil, Nat.le_refl _, fun e he => by cases he⟩
  | n + 1 => by
    have h := coinsP_ok hv n
    obtain ⟨h1, h2, h3⟩ := put_sim (List.Perm.refl (coinsP vals n)) h.srt ⟨idN (300 + n), 0⟩ (coinP (vals.getD n 0))
    have hd : 0 ≤ vals.getD n 0 ∧ vals.getD n 0 ≤ 65535 := by
      rw [List.getD_eq_getElem?_getD]
      cases hg : vals[n]? with
      | none => exact ⟨Int.le_refl _, by decide⟩
      | some a => exact hv a (List.mem_of_getElem? hg)
    refine ⟨h2, Nat.le_trans h3 (by have := h.len; omega), fun e he => ?_⟩
    have he' := h1.symm.subset he
    unfold putMap at he'
    have old := h.each e
    split at he'
    · rcases List.mem_append.1 he' with h5 | h5
      · exact old h5
      · simp only [List.mem_singleton] at h5
        subst h5
        exact ⟨idN_size _, rfl, by show 0 ≤ 10 * _; omega, by show 10 * _ ≤ _; omega, rfl, rfl⟩
    · exact old he'
theorem put_next {V : List En} {n : Nat} (h : CoinsOk V n) (hn : n ≤ 1000) {i : Nat} (hi : i < V.length) : putCode (V.take i) V[i].1 V[i].2 = 0 ∧ putMap (V.take i) V[i].1 V[i].2 = V.take (i + 1) := by
  obtain ⟨e1, e2, e3, e4, e5, e6⟩ := h.each _ (List.getElem_mem hi)
  have hf : formedB V[i].1 V[i].2 = true := by
    unfold formedB
    rw [e1, e6, (goodB_iff _).2 ⟨e3, by omega⟩]; rfl
  have hnone : aget (V.take i) V[i].1 = none := by
    cases hg : aget (V.take i) V[i].1 with
    | none => rfl
    | some c =>
      exfalso
      have hm := aget_mem hg
      obtain ⟨j, hj, e⟩ := List.getElem_of_mem hm
      rw [List.length_take] at hj
      rw [List.getElem_take] at e
      have hd := List.pairwise_iff_getElem.1 h.nodup j i (by simp; omega) (by simpa using hi) (by omega)
      simp only [List.getElem_map] at hd
      exact hd (by rw [e])
  have ht := tot_take_le (h.mon hn) (i + 1)
  have ht0 := tot_take_le (h.mon hn) i
  have he := tot_take hi
  have hT := (h.mon hn).2
  have hz : putCode (V.take i) V[i].1 V[i].2 = 0 := by
    unfold putCode
    rw [hf, hnone, if_pos rfl, if_neg (by simp), if_pos ((goodB_iff _).2 (by omega))]
  refine ⟨hz, ?_⟩
  unfold putMap
  rw [if_pos hz, List.take_succ_eq_append_getElem hi]
end Go.K
end
section
namespace Go.K
open Go Go.Proofs.YtilhlcnekkkajaaGreat
abbrev zW0 : PSm := ⟨[0], 1, 0, 0, 0, false, 0⟩
abbrev zW1 : PSm := ⟨[0], 1, 500, 0, 0, false, 0⟩
def coinsW : List En := coinsP [500] 1
theorem coinsW_eq : coinsP [500] (min [(500 : Int)].length 8) = coinsW := rfl
theorem wk0 : accE (aget coinsW) [] (makeP coinsW zW0) 5 0 = (11, -1) := by kernel_rfl
theorem wk0n : accIds (aget coinsW) [] (makeP coinsW zW0) 5 0 = [] ∧ accL (aget coinsW) [] (makeP coinsW zW0) 5 0 = [] :=
  acc_not (by rw [wk0]; show ¬ (11 : Int) = 0; decide)
theorem coinsW_ok : CoinsOk coinsW 1 := coinsP_ok (vals := [500]) (by intro a ha; simp at ha; subst ha; decide) 1
/-! A view of a pool. -/
theorem flat_len' {V : List En} {h : Int} : ∀ {l : List Ent}, (∀ x ∈ l, x.tx.outs.length ≤ 1000) → (l.flatMap (overX V h)).length ≤ 1000 * l.length
  | [], _ => by simp
  | x :: l, hE => by
    have h1 := flat_len' (V := V) (h := h) (l := l) (fun y hy => hE y (by simp [hy]))
    have h2 := hE x (by simp)
    have h3 : (overX V h x).length ≤ x.tx.outs.length := by
      unfold overX overK
      exact Nat.le_trans (List.length_filter_le _ _) (by simp)
    rw [List.flatMap_cons, List.length_append, List.length_cons]
    omega
theorem ent_outs {x : Ent} (h : EntOk x) : x.tx.outs.length ≤ 1000 := (chk_sm h.check).outs
theorem view_ok {V : List En} {l : List Ent} {n : Nat} {h B : Int} (hc : CoinsOk V n) (hn : n ≤ 1000) (hE : ∀ x ∈ l, EntOk x) (hl : l.length ≤ 1000) (hM : Money V l h B) : (∀ e ∈ overL V l h, 0 ≤ e.2.v ∧ e.2.v ≤ B) ∧ (∀ e ∈ overL V l h, is32 e.1.i) ∧ (overL V l h).length ≤ 1100000 := by
  have hp := overL_pos (m := V) (fun e he => (hc.each e he).2.2.1) hE h
  refine ⟨fun e he => ⟨hp e he, ?_⟩, fun e he => ?_, ?_⟩
  · exact Int.le_trans (Mon.le hp e he) hM.all
  · rcases overL_mem.1 he with h5 | ⟨x, hx, j, hj, rfl, -⟩
    · rw [(hc.each e h5).2.1]; unfold is32; omega
    · have := ent_outs (hE x hx)
      show is32 ((j : Nat) : Int)
      unfold is32; omega
  · have h1 := hc.len
    have h2 := flat_len' (V := V) (h := h) (fun x hx => ent_outs (hE x hx))
    unfold overL
    rw [List.length_append]; omega
/-- The money of a pool behind i transactions. -/
def monB (i : Nat) : Int := ((2 ^ i * 5242800 : Nat) : Int)
theorem monB_succ (i : Nat) : 2 * monB i = monB (i + 1) := by
  unfold monB
  rw [Nat.pow_succ]
  generalize 2 ^ i = q
  omega
theorem monB_le {i : Nat} (h : i ≤ 17) : 0 ≤ monB i ∧ monB i ≤ 1000000000000 := by
  unfold monB
  have h1 : 2 ^ i ≤ 2 ^ 17 := Nat.pow_le_pow_right (by decide) h
  generalize 2 ^ i = q at h1 ⊢
  omega
theorem money0 {V : List En} (hc : CoinsOk V 8) (h : Int) : Money V [] h (monB 0) := by
  refine Money.nil ?_
  have h1 := (hc.tot (by decide)).2
  show tot V ≤ ((2 ^ 0 * 5242800 : Nat) : Int)
  omega
theorem CoinsOk.more {V : List En} {n m : Nat} (h : CoinsOk V n) (hm : n ≤ m) : CoinsOk V m := ⟨h.srt, Nat.le_trans h.len hm, h.each⟩
theorem Money.step {V : List En} {l : List Ent} {t : Tx} {z : PSm} {h rate : Int} {i : Nat} (hM : Money V l h (monB i)) (hc : CoinsOk V 8) (hn : (l.map (·.id)).Nodup) (hE : ∀ x ∈ l, EntOk x) (hl : l.length ≤ 1000) (ht : t = makeP (overL V l h) z) : Money V (accL (aget V) l t h rate) h (monB (i + 1)) := by
  rw [← monB_succ]
  refine hM.acc hc.nodup (fun e he => (hc.each e he).2.2.1) hn hE fun p hp => ?_
  subst ht
  exact (makeP_pts (view_ok hc (by decide) hE hl hM).2.1 z p hp).1
end Go.K
end
section
namespace Go.K
open Go Go.Proofs.YtilhlcnekkkajaaGreat
/-- What is wrong with one of both, but for its fee: the fee, the number, the place. -/
def aloneP (f : Pt → Option Cn) (l : List Ent) (t : Tx) (h : Int) : Int × Int × Int :=
  if (plainP f l t h).2.1 ≠ 0 then (0, (plainP f l t h).2) else if 0 < (idsOf l (confL l t)).length then (0, 15, -1) else
  if fitsL l t ≠ 0 then (0, fitsL l t, -1) else ((plainP f l t h).1, 0, -1)
theorem aloneP_plain {f : Pt → Option Cn} {l : List Ent} {t : Tx} {h : Int} (h0 : (plainP f l t h).2.1 ≠ 0) : aloneP f l t h = (0, (plainP f l t h).2) := by unfold aloneP; rw [if_pos h0]
theorem aloneP_conf {f : Pt → Option Cn} {l : List Ent} {t : Tx} {h : Int} (h0 : (plainP f l t h).2.1 = 0) (h1 : 0 < (idsOf l (confL l t)).length) : aloneP f l t h = (0, 15, -1) := by
  unfold aloneP; rw [if_neg (fun q => q h0), if_pos h1]
theorem aloneP_fits {f : Pt → Option Cn} {l : List Ent} {t : Tx} {h : Int} (h0 : (plainP f l t h).2.1 = 0) (h1 : ¬ 0 < (idsOf l (confL l t)).length) (h2 : fitsL l t ≠ 0) : aloneP f l t h = (0, fitsL l t, -1) := by
  unfold aloneP; rw [if_neg (fun q => q h0), if_neg h1, if_pos h2]
theorem aloneP_ok {f : Pt → Option Cn} {l : List Ent} {t : Tx} {h : Int} (h0 : (plainP f l t h).2.1 = 0) (h1 : ¬ 0 < (idsOf l (confL l t)).length) (h2 : fitsL l t = 0) : aloneP f l t h = ((plainP f l t h).1, 0, -1) := by
  unfold aloneP; rw [if_neg (fun q => q h0), if_neg h1, if_neg (fun q => q h2)]
theorem aloneP_zero {f : Pt → Option Cn} {l : List Ent} {t : Tx} {h : Int} (h0 : (aloneP f l t h).2.1 = 0) : (plainP f l t h).2.1 = 0 ∧ (idsOf l (confL l t)).length = 0 ∧ fitsL l t = 0 ∧ (aloneP f l t h).1 = (plainP f l t h).1 ∧ (aloneP f l t h).2.2 = -1 := by
  by_cases h1 : (plainP f l t h).2.1 = 0
  · by_cases h2 : 0 < (idsOf l (confL l t)).length
    · rw [aloneP_conf h1 h2] at h0; exact absurd h0 (show ¬ (15 : Int) = 0 by decide)
    · by_cases h3 : fitsL l t = 0
      · have e := aloneP_ok h1 h2 h3
        exact ⟨h1, by omega, h3, by rw [e], by rw [e]⟩
      · rw [aloneP_fits h1 h2 h3] at h0; exact absurd h0 h3
  · rw [aloneP_plain h1] at h0; exact absurd h0 h1
/-- What may come alone is added. -/
theorem alone_add {f : Pt → Option Cn} {l : List Ent} {t : Tx} {h : Int} (h0 : (aloneP f l t h).2.1 = 0) : addG l t (aloneP f l t h).1 = (l ++ [newE t (aloneP f l t h).1], 0) := by
  obtain ⟨h1, h2, -, h4, -⟩ := aloneP_zero h0
  obtain ⟨hc, hg, hh, hgd⟩ := plain_good h1
  rw [← h4] at hgd
  have hno := conf_len0.1 h2
  have h8 : (t.ins.any fun i => l.any fun x => spends x i.p) = false := by
    rw [List.any_eq_false]
    intro b hb hx
    obtain ⟨x, hx, h5⟩ := List.any_eq_true.1 hx
    rw [List.any_eq_false] at hno
    exact hno x hx (hit_iff.2 ⟨b, hb, h5⟩)
  unfold addG
  rw [if_neg (fun q => q hc), if_neg (by rw [hg]; decide), if_neg (by rw [hgd]; decide), if_neg (by
    intro q
    have : hasE l (idT t) = true := q
    rw [hh] at this; cases this), if_neg (by rw [h8]; decide)]
def idS (t : Tx) : ByteArray := if checkT t = 0 then idT t else ⟨#[]⟩
theorem idV_eq (t : Tx) : idV t = .tuple #[.string (idS t), .int .i64 (checkT t)] := by
  unfold idV idS
  split
  · rename_i h; rw [h]
  · rfl
def withL (f : Pt → Option Cn) (l : List Ent) (a : Tx) (h : Int) : List Ent := l ++ [newE a (aloneP f l a h).1]
def pairE (f : Pt → Option Cn) (l : List Ent) (a b : Tx) (h rate : Int) : Int × Int :=
  if hasE l (idS a) = true then (if (accE f l b h rate).1 ≠ 0 then ((accE f l b h rate).1, 1) else (0, -1)) else
  if (aloneP f l a h).2.1 ≠ 0 then ((aloneP f l a h).2.1, 0) else
  if ¬ idsOf (withL f l a h) (aboveL (withL f l a h) b) = [idS a] then (4, 1) else
  if (aloneP f (withL f l a h) b h).2.1 ≠ 0 then ((aloneP f (withL f l a h) b h).2.1, 1) else
  if (aloneP f l a h).1 + (aloneP f (withL f l a h) b h).1 < askedF rate (sizeT a + sizeT b) then (11, -1) else (0, -1)
def pairIds (f : Pt → Option Cn) (l : List Ent) (a b : Tx) (h rate : Int) : List ByteArray := if hasE l (idS a) = true then accIds f l b h rate else []
def pairL (f : Pt → Option Cn) (l : List Ent) (a b : Tx) (h rate : Int) : List Ent :=
  if hasE l (idS a) = true then accL f l b h rate else if (pairE f l a b h rate).1 = 0 then withL f l a h ++ [newE b (aloneP f (withL f l a h) b h).1] else l
section
variable {f : Pt → Option Cn} {l : List Ent} {a b : Tx} {h rate : Int}
theorem pair_there (h1 : hasE l (idS a) = true) : pairE f l a b h rate = (if (accE f l b h rate).1 ≠ 0 then ((accE f l b h rate).1, 1) else (0, -1)) ∧ pairIds f l a b h rate = accIds f l b h rate ∧ pairL f l a b h rate = accL f l b h rate := by
  unfold pairE pairIds pairL
  rw [if_pos h1, if_pos h1, if_pos h1]; exact ⟨rfl, rfl, rfl⟩
theorem pair_err {c i : Int} (h1 : ¬ hasE l (idS a) = true) (e : pairE f l a b h rate = (c, i)) (hc : c ≠ 0) : pairIds f l a b h rate = [] ∧ pairL f l a b h rate = l := by
  unfold pairIds pairL
  rw [if_neg h1, if_neg h1, e, if_neg hc]; exact ⟨rfl, rfl⟩
theorem pair_first (h1 : ¬ hasE l (idS a) = true) (h2 : (aloneP f l a h).2.1 ≠ 0) : pairE f l a b h rate = ((aloneP f l a h).2.1, 0) := by
  unfold pairE; rw [if_neg h1, if_pos h2]
theorem pair_form (h1 : ¬ hasE l (idS a) = true) (h2 : (aloneP f l a h).2.1 = 0) (h3 : ¬ idsOf (withL f l a h) (aboveL (withL f l a h) b) = [idS a]) : pairE f l a b h rate = (4, 1) := by
  unfold pairE; rw [if_neg h1, if_neg (fun q => q h2), if_pos h3]
theorem pair_second (h1 : ¬ hasE l (idS a) = true) (h2 : (aloneP f l a h).2.1 = 0) (h3 : idsOf (withL f l a h) (aboveL (withL f l a h) b) = [idS a]) (h4 : (aloneP f (withL f l a h) b h).2.1 ≠ 0) : pairE f l a b h rate = ((aloneP f (withL f l a h) b h).2.1, 1) := by
  unfold pairE; rw [if_neg h1, if_neg (fun q => q h2), if_neg (fun q => q h3), if_pos h4]
theorem pair_fee (h1 : ¬ hasE l (idS a) = true) (h2 : (aloneP f l a h).2.1 = 0) (h3 : idsOf (withL f l a h) (aboveL (withL f l a h) b) = [idS a]) (h4 : (aloneP f (withL f l a h) b h).2.1 = 0) (h5 : (aloneP f l a h).1 + (aloneP f (withL f l a h) b h).1 < askedF rate (sizeT a + sizeT b)) : pairE f l a b h rate = (11, -1) := by
  unfold pairE; rw [if_neg h1, if_neg (fun q => q h2), if_neg (fun q => q h3), if_neg (fun q => q h4), if_pos h5]
theorem pair_ok (h1 : ¬ hasE l (idS a) = true) (h2 : (aloneP f l a h).2.1 = 0) (h3 : idsOf (withL f l a h) (aboveL (withL f l a h) b) = [idS a]) (h4 : (aloneP f (withL f l a h) b h).2.1 = 0) (h5 : ¬ (aloneP f l a h).1 + (aloneP f (withL f l a h) b h).1 < askedF rate (sizeT a + sizeT b)) :
    pairE f l a b h rate = (0, -1) ∧ pairIds f l a b h rate = [] ∧ pairL f l a b h rate = withL f l a h ++ [newE b (aloneP f (withL f l a h) b h).1] := by
  have e : pairE f l a b h rate = (0, -1) := by unfold pairE; rw [if_neg h1, if_neg (fun q => q h2), if_neg (fun q => q h3), if_neg (fun q => q h4), if_neg h5]
  refine ⟨e, ?_, ?_⟩
  · unfold pairIds; rw [if_neg h1]
  · unfold pairL; rw [if_neg h1, e, if_pos rfl]
end
end Go.K
end
