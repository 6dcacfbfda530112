/- Plain: what comes in place of others; what an entry conflicts with. Plain: counts of ids; which entries go. Contracts: what goes for a transaction; may an entry be replaced; by the program. -/
import Derived.Test.YtbnhinpegbcbeaaGreatG36
set_option linter.unusedVariables false
set_option linter.unusedSimpArgs false
section
namespace Go.K
open Go Go.Proofs.YtbnhinpegbcbeaaGreat
section
variable {l : List Ent} {t : Tx}
theorem hit_iff {x : Ent} : hitE t x = true ↔ ∃ b ∈ t.ins, spends x b.p = true := by
  unfold hitE spends
  simp only [List.any_eq_true, decide_eq_true_eq]
  constructor
  · rintro ⟨a, ha, b, hb, e⟩; exact ⟨b, hb, a, ha, e⟩
  · rintro ⟨b, hb, a, ha, e⟩; exact ⟨a, ha, b, hb, e⟩
theorem hit_self {x : Ent} (h : 0 < x.tx.ins.length) : hitE x.tx x = true := by
  rw [hit_iff]
  refine ⟨x.tx.ins[0], List.getElem_mem h, ?_⟩
  unfold spends
  exact List.any_eq_true.2 ⟨_, List.getElem_mem h, decide_eq_true rfl⟩
/-! What an entry itself conflicts with. -/
theorem hit_only (ha : l.Pairwise fun x y => ∀ p, spends x p = true → spends y p = false) {i j : Nat} (hi : i < l.length) (hj : j < l.length) (h : hitE l[i].tx l[j] = true) : j = i := by
  obtain ⟨b, hb, h1⟩ := hit_iff.1 h
  have h2 : spends l[i] b.p = true := List.any_eq_true.2 ⟨b, hb, decide_eq_true rfl⟩
  rw [List.pairwise_iff_getElem] at ha
  rcases Nat.lt_trichotomy i j with h3 | h3 | h3
  · have := ha i j hi hj h3 _ h2; rw [h1] at this; cases this
  · exact h3.symm
  · have := ha j i hj hi h3 _ h1; rw [h2] at this; cases this
theorem one_mask : ∀ {l : List Ent} {m : List Bool} {i : Nat} (hi : i < l.length), (∀ j, j < l.length → (m[j]? = some true ↔ j = i)) → idsOf l m = [l[i].id]
  | x :: l, [], i, hi, h => by
    have := (h i hi).2 rfl
    simp at this
  | x :: l, b :: m, 0, hi, h => by
    have hb : b = true := by simpa using (h 0 (by simp)).2 rfl
    subst hb
    have : idsOf l m = [] := by
      rw [List.eq_nil_iff_forall_not_mem]
      intro s hs
      obtain ⟨j, hj, h1, _⟩ := mem_mask.1 hs
      have := (h (j + 1) (by simp; omega)).1 (by simpa using h1)
      omega
    show x.id :: idsOf l m = _
    rw [this]; rfl
  | x :: l, b :: m, i + 1, hi, h => by
    have hb : b = false := by
      rw [← Bool.not_eq_true]
      intro e
      have := (h 0 (by simp)).1 (by simp [e])
      omega
    subst hb
    show idsOf l m = _
    have hi' : i < l.length := by simpa using hi
    rw [one_mask hi' (fun j hj => ?_)]; · rfl
    have := h (j + 1) (by simp; omega)
    rw [List.getElem?_cons_succ] at this
    rw [this]; omega
theorem conf_self (ha : l.Pairwise fun x y => ∀ p, spends x p = true → spends y p = false) {i : Nat} (hi : i < l.length) (h0 : 0 < l[i].tx.ins.length) : idsOf l (confL l l[i].tx) = [l[i].id] := by
  refine one_mask hi fun j hj => ?_
  unfold confL
  rw [List.getElem?_map, List.getElem?_eq_getElem hj, Option.map_some, Option.some.injEq]
  constructor
  · exact fun h => hit_only ha hi hj h
  · rintro rfl; exact hit_self h0
theorem ev_self (hn : (l.map (·.id)).Nodup) (ha : l.Pairwise fun x y => ∀ p, spends x p = true → spends y p = false) {i : Nat} (hi : i < l.length) (h0 : 0 < l[i].tx.ins.length) : evL l l[i].tx = belowL l l[i].id := by
  apply List.ext_getElem?
  intro k
  by_cases hk : k < l.length
  · have h1 := evI_iff (l := l) (t := l[i].tx) hk (Nat.le_refl _)
    have h2 := belowL_at (l := l) (s := l[i].id) hk
    have e : (evI l l[i].tx l.length)[k]? = some true ↔ (belowL l l[i].id)[k]? = some true := by
      rw [h1, h2]
      constructor
      · rintro ⟨j, hj, _, h3, h4⟩
        have := hit_only ha hi hj h3
        subst this; exact h4
      · exact fun h => ⟨i, hi, hi, hit_self h0, h⟩
    have l1 : k < (evL l l[i].tx).length := by rw [← evL_len]; exact hk
    have l2 : k < (belowL l l[i].id).length := by rw [← belowL_len]; exact hk
    rw [List.getElem?_eq_getElem l1, List.getElem?_eq_getElem l2]
    rw [show (evI l l[i].tx l.length)[k]? = some (evL l l[i].tx)[k] from List.getElem?_eq_getElem l1, List.getElem?_eq_getElem l2] at e
    simp only [Option.some.injEq] at e ⊢
    rw [Bool.eq_iff_iff]; exact e
  · rw [List.getElem?_eq_none (by rw [← evL_len]; omega), List.getElem?_eq_none (by rw [← belowL_len]; omega)]
end
end Go.K
end
section
namespace Go.K
open Go Go.Proofs.YtbnhinpegbcbeaaGreat
def cntS (P : List ByteArray) (s : ByteArray) : Nat := (P.filter fun x => decide (x = s)).length
theorem cntS_snoc (P : List ByteArray) (x s : ByteArray) : cntS (P ++ [x]) s = cntS P s + if x = s then 1 else 0 := by
  unfold cntS
  rw [List.filter_append, List.length_append]
  by_cases h : x = s
  · rw [List.filter_cons_of_pos (by simpa using h), if_pos h]; rfl
  · rw [List.filter_cons_of_neg (by simpa using h), if_neg h]; rfl
theorem cntS_pos {P : List ByteArray} {s : ByteArray} : 0 < cntS P s ↔ s ∈ P := by
  unfold cntS
  rw [List.length_pos_iff_exists_mem]
  constructor
  · rintro ⟨x, hx⟩
    obtain ⟨h1, h2⟩ := List.mem_filter.1 hx
    rw [← of_decide_eq_true h2]; exact h1
  · exact fun h => ⟨s, List.mem_filter.2 ⟨h, decide_eq_true rfl⟩⟩
theorem cntS_le (P : List ByteArray) (s : ByteArray) : cntS P s ≤ P.length := List.length_filter_le _ _
/-- A map counts what a list has. -/
def Cnt (met : List (ByteArray × Nat)) (P : List ByteArray) : Prop := ∀ s, aget met s = if cntS P s = 0 then none else some (cntS P s)
theorem Cnt.nil : Cnt [] [] := fun s => rfl
theorem Cnt.add {met : List (ByteArray × Nat)} {P : List ByteArray} (h : Cnt met P) (s : ByteArray) : Cnt (aset met s (cntS P s + 1)) (P ++ [s]) := fun k => by
  rw [aget_set', cntS_snoc]
  by_cases e : s = k
  · subst e
    rw [if_pos rfl, if_pos rfl, if_neg (by omega)]
  · rw [if_neg e, if_neg e, h k, Nat.add_zero]
theorem Cnt.found {met : List (ByteArray × Nat)} {P : List ByteArray} (h : Cnt met P) {s : ByteArray} {c : Nat} (hc : aget met s = some c) : cntS P s = c ∧ 0 < c := by
  have := h s
  rw [hc] at this
  split at this
  · cases this
  · injection this with e; omega
theorem Cnt.none_ {met : List (ByteArray × Nat)} {P : List ByteArray} (h : Cnt met P) {s : ByteArray} (hc : aget met s = none) : cntS P s = 0 := by
  have := h s
  rw [hc] at this
  split at this
  · assumption
  · cases this
def metL (l : List Ent) (ids : List ByteArray) : List ByteArray := ids.flatMap fun s => idsOf l (belowL l s)
theorem metL_take {l : List Ent} {ids : List ByteArray} {i : Nat} (h : i < ids.length) : metL l (ids.take (i + 1)) = metL l (ids.take i) ++ idsOf l (belowL l ids[i]) := by
  unfold metL
  rw [List.take_succ_eq_append_getElem h, List.flatMap_append, List.flatMap_singleton]
theorem metL_len {l : List Ent} : ∀ (ids : List ByteArray), (metL l ids).length ≤ l.length * ids.length
  | [] => by simp [metL]
  | s :: ids => by
    have ih := metL_len (l := l) ids
    have h := (idsOf_sub l (belowL l s)).length_le
    rw [List.length_map] at h
    unfold metL at ih ⊢
    rw [List.flatMap_cons, List.length_append, List.length_cons, Nat.mul_add]
    omega
theorem ev_at {l : List Ent} {t : Tx} (hn : (l.map (·.id)).Nodup) {i : Nat} (hi : i < l.length) : ((evL l t)[i]'(by rw [← evL_len]; exact hi)) = true ↔ 0 < cntS (metL l (idsOf l (confL l t))) l[i].id := by
  rw [cntS_pos]
  have h1 := evI_iff (l := l) (t := t) hi (Nat.le_refl _)
  have e : (evI l t l.length)[i]? = some ((evL l t)[i]'(by rw [← evL_len]; exact hi)) := List.getElem?_eq_getElem _
  rw [e] at h1
  simp only [Option.some.injEq] at h1
  rw [h1]
  unfold metL
  rw [List.mem_flatMap]
  constructor
  · rintro ⟨j, hj, _, h2, h3⟩
    exact ⟨l[j].id, mem_conf.2 ⟨l[j], List.getElem_mem hj, h2, rfl⟩, (mem_below hn hi).2 h3⟩
  · rintro ⟨s, hs, h2⟩
    obtain ⟨x, hx, h3, rfl⟩ := mem_conf.1 hs
    obtain ⟨j, hj, rfl⟩ := List.getElem_of_mem hx
    exact ⟨j, hj, hj, h3, (mem_below hn hi).1 h2⟩
theorem evL_take {l : List Ent} {t : Tx} {i : Nat} (h : i < l.length) : idsOf (l.take (i + 1)) ((evL l t).take (i + 1)) = idsOf (l.take i) ((evL l t).take i) ++ if (evL l t)[i]'(by rw [← evL_len]; exact h) = true then [l[i].id] else [] := idsOf_take evL_len h
end Go.K
end
section
namespace Go.Proofs.YtbnhinpegbcbeaaGreat
open Go Go.K
attribute [local irreducible] regK codeK retK KOp.wp K.Spec u32 leS vnS str zero32 sha2 encT idT sizeT checkT grantB idN stepR workL reachE findI dropG addG aboveL belowL idsOf feeD sizeD cntS metL confL evL
set_option maxHeartbeats 4000000 in
theorem evicted_spec {g : Nat} {M N : List Nat} {l : List Ent} {cs : List Value} {t : Tx} (w : World) (hG : GrR w g M l) (hM : ∀ b ∈ M, b < w.heap.size) (ht : txR.rel N w cs t) (hs : t.ins.length ≤ 1000) (hl : l.length ≤ 1000) :
    K.Spec Tryz.prog F.replace_Evicted [.pointer (some ⟨g, 0, none⟩), .agg cs.toArray] w fun r w' => Own strE T.string w.heap.size w' r (idsOf l (evL l t)) ∧ Ext w w' := by
  have hnd := hG.nodup
  have ht0 := ht
  obtain ⟨iv, ov, rfl, hi, ho, hv⟩ := ht
  have id0 : idsOf (l.take 0) ((evL l t).take 0) = [] := by rw [List.take_zero, List.take_zero]; unfold idsOf; rfl
  obtain ⟨ids, hids⟩ : ∃ ids, ids = idsOf l (confL l t) := ⟨_, rfl⟩
  have hil : ids.length ≤ l.length := by rw [hids]; exact idsOf_le1 _ _
  have m0 : metL l (ids.take 0) = [] := by rw [List.take_zero]; unfold metL; rfl
  refine s_replace_Evicted rfl ?_
  unfold k_replace_Evicted
  refine ox ?_
  repeat' (first|(first|refine go1 ?_|refine zg (fun _ _=>?_)|refine zi (fun _ _=>?_))|(refine zD (d := some 3) rfl rfl (fun bt wt xt bt' (rt : Row wt ⟨bt, 0, none⟩ (txCs t iv ov)) hbt0=>?_))|(refine st_makeMap (d := some 13) (E := sK) (fv := fun n : Nat => Value.int .i64 (n : Nat)) (fun bm w1 x1 m1 hb1 => ?_); have lm := m1.lt)|(refine zC (d := some 16) rfl (conflicts_spec (M := M) (N := N) (l := l) (cs := txCs t iv ov) (t := t) _ (hG.ext (by exact fx)) (fun b hb => Nat.lt_of_lt_of_le (hM b hb) (Ext.size (by exact fx))) (R.ext ht0 (by exact fx)) hs hl) ?_; rw [← hids]; rintro vc w2 ⟨oc, x2⟩)|(refine st_len (d := some 17) (E := strE) (l := ids) rfl oc.sl ?_))
  have x02 : Ext w w2 := (xt.trans x1).trans x2
  have m2 := m1.ext x2
  have bcb := oc.base
  have hc2 : ∀ b ∈ blkOf vc, b ∉ [bm] := fun b hb h => by have := bcb b hb; simp at h; omega
  have hbm : w.heap.size ≤ bm := by have := xt.size; omega
  have lm2 : bm < w2.heap.size := Nat.lt_of_lt_of_le lm x2.size
  clear xt x1 x2 m1
  repeat' (first|(first|refine go1 ?_|refine zg (fun _ _=>?_)|refine zi (fun _ _=>?_))|(refine zL rfl (fun h => ?_) (fun h => ?_))|(refine c_loopV (fun (p : Nat × List (ByteArray × Nat)) w' => Ext w w' ∧ w2.heap.size ≤ w'.heap.size ∧ p.1 ≤ ids.length ∧ MapE sK (fun n : Nat => Value.int .i64 (n : Nat)) w' bm p.2 ∧ Cnt p.2 (metL l (ids.take p.1)) ∧ Own strE T.string w1.heap.size w' vc ids) (fun p => [(0, .pointer (some ⟨g, 0, none⟩)), (5, .map (some bm)), (16, vc), (17, .int .i64 (ids.length : Nat)), (18, .int .i64 p.1)]) (fun p => ids.length - p.1) (0, []) ⟨rfl, rfl, rfl, rfl, rfl, trivial⟩ ⟨x02, Nat.le_refl _, by simp, m2, by rw [m0]; exact Cnt.nil, oc⟩ ?_; clear x02 oc m2; rintro ⟨i, met⟩ ρ w3 ⟨x3, s3, hi3, m3, c3, o3⟩; simp only at hi3 m3 c3; dsimp only))
  · have hii : i < ids.length := by omega
    have hbl := idsOf_le1 l (belowL l ids[i])
    have hml := metL_len (l := l) (ids.take i)
    have hml2 : l.length * (ids.take i).length ≤ 1000 * 1000 := Nat.mul_le_mul hl (by rw [List.length_take]; omega)
    refine st_elemE (d := some 20) (E := strE) rfl rfl (n := i) (l := ids) o3.sl rfl hii (fun ad r5 => ?_)
    have r5 : Row w3 ad [Value.string ids[i]] := r5
    repeat' (first|(first|refine go1 ?_|refine zg (fun _ _=>?_)|refine zi (fun _ _=>?_))|(refine zC (d := some 24) rfl (pbelow_spec (M := M) (l := l) ids[i] _ (hG.ext (by exact fx)) (fun b hb => Nat.lt_of_lt_of_le (hM b hb) (Ext.size (by exact fx))) hl) ?_; rintro vb w4 ⟨ob, x4⟩)|(refine st_len (d := some 25) (E := strE) (l := idsOf l (belowL l ids[i])) rfl ob.sl ?_))
    obtain ⟨bs, hbs⟩ : ∃ bs, bs = idsOf l (belowL l ids[i]) := ⟨_, rfl⟩
    rw [← hbs] at ob hbl ⊢
    have x04 : Ext w w4 := x3.trans x4
    have s4 := x4.size
    have bbb := ob.base
    have hb2 : ∀ b ∈ blkOf vb, b ∉ [bm] := fun b hb h => by have := bbb b hb; simp at h; omega
    have t0 : metL l (ids.take i) ++ bs.take 0 = metL l (ids.take i) := by rw [List.take_zero, List.append_nil]
    have m4 := m3.ext x4
    have o4 := o3.ext x4
    clear x3 x4 m3 o3 r5
    repeat' (first|(first|refine go1 ?_|refine zg (fun _ _=>?_)|refine zi (fun _ _=>?_))|(refine zL rfl (fun h => ?_) (fun h => ?_))|(refine c_loopV (fun (p : Nat × List (ByteArray × Nat)) w' => Ext w w' ∧ w2.heap.size ≤ w'.heap.size ∧ p.1 ≤ bs.length ∧ MapE sK (fun n : Nat => Value.int .i64 (n : Nat)) w' bm p.2 ∧ Cnt p.2 (metL l (ids.take i) ++ bs.take p.1) ∧ Own strE T.string w1.heap.size w' vc ids ∧ Own strE T.string w3.heap.size w' vb bs) (fun p => [(0, .pointer (some ⟨g, 0, none⟩)), (5, .map (some bm)), (16, vc), (17, .int .i64 (ids.length : Nat)), (18, .int .i64 i), (24, vb), (25, .int .i64 (bs.length : Nat)), (26, .int .i64 p.1)]) (fun p => bs.length - p.1) (0, met) ⟨rfl, rfl, rfl, rfl, rfl, rfl, rfl, rfl, trivial⟩ ⟨x04, by omega, by simp, m4, by rw [t0]; exact c3, o4, ob⟩ ?_; clear x04 m4 o4 ob; rintro ⟨j, met2⟩ ρ2 w5 ⟨x5, s5, hj5, m5, c5, o5, ob5⟩; simp only at hj5 m5 c5; dsimp only))
    · have hjl : j < bs.length := by omega
      refine st_elemE (d := some 28) (E := strE) rfl rfl (n := j) (l := bs) ob5.sl rfl hjl (fun ad r6 => ?_)
      have r6 : Row w5 ad [Value.string bs[j]] := r6
      have hadd := c5.add bs[j]
      have htk : metL l (ids.take i) ++ bs.take (j + 1) = metL l (ids.take i) ++ bs.take j ++ [bs[j]] := by rw [List.take_succ_eq_append_getElem hjl, List.append_assoc]
      have hcl := cntS_le (metL l (ids.take i) ++ bs.take j) bs[j]
      rw [List.length_append, List.length_take] at hcl
      cases hag : aget met2 bs[j] with
      | none =>
        have hcz := c5.none_ hag
        rw [hcz] at hadd
        repeat' (first|(first|refine go1 ?_|refine zg (fun _ _=>?_)|refine zi (fun _ _=>?_))|(refine st_lookup (d := some 32) (E := sK) (fv := fun n : Nat => Value.int .i64 (n : Nat)) (k := bs[j]) rfl rfl m5 rfl rfl (fun c hcc => by rw [hag] at hcc; cases hcc) (fun hcn => ?_))|(refine st_mapUpdate (d := none) (E := sK) (fv := fun n : Nat => Value.int .i64 (n : Nat)) (k := bs[j]) (v := 1) rfl rfl rfl m5 rfl rfl (fun w6 c6 m6 => ?_)))
        refine ⟨(j + 1, _), ⟨rfl, rfl, rfl, rfl, rfl, rfl, rfl, rfl, trivial⟩, ⟨(x5.chg c6).mono (by intro b hb; simp at hb; subst hb; exact .inr hbm), by have := c6.size; omega, by simp only; omega, m6, by rw [htk]; exact hadd, o5.chg c6 hc2, ob5.chg c6 hb2⟩, by simp only; omega⟩
      | some c =>
        have hcz := (c5.found hag).1
        rw [hcz] at hadd hcl
        repeat' (first|(first|refine go1 ?_|refine zg (fun _ _=>?_)|refine zi (fun _ _=>?_))|(refine st_lookup (d := some 32) (E := sK) (fv := fun n : Nat => Value.int .i64 (n : Nat)) (k := bs[j]) rfl rfl m5 rfl rfl (fun c' hcc => ?_) (fun hcn => by rw [hag] at hcn; cases hcn); rw [hag] at hcc; injection hcc with hcc; subst hcc)|(refine st_mapUpdate (d := none) (E := sK) (fv := fun n : Nat => Value.int .i64 (n : Nat)) (k := bs[j]) (v := c + 1) rfl rfl rfl m5 rfl rfl (fun w6 c6 m6 => ?_)))
        refine ⟨(j + 1, _), ⟨rfl, rfl, rfl, rfl, rfl, rfl, rfl, rfl, trivial⟩, ⟨(x5.chg c6).mono (by intro b hb; simp at hb; subst hb; exact .inr hbm), by have := c6.size; omega, by simp only; omega, m6, by rw [htk]; exact hadd, o5.chg c6 hc2, ob5.chg c6 hb2⟩, by simp only; omega⟩
    · rw [List.take_of_length_le (l := bs) (by omega)] at c5
      exact ⟨(i + 1, met2), ⟨rfl, rfl, rfl, rfl, rfl, trivial⟩, ⟨x5, s5, by simp only; omega, m5, by rw [metL_take hii, ← hbs]; exact c5, o5⟩, by simp only; omega⟩
  · rw [List.take_of_length_le (l := ids) (by omega)] at c3
    have s03 : Unit → Ext w w3 := fun _ => x3
    repeat' (first|(first|refine go1 ?_|refine zg (fun _ _=>?_)|refine zi (fun _ _=>?_))|(refine zC (d := some 37) rfl (all_spec (M := M) (l := l) _ (hG.ext x3) (fun b hb => Nat.lt_of_lt_of_le (hM b hb) x3.size) (by omega)) ?_; rintro va w4 ⟨oa, x4⟩; have sa : SlR entR [] w4 va l := (oa.sub (M' := []) (by simp)).sl (by simp); have m4 := m3.ext x4; have x34 := x3.trans x4; clear x3)|(refine zG (d := some 38) (E := entR) (M := []) (l := l) rfl (SlR.ext sa (by exact fx)) ?_)|(refine zL rfl (fun h => ?_) (fun h => ?_))|(refine c_loopV (fun (p : Nat × Value) w' => Ext w4 w' ∧ p.1 ≤ l.length ∧ Own strE T.string w4.heap.size w' p.2 (idsOf (l.take p.1) ((evL l t).take p.1))) (fun p => [(5, .map (some bm)), (10, p.2), (37, va), (38, .int .i64 (l.length : Nat)), (39, .int .i64 p.1)]) (fun p => l.length - p.1) (0, .slice none 0 0) ⟨rfl, rfl, rfl, rfl, rfl, trivial⟩ ⟨Ext.refl _, by simp, by rw [id0]; exact Own.nil _ _ _⟩ ?_; rintro ⟨i, v5⟩ ρ w5 ⟨x5, hi5, o5⟩; simp only at hi5 o5; dsimp only))
    · have hil2 : i < l.length := by omega
      have hle := idsOf_length (l.take i) ((evL l t).take i)
      have htl : (l.take i).length = i := by rw [List.length_take]; omega
      have hev := ev_at (t := t) hnd hil2
      rw [← hids] at hev
      have s5 := x5.size
      refine st_elemR (d := some 41) (E := entR) (M := []) rfl rfl (n := i) (l := l) (SlR.ext sa (by exact fx)) rfl hil2 (fun ad cs r4 he => ?_)
      obtain ⟨iv2, ov2, rfl, q1, q2, q3⟩ := he
      have i1 := q1.one
      have j2 := q2.one
      repeat' (first|(first|refine go1 ?_|refine zg (fun _ _=>?_)|refine zi (fun _ _=>?_))|(refine zE (d' := 12) (fun _=>rfl) rfl rfl (by simp [entCs, i1, j2]; exact ⟨rfl, rfl, rfl, rfl, rfl⟩) (fun b6 w6 x6 a6 (r6 : Row w6 ⟨b6, 0, none⟩ (entCs l[i] iv2 ov2)) hb6=>?_))|(refine st_lookup (d := some 46) (E := sK) (fv := fun n : Nat => Value.int .i64 (n : Nat)) (k := l[i].id) rfl rfl (MapE.ext (by exact fx) m4) rfl rfl (fun c hcc => ?_) (fun hcn => ?_))|(have hcz := c3.found hcc; rw [hcz.1] at hev; refine zL (p := ((c : Nat) : Int) > 0) rfl (fun h9 => ?_) (fun h9 => absurd h9 (by omega)))|(have hcz := c3.none_ hcn; rw [hcz] at hev; refine zL (p := (0 : Int) > 0) rfl (fun h9 => absurd h9 (by omega)) (fun h9 => ?_))|(refine zI (d := some 51) (cs := [.string l[i].id]) rfl (fun b9 w9 x9 a9 hb9 => ?_)))
      · have x59 : Ext w5 w9 := by exact fx
        have s59 := x59.size
        have hh : (evL l t)[i]'(by rw [← evL_len]; exact hil2) = true := hev.2 (by omega)
        refine st_appendX (d := some 52) (E := strE) (v := v5) (l2 := [l[i].id]) rfl (o5.ext x59) (by omega) rfl rfl (sl_new a9 rfl) rfl rfl (by simp only [List.length_cons, List.length_nil]; omega) (fun v10 w10 o10 _ c10 hb10 => ?_)
        repeat' (first|refine go1 ?_|refine zg (fun _ _=>?_)|refine zi (fun _ _=>?_))
        exact ⟨(i + 1, v10), ⟨rfl, rfl, rfl, rfl, rfl, trivial⟩, ⟨((x5.trans x59).chg c10).mono (fun b hb => .inr (o5.base b hb)), by simp only; omega, by simp only; rw [evL_take hil2, if_pos hh]; exact o10⟩, by simp only; omega⟩
      · have hh : ¬ (evL l t)[i]'(by rw [← evL_len]; exact hil2) = true := fun h => by have := hev.1 h; have := c3.none_ hcn; omega
        exact ⟨(i + 1, v5), ⟨rfl, rfl, rfl, rfl, rfl, trivial⟩, ⟨by exact fx, by simp only; omega, by simp only; rw [evL_take hil2, if_neg hh, List.append_nil]; exact o5.ext (by exact fx)⟩, by simp only; omega⟩
    · rw [List.take_of_length_le (by omega), List.take_of_length_le (by rw [← evL_len]; omega)] at o5
      exact x_ret rfl ⟨o5.lower x34.size, x34.trans x5⟩
end Go.Proofs.YtbnhinpegbcbeaaGreat
end
