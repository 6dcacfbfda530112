/- Contracts: above and below, by the program. Plain: sums of the entries of distinct ids. Contracts: sum. Plain: whether one more may hang on entries. -/
import Derived.Test.YtfeifodeaphbjaaGreatH42
set_option linter.unusedVariables false
set_option linter.unusedSimpArgs false
section
namespace Go.Proofs.YtfeifodeaphbjaaGreat
open Go Go.K
attribute [local irreducible] regK codeK retK KOp.wp K.Spec u32 leS vnS str zero32 sha2 encT idT sizeT checkT grantB idN stepR workL reachE

theorem parents_in {l : List Ent} {ins : List TIn} : ∀ s ∈ parentsL l ins, ∃ j, j < l.length ∧ (entD l j).id = s := by
  intro s hs
  unfold parentsL at hs
  obtain ⟨x, hx, rfl⟩ := List.mem_map.1 hs
  obtain ⟨h1, h2⟩ := List.mem_filter.1 hx
  unfold outHas hasE at h2
  rw [Bool.and_eq_true, List.any_eq_true] at h2
  obtain ⟨⟨y, hy, hd⟩, _⟩ := h2
  obtain ⟨j, hj, rfl⟩ := List.getElem_of_mem hy
  exact ⟨j, hj, by rw [entD_get hj]; exact of_decide_eq_true hd⟩
theorem childL_in {l : List Ent} {id : ByteArray} {n : Nat} : ∀ s ∈ childL l id n, ∃ j, j < l.length ∧ (entD l j).id = s := by
  intro s hs
  obtain ⟨j, _, e, he, rfl⟩ := mem_childL.1 hs
  obtain ⟨q, hq, rfl⟩ := List.getElem_of_mem (List.mem_of_find?_eq_some he)
  exact ⟨q, hq, by rw [entD_get hq]⟩
theorem pabove_spec {g : Nat} {M N : List Nat} {l : List Ent} {cs : List Value} {t : Tx} (w : World) (hG : GrR w g M l) (hM : ∀ b ∈ M, b < w.heap.size) (ht : txR.rel N w cs t) (hs : t.ins.length ≤ 1000) (hn : l.length ≤ 1000) : K.Spec Tryz.prog F.graph_Graph_Above [.pointer (some ⟨g, 0, none⟩), .agg cs.toArray] w fun r w' =>
    Own strE T.string w.heap.size w' r (idsOf l (aboveL l t)) ∧ Ext w w' := by
  have hsm : ∀ x ∈ l, x.tx.Sm := fun x hx => chk_sm (hG.ok x hx).check
  have hnd := hG.nodup
  have ht0 := ht
  obtain ⟨iv, ov, rfl, -⟩ := ht
  refine s_graph_Graph_Above rfl ?_
  unfold k_graph_Graph_Above
  refine ox ?_
  repeat' (first|(first|refine go1 ?_|refine zg (fun _ _=>?_)|refine zi (fun _ _=>?_))|(refine zD rfl rfl (fun bg wg xg ag (rg : Row wg ⟨bg, 0, none⟩ [.pointer (some ⟨g, 0, none⟩)]) hg0=>?_))|(refine zD (d := some 3) rfl rfl (fun bp wp xp ap (rp : Row wp ⟨bp, 0, none⟩ (txCs t iv ov)) hp0=>?_))|(refine zC rfl (parents_spec (M := M) (N := N) (cs := txCs t iv ov) (t := t) _ (hG.ext (by exact fx)) (fun b hb => Nat.lt_of_lt_of_le (hM b hb) (Ext.size (by exact fx))) (by exact fx) (by omega)) ?_; rintro v5 w5 ⟨o5, x5⟩; obtain ⟨b5, c5, rfl⟩ := o5.sl.form)|refine st_both ?_ ?_)
  all_goals
    have xg5 : Ext wg w5 := by exact fx
    have xw : Ext w w5 := xg.trans xg5
    have hle : (parentsL l t.ins).length ≤ 1000 := Nat.le_trans (parentsL_length _ _) hs
    refine zC rfl (reach_spec (g := g) (M := M) (l := l) (frm := parentsL l t.ins) (nxt := fun x => parentsL l x.tx.ins) _ (hG.ext xw) (fun b hb => Nat.lt_of_lt_of_le (hM b hb) xw.size) o5.sl ⟨F.graph_Graph_Above_1, #[], #[.pointer (some ⟨bg, 0, none⟩)], rfl, above1_hb, fun x hx w' cs xx hr => above1_spec (M := M) (N := M) (l := l) (cs := cs) (x := x) w' (hG.ext (xw.trans xx)) (fun b hb => Nat.lt_of_lt_of_le (hM b hb) (xw.trans xx).size) (At.ext (xg5.trans xx) ag) hr (by have := (hsm x hx).ins; omega)⟩ hn hle parents_in (fun i hi => parents_in) (fun x hx => Nat.le_trans (parentsL_length _ _) (hsm x hx).ins)) ?_
    rintro v6 w6 ⟨o6, x6⟩
    repeat (first|refine go ?_|refine zg (fun _ _=>?_)|refine zi (fun _ _=>?_))
    rw [above_eq hnd] at o6
    exact x_ret rfl ⟨o6.lower xw.size, xw.trans x6⟩
theorem pbelow_spec {g : Nat} {M : List Nat} {l : List Ent} (id : ByteArray) (w : World) (hG : GrR w g M l) (hM : ∀ b ∈ M, b < w.heap.size) (hn : l.length ≤ 1000) : K.Spec Tryz.prog F.graph_Graph_Below [.pointer (some ⟨g, 0, none⟩), .string id] w fun r w' =>
    Own strE T.string w.heap.size w' r (idsOf l (belowL l id)) ∧ Ext w w' := by
  have hsm : ∀ x ∈ l, x.tx.Sm := fun x hx => chk_sm (hG.ok x hx).check
  have hnd := hG.nodup
  refine s_graph_Graph_Below rfl ?_
  unfold k_graph_Graph_Below
  refine ox ?_
  repeat' (first|(first|refine go1 ?_|refine zg (fun _ _=>?_)|refine zi (fun _ _=>?_))|(refine zC rfl (get_spec (M := M) id _ (hG.ext (by exact fx)) (fun b hb => Nat.lt_of_lt_of_le (hM b hb) (Ext.size (by exact fx)))) ?_; rintro v5 w5 ⟨ds, rfl, e5, x5⟩; obtain ⟨iv, ov, rfl, o1, o2, o3⟩ := e5; have i1 := o1.one; have i2 := o2.one)|(refine zE (d' := 5) (fun _=>rfl) rfl rfl (by simp [entCs, i1, i2]; exact ⟨rfl, rfl, rfl, rfl, rfl⟩) (fun b6 w6 x6 a6 (r6 : Row w6 ⟨b6, 0, none⟩ (entCs (getE l id) iv ov)) hb6=>?_))|(refine zM rfl (fun h => ?_) (fun h => ?_))|(refine zI (d := some 17) (cs := [.string id]) rfl (fun b w10 x10 a10 hb => ?_)))
  · have hno : hasE l id = false := by simpa using h
    have hf : findI l id < 0 := by
      rcases Int.lt_or_le (findI l id) 0 with h1 | h1
      · exact h1
      · have h2 := idxOf_any (p := fun x : Ent => decide (x.id = id)) (l := l)
        have h3 : hasE l id = true := by unfold hasE; rw [← h2]; exact decide_eq_true h1
        rw [h3] at hno; cases hno
    have e0 : idsOf l (belowL l id) = [] := by
      refine idsOf_none fun b hb => ?_
      unfold belowL reachL at hb
      obtain ⟨i, hi, rfl⟩ := List.mem_map.1 hb
      exact stepR_none (fun j _ => decide_eq_false (by omega)) _ _ (by simpa using hi)
    rw [e0]
    exact x_ret rfl ⟨Own.nil _ _ _, x5.trans x6⟩
  · have hyes : hasE l id = true := by simpa using h
    have xw : Ext w w10 := (x5.trans x6).trans x10
    have hnx : Nexts (.func (.func F.graph_Graph_children) #[.pointer (some ⟨g, 0, none⟩)] #[]) l M w10 (fun x => childL l x.id x.tx.outs.length) := ⟨F.graph_Graph_children, #[.pointer (some ⟨g, 0, none⟩)], #[], rfl, children_hb, fun x hx w' cs xx hr => children_spec (M := M) (N := M) (l := l) (cs := cs) (x := x) w' (hG.ext (xw.trans xx)) hr (by have := (hsm x hx).outs; omega)⟩
    refine zC rfl (reach_spec (g := g) (M := M) (l := l) (frm := [id]) (nxt := fun x => childL l x.id x.tx.outs.length) _ (hG.ext xw) (fun b hb => Nat.lt_of_lt_of_le (hM b hb) xw.size) (SlE.new (E := strE) (l := [id]) a10 rfl (Nat.le_refl _)) hnx hn (by simp) (fun s hs => ?_) (fun i hi => childL_in) (fun x hx => Nat.le_trans (childL_length _ _ _) (hsm x hx).outs)) ?_
    · simp only [List.mem_singleton] at hs
      subst hs
      unfold hasE at hyes
      rw [List.any_eq_true] at hyes
      obtain ⟨y, hy, hd⟩ := hyes
      obtain ⟨j, hj, rfl⟩ := List.getElem_of_mem hy
      exact ⟨j, hj, by rw [entD_get hj]; exact of_decide_eq_true hd⟩
    rintro v6 w6 ⟨o6, x6⟩
    repeat (first|refine go ?_|refine zg (fun _ _=>?_)|refine zi (fun _ _=>?_))
    have hinv : l.Pairwise fun x y => ∀ p, spends x p = true → spends y p = false := by
      obtain ⟨b1, vo, b2, m, sp, hP⟩ := hG; exact hP.inv.apart
    rw [below_eq hnd hinv hG.pos] at o6
    exact x_ret rfl ⟨o6.lower xw.size, xw.trans x6⟩
end Go.Proofs.YtfeifodeaphbjaaGreat
end
section
namespace Go.K
open Go
abbrev getG (l : List Ent) (id : ByteArray) : Ent := (l.find? fun x => decide (x.id = id)).getD default
def inB (l : List ByteArray) (x : ByteArray) : Bool := l.any fun y => decide (y = x)
theorem inB_iff {l : List ByteArray} {x : ByteArray} : inB l x = true ↔ x ∈ l := by
  unfold inB
  rw [List.any_eq_true]
  exact ⟨fun ⟨y, h1, h2⟩ => by rw [← of_decide_eq_true h2]; exact h1, fun h => ⟨x, h, decide_eq_true rfl⟩⟩
def dist : List ByteArray → List ByteArray
  | [] => []
  | x :: l => x :: (dist l).filter fun y => decide (y ≠ x)
def feeD (l : List Ent) (ids : List ByteArray) : Int := ((dist ids).map fun s => (getG l s).fee).sum
def sizeD (l : List Ent) (ids : List ByteArray) : Int := ((dist ids).map fun s => (getG l s).size).sum
theorem dist_snoc (xs : List ByteArray) (x : ByteArray) : dist (xs ++ [x]) = if inB xs x then dist xs else dist xs ++ [x] := by
  induction xs with
  | nil => rfl
  | cons a xs ih =>
    rw [List.cons_append, dist, ih]
    have e : inB (a :: xs) x = (decide (a = x) || inB xs x) := rfl
    by_cases h : inB xs x = true
    · rw [if_pos h, e, h, Bool.or_true, if_pos rfl, dist]
    · rw [if_neg h, e]
      simp only [Bool.not_eq_true] at h
      rw [h, Bool.or_false, List.filter_append]
      by_cases h2 : a = x
      · subst h2; simp [dist]
      · have h3 : x ≠ a := fun e => h2 e.symm
        simp [dist, h2, h3]
theorem dist_length (ids : List ByteArray) : (dist ids).length ≤ ids.length := by
  induction ids with
  | nil => exact Nat.le_refl _
  | cons x l ih =>
    rw [dist, List.length_cons, List.length_cons]
    have := List.length_filter_le (fun y => decide (y ≠ x)) (dist l)
    omega
theorem feeD_take {l : List Ent} {ids : List ByteArray} {i : Nat} (h : i < ids.length) : feeD l (ids.take (i + 1)) = if inB (ids.take i) ids[i] then feeD l (ids.take i) else feeD l (ids.take i) + (getG l ids[i]).fee := by
  unfold feeD
  rw [List.take_succ_eq_append_getElem h, dist_snoc]
  by_cases h2 : inB (ids.take i) ids[i] = true
  · rw [if_pos h2, if_pos h2]
  · rw [if_neg h2, if_neg h2]; simp
theorem sizeD_take {l : List Ent} {ids : List ByteArray} {i : Nat} (h : i < ids.length) : sizeD l (ids.take (i + 1)) = if inB (ids.take i) ids[i] then sizeD l (ids.take i) else sizeD l (ids.take i) + (getG l ids[i]).size := by
  unfold sizeD
  rw [List.take_succ_eq_append_getElem h, dist_snoc]
  by_cases h2 : inB (ids.take i) ids[i] = true
  · rw [if_pos h2, if_pos h2]
  · rw [if_neg h2, if_neg h2]; simp
theorem getG_ok {l : List Ent} (hl : ∀ x ∈ l, goodB x.fee = true ∧ 0 ≤ x.size ∧ x.size ≤ 100000000000) (s : ByteArray) : (0 ≤ (getG l s).fee ∧ (getG l s).fee ≤ 2100000000000000) ∧ 0 ≤ (getG l s).size ∧ (getG l s).size ≤ 100000000000 := by
  unfold getG
  cases h : l.find? fun x => decide (x.id = s) with
  | none => exact ⟨⟨Int.le_refl _, by show (0 : Int) ≤ _; omega⟩, Int.le_refl _, by show (0 : Int) ≤ _; omega⟩
  | some y =>
    have hy := hl y (List.mem_of_find?_eq_some h)
    exact ⟨(goodB_iff _).1 hy.1, hy.2⟩
theorem sum_bound {α : Type} {f : α → Int} {c : Nat} (hf : ∀ x, 0 ≤ f x ∧ f x ≤ c) : ∀ l : List α, 0 ≤ (l.map f).sum ∧ (l.map f).sum ≤ c * l.length
  | [] => by simp
  | x :: l => by
    have h1 := sum_bound hf l
    have h2 := hf x
    rw [List.map_cons, List.sum_cons, List.length_cons, Int.natCast_add, Int.mul_add]
    omega
theorem feeD_bound {l : List Ent} (hl : ∀ x ∈ l, goodB x.fee = true ∧ 0 ≤ x.size ∧ x.size ≤ 100000000000) {ids : List ByteArray} (hn : ids.length ≤ 4000) : (0 ≤ feeD l ids ∧ feeD l ids ≤ 8400000000000000000) ∧ 0 ≤ sizeD l ids ∧ sizeD l ids ≤ 400000000000000 := by
  have h1 := sum_bound (c := 2100000000000000) (fun s => (getG_ok hl s).1) (dist ids)
  have h2 := sum_bound (c := 100000000000) (fun s => (getG_ok hl s).2) (dist ids)
  have h3 := dist_length ids
  unfold feeD sizeD
  omega
theorem dist_nodup {ids : List ByteArray} (h : ids.Nodup) : dist ids = ids := by
  induction ids with
  | nil => rfl
  | cons x l ih =>
    rw [List.nodup_cons] at h
    rw [dist, ih h.2, List.filter_eq_self.2 fun y hy => decide_eq_true (show y ≠ x from fun e => h.1 (by rw [← e]; exact hy))]
theorem dist_append_sub {xs bs : List ByteArray} (h : ∀ x ∈ bs, x ∈ xs) : dist (xs ++ bs) = dist xs := by
  induction bs generalizing xs with
  | nil => rw [List.append_nil]
  | cons b bs ih =>
    have e : xs ++ b :: bs = (xs ++ [b]) ++ bs := by simp
    rw [e, ih (fun x hx => by simp [h x (by simp [hx])]), dist_snoc, if_pos (inB_iff.2 (h b (by simp)))]
theorem idsOf_sub : ∀ (l : List Ent) (m : List Bool), (idsOf l m).Sublist (l.map (·.id))
  | [], m => by cases m <;> exact List.Sublist.slnil
  | x :: l, [] => by show ([] : List ByteArray).Sublist _; exact List.nil_sublist _
  | x :: l, b :: m => by
    rw [idsOf, List.map_cons]
    cases b
    · exact (idsOf_sub l m).cons _
    · exact (idsOf_sub l m).cons_cons _
theorem getG_tail {x : Ent} {l : List Ent} (h : x.id ∉ l.map (·.id)) {s : ByteArray} (hs : s ∈ l.map (·.id)) : getG (x :: l) s = getG l s := by
  unfold getG
  rw [List.find?_cons_of_neg (by
    have : x.id ≠ s := fun e => h (by rw [e]; exact hs)
    simpa using this)]
theorem sums_mask : ∀ {l : List Ent} (_ : (l.map (·.id)).Nodup) (m : List Bool), ((idsOf l m).map fun s => (getG l s).fee).sum = feeOf l m ∧ ((idsOf l m).map fun s => (getG l s).size).sum = szOf l m
  | [], _, m => by cases m <;> exact ⟨rfl, rfl⟩
  | x :: l, _, [] => ⟨rfl, rfl⟩
  | x :: l, h, b :: m => by
    rw [List.map_cons, List.nodup_cons] at h
    have ih := sums_mask h.2 m
    have h0 : getG (x :: l) x.id = x := by unfold getG; rw [List.find?_cons_of_pos (by simp)]; rfl
    have h1 : ∀ s ∈ idsOf l m, getG (x :: l) s = getG l s := fun s hs => getG_tail h.1 ((idsOf_sub l m).subset hs)
    have e1 : ((idsOf l m).map fun s => (getG (x :: l) s).fee) = (idsOf l m).map fun s => (getG l s).fee := List.map_congr_left fun s hs => by rw [h1 s hs]
    have e2 : ((idsOf l m).map fun s => (getG (x :: l) s).size) = (idsOf l m).map fun s => (getG l s).size := List.map_congr_left fun s hs => by rw [h1 s hs]
    cases b
    · simp only [idsOf, feeOf, szOf, Bool.false_eq_true, if_false]
      constructor
      · rw [← ih.1, ← e1]; simp
      · rw [← ih.2, ← e2]; simp
    · simp only [idsOf, feeOf, szOf, if_true]
      simp only [List.singleton_append, List.map_cons, List.sum_cons, h0, e1, e2, ih.1, ih.2]
      exact ⟨trivial, trivial⟩
theorem sums_twice {l : List Ent} (h : (l.map (·.id)).Nodup) (m : List Bool) : feeD l (idsOf l m ++ idsOf l m) = feeOf l m ∧ sizeD l (idsOf l m ++ idsOf l m) = szOf l m := by
  unfold feeD sizeD
  rw [dist_append_sub (fun x hx => hx), dist_nodup ((idsOf_sub l m).nodup h)]
  exact sums_mask h m
end Go.K
end
section
namespace Go.Proofs.YtfeifodeaphbjaaGreat
open Go Go.K
attribute [local irreducible] regK codeK retK KOp.wp K.Spec u32 leS vnS str zero32 sha2 encT idT sizeT checkT grantB idN stepR workL reachE

theorem entOk_fit {x : Ent} (h : EntOk x) : goodB x.fee = true ∧ 0 ≤ x.size ∧ x.size ≤ 100000000000 := by
  refine ⟨h.fee, ?_⟩
  have := (sz_of_check (chk_sm h.check) h.check).size
  rw [h.size]
  omega
theorem gsum_spec {g : Nat} {M : List Nat} {l : List Ent} {v : Value} {ids : List ByteArray} (w : World) (hG : GrR w g M l) (hM : ∀ b ∈ M, b < w.heap.size) (hi : SlE strE w v ids) (hn : ids.length ≤ 4000) : K.Spec Tryz.prog F.graph_Graph_Sum [.pointer (some ⟨g, 0, none⟩), v] w fun r w' =>
    r = .tuple #[.int .i64 (feeD l ids), .int .i64 (sizeD l ids)] ∧ Ext w w' := by
  have hfit : ∀ x ∈ l, goodB x.fee = true ∧ 0 ≤ x.size ∧ x.size ≤ 100000000000 := fun x hx => entOk_fit (hG.ok x hx)
  refine s_graph_Graph_Sum rfl ?_
  unfold k_graph_Graph_Sum
  refine ox ?_
  repeat' (first|(first|refine go1 ?_|refine zg (fun _ _=>?_)|refine zi (fun _ _=>?_))|refine zL rfl (fun h => ?_) (fun h => ?_)|(refine st_makeMap (E := sK) (fv := fun n : Nat => Value.int .i64 (n : Nat)) (fun bm w1 x1 m1 hb1 => ?_); have lm := m1.lt)|(refine st_len rfl (SlE.ext (w := w) (by exact fx) hi) ?_)|(refine c_loopV (fun (p : Nat × List (ByteArray × Nat)) w' => Ext w w' ∧ p.1 ≤ ids.length ∧ MapE sK (fun n : Nat => Value.int .i64 (n : Nat)) w' bm p.2 ∧ ∀ s, (inB (ids.take p.1) s = false → aget p.2 s = none) ∧ (inB (ids.take p.1) s = true → ∃ c, aget p.2 s = some c ∧ 1 ≤ c ∧ c ≤ p.1)) (fun p => [(0, .pointer (some ⟨g, 0, none⟩)), (6, .int .i64 (feeD l (ids.take p.1))), (7, .int .i64 (sizeD l (ids.take p.1))), (8, .map (some bm)), (14, v), (15, .int .i64 (ids.length : Nat)), (16, .int .i64 p.1)]) (fun p => ids.length - p.1) (0, []) ⟨rfl, rfl, rfl, rfl, rfl, rfl, rfl, trivial⟩ ⟨x1, by simp, m1, fun s => ⟨fun _ => rfl, fun h => by simp [inB] at h⟩⟩ ?_; rintro ⟨i, met⟩ ρ w3 ⟨x3, hi3, hm, hc⟩; simp only at hi3 hm hc; dsimp only))
  · have hil : i < ids.length := by omega
    have hb0 := feeD_bound hfit (ids := ids.take i) (by rw [List.length_take]; omega)
    have hb1' := feeD_bound hfit (ids := ids.take (i + 1)) (by rw [List.length_take]; omega)
    have hf := feeD_take (l := l) hil
    have hz := sizeD_take (l := l) hil
    have hmem : ∀ s, inB (ids.take (i + 1)) s = (inB (ids.take i) s || decide (ids[i] = s)) := fun s => by
      rw [List.take_succ_eq_append_getElem hil]; unfold inB; simp only [List.any_append, List.any_cons, List.any_nil, Bool.or_false]
    refine st_elemE rfl rfl (n := i) (l := ids) (hi.ext x3) rfl hil (fun ad r5 => ?_)
    have r5 : Row w3 ad [Value.string ids[i]] := r5
    generalize hq : feeD l (ids.take i) = fee0 at *
    generalize hq2 : sizeD l (ids.take i) = size0 at *
    cases hin : inB (ids.take i) ids[i] with
    | false =>
      rw [hin] at hf hz
      simp only [Bool.false_eq_true, if_false] at hf hz
      have hno := (hc ids[i]).1 hin
      repeat' (first|(first|refine go1 ?_|refine zg (fun _ _=>?_)|refine zi (fun _ _=>?_))|(refine st_lookup (d := some 22) (E := sK) (fv := fun n : Nat => Value.int .i64 (n : Nat)) (k := ids[i]) rfl rfl hm rfl rfl (fun c hcc => by rw [hno] at hcc; cases hcc) (fun hcn => ?_))|(refine st_mapUpdate (E := sK) (fv := fun n : Nat => Value.int .i64 (n : Nat)) (k := ids[i]) (v := 1) rfl rfl rfl hm rfl rfl (fun w4 c4 m4 => ?_); have x4 : Ext w w4 := (Ext.chg x3 c4).mono (by intro y hy; simp at hy; right; omega); clear x3)|(refine st_lookup (d := some 26) (E := sK) (fv := fun n : Nat => Value.int .i64 (n : Nat)) (k := ids[i]) rfl rfl m4 rfl rfl (fun c hcc => ?_) (fun hcn => by rw [aget_set', if_pos rfl] at hcn; cases hcn); rw [aget_set', if_pos rfl] at hcc; injection hcc with hcc; subst hcc)|(refine zL rfl (fun h9 => absurd h9 (by decide)) (fun h9 => ?_))|(refine zC rfl (get_spec (M := M) ids[i] _ (hG.ext (by exact fx)) (fun b hb => Nat.lt_of_lt_of_le (hM b hb) (Ext.size (by exact fx)))) ?_; rintro _ w5 ⟨ds, rfl, e5, x5⟩; obtain ⟨iv, ov, rfl, o1, o2, o3⟩ := e5; have i1 := o1.one; have i2 := o2.one)|(refine zE (d' := 11) (fun _=>rfl) rfl rfl (by simp [entCs, i1, i2]; exact ⟨rfl, rfl, rfl, rfl, rfl⟩) (fun b6 w6 x6 a6 (r6 : Row w6 ⟨b6, 0, none⟩ (entCs (getE l ids[i]) iv ov)) hb6=>?_)))
      refine ⟨(i + 1, aset met ids[i] 1), ⟨rfl, ?_, ?_, rfl, rfl, rfl, rfl, trivial⟩, ⟨by exact fx, by simp; omega, m4.ext (by exact fx), fun s => ?_⟩, by simp; omega⟩
      · show _ = Value.int .i64 (feeD l (ids.take (i + 1))); rw [hf]; rw [hf] at hb1'; exact congrArg (Value.int .i64) (IntWalk.i64_in _ (by show -9223372036854775808 ≤ fee0 + (getG l ids[i]).fee ∧ fee0 + (getG l ids[i]).fee ≤ 9223372036854775807; omega))
      · show _ = Value.int .i64 (sizeD l (ids.take (i + 1))); rw [hz]; rw [hz] at hb1'; exact congrArg (Value.int .i64) (IntWalk.i64_in _ (by show -9223372036854775808 ≤ size0 + (getG l ids[i]).size ∧ size0 + (getG l ids[i]).size ≤ 9223372036854775807; omega))
      · show (inB (ids.take (i + 1)) s = false → _) ∧ (inB (ids.take (i + 1)) s = true → ∃ c, _ ∧ 1 ≤ c ∧ c ≤ i + 1)
        rw [hmem, aget_set']
        by_cases e : ids[i] = s
        · rw [if_pos e, decide_eq_true e]; exact ⟨fun h => by simp at h, fun _ => ⟨1, rfl, by omega, by omega⟩⟩
        · rw [if_neg e, decide_eq_false e, Bool.or_false]
          exact ⟨(hc s).1, fun h => by obtain ⟨c, q1, q2, q3⟩ := (hc s).2 h; exact ⟨c, q1, q2, by omega⟩⟩
    | true =>
      rw [hin] at hf hz
      simp only [if_true] at hf hz
      obtain ⟨c0, hc0, hc1, hc2⟩ := (hc ids[i]).2 hin
      repeat' (first|(first|refine go1 ?_|refine zg (fun _ _=>?_)|refine zi (fun _ _=>?_))|(refine st_lookup (d := some 22) (E := sK) (fv := fun n : Nat => Value.int .i64 (n : Nat)) (k := ids[i]) rfl rfl hm rfl rfl (fun c hcc => ?_) (fun hcn => by rw [hc0] at hcn; cases hcn); rw [hc0] at hcc; injection hcc with hcc; subst hcc)|(refine st_mapUpdate (E := sK) (fv := fun n : Nat => Value.int .i64 (n : Nat)) (k := ids[i]) (v := c0 + 1) rfl rfl rfl hm rfl rfl (fun w4 c4 m4 => ?_); have x4 : Ext w w4 := (Ext.chg x3 c4).mono (by intro y hy; simp at hy; right; omega); clear x3)|(refine st_lookup (d := some 26) (E := sK) (fv := fun n : Nat => Value.int .i64 (n : Nat)) (k := ids[i]) rfl rfl m4 rfl rfl (fun c hcc => ?_) (fun hcn => by rw [aget_set', if_pos rfl] at hcn; cases hcn); rw [aget_set', if_pos rfl] at hcc; injection hcc with hcc; subst hcc)|(refine zL rfl (fun h9 => ?_) (fun h9 => absurd h9 (by omega))))
      refine ⟨(i + 1, aset met ids[i] (c0 + 1)), ⟨rfl, ?_, ?_, rfl, rfl, rfl, rfl, trivial⟩, ⟨by exact fx, by simp; omega, m4.ext (by exact fx), fun s => ?_⟩, by simp; omega⟩
      · show _ = Value.int .i64 (feeD l (ids.take (i + 1))); rw [hf]; rfl
      · show _ = Value.int .i64 (sizeD l (ids.take (i + 1))); rw [hz]; rfl
      · show (inB (ids.take (i + 1)) s = false → _) ∧ (inB (ids.take (i + 1)) s = true → ∃ c, _ ∧ 1 ≤ c ∧ c ≤ i + 1)
        rw [hmem, aget_set']
        by_cases e : ids[i] = s
        · rw [if_pos e, decide_eq_true e]; exact ⟨fun h => by simp at h, fun _ => ⟨c0 + 1, rfl, by omega, by omega⟩⟩
        · rw [if_neg e, decide_eq_false e, Bool.or_false]
          exact ⟨(hc s).1, fun h => by obtain ⟨c, q1, q2, q3⟩ := (hc s).2 h; exact ⟨c, q1, q2, by omega⟩⟩
  · have ei : i = ids.length := by omega
    subst ei
    rw [List.take_of_length_le (Nat.le_refl _)]
    exact x_ret rfl ⟨rfl, x3⟩
end Go.Proofs.YtfeifodeaphbjaaGreat
end
section
namespace Go.K
open Go
def cntB : List Bool → Int
  | [] => 0
  | b :: m => (if b then 1 else 0) + cntB m
theorem cntB_le : ∀ (m : List Bool), 0 ≤ cntB m ∧ cntB m ≤ m.length
  | [] => by simp [cntB]
  | b :: m => by have := cntB_le m; rw [cntB, List.length_cons]; cases b <;> simp <;> omega
theorem cntB_snoc : ∀ (m : List Bool) (b : Bool), cntB (m ++ [b]) = cntB m + if b then 1 else 0
  | [], b => by cases b <;> rfl
  | c :: m, b => by rw [List.cons_append, cntB, cntB, cntB_snoc m b]; omega
theorem idsOf_len : ∀ (l : List Ent) (m : List Bool), l.length = m.length → ((idsOf l m).length : Int) = cntB m
  | [], [], _ => rfl
  | x :: l, b :: m, h => by
    have ih := idsOf_len l m (by simpa using h)
    cases b <;> simp only [idsOf, cntB, Bool.false_eq_true, if_false, if_true, List.length_cons] <;> omega
theorem sums_once {l : List Ent} (h : (l.map (·.id)).Nodup) (m : List Bool) : sizeD l (idsOf l m) = szOf l m := by
  unfold sizeD
  rw [dist_nodup ((idsOf_sub l m).nodup h)]
  exact (sums_mask h m).2
/-- Some ids, and so much more, within a count and a size. -/
def wiP (l : List Ent) (ids : List ByteArray) (more count size : Int) : Bool := decide ((ids.length : Int) + 1 ≤ count) && decide (sizeD l ids + more ≤ size)
def hoP (l : List Ent) (line : List ByteArray) (more count size : Int) : Bool := line.all fun s => wiP l (idsOf l (belowL l s)) more count size
def fitsL (l : List Ent) (t : Tx) : Int :=
  if checkT t ≠ 0 then checkT t
  else if wiP l (idsOf l (aboveL l t)) (sizeT t : Nat) 25 101000 = false then 14
  else if hoP l (idsOf l (aboveL l t)) (sizeT t : Nat) 25 101000 then 0
  else if ((idsOf l (aboveL l t)).length : Int) = 1 ∧ ((sizeT t : Nat) : Int) ≤ 10000 ∧ hoP l (idsOf l (aboveL l t)) (sizeT t : Nat) 26 111000 = true then 0 else 14
theorem idsOf_mem : ∀ {l : List Ent} {m : List Bool} {i : Nat} (h : i < l.length) (h2 : i < m.length), m[i] = true → l[i].id ∈ idsOf l m
  | x :: l, b :: m, 0, _, _, hb => by simp only [List.getElem_cons_zero] at hb; subst hb; simp [idsOf]
  | x :: l, b :: m, i + 1, h, h2, hb => by
    have := idsOf_mem (l := l) (m := m) (i := i) (by simpa using h) (by simpa using h2) (by simpa using hb)
    simp only [idsOf, List.getElem_cons_succ]
    cases b <;> simp [this]
theorem mem_idsOf : ∀ {l : List Ent} {m : List Bool} {s : ByteArray}, s ∈ idsOf l m → ∃ i, ∃ (h : i < l.length) (h2 : i < m.length), m[i] = true ∧ l[i].id = s
  | [], m, s, h => by cases m <;> simp [idsOf] at h
  | x :: l, [], s, h => by simp [idsOf] at h
  | x :: l, b :: m, s, h => by
    have step : s ∈ idsOf l m → _ := fun h => mem_idsOf h
    cases b
    · obtain ⟨i, h1, h2, h3, h4⟩ := step (by simpa [idsOf] using h)
      exact ⟨i + 1, by simpa using h1, by simpa using h2, by simpa using h3, by simpa using h4⟩
    · simp only [idsOf, if_true, List.mem_cons] at h
      rcases h with rfl | h
      · exact ⟨0, by simp, by simp, rfl, rfl⟩
      · obtain ⟨i, h1, h2, h3, h4⟩ := step h
        exact ⟨i + 1, by simpa using h1, by simpa using h2, by simpa using h3, by simpa using h4⟩
theorem one_all {α : Type} {l : List α} {a : α} {p : α → Bool} (h : l.length = 1) (ha : a ∈ l) : l.all p = p a := by
  match l, h with
  | [b], _ =>
    simp only [List.mem_singleton] at ha
    subst ha; simp
theorem wiP_mask {l : List Ent} {m : List Bool} (hn : (l.map (·.id)).Nodup) (hl : l.length = m.length) (z c s : Int) : wiP l (idsOf l m) z c s = (decide (cntB m + 1 ≤ c) && decide (szOf l m + z ≤ s)) := by
  unfold wiP
  rw [sums_once hn, idsOf_len l m hl]
end Go.K
end
