/- Plain: sums of the entries of distinct ids. Plain: whether one more may hang on entries. Contracts: nil graphs. Plain: an id that no entry has. Plain: where an entry is, and what it is. Plain: what fits, fits also once an entry is gone on which nothing hangs. Plain: scores of entries, the worst one, and what goes. DERIVED: THE SHELF's CONTRACTS AT THIS DUMP, IN PLAIN WORDS (tools/lay-plain.mjs out -/
import Derived.Shelf.Spec.SlicesGrow
import Derived.Test.YtcnhbkaclgdehaaGreatProg
import Derived.Test.YtcnhbkaclgdehaaGreatP23
set_option linter.unusedVariables false
set_option linter.unusedSimpArgs false
section
namespace Go.K
open Go
abbrev getG (l : List Ent) (id : ByteArray) : Ent := (l.find? fun x => decide (x.id = id)).getD default
def inB (l : List ByteArray) (x : ByteArray) : Bool := l.any fun y => decide (y = x)
theorem inB_iff {l : List ByteArray} {x : ByteArray} : inB l x = true ↔ x ∈ l := by
  unfold inB
  rw [List.any_eq_true]
  exact ⟨fun ⟨y, h1, h2⟩ => by rw [← of_decide_eq_true h2]; exact h1, fun h => ⟨x, h, decide_eq_true rfl⟩⟩
def dist : List ByteArray → List ByteArray
  | [] => []
  | x :: l => x :: (dist l).filter fun y => decide (y ≠ x)
def feeD (l : List Ent) (ids : List ByteArray) : Int := ((dist ids).map fun s => (getG l s).fee).sum
def sizeD (l : List Ent) (ids : List ByteArray) : Int := ((dist ids).map fun s => (getG l s).size).sum
theorem dist_snoc (xs : List ByteArray) (x : ByteArray) : dist (xs ++ [x]) = if inB xs x then dist xs else dist xs ++ [x] := by
  induction xs with
  | nil => rfl
  | cons a xs ih =>
    rw [List.cons_append, dist, ih]
    have e : inB (a :: xs) x = (decide (a = x) || inB xs x) := rfl
    by_cases h : inB xs x = true
    · rw [if_pos h, e, h, Bool.or_true, if_pos rfl, dist]
    · rw [if_neg h, e]
      simp only [Bool.not_eq_true] at h
      rw [h, Bool.or_false, List.filter_append]
      by_cases h2 : a = x
      · subst h2; simp [dist]
      · have h3 : x ≠ a := fun e => h2 e.symm
        simp [dist, h2, h3]
theorem dist_length (ids : List ByteArray) : (dist ids).length ≤ ids.length := by
  induction ids with
  | nil => exact Nat.le_refl _
  | cons x l ih =>
    rw [dist, List.length_cons, List.length_cons]
    have := List.length_filter_le (fun y => decide (y ≠ x)) (dist l)
    omega
theorem feeD_take {l : List Ent} {ids : List ByteArray} {i : Nat} (h : i < ids.length) : feeD l (ids.take (i + 1)) = if inB (ids.take i) ids[i] then feeD l (ids.take i) else feeD l (ids.take i) + (getG l ids[i]).fee := by
  unfold feeD
  rw [List.take_succ_eq_append_getElem h, dist_snoc]
  by_cases h2 : inB (ids.take i) ids[i] = true
  · rw [if_pos h2, if_pos h2]
  · rw [if_neg h2, if_neg h2]; simp
theorem sizeD_take {l : List Ent} {ids : List ByteArray} {i : Nat} (h : i < ids.length) : sizeD l (ids.take (i + 1)) = if inB (ids.take i) ids[i] then sizeD l (ids.take i) else sizeD l (ids.take i) + (getG l ids[i]).size := by
  unfold sizeD
  rw [List.take_succ_eq_append_getElem h, dist_snoc]
  by_cases h2 : inB (ids.take i) ids[i] = true
  · rw [if_pos h2, if_pos h2]
  · rw [if_neg h2, if_neg h2]; simp
theorem getG_ok {l : List Ent} (hl : ∀ x ∈ l, goodB x.fee = true ∧ 0 ≤ x.size ∧ x.size ≤ 100000000000) (s : ByteArray) : (0 ≤ (getG l s).fee ∧ (getG l s).fee ≤ 2100000000000000) ∧ 0 ≤ (getG l s).size ∧ (getG l s).size ≤ 100000000000 := by
  unfold getG
  cases h : l.find? fun x => decide (x.id = s) with
  | none => exact ⟨⟨Int.le_refl _, by show (0 : Int) ≤ _; omega⟩, Int.le_refl _, by show (0 : Int) ≤ _; omega⟩
  | some y =>
    have hy := hl y (List.mem_of_find?_eq_some h)
    exact ⟨(goodB_iff _).1 hy.1, hy.2⟩
theorem sum_bound {α : Type} {f : α → Int} {c : Nat} (hf : ∀ x, 0 ≤ f x ∧ f x ≤ c) : ∀ l : List α, 0 ≤ (l.map f).sum ∧ (l.map f).sum ≤ c * l.length
  | [] => by simp
  | x :: l => by
    have h1 := sum_bound hf l
    have h2 := hf x
    rw [List.map_cons, List.sum_cons, List.length_cons, Int.natCast_add, Int.mul_add]
    omega
theorem feeD_bound {l : List Ent} (hl : ∀ x ∈ l, goodB x.fee = true ∧ 0 ≤ x.size ∧ x.size ≤ 100000000000) {ids : List ByteArray} (hn : ids.length ≤ 4000) : (0 ≤ feeD l ids ∧ feeD l ids ≤ 8400000000000000000) ∧ 0 ≤ sizeD l ids ∧ sizeD l ids ≤ 400000000000000 := by
  have h1 := sum_bound (c := 2100000000000000) (fun s => (getG_ok hl s).1) (dist ids)
  have h2 := sum_bound (c := 100000000000) (fun s => (getG_ok hl s).2) (dist ids)
  have h3 := dist_length ids
  unfold feeD sizeD
  omega
theorem dist_nodup {ids : List ByteArray} (h : ids.Nodup) : dist ids = ids := by
  induction ids with
  | nil => rfl
  | cons x l ih =>
    rw [List.nodup_cons] at h
    rw [dist, ih h.2, List.filter_eq_self.2 fun y hy => decide_eq_true (show y ≠ x from fun e => h.1 (by rw [← e]; exact hy))]
theorem idsOf_sub : ∀ (l : List Ent) (m : List Bool), (idsOf l m).Sublist (l.map (·.id))
  | [], m => by cases m <;> exact List.Sublist.slnil
  | x :: l, [] => by show ([] : List ByteArray).Sublist _; exact List.nil_sublist _
  | x :: l, b :: m => by
    rw [idsOf, List.map_cons]
    cases b
    · exact (idsOf_sub l m).cons _
    · exact (idsOf_sub l m).cons_cons _
theorem getG_tail {x : Ent} {l : List Ent} (h : x.id ∉ l.map (·.id)) {s : ByteArray} (hs : s ∈ l.map (·.id)) : getG (x :: l) s = getG l s := by
  unfold getG
  rw [List.find?_cons_of_neg (by
    have : x.id ≠ s := fun e => h (by rw [e]; exact hs)
    simpa using this)]
theorem sums_mask : ∀ {l : List Ent} (_ : (l.map (·.id)).Nodup) (m : List Bool), ((idsOf l m).map fun s => (getG l s).fee).sum = feeOf l m ∧ ((idsOf l m).map fun s => (getG l s).size).sum = szOf l m
  | [], _, m => by cases m <;> exact ⟨rfl, rfl⟩
  | x :: l, _, [] => ⟨rfl, rfl⟩
  | x :: l, h, b :: m => by
    rw [List.map_cons, List.nodup_cons] at h
    have ih := sums_mask h.2 m
    have h0 : getG (x :: l) x.id = x := by unfold getG; rw [List.find?_cons_of_pos (by simp)]; rfl
    have h1 : ∀ s ∈ idsOf l m, getG (x :: l) s = getG l s := fun s hs => getG_tail h.1 ((idsOf_sub l m).subset hs)
    have e1 : ((idsOf l m).map fun s => (getG (x :: l) s).fee) = (idsOf l m).map fun s => (getG l s).fee := List.map_congr_left fun s hs => by rw [h1 s hs]
    have e2 : ((idsOf l m).map fun s => (getG (x :: l) s).size) = (idsOf l m).map fun s => (getG l s).size := List.map_congr_left fun s hs => by rw [h1 s hs]
    cases b
    · simp only [idsOf, feeOf, szOf, Bool.false_eq_true, if_false]
      constructor
      · rw [← ih.1, ← e1]; simp
      · rw [← ih.2, ← e2]; simp
    · simp only [idsOf, feeOf, szOf, if_true]
      simp only [List.singleton_append, List.map_cons, List.sum_cons, h0, e1, e2, ih.1, ih.2]
      exact ⟨trivial, trivial⟩
end Go.K
end
section
namespace Go.K
open Go
def cntB : List Bool → Int
  | [] => 0
  | b :: m => (if b then 1 else 0) + cntB m
/-- Some ids, and so much more, within a count and a size. -/
def wiP (l : List Ent) (ids : List ByteArray) (more count size : Int) : Bool := decide ((ids.length : Int) + 1 ≤ count) && decide (sizeD l ids + more ≤ size)
def hoP (l : List Ent) (line : List ByteArray) (more count size : Int) : Bool := line.all fun s => wiP l (idsOf l (belowL l s)) more count size
def fitsL (l : List Ent) (t : Tx) : Int :=
  if checkT t ≠ 0 then checkT t
  else if wiP l (idsOf l (aboveL l t)) (sizeT t : Nat) 25 101000 = false then 14
  else if hoP l (idsOf l (aboveL l t)) (sizeT t : Nat) 25 101000 then 0
  else if ((idsOf l (aboveL l t)).length : Int) = 1 ∧ ((sizeT t : Nat) : Int) ≤ 10000 ∧ hoP l (idsOf l (aboveL l t)) (sizeT t : Nat) 26 111000 = true then 0 else 14
end Go.K
end
section
namespace Go.Proofs.YtcnhbkaclgdehaaGreat
open Go Go.K
attribute [local irreducible] regK codeK retK KOp.wp K.Spec u32 leS vnS str zero32 sha2 encT idT sizeT checkT grantB idN stepR workL reachE

theorem get_nil (id : ByteArray) (w : World) : K.Spec Tryz.prog F.graph_Graph_Get [.pointer none, .string id] w fun r w' => r = .tuple #[.agg zEnt.toArray, .bool false] ∧ Ext w w' := by
  refine s_graph_Graph_Get rfl ?_
  unfold k_graph_Graph_Get
  refine oy ?_
  repeat' (first|(first|refine go1 ?_|refine zg (fun _ _=>?_)|refine zi (fun _ _=>?_))|(refine zH (fun b4 w4 x4 a4 hb4 => ?_))|(refine st_build (cs := zEnt) rfl ?_)|(refine st_setN (w0 := w) (vs := zEnt) (by exact fx) (by omega) (by focus (repeat (first | assumption | (apply At.ext; assumption)))) rfl rfl rfl rfl rfl (fun w9 x9 c9 a9 r9 => ?_)))
  exact x_ret (ret2 (rv_cell r9 rfl rfl) rv_tmp) ⟨rfl, x9⟩
theorem all_nil (w : World) : K.Spec Tryz.prog F.graph_Graph_All [.pointer none] w fun r w' => r = .slice none 0 0 ∧ Ext w w' := by
  refine s_graph_Graph_All rfl ?_
  unfold k_graph_Graph_All
  refine oy ?_
  repeat' (first|(first|refine go1 ?_|refine zg (fun _ _=>?_)|refine zi (fun _ _=>?_))|(first|refine zD rfl rfl (fun bp wp xp ap rp hp0=>?_)|refine zE (fun _=>rfl) rfl rfl rfl (fun bq wq xq aq rq hq0=>?_)))
  exact x_ret rfl ⟨rfl, by exact fx⟩
theorem sum_nil {v : Value} {ids : List ByteArray} (w : World) (hi : SlE strE w v ids) (hn : ids.length ≤ 1) : K.Spec Tryz.prog F.graph_Graph_Sum [.pointer none, v] w fun r w' => r = .tuple #[.int .i64 0, .int .i64 0] ∧ Ext w w' := by
  refine s_graph_Graph_Sum rfl ?_
  unfold k_graph_Graph_Sum
  refine oy ?_
  repeat' (first|(first|refine go1 ?_|refine zg (fun _ _=>?_)|refine zi (fun _ _=>?_))|refine zL rfl (fun h => ?_) (fun h => ?_)|(refine st_makeMap (E := sK) (fv := fun n : Nat => Value.int .i64 (n : Nat)) (fun bm w1 x1 m1 hb1 => ?_); have lm := m1.lt)|(refine st_len rfl (SlE.ext (w := w) (by exact fx) hi) ?_)|(refine c_loopV (fun (p : Nat) w' => Ext w w' ∧ p ≤ ids.length ∧ (p = 0 → MapE sK (fun n : Nat => Value.int .i64 (n : Nat)) w' bm [])) (fun p => [(0, .pointer none), (6, .int .i64 0), (7, .int .i64 0), (8, .map (some bm)), (14, v), (15, .int .i64 (ids.length : Nat)), (16, .int .i64 (p : Nat))]) (fun p => ids.length - p) 0 ⟨rfl, rfl, rfl, rfl, rfl, rfl, rfl, trivial⟩ ⟨x1, by simp, fun _ => m1⟩ ?_; rintro i ρ w3 ⟨x3, hi3, hm⟩))
  · have hi0 : i = 0 := by omega
    subst hi0
    have hil : 0 < ids.length := by omega
    have hm := hm rfl
    refine st_elemE rfl rfl (n := 0) (l := ids) (hi.ext x3) rfl hil (fun ad r5 => ?_)
    have r5 : Row w3 ad [Value.string ids[0]] := r5
    repeat' (first|(first|refine go1 ?_|refine zg (fun _ _=>?_)|refine zi (fun _ _=>?_))|(refine st_lookup (d := some 22) (E := sK) (fv := fun n : Nat => Value.int .i64 (n : Nat)) (k := ids[0]) rfl rfl hm rfl rfl (fun c hcc => by simp [aget] at hcc) (fun hcn => ?_))|(refine st_mapUpdate (E := sK) (fv := fun n : Nat => Value.int .i64 (n : Nat)) (k := ids[0]) (v := 1) rfl rfl rfl hm rfl rfl (fun w4 c4 m4 => ?_); have x4 : Ext w w4 := (Ext.chg x3 c4).mono (by intro y hy; simp at hy; right; omega); clear x3)|(refine st_lookup (d := some 26) (E := sK) (fv := fun n : Nat => Value.int .i64 (n : Nat)) (k := ids[0]) rfl rfl m4 rfl rfl (fun c hcc => ?_) (fun hcn => by rw [aget_set', if_pos rfl] at hcn; cases hcn); rw [aget_set', if_pos rfl] at hcc; injection hcc with hcc; subst hcc)|(refine zL rfl (fun h9 => absurd h9 (by decide)) (fun h9 => ?_))|(refine zC rfl (get_nil ids[0] _) ?_; rintro _ w5 ⟨rfl, x5⟩)|(refine zE (d' := 11) (fun _=>rfl) rfl rfl rfl (fun b6 w6 x6 a6 (r6 : Row w6 ⟨b6, 0, none⟩ zEnt) hb6=>?_)))
    exact ⟨1, ⟨rfl, rfl, rfl, rfl, rfl, rfl, rfl, trivial⟩, ⟨by exact fx, by omega, fun h => by omega⟩, by omega⟩
  · exact x_ret rfl ⟨rfl, x3⟩
end Go.Proofs.YtcnhbkaclgdehaaGreat
end
section
namespace Go.K
open Go
variable {l : List Ent} {s : ByteArray}
theorem belowL_len (l : List Ent) (s : ByteArray) : l.length = (belowL l s).length := (reachL_length _ _ _).symm
theorem ids_no : ∀ {l : List Ent} {m : List Bool}, (∀ b ∈ m, b = false) → idsOf l m = []
  | [], m, _ => by cases m <;> rfl
  | _ :: _, [], _ => rfl
  | x :: l, b :: m, h => by
    have hb := h b (by simp)
    subst hb
    exact ids_no (l := l) (m := m) fun b hb => h b (by simp [hb])
end Go.K
end
section
namespace Go.K
open Go
end Go.K
end
section
namespace Go.K
open Go
def upI (q j : Nat) : Nat := if j < q then j else j + 1
def dnI (q i : Nat) : Nat := if i < q then i else i - 1
end Go.K
end
section
namespace Go.K
open Go
def pricedB (f s : Int) : Bool := goodB f && decide (1 ≤ s ∧ s ≤ 1000000)
def cmpR (f s o i : Int) : Int := if pricedB f s && pricedB o i then (if f * i < o * s then -1 else if o * s < f * i then 1 else 0) else 0
def rateR (f s : Int) : Int := if pricedB f s then f * 1000 / s else 0
def scoreL (l : List Ent) (x : Ent) : Int × Int :=
  if cmpR (feeOf l (belowL l x.id)) (szOf l (belowL l x.id)) x.fee x.size > 0 then (feeOf l (belowL l x.id), szOf l (belowL l x.id)) else (x.fee, x.size)
def worstI (l : List Ent) : Nat → Int
  | 0 => -1
  | i + 1 => if worstI l i < 0 ∨ cmpR (scoreL l (entD l i)).1 (scoreL l (entD l i)).2 (scoreL l (entD l (worstI l i).toNat)).1 (scoreL l (entD l (worstI l i).toNat)).2 ≤ 0 then i else worstI l i
theorem worstI_lt (l : List Ent) : ∀ i, -1 ≤ worstI l i ∧ worstI l i < i ∧ (0 < i → 0 ≤ worstI l i)
  | 0 => ⟨by rw [worstI]; omega, by rw [worstI]; omega, by omega⟩
  | i + 1 => by
    have ih := worstI_lt l i
    rw [worstI]
    split
    · refine ⟨?_, ?_, ?_⟩ <;> omega
    · rename_i h
      refine ⟨?_, ?_, ?_⟩ <;> omega
def sizeL (l : List Ent) : Int := (l.map (·.size)).sum
def leftL : List Ent → List Bool → List Ent
  | x :: l, b :: m => if b then leftL l m else x :: leftL l m
  | l, _ => l
theorem leftL_sub : ∀ (l : List Ent) (m : List Bool), (leftL l m).Sublist l
  | [], [] => List.Sublist.slnil
  | [], _ :: _ => List.Sublist.slnil
  | _ :: _, [] => List.Sublist.refl _
  | x :: l, b :: m => by
    rw [leftL]
    cases b
    · exact (leftL_sub l m).cons_cons _
    · exact (leftL_sub l m).cons _
theorem leftL_len : ∀ (l : List Ent) (m : List Bool), (leftL l m).length + (idsOf l m).length = l.length
  | [], [] => rfl
  | [], _ :: _ => rfl
  | _ :: _, [] => rfl
  | x :: l, b :: m => by
    have := leftL_len l m
    rw [leftL, idsOf, List.length_cons]
    cases b
    · simp only [Bool.false_eq_true, if_false, List.length_cons]; omega
    · simp only [if_true, List.length_cons]; omega
theorem leftL_or : ∀ (l : List Ent) (m : List Bool) {x : Ent}, x ∈ l → x ∈ leftL l m ∨ x.id ∈ idsOf l m
  | [], _, _, h => by cases h
  | _ :: _, [], _, h => .inl h
  | y :: l, b :: m, x, h => by
    rw [leftL, idsOf]
    rcases List.mem_cons.1 h with rfl | h
    · cases b <;> simp
    · rcases leftL_or l m h with h | h <;> cases b <;> simp [h]
theorem leftL_not : ∀ (l : List Ent) (m : List Bool) {x : Ent}, (l.map (·.id)).Nodup → x ∈ leftL l m → x.id ∉ idsOf l m
  | [], m, _, _, h => by cases m <;> cases h
  | _ :: _, [], _, _, _ => by simp [idsOf]
  | y :: l, b :: m, x, hn, h => by
    rw [List.map_cons, List.nodup_cons] at hn
    rw [leftL] at h
    rw [idsOf]
    cases b
    · simp only [Bool.false_eq_true, if_false] at h ⊢
      rcases List.mem_cons.1 h with rfl | h
      · exact fun e => hn.1 ((idsOf_sub l m).subset e)
      · exact leftL_not l m hn.2 h
    · simp only [if_true] at h ⊢
      intro e
      rcases List.mem_cons.1 e with e | e
      · exact hn.1 (by rw [← e]; exact List.mem_map_of_mem ((leftL_sub l m).subset h))
      · exact leftL_not l m hn.2 h e
theorem findI_cons_eq {x : Ent} {l : List Ent} : findI (x :: l) x.id = 0 := by
  unfold findI
  exact idxOf_hit (i := 0) (by simp) (decide_eq_true rfl) (fun j hj => by omega)
theorem findI_cons_ne {x : Ent} {l : List Ent} {s : ByteArray} (h : x.id ≠ s) : findI (x :: l) s = if findI l s < 0 then -1 else findI l s + 1 := by
  unfold findI idxOf
  rw [List.findIdx?_cons, if_neg (by simpa using h)]
  cases l.findIdx? fun x => decide (x.id = s) with
  | none => rfl
  | some i => simp; omega
theorem dropG_cons_eq {x : Ent} {l : List Ent} : (dropG (x :: l) x.id).1 = l := by
  unfold dropG
  rw [findI_cons_eq, if_neg (by omega)]; rfl
theorem dropG_cons_ne {x : Ent} {l : List Ent} {s : ByteArray} (h : x.id ≠ s) : (dropG (x :: l) s).1 = x :: (dropG l s).1 := by
  unfold dropG
  rw [findI_cons_ne h]
  by_cases h1 : findI l s < 0
  · rw [if_pos h1, if_pos h1, if_pos (by omega)]
  · rw [if_neg h1, if_neg h1, if_neg (by omega)]
    have : (findI l s + 1).toNat = (findI l s).toNat + 1 := by omega
    rw [this]; rfl
def dropAll (l : List Ent) (ids : List ByteArray) : List Ent := ids.foldl (fun l s => (dropG l s).1) l
theorem dropAll_succ {l : List Ent} {ids : List ByteArray} {i : Nat} (h : i < ids.length) : dropAll l (ids.take (i + 1)) = (dropG (dropAll l (ids.take i)) ids[i]).1 := by
  unfold dropAll
  rw [List.take_succ_eq_append_getElem h, List.foldl_append]; rfl
theorem dropAll_cons : ∀ (ids : List ByteArray) {x : Ent} {l : List Ent}, x.id ∉ ids → dropAll (x :: l) ids = x :: dropAll l ids
  | [], _, _, _ => rfl
  | s :: ids, x, l, h => by
    simp only [List.mem_cons, not_or] at h
    show dropAll (dropG (x :: l) s).1 ids = x :: dropAll (dropG l s).1 ids
    rw [dropG_cons_ne h.1, dropAll_cons ids h.2]
theorem dropAll_left : ∀ (l : List Ent) (m : List Bool), (l.map (·.id)).Nodup → dropAll l (idsOf l m) = leftL l m
  | [], [], _ => rfl
  | [], _ :: _, _ => rfl
  | _ :: _, [], _ => rfl
  | x :: l, b :: m, hn => by
    rw [List.map_cons, List.nodup_cons] at hn
    have ih := dropAll_left l m hn.2
    rw [idsOf, leftL]
    cases b
    · simp only [Bool.false_eq_true, if_false]
      rw [dropAll_cons _ (fun e => hn.1 ((idsOf_sub l m).subset e)), ih]
    · simp only [if_true]
      show dropAll (dropG (x :: l) x.id).1 (idsOf l m) = _
      rw [dropG_cons_eq, ih]
def worstE (l : List Ent) : Ent := entD l (worstI l l.length).toNat
def wMask (l : List Ent) : List Bool := belowL l (worstE l).id
def askR (p : Int × Int) : Int := min (rateR p.1 p.2 + 1000) 100000000
theorem rateR_nonneg (f s : Int) : 0 ≤ rateR f s := by
  unfold rateR pricedB
  split
  · rename_i h
    rw [Bool.and_eq_true, goodB_iff, decide_eq_true_eq] at h
    exact Int.ediv_nonneg (by omega) (by omega)
  · omega
theorem askR_pos (p : Int × Int) : 1 ≤ askR p ∧ askR p ≤ 100000000 := by
  have := rateR_nonneg p.1 p.2
  unfold askR; omega
theorem worst_lt {l : List Ent} (h : 0 < l.length) : (worstI l l.length).toNat < l.length := by
  have := worstI_lt l l.length
  omega
theorem worst_in {l : List Ent} (hn : (l.map (·.id)).Nodup) (h : 0 < l.length) : (worstE l).id ∈ idsOf l (wMask l) := by
  unfold wMask worstE
  rw [entD_get (worst_lt h)]
  exact inS_iff.1 (both_self hn (worst_lt h))
theorem left_less {l : List Ent} (hn : (l.map (·.id)).Nodup) (h : 0 < l.length) : (leftL l (wMask l)).length < l.length := by
  have h1 := leftL_len l (wMask l)
  have h2 := List.length_pos_of_mem (worst_in hn h)
  omega
def trimF : Nat → Int → List Ent → List Ent × List ByteArray × Int
  | 0, _, l => (l, [], 0)
  | k + 1, m, l => if l.length = 0 ∨ sizeL l ≤ m then (l, [], 0) else
    ((trimF k m (leftL l (wMask l))).1, idsOf l (wMask l) ++ (trimF k m (leftL l (wMask l))).2.1, max (askR (scoreL l (worstE l))) (trimF k m (leftL l (wMask l))).2.2)
def trimL (m : Int) (l : List Ent) : List Ent × List ByteArray × Int := trimF l.length m l
theorem left_nodup {l : List Ent} (hn : (l.map (·.id)).Nodup) (m : List Bool) : ((leftL l m).map (·.id)).Nodup := ((leftL_sub l m).map _).nodup hn
theorem trimF_fuel (m : Int) : ∀ (k : Nat) (l : List Ent), (l.map (·.id)).Nodup → l.length ≤ k → trimF k m l = trimL m l := by
  intro k
  induction k using Nat.strongRecOn with
  | _ k ih =>
    intro l hn hk
    unfold trimL
    cases h : l.length with
    | zero =>
      cases k with
      | zero => rfl
      | succ k => rw [trimF, trimF, if_pos (.inl h)]
    | succ j =>
      cases k with
      | zero => omega
      | succ k =>
        rw [trimF, trimF]
        have h1 := left_less hn (by omega)
        have h2 := left_nodup hn (wMask l)
        rw [ih k (by omega) _ h2 (by omega), ih j (by omega) _ h2 (by omega)]
theorem trimL_stop {m : Int} {l : List Ent} (h : l.length = 0 ∨ sizeL l ≤ m) : trimL m l = (l, [], 0) := by
  unfold trimL
  cases e : l.length with
  | zero => rfl
  | succ j => rw [trimF, if_pos h]
theorem trimL_step {m : Int} {l : List Ent} (hn : (l.map (·.id)).Nodup) (h : ¬ (l.length = 0 ∨ sizeL l ≤ m)) :
    trimL m l = ((trimL m (leftL l (wMask l))).1, idsOf l (wMask l) ++ (trimL m (leftL l (wMask l))).2.1, max (askR (scoreL l (worstE l))) (trimL m (leftL l (wMask l))).2.2) := by
  have h1 := left_less hn (by omega)
  have h3 : trimL m l = trimF l.length m l := rfl
  rw [h3]
  cases e : l.length with
  | zero => omega
  | succ j =>
    rw [trimF, if_neg h, trimF_fuel m j _ (left_nodup hn _) (by omega)]
theorem trim_ind {P : List Ent → Prop} (m : Int) (stop : ∀ l, l.length = 0 ∨ sizeL l ≤ m → P l) (step : ∀ l, (l.map (·.id)).Nodup → ¬ (l.length = 0 ∨ sizeL l ≤ m) → P (leftL l (wMask l)) → P l) (l : List Ent) (hn : (l.map (·.id)).Nodup) : P l := by
  generalize e : l.length = n
  induction n using Nat.strongRecOn generalizing l with
  | _ n ih =>
    by_cases h : l.length = 0 ∨ sizeL l ≤ m
    · exact stop l h
    · exact step l hn h (ih _ (by have := left_less hn (by omega); omega) _ (left_nodup hn _) rfl)
theorem trim_rate {m : Int} {l : List Ent} (hn : (l.map (·.id)).Nodup) : 0 ≤ (trimL m l).2.2 ∧ (trimL m l).2.2 ≤ 100000000 := by
  refine trim_ind (P := fun l => 0 ≤ (trimL m l).2.2 ∧ (trimL m l).2.2 ≤ 100000000) m (fun l h => ?_) (fun l hn h ih => ?_) l hn
  · rw [trimL_stop h]; simp
  · rw [trimL_step hn h]
    have := askR_pos (scoreL l (worstE l))
    simp only; omega
end Go.K
end
section
namespace Go.Proofs
open Go.Shelf
def Tryz.growS_ren : Go.Shelf.Ren := ⟨fun | 4 => 132 | n => n, fun | 22 => 41 | 25 => 9 | 3 => 3 | 4 => 4 | 9 => 9 | 20 => 20 | 0 => 0 | n => n, fun | n => n⟩
theorem Tryz.growS : Go.Proofs.Lays8.n4 Tryz.prog Tryz.growS_ren := {
  mixed := by kernel_rfl
  f4 := ⟨Tryz.f132.name, by decide, Tryz.func132.trans (congrArg some (by kernel_rfl))⟩
  t0 := Tryz.underlying0
  a0 := Tryz.isAgg0
  z0 := Tryz.sizeOf0
  v0 := Tryz.zeroValue0
  t3 := Tryz.underlying3
  a3 := Tryz.isAgg3
  z3 := Tryz.sizeOf3
  v3 := Tryz.zeroValue3
  t4 := Tryz.underlying4
  a4 := Tryz.isAgg4
  z4 := Tryz.sizeOf4
  v4 := Tryz.zeroValue4
  t9 := Tryz.underlying9
  a9 := Tryz.isAgg9
  z9 := Tryz.sizeOf9
  v9 := Tryz.zeroValue9
  t20 := Tryz.underlying20
  a20 := Tryz.isAgg20
  z20 := Tryz.sizeOf20
  v20 := Tryz.zeroValue20
  t22 := Tryz.underlying41
  a22 := Tryz.isAgg41
  z22 := Tryz.sizeOf41
  v22 := Tryz.zeroValue41 }
end Go.Proofs
end
