/- Contracts: a graph of any entries. Plain: sums of the entries of distinct ids. -/
import Derived.Test.YtfeifodeaphbjaaGreatG48
section
namespace Go.Proofs.YtfeifodeaphbjaaGreat
open Go Go.K
attribute [local irreducible] regK codeK retK KOp.wp K.Spec u32 leS vnS str zero32 sha2 encT idT sizeT checkT grantB idN stepR workL reachE findI dropG addG

def feeA (a : Int) : Int := IntKind.i64.wrap ((BitVec.ofInt IntKind.i64.bits a &&& BitVec.ofInt IntKind.i64.bits 65535).toNat : Nat)
theorem feeA_64 (a : Int) : is64 (feeA a) := by
  unfold feeA is64
  have : ∀ n : Int, IntKind.i64.wrap n = (n + 9223372036854775808) % 18446744073709551616 - 9223372036854775808 := fun n => by
    simp only [IntKind.wrap, IntKind.bits, IntKind.signed]
    simp; split <;> omega
  rw [this]; omega
section
variable {P : Program} {d : Option Tmp} {r : KR} {K : Env → World → Prop} {ρ : Env} {w : World}
theorem st_takeR {α : Type} {E : R α} {M : List Nat} {size : Nat} {x h : Operand} {v : Value} {l : List α} {kd : IntKind} {n : Nat} {m : Int} {w1 : World} (hx : ev ρ x = v) (hh : ev ρ h = .int kd m) (hm : m = (n : Nat)) (hs : SlR E M w1 v l) (hn : n ≤ l.length) (hk : size = E.k)
    (k : ∀ v', SlR E M w1 v' (l.take n) → regK P r K (put ρ d v') w) : regK P (.cons ⟨d, .sliceSl size x none (some h), none⟩ r) K ρ w := by
  subst hm
  obtain ⟨css, h1, h2, h3⟩ := hs
  have hl := h2.length
  refine st_takeE (E := vecE E.k E.pos) hx hh h1 (by rw [hl]; exact hn) hk fun v' h4 h5 => k v' ⟨css.take n, h4, ?_, fun hp b hb => h3 (by rw [List.length_take] at hp; omega) b (h5 b hb)⟩
  have := h2.take n
  exact All2.take n h2
end
theorem addG_le {l : List Ent} {t : Tx} {fee : Int} : (addG l t fee).1.length ≤ l.length + 1 := by
  unfold addG
  split; · simp
  split; · simp
  split; · simp
  split; · simp
  split <;> simp
theorem dropG_le {l : List Ent} {id : ByteArray} : (dropG l id).1.length ≤ l.length := by
  unfold dropG
  split
  · simp
  · rw [List.length_eraseIdx]; split <;> omega
set_option maxHeartbeats 4000000 in
theorem filled_spec {v : Value} {sc : List ActG} (most : Nat) (w : World) (hs : SlR actR [] w v sc) (hm : most ≤ 14) :
    K.Spec Tryz.prog F.kedgelaw14_filled [v, .int .i64 (most : Nat)] w fun r w' => ∃ g M u l, r = .tuple #[.pointer (some ⟨g, 0, none⟩), u] ∧ Gr w' w.heap.size g M l ∧ SlR entR M w' u l ∧ l.length ≤ most ∧ Ext w w' := by
  refine s_kedgelaw14_filled rfl ?_
  unfold k_kedgelaw14_filled
  refine ox ?_
  repeat' (first|(refine st_takeR (d := some 18) (E := actR) (n := min sc.length most) rfl rfl (by omega) hs (by omega) rfl (fun v' hv => ?_))|(first|refine go1 ?_|refine zg (fun _ _=>?_)|refine zi (fun _ _=>?_))|(refine zC rfl (new_spec _) ?_; rintro _ w1 ⟨g, M1, rfl, G1, x1⟩)|(refine zG (E := actR) (M := []) (l := sc) rfl (SlR.ext hs (by exact fx)) ?_)|(refine zG (d := some 19) (E := actR) (M := []) (l := sc.take (min sc.length most)) rfl (SlR.ext hv (by exact fx)) ?_)|(refine st_min rfl rfl ?_))
  have hSl : (sc.take (min sc.length most)).length ≤ most := by rw [List.length_take]; omega
  generalize sc.take (min sc.length most) = S at *
  have hv1 := SlR.ext hv x1
  repeat' (first|(first|refine go1 ?_|refine zg (fun _ _=>?_)|refine zi (fun _ _=>?_))|(refine zL rfl (fun h => ?_) (fun h => ?_))|(refine c_loopV (fun (p : Nat × List Ent × List Nat × Value) w' => Ext w w' ∧ p.1 ≤ S.length ∧ p.2.1.length ≤ p.1 ∧ Gr w' w.heap.size g p.2.2.1 p.2.1 ∧ SlR entR p.2.2.1 w' p.2.2.2 p.2.1) (fun p => [(6, .pointer (some ⟨g, 0, none⟩)), (7, p.2.2.2), (18, v'), (19, .int .i64 (S.length : Nat)), (20, .int .i64 p.1)]) (fun p => S.length - p.1) (0, [], M1, .slice none 0 0) ⟨rfl, rfl, rfl, rfl, rfl, trivial⟩ ⟨x1, by simp, by simp, G1, SlR.nil _ _⟩ ?_; rintro ⟨i, l, M, u⟩ ρ w3 ⟨x3, hi, hli, G3, u3⟩; simp only at hi hli G3 u3; dsimp only; have hM3 := G3.lt; have hB3 := G3.base))
  · clear G1 x1 hv1
    have hil : i < S.length := by omega
    have hid32 : ∀ x ∈ l, x.id.size = 32 := fun x hx => by rw [(G3.ok x hx).id]; exact idT_size _
    refine st_elemR (d := some 22) (E := actR) (M := M) rfl rfl (n := i) (l := S) (hv.step x3 (by simp) (fun b hb => .inr (hB3 b hb))) rfl hil (fun ad cs r4 he => ?_)
    have hact := he
    obtain ⟨fv, iv, ov, rfl, q1, q2, q3, q4, q5, q6, q7, q8⟩ := he
    have i1 := q1.one
    have i2 := q2.one
    have i3 := q3.one
    generalize S[i] = a at *
    have s3 := x3.size
    repeat' (first|(first|refine go1 ?_|refine zg (fun _ _=>?_)|refine zi (fun _ _=>?_))|(refine zE (d' := 9) (fun _=>rfl) rfl rfl (by simp [actCs, i1, i2, i3]; exact ⟨rfl, rfl, rfl, rfl, rfl, rfl, rfl, rfl, rfl, rfl⟩) (fun b9 w9 x9 (a9 : At w9 b9 (.cells (actCs a fv iv ov).toArray T.kedgelaw14_Act (0, 0))) (r9 : Row w9 ⟨b9, 0, none⟩ (actCs a fv iv ov)) hb9=>?_))|(refine zC rfl (of_spec (M := M) (l := l) (cs := actCs a fv iv ov) (a := a) _ (u3.ext (by exact fx)) (R.ext hact (by exact fx)) (by omega) hid32 (fun b hb => Nat.lt_of_lt_of_le (hM3 b hb) (Ext.size (by exact fx)))) ?_; rintro _ w5 ⟨ds, t, rfl, ho, hsm, x5⟩))
    have s9 := x9.size
    have s5 := x5.size
    have hMo : ∀ b ∈ M, b < w9.heap.size := fun b hb => by have := hM3 b hb; omega
    have t5 : txR.rel M w5 ds t := txO.rel ho hMo
    have o1 := ho.one
    obtain ⟨iv5, ov5, rfl, -⟩ := ho
    refine zE (d' := 10) (fun _=>rfl) rfl rfl o1 (fun b6 w6 x6 (a6 : At w6 b6 (.cells (txCs t iv5 ov5).toArray T.api_Tx (0, 0))) r6 hb6=>?_)
    have s6 := x6.size
    have l9 := a9.lt
    have l6 := a6.lt
    have a96 := a9.ext (x5.trans x6)
    have r96 : Row w6 ⟨b9, 0, none⟩ (actCs a fv iv ov) := Row.of_at a96
    have t6 : txR.rel M w6 (txCs t iv5 ov5) t := R.ext t5 x6
    have x36 := (x9.trans x5).trans x6
    have G6 := G3.ext x36
    have u6 := u3.ext x36
    have x06 := x3.trans x36
    have hM6 : ∀ b ∈ M, b < w6.heap.size := fun b hb => by have := hM3 b hb; omega
    have hf := feeA_64 a.small.fee
    have n9 : b9 ∉ M := fun h => by have := hM3 _ h; omega
    have n6 : b6 ∉ M := fun h => by have := hM3 _ h; omega
    clear x3 x9 x5 x6 x36 G3 u3 a9 r9 t5 r4 hact q1 q2 q3
    repeat' (first|(refine st_bin (d := some 32) (v := .int .i64 (feeA a.small.fee)) rfl rfl rfl ?_)|(first|refine go1 ?_|refine zg (fun _ _=>?_)|refine zi (fun _ _=>?_))|(refine zC rfl (gadd_spec (M := M) (N := M) (cs := txCs t iv5 ov5) (t := t) (feeA a.small.fee) _ G6 t6 hsm hf hM6 (fun _ h => h) (by omega)) ?_; rintro _ w7 ⟨M7, rfl, G7, c7, hb7⟩))
    have t7 : txR.rel M7 w7 (txCs t iv5 ov5) t := txR.step t6 c7 (fun b hb => .inl hb) hb7
    have u7 : SlR entR M7 w7 u l := u6.step c7 (fun b hb => .inl hb) hb7
    have a97 := a96.chg c7 n9
    have a67 := a6.chg c7 n6
    have r97 : Row w7 ⟨b9, 0, none⟩ (actCs a fv iv ov) := Row.of_at a97
    have r67 : Row w7 ⟨b6, 0, none⟩ (txCs t iv5 ov5) := Row.of_at a67
    have x07 : Ext w w7 := (x06.chg c7).mono (fun b hb => .inr (hB3 b hb))
    have hok := G6.ok
    have hM7 := G7.lt
    have hB7 := G7.base
    have s7 := c7.size
    clear t6 u6 a96 r96 c7 x06 G6 r6 a6
    repeat' (first|(refine st_bin (d := some 40) (v := .int .i64 (feeA a.small.fee)) rfl rfl rfl ?_)|(first|refine go1 ?_|refine zg (fun _ _=>?_)|refine zi (fun _ _=>?_))|(refine zC rfl (radd_spec (M := M7) (l := l) (cs := txCs t iv5 ov5) (t := t) (feeA a.small.fee) _ u7 t7 hsm hf (by omega) hok hM7) ?_; rintro _ w8 ⟨u8, rfl, hu8, x8⟩))
    have hla := @addG_le l t (feeA a.small.fee)
    generalize (addG l t (feeA a.small.fee)).1 = l' at *
    have x08 := x07.trans x8
    have G8 := G7.ext x8
    have r98 := r97.ext x8
    have hM8 : ∀ b ∈ M7, b < w8.heap.size := fun b hb => Nat.lt_of_lt_of_le (hM7 b hb) x8.size
    have hll : l'.length ≤ i + 1 := by omega
    have hok' := G7.ok
    clear x07 x8 G7 r97 u7 t7 a97 a67 r67
    repeat' (first|(refine st_fixV (d := some 56) (.int .i64 (a.which.toNat : Nat)) rfl (congrArg (fun n => some (Value.int .i64 n)) (wrap_u8 a.which)) ?_)|(refine st_rem (d := some 59) (n := a.which.toNat) (m := l'.length) rfl rfl (by omega) ?_)|(first|refine go1 ?_|refine zg (fun _ _=>?_)|refine zi (fun _ _=>?_))|(refine zJ rfl (fun h7 => ?_) (fun h7 => ?_))|(refine zL rfl (fun h8 => ?_) (fun h8 => ?_))|(refine zG (E := entR) (M := M7) (l := l') rfl (SlR.ext hu8 (by exact fx)) ?_)|(have hkl : a.which.toNat % l'.length < l'.length := Nat.mod_lt _ (by omega); refine st_elemR (d := some 60) (E := entR) (M := M7) rfl rfl (n := a.which.toNat % l'.length) (l := l') hu8 rfl hkl (fun ad cs r4 he => ?_); obtain ⟨iv9, ov9, rfl, -⟩ := he)|(refine zC rfl (gdrop_spec (M := M7) (l := l') l'[a.which.toNat % l'.length].id _ G8 (by omega)) ?_; rintro _ w9 ⟨M9, rfl, G9, c9, hb9'⟩))
    · have u9 : SlR entR M9 w9 u8 l' := hu8.step c9 (fun b hb => .inl hb) hb9'
      have x09 : Ext w w9 := (x08.chg c9).mono (fun b hb => .inr (hB7 b hb))
      refine zC rfl (rdrop_spec (M := M9) (l := l') l'[a.which.toNat % l'.length].id _ u9 (by omega) G9.lt) ?_
      rintro _ w10 ⟨u10, rfl, hu10, x10⟩
      repeat' (first|refine go1 ?_|refine zg (fun _ _=>?_)|refine zi (fun _ _=>?_))
      have hdl := @dropG_le l' l'[a.which.toNat % l'.length].id
      exact ⟨(i + 1, (dropG l' l'[a.which.toNat % l'.length].id).1, M9, u10), ⟨rfl, rfl, rfl, rfl, rfl, trivial⟩, ⟨x09.trans x10, by simp; omega, by simp only; omega, G9.ext x10, hu10⟩, by simp; omega⟩
    · exact ⟨(i + 1, l', M7, u8), ⟨rfl, rfl, rfl, rfl, rfl, trivial⟩, ⟨x08, by simp; omega, by simp only; omega, G8, hu8⟩, by simp; omega⟩
    · exact ⟨(i + 1, l', M7, u8), ⟨rfl, rfl, rfl, rfl, rfl, trivial⟩, ⟨x08, by simp; omega, by simp only; omega, G8, hu8⟩, by simp; omega⟩
  · have ei : i = S.length := by omega
    exact x_ret rfl ⟨g, M, u, l, rfl, G3, u3, by omega, x3⟩
end Go.Proofs.YtfeifodeaphbjaaGreat
end
section
namespace Go.K
open Go
abbrev getG (l : List Ent) (id : ByteArray) : Ent := (l.find? fun x => decide (x.id = id)).getD default
def inB (l : List ByteArray) (x : ByteArray) : Bool := l.any fun y => decide (y = x)
theorem inB_iff {l : List ByteArray} {x : ByteArray} : inB l x = true ↔ x ∈ l := by
  unfold inB
  rw [List.any_eq_true]
  exact ⟨fun ⟨y, h1, h2⟩ => by rw [← of_decide_eq_true h2]; exact h1, fun h => ⟨x, h, decide_eq_true rfl⟩⟩
def dist : List ByteArray → List ByteArray
  | [] => []
  | x :: l => x :: (dist l).filter fun y => decide (y ≠ x)
def feeD (l : List Ent) (ids : List ByteArray) : Int := ((dist ids).map fun s => (getG l s).fee).sum
def sizeD (l : List Ent) (ids : List ByteArray) : Int := ((dist ids).map fun s => (getG l s).size).sum
theorem dist_snoc (xs : List ByteArray) (x : ByteArray) : dist (xs ++ [x]) = if inB xs x then dist xs else dist xs ++ [x] := by
  induction xs with
  | nil => rfl
  | cons a xs ih =>
    rw [List.cons_append, dist, ih]
    have e : inB (a :: xs) x = (decide (a = x) || inB xs x) := rfl
    by_cases h : inB xs x = true
    · rw [if_pos h, e, h, Bool.or_true, if_pos rfl, dist]
    · rw [if_neg h, e]
      simp only [Bool.not_eq_true] at h
      rw [h, Bool.or_false, List.filter_append]
      by_cases h2 : a = x
      · subst h2; simp [dist]
      · have h3 : x ≠ a := fun e => h2 e.symm
        simp [dist, h2, h3]
theorem dist_length (ids : List ByteArray) : (dist ids).length ≤ ids.length := by
  induction ids with
  | nil => exact Nat.le_refl _
  | cons x l ih =>
    rw [dist, List.length_cons, List.length_cons]
    have := List.length_filter_le (fun y => decide (y ≠ x)) (dist l)
    omega
theorem feeD_take {l : List Ent} {ids : List ByteArray} {i : Nat} (h : i < ids.length) : feeD l (ids.take (i + 1)) = if inB (ids.take i) ids[i] then feeD l (ids.take i) else feeD l (ids.take i) + (getG l ids[i]).fee := by
  unfold feeD
  rw [List.take_succ_eq_append_getElem h, dist_snoc]
  by_cases h2 : inB (ids.take i) ids[i] = true
  · rw [if_pos h2, if_pos h2]
  · rw [if_neg h2, if_neg h2]; simp
theorem sizeD_take {l : List Ent} {ids : List ByteArray} {i : Nat} (h : i < ids.length) : sizeD l (ids.take (i + 1)) = if inB (ids.take i) ids[i] then sizeD l (ids.take i) else sizeD l (ids.take i) + (getG l ids[i]).size := by
  unfold sizeD
  rw [List.take_succ_eq_append_getElem h, dist_snoc]
  by_cases h2 : inB (ids.take i) ids[i] = true
  · rw [if_pos h2, if_pos h2]
  · rw [if_neg h2, if_neg h2]; simp
theorem getG_ok {l : List Ent} (hl : ∀ x ∈ l, goodB x.fee = true ∧ 0 ≤ x.size ∧ x.size ≤ 100000000000) (s : ByteArray) : (0 ≤ (getG l s).fee ∧ (getG l s).fee ≤ 2100000000000000) ∧ 0 ≤ (getG l s).size ∧ (getG l s).size ≤ 100000000000 := by
  unfold getG
  cases h : l.find? fun x => decide (x.id = s) with
  | none => exact ⟨⟨Int.le_refl _, by show (0 : Int) ≤ _; omega⟩, Int.le_refl _, by show (0 : Int) ≤ _; omega⟩
  | some y =>
    have hy := hl y (List.mem_of_find?_eq_some h)
    exact ⟨(goodB_iff _).1 hy.1, hy.2⟩
theorem sum_bound {α : Type} {f : α → Int} {c : Nat} (hf : ∀ x, 0 ≤ f x ∧ f x ≤ c) : ∀ l : List α, 0 ≤ (l.map f).sum ∧ (l.map f).sum ≤ c * l.length
  | [] => by simp
  | x :: l => by
    have h1 := sum_bound hf l
    have h2 := hf x
    rw [List.map_cons, List.sum_cons, List.length_cons, Int.natCast_add, Int.mul_add]
    omega
theorem feeD_bound {l : List Ent} (hl : ∀ x ∈ l, goodB x.fee = true ∧ 0 ≤ x.size ∧ x.size ≤ 100000000000) {ids : List ByteArray} (hn : ids.length ≤ 4000) : (0 ≤ feeD l ids ∧ feeD l ids ≤ 8400000000000000000) ∧ 0 ≤ sizeD l ids ∧ sizeD l ids ≤ 400000000000000 := by
  have h1 := sum_bound (c := 2100000000000000) (fun s => (getG_ok hl s).1) (dist ids)
  have h2 := sum_bound (c := 100000000000) (fun s => (getG_ok hl s).2) (dist ids)
  have h3 := dist_length ids
  unfold feeD sizeD
  omega
theorem dist_nodup {ids : List ByteArray} (h : ids.Nodup) : dist ids = ids := by
  induction ids with
  | nil => rfl
  | cons x l ih =>
    rw [List.nodup_cons] at h
    rw [dist, ih h.2, List.filter_eq_self.2 fun y hy => decide_eq_true (show y ≠ x from fun e => h.1 (by rw [← e]; exact hy))]
theorem dist_append_sub {xs bs : List ByteArray} (h : ∀ x ∈ bs, x ∈ xs) : dist (xs ++ bs) = dist xs := by
  induction bs generalizing xs with
  | nil => rw [List.append_nil]
  | cons b bs ih =>
    have e : xs ++ b :: bs = (xs ++ [b]) ++ bs := by simp
    rw [e, ih (fun x hx => by simp [h x (by simp [hx])]), dist_snoc, if_pos (inB_iff.2 (h b (by simp)))]
theorem idsOf_sub : ∀ (l : List Ent) (m : List Bool), (idsOf l m).Sublist (l.map (·.id))
  | [], m => by cases m <;> exact List.Sublist.slnil
  | x :: l, [] => by show ([] : List ByteArray).Sublist _; exact List.nil_sublist _
  | x :: l, b :: m => by
    rw [idsOf, List.map_cons]
    cases b
    · exact (idsOf_sub l m).cons _
    · exact (idsOf_sub l m).cons_cons _
theorem getG_tail {x : Ent} {l : List Ent} (h : x.id ∉ l.map (·.id)) {s : ByteArray} (hs : s ∈ l.map (·.id)) : getG (x :: l) s = getG l s := by
  unfold getG
  rw [List.find?_cons_of_neg (by
    have : x.id ≠ s := fun e => h (by rw [e]; exact hs)
    simpa using this)]
theorem sums_mask : ∀ {l : List Ent} (_ : (l.map (·.id)).Nodup) (m : List Bool), ((idsOf l m).map fun s => (getG l s).fee).sum = feeOf l m ∧ ((idsOf l m).map fun s => (getG l s).size).sum = szOf l m
  | [], _, m => by cases m <;> exact ⟨rfl, rfl⟩
  | x :: l, _, [] => ⟨rfl, rfl⟩
  | x :: l, h, b :: m => by
    rw [List.map_cons, List.nodup_cons] at h
    have ih := sums_mask h.2 m
    have h0 : getG (x :: l) x.id = x := by unfold getG; rw [List.find?_cons_of_pos (by simp)]; rfl
    have h1 : ∀ s ∈ idsOf l m, getG (x :: l) s = getG l s := fun s hs => getG_tail h.1 ((idsOf_sub l m).subset hs)
    have e1 : ((idsOf l m).map fun s => (getG (x :: l) s).fee) = (idsOf l m).map fun s => (getG l s).fee := List.map_congr_left fun s hs => by rw [h1 s hs]
    have e2 : ((idsOf l m).map fun s => (getG (x :: l) s).size) = (idsOf l m).map fun s => (getG l s).size := List.map_congr_left fun s hs => by rw [h1 s hs]
    cases b
    · simp only [idsOf, feeOf, szOf, Bool.false_eq_true, if_false]
      constructor
      · rw [← ih.1, ← e1]; simp
      · rw [← ih.2, ← e2]; simp
    · simp only [idsOf, feeOf, szOf, if_true]
      simp only [List.singleton_append, List.map_cons, List.sum_cons, h0, e1, e2, ih.1, ih.2]
      exact ⟨trivial, trivial⟩
theorem sums_twice {l : List Ent} (h : (l.map (·.id)).Nodup) (m : List Bool) : feeD l (idsOf l m ++ idsOf l m) = feeOf l m ∧ sizeD l (idsOf l m ++ idsOf l m) = szOf l m := by
  unfold feeD sizeD
  rw [dist_append_sub (fun x hx => hx), dist_nodup ((idsOf_sub l m).nodup h)]
  exact sums_mask h m
end Go.K
end
