/- Plain: what a graph tells is what the list tells. Contracts: what hangs on what, by the program. Plain: what is done to a graph, as it comes in. Contracts: the transaction of an act. Plain: what hangs on what, from both ends. Plain: sums of the entries of distinct ids. Plain: whether one more may hang on entries. Contracts: nil graphs. Plain: an id that no entry has. Plain: where an entry is, and  -/
import Derived.Shelf.Spec.SlicesGrow
import Derived.Test.YtilhlcnekkkajaaGreatProg
import Derived.Test.YtilhlcnekkkajaaGreatPa22
set_option linter.unusedVariables false
set_option linter.unusedSimpArgs false
section
namespace Go.K
open Go
theorem stepR_congr {base base' : Nat → Bool} {edge edge' : Nat → Nat → Bool} {n : Nat} (hb : ∀ i, i < n → base i = base' i) (he : ∀ k i, k < n → i < n → edge k i = edge' k i) : ∀ (r i : Nat), i < n → stepR base edge n r i = stepR base' edge' n r i
  | 0, _, _ => rfl
  | r + 1, i, hi => by
    rw [Bool.eq_iff_iff, stepR_succ, stepR_succ, hb i hi]
    refine or_congr Iff.rfl ⟨fun ⟨k, h1, h2, h3⟩ => ⟨k, h1, ?_, ?_⟩, fun ⟨k, h1, h2, h3⟩ => ⟨k, h1, ?_, ?_⟩⟩
    · rw [← stepR_congr hb he r k h1]; exact h2
    · rw [← he k i h1 hi]; exact h3
    · rw [stepR_congr hb he r k h1]; exact h2
    · rw [he k i h1 hi]; exact h3
theorem reachL_congr {base base' : Nat → Bool} {edge edge' : Nat → Nat → Bool} {n : Nat} (hb : ∀ i, i < n → base i = base' i) (he : ∀ k i, k < n → i < n → edge k i = edge' k i) : reachL base edge n = reachL base' edge' n := by
  unfold reachL
  refine List.map_congr_left fun i hi => stepR_congr hb he n i (by simpa using hi)
theorem getE_get {l : List Ent} (hn : (l.map (·.id)).Nodup) {i : Nat} (hi : i < l.length) : (l.find? fun x => decide (x.id = l[i].id)) = some l[i] := by
  cases h : l.find? fun y => decide (y.id = l[i].id) with
  | none => exact absurd (List.find?_eq_none.1 h _ (List.getElem_mem hi)) (by simp)
  | some y =>
    have h1 := List.mem_of_find?_eq_some h
    have h2 : y.id = l[i].id := by simpa using List.find?_some h
    obtain ⟨j, hj, rfl⟩ := List.getElem_of_mem h1
    have := entD_inj hn hj hi (by rw [entD_get hj, entD_get hi]; exact h2)
    subst this; rfl
theorem spE_get {l : List Ent} (ha : l.Pairwise fun x y => ∀ p, spends x p = true → spends y p = false) {i : Nat} (hi : i < l.length) {p : Pt} (hp : spends l[i] p = true) : (l.find? fun x => spends x p) = some l[i] := by
  induction l generalizing i with
  | nil => simp at hi
  | cons x l ih =>
    rw [List.pairwise_cons] at ha
    cases i with
    | zero =>
      simp only [List.getElem_cons_zero] at hp ⊢
      exact List.find?_cons_of_pos (p := fun x => spends x p) hp
    | succ i =>
      simp only [List.getElem_cons_succ] at hp ⊢
      have h1 : ¬ spends x p = true := fun h => by
        rw [ha.1 _ (List.getElem_mem (by simpa using hi)) p h] at hp; cases hp
      rw [List.find?_cons_of_neg (p := fun x => spends x p) h1]
      exact ih ha.2 (by simpa using hi) hp
theorem idsOf_none {l : List Ent} {m : List Bool} (h : ∀ b ∈ m, b = false) : idsOf l m = [] := by
  induction l generalizing m with
  | nil => cases m <;> rfl
  | cons x l ih => cases m with
    | nil => rfl
    | cons b m =>
      rw [idsOf, h b (by simp)]
      exact ih fun c hc => h c (by simp [hc])
end Go.K
end
section
namespace Go.Proofs.YtilhlcnekkkajaaGreat
open Go Go.K
attribute [local irreducible] regK codeK retK KOp.wp K.Spec u32 leS vnS str zero32 sha2 encT idT sizeT checkT grantB idN stepR workL

theorem GrR.pos {w : World} {g : Nat} {M : List Nat} {l : List Ent} (h : GrR w g M l) : ∀ x ∈ l, ∀ i ∈ x.tx.ins, is32 i.p.i := by
  obtain ⟨b1, vo, b2, m, sp, h⟩ := h
  intro x hx i hi
  obtain ⟨mv, h1, h2⟩ := h.ents
  have hg : aget m x.id = some x := by
    rw [h.inv.ent]
    obtain ⟨j, hj, rfl⟩ := List.getElem_of_mem hx
    exact getE_get h.inv.nodup hj
  obtain ⟨v, e, cs, e2, hr⟩ := (aget_all (r := fun v y => ∃ cs, v = entR.val cs ∧ entR.rel M w cs y) (k := x.id) h2).1 x hg
  obtain ⟨iv, ov, e3, g1, g2, g3⟩ := hr
  obtain ⟨css, k1, k2, k3⟩ := g1
  obtain ⟨j, hj, rfl⟩ := List.getElem_of_mem hi
  obtain ⟨wv, k4, k5, k6, k7⟩ := k2.get j (by rw [k2.length]; exact hj) hj
  exact k6
theorem named_parents {l : List Ent} (hn : (l.map (·.id)).Nodup) {t : Tx} {i : Nat} (hi : i < l.length) : named l (parentsL l t.ins) i = hangs t (entD l i) := by
  rw [Bool.eq_iff_iff, named_iff]
  unfold hangs parentsL
  rw [List.any_eq_true, List.mem_map, entD_get hi]
  constructor
  · rintro ⟨x, hx, e⟩
    obtain ⟨h1, h2⟩ := List.mem_filter.1 hx
    refine ⟨x, h1, ?_⟩
    unfold outHas hasE getE at h2
    rw [e, getE_get hn hi] at h2
    rw [Bool.and_eq_true] at h2
    rw [Bool.and_eq_true]
    exact ⟨decide_eq_true e, h2.2⟩
  · rintro ⟨x, hx, h2⟩
    rw [Bool.and_eq_true] at h2
    have e := of_decide_eq_true h2.1
    refine ⟨x, List.mem_filter.2 ⟨hx, ?_⟩, e⟩
    unfold outHas hasE getE
    rw [e, getE_get hn hi, Bool.and_eq_true]
    exact ⟨any_at hi (decide_eq_true rfl), h2.2⟩
theorem above_eq {l : List Ent} (hn : (l.map (·.id)).Nodup) (t : Tx) : reachE l (parentsL l t.ins) (fun x => parentsL l x.tx.ins) = aboveL l t :=
  reachL_congr (fun i hi => named_parents hn hi) (fun k i hk hi => by rw [hangE, named_parents hn hi])
theorem mem_childL {l : List Ent} {id s : ByteArray} : ∀ {n : Nat}, s ∈ childL l id n ↔ ∃ j, j < n ∧ ∃ e, spE l ⟨id, (j : Nat)⟩ = some e ∧ e.id = s
  | 0 => by simp [childL]
  | n + 1 => by
    unfold childL
    rw [List.mem_append, mem_childL]
    constructor
    · rintro (⟨j, h1, h2⟩ | h)
      · exact ⟨j, by omega, h2⟩
      · cases he : spE l ⟨id, (n : Nat)⟩ with
        | none => rw [he] at h; simp at h
        | some e => rw [he] at h; simp at h; exact ⟨n, by omega, e, he, h.symm⟩
    · rintro ⟨j, h1, e, h2, h3⟩
      by_cases hj : j = n
      · subst hj
        rw [h2]; right; simp [h3]
      · exact .inl ⟨j, by omega, e, h2, h3⟩
theorem named_children {l : List Ent} (hn : (l.map (·.id)).Nodup) (ha : l.Pairwise fun x y => ∀ p, spends x p = true → spends y p = false) (hp : ∀ x ∈ l, ∀ i ∈ x.tx.ins, is32 i.p.i) {k i : Nat} (hk : k < l.length) (hi : i < l.length) : named l (childL l (entD l k).id (entD l k).tx.outs.length) i = hangE l i k := by
  rw [Bool.eq_iff_iff, named_iff, mem_childL, hangE, entD_get hk, entD_get hi]
  unfold hangs
  rw [List.any_eq_true]
  constructor
  · rintro ⟨j, h1, e, h2, h3⟩
    have h4 := List.mem_of_find?_eq_some h2
    obtain ⟨q, hq, rfl⟩ := List.getElem_of_mem h4
    have := entD_inj hn hq hi (by rw [entD_get hq, entD_get hi]; exact h3)
    subst this
    have h5 := List.find?_some h2
    unfold spends at h5
    rw [List.any_eq_true] at h5
    obtain ⟨x, hx, h6⟩ := h5
    have h7 := of_decide_eq_true h6
    exact ⟨x, hx, by rw [Bool.and_eq_true, h7]; exact ⟨decide_eq_true rfl, decide_eq_true (by simp only; omega)⟩⟩
  · rintro ⟨x, hx, h2⟩
    rw [Bool.and_eq_true] at h2
    have e1 := of_decide_eq_true h2.1
    have e2 := of_decide_eq_true h2.2
    have h32 := hp _ (List.getElem_mem hi) x hx
    unfold is32 at h32
    refine ⟨x.p.i.toNat, by omega, l[i], ?_, rfl⟩
    refine spE_get ha hi ?_
    unfold spends
    refine List.any_eq_true.2 ⟨x, hx, decide_eq_true ?_⟩
    refine pt_ext e1 ?_
    simp only; omega
theorem below_eq {l : List Ent} (hn : (l.map (·.id)).Nodup) (ha : l.Pairwise fun x y => ∀ p, spends x p = true → spends y p = false) (hp : ∀ x ∈ l, ∀ i ∈ x.tx.ins, is32 i.p.i) {id : ByteArray} : reachE l [id] (fun x => childL l x.id x.tx.outs.length) = belowL l id := by
  refine reachL_congr (fun i hi => ?_) (fun k i hk hi => named_children hn ha hp hk hi)
  rw [Bool.eq_iff_iff, named_iff, entD_get hi]
  simp only [List.mem_singleton, decide_eq_true_eq]
  constructor
  · intro e
    subst e
    exact (idxOf_hit hi (decide_eq_true rfl) (fun j hj => decide_eq_false fun e => by
      have := entD_inj hn (show j < l.length by omega) hi (by rw [entD_get (by omega), entD_get hi]; exact e)
      omega)).symm
  · intro e
    unfold findI idxOf at e
    split at e
    · rename_i q hq
      obtain ⟨h1, h2, _⟩ := List.findIdx?_eq_some_iff_getElem.1 hq
      have : i = q := by omega
      subst this
      exact of_decide_eq_true h2
    · omega
theorem above1_hb : hasBody Tryz.prog F.graph_Graph_Above_1 = true := by kernel_rfl
theorem children_hb : hasBody Tryz.prog F.graph_Graph_children = true := by kernel_rfl
theorem above1_spec {g bg : Nat} {M N : List Nat} {l : List Ent} {cs : List Value} {x : Ent} (w : World) (hG : GrR w g M l) (hM : ∀ b ∈ M, b < w.heap.size) (hg : At w bg (.cells [.pointer (some ⟨g, 0, none⟩)].toArray T.P_graph_Graph (0, 0))) (hx : entR.rel N w cs x) (hs : x.tx.ins.length ≤ 100000) : K.Spec Tryz.prog F.graph_Graph_Above_1 [.agg cs.toArray, .pointer (some ⟨bg, 0, none⟩)] w fun r w' =>
    Own strE T.string w.heap.size w' r (parentsL l x.tx.ins) ∧ Ext w w' := by
  obtain ⟨iv, ov, rfl, h1, h2, h3⟩ := hx
  have rg : Row w ⟨bg, 0, none⟩ [.pointer (some ⟨g, 0, none⟩)] := Row.of_at hg
  refine s_graph_Graph_Above_1 rfl ?_
  unfold k_graph_Graph_Above_1
  refine oy ?_
  repeat' (first|(first|refine go1 ?_|refine zg (fun _ _=>?_)|refine zi (fun _ _=>?_))|refine zD rfl rfl (fun bp wp xp ap (rp : Row wp ⟨bp, 0, none⟩ (entCs x iv ov)) hp0=>?_)|(refine zC rfl (parents_spec (M := M) (N := N) (cs := txCs x.tx iv ov) (t := x.tx) _ (hG.ext (by exact fx)) (fun b hb => Nat.lt_of_lt_of_le (hM b hb) (Ext.size (by exact fx))) ⟨iv, ov, rfl, by exact fx, by exact fx, h3.1, h3.2.1⟩ hs) ?_; rintro v5 w5 ⟨o5, x5⟩))
  exact x_ret rfl ⟨o5.lower xp.size, xp.trans x5⟩
end Go.Proofs.YtilhlcnekkkajaaGreat
end
section
namespace Go.K
open Go
structure ActG where
  do_ : UInt8
  which : UInt8
  small : Small
  raw : Tx
  odd : Bool
instance : Inhabited ActG := ⟨⟨0, 0, default, default, false⟩⟩
def actCs (a : ActG) (fv iv ov : Value) : List Value := [u8V a.do_, u8V a.which, fv, u8V a.small.idx, u8V a.small.outs, .int .i64 a.small.fee, u8V a.small.mark, u8V a.small.long, .int .u32 a.raw.ver, iv, ov, .int .u32 a.raw.lock, .bool a.odd]
end Go.K
end
section
namespace Go.Proofs.YtilhlcnekkkajaaGreat
open Go Go.K
attribute [local irreducible] regK codeK retK KOp.wp K.Spec u32 leS vnS str zero32 sha2 encT idT sizeT checkT grantB idN stepR workL reachE findI

def actR : R ActG where
  k := 13
  pos := by decide
  ag := true
  rel := fun M w cs a => ∃ fv iv ov, cs = actCs a fv iv ov ∧ SlR u8R M w fv a.small.frm ∧ SlR inR M w iv a.raw.ins ∧ SlR outR M w ov a.raw.outs ∧ is64 a.small.fee ∧ is32 a.raw.ver ∧ is32 a.raw.lock ∧ a.raw.Raw ∧ a.small.frm.length ≤ 9223372036854775807
  len := fun ⟨_, _, _, h, _⟩ => by rw [h]; rfl
  one := fun ⟨fv, iv, ov, h, h1, h2, h3, _⟩ v hv => by
    obtain ⟨_, _, rfl⟩ := h1.form
    obtain ⟨_, _, rfl⟩ := h2.form
    obtain ⟨_, _, rfl⟩ := h3.form
    subst h; simp [actCs] at hv; rcases hv with rfl | rfl | rfl | rfl | rfl | rfl | rfl | rfl | rfl | rfl | rfl | rfl | rfl <;> rfl
  step := fun ⟨fv, iv, ov, h, h1, h2, h3, h4⟩ c hL hM => ⟨fv, iv, ov, h, h1.step c hL hM, h2.step c hL hM, h3.step c hL hM, h4⟩
theorem txO.off {B b : Nat} {M : List Nat} {w w' : World} {ds : List Value} {t : Tx} (h : txO B ([b] ++ M) w ds t) (hb : b < B) (c : Chg [b] w w') : txO B M w' ds t := by
  obtain ⟨iv, ov, rfl, o1, o2, o3⟩ := h
  have g1 := o1.base
  have g2 := o2.base
  have n1 : b ∉ blkOf iv := fun h => by have := g1 _ h; omega
  have n2 : b ∉ blkOf ov := fun h => by have := g2 _ h; omega
  exact ⟨iv, ov, rfl, o1.step c (by intro q hq; simp at hq; subst hq; exact ⟨n1, .inl (by simp)⟩) (fun _ h => .inl (List.mem_append_right _ h)), o2.step c (by intro q hq; simp at hq; subst hq; exact ⟨n2, .inl (by simp)⟩) (fun _ h => .inl (List.mem_append_right _ h)), o3⟩
theorem txO.lower {B B' : Nat} {M : List Nat} {w : World} {ds : List Value} {t : Tx} (h : txO B M w ds t) (hb : B' ≤ B) : txO B' M w ds t := by
  obtain ⟨iv, ov, rfl, o1, o2, o3⟩ := h
  exact ⟨iv, ov, rfl, o1.lower hb, o2.lower hb, o3⟩
theorem txO.ext {B : Nat} {M : List Nat} {w w' : World} {ds : List Value} {t : Tx} (h : txO B M w ds t) (c : Ext w w') : txO B M w' ds t := by
  obtain ⟨iv, ov, rfl, o1, o2, o3⟩ := h
  exact ⟨iv, ov, rfl, o1.ext c, o2.ext c, o3⟩
theorem txO.four {B : Nat} {M : List Nat} {w : World} {ds : List Value} {t : Tx} (h : txO B M w ds t) : ds.length = 4 := by
  obtain ⟨iv, ov, rfl, o1, o2, o3⟩ := h; rfl
theorem txO.one {B : Nat} {M : List Nat} {w : World} {ds : List Value} {t : Tx} (h : txO B M w ds t) : ds.all (fun v => v.oneCell') = true := by
  obtain ⟨iv, ov, rfl, o1, o2, o3⟩ := h
  have e1 := o1.one
  have e2 := o2.one
  simp [txCs, e1, e2]; exact ⟨rfl, rfl⟩
def cutLong (z : Small) : Small := { z with long := UInt8.ofNat (z.long.toNat % 4) }
end Go.Proofs.YtilhlcnekkkajaaGreat
end
section
namespace Go.K
open Go
inductive Path (l : List Ent) : Nat → Nat → Prop
  | one {i j : Nat} : i < l.length → j < l.length → hangE l i j = true → Path l i j
  | snoc {i k j : Nat} : Path l i k → k < l.length → j < l.length → hangE l k j = true → Path l i j
variable {l : List Ent}
theorem Path.lt {i j : Nat} (h : Path l i j) : i < l.length := by
  induction h with
  | one h _ _ => exact h
  | snoc _ _ _ _ ih => exact ih
theorem Path.cons {i k j : Nat} (hi : i < l.length) (h : hangE l i k = true) (hp : Path l k j) : Path l i j := by
  induction hp with
  | one h1 h2 h3 => exact (Path.one hi h1 h).snoc h1 h2 h3
  | snoc _ h2 h3 h4 ih => exact ih.snoc h2 h3 h4
theorem Path.trans {i k j : Nat} (h1 : Path l i k) (h2 : Path l k j) : Path l i j := by
  induction h2 with
  | one g1 g2 g3 => exact h1.snoc g1 g2 g3
  | snoc _ g2 g3 g4 ih => exact ih.snoc g2 g3 g4
def aboveS (l : List Ent) (t : Tx) (j : Nat) : Bool := stepR (fun i => hangs t (entD l i)) (hangE l) l.length l.length j
def belowS (l : List Ent) (id : ByteArray) (j : Nat) : Bool := stepR (fun i => decide ((i : Int) = findI l id)) (fun k i => hangE l i k) l.length l.length j
theorem findI_at {j : Nat} (hn : (l.map (·.id)).Nodup) (hj : j < l.length) : findI l l[j].id = j := by
  unfold findI
  exact idxOf_hit hj (decide_eq_true rfl) (fun i hi => decide_eq_false fun e => by
    have := entD_inj hn (show i < l.length by omega) hj (by rw [entD_get (by omega), entD_get hj]; exact e)
    omega)
theorem belowS_iff {i j : Nat} (hn : (l.map (·.id)).Nodup) (hi : i < l.length) (hj : j < l.length) : belowS l l[j].id i = true ↔ i = j ∨ Path l i j := by
  have hf := findI_at hn hj
  constructor
  · intro h
    refine stepR_least (p := fun i => i = j ∨ Path l i j) (fun k hk h => .inl ?_) (fun k m hk hm h1 h2 => .inr ?_) _ _ hi h
    · have := of_decide_eq_true h; rw [hf] at this; omega
    · rcases h1 with rfl | h1
      · exact .one hm hk h2
      · exact Path.cons hm h2 h1
  · have h0 : belowS l l[j].id j = true := stepR_base hj (decide_eq_true hf.symm)
    rintro (rfl | h)
    · exact h0
    · have : ∀ {a m : Nat}, Path l a m → belowS l l[j].id m = true → belowS l l[j].id a = true := fun {a m} hp => by
        induction hp with
        | one g1 g2 g3 => exact fun h => stepR_closed (k := _) g1 g2 h g3
        | snoc h1 g2 g3 g4 ih => exact fun h => ih (stepR_closed (k := _) g2 g3 h g4)
      exact this h h0
theorem mem_mask : ∀ {l : List Ent} {m : List Bool} {s : ByteArray}, s ∈ idsOf l m ↔ ∃ i, ∃ h : i < l.length, m[i]? = some true ∧ l[i].id = s
  | [], m, s => by
    have : idsOf [] m = [] := by cases m <;> rfl
    rw [this]; simp
  | x :: l, [], s => by
    have : idsOf (x :: l) [] = [] := rfl
    rw [this]; simp
  | x :: l, b :: m, s => by
    have e : idsOf (x :: l) (b :: m) = if b then x.id :: idsOf l m else idsOf l m := rfl
    rw [e]
    constructor
    · intro h
      by_cases hb : b = true
      · rw [if_pos hb] at h
        rcases List.mem_cons.1 h with h | h
        · exact ⟨0, by simp, by simp [hb], by simp [h]⟩
        · obtain ⟨i, hi, h1, h2⟩ := mem_mask.1 h
          exact ⟨i + 1, by simp; omega, by simpa using h1, by simpa using h2⟩
      · rw [if_neg hb] at h
        obtain ⟨i, hi, h1, h2⟩ := mem_mask.1 h
        exact ⟨i + 1, by simp; omega, by simpa using h1, by simpa using h2⟩
    · rintro ⟨i, hi, h1, h2⟩
      cases i with
      | zero =>
        simp at h1 h2
        rw [if_pos h1, h2]; simp
      | succ i =>
        have h3 : s ∈ idsOf l m := mem_mask.2 ⟨i, by simpa using hi, by simpa using h1, by simpa using h2⟩
        split
        · exact List.mem_cons_of_mem _ h3
        · exact h3
theorem mem_reach {p : Nat → Bool} {j : Nat} (hn : (l.map (·.id)).Nodup) (hj : j < l.length) : l[j].id ∈ idsOf l ((List.range l.length).map p) ↔ p j = true := by
  rw [mem_mask]
  constructor
  · rintro ⟨i, hi, h1, h2⟩
    have := entD_inj hn hi hj (by rw [entD_get hi, entD_get hj]; exact h2)
    subst this
    simpa [hi] using h1
  · intro h
    exact ⟨j, hj, by simp [hj, h], rfl⟩
def inS (ids : List ByteArray) (s : ByteArray) : Bool := ids.any fun x => decide (s = x)
theorem inS_iff {ids : List ByteArray} {s : ByteArray} : inS ids s = true ↔ s ∈ ids := by
  unfold inS
  rw [List.any_eq_true]
  exact ⟨fun ⟨y, h1, h2⟩ => by rw [of_decide_eq_true h2]; exact h1, fun h => ⟨s, h, decide_eq_true rfl⟩⟩
theorem both_self {i : Nat} (hn : (l.map (·.id)).Nodup) (hi : i < l.length) : inS (idsOf l (belowL l l[i].id)) l[i].id = true := by
  have h2 : l[i].id ∈ idsOf l (belowL l l[i].id) ↔ belowS l l[i].id i = true := mem_reach hn hi
  rw [inS_iff, h2, belowS_iff hn hi hi]
  exact .inl rfl
end Go.K
end
section
namespace Go.K
open Go
abbrev getG (l : List Ent) (id : ByteArray) : Ent := (l.find? fun x => decide (x.id = id)).getD default
def inB (l : List ByteArray) (x : ByteArray) : Bool := l.any fun y => decide (y = x)
theorem inB_iff {l : List ByteArray} {x : ByteArray} : inB l x = true ↔ x ∈ l := by
  unfold inB
  rw [List.any_eq_true]
  exact ⟨fun ⟨y, h1, h2⟩ => by rw [← of_decide_eq_true h2]; exact h1, fun h => ⟨x, h, decide_eq_true rfl⟩⟩
def dist : List ByteArray → List ByteArray
  | [] => []
  | x :: l => x :: (dist l).filter fun y => decide (y ≠ x)
def feeD (l : List Ent) (ids : List ByteArray) : Int := ((dist ids).map fun s => (getG l s).fee).sum
def sizeD (l : List Ent) (ids : List ByteArray) : Int := ((dist ids).map fun s => (getG l s).size).sum
theorem dist_snoc (xs : List ByteArray) (x : ByteArray) : dist (xs ++ [x]) = if inB xs x then dist xs else dist xs ++ [x] := by
  induction xs with
  | nil => rfl
  | cons a xs ih =>
    rw [List.cons_append, dist, ih]
    have e : inB (a :: xs) x = (decide (a = x) || inB xs x) := rfl
    by_cases h : inB xs x = true
    · rw [if_pos h, e, h, Bool.or_true, if_pos rfl, dist]
    · rw [if_neg h, e]
      simp only [Bool.not_eq_true] at h
      rw [h, Bool.or_false, List.filter_append]
      by_cases h2 : a = x
      · subst h2; simp [dist]
      · have h3 : x ≠ a := fun e => h2 e.symm
        simp [dist, h2, h3]
theorem dist_length (ids : List ByteArray) : (dist ids).length ≤ ids.length := by
  induction ids with
  | nil => exact Nat.le_refl _
  | cons x l ih =>
    rw [dist, List.length_cons, List.length_cons]
    have := List.length_filter_le (fun y => decide (y ≠ x)) (dist l)
    omega
theorem feeD_take {l : List Ent} {ids : List ByteArray} {i : Nat} (h : i < ids.length) : feeD l (ids.take (i + 1)) = if inB (ids.take i) ids[i] then feeD l (ids.take i) else feeD l (ids.take i) + (getG l ids[i]).fee := by
  unfold feeD
  rw [List.take_succ_eq_append_getElem h, dist_snoc]
  by_cases h2 : inB (ids.take i) ids[i] = true
  · rw [if_pos h2, if_pos h2]
  · rw [if_neg h2, if_neg h2]; simp
theorem sizeD_take {l : List Ent} {ids : List ByteArray} {i : Nat} (h : i < ids.length) : sizeD l (ids.take (i + 1)) = if inB (ids.take i) ids[i] then sizeD l (ids.take i) else sizeD l (ids.take i) + (getG l ids[i]).size := by
  unfold sizeD
  rw [List.take_succ_eq_append_getElem h, dist_snoc]
  by_cases h2 : inB (ids.take i) ids[i] = true
  · rw [if_pos h2, if_pos h2]
  · rw [if_neg h2, if_neg h2]; simp
theorem getG_ok {l : List Ent} (hl : ∀ x ∈ l, goodB x.fee = true ∧ 0 ≤ x.size ∧ x.size ≤ 100000000000) (s : ByteArray) : (0 ≤ (getG l s).fee ∧ (getG l s).fee ≤ 2100000000000000) ∧ 0 ≤ (getG l s).size ∧ (getG l s).size ≤ 100000000000 := by
  unfold getG
  cases h : l.find? fun x => decide (x.id = s) with
  | none => exact ⟨⟨Int.le_refl _, by show (0 : Int) ≤ _; omega⟩, Int.le_refl _, by show (0 : Int) ≤ _; omega⟩
  | some y =>
    have hy := hl y (List.mem_of_find?_eq_some h)
    exact ⟨(goodB_iff _).1 hy.1, hy.2⟩
theorem sum_bound {α : Type} {f : α → Int} {c : Nat} (hf : ∀ x, 0 ≤ f x ∧ f x ≤ c) : ∀ l : List α, 0 ≤ (l.map f).sum ∧ (l.map f).sum ≤ c * l.length
  | [] => by simp
  | x :: l => by
    have h1 := sum_bound hf l
    have h2 := hf x
    rw [List.map_cons, List.sum_cons, List.length_cons, Int.natCast_add, Int.mul_add]
    omega
theorem feeD_bound {l : List Ent} (hl : ∀ x ∈ l, goodB x.fee = true ∧ 0 ≤ x.size ∧ x.size ≤ 100000000000) {ids : List ByteArray} (hn : ids.length ≤ 4000) : (0 ≤ feeD l ids ∧ feeD l ids ≤ 8400000000000000000) ∧ 0 ≤ sizeD l ids ∧ sizeD l ids ≤ 400000000000000 := by
  have h1 := sum_bound (c := 2100000000000000) (fun s => (getG_ok hl s).1) (dist ids)
  have h2 := sum_bound (c := 100000000000) (fun s => (getG_ok hl s).2) (dist ids)
  have h3 := dist_length ids
  unfold feeD sizeD
  omega
theorem dist_nodup {ids : List ByteArray} (h : ids.Nodup) : dist ids = ids := by
  induction ids with
  | nil => rfl
  | cons x l ih =>
    rw [List.nodup_cons] at h
    rw [dist, ih h.2, List.filter_eq_self.2 fun y hy => decide_eq_true (show y ≠ x from fun e => h.1 (by rw [← e]; exact hy))]
theorem idsOf_sub : ∀ (l : List Ent) (m : List Bool), (idsOf l m).Sublist (l.map (·.id))
  | [], m => by cases m <;> exact List.Sublist.slnil
  | x :: l, [] => by show ([] : List ByteArray).Sublist _; exact List.nil_sublist _
  | x :: l, b :: m => by
    rw [idsOf, List.map_cons]
    cases b
    · exact (idsOf_sub l m).cons _
    · exact (idsOf_sub l m).cons_cons _
theorem getG_tail {x : Ent} {l : List Ent} (h : x.id ∉ l.map (·.id)) {s : ByteArray} (hs : s ∈ l.map (·.id)) : getG (x :: l) s = getG l s := by
  unfold getG
  rw [List.find?_cons_of_neg (by
    have : x.id ≠ s := fun e => h (by rw [e]; exact hs)
    simpa using this)]
theorem sums_mask : ∀ {l : List Ent} (_ : (l.map (·.id)).Nodup) (m : List Bool), ((idsOf l m).map fun s => (getG l s).fee).sum = feeOf l m ∧ ((idsOf l m).map fun s => (getG l s).size).sum = szOf l m
  | [], _, m => by cases m <;> exact ⟨rfl, rfl⟩
  | x :: l, _, [] => ⟨rfl, rfl⟩
  | x :: l, h, b :: m => by
    rw [List.map_cons, List.nodup_cons] at h
    have ih := sums_mask h.2 m
    have h0 : getG (x :: l) x.id = x := by unfold getG; rw [List.find?_cons_of_pos (by simp)]; rfl
    have h1 : ∀ s ∈ idsOf l m, getG (x :: l) s = getG l s := fun s hs => getG_tail h.1 ((idsOf_sub l m).subset hs)
    have e1 : ((idsOf l m).map fun s => (getG (x :: l) s).fee) = (idsOf l m).map fun s => (getG l s).fee := List.map_congr_left fun s hs => by rw [h1 s hs]
    have e2 : ((idsOf l m).map fun s => (getG (x :: l) s).size) = (idsOf l m).map fun s => (getG l s).size := List.map_congr_left fun s hs => by rw [h1 s hs]
    cases b
    · simp only [idsOf, feeOf, szOf, Bool.false_eq_true, if_false]
      constructor
      · rw [← ih.1, ← e1]; simp
      · rw [← ih.2, ← e2]; simp
    · simp only [idsOf, feeOf, szOf, if_true]
      simp only [List.singleton_append, List.map_cons, List.sum_cons, h0, e1, e2, ih.1, ih.2]
      exact ⟨trivial, trivial⟩
end Go.K
end
section
namespace Go.K
open Go
def cntB : List Bool → Int
  | [] => 0
  | b :: m => (if b then 1 else 0) + cntB m
/-- Some ids, and so much more, within a count and a size. -/
def wiP (l : List Ent) (ids : List ByteArray) (more count size : Int) : Bool := decide ((ids.length : Int) + 1 ≤ count) && decide (sizeD l ids + more ≤ size)
def hoP (l : List Ent) (line : List ByteArray) (more count size : Int) : Bool := line.all fun s => wiP l (idsOf l (belowL l s)) more count size
def fitsL (l : List Ent) (t : Tx) : Int :=
  if checkT t ≠ 0 then checkT t
  else if wiP l (idsOf l (aboveL l t)) (sizeT t : Nat) 25 101000 = false then 14
  else if hoP l (idsOf l (aboveL l t)) (sizeT t : Nat) 25 101000 then 0
  else if ((idsOf l (aboveL l t)).length : Int) = 1 ∧ ((sizeT t : Nat) : Int) ≤ 10000 ∧ hoP l (idsOf l (aboveL l t)) (sizeT t : Nat) 26 111000 = true then 0 else 14
end Go.K
end
section
namespace Go.Proofs.YtilhlcnekkkajaaGreat
open Go Go.K
attribute [local irreducible] regK codeK retK KOp.wp K.Spec u32 leS vnS str zero32 sha2 encT idT sizeT checkT grantB idN stepR workL reachE

theorem get_nil (id : ByteArray) (w : World) : K.Spec Tryz.prog F.graph_Graph_Get [.pointer none, .string id] w fun r w' => r = .tuple #[.agg zEnt.toArray, .bool false] ∧ Ext w w' := by
  refine s_graph_Graph_Get rfl ?_
  unfold k_graph_Graph_Get
  refine oy ?_
  repeat' (first|(first|refine go1 ?_|refine zg (fun _ _=>?_)|refine zi (fun _ _=>?_))|(refine zH (fun b4 w4 x4 a4 hb4 => ?_))|(refine st_build (cs := zEnt) rfl ?_)|(refine st_setN (w0 := w) (vs := zEnt) (by exact fx) (by omega) (by focus (repeat (first | assumption | (apply At.ext; assumption)))) rfl rfl rfl rfl rfl (fun w9 x9 c9 a9 r9 => ?_)))
  exact x_ret (ret2 (rv_cell r9 rfl rfl) rv_tmp) ⟨rfl, x9⟩
theorem all_nil (w : World) : K.Spec Tryz.prog F.graph_Graph_All [.pointer none] w fun r w' => r = .slice none 0 0 ∧ Ext w w' := by
  refine s_graph_Graph_All rfl ?_
  unfold k_graph_Graph_All
  refine oy ?_
  repeat' (first|(first|refine go1 ?_|refine zg (fun _ _=>?_)|refine zi (fun _ _=>?_))|(first|refine zD rfl rfl (fun bp wp xp ap rp hp0=>?_)|refine zE (fun _=>rfl) rfl rfl rfl (fun bq wq xq aq rq hq0=>?_)))
  exact x_ret rfl ⟨rfl, by exact fx⟩
theorem sum_nil {v : Value} {ids : List ByteArray} (w : World) (hi : SlE strE w v ids) (hn : ids.length ≤ 1) : K.Spec Tryz.prog F.graph_Graph_Sum [.pointer none, v] w fun r w' => r = .tuple #[.int .i64 0, .int .i64 0] ∧ Ext w w' := by
  refine s_graph_Graph_Sum rfl ?_
  unfold k_graph_Graph_Sum
  refine oy ?_
  repeat' (first|(first|refine go1 ?_|refine zg (fun _ _=>?_)|refine zi (fun _ _=>?_))|refine zL rfl (fun h => ?_) (fun h => ?_)|(refine st_makeMap (E := sK) (fv := fun n : Nat => Value.int .i64 (n : Nat)) (fun bm w1 x1 m1 hb1 => ?_); have lm := m1.lt)|(refine st_len rfl (SlE.ext (w := w) (by exact fx) hi) ?_)|(refine c_loopV (fun (p : Nat) w' => Ext w w' ∧ p ≤ ids.length ∧ (p = 0 → MapE sK (fun n : Nat => Value.int .i64 (n : Nat)) w' bm [])) (fun p => [(0, .pointer none), (6, .int .i64 0), (7, .int .i64 0), (8, .map (some bm)), (14, v), (15, .int .i64 (ids.length : Nat)), (16, .int .i64 (p : Nat))]) (fun p => ids.length - p) 0 ⟨rfl, rfl, rfl, rfl, rfl, rfl, rfl, trivial⟩ ⟨x1, by simp, fun _ => m1⟩ ?_; rintro i ρ w3 ⟨x3, hi3, hm⟩))
  · have hi0 : i = 0 := by omega
    subst hi0
    have hil : 0 < ids.length := by omega
    have hm := hm rfl
    refine st_elemE rfl rfl (n := 0) (l := ids) (hi.ext x3) rfl hil (fun ad r5 => ?_)
    have r5 : Row w3 ad [Value.string ids[0]] := r5
    repeat' (first|(first|refine go1 ?_|refine zg (fun _ _=>?_)|refine zi (fun _ _=>?_))|(refine st_lookup (d := some 22) (E := sK) (fv := fun n : Nat => Value.int .i64 (n : Nat)) (k := ids[0]) rfl rfl hm rfl rfl (fun c hcc => by simp [aget] at hcc) (fun hcn => ?_))|(refine st_mapUpdate (E := sK) (fv := fun n : Nat => Value.int .i64 (n : Nat)) (k := ids[0]) (v := 1) rfl rfl rfl hm rfl rfl (fun w4 c4 m4 => ?_); have x4 : Ext w w4 := (Ext.chg x3 c4).mono (by intro y hy; simp at hy; right; omega); clear x3)|(refine st_lookup (d := some 26) (E := sK) (fv := fun n : Nat => Value.int .i64 (n : Nat)) (k := ids[0]) rfl rfl m4 rfl rfl (fun c hcc => ?_) (fun hcn => by rw [aget_set', if_pos rfl] at hcn; cases hcn); rw [aget_set', if_pos rfl] at hcc; injection hcc with hcc; subst hcc)|(refine zL rfl (fun h9 => absurd h9 (by decide)) (fun h9 => ?_))|(refine zC rfl (get_nil ids[0] _) ?_; rintro _ w5 ⟨rfl, x5⟩)|(refine zE (d' := 11) (fun _=>rfl) rfl rfl rfl (fun b6 w6 x6 a6 (r6 : Row w6 ⟨b6, 0, none⟩ zEnt) hb6=>?_)))
    exact ⟨1, ⟨rfl, rfl, rfl, rfl, rfl, rfl, rfl, trivial⟩, ⟨by exact fx, by omega, fun h => by omega⟩, by omega⟩
  · exact x_ret rfl ⟨rfl, x3⟩
end Go.Proofs.YtilhlcnekkkajaaGreat
end
section
namespace Go.K
open Go
variable {l : List Ent} {s : ByteArray}
theorem belowL_len (l : List Ent) (s : ByteArray) : l.length = (belowL l s).length := (reachL_length _ _ _).symm
theorem ids_no : ∀ {l : List Ent} {m : List Bool}, (∀ b ∈ m, b = false) → idsOf l m = []
  | [], m, _ => by cases m <;> rfl
  | _ :: _, [], _ => rfl
  | x :: l, b :: m, h => by
    have hb := h b (by simp)
    subst hb
    exact ids_no (l := l) (m := m) fun b hb => h b (by simp [hb])
end Go.K
end
section
namespace Go.K
open Go
end Go.K
end
section
namespace Go.K
open Go
def upI (q j : Nat) : Nat := if j < q then j else j + 1
def dnI (q i : Nat) : Nat := if i < q then i else i - 1
theorem upI_dn {q i : Nat} (h : i ≠ q) : upI q (dnI q i) = i := by unfold upI dnI; split <;> (try split) <;> omega
theorem upI_lt {q j n : Nat} (h : j < n - 1) : upI q j < n := by unfold upI; split <;> omega
theorem dnI_lt {q i n : Nat} (hi : i < n) (hq : q < n) (h : i ≠ q) : dnI q i < n - 1 := by unfold dnI; split <;> omega
/-- Without one from which nothing else is reached, all else is reached as before. -/
theorem reach_less {base base' : Nat → Bool} {edge edge' : Nat → Nat → Bool} {n q : Nat} (hq : q < n) (hb : ∀ j, j < n - 1 → base' j = base (upI q j)) (he : ∀ k j, k < n - 1 → j < n - 1 → edge' k j = edge (upI q k) (upI q j))
    (ho : ∀ i, i < n → i ≠ q → stepR base edge n n q = true → edge q i = false) {j : Nat} (hj : j < n - 1) : stepR base' edge' (n - 1) (n - 1) j = stepR base edge n n (upI q j) := by
  rw [Bool.eq_iff_iff]
  constructor
  · intro h
    refine stepR_least (p := fun j => stepR base edge n n (upI q j) = true) (fun i hi h => ?_) (fun k i hk hi h1 h2 => ?_) _ _ hj h
    · exact stepR_base (upI_lt hi) (by rw [← hb i hi]; exact h)
    · exact stepR_closed (upI_lt hi) (upI_lt hk) h1 (by rw [← he k i hk hi]; exact h2)
  · intro h
    have := stepR_least (base := base) (edge := edge) (n := n) (p := fun i => stepR base edge n n i = true ∧ (i ≠ q → stepR base' edge' (n - 1) (n - 1) (dnI q i) = true)) (fun i hi h => ⟨stepR_base hi h, fun hne => ?_⟩) (fun k i hk hi h1 h2 => ⟨stepR_closed hi hk h1.1 h2, fun hne => ?_⟩) _ _ (upI_lt hj) h
    · have h1 := this.2 (by unfold upI; split <;> omega)
      have e : dnI q (upI q j) = j := by unfold dnI upI; split <;> (try split) <;> omega
      rwa [e] at h1
    · have hl := dnI_lt hi hq hne
      exact stepR_base hl (by rw [hb _ hl, upI_dn hne]; exact h)
    · by_cases hkq : k = q
      · subst hkq
        rw [ho i hi hne h1.1] at h2; cases h2
      · have hl := dnI_lt hi hq hne
        have hl2 := dnI_lt hk hq hkq
        exact stepR_closed hl hl2 (h1.2 hkq) (by rw [he _ _ hl2 hl, upI_dn hne, upI_dn hkq]; exact h2)
theorem reachL_less {base base' : Nat → Bool} {edge edge' : Nat → Nat → Bool} {n q : Nat} (hq : q < n) (hb : ∀ j, j < n - 1 → base' j = base (upI q j)) (he : ∀ k j, k < n - 1 → j < n - 1 → edge' k j = edge (upI q k) (upI q j))
    (ho : ∀ i, i < n → i ≠ q → stepR base edge n n q = true → edge q i = false) : reachL base' edge' (n - 1) = (reachL base edge n).eraseIdx q := by
  apply List.ext_getElem
  · rw [reachL_length, List.length_eraseIdx, reachL_length, if_pos hq]
  · intro j h1 h2
    rw [reachL_length] at h1
    have e := reach_less hq hb he ho h1
    rw [List.getElem_eraseIdx]
    simp only [reachL, List.getElem_map, List.getElem_range]
    rw [e]
    unfold upI
    split <;> rfl
theorem idsOf_erase : ∀ {l : List Ent} {m : List Bool} {q : Nat} (_ : q < l.length) (h : q < m.length), m[q] = false → idsOf (l.eraseIdx q) (m.eraseIdx q) = idsOf l m
  | x :: l, b :: m, 0, _, _, hb => by simp only [List.getElem_cons_zero] at hb; subst hb; simp [idsOf]
  | x :: l, b :: m, q + 1, hl, h, hb => by
    have := idsOf_erase (l := l) (m := m) (q := q) (by simpa using hl) (by simpa using h) (by simpa using hb)
    simp only [List.eraseIdx_cons_succ, idsOf, this]
theorem entD_erase {l : List Ent} {q j : Nat} (h : j < l.length - 1) : entD (l.eraseIdx q) j = entD l (upI q j) := by
  unfold entD
  rw [List.getD_eq_getElem?_getD, List.getD_eq_getElem?_getD, List.getElem?_eraseIdx]
  unfold upI
  split <;> rfl
end Go.K
end
section
namespace Go.K
open Go
def pricedB (f s : Int) : Bool := goodB f && decide (1 ≤ s ∧ s ≤ 1000000)
def cmpR (f s o i : Int) : Int := if pricedB f s && pricedB o i then (if f * i < o * s then -1 else if o * s < f * i then 1 else 0) else 0
def rateR (f s : Int) : Int := if pricedB f s then f * 1000 / s else 0
def scoreL (l : List Ent) (x : Ent) : Int × Int :=
  if cmpR (feeOf l (belowL l x.id)) (szOf l (belowL l x.id)) x.fee x.size > 0 then (feeOf l (belowL l x.id), szOf l (belowL l x.id)) else (x.fee, x.size)
def worstI (l : List Ent) : Nat → Int
  | 0 => -1
  | i + 1 => if worstI l i < 0 ∨ cmpR (scoreL l (entD l i)).1 (scoreL l (entD l i)).2 (scoreL l (entD l (worstI l i).toNat)).1 (scoreL l (entD l (worstI l i).toNat)).2 ≤ 0 then i else worstI l i
theorem worstI_lt (l : List Ent) : ∀ i, -1 ≤ worstI l i ∧ worstI l i < i ∧ (0 < i → 0 ≤ worstI l i)
  | 0 => ⟨by rw [worstI]; omega, by rw [worstI]; omega, by omega⟩
  | i + 1 => by
    have ih := worstI_lt l i
    rw [worstI]
    split
    · refine ⟨?_, ?_, ?_⟩ <;> omega
    · rename_i h
      refine ⟨?_, ?_, ?_⟩ <;> omega
def sizeL (l : List Ent) : Int := (l.map (·.size)).sum
def leftL : List Ent → List Bool → List Ent
  | x :: l, b :: m => if b then leftL l m else x :: leftL l m
  | l, _ => l
theorem leftL_sub : ∀ (l : List Ent) (m : List Bool), (leftL l m).Sublist l
  | [], [] => List.Sublist.slnil
  | [], _ :: _ => List.Sublist.slnil
  | _ :: _, [] => List.Sublist.refl _
  | x :: l, b :: m => by
    rw [leftL]
    cases b
    · exact (leftL_sub l m).cons_cons _
    · exact (leftL_sub l m).cons _
theorem leftL_len : ∀ (l : List Ent) (m : List Bool), (leftL l m).length + (idsOf l m).length = l.length
  | [], [] => rfl
  | [], _ :: _ => rfl
  | _ :: _, [] => rfl
  | x :: l, b :: m => by
    have := leftL_len l m
    rw [leftL, idsOf, List.length_cons]
    cases b
    · simp only [Bool.false_eq_true, if_false, List.length_cons]; omega
    · simp only [if_true, List.length_cons]; omega
theorem leftL_or : ∀ (l : List Ent) (m : List Bool) {x : Ent}, x ∈ l → x ∈ leftL l m ∨ x.id ∈ idsOf l m
  | [], _, _, h => by cases h
  | _ :: _, [], _, h => .inl h
  | y :: l, b :: m, x, h => by
    rw [leftL, idsOf]
    rcases List.mem_cons.1 h with rfl | h
    · cases b <;> simp
    · rcases leftL_or l m h with h | h <;> cases b <;> simp [h]
theorem leftL_not : ∀ (l : List Ent) (m : List Bool) {x : Ent}, (l.map (·.id)).Nodup → x ∈ leftL l m → x.id ∉ idsOf l m
  | [], m, _, _, h => by cases m <;> cases h
  | _ :: _, [], _, _, _ => by simp [idsOf]
  | y :: l, b :: m, x, hn, h => by
    rw [List.map_cons, List.nodup_cons] at hn
    rw [leftL] at h
    rw [idsOf]
    cases b
    · simp only [Bool.false_eq_true, if_false] at h ⊢
      rcases List.mem_cons.1 h with rfl | h
      · exact fun e => hn.1 ((idsOf_sub l m).subset e)
      · exact leftL_not l m hn.2 h
    · simp only [if_true] at h ⊢
      intro e
      rcases List.mem_cons.1 e with e | e
      · exact hn.1 (by rw [← e]; exact List.mem_map_of_mem ((leftL_sub l m).subset h))
      · exact leftL_not l m hn.2 h e
theorem findI_cons_eq {x : Ent} {l : List Ent} : findI (x :: l) x.id = 0 := by
  unfold findI
  exact idxOf_hit (i := 0) (by simp) (decide_eq_true rfl) (fun j hj => by omega)
theorem findI_cons_ne {x : Ent} {l : List Ent} {s : ByteArray} (h : x.id ≠ s) : findI (x :: l) s = if findI l s < 0 then -1 else findI l s + 1 := by
  unfold findI idxOf
  rw [List.findIdx?_cons, if_neg (by simpa using h)]
  cases l.findIdx? fun x => decide (x.id = s) with
  | none => rfl
  | some i => simp; omega
theorem dropG_cons_eq {x : Ent} {l : List Ent} : (dropG (x :: l) x.id).1 = l := by
  unfold dropG
  rw [findI_cons_eq, if_neg (by omega)]; rfl
theorem dropG_cons_ne {x : Ent} {l : List Ent} {s : ByteArray} (h : x.id ≠ s) : (dropG (x :: l) s).1 = x :: (dropG l s).1 := by
  unfold dropG
  rw [findI_cons_ne h]
  by_cases h1 : findI l s < 0
  · rw [if_pos h1, if_pos h1, if_pos (by omega)]
  · rw [if_neg h1, if_neg h1, if_neg (by omega)]
    have : (findI l s + 1).toNat = (findI l s).toNat + 1 := by omega
    rw [this]; rfl
def dropAll (l : List Ent) (ids : List ByteArray) : List Ent := ids.foldl (fun l s => (dropG l s).1) l
theorem dropAll_succ {l : List Ent} {ids : List ByteArray} {i : Nat} (h : i < ids.length) : dropAll l (ids.take (i + 1)) = (dropG (dropAll l (ids.take i)) ids[i]).1 := by
  unfold dropAll
  rw [List.take_succ_eq_append_getElem h, List.foldl_append]; rfl
theorem dropAll_cons : ∀ (ids : List ByteArray) {x : Ent} {l : List Ent}, x.id ∉ ids → dropAll (x :: l) ids = x :: dropAll l ids
  | [], _, _, _ => rfl
  | s :: ids, x, l, h => by
    simp only [List.mem_cons, not_or] at h
    show dropAll (dropG (x :: l) s).1 ids = x :: dropAll (dropG l s).1 ids
    rw [dropG_cons_ne h.1, dropAll_cons ids h.2]
theorem dropAll_left : ∀ (l : List Ent) (m : List Bool), (l.map (·.id)).Nodup → dropAll l (idsOf l m) = leftL l m
  | [], [], _ => rfl
  | [], _ :: _, _ => rfl
  | _ :: _, [], _ => rfl
  | x :: l, b :: m, hn => by
    rw [List.map_cons, List.nodup_cons] at hn
    have ih := dropAll_left l m hn.2
    rw [idsOf, leftL]
    cases b
    · simp only [Bool.false_eq_true, if_false]
      rw [dropAll_cons _ (fun e => hn.1 ((idsOf_sub l m).subset e)), ih]
    · simp only [if_true]
      show dropAll (dropG (x :: l) x.id).1 (idsOf l m) = _
      rw [dropG_cons_eq, ih]
def worstE (l : List Ent) : Ent := entD l (worstI l l.length).toNat
def wMask (l : List Ent) : List Bool := belowL l (worstE l).id
def askR (p : Int × Int) : Int := min (rateR p.1 p.2 + 1000) 100000000
theorem rateR_nonneg (f s : Int) : 0 ≤ rateR f s := by
  unfold rateR pricedB
  split
  · rename_i h
    rw [Bool.and_eq_true, goodB_iff, decide_eq_true_eq] at h
    exact Int.ediv_nonneg (by omega) (by omega)
  · omega
theorem askR_pos (p : Int × Int) : 1 ≤ askR p ∧ askR p ≤ 100000000 := by
  have := rateR_nonneg p.1 p.2
  unfold askR; omega
theorem worst_lt {l : List Ent} (h : 0 < l.length) : (worstI l l.length).toNat < l.length := by
  have := worstI_lt l l.length
  omega
theorem worst_in {l : List Ent} (hn : (l.map (·.id)).Nodup) (h : 0 < l.length) : (worstE l).id ∈ idsOf l (wMask l) := by
  unfold wMask worstE
  rw [entD_get (worst_lt h)]
  exact inS_iff.1 (both_self hn (worst_lt h))
theorem left_less {l : List Ent} (hn : (l.map (·.id)).Nodup) (h : 0 < l.length) : (leftL l (wMask l)).length < l.length := by
  have h1 := leftL_len l (wMask l)
  have h2 := List.length_pos_of_mem (worst_in hn h)
  omega
def trimF : Nat → Int → List Ent → List Ent × List ByteArray × Int
  | 0, _, l => (l, [], 0)
  | k + 1, m, l => if l.length = 0 ∨ sizeL l ≤ m then (l, [], 0) else
    ((trimF k m (leftL l (wMask l))).1, idsOf l (wMask l) ++ (trimF k m (leftL l (wMask l))).2.1, max (askR (scoreL l (worstE l))) (trimF k m (leftL l (wMask l))).2.2)
def trimL (m : Int) (l : List Ent) : List Ent × List ByteArray × Int := trimF l.length m l
theorem left_nodup {l : List Ent} (hn : (l.map (·.id)).Nodup) (m : List Bool) : ((leftL l m).map (·.id)).Nodup := ((leftL_sub l m).map _).nodup hn
theorem trimF_fuel (m : Int) : ∀ (k : Nat) (l : List Ent), (l.map (·.id)).Nodup → l.length ≤ k → trimF k m l = trimL m l := by
  intro k
  induction k using Nat.strongRecOn with
  | _ k ih =>
    intro l hn hk
    unfold trimL
    cases h : l.length with
    | zero =>
      cases k with
      | zero => rfl
      | succ k => rw [trimF, trimF, if_pos (.inl h)]
    | succ j =>
      cases k with
      | zero => omega
      | succ k =>
        rw [trimF, trimF]
        have h1 := left_less hn (by omega)
        have h2 := left_nodup hn (wMask l)
        rw [ih k (by omega) _ h2 (by omega), ih j (by omega) _ h2 (by omega)]
theorem trimL_stop {m : Int} {l : List Ent} (h : l.length = 0 ∨ sizeL l ≤ m) : trimL m l = (l, [], 0) := by
  unfold trimL
  cases e : l.length with
  | zero => rfl
  | succ j => rw [trimF, if_pos h]
theorem trimL_step {m : Int} {l : List Ent} (hn : (l.map (·.id)).Nodup) (h : ¬ (l.length = 0 ∨ sizeL l ≤ m)) :
    trimL m l = ((trimL m (leftL l (wMask l))).1, idsOf l (wMask l) ++ (trimL m (leftL l (wMask l))).2.1, max (askR (scoreL l (worstE l))) (trimL m (leftL l (wMask l))).2.2) := by
  have h1 := left_less hn (by omega)
  have h3 : trimL m l = trimF l.length m l := rfl
  rw [h3]
  cases e : l.length with
  | zero => omega
  | succ j =>
    rw [trimF, if_neg h, trimF_fuel m j _ (left_nodup hn _) (by omega)]
theorem trim_ind {P : List Ent → Prop} (m : Int) (stop : ∀ l, l.length = 0 ∨ sizeL l ≤ m → P l) (step : ∀ l, (l.map (·.id)).Nodup → ¬ (l.length = 0 ∨ sizeL l ≤ m) → P (leftL l (wMask l)) → P l) (l : List Ent) (hn : (l.map (·.id)).Nodup) : P l := by
  generalize e : l.length = n
  induction n using Nat.strongRecOn generalizing l with
  | _ n ih =>
    by_cases h : l.length = 0 ∨ sizeL l ≤ m
    · exact stop l h
    · exact step l hn h (ih _ (by have := left_less hn (by omega); omega) _ (left_nodup hn _) rfl)
theorem trim_rate {m : Int} {l : List Ent} (hn : (l.map (·.id)).Nodup) : 0 ≤ (trimL m l).2.2 ∧ (trimL m l).2.2 ≤ 100000000 := by
  refine trim_ind (P := fun l => 0 ≤ (trimL m l).2.2 ∧ (trimL m l).2.2 ≤ 100000000) m (fun l h => ?_) (fun l hn h ih => ?_) l hn
  · rw [trimL_stop h]; simp
  · rw [trimL_step hn h]
    have := askR_pos (scoreL l (worstE l))
    simp only; omega
end Go.K
end
section
namespace Go.Proofs
open Go.Shelf
def Tryz.growS_ren : Go.Shelf.Ren := ⟨fun | 4 => 172 | n => n, fun | 22 => 40 | 25 => 9 | 3 => 3 | 4 => 4 | 9 => 9 | 20 => 20 | 0 => 0 | n => n, fun | n => n⟩
theorem Tryz.growS : Go.Proofs.Lays8.n4 Tryz.prog Tryz.growS_ren := {
  mixed := by kernel_rfl
  f4 := ⟨Tryz.f172.name, by decide, Tryz.func172.trans (congrArg some (by kernel_rfl))⟩
  t0 := Tryz.underlying0
  a0 := Tryz.isAgg0
  z0 := Tryz.sizeOf0
  v0 := Tryz.zeroValue0
  t3 := Tryz.underlying3
  a3 := Tryz.isAgg3
  z3 := Tryz.sizeOf3
  v3 := Tryz.zeroValue3
  t4 := Tryz.underlying4
  a4 := Tryz.isAgg4
  z4 := Tryz.sizeOf4
  v4 := Tryz.zeroValue4
  t9 := Tryz.underlying9
  a9 := Tryz.isAgg9
  z9 := Tryz.sizeOf9
  v9 := Tryz.zeroValue9
  t20 := Tryz.underlying20
  a20 := Tryz.isAgg20
  z20 := Tryz.sizeOf20
  v20 := Tryz.zeroValue20
  t22 := Tryz.underlying40
  a22 := Tryz.isAgg40
  z22 := Tryz.sizeOf40
  v22 := Tryz.zeroValue40 }
end Go.Proofs
end
