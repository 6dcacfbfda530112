/- Plain: what a graph tells is what the list tells. Contracts: what hangs on what, by the program. Plain: what is done to a graph, as it comes in. Contracts: the transaction of an act. The engine, part 13: what came in, read at its type. The engine, part 18: what came in, nested. What comes in for the laws of graphs. DERIVED: THE SHELF's CONTRACTS AT THIS DUMP, IN PLAIN WORDS (tools/lay-plain.mjs ou -/
import Derived.RowKit
import Derived.OpenShut
import Derived.Deep.Slices
import Derived.ChangeSame
import Derived.Test.YteggaepppahefaaGreatRows
import Derived.Test.YteggaepppahefaaGreatChecked
import Derived.ProofKit
import Derived.ShutString
import Derived.ChangeOld
import Derived.Below
import Derived.Shelf.Spec.SlicesGrow
import Derived.Test.YteggaepppahefaaGreatProg
import Derived.Test.YteggaepppahefaaGreatG26
import Derived.Test.YteggaepppahefaaGreatG30
set_option linter.unusedVariables false
set_option linter.unusedSimpArgs false
section
namespace Go.K
open Go
theorem stepR_congr {base base' : Nat → Bool} {edge edge' : Nat → Nat → Bool} {n : Nat} (hb : ∀ i, i < n → base i = base' i) (he : ∀ k i, k < n → i < n → edge k i = edge' k i) : ∀ (r i : Nat), i < n → stepR base edge n r i = stepR base' edge' n r i
  | 0, _, _ => rfl
  | r + 1, i, hi => by
    rw [Bool.eq_iff_iff, stepR_succ, stepR_succ, hb i hi]
    refine or_congr Iff.rfl ⟨fun ⟨k, h1, h2, h3⟩ => ⟨k, h1, ?_, ?_⟩, fun ⟨k, h1, h2, h3⟩ => ⟨k, h1, ?_, ?_⟩⟩
    · rw [← stepR_congr hb he r k h1]; exact h2
    · rw [← he k i h1 hi]; exact h3
    · rw [stepR_congr hb he r k h1]; exact h2
    · rw [he k i h1 hi]; exact h3
theorem reachL_congr {base base' : Nat → Bool} {edge edge' : Nat → Nat → Bool} {n : Nat} (hb : ∀ i, i < n → base i = base' i) (he : ∀ k i, k < n → i < n → edge k i = edge' k i) : reachL base edge n = reachL base' edge' n := by
  unfold reachL
  refine List.map_congr_left fun i hi => stepR_congr hb he n i (by simpa using hi)
theorem getE_get {l : List Ent} (hn : (l.map (·.id)).Nodup) {i : Nat} (hi : i < l.length) : (l.find? fun x => decide (x.id = l[i].id)) = some l[i] := by
  cases h : l.find? fun y => decide (y.id = l[i].id) with
  | none => exact absurd (List.find?_eq_none.1 h _ (List.getElem_mem hi)) (by simp)
  | some y =>
    have h1 := List.mem_of_find?_eq_some h
    have h2 : y.id = l[i].id := by simpa using List.find?_some h
    obtain ⟨j, hj, rfl⟩ := List.getElem_of_mem h1
    have := entD_inj hn hj hi (by rw [entD_get hj, entD_get hi]; exact h2)
    subst this; rfl
theorem spE_get {l : List Ent} (ha : l.Pairwise fun x y => ∀ p, spends x p = true → spends y p = false) {i : Nat} (hi : i < l.length) {p : Pt} (hp : spends l[i] p = true) : (l.find? fun x => spends x p) = some l[i] := by
  induction l generalizing i with
  | nil => simp at hi
  | cons x l ih =>
    rw [List.pairwise_cons] at ha
    cases i with
    | zero =>
      simp only [List.getElem_cons_zero] at hp ⊢
      exact List.find?_cons_of_pos (p := fun x => spends x p) hp
    | succ i =>
      simp only [List.getElem_cons_succ] at hp ⊢
      have h1 : ¬ spends x p = true := fun h => by
        rw [ha.1 _ (List.getElem_mem (by simpa using hi)) p h] at hp; cases hp
      rw [List.find?_cons_of_neg (p := fun x => spends x p) h1]
      exact ih ha.2 (by simpa using hi) hp
theorem idsOf_none {l : List Ent} {m : List Bool} (h : ∀ b ∈ m, b = false) : idsOf l m = [] := by
  induction l generalizing m with
  | nil => cases m <;> rfl
  | cons x l ih => cases m with
    | nil => rfl
    | cons b m =>
      rw [idsOf, h b (by simp)]
      exact ih fun c hc => h c (by simp [hc])
end Go.K
end
section
namespace Go.Proofs.YteggaepppahefaaGreat
open Go Go.K
attribute [local irreducible] regK codeK retK KOp.wp K.Spec u32 leS vnS str zero32 sha2 encT idT sizeT checkT grantB idN stepR workL

theorem GrR.pos {w : World} {g : Nat} {M : List Nat} {l : List Ent} (h : GrR w g M l) : ∀ x ∈ l, ∀ i ∈ x.tx.ins, is32 i.p.i := by
  obtain ⟨b1, vo, b2, m, sp, h⟩ := h
  intro x hx i hi
  obtain ⟨mv, h1, h2⟩ := h.ents
  have hg : aget m x.id = some x := by
    rw [h.inv.ent]
    obtain ⟨j, hj, rfl⟩ := List.getElem_of_mem hx
    exact getE_get h.inv.nodup hj
  obtain ⟨v, e, cs, e2, hr⟩ := (aget_all (r := fun v y => ∃ cs, v = entR.val cs ∧ entR.rel M w cs y) (k := x.id) h2).1 x hg
  obtain ⟨iv, ov, e3, g1, g2, g3⟩ := hr
  obtain ⟨css, k1, k2, k3⟩ := g1
  obtain ⟨j, hj, rfl⟩ := List.getElem_of_mem hi
  obtain ⟨wv, k4, k5, k6, k7⟩ := k2.get j (by rw [k2.length]; exact hj) hj
  exact k6
theorem named_parents {l : List Ent} (hn : (l.map (·.id)).Nodup) {t : Tx} {i : Nat} (hi : i < l.length) : named l (parentsL l t.ins) i = hangs t (entD l i) := by
  rw [Bool.eq_iff_iff, named_iff]
  unfold hangs parentsL
  rw [List.any_eq_true, List.mem_map, entD_get hi]
  constructor
  · rintro ⟨x, hx, e⟩
    obtain ⟨h1, h2⟩ := List.mem_filter.1 hx
    refine ⟨x, h1, ?_⟩
    unfold outHas hasE getE at h2
    rw [e, getE_get hn hi] at h2
    rw [Bool.and_eq_true] at h2
    rw [Bool.and_eq_true]
    exact ⟨decide_eq_true e, h2.2⟩
  · rintro ⟨x, hx, h2⟩
    rw [Bool.and_eq_true] at h2
    have e := of_decide_eq_true h2.1
    refine ⟨x, List.mem_filter.2 ⟨hx, ?_⟩, e⟩
    unfold outHas hasE getE
    rw [e, getE_get hn hi, Bool.and_eq_true]
    exact ⟨any_at hi (decide_eq_true rfl), h2.2⟩
theorem above_eq {l : List Ent} (hn : (l.map (·.id)).Nodup) (t : Tx) : reachE l (parentsL l t.ins) (fun x => parentsL l x.tx.ins) = aboveL l t :=
  reachL_congr (fun i hi => named_parents hn hi) (fun k i hk hi => by rw [hangE, named_parents hn hi])
theorem mem_childL {l : List Ent} {id s : ByteArray} : ∀ {n : Nat}, s ∈ childL l id n ↔ ∃ j, j < n ∧ ∃ e, spE l ⟨id, (j : Nat)⟩ = some e ∧ e.id = s
  | 0 => by simp [childL]
  | n + 1 => by
    unfold childL
    rw [List.mem_append, mem_childL]
    constructor
    · rintro (⟨j, h1, h2⟩ | h)
      · exact ⟨j, by omega, h2⟩
      · cases he : spE l ⟨id, (n : Nat)⟩ with
        | none => rw [he] at h; simp at h
        | some e => rw [he] at h; simp at h; exact ⟨n, by omega, e, he, h.symm⟩
    · rintro ⟨j, h1, e, h2, h3⟩
      by_cases hj : j = n
      · subst hj
        rw [h2]; right; simp [h3]
      · exact .inl ⟨j, by omega, e, h2, h3⟩
theorem named_children {l : List Ent} (hn : (l.map (·.id)).Nodup) (ha : l.Pairwise fun x y => ∀ p, spends x p = true → spends y p = false) (hp : ∀ x ∈ l, ∀ i ∈ x.tx.ins, is32 i.p.i) {k i : Nat} (hk : k < l.length) (hi : i < l.length) : named l (childL l (entD l k).id (entD l k).tx.outs.length) i = hangE l i k := by
  rw [Bool.eq_iff_iff, named_iff, mem_childL, hangE, entD_get hk, entD_get hi]
  unfold hangs
  rw [List.any_eq_true]
  constructor
  · rintro ⟨j, h1, e, h2, h3⟩
    have h4 := List.mem_of_find?_eq_some h2
    obtain ⟨q, hq, rfl⟩ := List.getElem_of_mem h4
    have := entD_inj hn hq hi (by rw [entD_get hq, entD_get hi]; exact h3)
    subst this
    have h5 := List.find?_some h2
    unfold spends at h5
    rw [List.any_eq_true] at h5
    obtain ⟨x, hx, h6⟩ := h5
    have h7 := of_decide_eq_true h6
    exact ⟨x, hx, by rw [Bool.and_eq_true, h7]; exact ⟨decide_eq_true rfl, decide_eq_true (by simp only; omega)⟩⟩
  · rintro ⟨x, hx, h2⟩
    rw [Bool.and_eq_true] at h2
    have e1 := of_decide_eq_true h2.1
    have e2 := of_decide_eq_true h2.2
    have h32 := hp _ (List.getElem_mem hi) x hx
    unfold is32 at h32
    refine ⟨x.p.i.toNat, by omega, l[i], ?_, rfl⟩
    refine spE_get ha hi ?_
    unfold spends
    refine List.any_eq_true.2 ⟨x, hx, decide_eq_true ?_⟩
    refine pt_ext e1 ?_
    simp only; omega
theorem below_eq {l : List Ent} (hn : (l.map (·.id)).Nodup) (ha : l.Pairwise fun x y => ∀ p, spends x p = true → spends y p = false) (hp : ∀ x ∈ l, ∀ i ∈ x.tx.ins, is32 i.p.i) {id : ByteArray} : reachE l [id] (fun x => childL l x.id x.tx.outs.length) = belowL l id := by
  refine reachL_congr (fun i hi => ?_) (fun k i hk hi => named_children hn ha hp hk hi)
  rw [Bool.eq_iff_iff, named_iff, entD_get hi]
  simp only [List.mem_singleton, decide_eq_true_eq]
  constructor
  · intro e
    subst e
    exact (idxOf_hit hi (decide_eq_true rfl) (fun j hj => decide_eq_false fun e => by
      have := entD_inj hn (show j < l.length by omega) hi (by rw [entD_get (by omega), entD_get hi]; exact e)
      omega)).symm
  · intro e
    unfold findI idxOf at e
    split at e
    · rename_i q hq
      obtain ⟨h1, h2, _⟩ := List.findIdx?_eq_some_iff_getElem.1 hq
      have : i = q := by omega
      subst this
      exact of_decide_eq_true h2
    · omega
theorem above1_hb : hasBody Tryz.prog F.graph_Graph_Above_1 = true := by kernel_rfl
theorem children_hb : hasBody Tryz.prog F.graph_Graph_children = true := by kernel_rfl
theorem above1_spec {g bg : Nat} {M N : List Nat} {l : List Ent} {cs : List Value} {x : Ent} (w : World) (hG : GrR w g M l) (hM : ∀ b ∈ M, b < w.heap.size) (hg : At w bg (.cells [.pointer (some ⟨g, 0, none⟩)].toArray T.P_graph_Graph (0, 0))) (hx : entR.rel N w cs x) (hs : x.tx.ins.length ≤ 100000) : K.Spec Tryz.prog F.graph_Graph_Above_1 [.agg cs.toArray, .pointer (some ⟨bg, 0, none⟩)] w fun r w' =>
    Own strE T.string w.heap.size w' r (parentsL l x.tx.ins) ∧ Ext w w' := by
  obtain ⟨iv, ov, rfl, h1, h2, h3⟩ := hx
  have rg : Row w ⟨bg, 0, none⟩ [.pointer (some ⟨g, 0, none⟩)] := Row.of_at hg
  refine s_graph_Graph_Above_1 rfl ?_
  unfold k_graph_Graph_Above_1
  refine ox ?_
  repeat' (first|(first|refine go1 ?_|refine zg (fun _ _=>?_)|refine zi (fun _ _=>?_))|refine zD rfl rfl (fun bp wp xp ap (rp : Row wp ⟨bp, 0, none⟩ (entCs x iv ov)) hp0=>?_)|(refine zC rfl (parents_spec (M := M) (N := N) (cs := txCs x.tx iv ov) (t := x.tx) _ (hG.ext (by exact fx)) (fun b hb => Nat.lt_of_lt_of_le (hM b hb) (Ext.size (by exact fx))) ⟨iv, ov, rfl, by exact fx, by exact fx, h3.1, h3.2.1⟩ hs) ?_; rintro v5 w5 ⟨o5, x5⟩))
  exact x_ret rfl ⟨o5.lower xp.size, xp.trans x5⟩
end Go.Proofs.YteggaepppahefaaGreat
end
section
namespace Go.K
open Go
structure ActG where
  do_ : UInt8
  which : UInt8
  small : Small
  raw : Tx
  odd : Bool
instance : Inhabited ActG := ⟨⟨0, 0, default, default, false⟩⟩
def actCs (a : ActG) (fv iv ov : Value) : List Value := [u8V a.do_, u8V a.which, fv, u8V a.small.idx, u8V a.small.outs, .int .i64 a.small.fee, u8V a.small.mark, u8V a.small.long, .int .u32 a.raw.ver, iv, ov, .int .u32 a.raw.lock, .bool a.odd]
end Go.K
end
section
namespace Go.Proofs.YteggaepppahefaaGreat
open Go Go.K
attribute [local irreducible] regK codeK retK KOp.wp K.Spec u32 leS vnS str zero32 sha2 encT idT sizeT checkT grantB idN stepR workL reachE findI

def actR : R ActG where
  k := 13
  pos := by decide
  ag := true
  rel := fun M w cs a => ∃ fv iv ov, cs = actCs a fv iv ov ∧ SlR u8R M w fv a.small.frm ∧ SlR inR M w iv a.raw.ins ∧ SlR outR M w ov a.raw.outs ∧ is64 a.small.fee ∧ is32 a.raw.ver ∧ is32 a.raw.lock ∧ a.raw.Raw ∧ a.small.frm.length ≤ 9223372036854775807
  len := fun ⟨_, _, _, h, _⟩ => by rw [h]; rfl
  one := fun ⟨fv, iv, ov, h, h1, h2, h3, _⟩ v hv => by
    obtain ⟨_, _, rfl⟩ := h1.form
    obtain ⟨_, _, rfl⟩ := h2.form
    obtain ⟨_, _, rfl⟩ := h3.form
    subst h; simp [actCs] at hv; rcases hv with rfl | rfl | rfl | rfl | rfl | rfl | rfl | rfl | rfl | rfl | rfl | rfl | rfl <;> rfl
  step := fun ⟨fv, iv, ov, h, h1, h2, h3, h4⟩ c hL hM => ⟨fv, iv, ov, h, h1.step c hL hM, h2.step c hL hM, h3.step c hL hM, h4⟩
theorem txO.off {B b : Nat} {M : List Nat} {w w' : World} {ds : List Value} {t : Tx} (h : txO B ([b] ++ M) w ds t) (hb : b < B) (c : Chg [b] w w') : txO B M w' ds t := by
  obtain ⟨iv, ov, rfl, o1, o2, o3⟩ := h
  have g1 := o1.base
  have g2 := o2.base
  have n1 : b ∉ blkOf iv := fun h => by have := g1 _ h; omega
  have n2 : b ∉ blkOf ov := fun h => by have := g2 _ h; omega
  exact ⟨iv, ov, rfl, o1.step c (by intro q hq; simp at hq; subst hq; exact ⟨n1, .inl (by simp)⟩) (fun _ h => .inl (List.mem_append_right _ h)), o2.step c (by intro q hq; simp at hq; subst hq; exact ⟨n2, .inl (by simp)⟩) (fun _ h => .inl (List.mem_append_right _ h)), o3⟩
theorem txO.lower {B B' : Nat} {M : List Nat} {w : World} {ds : List Value} {t : Tx} (h : txO B M w ds t) (hb : B' ≤ B) : txO B' M w ds t := by
  obtain ⟨iv, ov, rfl, o1, o2, o3⟩ := h
  exact ⟨iv, ov, rfl, o1.lower hb, o2.lower hb, o3⟩
theorem txO.ext {B : Nat} {M : List Nat} {w w' : World} {ds : List Value} {t : Tx} (h : txO B M w ds t) (c : Ext w w') : txO B M w' ds t := by
  obtain ⟨iv, ov, rfl, o1, o2, o3⟩ := h
  exact ⟨iv, ov, rfl, o1.ext c, o2.ext c, o3⟩
theorem txO.four {B : Nat} {M : List Nat} {w : World} {ds : List Value} {t : Tx} (h : txO B M w ds t) : ds.length = 4 := by
  obtain ⟨iv, ov, rfl, o1, o2, o3⟩ := h; rfl
theorem txO.one {B : Nat} {M : List Nat} {w : World} {ds : List Value} {t : Tx} (h : txO B M w ds t) : ds.all (fun v => v.oneCell') = true := by
  obtain ⟨iv, ov, rfl, o1, o2, o3⟩ := h
  have e1 := o1.one
  have e2 := o2.one
  simp [txCs, e1, e2]; exact ⟨rfl, rfl⟩
def cutLong (z : Small) : Small := { z with long := UInt8.ofNat (z.long.toNat % 4) }
end Go.Proofs.YteggaepppahefaaGreat
end
section
namespace Go.K
open Go
/-- The cells cs read at the type t, in the world W. -/
def Reads (P : Program) (W : World) (t : TypeId) (cs : List Value) : Prop :=
  ∃ (H : Type) (enc : TypeId × Value → H) (base : Nat) (spare : Nat → Bool) (held : Bool) (fuel : Nat) (x : DataW H × List MemPlace), DataW.trod enc P W base spare held fuel t cs = some x
variable {P : Program} {W : World} {t : TypeId} {cs : List Value}
theorem reads_int {k : IntKind} (hu : P.underlying t = some (.int k)) (h : Reads P W t cs) : ∃ n, cs = [.int k n] ∧ k.min ≤ n ∧ n ≤ k.max := by
  obtain ⟨H, enc, base, spare, held, fuel, x, h⟩ := h
  obtain ⟨n, h1, _, h2⟩ := DataW.trod_int hu h
  exact ⟨n, h1, by simpa [Lit.wf] using h2⟩
theorem reads_bool (hu : P.underlying t = some .bool) (h : Reads P W t cs) : ∃ b, cs = [.bool b] := by
  obtain ⟨H, enc, base, spare, held, fuel, x, h⟩ := h
  obtain ⟨b, h1, _⟩ := DataW.trod_bool hu h
  exact ⟨b, h1⟩
theorem reads_struct {fs : Array Field} (hu : P.underlying t = some (.struct fs)) (h : Reads P W t cs) : cs.length = P.cellsOf t ∧ ∀ f ∈ fs.toList, Reads P W f.type ((cs.drop f.offset).take (P.cellsOf f.type)) := by
  obtain ⟨H, enc, base, spare, held, fuel, x, h⟩ := h
  obtain ⟨xs, n, _, rfl, hl, hlen, hf⟩ := DataW.trod_struct hu h
  refine ⟨hl, fun f hm => ?_⟩
  obtain ⟨i, hi, rfl⟩ := List.getElem_of_mem hm
  have h1 := hf i fs.toList[i] (by simp)
  cases hx : xs[i]? with
  | none => exact absurd (List.getElem?_eq_none_iff.1 hx) (by simp at hi; omega)
  | some y => rw [hx] at h1; exact ⟨H, enc, base, spare, held, n, y, h1⟩
theorem cells_row {base n : Nat} {a : Addr} {l : List Value} (h : W.cells? base a n = some l) : l.length = n ∧ Row W a l := by
  obtain ⟨_, h1, h2⟩ := World.cells?_some h
  refine ⟨h1, fun j v hj => ?_⟩
  rw [h2 j (by have := (List.getElem?_eq_some_iff.1 hj).1; omega)]; exact hj
theorem reads_slice {e : TypeId} (hu : P.underlying t = some (.slice e)) (h : Reads P W t cs) :
    cs = [.slice none 0 0] ∨ ∃ (a : Addr) (len cap : Nat), cs = [.slice (some a) len cap] ∧ len ≤ cap ∧ cap ≤ maxLen ∧ ∀ i, i < len → ∃ c, c.length = P.cellsOf e ∧ Row W (a.add (i * P.cellsOf e)) c ∧ Reads P W e c := by
  obtain ⟨H, enc, base, spare, held, fuel, x, h⟩ := h
  rcases Go.Deep.open_slice hu h with ⟨h1, _⟩ | ⟨a, len, cap, m, n, D, Pl, h1, _, hl, hm, rfl, _, hi⟩
  · exact .inl h1
  · refine .inr ⟨a, len, cap, h1, hl, hm, fun i hil => ?_⟩
    obtain ⟨c, h2, h3⟩ := hi i (by split <;> omega)
    have h4 := cells_row h2
    exact ⟨c, h4.1, h4.2, H, enc, base, spare, held, n, _, h3⟩
theorem row_append {a : Addr} {l l' : List Value} (h : Row W a l) (h' : Row W (a.add l.length) l') : Row W a (l ++ l') := by
  intro j v hj
  by_cases hl : j < l.length
  · rw [List.getElem?_append_left hl] at hj; exact h j v hj
  · rw [List.getElem?_append_right (by omega)] at hj
    have := h' _ v hj
    rwa [add_add, show l.length + (j - l.length) = j by omega] at this
end Go.K
end
section
namespace Go.K
open Go
variable {P : Program} {W : World} {t : TypeId}
theorem build_rel {α : Type} (E : R α) {a : Addr} : ∀ (n : Nat), (∀ i, i < n → ∃ c x, Row W (a.add (i * E.k)) c ∧ E.rel [] W c x) → ∃ (css : List (Vec E.k)) (l : List α), css.length = n ∧ Row W a ((vecE E.k E.pos).flat css) ∧ E.all [] W css l
  | 0, _ => ⟨[], [], rfl, fun j v hj => by simp [Enc.flat] at hj, .nil⟩
  | n + 1, h => by
    obtain ⟨css, l, h1, h2, h3⟩ := build_rel E n fun i hi => h i (by omega)
    obtain ⟨c, x, hc, hx⟩ := h n (by omega)
    refine ⟨css ++ [R.vec hx], l ++ [x], by simp [h1], ?_, h3.append (.cons hx .nil)⟩
    rw [Enc.flat_append]
    refine row_append h2 ?_
    rw [Enc.flat_length, h1]
    have e : (vecE E.k E.pos).flat [R.vec hx] = c := by show c ++ [] = c; exact List.append_nil _
    rw [e]; exact hc
theorem reads_slR {α : Type} (E : R α) {e : TypeId} {v : Value} (hu : P.underlying t = some (.slice e)) (hk : P.cellsOf e = E.k) (he : ∀ c, Reads P W e c → ∃ x, E.rel [] W c x) (h : Reads P W t [v]) : ∃ l, SlR E [] W v l ∧ l.length ≤ maxLen := by
  rcases reads_slice hu h with h1 | ⟨a, len, cap, h1, hl, hm, hi⟩
  · simp at h1; subst h1
    exact ⟨[], SlR.nil _ _, by simp⟩
  · simp at h1; subst h1
    obtain ⟨css, l, h2, h3, h4⟩ := build_rel (W := W) E (a := a) len fun i hil => by
      obtain ⟨c, _, h4, h5⟩ := hi i hil
      obtain ⟨x, hx⟩ := he c h5
      exact ⟨c, x, by rw [← hk]; exact h4, hx⟩
    subst h2
    exact ⟨l, ⟨css, ⟨Enc.flat_length _ css, some a, cap, rfl, hl, fun _ => ⟨a, rfl, h3⟩⟩, h4, fun _ b _ hm => by simp at hm⟩, by rw [← h4.length]; omega⟩
/-- A relation with something more. -/
def R.and {α : Type} (E : R α) (p : α → Prop) : R α where
  k := E.k
  pos := E.pos
  ag := E.ag
  rel := fun M w cs x => E.rel M w cs x ∧ p x
  len := fun h => E.len h.1
  one := fun h => E.one h.1
  step := fun h c hL hM => ⟨E.step h.1 c hL hM, h.2⟩
theorem All2.right {α β : Type} {r : α → β → Prop} {q : β → Prop} (h : ∀ a b, r a b → q b) : ∀ {l : List α} {m : List β}, All2 r l m → ∀ b ∈ m, q b
  | _, _, .nil, b, hb => by simp at hb
  | _, _, .cons h1 t, b, hb => by
    rcases List.mem_cons.1 hb with rfl | hb
    · exact h _ _ h1
    · exact All2.right h t b hb
theorem SlR.both {α : Type} {E : R α} {p : α → Prop} {M : List Nat} {w : World} {v : Value} {l : List α} (h : SlR (E.and p) M w v l) : SlR E M w v l ∧ ∀ x ∈ l, p x := by
  obtain ⟨css, h1, h2, h3⟩ := h
  exact ⟨⟨css, h1, h2.mono fun _ _ h => h.1, h3⟩, All2.right (fun _ _ h => h.2) h2⟩
end Go.K
end
section
namespace Go.Proofs.YteggaepppahefaaGreat
open Go Go.K Go.ChangeShapes Go.WideShapes Go.ChangeAt Go.RowKit
set_option maxRecDepth 100000
theorem own : ownKnob Tryz.prog.godebug = none := by kernel_rfl
theorem laidOut : laidOutB Tryz.prog = true := by kernel_rfl
theorem c_int : Tryz.prog.cellsOf 3 = 1 := by kernel_rfl
theorem c_u8 : Tryz.prog.cellsOf 5 = 1 := by kernel_rfl
theorem c_bool : Tryz.prog.cellsOf 4 = 1 := by kernel_rfl
theorem c_small : Tryz.prog.cellsOf 64 = 6 := by kernel_rfl
theorem c_lu8 : Tryz.prog.cellsOf 62 = 1 := by kernel_rfl
theorem reads_u8 {W : World} {c : List Value} (h : Reads Tryz.prog W 5 c) : ∃ b : UInt8, c = [u8V b] := by
  obtain ⟨n, e, h1, h2⟩ := reads_int Tryz.underlying5 h
  have h1 : 0 ≤ n := h1
  have h2 : n ≤ 255 := h2
  refine ⟨UInt8.ofNat n.toNat, ?_⟩
  have : (UInt8.ofNat n.toNat).toNat = n.toNat := by rw [UInt8.toNat_ofNat']; omega
  unfold u8V
  rw [e, this]
  congr 2; omega
theorem reads_i64 {W : World} {c : List Value} (h : Reads Tryz.prog W 3 c) : ∃ n : Int, c = [.int .i64 n] ∧ is64 n := by
  obtain ⟨n, e, h1, h2⟩ := reads_int Tryz.underlying3 h
  have h1 : -9223372036854775808 ≤ n := h1
  have h2 : n ≤ 9223372036854775807 := h2
  exact ⟨n, e, by unfold is64; omega⟩
theorem reads_small {W : World} {c : List Value} (h : Reads Tryz.prog W 64 c) : ∃ z : Small, ∃ fv, c = smallCs z fv ∧ SlR u8R [] W fv z.frm ∧ is64 z.fee ∧ z.frm.length ≤ 9223372036854775807 := by
  obtain ⟨h1, h2⟩ := reads_struct Tryz.underlying64 h
  have l : c.length = 6 := h1.trans c_small
  match c, l with
  | [c0, c1, c2, c3, c4, c5], _ =>
    have g0 := h2 _ (List.mem_of_getElem? (i := 0) rfl)
    have g1 := h2 _ (List.mem_of_getElem? (i := 1) rfl)
    have g2 := h2 _ (List.mem_of_getElem? (i := 2) rfl)
    have g3 := h2 _ (List.mem_of_getElem? (i := 3) rfl)
    have g4 := h2 _ (List.mem_of_getElem? (i := 4) rfl)
    have g5 := h2 _ (List.mem_of_getElem? (i := 5) rfl)
    simp only [c_lu8, List.drop_zero, List.drop_succ_cons, List.take_succ_cons, List.take_zero] at g0
    obtain ⟨frm, hf, hfl⟩ := reads_slR u8R Tryz.underlying62 (by kernel_rfl) (fun c hc => by
      obtain ⟨b, e⟩ := reads_u8 hc
      exact ⟨b, by subst e; rfl⟩) g0
    obtain ⟨b1, e1⟩ := reads_u8 g1
    obtain ⟨b2, e2⟩ := reads_u8 g2
    obtain ⟨f, e3, hfe⟩ := reads_i64 g3
    obtain ⟨b4, e4⟩ := reads_u8 g4
    obtain ⟨b5, e5⟩ := reads_u8 g5
    simp only [c_u8, c_int, List.drop_zero, List.drop_succ_cons, List.take_succ_cons, List.take_zero, List.cons.injEq, and_true] at e1 e2 e3 e4 e5
    exact ⟨⟨frm, b1, b2, f, b4, b5⟩, c0, by rw [e1, e2, e3, e4, e5]; rfl, hf, hfe, hfl⟩
end Go.Proofs.YteggaepppahefaaGreat
end
section
namespace Go.Proofs
open Go.Shelf
def Tryz.growS_ren : Go.Shelf.Ren := ⟨fun | 4 => 124 | n => n, fun | 22 => 44 | 25 => 9 | 3 => 3 | 4 => 4 | 9 => 9 | 20 => 20 | 0 => 0 | n => n, fun | n => n⟩
theorem Tryz.growS : Go.Proofs.Lays8.n4 Tryz.prog Tryz.growS_ren := {
  mixed := by kernel_rfl
  f4 := ⟨Tryz.f124.name, by decide, Tryz.func124.trans (congrArg some (by kernel_rfl))⟩
  t0 := Tryz.underlying0
  a0 := Tryz.isAgg0
  z0 := Tryz.sizeOf0
  v0 := Tryz.zeroValue0
  t3 := Tryz.underlying3
  a3 := Tryz.isAgg3
  z3 := Tryz.sizeOf3
  v3 := Tryz.zeroValue3
  t4 := Tryz.underlying4
  a4 := Tryz.isAgg4
  z4 := Tryz.sizeOf4
  v4 := Tryz.zeroValue4
  t9 := Tryz.underlying9
  a9 := Tryz.isAgg9
  z9 := Tryz.sizeOf9
  v9 := Tryz.zeroValue9
  t20 := Tryz.underlying20
  a20 := Tryz.isAgg20
  z20 := Tryz.sizeOf20
  v20 := Tryz.zeroValue20
  t22 := Tryz.underlying44
  a22 := Tryz.isAgg44
  z22 := Tryz.sizeOf44
  v22 := Tryz.zeroValue44 }
end Go.Proofs
end
