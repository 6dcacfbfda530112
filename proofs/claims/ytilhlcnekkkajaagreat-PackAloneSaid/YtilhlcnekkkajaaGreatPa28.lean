/- Plain: a set and the reference's sorted list, side by side. The engine, part 13: what came in, read at its type. The engine, part 18: what came in, nested. Contracts: a graph of any entries, as the laws of trimming make it; masked numbers. Contracts: the transaction of an act, of the laws of replacing. Contracts: a graph of any entries, as the laws of replacing make it. Contracts: dropping from a  -/
import Derived.RowKit
import Derived.OpenShut
import Derived.Deep.Slices
import Derived.ChangeSame
import Derived.Test.YtilhlcnekkkajaaGreatPa27
set_option linter.unusedVariables false
set_option linter.unusedSimpArgs false
section
namespace Go.K
open Go
theorem srt_nodup {l : List En} (h : Srt l) : (l.map (·.1)).Nodup := by
  rw [List.Nodup, List.pairwise_map]
  exact h.imp fun hab e => by rw [e, ptLt_irrefl] at hab; cases hab
theorem mem_aget {m : List En} {p : Pt} {c : Cn} (hn : (m.map (·.1)).Nodup) (h : (p, c) ∈ m) : aget m p = some c := by
  induction m with
  | nil => cases h
  | cons e m ih =>
    simp only [List.map_cons, List.nodup_cons] at hn
    rw [aget_cons]
    rcases List.mem_cons.1 h with h | h
    · subst h; simp
    · rw [if_neg, ih hn.2 h]
      intro e1
      exact hn.1 (e1 ▸ List.mem_map_of_mem (f := (·.1)) h)
theorem aget_perm {m l : List En} (hp : m.Perm l) (hs : Srt l) (p : Pt) : aget m p = aget l p := by
  have hl := srt_nodup hs
  have hm : (m.map (·.1)).Nodup := (hp.map _).nodup_iff.2 hl
  cases h : aget l p with
  | some c => exact mem_aget hm (hp.mem_iff.2 (aget_mem h))
  | none =>
    cases h2 : aget m p with
    | none => rfl
    | some c => rw [mem_aget hl (hp.mem_iff.1 (aget_mem h2))] at h; cases h
theorem aget_some_idx {l : List En} {p : Pt} {n : Nat} (h : refIdx l p = some n) (hn : n < l.length) : aget l p = some l[n].2 := by
  rw [aget_idx]; unfold refIdx at h; rw [h]; simp [List.getElem?_eq_getElem hn]
theorem aget_none_idx {l : List En} {p : Pt} (h : refIdx l p = none) : aget l p = none := by
  rw [aget_idx]; unfold refIdx at h; rw [h]; rfl
theorem idx_lt {l : List En} {p : Pt} {n : Nat} (h : refIdx l p = some n) : n < l.length := (refIdx_some.1 h).1
theorem isSome_idx (l : List En) (p : Pt) : (aget l p).isSome = (refIdx l p).isSome := by
  cases h : refIdx l p with
  | none => rw [aget_none_idx h]; rfl
  | some n => rw [aget_some_idx h (idx_lt h)]; rfl
section
variable {m l : List En} (hp : m.Perm l) (hs : Srt l)
include hp hs
theorem put_code (p : Pt) (c : Cn) : putCode m p c = refPutCode l p c := by
  rw [putCode, refPutCode, aget_perm hp hs, isSome_idx, tot_perm hp]
end
def ins (p : Pt) (c : Cn) : List En → List En
  | [] => [(p, c)]
  | e :: l => if ptLt p e.1 then (p, c) :: e :: l else e :: ins p c l
theorem run_true (p : Pt) (c : Cn) : ∀ (l out : List En), l.foldl (insStep p c) (out, true) = (out ++ l, true)
  | [], out => by simp
  | e :: l, out => by
    rw [List.foldl_cons]
    have : insStep p c (out, true) e = (out ++ [e], true) := by simp [insStep]
    rw [this, run_true p c l]; simp
theorem run_false (p : Pt) (c : Cn) : ∀ (l out : List En), (let s := l.foldl (insStep p c) (out, false); if s.2 then s.1 else s.1 ++ [(p, c)]) = out ++ ins p c l
  | [], out => by simp [ins]
  | e :: l, out => by
    rw [List.foldl_cons]
    by_cases h : ptLt p e.1 = true
    · have : insStep p c (out, false) e = (out ++ [(p, c)] ++ [e], true) := by simp [insStep, h]
      rw [this, run_true]
      simp [ins, h]
    · have h : ptLt p e.1 = false := by simpa using h
      have : insStep p c (out, false) e = (out ++ [e], false) := by simp [insStep, h]
      rw [this, run_false p c l]
      simp [ins, h]
theorem insEnd_eq (p : Pt) (c : Cn) (l : List En) : insEnd p c l = ins p c l := by
  have := run_false p c l []
  rw [List.nil_append] at this
  exact this
theorem ins_perm (p : Pt) (c : Cn) : ∀ l : List En, (ins p c l).Perm ((p, c) :: l)
  | [] => List.Perm.refl _
  | e :: l => by
    unfold ins
    split
    · exact List.Perm.refl _
    · exact ((ins_perm p c l).cons e).trans (List.Perm.swap _ _ _)
theorem ins_srt (p : Pt) (c : Cn) : ∀ {l : List En}, Srt l → (∀ e ∈ l, e.1 ≠ p) → Srt (ins p c l)
  | [], _, _ => by simp [ins, Srt]
  | e :: l, hs, hn => by
    have hs' := List.pairwise_cons.1 hs
    unfold ins
    split
    · rename_i h
      refine List.pairwise_cons.2 ⟨fun x hx => ?_, hs⟩
      rcases List.mem_cons.1 hx with h1 | h1
      · rw [h1]; exact h
      · exact ptLt_trans h (hs'.1 x h1)
    · rename_i h
      refine List.pairwise_cons.2 ⟨fun x hx => ?_, ins_srt p c hs'.2 (fun x hx => hn x (by simp [hx]))⟩
      rcases List.mem_cons.1 ((ins_perm p c l).mem_iff.1 hx) with h1 | h1
      · rw [h1]
        cases h2 : ptLt e.1 p
        · exact absurd (ptLt_tri h2 (by simpa using h)) (hn e (by simp))
        · rfl
      · exact hs'.1 x h1
theorem put_sim {m l : List En} (hp : m.Perm l) (hs : Srt l) (p : Pt) (c : Cn) : (putMap m p c).Perm (refPut l p c) ∧ Srt (refPut l p c) ∧ (refPut l p c).length ≤ l.length + 1 := by
  have hc := put_code hp hs p c
  unfold putMap refPut
  rw [hc]
  split
  · rename_i h0
    rw [insEnd_eq]
    have hi : refIdx l p = none := by
      unfold refPutCode at h0
      cases h : refIdx l p with
      | none => rfl
      | some n =>
        rw [h] at h0
        simp only [Option.isSome_some, if_true] at h0
        split at h0 <;> omega
    have h1 := ins_perm p c l
    refine ⟨?_, ins_srt p c hs (refIdx_none.1 hi), by rw [h1.length_eq]; simp⟩
    refine List.Perm.trans ?_ h1.symm
    exact (List.perm_append_singleton (p, c) m).trans (hp.cons _)
  · exact ⟨hp, hs, by omega⟩
end Go.K
end
section
namespace Go.K
open Go
/-- The cells cs read at the type t, in the world W. -/
def Reads (P : Program) (W : World) (t : TypeId) (cs : List Value) : Prop :=
  ∃ (H : Type) (enc : TypeId × Value → H) (base : Nat) (spare : Nat → Bool) (held : Bool) (fuel : Nat) (x : DataW H × List MemPlace), DataW.trod enc P W base spare held fuel t cs = some x
variable {P : Program} {W : World} {t : TypeId} {cs : List Value}
theorem reads_int {k : IntKind} (hu : P.underlying t = some (.int k)) (h : Reads P W t cs) : ∃ n, cs = [.int k n] ∧ k.min ≤ n ∧ n ≤ k.max := by
  obtain ⟨H, enc, base, spare, held, fuel, x, h⟩ := h
  obtain ⟨n, h1, _, h2⟩ := DataW.trod_int hu h
  exact ⟨n, h1, by simpa [Lit.wf] using h2⟩
theorem reads_bool (hu : P.underlying t = some .bool) (h : Reads P W t cs) : ∃ b, cs = [.bool b] := by
  obtain ⟨H, enc, base, spare, held, fuel, x, h⟩ := h
  obtain ⟨b, h1, _⟩ := DataW.trod_bool hu h
  exact ⟨b, h1⟩
theorem reads_struct {fs : Array Field} (hu : P.underlying t = some (.struct fs)) (h : Reads P W t cs) : cs.length = P.cellsOf t ∧ ∀ f ∈ fs.toList, Reads P W f.type ((cs.drop f.offset).take (P.cellsOf f.type)) := by
  obtain ⟨H, enc, base, spare, held, fuel, x, h⟩ := h
  obtain ⟨xs, n, _, rfl, hl, hlen, hf⟩ := DataW.trod_struct hu h
  refine ⟨hl, fun f hm => ?_⟩
  obtain ⟨i, hi, rfl⟩ := List.getElem_of_mem hm
  have h1 := hf i fs.toList[i] (by simp)
  cases hx : xs[i]? with
  | none => exact absurd (List.getElem?_eq_none_iff.1 hx) (by simp at hi; omega)
  | some y => rw [hx] at h1; exact ⟨H, enc, base, spare, held, n, y, h1⟩
theorem cells_row {base n : Nat} {a : Addr} {l : List Value} (h : W.cells? base a n = some l) : l.length = n ∧ Row W a l := by
  obtain ⟨_, h1, h2⟩ := World.cells?_some h
  refine ⟨h1, fun j v hj => ?_⟩
  rw [h2 j (by have := (List.getElem?_eq_some_iff.1 hj).1; omega)]; exact hj
theorem reads_slice {e : TypeId} (hu : P.underlying t = some (.slice e)) (h : Reads P W t cs) :
    cs = [.slice none 0 0] ∨ ∃ (a : Addr) (len cap : Nat), cs = [.slice (some a) len cap] ∧ len ≤ cap ∧ cap ≤ maxLen ∧ ∀ i, i < len → ∃ c, c.length = P.cellsOf e ∧ Row W (a.add (i * P.cellsOf e)) c ∧ Reads P W e c := by
  obtain ⟨H, enc, base, spare, held, fuel, x, h⟩ := h
  rcases Go.Deep.open_slice hu h with ⟨h1, _⟩ | ⟨a, len, cap, m, n, D, Pl, h1, _, hl, hm, rfl, _, hi⟩
  · exact .inl h1
  · refine .inr ⟨a, len, cap, h1, hl, hm, fun i hil => ?_⟩
    obtain ⟨c, h2, h3⟩ := hi i (by split <;> omega)
    have h4 := cells_row h2
    exact ⟨c, h4.1, h4.2, H, enc, base, spare, held, n, _, h3⟩
theorem row_append {a : Addr} {l l' : List Value} (h : Row W a l) (h' : Row W (a.add l.length) l') : Row W a (l ++ l') := by
  intro j v hj
  by_cases hl : j < l.length
  · rw [List.getElem?_append_left hl] at hj; exact h j v hj
  · rw [List.getElem?_append_right (by omega)] at hj
    have := h' _ v hj
    rwa [add_add, show l.length + (j - l.length) = j by omega] at this
end Go.K
end
section
namespace Go.K
open Go
variable {P : Program} {W : World} {t : TypeId}
theorem build_rel {α : Type} (E : R α) {a : Addr} : ∀ (n : Nat), (∀ i, i < n → ∃ c x, Row W (a.add (i * E.k)) c ∧ E.rel [] W c x) → ∃ (css : List (Vec E.k)) (l : List α), css.length = n ∧ Row W a ((vecE E.k E.pos).flat css) ∧ E.all [] W css l
  | 0, _ => ⟨[], [], rfl, fun j v hj => by simp [Enc.flat] at hj, .nil⟩
  | n + 1, h => by
    obtain ⟨css, l, h1, h2, h3⟩ := build_rel E n fun i hi => h i (by omega)
    obtain ⟨c, x, hc, hx⟩ := h n (by omega)
    refine ⟨css ++ [R.vec hx], l ++ [x], by simp [h1], ?_, h3.append (.cons hx .nil)⟩
    rw [Enc.flat_append]
    refine row_append h2 ?_
    rw [Enc.flat_length, h1]
    have e : (vecE E.k E.pos).flat [R.vec hx] = c := by show c ++ [] = c; exact List.append_nil _
    rw [e]; exact hc
theorem reads_slR {α : Type} (E : R α) {e : TypeId} {v : Value} (hu : P.underlying t = some (.slice e)) (hk : P.cellsOf e = E.k) (he : ∀ c, Reads P W e c → ∃ x, E.rel [] W c x) (h : Reads P W t [v]) : ∃ l, SlR E [] W v l ∧ l.length ≤ maxLen := by
  rcases reads_slice hu h with h1 | ⟨a, len, cap, h1, hl, hm, hi⟩
  · simp at h1; subst h1
    exact ⟨[], SlR.nil _ _, by simp⟩
  · simp at h1; subst h1
    obtain ⟨css, l, h2, h3, h4⟩ := build_rel (W := W) E (a := a) len fun i hil => by
      obtain ⟨c, _, h4, h5⟩ := hi i hil
      obtain ⟨x, hx⟩ := he c h5
      exact ⟨c, x, by rw [← hk]; exact h4, hx⟩
    subst h2
    exact ⟨l, ⟨css, ⟨Enc.flat_length _ css, some a, cap, rfl, hl, fun _ => ⟨a, rfl, h3⟩⟩, h4, fun _ b _ hm => by simp at hm⟩, by rw [← h4.length]; omega⟩
/-- A relation with something more. -/
def R.and {α : Type} (E : R α) (p : α → Prop) : R α where
  k := E.k
  pos := E.pos
  ag := E.ag
  rel := fun M w cs x => E.rel M w cs x ∧ p x
  len := fun h => E.len h.1
  one := fun h => E.one h.1
  step := fun h c hL hM => ⟨E.step h.1 c hL hM, h.2⟩
theorem All2.right {α β : Type} {r : α → β → Prop} {q : β → Prop} (h : ∀ a b, r a b → q b) : ∀ {l : List α} {m : List β}, All2 r l m → ∀ b ∈ m, q b
  | _, _, .nil, b, hb => by simp at hb
  | _, _, .cons h1 t, b, hb => by
    rcases List.mem_cons.1 hb with rfl | hb
    · exact h _ _ h1
    · exact All2.right h t b hb
theorem SlR.both {α : Type} {E : R α} {p : α → Prop} {M : List Nat} {w : World} {v : Value} {l : List α} (h : SlR (E.and p) M w v l) : SlR E M w v l ∧ ∀ x ∈ l, p x := by
  obtain ⟨css, h1, h2, h3⟩ := h
  exact ⟨⟨css, h1, h2.mono fun _ _ h => h.1, h3⟩, All2.right (fun _ _ h => h.2) h2⟩
end Go.K
end
section
namespace Go.Proofs.YtilhlcnekkkajaaGreat
open Go Go.K
attribute [local irreducible] regK codeK retK KOp.wp K.Spec u32 leS vnS str zero32 sha2 encT idT sizeT checkT grantB idN stepR workL reachE findI dropG addG

def andI (a m : Int) : Int := IntKind.i64.wrap ((BitVec.ofInt IntKind.i64.bits a &&& BitVec.ofInt IntKind.i64.bits m).toNat : Nat)
abbrev smR : R Small := smallR.and fun z => z.frm.length ≤ 9223372036854775807
def cutZ (n : Nat) (m : Int) (z : Small) : Small := { z with long := UInt8.ofNat (z.long.toNat % n), fee := andI z.fee m }
end Go.Proofs.YtilhlcnekkkajaaGreat
end
section
namespace Go.Proofs.YtilhlcnekkkajaaGreat
open Go Go.K
attribute [local irreducible] regK codeK retK KOp.wp K.Spec u32 leS vnS str zero32 sha2 encT idT sizeT checkT grantB idN stepR workL reachE findI dropG addG
/-- An entry that is added as plain data. -/
structure ActP where
  sm : Small
  fin : Bool
def actpCs (a : ActP) (fv : Value) : List Value := [fv, u8V a.sm.idx, u8V a.sm.outs, .int .i64 a.sm.fee, u8V a.sm.mark, u8V a.sm.long, .bool a.fin]
def actpR : R ActP where
  k := 7
  pos := by decide
  ag := true
  rel := fun M w cs a => ∃ fv, cs = actpCs a fv ∧ SlR u8R M w fv a.sm.frm ∧ is64 a.sm.fee ∧ a.sm.frm.length ≤ 9223372036854775807
  len := fun ⟨_, h, _⟩ => by rw [h]; rfl
  one := fun ⟨fv, h, hs, _⟩ v hv => by
    obtain ⟨b, c, rfl⟩ := hs.form
    subst h; simp [actpCs] at hv; rcases hv with rfl | rfl | rfl | rfl | rfl | rfl | rfl <;> rfl
  step := fun ⟨fv, h, hs, h2⟩ c hL hM => ⟨fv, h, hs.step c hL hM, h2⟩
theorem OwnR.outs {t : TypeId} {B : Nat} {M M' : List Nat} {w : World} {v : Value} {l : List TOut} (h : OwnR outR t B M w v l) : OwnR outR t B M' w v l := by
  obtain ⟨css, h1, h2⟩ := h
  exact ⟨css, h1, h2.mono fun _ _ hr => hr⟩
def modZ (n : Nat) (z : Small) : Small := { z with long := UInt8.ofNat (z.long.toNat % n) }
end Go.Proofs.YtilhlcnekkkajaaGreat
end
section
namespace Go.Proofs.YtilhlcnekkkajaaGreat
open Go Go.K
attribute [local irreducible] regK codeK retK KOp.wp K.Spec u32 leS vnS str zero32 sha2 encT idT sizeT checkT grantB idN stepR workL reachE findI dropG addG
end Go.Proofs.YtilhlcnekkkajaaGreat
end
section
namespace Go.Proofs.YtilhlcnekkkajaaGreat
open Go Go.K
attribute [local irreducible] regK codeK retK KOp.wp K.Spec u32 leS vnS str zero32 sha2 encT idT sizeT checkT grantB idN stepR workL reachE findI

theorem Gr.both {w : World} {B g : Nat} {M U : List Nat} {l : List Ent} (hG : Gr w B g M l) (hU : GrR w g (U ++ M) l) : ∃ b1 vo b2 m sp, GrP w B g b1 vo b2 m sp l ∧ M = mutG g b1 b2 vo ∧ MapR sK entR (U ++ M) w b1 m := by
  obtain ⟨b1, vo, b2, m, sp, P, rfl⟩ := hG
  obtain ⟨b1', vo', b2', m', sp', Q⟩ := hU
  have e : [Value.map (some b1), vo, .map (some b2)] = [.map (some b1'), vo', .map (some b2')] := by
    have h1 := P.at_
    have h2 := Q.at_
    unfold At at h1 h2
    rw [h1] at h2
    simpa using h2
  simp only [List.cons.injEq, Value.map.injEq, Option.some.injEq, and_true] at e
  obtain ⟨rfl, rfl, rfl⟩ := e
  exact ⟨b1, vo, b2, m', sp', ⟨P.at_, Q.ents.step (Chg.refl [] _) (by simp) (by simp) (fun b hb => .inl (List.mem_append_right _ hb)), Q.pts, P.ord, Q.inv, P.nd, P.lo⟩, rfl, Q.ents⟩
/-- A graph, and blocks beside it, that are turned alone. -/
structure GrU (w : World) (B g : Nat) (M U : List Nat) (l : List Ent) : Prop where
  gr : Gr w B g M l
  rd : GrR w g (U ++ M) l
  dj : ∀ b ∈ M, b ∉ U
theorem GrU.ext {w w' : World} {B g : Nat} {M U : List Nat} {l : List Ent} (h : GrU w B g M U l) (c : Ext w w') : GrU w' B g M U l := ⟨h.gr.ext c, h.rd.ext c, h.dj⟩
theorem GrU.of {w : World} {B g : Nat} {M : List Nat} {l : List Ent} (h : Gr w B g M l) : GrU w B g M [] l := ⟨h, h.r, by simp⟩
theorem GrU.more {w w' : World} {B g : Nat} {M U U' : List Nat} {l : List Ent} (h : GrU w B g M U l) (c : Ext w w') (hU : ∀ b ∈ U', b ∈ U ∨ w.heap.size ≤ b) : GrU w' B g M U' l :=
  ⟨h.gr.ext c, h.rd.more c (fun b hb => (List.mem_append.1 hb).elim (fun h1 => (hU b h1).imp (fun h2 => List.mem_append_left _ h2) id) (fun h1 => .inl (List.mem_append_right _ h1))), fun b hb h1 => (hU b h1).elim (h.dj b hb) (fun h2 => by have := h.gr.lt b hb; omega)⟩
theorem GrU.chg {w w' : World} {B g : Nat} {M U U' : List Nat} {l : List Ent} (h : GrU w B g M U l) (c : Chg U w w') (hU : ∀ b ∈ U', b ∈ U ∨ w.heap.size ≤ b) : GrU w' B g M U' l := by
  have hlt := h.gr.lt
  obtain ⟨b1, vo, b2, m, sp, P, rfl, q⟩ := Gr.both h.gr h.rd
  have dj := h.dj
  have n1 := dj g (by simp)
  have n2 := dj b1 (by simp)
  have n3 := dj b2 (by simp)
  have o := P.ord.chg c fun b hb h => dj b (by simp [hb]) h
  have a := P.at_.chg c n1
  have pp := P.pts.chg c n3
  have e1 : ∀ b ∈ U' ++ mutG g b1 b2 vo, b ∈ U ++ mutG g b1 b2 vo ∨ w.heap.size ≤ b := fun b hb => (List.mem_append.1 hb).elim (fun h1 => (hU b h1).imp (fun h2 => List.mem_append_left _ h2) id) (fun h1 => .inl (List.mem_append_right _ h1))
  have mm := q.step (M' := U' ++ mutG g b1 b2 vo) c n2 (fun b hb => .inl (List.mem_append_left _ hb)) e1
  have m0 := q.step (M' := mutG g b1 b2 vo) c n2 (fun b hb => .inl (List.mem_append_left _ hb)) (fun b hb => .inl (List.mem_append_right _ hb))
  exact ⟨⟨b1, vo, b2, m, sp, ⟨a, m0, pp, o, P.inv, P.nd, P.lo⟩, rfl⟩, ⟨b1, vo, b2, m, sp, ⟨a, mm, pp, o.sl, P.inv⟩⟩, fun b hb h1 => (hU b h1).elim (dj b hb) (fun h2 => by have := hlt b hb; omega)⟩
set_option maxHeartbeats 2000000 in
theorem gdrop_u {B g : Nat} {M U : List Nat} {l : List Ent} (id : ByteArray) (w : World) (hG : Gr w B g M l) (hU : GrR w g (U ++ M) l) (hn : l.length ≤ 1000) : K.Spec Tryz.prog F.graph_Graph_Drop [.pointer (some ⟨g, 0, none⟩), .string id] w fun r w' =>
    ∃ M', r = .int .i64 (dropG l id).2 ∧ Gr w' B g M' (dropG l id).1 ∧ Chg M w w' ∧ (∀ b ∈ M', b ∈ M ∨ w.heap.size ≤ b) ∧ GrR w' g (U ++ M') (dropG l id).1 := by
  have hG0 := hG
  obtain ⟨b1, vo, b2, m, sp, hP, rfl, hu1⟩ := Gr.both hG hU
  have rg : Row w ⟨g, 0, none⟩ [.map (some b1), vo, .map (some b2)] := Row.of_at hP.at_
  have hq1 := hP.ents
  have hl1 := Gr.lt hG0
  refine s_graph_Graph_Drop rfl ?_
  unfold k_graph_Graph_Drop
  refine oy ?_
  repeat' (first|(first|refine go1 ?_|refine zg (fun _ _=>?_)|refine zi (fun _ _=>?_))|(refine zM rfl (fun h => ?_) (fun h => ?_))|(refine zD rfl rfl (fun b3 wp xp a3 (r3 : Row wp ⟨b3, 0, none⟩ [.string id]) hp0=>?_))|(refine st_lookupR (d := some 17) (KE := sK) (F := entR) (M := mutG g b1 b2 vo) (k := id) rfl rfl (by exact fx) rfl rfl (fun y cs hy hr => ?_) (fun hno => ?_))|(refine zH (d := some 5) (fun b9 w9 x9 a9 hb9 => ?_); have s9 : w.heap.size ≤ b9 := Nat.le_trans (Ext.size (w := w) (by exact fx)) hb9; have s39 : wp.heap.size ≤ b9 := Nat.le_trans (Ext.size (w := wp) (by exact fx)) hb9)|(obtain ⟨iv, ov, rfl, q1, q2, q3⟩ := hr; have i1 := q1.one; have i2 := q2.one; refine st_setN (w0 := w) (vs := entCs y iv ov) (by exact fx) s9 (by focus (repeat (first | assumption | (apply At.ext; assumption)))) rfl rfl rfl rfl (by simp [entCs, i1, i2]; exact ⟨rfl, rfl, rfl, rfl, rfl⟩) (fun w10 x10 c10 a10 r10 => ?_); have l3 := a3.lt; have a30 : At w10 b3 (.cells [.string id].toArray T.string (0, 0)) := At.chg c10 (At.ext (show Ext wp w9 by exact fx) a3) (by simp; omega); have r30 : Row w10 ⟨b3, 0, none⟩ [.string id] := Row.of_at a30; have q10 : SlR inR (mutG g b1 b2 vo) w10 iv y.tx.ins := (q1.step (M' := b9 :: mutG g b1 b2 vo) x9 (by simp) (fun b hb => by rcases List.mem_cons.1 hb with h | h; (subst h; exact .inr hb9); exact .inl h)).step c10 (by intro q hq; simp at hq; subst hq; exact .inl (by simp)) (fun _ h => .inl (by simp [h])); clear c10 q1 q2 a9 x9 hb9 s39 xp a3 r3)|(refine st_setN (w0 := w) (vs := zEnt) (by exact fx) s9 (by focus (repeat (first | assumption | (apply At.ext; assumption)))) rfl rfl rfl rfl rfl (fun w10 x10 c10 a10 r10 => ?_)))
  · clear ‹Ext wp _›
    rename_i wB xB
    have xwB : Ext w wB := x10.trans xB
    have a3B := a30.ext xB
    have a9B := a10.ext xB
    have agB := hP.at_.ext xwB
    have mB := hq1.ext xwB
    have uB := hu1.ext xwB
    have pB := hP.pts.ext xwB
    have oB := hP.ord.ext xwB
    have qB := q10.ext xB
    have sB := xwB.size
    have nd := hP.nd
    simp only [List.nodup_cons, List.mem_cons, not_or] at nd
    obtain ⟨⟨n1, n2, n3⟩, ⟨n4, n5⟩, n6, n7⟩ := nd
    have l1 : b1 < w.heap.size := hl1 _ (by simp)
    have l2 : b2 < w.heap.size := hl1 _ (by simp)
    have lg : g < w.heap.size := hl1 _ (by simp)
    have lo : ∀ b ∈ blkOf vo, b < w.heap.size := fun b hb => hl1 b (by simp [hb])
    have hym : y ∈ l ∧ y.id = id := by
      rw [hP.inv.ent] at hy
      exact ⟨List.mem_of_find?_eq_some hy, by have := List.find?_some hy; exact of_decide_eq_true this⟩
    have hins := (chk_sm (hG0.ok y hym.1).check).ins
    clear xB x10 a30 a10 r10 r30 q10 rg
    refine st_deleteR (KE := sK) (F := entR) (M := U ++ mutG g b1 b2 vo) (k := id) rfl rfl uB (by simp) rfl rfl (fun w11 c11 m11 => ?_)
    have ag11 := agB.chg c11 (by simp; omega)
    have a311 := a3B.chg c11 (by simp; omega)
    have a911 := a9B.chg c11 (by simp; omega)
    have p11 := pB.chg c11 (by simp; omega)
    have o11 := oB.chg c11 (fun b hb h => by simp at h; subst h; exact n5 hb)
    have q11 := qB.step (M' := mutG g b1 b2 vo) c11 (fun b hb => by simp at hb; subst hb; exact .inl (by simp)) (fun _ h => .inl h)
    have r911 : Row w11 ⟨b9, 0, none⟩ (entCs y iv ov) := Row.of_at a911
    have C11 : Chg (mutG g b1 b2 vo) w w11 := (xwB.chg c11).mono (fun b hb => by simp at hb; subst hb; exact .inl (by simp))
    have sB11 : w.heap.size ≤ w11.heap.size := Nat.le_trans sB c11.size
    clear agB a3B a9B pB oB mB uB qB c11 xwB
    repeat' (first|(first|refine go1 ?_|refine zg (fun _ _=>?_)|refine zi (fun _ _=>?_))|(refine zL rfl (fun h => ?_) (fun h => ?_))|(refine zG (E := inR) (M := mutG g b1 b2 vo) (l := y.tx.ins) rfl (SlR.ext q11 (by exact fx)) ?_)|(refine c_loopV (fun (i : Nat) w' => Chg [b2] w11 w' ∧ i ≤ y.tx.ins.length ∧ MapE ptK Value.string w' b2 (delPts sp (y.tx.ins.take i))) (fun i => [(0, .pointer (some ⟨g, 0, none⟩)), (3, .pointer (some ⟨b3, 0, none⟩)), (29, iv), (30, .int .i64 (y.tx.ins.length : Nat)), (31, .int .i64 i)]) (fun i => y.tx.ins.length - i) 0 ⟨rfl, rfl, rfl, rfl, rfl, trivial⟩ ⟨(show Ext w11 _ by exact fx).mono (by simp), by simp, MapE.ext (by exact fx) p11⟩ ?_; rintro i ρ w3 ⟨x3, hi, hmp⟩))
    · have hi3 : SlR inR (mutG g b1 b2 vo) w3 iv y.tx.ins := q11.step x3 (fun b hb => .inl (by simp at hb; simp [hb])) (fun _ h => .inl h)
      have rg3 : Row w3 ⟨g, 0, none⟩ [.map (some b1), vo, .map (some b2)] := Row.of_at (ag11.chg x3 (by simp; omega))
      clear r911
      repeat' (first|(first|refine go1 ?_|refine zg (fun _ _=>?_)|refine zi (fun _ _=>?_))|(refine st_elemR (d := some 33) (E := inR) (M := mutG g b1 b2 vo) rfl rfl (n := i) (l := y.tx.ins) (SlR.ext hi3 (by exact fx)) rfl (by omega) (fun ad cs r4 he => ?_); obtain ⟨wv, rfl, hw, hp5, hp6⟩ := he; obtain ⟨bs1, cp1, rfl⟩ := hw.form; have hil : i < y.tx.ins.length := (by omega))|(refine zE (d' := 8) (fun _=>rfl) rfl rfl rfl (fun b8 w8 x8 a8 (r8 : Row w8 ⟨b8, 0, none⟩ (inCs y.tx.ins[i] (.slice bs1 y.tx.ins[i].wit.length cp1))) hb8=>?_))|(refine st_delete (E := ptK) (fv := Value.string) (k := y.tx.ins[i].p) rfl rfl (MapE.ext (w := w3) (by exact fx) hmp) rfl rfl (fun w5 c5 m5 => ?_); have x35 : Chg [b2] w3 w5 := Ext.chg (by exact fx) c5))
      exact ⟨i + 1, ⟨rfl, rfl, rfl, rfl, rfl, trivial⟩, ⟨(x3.trans x35).mono (by simp), by omega, by rw [delPts_take hil]; exact m5⟩, by omega⟩
    · have ei : i = y.tx.ins.length := by omega
      subst ei
      rw [List.take_of_length_le (Nat.le_refl _)] at hmp
      have ag3 := ag11.chg x3 (by simp; omega)
      have rg3 : Row w3 ⟨g, 0, none⟩ [.map (some b1), vo, .map (some b2)] := Row.of_at ag3
      have a33 := a311.chg x3 (by simp; omega)
      have o3 := o11.chg x3 (fun b hb h => by simp at h; subst h; exact n6 hb)
      have m3 := m11.step (M' := U ++ mutG g b1 b2 vo) x3 (by simp; omega) (fun b hb => .inl (by simp at hb; simp [hb])) (fun _ h => .inl h)
      have C3 : Chg (mutG g b1 b2 vo) w w3 := (C11.trans x3).mono (fun b hb => by simp at hb ⊢; grind)
      have s3 := x3.size
      clear q11 r911 ag11 a311 a911 p11 o11 m11 C11
      repeat' (first|(first|refine go1 ?_|refine zg (fun _ _=>?_)|refine zi (fun _ _=>?_))|(refine zC rfl (del_spec (g := F.graph_Graph_Drop_1) (capl := [.pointer (some ⟨b3, 0, none⟩)]) (l := l.map (fun x : Ent => x.id)) (B := B) _ (fun s => decide (s = id)) drop1_hb (Own.ext (w := w3) (by exact fx) o3) (by simp; omega) (fun W s hW => drop1_spec s W (At.chg hW (At.ext (w := w3) (by exact fx) a33) (fun h => by have := lo _ h; omega)))) ?_; rintro v6 w6 ⟨o6, c6, hb6⟩; have c36 : Chg (blkOf vo) w3 w6 := Ext.chg (by exact fx) c6; have hv1 : v6.oneCell' = true := (by obtain ⟨_, _, e⟩ := o6.sl.form; rw [e]; rfl)))
      refine st_store (b := g) (o := 1) (v := v6) rfl rfl hv1 (ag3.chg c36 n3) (by simp) (fun w14 c14 ag14 => ?_)
      have ag14 : At w14 g (.cells [.map (some b1), v6, .map (some b2)].toArray T.graph_Graph (0, 0)) := ag14
      repeat (first|refine go1 ?_|refine zg (fun _ _=>?_)|refine zi (fun _ _=>?_))
      have nb2 : b2 ∉ blkOf v6 := fun h => n6 (hb6 _ h)
      have nb1 : b1 ∉ blkOf v6 := fun h => n5 (hb6 _ h)
      have nbg : g ∉ blkOf v6 := fun h => n3 (hb6 _ h)
      have hM' : ∀ b ∈ mutG g b1 b2 v6, b ∈ mutG g b1 b2 vo := fun b hb => by
        simp only [List.mem_cons] at hb ⊢
        rcases hb with rfl | rfl | rfl | hb
        · exact .inl rfl
        · exact .inr (.inl rfl)
        · exact .inr (.inr (.inl rfl))
        · exact .inr (.inr (.inr (hb6 b hb)))
      have hMU : ∀ b ∈ U ++ mutG g b1 b2 v6, b ∈ U ++ mutG g b1 b2 vo := fun b hb => (List.mem_append.1 hb).elim (fun h => List.mem_append_left _ h) (fun h => List.mem_append_right _ (hM' b h))
      have m6 := m3.step (M' := U ++ mutG g b1 b2 v6) c36 n5 (fun b hb => .inl (by simp [hb])) (fun b hb => .inl (hMU b hb))
      have m14 := m6.step (M' := U ++ mutG g b1 b2 v6) c14 (by simp; omega) (fun b hb => by simp at hb; subst hb; exact .inl (by simp)) (fun _ h => .inl h)
      have p14 := (hmp.chg c36 n6).chg c14 (by simp; omega)
      have hC : Chg (mutG g b1 b2 vo) w w14 := ((C3.trans c36).trans c14).mono (fun b hb => by simp at hb ⊢; grind)
      obtain ⟨hym, rfl⟩ := hym
      obtain ⟨n, hnl, rfl⟩ := List.getElem_of_mem hym
      have hfi : findI l l[n].id = n := by
        unfold findI
        exact idxOf_hit hnl (decide_eq_true rfl) (fun j hj => decide_eq_false fun e => by
          have := entD_inj hG0.nodup (show j < l.length by omega) hnl (by rw [entD_get (by omega), entD_get hnl]; exact e)
          omega)
      have ed : dropG l l[n].id = (l.filter fun z => !decide (z.id = l[n].id), 0) := by
        rw [dropG, if_neg (by rw [hfi]; omega), hfi, Int.toNat_natCast, erase_filter hG0.nodup hnl rfl]
      rw [ed]
      have e6 : (l.map (·.id)).filter (fun s => !decide (s = l[n].id)) = (l.filter fun z => !decide (z.id = l[n].id)).map (·.id) := by
        rw [List.filter_map]; rfl
      rw [e6] at o6
      have o14 := o6.chg c14 (fun b hb h => by simp at h; subst h; exact nbg hb)
      have m15 := m14.step (M' := mutG g b1 b2 v6) (Chg.refl [] _) (by simp) (by simp) (fun b hb => .inl (List.mem_append_right _ hb))
      refine x_ret rfl ⟨_, rfl, ⟨b1, v6, b2, _, _, ⟨ag14, m15, p14, o14, hP.inv.del hym, ?_, hP.lo⟩, rfl⟩, hC, fun b hb => .inl (hM' b hb), ⟨b1, v6, b2, _, _, ⟨ag14, m14, p14, o14.sl, hP.inv.del hym⟩⟩⟩
      · simp only [List.nodup_cons, List.mem_cons, not_or]
        exact ⟨⟨n1, n2, nbg⟩, ⟨n4, nb1⟩, nb2, blkOf_nodup v6⟩
  · have hf : findI l id < 0 := by
      rw [hP.inv.ent] at hno
      rcases Int.lt_or_le (findI l id) 0 with h1 | h1
      · exact h1
      · have h2 := idxOf_any (p := fun x : Ent => decide (x.id = id)) (l := l)
        have h3 : l.any (fun x => decide (x.id = id)) = true := by rw [← h2]; unfold findI at h1; exact decide_eq_true h1
        obtain ⟨z, hz, h4⟩ := List.any_eq_true.1 h3
        exact absurd h4 (List.find?_eq_none.1 hno z hz)
    rw [dropG, if_pos hf]
    exact x_ret rfl ⟨_, rfl, hG0.ext x10, x10.mono (by simp), fun b hb => .inl hb, hU.ext x10⟩
theorem gdrop_gu {B g : Nat} {M U : List Nat} {l : List Ent} (id : ByteArray) (w : World) (hG : GrU w B g M U l) (hU : ∀ b ∈ U, b < w.heap.size) (hn : l.length ≤ 1000) : K.Spec Tryz.prog F.graph_Graph_Drop [.pointer (some ⟨g, 0, none⟩), .string id] w fun r w' =>
    ∃ M', r = .int .i64 (dropG l id).2 ∧ GrU w' B g M' U (dropG l id).1 ∧ Chg M w w' ∧ ∀ b ∈ M', b ∈ M ∨ w.heap.size ≤ b :=
  spec_mono (gdrop_u id w hG.gr hG.rd hn) fun _ _ ⟨M', h1, h2, h3, h4, h5⟩ => ⟨M', h1, ⟨h2, h5, fun b hb h => (h4 b hb).elim (fun h6 => hG.dj b h6 h) (fun h6 => by have := hU b h; omega)⟩, h3, h4⟩
end Go.Proofs.YtilhlcnekkkajaaGreat
end
