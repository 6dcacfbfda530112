/- Plain: what is done to a graph, as it comes in. Contracts: the transaction of an act. The engine, part 13: what came in, read at its type. The engine, part 18: what came in, nested. What comes in for the laws of graphs. DERIVED: THE SHELF's CONTRACTS AT THIS DUMP, IN PLAIN WORDS (tools/lay-plain.mjs out of 'YtbnhinpegbcbeaaGreatShelf2.lean', which tools/lay-shelf.mjs wrote): THE SAME DECLARATIONS  -/
import Derived.RowKit
import Derived.OpenShut
import Derived.Deep.Slices
import Derived.ChangeSame
import Derived.Test.YtbnhinpegbcbeaaGreatRows
import Derived.Test.YtbnhinpegbcbeaaGreatChecked
import Derived.ProofKit
import Derived.ShutString
import Derived.ChangeOld
import Derived.Below
import Derived.Shelf.Spec.SlicesGrow
import Derived.Test.YtbnhinpegbcbeaaGreatProg
import Derived.Shelf.SlicesE.DeleteFunc
import Derived.Test.YtbnhinpegbcbeaaGreatG27
import Derived.Test.YtbnhinpegbcbeaaGreatG30
set_option linter.unusedVariables false
set_option linter.unusedSimpArgs false
section
namespace Go.K
open Go
structure ActG where
  do_ : UInt8
  which : UInt8
  small : Small
  raw : Tx
  odd : Bool
instance : Inhabited ActG := ⟨⟨0, 0, default, default, false⟩⟩
def actCs (a : ActG) (fv iv ov : Value) : List Value := [u8V a.do_, u8V a.which, fv, u8V a.small.idx, u8V a.small.outs, .int .i64 a.small.fee, u8V a.small.mark, u8V a.small.long, .int .u32 a.raw.ver, iv, ov, .int .u32 a.raw.lock, .bool a.odd]
end Go.K
end
section
namespace Go.Proofs.YtbnhinpegbcbeaaGreat
open Go Go.K
attribute [local irreducible] regK codeK retK KOp.wp K.Spec u32 leS vnS str zero32 sha2 encT idT sizeT checkT grantB idN stepR workL reachE findI

def actR : R ActG where
  k := 13
  pos := by decide
  ag := true
  rel := fun M w cs a => ∃ fv iv ov, cs = actCs a fv iv ov ∧ SlR u8R M w fv a.small.frm ∧ SlR inR M w iv a.raw.ins ∧ SlR outR M w ov a.raw.outs ∧ is64 a.small.fee ∧ is32 a.raw.ver ∧ is32 a.raw.lock ∧ a.raw.Raw ∧ a.small.frm.length ≤ 9223372036854775807
  len := fun ⟨_, _, _, h, _⟩ => by rw [h]; rfl
  one := fun ⟨fv, iv, ov, h, h1, h2, h3, _⟩ v hv => by
    obtain ⟨_, _, rfl⟩ := h1.form
    obtain ⟨_, _, rfl⟩ := h2.form
    obtain ⟨_, _, rfl⟩ := h3.form
    subst h; simp [actCs] at hv; rcases hv with rfl | rfl | rfl | rfl | rfl | rfl | rfl | rfl | rfl | rfl | rfl | rfl | rfl <;> rfl
  step := fun ⟨fv, iv, ov, h, h1, h2, h3, h4⟩ c hL hM => ⟨fv, iv, ov, h, h1.step c hL hM, h2.step c hL hM, h3.step c hL hM, h4⟩
theorem cut_sm {t : Tx} {n : Nat} (h : t.Cut n) (hn : n ≤ 1000) : t.Sm := ⟨Nat.le_trans h.ins hn, Nat.le_trans h.outs hn, fun x hx => Nat.le_trans (h.wit x hx) (by decide)⟩
theorem txO.off {B b : Nat} {M : List Nat} {w w' : World} {ds : List Value} {t : Tx} (h : txO B ([b] ++ M) w ds t) (hb : b < B) (c : Chg [b] w w') : txO B M w' ds t := by
  obtain ⟨iv, ov, rfl, o1, o2, o3⟩ := h
  have g1 := o1.base
  have g2 := o2.base
  have n1 : b ∉ blkOf iv := fun h => by have := g1 _ h; omega
  have n2 : b ∉ blkOf ov := fun h => by have := g2 _ h; omega
  exact ⟨iv, ov, rfl, o1.step c (by intro q hq; simp at hq; subst hq; exact ⟨n1, .inl (by simp)⟩) (fun _ h => .inl (List.mem_append_right _ h)), o2.step c (by intro q hq; simp at hq; subst hq; exact ⟨n2, .inl (by simp)⟩) (fun _ h => .inl (List.mem_append_right _ h)), o3⟩
theorem txO.lower {B B' : Nat} {M : List Nat} {w : World} {ds : List Value} {t : Tx} (h : txO B M w ds t) (hb : B' ≤ B) : txO B' M w ds t := by
  obtain ⟨iv, ov, rfl, o1, o2, o3⟩ := h
  exact ⟨iv, ov, rfl, o1.lower hb, o2.lower hb, o3⟩
theorem txO.ext {B : Nat} {M : List Nat} {w w' : World} {ds : List Value} {t : Tx} (h : txO B M w ds t) (c : Ext w w') : txO B M w' ds t := by
  obtain ⟨iv, ov, rfl, o1, o2, o3⟩ := h
  exact ⟨iv, ov, rfl, o1.ext c, o2.ext c, o3⟩
theorem txO.four {B : Nat} {M : List Nat} {w : World} {ds : List Value} {t : Tx} (h : txO B M w ds t) : ds.length = 4 := by
  obtain ⟨iv, ov, rfl, o1, o2, o3⟩ := h; rfl
theorem txO.one {B : Nat} {M : List Nat} {w : World} {ds : List Value} {t : Tx} (h : txO B M w ds t) : ds.all (fun v => v.oneCell') = true := by
  obtain ⟨iv, ov, rfl, o1, o2, o3⟩ := h
  have e1 := o1.one
  have e2 := o2.one
  simp [txCs, e1, e2]; exact ⟨rfl, rfl⟩
def cutLong (z : Small) : Small := { z with long := UInt8.ofNat (z.long.toNat % 4) }
end Go.Proofs.YtbnhinpegbcbeaaGreat
end
section
namespace Go.K
open Go
/-- The cells cs read at the type t, in the world W. -/
def Reads (P : Program) (W : World) (t : TypeId) (cs : List Value) : Prop :=
  ∃ (H : Type) (enc : TypeId × Value → H) (base : Nat) (spare : Nat → Bool) (held : Bool) (fuel : Nat) (x : DataW H × List MemPlace), DataW.trod enc P W base spare held fuel t cs = some x
variable {P : Program} {W : World} {t : TypeId} {cs : List Value}
theorem reads_int {k : IntKind} (hu : P.underlying t = some (.int k)) (h : Reads P W t cs) : ∃ n, cs = [.int k n] ∧ k.min ≤ n ∧ n ≤ k.max := by
  obtain ⟨H, enc, base, spare, held, fuel, x, h⟩ := h
  obtain ⟨n, h1, _, h2⟩ := DataW.trod_int hu h
  exact ⟨n, h1, by simpa [Lit.wf] using h2⟩
theorem reads_bool (hu : P.underlying t = some .bool) (h : Reads P W t cs) : ∃ b, cs = [.bool b] := by
  obtain ⟨H, enc, base, spare, held, fuel, x, h⟩ := h
  obtain ⟨b, h1, _⟩ := DataW.trod_bool hu h
  exact ⟨b, h1⟩
theorem reads_string (hu : P.underlying t = some .string) (h : Reads P W t cs) : ∃ s, cs = [.string s] ∧ s.size ≤ maxLen := by
  obtain ⟨H, enc, base, spare, held, fuel, x, h⟩ := h
  obtain ⟨b, h1, _, h2⟩ := DataW.trod_string hu h
  exact ⟨b, h1, h2⟩
theorem reads_struct {fs : Array Field} (hu : P.underlying t = some (.struct fs)) (h : Reads P W t cs) : cs.length = P.cellsOf t ∧ ∀ f ∈ fs.toList, Reads P W f.type ((cs.drop f.offset).take (P.cellsOf f.type)) := by
  obtain ⟨H, enc, base, spare, held, fuel, x, h⟩ := h
  obtain ⟨xs, n, _, rfl, hl, hlen, hf⟩ := DataW.trod_struct hu h
  refine ⟨hl, fun f hm => ?_⟩
  obtain ⟨i, hi, rfl⟩ := List.getElem_of_mem hm
  have h1 := hf i fs.toList[i] (by simp)
  cases hx : xs[i]? with
  | none => exact absurd (List.getElem?_eq_none_iff.1 hx) (by simp at hi; omega)
  | some y => rw [hx] at h1; exact ⟨H, enc, base, spare, held, n, y, h1⟩
theorem cells_row {base n : Nat} {a : Addr} {l : List Value} (h : W.cells? base a n = some l) : l.length = n ∧ Row W a l := by
  obtain ⟨_, h1, h2⟩ := World.cells?_some h
  refine ⟨h1, fun j v hj => ?_⟩
  rw [h2 j (by have := (List.getElem?_eq_some_iff.1 hj).1; omega)]; exact hj
theorem reads_slice {e : TypeId} (hu : P.underlying t = some (.slice e)) (h : Reads P W t cs) :
    cs = [.slice none 0 0] ∨ ∃ (a : Addr) (len cap : Nat), cs = [.slice (some a) len cap] ∧ len ≤ cap ∧ cap ≤ maxLen ∧ ∀ i, i < len → ∃ c, c.length = P.cellsOf e ∧ Row W (a.add (i * P.cellsOf e)) c ∧ Reads P W e c := by
  obtain ⟨H, enc, base, spare, held, fuel, x, h⟩ := h
  rcases Go.Deep.open_slice hu h with ⟨h1, _⟩ | ⟨a, len, cap, m, n, D, Pl, h1, _, hl, hm, rfl, _, hi⟩
  · exact .inl h1
  · refine .inr ⟨a, len, cap, h1, hl, hm, fun i hil => ?_⟩
    obtain ⟨c, h2, h3⟩ := hi i (by split <;> omega)
    have h4 := cells_row h2
    exact ⟨c, h4.1, h4.2, H, enc, base, spare, held, n, _, h3⟩
theorem row_append {a : Addr} {l l' : List Value} (h : Row W a l) (h' : Row W (a.add l.length) l') : Row W a (l ++ l') := by
  intro j v hj
  by_cases hl : j < l.length
  · rw [List.getElem?_append_left hl] at hj; exact h j v hj
  · rw [List.getElem?_append_right (by omega)] at hj
    have := h' _ v hj
    rwa [add_add, show l.length + (j - l.length) = j by omega] at this
end Go.K
end
section
namespace Go.K
open Go
variable {P : Program} {W : World} {t : TypeId}
theorem build_rel {α : Type} (E : R α) {a : Addr} : ∀ (n : Nat), (∀ i, i < n → ∃ c x, Row W (a.add (i * E.k)) c ∧ E.rel [] W c x) → ∃ (css : List (Vec E.k)) (l : List α), css.length = n ∧ Row W a ((vecE E.k E.pos).flat css) ∧ E.all [] W css l
  | 0, _ => ⟨[], [], rfl, fun j v hj => by simp [Enc.flat] at hj, .nil⟩
  | n + 1, h => by
    obtain ⟨css, l, h1, h2, h3⟩ := build_rel E n fun i hi => h i (by omega)
    obtain ⟨c, x, hc, hx⟩ := h n (by omega)
    refine ⟨css ++ [R.vec hx], l ++ [x], by simp [h1], ?_, h3.append (.cons hx .nil)⟩
    rw [Enc.flat_append]
    refine row_append h2 ?_
    rw [Enc.flat_length, h1]
    have e : (vecE E.k E.pos).flat [R.vec hx] = c := by show c ++ [] = c; exact List.append_nil _
    rw [e]; exact hc
theorem reads_slR {α : Type} (E : R α) {e : TypeId} {v : Value} (hu : P.underlying t = some (.slice e)) (hk : P.cellsOf e = E.k) (he : ∀ c, Reads P W e c → ∃ x, E.rel [] W c x) (h : Reads P W t [v]) : ∃ l, SlR E [] W v l ∧ l.length ≤ maxLen := by
  rcases reads_slice hu h with h1 | ⟨a, len, cap, h1, hl, hm, hi⟩
  · simp at h1; subst h1
    exact ⟨[], SlR.nil _ _, by simp⟩
  · simp at h1; subst h1
    obtain ⟨css, l, h2, h3, h4⟩ := build_rel (W := W) E (a := a) len fun i hil => by
      obtain ⟨c, _, h4, h5⟩ := hi i hil
      obtain ⟨x, hx⟩ := he c h5
      exact ⟨c, x, by rw [← hk]; exact h4, hx⟩
    subst h2
    exact ⟨l, ⟨css, ⟨Enc.flat_length _ css, some a, cap, rfl, hl, fun _ => ⟨a, rfl, h3⟩⟩, h4, fun _ b _ hm => by simp at hm⟩, by rw [← h4.length]; omega⟩
/-- A relation with something more. -/
def R.and {α : Type} (E : R α) (p : α → Prop) : R α where
  k := E.k
  pos := E.pos
  ag := E.ag
  rel := fun M w cs x => E.rel M w cs x ∧ p x
  len := fun h => E.len h.1
  one := fun h => E.one h.1
  step := fun h c hL hM => ⟨E.step h.1 c hL hM, h.2⟩
theorem All2.right {α β : Type} {r : α → β → Prop} {q : β → Prop} (h : ∀ a b, r a b → q b) : ∀ {l : List α} {m : List β}, All2 r l m → ∀ b ∈ m, q b
  | _, _, .nil, b, hb => by simp at hb
  | _, _, .cons h1 t, b, hb => by
    rcases List.mem_cons.1 hb with rfl | hb
    · exact h _ _ h1
    · exact All2.right h t b hb
theorem SlR.both {α : Type} {E : R α} {p : α → Prop} {M : List Nat} {w : World} {v : Value} {l : List α} (h : SlR (E.and p) M w v l) : SlR E M w v l ∧ ∀ x ∈ l, p x := by
  obtain ⟨css, h1, h2, h3⟩ := h
  exact ⟨⟨css, h1, h2.mono fun _ _ h => h.1, h3⟩, All2.right (fun _ _ h => h.2) h2⟩
end Go.K
end
section
namespace Go.Proofs.YtbnhinpegbcbeaaGreat
open Go Go.K Go.ChangeShapes Go.WideShapes Go.ChangeAt Go.RowKit
set_option maxRecDepth 100000
theorem own : ownKnob Tryz.prog.godebug = none := by kernel_rfl
theorem laidOut : laidOutB Tryz.prog = true := by kernel_rfl
theorem c_int : Tryz.prog.cellsOf 3 = 1 := by kernel_rfl
theorem c_u8 : Tryz.prog.cellsOf 5 = 1 := by kernel_rfl
theorem c_u32 : Tryz.prog.cellsOf 28 = 1 := by kernel_rfl
theorem c_string : Tryz.prog.cellsOf 9 = 1 := by kernel_rfl
theorem c_bool : Tryz.prog.cellsOf 4 = 1 := by kernel_rfl
theorem c_point : Tryz.prog.cellsOf 60 = 2 := by kernel_rfl
theorem c_in : Tryz.prog.cellsOf 62 = 4 := by kernel_rfl
theorem c_out : Tryz.prog.cellsOf 87 = 2 := by kernel_rfl
theorem c_tx : Tryz.prog.cellsOf 32 = 4 := by kernel_rfl
theorem c_small : Tryz.prog.cellsOf 25 = 6 := by kernel_rfl
theorem c_lin : Tryz.prog.cellsOf 29 = 1 := by kernel_rfl
theorem c_lout : Tryz.prog.cellsOf 30 = 1 := by kernel_rfl
theorem c_lstring : Tryz.prog.cellsOf 41 = 1 := by kernel_rfl
theorem c_lu8 : Tryz.prog.cellsOf 23 = 1 := by kernel_rfl
theorem reads_u8 {W : World} {c : List Value} (h : Reads Tryz.prog W 5 c) : ∃ b : UInt8, c = [u8V b] := by
  obtain ⟨n, e, h1, h2⟩ := reads_int Tryz.underlying5 h
  have h1 : 0 ≤ n := h1
  have h2 : n ≤ 255 := h2
  refine ⟨UInt8.ofNat n.toNat, ?_⟩
  have : (UInt8.ofNat n.toNat).toNat = n.toNat := by rw [UInt8.toNat_ofNat']; omega
  unfold u8V
  rw [e, this]
  congr 2; omega
theorem reads_i64 {W : World} {c : List Value} (h : Reads Tryz.prog W 3 c) : ∃ n : Int, c = [.int .i64 n] ∧ is64 n := by
  obtain ⟨n, e, h1, h2⟩ := reads_int Tryz.underlying3 h
  have h1 : -9223372036854775808 ≤ n := h1
  have h2 : n ≤ 9223372036854775807 := h2
  exact ⟨n, e, by unfold is64; omega⟩
theorem reads_u32 {W : World} {c : List Value} (h : Reads Tryz.prog W 28 c) : ∃ n : Int, c = [.int .u32 n] ∧ is32 n := by
  obtain ⟨n, e, h1, h2⟩ := reads_int Tryz.underlying28 h
  have h1 : 0 ≤ n := h1
  have h2 : n ≤ 4294967295 := h2
  exact ⟨n, e, by unfold is32; omega⟩
theorem reads_point {W : World} {c : List Value} (h : Reads Tryz.prog W 60 c) : ∃ p : Pt, c = p.cs ∧ is32 p.i := by
  obtain ⟨h1, h2⟩ := reads_struct Tryz.underlying60 h
  have l : c.length = 2 := h1.trans c_point
  match c, l with
  | [c0, c1], _ =>
    have g0 := h2 _ (List.mem_of_getElem? (i := 0) rfl)
    have g1 := h2 _ (List.mem_of_getElem? (i := 1) rfl)
    obtain ⟨s, e0, _⟩ := reads_string Tryz.underlying9 g0
    obtain ⟨i, e1, hi⟩ := reads_u32 g1
    simp only [c_string, c_u32, List.drop_zero, List.drop_succ_cons, List.take_succ_cons, List.take_zero, List.cons.injEq, and_true] at e0 e1
    exact ⟨⟨s, i⟩, by rw [e0, e1]; rfl, hi⟩
theorem reads_ins {W : World} {c : List Value} (h : Reads Tryz.prog W 62 c) : ∃ x : TIn, inR.rel [] W c x ∧ x.wit.length ≤ 9223372036854775807 := by
  obtain ⟨h1, h2⟩ := reads_struct Tryz.underlying62 h
  have l : c.length = 4 := h1.trans c_in
  match c, l with
  | [c0, c1, c2, c3], _ =>
    have g0 := h2 _ (List.mem_of_getElem? (i := 0) rfl)
    have g1 := h2 _ (List.mem_of_getElem? (i := 1) rfl)
    have g2 := h2 _ (List.mem_of_getElem? (i := 2) rfl)
    obtain ⟨p, e0, hp⟩ := reads_point g0
    obtain ⟨q, e1, hq⟩ := reads_u32 g1
    simp only [c_lstring, List.drop_zero, List.drop_succ_cons, List.take_succ_cons, List.take_zero] at g2
    obtain ⟨wl, hw, hwl⟩ := reads_slR strR Tryz.underlying41 (by kernel_rfl) (fun c hc => by
      obtain ⟨s, e, _⟩ := reads_string Tryz.underlying9 hc
      exact ⟨s, by subst e; rfl⟩) g2
    simp only [c_point, c_u32, List.drop_zero, List.drop_succ_cons, List.take_succ_cons, List.take_zero, List.cons.injEq, and_true] at e0 e1
    refine ⟨⟨p, q, wl⟩, ⟨c3, ?_, hw, hp, hq⟩, hwl⟩
    have e : p.cs = [.string p.s, .int .u32 p.i] := rfl
    rw [e] at e0
    simp only [List.cons.injEq, and_true] at e0
    rw [e0.1, e0.2, e1]; rfl
theorem reads_out {W : World} {c : List Value} (h : Reads Tryz.prog W 87 c) : ∃ y : TOut, outR.rel [] W c y := by
  obtain ⟨h1, h2⟩ := reads_struct Tryz.underlying87 h
  have l : c.length = 2 := h1.trans c_out
  match c, l with
  | [c0, c1], _ =>
    have g0 := h2 _ (List.mem_of_getElem? (i := 0) rfl)
    have g1 := h2 _ (List.mem_of_getElem? (i := 1) rfl)
    obtain ⟨v, e0, hv⟩ := reads_i64 g0
    obtain ⟨s, e1, _⟩ := reads_string Tryz.underlying9 g1
    simp only [c_string, c_int, List.drop_zero, List.drop_succ_cons, List.take_succ_cons, List.take_zero, List.cons.injEq, and_true] at e0 e1
    exact ⟨⟨v, s⟩, by rw [e0, e1]; rfl, hv⟩
theorem reads_tx {W : World} {c : List Value} (h : Reads Tryz.prog W 32 c) : ∃ t : Tx, txR.rel [] W c t ∧ t.Raw := by
  obtain ⟨h1, h2⟩ := reads_struct Tryz.underlying32 h
  have l : c.length = 4 := h1.trans c_tx
  match c, l with
  | [c0, c1, c2, c3], _ =>
    have g0 := h2 _ (List.mem_of_getElem? (i := 0) rfl)
    have g1 := h2 _ (List.mem_of_getElem? (i := 1) rfl)
    have g2 := h2 _ (List.mem_of_getElem? (i := 2) rfl)
    have g3 := h2 _ (List.mem_of_getElem? (i := 3) rfl)
    obtain ⟨v, e0, hv⟩ := reads_u32 g0
    obtain ⟨k, e3, hk⟩ := reads_u32 g3
    simp only [c_lin, c_lout, List.drop_zero, List.drop_succ_cons, List.take_succ_cons, List.take_zero] at g1 g2
    obtain ⟨ins, hi, hil⟩ := reads_slR (inR.and fun x => x.wit.length ≤ 9223372036854775807) Tryz.underlying29 c_in (fun c hc => reads_ins hc) g1
    obtain ⟨outs, ho, hol⟩ := reads_slR outR Tryz.underlying30 c_out (fun c hc => reads_out hc) g2
    simp only [c_u32, List.drop_zero, List.drop_succ_cons, List.take_succ_cons, List.take_zero, List.cons.injEq, and_true] at e0 e3
    obtain ⟨hi1, hi2⟩ := SlR.both hi
    exact ⟨⟨v, ins, outs, k⟩, ⟨c1, c2, by rw [e0, e3]; rfl, hi1, ho, hv, hk⟩, hil, hol, hi2⟩
theorem reads_small {W : World} {c : List Value} (h : Reads Tryz.prog W 25 c) : ∃ z : Small, ∃ fv, c = smallCs z fv ∧ SlR u8R [] W fv z.frm ∧ is64 z.fee ∧ z.frm.length ≤ 9223372036854775807 := by
  obtain ⟨h1, h2⟩ := reads_struct Tryz.underlying25 h
  have l : c.length = 6 := h1.trans c_small
  match c, l with
  | [c0, c1, c2, c3, c4, c5], _ =>
    have g0 := h2 _ (List.mem_of_getElem? (i := 0) rfl)
    have g1 := h2 _ (List.mem_of_getElem? (i := 1) rfl)
    have g2 := h2 _ (List.mem_of_getElem? (i := 2) rfl)
    have g3 := h2 _ (List.mem_of_getElem? (i := 3) rfl)
    have g4 := h2 _ (List.mem_of_getElem? (i := 4) rfl)
    have g5 := h2 _ (List.mem_of_getElem? (i := 5) rfl)
    simp only [c_lu8, List.drop_zero, List.drop_succ_cons, List.take_succ_cons, List.take_zero] at g0
    obtain ⟨frm, hf, hfl⟩ := reads_slR u8R Tryz.underlying23 (by kernel_rfl) (fun c hc => by
      obtain ⟨b, e⟩ := reads_u8 hc
      exact ⟨b, by subst e; rfl⟩) g0
    obtain ⟨b1, e1⟩ := reads_u8 g1
    obtain ⟨b2, e2⟩ := reads_u8 g2
    obtain ⟨f, e3, hfe⟩ := reads_i64 g3
    obtain ⟨b4, e4⟩ := reads_u8 g4
    obtain ⟨b5, e5⟩ := reads_u8 g5
    simp only [c_u8, c_int, List.drop_zero, List.drop_succ_cons, List.take_succ_cons, List.take_zero, List.cons.injEq, and_true] at e1 e2 e3 e4 e5
    exact ⟨⟨frm, b1, b2, f, b4, b5⟩, c0, by rw [e1, e2, e3, e4, e5]; rfl, hf, hfe, hfl⟩
end Go.Proofs.YtbnhinpegbcbeaaGreat
end
section
namespace Go.Proofs
open Go.Shelf
def Tryz.growS_ren : Go.Shelf.Ren := ⟨fun | 4 => 147 | n => n, fun | 22 => 41 | 25 => 9 | 3 => 3 | 4 => 4 | 9 => 9 | 20 => 20 | 0 => 0 | n => n, fun | n => n⟩
theorem Tryz.growS : Go.Proofs.Lays8.n4 Tryz.prog Tryz.growS_ren := {
  mixed := by kernel_rfl
  f4 := ⟨Tryz.f147.name, by decide, Tryz.func147.trans (congrArg some (by kernel_rfl))⟩
  t0 := Tryz.underlying0
  a0 := Tryz.isAgg0
  z0 := Tryz.sizeOf0
  v0 := Tryz.zeroValue0
  t3 := Tryz.underlying3
  a3 := Tryz.isAgg3
  z3 := Tryz.sizeOf3
  v3 := Tryz.zeroValue3
  t4 := Tryz.underlying4
  a4 := Tryz.isAgg4
  z4 := Tryz.sizeOf4
  v4 := Tryz.zeroValue4
  t9 := Tryz.underlying9
  a9 := Tryz.isAgg9
  z9 := Tryz.sizeOf9
  v9 := Tryz.zeroValue9
  t20 := Tryz.underlying20
  a20 := Tryz.isAgg20
  z20 := Tryz.sizeOf20
  v20 := Tryz.zeroValue20
  t22 := Tryz.underlying41
  a22 := Tryz.isAgg41
  z22 := Tryz.sizeOf41
  v22 := Tryz.zeroValue41 }
end Go.Proofs
end
section
namespace Go.Proofs
open Go.Shelf Go.RowKit Go.Lib Go.Sort
variable {P : Program} {ρ : Ren} {α : Type} [Inhabited α]
set_option maxHeartbeats 2000000 in
set_option maxRecDepth 100000 in
/-- Of no element nothing is struck. -/
theorem YtbnhinpegbcbeaaGreat.del_empty (L : SlLaysH.n10 P ρ) (a : Option Addr) (c : Nat) (fv : Value) (w : World) : Calls P (ρ.f 10) #[.slice a 0 c, fv] w fun e w' => e = .returned (.slice a 0 c) ∧ w' = w := by
  have mixed := L.mixed; have t0 := L.t0; have a0 := L.a0; have z0 := L.z0; have v0 := L.v0; have t3 := L.t3; have a3 := L.a3; have z3 := L.z3; have v3 := L.v3; have t4 := L.t4; have a4 := L.a4; have z4 := L.z4; have v4 := L.v4; have t22 := L.t22; have a22 := L.a22; have z22 := L.z22; have v22 := L.v22; have a23 := L.a23; have z23 := L.z23; have t25 := L.t25; have a25 := L.a25; have z25 := L.z25; have v25 := L.v25
  have e6 : ∀ args w, (callFunc (ρ.f 6) args).run P w = .ok (.enter (ρ.f 6) args) w := L.f6.enters rfl
  have hIF := AnyE.slices_IndexFunc_empty (P := P) (ρ := ρ) { L with } a c fv w
  obtain ⟨_, _, FG⟩ := L.f10
  go_enter FG, SlBodyH.n10_ntmps ρ
  go_wp2_with (go_at_fn (ρ.f 6); refine hIF.mono ?_; rintro e w' ⟨rfl, rfl⟩)
  go_ret
  exact ⟨rfl, rfl⟩
end Go.Proofs
namespace Go.Proofs.YtbnhinpegbcbeaaGreat
open Go Go.K
theorem info9 : ∃ i0, Tryz.prog.info? 9 = some i0 ∧ i0.zero = some (.string ⟨#[]⟩) ∧ i0.size = 1 ∧ i0.bytes = 16 := by
  have h : (Tryz.prog.info? 9).map (fun i => (i.zero, i.size, i.bytes)) = some (some (.string ⟨#[]⟩), 1, 16) := by kernel_rfl
  obtain ⟨i0, h1, h2⟩ := Option.map_eq_some_iff.1 h
  simp only [Prod.mk.injEq] at h2
  exact ⟨i0, h1, h2⟩
theorem grow_spec (n : Nat) (hn : n ≤ 100000000) (w : World) : K.Spec Tryz.prog F.slices_Grow_L_string_string [.slice none 0 0, .int .i64 (n : Nat)] w fun r w' => Own strE T.string w.heap.size w' r [] ∧ Ext w w' := by
  rcases Nat.eq_zero_or_pos n with h | h
  · subst h
    exact (Any8.slices_Grow_room Tryz.growS none 0 0 0 w (by omega) (by omega) (by omega) (by omega)).mono fun e w' ⟨he, hw⟩ => ⟨_, he, Own.nil _ _ _, hw ▸ Ext.refl _⟩
  · obtain ⟨i0, h1, h2, h3, h4⟩ := info9
    exact (Any8.slices_Grow_grow Tryz.growS i0 (.string ⟨#[]⟩) h1 h2 (by omega) none 0 0 n [] w (by omega) (by omega) (by rw [h4]; omega) (by omega) (by simp) (by simp) (by simp)).mono fun e w' ⟨he, hw⟩ => ⟨_, he, by
      have hg := grownCap_ge w (0 + n) 0 9
      have hc : grownCap w (0 + n) 0 (Tryz.growS_ren.t 25) = grownCap w (0 + n) 0 9 := rfl
      subst hw
      rw [hc]
      refine ⟨.inr ⟨w.heap.size, _, (Builtin.zeroCells (Value.string ⟨#[]⟩).cells (0 + n - 0) ++ Builtin.zeroCells (Value.string ⟨#[]⟩).cells (grownCap w (0 + n) 0 9 - (0 + n))).toList, rfl, Nat.le_refl _, ?_, ?_⟩, (Ext.drew w).trans (Ext.alloc _ _)⟩
      · have e : ∀ X Y : Array Value, (#[] : Array Value) ++ X ++ Y = (strE.flat [] ++ (X ++ Y).toList).toArray := fun X Y => by simp [Enc.flat]
        rw [show ([] : List Value).toArray = #[] from rfl, e]
        exact At.new w.drew _
      · have e : (Value.string ⟨#[]⟩).cells.size = 1 := rfl
        simp only [Enc.flat, List.flatMap_nil, List.nil_append, Array.length_toList, Array.size_append, size_zeroCells, e]
        show _ = _ * 1
        omega⟩
theorem modify_at {w : World} {b : Nat} {cs : Array Value} {t : TypeId} {f : Nat × Nat} (h : At w b (.cells cs t f)) (g : Array Value → Array Value) : At (Sort.mapBlock w b g) b (.cells (g cs) t f) := by
  unfold At at h ⊢
  simp [Sort.mapBlock, Array.getElem?_modify, h, Sort.onCells]
theorem mapBlock_chg (w : World) (b : Nat) (g : Array Value → Array Value) : Chg [b] w (Sort.mapBlock w b g) :=
  ⟨rfl, rfl, rfl, by simp [Sort.mapBlock], fun c _ hn => by
    show (w.heap.modify b _)[c]? = _
    rw [Array.getElem?_modify, if_neg (by simp at hn; omega)]⟩
theorem ahead_ext (w : World) (q : Nat) : Ext w (Sort.ahead w q) := ⟨rfl, rfl, rfl, Nat.le_refl _, fun _ _ _ => rfl⟩
theorem put_row (D l : List ByteArray) (junk : List Value) (h : D.length = l.length) : Sort.putCells Value.string 0 D.toArray (l.map Value.string ++ junk).toArray = (D.map Value.string ++ junk).toArray := by
  apply Array.ext
  · simp [Sort.putCells, h]
  · intro k h1 h2
    simp only [Sort.putCells, Array.getElem_mapIdx, List.getElem_toArray, Nat.zero_add, Nat.sub_zero, List.size_toArray]
    by_cases hk : k < D.length
    · rw [if_pos ⟨Nat.zero_le _, hk⟩, List.getElem_append_left (by simpa using hk)]
      simp [getElem!_pos, hk]
    · rw [if_neg (by omega), List.getElem_append_right (by simp; omega), List.getElem_append_right (by simp; omega)]
      simp [h]
theorem del_spec {g : FuncId} {capl : List Value} {v : Value} {l : List ByteArray} {B : Nat} (w : World) (p : ByteArray → Bool) (hb : hasBody Tryz.prog g = true) (ho : Own strE T.string B w v l) (hn : l.length ≤ 100000000)
    (hp : ∀ (W : World) (x : ByteArray), Chg (blkOf v) w W → K.Spec Tryz.prog g (Value.string x :: capl) W fun r w' => r = .bool (p x) ∧ w' = W) :
    K.Spec Tryz.prog F.slices_DeleteFunc_L_string_string [v, .func (.func g) #[] capl.toArray] w fun r w' => Own strE T.string B w' r (l.filter fun x => !p x) ∧ Chg (blkOf v) w w' ∧ ∀ b ∈ blkOf r, b ∈ blkOf v := by
  have ho0 := ho
  rcases ho with ⟨rfl, rfl⟩ | ⟨b, cap, junk, rfl, hB, hat, hlen⟩
  · exact (YtbnhinpegbcbeaaGreat.del_empty Tryz.deleteFunc none 0 (.func (.func g) #[] capl.toArray) w).mono fun e w' ⟨he, hw⟩ => ⟨_, he, .inl ⟨rfl, by simp⟩, hw ▸ Chg.refl _ _, by simp⟩
  · have hcap : l.length ≤ cap := by
      rw [List.length_append, Enc.flat_length] at hlen
      have e : strE.k = 1 := rfl
      rw [e] at hlen; omega
    have hflat : ∀ m : List ByteArray, strE.flat m = m.map Value.string := fun m => by
      induction m with
      | nil => rfl
      | cons x m ih => simp only [Enc.flat, List.flatMap_cons, List.map_cons] at ih ⊢; rw [ih]; rfl
    rw [hflat] at hat hlen
    have hcall : ∀ (W : World) (x : ByteArray), Chg [b] w W → FnGives Tryz.prog g capl.toArray #[Value.string x] (.bool (p x)) W := fun W x hc => by
      unfold FnGives
      have := hp W x (by simpa [blkOf] using hc)
      have e : (#[Value.string x] ++ capl.toArray : Array Value) = (Value.string x :: capl).toArray := by simp
      rw [e]
      exact Calls.mono this fun e w' ⟨r, he, hr, hw⟩ => ⟨by rw [he, hr], 0, by rw [hw]; rfl⟩
    have hH : Sort.Holds Value.string w b 0 l.toArray := fun j hj => by
      have hj' : j < l.length := by simpa using hj
      have hat' : w.heap[b]? = some (.cells (l.map Value.string ++ junk).toArray T.string (0, 0)) := hat
      refine ⟨?_, ?_⟩
      · simp only [World.cell?, hat', Nat.zero_add]
        simp [hj', List.getElem?_append_left, getElem!_pos]
      · simp [World.frozen?, hat']
    have key := AnyE.slices_DeleteFunc Tryz.deleteFunc Value.string (fun _ => rfl) p g capl.toArray (fun args W => run_enter hb) ⟨#[]⟩ Tryz.zeroValue9 b 0 cap l.toArray w (fun W x hb => hcall W x (by
        exact ⟨hb.os, hb.tape, hb.output, hb.size, fun c hc _ => hb.block c hc⟩)) (fun n os dk x hd => hcall _ x ?_) hH (by simp; omega) (by simpa using hcap)
    · simp only [List.size_toArray] at key
      refine Calls.mono (show Calls Tryz.prog F.slices_DeleteFunc_L_string_string #[.slice (some ⟨b, 0, none⟩) l.length cap, .func (.func g) #[] capl.toArray] w _ from key) ?_
      rintro e w' ⟨he, q, rfl⟩
      have hfl : (l.filter fun x => !p x).length ≤ l.length := List.length_filter_le _ _
      have hm := modify_at (At.ext (ahead_ext w q) hat) (Sort.putCells Value.string 0 ((l.filter fun x => !p x) ++ List.replicate (l.length - (l.filter fun x => !p x).length) (⟨#[]⟩ : ByteArray)).toArray)
      rw [put_row _ _ _ (by simp; omega), List.map_append, List.append_assoc] at hm
      refine ⟨_, he, .inr ⟨b, cap, _, rfl, hB, by rw [hflat]; exact hm, ?_⟩, ?_, fun c hc => by simpa [blkOf] using hc⟩
      · rw [hflat]
        simp only [List.length_append, List.length_map, List.length_replicate] at hlen ⊢
        rw [← hlen]; omega
      · exact (Ext.chg (ahead_ext w q) (mapBlock_chg _ _ _)).mono (fun c hc => .inl (by simpa [blkOf] using hc))
    · have c1 : Chg [b] w (Sort.putRow Value.string (Sort.ahead w n) b 0 dk) := Ext.chg (ahead_ext w n) (mapBlock_chg _ _ _)
      refine Chg.ext c1 ⟨rfl, rfl, rfl, by simp only [sortWorld, Sort.grow, Array.size_append]; omega, fun c hc _ => ?_⟩
      show ((Sort.putRow Value.string (Sort.ahead w n) b 0 dk).heap ++ os)[c]? = _
      rw [Array.getElem?_append_left hc]
attribute [local irreducible] regK codeK retK KOp.wp K.Spec u32 leS vnS str zero32 sha2 encT idT

theorem take_eq {α : Type} {l m : List α} {i : Nat} (h : l.take i = m.take i) (h1 : i < l.length) (h2 : i < m.length) (e : l[i] = m[i]) : l.take (i + 1) = m.take (i + 1) := by
  rw [List.take_succ_eq_append_getElem h1, List.take_succ_eq_append_getElem h2, h, e]
theorem equal_spec {v u : Value} {l m : List ByteArray} (w : World) (hl : SlE strE w v l) (hm : SlE strE w u m) (hn : l.length ≤ 100000000) : K.Spec Tryz.prog F.slices_Equal_L_string_string [v, u] w fun r w' => r = .bool (decide (l = m)) ∧ Ext w w' := by
  refine s_slices_Equal_L_string_string rfl ?_
  unfold k_slices_Equal_L_string_string
  refine ox ?_
  repeat' (first|(first|refine go1 ?_|refine zg (fun _ _=>?_)|refine zi (fun _ _=>?_))|refine zL rfl (fun h => ?_) (fun h => ?_)|refine zN rfl (fun h => ?_) (fun h => ?_)|(refine st_len rfl hl ?_)|(refine st_len rfl hm ?_)|(refine c_loopV (fun (i : Nat) w' => Ext w w' ∧ i ≤ l.length ∧ l.take i = m.take i) (fun i => [(0, v), (1, u), (12, .int .i64 (l.length : Nat)), (13, .int .i64 i)]) (fun i => l.length - i) 0 ⟨rfl, rfl, rfl, rfl, trivial⟩ ⟨Ext.refl _, by omega, rfl⟩ ?_; rintro i ρ w1 ⟨x1, hi, hk⟩)|(refine st_elemE (d := some 18) rfl rfl (SlE.ext (w := w) (by exact fx) hl) rfl (by omega) (fun ad r1 => ?_))|(refine st_elemE (d := some 22) rfl rfl (SlE.ext (w := w) (by exact fx) hm) rfl (by omega) (fun ad r1 => ?_)))
  all_goals first
    | (refine x_ret rfl ⟨congrArg Value.bool (decide_eq_false fun e => ?_).symm, by exact fx⟩; subst e; first | exact h rfl | exact absurd rfl (by assumption))
    | exact ⟨i + 1, ⟨rfl, rfl, rfl, rfl, trivial⟩, ⟨by exact fx, by omega, take_eq hk (by omega) (by omega) (by first | assumption | (simp_all; done))⟩, by omega⟩
    | (refine x_ret rfl ⟨congrArg Value.bool (decide_eq_true ?_).symm, by exact fx⟩; rwa [List.take_of_length_le (by omega), List.take_of_length_le (by omega)] at hk)
    | trace_state
theorem indexS_spec {v : Value} {l : List ByteArray} (a : ByteArray) (w : World) (hs : SlE strE w v l) (hn : l.length ≤ 1000000000000) : K.Spec Tryz.prog F.slices_Index_L_string_string [v, .string a] w fun r w' => r = .int .i64 (idxOf (fun x => decide (a = x)) l) ∧ w' = w := by
  refine s_slices_Index_L_string_string rfl ?_
  unfold k_slices_Index_L_string_string
  refine ox ?_
  repeat (first|refine go ?_|refine zg (fun _ _=>?_)|refine zi (fun _ _=>?_))
  refine st_len rfl hs ?_
  repeat (first|refine go ?_|refine zg (fun _ _=>?_)|refine zi (fun _ _=>?_))
  refine c_loopV (fun (i : Nat) w' => w' = w ∧ i ≤ l.length ∧ ∀ j, j < i → ∀ h : j < l.length, a ≠ l[j]) (fun i => [(0, v), (1, .string a), (6, v), (7, .int .i64 (l.length : Nat)), (8, .int .i64 i)]) (fun i => l.length - i) 0 ⟨rfl, rfl, rfl, rfl, rfl, trivial⟩ ⟨rfl, by omega, by omega⟩ ?_
  rintro i ρ w1 ⟨rfl, hi, hk⟩
  repeat (first|refine go ?_|refine zg (fun _ _=>?_)|refine zi (fun _ _=>?_))
  refine zL rfl (fun h => ?_) (fun h => ?_)
  · have hil : i < l.length := by omega
    repeat (first|refine go ?_|refine zg (fun _ _=>?_)|refine zi (fun _ _=>?_))
    refine st_elemE rfl rfl hs rfl hil (fun ad r1 => ?_)
    repeat (first|refine go ?_|refine zg (fun _ _=>?_)|refine zi (fun _ _=>?_))
    refine zL rfl (fun h2 => ?_) (fun h2 => ?_)
    · repeat (first|refine go ?_|refine zg (fun _ _=>?_)|refine zi (fun _ _=>?_))
      exact x_ret rfl ⟨congrArg (Value.int .i64) (idxOf_hit hil (by simpa using h2) (fun j hj => by simpa using hk j hj (by omega))).symm, rfl⟩
    · repeat (first|refine go ?_|refine zg (fun _ _=>?_)|refine zi (fun _ _=>?_))
      refine ⟨i + 1, ⟨rfl, rfl, rfl, rfl, rfl, trivial⟩, ⟨rfl, by omega, fun j hj hl => ?_⟩, by omega⟩
      by_cases hji : j = i
      · subst hji; exact h2
      · exact hk j (by omega) hl
  · repeat (first|refine go ?_|refine zg (fun _ _=>?_)|refine zi (fun _ _=>?_))
    exact x_ret rfl ⟨congrArg (Value.int .i64) (idxOf_miss (fun j hj => by simpa using hk j (by omega) hj)).symm, rfl⟩
theorem containsS_spec {v : Value} {l : List ByteArray} (a : ByteArray) (w : World) (hs : SlE strE w v l) (hn : l.length ≤ 1000000000000) : K.Spec Tryz.prog F.slices_Contains_L_string_string [v, .string a] w fun r w' => r = .bool (l.any fun x => decide (a = x)) ∧ w' = w := by
  refine s_slices_Contains_L_string_string rfl ?_
  unfold k_slices_Contains_L_string_string
  refine ox ?_
  repeat (first|refine go ?_|refine zg (fun _ _=>?_)|refine zi (fun _ _=>?_))
  refine zC rfl (indexS_spec a _ hs hn) ?_
  rintro _ _ ⟨rfl, rfl⟩
  repeat (first|refine go ?_|refine zg (fun _ _=>?_)|refine zi (fun _ _=>?_))
  exact x_ret rfl ⟨congrArg Value.bool idxOf_any, rfl⟩
theorem OwnR.toOwn {α : Type} {F : Enc α} {ag : Bool} {t : TypeId} {B : Nat} {M : List Nat} {w : World} {v : Value} {l : List α} (h : OwnR (R.flat F ag) t B M w v l) : Own F t B w v l := by
  obtain ⟨css, h1, h2⟩ := h
  have hlen := h2.length
  have e : css = l.map F.vec := by
    clear h1 hlen
    induction h2 with
    | nil => rfl
    | cons hx _ ih => rw [ih, List.map_cons]; congr 1; exact Subtype.ext hx
  subst e
  rcases h1 with ⟨rfl, h⟩ | ⟨b, cap, junk, rfl, hB, hat, hl⟩
  · exact .inl ⟨rfl, List.map_eq_nil_iff.1 h⟩
  · refine .inr ⟨b, cap, junk, congrArg (fun n => Value.slice (some ⟨b, 0, none⟩) n cap) hlen, hB, ?_, ?_⟩
    · rw [← flat_vecs]; exact hat
    · rw [← flat_vecs]; exact hl
def cat2 (l1 l2 : List ByteArray) : Nat → List ByteArray
  | 0 => []
  | 1 => l1
  | _ => l1 ++ l2
theorem cat2_len (l1 l2 : List ByteArray) (i : Nat) : (cat2 l1 l2 i).length ≤ l1.length + l2.length := by
  match i with
  | 0 => simp [cat2]
  | 1 => simp [cat2]
  | _ + 2 => simp [cat2]
theorem lt2 {n : Nat} (h : (n : Int) < 2) : n = 0 ∨ n = 1 := by omega
theorem concat_spec {bq : Nat} {v1 v2 : Value} {l1 l2 : List ByteArray} (w : World) (h : At w bq (.cells [v1, v2].toArray T.L_string (0, 0))) (h1 : SlE strE w v1 l1) (h2 : SlE strE w v2 l2) (hn : l1.length + l2.length ≤ 100000000) : K.Spec Tryz.prog F.slices_Concat_L_string_string [.slice (some ⟨bq, 0, none⟩) 2 2] w fun r w' => Own strE T.string w.heap.size w' r (l1 ++ l2) ∧ Ext w w' := by
  have hr : Row w ⟨bq, 0, none⟩ [v1, v2] := Row.of_at h
  have hq := h.lt
  refine s_slices_Concat_L_string_string rfl ?_
  unfold k_slices_Concat_L_string_string
  refine ox ?_
  repeat' (first|(first|refine go1 ?_|refine zg (fun _ _=>?_)|refine zi (fun _ _=>?_))|refine zL rfl (fun h => ?_) (fun h => ?_)|(refine (lt2 (n := i) h).elim (fun e => ?_) (fun e => ?_) <;> subst e)|(refine (lt2 (n := j) h).elim (fun e => ?_) (fun e => ?_) <;> subst e)|(refine st_index rfl rfl (by omega) ?_)|(refine st_len rfl (SlE.ext (w := w) (by exact fx) h1) ?_)|(refine st_len rfl (SlE.ext (w := w) (by exact fx) h2) ?_)|(refine st_append (E := strE) (v := vo) (l2 := l1) rfl (ho4.ext (by exact fx)) (Ext.size (w := w) (by exact fx)) rfl rfl (SlE.cells (SlE.ext (w := w) (by exact fx) h1)) rfl rfl (by have := cat2_len l1 l2 0; omega) (fun v5 w5 ho5 c5 => ?_))|(refine st_append (E := strE) (v := vo) (l2 := l2) rfl (ho4.ext (by exact fx)) (Ext.size (w := w) (by exact fx)) rfl rfl (SlE.cells (SlE.ext (w := w) (by exact fx) h2)) rfl rfl (by have := cat2_len l1 l2 1; omega) (fun v6 w6 ho6 c6 => ?_))|(refine c_loopV (fun (i : Nat) w' => Ext w w' ∧ i ≤ 2) (fun i => [(0, .slice (some ⟨bq, 0, none⟩) 2 2), (3, .int .i64 ((cat2 l1 l2 i).length : Nat)), (9, .slice (some ⟨bq, 0, none⟩) 2 2), (10, .int .i64 2), (11, .int .i64 i)]) (fun i => 2 - i) 0 ⟨rfl, rfl, rfl, rfl, rfl, trivial⟩ ⟨Ext.refl _, by omega⟩ ?_; rintro i ρ w2 ⟨x2, hi⟩; have hcl := cat2_len l1 l2 i)|(refine zC rfl (grow_spec (cat2 l1 l2 i).length (by omega) _) ?_; rintro v3 w3 ⟨ho3, x3⟩)|(refine c_loopV (fun (p : Nat × Value) w' => Ext w w' ∧ p.1 ≤ 2 ∧ Own strE T.string w.heap.size w' p.2 (cat2 l1 l2 p.1)) (fun p => [(6, p.2), (25, .slice (some ⟨bq, 0, none⟩) 2 2), (26, .int .i64 2), (27, .int .i64 p.1)]) (fun p => 2 - p.1) (0, v3) ⟨rfl, rfl, rfl, rfl, trivial⟩ ⟨by exact fx, by simp, ho3.lower x2.size⟩ ?_; rintro ⟨j, vo⟩ ρ4 w4 ⟨x4, hj, ho4⟩; simp only at hj ho4; dsimp only))
  all_goals first
    | exact absurd (by assumption : _ < (0 : Int)) (by omega)
    | exact ⟨1, ⟨rfl, congrArg (Value.int .i64) (by show _ = ((l1.length : Nat) : Int); simp [cat2]), rfl, rfl, rfl, trivial⟩, ⟨by exact fx, by omega⟩, by omega⟩
    | exact ⟨2, ⟨rfl, congrArg (Value.int .i64) (by show _ = (((l1 ++ l2).length : Nat) : Int); simp [cat2]), rfl, rfl, rfl, trivial⟩, ⟨by exact fx, by omega⟩, by omega⟩
    | exact ⟨(1, v5), ⟨rfl, rfl, rfl, rfl, trivial⟩, ⟨(Ext.chg (w := w) (by exact fx) c5).mono (fun b hb => .inr (ho4.base b (by simpa using hb))), by simp, by simpa [cat2] using ho5⟩, by simp⟩
    | exact ⟨(2, v6), ⟨rfl, rfl, rfl, rfl, trivial⟩, ⟨(Ext.chg (w := w) (by exact fx) c6).mono (fun b hb => .inr (ho4.base b (by simpa using hb))), by simp, by simpa [cat2] using ho6⟩, by simp⟩
    | (obtain rfl : j = 2 := by omega
       exact x_ret rfl ⟨ho4, by exact fx⟩)
    | trace_state
end Go.Proofs.YtbnhinpegbcbeaaGreat
end
