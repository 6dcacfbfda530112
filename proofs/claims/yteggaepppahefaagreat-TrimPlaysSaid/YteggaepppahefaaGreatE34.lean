/- Plain: what is done to a graph, as it comes in. Contracts: the transaction of an act. The engine, part 13: what came in, read at its type. The engine, part 18: what came in, nested. What comes in for the laws of graphs. DERIVED: THE SHELF's CONTRACTS AT THIS DUMP, IN PLAIN WORDS (tools/lay-plain.mjs out of 'YteggaepppahefaaGreatShelf2.lean', which tools/lay-shelf.mjs wrote): THE SAME DECLARATIONS  -/
import Derived.RowKit
import Derived.OpenShut
import Derived.Deep.Slices
import Derived.ChangeSame
import Derived.Test.YteggaepppahefaaGreatRows
import Derived.Test.YteggaepppahefaaGreatChecked
import Derived.ProofKit
import Derived.ShutString
import Derived.ChangeOld
import Derived.Below
import Derived.Shelf.Spec.SlicesGrow
import Derived.Test.YteggaepppahefaaGreatProg
import Derived.Test.YteggaepppahefaaGreatE28
import Derived.Test.YteggaepppahefaaGreatE29
import Derived.Test.YteggaepppahefaaGreatE33
set_option linter.unusedVariables false
set_option linter.unusedSimpArgs false
section
namespace Go.K
open Go
structure ActG where
  do_ : UInt8
  which : UInt8
  small : Small
  raw : Tx
  odd : Bool
instance : Inhabited ActG := ⟨⟨0, 0, default, default, false⟩⟩
def actCs (a : ActG) (fv iv ov : Value) : List Value := [u8V a.do_, u8V a.which, fv, u8V a.small.idx, u8V a.small.outs, .int .i64 a.small.fee, u8V a.small.mark, u8V a.small.long, .int .u32 a.raw.ver, iv, ov, .int .u32 a.raw.lock, .bool a.odd]
theorem actCs_tx (a : ActG) (fv iv ov : Value) : actCs a fv iv ov = [u8V a.do_, u8V a.which] ++ smallCs a.small fv ++ txCs a.raw iv ov ++ [.bool a.odd] := rfl
end Go.K
end
section
namespace Go.Proofs.YteggaepppahefaaGreat
open Go Go.K
attribute [local irreducible] regK codeK retK KOp.wp K.Spec u32 leS vnS str zero32 sha2 encT idT sizeT checkT grantB idN stepR workL reachE findI

def actR : R ActG where
  k := 13
  pos := by decide
  ag := true
  rel := fun M w cs a => ∃ fv iv ov, cs = actCs a fv iv ov ∧ SlR u8R M w fv a.small.frm ∧ SlR inR M w iv a.raw.ins ∧ SlR outR M w ov a.raw.outs ∧ is64 a.small.fee ∧ is32 a.raw.ver ∧ is32 a.raw.lock ∧ a.raw.Raw ∧ a.small.frm.length ≤ 9223372036854775807
  len := fun ⟨_, _, _, h, _⟩ => by rw [h]; rfl
  one := fun ⟨fv, iv, ov, h, h1, h2, h3, _⟩ v hv => by
    obtain ⟨_, _, rfl⟩ := h1.form
    obtain ⟨_, _, rfl⟩ := h2.form
    obtain ⟨_, _, rfl⟩ := h3.form
    subst h; simp [actCs] at hv; rcases hv with rfl | rfl | rfl | rfl | rfl | rfl | rfl | rfl | rfl | rfl | rfl | rfl | rfl <;> rfl
  step := fun ⟨fv, iv, ov, h, h1, h2, h3, h4⟩ c hL hM => ⟨fv, iv, ov, h, h1.step c hL hM, h2.step c hL hM, h3.step c hL hM, h4⟩
theorem cut_sm {t : Tx} {n : Nat} (h : t.Cut n) (hn : n ≤ 1000) : t.Sm := ⟨Nat.le_trans h.ins hn, Nat.le_trans h.outs hn, fun x hx => Nat.le_trans (h.wit x hx) (by decide)⟩
theorem txO.off {B b : Nat} {M : List Nat} {w w' : World} {ds : List Value} {t : Tx} (h : txO B ([b] ++ M) w ds t) (hb : b < B) (c : Chg [b] w w') : txO B M w' ds t := by
  obtain ⟨iv, ov, rfl, o1, o2, o3⟩ := h
  have g1 := o1.base
  have g2 := o2.base
  have n1 : b ∉ blkOf iv := fun h => by have := g1 _ h; omega
  have n2 : b ∉ blkOf ov := fun h => by have := g2 _ h; omega
  exact ⟨iv, ov, rfl, o1.step c (by intro q hq; simp at hq; subst hq; exact ⟨n1, .inl (by simp)⟩) (fun _ h => .inl (List.mem_append_right _ h)), o2.step c (by intro q hq; simp at hq; subst hq; exact ⟨n2, .inl (by simp)⟩) (fun _ h => .inl (List.mem_append_right _ h)), o3⟩
theorem txO.lower {B B' : Nat} {M : List Nat} {w : World} {ds : List Value} {t : Tx} (h : txO B M w ds t) (hb : B' ≤ B) : txO B' M w ds t := by
  obtain ⟨iv, ov, rfl, o1, o2, o3⟩ := h
  exact ⟨iv, ov, rfl, o1.lower hb, o2.lower hb, o3⟩
theorem txO.ext {B : Nat} {M : List Nat} {w w' : World} {ds : List Value} {t : Tx} (h : txO B M w ds t) (c : Ext w w') : txO B M w' ds t := by
  obtain ⟨iv, ov, rfl, o1, o2, o3⟩ := h
  exact ⟨iv, ov, rfl, o1.ext c, o2.ext c, o3⟩
theorem txO.four {B : Nat} {M : List Nat} {w : World} {ds : List Value} {t : Tx} (h : txO B M w ds t) : ds.length = 4 := by
  obtain ⟨iv, ov, rfl, o1, o2, o3⟩ := h; rfl
theorem txO.one {B : Nat} {M : List Nat} {w : World} {ds : List Value} {t : Tx} (h : txO B M w ds t) : ds.all (fun v => v.oneCell') = true := by
  obtain ⟨iv, ov, rfl, o1, o2, o3⟩ := h
  have e1 := o1.one
  have e2 := o2.one
  simp [txCs, e1, e2]; exact ⟨rfl, rfl⟩
def cutLong (z : Small) : Small := { z with long := UInt8.ofNat (z.long.toNat % 4) }
theorem cutLong_v (z : Small) : (Value.int .u8 ((z.long.toNat % 4 : Nat) : Int)) = u8V (cutLong z).long := by
  unfold u8V cutLong
  have : (UInt8.ofNat (z.long.toNat % 4)).toNat = z.long.toNat % 4 := by rw [UInt8.toNat_ofNat']; omega
  simp only [this]
end Go.Proofs.YteggaepppahefaaGreat
end
section
namespace Go.K
open Go
/-- The cells cs read at the type t, in the world W. -/
def Reads (P : Program) (W : World) (t : TypeId) (cs : List Value) : Prop :=
  ∃ (H : Type) (enc : TypeId × Value → H) (base : Nat) (spare : Nat → Bool) (held : Bool) (fuel : Nat) (x : DataW H × List MemPlace), DataW.trod enc P W base spare held fuel t cs = some x
variable {P : Program} {W : World} {t : TypeId} {cs : List Value}
theorem reads_int {k : IntKind} (hu : P.underlying t = some (.int k)) (h : Reads P W t cs) : ∃ n, cs = [.int k n] ∧ k.min ≤ n ∧ n ≤ k.max := by
  obtain ⟨H, enc, base, spare, held, fuel, x, h⟩ := h
  obtain ⟨n, h1, _, h2⟩ := DataW.trod_int hu h
  exact ⟨n, h1, by simpa [Lit.wf] using h2⟩
theorem reads_bool (hu : P.underlying t = some .bool) (h : Reads P W t cs) : ∃ b, cs = [.bool b] := by
  obtain ⟨H, enc, base, spare, held, fuel, x, h⟩ := h
  obtain ⟨b, h1, _⟩ := DataW.trod_bool hu h
  exact ⟨b, h1⟩
theorem reads_string (hu : P.underlying t = some .string) (h : Reads P W t cs) : ∃ s, cs = [.string s] ∧ s.size ≤ maxLen := by
  obtain ⟨H, enc, base, spare, held, fuel, x, h⟩ := h
  obtain ⟨b, h1, _, h2⟩ := DataW.trod_string hu h
  exact ⟨b, h1, h2⟩
theorem reads_struct {fs : Array Field} (hu : P.underlying t = some (.struct fs)) (h : Reads P W t cs) : cs.length = P.cellsOf t ∧ ∀ f ∈ fs.toList, Reads P W f.type ((cs.drop f.offset).take (P.cellsOf f.type)) := by
  obtain ⟨H, enc, base, spare, held, fuel, x, h⟩ := h
  obtain ⟨xs, n, _, rfl, hl, hlen, hf⟩ := DataW.trod_struct hu h
  refine ⟨hl, fun f hm => ?_⟩
  obtain ⟨i, hi, rfl⟩ := List.getElem_of_mem hm
  have h1 := hf i fs.toList[i] (by simp)
  cases hx : xs[i]? with
  | none => exact absurd (List.getElem?_eq_none_iff.1 hx) (by simp at hi; omega)
  | some y => rw [hx] at h1; exact ⟨H, enc, base, spare, held, n, y, h1⟩
theorem cells_row {base n : Nat} {a : Addr} {l : List Value} (h : W.cells? base a n = some l) : l.length = n ∧ Row W a l := by
  obtain ⟨_, h1, h2⟩ := World.cells?_some h
  refine ⟨h1, fun j v hj => ?_⟩
  rw [h2 j (by have := (List.getElem?_eq_some_iff.1 hj).1; omega)]; exact hj
theorem reads_slice {e : TypeId} (hu : P.underlying t = some (.slice e)) (h : Reads P W t cs) :
    cs = [.slice none 0 0] ∨ ∃ (a : Addr) (len cap : Nat), cs = [.slice (some a) len cap] ∧ len ≤ cap ∧ cap ≤ maxLen ∧ ∀ i, i < len → ∃ c, c.length = P.cellsOf e ∧ Row W (a.add (i * P.cellsOf e)) c ∧ Reads P W e c := by
  obtain ⟨H, enc, base, spare, held, fuel, x, h⟩ := h
  rcases Go.Deep.open_slice hu h with ⟨h1, _⟩ | ⟨a, len, cap, m, n, D, Pl, h1, _, hl, hm, rfl, _, hi⟩
  · exact .inl h1
  · refine .inr ⟨a, len, cap, h1, hl, hm, fun i hil => ?_⟩
    obtain ⟨c, h2, h3⟩ := hi i (by split <;> omega)
    have h4 := cells_row h2
    exact ⟨c, h4.1, h4.2, H, enc, base, spare, held, n, _, h3⟩
theorem row_append {a : Addr} {l l' : List Value} (h : Row W a l) (h' : Row W (a.add l.length) l') : Row W a (l ++ l') := by
  intro j v hj
  by_cases hl : j < l.length
  · rw [List.getElem?_append_left hl] at hj; exact h j v hj
  · rw [List.getElem?_append_right (by omega)] at hj
    have := h' _ v hj
    rwa [add_add, show l.length + (j - l.length) = j by omega] at this
theorem build_flat {α : Type} (E : Enc α) {a : Addr} : ∀ (n : Nat), (∀ i, i < n → ∃ x, Row W (a.add (i * E.k)) (E.f x)) → ∃ l : List α, l.length = n ∧ Row W a (E.flat l)
  | 0, _ => ⟨[], rfl, fun j v hj => by simp [Enc.flat] at hj⟩
  | n + 1, h => by
    obtain ⟨l, h1, h2⟩ := build_flat E n fun i hi => h i (by omega)
    obtain ⟨x, hx⟩ := h n (by omega)
    refine ⟨l ++ [x], by simp [h1], ?_⟩
    rw [E.flat_append]
    refine row_append h2 ?_
    rw [E.flat_length, h1]
    simpa [Enc.flat] using hx
theorem reads_slE {α : Type} (E : Enc α) {e : TypeId} {v : Value} (hu : P.underlying t = some (.slice e)) (hk : P.cellsOf e = E.k) (he : ∀ c, Reads P W e c → ∃ x, c = E.f x) (h : Reads P W t [v]) : ∃ l, SlE E W v l ∧ l.length ≤ maxLen := by
  rcases reads_slice hu h with h1 | ⟨a, len, cap, h1, hl, hm, hi⟩
  · simp at h1; subst h1
    exact ⟨[], SlE.nil W, by simp⟩
  · simp at h1; subst h1
    obtain ⟨l, h2, h3⟩ := build_flat (W := W) E (a := a) len fun i hil => by
      obtain ⟨c, _, h4, h5⟩ := hi i hil
      obtain ⟨x, rfl⟩ := he c h5
      exact ⟨x, by rw [← hk]; exact h4⟩
    subst h2
    exact ⟨l, ⟨E.flat_length l, some a, cap, rfl, hl, fun _ => ⟨a, rfl, h3⟩⟩, by omega⟩
end Go.K
end
section
namespace Go.K
open Go
variable {P : Program} {W : World} {t : TypeId}
theorem build_rel {α : Type} (E : R α) {a : Addr} : ∀ (n : Nat), (∀ i, i < n → ∃ c x, Row W (a.add (i * E.k)) c ∧ E.rel [] W c x) → ∃ (css : List (Vec E.k)) (l : List α), css.length = n ∧ Row W a ((vecE E.k E.pos).flat css) ∧ E.all [] W css l
  | 0, _ => ⟨[], [], rfl, fun j v hj => by simp [Enc.flat] at hj, .nil⟩
  | n + 1, h => by
    obtain ⟨css, l, h1, h2, h3⟩ := build_rel E n fun i hi => h i (by omega)
    obtain ⟨c, x, hc, hx⟩ := h n (by omega)
    refine ⟨css ++ [R.vec hx], l ++ [x], by simp [h1], ?_, h3.append (.cons hx .nil)⟩
    rw [Enc.flat_append]
    refine row_append h2 ?_
    rw [Enc.flat_length, h1]
    have e : (vecE E.k E.pos).flat [R.vec hx] = c := by show c ++ [] = c; exact List.append_nil _
    rw [e]; exact hc
theorem reads_slR {α : Type} (E : R α) {e : TypeId} {v : Value} (hu : P.underlying t = some (.slice e)) (hk : P.cellsOf e = E.k) (he : ∀ c, Reads P W e c → ∃ x, E.rel [] W c x) (h : Reads P W t [v]) : ∃ l, SlR E [] W v l ∧ l.length ≤ maxLen := by
  rcases reads_slice hu h with h1 | ⟨a, len, cap, h1, hl, hm, hi⟩
  · simp at h1; subst h1
    exact ⟨[], SlR.nil _ _, by simp⟩
  · simp at h1; subst h1
    obtain ⟨css, l, h2, h3, h4⟩ := build_rel (W := W) E (a := a) len fun i hil => by
      obtain ⟨c, _, h4, h5⟩ := hi i hil
      obtain ⟨x, hx⟩ := he c h5
      exact ⟨c, x, by rw [← hk]; exact h4, hx⟩
    subst h2
    exact ⟨l, ⟨css, ⟨Enc.flat_length _ css, some a, cap, rfl, hl, fun _ => ⟨a, rfl, h3⟩⟩, h4, fun _ b _ hm => by simp at hm⟩, by rw [← h4.length]; omega⟩
/-- A relation with something more. -/
def R.and {α : Type} (E : R α) (p : α → Prop) : R α where
  k := E.k
  pos := E.pos
  ag := E.ag
  rel := fun M w cs x => E.rel M w cs x ∧ p x
  len := fun h => E.len h.1
  one := fun h => E.one h.1
  step := fun h c hL hM => ⟨E.step h.1 c hL hM, h.2⟩
theorem All2.right {α β : Type} {r : α → β → Prop} {q : β → Prop} (h : ∀ a b, r a b → q b) : ∀ {l : List α} {m : List β}, All2 r l m → ∀ b ∈ m, q b
  | _, _, .nil, b, hb => by simp at hb
  | _, _, .cons h1 t, b, hb => by
    rcases List.mem_cons.1 hb with rfl | hb
    · exact h _ _ h1
    · exact All2.right h t b hb
theorem SlR.both {α : Type} {E : R α} {p : α → Prop} {M : List Nat} {w : World} {v : Value} {l : List α} (h : SlR (E.and p) M w v l) : SlR E M w v l ∧ ∀ x ∈ l, p x := by
  obtain ⟨css, h1, h2, h3⟩ := h
  exact ⟨⟨css, h1, h2.mono fun _ _ h => h.1, h3⟩, All2.right (fun _ _ h => h.2) h2⟩
end Go.K
end
section
namespace Go.Proofs.YteggaepppahefaaGreat
open Go Go.K Go.ChangeShapes Go.WideShapes Go.ChangeAt Go.RowKit
set_option maxRecDepth 100000
theorem own : ownKnob Tryz.prog.godebug = none := by kernel_rfl
theorem laidOut : laidOutB Tryz.prog = true := by kernel_rfl
theorem c_int : Tryz.prog.cellsOf 3 = 1 := by kernel_rfl
theorem c_u8 : Tryz.prog.cellsOf 5 = 1 := by kernel_rfl
theorem c_u32 : Tryz.prog.cellsOf 27 = 1 := by kernel_rfl
theorem c_string : Tryz.prog.cellsOf 9 = 1 := by kernel_rfl
theorem c_bool : Tryz.prog.cellsOf 4 = 1 := by kernel_rfl
theorem c_point : Tryz.prog.cellsOf 86 = 2 := by kernel_rfl
theorem c_in : Tryz.prog.cellsOf 88 = 4 := by kernel_rfl
theorem c_out : Tryz.prog.cellsOf 128 = 2 := by kernel_rfl
theorem c_tx : Tryz.prog.cellsOf 31 = 4 := by kernel_rfl
theorem c_small : Tryz.prog.cellsOf 64 = 6 := by kernel_rfl
theorem c_lin : Tryz.prog.cellsOf 28 = 1 := by kernel_rfl
theorem c_lout : Tryz.prog.cellsOf 29 = 1 := by kernel_rfl
theorem c_lstring : Tryz.prog.cellsOf 44 = 1 := by kernel_rfl
theorem c_lu8 : Tryz.prog.cellsOf 62 = 1 := by kernel_rfl
theorem reads_u8 {W : World} {c : List Value} (h : Reads Tryz.prog W 5 c) : ∃ b : UInt8, c = [u8V b] := by
  obtain ⟨n, e, h1, h2⟩ := reads_int Tryz.underlying5 h
  have h1 : 0 ≤ n := h1
  have h2 : n ≤ 255 := h2
  refine ⟨UInt8.ofNat n.toNat, ?_⟩
  have : (UInt8.ofNat n.toNat).toNat = n.toNat := by rw [UInt8.toNat_ofNat']; omega
  unfold u8V
  rw [e, this]
  congr 2; omega
theorem reads_i64 {W : World} {c : List Value} (h : Reads Tryz.prog W 3 c) : ∃ n : Int, c = [.int .i64 n] ∧ is64 n := by
  obtain ⟨n, e, h1, h2⟩ := reads_int Tryz.underlying3 h
  have h1 : -9223372036854775808 ≤ n := h1
  have h2 : n ≤ 9223372036854775807 := h2
  exact ⟨n, e, by unfold is64; omega⟩
theorem reads_u32 {W : World} {c : List Value} (h : Reads Tryz.prog W 27 c) : ∃ n : Int, c = [.int .u32 n] ∧ is32 n := by
  obtain ⟨n, e, h1, h2⟩ := reads_int Tryz.underlying27 h
  have h1 : 0 ≤ n := h1
  have h2 : n ≤ 4294967295 := h2
  exact ⟨n, e, by unfold is32; omega⟩
theorem reads_point {W : World} {c : List Value} (h : Reads Tryz.prog W 86 c) : ∃ p : Pt, c = p.cs ∧ is32 p.i := by
  obtain ⟨h1, h2⟩ := reads_struct Tryz.underlying86 h
  have l : c.length = 2 := h1.trans c_point
  match c, l with
  | [c0, c1], _ =>
    have g0 := h2 _ (List.mem_of_getElem? (i := 0) rfl)
    have g1 := h2 _ (List.mem_of_getElem? (i := 1) rfl)
    obtain ⟨s, e0, _⟩ := reads_string Tryz.underlying9 g0
    obtain ⟨i, e1, hi⟩ := reads_u32 g1
    simp only [c_string, c_u32, List.drop_zero, List.drop_succ_cons, List.take_succ_cons, List.take_zero, List.cons.injEq, and_true] at e0 e1
    exact ⟨⟨s, i⟩, by rw [e0, e1]; rfl, hi⟩
theorem reads_ins {W : World} {c : List Value} (h : Reads Tryz.prog W 88 c) : ∃ x : TIn, inR.rel [] W c x ∧ x.wit.length ≤ 9223372036854775807 := by
  obtain ⟨h1, h2⟩ := reads_struct Tryz.underlying88 h
  have l : c.length = 4 := h1.trans c_in
  match c, l with
  | [c0, c1, c2, c3], _ =>
    have g0 := h2 _ (List.mem_of_getElem? (i := 0) rfl)
    have g1 := h2 _ (List.mem_of_getElem? (i := 1) rfl)
    have g2 := h2 _ (List.mem_of_getElem? (i := 2) rfl)
    obtain ⟨p, e0, hp⟩ := reads_point g0
    obtain ⟨q, e1, hq⟩ := reads_u32 g1
    simp only [c_lstring, List.drop_zero, List.drop_succ_cons, List.take_succ_cons, List.take_zero] at g2
    obtain ⟨wl, hw, hwl⟩ := reads_slR strR Tryz.underlying44 (by kernel_rfl) (fun c hc => by
      obtain ⟨s, e, _⟩ := reads_string Tryz.underlying9 hc
      exact ⟨s, by subst e; rfl⟩) g2
    simp only [c_point, c_u32, List.drop_zero, List.drop_succ_cons, List.take_succ_cons, List.take_zero, List.cons.injEq, and_true] at e0 e1
    refine ⟨⟨p, q, wl⟩, ⟨c3, ?_, hw, hp, hq⟩, hwl⟩
    have e : p.cs = [.string p.s, .int .u32 p.i] := rfl
    rw [e] at e0
    simp only [List.cons.injEq, and_true] at e0
    rw [e0.1, e0.2, e1]; rfl
theorem reads_out {W : World} {c : List Value} (h : Reads Tryz.prog W 128 c) : ∃ y : TOut, outR.rel [] W c y := by
  obtain ⟨h1, h2⟩ := reads_struct Tryz.underlying128 h
  have l : c.length = 2 := h1.trans c_out
  match c, l with
  | [c0, c1], _ =>
    have g0 := h2 _ (List.mem_of_getElem? (i := 0) rfl)
    have g1 := h2 _ (List.mem_of_getElem? (i := 1) rfl)
    obtain ⟨v, e0, hv⟩ := reads_i64 g0
    obtain ⟨s, e1, _⟩ := reads_string Tryz.underlying9 g1
    simp only [c_string, c_int, List.drop_zero, List.drop_succ_cons, List.take_succ_cons, List.take_zero, List.cons.injEq, and_true] at e0 e1
    exact ⟨⟨v, s⟩, by rw [e0, e1]; rfl, hv⟩
theorem reads_tx {W : World} {c : List Value} (h : Reads Tryz.prog W 31 c) : ∃ t : Tx, txR.rel [] W c t ∧ t.Raw := by
  obtain ⟨h1, h2⟩ := reads_struct Tryz.underlying31 h
  have l : c.length = 4 := h1.trans c_tx
  match c, l with
  | [c0, c1, c2, c3], _ =>
    have g0 := h2 _ (List.mem_of_getElem? (i := 0) rfl)
    have g1 := h2 _ (List.mem_of_getElem? (i := 1) rfl)
    have g2 := h2 _ (List.mem_of_getElem? (i := 2) rfl)
    have g3 := h2 _ (List.mem_of_getElem? (i := 3) rfl)
    obtain ⟨v, e0, hv⟩ := reads_u32 g0
    obtain ⟨k, e3, hk⟩ := reads_u32 g3
    simp only [c_lin, c_lout, List.drop_zero, List.drop_succ_cons, List.take_succ_cons, List.take_zero] at g1 g2
    obtain ⟨ins, hi, hil⟩ := reads_slR (inR.and fun x => x.wit.length ≤ 9223372036854775807) Tryz.underlying28 c_in (fun c hc => reads_ins hc) g1
    obtain ⟨outs, ho, hol⟩ := reads_slR outR Tryz.underlying29 c_out (fun c hc => reads_out hc) g2
    simp only [c_u32, List.drop_zero, List.drop_succ_cons, List.take_succ_cons, List.take_zero, List.cons.injEq, and_true] at e0 e3
    obtain ⟨hi1, hi2⟩ := SlR.both hi
    exact ⟨⟨v, ins, outs, k⟩, ⟨c1, c2, by rw [e0, e3]; rfl, hi1, ho, hv, hk⟩, hil, hol, hi2⟩
theorem reads_small {W : World} {c : List Value} (h : Reads Tryz.prog W 64 c) : ∃ z : Small, ∃ fv, c = smallCs z fv ∧ SlR u8R [] W fv z.frm ∧ is64 z.fee ∧ z.frm.length ≤ 9223372036854775807 := by
  obtain ⟨h1, h2⟩ := reads_struct Tryz.underlying64 h
  have l : c.length = 6 := h1.trans c_small
  match c, l with
  | [c0, c1, c2, c3, c4, c5], _ =>
    have g0 := h2 _ (List.mem_of_getElem? (i := 0) rfl)
    have g1 := h2 _ (List.mem_of_getElem? (i := 1) rfl)
    have g2 := h2 _ (List.mem_of_getElem? (i := 2) rfl)
    have g3 := h2 _ (List.mem_of_getElem? (i := 3) rfl)
    have g4 := h2 _ (List.mem_of_getElem? (i := 4) rfl)
    have g5 := h2 _ (List.mem_of_getElem? (i := 5) rfl)
    simp only [c_lu8, List.drop_zero, List.drop_succ_cons, List.take_succ_cons, List.take_zero] at g0
    obtain ⟨frm, hf, hfl⟩ := reads_slR u8R Tryz.underlying62 (by kernel_rfl) (fun c hc => by
      obtain ⟨b, e⟩ := reads_u8 hc
      exact ⟨b, by subst e; rfl⟩) g0
    obtain ⟨b1, e1⟩ := reads_u8 g1
    obtain ⟨b2, e2⟩ := reads_u8 g2
    obtain ⟨f, e3, hfe⟩ := reads_i64 g3
    obtain ⟨b4, e4⟩ := reads_u8 g4
    obtain ⟨b5, e5⟩ := reads_u8 g5
    simp only [c_u8, c_int, List.drop_zero, List.drop_succ_cons, List.take_succ_cons, List.take_zero, List.cons.injEq, and_true] at e1 e2 e3 e4 e5
    exact ⟨⟨frm, b1, b2, f, b4, b5⟩, c0, by rw [e1, e2, e3, e4, e5]; rfl, hf, hfe, hfl⟩
end Go.Proofs.YteggaepppahefaaGreat
end
section
namespace Go.Proofs
open Go.Shelf
def Tryz.growS_ren : Go.Shelf.Ren := ⟨fun | 4 => 124 | n => n, fun | 22 => 44 | 25 => 9 | 3 => 3 | 4 => 4 | 9 => 9 | 20 => 20 | 0 => 0 | n => n, fun | n => n⟩
theorem Tryz.growS : Go.Proofs.Lays8.n4 Tryz.prog Tryz.growS_ren := {
  mixed := by kernel_rfl
  f4 := ⟨Tryz.f124.name, by decide, Tryz.func124.trans (congrArg some (by kernel_rfl))⟩
  t0 := Tryz.underlying0
  a0 := Tryz.isAgg0
  z0 := Tryz.sizeOf0
  v0 := Tryz.zeroValue0
  t3 := Tryz.underlying3
  a3 := Tryz.isAgg3
  z3 := Tryz.sizeOf3
  v3 := Tryz.zeroValue3
  t4 := Tryz.underlying4
  a4 := Tryz.isAgg4
  z4 := Tryz.sizeOf4
  v4 := Tryz.zeroValue4
  t9 := Tryz.underlying9
  a9 := Tryz.isAgg9
  z9 := Tryz.sizeOf9
  v9 := Tryz.zeroValue9
  t20 := Tryz.underlying20
  a20 := Tryz.isAgg20
  z20 := Tryz.sizeOf20
  v20 := Tryz.zeroValue20
  t22 := Tryz.underlying44
  a22 := Tryz.isAgg44
  z22 := Tryz.sizeOf44
  v22 := Tryz.zeroValue44 }
end Go.Proofs
end
