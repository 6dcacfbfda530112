/- The engine, part 13: what came in, read at its type. -/
import Derived.Test.YtfpdfjfjmockbaaK10
import Derived.RowKit
import Derived.OpenShut
import Derived.Deep.Slices
import Derived.ChangeSame
namespace Go.K
open Go
/-- The cells cs read at the type t, in the world W. -/
def Reads (P : Program) (W : World) (t : TypeId) (cs : List Value) : Prop :=
  ∃ (H : Type) (enc : TypeId × Value → H) (base : Nat) (spare : Nat → Bool) (held : Bool) (fuel : Nat) (x : DataW H × List MemPlace), DataW.trod enc P W base spare held fuel t cs = some x
variable {P : Program} {W : World} {t : TypeId} {cs : List Value}
theorem reads_int {k : IntKind} (hu : P.underlying t = some (.int k)) (h : Reads P W t cs) : ∃ n, cs = [.int k n] ∧ k.min ≤ n ∧ n ≤ k.max := by
  obtain ⟨H, enc, base, spare, held, fuel, x, h⟩ := h
  obtain ⟨n, h1, _, h2⟩ := DataW.trod_int hu h
  exact ⟨n, h1, by simpa [Lit.wf] using h2⟩
theorem reads_bool (hu : P.underlying t = some .bool) (h : Reads P W t cs) : ∃ b, cs = [.bool b] := by
  obtain ⟨H, enc, base, spare, held, fuel, x, h⟩ := h
  obtain ⟨b, h1, _⟩ := DataW.trod_bool hu h
  exact ⟨b, h1⟩
theorem reads_string (hu : P.underlying t = some .string) (h : Reads P W t cs) : ∃ s, cs = [.string s] ∧ s.size ≤ maxLen := by
  obtain ⟨H, enc, base, spare, held, fuel, x, h⟩ := h
  obtain ⟨b, h1, _, h2⟩ := DataW.trod_string hu h
  exact ⟨b, h1, h2⟩
theorem reads_struct {fs : Array Field} (hu : P.underlying t = some (.struct fs)) (h : Reads P W t cs) : cs.length = P.cellsOf t ∧ ∀ f ∈ fs.toList, Reads P W f.type ((cs.drop f.offset).take (P.cellsOf f.type)) := by
  obtain ⟨H, enc, base, spare, held, fuel, x, h⟩ := h
  obtain ⟨xs, n, _, rfl, hl, hlen, hf⟩ := DataW.trod_struct hu h
  refine ⟨hl, fun f hm => ?_⟩
  obtain ⟨i, hi, rfl⟩ := List.getElem_of_mem hm
  have h1 := hf i fs.toList[i] (by simp)
  cases hx : xs[i]? with
  | none => exact absurd (List.getElem?_eq_none_iff.1 hx) (by simp at hi; omega)
  | some y => rw [hx] at h1; exact ⟨H, enc, base, spare, held, n, y, h1⟩
theorem cells_row {base n : Nat} {a : Addr} {l : List Value} (h : W.cells? base a n = some l) : l.length = n ∧ Row W a l := by
  obtain ⟨_, h1, h2⟩ := World.cells?_some h
  refine ⟨h1, fun j v hj => ?_⟩
  rw [h2 j (by have := (List.getElem?_eq_some_iff.1 hj).1; omega)]; exact hj
theorem reads_slice {e : TypeId} (hu : P.underlying t = some (.slice e)) (h : Reads P W t cs) :
    cs = [.slice none 0 0] ∨ ∃ (a : Addr) (len cap : Nat), cs = [.slice (some a) len cap] ∧ len ≤ cap ∧ cap ≤ maxLen ∧ ∀ i, i < len → ∃ c, c.length = P.cellsOf e ∧ Row W (a.add (i * P.cellsOf e)) c ∧ Reads P W e c := by
  obtain ⟨H, enc, base, spare, held, fuel, x, h⟩ := h
  rcases Go.Deep.open_slice hu h with ⟨h1, _⟩ | ⟨a, len, cap, m, n, D, Pl, h1, _, hl, hm, rfl, _, hi⟩
  · exact .inl h1
  · refine .inr ⟨a, len, cap, h1, hl, hm, fun i hil => ?_⟩
    obtain ⟨c, h2, h3⟩ := hi i (by split <;> omega)
    have h4 := cells_row h2
    exact ⟨c, h4.1, h4.2, H, enc, base, spare, held, n, _, h3⟩
theorem row_append {a : Addr} {l l' : List Value} (h : Row W a l) (h' : Row W (a.add l.length) l') : Row W a (l ++ l') := by
  intro j v hj
  by_cases hl : j < l.length
  · rw [List.getElem?_append_left hl] at hj; exact h j v hj
  · rw [List.getElem?_append_right (by omega)] at hj
    have := h' _ v hj
    rwa [add_add, show l.length + (j - l.length) = j by omega] at this
theorem build_flat {α : Type} (E : Enc α) {a : Addr} : ∀ (n : Nat), (∀ i, i < n → ∃ x, Row W (a.add (i * E.k)) (E.f x)) → ∃ l : List α, l.length = n ∧ Row W a (E.flat l)
  | 0, _ => ⟨[], rfl, fun j v hj => by simp [Enc.flat] at hj⟩
  | n + 1, h => by
    obtain ⟨l, h1, h2⟩ := build_flat E n fun i hi => h i (by omega)
    obtain ⟨x, hx⟩ := h n (by omega)
    refine ⟨l ++ [x], by simp [h1], ?_⟩
    rw [E.flat_append]
    refine row_append h2 ?_
    rw [E.flat_length, h1]
    simpa [Enc.flat] using hx
theorem reads_slE {α : Type} (E : Enc α) {e : TypeId} {v : Value} (hu : P.underlying t = some (.slice e)) (hk : P.cellsOf e = E.k) (he : ∀ c, Reads P W e c → ∃ x, c = E.f x) (h : Reads P W t [v]) : ∃ l, SlE E W v l ∧ l.length ≤ maxLen := by
  rcases reads_slice hu h with h1 | ⟨a, len, cap, h1, hl, hm, hi⟩
  · simp at h1; subst h1
    exact ⟨[], SlE.nil W, by simp⟩
  · simp at h1; subst h1
    obtain ⟨l, h2, h3⟩ := build_flat (W := W) E (a := a) len fun i hil => by
      obtain ⟨c, _, h4, h5⟩ := hi i hil
      obtain ⟨x, rfl⟩ := he c h5
      exact ⟨x, by rw [← hk]; exact h4⟩
    subst h2
    exact ⟨l, ⟨E.flat_length l, some a, cap, rfl, hl, fun _ => ⟨a, rfl, h3⟩⟩, by omega⟩
end Go.K
