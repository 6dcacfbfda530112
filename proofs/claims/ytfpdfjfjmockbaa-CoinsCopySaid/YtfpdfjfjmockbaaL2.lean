/- Plain: sets of coins as lists of pairs. -/
import Derived.Test.YtfpdfjfjmockbaaL1
namespace Go.K
open Go
abbrev En := Pt × Cn
def entE : Enc En := ⟨fun e => e.1.cs ++ e.2.cs, 5, fun _ => rfl, by decide, by
  intro x v hv
  simp [Pt.cs, Cn.cs] at hv
  rcases hv with rfl | rfl | rfl | rfl | rfl <;> rfl⟩
def En.val (e : En) : Value := .agg #[.string e.1.s, .int .u32 e.1.i, .int .i64 e.2.v, .string e.2.s, .int .i64 e.2.h]
def ptK : KEnc Pt := ⟨Pt.val, true, [.s, .i], by
  intro a b
  cases a; cases b
  simp [Pt.val, keyEq, cellsEq, cellEq, Pt.mk.injEq]
  , fun a => rfl⟩
def tot (m : List En) : Int := (m.map (·.2.v)).sum
@[simp] theorem tot_nil : tot [] = 0 := rfl
@[simp] theorem tot_cons (e : En) (m : List En) : tot (e :: m) = e.2.v + tot m := by simp [tot]
@[simp] theorem tot_append (l m : List En) : tot (l ++ m) = tot l + tot m := by simp [tot]
theorem tot_perm {l m : List En} (h : l.Perm m) : tot l = tot m := by
  induction h with
  | nil => rfl
  | cons x _ ih => simp [ih]
  | swap x y l => simp; omega
  | trans _ _ h1 h2 => exact h1.trans h2
/-- No coin of a set is below zero; together they are within the money there is. -/
def Mon (m : List En) : Prop := (∀ e ∈ m, 0 ≤ e.2.v) ∧ tot m ≤ 2100000000000000
theorem Mon.nil : Mon [] := ⟨by simp, by simp⟩
theorem Mon.pos : ∀ {m : List En}, (∀ e ∈ m, 0 ≤ e.2.v) → 0 ≤ tot m
  | [], _ => by simp
  | e :: m, h => by
    have h1 := h e (by simp)
    have h2 := Mon.pos (m := m) (fun x hx => h x (by simp [hx]))
    simp; omega
theorem Mon.le : ∀ {m : List En}, (∀ e ∈ m, 0 ≤ e.2.v) → ∀ e ∈ m, e.2.v ≤ tot m
  | e' :: m, h, e, he => by
    have h2 := Mon.pos (m := m) (fun x hx => h x (by simp [hx]))
    simp only [List.mem_cons] at he
    rcases he with rfl | he
    · simp; omega
    · have := Mon.le (m := m) (fun x hx => h x (by simp [hx])) e he
      have h1 := h e' (by simp)
      simp; omega
theorem Mon.good {m : List En} (h : Mon m) : goodB (tot m) = true := (goodB_iff _).2 ⟨Mon.pos h.1, h.2⟩
theorem aget_mem {κ β : Type} [DecidableEq κ] {m : List (κ × β)} {k : κ} {v : β} (h : aget m k = some v) : (k, v) ∈ m := by
  unfold aget at h
  obtain ⟨p, hp, rfl⟩ := Option.map_eq_some_iff.1 h
  have h1 := List.mem_of_find?_eq_some hp
  have h2 := List.find?_some hp
  simp only [decide_eq_true_eq] at h2
  subst h2; exact h1
/-- A set on the heap: block b its two cells, block mb its map. -/
def SetE (t : TypeId) (w : World) (b mb : Nat) (m : List En) : Prop :=
  At w b (.cells [Value.map (some mb), .int .i64 (tot m)].toArray t (0, 0)) ∧ MapE ptK Cn.val w mb m ∧ Mon m
section
variable {t : TypeId} {w w' : World} {b mb : Nat} {m : List En}
theorem SetE.at_ (h : SetE t w b mb m) : At w b (.cells [Value.map (some mb), .int .i64 (tot m)].toArray t (0, 0)) := h.1
theorem SetE.row (h : SetE t w b mb m) : Row w ⟨b, 0, none⟩ [Value.map (some mb), .int .i64 (tot m)] := Row.of_at h.1
theorem SetE.ne (h : SetE t w b mb m) : b ≠ mb := by
  obtain ⟨h1, ⟨es, clock, h2, _⟩, _⟩ := h
  exact h1.ne h2 (by simp)
theorem SetE.chg {l : List Nat} (hc : Chg l w w') (h : SetE t w b mb m) (h1 : b ∉ l) (h2 : mb ∉ l) : SetE t w' b mb m := ⟨h.1.chg hc h1, h.2.1.chg hc h2, h.2.2⟩
theorem SetE.ext (hc : Ext w w') (h : SetE t w b mb m) : SetE t w' b mb m := h.chg hc (by simp) (by simp)
end
def putCode (m : List En) (p : Pt) (c : Cn) : Int := if formedB p c then (if (aget m p).isSome then 7 else if goodB (tot m + c.v) then 0 else 3) else 2
def putMap (m : List En) (p : Pt) (c : Cn) : List En := if putCode m p c = 0 then m ++ [(p, c)] else m
def cn0 : Cn := ⟨0, ⟨#[]⟩, 0⟩
def takeCode (m : List En) (p : Pt) : Int := if (aget m p).isSome then 0 else 8
def takeCoin (m : List En) (p : Pt) : Cn := (aget m p).getD cn0
def takeMap (m : List En) (p : Pt) : List En := adel m p
theorem adel_cons {κ β : Type} [DecidableEq κ] (e : κ × β) (m : List (κ × β)) (k : κ) : adel (e :: m) k = if e.1 = k then adel m k else e :: adel m k := by
  unfold adel; rw [List.filter_cons]; by_cases h : e.1 = k <;> simp [h]
theorem adel_out {κ β : Type} [DecidableEq κ] {m : List (κ × β)} {k : κ} (h : k ∉ m.map (·.1)) : adel m k = m := by
  unfold adel
  rw [List.filter_eq_self]
  intro a ha
  simp only [decide_eq_true_eq]
  rintro rfl
  exact h (List.mem_map_of_mem ha)
theorem aget_cons {κ β : Type} [DecidableEq κ] (e : κ × β) (m : List (κ × β)) (k : κ) : aget (e :: m) k = if e.1 = k then some e.2 else aget m k := by
  unfold aget; rw [List.find?_cons]; by_cases h : e.1 = k <;> simp [h]
theorem tot_del : ∀ {m : List En} {p : Pt} {c : Cn}, (m.map (·.1)).Nodup → aget m p = some c → tot (adel m p) = tot m - c.v
  | (q, d) :: m, p, c, hn, h => by
    simp only [List.map_cons, List.nodup_cons] at hn
    rw [aget_cons] at h
    rw [adel_cons]
    by_cases e : q = p
    · subst e
      simp at h
      subst h
      rw [if_pos rfl, adel_out hn.1]; simp; omega
    · rw [if_neg e] at h ⊢
      have ih := tot_del hn.2 h
      simp [ih]; omega
theorem Mon.del {m : List En} (h : Mon m) (p : Pt) : Mon (adel m p) := by
  have hs : ∀ e ∈ adel m p, 0 ≤ e.2.v := fun e he => h.1 e (List.mem_filter.1 he).1
  refine ⟨hs, ?_⟩
  have key : ∀ l : List En, (∀ e ∈ l, 0 ≤ e.2.v) → tot (adel l p) ≤ tot l := by
    intro l
    induction l with
    | nil => intro _; simp [adel]
    | cons e l ih =>
      intro hl
      have h1 := hl e (by simp)
      have h2 := ih (fun x hx => hl x (by simp [hx]))
      rw [adel_cons]
      split <;> simp <;> omega
  have := key m h.1; have := h.2; omega
theorem Mon.put {m : List En} (h : Mon m) {p : Pt} {c : Cn} (hc : putCode m p c = 0) : Mon (m ++ [(p, c)]) := by
  unfold putCode at hc
  split at hc
  · rename_i hf
    split at hc
    · cases hc
    · split at hc
      · rename_i hg
        have h1 := (goodB_iff _).1 hg
        have h2 : goodB c.v = true := by simp only [formedB, Bool.and_eq_true] at hf; exact hf.2
        have h3 := (goodB_iff _).1 h2
        exact ⟨fun e he => by
          rcases List.mem_append.1 he with he | he
          · exact h.1 e he
          · simp at he; subst he; exact h3.1, by simp; omega⟩
      · cases hc
  · cases hc
theorem aset_none {κ β : Type} [DecidableEq κ] {m : List (κ × β)} {k : κ} {v : β} (h : aget m k = none) : aset m k v = m ++ [(k, v)] := by
  apply aset_absent
  unfold aget at h
  simp only [Option.map_eq_none_iff, List.find?_eq_none] at h
  rw [List.findIdx?_eq_none_iff]
  intro x hx
  simpa using h x hx
theorem adel_none {κ β : Type} [DecidableEq κ] {m : List (κ × β)} {k : κ} (h : aget m k = none) : adel m k = m := by
  apply adel_out
  intro hm
  obtain ⟨p, hp, rfl⟩ := List.mem_map.1 hm
  unfold aget at h
  simp only [Option.map_eq_none_iff, List.find?_eq_none] at h
  simpa using h p hp
theorem putCode2 {m : List En} {p : Pt} {c : Cn} (h : formedB p c = false) : putCode m p c = 2 := by rw [putCode, h]; rfl
theorem putCode7 {m : List En} {p : Pt} {c d : Cn} (h : formedB p c = true) (hd : aget m p = some d) : putCode m p c = 7 := by rw [putCode, h, hd]; rfl
theorem putCode0 {m : List En} {p : Pt} {c : Cn} (h : formedB p c = true) (hd : aget m p = none) (hm : Mon m) : putCode m p c = if addOk (tot m) c.v then 0 else 3 := by
  have h2 : goodB c.v = true := by simp only [formedB, Bool.and_eq_true] at h; exact h.2
  rw [putCode, h, hd]; simp only [addOk, hm.good, h2, Bool.true_and]; rfl
end Go.K
