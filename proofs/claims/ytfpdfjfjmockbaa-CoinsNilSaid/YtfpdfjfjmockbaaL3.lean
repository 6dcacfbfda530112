/- Plain: the reference's sorted list of entries. -/
import Derived.Test.YtfpdfjfjmockbaaL2
namespace Go.K
open Go
def refIdx (l : List En) (p : Pt) : Option Nat := l.findIdx? fun e => decide (e.1 = p)
def refFind (l : List En) (p : Pt) : Int := match refIdx l p with
  | some i => i
  | none => -1
theorem refIdx_none {l : List En} {p : Pt} : refIdx l p = none ↔ ∀ e ∈ l, e.1 ≠ p := by simp [refIdx, List.findIdx?_eq_none_iff]
theorem refIdx_some {l : List En} {p : Pt} {i : Nat} : refIdx l p = some i ↔ ∃ h : i < l.length, l[i].1 = p ∧ ∀ j, ∀ hj : j < i, l[j].1 ≠ p := by
  rw [refIdx, List.findIdx?_eq_some_iff_getElem]; simp
theorem tot_take {l : List En} {i : Nat} (h : i < l.length) : tot (l.take (i + 1)) = tot (l.take i) + l[i].2.v := by
  rw [List.take_succ_eq_append_getElem h, tot_append]; simp
theorem tot_take_le {l : List En} (h : Mon l) (i : Nat) : 0 ≤ tot (l.take i) ∧ tot (l.take i) ≤ tot l := by
  have h1 : 0 ≤ tot (l.take i) := Mon.pos fun e he => h.1 e (List.mem_of_mem_take he)
  have h2 : 0 ≤ tot (l.drop i) := Mon.pos fun e he => h.1 e (List.mem_of_mem_drop he)
  have h3 : tot l = tot (l.take i) + tot (l.drop i) := by rw [← tot_append, List.take_append_drop]
  omega
def insStep (p : Pt) (c : Cn) (s : List En × Bool) (e : En) : List En × Bool := if ptLt p e.1 && !s.2 then (s.1 ++ [(p, c)] ++ [e], true) else (s.1 ++ [e], s.2)
def insRun (p : Pt) (c : Cn) (l : List En) : List En × Bool := l.foldl (insStep p c) ([], false)
def insEnd (p : Pt) (c : Cn) (l : List En) : List En := if (insRun p c l).2 then (insRun p c l).1 else (insRun p c l).1 ++ [(p, c)]
theorem insRun_take {p : Pt} {c : Cn} {l : List En} {i : Nat} (h : i < l.length) : insRun p c (l.take (i + 1)) = insStep p c (insRun p c (l.take i)) l[i] := by
  rw [List.take_succ_eq_append_getElem h, insRun, List.foldl_append]; rfl
theorem insRun_len (p : Pt) (c : Cn) (l : List En) : (insRun p c l).1.length ≤ l.length + 1 ∧ ((insRun p c l).2 = false → (insRun p c l).1.length = l.length) := by
  have key : ∀ (l : List En) (s : List En × Bool), (l.foldl (insStep p c) s).1.length + (if s.2 then 1 else 0) = s.1.length + l.length + (if (l.foldl (insStep p c) s).2 then 1 else 0) := by
    intro l
    induction l with
    | nil => intro s; cases h : s.2 <;> simp [h]
    | cons e l ih =>
      intro s
      rw [List.foldl_cons]
      have := ih (insStep p c s e)
      rw [List.length_cons]
      unfold insStep at this ⊢
      by_cases h : ptLt p e.1 = true
      · cases hs : s.2
        · simp [h, hs] at this ⊢; omega
        · simp [h, hs] at this ⊢; omega
      · simp [h] at this ⊢; omega
  have := key l ([], false)
  simp only [List.length_nil, Nat.zero_add, Bool.false_eq_true, if_false, Nat.add_zero] at this
  unfold insRun
  constructor
  · split at this <;> omega
  · intro h; rw [h] at this; simpa using this
def refPutCode (l : List En) (p : Pt) (c : Cn) : Int := if formedB p c then (if (refIdx l p).isSome then 7 else if goodB (tot l + c.v) then 0 else 3) else 2
def refPut (l : List En) (p : Pt) (c : Cn) : List En := if refPutCode l p c = 0 then insEnd p c l else l
def refTakeCode (l : List En) (p : Pt) : Int := if (refIdx l p).isSome then 0 else 8
def refTake (l : List En) (p : Pt) : List En := match refIdx l p with
  | some i => l.eraseIdx i
  | none => l
def refCoin (l : List En) (p : Pt) : Cn := match refIdx l p with
  | some i => ((l[i]?).map (·.2)).getD cn0
  | none => cn0
theorem refCoin_some {l : List En} {p : Pt} {n : Nat} (h : refIdx l p = some n) (hn : n < l.length) : refCoin l p = l[n].2 := by
  unfold refCoin; rw [h]; simp [List.getElem?_eq_getElem hn]
theorem refTakeCode_some {l : List En} {p : Pt} {n : Nat} (h : refIdx l p = some n) : refTakeCode l p = 0 := by rw [refTakeCode, h]; rfl
theorem refPutCode2 {l : List En} {p : Pt} {c : Cn} (h : formedB p c = false) : refPutCode l p c = 2 := by rw [refPutCode, h]; rfl
theorem refPutCode7 {l : List En} {p : Pt} {c : Cn} {n : Nat} (h : formedB p c = true) (hd : refIdx l p = some n) : refPutCode l p c = 7 := by rw [refPutCode, h, hd]; rfl
theorem refPutCode0 {l : List En} {p : Pt} {c : Cn} (h : formedB p c = true) (hd : refIdx l p = none) : refPutCode l p c = if goodB (tot l + c.v) then 0 else 3 := by rw [refPutCode, h, hd]; rfl
theorem insRun_put {p : Pt} {c : Cn} {l : List En} {i : Nat} (h : i < l.length) (h1 : ptLt p l[i].1 = true) (h2 : (insRun p c (l.take i)).2 = false) : insRun p c (l.take (i + 1)) = ((insRun p c (l.take i)).1 ++ [(p, c)] ++ [l[i]], true) := by
  rw [insRun_take h, insStep, h1, h2]; rfl
theorem insRun_not {p : Pt} {c : Cn} {l : List En} {i : Nat} (h : i < l.length) (h1 : ptLt p l[i].1 = false ∨ (insRun p c (l.take i)).2 = true) : insRun p c (l.take (i + 1)) = ((insRun p c (l.take i)).1 ++ [l[i]], (insRun p c (l.take i)).2) := by
  rw [insRun_take h, insStep]
  rcases h1 with h1 | h1 <;> rw [h1] <;> simp
theorem erase_take {l : List En} {i n : Nat} (h : i < l.length) : (l.take (i + 1)).eraseIdx n = if i = n then (l.take i).eraseIdx n else (l.take i).eraseIdx n ++ [l[i]] := by
  rw [List.take_succ_eq_append_getElem h]
  by_cases e : i = n
  · subst e
    rw [if_pos rfl, List.eraseIdx_append_of_length_le (by simp; omega)]
    have e1 : i - (l.take i).length = 0 := by simp; omega
    rw [e1, List.eraseIdx_of_length_le (l := l.take i) (by simp; omega)]; simp
  · rw [if_neg e]
    by_cases hl : i < n
    · rw [List.eraseIdx_of_length_le (by simp; omega), List.eraseIdx_of_length_le (by simp; omega)]
    · rw [List.eraseIdx_append_of_lt_length (by simp; omega)]
/-- Sorted by points, strictly. -/
def Srt (l : List En) : Prop := l.Pairwise fun a b => ptLt a.1 b.1 = true
theorem sorted_eq : ∀ {l' l : List En}, l'.Perm l → l'.Pairwise (fun a b => ptLt b.1 a.1 = false) → Srt l → l' = l
  | [], l, hp, _, _ => by rw [List.nil_perm.1 hp]
  | y :: ys, [], hp, _, _ => by have := hp.length_eq; simp at this
  | y :: ys, x :: xs, hp, h1, h2 => by
    have h2' := List.pairwise_cons.1 h2
    have h1' := List.pairwise_cons.1 h1
    have e : y = x := by
      have hy : y ∈ x :: xs := hp.mem_iff.1 (by simp)
      have hx : x ∈ y :: ys := hp.mem_iff.2 (by simp)
      rcases List.mem_cons.1 hy with h | h
      · exact h
      · rcases List.mem_cons.1 hx with g | g
        · exact g.symm
        · have a := h2'.1 y h
          have b := h1'.1 x g
          rw [a] at b; cases b
    subst e
    rw [sorted_eq (List.Perm.cons_inv hp) h1'.2 h2'.2]
end Go.K
