/- Plain: a set and the reference's sorted list, side by side. -/
import Derived.Test.YtfpdfjfjmockbaaL3
namespace Go.K
open Go
theorem srt_nodup {l : List En} (h : Srt l) : (l.map (·.1)).Nodup := by
  rw [List.Nodup, List.pairwise_map]
  exact h.imp fun hab e => by rw [e, ptLt_irrefl] at hab; cases hab
theorem mem_aget {m : List En} {p : Pt} {c : Cn} (hn : (m.map (·.1)).Nodup) (h : (p, c) ∈ m) : aget m p = some c := by
  induction m with
  | nil => cases h
  | cons e m ih =>
    simp only [List.map_cons, List.nodup_cons] at hn
    rw [aget_cons]
    rcases List.mem_cons.1 h with h | h
    · subst h; simp
    · rw [if_neg, ih hn.2 h]
      intro e1
      exact hn.1 (e1 ▸ List.mem_map_of_mem (f := (·.1)) h)
theorem aget_perm {m l : List En} (hp : m.Perm l) (hs : Srt l) (p : Pt) : aget m p = aget l p := by
  have hl := srt_nodup hs
  have hm : (m.map (·.1)).Nodup := (hp.map _).nodup_iff.2 hl
  cases h : aget l p with
  | some c => exact mem_aget hm (hp.mem_iff.2 (aget_mem h))
  | none =>
    cases h2 : aget m p with
    | none => rfl
    | some c => rw [mem_aget hl (hp.mem_iff.1 (aget_mem h2))] at h; cases h
theorem aget_some_idx {l : List En} {p : Pt} {n : Nat} (h : refIdx l p = some n) (hn : n < l.length) : aget l p = some l[n].2 := by
  rw [aget_idx]; unfold refIdx at h; rw [h]; simp [List.getElem?_eq_getElem hn]
theorem aget_none_idx {l : List En} {p : Pt} (h : refIdx l p = none) : aget l p = none := by
  rw [aget_idx]; unfold refIdx at h; rw [h]; rfl
theorem idx_lt {l : List En} {p : Pt} {n : Nat} (h : refIdx l p = some n) : n < l.length := (refIdx_some.1 h).1
theorem isSome_idx (l : List En) (p : Pt) : (aget l p).isSome = (refIdx l p).isSome := by
  cases h : refIdx l p with
  | none => rw [aget_none_idx h]; rfl
  | some n => rw [aget_some_idx h (idx_lt h)]; rfl
section
variable {m l : List En} (hp : m.Perm l) (hs : Srt l)
include hp hs
theorem take_code (p : Pt) : takeCode m p = refTakeCode l p := by
  rw [takeCode, refTakeCode, aget_perm hp hs, isSome_idx]
theorem take_coin (p : Pt) : takeCoin m p = refCoin l p := by
  rw [takeCoin, aget_perm hp hs]
  cases h : refIdx l p with
  | none => rw [aget_none_idx h, refCoin, h]; rfl
  | some n => rw [aget_some_idx h (idx_lt h), refCoin_some h (idx_lt h)]; rfl
theorem put_code (p : Pt) (c : Cn) : putCode m p c = refPutCode l p c := by
  rw [putCode, refPutCode, aget_perm hp hs, isSome_idx, tot_perm hp]
end
theorem refTake_adel {l : List En} (hs : Srt l) (p : Pt) : refTake l p = adel l p := by
  unfold refTake
  cases h : refIdx l p with
  | none => exact (adel_absent (by unfold refIdx at h; exact h)).symm
  | some n => exact (adel_present (srt_nodup hs) (by unfold refIdx at h; exact h)).symm
theorem take_sim {m l : List En} (hp : m.Perm l) (hs : Srt l) (p : Pt) : (takeMap m p).Perm (refTake l p) ∧ Srt (refTake l p) ∧ (refTake l p).length ≤ l.length := by
  rw [refTake_adel hs, takeMap]
  refine ⟨hp.filter _, ?_, List.length_filter_le _ _⟩
  exact List.Pairwise.sublist List.filter_sublist hs
def ins (p : Pt) (c : Cn) : List En → List En
  | [] => [(p, c)]
  | e :: l => if ptLt p e.1 then (p, c) :: e :: l else e :: ins p c l
theorem run_true (p : Pt) (c : Cn) : ∀ (l out : List En), l.foldl (insStep p c) (out, true) = (out ++ l, true)
  | [], out => by simp
  | e :: l, out => by
    rw [List.foldl_cons]
    have : insStep p c (out, true) e = (out ++ [e], true) := by simp [insStep]
    rw [this, run_true p c l]; simp
theorem run_false (p : Pt) (c : Cn) : ∀ (l out : List En), (let s := l.foldl (insStep p c) (out, false); if s.2 then s.1 else s.1 ++ [(p, c)]) = out ++ ins p c l
  | [], out => by simp [ins]
  | e :: l, out => by
    rw [List.foldl_cons]
    by_cases h : ptLt p e.1 = true
    · have : insStep p c (out, false) e = (out ++ [(p, c)] ++ [e], true) := by simp [insStep, h]
      rw [this, run_true]
      simp [ins, h]
    · have h : ptLt p e.1 = false := by simpa using h
      have : insStep p c (out, false) e = (out ++ [e], false) := by simp [insStep, h]
      rw [this, run_false p c l]
      simp [ins, h]
theorem insEnd_eq (p : Pt) (c : Cn) (l : List En) : insEnd p c l = ins p c l := by
  have := run_false p c l []
  rw [List.nil_append] at this
  exact this
theorem ins_perm (p : Pt) (c : Cn) : ∀ l : List En, (ins p c l).Perm ((p, c) :: l)
  | [] => List.Perm.refl _
  | e :: l => by
    unfold ins
    split
    · exact List.Perm.refl _
    · exact ((ins_perm p c l).cons e).trans (List.Perm.swap _ _ _)
theorem ins_srt (p : Pt) (c : Cn) : ∀ {l : List En}, Srt l → (∀ e ∈ l, e.1 ≠ p) → Srt (ins p c l)
  | [], _, _ => by simp [ins, Srt]
  | e :: l, hs, hn => by
    have hs' := List.pairwise_cons.1 hs
    unfold ins
    split
    · rename_i h
      refine List.pairwise_cons.2 ⟨fun x hx => ?_, hs⟩
      rcases List.mem_cons.1 hx with h1 | h1
      · rw [h1]; exact h
      · exact ptLt_trans h (hs'.1 x h1)
    · rename_i h
      refine List.pairwise_cons.2 ⟨fun x hx => ?_, ins_srt p c hs'.2 (fun x hx => hn x (by simp [hx]))⟩
      rcases List.mem_cons.1 ((ins_perm p c l).mem_iff.1 hx) with h1 | h1
      · rw [h1]
        cases h2 : ptLt e.1 p
        · exact absurd (ptLt_tri h2 (by simpa using h)) (hn e (by simp))
        · rfl
      · exact hs'.1 x h1
theorem put_sim {m l : List En} (hp : m.Perm l) (hs : Srt l) (p : Pt) (c : Cn) : (putMap m p c).Perm (refPut l p c) ∧ Srt (refPut l p c) ∧ (refPut l p c).length ≤ l.length + 1 := by
  have hc := put_code hp hs p c
  unfold putMap refPut
  rw [hc]
  split
  · rename_i h0
    rw [insEnd_eq]
    have hi : refIdx l p = none := by
      unfold refPutCode at h0
      cases h : refIdx l p with
      | none => rfl
      | some n =>
        rw [h] at h0
        simp only [Option.isSome_some, if_true] at h0
        split at h0 <;> omega
    have h1 := ins_perm p c l
    refine ⟨?_, ins_srt p c hs (refIdx_none.1 hi), by rw [h1.length_eq]; simp⟩
    refine List.Perm.trans ?_ h1.symm
    exact (List.perm_append_singleton (p, c) m).trans (hp.cons _)
  · exact ⟨hp, hs, by omega⟩
theorem refCoin_none {l : List En} {p : Pt} (h : refIdx l p = none) : refCoin l p = cn0 := by rw [refCoin, h]
theorem srt_of {l : List En} (h : l.Pairwise (fun a b => ptLt b.1 a.1 = false)) (hn : (l.map (·.1)).Nodup) : Srt l := by
  rw [List.Nodup, List.pairwise_map] at hn
  refine List.Pairwise.imp₂ ?_ h hn
  intro a b h1 h2
  cases h3 : ptLt a.1 b.1
  · exact absurd (ptLt_tri h3 h1) h2
  · rfl
theorem putMap_len (m : List En) (p : Pt) (c : Cn) : (putMap m p c).length ≤ m.length + 1 := by unfold putMap; split <;> simp
theorem takeMap_len (m : List En) (p : Pt) : (takeMap m p).length ≤ m.length := List.length_filter_le _ _
theorem find_some {m : List En} {p : Pt} {c : Cn} (h : aget m p = some c) : takeCoin m p = c := by rw [takeCoin, h]; rfl
end Go.K
