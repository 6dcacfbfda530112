/- Plain: entries that are added anew, and dropped from the last one on. The walk of GraphAgain. Plain: what comes in place of others; what an entry conflicts with. Plain: what is left of a list of coins once some are taken. Plain: the reference's sorted list of entries. Plain: a set and the reference's sorted list, side by side. The engine, part 13: what came in, read at its type. The engine, part 1 -/
import Derived.RowKit
import Derived.OpenShut
import Derived.Deep.Slices
import Derived.ChangeSame
import Derived.Shelf.Bits.Mul64
import Derived.Ground.SlgnProg
import Derived.Ground.SlgfProg
import Derived.Test.YtcnhbkaclgdehaaGreatProg
import Derived.Ground.NamesProg
import Derived.Test.YtcnhbkaclgdehaaGreatO29
set_option linter.unusedVariables false
set_option linter.unusedSimpArgs false
section
namespace Go.K
open Go
variable {l : List Ent}
end Go.K
end
section
namespace Go.Proofs.YtcnhbkaclgdehaaGreat
open Go Go.K
attribute [local irreducible] regK codeK retK KOp.wp K.Spec u32 leS vnS str zero32 sha2 encT idT sizeT checkT grantB idN stepR workL reachE findI dropG addG aboveL belowL inS idsOf feeD sizeD

theorem GrR.apart {w : World} {g : Nat} {M : List Nat} {l : List Ent} (h : GrR w g M l) : l.Pairwise fun x y => ∀ p, spends x p = true → spends y p = false := by
  obtain ⟨b1, vo, b2, m, sp, hP⟩ := h; exact hP.inv.apart
end Go.Proofs.YtcnhbkaclgdehaaGreat
end
section
namespace Go.K
open Go Go.Proofs.YtcnhbkaclgdehaaGreat
section
variable {l : List Ent} {t : Tx}
theorem has_iff {s : ByteArray} : hasE l s = true ↔ ∃ x ∈ l, x.id = s := by
  unfold hasE
  rw [List.any_eq_true]
  exact ⟨fun ⟨x, h1, h2⟩ => ⟨x, h1, of_decide_eq_true h2⟩, fun ⟨x, h1, h2⟩ => ⟨x, h1, decide_eq_true h2⟩⟩
theorem hit_iff {x : Ent} : hitE t x = true ↔ ∃ b ∈ t.ins, spends x b.p = true := by
  unfold hitE spends
  simp only [List.any_eq_true, decide_eq_true_eq]
  constructor
  · rintro ⟨a, ha, b, hb, e⟩; exact ⟨b, hb, a, ha, e⟩
  · rintro ⟨b, hb, a, ha, e⟩; exact ⟨a, ha, b, hb, e⟩
theorem hit_self {x : Ent} (h : 0 < x.tx.ins.length) : hitE x.tx x = true := by
  rw [hit_iff]
  refine ⟨x.tx.ins[0], List.getElem_mem h, ?_⟩
  unfold spends
  exact List.any_eq_true.2 ⟨_, List.getElem_mem h, decide_eq_true rfl⟩
theorem comes_add (hn : (l.map (·.id)).Nodup) (hc : checkT t = 0) (hi : 0 < t.ins.length) (hg : grantB t = false) {f : Int} (hf : goodB f = true) :
    (addG (leftL l (evL l t)) t f).2 = 0 ∨ ((addG (leftL l (evL l t)) t f).2 = 7 ∧ hasE (leftL l (evL l t)) (idT t) = true ∧ (getE (leftL l (evL l t)) (idT t)).tx ≠ t) := by
  have none : ∀ x ∈ leftL l (evL l t), hitE t x = false := fun x hx => by
    rw [← Bool.not_eq_true]
    exact fun h => leftL_not l _ hn hx (conf_ev hn ((leftL_sub _ _).subset hx) h)
  unfold addG
  rw [if_neg (by simpa using hc), if_neg (by simp [hg]), if_neg (by simp [hf])]
  by_cases h7 : ((leftL l (evL l t)).any fun x => decide (x.id = idT t)) = true
  · rw [if_pos h7]
    refine .inr ⟨rfl, h7, fun e => ?_⟩
    have hm := (has_mem (l := leftL l (evL l t)) h7).1
    have h1 := none _ hm
    have h2 : hitE (getE (leftL l (evL l t)) (idT t)).tx (getE (leftL l (evL l t)) (idT t)) = true := hit_self (by rw [e]; exact hi)
    rw [e] at h2
    rw [h1] at h2
    cases h2
  · rw [if_neg h7]
    have h8 : (t.ins.any fun i => (leftL l (evL l t)).any fun x => spends x i.p) = false := by
      rw [List.any_eq_false]
      intro b hb h
      obtain ⟨x, hx, h2⟩ := List.any_eq_true.1 h
      have h3 := none x hx
      rw [hit_iff.2 ⟨b, hb, h2⟩] at h3
      cases h3
    rw [if_neg (by simp [h8])]
    exact .inl rfl
/-! What an entry itself conflicts with. -/
end
end Go.K
end
section
namespace Go.K
open Go Go.Proofs.YtcnhbkaclgdehaaGreat
def delAll (A : List En) (ps : List Pt) : List En := ps.foldl adel A
theorem delAll_mem : ∀ (ps : List Pt) (A : List En) {e : En}, e ∈ delAll A ps → e ∈ A
  | [], A, e, h => h
  | q :: ps, A, e, h => (List.mem_filter.1 (delAll_mem ps (adel A q) h)).1
theorem tot_delAll : ∀ (ps : List Pt) (A : List En), (A.map (·.1)).Nodup → ps.Nodup → (∀ p ∈ ps, (aget A p).isSome = true) → tot (delAll A ps) = tot A - (ps.map fun p => ((aget A p).getD cn0).v).sum
  | [], A, _, _, _ => by simp [delAll]
  | q :: ps, A, hA, hp, hs => by
    rw [List.nodup_cons] at hp
    obtain ⟨c, hc⟩ := Option.isSome_iff_exists.1 (hs q (by simp))
    have hk : ((adel A q).map (·.1)).Nodup := hA.sublist (List.Sublist.map _ List.filter_sublist)
    have hq : ∀ p ∈ ps, aget (adel A q) p = aget A p := fun p h => by
      rw [aget_del, if_neg]
      rintro rfl; exact hp.1 h
    have ih := tot_delAll ps (adel A q) hk hp.2 (fun p h => by rw [hq p h]; exact hs p (by simp [h]))
    show tot (delAll (adel A q) ps) = _
    rw [ih, tot_del hA hc, List.map_cons, List.sum_cons, hc, List.map_congr_left (g := fun p => ((aget A p).getD cn0).v) fun p h => by rw [hq p h]]
    simp only [Option.getD_some]; omega
end Go.K
end
section
namespace Go.K
open Go
def refIdx (l : List En) (p : Pt) : Option Nat := l.findIdx? fun e => decide (e.1 = p)
def refFind (l : List En) (p : Pt) : Int := match refIdx l p with
  | some i => i
  | none => -1
theorem refIdx_none {l : List En} {p : Pt} : refIdx l p = none ↔ ∀ e ∈ l, e.1 ≠ p := by simp [refIdx, List.findIdx?_eq_none_iff]
theorem refIdx_some {l : List En} {p : Pt} {i : Nat} : refIdx l p = some i ↔ ∃ h : i < l.length, l[i].1 = p ∧ ∀ j, ∀ hj : j < i, l[j].1 ≠ p := by
  rw [refIdx, List.findIdx?_eq_some_iff_getElem]; simp
theorem tot_take {l : List En} {i : Nat} (h : i < l.length) : tot (l.take (i + 1)) = tot (l.take i) + l[i].2.v := by
  rw [List.take_succ_eq_append_getElem h, tot_append]; simp
theorem tot_take_le {l : List En} (h : Mon l) (i : Nat) : 0 ≤ tot (l.take i) ∧ tot (l.take i) ≤ tot l := by
  have h1 : 0 ≤ tot (l.take i) := Mon.pos fun e he => h.1 e (List.mem_of_mem_take he)
  have h2 : 0 ≤ tot (l.drop i) := Mon.pos fun e he => h.1 e (List.mem_of_mem_drop he)
  have h3 : tot l = tot (l.take i) + tot (l.drop i) := by rw [← tot_append, List.take_append_drop]
  omega
def insStep (p : Pt) (c : Cn) (s : List En × Bool) (e : En) : List En × Bool := if ptLt p e.1 && !s.2 then (s.1 ++ [(p, c)] ++ [e], true) else (s.1 ++ [e], s.2)
def insRun (p : Pt) (c : Cn) (l : List En) : List En × Bool := l.foldl (insStep p c) ([], false)
def insEnd (p : Pt) (c : Cn) (l : List En) : List En := if (insRun p c l).2 then (insRun p c l).1 else (insRun p c l).1 ++ [(p, c)]
theorem insRun_take {p : Pt} {c : Cn} {l : List En} {i : Nat} (h : i < l.length) : insRun p c (l.take (i + 1)) = insStep p c (insRun p c (l.take i)) l[i] := by
  rw [List.take_succ_eq_append_getElem h, insRun, List.foldl_append]; rfl
theorem insRun_len (p : Pt) (c : Cn) (l : List En) : (insRun p c l).1.length ≤ l.length + 1 ∧ ((insRun p c l).2 = false → (insRun p c l).1.length = l.length) := by
  have key : ∀ (l : List En) (s : List En × Bool), (l.foldl (insStep p c) s).1.length + (if s.2 then 1 else 0) = s.1.length + l.length + (if (l.foldl (insStep p c) s).2 then 1 else 0) := by
    intro l
    induction l with
    | nil => intro s; cases h : s.2 <;> simp [h]
    | cons e l ih =>
      intro s
      rw [List.foldl_cons]
      have := ih (insStep p c s e)
      rw [List.length_cons]
      unfold insStep at this ⊢
      by_cases h : ptLt p e.1 = true
      · cases hs : s.2
        · simp [h, hs] at this ⊢; omega
        · simp [h, hs] at this ⊢; omega
      · simp [h] at this ⊢; omega
  have := key l ([], false)
  simp only [List.length_nil, Nat.zero_add, Bool.false_eq_true, if_false, Nat.add_zero] at this
  unfold insRun
  constructor
  · split at this <;> omega
  · intro h; rw [h] at this; simpa using this
def refPutCode (l : List En) (p : Pt) (c : Cn) : Int := if formedB p c then (if (refIdx l p).isSome then 7 else if goodB (tot l + c.v) then 0 else 3) else 2
def refPut (l : List En) (p : Pt) (c : Cn) : List En := if refPutCode l p c = 0 then insEnd p c l else l
def refTakeCode (l : List En) (p : Pt) : Int := if (refIdx l p).isSome then 0 else 8
def refTake (l : List En) (p : Pt) : List En := match refIdx l p with
  | some i => l.eraseIdx i
  | none => l
def refCoin (l : List En) (p : Pt) : Cn := match refIdx l p with
  | some i => ((l[i]?).map (·.2)).getD cn0
  | none => cn0
theorem refPutCode2 {l : List En} {p : Pt} {c : Cn} (h : formedB p c = false) : refPutCode l p c = 2 := by rw [refPutCode, h]; rfl
theorem refPutCode7 {l : List En} {p : Pt} {c : Cn} {n : Nat} (h : formedB p c = true) (hd : refIdx l p = some n) : refPutCode l p c = 7 := by rw [refPutCode, h, hd]; rfl
theorem refPutCode0 {l : List En} {p : Pt} {c : Cn} (h : formedB p c = true) (hd : refIdx l p = none) : refPutCode l p c = if goodB (tot l + c.v) then 0 else 3 := by rw [refPutCode, h, hd]; rfl
theorem insRun_put {p : Pt} {c : Cn} {l : List En} {i : Nat} (h : i < l.length) (h1 : ptLt p l[i].1 = true) (h2 : (insRun p c (l.take i)).2 = false) : insRun p c (l.take (i + 1)) = ((insRun p c (l.take i)).1 ++ [(p, c)] ++ [l[i]], true) := by
  rw [insRun_take h, insStep, h1, h2]; rfl
theorem insRun_not {p : Pt} {c : Cn} {l : List En} {i : Nat} (h : i < l.length) (h1 : ptLt p l[i].1 = false ∨ (insRun p c (l.take i)).2 = true) : insRun p c (l.take (i + 1)) = ((insRun p c (l.take i)).1 ++ [l[i]], (insRun p c (l.take i)).2) := by
  rw [insRun_take h, insStep]
  rcases h1 with h1 | h1 <;> rw [h1] <;> simp
/-- Sorted by points, strictly. -/
def Srt (l : List En) : Prop := l.Pairwise fun a b => ptLt a.1 b.1 = true
end Go.K
end
section
namespace Go.K
open Go
theorem srt_nodup {l : List En} (h : Srt l) : (l.map (·.1)).Nodup := by
  rw [List.Nodup, List.pairwise_map]
  exact h.imp fun hab e => by rw [e, ptLt_irrefl] at hab; cases hab
theorem mem_aget {m : List En} {p : Pt} {c : Cn} (hn : (m.map (·.1)).Nodup) (h : (p, c) ∈ m) : aget m p = some c := by
  induction m with
  | nil => cases h
  | cons e m ih =>
    simp only [List.map_cons, List.nodup_cons] at hn
    rw [aget_cons]
    rcases List.mem_cons.1 h with h | h
    · subst h; simp
    · rw [if_neg, ih hn.2 h]
      intro e1
      exact hn.1 (e1 ▸ List.mem_map_of_mem (f := (·.1)) h)
theorem aget_perm {m l : List En} (hp : m.Perm l) (hs : Srt l) (p : Pt) : aget m p = aget l p := by
  have hl := srt_nodup hs
  have hm : (m.map (·.1)).Nodup := (hp.map _).nodup_iff.2 hl
  cases h : aget l p with
  | some c => exact mem_aget hm (hp.mem_iff.2 (aget_mem h))
  | none =>
    cases h2 : aget m p with
    | none => rfl
    | some c => rw [mem_aget hl (hp.mem_iff.1 (aget_mem h2))] at h; cases h
theorem aget_some_idx {l : List En} {p : Pt} {n : Nat} (h : refIdx l p = some n) (hn : n < l.length) : aget l p = some l[n].2 := by
  rw [aget_idx]; unfold refIdx at h; rw [h]; simp [List.getElem?_eq_getElem hn]
theorem aget_none_idx {l : List En} {p : Pt} (h : refIdx l p = none) : aget l p = none := by
  rw [aget_idx]; unfold refIdx at h; rw [h]; rfl
theorem idx_lt {l : List En} {p : Pt} {n : Nat} (h : refIdx l p = some n) : n < l.length := (refIdx_some.1 h).1
theorem isSome_idx (l : List En) (p : Pt) : (aget l p).isSome = (refIdx l p).isSome := by
  cases h : refIdx l p with
  | none => rw [aget_none_idx h]; rfl
  | some n => rw [aget_some_idx h (idx_lt h)]; rfl
section
variable {m l : List En} (hp : m.Perm l) (hs : Srt l)
include hp hs
theorem put_code (p : Pt) (c : Cn) : putCode m p c = refPutCode l p c := by
  rw [putCode, refPutCode, aget_perm hp hs, isSome_idx, tot_perm hp]
end
def ins (p : Pt) (c : Cn) : List En → List En
  | [] => [(p, c)]
  | e :: l => if ptLt p e.1 then (p, c) :: e :: l else e :: ins p c l
theorem run_true (p : Pt) (c : Cn) : ∀ (l out : List En), l.foldl (insStep p c) (out, true) = (out ++ l, true)
  | [], out => by simp
  | e :: l, out => by
    rw [List.foldl_cons]
    have : insStep p c (out, true) e = (out ++ [e], true) := by simp [insStep]
    rw [this, run_true p c l]; simp
theorem run_false (p : Pt) (c : Cn) : ∀ (l out : List En), (let s := l.foldl (insStep p c) (out, false); if s.2 then s.1 else s.1 ++ [(p, c)]) = out ++ ins p c l
  | [], out => by simp [ins]
  | e :: l, out => by
    rw [List.foldl_cons]
    by_cases h : ptLt p e.1 = true
    · have : insStep p c (out, false) e = (out ++ [(p, c)] ++ [e], true) := by simp [insStep, h]
      rw [this, run_true]
      simp [ins, h]
    · have h : ptLt p e.1 = false := by simpa using h
      have : insStep p c (out, false) e = (out ++ [e], false) := by simp [insStep, h]
      rw [this, run_false p c l]
      simp [ins, h]
theorem insEnd_eq (p : Pt) (c : Cn) (l : List En) : insEnd p c l = ins p c l := by
  have := run_false p c l []
  rw [List.nil_append] at this
  exact this
theorem ins_perm (p : Pt) (c : Cn) : ∀ l : List En, (ins p c l).Perm ((p, c) :: l)
  | [] => List.Perm.refl _
  | e :: l => by
    unfold ins
    split
    · exact List.Perm.refl _
    · exact ((ins_perm p c l).cons e).trans (List.Perm.swap _ _ _)
theorem ins_srt (p : Pt) (c : Cn) : ∀ {l : List En}, Srt l → (∀ e ∈ l, e.1 ≠ p) → Srt (ins p c l)
  | [], _, _ => by simp [ins, Srt]
  | e :: l, hs, hn => by
    have hs' := List.pairwise_cons.1 hs
    unfold ins
    split
    · rename_i h
      refine List.pairwise_cons.2 ⟨fun x hx => ?_, hs⟩
      rcases List.mem_cons.1 hx with h1 | h1
      · rw [h1]; exact h
      · exact ptLt_trans h (hs'.1 x h1)
    · rename_i h
      refine List.pairwise_cons.2 ⟨fun x hx => ?_, ins_srt p c hs'.2 (fun x hx => hn x (by simp [hx]))⟩
      rcases List.mem_cons.1 ((ins_perm p c l).mem_iff.1 hx) with h1 | h1
      · rw [h1]
        cases h2 : ptLt e.1 p
        · exact absurd (ptLt_tri h2 (by simpa using h)) (hn e (by simp))
        · rfl
      · exact hs'.1 x h1
theorem put_sim {m l : List En} (hp : m.Perm l) (hs : Srt l) (p : Pt) (c : Cn) : (putMap m p c).Perm (refPut l p c) ∧ Srt (refPut l p c) ∧ (refPut l p c).length ≤ l.length + 1 := by
  have hc := put_code hp hs p c
  unfold putMap refPut
  rw [hc]
  split
  · rename_i h0
    rw [insEnd_eq]
    have hi : refIdx l p = none := by
      unfold refPutCode at h0
      cases h : refIdx l p with
      | none => rfl
      | some n =>
        rw [h] at h0
        simp only [Option.isSome_some, if_true] at h0
        split at h0 <;> omega
    have h1 := ins_perm p c l
    refine ⟨?_, ins_srt p c hs (refIdx_none.1 hi), by rw [h1.length_eq]; simp⟩
    refine List.Perm.trans ?_ h1.symm
    exact (List.perm_append_singleton (p, c) m).trans (hp.cons _)
  · exact ⟨hp, hs, by omega⟩
end Go.K
end
section
namespace Go.K
open Go
/-- The cells cs read at the type t, in the world W. -/
def Reads (P : Program) (W : World) (t : TypeId) (cs : List Value) : Prop :=
  ∃ (H : Type) (enc : TypeId × Value → H) (base : Nat) (spare : Nat → Bool) (held : Bool) (fuel : Nat) (x : DataW H × List MemPlace), DataW.trod enc P W base spare held fuel t cs = some x
variable {P : Program} {W : World} {t : TypeId} {cs : List Value}
theorem reads_int {k : IntKind} (hu : P.underlying t = some (.int k)) (h : Reads P W t cs) : ∃ n, cs = [.int k n] ∧ k.min ≤ n ∧ n ≤ k.max := by
  obtain ⟨H, enc, base, spare, held, fuel, x, h⟩ := h
  obtain ⟨n, h1, _, h2⟩ := DataW.trod_int hu h
  exact ⟨n, h1, by simpa [Lit.wf] using h2⟩
theorem reads_bool (hu : P.underlying t = some .bool) (h : Reads P W t cs) : ∃ b, cs = [.bool b] := by
  obtain ⟨H, enc, base, spare, held, fuel, x, h⟩ := h
  obtain ⟨b, h1, _⟩ := DataW.trod_bool hu h
  exact ⟨b, h1⟩
theorem reads_string (hu : P.underlying t = some .string) (h : Reads P W t cs) : ∃ s, cs = [.string s] ∧ s.size ≤ maxLen := by
  obtain ⟨H, enc, base, spare, held, fuel, x, h⟩ := h
  obtain ⟨b, h1, _, h2⟩ := DataW.trod_string hu h
  exact ⟨b, h1, h2⟩
theorem reads_struct {fs : Array Field} (hu : P.underlying t = some (.struct fs)) (h : Reads P W t cs) : cs.length = P.cellsOf t ∧ ∀ f ∈ fs.toList, Reads P W f.type ((cs.drop f.offset).take (P.cellsOf f.type)) := by
  obtain ⟨H, enc, base, spare, held, fuel, x, h⟩ := h
  obtain ⟨xs, n, _, rfl, hl, hlen, hf⟩ := DataW.trod_struct hu h
  refine ⟨hl, fun f hm => ?_⟩
  obtain ⟨i, hi, rfl⟩ := List.getElem_of_mem hm
  have h1 := hf i fs.toList[i] (by simp)
  cases hx : xs[i]? with
  | none => exact absurd (List.getElem?_eq_none_iff.1 hx) (by simp at hi; omega)
  | some y => rw [hx] at h1; exact ⟨H, enc, base, spare, held, n, y, h1⟩
theorem cells_row {base n : Nat} {a : Addr} {l : List Value} (h : W.cells? base a n = some l) : l.length = n ∧ Row W a l := by
  obtain ⟨_, h1, h2⟩ := World.cells?_some h
  refine ⟨h1, fun j v hj => ?_⟩
  rw [h2 j (by have := (List.getElem?_eq_some_iff.1 hj).1; omega)]; exact hj
theorem reads_slice {e : TypeId} (hu : P.underlying t = some (.slice e)) (h : Reads P W t cs) :
    cs = [.slice none 0 0] ∨ ∃ (a : Addr) (len cap : Nat), cs = [.slice (some a) len cap] ∧ len ≤ cap ∧ cap ≤ maxLen ∧ ∀ i, i < len → ∃ c, c.length = P.cellsOf e ∧ Row W (a.add (i * P.cellsOf e)) c ∧ Reads P W e c := by
  obtain ⟨H, enc, base, spare, held, fuel, x, h⟩ := h
  rcases Go.Deep.open_slice hu h with ⟨h1, _⟩ | ⟨a, len, cap, m, n, D, Pl, h1, _, hl, hm, rfl, _, hi⟩
  · exact .inl h1
  · refine .inr ⟨a, len, cap, h1, hl, hm, fun i hil => ?_⟩
    obtain ⟨c, h2, h3⟩ := hi i (by split <;> omega)
    have h4 := cells_row h2
    exact ⟨c, h4.1, h4.2, H, enc, base, spare, held, n, _, h3⟩
theorem row_append {a : Addr} {l l' : List Value} (h : Row W a l) (h' : Row W (a.add l.length) l') : Row W a (l ++ l') := by
  intro j v hj
  by_cases hl : j < l.length
  · rw [List.getElem?_append_left hl] at hj; exact h j v hj
  · rw [List.getElem?_append_right (by omega)] at hj
    have := h' _ v hj
    rwa [add_add, show l.length + (j - l.length) = j by omega] at this
end Go.K
end
section
namespace Go.K
open Go
variable {P : Program} {W : World} {t : TypeId}
theorem build_rel {α : Type} (E : R α) {a : Addr} : ∀ (n : Nat), (∀ i, i < n → ∃ c x, Row W (a.add (i * E.k)) c ∧ E.rel [] W c x) → ∃ (css : List (Vec E.k)) (l : List α), css.length = n ∧ Row W a ((vecE E.k E.pos).flat css) ∧ E.all [] W css l
  | 0, _ => ⟨[], [], rfl, fun j v hj => by simp [Enc.flat] at hj, .nil⟩
  | n + 1, h => by
    obtain ⟨css, l, h1, h2, h3⟩ := build_rel E n fun i hi => h i (by omega)
    obtain ⟨c, x, hc, hx⟩ := h n (by omega)
    refine ⟨css ++ [R.vec hx], l ++ [x], by simp [h1], ?_, h3.append (.cons hx .nil)⟩
    rw [Enc.flat_append]
    refine row_append h2 ?_
    rw [Enc.flat_length, h1]
    have e : (vecE E.k E.pos).flat [R.vec hx] = c := by show c ++ [] = c; exact List.append_nil _
    rw [e]; exact hc
theorem reads_slR {α : Type} (E : R α) {e : TypeId} {v : Value} (hu : P.underlying t = some (.slice e)) (hk : P.cellsOf e = E.k) (he : ∀ c, Reads P W e c → ∃ x, E.rel [] W c x) (h : Reads P W t [v]) : ∃ l, SlR E [] W v l ∧ l.length ≤ maxLen := by
  rcases reads_slice hu h with h1 | ⟨a, len, cap, h1, hl, hm, hi⟩
  · simp at h1; subst h1
    exact ⟨[], SlR.nil _ _, by simp⟩
  · simp at h1; subst h1
    obtain ⟨css, l, h2, h3, h4⟩ := build_rel (W := W) E (a := a) len fun i hil => by
      obtain ⟨c, _, h4, h5⟩ := hi i hil
      obtain ⟨x, hx⟩ := he c h5
      exact ⟨c, x, by rw [← hk]; exact h4, hx⟩
    subst h2
    exact ⟨l, ⟨css, ⟨Enc.flat_length _ css, some a, cap, rfl, hl, fun _ => ⟨a, rfl, h3⟩⟩, h4, fun _ b _ hm => by simp at hm⟩, by rw [← h4.length]; omega⟩
/-- A relation with something more. -/
def R.and {α : Type} (E : R α) (p : α → Prop) : R α where
  k := E.k
  pos := E.pos
  ag := E.ag
  rel := fun M w cs x => E.rel M w cs x ∧ p x
  len := fun h => E.len h.1
  one := fun h => E.one h.1
  step := fun h c hL hM => ⟨E.step h.1 c hL hM, h.2⟩
theorem All2.right {α β : Type} {r : α → β → Prop} {q : β → Prop} (h : ∀ a b, r a b → q b) : ∀ {l : List α} {m : List β}, All2 r l m → ∀ b ∈ m, q b
  | _, _, .nil, b, hb => by simp at hb
  | _, _, .cons h1 t, b, hb => by
    rcases List.mem_cons.1 hb with rfl | hb
    · exact h _ _ h1
    · exact All2.right h t b hb
theorem SlR.both {α : Type} {E : R α} {p : α → Prop} {M : List Nat} {w : World} {v : Value} {l : List α} (h : SlR (E.and p) M w v l) : SlR E M w v l ∧ ∀ x ∈ l, p x := by
  obtain ⟨css, h1, h2, h3⟩ := h
  exact ⟨⟨css, h1, h2.mono fun _ _ h => h.1, h3⟩, All2.right (fun _ _ h => h.2) h2⟩
end Go.K
end
section
namespace Go.Proofs.YtcnhbkaclgdehaaGreat
open Go Go.K
attribute [local irreducible] regK codeK retK KOp.wp K.Spec u32 leS vnS str zero32 sha2 encT idT sizeT checkT grantB idN stepR workL reachE findI dropG addG

def andI (a m : Int) : Int := IntKind.i64.wrap ((BitVec.ofInt IntKind.i64.bits a &&& BitVec.ofInt IntKind.i64.bits m).toNat : Nat)
abbrev smR : R Small := smallR.and fun z => z.frm.length ≤ 9223372036854775807
def cutZ (n : Nat) (m : Int) (z : Small) : Small := { z with long := UInt8.ofNat (z.long.toNat % n), fee := andI z.fee m }
end Go.Proofs.YtcnhbkaclgdehaaGreat
end
section
namespace Go.Proofs.YtcnhbkaclgdehaaGreat
open Go Go.K
attribute [local irreducible] regK codeK retK KOp.wp K.Spec u32 leS vnS str zero32 sha2 encT idT sizeT checkT grantB idN stepR workL reachE findI dropG addG
/-- An entry that is added as plain data. -/
structure ActP where
  sm : Small
  fin : Bool
def actpCs (a : ActP) (fv : Value) : List Value := [fv, u8V a.sm.idx, u8V a.sm.outs, .int .i64 a.sm.fee, u8V a.sm.mark, u8V a.sm.long, .bool a.fin]
def actpR : R ActP where
  k := 7
  pos := by decide
  ag := true
  rel := fun M w cs a => ∃ fv, cs = actpCs a fv ∧ SlR u8R M w fv a.sm.frm ∧ is64 a.sm.fee ∧ a.sm.frm.length ≤ 9223372036854775807
  len := fun ⟨_, h, _⟩ => by rw [h]; rfl
  one := fun ⟨fv, h, hs, _⟩ v hv => by
    obtain ⟨b, c, rfl⟩ := hs.form
    subst h; simp [actpCs] at hv; rcases hv with rfl | rfl | rfl | rfl | rfl | rfl | rfl <;> rfl
  step := fun ⟨fv, h, hs, h2⟩ c hL hM => ⟨fv, h, hs.step c hL hM, h2⟩
theorem OwnR.outs {t : TypeId} {B : Nat} {M M' : List Nat} {w : World} {v : Value} {l : List TOut} (h : OwnR outR t B M w v l) : OwnR outR t B M' w v l := by
  obtain ⟨css, h1, h2⟩ := h
  exact ⟨css, h1, h2.mono fun _ _ hr => hr⟩
def modZ (n : Nat) (z : Small) : Small := { z with long := UInt8.ofNat (z.long.toNat % n) }
end Go.Proofs.YtcnhbkaclgdehaaGreat
end
section
namespace Go.Proofs.YtcnhbkaclgdehaaGreat
open Go Go.K
attribute [local irreducible] regK codeK retK KOp.wp K.Spec u32 leS vnS str zero32 sha2 encT idT sizeT checkT grantB idN stepR workL reachE findI dropG addG
end Go.Proofs.YtcnhbkaclgdehaaGreat
end
section
namespace Go.Proofs.YtcnhbkaclgdehaaGreat
open Go Go.K
attribute [local irreducible] regK codeK retK KOp.wp K.Spec u32 leS vnS str zero32 sha2 encT idT sizeT checkT grantB idN stepR workL reachE findI

theorem Gr.both {w : World} {B g : Nat} {M U : List Nat} {l : List Ent} (hG : Gr w B g M l) (hU : GrR w g (U ++ M) l) : ∃ b1 vo b2 m sp, GrP w B g b1 vo b2 m sp l ∧ M = mutG g b1 b2 vo ∧ MapR sK entR (U ++ M) w b1 m := by
  obtain ⟨b1, vo, b2, m, sp, P, rfl⟩ := hG
  obtain ⟨b1', vo', b2', m', sp', Q⟩ := hU
  have e : [Value.map (some b1), vo, .map (some b2)] = [.map (some b1'), vo', .map (some b2')] := by
    have h1 := P.at_
    have h2 := Q.at_
    unfold At at h1 h2
    rw [h1] at h2
    simpa using h2
  simp only [List.cons.injEq, Value.map.injEq, Option.some.injEq, and_true] at e
  obtain ⟨rfl, rfl, rfl⟩ := e
  exact ⟨b1, vo, b2, m', sp', ⟨P.at_, Q.ents.step (Chg.refl [] _) (by simp) (by simp) (fun b hb => .inl (List.mem_append_right _ hb)), Q.pts, P.ord, Q.inv, P.nd, P.lo⟩, rfl, Q.ents⟩
/-- A graph, and blocks beside it, that are turned alone. -/
structure GrU (w : World) (B g : Nat) (M U : List Nat) (l : List Ent) : Prop where
  gr : Gr w B g M l
  rd : GrR w g (U ++ M) l
  dj : ∀ b ∈ M, b ∉ U
theorem GrU.ext {w w' : World} {B g : Nat} {M U : List Nat} {l : List Ent} (h : GrU w B g M U l) (c : Ext w w') : GrU w' B g M U l := ⟨h.gr.ext c, h.rd.ext c, h.dj⟩
theorem GrU.of {w : World} {B g : Nat} {M : List Nat} {l : List Ent} (h : Gr w B g M l) : GrU w B g M [] l := ⟨h, h.r, by simp⟩
theorem GrU.more {w w' : World} {B g : Nat} {M U U' : List Nat} {l : List Ent} (h : GrU w B g M U l) (c : Ext w w') (hU : ∀ b ∈ U', b ∈ U ∨ w.heap.size ≤ b) : GrU w' B g M U' l :=
  ⟨h.gr.ext c, h.rd.more c (fun b hb => (List.mem_append.1 hb).elim (fun h1 => (hU b h1).imp (fun h2 => List.mem_append_left _ h2) id) (fun h1 => .inl (List.mem_append_right _ h1))), fun b hb h1 => (hU b h1).elim (h.dj b hb) (fun h2 => by have := h.gr.lt b hb; omega)⟩
theorem GrU.chg {w w' : World} {B g : Nat} {M U U' : List Nat} {l : List Ent} (h : GrU w B g M U l) (c : Chg U w w') (hU : ∀ b ∈ U', b ∈ U ∨ w.heap.size ≤ b) : GrU w' B g M U' l := by
  have hlt := h.gr.lt
  obtain ⟨b1, vo, b2, m, sp, P, rfl, q⟩ := Gr.both h.gr h.rd
  have dj := h.dj
  have n1 := dj g (by simp)
  have n2 := dj b1 (by simp)
  have n3 := dj b2 (by simp)
  have o := P.ord.chg c fun b hb h => dj b (by simp [hb]) h
  have a := P.at_.chg c n1
  have pp := P.pts.chg c n3
  have e1 : ∀ b ∈ U' ++ mutG g b1 b2 vo, b ∈ U ++ mutG g b1 b2 vo ∨ w.heap.size ≤ b := fun b hb => (List.mem_append.1 hb).elim (fun h1 => (hU b h1).imp (fun h2 => List.mem_append_left _ h2) id) (fun h1 => .inl (List.mem_append_right _ h1))
  have mm := q.step (M' := U' ++ mutG g b1 b2 vo) c n2 (fun b hb => .inl (List.mem_append_left _ hb)) e1
  have m0 := q.step (M' := mutG g b1 b2 vo) c n2 (fun b hb => .inl (List.mem_append_left _ hb)) (fun b hb => .inl (List.mem_append_right _ hb))
  exact ⟨⟨b1, vo, b2, m, sp, ⟨a, m0, pp, o, P.inv, P.nd, P.lo⟩, rfl⟩, ⟨b1, vo, b2, m, sp, ⟨a, mm, pp, o.sl, P.inv⟩⟩, fun b hb h1 => (hU b h1).elim (dj b hb) (fun h2 => by have := hlt b hb; omega)⟩
end Go.Proofs.YtcnhbkaclgdehaaGreat
end
section
namespace Go.Proofs
open Go.Shelf
def Tryz.lays264_ren : Go.Shelf.Ren := ⟨fun | 264 => 137 | n => n, fun | 53 => 194 | 46 => 217 | n => n, fun | n => n⟩
theorem Tryz.lays264 : Go.Proofs.Lays.n264 Tryz.prog Tryz.lays264_ren := {
  mixed := by kernel_rfl
  f264 := Tryz.func137.trans (congrArg some (by kernel_rfl))
  t46 := Tryz.underlying217
  a46 := Tryz.isAgg217
  z46 := Tryz.sizeOf217
  v46 := Tryz.zeroValue217
  t53 := Tryz.underlying194
  a53 := Tryz.isAgg194
  z53 := Tryz.sizeOf194
  v53 := Tryz.zeroValue194 }
open Go.RowKit Go.Lib in
theorem Tryz.bits_Mul64 (x y : Nat) (hx : x < 18446744073709551616) (hy : y < 18446744073709551616) (w : World) :
    Calls Tryz.prog 137 #[.int .u64 x, .int .u64 y] w fun e w' => e = .returned (.tuple #[.int .u64 ((x * y / 18446744073709551616 : Nat) : Int), .int .u64 ((x * y % 18446744073709551616 : Nat) : Int)]) ∧ w' = w := Any.bits_Mul64 Tryz.lays264 x y hx hy w
end Go.Proofs
end
section
namespace Go.Proofs.YtcnhbkaclgdehaaGreat
open Go Go.K
theorem mul64_spec (x y : Nat) (hx : x < 18446744073709551616) (hy : y < 18446744073709551616) (w : World) : K.Spec Tryz.prog F.math_bits_Mul64 [.int .u64 (x : Nat), .int .u64 (y : Nat)] w fun v w' => v = .tuple #[.int .u64 ((x * y / 18446744073709551616 : Nat) : Int), .int .u64 ((x * y % 18446744073709551616 : Nat) : Int)] ∧ Ext w w' :=
  (Tryz.bits_Mul64 x y hx hy w).mono fun e w' ⟨he, hw⟩ => ⟨_, he, rfl, by rw [hw]; exact Ext.refl _⟩
attribute [local irreducible] regK codeK retK KOp.wp K.Spec u32 leS vnS str zero32 sha2

def intE : Enc Int := ⟨fun n => [.int .i64 n], 1, fun _ => rfl, by decide, by intro x v hv; simp at hv; subst hv; rfl⟩
theorem u64_w {n : Nat} (h : n ≤ 2100000000000000) : IntKind.u64.wrap (n : Int) = (n : Nat) := by
  have e : ∀ m : Int, IntKind.u64.wrap m = m % 18446744073709551616 := fun _ => rfl
  rw [e]; omega
/-! The document's. -/
end Go.Proofs.YtcnhbkaclgdehaaGreat
end
section
namespace Go.Proofs.YtcnhbkaclgdehaaGreat
open Go Go.K
attribute [local irreducible] regK codeK retK KOp.wp K.Spec u32 leS vnS str zero32 sha2 encT idT sizeT checkT grantB idN stepR workL reachE findI dropG addG aboveL belowL idsOf feeD sizeD scoreL worstI cmpR rateR sizeL

theorem idsOf_le1 (l : List Ent) (m : List Bool) : (idsOf l m).length ≤ l.length := by
  have := (idsOf_sub l m).length_le
  simpa using this
end Go.Proofs.YtcnhbkaclgdehaaGreat
end
