/- The engine, part 9: maps that read as lists of pairs. The engine, part 10: loops and joins over a state; more steps. -/
import Derived.Test.YteggaepppahefaaGreatH8
set_option linter.unusedVariables false
set_option linter.unusedSimpArgs false
section
namespace Go.K
open Go
variable {P : Program}

structure KEnc (κ : Type) [DecidableEq κ] where
  f : κ → Value
  s : Bool
  ks : List CK
  eq_ : ∀ a b, keyEq s ks (f a) (f b) = some (decide (a = b))
  ok : ∀ a, keyOK s ks (f a) = true
variable {κ β : Type} [DecidableEq κ] {E : KEnc κ} {fv : β → Value}

def aget (m : List (κ × β)) (k : κ) : Option β := (m.find? fun p => decide (p.1 = k)).map (·.2)
def aset (m : List (κ × β)) (k : κ) (v : β) : List (κ × β) :=
  match m with
  | [] => [(k, v)]
  | p :: r => if p.1 = k then (k, v) :: r else p :: aset r k v
def adel (m : List (κ × β)) (k : κ) : List (κ × β) := m.filter fun p => decide (p.1 ≠ k)

/-- The entries of a map's block, in the order of their births. -/
structure Wf (es : Array MapEntry) (clock : Nat) : Prop where
  births : es.toList.Pairwise fun a b => a.born < b.born
  lt : ∀ e ∈ es.toList, e.born < clock
/-- Block r is a map that reads as m. -/
def MapE (E : KEnc κ) (fv : β → Value) (w : World) (r : Nat) (m : List (κ × β)) : Prop :=
  ∃ es clock, At w r (.map es clock) ∧ Wf es clock ∧ es.toList.map (fun e => (e.key, e.val)) = m.map (fun p => (E.f p.1, fv p.2)) ∧ (m.map (·.1)).Nodup
theorem MapE.chg {l : List Nat} {w w' : World} {r : Nat} {m : List (κ × β)} (hc : Chg l w w') (h : MapE E fv w r m) (hr : r ∉ l) : MapE E fv w' r m := by
  obtain ⟨es, clock, h1, h2⟩ := h; exact ⟨es, clock, h1.chg hc hr, h2⟩
theorem MapE.ext {w w' : World} {r : Nat} {m : List (κ × β)} (hc : Ext w w') (h : MapE E fv w r m) : MapE E fv w' r m := h.chg hc (by simp)
theorem MapE.lt {w : World} {r : Nat} {m : List (κ × β)} (h : MapE E fv w r m) : r < w.heap.size := by obtain ⟨es, clock, h1, _⟩ := h; exact h1.lt
theorem MapE.nodup {w : World} {r : Nat} {m : List (κ × β)} (h : MapE E fv w r m) : (m.map (·.1)).Nodup := by obtain ⟨es, clock, _, _, _, h1⟩ := h; exact h1
theorem MapE.new (w : World) : MapE E fv (w.alloc (.map #[] 0)) w.heap.size [] := ⟨#[], 0, At.new w _, ⟨by simp, by simp⟩, rfl, by simp⟩

theorem findK_enc (k : κ) : ∀ (es : List MapEntry) (m : List (κ × β)) (i : Nat), es.map (fun e => (e.key, e.val)) = m.map (fun p => (E.f p.1, fv p.2)) →
    findK E.s E.ks (E.f k) es i = some ((m.findIdx? fun p => decide (p.1 = k)).bind fun j => (m[j]?).map fun p => (i + j, fv p.2))
  | [], [], i, _ => rfl
  | e :: es, p :: m, i, h => by
    simp only [List.map_cons, List.cons.injEq, Prod.mk.injEq] at h
    obtain ⟨⟨hk, hv⟩, h⟩ := h
    simp only [findK, hk, E.eq_]
    by_cases hp : p.1 = k
    · subst hp
      simp [List.findIdx?_cons, hv]
    · have hp' : ¬ (k = p.1) := fun e => hp e.symm
      simp only [hp', decide_false]
      rw [findK_enc k es m (i + 1) h]
      simp only [List.findIdx?_cons, hp, decide_false, Bool.false_eq_true, if_false]
      cases m.findIdx? (fun p => decide (p.1 = k)) with
      | none => rfl
      | some j => simp only [Option.bind_some, Option.map_some, List.getElem?_cons_succ]; congr 2; funext p; rw [show i + 1 + j = i + (j + 1) by omega]
  | [], _ :: _, _, h => by simp at h
  | _ :: _, [], _, h => by simp at h

theorem aget_idx (m : List (κ × β)) (k : κ) : aget m k = (m.findIdx? fun p => decide (p.1 = k)).bind fun j => (m[j]?).map (·.2) := by
  unfold aget
  induction m with
  | nil => rfl
  | cons p m ih =>
    by_cases hp : p.1 = k
    · simp [List.find?_cons, List.findIdx?_cons, hp]
    · simp only [List.find?_cons, hp, decide_false, List.findIdx?_cons, Bool.false_eq_true, if_false]
      rw [ih]
      cases m.findIdx? (fun p => decide (p.1 = k)) <;> simp

section
variable {d : Option Tmp} {r : KR} {K : Env → World → Prop} {ρ : Env} {w : World}
theorem lookup_rd {s : Bool} {ks : List CK} {z : Value} {ok : Bool} {m x : Operand} {b : Nat} {l : List (κ × β)} {k : κ} (hm : ev ρ m = .map (some b)) (hx : ev ρ x = E.f k) (hM : MapE E fv w b l) (hs : s = E.s) (hks : ks = E.ks) :
    (KOp.lookup s ks z ok m x).rd ρ w = some (match aget l k with
      | some v => if ok then .tuple #[fv v, .bool true] else fv v
      | none => if ok then .tuple #[z, .bool false] else z) := by
  subst hs hks
  obtain ⟨es, clock, hat, _, heq, _⟩ := hM
  have hf := findK_enc (E := E) (fv := fv) k es.toList l 0 heq
  unfold At at hat
  simp only [KOp.rd, hx, E.ok, if_true, hm, hat, hf, Option.map_some, aget_idx]
  cases hi : l.findIdx? (fun p => decide (p.1 = k)) with
  | none => rfl
  | some j =>
    have hj : j < l.length := (List.findIdx?_eq_some_iff_getElem.1 hi).1
    simp [List.getElem?_eq_getElem hj]
theorem st_lookup {s : Bool} {ks : List CK} {z : Value} {m x : Operand} {b : Nat} {l : List (κ × β)} {k : κ} (hm : ev ρ m = .map (some b)) (hx : ev ρ x = E.f k) (hM : MapE E fv w b l) (hs : s = E.s) (hks : ks = E.ks)
    (k1 : ∀ v, aget l k = some v → regK P r K (put ρ d (fv v)) w) (k2 : aget l k = none → regK P r K (put ρ d z) w) : regK P (.cons ⟨d, .lookup s ks z false m x, none⟩ r) K ρ w := by
  have h := lookup_rd (z := z) (ok := false) hm hx hM hs hks
  cases ha : aget l k with
  | none => rw [ha] at h; exact st_wp (still_wp rfl h (k2 ha))
  | some v => rw [ha] at h; exact st_wp (still_wp rfl h (k1 v ha))
theorem st_lookupOk {s : Bool} {ks : List CK} {z : Value} {m x : Operand} {b : Nat} {l : List (κ × β)} {k : κ} (hm : ev ρ m = .map (some b)) (hx : ev ρ x = E.f k) (hM : MapE E fv w b l) (hs : s = E.s) (hks : ks = E.ks)
    (k1 : ∀ v, aget l k = some v → regK P r K (put ρ d (.tuple #[fv v, .bool true])) w) (k2 : aget l k = none → regK P r K (put ρ d (.tuple #[z, .bool false])) w) : regK P (.cons ⟨d, .lookup s ks z true m x, none⟩ r) K ρ w := by
  have h := lookup_rd (z := z) (ok := true) hm hx hM hs hks
  cases ha : aget l k with
  | none => rw [ha] at h; exact st_wp (still_wp rfl h (k2 ha))
  | some v => rw [ha] at h; exact st_wp (still_wp rfl h (k1 v ha))
theorem st_makeMap (k : ∀ b w', Ext w w' → MapE E fv w' b [] → w.heap.size ≤ b → regK P r K (put ρ d (.map (some b))) w') : regK P (.cons ⟨d, .makeMap, none⟩ r) K ρ w :=
  st_wp (k _ _ (Ext.alloc w _) (MapE.new w) (Nat.le_refl _))
end

/-! ### Writing -/
theorem aset_absent {m : List (κ × β)} {k : κ} {v : β} (h : (m.findIdx? fun p => decide (p.1 = k)) = none) : aset m k v = m ++ [(k, v)] := by
  induction m with
  | nil => rfl
  | cons p m ih =>
    rw [List.findIdx?_cons] at h
    by_cases hp : p.1 = k
    · simp [hp] at h
    · simp only [hp, decide_false, Bool.false_eq_true, if_false, Option.map_eq_none_iff] at h
      simp [aset, hp, ih h]
theorem aset_present {m : List (κ × β)} {k : κ} {v : β} {j : Nat} (h : (m.findIdx? fun p => decide (p.1 = k)) = some j) : aset m k v = m.set j (k, v) := by
  induction m generalizing j with
  | nil => simp at h
  | cons p m ih =>
    rw [List.findIdx?_cons] at h
    by_cases hp : p.1 = k
    · simp [hp] at h; subst h; simp [aset, hp]
    · simp only [hp, decide_false, Bool.false_eq_true, if_false, Option.map_eq_some_iff] at h
      obtain ⟨i, hi, rfl⟩ := h
      simp [aset, hp, ih hi]
theorem aset_keys {m : List (κ × β)} {k : κ} {v : β} (hn : (m.map (·.1)).Nodup) : ((aset m k v).map (·.1)).Nodup := by
  cases h : (m.findIdx? fun p => decide (p.1 = k)) with
  | none =>
    rw [aset_absent h, List.map_append, List.nodup_append]
    refine ⟨hn, by simp, ?_⟩
    intro a ha b hb
    simp at hb; subst hb
    rw [List.findIdx?_eq_none_iff] at h
    obtain ⟨p, hp, rfl⟩ := List.mem_map.1 ha
    have := h p hp
    simpa using this
  | some j =>
    rw [aset_present h]
    obtain ⟨hj, hk, _⟩ := List.findIdx?_eq_some_iff_getElem.1 h
    have : (m.set j (k, v)).map (·.1) = m.map (·.1) := by
      apply List.ext_getElem
      · simp
      · intro i h1 h2
        simp only [List.getElem_map, List.getElem_set]
        split
        · rename_i e; subst e; simpa using (of_decide_eq_true hk).symm
        · rfl
    rw [this]; exact hn

theorem wf_push {es : Array MapEntry} {clock : Nat} (h : Wf es clock) (k v : Value) : Wf (es.push { key := k, val := v, born := clock }) (clock + 1) := by
  refine ⟨?_, ?_⟩
  · rw [Array.toList_push, List.pairwise_append]
    exact ⟨h.births, by simp, fun a ha b hb => by simp at hb; subst hb; exact h.lt a ha⟩
  · intro e he
    rw [Array.toList_push, List.mem_append] at he
    rcases he with he | he
    · have := h.lt e he; omega
    · simp at he; subst he; simp
theorem wf_modify {es : Array MapEntry} {clock : Nat} (h : Wf es clock) (i : Nat) (g : MapEntry → MapEntry) (hg : ∀ e, (g e).born = e.born) : Wf (es.modify i g) clock := by
  have hb : (es.modify i g).toList.map (·.born) = es.toList.map (·.born) := by
    apply List.ext_getElem
    · simp
    · intro j h1 h2
      simp only [List.getElem_map, Array.getElem_toList, Array.getElem_modify]
      split <;> simp [hg]
  refine ⟨?_, fun e he => ?_⟩
  · have h1 : (es.toList.map (·.born)).Pairwise (· < ·) := List.pairwise_map.2 h.births
    rw [← hb] at h1
    exact List.pairwise_map.1 h1
  · have : e.born ∈ (es.modify i g).toList.map (·.born) := List.mem_map.2 ⟨e, he, rfl⟩
    rw [hb] at this
    obtain ⟨e', he', h2⟩ := List.mem_map.1 this
    have := h.lt e' he'
    omega
theorem MapE.put_ {w : World} {b : Nat} {l : List (κ × β)} (hM : MapE E fv w b l) (k : κ) (v : β) : ∃ es clock f, At w b (.map es clock) ∧ findK E.s E.ks (E.f k) es.toList 0 = some f ∧
    MapE E fv (setObjW w b (.map (putEntry es clock (E.f k) (fv v) f).1 (putEntry es clock (E.f k) (fv v) f).2)) b (aset l k v) := by
  obtain ⟨es, clock, hat, hwf, heq, hn⟩ := hM
  refine ⟨es, clock, _, hat, findK_enc (E := E) (fv := fv) k es.toList l 0 heq, ?_⟩
  cases h : (l.findIdx? fun p => decide (p.1 = k)) with
  | none =>
    simp only [Option.bind_none, putEntry]
    refine ⟨_, _, hat.setObj, wf_push hwf _ _, ?_, aset_keys hn⟩
    rw [aset_absent h, Array.toList_push, List.map_append, List.map_append, heq]
    rfl
  | some j =>
    obtain ⟨hj, hk, _⟩ := List.findIdx?_eq_some_iff_getElem.1 h
    simp only [Option.bind_some, List.getElem?_eq_getElem hj, Option.map_some, putEntry, Nat.zero_add]
    refine ⟨_, _, hat.setObj, wf_modify hwf _ _ (fun _ => rfl), ?_, aset_keys hn⟩
    rw [aset_present h]
    apply List.ext_getElem
    · have := congrArg List.length heq; simpa using this
    · intro i h1 h2
      have h3 : i < es.toList.length := by simpa using h1
      have h4 : i < l.length := by simpa using h2
      have h5 : (es.toList.map (fun e => (e.key, e.val)))[i]'(by simpa using h3) = (l.map (fun p => (E.f p.1, fv p.2)))[i]'(by simpa using h4) := by simp only [heq]
      simp only [List.getElem_map] at h5
      simp only [List.getElem_map, Array.getElem_toList, Array.getElem_modify, List.getElem_set] at h5 ⊢
      split
      · rfl
      · exact h5
section
variable {d : Option Tmp} {r : KR} {K : Env → World → Prop} {ρ : Env} {w : World}
theorem st_mapUpdate {s : Bool} {ks : List CK} {m x y : Operand} {b : Nat} {l : List (κ × β)} {k : κ} {v : β} (hm : ev ρ m = .map (some b)) (hx : ev ρ x = E.f k) (hy : ev ρ y = fv v) (hM : MapE E fv w b l) (hs : s = E.s) (hks : ks = E.ks)
    (kk : ∀ w', Chg [b] w w' → MapE E fv w' b (aset l k v) → regK P r K (put ρ d undef) w') : regK P (.cons ⟨d, .mapUpdate s ks m x y, none⟩ r) K ρ w := by
  subst hs hks
  obtain ⟨es, clock, f, hat, hf, hM'⟩ := hM.put_ k v
  refine st_wp ⟨b, es, clock, f, hm, hat, by rw [hx]; exact E.ok k, by rw [hx]; exact hf, ?_⟩
  rw [hx, hy]
  exact kk _ (Chg.setObj _ _ _) hM'
end

/-! ### m[k] = v in two steps -/
def MapPend (E : KEnc κ) (fv : β → Value) (w : World) (b : Nat) (l : List (κ × β)) (k : κ) (st : Nat) : Prop :=
  ∃ es clock i, At w b (.map es clock) ∧ Wf es clock ∧ (∃ h : i < es.size, es[i].born = st) ∧ (∀ v : β, (es.modify i fun e => { e with val := fv v }).toList.map (fun e => (e.key, e.val)) = (aset l k v).map (fun p => (E.f p.1, fv p.2))) ∧ (l.map (·.1)).Nodup
theorem MapPend.chg {s : List Nat} {w w' : World} {b : Nat} {l : List (κ × β)} {k : κ} {st : Nat} (hc : Chg s w w') (h : MapPend E fv w b l k st) (hb : b ∉ s) : MapPend E fv w' b l k st := by
  obtain ⟨es, clock, i, h1, h2⟩ := h; exact ⟨es, clock, i, h1.chg hc hb, h2⟩
theorem MapPend.ext {w w' : World} {b : Nat} {l : List (κ × β)} {k : κ} {st : Nat} (hc : Ext w w') (h : MapPend E fv w b l k st) : MapPend E fv w' b l k st := h.chg hc (by simp)
section
variable {d : Option Tmp} {r : KR} {K : Env → World → Prop} {ρ : Env} {w : World}
theorem find_born {es : Array MapEntry} {clock i : Nat} (hw : Wf es clock) (hi : i < es.size) {n : Int} (hn : n = (es[i].born : Int)) : es.findIdx? (fun e => (e.born : Int) == n) = some i := by
  subst hn
  rw [Array.findIdx?_eq_some_iff_getElem]
  refine ⟨hi, by simp, fun j hj => ?_⟩
  have := List.pairwise_iff_getElem.1 hw.births j i (by simp; omega) (by simpa using hi) hj
  simp only [Array.getElem_toList] at this
  simp; omega
theorem st_entryStore {m x y : Operand} {b : Nat} {l : List (κ × β)} {k : κ} {v : β} {st : Nat} {kd : IntKind} (hm : ev ρ m = .map (some b)) (hx : ev ρ x = .int kd (st : Int)) (hy : ev ρ y = fv v) (hM : MapPend E fv w b l k st)
    (kk : ∀ w', Chg [b] w w' → MapE E fv w' b (aset l k v) → regK P r K (put ρ d undef) w') : regK P (.cons ⟨d, .entryStore m x y, none⟩ r) K ρ w := by
  obtain ⟨es, clock, i, hat, hwf, ⟨hi, hst⟩, hall, hn⟩ := hM
  refine st_wp ⟨b, es, clock, kd, st, i, hm, hat, hx, find_born hwf hi (by rw [hst]), ?_⟩
  rw [hy]
  exact kk _ (Chg.setObj _ _ _) ⟨_, _, hat.setObj, wf_modify hwf _ _ (fun _ => rfl), hall v, aset_keys hn⟩
end

/-! ### Ranging over a map -/
def IterE (E : KEnc κ) (fv : β → Value) (w : World) (it b : Nat) (left : List (κ × β)) : Prop :=
  ∃ es clock seen, At w it (.mapIter (some b) clock seen clock) ∧ At w b (.map es clock) ∧ Wf es clock ∧ (es.toList.filter fun e => !seen.contains e.born).map (fun e => (e.key, e.val)) = left.map (fun p => (E.f p.1, fv p.2))
def IterAt (E : KEnc κ) (fv : β → Value) (w : World) (it b : Nat) (p : κ × β) : Prop :=
  ∃ es clock seen st e, At w it (.mapIter (some b) clock seen clock) ∧ At w b (.map es clock) ∧ seen.back? = some st ∧ es.find? (·.born == st) = some e ∧ e.key = E.f p.1 ∧ e.val = fv p.2
theorem IterE.chg {s : List Nat} {w w' : World} {it b : Nat} {l : List (κ × β)} (hc : Chg s w w') (h : IterE E fv w it b l) (h1 : it ∉ s) (h2 : b ∉ s) : IterE E fv w' it b l := by
  obtain ⟨es, clock, seen, a1, a2, r⟩ := h; exact ⟨es, clock, seen, a1.chg hc h1, a2.chg hc h2, r⟩
theorem IterE.ext {w w' : World} {it b : Nat} {l : List (κ × β)} (hc : Ext w w') (h : IterE E fv w it b l) : IterE E fv w' it b l := h.chg hc (by simp) (by simp)
theorem IterAt.ext {w w' : World} {it b : Nat} {p : κ × β} (hc : Ext w w') (h : IterAt E fv w it b p) : IterAt E fv w' it b p := by
  obtain ⟨es, clock, seen, st, e, a1, a2, r⟩ := h; exact ⟨es, clock, seen, st, e, a1.ext hc, a2.ext hc, r⟩
section
variable {d : Option Tmp} {r : KR} {K : Env → World → Prop} {ρ : Env} {w : World}
end
end Go.K
end
section
namespace Go.K
open Go
variable {P : Program}
/-! ### Loops and joins over a state -/
def upds (ρ : Env) : List (Tmp × Value) → Env
  | [] => ρ
  | (t, v) :: l => upd (upds ρ l) t v
def Has (ρ : Env) : List (Tmp × Value) → Prop
  | [] => True
  | (t, v) :: l => ρ t = v ∧ Has ρ l
theorem upds_eq {ρ : Env} : ∀ {l : List (Tmp × Value)}, Has ρ l → upds ρ l = ρ
  | [], _ => rfl
  | (t, v) :: l, h => by
    simp only [upds]
    rw [upds_eq h.2]; exact upd_eq h.1
theorem least {p : Nat → Prop} : ∀ n, p n → ∃ m, p m ∧ ∀ k, p k → m ≤ k
  | n, h => by
    by_cases hx : ∃ k, k < n ∧ p k
    · obtain ⟨k, hk, hp⟩ := hx
      exact least k hp
    · exact ⟨n, h, fun k hk => Nat.le_of_not_lt fun hl => hx ⟨k, hl, hk⟩⟩
theorem c_loopV {K : Exit → Env → World → Prop} {ρ : Env} {w : World} {a : KC} {σ : Type} (I : σ → World → Prop) (E : σ → List (Tmp × Value)) (μ : σ → Nat) (s0 : σ) (h0 : Has ρ (E s0)) (hI : I s0 w)
    (h : ∀ s ρ w, I s w → codeK P a (loopK (fun ρ' w' => ∃ s', Has ρ' (E s') ∧ I s' w' ∧ μ s' < μ s) K) (upds ρ (E s)) w) : codeK P (.loop a) K ρ w := by
  have key : ∀ ρ w, ∃ m : Nat, (∃ s, Has ρ (E s) ∧ I s w) → (∃ s, Has ρ (E s) ∧ I s w ∧ μ s = m) ∧ ∀ s, Has ρ (E s) → I s w → m ≤ μ s := by
    intro ρ w
    by_cases hx : ∃ s, Has ρ (E s) ∧ I s w
    · obtain ⟨s, h1, h2⟩ := hx
      obtain ⟨m, hm, hl⟩ := least (p := fun n => ∃ s, Has ρ (E s) ∧ I s w ∧ μ s = n) _ ⟨s, h1, h2, rfl⟩
      exact ⟨m, fun _ => ⟨hm, fun s h1 h2 => hl _ ⟨s, h1, h2, rfl⟩⟩⟩
    · exact ⟨0, fun h => absurd h hx⟩
  refine c_loop (fun ρ w => ∃ s, Has ρ (E s) ∧ I s w) (fun ρ w => Classical.choose (key ρ w)) ⟨s0, h0, hI⟩ ?_
  intro ρ w hs
  obtain ⟨⟨s, h1, h2, h3⟩, _⟩ := Classical.choose_spec (key ρ w) hs
  have := h s ρ w h2
  rw [upds_eq h1] at this
  refine codeK_mono a (fun e ρ' w' he => ?_) this
  cases e with
  | normal =>
    simp only [loopK] at he ⊢
    obtain ⟨s', g1, g2, g3⟩ := he
    refine ⟨⟨s', g1, g2⟩, ?_⟩
    have := (Classical.choose_spec (key ρ' w') ⟨s', g1, g2⟩).2 s' g1 g2
    omega
  | _ => simpa only [loopK] using he
theorem c_cutV {K : Exit → Env → World → Prop} {ρ : Env} {w : World} {a b : KC} {σ : Type} (J : σ → World → Prop) (E : σ → List (Tmp × Value))
    (h : codeK P a (loopK (fun ρ' w' => ∃ s, Has ρ' (E s) ∧ J s w') K) ρ w) (h2 : ∀ s ρ w, J s w → codeK P b K (upds ρ (E s)) w) : codeK P (.seq a b) K ρ w :=
  c_cut (fun ρ w => ∃ s, Has ρ (E s) ∧ J s w) h fun ρ w ⟨s, h1, h3⟩ => by have := h2 s ρ w h3; rwa [upds_eq h1] at this

/-! ### Results -/
theorem rv_cell {ρ : Env} {w : World} {n c : Nat} {ad : Addr} {cs : List Value} (r : Row w ad cs) (hc : ρ c = .pointer (some ad)) (hn : cs.length = n) : rvRd ρ w (.cellN n c) = some (.agg cs.toArray) := by
  simp only [rvRd, hc]
  rw [r.r0 (n := n) (l := cs) (by omega) (by rw [← hn, List.take_length])]; rfl
theorem rv_tmp {ρ : Env} {w : World} {t : Nat} : rvRd ρ w (.tmp t) = some (ρ t) := rfl
theorem ret1 {ρ : Env} {w : World} {x : RV} {a : Value} (h : rvRd ρ w x = some a) : retRd ρ w [x] = some a := h
theorem ret2 {ρ : Env} {w : World} {x y : RV} {a b : Value} (h1 : rvRd ρ w x = some a) (h2 : rvRd ρ w y = some b) : retRd ρ w [x, y] = some (.tuple #[a, b]) := by simp [retRd, rvsRd, h1, h2]
/-! ### More steps -/
section
variable {d : Option Tmp} {r : KR} {K : Env → World → Prop} {ρ : Env} {w : World}
theorem st_bin {op : BinOp} {x y : Operand} {a b v : Value} (hx : ev ρ x = a) (hy : ev ρ y = b) (h : binVal op a b = some v) (k : regK P r K (put ρ d v) w) : regK P (.cons ⟨d, .bin op x y, none⟩ r) K ρ w :=
  st_fix rfl (by simp [KOp.fix, hx, hy, h]) k
theorem st_shr {x y : Operand} {kd kd' : IntKind} {a b : Int} (hx : ev ρ x = .int kd a) (hy : ev ρ y = .int kd' b) (h : 0 ≤ b) (k : regK P r K (put ρ d (.int kd (a.fdiv (2 ^ (min b.toNat kd.bits))))) w) : regK P (.cons ⟨d, .bin .shr x y, none⟩ r) K ρ w :=
  st_bin hx hy (by simp only [binVal, isShift, if_true]; rw [if_neg (by omega)]) k
theorem st_cat {x y : Operand} {a b : ByteArray} (hx : ev ρ x = .string a) (hy : ev ρ y = .string b) (h : a.size + b.size ≤ 9223372036854775807) (k : regK P r K (put ρ d (.string (a ++ b))) w) : regK P (.cons ⟨d, .bin .add x y, none⟩ r) K ρ w :=
  st_bin hx hy (by simp only [binVal, strBin]; rw [if_neg (by have : IntKind.i64.max = 9223372036854775807 := rfl; rw [this]; omega)]) k
theorem st_min {x y : Operand} {a b : Int} (hx : ev ρ x = .int .i64 a) (hy : ev ρ y = .int .i64 b) (k : regK P r K (put ρ d (.int .i64 (min a b))) w) : regK P (.cons ⟨d, .minmax false x [y], none⟩ r) K ρ w :=
  st_fix rfl (by
    have e : (if b < a then b else a) = min a b := by split <;> omega
    simp only [KOp.fix, List.foldl_cons, List.foldl_nil, hx, hy, Option.bind_some, minmax2, Bool.false_eq_true, if_false, e]) k
theorem st_takeE {α : Type} {E : Enc α} {size : Nat} {x h : Operand} {v : Value} {l : List α} {kd : IntKind} {n : Nat} {w1 : World} (hx : ev ρ x = v) (hh : ev ρ h = .int kd (n : Nat)) (hs : SlE E w1 v l) (hn : n ≤ l.length) (hk : size = E.k)
    (k : ∀ v', SlE E w1 v' (l.take n) → (∀ b ∈ blkOf v', b ∈ blkOf v) → regK P r K (put ρ d v') w) : regK P (.cons ⟨d, .sliceSl size x none (some h), none⟩ r) K ρ w := by
  subst hk
  obtain ⟨hl, base, cap, rfl, hc, hr⟩ := hs
  have h2 := SlE.cut (E := E) (lo := 0) (hi := n) ⟨hl, base, cap, rfl, hc, hr⟩ (Nat.zero_le _) hn (cap - 0) (by omega)
  refine st_fix rfl (v := .slice (if cap = 0 then base else base.map fun ad : Addr => ad.add (0 * E.k)) (n - 0) (cap - 0)) ?_ (k _ (by simpa using h2) ?_)
  · simp only [KOp.fix, hx, hh, Option.bind_some, Option.map_some]
    rw [if_pos (by omega)]; simp
  · intro b hb
    cases base with
    | none => simp [blkOf] at hb
    | some a => split at hb <;> simpa [blkOf, add_zero] using hb
/-- string(a slice of bytes) -/
theorem st_strOf {x : Operand} {v : Value} {a : Option Addr} {n c : Nat} {bs : List UInt8} (hx : ev ρ x = v) (hv : v = .slice a n c) (h : slCells w 1 v = some (n, bs.map fun b : UInt8 => Value.int .u8 b.toNat)) (k : regK P r K (put ρ d (.string ⟨bs.toArray⟩)) w) : regK P (.cons ⟨d, .strOf x, none⟩ r) K ρ w :=
  st_wp ⟨a, n, c, bs, by rw [hx, hv], by rw [hx]; exact h, k⟩
theorem sl_new {b n k : Nat} {cs : List Value} {t : TypeId} (h : At w b (.cells cs.toArray t (0, 0))) (hl : cs.length = n * k) : slCells w k (.slice (some ⟨b, 0, none⟩) n n) = some (n, cs) :=
  Sl.cells ⟨hl, _, _, rfl, Nat.le_refl _, fun _ => ⟨_, rfl, Row.of_at h⟩⟩
theorem all_one {vs : List Value} (h : vs.all (fun v => v.oneCell') = true) : ∀ v ∈ vs, v.oneCell' = true := fun v hv => List.all_eq_true.1 h v hv
/-- A new variable of many cells, and its first value. -/
theorem st_local {t : TypeId} {z vs : List Value} {d' : Tmp} {n : Nat} {y : Operand} (hy : ∀ p, ev (upd ρ d' p) y = .agg vs.toArray) (hn : vs.length = n) (hz : z.length = n) (h1 : vs.all (fun v => v.oneCell') = true)
    (k : ∀ b w', Ext w w' → At w' b (.cells vs.toArray t (0, 0)) → Row w' ⟨b, 0, none⟩ vs → w.heap.size ≤ b → regK P r K (put ρ (some d') (.pointer (some ⟨b, 0, none⟩))) w') :
    regK P (.cons ⟨some d', .alloc t z, none⟩ (.cons ⟨none, .storeN n (.tmp d') y, none⟩ r)) K ρ w :=
  st_alloc fun b w1 x1 a1 hb => st_storeN0 (by simp [ev, put, upd]) (hy _) hn (all_one h1) a1 hz fun w2 c2 a2 =>
    k b w2 ((x1.chg c2).mono (by simp; omega)) a2 (Row.of_at a2) hb
/-- A store of many cells into a variable that is younger than the world w0. -/
theorem st_setN {w0 : World} {n : Nat} {x y : Operand} {b : Nat} {t : TypeId} {cur vs : List Value} (x0 : Ext w0 w) (hb : w0.heap.size ≤ b) (h : At w b (.cells cur.toArray t (0, 0))) (hx : ev ρ x = .pointer (some ⟨b, 0, none⟩)) (hy : ev ρ y = .agg vs.toArray) (hn : vs.length = n) (hl : cur.length = n) (h1 : vs.all (fun v => v.oneCell') = true)
    (k : ∀ w', Ext w0 w' → Chg [b] w w' → At w' b (.cells vs.toArray t (0, 0)) → Row w' ⟨b, 0, none⟩ vs → regK P r K (put ρ d undef) w') : regK P (.cons ⟨d, .storeN n x y, none⟩ r) K ρ w :=
  st_storeN0 hx hy hn (all_one h1) h hl fun w2 c2 a2 => k w2 ((x0.chg c2).mono (by simp; omega)) c2 a2 (Row.of_at a2)
theorem SlE.new {α : Type} {E : Enc α} {b n c : Nat} {l : List α} {t : TypeId} (h : At w b (.cells (E.flat l).toArray t (0, 0))) (hl : n = l.length) (hc : n ≤ c) : SlE E w (.slice (some ⟨b, 0, none⟩) n c) l := by
  subst hl
  exact ⟨E.flat_length l, _, _, rfl, hc, fun _ => ⟨_, rfl, Row.of_at h⟩⟩
end
end Go.K
end
