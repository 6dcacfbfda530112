/- The engine, part 17: maps of nested data: steps; keys that are texts. Plain: a graph as two maps and an order; the list that they stand for. -/
import Derived.Test.YtfeifodeaphbjaaGreatG38
section
namespace Go.K
open Go
variable {P : Program}
def sK : KEnc ByteArray := ⟨Value.string, false, [.s], by intro a b; simp [keyEq, cellsEq, cellEq], by intro a; rfl⟩
section
variable {κ β : Type} [DecidableEq κ] {KE : KEnc κ} {F : R β} {M : List Nat} {w : World} {d : Option Tmp} {r : KR} {K : Env → World → Prop} {ρ : Env}
theorem st_lookupR {s : Bool} {ks : List CK} {z : Value} {m x : Operand} {b : Nat} {l : List (κ × β)} {k : κ} (hm : ev ρ m = .map (some b)) (hx : ev ρ x = KE.f k) (hM : MapR KE F M w b l) (hs : s = KE.s) (hks : ks = KE.ks)
    (k1 : ∀ y cs, aget l k = some y → F.rel M w cs y → regK P r K (put ρ d (.tuple #[F.val cs, .bool true])) w) (k2 : aget l k = none → regK P r K (put ρ d (.tuple #[z, .bool false])) w) : regK P (.cons ⟨d, .lookup s ks z true m x, none⟩ r) K ρ w := by
  obtain ⟨mv, h1, h2⟩ := hM
  have ha := aget_all (r := fun v y => ∃ cs, v = F.val cs ∧ F.rel M w cs y) (k := k) h2
  refine st_lookupOk (E := KE) (fv := id) hm hx h1 hs hks (fun v hv => ?_) (fun hv => ?_)
  · cases hg : aget l k with
    | none => rw [ha.2 hg] at hv; cases hv
    | some y =>
      obtain ⟨v', e, cs, e2, hr⟩ := ha.1 y hg
      rw [e] at hv; injection hv with hv; subst hv; subst e2
      exact k1 y cs hg hr
  · cases hg : aget l k with
    | none => exact k2 hg
    | some y =>
      obtain ⟨v', e, _⟩ := ha.1 y hg
      rw [e] at hv; cases hv
theorem st_lookupR1 {s : Bool} {ks : List CK} {z : Value} {m x : Operand} {b : Nat} {l : List (κ × β)} {k : κ} (hm : ev ρ m = .map (some b)) (hx : ev ρ x = KE.f k) (hM : MapR KE F M w b l) (hs : s = KE.s) (hks : ks = KE.ks)
    (k1 : ∀ y cs, aget l k = some y → F.rel M w cs y → regK P r K (put ρ d (F.val cs)) w) (k2 : aget l k = none → regK P r K (put ρ d z) w) : regK P (.cons ⟨d, .lookup s ks z false m x, none⟩ r) K ρ w := by
  obtain ⟨mv, h1, h2⟩ := hM
  have ha := aget_all (r := fun v y => ∃ cs, v = F.val cs ∧ F.rel M w cs y) (k := k) h2
  refine st_lookup (E := KE) (fv := id) hm hx h1 hs hks (fun v hv => ?_) (fun hv => ?_)
  · cases hg : aget l k with
    | none => rw [ha.2 hg] at hv; cases hv
    | some y =>
      obtain ⟨v', e, cs, e2, hr⟩ := ha.1 y hg
      rw [e] at hv; injection hv with hv; subst hv; subst e2
      exact k1 y cs hg hr
  · cases hg : aget l k with
    | none => exact k2 hg
    | some y =>
      obtain ⟨v', e, _⟩ := ha.1 y hg
      rw [e] at hv; cases hv
theorem st_mapUpdateR {s : Bool} {ks : List CK} {m x y : Operand} {b : Nat} {l : List (κ × β)} {k : κ} {v : β} {cs : List Value} (hm : ev ρ m = .map (some b)) (hx : ev ρ x = KE.f k) (hy : ev ρ y = F.val cs) (hM : MapR KE F M w b l) (hr : F.rel M w cs v) (hb : b ∈ M) (hs : s = KE.s) (hks : ks = KE.ks)
    (kk : ∀ w', Chg [b] w w' → MapR KE F M w' b (aset l k v) → regK P r K (put ρ d undef) w') : regK P (.cons ⟨d, .mapUpdate s ks m x y, none⟩ r) K ρ w := by
  obtain ⟨mv, h1, h2⟩ := hM
  refine st_mapUpdate (E := KE) (fv := id) (v := F.val cs) hm hx hy h1 hs hks fun w' c hM' => kk w' c ⟨_, hM', ?_⟩
  have h3 : All2 (fun (p : κ × Value) (q : κ × β) => p.1 = q.1 ∧ ∃ cs, p.2 = F.val cs ∧ F.rel M w' cs q.2) mv l := h2.mono fun _ _ ⟨e, cs, e2, hr⟩ => ⟨e, cs, e2, F.step hr c (by intro y hy; simp at hy; subst hy; exact .inl hb) (fun _ h => .inl h)⟩
  exact aset_all (r := fun v y => ∃ cs, v = F.val cs ∧ F.rel M w' cs y) ⟨cs, rfl, F.step hr c (by intro y hy; simp at hy; subst hy; exact .inl hb) (fun _ h => .inl h)⟩ h3
theorem st_deleteR {s : Bool} {ks : List CK} {m x : Operand} {b : Nat} {l : List (κ × β)} {k : κ} (hm : ev ρ m = .map (some b)) (hx : ev ρ x = KE.f k) (hM : MapR KE F M w b l) (hb : b ∈ M) (hs : s = KE.s) (hks : ks = KE.ks)
    (kk : ∀ w', Chg [b] w w' → MapR KE F M w' b (adel l k) → regK P r K (put ρ d (.tuple #[])) w') : regK P (.cons ⟨d, .delete s ks m x, none⟩ r) K ρ w := by
  obtain ⟨mv, h1, h2⟩ := hM
  refine st_delete (E := KE) (fv := id) hm hx h1 hs hks fun w' c hM' => kk w' c ⟨_, hM', ?_⟩
  have h3 : All2 (fun (p : κ × Value) (q : κ × β) => p.1 = q.1 ∧ ∃ cs, p.2 = F.val cs ∧ F.rel M w' cs q.2) mv l := h2.mono fun _ _ ⟨e, cs, e2, hr⟩ => ⟨e, cs, e2, F.step hr c (by intro y hy; simp at hy; subst hy; exact .inl hb) (fun _ h => .inl h)⟩
  exact adel_all (r := fun v y => ∃ cs, v = F.val cs ∧ F.rel M w' cs y) h3
theorem MapR.new {b : Nat} (h : MapE KE id w b ([] : List (κ × Value))) : MapR KE F M w b [] := ⟨[], h, .nil⟩
end
theorem aget_del {κ β : Type} [DecidableEq κ] (m : List (κ × β)) (k k' : κ) : aget (adel m k) k' = if k = k' then none else aget m k' := by
  unfold aget adel
  rw [List.find?_filter]
  by_cases h : k = k'
  · subst h
    rw [if_pos rfl]
    have : m.find? (fun p => decide (decide (p.1 ≠ k) = true ∧ decide (p.1 = k) = true)) = none := List.find?_eq_none.2 fun p _ => by simp
    simp [this]
  · rw [if_neg h]
    congr 2
    funext p
    by_cases h2 : p.1 = k'
    · simp [h2, Ne.symm h]
    · simp [h2]
end Go.K
end
section
namespace Go.K
open Go
/-- Two maps stand for a list. -/
structure GI (m : List (ByteArray × Ent)) (sp : List (Pt × ByteArray)) (l : List Ent) : Prop where
  ent : ∀ id, aget m id = l.find? fun x => decide (x.id = id)
  spt : ∀ p, aget sp p = (l.find? fun x => spends x p).map (·.id)
  nodup : (l.map (·.id)).Nodup
  apart : l.Pairwise fun x y => ∀ p, spends x p = true → spends y p = false
  ok : ∀ x ∈ l, EntOk x
theorem GI.nil : GI [] [] [] := ⟨fun _ => rfl, fun _ => rfl, List.nodup_nil, .nil, fun _ h => by simp at h⟩
/-- All points of some inputs are spent by id. -/
def putPts (sp : List (Pt × ByteArray)) (ins : List TIn) (id : ByteArray) : List (Pt × ByteArray) := ins.foldl (fun s x => aset s x.p id) sp
def delPts (sp : List (Pt × ByteArray)) (ins : List TIn) : List (Pt × ByteArray) := ins.foldl (fun s x => adel s x.p) sp
theorem aget_set' {κ β : Type} [DecidableEq κ] (l : List (κ × β)) (k : κ) (v : β) (k' : κ) : aget (aset l k v) k' = if k = k' then some v else aget l k' := by
  induction l with
  | nil => unfold aget aset; by_cases h : k = k' <;> simp [h]
  | cons p l ih =>
    have e : ∀ (q : κ × β) (m : List (κ × β)), aget (q :: m) k' = if q.1 = k' then some q.2 else aget m k' := by intro q m; unfold aget; rw [List.find?_cons]; by_cases h : q.1 = k' <;> simp [h]
    unfold aset
    by_cases h : p.1 = k
    · rw [if_pos h, e, e]
      by_cases h2 : k = k'
      · simp [h2]
      · rw [if_neg h2, if_neg h2, if_neg (by rw [h]; exact h2)]
    · rw [if_neg h, e, e, ih]
      by_cases h2 : p.1 = k'
      · rw [if_pos h2, if_pos h2, if_neg (by rw [← h2]; exact fun e => h e.symm)]
      · rw [if_neg h2, if_neg h2]
theorem putPts_get (id : ByteArray) : ∀ (ins : List TIn) (sp : List (Pt × ByteArray)) (p : Pt), aget (putPts sp ins id) p = if ins.any (fun i => decide (i.p = p)) then some id else aget sp p
  | [], sp, p => by simp [putPts]
  | x :: ins, sp, p => by
    have := putPts_get id ins (aset sp x.p id) p
    simp only [putPts, List.foldl_cons] at this ⊢
    rw [this, List.any_cons, aget_set']
    by_cases h1 : ins.any (fun i => decide (i.p = p)) = true
    · simp [h1]
    · simp only [Bool.not_eq_true] at h1
      rw [h1]
      by_cases h2 : x.p = p <;> simp [h2]
theorem delPts_get : ∀ (ins : List TIn) (sp : List (Pt × ByteArray)) (p : Pt), aget (delPts sp ins) p = if ins.any (fun i => decide (i.p = p)) then none else aget sp p
  | [], sp, p => by simp [delPts]
  | x :: ins, sp, p => by
    have := delPts_get ins (adel sp x.p) p
    simp only [delPts, List.foldl_cons] at this ⊢
    rw [this, List.any_cons, aget_del]
    by_cases h1 : ins.any (fun i => decide (i.p = p)) = true
    · simp [h1]
    · simp only [Bool.not_eq_true] at h1
      rw [h1]
      by_cases h2 : x.p = p <;> simp [h2]
theorem putPts_take {sp : List (Pt × ByteArray)} {ins : List TIn} {id : ByteArray} {i : Nat} (h : i < ins.length) : putPts sp (ins.take (i + 1)) id = aset (putPts sp (ins.take i) id) ins[i].p id := by
  rw [putPts, putPts, List.take_succ_eq_append_getElem h, List.foldl_append]; rfl
theorem delPts_take {sp : List (Pt × ByteArray)} {ins : List TIn} {i : Nat} (h : i < ins.length) : delPts sp (ins.take (i + 1)) = adel (delPts sp (ins.take i)) ins[i].p := by
  rw [delPts, delPts, List.take_succ_eq_append_getElem h, List.foldl_append]; rfl
theorem GI.add {m : List (ByteArray × Ent)} {sp : List (Pt × ByteArray)} {l : List Ent} (h : GI m sp l) {x : Ent} (hx : EntOk x) (h1 : ∀ y ∈ l, y.id ≠ x.id) (h2 : ∀ y ∈ l, ∀ p, spends x p = true → spends y p = false) : GI (aset m x.id x) (putPts sp x.tx.ins x.id) (l ++ [x]) where
  ent := fun id => by
    rw [aget_set', List.find?_append, h.ent]
    by_cases e : x.id = id
    · subst e
      have : l.find? (fun y => decide (y.id = x.id)) = none := List.find?_eq_none.2 fun y hy => by simpa using h1 y hy
      rw [if_pos rfl, this]; simp
    · rw [if_neg e]
      simp [e]
  spt := fun p => by
    rw [putPts_get, List.find?_append, h.spt]
    by_cases e : spends x p = true
    · have : l.find? (fun y => spends y p) = none := List.find?_eq_none.2 fun y hy => by rw [h2 y hy p e]; decide
      have e' : x.tx.ins.any (fun i => decide (i.p = p)) = true := e
      rw [if_pos e', this]; simp [e]
    · have e' : ¬ x.tx.ins.any (fun i => decide (i.p = p)) = true := e
      rw [if_neg e']
      simp [e]
  nodup := by
    rw [List.map_append, List.nodup_append]
    exact ⟨h.nodup, by simp, fun a ha b hb => by
      simp only [List.map_cons, List.map_nil, List.mem_singleton] at hb
      subst hb
      obtain ⟨y, hy, rfl⟩ := List.mem_map.1 ha
      exact h1 y hy⟩
  apart := by
    rw [List.pairwise_append]
    exact ⟨h.apart, List.pairwise_singleton _ _, fun y hy z hz p hp => by
      simp only [List.mem_singleton] at hz
      subst hz
      by_cases e : spends z p = true
      · rw [h2 y hy p e] at hp; cases hp
      · simpa using e⟩
  ok := fun y hy => by
    rcases List.mem_append.1 hy with h3 | h3
    · exact h.ok y h3
    · simp only [List.mem_singleton] at h3; subst h3; exact hx
theorem erase_filter {l : List Ent} {x : Ent} {n : Nat} (hn : (l.map (·.id)).Nodup) (h : n < l.length) (hx : l[n] = x) : l.eraseIdx n = l.filter fun y => !decide (y.id = x.id) := by
  induction l generalizing n with
  | nil => simp at h
  | cons y l ih =>
    rw [List.map_cons, List.nodup_cons] at hn
    cases n with
    | zero =>
      simp only [List.getElem_cons_zero] at hx
      subst hx
      rw [List.eraseIdx_cons_zero, List.filter_cons_of_neg (by simp)]
      symm
      rw [List.filter_eq_self]
      intro z hz
      simp only [Bool.not_eq_true', decide_eq_false_iff_not]
      intro e
      exact hn.1 (by rw [← e]; exact List.mem_map.2 ⟨z, hz, rfl⟩)
    | succ n =>
      simp only [List.getElem_cons_succ] at hx
      have hxl : x ∈ l := by rw [← hx]; exact List.getElem_mem _
      rw [List.eraseIdx_cons_succ, List.filter_cons_of_pos, ih hn.2 (by simpa using h) hx]
      simp only [Bool.not_eq_true', decide_eq_false_iff_not]
      intro e
      exact hn.1 (by rw [e]; exact List.mem_map.2 ⟨x, hxl, rfl⟩)
theorem apart_of {l : List Ent} (h : l.Pairwise fun x y => ∀ p, spends x p = true → spends y p = false) (hn : (l.map (·.id)).Nodup) {x y : Ent} (hx : x ∈ l) (hy : y ∈ l) (hne : y.id ≠ x.id) {p : Pt} (hp : spends x p = true) : spends y p = false := by
  induction l with
  | nil => simp at hx
  | cons z l ih =>
    rw [List.pairwise_cons] at h
    rw [List.map_cons, List.nodup_cons] at hn
    rcases List.mem_cons.1 hx with e1 | hx1
    · rcases List.mem_cons.1 hy with e2 | hy1
      · exact absurd (by rw [e1, e2]) hne
      · rw [e1] at hp; exact h.1 y hy1 p hp
    · rcases List.mem_cons.1 hy with e2 | hy1
      · rw [e2]
        by_cases e : spends z p = true
        · rw [h.1 x hx1 p e] at hp; cases hp
        · simpa using e
      · exact ih h.2 hn.2 hx1 hy1
theorem GI.del {m : List (ByteArray × Ent)} {sp : List (Pt × ByteArray)} {l : List Ent} (h : GI m sp l) {x : Ent} (hx : x ∈ l) : GI (adel m x.id) (delPts sp x.tx.ins) (l.filter fun y => !decide (y.id = x.id)) where
  ent := fun id => by
    rw [aget_del, List.find?_filter, h.ent]
    by_cases e : x.id = id
    · subst e
      rw [if_pos rfl]
      symm
      exact List.find?_eq_none.2 fun y _ => by simp
    · rw [if_neg e]
      congr 1; funext y
      by_cases e2 : y.id = id
      · simp [e2, Ne.symm e]
      · simp [e2]
  spt := fun p => by
    rw [delPts_get, List.find?_filter, h.spt]
    by_cases e : spends x p = true
    · have e' : x.tx.ins.any (fun i => decide (i.p = p)) = true := e
      rw [if_pos e']
      symm
      have : l.find? (fun y => decide ((!decide (y.id = x.id)) = true ∧ spends y p = true)) = none := List.find?_eq_none.2 fun y hy => by
        by_cases e2 : y.id = x.id
        · simp [e2]
        · simp [apart_of h.apart h.nodup hx hy e2 e]
      rw [this]; rfl
    · have e' : ¬ x.tx.ins.any (fun i => decide (i.p = p)) = true := e
      rw [if_neg e']
      congr 1
      have hd : ∀ y ∈ l, spends y p = true → y.id ≠ x.id := fun y hy hs hid => by
        have hyx : y = x := by
          have hnd := h.nodup
          clear h e e' hs
          induction l with
          | nil => simp at hx
          | cons z l ih =>
            rw [List.map_cons, List.nodup_cons] at hnd
            rcases List.mem_cons.1 hx with e1 | hx1
            · rcases List.mem_cons.1 hy with e2 | hy1
              · rw [e1, e2]
              · exact absurd (List.mem_map.2 ⟨y, hy1, by rw [hid, e1]⟩) hnd.1
            · rcases List.mem_cons.1 hy with e2 | hy1
              · exact absurd (List.mem_map.2 ⟨x, hx1, by rw [← hid, e2]⟩) hnd.1
              · exact ih hx1 hy1 hnd.2
        subst hyx; exact e hs
      clear h e e'
      induction l with
      | nil => rfl
      | cons y l ih =>
        rw [List.find?_cons, List.find?_cons]
        by_cases hs : spends y p = true
        · have := hd y (by simp) hs
          simp [hs, this]
        · simp only [Bool.not_eq_true] at hs
          rw [hs]
          simp only [Bool.false_eq_true, and_false, decide_false]
          by_cases hxl : x ∈ l
          · exact ih hxl (fun z hz => hd z (by simp [hz]))
          · have hxy : x = y := by
              rcases List.mem_cons.1 hx with h1 | h1
              · exact h1
              · exact absurd h1 hxl
            clear ih
            have hd2 : ∀ z ∈ l, spends z p = true → z.id ≠ x.id := fun z hz => hd z (by simp [hz])
            clear hx hxl hd hxy
            induction l with
            | nil => rfl
            | cons z l ih2 =>
              rw [List.find?_cons, List.find?_cons]
              by_cases hs2 : spends z p = true
              · have := hd2 z (by simp) hs2
                simp [hs2, this]
              · simp only [Bool.not_eq_true] at hs2
                rw [hs2]
                simp only [Bool.false_eq_true, and_false, decide_false]
                exact ih2 (fun q hq => hd2 q (by simp [hq]))
  nodup := List.Nodup.sublist (List.Sublist.map _ List.filter_sublist) h.nodup
  apart := h.apart.sublist List.filter_sublist
  ok := fun y hy => h.ok y (List.mem_filter.1 hy).1
end Go.K
end
