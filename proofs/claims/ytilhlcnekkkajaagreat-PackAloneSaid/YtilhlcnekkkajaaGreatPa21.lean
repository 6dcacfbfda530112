/- Contracts: what hangs on what, by the reference. The engine, part 17: maps of nested data: steps; keys that are texts. Plain: a graph as two maps and an order; the list that they stand for. Contracts: a graph: new, an entry, what it has. -/
import Derived.Test.YtilhlcnekkkajaaGreatPa20
set_option linter.unusedVariables false
set_option linter.unusedSimpArgs false
section
namespace Go.Proofs.YtilhlcnekkkajaaGreat
open Go Go.K

theorem bool_flat (m : List Bool) : boolE.flat m = m.map Value.bool := by
  induction m with
  | nil => rfl
  | cons x l ih => simp only [Enc.flat, List.flatMap_cons] at ih ⊢; rw [ih]; rfl
abbrev AtB (w : World) (b : Nat) (m : List Bool) : Prop := At w b (.cells (m.map Value.bool).toArray T.bool (0, 0))
theorem AtB.sl {w : World} {b n : Nat} {m : List Bool} (h : AtB w b m) (hn : n = m.length) : SlE boolE w (.slice (some ⟨b, 0, none⟩) n n) m :=
  SlE.new (E := boolE) (by rw [bool_flat]; exact h) hn (Nat.le_refl _)
section
variable {P : Program} {d : Option Tmp} {r : KR} {K : Env → World → Prop} {ρ : Env} {w : World}
end
attribute [local irreducible] regK codeK retK KOp.wp K.Spec u32 leS vnS str zero32 sha2 encT idT sizeT checkT grantB idN hangs stepR
/-- So far in a round. -/
structure RInv (base : Nat → Bool) (edge : Nat → Nat → Bool) (n r i : Nat) (m : List Bool) : Prop where
  mks : Marks base edge n m
  all : ∀ j, j < n → stepR base edge n r j = true → has m j
  now : ∀ j, j < i → j < n → stepR base edge n (r + 1) j = true → has m j
section
variable {base : Nat → Bool} {edge : Nat → Nat → Bool} {n r i : Nat} {m : List Bool}
theorem RInv.zero (h : Marks base edge n m) : RInv base edge n 0 0 m := ⟨h, fun j _ hj => (by unfold stepR at hj; cases hj), fun j hj => absurd hj (by omega)⟩
theorem RInv.round (h : RInv base edge n r i m) (hi : n ≤ i) : RInv base edge n (r + 1) 0 m := ⟨h.mks, fun j hj hs => h.now j (by omega) hj hs, fun j hj => absurd hj (by omega)⟩
theorem RInv.set {j : Nat} {x : Bool} (h : RInv base edge n r i m) (hj : j < m.length) (hx : x = true → stepR base edge n n j = true) : RInv base edge n r i (m.set j (m[j] || x)) :=
  ⟨h.mks.set hj hx, fun q hq hs => has_set hj (h.all q hq hs), fun q hq hn hs => has_set hj (h.now q hq hn hs)⟩
theorem RInv.next (h : RInv base edge n r i m) (hb : base i = true → has m i) (he : ∀ k, k < n → stepR base edge n r k = true → edge k i = true → has m i) : RInv base edge n r (i + 1) m :=
  ⟨h.mks, h.all, fun q hq hn hs => by
    by_cases e : q = i
    · subst e
      rcases stepR_succ.1 hs with h1 | ⟨k, h1, h2, h3⟩
      · exact hb h1
      · exact he k h1 h2 h3
    · exact h.now q (by omega) hn hs⟩
end
end Go.Proofs.YtilhlcnekkkajaaGreat
end
section
namespace Go.K
open Go
variable {P : Program}
def sK : KEnc ByteArray := ⟨Value.string, false, [.s], by intro a b; simp [keyEq, cellsEq, cellEq], by intro a; rfl⟩
section
variable {κ β : Type} [DecidableEq κ] {KE : KEnc κ} {F : R β} {M : List Nat} {w : World} {d : Option Tmp} {r : KR} {K : Env → World → Prop} {ρ : Env}
theorem st_lookupR {s : Bool} {ks : List CK} {z : Value} {m x : Operand} {b : Nat} {l : List (κ × β)} {k : κ} (hm : ev ρ m = .map (some b)) (hx : ev ρ x = KE.f k) (hM : MapR KE F M w b l) (hs : s = KE.s) (hks : ks = KE.ks)
    (k1 : ∀ y cs, aget l k = some y → F.rel M w cs y → regK P r K (put ρ d (.tuple #[F.val cs, .bool true])) w) (k2 : aget l k = none → regK P r K (put ρ d (.tuple #[z, .bool false])) w) : regK P (.cons ⟨d, .lookup s ks z true m x, none⟩ r) K ρ w := by
  obtain ⟨mv, h1, h2⟩ := hM
  have ha := aget_all (r := fun v y => ∃ cs, v = F.val cs ∧ F.rel M w cs y) (k := k) h2
  refine st_lookupOk (E := KE) (fv := id) hm hx h1 hs hks (fun v hv => ?_) (fun hv => ?_)
  · cases hg : aget l k with
    | none => rw [ha.2 hg] at hv; cases hv
    | some y =>
      obtain ⟨v', e, cs, e2, hr⟩ := ha.1 y hg
      rw [e] at hv; injection hv with hv; subst hv; subst e2
      exact k1 y cs hg hr
  · cases hg : aget l k with
    | none => exact k2 hg
    | some y =>
      obtain ⟨v', e, _⟩ := ha.1 y hg
      rw [e] at hv; cases hv
theorem st_lookupR1 {s : Bool} {ks : List CK} {z : Value} {m x : Operand} {b : Nat} {l : List (κ × β)} {k : κ} (hm : ev ρ m = .map (some b)) (hx : ev ρ x = KE.f k) (hM : MapR KE F M w b l) (hs : s = KE.s) (hks : ks = KE.ks)
    (k1 : ∀ y cs, aget l k = some y → F.rel M w cs y → regK P r K (put ρ d (F.val cs)) w) (k2 : aget l k = none → regK P r K (put ρ d z) w) : regK P (.cons ⟨d, .lookup s ks z false m x, none⟩ r) K ρ w := by
  obtain ⟨mv, h1, h2⟩ := hM
  have ha := aget_all (r := fun v y => ∃ cs, v = F.val cs ∧ F.rel M w cs y) (k := k) h2
  refine st_lookup (E := KE) (fv := id) hm hx h1 hs hks (fun v hv => ?_) (fun hv => ?_)
  · cases hg : aget l k with
    | none => rw [ha.2 hg] at hv; cases hv
    | some y =>
      obtain ⟨v', e, cs, e2, hr⟩ := ha.1 y hg
      rw [e] at hv; injection hv with hv; subst hv; subst e2
      exact k1 y cs hg hr
  · cases hg : aget l k with
    | none => exact k2 hg
    | some y =>
      obtain ⟨v', e, _⟩ := ha.1 y hg
      rw [e] at hv; cases hv
theorem st_mapUpdateR {s : Bool} {ks : List CK} {m x y : Operand} {b : Nat} {l : List (κ × β)} {k : κ} {v : β} {cs : List Value} (hm : ev ρ m = .map (some b)) (hx : ev ρ x = KE.f k) (hy : ev ρ y = F.val cs) (hM : MapR KE F M w b l) (hr : F.rel M w cs v) (hb : b ∈ M) (hs : s = KE.s) (hks : ks = KE.ks)
    (kk : ∀ w', Chg [b] w w' → MapR KE F M w' b (aset l k v) → regK P r K (put ρ d undef) w') : regK P (.cons ⟨d, .mapUpdate s ks m x y, none⟩ r) K ρ w := by
  obtain ⟨mv, h1, h2⟩ := hM
  refine st_mapUpdate (E := KE) (fv := id) (v := F.val cs) hm hx hy h1 hs hks fun w' c hM' => kk w' c ⟨_, hM', ?_⟩
  have h3 : All2 (fun (p : κ × Value) (q : κ × β) => p.1 = q.1 ∧ ∃ cs, p.2 = F.val cs ∧ F.rel M w' cs q.2) mv l := h2.mono fun _ _ ⟨e, cs, e2, hr⟩ => ⟨e, cs, e2, F.step hr c (by intro y hy; simp at hy; subst hy; exact .inl hb) (fun _ h => .inl h)⟩
  exact aset_all (r := fun v y => ∃ cs, v = F.val cs ∧ F.rel M w' cs y) ⟨cs, rfl, F.step hr c (by intro y hy; simp at hy; subst hy; exact .inl hb) (fun _ h => .inl h)⟩ h3
theorem st_deleteR {s : Bool} {ks : List CK} {m x : Operand} {b : Nat} {l : List (κ × β)} {k : κ} (hm : ev ρ m = .map (some b)) (hx : ev ρ x = KE.f k) (hM : MapR KE F M w b l) (hb : b ∈ M) (hs : s = KE.s) (hks : ks = KE.ks)
    (kk : ∀ w', Chg [b] w w' → MapR KE F M w' b (adel l k) → regK P r K (put ρ d (.tuple #[])) w') : regK P (.cons ⟨d, .delete s ks m x, none⟩ r) K ρ w := by
  obtain ⟨mv, h1, h2⟩ := hM
  refine st_delete (E := KE) (fv := id) hm hx h1 hs hks fun w' c hM' => kk w' c ⟨_, hM', ?_⟩
  have h3 : All2 (fun (p : κ × Value) (q : κ × β) => p.1 = q.1 ∧ ∃ cs, p.2 = F.val cs ∧ F.rel M w' cs q.2) mv l := h2.mono fun _ _ ⟨e, cs, e2, hr⟩ => ⟨e, cs, e2, F.step hr c (by intro y hy; simp at hy; subst hy; exact .inl hb) (fun _ h => .inl h)⟩
  exact adel_all (r := fun v y => ∃ cs, v = F.val cs ∧ F.rel M w' cs y) h3
theorem MapR.new {b : Nat} (h : MapE KE id w b ([] : List (κ × Value))) : MapR KE F M w b [] := ⟨[], h, .nil⟩
end
theorem aget_del {κ β : Type} [DecidableEq κ] (m : List (κ × β)) (k k' : κ) : aget (adel m k) k' = if k = k' then none else aget m k' := by
  unfold aget adel
  rw [List.find?_filter]
  by_cases h : k = k'
  · subst h
    rw [if_pos rfl]
    have : m.find? (fun p => decide (decide (p.1 ≠ k) = true ∧ decide (p.1 = k) = true)) = none := List.find?_eq_none.2 fun p _ => by simp
    simp [this]
  · rw [if_neg h]
    congr 2
    funext p
    by_cases h2 : p.1 = k'
    · simp [h2, Ne.symm h]
    · simp [h2]
end Go.K
end
section
namespace Go.K
open Go
/-- Two maps stand for a list. -/
structure GI (m : List (ByteArray × Ent)) (sp : List (Pt × ByteArray)) (l : List Ent) : Prop where
  ent : ∀ id, aget m id = l.find? fun x => decide (x.id = id)
  spt : ∀ p, aget sp p = (l.find? fun x => spends x p).map (·.id)
  nodup : (l.map (·.id)).Nodup
  apart : l.Pairwise fun x y => ∀ p, spends x p = true → spends y p = false
  ok : ∀ x ∈ l, EntOk x
theorem GI.nil : GI [] [] [] := ⟨fun _ => rfl, fun _ => rfl, List.nodup_nil, .nil, fun _ h => by simp at h⟩
/-- All points of some inputs are spent by id. -/
def putPts (sp : List (Pt × ByteArray)) (ins : List TIn) (id : ByteArray) : List (Pt × ByteArray) := ins.foldl (fun s x => aset s x.p id) sp
def delPts (sp : List (Pt × ByteArray)) (ins : List TIn) : List (Pt × ByteArray) := ins.foldl (fun s x => adel s x.p) sp
theorem aget_set' {κ β : Type} [DecidableEq κ] (l : List (κ × β)) (k : κ) (v : β) (k' : κ) : aget (aset l k v) k' = if k = k' then some v else aget l k' := by
  induction l with
  | nil => unfold aget aset; by_cases h : k = k' <;> simp [h]
  | cons p l ih =>
    have e : ∀ (q : κ × β) (m : List (κ × β)), aget (q :: m) k' = if q.1 = k' then some q.2 else aget m k' := by intro q m; unfold aget; rw [List.find?_cons]; by_cases h : q.1 = k' <;> simp [h]
    unfold aset
    by_cases h : p.1 = k
    · rw [if_pos h, e, e]
      by_cases h2 : k = k'
      · simp [h2]
      · rw [if_neg h2, if_neg h2, if_neg (by rw [h]; exact h2)]
    · rw [if_neg h, e, e, ih]
      by_cases h2 : p.1 = k'
      · rw [if_pos h2, if_pos h2, if_neg (by rw [← h2]; exact fun e => h e.symm)]
      · rw [if_neg h2, if_neg h2]
theorem putPts_get (id : ByteArray) : ∀ (ins : List TIn) (sp : List (Pt × ByteArray)) (p : Pt), aget (putPts sp ins id) p = if ins.any (fun i => decide (i.p = p)) then some id else aget sp p
  | [], sp, p => by simp [putPts]
  | x :: ins, sp, p => by
    have := putPts_get id ins (aset sp x.p id) p
    simp only [putPts, List.foldl_cons] at this ⊢
    rw [this, List.any_cons, aget_set']
    by_cases h1 : ins.any (fun i => decide (i.p = p)) = true
    · simp [h1]
    · simp only [Bool.not_eq_true] at h1
      rw [h1]
      by_cases h2 : x.p = p <;> simp [h2]
theorem delPts_get : ∀ (ins : List TIn) (sp : List (Pt × ByteArray)) (p : Pt), aget (delPts sp ins) p = if ins.any (fun i => decide (i.p = p)) then none else aget sp p
  | [], sp, p => by simp [delPts]
  | x :: ins, sp, p => by
    have := delPts_get ins (adel sp x.p) p
    simp only [delPts, List.foldl_cons] at this ⊢
    rw [this, List.any_cons, aget_del]
    by_cases h1 : ins.any (fun i => decide (i.p = p)) = true
    · simp [h1]
    · simp only [Bool.not_eq_true] at h1
      rw [h1]
      by_cases h2 : x.p = p <;> simp [h2]
theorem putPts_take {sp : List (Pt × ByteArray)} {ins : List TIn} {id : ByteArray} {i : Nat} (h : i < ins.length) : putPts sp (ins.take (i + 1)) id = aset (putPts sp (ins.take i) id) ins[i].p id := by
  rw [putPts, putPts, List.take_succ_eq_append_getElem h, List.foldl_append]; rfl
theorem delPts_take {sp : List (Pt × ByteArray)} {ins : List TIn} {i : Nat} (h : i < ins.length) : delPts sp (ins.take (i + 1)) = adel (delPts sp (ins.take i)) ins[i].p := by
  rw [delPts, delPts, List.take_succ_eq_append_getElem h, List.foldl_append]; rfl
theorem GI.add {m : List (ByteArray × Ent)} {sp : List (Pt × ByteArray)} {l : List Ent} (h : GI m sp l) {x : Ent} (hx : EntOk x) (h1 : ∀ y ∈ l, y.id ≠ x.id) (h2 : ∀ y ∈ l, ∀ p, spends x p = true → spends y p = false) : GI (aset m x.id x) (putPts sp x.tx.ins x.id) (l ++ [x]) where
  ent := fun id => by
    rw [aget_set', List.find?_append, h.ent]
    by_cases e : x.id = id
    · subst e
      have : l.find? (fun y => decide (y.id = x.id)) = none := List.find?_eq_none.2 fun y hy => by simpa using h1 y hy
      rw [if_pos rfl, this]; simp
    · rw [if_neg e]
      simp [e]
  spt := fun p => by
    rw [putPts_get, List.find?_append, h.spt]
    by_cases e : spends x p = true
    · have : l.find? (fun y => spends y p) = none := List.find?_eq_none.2 fun y hy => by rw [h2 y hy p e]; decide
      have e' : x.tx.ins.any (fun i => decide (i.p = p)) = true := e
      rw [if_pos e', this]; simp [e]
    · have e' : ¬ x.tx.ins.any (fun i => decide (i.p = p)) = true := e
      rw [if_neg e']
      simp [e]
  nodup := by
    rw [List.map_append, List.nodup_append]
    exact ⟨h.nodup, by simp, fun a ha b hb => by
      simp only [List.map_cons, List.map_nil, List.mem_singleton] at hb
      subst hb
      obtain ⟨y, hy, rfl⟩ := List.mem_map.1 ha
      exact h1 y hy⟩
  apart := by
    rw [List.pairwise_append]
    exact ⟨h.apart, List.pairwise_singleton _ _, fun y hy z hz p hp => by
      simp only [List.mem_singleton] at hz
      subst hz
      by_cases e : spends z p = true
      · rw [h2 y hy p e] at hp; cases hp
      · simpa using e⟩
  ok := fun y hy => by
    rcases List.mem_append.1 hy with h3 | h3
    · exact h.ok y h3
    · simp only [List.mem_singleton] at h3; subst h3; exact hx
theorem erase_filter {l : List Ent} {x : Ent} {n : Nat} (hn : (l.map (·.id)).Nodup) (h : n < l.length) (hx : l[n] = x) : l.eraseIdx n = l.filter fun y => !decide (y.id = x.id) := by
  induction l generalizing n with
  | nil => simp at h
  | cons y l ih =>
    rw [List.map_cons, List.nodup_cons] at hn
    cases n with
    | zero =>
      simp only [List.getElem_cons_zero] at hx
      subst hx
      rw [List.eraseIdx_cons_zero, List.filter_cons_of_neg (by simp)]
      symm
      rw [List.filter_eq_self]
      intro z hz
      simp only [Bool.not_eq_true', decide_eq_false_iff_not]
      intro e
      exact hn.1 (by rw [← e]; exact List.mem_map.2 ⟨z, hz, rfl⟩)
    | succ n =>
      simp only [List.getElem_cons_succ] at hx
      have hxl : x ∈ l := by rw [← hx]; exact List.getElem_mem _
      rw [List.eraseIdx_cons_succ, List.filter_cons_of_pos, ih hn.2 (by simpa using h) hx]
      simp only [Bool.not_eq_true', decide_eq_false_iff_not]
      intro e
      exact hn.1 (by rw [e]; exact List.mem_map.2 ⟨x, hxl, rfl⟩)
theorem apart_of {l : List Ent} (h : l.Pairwise fun x y => ∀ p, spends x p = true → spends y p = false) (hn : (l.map (·.id)).Nodup) {x y : Ent} (hx : x ∈ l) (hy : y ∈ l) (hne : y.id ≠ x.id) {p : Pt} (hp : spends x p = true) : spends y p = false := by
  induction l with
  | nil => simp at hx
  | cons z l ih =>
    rw [List.pairwise_cons] at h
    rw [List.map_cons, List.nodup_cons] at hn
    rcases List.mem_cons.1 hx with e1 | hx1
    · rcases List.mem_cons.1 hy with e2 | hy1
      · exact absurd (by rw [e1, e2]) hne
      · rw [e1] at hp; exact h.1 y hy1 p hp
    · rcases List.mem_cons.1 hy with e2 | hy1
      · rw [e2]
        by_cases e : spends z p = true
        · rw [h.1 x hx1 p e] at hp; cases hp
        · simpa using e
      · exact ih h.2 hn.2 hx1 hy1
theorem GI.del {m : List (ByteArray × Ent)} {sp : List (Pt × ByteArray)} {l : List Ent} (h : GI m sp l) {x : Ent} (hx : x ∈ l) : GI (adel m x.id) (delPts sp x.tx.ins) (l.filter fun y => !decide (y.id = x.id)) where
  ent := fun id => by
    rw [aget_del, List.find?_filter, h.ent]
    by_cases e : x.id = id
    · subst e
      rw [if_pos rfl]
      symm
      exact List.find?_eq_none.2 fun y _ => by simp
    · rw [if_neg e]
      congr 1; funext y
      by_cases e2 : y.id = id
      · simp [e2, Ne.symm e]
      · simp [e2]
  spt := fun p => by
    rw [delPts_get, List.find?_filter, h.spt]
    by_cases e : spends x p = true
    · have e' : x.tx.ins.any (fun i => decide (i.p = p)) = true := e
      rw [if_pos e']
      symm
      have : l.find? (fun y => decide ((!decide (y.id = x.id)) = true ∧ spends y p = true)) = none := List.find?_eq_none.2 fun y hy => by
        by_cases e2 : y.id = x.id
        · simp [e2]
        · simp [apart_of h.apart h.nodup hx hy e2 e]
      rw [this]; rfl
    · have e' : ¬ x.tx.ins.any (fun i => decide (i.p = p)) = true := e
      rw [if_neg e']
      congr 1
      have hd : ∀ y ∈ l, spends y p = true → y.id ≠ x.id := fun y hy hs hid => by
        have hyx : y = x := by
          have hnd := h.nodup
          clear h e e' hs
          induction l with
          | nil => simp at hx
          | cons z l ih =>
            rw [List.map_cons, List.nodup_cons] at hnd
            rcases List.mem_cons.1 hx with e1 | hx1
            · rcases List.mem_cons.1 hy with e2 | hy1
              · rw [e1, e2]
              · exact absurd (List.mem_map.2 ⟨y, hy1, by rw [hid, e1]⟩) hnd.1
            · rcases List.mem_cons.1 hy with e2 | hy1
              · exact absurd (List.mem_map.2 ⟨x, hx1, by rw [← hid, e2]⟩) hnd.1
              · exact ih hx1 hy1 hnd.2
        subst hyx; exact e hs
      clear h e e'
      induction l with
      | nil => rfl
      | cons y l ih =>
        rw [List.find?_cons, List.find?_cons]
        by_cases hs : spends y p = true
        · have := hd y (by simp) hs
          simp [hs, this]
        · simp only [Bool.not_eq_true] at hs
          rw [hs]
          simp only [Bool.false_eq_true, and_false, decide_false]
          by_cases hxl : x ∈ l
          · exact ih hxl (fun z hz => hd z (by simp [hz]))
          · have hxy : x = y := by
              rcases List.mem_cons.1 hx with h1 | h1
              · exact h1
              · exact absurd h1 hxl
            clear ih
            have hd2 : ∀ z ∈ l, spends z p = true → z.id ≠ x.id := fun z hz => hd z (by simp [hz])
            clear hx hxl hd hxy
            induction l with
            | nil => rfl
            | cons z l ih2 =>
              rw [List.find?_cons, List.find?_cons]
              by_cases hs2 : spends z p = true
              · have := hd2 z (by simp) hs2
                simp [hs2, this]
              · simp only [Bool.not_eq_true] at hs2
                rw [hs2]
                simp only [Bool.false_eq_true, and_false, decide_false]
                exact ih2 (fun q hq => hd2 q (by simp [hq]))
  nodup := List.Nodup.sublist (List.Sublist.map _ List.filter_sublist) h.nodup
  apart := h.apart.sublist List.filter_sublist
  ok := fun y hy => h.ok y (List.mem_filter.1 hy).1
end Go.K
end
section
namespace Go.Proofs.YtilhlcnekkkajaaGreat
open Go Go.K
attribute [local irreducible] regK codeK retK KOp.wp K.Spec u32 leS vnS str zero32 sha2 encT idT sizeT checkT grantB idN hangs stepR findI spends

/-- An entry that has slices of its own, all from B on. -/
def entO (B : Nat) (M : List Nat) (w : World) (cs : List Value) (x : Ent) : Prop := ∃ iv ov, cs = entCs x iv ov ∧ OwnR inR T.api_In B M w iv x.tx.ins ∧ OwnR outR T.api_Out B M w ov x.tx.outs ∧ is32 x.tx.ver ∧ is32 x.tx.lock ∧ is64 x.fee ∧ is64 x.size
theorem entO.rel {B : Nat} {M : List Nat} {w : World} {cs : List Value} {x : Ent} (h : entO B M w cs x) (hM : ∀ b ∈ M, b < B) : entR.rel M w cs x := by
  obtain ⟨iv, ov, rfl, h1, h2, h3⟩ := h
  exact ⟨iv, ov, rfl, h1.slB hM, h2.slB hM, h3⟩
theorem entO.ext {B : Nat} {M : List Nat} {w w' : World} {cs : List Value} {x : Ent} (h : entO B M w cs x) (c : Ext w w') : entO B M w' cs x := by
  obtain ⟨iv, ov, rfl, h1, h2, h3⟩ := h
  exact ⟨iv, ov, rfl, h1.ext c, h2.ext c, h3⟩
theorem entO.lower {B B' : Nat} {M : List Nat} {w : World} {cs : List Value} {x : Ent} (h : entO B M w cs x) (hb : B' ≤ B) : entO B' M w cs x := by
  obtain ⟨iv, ov, rfl, h1, h2, h3⟩ := h
  exact ⟨iv, ov, rfl, h1.lower hb, h2.lower hb, h3⟩
abbrev zEnt : List Value := [.int .u32 0, .slice none 0 0, .slice none 0 0, .int .u32 0, .string ⟨#[]⟩, .int .i64 0, .int .i64 0]
/-- The blocks that a graph may turn. -/
abbrev mutG (g b1 b2 : Nat) (vo : Value) : List Nat := g :: b1 :: b2 :: blkOf vo
structure GrP (w : World) (B g b1 : Nat) (vo : Value) (b2 : Nat) (m : List (ByteArray × Ent)) (sp : List (Pt × ByteArray)) (l : List Ent) : Prop where
  at_ : At w g (.cells [.map (some b1), vo, .map (some b2)].toArray T.graph_Graph (0, 0))
  ents : MapR sK entR (mutG g b1 b2 vo) w b1 m
  pts : MapE ptK Value.string w b2 sp
  ord : Own strE T.string B w vo (l.map (·.id))
  inv : GI m sp l
  nd : (mutG g b1 b2 vo).Nodup
  lo : B ≤ g ∧ B ≤ b1 ∧ B ≤ b2
/-- Block g is a graph of the entries l; its blocks are M, all from B on. -/
def Gr (w : World) (B g : Nat) (M : List Nat) (l : List Ent) : Prop := ∃ b1 vo b2 m sp, GrP w B g b1 vo b2 m sp l ∧ M = mutG g b1 b2 vo
theorem GrP.ext {w w' : World} {B g b1 b2 : Nat} {vo : Value} {m : List (ByteArray × Ent)} {sp : List (Pt × ByteArray)} {l : List Ent} (h : GrP w B g b1 vo b2 m sp l) (c : Ext w w') : GrP w' B g b1 vo b2 m sp l :=
  ⟨h.at_.ext c, h.ents.ext c, h.pts.ext c, h.ord.ext c, h.inv, h.nd, h.lo⟩
theorem Gr.ext {w w' : World} {B g : Nat} {M : List Nat} {l : List Ent} (h : Gr w B g M l) (c : Ext w w') : Gr w' B g M l := by
  obtain ⟨b1, vo, b2, m, sp, h, e⟩ := h; exact ⟨b1, vo, b2, m, sp, h.ext c, e⟩
theorem Gr.ok {w : World} {B g : Nat} {M : List Nat} {l : List Ent} (h : Gr w B g M l) : ∀ x ∈ l, EntOk x := by
  obtain ⟨b1, vo, b2, m, sp, h, e⟩ := h; exact h.inv.ok
theorem Gr.nodup {w : World} {B g : Nat} {M : List Nat} {l : List Ent} (h : Gr w B g M l) : (l.map (·.id)).Nodup := by
  obtain ⟨b1, vo, b2, m, sp, h, e⟩ := h; exact h.inv.nodup
theorem Gr.lt {w : World} {B g : Nat} {M : List Nat} {l : List Ent} (h : Gr w B g M l) : ∀ b ∈ M, b < w.heap.size := by
  obtain ⟨b1, vo, b2, m, sp, h, rfl⟩ := h
  intro b hb
  simp only [List.mem_cons] at hb
  rcases hb with rfl | rfl | rfl | hb
  · exact h.at_.lt
  · exact h.ents.lt
  · exact h.pts.lt
  · rcases h.ord with ⟨e, _⟩ | ⟨b', cap, junk, e, hB, hat, hl⟩
    · rw [e] at hb; simp [blkOf] at hb
    · rw [e] at hb; simp [blkOf] at hb; subst hb; exact hat.lt
theorem Gr.base {w : World} {B g : Nat} {M : List Nat} {l : List Ent} (h : Gr w B g M l) : ∀ b ∈ M, B ≤ b := by
  obtain ⟨b1, vo, b2, m, sp, h, rfl⟩ := h
  intro b hb
  have := h.lo
  simp only [List.mem_cons] at hb
  rcases hb with rfl | rfl | rfl | hb
  · omega
  · omega
  · omega
  · exact h.ord.base b hb
/-- A graph, as it is read: none of its entries leads to a block of M. -/
structure GrQ (w : World) (g b1 : Nat) (vo : Value) (b2 : Nat) (M : List Nat) (m : List (ByteArray × Ent)) (sp : List (Pt × ByteArray)) (l : List Ent) : Prop where
  at_ : At w g (.cells [.map (some b1), vo, .map (some b2)].toArray T.graph_Graph (0, 0))
  ents : MapR sK entR M w b1 m
  pts : MapE ptK Value.string w b2 sp
  ord : SlE strE w vo (l.map (·.id))
  inv : GI m sp l
def GrR (w : World) (g : Nat) (M : List Nat) (l : List Ent) : Prop := ∃ b1 vo b2 m sp, GrQ w g b1 vo b2 M m sp l
theorem Gr.r {w : World} {B g : Nat} {M : List Nat} {l : List Ent} (h : Gr w B g M l) : GrR w g M l := by
  obtain ⟨b1, vo, b2, m, sp, h, rfl⟩ := h
  exact ⟨b1, vo, b2, m, sp, h.at_, h.ents, h.pts, h.ord.sl, h.inv⟩
theorem GrR.more {w w' : World} {g : Nat} {M M' : List Nat} {l : List Ent} (h : GrR w g M l) (c : Ext w w') (hm : ∀ b ∈ M', b ∈ M ∨ w.heap.size ≤ b) : GrR w' g M' l := by
  obtain ⟨b1, vo, b2, m, sp, h⟩ := h
  exact ⟨b1, vo, b2, m, sp, h.at_.ext c, h.ents.step c (by simp) (by simp) hm, h.pts.ext c, h.ord.ext c, h.inv⟩
theorem GrR.ext {w w' : World} {g : Nat} {M : List Nat} {l : List Ent} (h : GrR w g M l) (c : Ext w w') : GrR w' g M l := h.more c (fun _ h => .inl h)
theorem GrR.ok {w : World} {g : Nat} {M : List Nat} {l : List Ent} (h : GrR w g M l) : ∀ x ∈ l, EntOk x := by
  obtain ⟨b1, vo, b2, m, sp, h⟩ := h; exact h.inv.ok
theorem GrR.nodup {w : World} {g : Nat} {M : List Nat} {l : List Ent} (h : GrR w g M l) : (l.map (·.id)).Nodup := by
  obtain ⟨b1, vo, b2, m, sp, h⟩ := h; exact h.inv.nodup
theorem new_spec (w : World) : K.Spec Tryz.prog F.graph_New [] w fun r w' => ∃ g M, r = .pointer (some ⟨g, 0, none⟩) ∧ Gr w' w.heap.size g M [] ∧ Ext w w' := by
  refine s_graph_New rfl ?_
  unfold k_graph_New
  refine oy ?_
  repeat' (first|(refine st_build (cs := [.map (some b1), .slice none 0 0, .map (some b2)]) rfl ?_)|(first|refine go1 ?_|refine zg (fun _ _=>?_)|refine zi (fun _ _=>?_))|(refine zD (cs := [.map (some b1), .slice none 0 0, .map (some b2)]) rfl rfl (fun bp wp xp ap rp hp0=>?_))|(refine st_makeMap (d := some 1) (E := sK) (fv := id) (β := Value) (fun b1 w1 x1 m1 hb1 => ?_))|(refine st_makeMap (d := some 2) (E := ptK) (fv := Value.string) (fun b2 w2 x2 m2 hb2 => ?_)))
  have l1 := m1.lt
  have l2 := m2.lt
  have lp := ap.lt
  exact x_ret rfl ⟨bp, _, rfl, ⟨b1, .slice none 0 0, b2, [], [], ⟨ap, MapR.new (m1.ext (x2.trans xp)), m2.ext xp, Own.nil _ _ _, GI.nil, by simp [blkOf]; omega, by have := x1.size; have := x2.size; omega⟩, rfl⟩, by exact fx⟩
/-- The error of one more, by itself. -/
def entErr (t : Tx) (fee : Int) : Int := if checkT t ≠ 0 then checkT t else if grantB t then 4 else if !goodB fee then 3 else 0
theorem tbase_spec' {M : List Nat} {cs : List Value} {t : Tx} (w : World) (ht : txR.rel M w cs t) (hs : t.Sm) : K.Spec Tryz.prog F.tx_Base [.agg cs.toArray] w fun r w' => r = .bool (grantB t) ∧ Ext w w' := tbase_spec w ht hs
set_option maxHeartbeats 1000000 in
theorem entry_spec {M : List Nat} {cs : List Value} {t : Tx} (fee : Int) (w : World) (ht : txR.rel M w cs t) (hs : t.Sm) (hf : is64 fee) (hM : ∀ b ∈ M, b < w.heap.size) : K.Spec Tryz.prog F.graph_entry [.agg cs.toArray, .int .i64 fee] w fun r w' =>
    ∃ ds, r = .tuple #[.agg ds.toArray, .int .i64 (entErr t fee)] ∧ ds.length = 7 ∧ ds.all (fun v => v.oneCell') = true ∧ (entErr t fee = 0 → EntOk ⟨t, idT t, fee, (sizeT t : Nat)⟩ ∧ entO w.heap.size M w' ds ⟨t, idT t, fee, (sizeT t : Nat)⟩) ∧ Ext w w' := by
  have ht0 := ht
  obtain ⟨iv, ov, rfl, h1, h2, h3⟩ := ht
  have key : ∀ {w6 : World} {b4 : Nat}, Ext w w6 → w.heap.size ≤ b4 → txR.rel (b4 :: M) w6 (txCs t iv ov) t := fun x hb => txR.step ht0 x (by simp) (by
    intro y hy
    rcases List.mem_cons.1 hy with h | h
    · right; omega
    · exact .inl h)
  by_cases hc : checkT t = 0
  · have hz := sz_of_check hs hc
    have hzs := hz.size
    refine s_graph_entry rfl ?_
    unfold k_graph_entry
    refine oy ?_
    repeat (first|refine go ?_|refine zg (fun _ _=>?_)|refine zi (fun _ _=>?_))
    refine zD rfl rfl (fun bp wp xp ap rp hp0 => ?_)
    repeat (first|refine go ?_|refine zg (fun _ _=>?_)|refine zi (fun _ _=>?_))
    refine zH (fun b4 w4 x4 a4 hb4 => ?_)
    have sp := xp.size
    have l4 := a4.lt
    repeat' (first|(refine st_build (d := some 18) (cs := zEnt) rfl ?_)|(refine st_build (d := some 23) (cs := zEnt) rfl ?_)|(refine st_build (d := some 28) (cs := zEnt) rfl ?_)|(first|refine go1 ?_|refine zg (fun _ _=>?_)|refine zi (fun _ _=>?_))|refine zM rfl (fun h => ?_) (fun h => ?_)|refine zN rfl (fun h => ?_) (fun h => ?_)|(refine zC rfl (id_spec (M := M) _ (cs := txCs t iv ov) (by exact fx) hs) ?_; rintro _ w5 ⟨rfl, x5⟩; rw [idV, if_pos hc])|(refine zC rfl (tbase_spec' (M := M) _ (cs := txCs t iv ov) (by exact fx) hs) ?_; rintro _ w6 ⟨rfl, x6⟩)|(refine zC rfl (size_spec (M := M) _ (cs := txCs t iv ov) (by exact fx) hs) ?_; rintro _ w7 ⟨rfl, x7⟩; rw [sizeV, if_pos hc])|(refine st_setN (w0 := w) (vs := zEnt) (by exact fx) (by omega) (by focus (repeat (first | assumption | (apply At.ext; assumption)))) rfl rfl rfl rfl rfl (fun w9 x9 c9 a9 r9 => ?_)))
    · exact x_ret (ret2 (rv_cell r9 rfl rfl) rv_tmp) ⟨zEnt, by rw [entErr, if_neg (by simpa using hc), if_pos h]; rfl, rfl, rfl, fun e => (by rw [entErr, if_neg (by simpa using hc), if_pos h] at e; cases e), x9⟩
    · exact x_ret (ret2 (rv_cell r9 rfl rfl) rv_tmp) ⟨zEnt, by rw [entErr, if_neg (by simpa using hc), if_neg (by simpa using ‹grantB t = false›), if_pos h]; rfl, rfl, rfl, fun e => (by rw [entErr, if_neg (by simpa using hc), if_neg (by simpa using ‹grantB t = false›), if_pos h] at e; cases e), x9⟩
    · have hg : grantB t = false := by assumption
      have s47 := Ext.size (w := w4) (w' := w7) (by exact fx)
      have a4' := At.ext (show Ext w4 w7 by exact fx) a4
      have xw7 : Ext w w7 := by exact fx
      refine zC rfl (txcopy_spec (M := b4 :: M) (cs := txCs t iv ov) _ (key xw7 (by omega)) hs (fun b hb => ?_)) ?_
      · rcases List.mem_cons.1 hb with e | e
        · omega
        · have := hM b e; have := xw7.size; omega
      rintro _ w8 ⟨cs8, rfl, ⟨iv8, ov8, rfl, o1, o2, o3⟩, x8⟩
      repeat (first|(refine st_build (cs := entCs ⟨t, idT t, fee, (sizeT t : Nat)⟩ iv8 ov8) rfl ?_)|(first|refine go1 ?_|refine zg (fun _ _=>?_)|refine zi (fun _ _=>?_)))
      have g1 := o1.base
      have g2 := o2.base
      refine st_setN (w0 := w) (vs := entCs ⟨t, idT t, fee, (sizeT t : Nat)⟩ iv8 ov8) (xw7.trans x8) (by omega) (At.ext x8 a4') rfl rfl rfl rfl ?_ (fun w9 x9 c9 a9 r9 => ?_)
      · have e1 := o1.one
        have e2 := o2.one
        simp [entCs, e1, e2]; exact ⟨rfl, rfl, rfl, rfl, rfl⟩
      repeat (first|refine go1 ?_|refine zg (fun _ _=>?_)|refine zi (fun _ _=>?_))
      have h41 : b4 ∉ blkOf iv8 := fun h => by have := g1 _ h; omega
      have h42 : b4 ∉ blkOf ov8 := fun h => by have := g2 _ h; omega
      have p1 := o1.step (M' := M) c9 (by intro y hy; simp at hy; subst hy; exact ⟨h41, .inl (by simp)⟩) (fun _ h => .inl (by simp [h]))
      have p2 := o2.step (M' := M) c9 (by intro y hy; simp at hy; subst hy; exact ⟨h42, .inl (by simp)⟩) (fun _ h => .inl (by simp [h]))
      have hgf : goodB fee = true := by simpa using h
      have e0 : entErr t fee = 0 := by rw [entErr, if_neg (by simpa using hc), if_neg (by rw [hg]; decide), if_neg (by rw [hgf]; decide)]
      rw [e0]
      have s7 := xw7.size
      refine x_ret (ret2 (rv_cell r9 rfl rfl) rv_tmp) ⟨_, rfl, rfl, ?_, fun _ => ⟨⟨hc, hg, hgf, rfl, rfl⟩, iv8, ov8, rfl, p1.lower s7, p2.lower s7, h3.1, h3.2, hf, by show is64 ((sizeT t : Nat) : Int); unfold is64; omega⟩, x9⟩
      have e1 := o1.one
      have e2 := o2.one
      simp [entCs, e1, e2]; exact ⟨rfl, rfl, rfl, rfl, rfl⟩
  · refine s_graph_entry rfl ?_
    unfold k_graph_entry
    refine oy ?_
    repeat (first|refine go ?_|refine zg (fun _ _=>?_)|refine zi (fun _ _=>?_))
    refine zD rfl rfl (fun bp wp xp ap rp hp0 => ?_)
    repeat (first|refine go ?_|refine zg (fun _ _=>?_)|refine zi (fun _ _=>?_))
    refine zH (fun b4 w4 x4 a4 hb4 => ?_)
    have sp := xp.size
    repeat' (first|(refine st_build (d := some 18) (cs := zEnt) rfl ?_)|(first|refine go1 ?_|refine zg (fun _ _=>?_)|refine zi (fun _ _=>?_))|refine zN rfl (fun h => ?_) (fun h => ?_)|(refine zC rfl (id_spec (M := M) _ (cs := txCs t iv ov) (by exact fx) hs) ?_; rintro _ w5 ⟨rfl, x5⟩; rw [idV, if_neg hc])|(refine st_setN (w0 := w) (vs := zEnt) (by exact fx) (by omega) (by focus (repeat (first | assumption | (apply At.ext; assumption)))) rfl rfl rfl rfl rfl (fun w9 x9 c9 a9 r9 => ?_)))
    · have e0 : entErr t fee = checkT t := by rw [entErr, if_pos hc]
      rw [e0]
      exact x_ret (ret2 (rv_cell r9 rfl rfl) rv_tmp) ⟨zEnt, rfl, rfl, rfl, fun e => absurd e hc, x9⟩
    · exact absurd (by assumption) hc
end Go.Proofs.YtilhlcnekkkajaaGreat
end
