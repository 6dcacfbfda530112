/- The engine, part 12: data that hang together: elements that lead to slices of their own. -/
import Derived.Test.YteggaepppahefaaGreatH9
set_option linter.unusedVariables false
set_option linter.unusedSimpArgs false
section
namespace Go.K
open Go
variable {P : Program}

/-! ### Lists side by side -/
inductive All2 {α β : Type} (r : α → β → Prop) : List α → List β → Prop
  | nil : All2 r [] []
  | cons {a b as bs} : r a b → All2 r as bs → All2 r (a :: as) (b :: bs)
section
variable {α β : Type} {r : α → β → Prop}
theorem All2.length : ∀ {l : List α} {m : List β}, All2 r l m → l.length = m.length
  | _, _, .nil => rfl
  | _, _, .cons _ h => by simp [h.length]
theorem All2.mono {r' : α → β → Prop} (hr : ∀ a b, r a b → r' a b) : ∀ {l : List α} {m : List β}, All2 r l m → All2 r' l m
  | _, _, .nil => .nil
  | _, _, .cons h t => .cons (hr _ _ h) (t.mono hr)
theorem All2.append : ∀ {l l' : List α} {m m' : List β}, All2 r l m → All2 r l' m' → All2 r (l ++ l') (m ++ m')
  | _, _, _, _, .nil, h => h
  | _, _, _, _, .cons h t, h' => .cons h (t.append h')
theorem All2.get : ∀ {l : List α} {m : List β}, All2 r l m → ∀ (i : Nat) (h : i < l.length) (h' : i < m.length), r l[i] m[i]
  | _, _, .cons h _, 0, _, _ => h
  | _, _, .cons _ t, i + 1, h, h' => t.get i (by simpa using h) (by simpa using h')
theorem All2.take : ∀ {l : List α} {m : List β} (n : Nat), All2 r l m → All2 r (l.take n) (m.take n)
  | _, _, 0, _ => by simpa using All2.nil
  | _, _, _ + 1, .nil => by simpa using All2.nil
  | _, _, n + 1, .cons h t => by simpa using All2.cons h (t.take n)
theorem All2.drop : ∀ {l : List α} {m : List β} (n : Nat), All2 r l m → All2 r (l.drop n) (m.drop n)
  | _, _, 0, h => by simpa using h
  | _, _, _ + 1, .nil => by simpa using All2.nil
  | _, _, n + 1, .cons _ t => by simpa using t.drop n
theorem All2.right_nil {l : List α} (h : All2 r l []) : l = [] := by cases h; rfl
theorem All2.split : ∀ {l l' : List α} {m : List β}, All2 r (l ++ l') m → ∃ m1 m2, m = m1 ++ m2 ∧ All2 r l m1 ∧ All2 r l' m2
  | [], _, m, h => ⟨[], m, rfl, .nil, h⟩
  | _ :: _, _, _, .cons h t => by
    obtain ⟨m1, m2, rfl, h1, h2⟩ := t.split
    exact ⟨_ :: m1, m2, rfl, .cons h h1, h2⟩
end

/-! ### Relations -/
/-- The cells cs read as x, in w, off the blocks of M. -/
structure R (α : Type) where
  k : Nat
  pos : 0 < k
  ag : Bool
  rel : List Nat → World → List Value → α → Prop
  len : ∀ {M w cs x}, rel M w cs x → cs.length = k
  one : ∀ {M w cs x}, rel M w cs x → ∀ v ∈ cs, v.oneCell' = true
  step : ∀ {M M' L w w' cs x}, rel M w cs x → Chg L w w' → (∀ b ∈ L, b ∈ M ∨ w.heap.size ≤ b) → (∀ b ∈ M', b ∈ M ∨ w.heap.size ≤ b) → rel M' w' cs x
def R.val {α : Type} (E : R α) (cs : List Value) : Value := if E.ag then .agg cs.toArray else cs.headD undef
def Vec (k : Nat) := { cs : List Value // cs.length = k ∧ ∀ v ∈ cs, v.oneCell' = true }
def vecE (k : Nat) (hk : 0 < k) : Enc (Vec k) := ⟨fun c => c.1, k, fun c => c.2.1, hk, fun c => c.2.2⟩
variable {α : Type} {E : R α} {M M' L : List Nat} {w w' : World}
theorem R.ext {cs : List Value} {x : α} (h : E.rel M w cs x) (c : Ext w w') : E.rel M w' cs x := E.step h c (by simp) (fun _ h => .inl h)
def R.vec {cs : List Value} {x : α} (h : E.rel M w cs x) : Vec E.k := ⟨cs, E.len h, E.one h⟩
def R.flat (E : Enc α) (ag : Bool) : R α where
  k := E.k
  pos := E.pos
  ag := ag
  rel := fun _ _ cs x => cs = E.f x
  len := fun h => by rw [h]; exact E.len _
  one := fun h => by rw [h]; exact E.one _
  step := fun h _ _ _ => h
def R.all (E : R α) (M : List Nat) (w : World) (css : List (Vec E.k)) (l : List α) : Prop := All2 (fun c x => E.rel M w c.1 x) css l
/-- A slice that reads as a list. -/
def SlR (E : R α) (M : List Nat) (w : World) (v : Value) (l : List α) : Prop :=
  ∃ css, SlE (vecE E.k E.pos) w v css ∧ E.all M w css l ∧ (0 < l.length → ∀ b ∈ blkOf v, b ∉ M)
section
variable {v : Value} {l : List α}
theorem SlR.form (h : SlR E M w v l) : ∃ base cap, v = .slice base l.length cap := by
  obtain ⟨css, h1, h2, _⟩ := h
  obtain ⟨base, cap, rfl⟩ := h1.form
  exact ⟨base, cap, by rw [h2.length]⟩
theorem SlE.anyw {F : Enc α} (h : SlE F w v []) : SlE F w' v [] := by
  obtain ⟨h1, base, cap, hv, hc, _⟩ := h
  exact ⟨h1, base, cap, hv, hc, fun hp => by simp [Enc.flat] at hp⟩
theorem SlE.blk_lt {F : Enc α} (h : SlE F w v l) (hp : 0 < l.length) : ∀ b ∈ blkOf v, b < w.heap.size := by
  obtain ⟨h1, base, cap, rfl, hc, h2⟩ := h
  have hk := F.pos
  have hpos : 0 < (F.flat l).length := by rw [F.flat_length]; exact Nat.mul_pos hp hk
  obtain ⟨a, rfl, hr⟩ := h2 hpos
  intro b hb
  simp only [blkOf, List.mem_singleton] at hb
  subst hb
  have := cell_lt (hr 0 _ (List.getElem?_eq_getElem hpos))
  rwa [add_block] at this
theorem SlR.blk_lt (h : SlR E M w v l) (hp : 0 < l.length) : ∀ b ∈ blkOf v, b < w.heap.size := by
  obtain ⟨css, h1, h2, _⟩ := h
  exact h1.blk_lt (by rw [h2.length]; exact hp)
theorem SlR.step (h : SlR E M w v l) (c : Chg L w w') (hL : ∀ b ∈ L, b ∈ M ∨ w.heap.size ≤ b) (hM : ∀ b ∈ M', b ∈ M ∨ w.heap.size ≤ b) : SlR E M' w' v l := by
  have hlt := h.blk_lt
  obtain ⟨css, h1, h2, h3⟩ := h
  refine ⟨css, ?_, h2.mono fun _ _ hr => E.step hr c hL hM, fun hp b hb hm => ?_⟩
  · by_cases hp : 0 < l.length
    · refine h1.chg c fun a m k hv hm => ?_
      have hb : a.block ∈ blkOf v := by rw [hv]; simp [blkOf]
      rcases hL _ hm with h4 | h4
      · exact h3 hp _ hb h4
      · have := hlt hp _ hb; omega
    · have hl : l = [] := List.length_eq_zero_iff.1 (by omega)
      subst hl
      have := h2.right_nil
      subst this
      exact h1.anyw
  · rcases hM b hm with h4 | h4
    · exact h3 hp b hb h4
    · have := hlt hp b hb; omega
theorem SlR.ext (h : SlR E M w v l) (c : Ext w w') : SlR E M w' v l := h.step c (by simp) (fun _ h => .inl h)
theorem SlR.sub (h : SlR E M w v l) (hm : ∀ b ∈ M', b ∈ M ∨ w.heap.size ≤ b) : SlR E M' w v l := h.step (Chg.refl [] w) (by simp) hm
theorem SlR.nil (M : List Nat) (w : World) : SlR E M w (.slice none 0 0) [] := ⟨[], SlE.nil w, .nil, fun h => by simp at h⟩
def Enc.vec (F : Enc α) (x : α) : Vec F.k := ⟨F.f x, F.len x, F.one x⟩
theorem flat_vecs (F : Enc α) : ∀ l : List α, (vecE F.k F.pos).flat (l.map F.vec) = F.flat l
  | [] => rfl
  | x :: l => by
    have := flat_vecs F l
    simp only [Enc.flat, List.map_cons, List.flatMap_cons] at this ⊢
    rw [this]; rfl
theorem SlE.toR {F : Enc α} {ag : Bool} (h : SlE F w v l) (hb : ∀ b ∈ blkOf v, b ∉ M) : SlR (R.flat F ag) M w v l := by
  refine ⟨l.map F.vec, ?_, ?_, fun _ => hb⟩
  · show Sl w F.k v (l.map F.vec).length ((vecE F.k F.pos).flat (l.map F.vec))
    rw [flat_vecs, List.length_map]; exact h
  · clear h
    induction l with
    | nil => exact .nil
    | cons x l ih => exact .cons rfl ih
theorem SlR.cells (h : SlR E M w v l) : ∃ css, slCells w E.k v = some (l.length, (vecE E.k E.pos).flat css) ∧ E.all M w css l := by
  obtain ⟨css, h1, h2, _⟩ := h
  exact ⟨css, by have := h1.cells; rw [h2.length] at this; exact this, h2⟩
theorem SlR.cut {base : Option Addr} {n cap : Nat} (h : SlR E M w (.slice base n cap) l) {lo hi : Nat} (h1 : lo ≤ hi) (h2 : hi ≤ l.length) (c2 : Nat) (hc2 : hi - lo ≤ c2) :
    SlR E M w (.slice (if cap = lo then base else base.map fun ad : Addr => ad.add (lo * E.k)) (hi - lo) c2) ((l.drop lo).take (hi - lo)) := by
  obtain ⟨css, g1, g2, g3⟩ := h
  refine ⟨_, g1.cut h1 (by rw [g2.length]; exact h2) c2 hc2, (g2.drop lo).take _, fun hp b hb => ?_⟩
  simp only [List.length_take, List.length_drop] at hp
  refine g3 (by omega) b ?_
  cases base with
  | none => simp [blkOf] at hb
  | some a => split at hb <;> simpa [blkOf, add_block] using hb
end
section
variable {d : Option Tmp} {r : KR} {K : Env → World → Prop} {ρ : Env} {v : Value} {l : List α}
theorem st_lenR {x : Operand} (hx : ev ρ x = v) (hs : SlR E M w v l) (k : regK P r K (put ρ d (.int .i64 (l.length : Nat))) w) : regK P (.cons ⟨d, .len false x, none⟩ r) K ρ w := by
  obtain ⟨base, cap, rfl⟩ := hs.form
  exact st_fix rfl (by simp [KOp.fix, hx]) k
theorem st_elemR {size : Nat} {x i : Operand} {kd : IntKind} {n : Nat} (hx : ev ρ x = v) (hi : ev ρ i = .int kd (n : Nat)) (hs : SlR E M w v l) (hk : size = E.k) (hr : n < l.length)
    (k : ∀ ad cs, Row w ad cs → E.rel M w cs l[n] → regK P r K (put ρ d (.pointer (some ad))) w) : regK P (.cons ⟨d, .indexAddr size x i, none⟩ r) K ρ w := by
  obtain ⟨css, h1, h2, _⟩ := hs
  have hr' : n < css.length := by rw [h2.length]; exact hr
  exact st_elemE (E := vecE E.k E.pos) hx hi h1 hk hr' fun ad hrow => k ad _ hrow (h2.get n hr' hr)
end

/-! ### Slices of the function's own -/
def OwnR (E : R α) (t : TypeId) (B : Nat) (M : List Nat) (w : World) (v : Value) (l : List α) : Prop :=
  ∃ css, Own (vecE E.k E.pos) t B w v css ∧ E.all (blkOf v ++ M) w css l
section
variable {t : TypeId} {B : Nat} {v : Value} {l : List α}
theorem OwnR.nil (t : TypeId) (B : Nat) (M : List Nat) (w : World) : OwnR E t B M w (.slice none 0 0) [] := ⟨[], Own.nil t B w, .nil⟩
theorem OwnR.base (h : OwnR E t B M w v l) : ∀ b ∈ blkOf v, B ≤ b := by obtain ⟨_, h1, _⟩ := h; exact h1.base
theorem OwnR.lt (h : OwnR E t B M w v l) : ∀ b ∈ blkOf v, b < w.heap.size := by
  obtain ⟨_, h1, _⟩ := h
  rcases h1 with ⟨rfl, rfl⟩ | ⟨b, cap, junk, rfl, hB, hat, hl⟩ <;> simp [blkOf]
  exact hat.lt
theorem OwnR.sl (h : OwnR E t B M w v l) (hM : ∀ b ∈ M, b ∉ blkOf v) : SlR E M w v l := by
  obtain ⟨css, h1, h2⟩ := h
  exact ⟨css, h1.sl, h2.mono fun _ _ hr => E.step hr (Chg.refl [] w) (by simp) (fun b hb => .inl (by simp [hb])), fun _ b hb hm => hM b hm hb⟩
theorem OwnR.slB (h : OwnR E t B M w v l) (hM : ∀ b ∈ M, b < B) : SlR E M w v l := h.sl fun b hb hv => by have := hM b hb; have := h.base b hv; omega
theorem OwnR.step (h : OwnR E t B M w v l) (c : Chg L w w') (hL : ∀ b ∈ L, b ∉ blkOf v ∧ (b ∈ M ∨ w.heap.size ≤ b)) (hM : ∀ b ∈ M', b ∈ M ∨ w.heap.size ≤ b) : OwnR E t B M' w' v l := by
  obtain ⟨css, h1, h2⟩ := h
  refine ⟨css, h1.chg c fun b hb hl => (hL b hl).1 hb, h2.mono fun _ _ hr => E.step hr c (fun b hb => ?_) fun b hb => ?_⟩
  · rcases (hL b hb).2 with h | h
    · exact .inl (by simp [h])
    · exact .inr h
  · rcases List.mem_append.1 hb with h | h
    · exact .inl (by simp [h])
    · rcases hM b h with h | h
      · exact .inl (by simp [h])
      · exact .inr h
theorem OwnR.ext (h : OwnR E t B M w v l) (c : Ext w w') : OwnR E t B M w' v l := h.step c (by simp) (fun _ h => .inl h)
theorem OwnR.lower {B' : Nat} (h : OwnR E t B M w v l) (hb : B' ≤ B) : OwnR E t B' M w v l := by
  obtain ⟨css, h1, h2⟩ := h; exact ⟨css, h1.lower hb, h2⟩
end
section
variable {d : Option Tmp} {r : KR} {K : Env → World → Prop} {ρ : Env} {v : Value} {l l2 : List α} {t : TypeId} {B : Nat}
/-- append to a slice of the function's own; its older form is read as it was. -/
theorem st_appendRO {size bytes : Nat} {zero : List Value} {x y : Operand} {n : Nat} {new : List Value} {css : List (Vec E.k)} (hx : ev ρ x = v) (ho : OwnR E t B M w v l) (hB : B ≤ w.heap.size) (hk : size = E.k) (hz : zero.length = E.k)
    (hy : slCells w E.k (ev ρ y) = some (n, new)) (hnew : new = (vecE E.k E.pos).flat css) (ha : E.all (blkOf v ++ M) w css l2) (hn : n = l2.length) (hroom : (l.length + l2.length) * bytes ≤ 2 ^ 47)
    (k : ∀ v' w', OwnR E t B M w' v' (l ++ l2) → ((∀ b ∈ M, b ∉ blkOf v) → SlR E M w' v l) → Chg (blkOf v) w w' → (∀ b ∈ blkOf v', b ∈ blkOf v ∨ w.heap.size ≤ b) → regK P r K (put ρ d v') w') : regK P (.cons ⟨d, .append t size bytes zero x y, none⟩ r) K ρ w := by
  subst hk
  obtain ⟨cs0, h1, h2⟩ := ho
  refine st_appendX (E := vecE E.k E.pos) hx h1 hB rfl hz hy hnew (by rw [hn, ha.length]) (by rw [h2.length, ha.length]; exact hroom) fun v' w' h3 h0 c hb => ?_
  refine k v' w' ⟨cs0 ++ css, h3, ?_⟩ (fun hM => ⟨cs0, h0, h2.mono fun _ _ hr => E.step hr c (fun b hb => .inl (by simp [hb])) (fun b hb => .inl (by simp [hb])), fun _ b hb hm => hM b hm hb⟩) c hb
  refine (h2.append ha).mono fun _ _ hr => E.step hr c (fun b hb => .inl (by simp [hb])) fun b h4 => ?_
  rcases List.mem_append.1 h4 with h5 | h5
  · rcases hb b h5 with h6 | h6
    · exact .inl (by simp [h6])
    · exact .inr h6
  · exact .inl (by simp [h5])
theorem st_appendR {size bytes : Nat} {zero : List Value} {x y : Operand} {n : Nat} {new : List Value} {css : List (Vec E.k)} (hx : ev ρ x = v) (ho : OwnR E t B M w v l) (hB : B ≤ w.heap.size) (hk : size = E.k) (hz : zero.length = E.k)
    (hy : slCells w E.k (ev ρ y) = some (n, new)) (hnew : new = (vecE E.k E.pos).flat css) (ha : E.all (blkOf v ++ M) w css l2) (hn : n = l2.length) (hroom : (l.length + l2.length) * bytes ≤ 2 ^ 47)
    (k : ∀ v' w', OwnR E t B M w' v' (l ++ l2) → Chg (blkOf v) w w' → (∀ b ∈ blkOf v', b ∈ blkOf v ∨ w.heap.size ≤ b) → regK P r K (put ρ d v') w') : regK P (.cons ⟨d, .append t size bytes zero x y, none⟩ r) K ρ w :=
  st_appendRO hx ho hB hk hz hy hnew ha hn hroom fun v' w' h1 _ h3 h4 => k v' w' h1 h3 h4
/-- append of one element that a fresh block bears. -/
theorem st_append1O {size bytes : Nat} {zero : List Value} {x y : Operand} {b : Nat} {ty : TypeId} {cs : List Value} {a : α} (hx : ev ρ x = v) (hy : ev ρ y = .slice (some ⟨b, 0, none⟩) 1 1) (ho : OwnR E t B M w v l) (hB : B ≤ w.heap.size) (hk : size = E.k) (hz : zero.length = E.k)
    (hb : At w b (.cells cs.toArray ty (0, 0))) (ha : E.rel (blkOf v ++ M) w cs a) (hroom : (l.length + 1) * bytes ≤ 2 ^ 47)
    (k : ∀ v' w', OwnR E t B M w' v' (l ++ [a]) → ((∀ b ∈ M, b ∉ blkOf v) → SlR E M w' v l) → Chg (blkOf v) w w' → (∀ b ∈ blkOf v', b ∈ blkOf v ∨ w.heap.size ≤ b) → regK P r K (put ρ d v') w') : regK P (.cons ⟨d, .append t size bytes zero x y, none⟩ r) K ρ w := by
  have hl := E.len ha
  refine st_appendRO (css := [R.vec ha]) (l2 := [a]) hx ho hB hk hz (by rw [hy]; exact sl_new hb (by rw [hl]; simp)) (by simp only [Enc.flat, List.flatMap_cons, List.flatMap_nil, List.append_nil]; rfl) (.cons ha .nil) rfl hroom k
theorem st_append1 {size bytes : Nat} {zero : List Value} {x y : Operand} {b : Nat} {ty : TypeId} {cs : List Value} {a : α} (hx : ev ρ x = v) (hy : ev ρ y = .slice (some ⟨b, 0, none⟩) 1 1) (ho : OwnR E t B M w v l) (hB : B ≤ w.heap.size) (hk : size = E.k) (hz : zero.length = E.k)
    (hb : At w b (.cells cs.toArray ty (0, 0))) (ha : E.rel (blkOf v ++ M) w cs a) (hroom : (l.length + 1) * bytes ≤ 2 ^ 47)
    (k : ∀ v' w', OwnR E t B M w' v' (l ++ [a]) → Chg (blkOf v) w w' → (∀ b ∈ blkOf v', b ∈ blkOf v ∨ w.heap.size ≤ b) → regK P r K (put ρ d v') w') : regK P (.cons ⟨d, .append t size bytes zero x y, none⟩ r) K ρ w :=
  st_append1O hx hy ho hB hk hz hb ha hroom fun v' w' h1 _ h3 h4 => k v' w' h1 h3 h4
end
/-! ### Maps -/
section
variable {κ β : Type} [DecidableEq κ] {KE : KEnc κ} {F : R β}
def MapR (KE : KEnc κ) (F : R β) (M : List Nat) (w : World) (b : Nat) (m : List (κ × β)) : Prop :=
  ∃ mv : List (κ × Value), MapE KE id w b mv ∧ All2 (fun p q => p.1 = q.1 ∧ ∃ cs, p.2 = F.val cs ∧ F.rel M w cs q.2) mv m
theorem MapR.keys {b : Nat} {m : List (κ × β)} (h : MapR KE F M w b m) : (m.map (·.1)).Nodup := by
  obtain ⟨mv, h1, h2⟩ := h
  have e : mv.map (·.1) = m.map (·.1) := by
    clear h1
    induction h2 with
    | nil => rfl
    | cons hx _ ih => rw [List.map_cons, List.map_cons, ih, hx.1]
  rw [← e]; exact h1.nodup
theorem MapR.lt {b : Nat} {m : List (κ × β)} (h : MapR KE F M w b m) : b < w.heap.size := by obtain ⟨mv, h1, _⟩ := h; exact h1.lt
theorem MapR.step {b : Nat} {m : List (κ × β)} (h : MapR KE F M w b m) (c : Chg L w w') (hb : b ∉ L) (hL : ∀ b ∈ L, b ∈ M ∨ w.heap.size ≤ b) (hM : ∀ b ∈ M', b ∈ M ∨ w.heap.size ≤ b) : MapR KE F M' w' b m := by
  obtain ⟨mv, h1, h2⟩ := h
  exact ⟨mv, h1.chg c hb, h2.mono fun _ _ ⟨e, cs, e2, hr⟩ => ⟨e, cs, e2, F.step hr c hL hM⟩⟩
theorem MapR.ext {b : Nat} {m : List (κ × β)} (h : MapR KE F M w b m) (c : Ext w w') : MapR KE F M w' b m := h.step c (by simp) (by simp) (fun _ h => .inl h)
theorem aget_all {r : Value → β → Prop} {k : κ} : ∀ {mv : List (κ × Value)} {m : List (κ × β)}, All2 (fun p q => p.1 = q.1 ∧ r p.2 q.2) mv m →
    (∀ x, aget m k = some x → ∃ v, aget mv k = some v ∧ r v x) ∧ (aget m k = none → aget mv k = none)
  | _, _, .nil => ⟨fun x h => by simp [aget] at h, fun _ => rfl⟩
  | (a, v) :: mv, (a', x) :: m, .cons ⟨h1, h2⟩ t => by
    simp only at h1 h2
    subst h1
    have ih := aget_all (k := k) t
    have e1 : aget ((a, v) :: mv) k = if a = k then some v else aget mv k := by unfold aget; rw [List.find?_cons]; by_cases h : a = k <;> simp [h]
    have e2 : aget ((a, x) :: m) k = if a = k then some x else aget m k := by unfold aget; rw [List.find?_cons]; by_cases h : a = k <;> simp [h]
    rw [e1, e2]
    by_cases h : a = k
    · rw [if_pos h, if_pos h]
      exact ⟨fun y hy => ⟨v, rfl, by simp at hy; subst hy; exact h2⟩, fun h => by cases h⟩
    · rw [if_neg h, if_neg h]; exact ih
theorem aset_all {r : Value → β → Prop} {k : κ} {v : Value} {x : β} (hv : r v x) : ∀ {mv : List (κ × Value)} {m : List (κ × β)}, All2 (fun p q => p.1 = q.1 ∧ r p.2 q.2) mv m →
    All2 (fun p q => p.1 = q.1 ∧ r p.2 q.2) (aset mv k v) (aset m k x)
  | _, _, .nil => .cons ⟨rfl, hv⟩ .nil
  | p :: mv, q :: m, .cons hx t => by
    have ih := aset_all (k := k) hv t
    unfold aset
    by_cases h : q.1 = k
    · rw [if_pos h, if_pos (hx.1.trans h)]; exact .cons ⟨rfl, hv⟩ t
    · rw [if_neg h, if_neg (fun e => h (hx.1.symm.trans e))]; exact .cons hx ih
end
end Go.K
end
