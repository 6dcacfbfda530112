/- DERIVED: THE SHELF's CONTRACTS AT THIS DUMP, IN PLAIN WORDS (tools/lay-plain.mjs out of 'YteggaepppahefaaGreatShelf3.lean', which tools/lay-shelf.mjs wrote): THE SAME DECLARATIONS UNDER THE SAME NAMES: 'import', 'namespace', 'open', 'def', 'theorem' AND NOTHING ELSE: no command of the shelf's: FOR A HAND-IN. Each laying: the table of numbers ('.._ren') and one theorem, a field a fact of the dump's -/
import Derived.Shelf.Bits.Mul64
import Derived.Ground.SlgnProg
import Derived.Ground.SlgfProg
import Derived.Test.YteggaepppahefaaGreatProg
import Derived.Ground.NamesProg
import Derived.Test.YteggaepppahefaaGreatE40
set_option linter.unusedVariables false
set_option linter.unusedSimpArgs false
section
namespace Go.Proofs
open Go.Shelf
def Tryz.lays264_ren : Go.Shelf.Ren := ⟨fun | 264 => 68 | n => n, fun | 53 => 117 | 46 => 151 | n => n, fun | n => n⟩
theorem Tryz.lays264 : Go.Proofs.Lays.n264 Tryz.prog Tryz.lays264_ren := {
  mixed := by kernel_rfl
  f264 := Tryz.func68.trans (congrArg some (by kernel_rfl))
  t46 := Tryz.underlying151
  a46 := Tryz.isAgg151
  z46 := Tryz.sizeOf151
  v46 := Tryz.zeroValue151
  t53 := Tryz.underlying117
  a53 := Tryz.isAgg117
  z53 := Tryz.sizeOf117
  v53 := Tryz.zeroValue117 }
open Go.RowKit Go.Lib in
theorem Tryz.bits_Mul64 (x y : Nat) (hx : x < 18446744073709551616) (hy : y < 18446744073709551616) (w : World) :
    Calls Tryz.prog 68 #[.int .u64 x, .int .u64 y] w fun e w' => e = .returned (.tuple #[.int .u64 ((x * y / 18446744073709551616 : Nat) : Int), .int .u64 ((x * y % 18446744073709551616 : Nat) : Int)]) ∧ w' = w := Any.bits_Mul64 Tryz.lays264 x y hx hy w
end Go.Proofs
end
section
namespace Go.K
open Go
def cntB : List Bool → Int
  | [] => 0
  | b :: m => (if b then 1 else 0) + cntB m
theorem cntB_le : ∀ (m : List Bool), 0 ≤ cntB m ∧ cntB m ≤ m.length
  | [] => by simp [cntB]
  | b :: m => by have := cntB_le m; rw [cntB, List.length_cons]; cases b <;> simp <;> omega
theorem cntB_snoc : ∀ (m : List Bool) (b : Bool), cntB (m ++ [b]) = cntB m + if b then 1 else 0
  | [], b => by cases b <;> rfl
  | c :: m, b => by rw [List.cons_append, cntB, cntB, cntB_snoc m b]; omega
theorem idsOf_len : ∀ (l : List Ent) (m : List Bool), l.length = m.length → ((idsOf l m).length : Int) = cntB m
  | [], [], _ => rfl
  | x :: l, b :: m, h => by
    have ih := idsOf_len l m (by simpa using h)
    cases b <;> simp only [idsOf, cntB, Bool.false_eq_true, if_false, if_true, List.length_cons] <;> omega
theorem sums_once {l : List Ent} (h : (l.map (·.id)).Nodup) (m : List Bool) : sizeD l (idsOf l m) = szOf l m := by
  unfold sizeD
  rw [dist_nodup ((idsOf_sub l m).nodup h)]
  exact (sums_mask h m).2
/-- Some ids, and so much more, within a count and a size. -/
def wiP (l : List Ent) (ids : List ByteArray) (more count size : Int) : Bool := decide ((ids.length : Int) + 1 ≤ count) && decide (sizeD l ids + more ≤ size)
def hoP (l : List Ent) (line : List ByteArray) (more count size : Int) : Bool := line.all fun s => wiP l (idsOf l (belowL l s)) more count size
def fitsL (l : List Ent) (t : Tx) : Int :=
  if checkT t ≠ 0 then checkT t
  else if wiP l (idsOf l (aboveL l t)) (sizeT t : Nat) 25 101000 = false then 14
  else if hoP l (idsOf l (aboveL l t)) (sizeT t : Nat) 25 101000 then 0
  else if ((idsOf l (aboveL l t)).length : Int) = 1 ∧ ((sizeT t : Nat) : Int) ≤ 10000 ∧ hoP l (idsOf l (aboveL l t)) (sizeT t : Nat) 26 111000 = true then 0 else 14
theorem idsOf_mem : ∀ {l : List Ent} {m : List Bool} {i : Nat} (h : i < l.length) (h2 : i < m.length), m[i] = true → l[i].id ∈ idsOf l m
  | x :: l, b :: m, 0, _, _, hb => by simp only [List.getElem_cons_zero] at hb; subst hb; simp [idsOf]
  | x :: l, b :: m, i + 1, h, h2, hb => by
    have := idsOf_mem (l := l) (m := m) (i := i) (by simpa using h) (by simpa using h2) (by simpa using hb)
    simp only [idsOf, List.getElem_cons_succ]
    cases b <;> simp [this]
theorem mem_idsOf : ∀ {l : List Ent} {m : List Bool} {s : ByteArray}, s ∈ idsOf l m → ∃ i, ∃ (h : i < l.length) (h2 : i < m.length), m[i] = true ∧ l[i].id = s
  | [], m, s, h => by cases m <;> simp [idsOf] at h
  | x :: l, [], s, h => by simp [idsOf] at h
  | x :: l, b :: m, s, h => by
    have step : s ∈ idsOf l m → _ := fun h => mem_idsOf h
    cases b
    · obtain ⟨i, h1, h2, h3, h4⟩ := step (by simpa [idsOf] using h)
      exact ⟨i + 1, by simpa using h1, by simpa using h2, by simpa using h3, by simpa using h4⟩
    · simp only [idsOf, if_true, List.mem_cons] at h
      rcases h with rfl | h
      · exact ⟨0, by simp, by simp, rfl, rfl⟩
      · obtain ⟨i, h1, h2, h3, h4⟩ := step h
        exact ⟨i + 1, by simpa using h1, by simpa using h2, by simpa using h3, by simpa using h4⟩
theorem one_all {α : Type} {l : List α} {a : α} {p : α → Bool} (h : l.length = 1) (ha : a ∈ l) : l.all p = p a := by
  match l, h with
  | [b], _ =>
    simp only [List.mem_singleton] at ha
    subst ha; simp
theorem wiP_mask {l : List Ent} {m : List Bool} (hn : (l.map (·.id)).Nodup) (hl : l.length = m.length) (z c s : Int) : wiP l (idsOf l m) z c s = (decide (cntB m + 1 ≤ c) && decide (szOf l m + z ≤ s)) := by
  unfold wiP
  rw [sums_once hn, idsOf_len l m hl]
end Go.K
end
section
namespace Go.K
open Go
variable {l : List Ent} {s : ByteArray}
theorem findI_any : decide (findI l s ≥ 0) = l.any fun x => decide (x.id = s) := idxOf_any
theorem find_none (h : findI l s < 0) : (l.find? fun x => decide (x.id = s)) = none := by
  have h2 := @findI_any l s
  rw [decide_eq_false (by omega)] at h2
  refine List.find?_eq_none.2 fun x hx h3 => ?_
  rw [List.any_eq_true.2 ⟨x, hx, h3⟩] at h2; cases h2
theorem sum_none (h : findI l s < 0) : feeD l [s] = 0 ∧ sizeD l [s] = 0 := by
  have e : dist [s] = [s] := rfl
  unfold feeD sizeD
  rw [e]
  simp only [List.map_cons, List.map_nil, List.sum_cons, List.sum_nil, getG, find_none h]
  exact ⟨rfl, rfl⟩
theorem aboveL_len (l : List Ent) (t : Tx) : l.length = (aboveL l t).length := (reachL_length _ _ _).symm
theorem belowL_len (l : List Ent) (s : ByteArray) : l.length = (belowL l s).length := (reachL_length _ _ _).symm
theorem stepR_no {base : Nat → Bool} {edge : Nat → Nat → Bool} {n : Nat} (h : ∀ i, i < n → base i = false) : ∀ (r i : Nat), i < n → stepR base edge n r i = false := by
  intro r i hi
  cases hb : stepR base edge n r i with
  | false => rfl
  | true => exact (stepR_least (p := fun _ => False) (fun i hi hb => by rw [h i hi] at hb; cases hb) (fun _ _ _ _ hp _ => hp) r i hi hb).elim
theorem ids_no : ∀ {l : List Ent} {m : List Bool}, (∀ b ∈ m, b = false) → idsOf l m = []
  | [], m, _ => by cases m <;> rfl
  | _ :: _, [], _ => rfl
  | x :: l, b :: m, h => by
    have hb := h b (by simp)
    subst hb
    exact ids_no (l := l) (m := m) fun b hb => h b (by simp [hb])
theorem below_none (h : findI l s < 0) : idsOf l (belowL l s) = [] := by
  refine ids_no fun b hb => ?_
  unfold belowL reachL at hb
  obtain ⟨i, hi, rfl⟩ := List.mem_map.1 hb
  exact stepR_no (fun j _ => decide_eq_false (by omega)) _ _ (by simpa using hi)
end Go.K
end
section
namespace Go.K
open Go
theorem idx_some {α : Type} {p : α → Bool} {l : List α} (h : 0 ≤ idxOf p l) : ∃ h2 : (idxOf p l).toNat < l.length, l.find? p = some l[(idxOf p l).toNat] := by
  unfold idxOf at h ⊢
  cases hq : l.findIdx? p with
  | none => rw [hq] at h; exact absurd h (by decide)
  | some i =>
    obtain ⟨hi, hp, hn⟩ := List.findIdx?_eq_some_iff_getElem.1 hq
    exact ⟨hi, List.find?_eq_some_iff_getElem.2 ⟨hp, i, hi, rfl, fun j hj => by simpa using hn j hj⟩⟩
theorem idx_none {α : Type} {p : α → Bool} {l : List α} (h : idxOf p l < 0) : l.find? p = none := by
  have h2 := @idxOf_any α p l
  rw [decide_eq_false (by omega)] at h2
  refine List.find?_eq_none.2 fun x hx h3 => ?_
  rw [List.any_eq_true.2 ⟨x, hx, h3⟩] at h2; cases h2
end Go.K
end
section
namespace Go.K
open Go
inductive Path (l : List Ent) : Nat → Nat → Prop
  | one {i j : Nat} : i < l.length → j < l.length → hangE l i j = true → Path l i j
  | snoc {i k j : Nat} : Path l i k → k < l.length → j < l.length → hangE l k j = true → Path l i j
variable {l : List Ent}
theorem Path.lt {i j : Nat} (h : Path l i j) : i < l.length := by
  induction h with
  | one h _ _ => exact h
  | snoc _ _ _ _ ih => exact ih
theorem Path.cons {i k j : Nat} (hi : i < l.length) (h : hangE l i k = true) (hp : Path l k j) : Path l i j := by
  induction hp with
  | one h1 h2 h3 => exact (Path.one hi h1 h).snoc h1 h2 h3
  | snoc _ h2 h3 h4 ih => exact ih.snoc h2 h3 h4
theorem Path.trans {i k j : Nat} (h1 : Path l i k) (h2 : Path l k j) : Path l i j := by
  induction h2 with
  | one g1 g2 g3 => exact h1.snoc g1 g2 g3
  | snoc _ g2 g3 g4 ih => exact ih.snoc g2 g3 g4
def aboveS (l : List Ent) (t : Tx) (j : Nat) : Bool := stepR (fun i => hangs t (entD l i)) (hangE l) l.length l.length j
def belowS (l : List Ent) (id : ByteArray) (j : Nat) : Bool := stepR (fun i => decide ((i : Int) = findI l id)) (fun k i => hangE l i k) l.length l.length j
theorem aboveS_iff {i j : Nat} (hi : i < l.length) (hj : j < l.length) : aboveS l l[i].tx j = true ↔ Path l i j := by
  have hb : ∀ k, hangs l[i].tx (entD l k) = hangE l i k := fun k => by rw [hangE, entD_get hi]
  constructor
  · intro h
    exact stepR_least (p := fun j => Path l i j) (fun k hk h => .one hi hk (by rw [← hb]; exact h)) (fun k m hk hm h1 h2 => h1.snoc hk hm h2) _ _ hj h
  · have : ∀ {a m : Nat}, Path l a m → (∀ k, hangs l[i].tx (entD l k) = hangE l a k) → aboveS l l[i].tx m = true := fun {a m} hp => by
      induction hp with
      | one h1 h2 h3 => exact fun hb => stepR_base h2 ((hb _).trans h3)
      | snoc h1 h2 h3 h4 ih => exact fun hb => stepR_closed h3 h2 (ih hb) h4
    exact fun h => this h hb
theorem findI_at {j : Nat} (hn : (l.map (·.id)).Nodup) (hj : j < l.length) : findI l l[j].id = j := by
  unfold findI
  exact idxOf_hit hj (decide_eq_true rfl) (fun i hi => decide_eq_false fun e => by
    have := entD_inj hn (show i < l.length by omega) hj (by rw [entD_get (by omega), entD_get hj]; exact e)
    omega)
theorem belowS_iff {i j : Nat} (hn : (l.map (·.id)).Nodup) (hi : i < l.length) (hj : j < l.length) : belowS l l[j].id i = true ↔ i = j ∨ Path l i j := by
  have hf := findI_at hn hj
  constructor
  · intro h
    refine stepR_least (p := fun i => i = j ∨ Path l i j) (fun k hk h => .inl ?_) (fun k m hk hm h1 h2 => .inr ?_) _ _ hi h
    · have := of_decide_eq_true h; rw [hf] at this; omega
    · rcases h1 with rfl | h1
      · exact .one hm hk h2
      · exact Path.cons hm h2 h1
  · have h0 : belowS l l[j].id j = true := stepR_base hj (decide_eq_true hf.symm)
    rintro (rfl | h)
    · exact h0
    · have : ∀ {a m : Nat}, Path l a m → belowS l l[j].id m = true → belowS l l[j].id a = true := fun {a m} hp => by
        induction hp with
        | one g1 g2 g3 => exact fun h => stepR_closed (k := _) g1 g2 h g3
        | snoc h1 g2 g3 g4 ih => exact fun h => ih (stepR_closed (k := _) g2 g3 h g4)
      exact this h h0
theorem mem_mask : ∀ {l : List Ent} {m : List Bool} {s : ByteArray}, s ∈ idsOf l m ↔ ∃ i, ∃ h : i < l.length, m[i]? = some true ∧ l[i].id = s
  | [], m, s => by
    have : idsOf [] m = [] := by cases m <;> rfl
    rw [this]; simp
  | x :: l, [], s => by
    have : idsOf (x :: l) [] = [] := rfl
    rw [this]; simp
  | x :: l, b :: m, s => by
    have e : idsOf (x :: l) (b :: m) = if b then x.id :: idsOf l m else idsOf l m := rfl
    rw [e]
    constructor
    · intro h
      by_cases hb : b = true
      · rw [if_pos hb] at h
        rcases List.mem_cons.1 h with h | h
        · exact ⟨0, by simp, by simp [hb], by simp [h]⟩
        · obtain ⟨i, hi, h1, h2⟩ := mem_mask.1 h
          exact ⟨i + 1, by simp; omega, by simpa using h1, by simpa using h2⟩
      · rw [if_neg hb] at h
        obtain ⟨i, hi, h1, h2⟩ := mem_mask.1 h
        exact ⟨i + 1, by simp; omega, by simpa using h1, by simpa using h2⟩
    · rintro ⟨i, hi, h1, h2⟩
      cases i with
      | zero =>
        simp at h1 h2
        rw [if_pos h1, h2]; simp
      | succ i =>
        have h3 : s ∈ idsOf l m := mem_mask.2 ⟨i, by simpa using hi, by simpa using h1, by simpa using h2⟩
        split
        · exact List.mem_cons_of_mem _ h3
        · exact h3
theorem mem_reach {p : Nat → Bool} {j : Nat} (hn : (l.map (·.id)).Nodup) (hj : j < l.length) : l[j].id ∈ idsOf l ((List.range l.length).map p) ↔ p j = true := by
  rw [mem_mask]
  constructor
  · rintro ⟨i, hi, h1, h2⟩
    have := entD_inj hn hi hj (by rw [entD_get hi, entD_get hj]; exact h2)
    subst this
    simpa [hi] using h1
  · intro h
    exact ⟨j, hj, by simp [hj, h], rfl⟩
def inS (ids : List ByteArray) (s : ByteArray) : Bool := ids.any fun x => decide (s = x)
theorem inS_iff {ids : List ByteArray} {s : ByteArray} : inS ids s = true ↔ s ∈ ids := by
  unfold inS
  rw [List.any_eq_true]
  exact ⟨fun ⟨y, h1, h2⟩ => by rw [of_decide_eq_true h2]; exact h1, fun h => ⟨s, h, decide_eq_true rfl⟩⟩
theorem both_eq {i j : Nat} (hn : (l.map (·.id)).Nodup) (hi : i < l.length) (hj : j < l.length) (hne : l[i].id ≠ l[j].id) : inS (idsOf l (aboveL l l[i].tx)) l[j].id = inS (idsOf l (belowL l l[j].id)) l[i].id := by
  rw [Bool.eq_iff_iff, inS_iff, inS_iff]
  have h1 : l[j].id ∈ idsOf l (aboveL l l[i].tx) ↔ aboveS l l[i].tx j = true := mem_reach hn hj
  have h2 : l[i].id ∈ idsOf l (belowL l l[j].id) ↔ belowS l l[j].id i = true := mem_reach hn hi
  rw [h1, h2, aboveS_iff hi hj, belowS_iff hn hi hj]
  constructor
  · exact .inr
  · rintro (rfl | h)
    · exact absurd rfl hne
    · exact h
theorem both_tr {i j : Nat} (hn : (l.map (·.id)).Nodup) (hi : i < l.length) (hj : j < l.length) (h : inS (idsOf l (aboveL l l[i].tx)) l[j].id = true) : ∀ s ∈ idsOf l (aboveL l l[j].tx), inS (idsOf l (aboveL l l[i].tx)) s = true := by
  intro s hs
  have h1 : l[j].id ∈ idsOf l (aboveL l l[i].tx) ↔ aboveS l l[i].tx j = true := mem_reach hn hj
  rw [inS_iff, h1, aboveS_iff hi hj] at h
  obtain ⟨k, hk, _, rfl⟩ := mem_mask.1 hs
  have h2 : l[k].id ∈ idsOf l (aboveL l l[j].tx) ↔ aboveS l l[j].tx k = true := mem_reach hn hk
  have h3 : l[k].id ∈ idsOf l (aboveL l l[i].tx) ↔ aboveS l l[i].tx k = true := mem_reach hn hk
  rw [h2, aboveS_iff hj hk] at hs
  rw [inS_iff, h3, aboveS_iff hi hk]
  exact h.trans hs
theorem both_self {i : Nat} (hn : (l.map (·.id)).Nodup) (hi : i < l.length) : inS (idsOf l (belowL l l[i].id)) l[i].id = true := by
  have h2 : l[i].id ∈ idsOf l (belowL l l[i].id) ↔ belowS l l[i].id i = true := mem_reach hn hi
  rw [inS_iff, h2, belowS_iff hn hi hi]
  exact .inl rfl
end Go.K
end
section
namespace Go.K
open Go
def upI (q j : Nat) : Nat := if j < q then j else j + 1
def dnI (q i : Nat) : Nat := if i < q then i else i - 1
theorem upI_dn {q i : Nat} (h : i ≠ q) : upI q (dnI q i) = i := by unfold upI dnI; split <;> (try split) <;> omega
theorem upI_lt {q j n : Nat} (h : j < n - 1) : upI q j < n := by unfold upI; split <;> omega
theorem dnI_lt {q i n : Nat} (hi : i < n) (hq : q < n) (h : i ≠ q) : dnI q i < n - 1 := by unfold dnI; split <;> omega
/-- Without one from which nothing else is reached, all else is reached as before. -/
theorem reach_less {base base' : Nat → Bool} {edge edge' : Nat → Nat → Bool} {n q : Nat} (hq : q < n) (hb : ∀ j, j < n - 1 → base' j = base (upI q j)) (he : ∀ k j, k < n - 1 → j < n - 1 → edge' k j = edge (upI q k) (upI q j))
    (ho : ∀ i, i < n → i ≠ q → stepR base edge n n q = true → edge q i = false) {j : Nat} (hj : j < n - 1) : stepR base' edge' (n - 1) (n - 1) j = stepR base edge n n (upI q j) := by
  rw [Bool.eq_iff_iff]
  constructor
  · intro h
    refine stepR_least (p := fun j => stepR base edge n n (upI q j) = true) (fun i hi h => ?_) (fun k i hk hi h1 h2 => ?_) _ _ hj h
    · exact stepR_base (upI_lt hi) (by rw [← hb i hi]; exact h)
    · exact stepR_closed (upI_lt hi) (upI_lt hk) h1 (by rw [← he k i hk hi]; exact h2)
  · intro h
    have := stepR_least (base := base) (edge := edge) (n := n) (p := fun i => stepR base edge n n i = true ∧ (i ≠ q → stepR base' edge' (n - 1) (n - 1) (dnI q i) = true)) (fun i hi h => ⟨stepR_base hi h, fun hne => ?_⟩) (fun k i hk hi h1 h2 => ⟨stepR_closed hi hk h1.1 h2, fun hne => ?_⟩) _ _ (upI_lt hj) h
    · have h1 := this.2 (by unfold upI; split <;> omega)
      have e : dnI q (upI q j) = j := by unfold dnI upI; split <;> (try split) <;> omega
      rwa [e] at h1
    · have hl := dnI_lt hi hq hne
      exact stepR_base hl (by rw [hb _ hl, upI_dn hne]; exact h)
    · by_cases hkq : k = q
      · subst hkq
        rw [ho i hi hne h1.1] at h2; cases h2
      · have hl := dnI_lt hi hq hne
        have hl2 := dnI_lt hk hq hkq
        exact stepR_closed hl hl2 (h1.2 hkq) (by rw [he _ _ hl2 hl, upI_dn hne, upI_dn hkq]; exact h2)
theorem reachL_less {base base' : Nat → Bool} {edge edge' : Nat → Nat → Bool} {n q : Nat} (hq : q < n) (hb : ∀ j, j < n - 1 → base' j = base (upI q j)) (he : ∀ k j, k < n - 1 → j < n - 1 → edge' k j = edge (upI q k) (upI q j))
    (ho : ∀ i, i < n → i ≠ q → stepR base edge n n q = true → edge q i = false) : reachL base' edge' (n - 1) = (reachL base edge n).eraseIdx q := by
  apply List.ext_getElem
  · rw [reachL_length, List.length_eraseIdx, reachL_length, if_pos hq]
  · intro j h1 h2
    rw [reachL_length] at h1
    have e := reach_less hq hb he ho h1
    rw [List.getElem_eraseIdx]
    simp only [reachL, List.getElem_map, List.getElem_range]
    rw [e]
    unfold upI
    split <;> rfl
theorem cntB_erase : ∀ {m : List Bool} {q : Nat} (h : q < m.length), cntB (m.eraseIdx q) = cntB m - (if m[q] then 1 else 0)
  | b :: m, 0, _ => by simp only [List.eraseIdx_cons_zero, List.getElem_cons_zero, cntB]; omega
  | b :: m, q + 1, h => by
    have := cntB_erase (m := m) (q := q) (by simpa using h)
    simp only [List.eraseIdx_cons_succ, List.getElem_cons_succ, cntB]; omega
theorem szOf_erase : ∀ {l : List Ent} {m : List Bool} {q : Nat} (hl : q < l.length) (h : q < m.length), szOf (l.eraseIdx q) (m.eraseIdx q) = szOf l m - (if m[q] then l[q].size else 0)
  | x :: l, b :: m, 0, _, _ => by simp only [List.eraseIdx_cons_zero, List.getElem_cons_zero, szOf]; omega
  | x :: l, b :: m, q + 1, hl, h => by
    have := szOf_erase (l := l) (m := m) (q := q) (by simpa using hl) (by simpa using h)
    simp only [List.eraseIdx_cons_succ, List.getElem_cons_succ, szOf]; omega
theorem idsOf_erase : ∀ {l : List Ent} {m : List Bool} {q : Nat} (_ : q < l.length) (h : q < m.length), m[q] = false → idsOf (l.eraseIdx q) (m.eraseIdx q) = idsOf l m
  | x :: l, b :: m, 0, _, _, hb => by simp only [List.getElem_cons_zero] at hb; subst hb; simp [idsOf]
  | x :: l, b :: m, q + 1, hl, h, hb => by
    have := idsOf_erase (l := l) (m := m) (q := q) (by simpa using hl) (by simpa using h) (by simpa using hb)
    simp only [List.eraseIdx_cons_succ, idsOf, this]
theorem entD_erase {l : List Ent} {q j : Nat} (h : j < l.length - 1) : entD (l.eraseIdx q) j = entD l (upI q j) := by
  unfold entD
  rw [List.getD_eq_getElem?_getD, List.getD_eq_getElem?_getD, List.getElem?_eraseIdx]
  unfold upI
  split <;> rfl
theorem findI_iff {l : List Ent} (hn : (l.map (·.id)).Nodup) {j : Nat} (hj : j < l.length) (s : ByteArray) : ((j : Int) = findI l s) ↔ l[j].id = s := by
  constructor
  · intro h
    have h0 : 0 ≤ findI l s := by omega
    obtain ⟨h2, h3⟩ := idx_some (p := fun x : Ent => decide (x.id = s)) (l := l) h0
    have h4 := of_decide_eq_true (List.find?_some (p := fun x : Ent => decide (x.id = s)) h3)
    have e : (findI l s).toNat = j := by omega
    have e2 : l[(findI l s).toNat]'h2 = l[j] := by congr 1
    rw [← h4, ← e2]; rfl
  · rintro rfl
    exact (findI_at hn hj).symm
theorem fits_less {l : List Ent} {t : Tx} {q : Nat} (hn : (l.map (·.id)).Nodup) (hs : ∀ x ∈ l, 0 ≤ x.size) (hq : q < l.length) (ha : hangs t l[q] = false) (hb : (idsOf l (belowL l l[q].id)).length ≤ 1) (h : fitsL l t = 0) : fitsL (l.eraseIdx q) t = 0 := by
  have hn' : ((l.eraseIdx q).map (·.id)).Nodup := ((List.eraseIdx_sublist l q).map _).nodup hn
  have hlen : (l.eraseIdx q).length = l.length - 1 := by rw [List.length_eraseIdx, if_pos hq]
  -- nothing else hangs on it
  have hno : ∀ i, i < l.length → i ≠ q → hangE l i q = false := by
    intro i hi hne
    by_cases e : hangE l i q = true
    · have h1 : belowS l l[q].id q = true := (belowS_iff hn hq hq).2 (.inl rfl)
      have h2 : belowS l l[q].id i = true := (belowS_iff hn hi hq).2 (.inr (.one hi hq e))
      have g1 : l[q].id ∈ idsOf l (belowL l l[q].id) := (mem_reach hn hq).2 h1
      have g2 : l[i].id ∈ idsOf l (belowL l l[q].id) := (mem_reach hn hi).2 h2
      match hL : idsOf l (belowL l l[q].id), hb with
      | [], _ => rw [hL] at g1; cases g1
      | [a], _ =>
        rw [hL, List.mem_singleton] at g1 g2
        have := entD_inj hn hi hq (by rw [entD_get hi, entD_get hq, g1, g2])
        exact absurd this hne
    · simpa using e
  have haq : aboveS l t q = false := by
    by_cases e : aboveS l t q = true
    · have := stepR_least (p := fun i => i ≠ q) (fun i hi h1 e => by subst e; rw [entD_get hi, ha] at h1; cases h1) (fun k i hk hi h1 h2 e => by subst e; rw [hno k hk h1] at h2; cases h2) _ _ hq e
      exact absurd rfl this
    · simpa using e
  have hA : aboveL (l.eraseIdx q) t = (aboveL l t).eraseIdx q := by
    unfold aboveL
    rw [hlen]
    refine reachL_less hq (fun j hj => ?_) (fun k j hk hj => ?_) (fun i hi hne h1 => ?_)
    · rw [entD_erase hj]
    · unfold hangE; rw [entD_erase hj, entD_erase hk]
    · unfold aboveS at haq; rw [haq] at h1; cases h1
  have hal : (aboveL l t).length = l.length := by unfold aboveL; rw [reachL_length]
  have hAq : (aboveL l t)[q]'(by omega) = false := by
    unfold aboveL reachL
    rw [List.getElem_map, List.getElem_range]; exact haq
  have hids : idsOf (l.eraseIdx q) (aboveL (l.eraseIdx q) t) = idsOf l (aboveL l t) := by rw [hA]; exact idsOf_erase hq (by omega) hAq
  have hw1 : ∀ z c s, wiP (l.eraseIdx q) (idsOf (l.eraseIdx q) (aboveL (l.eraseIdx q) t)) z c s = wiP l (idsOf l (aboveL l t)) z c s := by
    intro z c s
    rw [wiP_mask hn' (by unfold aboveL; rw [reachL_length]), wiP_mask hn hal.symm, hA, cntB_erase (by omega), szOf_erase hq (by omega), hAq]
    simp
  have hw2 : ∀ z c s, hoP l (idsOf l (aboveL l t)) z c s = true → hoP (l.eraseIdx q) (idsOf (l.eraseIdx q) (aboveL (l.eraseIdx q) t)) z c s = true := by
    intro z c s hh
    rw [hids]
    unfold hoP at hh ⊢
    rw [List.all_eq_true] at hh ⊢
    intro y hy
    have h1 := hh y hy
    obtain ⟨i, hi, h2, h3, rfl⟩ := mem_idsOf hy
    have hiq : i ≠ q := fun e => by subst e; rw [hAq] at h3; cases h3
    have hB : belowL (l.eraseIdx q) l[i].id = (belowL l l[i].id).eraseIdx q := by
      unfold belowL
      rw [hlen]
      refine reachL_less hq (fun j hj => ?_) (fun k j hk hj => ?_) (fun k hk hne h1 => hno k hk hne)
      · have hu := upI_lt (q := q) hj
        have e1 := findI_iff hn' (j := j) (by omega) l[i].id
        have e2 := findI_iff hn hu l[i].id
        have e3 := entD_erase (l := l) (q := q) hj
        rw [entD_get (by omega), entD_get hu] at e3
        rw [e3] at e1
        exact decide_eq_decide.2 (e1.trans e2.symm)
      · unfold hangE; rw [entD_erase hj, entD_erase hk]
    have hbl : (belowL l l[i].id).length = l.length := by unfold belowL; rw [reachL_length]
    rw [wiP_mask hn hbl.symm] at h1
    rw [wiP_mask hn' (by unfold belowL; rw [reachL_length]), hB, cntB_erase (by omega), szOf_erase hq (by omega)]
    have hz := hs l[q] (List.getElem_mem hq)
    rw [Bool.and_eq_true, decide_eq_true_eq, decide_eq_true_eq] at h1 ⊢
    split <;> omega
  unfold fitsL at h ⊢
  rw [hw1]
  split at h
  · rename_i hc; rw [if_pos hc]; exact h
  · rename_i hc; rw [if_neg hc]
    split at h
    · cases h
    · rename_i hw; rw [if_neg hw]
      split at h
      · rename_i h5; rw [if_pos (hw2 _ _ _ h5)]
      · split at h
        · rename_i h6
          split
          · rfl
          · rw [if_pos ⟨by rw [hids]; exact h6.1, h6.2.1, hw2 _ _ _ h6.2.2⟩]
        · cases h
end Go.K
end
