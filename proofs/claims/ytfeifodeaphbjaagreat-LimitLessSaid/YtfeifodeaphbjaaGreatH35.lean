/- Contracts: what hangs on what, by the reference. -/
import Derived.Test.YtfeifodeaphbjaaGreatH34
set_option linter.unusedVariables false
set_option linter.unusedSimpArgs false
section
namespace Go.Proofs.YtfeifodeaphbjaaGreat
open Go Go.K

theorem bool_flat (m : List Bool) : boolE.flat m = m.map Value.bool := by
  induction m with
  | nil => rfl
  | cons x l ih => simp only [Enc.flat, List.flatMap_cons] at ih ⊢; rw [ih]; rfl
abbrev AtB (w : World) (b : Nat) (m : List Bool) : Prop := At w b (.cells (m.map Value.bool).toArray T.bool (0, 0))
theorem AtB.sl {w : World} {b n : Nat} {m : List Bool} (h : AtB w b m) (hn : n = m.length) : SlE boolE w (.slice (some ⟨b, 0, none⟩) n n) m :=
  SlE.new (E := boolE) (by rw [bool_flat]; exact h) hn (Nat.le_refl _)
section
variable {P : Program} {d : Option Tmp} {r : KR} {K : Env → World → Prop} {ρ : Env} {w : World}
theorem zeros_bool (n : Nat) : zeros [Value.bool false] n = (List.replicate n false).map Value.bool := by
  induction n with
  | zero => rfl
  | succ n ih => rw [zeros, ih]; rfl
theorem st_mkBool {x y : Operand} {t : TypeId} {n : Nat} (hx : ev ρ x = .int .i64 (n : Nat)) (hy : ev ρ y = .int .i64 (n : Nat)) (hn : n ≤ 1000000)
    (k : ∀ b w', Ext w w' → At w' b (.cells ((List.replicate n false).map Value.bool).toArray t (0, 0)) → w.heap.size ≤ b → regK P r K (put ρ d (.slice (some ⟨b, 0, none⟩) n n)) w') : regK P (.cons ⟨d, .makeSlice t 1 1 [.bool false] x y, none⟩ r) K ρ w :=
  st_wp ⟨_, _, _, _, hx, hy, by omega, by omega, by omega, by omega, by
    rw [Int.toNat_natCast, zeros_bool]
    exact k _ _ (Ext.alloc _ _) (At.new _ _) (Nat.le_refl _)⟩
theorem st_storeB {x y : Operand} {b o : Nat} {t : TypeId} {m : List Bool} {v : Bool} (hx : ev ρ x = .pointer (some (Addr.add ⟨b, 0, none⟩ (o * 1)))) (hy : ev ρ y = .bool v) (h : At w b (.cells (m.map Value.bool).toArray t (0, 0))) (hl : o < m.length)
    (k : ∀ w', Chg [b] w w' → At w' b (.cells ((m.set o v).map Value.bool).toArray t (0, 0)) → regK P r K (put ρ d undef) w') : regK P (.cons ⟨d, .store x y, none⟩ r) K ρ w :=
  st_store (o := o) (by rw [hx, Nat.mul_one]) hy rfl h (by simpa using hl) fun w' c a => k w' c (by rw [List.map_set]; exact a)
end
attribute [local irreducible] regK codeK retK KOp.wp K.Spec u32 leS vnS str zero32 sha2 encT idT sizeT checkT grantB idN hangs stepR
/-- So far in a round. -/
structure RInv (base : Nat → Bool) (edge : Nat → Nat → Bool) (n r i : Nat) (m : List Bool) : Prop where
  mks : Marks base edge n m
  all : ∀ j, j < n → stepR base edge n r j = true → has m j
  now : ∀ j, j < i → j < n → stepR base edge n (r + 1) j = true → has m j
section
variable {base : Nat → Bool} {edge : Nat → Nat → Bool} {n r i : Nat} {m : List Bool}
theorem RInv.zero (h : Marks base edge n m) : RInv base edge n 0 0 m := ⟨h, fun j _ hj => (by unfold stepR at hj; cases hj), fun j hj => absurd hj (by omega)⟩
theorem RInv.round (h : RInv base edge n r i m) (hi : n ≤ i) : RInv base edge n (r + 1) 0 m := ⟨h.mks, fun j hj hs => h.now j (by omega) hj hs, fun j hj => absurd hj (by omega)⟩
theorem RInv.set {j : Nat} {x : Bool} (h : RInv base edge n r i m) (hj : j < m.length) (hx : x = true → stepR base edge n n j = true) : RInv base edge n r i (m.set j (m[j] || x)) :=
  ⟨h.mks.set hj hx, fun q hq hs => has_set hj (h.all q hq hs), fun q hq hn hs => has_set hj (h.now q hq hn hs)⟩
theorem RInv.next (h : RInv base edge n r i m) (hb : base i = true → has m i) (he : ∀ k, k < n → stepR base edge n r k = true → edge k i = true → has m i) : RInv base edge n r (i + 1) m :=
  ⟨h.mks, h.all, fun q hq hn hs => by
    by_cases e : q = i
    · subst e
      rcases stepR_succ.1 hs with h1 | ⟨k, h1, h2, h3⟩
      · exact hb h1
      · exact he k h1 h2 h3
    · exact h.now q (by omega) hn hs⟩
theorem has_get {j : Nat} (h : has m j) (hj : j < m.length) : m[j] = true := by
  unfold has at h; rw [List.getElem?_eq_getElem hj] at h; simpa using h
end
theorem marks_new (base : Nat → Bool) (edge : Nat → Nat → Bool) (n : Nat) : Marks base edge n (List.replicate n false) := ⟨by simp, fun i h hm => by simp at hm⟩
set_option maxHeartbeats 2000000 in
theorem above_spec {M : List Nat} {v : Value} {cs : List Value} {l : List Ent} {t : Tx} (w : World) (hl : SlR entR M w v l) (ht : txR.rel M w cs t) (hs : t.Sm) (hn : l.length ≤ 1000) (hE : ∀ x ∈ l, x.tx.Sm) : K.Spec Tryz.prog F.kedgeref14_Above [v, .agg cs.toArray] w fun r w' => SlE boolE w' r (aboveL l t) ∧ Ext w w' ∧ ∀ b ∈ blkOf r, w.heap.size ≤ b := by
  have ht0 := ht
  obtain ⟨iv, ov, rfl, h1, h2, h3⟩ := ht
  have hq := hs.ins
  have hqe : ∀ x ∈ l, x.tx.ins.length ≤ 1000 := fun x hx => (hE x hx).ins
  refine s_kedgeref14_Above rfl ?_
  unfold k_kedgeref14_Above
  refine ox ?_
  repeat' (first|(first|refine go1 ?_|refine zg (fun _ _=>?_)|refine zi (fun _ _=>?_))|(first|refine zD rfl rfl (fun bp wp xp ap rp hp0=>?_)|refine zE (fun _=>rfl) rfl rfl rfl (fun bq wq xq aq rq hq0=>?_))|refine zL rfl (fun h => ?_) (fun h => ?_)|refine zK (d := some 38) rfl (fun hmi => ?_) (fun hmi => ?_)|refine zK (d := some 64) rfl (fun hmi => ?_) (fun hmi => ?_)|refine zK (d := some 69) rfl (fun hmk => ?_) (fun hmk => ?_)|(refine zG (E := entR) (M := M) (l := l) rfl (SlR.ext hl (by exact fx)) ?_)|(refine st_mkBool rfl rfl (by omega) (fun b w2 x2 a2 hb2 => ?_))|(refine c_loopV (fun (p : Nat × List Bool) w' => Ext wp w' ∧ p.1 ≤ l.length + 1 ∧ AtB w' b p.2 ∧ RInv (fun i => hangs t (entD l i)) (hangE l) l.length p.1 0 p.2) (fun p => [(0, v), (3, .pointer (some ⟨bp, 0, none⟩)), (5, .slice (some ⟨b, 0, none⟩) l.length l.length), (6, .int .i64 p.1)]) (fun p => l.length + 1 - p.1) (0, List.replicate l.length false) ⟨rfl, rfl, rfl, rfl, trivial⟩ ⟨by exact fx, by simp, a2, RInv.zero (marks_new _ _ _)⟩ ?_; rintro ⟨r, m⟩ ρ w3 ⟨x3, hr, a3, hI⟩; simp only at hr a3 hI; dsimp only)|(refine c_loopV (fun (p : Nat × List Bool) w' => Ext wp w' ∧ p.1 ≤ l.length ∧ AtB w' b p.2 ∧ RInv (fun i => hangs t (entD l i)) (hangE l) l.length r p.1 p.2) (fun p => [(0, v), (3, .pointer (some ⟨bp, 0, none⟩)), (5, .slice (some ⟨b, 0, none⟩) l.length l.length), (6, .int .i64 r), (7, .int .i64 p.1)]) (fun p => l.length - p.1) (0, m) ⟨rfl, rfl, rfl, rfl, rfl, trivial⟩ ⟨by exact fx, by simp, by focus (repeat (first | assumption | (apply At.ext; assumption))), hI⟩ ?_; clear a3 hI x3; clear m; rintro ⟨i, m⟩ ρ4 w4 ⟨x4, hi, a4, hI⟩; simp only at hi a4 hI; dsimp only)|(refine st_elemR (d := some 28) (E := entR) (M := M) rfl rfl (n := i) (l := l) (SlR.ext hl (by exact fx)) rfl (by omega) (fun ad cs r5 he => ?_); have hil : i < l.length := (by omega))|(refine st_lN0 (d := some 29) (n := 7) (l := cs) rfl r5 (by rw [entR.len he]; exact Nat.le_refl _) (List.take_of_length_le (by rw [entR.len he]; exact Nat.le_refl _)) ?_)|(refine zC rfl (hangs_spec (M := M) (cs := txCs t iv ov) (x := l[i]) _ (by exact fx) he (by omega)) ?_; rintro _ w5 ⟨rfl, x5⟩)|(refine st_elemE (d := some 35) (E := boolE) rfl rfl (n := i) (l := m) (AtB.sl (by focus (repeat (first | assumption | (apply At.ext; assumption)))) (hI.mks.len).symm) rfl (by have := hI.mks.len; omega) (fun ad r6 => ?_))|(refine st_index (d := some 40) rfl rfl (by omega) ?_))
  · refine st_storeB (m := m) (o := i) (v := (m[i]'(by have := hI.mks.len; omega) || hangs t l[i])) rfl (congrArg Value.bool (by rw [hmi]; rfl)) (by focus (repeat (first | assumption | (apply At.ext; assumption)))) (by have := hI.mks.len; omega) (fun w6 c6 a6 => ?_)
    have hml := hI.mks.len
    have x6 : Unit → Ext wp w6 := fun _ => (Ext.chg (w := wp) (by exact fx) c6).mono (by intro y hy; simp at hy; right; have := x2.size; omega)
    have hJ := hI.set (j := i) (x := hangs t l[i]) (by omega) (fun hh => stepR_base hil (by rw [entD_get hil]; exact hh))
    have hB : (hangs t (entD l i) = true → has (m.set i (m[i] || hangs t l[i])) i) := fun hh => has_new (by omega) (by rw [entD_get hil] at hh; exact hh)
    revert a6 hJ hB
    generalize m.set i (m[i] || hangs t l[i]) = m6
    intro a6 hJ hB
    repeat' (first|(first|refine go1 ?_|refine zg (fun _ _=>?_)|refine zi (fun _ _=>?_))|refine zL rfl (fun h => ?_) (fun h => ?_)|refine zK (d := some 64) rfl (fun hmi => ?_) (fun hmi => ?_)|refine zK (d := some 69) rfl (fun hmk => ?_) (fun hmk => ?_)|(refine zG (E := entR) (M := M) (l := l) rfl (SlR.ext hl (by exact fx)) ?_)|(refine c_loopV (fun (p : Nat × List Bool) w' => Ext wp w' ∧ p.1 ≤ l.length ∧ AtB w' b p.2 ∧ RInv (fun i => hangs t (entD l i)) (hangE l) l.length r i p.2 ∧ (hangs t (entD l i) = true → has p.2 i) ∧ ∀ k, k < p.1 → stepR (fun i => hangs t (entD l i)) (hangE l) l.length r k = true → hangE l k i = true → has p.2 i) (fun p => [(0, v), (3, .pointer (some ⟨bp, 0, none⟩)), (5, .slice (some ⟨b, 0, none⟩) l.length l.length), (6, .int .i64 r), (7, .int .i64 i), (9, .int .i64 p.1)]) (fun p => l.length - p.1) (0, m6) ⟨rfl, rfl, rfl, rfl, rfl, rfl, trivial⟩ ⟨x6 (), by simp, a6, hJ, hB, fun k hk => absurd hk (by simp)⟩ ?_; rintro ⟨k, m7⟩ ρ7 w7 ⟨x7, hk, a7, hK, hB7, hE7⟩; simp only at hk a7 hK hB7 hE7; dsimp only; have hml7 := hK.mks.len)|(refine st_elemR (d := some 49) (E := entR) (M := M) rfl rfl (n := k) (l := l) (SlR.ext hl (by exact fx)) rfl (by omega) (fun ad cs r5 he => ?_); obtain ⟨iv2, ov2, rfl, g1, g2, g3⟩ := he; have hkl : k < l.length := (by omega))|(refine st_elemR (d := some 54) (E := entR) (M := M) rfl rfl (n := i) (l := l) (SlR.ext hl (by exact fx)) rfl hil (fun ad cs r8 he => ?_))|(refine st_lN0 (d := some 55) (n := 7) (l := cs) rfl r8 (by rw [entR.len he]; exact Nat.le_refl _) (List.take_of_length_le (by rw [entR.len he]; exact Nat.le_refl _)) ?_)|(refine zC rfl (hangs_spec (M := M) (cs := txCs l[k].tx iv2 ov2) (t := l[k].tx) (x := l[i]) _ ⟨iv2, ov2, rfl, by exact fx, by exact fx, g3.1, g3.2.1⟩ he (by have := hqe _ (List.getElem_mem hkl); omega)) ?_; rintro _ w8 ⟨rfl, x8⟩)|(refine st_elemE (d := some 61) (E := boolE) rfl rfl (n := i) (l := m7) (AtB.sl (by focus (repeat (first | assumption | (apply At.ext; assumption)))) hml7.symm) rfl (by omega) (fun ad r6 => ?_))|(refine st_elemE (d := some 66) (E := boolE) rfl rfl (n := k) (l := m7) (AtB.sl (by focus (repeat (first | assumption | (apply At.ext; assumption)))) hml7.symm) rfl (by omega) (fun ad r6 => ?_))|(refine st_index (d := some 72) rfl rfl (by omega) ?_)|(refine st_storeB (m := m7) (o := i) (v := (m7[i]'(by omega) || (m7[k]'(by omega) && hangs l[k].tx l[i]))) rfl (congrArg Value.bool (by first | (rw [hmi]; rfl) | (rw [hmi, hmk]; rfl) | (rw [hmi, hmk]; simp))) (by focus (repeat (first | assumption | (apply At.ext; assumption)))) (by omega) (fun w9 c9 a9 => ?_)))
    all_goals first
      | (have hx7 : Unit → Ext wp w9 := fun _ => (Ext.chg (w := wp) (by exact fx) c9).mono (by intro y hy; simp at hy; right; have := x2.size; omega)
         have he : hangE l k i = hangs l[k].tx l[i] := by rw [hangE, entD_get hkl, entD_get hil]
         have hx : (m7[k] && hangs l[k].tx l[i]) = true → stepR (fun i => hangs t (entD l i)) (hangE l) l.length l.length i = true := fun hh => by
           rw [Bool.and_eq_true] at hh
           exact stepR_closed hil hkl (hK.mks.sound k (by omega) hh.1) (by rw [he]; exact hh.2)
         exact ⟨(k + 1, _), ⟨rfl, rfl, rfl, rfl, rfl, rfl, trivial⟩, ⟨hx7 (), by simp; omega, a9, hK.set (by omega) hx, fun hh => has_set (by omega) (hB7 hh), fun q hq hs2 hh => by
           by_cases e : q = k
           · subst e
             exact has_new (by omega) (by rw [Bool.and_eq_true]; exact ⟨has_get (hK.all q hkl hs2) (by omega), by rw [← he]; exact hh⟩)
           · exact has_set (by omega) (hE7 q (by simp at hq; omega) hs2 hh)⟩, by simp; omega⟩)
      | exact ⟨(i + 1, m7), ⟨rfl, rfl, rfl, rfl, rfl, trivial⟩, ⟨by exact fx, by simp; omega, by focus (repeat (first | assumption | (apply At.ext; assumption))), hK.next hB7 (fun q hq => hE7 q (by omega))⟩, by simp; omega⟩
      | trace_state
  · refine st_storeB (m := m) (o := i) (v := (m[i]'(by have := hI.mks.len; omega) || hangs t l[i])) rfl (congrArg Value.bool (by rw [hmi]; rfl)) (by focus (repeat (first | assumption | (apply At.ext; assumption)))) (by have := hI.mks.len; omega) (fun w6 c6 a6 => ?_)
    have hml := hI.mks.len
    have x6 : Unit → Ext wp w6 := fun _ => (Ext.chg (w := wp) (by exact fx) c6).mono (by intro y hy; simp at hy; right; have := x2.size; omega)
    have hJ := hI.set (j := i) (x := hangs t l[i]) (by omega) (fun hh => stepR_base hil (by rw [entD_get hil]; exact hh))
    have hB : (hangs t (entD l i) = true → has (m.set i (m[i] || hangs t l[i])) i) := fun hh => has_new (by omega) (by rw [entD_get hil] at hh; exact hh)
    revert a6 hJ hB
    generalize m.set i (m[i] || hangs t l[i]) = m6
    intro a6 hJ hB
    repeat' (first|(first|refine go1 ?_|refine zg (fun _ _=>?_)|refine zi (fun _ _=>?_))|refine zL rfl (fun h => ?_) (fun h => ?_)|refine zK (d := some 64) rfl (fun hmi => ?_) (fun hmi => ?_)|refine zK (d := some 69) rfl (fun hmk => ?_) (fun hmk => ?_)|(refine zG (E := entR) (M := M) (l := l) rfl (SlR.ext hl (by exact fx)) ?_)|(refine c_loopV (fun (p : Nat × List Bool) w' => Ext wp w' ∧ p.1 ≤ l.length ∧ AtB w' b p.2 ∧ RInv (fun i => hangs t (entD l i)) (hangE l) l.length r i p.2 ∧ (hangs t (entD l i) = true → has p.2 i) ∧ ∀ k, k < p.1 → stepR (fun i => hangs t (entD l i)) (hangE l) l.length r k = true → hangE l k i = true → has p.2 i) (fun p => [(0, v), (3, .pointer (some ⟨bp, 0, none⟩)), (5, .slice (some ⟨b, 0, none⟩) l.length l.length), (6, .int .i64 r), (7, .int .i64 i), (9, .int .i64 p.1)]) (fun p => l.length - p.1) (0, m6) ⟨rfl, rfl, rfl, rfl, rfl, rfl, trivial⟩ ⟨x6 (), by simp, a6, hJ, hB, fun k hk => absurd hk (by simp)⟩ ?_; rintro ⟨k, m7⟩ ρ7 w7 ⟨x7, hk, a7, hK, hB7, hE7⟩; simp only at hk a7 hK hB7 hE7; dsimp only; have hml7 := hK.mks.len)|(refine st_elemR (d := some 49) (E := entR) (M := M) rfl rfl (n := k) (l := l) (SlR.ext hl (by exact fx)) rfl (by omega) (fun ad cs r5 he => ?_); obtain ⟨iv2, ov2, rfl, g1, g2, g3⟩ := he; have hkl : k < l.length := (by omega))|(refine st_elemR (d := some 54) (E := entR) (M := M) rfl rfl (n := i) (l := l) (SlR.ext hl (by exact fx)) rfl hil (fun ad cs r8 he => ?_))|(refine st_lN0 (d := some 55) (n := 7) (l := cs) rfl r8 (by rw [entR.len he]; exact Nat.le_refl _) (List.take_of_length_le (by rw [entR.len he]; exact Nat.le_refl _)) ?_)|(refine zC rfl (hangs_spec (M := M) (cs := txCs l[k].tx iv2 ov2) (t := l[k].tx) (x := l[i]) _ ⟨iv2, ov2, rfl, by exact fx, by exact fx, g3.1, g3.2.1⟩ he (by have := hqe _ (List.getElem_mem hkl); omega)) ?_; rintro _ w8 ⟨rfl, x8⟩)|(refine st_elemE (d := some 61) (E := boolE) rfl rfl (n := i) (l := m7) (AtB.sl (by focus (repeat (first | assumption | (apply At.ext; assumption)))) hml7.symm) rfl (by omega) (fun ad r6 => ?_))|(refine st_elemE (d := some 66) (E := boolE) rfl rfl (n := k) (l := m7) (AtB.sl (by focus (repeat (first | assumption | (apply At.ext; assumption)))) hml7.symm) rfl (by omega) (fun ad r6 => ?_))|(refine st_index (d := some 72) rfl rfl (by omega) ?_)|(refine st_storeB (m := m7) (o := i) (v := (m7[i]'(by omega) || (m7[k]'(by omega) && hangs l[k].tx l[i]))) rfl (congrArg Value.bool (by first | (rw [hmi]; rfl) | (rw [hmi, hmk]; rfl) | (rw [hmi, hmk]; simp))) (by focus (repeat (first | assumption | (apply At.ext; assumption)))) (by omega) (fun w9 c9 a9 => ?_)))
    all_goals first
      | (have hx7 : Unit → Ext wp w9 := fun _ => (Ext.chg (w := wp) (by exact fx) c9).mono (by intro y hy; simp at hy; right; have := x2.size; omega)
         have he : hangE l k i = hangs l[k].tx l[i] := by rw [hangE, entD_get hkl, entD_get hil]
         have hx : (m7[k] && hangs l[k].tx l[i]) = true → stepR (fun i => hangs t (entD l i)) (hangE l) l.length l.length i = true := fun hh => by
           rw [Bool.and_eq_true] at hh
           exact stepR_closed hil hkl (hK.mks.sound k (by omega) hh.1) (by rw [he]; exact hh.2)
         exact ⟨(k + 1, _), ⟨rfl, rfl, rfl, rfl, rfl, rfl, trivial⟩, ⟨hx7 (), by simp; omega, a9, hK.set (by omega) hx, fun hh => has_set (by omega) (hB7 hh), fun q hq hs2 hh => by
           by_cases e : q = k
           · subst e
             exact has_new (by omega) (by rw [Bool.and_eq_true]; exact ⟨has_get (hK.all q hkl hs2) (by omega), by rw [← he]; exact hh⟩)
           · exact has_set (by omega) (hE7 q (by simp at hq; omega) hs2 hh)⟩, by simp; omega⟩)
      | exact ⟨(i + 1, m7), ⟨rfl, rfl, rfl, rfl, rfl, trivial⟩, ⟨by exact fx, by simp; omega, by focus (repeat (first | assumption | (apply At.ext; assumption))), hK.next hB7 (fun q hq => hE7 q (by omega))⟩, by simp; omega⟩
      | trace_state
  all_goals first
    | exact ⟨(r + 1, m), ⟨rfl, rfl, rfl, rfl, trivial⟩, ⟨by exact fx, by simp; omega, by focus (repeat (first | assumption | (apply At.ext; assumption))), hI.round (by omega)⟩, by simp; omega⟩
    | skip
  · have hd := hI.mks.done (fun q hq hs2 => hI.all q hq (stepR_le hs2 (by omega)))
    subst hd
    exact x_ret rfl ⟨AtB.sl (by focus (repeat (first | assumption | (apply At.ext; assumption)))) (reachL_length _ _ _).symm, by exact fx, by intro y hy; have hy : y ∈ [b] := hy; simp at hy; have := xp.size; omega⟩
end Go.Proofs.YtfeifodeaphbjaaGreat
end
