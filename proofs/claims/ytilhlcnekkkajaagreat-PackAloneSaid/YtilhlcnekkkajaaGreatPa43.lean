/- The engine, part 21: regions of many orders: what is done first, in any order; what is done last, in its own. Contracts: scores, the worst entry, and trimming, by the document. The walk of TrimScores. The walk of TrimParts. The engine, part 24: what lies in a block by what it holds: a transaction's data aren't in a block that holds a transaction. -/
import Derived.Test.YtilhlcnekkkajaaGreatPa35
set_option linter.unusedVariables false
set_option linter.unusedSimpArgs false
section
namespace Go.K
open Go
variable {P : Program}
def krOf : List (KI × List Nat) → KR
  | [] => .nil
  | x :: l => .cons x.1 (krOf l)
/-- Each of the last ones waits for all ahead of it. -/
def fullDeps : Nat → List (KI × List Nat) → Bool
  | _, [] => true
  | i, (_, ds) :: l => (List.range i).all (fun j => ds.contains j) && fullDeps (i + 1) l
theorem full_at : ∀ (l : List (KI × List Nat)) (k : Nat), fullDeps k l = true → ∀ (j : Nat) (h : j < l.length), ∀ i, i < k + j → i ∈ (l[j]).2
  | [], _, _, j, h => absurd h (by simp)
  | (k0, ds) :: l, k, hf, j, h => by
    simp only [fullDeps, Bool.and_eq_true, List.all_eq_true, List.mem_range] at hf
    cases j with
    | zero => exact fun i hi => by simpa using hf.1 i hi
    | succ j =>
      intro i hi
      exact full_at l (k + 1) hf.2 j (by simpa using h) i (by omega)
theorem any_mono {I I' : (Nat → Bool) → Env → World → Prop} {S : Nat → Bool} {i : Nat} {k : KI} {ρ : Env} {w : World} (hI : ∀ v w', I (setS S i) (put ρ k.dst v) w' → I' (setS S i) (put ρ k.dst v) w') (h : anyStep P I S i k ρ w) : anyStep P I' S i k ρ w := by
  unfold anyStep at h ⊢
  split
  · rename_i hw
    rw [if_pos hw] at h
    exact wp_mono' hI h
  · rename_i hw
    rw [if_neg hw] at h
    exact hI _ _ h
/-! What is done first: by what holds of each value, whatever came ahead. -/
def dstT (l : List (KI × List Nat)) (i : Nat) : Tmp := match l[i]? with
  | some x => x.1.dst.getD 0
  | none => 0
def withD (G : Nat → Value → World → Prop) (T : Nat → Tmp) (w : World) (Q : List (Tmp × Value) → Prop) : List Nat → List (Tmp × Value) → Prop
  | [], acc => Q acc
  | d :: ds, acc => ∀ x, G d x w → withD G T w Q ds ((T d, x) :: acc)
def eachF (P : Program) (w0 : World) (E : List (Tmp × Value)) (G : Nat → Value → World → Prop) (T : Nat → Tmp) : Nat → List (KI × List Nat) → Prop
  | _, [] => True
  | i, x :: l => (∀ ρ w, Ext w0 w → withD G T w (fun acc => regK P (.cons ⟨x.1.dst, x.1.op, none⟩ .nil) (fun ρ' w' => Ext w w' ∧ G i (ρ' (T i)) w') (upds ρ (acc ++ E)) w) x.2.eraseDups []) ∧ eachF P w0 E G T (i + 1) l
def okF (pre : List (KI × List Nat)) (E : List (Tmp × Value)) : Bool :=
  pre.all (fun x => x.1.dst.isSome && x.1.guard.isNone && x.2.all (fun d => decide (d < pre.length)) && E.all (fun e => !decide (some e.1 = x.1.dst))) && (List.range pre.length).all fun i => (List.range pre.length).all fun j => decide (i = j) || !decide (dstT pre i = dstT pre j)
theorem has_append {ρ : Env} : ∀ {a b : List (Tmp × Value)}, Has ρ a → Has ρ b → Has ρ (a ++ b)
  | [], _, _, h => h
  | _ :: _, _, h1, h2 => ⟨h1.1, has_append h1.2 h2⟩
theorem has_put {ρ : Env} {t : Tmp} {v : Value} : ∀ {E : List (Tmp × Value)}, Has ρ E → (∀ e ∈ E, e.1 ≠ t) → Has (put ρ (some t) v) E
  | [], _, _ => trivial
  | (t', v') :: E, h, hne => ⟨by show upd ρ t v t' = v'; rw [upd_ne _ _ (hne (t', v') (by simp))]; exact h.1, has_put h.2 fun e he => hne e (by simp [he])⟩
theorem withD_of {G : Nat → Value → World → Prop} {T : Nat → Tmp} {w : World} {Q : List (Tmp × Value) → Prop} {ρ : Env} : ∀ (ds : List Nat) (acc : List (Tmp × Value)), (∀ d ∈ ds, G d (ρ (T d)) w) → Has ρ acc → withD G T w Q ds acc → ∃ acc', Has ρ acc' ∧ Q acc'
  | [], acc, _, ha, h => ⟨acc, ha, h⟩
  | d :: ds, acc, hg, ha, h => withD_of ds ((T d, ρ (T d)) :: acc) (fun e he => hg e (by simp [he])) ⟨rfl, ha⟩ (h _ (hg d (by simp)))
theorem each_of {I : (Nat → Bool) → Env → World → Prop} : ∀ (l : List (KI × List Nat)) (k : Nat), (∀ (i : Nat) (h : i < l.length) (S : Nat → Bool) (ρ : Env) (w : World), S (k + i) = false → (∀ d ∈ (l[i]).2, S d = true) → I S ρ w → anyStep P I S (k + i) (l[i]).1 ρ w) → eachStep P I k l
  | [], _, _ => trivial
  | x :: l, k, h => ⟨h 0 (by simp), each_of l (k + 1) fun i hi S ρ w h1 h2 h3 => by
      have := h (i + 1) (by simpa using hi) S ρ w (by rw [show k + (i + 1) = k + 1 + i by omega]; exact h1) (by simpa using h2) h3
      rw [show k + (i + 1) = k + 1 + i by omega] at this
      exact this⟩
/-! The same, where what is new keeps apart from what was there. -/
def eachG (P : Program) (w0 : World) (E : List (Tmp × Value)) (G H : Nat → Value → World → Prop) (T : Nat → Tmp) : Nat → List (KI × List Nat) → Prop
  | _, [] => True
  | i, x :: l => (∀ ρ w, Ext w0 w → withD G T w (fun acc => regK P (.cons ⟨x.1.dst, x.1.op, none⟩ .nil) (fun ρ' w' => Ext w w' ∧ G i (ρ' (T i)) w' ∧ H i (ρ' (T i)) w) (upds ρ (acc ++ E)) w) x.2.eraseDups []) ∧ eachG P w0 E G H T (i + 1) l
theorem eachG_at {w0 : World} {E : List (Tmp × Value)} {G H : Nat → Value → World → Prop} {T : Nat → Tmp} : ∀ (l : List (KI × List Nat)) (k : Nat), eachG P w0 E G H T k l → ∀ (i : Nat) (h : i < l.length) (ρ : Env) (w : World), Ext w0 w → withD G T w (fun acc => regK P (.cons ⟨(l[i]).1.dst, (l[i]).1.op, none⟩ .nil) (fun ρ' w' => Ext w w' ∧ G (k + i) (ρ' (T (k + i))) w' ∧ H (k + i) (ρ' (T (k + i))) w) (upds ρ (acc ++ E)) w) (l[i]).2.eraseDups []
  | [], _, _, i, h => absurd h (by simp)
  | x :: l, k, he, i, h => by
    cases i with
    | zero => exact he.1
    | succ i =>
      have := eachG_at l (k + 1) he.2 i (by simpa using h)
      rw [show k + (i + 1) = k + 1 + i by omega]
      exact this
theorem hasE_at {ρ : Env} : ∀ {l : List (Tmp × Value)} {t : Tmp} {v : Value}, Has ρ l → (t, v) ∈ l → ρ t = v
  | [], _, _, _, h => absurd h (by simp)
  | (t', v') :: l, t, v, h, hm => by
    rcases List.mem_cons.1 hm with e | hm
    · cases e; exact h.1
    · exact hasE_at h.2 hm
/-! The same, where one of the first ones, that only reads what was put, may come behind the first one of the last ones. -/
theorem c_anyX {K : Exit → Env → World → Prop} {ρ : Env} {w : World} {l : List (KI × List Nat)} (pre : List (KI × List Nat)) (s0 : KI × List Nat) (rest : List (KI × List Nat)) (x : Nat) (hl : l = pre ++ s0 :: rest) (hx : x < pre.length)
    (hd0 : ∀ j, j < pre.length → j ≠ x → j ∈ s0.2) (hd : fullDeps (pre.length + 1) rest = true) (hs0 : s0.1.dst = none ∧ s0.1.guard = none) (hxg : (pre[x]).1.guard = none) (T : Tmp) (hxd : (pre[x]).1.dst = some T)
    (I : (Nat → Bool) → Env → World → Prop) (h0 : ∀ w', Ext w w' → I (fun _ => false) ρ w') (hs : eachStep P I 0 pre)
    (he : ∀ (S : Nat → Bool) (ρ : Env) (w : World), (∀ i, i < pre.length → i ≠ x → S i = true) → I S ρ w → ∃ val, (S x = true → ρ T = val) ∧ (S x = false → ∀ w' (k : Value → World → Prop), k val w' → (pre[x]).1.op.wp P ρ w' k) ∧ s0.1.op.wp P ρ w (fun _ w' => regK P (krOf rest) (K .normal) (upd ρ T val) w')) : codeK P (.anyR l) K ρ w := by
  subst hl
  let n := pre.length
  let I' : (Nat → Bool) → Env → World → Prop := fun S ρ w => (∃ m, m ≤ rest.length ∧ (∀ i, i < n + 1 + m → S i = true) ∧ (∀ i, n + 1 + m ≤ i → S i = false) ∧ regK P (krOf (rest.drop m)) (K .normal) ρ w) ∨
    (S x = false ∧ (∀ i, i < n + 1 → i ≠ x → S i = true) ∧ (∀ i, n + 1 ≤ i → S i = false) ∧ ∃ val, (∀ w' (k : Value → World → Prop), k val w' → (pre[x]).1.op.wp P ρ w' k) ∧ regK P (krOf rest) (K .normal) (upd ρ T val) w) ∨
    ((∀ i, n ≤ i → S i = false) ∧ I S ρ w)
  have hlen : (pre ++ s0 :: rest).length = n + 1 + rest.length := by simp [n]; omega
  refine ⟨I', .inr (.inr ⟨fun _ _ => rfl, h0 _ (Ext.drew w)⟩), fun i hi S ρ w h1 h2 h3 => ?_, fun S ρ w ha hI => ?_⟩
  · rw [hlen] at hi
    rcases Nat.lt_or_ge i n with hip | hip
    · have hg : (pre ++ s0 :: rest)[i]'(by rw [hlen]; omega) = pre[i] := List.getElem_append_left hip
      rw [hg] at h2 ⊢
      rcases h3 with ⟨m, hm, g1, g2, g3⟩ | ⟨g0, g1, g2, val, g3, g4⟩ | ⟨g1, g2⟩
      · rw [g1 i (by omega)] at h1; cases h1
      · have e : i = x := by
          by_cases e : i = x
          · exact e
          · rw [g1 i (by omega) e] at h1; cases h1
        subst e
        refine a_on hxg (g3 w _ ?_)
        refine .inl ⟨0, Nat.zero_le _, fun j hj => ?_, fun j hj => ?_, ?_⟩
        · unfold setS
          by_cases e : j = i
          · rw [if_pos e]
          · rw [if_neg e]; exact g1 j (by omega) e
        · unfold setS
          rw [if_neg (by omega)]; exact g2 j (by omega)
        · rw [hxd]; exact g4
      · have := each_at pre 0 hs i hip S ρ w (by simpa using h1) h2 g2
        rw [Nat.zero_add] at this
        refine any_mono (fun v w' h4 => .inr (.inr ⟨fun j hj => ?_, h4⟩)) this
        unfold setS
        rw [if_neg (by omega)]; exact g1 j hj
    · rcases Nat.eq_or_lt_of_le hip with e | hip2
      · subst e
        have hg : (pre ++ s0 :: rest)[n]'(by rw [hlen]; omega) = s0 := by
          show (pre ++ s0 :: rest)[pre.length]'_ = s0
          rw [List.getElem_append_right (Nat.le_refl _)]; simp
        rw [hg] at h2 ⊢
        rcases h3 with ⟨m, hm, g1, g2, g3⟩ | ⟨g0, g1, g2, val, g3, g4⟩ | ⟨g1, g2⟩
        · rw [g1 n (by omega)] at h1; cases h1
        · rw [g1 n (by omega) (by omega)] at h1; cases h1
        · have hall : ∀ j, j < n → j ≠ x → S j = true := fun j hj hjx => h2 j (hd0 j hj hjx)
          obtain ⟨val, k1, k2, k3⟩ := he S ρ w hall g2
          refine a_on hs0.2 (wp_mono' (fun v w' h4 => ?_) k3)
          rw [hs0.1]
          have hset : ∀ j, j < n + 1 → j ≠ x → setS S n j = true := fun j hj hjx => by
            unfold setS
            by_cases e : j = n
            · rw [if_pos e]
            · rw [if_neg e]; exact hall j (by omega) hjx
          have hrest : ∀ j, n + 1 ≤ j → setS S n j = false := fun j hj => by
            unfold setS
            rw [if_neg (by omega)]; exact g1 j (by omega)
          have hxn : setS S n x = S x := by
            unfold setS
            rw [if_neg (by omega)]
          by_cases hSx : S x = true
          · refine .inl ⟨0, Nat.zero_le _, fun j hj => ?_, fun j hj => hrest j (by omega), ?_⟩
            · by_cases e : j = x
              · rw [e, hxn]; exact hSx
              · exact hset j (by omega) e
            · show regK P (krOf rest) (K .normal) ρ w'
              rw [upd_eq (k1 hSx)] at h4; exact h4
          · have hSf : S x = false := by simpa using hSx
            exact .inr (.inl ⟨by rw [hxn]; exact hSf, hset, hrest, val, k2 hSf, h4⟩)
      · obtain ⟨j, rfl⟩ : ∃ j, i = n + 1 + j := ⟨i - (n + 1), by omega⟩
        have hj : j < rest.length := by omega
        have hg : (pre ++ s0 :: rest)[n + 1 + j]'(by rw [hlen]; omega) = rest[j] := by
          show (pre ++ s0 :: rest)[pre.length + 1 + j]'_ = rest[j]
          rw [List.getElem_append_right (by omega)]
          have : pre.length + 1 + j - pre.length = j + 1 := by omega
          simp only [this, List.getElem_cons_succ]
        rw [hg] at h2 ⊢
        have hall : ∀ i, i < n + 1 + j → S i = true := fun i hi2 => h2 i (full_at rest (n + 1) hd j hj i hi2)
        rcases h3 with ⟨m, hm, g1, g2, g3⟩ | ⟨g0, g1, g2, val, g3, g4⟩ | ⟨g1, g2⟩
        · have hmj : m = j := by
            rcases Nat.lt_trichotomy m j with h | h | h
            · have a1 := hall (n + 1 + m) (by omega)
              rw [g2 (n + 1 + m) (by omega)] at a1; cases a1
            · exact h
            · rw [g1 (n + 1 + j) (by omega)] at h1; cases h1
          subst hmj
          rw [List.drop_eq_getElem_cons hj] at g3
          have next : ∀ ρ' w', regK P (krOf (rest.drop (m + 1))) (K .normal) ρ' w' → I' (setS S (n + 1 + m)) ρ' w' := fun ρ' w' h4 => by
            refine .inl ⟨m + 1, hj, fun i hi2 => ?_, fun i hi2 => ?_, h4⟩
            · unfold setS
              by_cases e : i = n + 1 + m
              · rw [if_pos e]
              · rw [if_neg e]; exact g1 i (by omega)
            · unfold setS
              rw [if_neg (by omega)]; exact g2 i (by omega)
          simp only [krOf, regK] at g3
          unfold anyStep
          split
          · rename_i hw
            rw [if_pos hw] at g3
            exact wp_mono' (fun v w' h4 => next _ _ h4) g3
          · rename_i hw
            rw [if_neg hw] at g3
            exact next _ _ g3
        · rw [hall x (by omega)] at g0; cases g0
        · have := hall n (by omega)
          rw [g1 n (Nat.le_refl _)] at this; cases this
  · have ha : ∀ i, i < n + 1 + rest.length → S i = true := fun i hi => ha i (by rw [hlen]; exact hi)
    rcases hI with ⟨m, hm, g1, g2, g3⟩ | ⟨g0, g1, g2, val, g3, g4⟩ | ⟨g1, g2⟩
    · have hml : m = rest.length := by
        rcases Nat.lt_or_ge m rest.length with h | h
        · have a1 := ha (n + 1 + m) (by omega)
          rw [g2 (n + 1 + m) (by omega)] at a1; cases a1
        · omega
      subst hml
      rw [List.drop_length] at g3
      exact g3
    · rw [ha x (by omega)] at g0; cases g0
    · have := ha n (by omega)
      rw [g1 n (Nat.le_refl _)] at this; cases this
theorem has_upd {ρ : Env} {t : Tmp} {v : Value} {E : List (Tmp × Value)} (h : Has ρ E) (hne : ∀ e ∈ E, e.1 ≠ t) : Has (upd ρ t v) E := has_put (t := t) (v := v) h hne
theorem c_anyH {K : Exit → Env → World → Prop} {ρ : Env} {w : World} {l : List (KI × List Nat)} (pre : List (KI × List Nat)) (s0 : KI × List Nat) (rest : List (KI × List Nat)) (x d : Nat) (E : List (Tmp × Value)) (G H : Nat → Value → World → Prop) (J : Nat → Nat → Value → Value → Prop) (hl : l = pre ++ s0 :: rest) (hx : x < pre.length)
    (hd0 : (List.range pre.length).all (fun j => s0.2.contains j || decide (j = x)) = true) (hd : fullDeps (pre.length + 1) rest = true) (hs0 : s0.1.dst = none ∧ s0.1.guard = none) (hok : okF pre E = true) (hE : Has ρ E)
    (hG : ∀ i v w w', Ext w w' → G i v w → G i v w') (hJ : ∀ i j v v' w, i ≠ j → H i v w → G j v' w → J i j v v' ∧ J j i v' v) (hs : eachG P w E G H (dstT pre) 0 pre)
    (hdx : d < pre.length ∧ d ≠ x) (hxv : ∀ v9 w', G d v9 w' → ∃ val, G x val w' ∧ ∀ (ρ : Env) w'' (k : Value → World → Prop), ρ (dstT pre d) = v9 → k val w'' → (pre[x]).1.op.wp P ρ w'' k)
    (hcong : ∀ (ρ : Env) w' val (k : Value → World → Prop), s0.1.op.wp P (upd ρ (dstT pre x) val) w' k → s0.1.op.wp P ρ w' k)
    (he : ∀ ρ w', Ext w w' → withD G (dstT pre) w' (fun acc => (∀ i j v v', (dstT pre i, v) ∈ acc → (dstT pre j, v') ∈ acc → i < pre.length → j < pre.length → i ≠ j → i ≠ x → j ≠ x → J i j v v') → regK P (krOf (s0 :: rest)) (K .normal) (upds ρ (acc ++ E)) w') (List.range pre.length) []) : codeK P (.anyR l) K ρ w := by
  unfold okF at hok
  simp only [Bool.and_eq_true, List.all_eq_true, Bool.or_eq_true, Bool.not_eq_true', decide_eq_true_eq, decide_eq_false_iff_not, List.mem_range] at hok
  obtain ⟨h1, h2⟩ := hok
  have hdst : ∀ (i : Nat) (h : i < pre.length), (pre[i]).1.dst = some (dstT pre i) := fun i h => by
    have := (h1 _ (List.getElem_mem h)).1.1.1
    unfold dstT
    rw [List.getElem?_eq_getElem h]
    obtain ⟨t, ht⟩ := Option.isSome_iff_exists.1 this
    show (pre[i]).1.dst = some ((pre[i]).1.dst.getD 0)
    rw [ht]; rfl
  have hgd : ∀ (i : Nat) (h : i < pre.length), (pre[i]).1.guard = none := fun i h => Option.isNone_iff_eq_none.1 (h1 _ (List.getElem_mem h)).1.1.2
  have hinj : ∀ i j, i < pre.length → j < pre.length → i ≠ j → dstT pre i ≠ dstT pre j := fun i j hi hj hij => by
    rcases h2 i hi j hj with h5 | h5
    · exact absurd h5 hij
    · exact h5
  refine c_anyX pre s0 rest x hl hx (fun j hj hjx => ?_) hd hs0 (hgd x hx) (dstT pre x) (hdst x hx) (fun S ρ' w' => Has ρ' E ∧ Ext w w' ∧ (∀ i, i < pre.length → S i = true → G i (ρ' (dstT pre i)) w') ∧ ∀ i j, i < pre.length → j < pre.length → i ≠ j → S i = true → S j = true → J i j (ρ' (dstT pre i)) (ρ' (dstT pre j))) (fun w' x => ⟨hE, x, fun i _ h => by (cases h), fun i j _ _ _ h => by cases h⟩) (each_of pre 0 fun i hi S ρ' w' hS hds ⟨g1, g2, g3, g4⟩ => ?_) (fun S ρ' w' hall ⟨g1, g2, g3, g4⟩ => ?_)
  · rw [List.all_eq_true] at hd0
    have := hd0 j (List.mem_range.2 hj)
    simp only [Bool.or_eq_true, decide_eq_true_eq, List.contains_iff_mem] at this
    exact this.resolve_right hjx
  · rw [Nat.zero_add] at hS ⊢
    have hx := h1 _ (List.getElem_mem hi)
    have hdeps : ∀ d ∈ (pre[i]).2.eraseDups, G d (ρ' (dstT pre d)) w' := fun d hd' => by
      have hm : d ∈ (pre[i]).2 := List.mem_eraseDups.1 hd'
      exact g3 d (hx.1.2 d hm) (hds d hm)
    obtain ⟨acc, ha, hq⟩ := withD_of _ [] hdeps trivial (eachG_at pre 0 hs i hi ρ' w' g2)
    rw [upds_eq (has_append ha g1), Nat.zero_add] at hq
    simp only [regK, wantK, if_true] at hq
    refine a_on (hgd i hi) (wp_mono' (fun v w2 h => ?_) hq)
    rw [hdst i hi] at h ⊢
    have hv : put ρ' (some (dstT pre i)) v (dstT pre i) = v := upd_same _ _ _
    rw [hv] at h
    have hne : ∀ j, j < pre.length → j ≠ i → put ρ' (some (dstT pre i)) v (dstT pre j) = ρ' (dstT pre j) := fun j hj e => upd_ne _ _ (hinj j i hj hi e)
    have hSs : ∀ j, j ≠ i → setS S i j = true → S j = true := fun j e h => by unfold setS at h; rwa [if_neg e] at h
    refine ⟨has_put g1 fun e he => ?_, g2.trans h.1, fun j hj hSj => ?_, fun j k hj hk hjk hSj hSk => ?_⟩
    · intro ee
      exact hx.2 e he (by rw [hdst i hi, ee])
    · by_cases e : j = i
      · subst e
        rw [hv]; exact h.2.1
      · rw [hne j hj e]
        exact hG j _ _ _ h.1 (g3 j hj (hSs j e hSj))
    · by_cases e : j = i
      · subst e
        have e2 : k ≠ j := Ne.symm hjk
        rw [hv, hne k hk e2]
        exact (hJ j k _ _ w' hjk h.2.2 (g3 k hk (hSs k e2 hSk))).1
      · by_cases e2 : k = i
        · subst e2
          rw [hv, hne j hj e]
          exact (hJ k j _ _ w' (Ne.symm hjk) h.2.2 (g3 j hj (hSs j e hSj))).2
        · rw [hne j hj e, hne k hk e2]
          exact g4 j k hj hk hjk (hSs j e hSj) (hSs k e2 hSk)
  · have hGd := g3 d hdx.1 (hall d hdx.1 hdx.2)
    have hval : ∃ val, (S x = true → ρ' (dstT pre x) = val) ∧ G x val w' ∧ (S x = false → ∀ w'' (k : Value → World → Prop), k val w'' → (pre[x]).1.op.wp P ρ' w'' k) := by
      obtain ⟨val, k1, k2⟩ := hxv _ w' hGd
      by_cases hSx : S x = true
      · exact ⟨ρ' (dstT pre x), fun _ => rfl, g3 x hx hSx, fun h => by rw [hSx] at h; cases h⟩
      · exact ⟨val, fun h => absurd h hSx, k1, fun _ w'' k hk => k2 ρ' w'' k rfl hk⟩
    obtain ⟨val, k1, k2, k3⟩ := hval
    refine ⟨val, k1, k3, hcong ρ' w' val _ ?_⟩
    have hH : Has (upd ρ' (dstT pre x) val) E := has_upd g1 fun e he ee => (h1 _ (List.getElem_mem hx)).2 e he (by rw [hdst x hx, ee])
    have hne : ∀ j, j < pre.length → j ≠ x → upd ρ' (dstT pre x) val (dstT pre j) = ρ' (dstT pre j) := fun j hj e => upd_ne _ _ (hinj j x hj hx e)
    have hsame : upd ρ' (dstT pre x) val (dstT pre x) = val := upd_same _ _ _
    obtain ⟨acc, ha, hq⟩ := withD_of (ρ := upd ρ' (dstT pre x) val) (List.range pre.length) [] (fun j hj => by
      have hj := List.mem_range.1 hj
      by_cases e : j = x
      · subst e; rw [hsame]; exact k2
      · rw [hne j hj e]; exact g3 j hj (hall j hj e)) trivial (he (upd ρ' (dstT pre x) val) w' g2)
    rw [upds_eq (has_append ha hH)] at hq
    have hq := hq fun i j v v' hi hj hil hjl hij hix hjx => by
      rw [← hasE_at ha hi, ← hasE_at ha hj, hne i hil hix, hne j hjl hjx]
      exact g4 i j hil hjl hij (hall i hil hix) (hall j hjl hjx)
    simp only [krOf, regK, hs0.2, wantK, if_true] at hq
    refine wp_mono' (fun v w'' h4 => ?_) hq
    rw [hs0.1] at h4
    exact h4
theorem storeN_cong {ρ : Env} {n : Nat} {a b t : Tmp} {val : Value} {w : World} {k : Value → World → Prop} (ha : a ≠ t) (hb : b ≠ t) (h : (KOp.storeN n (.tmp a) (.tmp b)).wp P (upd ρ t val) w k) : (KOp.storeN n (.tmp a) (.tmp b)).wp P ρ w k := by
  have e1 : ev (upd ρ t val) (.tmp a) = ev ρ (.tmp a) := upd_ne _ _ ha
  have e2 : ev (upd ρ t val) (.tmp b) = ev ρ (.tmp b) := upd_ne _ _ hb
  simpa only [KOp.wp, e1, e2] using h
theorem extract_wp {ρ : Env} {i : Nat} {t : Tmp} {vs : Array Value} {v : Value} {w : World} {k : Value → World → Prop} (ht : ρ t = .tuple vs) (hv : vs[i]? = some v) (hk : k v w) : (KOp.extract i (.tmp t)).wp P ρ w k :=
  still_wp rfl (by simp [KOp.rd, KOp.fix, ev, ht, hv]) hk
end Go.K
end
section
namespace Go.Proofs.YtilhlcnekkkajaaGreat
open Go Go.K
attribute [local irreducible] regK codeK retK KOp.wp K.Spec u32 leS vnS str zero32 sha2 encT idT sizeT checkT grantB idN stepR workL reachE findI dropG addG aboveL belowL idsOf feeD sizeD feeOf szOf scoreL cmpR rateR sizeL trimL wMask leftL dropAll
attribute [local irreducible] worstI worstE
/-- A step of the loop of the document's trimming. -/
structure RTrimI (w : World) (l : List Ent) (n : Int) (M : List Nat) (L : List Ent) (vL : Value) (G : List ByteArray) (vG : Value) (R : Int) (w' : World) : Prop where
  ext : Ext w w'
  sl : SlR entR (blkOf vG ++ M) w' vL L
  own : Own strE T.string w.heap.size w' vG G
  sub : L.Sublist l
  eq : trimL n l = ((trimL n L).1, G ++ (trimL n L).2.1, max R (trimL n L).2.2)
  rate : 0 ≤ R
  len : G.length + L.length ≤ l.length
theorem RTrimI.stop {w w' : World} {l L : List Ent} {n R : Int} {M : List Nat} {vL vG : Value} {G : List ByteArray} (h : RTrimI w l n M L vL G vG R w') (hs : L.length = 0 ∨ sizeL L ≤ n) : trimL n l = (L, G, R) := by
  have e := h.eq
  rw [trimL_stop hs, List.append_nil] at e
  rw [e, Int.max_eq_left h.rate]
end Go.Proofs.YtilhlcnekkkajaaGreat
end
section
namespace Go.Proofs.YtilhlcnekkkajaaGreat
open Go Go.K
attribute [local irreducible] regK codeK retK KOp.wp K.Spec u32 leS vnS str zero32 sha2 encT idT sizeT checkT grantB idN stepR workL reachE findI dropG addG trimL scoreL scoreP worstI wS
end Go.Proofs.YtilhlcnekkkajaaGreat
end
section
namespace Go.Proofs.YtilhlcnekkkajaaGreat
open Go Go.K
attribute [local irreducible] regK codeK retK KOp.wp K.Spec u32 leS vnS str zero32 sha2 encT idT sizeT checkT grantB idN stepR workL reachE
set_option maxHeartbeats 1000000 in
/-- A copy of a graph: beside the graph. -/
theorem gcopy_u {g : Nat} {M : List Nat} {l : List Ent} (w : World) (hG : GrR w g M l) (hM : ∀ b ∈ M, b < w.heap.size) (hn : l.length ≤ 1000) : K.Spec Tryz.prog F.graph_Graph_Copy [.pointer (some ⟨g, 0, none⟩)] w fun r w' =>
    ∃ g' M', r = .pointer (some ⟨g', 0, none⟩) ∧ GrU w' w.heap.size g' M' M l ∧ Ext w w' := by
  obtain ⟨b1, vo, b2, m, sp, hP⟩ := hG
  have rg : Row w ⟨g, 0, none⟩ [.map (some b1), vo, .map (some b2)] := Row.of_at hP.at_
  have q1 := hP.ents
  have q2 := hP.pts
  have q3 := hP.ord
  refine s_graph_Graph_Copy rfl ?_
  unfold k_graph_Graph_Copy
  refine oy ?_
  repeat' (first|(first|refine go1 ?_|refine zg (fun _ _=>?_)|refine zi (fun _ _=>?_))|refine st_both ?_ ?_|(refine zC rfl (clone69_spec (M := M) (m := m) _ (by exact fx)) ?_; rintro _ wa ⟨c1, rfl, p1, la, hc1, xa⟩; have sa := xa.size)|(refine zC rfl (clone71_spec (m := sp) _ (by exact fx)) ?_; rintro _ wc ⟨c2, rfl, p2, hc2, xc⟩; have lc := p2.lt; have sc := xc.size)|(refine zC rfl (cloneS_spec (M := []) (v := vo) (l := l.map (fun x : Ent => x.id)) _ (SlE.toR (F := strE) (ag := false) (SlE.ext (w := w) (by exact fx) q3) (by simp)) (by simp; omega) (by simp)) ?_; rintro v5 wb ⟨o5, xb⟩; have lb := o5.lt; have gb := o5.base; replace o5 := OwnR.toOwn o5; have sb := xb.size; obtain ⟨bb, cb, rfl⟩ := o5.sl.form)|(refine zD (cs := [.map (some c1), .slice bb (l.map (fun x : Ent => x.id)).length cb, .map (some c2)]) rfl rfl (fun bp wp xp ap rp hp0=>?_)))
  all_goals
    rename_i xz
    have s0 := xz.size
    have szp := xp.size
    have lp := ap.lt
    generalize Value.slice bb (l.map (fun x : Ent => x.id)).length cb = v5 at *
    have hmm : ∀ b ∈ mutG bp c1 c2 v5, w.heap.size ≤ b := fun b hb => by
      simp only [List.mem_cons] at hb
      rcases hb with rfl | rfl | rfl | hb
      · omega
      · omega
      · omega
      · have := gb b hb; omega
    have oo := Own.lower (B' := w.heap.size) (Own.ext (show Ext _ wp by exact fx) o5) (by omega)
    refine x_ret rfl ⟨bp, mutG bp c1 c2 v5, rfl, ⟨⟨c1, v5, c2, m, sp, ⟨ap, ?_, by exact fx, oo, hP.inv, ?_, by omega, by omega, by omega⟩, rfl⟩, ⟨c1, v5, c2, m, sp, ⟨ap, ?_, by exact fx, oo.sl, hP.inv⟩⟩, fun b hb h => by have := hM b h; have := hmm b hb; omega⟩, by exact fx⟩
    · exact (p1 _ (q1.step (show Ext w _ by exact fx) (by simp) (by simp) (fun b hb => .inr (hmm b hb)))).ext (by exact fx)
    · have n5 : (blkOf v5).Nodup := by cases v5 <;> try exact List.nodup_nil
                                       rename_i b _ _; cases b <;> simp [blkOf]
      have : ∀ b ∈ blkOf v5, b ≠ bp ∧ b ≠ c1 ∧ b ≠ c2 := fun b hb => by have := gb b hb; have := lb b hb; omega
      simp only [List.nodup_cons, List.mem_cons, not_or]
      exact ⟨⟨by omega, by omega, fun h => (this _ h).1 rfl⟩, ⟨by omega, fun h => (this _ h).2.1 rfl⟩, fun h => (this _ h).2.2 rfl, n5⟩
    · exact (p1 _ (q1.step (show Ext w _ by exact fx) (by simp) (by simp) (fun b hb => (List.mem_append.1 hb).imp id (hmm b)))).ext (by exact fx)
attribute [local irreducible] findI dropG addG trimL scoreL scoreP worstI wS
end Go.Proofs.YtilhlcnekkkajaaGreat
end
section
namespace Go.K
open Go
variable {α : Type} {E : R α} {M : List Nat} {w : World}
theorem cell_in {b : Nat} {z : List Value} {t : TypeId} {a : Addr} {v : Value} (ha : At w b (.cells z.toArray t (0, 0))) (hb : a.block = b) (h : w.cell? a = some v) : v ∈ z := by
  unfold World.cell? at h
  unfold At at ha
  rw [hb, ha] at h
  simp only [List.getElem?_toArray] at h
  have h : a.spot = none ∧ z[a.off]? = some v := by simpa using h
  exact List.mem_of_getElem? h.2
theorem SlR.off {b : Nat} {z : List Value} {t : TypeId} {v : Value} {l : List α} (h : SlR E M w v l) (ha : At w b (.cells z.toArray t (0, 0))) (hE : ∀ cs x, E.rel M w cs x → ∃ u r, cs = u :: r ∧ u ∉ z) (hs : ∀ cs x, E.rel M w cs x → E.rel (b :: M) w cs x) : SlR E (b :: M) w v l := by
  obtain ⟨css, h1, h2, h3⟩ := h
  refine ⟨css, h1, h2.mono fun c x hr => hs _ _ hr, fun hp b' hb' hm => ?_⟩
  rcases List.mem_cons.1 hm with rfl | hm
  · have hlen := h2.length
    have hc : 0 < css.length := by omega
    obtain ⟨n, base, cap, rfl, -, hrow⟩ := h1
    have hk := E.pos
    have hfl : 0 < ((vecE E.k E.pos).flat css).length := by
      rw [Enc.flat_length]
      exact Nat.mul_pos hc E.pos
    obtain ⟨a, rfl, hr⟩ := hrow hfl
    obtain ⟨u, r, e, hu⟩ := hE _ _ (h2.get 0 hc (by omega))
    have h0 : ((vecE E.k E.pos).flat css)[0]? = some u := by
      cases css with
      | nil => simp at hc
      | cons c css =>
        simp only [List.getElem_cons_zero] at e
        simp only [Enc.flat, List.flatMap_cons]
        show (c.1 ++ _)[0]? = some u
        rw [e]; rfl
    have hcell := hr 0 u h0
    refine hu (cell_in ha ?_ hcell)
    rw [add_block]
    simp only [blkOf, List.mem_singleton] at hb'
    exact hb'.symm
  · exact h3 hp b' hb' hm
theorem txR_off {b : Nat} {z : List Value} {ty : TypeId} {cs : List Value} {t : Tx} (h : txR.rel M w cs t) (ha : At w b (.cells z.toArray ty (0, 0))) (hz : ∀ v ∈ z, (∀ s, v ≠ .string s) ∧ ∀ n, v ≠ .int .i64 n) : txR.rel (b :: M) w cs t := by
  obtain ⟨iv, ov, rfl, h1, h2, h3⟩ := h
  have hstr : ∀ {wv : Value} {l : List ByteArray}, SlR strR M w wv l → SlR strR (b :: M) w wv l := fun hw => hw.off ha (fun cs x hr => ⟨.string x, [], hr, fun hm => (hz _ hm).1 x rfl⟩) (fun cs x hr => hr)
  refine ⟨iv, ov, rfl, h1.off ha (fun cs x hr => ?_) (fun cs x hr => ?_), h2.off ha (fun cs x hr => ?_) (fun cs x hr => hr), h3⟩
  · obtain ⟨wv, rfl, -⟩ := hr
    exact ⟨_, _, rfl, fun hm => (hz _ hm).1 x.p.s rfl⟩
  · obtain ⟨wv, rfl, hw, hq⟩ := hr
    exact ⟨wv, rfl, hstr hw, hq⟩
  · obtain ⟨rfl, -⟩ := hr
    exact ⟨_, _, rfl, fun hm => (hz _ hm).2 x.v rfl⟩
end Go.K
end
