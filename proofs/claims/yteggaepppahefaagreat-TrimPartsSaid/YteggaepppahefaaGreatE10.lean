/- The engine, part 10: loops and joins over a state; more steps. -/
import Derived.Test.YteggaepppahefaaGreatE9
set_option linter.unusedVariables false
set_option linter.unusedSimpArgs false
section
namespace Go.K
open Go
variable {P : Program}
/-! ### Loops and joins over a state -/
def upds (ρ : Env) : List (Tmp × Value) → Env
  | [] => ρ
  | (t, v) :: l => upd (upds ρ l) t v
def Has (ρ : Env) : List (Tmp × Value) → Prop
  | [] => True
  | (t, v) :: l => ρ t = v ∧ Has ρ l
theorem upds_eq {ρ : Env} : ∀ {l : List (Tmp × Value)}, Has ρ l → upds ρ l = ρ
  | [], _ => rfl
  | (t, v) :: l, h => by
    simp only [upds]
    rw [upds_eq h.2]; exact upd_eq h.1
theorem least {p : Nat → Prop} : ∀ n, p n → ∃ m, p m ∧ ∀ k, p k → m ≤ k
  | n, h => by
    by_cases hx : ∃ k, k < n ∧ p k
    · obtain ⟨k, hk, hp⟩ := hx
      exact least k hp
    · exact ⟨n, h, fun k hk => Nat.le_of_not_lt fun hl => hx ⟨k, hl, hk⟩⟩
theorem c_loopV {K : Exit → Env → World → Prop} {ρ : Env} {w : World} {a : KC} {σ : Type} (I : σ → World → Prop) (E : σ → List (Tmp × Value)) (μ : σ → Nat) (s0 : σ) (h0 : Has ρ (E s0)) (hI : I s0 w)
    (h : ∀ s ρ w, I s w → codeK P a (loopK (fun ρ' w' => ∃ s', Has ρ' (E s') ∧ I s' w' ∧ μ s' < μ s) K) (upds ρ (E s)) w) : codeK P (.loop a) K ρ w := by
  have key : ∀ ρ w, ∃ m : Nat, (∃ s, Has ρ (E s) ∧ I s w) → (∃ s, Has ρ (E s) ∧ I s w ∧ μ s = m) ∧ ∀ s, Has ρ (E s) → I s w → m ≤ μ s := by
    intro ρ w
    by_cases hx : ∃ s, Has ρ (E s) ∧ I s w
    · obtain ⟨s, h1, h2⟩ := hx
      obtain ⟨m, hm, hl⟩ := least (p := fun n => ∃ s, Has ρ (E s) ∧ I s w ∧ μ s = n) _ ⟨s, h1, h2, rfl⟩
      exact ⟨m, fun _ => ⟨hm, fun s h1 h2 => hl _ ⟨s, h1, h2, rfl⟩⟩⟩
    · exact ⟨0, fun h => absurd h hx⟩
  refine c_loop (fun ρ w => ∃ s, Has ρ (E s) ∧ I s w) (fun ρ w => Classical.choose (key ρ w)) ⟨s0, h0, hI⟩ ?_
  intro ρ w hs
  obtain ⟨⟨s, h1, h2, h3⟩, _⟩ := Classical.choose_spec (key ρ w) hs
  have := h s ρ w h2
  rw [upds_eq h1] at this
  refine codeK_mono a (fun e ρ' w' he => ?_) this
  cases e with
  | normal =>
    simp only [loopK] at he ⊢
    obtain ⟨s', g1, g2, g3⟩ := he
    refine ⟨⟨s', g1, g2⟩, ?_⟩
    have := (Classical.choose_spec (key ρ' w') ⟨s', g1, g2⟩).2 s' g1 g2
    omega
  | _ => simpa only [loopK] using he
theorem c_cutV {K : Exit → Env → World → Prop} {ρ : Env} {w : World} {a b : KC} {σ : Type} (J : σ → World → Prop) (E : σ → List (Tmp × Value))
    (h : codeK P a (loopK (fun ρ' w' => ∃ s, Has ρ' (E s) ∧ J s w') K) ρ w) (h2 : ∀ s ρ w, J s w → codeK P b K (upds ρ (E s)) w) : codeK P (.seq a b) K ρ w :=
  c_cut (fun ρ w => ∃ s, Has ρ (E s) ∧ J s w) h fun ρ w ⟨s, h1, h3⟩ => by have := h2 s ρ w h3; rwa [upds_eq h1] at this

/-! ### Results -/
theorem rv_cell {ρ : Env} {w : World} {n c : Nat} {ad : Addr} {cs : List Value} (r : Row w ad cs) (hc : ρ c = .pointer (some ad)) (hn : cs.length = n) : rvRd ρ w (.cellN n c) = some (.agg cs.toArray) := by
  simp only [rvRd, hc]
  rw [r.r0 (n := n) (l := cs) (by omega) (by rw [← hn, List.take_length])]; rfl
theorem rv_tmp {ρ : Env} {w : World} {t : Nat} : rvRd ρ w (.tmp t) = some (ρ t) := rfl
theorem ret1 {ρ : Env} {w : World} {x : RV} {a : Value} (h : rvRd ρ w x = some a) : retRd ρ w [x] = some a := h
theorem ret2 {ρ : Env} {w : World} {x y : RV} {a b : Value} (h1 : rvRd ρ w x = some a) (h2 : rvRd ρ w y = some b) : retRd ρ w [x, y] = some (.tuple #[a, b]) := by simp [retRd, rvsRd, h1, h2]
theorem ret3 {ρ : Env} {w : World} {x y z : RV} {a b c : Value} (h1 : rvRd ρ w x = some a) (h2 : rvRd ρ w y = some b) (h3 : rvRd ρ w z = some c) : retRd ρ w [x, y, z] = some (.tuple #[a, b, c]) := by simp [retRd, rvsRd, h1, h2, h3]
/-! ### More steps -/
section
variable {d : Option Tmp} {r : KR} {K : Env → World → Prop} {ρ : Env} {w : World}
theorem st_bin {op : BinOp} {x y : Operand} {a b v : Value} (hx : ev ρ x = a) (hy : ev ρ y = b) (h : binVal op a b = some v) (k : regK P r K (put ρ d v) w) : regK P (.cons ⟨d, .bin op x y, none⟩ r) K ρ w :=
  st_fix rfl (by simp [KOp.fix, hx, hy, h]) k
theorem st_shr {x y : Operand} {kd kd' : IntKind} {a b : Int} (hx : ev ρ x = .int kd a) (hy : ev ρ y = .int kd' b) (h : 0 ≤ b) (k : regK P r K (put ρ d (.int kd (a.fdiv (2 ^ (min b.toNat kd.bits))))) w) : regK P (.cons ⟨d, .bin .shr x y, none⟩ r) K ρ w :=
  st_bin hx hy (by simp only [binVal, isShift, if_true]; rw [if_neg (by omega)]) k
theorem st_cat {x y : Operand} {a b : ByteArray} (hx : ev ρ x = .string a) (hy : ev ρ y = .string b) (h : a.size + b.size ≤ 9223372036854775807) (k : regK P r K (put ρ d (.string (a ++ b))) w) : regK P (.cons ⟨d, .bin .add x y, none⟩ r) K ρ w :=
  st_bin hx hy (by simp only [binVal, strBin]; rw [if_neg (by have : IntKind.i64.max = 9223372036854775807 := rfl; rw [this]; omega)]) k
theorem st_takeStr {x h : Operand} {s : ByteArray} {kd : IntKind} {n : Int} (hx : ev ρ x = .string s) (hh : ev ρ h = .int kd n) (hr : 0 ≤ n ∧ n ≤ (s.size : Int)) (k : regK P r K (put ρ d (.string (s.extract 0 n.toNat))) w) : regK P (.cons ⟨d, .sliceStr x none (some h), none⟩ r) K ρ w :=
  st_fix rfl (by simp [KOp.fix, hx, hh, hr]) k
theorem st_min {x y : Operand} {a b : Int} (hx : ev ρ x = .int .i64 a) (hy : ev ρ y = .int .i64 b) (k : regK P r K (put ρ d (.int .i64 (min a b))) w) : regK P (.cons ⟨d, .minmax false x [y], none⟩ r) K ρ w :=
  st_fix rfl (by
    have e : (if b < a then b else a) = min a b := by split <;> omega
    simp only [KOp.fix, List.foldl_cons, List.foldl_nil, hx, hy, Option.bind_some, minmax2, Bool.false_eq_true, if_false, e]) k
theorem st_takeE {α : Type} {E : Enc α} {size : Nat} {x h : Operand} {v : Value} {l : List α} {kd : IntKind} {n : Nat} {w1 : World} (hx : ev ρ x = v) (hh : ev ρ h = .int kd (n : Nat)) (hs : SlE E w1 v l) (hn : n ≤ l.length) (hk : size = E.k)
    (k : ∀ v', SlE E w1 v' (l.take n) → (∀ b ∈ blkOf v', b ∈ blkOf v) → regK P r K (put ρ d v') w) : regK P (.cons ⟨d, .sliceSl size x none (some h), none⟩ r) K ρ w := by
  subst hk
  obtain ⟨hl, base, cap, rfl, hc, hr⟩ := hs
  have h2 := SlE.cut (E := E) (lo := 0) (hi := n) ⟨hl, base, cap, rfl, hc, hr⟩ (Nat.zero_le _) hn (cap - 0) (by omega)
  refine st_fix rfl (v := .slice (if cap = 0 then base else base.map fun ad : Addr => ad.add (0 * E.k)) (n - 0) (cap - 0)) ?_ (k _ (by simpa using h2) ?_)
  · simp only [KOp.fix, hx, hh, Option.bind_some, Option.map_some]
    rw [if_pos (by omega)]; simp
  · intro b hb
    cases base with
    | none => simp [blkOf] at hb
    | some a => split at hb <;> simpa [blkOf, add_zero] using hb
theorem wrapU8 (m : Int) : ∃ b : UInt8, IntKind.u8.wrap m = (b.toNat : Int) := by
  have h : IntKind.u8.wrap m = m % 256 := rfl
  refine ⟨UInt8.ofNat (m % 256).toNat, ?_⟩
  rw [h]
  have h1 : (m % 256).toNat < 256 := by omega
  simp only [UInt8.toNat_ofNat']
  rw [Nat.mod_eq_of_lt (by simpa using h1)]; omega
/-- string(a slice of bytes) -/
theorem st_strOf {x : Operand} {v : Value} {a : Option Addr} {n c : Nat} {bs : List UInt8} (hx : ev ρ x = v) (hv : v = .slice a n c) (h : slCells w 1 v = some (n, bs.map fun b : UInt8 => Value.int .u8 b.toNat)) (k : regK P r K (put ρ d (.string ⟨bs.toArray⟩)) w) : regK P (.cons ⟨d, .strOf x, none⟩ r) K ρ w :=
  st_wp ⟨a, n, c, bs, by rw [hx, hv], by rw [hx]; exact h, k⟩
theorem sl_new {b n k : Nat} {cs : List Value} {t : TypeId} (h : At w b (.cells cs.toArray t (0, 0))) (hl : cs.length = n * k) : slCells w k (.slice (some ⟨b, 0, none⟩) n n) = some (n, cs) :=
  Sl.cells ⟨hl, _, _, rfl, Nat.le_refl _, fun _ => ⟨_, rfl, Row.of_at h⟩⟩
theorem st_strOf1 {x : Operand} {b : Nat} {t : TypeId} {m : Int} (hx : ev ρ x = .slice (some ⟨b, 0, none⟩) 1 1) (ha : At w b (.cells [Value.int .u8 (IntKind.u8.wrap m)].toArray t (0, 0))) (k : ∀ c : UInt8, regK P r K (put ρ d (.string ⟨#[c]⟩)) w) : regK P (.cons ⟨d, .strOf x, none⟩ r) K ρ w := by
  obtain ⟨c, hc⟩ := wrapU8 m
  refine st_strOf (bs := [c]) hx rfl ?_ (k c)
  rw [sl_new ha rfl, hc]; rfl
theorem all_one {vs : List Value} (h : vs.all (fun v => v.oneCell') = true) : ∀ v ∈ vs, v.oneCell' = true := fun v hv => List.all_eq_true.1 h v hv
/-- A new variable of many cells, and its first value. -/
theorem st_local {t : TypeId} {z vs : List Value} {d' : Tmp} {n : Nat} {y : Operand} (hy : ∀ p, ev (upd ρ d' p) y = .agg vs.toArray) (hn : vs.length = n) (hz : z.length = n) (h1 : vs.all (fun v => v.oneCell') = true)
    (k : ∀ b w', Ext w w' → At w' b (.cells vs.toArray t (0, 0)) → Row w' ⟨b, 0, none⟩ vs → w.heap.size ≤ b → regK P r K (put ρ (some d') (.pointer (some ⟨b, 0, none⟩))) w') :
    regK P (.cons ⟨some d', .alloc t z, none⟩ (.cons ⟨none, .storeN n (.tmp d') y, none⟩ r)) K ρ w :=
  st_alloc fun b w1 x1 a1 hb => st_storeN0 (by simp [ev, put, upd]) (hy _) hn (all_one h1) a1 hz fun w2 c2 a2 =>
    k b w2 ((x1.chg c2).mono (by simp; omega)) a2 (Row.of_at a2) hb
/-- The same, something else moved in between. -/
theorem st_local2 {t : TypeId} {z vs : List Value} {d' e : Tmp} {n : Nat} {x y : Operand} {v : Value} (hx : ∀ p, ev (upd ρ d' p) x = v) (hy : ∀ p, ev (upd (upd ρ d' p) e v) y = .agg vs.toArray) (he : Nat.beq d' e = false) (hn : vs.length = n) (hz : z.length = n) (h1 : vs.all (fun v => v.oneCell') = true)
    (k : ∀ b w', Ext w w' → At w' b (.cells vs.toArray t (0, 0)) → Row w' ⟨b, 0, none⟩ vs → w.heap.size ≤ b → regK P r K (put (put ρ (some d') (.pointer (some ⟨b, 0, none⟩))) (some e) v) w') :
    regK P (.cons ⟨some d', .alloc t z, none⟩ (.cons ⟨some e, .move x, none⟩ (.cons ⟨none, .storeN n (.tmp d') y, none⟩ r))) K ρ w :=
  st_alloc fun b w1 x1 a1 hb => st_move (by
    have hxx := hx (.pointer (some ⟨b, 0, none⟩))
    simp only [put] at hxx ⊢
    rw [hxx]
    have hne : d' ≠ e := fun h => by rw [h] at he; simp at he
    refine st_storeN0 (by simp [ev, upd, hne]) (hy _) hn (all_one h1) a1 hz fun w2 c2 a2 => ?_
    exact k b w2 ((x1.chg c2).mono (by simp; omega)) a2 (Row.of_at a2) hb)
/-- Two new variables and their first values, as a range over a map lays them. -/
theorem st_local22 {t1 t2 : TypeId} {z1 z2 vs1 vs2 : List Value} {d1 d2 : Tmp} {n1 n2 : Nat} {y1 y2 : Operand} (hne : Nat.beq d1 d2 = false) (hy1 : ∀ p q, ev (upd (upd ρ d1 p) d2 q) y1 = .agg vs1.toArray) (hy2 : ∀ p q, ev (upd (upd ρ d1 p) d2 q) y2 = .agg vs2.toArray)
    (hn1 : vs1.length = n1) (hn2 : vs2.length = n2) (hz1 : z1.length = n1) (hz2 : z2.length = n2) (h1 : vs1.all (fun v => v.oneCell') = true) (h2 : vs2.all (fun v => v.oneCell') = true)
    (k : ∀ b1 b2 w', Ext w w' → Row w' ⟨b1, 0, none⟩ vs1 → Row w' ⟨b2, 0, none⟩ vs2 → w.heap.size ≤ b1 → w.heap.size ≤ b2 → regK P r K (put (put ρ (some d1) (.pointer (some ⟨b1, 0, none⟩))) (some d2) (.pointer (some ⟨b2, 0, none⟩))) w') :
    regK P (.cons ⟨some d1, .alloc t1 z1, none⟩ (.cons ⟨some d2, .alloc t2 z2, none⟩ (.cons ⟨none, .storeN n1 (.tmp d1) y1, none⟩ (.cons ⟨none, .storeN n2 (.tmp d2) y2, none⟩ r)))) K ρ w :=
  st_alloc fun b1 w1 x1 a1 hb1 => st_alloc fun b2 w2 x2 a2 hb2 => by
    have hd : d1 ≠ d2 := fun h => by rw [h] at hne; simp at hne
    have hlt := a1.lt
    have hs := x1.size
    refine st_storeN0 (by simp [ev, put, upd, hd]) (hy1 _ _) hn1 (all_one h1) (a1.ext x2) hz1 fun w3 c3 a3 => ?_
    refine st_storeN0 (by simp [ev, put, upd]) (hy2 _ _) hn2 (all_one h2) (a2.chg c3 (by simp; omega)) hz2 fun w4 c4 a4 => ?_
    exact k b1 b2 w4 (((x1.trans x2).chg (c3.trans c4)).mono (by intro b hb; simp at hb ⊢; omega)) (Row.of_at (a3.chg c4 (by simp; omega))) (Row.of_at a4) hb1 (by omega)
/-- A store of many cells into a variable that is younger than the world w0. -/
theorem st_setN {w0 : World} {n : Nat} {x y : Operand} {b : Nat} {t : TypeId} {cur vs : List Value} (x0 : Ext w0 w) (hb : w0.heap.size ≤ b) (h : At w b (.cells cur.toArray t (0, 0))) (hx : ev ρ x = .pointer (some ⟨b, 0, none⟩)) (hy : ev ρ y = .agg vs.toArray) (hn : vs.length = n) (hl : cur.length = n) (h1 : vs.all (fun v => v.oneCell') = true)
    (k : ∀ w', Ext w0 w' → Chg [b] w w' → At w' b (.cells vs.toArray t (0, 0)) → Row w' ⟨b, 0, none⟩ vs → regK P r K (put ρ d undef) w') : regK P (.cons ⟨d, .storeN n x y, none⟩ r) K ρ w :=
  st_storeN0 hx hy hn (all_one h1) h hl fun w2 c2 a2 => k w2 ((x0.chg c2).mono (by simp; omega)) c2 a2 (Row.of_at a2)
theorem SlE.new {α : Type} {E : Enc α} {b n c : Nat} {l : List α} {t : TypeId} (h : At w b (.cells (E.flat l).toArray t (0, 0))) (hl : n = l.length) (hc : n ≤ c) : SlE E w (.slice (some ⟨b, 0, none⟩) n c) l := by
  subst hl
  exact ⟨E.flat_length l, _, _, rfl, hc, fun _ => ⟨_, rfl, Row.of_at h⟩⟩
end
end Go.K
end
