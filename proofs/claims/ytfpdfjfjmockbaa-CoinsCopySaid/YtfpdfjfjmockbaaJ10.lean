/- The laws CoinsPlay, CoinsOrder, CoinsCopy and CoinsNil return true for every input, and leave their arguments as they were. Conditions: none beyond those of the given statements. -/
import Derived.Test.YtfpdfjfjmockbaaS11
import Derived.Test.YtfpdfjfjmockbaaS12
import Derived.Test.YtfpdfjfjmockbaaS13
import Derived.Test.YtfpdfjfjmockbaaS14
import Derived.Test.YtfpdfjfjmockbaaK13
import Derived.Test.YtfpdfjfjmockbaaRows
import Derived.ProofKit
import Derived.ShutString
import Derived.ChangeOld
import Derived.Below
namespace Go.Proofs.Ytfpdfjfjmockbaa
open Go Go.K Go.ChangeShapes Go.WideShapes Go.ChangeAt Go.RowKit
set_option linter.unusedVariables false
theorem own : ownKnob Try.prog.godebug = none := by kernel_rfl
theorem laidOut : laidOutB Try.prog = true := by kernel_rfl

theorem reads_point {W : World} {c : List Value} (h : Reads Try.prog W 28 c) : ∃ s i, c = [.string s, .int .u32 i] := by
  obtain ⟨h1, h2⟩ := reads_struct Try.underlying28 h
  have l : c.length = 2 := h1.trans (by kernel_rfl)
  match c, l with
  | [c0, c1], _ =>
    have g0 := h2 _ (List.mem_of_getElem? (i := 0) rfl)
    have g1 := h2 _ (List.mem_of_getElem? (i := 1) rfl)
    obtain ⟨s, e0, _⟩ := reads_string Try.underlying9 g0
    obtain ⟨i, e1, _⟩ := reads_int Try.underlying26 g1
    have k9 : Try.prog.cellsOf 9 = 1 := by kernel_rfl
    have k26 : Try.prog.cellsOf 26 = 1 := by kernel_rfl
    simp only [k9, k26, List.drop_zero, List.drop_succ_cons, List.take_succ_cons, List.take_zero, List.cons.injEq, and_true] at e0 e1
    exact ⟨s, i, by rw [e0, e1]⟩
theorem reads_act {W : World} {c : List Value} (h : Reads Try.prog W 30 c) : ∃ a : Act, c = a.cs := by
  obtain ⟨h1, h2⟩ := reads_struct Try.underlying30 h
  have l : c.length = 9 := h1.trans (by kernel_rfl)
  match c, l with
  | [c0, c1, c2, c3, c4, c5, c6, c7, c8], _ =>
    have g0 := h2 _ (List.mem_of_getElem? (i := 0) rfl)
    have g1 := h2 _ (List.mem_of_getElem? (i := 1) rfl)
    have g2 := h2 _ (List.mem_of_getElem? (i := 2) rfl)
    have g3 := h2 _ (List.mem_of_getElem? (i := 3) rfl)
    have g4 := h2 _ (List.mem_of_getElem? (i := 4) rfl)
    have g5 := h2 _ (List.mem_of_getElem? (i := 5) rfl)
    have g6 := h2 _ (List.mem_of_getElem? (i := 6) rfl)
    have g7 := h2 _ (List.mem_of_getElem? (i := 7) rfl)
    obtain ⟨n0, e0, _⟩ := reads_int Try.underlying5 g0
    obtain ⟨n1, e1, _⟩ := reads_int Try.underlying5 g1
    obtain ⟨n2, e2, _⟩ := reads_int Try.underlying5 g2
    obtain ⟨n3, e3, _⟩ := reads_int Try.underlying3 g3
    obtain ⟨n4, e4, _⟩ := reads_int Try.underlying3 g4
    obtain ⟨n5, e5, _⟩ := reads_string Try.underlying9 g5
    obtain ⟨s, i, e6⟩ := reads_point g6
    obtain ⟨n7, e7⟩ := reads_bool Try.underlying4 g7
    have k0 : Try.prog.cellsOf 5 = 1 := by kernel_rfl
    have k1 : Try.prog.cellsOf 3 = 1 := by kernel_rfl
    have k2 : Try.prog.cellsOf 9 = 1 := by kernel_rfl
    have k3 : Try.prog.cellsOf 4 = 1 := by kernel_rfl
    have k4 : Try.prog.cellsOf 28 = 2 := by kernel_rfl
    simp only [k0, k1, k2, k3, k4, List.drop_zero, List.drop_succ_cons, List.take_succ_cons, List.take_zero, List.cons.injEq, and_true] at e0 e1 e2 e3 e4 e5 e6 e7
    exact ⟨⟨n0, n1, n2, n3, n4, n5, s, i, n7⟩, by rw [e0, e1, e2, e3, e4, e5, e6.1, e6.2, e7]; rfl⟩
theorem reads_acts {W : World} {v : Value} (h : Reads Try.prog W 22 [v]) : ∃ l, SlE actE W v l ∧ l.length ≤ maxLen :=
  reads_slE actE Try.underlying22 (by kernel_rfl) (fun _ h => reads_act h) h

set_option maxRecDepth 100000 in
theorem coinsPlay_lifted (os : Os) (started : os.Started) (H : Type) (enc : TypeId × Value → H) :
    ReturnsInHanded {} Try.checked os 3 .any (Rows.coinsPlaySpec.pre6 enc Try.prog Try.f3 Rows.coinsPlayRow.domain false) (Rows.coinsPlaySpec.post enc Try.prog Try.f3 false true false false) := by
  refine returnsInHanded_of_change (C := Try.checked) own started (by kernel_rfl) Try.func3
    (ChangeSpec.witness6 (enc := enc) (C := Try.checked) false ⟨#[], #[.slice none 0 0], []⟩ 8 (by kernel_rfl) (by kernel_rfl) (by kernel_rfl) (by kernel_rfl)) ?_
  intro W base args ds gs before hval0 hW hcnd _
  have hval : ∀ (j : Nat) t v, Try.f3.params[j]? = some t → args[j]? = some v → Value.okWide Try.prog W .any base t v := hval0
  have hW' := hW
  obtain ⟨p, q, hA0, hV, rfl, hfz, hnd⟩ := hW
  have hA : DataW.TrodAll enc Try.prog W 0 (fun _ => true) true Try.f3.params.toList args.toList ds p := hA0
  rw [Try.params3] at hA hval
  obtain ⟨v0, vs0, d0, ds0, p0, q0, hargs, rfl, rfl, h0, r0⟩ := trodAll_cons hA
  obtain ⟨rfl, rfl, rfl⟩ := trodAll_nil r0
  obtain rfl : args = #[v0] := by cases args; simp_all
  obtain ⟨rfl, rfl⟩ := trodVars_none hV
  have k0 := h0
  have lt0 : ∀ x ∈ p0, x.block < W.heap.size := by obtain ⟨m, hm⟩ := k0; exact DataW.trod_lt m _ _ _ hm
  obtain ⟨a0, len0, cap0, rfl⟩ := okWide_slice Try.underlying22 (hval 0 _ v0 rfl rfl)
  obtain ⟨l0, s0, _⟩ := reads_acts (v := .slice a0 len0 cap0) (by obtain ⟨m, hm⟩ := h0; exact ⟨_, _, _, _, _, m, _, hm⟩)
  clear hA0 hval0
  refine (play_law W s0).mono fun e W' ⟨r, he, hr, x⟩ => ?_
  subst hr
  have bel := x.below
  subst he
  exact ⟨_, rfl, _, _, _, [], _, [], hW', trodAll_mk1 (shut_bool Try.underlying4 _), trodAll_cons_mk (Below.trod laidOut (by kernel_rfl) (of_decide_eq_true (by kernel_rfl)) k0 bel lt0) trodAll_mk0, rfl, bel.frame _, fun h => by cases h⟩
theorem coinsPlay_over : Rows.coinsPlayRow.holds Try.pinned (OpenSpec.ofChange Rows.coinsPlaySpec) :=
  OpenClaim.holds_of_wide 3 Try.f3 rfl rfl rfl rfl rfl rfl rfl ⟨rfl, rfl, rfl, rfl, rfl⟩ rfl rfl rfl rfl rfl (by kernel_rfl) Try.func3 (by kernel_rfl)
    (of_decide_eq_true (by kernel_rfl)) (by unfold Func.isWrapper; first | (rw [if_pos (by decide +kernel)]; kernel_rfl) | (rw [if_neg (by decide +kernel)]; exact ⟨rfl, rfl⟩))
    (fun os started H enc _ => coinsPlay_lifted os started H enc)
/-- The statement CoinsPlay. -/
theorem coinsPlay_holds : Rows.CoinsPlaySaid := coinsPlay_over
#print axioms coinsPlay_holds
set_option maxRecDepth 100000 in
theorem coinsOrder_lifted (os : Os) (started : os.Started) (H : Type) (enc : TypeId × Value → H) :
    ReturnsInHanded {} Try.checked os 4 .any (Rows.coinsOrderSpec.pre6 enc Try.prog Try.f4 Rows.coinsOrderRow.domain false) (Rows.coinsOrderSpec.post enc Try.prog Try.f4 false true false false) := by
  refine returnsInHanded_of_change (C := Try.checked) own started (by kernel_rfl) Try.func4
    (ChangeSpec.witness6 (enc := enc) (C := Try.checked) false ⟨#[], #[.slice none 0 0], []⟩ 8 (by kernel_rfl) (by kernel_rfl) (by kernel_rfl) (by kernel_rfl)) ?_
  intro W base args ds gs before hval0 hW hcnd _
  have hval : ∀ (j : Nat) t v, Try.f4.params[j]? = some t → args[j]? = some v → Value.okWide Try.prog W .any base t v := hval0
  have hW' := hW
  obtain ⟨p, q, hA0, hV, rfl, hfz, hnd⟩ := hW
  have hA : DataW.TrodAll enc Try.prog W 0 (fun _ => true) true Try.f4.params.toList args.toList ds p := hA0
  rw [Try.params4] at hA hval
  obtain ⟨v0, vs0, d0, ds0, p0, q0, hargs, rfl, rfl, h0, r0⟩ := trodAll_cons hA
  obtain ⟨rfl, rfl, rfl⟩ := trodAll_nil r0
  obtain rfl : args = #[v0] := by cases args; simp_all
  obtain ⟨rfl, rfl⟩ := trodVars_none hV
  have k0 := h0
  have lt0 : ∀ x ∈ p0, x.block < W.heap.size := by obtain ⟨m, hm⟩ := k0; exact DataW.trod_lt m _ _ _ hm
  obtain ⟨a0, len0, cap0, rfl⟩ := okWide_slice Try.underlying22 (hval 0 _ v0 rfl rfl)
  obtain ⟨l0, s0, _⟩ := reads_acts (v := .slice a0 len0 cap0) (by obtain ⟨m, hm⟩ := h0; exact ⟨_, _, _, _, _, m, _, hm⟩)
  clear hA0 hval0
  refine (order_law W s0).mono fun e W' ⟨r, he, hr, x⟩ => ?_
  subst hr
  have bel := x.below
  subst he
  exact ⟨_, rfl, _, _, _, [], _, [], hW', trodAll_mk1 (shut_bool Try.underlying4 _), trodAll_cons_mk (Below.trod laidOut (by kernel_rfl) (of_decide_eq_true (by kernel_rfl)) k0 bel lt0) trodAll_mk0, rfl, bel.frame _, fun h => by cases h⟩
theorem coinsOrder_over : Rows.coinsOrderRow.holds Try.pinned (OpenSpec.ofChange Rows.coinsOrderSpec) :=
  OpenClaim.holds_of_wide 4 Try.f4 rfl rfl rfl rfl rfl rfl rfl ⟨rfl, rfl, rfl, rfl, rfl⟩ rfl rfl rfl rfl rfl (by kernel_rfl) Try.func4 (by kernel_rfl)
    (of_decide_eq_true (by kernel_rfl)) (by unfold Func.isWrapper; first | (rw [if_pos (by decide +kernel)]; kernel_rfl) | (rw [if_neg (by decide +kernel)]; exact ⟨rfl, rfl⟩))
    (fun os started H enc _ => coinsOrder_lifted os started H enc)
/-- The statement CoinsOrder. -/
theorem coinsOrder_holds : Rows.CoinsOrderSaid := coinsOrder_over
#print axioms coinsOrder_holds
set_option maxRecDepth 100000 in
theorem coinsCopy_lifted (os : Os) (started : os.Started) (H : Type) (enc : TypeId × Value → H) :
    ReturnsInHanded {} Try.checked os 5 .any (Rows.coinsCopySpec.pre6 enc Try.prog Try.f5 Rows.coinsCopyRow.domain false) (Rows.coinsCopySpec.post enc Try.prog Try.f5 false true false false) := by
  refine returnsInHanded_of_change (C := Try.checked) own started (by kernel_rfl) Try.func5
    (ChangeSpec.witness6 (enc := enc) (C := Try.checked) false ⟨#[], #[.slice none 0 0, .slice none 0 0], []⟩ 8 (by kernel_rfl) (by kernel_rfl) (by kernel_rfl) (by kernel_rfl)) ?_
  intro W base args ds gs before hval0 hW hcnd _
  have hval : ∀ (j : Nat) t v, Try.f5.params[j]? = some t → args[j]? = some v → Value.okWide Try.prog W .any base t v := hval0
  have hW' := hW
  obtain ⟨p, q, hA0, hV, rfl, hfz, hnd⟩ := hW
  have hA : DataW.TrodAll enc Try.prog W 0 (fun _ => true) true Try.f5.params.toList args.toList ds p := hA0
  rw [Try.params5] at hA hval
  obtain ⟨v0, vs0, d0, ds0, p0, q0, hargs, rfl, rfl, h0, r0⟩ := trodAll_cons hA
  obtain ⟨v1, vs1, d1, ds1, p1, q1, rfl, rfl, rfl, h1, r1⟩ := trodAll_cons r0
  obtain ⟨rfl, rfl, rfl⟩ := trodAll_nil r1
  obtain rfl : args = #[v0, v1] := by cases args; simp_all
  obtain ⟨rfl, rfl⟩ := trodVars_none hV
  have k0 := h0
  have lt0 : ∀ x ∈ p0, x.block < W.heap.size := by obtain ⟨m, hm⟩ := k0; exact DataW.trod_lt m _ _ _ hm
  have k1 := h1
  have lt1 : ∀ x ∈ p1, x.block < W.heap.size := by obtain ⟨m, hm⟩ := k1; exact DataW.trod_lt m _ _ _ hm
  obtain ⟨a0, len0, cap0, rfl⟩ := okWide_slice Try.underlying22 (hval 0 _ v0 rfl rfl)
  obtain ⟨a1, len1, cap1, rfl⟩ := okWide_slice Try.underlying22 (hval 1 _ v1 rfl rfl)
  obtain ⟨l0, s0, _⟩ := reads_acts (v := .slice a0 len0 cap0) (by obtain ⟨m, hm⟩ := h0; exact ⟨_, _, _, _, _, m, _, hm⟩)
  obtain ⟨l1, s1, _⟩ := reads_acts (v := .slice a1 len1 cap1) (by obtain ⟨m, hm⟩ := h1; exact ⟨_, _, _, _, _, m, _, hm⟩)
  clear hA0 hval0
  refine (copy_law W s0 s1).mono fun e W' ⟨r, he, hr, x⟩ => ?_
  subst hr
  have bel := x.below
  subst he
  exact ⟨_, rfl, _, _, _, [], _, [], hW', trodAll_mk1 (shut_bool Try.underlying4 _), trodAll_cons_mk (Below.trod laidOut (by kernel_rfl) (of_decide_eq_true (by kernel_rfl)) k0 bel lt0) (trodAll_cons_mk (Below.trod laidOut (by kernel_rfl) (of_decide_eq_true (by kernel_rfl)) k1 bel lt1) trodAll_mk0), rfl, bel.frame _, fun h => by cases h⟩
theorem coinsCopy_over : Rows.coinsCopyRow.holds Try.pinned (OpenSpec.ofChange Rows.coinsCopySpec) :=
  OpenClaim.holds_of_wide 5 Try.f5 rfl rfl rfl rfl rfl rfl rfl ⟨rfl, rfl, rfl, rfl, rfl⟩ rfl rfl rfl rfl rfl (by kernel_rfl) Try.func5 (by kernel_rfl)
    (of_decide_eq_true (by kernel_rfl)) (by unfold Func.isWrapper; first | (rw [if_pos (by decide +kernel)]; kernel_rfl) | (rw [if_neg (by decide +kernel)]; exact ⟨rfl, rfl⟩))
    (fun os started H enc _ => coinsCopy_lifted os started H enc)
/-- The statement CoinsCopy. -/
theorem coinsCopy_holds : Rows.CoinsCopySaid := coinsCopy_over
#print axioms coinsCopy_holds
set_option maxRecDepth 100000 in
theorem coinsNil_lifted (os : Os) (started : os.Started) (H : Type) (enc : TypeId × Value → H) :
    ReturnsInHanded {} Try.checked os 6 .any (Rows.coinsNilSpec.pre6 enc Try.prog Try.f6 Rows.coinsNilRow.domain false) (Rows.coinsNilSpec.post enc Try.prog Try.f6 false true false false) := by
  refine returnsInHanded_of_change (C := Try.checked) own started (by kernel_rfl) Try.func6
    (ChangeSpec.witness6 (enc := enc) (C := Try.checked) false ⟨#[], #[.agg #[.int .u8 0, .int .u8 0, .int .u8 0, .int .i64 0, .int .i64 0, .string ⟨#[]⟩, .string ⟨#[]⟩, .int .u32 0, .bool false]], []⟩ 8 (by kernel_rfl) (by kernel_rfl) (by kernel_rfl) (by kernel_rfl)) ?_
  intro W base args ds gs before hval0 hW hcnd _
  have hval : ∀ (j : Nat) t v, Try.f6.params[j]? = some t → args[j]? = some v → Value.okWide Try.prog W .any base t v := hval0
  have hW' := hW
  obtain ⟨p, q, hA0, hV, rfl, hfz, hnd⟩ := hW
  have hA : DataW.TrodAll enc Try.prog W 0 (fun _ => true) true Try.f6.params.toList args.toList ds p := hA0
  rw [Try.params6] at hA hval
  obtain ⟨v0, vs0, d0, ds0, p0, q0, hargs, rfl, rfl, h0, r0⟩ := trodAll_cons hA
  obtain ⟨rfl, rfl, rfl⟩ := trodAll_nil r0
  obtain rfl : args = #[v0] := by cases args; simp_all
  obtain ⟨rfl, rfl⟩ := trodVars_none hV
  have k0 := h0
  have lt0 : ∀ x ∈ p0, x.block < W.heap.size := by obtain ⟨m, hm⟩ := k0; exact DataW.trod_lt m _ _ _ hm
  obtain ⟨cs, rfl, _⟩ := okWide_struct Try.underlying30 (hval 0 _ v0 rfl rfl)
  obtain ⟨a, ha⟩ := reads_act (W := W) (c := cs.toList) (by obtain ⟨m, hm⟩ := h0; exact ⟨_, _, _, _, _, m, _, hm⟩)
  have hc : cs = a.cs.toArray := by rw [← ha]
  subst hc
  clear hA0 hval0
  refine (nil_law a W).mono fun e W' ⟨r, he, hr, x⟩ => ?_
  subst hr
  have bel := x.below
  subst he
  exact ⟨_, rfl, _, _, _, [], _, [], hW', trodAll_mk1 (shut_bool Try.underlying4 _), trodAll_cons_mk (Below.trod laidOut (by kernel_rfl) (of_decide_eq_true (by kernel_rfl)) k0 bel lt0) trodAll_mk0, rfl, bel.frame _, fun h => by cases h⟩
theorem coinsNil_over : Rows.coinsNilRow.holds Try.pinned (OpenSpec.ofChange Rows.coinsNilSpec) :=
  OpenClaim.holds_of_wide 6 Try.f6 rfl rfl rfl rfl rfl rfl rfl ⟨rfl, rfl, rfl, rfl, rfl⟩ rfl rfl rfl rfl rfl (by kernel_rfl) Try.func6 (by kernel_rfl)
    (of_decide_eq_true (by kernel_rfl)) (by unfold Func.isWrapper; first | (rw [if_pos (by decide +kernel)]; kernel_rfl) | (rw [if_neg (by decide +kernel)]; exact ⟨rfl, rfl⟩))
    (fun os started H enc _ => coinsNil_lifted os started H enc)
/-- The statement CoinsNil. -/
theorem coinsNil_holds : Rows.CoinsNilSaid := coinsNil_over
#print axioms coinsNil_holds
end Go.Proofs.Ytfpdfjfjmockbaa
