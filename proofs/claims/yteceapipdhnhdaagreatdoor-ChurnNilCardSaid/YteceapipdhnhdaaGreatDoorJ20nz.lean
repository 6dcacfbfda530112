/- The law ChurnNil returns true for every input, and leaves its arguments as they were. Conditions: none beyond those of the given statement. -/
import Derived.Test.YteceapipdhnhdaaGreatDoorChecked
import Derived.Test.YteceapipdhnhdaaGreatDoorTie
import Derived.Test.YteceapipdhnhdaaGreatDoorCards
import Derived.SevenTiedAt
import Derived.Test.YteceapipdhnhdaaGreatDoorNa50
set_option linter.unusedVariables false
set_option linter.unusedSimpArgs false
namespace Go.Proofs.YteceapipdhnhdaaGreatDoor
open Go Go.K Go.ChangeShapes Go.WideShapes Go.ChangeAt Go.RowKit
set_option linter.unusedVariables false
set_option maxRecDepth 100000 in
theorem churnNil_lifted (os : Os) (started : os.Started) (H : Type) (enc : TypeId × Value → H) :
    ReturnsInHanded {} Tryz.checked os 3 .any (fun w args => (Rows.churnNilSpec.pre enc Tryz.prog Tryz.f3 Rows.churnNilRow.domain false w args ∧ laidMetH Tryz.prog aTq w) ∧ sizedMet enc Tryz.prog Tryz.f3 (OpenSpec.ofChange Rows.churnNilSpec) false w args) (Rows.churnNilSpec.post enc Tryz.prog Tryz.f3 false true false false) := by
  refine returnsInHanded_of_change_and (C := Tryz.checked) (X := fun w _ => laidMetH Tryz.prog aTq w) (fun _ _ _ hh h => h.of_heap hh) own started (by kernel_rfl) Tryz.func3
    (ChangeSpec.witness_at (enc := enc) (C := Tryz.checked) (os := os) (X := fun w _ => laidMetH Tryz.prog aTq w) false (aRv os) #[.agg #[.int .u32 0, .slice none 0 0, .slice none 0 0, .int .u32 0], .agg #[.string ⟨#[]⟩, .int .u32 0], .int .i64 0] 8 rfl (by kernel_rfl) (by kernel_rfl) (by kernel_rfl) (by kernel_rfl) (by kernel_rfl) (aQ4 os _)) ?_
  intro W base args ds gs before hval0 hW hcnd _ hL _
  have hE := aZ9 hL
  have hval : ∀ (j : Nat) t v, Tryz.f3.params[j]? = some t → args[j]? = some v → Value.okWide Tryz.prog W .any base t v := hval0
  have hW' := hW
  obtain ⟨p, q, hA0, hV, rfl, hfz, hnd⟩ := hW
  have hA : DataW.TrodAll enc Tryz.prog W 0 (fun _ => true) true Tryz.f3.params.toList args.toList ds p := hA0
  rw [Tryz.params3] at hA hval
  obtain ⟨v0, vs0, d0, ds0, p0, q0, hargs, rfl, rfl, h0, r0⟩ := trodAll_cons hA
  obtain ⟨v1, vs1, d1, ds1, p1, q1, rfl, rfl, rfl, h1, r1⟩ := trodAll_cons r0
  obtain ⟨v2, vs2, d2, ds2, p2, q2, rfl, rfl, rfl, h2, r2⟩ := trodAll_cons r1
  obtain ⟨rfl, rfl, rfl⟩ := trodAll_nil r2
  obtain rfl : args = #[v0, v1, v2] := by cases args; simp_all
  obtain ⟨rfl, rfl⟩ := trodVars_none hV
  have k0 := h0
  have lt0 : ∀ x ∈ p0, x.block < W.heap.size := by obtain ⟨m, hm⟩ := k0; exact DataW.trod_lt m _ _ _ hm
  have k1 := h1
  have lt1 : ∀ x ∈ p1, x.block < W.heap.size := by obtain ⟨m, hm⟩ := k1; exact DataW.trod_lt m _ _ _ hm
  have k2 := h2
  have lt2 : ∀ x ∈ p2, x.block < W.heap.size := by obtain ⟨m, hm⟩ := k2; exact DataW.trod_lt m _ _ _ hm
  obtain ⟨cs0, rfl, _⟩ := okWide_struct Tryz.underlying26 (hval 0 _ v0 rfl rfl)
  obtain ⟨l0, s0⟩ := bJ3 (W := W) (c := cs0.toList) (by obtain ⟨m, hm⟩ := h0; exact ⟨_, _, _, _, _, m, _, hm⟩)
  obtain ⟨cs1, rfl, _⟩ := okWide_struct Tryz.underlying28 (hval 1 _ v1 rfl rfl)
  obtain ⟨l1, e1, s1⟩ := aLg (W := W) (c := cs1.toList) (by obtain ⟨m, hm⟩ := h1; exact ⟨_, _, _, _, _, m, _, hm⟩)
  have hc1 : cs1 = l1.cs.toArray := by rw [← e1]
  subst hc1
  obtain ⟨l2, rfl⟩ := okWide_int Tryz.underlying3 (hval 2 _ v2 rfl rfl)
  obtain ⟨m2, e2, s2⟩ := aR1 (W := W) (c := [.int .i64 l2]) (by obtain ⟨m, hm⟩ := h2; exact ⟨_, _, _, _, _, m, _, hm⟩)
  obtain rfl : l2 = m2 := by simpa using e2
  clear hA0 hval0
  refine (aT4 l1 l2 W hE s0.1 s0.2).mono fun e W' ⟨r, he, hr, x⟩ => ?_
  subst hr
  have bel := x.below
  subst he
  exact ⟨_, rfl, _, _, _, [], _, [], hW', trodAll_mk1 (shut_bool Tryz.underlying4 _), trodAll_cons_mk (Below.trod laidOut (by kernel_rfl) (of_decide_eq_true (by kernel_rfl)) k0 bel lt0) (trodAll_cons_mk (Below.trod laidOut (by kernel_rfl) (of_decide_eq_true (by kernel_rfl)) k1 bel lt1) (trodAll_cons_mk (Below.trod laidOut (by kernel_rfl) (of_decide_eq_true (by kernel_rfl)) k2 bel lt2) trodAll_mk0)), rfl, bel.frame _, fun h => by cases h⟩
theorem churnNil_named : Tryz.pinned.checked.prog.funcNamed Rows.churnNilRow.func = some 3 := by kernel_rfl
theorem churnNil_wrap : Tryz.f3.isWrapper Tryz.pinned.checked.prog Rows.churnNilRow.wrapper Rows.churnNilRow.mainSum := by
  unfold Func.isWrapper
  first
    | (rw [if_pos (by decide +kernel)]; kernel_rfl)
    | (rw [if_neg (by decide +kernel)]; exact ⟨rfl, rfl⟩)
theorem churnNil_inst : Tryz.f3.isInstance Tryz.pinned.checked.prog Rows.churnNilRow.origin Rows.churnNilRow.targs := of_decide_eq_true (by kernel_rfl)
theorem churnNil_over : Rows.churnNilRow.holds Tryz.pinned (OpenSpec.ofChange Rows.churnNilSpec) :=
  OpenClaim.holds_of_wide 3 Tryz.f3 rfl rfl rfl rfl rfl rfl rfl ⟨rfl, rfl, rfl, rfl, rfl⟩ rfl rfl rfl rfl rfl churnNil_named Tryz.func3 aOc churnNil_inst churnNil_wrap
    (fun os started H enc _ => churnNil_lifted os started H enc)
/-- The statement ChurnNil: the tied card of its row. -/
theorem churnNil_card : Rows.ChurnNilCardSaid :=
  Claim7.holds_tied_plain_at .later [] [.handle] true (true, "cbe8f654f87935e707d2bf1e817c9d661268e0dd3affa53bbe8ad883db0d7f5c") true
    churnNil_over (fun _ h => by cases h) (by kernel_rfl) (fun _ h => by cases h) churnNil_row_tie rfl ⟨rfl, rfl⟩ (by kernel_rfl) rfl
    (fun f fn hf hfn => by
      obtain rfl : f = 3 := Option.some.inj ((show Tryz.prog.funcNamed "kedge/kedgelaw20.ChurnNil" = some 3 by kernel_rfl).symm.trans hf) |>.symm
      obtain rfl : fn = Tryz.f3 := (Option.some.inj (Tryz.func3.symm.trans hfn)).symm
      exact ⟨by kernel_rfl, fun j t ht => by
        rw [Tryz.params3] at ht
        rcases j with _ | j
        · obtain rfl : 26 = t := by simpa using ht
          exact (show Tryz.prog.wantsStandIn 26 = false by kernel_rfl)
        rcases j with _ | j
        · obtain rfl : 28 = t := by simpa using ht
          exact (show Tryz.prog.wantsStandIn 28 = false by kernel_rfl)
        rcases j with _ | j
        · obtain rfl : 3 = t := by simpa using ht
          exact (show Tryz.prog.wantsStandIn 3 = false by kernel_rfl)
        simp at ht⟩)
    (by kernel_rfl)
#print axioms churnNil_card
end Go.Proofs.YteceapipdhnhdaaGreatDoor
