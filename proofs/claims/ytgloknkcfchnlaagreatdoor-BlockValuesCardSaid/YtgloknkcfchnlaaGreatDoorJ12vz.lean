/- The law BlockValues returns true for every input, and leaves its arguments as they were. Conditions: none beyond those of the given statement. -/
import Derived.Test.YtgloknkcfchnlaaGreatDoorChecked
import Derived.Test.YtgloknkcfchnlaaGreatDoorTie
import Derived.Test.YtgloknkcfchnlaaGreatDoorCards
import Derived.SevenTiedAt
import Derived.Test.YtgloknkcfchnlaaGreatDoorZ49
import Derived.Test.YtgloknkcfchnlaaGreatDoorZ54
set_option linter.unusedVariables false
set_option linter.unusedSimpArgs false
namespace Go.Proofs.YtgloknkcfchnlaaGreatDoor
open Go Go.K Go.ChangeShapes Go.WideShapes Go.ChangeAt Go.RowKit
set_option linter.unusedVariables false
set_option maxRecDepth 100000 in
theorem blockValues_lifted (os : Os) (started : os.Started) (H : Type) (enc : TypeId × Value → H) :
    ReturnsInHanded {} Tryz.checked os 5 .any (fun w args => (Rows.blockValuesSpec.pre enc Tryz.prog Tryz.f5 Rows.blockValuesRow.domain false w args ∧ laidMetH Tryz.prog jH w) ∧ sizedMet enc Tryz.prog Tryz.f5 (OpenSpec.ofChange Rows.blockValuesSpec) false w args) (Rows.blockValuesSpec.post enc Tryz.prog Tryz.f5 false true false false) := by
  refine returnsInHanded_of_change_and (C := Tryz.checked) (X := fun w _ => laidMetH Tryz.prog jH w) (fun _ _ _ hh h => h.of_heap hh) own started (by kernel_rfl) Tryz.func5
    (ChangeSpec.witness_at (enc := enc) (C := Tryz.checked) (os := os) (X := fun w _ => laidMetH Tryz.prog jH w) false (lB os) #[.slice none 0 0] 8 rfl (by kernel_rfl) (by kernel_rfl) (by kernel_rfl) (by kernel_rfl) (by kernel_rfl) (gX os _)) ?_
  intro W base args ds gs before hval0 hW hcnd _ hL _
  have hE := kH hL
  have hval : ∀ (j : Nat) t v, Tryz.f5.params[j]? = some t → args[j]? = some v → Value.okWide Tryz.prog W .any base t v := hval0
  have hW' := hW
  obtain ⟨p, q, hA0, hV, rfl, hfz, hnd⟩ := hW
  have hA : DataW.TrodAll enc Tryz.prog W 0 (fun _ => true) true Tryz.f5.params.toList args.toList ds p := hA0
  rw [Tryz.params5] at hA hval
  obtain ⟨v0, vs0, d0, ds0, p0, q0, hargs, rfl, rfl, h0, r0⟩ := trodAll_cons hA
  obtain ⟨rfl, rfl, rfl⟩ := trodAll_nil r0
  obtain rfl : args = #[v0] := by cases args; simp_all
  obtain ⟨rfl, rfl⟩ := trodVars_none hV
  have k0 := h0
  have lt0 : ∀ x ∈ p0, x.block < W.heap.size := by obtain ⟨m, hm⟩ := k0; exact DataW.trod_lt m _ _ _ hm
  obtain ⟨a0, len0, cap0, rfl⟩ := okWide_slice Tryz.underlying22 (hval 0 _ v0 rfl rfl)
  obtain ⟨l0, s0, hl0⟩ := sX (v := .slice a0 len0 cap0) (by obtain ⟨m, hm⟩ := h0; exact ⟨_, _, _, _, _, m, _, hm⟩)
  clear hA0 hval0
  refine (aC5 W hE s0).mono fun e W' ⟨r, he, hr, x⟩ => ?_
  subst hr
  have bel := x.below
  subst he
  exact ⟨_, rfl, _, _, _, [], _, [], hW', trodAll_mk1 (shut_bool Tryz.underlying4 _), trodAll_cons_mk (Below.trod laidOut (by kernel_rfl) (of_decide_eq_true (by kernel_rfl)) k0 bel lt0) trodAll_mk0, rfl, bel.frame _, fun h => by cases h⟩
theorem blockValues_facts : joinedFacts Tryz.pinned.checked.prog 5 Tryz.f5 Rows.blockValuesSpec Rows.blockValuesRow = true := of_decide_eq_true (by kernel_rfl)
theorem blockValues_named : Tryz.pinned.checked.prog.funcNamed Rows.blockValuesRow.func = some 5 := by kernel_rfl
theorem blockValues_wrap : Tryz.f5.isWrapper Tryz.pinned.checked.prog Rows.blockValuesRow.wrapper Rows.blockValuesRow.mainSum := by
  unfold Func.isWrapper
  first
    | (rw [if_pos (by decide +kernel)]; kernel_rfl)
    | (rw [if_neg (by decide +kernel)]; exact ⟨rfl, rfl⟩)
theorem blockValues_inst : Tryz.f5.isInstance Tryz.pinned.checked.prog Rows.blockValuesRow.origin Rows.blockValuesRow.targs := of_decide_eq_true (by kernel_rfl)
theorem blockValues_over : Rows.blockValuesRow.holds Tryz.pinned (OpenSpec.ofChange Rows.blockValuesSpec) :=
  OpenClaim.holds_of_wide 5 Tryz.f5 rfl rfl rfl rfl rfl rfl rfl ⟨rfl, rfl, rfl, rfl, rfl⟩ rfl rfl rfl rfl rfl blockValues_named Tryz.func5 blockValues_facts blockValues_inst blockValues_wrap
    (fun os started H enc _ => blockValues_lifted os started H enc)
/-- The statement BlockValues: the tied card of its row. -/
theorem blockValues_card : Rows.BlockValuesCardSaid :=
  Claim7.holds_tied_plain_at .later [] [.handle] true (true, "549ec45d6412607da991b035651527e5733ba434e95bfb2c54bec40fbcc9148f") true
    blockValues_over (fun _ h => by cases h) (by kernel_rfl) (fun _ h => by cases h) blockValues_row_tie rfl ⟨rfl, rfl⟩ (by kernel_rfl) rfl
    (fun f fn hf hfn => by
      obtain rfl : f = 5 := Option.some.inj ((show Tryz.prog.funcNamed "kedge/kedgelaw12.BlockValues" = some 5 by kernel_rfl).symm.trans hf) |>.symm
      obtain rfl : fn = Tryz.f5 := (Option.some.inj (Tryz.func5.symm.trans hfn)).symm
      exact ⟨by kernel_rfl, fun j t ht => by
        rw [Tryz.params5] at ht
        rcases j with _ | j
        · obtain rfl : 22 = t := by simpa using ht
          exact (show Tryz.prog.wantsStandIn 22 = false by kernel_rfl)
        simp at ht⟩)
    (by kernel_rfl)
#print axioms blockValues_card
end Go.Proofs.YtgloknkcfchnlaaGreatDoor
