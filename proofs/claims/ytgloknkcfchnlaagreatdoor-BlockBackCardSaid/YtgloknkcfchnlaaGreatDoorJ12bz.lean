/- The law BlockBack returns true for every input, and leaves its arguments as they were. Conditions: none beyond those of the given statement. -/
import Derived.Test.YtgloknkcfchnlaaGreatDoorChecked
import Derived.Test.YtgloknkcfchnlaaGreatDoorTie
import Derived.Test.YtgloknkcfchnlaaGreatDoorCards
import Derived.SevenTiedAt
import Derived.Test.YtgloknkcfchnlaaGreatDoorZ49
import Derived.Test.YtgloknkcfchnlaaGreatDoorZ50
set_option linter.unusedVariables false
set_option linter.unusedSimpArgs false
namespace Go.Proofs.YtgloknkcfchnlaaGreatDoor
open Go Go.K Go.ChangeShapes Go.WideShapes Go.ChangeAt Go.RowKit
set_option linter.unusedVariables false
set_option maxRecDepth 100000 in
theorem blockBack_lifted (os : Os) (started : os.Started) (H : Type) (enc : TypeId × Value → H) :
    ReturnsInHanded {} Tryz.checked os 3 .any (fun w args => (Rows.blockBackSpec.pre enc Tryz.prog Tryz.f3 Rows.blockBackRow.domain false w args ∧ laidMetH Tryz.prog jH w) ∧ sizedMet enc Tryz.prog Tryz.f3 (OpenSpec.ofChange Rows.blockBackSpec) false w args) (Rows.blockBackSpec.post enc Tryz.prog Tryz.f3 false true false false) := by
  refine returnsInHanded_of_change_and (C := Tryz.checked) (X := fun w _ => laidMetH Tryz.prog jH w) (fun _ _ _ hh h => h.of_heap hh) own started (by kernel_rfl) Tryz.func3
    (ChangeSpec.witness_at (enc := enc) (C := Tryz.checked) (os := os) (X := fun w _ => laidMetH Tryz.prog jH w) false (lB os) #[.slice none 0 0] 8 rfl (by kernel_rfl) (by kernel_rfl) (by kernel_rfl) (by kernel_rfl) (by kernel_rfl) (gX os _)) ?_
  intro W base args ds gs before hval0 hW hcnd _ hL _
  have hE := kH hL
  have hval : ∀ (j : Nat) t v, Tryz.f3.params[j]? = some t → args[j]? = some v → Value.okWide Tryz.prog W .any base t v := hval0
  have hW' := hW
  obtain ⟨p, q, hA0, hV, rfl, hfz, hnd⟩ := hW
  have hA : DataW.TrodAll enc Tryz.prog W 0 (fun _ => true) true Tryz.f3.params.toList args.toList ds p := hA0
  rw [Tryz.params3] at hA hval
  obtain ⟨v0, vs0, d0, ds0, p0, q0, hargs, rfl, rfl, h0, r0⟩ := trodAll_cons hA
  obtain ⟨rfl, rfl, rfl⟩ := trodAll_nil r0
  obtain rfl : args = #[v0] := by cases args; simp_all
  obtain ⟨rfl, rfl⟩ := trodVars_none hV
  have k0 := h0
  have lt0 : ∀ x ∈ p0, x.block < W.heap.size := by obtain ⟨m, hm⟩ := k0; exact DataW.trod_lt m _ _ _ hm
  obtain ⟨a0, len0, cap0, rfl⟩ := okWide_slice Tryz.underlying22 (hval 0 _ v0 rfl rfl)
  obtain ⟨l0, s0, hl0⟩ := sX (v := .slice a0 len0 cap0) (by obtain ⟨m, hm⟩ := h0; exact ⟨_, _, _, _, _, m, _, hm⟩)
  clear hA0 hval0
  refine (aFz W hE s0).mono fun e W' ⟨r, he, hr, x⟩ => ?_
  subst hr
  have bel := x.below
  subst he
  exact ⟨_, rfl, _, _, _, [], _, [], hW', trodAll_mk1 (shut_bool Tryz.underlying4 _), trodAll_cons_mk (Below.trod laidOut (by kernel_rfl) (of_decide_eq_true (by kernel_rfl)) k0 bel lt0) trodAll_mk0, rfl, bel.frame _, fun h => by cases h⟩
theorem blockBack_facts : joinedFacts Tryz.pinned.checked.prog 3 Tryz.f3 Rows.blockBackSpec Rows.blockBackRow = true := of_decide_eq_true (by kernel_rfl)
theorem blockBack_named : Tryz.pinned.checked.prog.funcNamed Rows.blockBackRow.func = some 3 := by kernel_rfl
theorem blockBack_wrap : Tryz.f3.isWrapper Tryz.pinned.checked.prog Rows.blockBackRow.wrapper Rows.blockBackRow.mainSum := by
  unfold Func.isWrapper
  first
    | (rw [if_pos (by decide +kernel)]; kernel_rfl)
    | (rw [if_neg (by decide +kernel)]; exact ⟨rfl, rfl⟩)
theorem blockBack_inst : Tryz.f3.isInstance Tryz.pinned.checked.prog Rows.blockBackRow.origin Rows.blockBackRow.targs := of_decide_eq_true (by kernel_rfl)
theorem blockBack_over : Rows.blockBackRow.holds Tryz.pinned (OpenSpec.ofChange Rows.blockBackSpec) :=
  OpenClaim.holds_of_wide 3 Tryz.f3 rfl rfl rfl rfl rfl rfl rfl ⟨rfl, rfl, rfl, rfl, rfl⟩ rfl rfl rfl rfl rfl blockBack_named Tryz.func3 blockBack_facts blockBack_inst blockBack_wrap
    (fun os started H enc _ => blockBack_lifted os started H enc)
/-- The statement BlockBack: the tied card of its row. -/
theorem blockBack_card : Rows.BlockBackCardSaid :=
  Claim7.holds_tied_plain_at .later [] [.handle] true (true, "549ec45d6412607da991b035651527e5733ba434e95bfb2c54bec40fbcc9148f") true
    blockBack_over (fun _ h => by cases h) (by kernel_rfl) (fun _ h => by cases h) blockBack_row_tie rfl ⟨rfl, rfl⟩ (by kernel_rfl) rfl
    (fun f fn hf hfn => by
      obtain rfl : f = 3 := Option.some.inj ((show Tryz.prog.funcNamed "kedge/kedgelaw12.BlockBack" = some 3 by kernel_rfl).symm.trans hf) |>.symm
      obtain rfl : fn = Tryz.f3 := (Option.some.inj (Tryz.func3.symm.trans hfn)).symm
      exact ⟨by kernel_rfl, fun j t ht => by
        rw [Tryz.params3] at ht
        rcases j with _ | j
        · obtain rfl : 22 = t := by simpa using ht
          exact (show Tryz.prog.wantsStandIn 22 = false by kernel_rfl)
        simp at ht⟩)
    (by kernel_rfl)
#print axioms blockBack_card
end Go.Proofs.YtgloknkcfchnlaaGreatDoor
