/- The law BlockState returns true for every input, and leaves its arguments as they were. Conditions: none beyond those of the given statement. -/
import Derived.Test.YtgloknkcfchnlaaGreatDoorChecked
import Derived.Test.YtgloknkcfchnlaaGreatDoorTie
import Derived.Test.YtgloknkcfchnlaaGreatDoorCards
import Derived.SevenTiedAt
import Derived.Test.YtgloknkcfchnlaaGreatDoorZ53
set_option linter.unusedVariables false
set_option linter.unusedSimpArgs false
namespace Go.Proofs.YtgloknkcfchnlaaGreatDoor
open Go Go.K Go.ChangeShapes Go.WideShapes Go.ChangeAt Go.RowKit
set_option linter.unusedVariables false
set_option maxRecDepth 100000 in
theorem blockState_lifted (os : Os) (started : os.Started) (H : Type) (enc : TypeId × Value → H) :
    ReturnsInHanded {} Tryz.checked os 4 .any (fun w args => (Rows.blockStateSpec.pre enc Tryz.prog Tryz.f4 Rows.blockStateRow.domain false w args ∧ laidMetH Tryz.prog jH w) ∧ sizedMet enc Tryz.prog Tryz.f4 (OpenSpec.ofChange Rows.blockStateSpec) false w args) (Rows.blockStateSpec.post enc Tryz.prog Tryz.f4 false true false false) := by
  refine returnsInHanded_of_change_and (C := Tryz.checked) (X := fun w _ => laidMetH Tryz.prog jH w) (fun _ _ _ hh h => h.of_heap hh) own started (by kernel_rfl) Tryz.func4
    (ChangeSpec.witness_at (enc := enc) (C := Tryz.checked) (os := os) (X := fun w _ => laidMetH Tryz.prog jH w) false (lB os) #[.slice none 0 0, .int .u8 0] 8 rfl (by kernel_rfl) (by kernel_rfl) (by kernel_rfl) (by kernel_rfl) (by kernel_rfl) (gX os _)) ?_
  intro W base args ds gs before hval0 hW hcnd _ hL _
  have hE := kH hL
  have hval : ∀ (j : Nat) t v, Tryz.f4.params[j]? = some t → args[j]? = some v → Value.okWide Tryz.prog W .any base t v := hval0
  have hW' := hW
  obtain ⟨p, q, hA0, hV, rfl, hfz, hnd⟩ := hW
  have hA : DataW.TrodAll enc Tryz.prog W 0 (fun _ => true) true Tryz.f4.params.toList args.toList ds p := hA0
  rw [Tryz.params4] at hA hval
  obtain ⟨v0, vs0, d0, ds0, p0, q0, hargs, rfl, rfl, h0, r0⟩ := trodAll_cons hA
  obtain ⟨v1, vs1, d1, ds1, p1, q1, rfl, rfl, rfl, h1, r1⟩ := trodAll_cons r0
  obtain ⟨rfl, rfl, rfl⟩ := trodAll_nil r1
  obtain rfl : args = #[v0, v1] := by cases args; simp_all
  obtain ⟨rfl, rfl⟩ := trodVars_none hV
  have k0 := h0
  have lt0 : ∀ x ∈ p0, x.block < W.heap.size := by obtain ⟨m, hm⟩ := k0; exact DataW.trod_lt m _ _ _ hm
  have k1 := h1
  have lt1 : ∀ x ∈ p1, x.block < W.heap.size := by obtain ⟨m, hm⟩ := k1; exact DataW.trod_lt m _ _ _ hm
  obtain ⟨a0, len0, cap0, rfl⟩ := okWide_slice Tryz.underlying28 (hval 0 _ v0 rfl rfl)
  obtain ⟨l0, s0, hl0⟩ := aE1 (v := .slice a0 len0 cap0) (by obtain ⟨m, hm⟩ := h0; exact ⟨_, _, _, _, _, m, _, hm⟩)
  obtain ⟨n1, rfl⟩ := okWide_int Tryz.underlying5 (hval 1 _ v1 rfl rfl)
  obtain ⟨l1, e1⟩ := pJ (W := W) (c := [.int .u8 n1]) (by obtain ⟨m, hm⟩ := h1; exact ⟨_, _, _, _, _, m, _, hm⟩)
  obtain rfl : n1 = ((l1.toNat : Nat) : Int) := by simpa [u8V] using e1
  clear hA0 hval0
  refine (aE3 l1 W hE s0).mono fun e W' ⟨r, he, hr, x⟩ => ?_
  subst hr
  have bel := x.below
  subst he
  exact ⟨_, rfl, _, _, _, [], _, [], hW', trodAll_mk1 (shut_bool Tryz.underlying4 _), trodAll_cons_mk (Below.trod laidOut (by kernel_rfl) (of_decide_eq_true (by kernel_rfl)) k0 bel lt0) (trodAll_cons_mk (Below.trod laidOut (by kernel_rfl) (of_decide_eq_true (by kernel_rfl)) k1 bel lt1) trodAll_mk0), rfl, bel.frame _, fun h => by cases h⟩
theorem blockState_facts : joinedFacts Tryz.pinned.checked.prog 4 Tryz.f4 Rows.blockStateSpec Rows.blockStateRow = true := of_decide_eq_true (by kernel_rfl)
theorem blockState_named : Tryz.pinned.checked.prog.funcNamed Rows.blockStateRow.func = some 4 := by kernel_rfl
theorem blockState_wrap : Tryz.f4.isWrapper Tryz.pinned.checked.prog Rows.blockStateRow.wrapper Rows.blockStateRow.mainSum := by
  unfold Func.isWrapper
  first
    | (rw [if_pos (by decide +kernel)]; kernel_rfl)
    | (rw [if_neg (by decide +kernel)]; exact ⟨rfl, rfl⟩)
theorem blockState_inst : Tryz.f4.isInstance Tryz.pinned.checked.prog Rows.blockStateRow.origin Rows.blockStateRow.targs := of_decide_eq_true (by kernel_rfl)
theorem blockState_over : Rows.blockStateRow.holds Tryz.pinned (OpenSpec.ofChange Rows.blockStateSpec) :=
  OpenClaim.holds_of_wide 4 Tryz.f4 rfl rfl rfl rfl rfl rfl rfl ⟨rfl, rfl, rfl, rfl, rfl⟩ rfl rfl rfl rfl rfl blockState_named Tryz.func4 blockState_facts blockState_inst blockState_wrap
    (fun os started H enc _ => blockState_lifted os started H enc)
/-- The statement BlockState: the tied card of its row. -/
theorem blockState_card : Rows.BlockStateCardSaid :=
  Claim7.holds_tied_plain_at .later [] [.handle] true (true, "549ec45d6412607da991b035651527e5733ba434e95bfb2c54bec40fbcc9148f") true
    blockState_over (fun _ h => by cases h) (by kernel_rfl) (fun _ h => by cases h) blockState_row_tie rfl ⟨rfl, rfl⟩ (by kernel_rfl) rfl
    (fun f fn hf hfn => by
      obtain rfl : f = 4 := Option.some.inj ((show Tryz.prog.funcNamed "kedge/kedgelaw12.BlockState" = some 4 by kernel_rfl).symm.trans hf) |>.symm
      obtain rfl : fn = Tryz.f4 := (Option.some.inj (Tryz.func4.symm.trans hfn)).symm
      exact ⟨by kernel_rfl, fun j t ht => by
        rw [Tryz.params4] at ht
        rcases j with _ | j
        · obtain rfl : 28 = t := by simpa using ht
          exact (show Tryz.prog.wantsStandIn 28 = false by kernel_rfl)
        rcases j with _ | j
        · obtain rfl : 5 = t := by simpa using ht
          exact (show Tryz.prog.wantsStandIn 5 = false by kernel_rfl)
        simp at ht⟩)
    (by kernel_rfl)
#print axioms blockState_card
end Go.Proofs.YtgloknkcfchnlaaGreatDoor
