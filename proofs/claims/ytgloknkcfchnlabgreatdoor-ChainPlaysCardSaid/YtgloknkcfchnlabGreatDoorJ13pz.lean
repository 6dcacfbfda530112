/- The law ChainPlays returns true for every input, and leaves its arguments as they were. Conditions: none beyond those of the given statement. -/
import Derived.Test.YtgloknkcfchnlabGreatDoorChecked
import Derived.Test.YtgloknkcfchnlabGreatDoorTie
import Derived.Test.YtgloknkcfchnlabGreatDoorCards
import Derived.SevenTiedAt
import Derived.Test.YtgloknkcfchnlabGreatDoorZ50
set_option linter.unusedVariables false
set_option linter.unusedSimpArgs false
namespace Go.Proofs.YtgloknkcfchnlabGreatDoor
open Go Go.K Go.ChangeShapes Go.WideShapes Go.ChangeAt Go.RowKit
set_option linter.unusedVariables false
set_option maxRecDepth 100000 in
theorem chainPlays_lifted (os : Os) (started : os.Started) (H : Type) (enc : TypeId × Value → H) :
    ReturnsInHanded {} Tryz.checked os 4 .any (fun w args => (Rows.chainPlaysSpec.pre enc Tryz.prog Tryz.f4 Rows.chainPlaysRow.domain false w args ∧ laidMetH Tryz.prog aAj w) ∧ sizedMet enc Tryz.prog Tryz.f4 (OpenSpec.ofChange Rows.chainPlaysSpec) false w args) (Rows.chainPlaysSpec.post enc Tryz.prog Tryz.f4 false true false false) := by
  refine returnsInHanded_of_change_and (C := Tryz.checked) (X := fun w _ => laidMetH Tryz.prog aAj w) (fun _ _ _ hh h => h.of_heap hh) own started (by kernel_rfl) Tryz.func4
    (ChangeSpec.witness_at (enc := enc) (C := Tryz.checked) (os := os) (X := fun w _ => laidMetH Tryz.prog aAj w) false (aA7 os) #[.slice none 0 0] 8 rfl (by kernel_rfl) (by kernel_rfl) (by kernel_rfl) (by kernel_rfl) (by kernel_rfl) (vT os _)) ?_
  intro W base args ds gs before hval0 hW hcnd _ hL _
  have hE := aC8 hL
  have hval : ∀ (j : Nat) t v, Tryz.f4.params[j]? = some t → args[j]? = some v → Value.okWide Tryz.prog W .any base t v := hval0
  have hW' := hW
  obtain ⟨p, q, hA0, hV, rfl, hfz, hnd⟩ := hW
  have hA : DataW.TrodAll enc Tryz.prog W 0 (fun _ => true) true Tryz.f4.params.toList args.toList ds p := hA0
  rw [Tryz.params4] at hA hval
  obtain ⟨v0, vs0, d0, ds0, p0, q0, hargs, rfl, rfl, h0, r0⟩ := trodAll_cons hA
  obtain ⟨rfl, rfl, rfl⟩ := trodAll_nil r0
  obtain rfl : args = #[v0] := by cases args; simp_all
  obtain ⟨rfl, rfl⟩ := trodVars_none hV
  have k0 := h0
  have lt0 : ∀ x ∈ p0, x.block < W.heap.size := by obtain ⟨m, hm⟩ := k0; exact DataW.trod_lt m _ _ _ hm
  obtain ⟨a0, len0, cap0, rfl⟩ := okWide_slice Tryz.underlying57 (hval 0 _ v0 rfl rfl)
  obtain ⟨l0, s0, hl0⟩ := aLd (v := .slice a0 len0 cap0) (by obtain ⟨m, hm⟩ := h0; exact ⟨_, _, _, _, _, m, _, hm⟩)
  clear hA0 hval0
  refine (aFo W hE s0).mono fun e W' ⟨r, he, hr, x⟩ => ?_
  subst hr
  have bel := x.below
  subst he
  exact ⟨_, rfl, _, _, _, [], _, [], hW', trodAll_mk1 (shut_bool Tryz.underlying4 _), trodAll_cons_mk (Below.trod laidOut (by kernel_rfl) (of_decide_eq_true (by kernel_rfl)) k0 bel lt0) trodAll_mk0, rfl, bel.frame _, fun h => by cases h⟩
theorem chainPlays_facts : joinedFacts Tryz.pinned.checked.prog 4 Tryz.f4 Rows.chainPlaysSpec Rows.chainPlaysRow = true := of_decide_eq_true (by kernel_rfl)
theorem chainPlays_named : Tryz.pinned.checked.prog.funcNamed Rows.chainPlaysRow.func = some 4 := by kernel_rfl
theorem chainPlays_wrap : Tryz.f4.isWrapper Tryz.pinned.checked.prog Rows.chainPlaysRow.wrapper Rows.chainPlaysRow.mainSum := by
  unfold Func.isWrapper
  first
    | (rw [if_pos (by decide +kernel)]; kernel_rfl)
    | (rw [if_neg (by decide +kernel)]; exact ⟨rfl, rfl⟩)
theorem chainPlays_inst : Tryz.f4.isInstance Tryz.pinned.checked.prog Rows.chainPlaysRow.origin Rows.chainPlaysRow.targs := of_decide_eq_true (by kernel_rfl)
theorem chainPlays_over : Rows.chainPlaysRow.holds Tryz.pinned (OpenSpec.ofChange Rows.chainPlaysSpec) :=
  OpenClaim.holds_of_wide 4 Tryz.f4 rfl rfl rfl rfl rfl rfl rfl ⟨rfl, rfl, rfl, rfl, rfl⟩ rfl rfl rfl rfl rfl chainPlays_named Tryz.func4 chainPlays_facts chainPlays_inst chainPlays_wrap
    (fun os started H enc _ => chainPlays_lifted os started H enc)
/-- The statement ChainPlays: the tied card of its row. -/
theorem chainPlays_card : Rows.ChainPlaysCardSaid :=
  Claim7.holds_tied_plain_at .later [] [.handle] true (true, "1606401030a177a36fa6d2b16b3b76abdd4da9a999ea9dcddd4d18c8472a4197") true
    chainPlays_over (fun _ h => by cases h) (by kernel_rfl) (fun _ h => by cases h) chainPlays_row_tie rfl ⟨rfl, rfl⟩ (by kernel_rfl) rfl
    (fun f fn hf hfn => by
      obtain rfl : f = 4 := Option.some.inj ((show Tryz.prog.funcNamed "kedge/kedgelaw13.ChainPlays" = some 4 by kernel_rfl).symm.trans hf) |>.symm
      obtain rfl : fn = Tryz.f4 := (Option.some.inj (Tryz.func4.symm.trans hfn)).symm
      exact ⟨by kernel_rfl, fun j t ht => by
        rw [Tryz.params4] at ht
        rcases j with _ | j
        · obtain rfl : 57 = t := by simpa using ht
          exact (show Tryz.prog.wantsStandIn 57 = false by kernel_rfl)
        simp at ht⟩)
    (by kernel_rfl)
#print axioms chainPlays_card
end Go.Proofs.YtgloknkcfchnlabGreatDoor
