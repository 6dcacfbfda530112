/- The law BlockParts returns true for every input, and leaves its arguments as they were. Conditions: none beyond those of the given statement. -/
import Derived.Test.YtgloknkcfchnlabGreatDoorChecked
import Derived.Test.YtgloknkcfchnlabGreatDoorTie
import Derived.Test.YtgloknkcfchnlabGreatDoorCards
import Derived.SevenTiedAt
import Derived.Test.YtgloknkcfchnlabGreatDoorZ49
set_option linter.unusedVariables false
set_option linter.unusedSimpArgs false
namespace Go.Proofs.YtgloknkcfchnlabGreatDoor
open Go Go.K Go.ChangeShapes Go.WideShapes Go.ChangeAt Go.RowKit
set_option linter.unusedVariables false
set_option maxRecDepth 100000 in
theorem blockParts_lifted (os : Os) (started : os.Started) (H : Type) (enc : TypeId × Value → H) :
    ReturnsInHanded {} Tryz.checked os 3 .any (fun w args => (Rows.blockPartsSpec.pre enc Tryz.prog Tryz.f3 Rows.blockPartsRow.domain false w args ∧ laidMetH Tryz.prog aAj w) ∧ sizedMet enc Tryz.prog Tryz.f3 (OpenSpec.ofChange Rows.blockPartsSpec) false w args) (Rows.blockPartsSpec.post enc Tryz.prog Tryz.f3 false true false false) := by
  refine returnsInHanded_of_change_and (C := Tryz.checked) (X := fun w _ => laidMetH Tryz.prog aAj w) (fun _ _ _ hh h => h.of_heap hh) own started (by kernel_rfl) Tryz.func3
    (ChangeSpec.witness_at (enc := enc) (C := Tryz.checked) (os := os) (X := fun w _ => laidMetH Tryz.prog aAj w) false (aA7 os) #[.slice none 0 0, .slice none 0 0] 8 rfl (by kernel_rfl) (by kernel_rfl) (by kernel_rfl) (by kernel_rfl) (by kernel_rfl) (vT os _)) ?_
  intro W base args ds gs before hval0 hW hcnd _ hL _
  have hE := aC8 hL
  have hval : ∀ (j : Nat) t v, Tryz.f3.params[j]? = some t → args[j]? = some v → Value.okWide Tryz.prog W .any base t v := hval0
  have hW' := hW
  obtain ⟨p, q, hA0, hV, rfl, hfz, hnd⟩ := hW
  have hA : DataW.TrodAll enc Tryz.prog W 0 (fun _ => true) true Tryz.f3.params.toList args.toList ds p := hA0
  rw [Tryz.params3] at hA hval
  obtain ⟨v0, vs0, d0, ds0, p0, q0, hargs, rfl, rfl, h0, r0⟩ := trodAll_cons hA
  obtain ⟨v1, vs1, d1, ds1, p1, q1, rfl, rfl, rfl, h1, r1⟩ := trodAll_cons r0
  obtain ⟨rfl, rfl, rfl⟩ := trodAll_nil r1
  obtain rfl : args = #[v0, v1] := by cases args; simp_all
  obtain ⟨rfl, rfl⟩ := trodVars_none hV
  have k0 := h0
  have lt0 : ∀ x ∈ p0, x.block < W.heap.size := by obtain ⟨m, hm⟩ := k0; exact DataW.trod_lt m _ _ _ hm
  have k1 := h1
  have lt1 : ∀ x ∈ p1, x.block < W.heap.size := by obtain ⟨m, hm⟩ := k1; exact DataW.trod_lt m _ _ _ hm
  obtain ⟨a0, len0, cap0, rfl⟩ := okWide_slice Tryz.underlying22 (hval 0 _ v0 rfl rfl)
  obtain ⟨l0, s0, hl0⟩ := xK (v := .slice a0 len0 cap0) (by obtain ⟨m, hm⟩ := h0; exact ⟨_, _, _, _, _, m, _, hm⟩)
  obtain ⟨a1, len1, cap1, rfl⟩ := okWide_slice Tryz.underlying22 (hval 1 _ v1 rfl rfl)
  obtain ⟨l1, s1, hl1⟩ := xK (v := .slice a1 len1 cap1) (by obtain ⟨m, hm⟩ := h1; exact ⟨_, _, _, _, _, m, _, hm⟩)
  clear hA0 hval0
  refine (aGb W hE s0 s1).mono fun e W' ⟨r, he, hr, x⟩ => ?_
  subst hr
  have bel := x.below
  subst he
  exact ⟨_, rfl, _, _, _, [], _, [], hW', trodAll_mk1 (shut_bool Tryz.underlying4 _), trodAll_cons_mk (Below.trod laidOut (by kernel_rfl) (of_decide_eq_true (by kernel_rfl)) k0 bel lt0) (trodAll_cons_mk (Below.trod laidOut (by kernel_rfl) (of_decide_eq_true (by kernel_rfl)) k1 bel lt1) trodAll_mk0), rfl, bel.frame _, fun h => by cases h⟩
theorem blockParts_facts : joinedFacts Tryz.pinned.checked.prog 3 Tryz.f3 Rows.blockPartsSpec Rows.blockPartsRow = true := of_decide_eq_true (by kernel_rfl)
theorem blockParts_named : Tryz.pinned.checked.prog.funcNamed Rows.blockPartsRow.func = some 3 := by kernel_rfl
theorem blockParts_wrap : Tryz.f3.isWrapper Tryz.pinned.checked.prog Rows.blockPartsRow.wrapper Rows.blockPartsRow.mainSum := by
  unfold Func.isWrapper
  first
    | (rw [if_pos (by decide +kernel)]; kernel_rfl)
    | (rw [if_neg (by decide +kernel)]; exact ⟨rfl, rfl⟩)
theorem blockParts_inst : Tryz.f3.isInstance Tryz.pinned.checked.prog Rows.blockPartsRow.origin Rows.blockPartsRow.targs := of_decide_eq_true (by kernel_rfl)
theorem blockParts_over : Rows.blockPartsRow.holds Tryz.pinned (OpenSpec.ofChange Rows.blockPartsSpec) :=
  OpenClaim.holds_of_wide 3 Tryz.f3 rfl rfl rfl rfl rfl rfl rfl ⟨rfl, rfl, rfl, rfl, rfl⟩ rfl rfl rfl rfl rfl blockParts_named Tryz.func3 blockParts_facts blockParts_inst blockParts_wrap
    (fun os started H enc _ => blockParts_lifted os started H enc)
/-- The statement BlockParts: the tied card of its row. -/
theorem blockParts_card : Rows.BlockPartsCardSaid :=
  Claim7.holds_tied_plain_at .later [] [.handle] true (true, "1606401030a177a36fa6d2b16b3b76abdd4da9a999ea9dcddd4d18c8472a4197") true
    blockParts_over (fun _ h => by cases h) (by kernel_rfl) (fun _ h => by cases h) blockParts_row_tie rfl ⟨rfl, rfl⟩ (by kernel_rfl) rfl
    (fun f fn hf hfn => by
      obtain rfl : f = 3 := Option.some.inj ((show Tryz.prog.funcNamed "kedge/kedgelaw12.BlockParts" = some 3 by kernel_rfl).symm.trans hf) |>.symm
      obtain rfl : fn = Tryz.f3 := (Option.some.inj (Tryz.func3.symm.trans hfn)).symm
      exact ⟨by kernel_rfl, fun j t ht => by
        rw [Tryz.params3] at ht
        rcases j with _ | j
        · obtain rfl : 22 = t := by simpa using ht
          exact (show Tryz.prog.wantsStandIn 22 = false by kernel_rfl)
        rcases j with _ | j
        · obtain rfl : 22 = t := by simpa using ht
          exact (show Tryz.prog.wantsStandIn 22 = false by kernel_rfl)
        simp at ht⟩)
    (by kernel_rfl)
#print axioms blockParts_card
end Go.Proofs.YtgloknkcfchnlabGreatDoor
