/- The law BlockRaw returns true for every input, and leaves its arguments as they were. Conditions: none beyond those of the given statement. -/
import Derived.Test.YtgloknkcfchnlaaGreatDoorChecked
import Derived.Test.YtgloknkcfchnlaaGreatDoorTie
import Derived.Test.YtgloknkcfchnlaaGreatDoorCards
import Derived.SevenTiedAt
import Derived.Test.YtgloknkcfchnlaaGreatDoorZ52
set_option linter.unusedVariables false
set_option linter.unusedSimpArgs false
namespace Go.Proofs.YtgloknkcfchnlaaGreatDoor
open Go Go.K Go.ChangeShapes Go.WideShapes Go.ChangeAt Go.RowKit
set_option linter.unusedVariables false
set_option maxRecDepth 100000 in
theorem blockRaw_lifted (os : Os) (started : os.Started) (H : Type) (enc : TypeId × Value → H) :
    ReturnsInHanded {} Tryz.checked os 7 .any (fun w args => (Rows.blockRawSpec.pre enc Tryz.prog Tryz.f7 Rows.blockRawRow.domain false w args ∧ laidMetH Tryz.prog jH w) ∧ sizedMet enc Tryz.prog Tryz.f7 (OpenSpec.ofChange Rows.blockRawSpec) false w args) (Rows.blockRawSpec.post enc Tryz.prog Tryz.f7 false true false false) := by
  refine returnsInHanded_of_change_and (C := Tryz.checked) (X := fun w _ => laidMetH Tryz.prog jH w) (fun _ _ _ hh h => h.of_heap hh) own started (by kernel_rfl) Tryz.func7
    (ChangeSpec.witness_at (enc := enc) (C := Tryz.checked) (os := os) (X := fun w _ => laidMetH Tryz.prog jH w) false (lB os) #[.slice none 0 0, .int .i64 0] 8 rfl (by kernel_rfl) (by kernel_rfl) (by kernel_rfl) (by kernel_rfl) (by kernel_rfl) (gX os _)) ?_
  intro W base args ds gs before hval0 hW hcnd _ hL _
  have hE := kH hL
  have hval : ∀ (j : Nat) t v, Tryz.f7.params[j]? = some t → args[j]? = some v → Value.okWide Tryz.prog W .any base t v := hval0
  have hW' := hW
  obtain ⟨p, q, hA0, hV, rfl, hfz, hnd⟩ := hW
  have hA : DataW.TrodAll enc Tryz.prog W 0 (fun _ => true) true Tryz.f7.params.toList args.toList ds p := hA0
  rw [Tryz.params7] at hA hval
  obtain ⟨v0, vs0, d0, ds0, p0, q0, hargs, rfl, rfl, h0, r0⟩ := trodAll_cons hA
  obtain ⟨v1, vs1, d1, ds1, p1, q1, rfl, rfl, rfl, h1, r1⟩ := trodAll_cons r0
  obtain ⟨rfl, rfl, rfl⟩ := trodAll_nil r1
  obtain rfl : args = #[v0, v1] := by cases args; simp_all
  obtain ⟨rfl, rfl⟩ := trodVars_none hV
  have k0 := h0
  have lt0 : ∀ x ∈ p0, x.block < W.heap.size := by obtain ⟨m, hm⟩ := k0; exact DataW.trod_lt m _ _ _ hm
  have k1 := h1
  have lt1 : ∀ x ∈ p1, x.block < W.heap.size := by obtain ⟨m, hm⟩ := k1; exact DataW.trod_lt m _ _ _ hm
  obtain ⟨a0, len0, cap0, rfl⟩ := okWide_slice Tryz.underlying29 (hval 0 _ v0 rfl rfl)
  obtain ⟨l0, s0, hl0⟩ := aRq (v := .slice a0 len0 cap0) (by obtain ⟨m, hm⟩ := h0; exact ⟨_, _, _, _, _, m, _, hm⟩)
  obtain ⟨l1, rfl⟩ := okWide_int Tryz.underlying3 (hval 1 _ v1 rfl rfl)
  obtain ⟨m1, e1, s1⟩ := aAx (W := W) (c := [.int .i64 l1]) (by obtain ⟨m, hm⟩ := h1; exact ⟨_, _, _, _, _, m, _, hm⟩)
  obtain rfl : l1 = m1 := by simpa using e1
  clear hA0 hval0
  refine (aH3 l1 W hE s0.1 s0.2).mono fun e W' ⟨r, he, hr, x⟩ => ?_
  subst hr
  have bel := x.below
  subst he
  exact ⟨_, rfl, _, _, _, [], _, [], hW', trodAll_mk1 (shut_bool Tryz.underlying4 _), trodAll_cons_mk (Below.trod laidOut (by kernel_rfl) (of_decide_eq_true (by kernel_rfl)) k0 bel lt0) (trodAll_cons_mk (Below.trod laidOut (by kernel_rfl) (of_decide_eq_true (by kernel_rfl)) k1 bel lt1) trodAll_mk0), rfl, bel.frame _, fun h => by cases h⟩
theorem blockRaw_facts : joinedFacts Tryz.pinned.checked.prog 7 Tryz.f7 Rows.blockRawSpec Rows.blockRawRow = true := of_decide_eq_true (by kernel_rfl)
theorem blockRaw_named : Tryz.pinned.checked.prog.funcNamed Rows.blockRawRow.func = some 7 := by kernel_rfl
theorem blockRaw_wrap : Tryz.f7.isWrapper Tryz.pinned.checked.prog Rows.blockRawRow.wrapper Rows.blockRawRow.mainSum := by
  unfold Func.isWrapper
  first
    | (rw [if_pos (by decide +kernel)]; kernel_rfl)
    | (rw [if_neg (by decide +kernel)]; exact ⟨rfl, rfl⟩)
theorem blockRaw_inst : Tryz.f7.isInstance Tryz.pinned.checked.prog Rows.blockRawRow.origin Rows.blockRawRow.targs := of_decide_eq_true (by kernel_rfl)
theorem blockRaw_over : Rows.blockRawRow.holds Tryz.pinned (OpenSpec.ofChange Rows.blockRawSpec) :=
  OpenClaim.holds_of_wide 7 Tryz.f7 rfl rfl rfl rfl rfl rfl rfl ⟨rfl, rfl, rfl, rfl, rfl⟩ rfl rfl rfl rfl rfl blockRaw_named Tryz.func7 blockRaw_facts blockRaw_inst blockRaw_wrap
    (fun os started H enc _ => blockRaw_lifted os started H enc)
/-- The statement BlockRaw: the tied card of its row. -/
theorem blockRaw_card : Rows.BlockRawCardSaid :=
  Claim7.holds_tied_plain_at .later [] [.handle] true (true, "549ec45d6412607da991b035651527e5733ba434e95bfb2c54bec40fbcc9148f") true
    blockRaw_over (fun _ h => by cases h) (by kernel_rfl) (fun _ h => by cases h) blockRaw_row_tie rfl ⟨rfl, rfl⟩ (by kernel_rfl) rfl
    (fun f fn hf hfn => by
      obtain rfl : f = 7 := Option.some.inj ((show Tryz.prog.funcNamed "kedge/kedgelaw12.BlockRaw" = some 7 by kernel_rfl).symm.trans hf) |>.symm
      obtain rfl : fn = Tryz.f7 := (Option.some.inj (Tryz.func7.symm.trans hfn)).symm
      exact ⟨by kernel_rfl, fun j t ht => by
        rw [Tryz.params7] at ht
        rcases j with _ | j
        · obtain rfl : 29 = t := by simpa using ht
          exact (show Tryz.prog.wantsStandIn 29 = false by kernel_rfl)
        rcases j with _ | j
        · obtain rfl : 3 = t := by simpa using ht
          exact (show Tryz.prog.wantsStandIn 3 = false by kernel_rfl)
        simp at ht⟩)
    (by kernel_rfl)
#print axioms blockRaw_card
end Go.Proofs.YtgloknkcfchnlaaGreatDoor
