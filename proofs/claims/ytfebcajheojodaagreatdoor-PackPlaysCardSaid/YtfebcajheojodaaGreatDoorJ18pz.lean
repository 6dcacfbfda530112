/- The law PackPlays returns true for every input, and leaves its arguments as they were. Conditions: none beyond those of the given statement. -/
import Derived.Test.YtfebcajheojodaaGreatDoorChecked
import Derived.Test.YtfebcajheojodaaGreatDoorTie
import Derived.Test.YtfebcajheojodaaGreatDoorCards
import Derived.SevenTiedAt
import Derived.Test.YtfebcajheojodaaGreatDoorZ37
set_option linter.unusedVariables false
set_option linter.unusedSimpArgs false
namespace Go.Proofs.YtfebcajheojodaaGreatDoor
open Go Go.K Go.ChangeShapes Go.WideShapes Go.ChangeAt Go.RowKit
set_option linter.unusedVariables false
set_option maxRecDepth 100000 in
theorem packPlays_lifted (os : Os) (started : os.Started) (H : Type) (enc : TypeId × Value → H) :
    ReturnsInHanded {} Tryz.checked os 5 .any (fun w args => (Rows.packPlaysSpec.pre enc Tryz.prog Tryz.f5 Rows.packPlaysRow.domain false w args ∧ laidMetH Tryz.prog aHv w) ∧ sizedMet enc Tryz.prog Tryz.f5 (OpenSpec.ofChange Rows.packPlaysSpec) false w args) (Rows.packPlaysSpec.post enc Tryz.prog Tryz.f5 false true false false) := by
  refine returnsInHanded_of_change_and (C := Tryz.checked) (X := fun w _ => laidMetH Tryz.prog aHv w) (fun _ _ _ hh h => h.of_heap hh) own started (by kernel_rfl) Tryz.func5
    (ChangeSpec.witness_at (enc := enc) (C := Tryz.checked) (os := os) (X := fun w _ => laidMetH Tryz.prog aHv w) false (aKn os) #[.slice none 0 0, .slice none 0 0, .int .u16 0] 8 rfl (by kernel_rfl) (by kernel_rfl) (by kernel_rfl) (by kernel_rfl) (by kernel_rfl) (aFl os _)) ?_
  intro W base args ds gs before hval0 hW hcnd _ hL _
  have hE := aMa hL
  have hval : ∀ (j : Nat) t v, Tryz.f5.params[j]? = some t → args[j]? = some v → Value.okWide Tryz.prog W .any base t v := hval0
  have hW' := hW
  obtain ⟨p, q, hA0, hV, rfl, hfz, hnd⟩ := hW
  have hA : DataW.TrodAll enc Tryz.prog W 0 (fun _ => true) true Tryz.f5.params.toList args.toList ds p := hA0
  rw [Tryz.params5] at hA hval
  obtain ⟨v0, vs0, d0, ds0, p0, q0, hargs, rfl, rfl, h0, r0⟩ := trodAll_cons hA
  obtain ⟨v1, vs1, d1, ds1, p1, q1, rfl, rfl, rfl, h1, r1⟩ := trodAll_cons r0
  obtain ⟨v2, vs2, d2, ds2, p2, q2, rfl, rfl, rfl, h2, r2⟩ := trodAll_cons r1
  obtain ⟨rfl, rfl, rfl⟩ := trodAll_nil r2
  obtain rfl : args = #[v0, v1, v2] := by cases args; simp_all
  obtain ⟨rfl, rfl⟩ := trodVars_none hV
  have k0 := h0
  have lt0 : ∀ x ∈ p0, x.block < W.heap.size := by obtain ⟨m, hm⟩ := k0; exact DataW.trod_lt m _ _ _ hm
  have k1 := h1
  have lt1 : ∀ x ∈ p1, x.block < W.heap.size := by obtain ⟨m, hm⟩ := k1; exact DataW.trod_lt m _ _ _ hm
  have k2 := h2
  have lt2 : ∀ x ∈ p2, x.block < W.heap.size := by obtain ⟨m, hm⟩ := k2; exact DataW.trod_lt m _ _ _ hm
  obtain ⟨a0, len0, cap0, rfl⟩ := okWide_slice Tryz.underlying31 (hval 0 _ v0 rfl rfl)
  obtain ⟨l0, s0, hl0⟩ := bB0 (v := .slice a0 len0 cap0) (by obtain ⟨m, hm⟩ := h0; exact ⟨_, _, _, _, _, m, _, hm⟩)
  obtain ⟨a1, len1, cap1, rfl⟩ := okWide_slice Tryz.underlying69 (hval 1 _ v1 rfl rfl)
  obtain ⟨l1, s1, hl1⟩ := aW5 (v := .slice a1 len1 cap1) (by obtain ⟨m, hm⟩ := h1; exact ⟨_, _, _, _, _, m, _, hm⟩)
  obtain ⟨l2, rfl⟩ := okWide_int Tryz.underlying30 (hval 2 _ v2 rfl rfl)
  obtain ⟨m2, e2, s2⟩ := aKv (W := W) (c := [.int .u16 l2]) (by obtain ⟨m, hm⟩ := h2; exact ⟨_, _, _, _, _, m, _, hm⟩)
  obtain rfl : l2 = m2 := by simpa using e2
  clear hA0 hval0
  refine (aQ2 W hE s0 (bL3 s0) s1 s2).mono fun e W' ⟨r, he, hr, x⟩ => ?_
  subst hr
  have bel := x.below
  subst he
  exact ⟨_, rfl, _, _, _, [], _, [], hW', trodAll_mk1 (shut_bool Tryz.underlying4 _), trodAll_cons_mk (Below.trod laidOut (by kernel_rfl) (of_decide_eq_true (by kernel_rfl)) k0 bel lt0) (trodAll_cons_mk (Below.trod laidOut (by kernel_rfl) (of_decide_eq_true (by kernel_rfl)) k1 bel lt1) (trodAll_cons_mk (Below.trod laidOut (by kernel_rfl) (of_decide_eq_true (by kernel_rfl)) k2 bel lt2) trodAll_mk0)), rfl, bel.frame _, fun h => by cases h⟩
theorem packPlays_facts : joinedFacts Tryz.pinned.checked.prog 5 Tryz.f5 Rows.packPlaysSpec Rows.packPlaysRow = true := of_decide_eq_true (by kernel_rfl)
theorem packPlays_named : Tryz.pinned.checked.prog.funcNamed Rows.packPlaysRow.func = some 5 := by kernel_rfl
theorem packPlays_wrap : Tryz.f5.isWrapper Tryz.pinned.checked.prog Rows.packPlaysRow.wrapper Rows.packPlaysRow.mainSum := by
  unfold Func.isWrapper
  first
    | (rw [if_pos (by decide +kernel)]; kernel_rfl)
    | (rw [if_neg (by decide +kernel)]; exact ⟨rfl, rfl⟩)
theorem packPlays_inst : Tryz.f5.isInstance Tryz.pinned.checked.prog Rows.packPlaysRow.origin Rows.packPlaysRow.targs := of_decide_eq_true (by kernel_rfl)
theorem packPlays_over : Rows.packPlaysRow.holds Tryz.pinned (OpenSpec.ofChange Rows.packPlaysSpec) :=
  OpenClaim.holds_of_wide 5 Tryz.f5 rfl rfl rfl rfl rfl rfl rfl ⟨rfl, rfl, rfl, rfl, rfl⟩ rfl rfl rfl rfl rfl packPlays_named Tryz.func5 packPlays_facts packPlays_inst packPlays_wrap
    (fun os started H enc _ => packPlays_lifted os started H enc)
/-- The statement PackPlays: the tied card of its row. -/
theorem packPlays_card : Rows.PackPlaysCardSaid :=
  Claim7.holds_tied_plain_at .later [] [.handle] true (true, "8ef46d1f72c5e34a7db7dab335248621e9e5b42690b559392637419a9e3ce3d1") true
    packPlays_over (fun _ h => by cases h) (by kernel_rfl) (fun _ h => by cases h) packPlays_row_tie rfl ⟨rfl, rfl⟩ (by kernel_rfl) rfl
    (fun f fn hf hfn => by
      obtain rfl : f = 5 := Option.some.inj ((show Tryz.prog.funcNamed "kedge/kedgelaw18.PackPlays" = some 5 by kernel_rfl).symm.trans hf) |>.symm
      obtain rfl : fn = Tryz.f5 := (Option.some.inj (Tryz.func5.symm.trans hfn)).symm
      exact ⟨by kernel_rfl, fun j t ht => by
        rw [Tryz.params5] at ht
        rcases j with _ | j
        · obtain rfl : 31 = t := by simpa using ht
          exact (show Tryz.prog.wantsStandIn 31 = false by kernel_rfl)
        rcases j with _ | j
        · obtain rfl : 69 = t := by simpa using ht
          exact (show Tryz.prog.wantsStandIn 69 = false by kernel_rfl)
        rcases j with _ | j
        · obtain rfl : 30 = t := by simpa using ht
          exact (show Tryz.prog.wantsStandIn 30 = false by kernel_rfl)
        simp at ht⟩)
    (by kernel_rfl)
#print axioms packPlays_card
end Go.Proofs.YtfebcajheojodaaGreatDoor
