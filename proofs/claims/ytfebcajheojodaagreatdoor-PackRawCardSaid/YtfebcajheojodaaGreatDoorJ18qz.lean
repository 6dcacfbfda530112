/- The law PackRaw returns true for every input, and leaves its arguments as they were. Conditions: none beyond those of the given statement. -/
import Derived.Test.YtfebcajheojodaaGreatDoorChecked
import Derived.Test.YtfebcajheojodaaGreatDoorTie
import Derived.Test.YtfebcajheojodaaGreatDoorCards
import Derived.SevenTiedAt
import Derived.Test.YtfebcajheojodaaGreatDoorZ38
set_option linter.unusedVariables false
set_option linter.unusedSimpArgs false
namespace Go.Proofs.YtfebcajheojodaaGreatDoor
open Go Go.K Go.ChangeShapes Go.WideShapes Go.ChangeAt Go.RowKit
set_option linter.unusedVariables false
set_option maxRecDepth 100000 in
theorem packRaw_lifted (os : Os) (started : os.Started) (H : Type) (enc : TypeId × Value → H) :
    ReturnsInHanded {} Tryz.checked os 6 .any (fun w args => (Rows.packRawSpec.pre enc Tryz.prog Tryz.f6 Rows.packRawRow.domain false w args ∧ laidMetH Tryz.prog aHv w) ∧ sizedMet enc Tryz.prog Tryz.f6 (OpenSpec.ofChange Rows.packRawSpec) false w args) (Rows.packRawSpec.post enc Tryz.prog Tryz.f6 false true false false) := by
  refine returnsInHanded_of_change_and (C := Tryz.checked) (X := fun w _ => laidMetH Tryz.prog aHv w) (fun _ _ _ hh h => h.of_heap hh) own started (by kernel_rfl) Tryz.func6
    (ChangeSpec.witness_at (enc := enc) (C := Tryz.checked) (os := os) (X := fun w _ => laidMetH Tryz.prog aHv w) false (aKn os) #[.agg #[.int .u32 0, .slice none 0 0, .slice none 0 0, .int .u32 0], .agg #[.int .u32 0, .slice none 0 0, .slice none 0 0, .int .u32 0], .agg #[.int .i64 0, .int .i64 0]] 8 rfl (by kernel_rfl) (by kernel_rfl) (by kernel_rfl) (by kernel_rfl) (by kernel_rfl) (aFl os _)) ?_
  intro W base args ds gs before hval0 hW hcnd _ hL _
  have hE := aMa hL
  have hval : ∀ (j : Nat) t v, Tryz.f6.params[j]? = some t → args[j]? = some v → Value.okWide Tryz.prog W .any base t v := hval0
  have hW' := hW
  obtain ⟨p, q, hA0, hV, rfl, hfz, hnd⟩ := hW
  have hA : DataW.TrodAll enc Tryz.prog W 0 (fun _ => true) true Tryz.f6.params.toList args.toList ds p := hA0
  rw [Tryz.params6] at hA hval
  obtain ⟨v0, vs0, d0, ds0, p0, q0, hargs, rfl, rfl, h0, r0⟩ := trodAll_cons hA
  obtain ⟨v1, vs1, d1, ds1, p1, q1, rfl, rfl, rfl, h1, r1⟩ := trodAll_cons r0
  obtain ⟨v2, vs2, d2, ds2, p2, q2, rfl, rfl, rfl, h2, r2⟩ := trodAll_cons r1
  obtain ⟨rfl, rfl, rfl⟩ := trodAll_nil r2
  obtain rfl : args = #[v0, v1, v2] := by cases args; simp_all
  obtain ⟨rfl, rfl⟩ := trodVars_none hV
  have k0 := h0
  have lt0 : ∀ x ∈ p0, x.block < W.heap.size := by obtain ⟨m, hm⟩ := k0; exact DataW.trod_lt m _ _ _ hm
  have k1 := h1
  have lt1 : ∀ x ∈ p1, x.block < W.heap.size := by obtain ⟨m, hm⟩ := k1; exact DataW.trod_lt m _ _ _ hm
  have k2 := h2
  have lt2 : ∀ x ∈ p2, x.block < W.heap.size := by obtain ⟨m, hm⟩ := k2; exact DataW.trod_lt m _ _ _ hm
  obtain ⟨cs0, rfl, _⟩ := okWide_struct Tryz.underlying26 (hval 0 _ v0 rfl rfl)
  obtain ⟨l0, s0⟩ := aVw (W := W) (c := cs0.toList) (by obtain ⟨m, hm⟩ := h0; exact ⟨_, _, _, _, _, m, _, hm⟩)
  obtain ⟨cs1, rfl, _⟩ := okWide_struct Tryz.underlying26 (hval 1 _ v1 rfl rfl)
  obtain ⟨l1, s1⟩ := aVw (W := W) (c := cs1.toList) (by obtain ⟨m, hm⟩ := h1; exact ⟨_, _, _, _, _, m, _, hm⟩)
  obtain ⟨ca2, cb2, rfl⟩ := aYj (hval 2 _ v2 rfl rfl)
  obtain ⟨la2, lb2, rfl, rfl, s2⟩ := bCc (W := W) (by obtain ⟨m, hm⟩ := h2; exact ⟨_, _, _, _, _, m, _, hm⟩)
  clear hA0 hval0
  refine (aYc W hE s0.1 s0.2 s1.1 s1.2).mono fun e W' ⟨r, he, hr, x⟩ => ?_
  subst hr
  have bel := x.below
  subst he
  exact ⟨_, rfl, _, _, _, [], _, [], hW', trodAll_mk1 (shut_bool Tryz.underlying4 _), trodAll_cons_mk (Below.trod laidOut (by kernel_rfl) (of_decide_eq_true (by kernel_rfl)) k0 bel lt0) (trodAll_cons_mk (Below.trod laidOut (by kernel_rfl) (of_decide_eq_true (by kernel_rfl)) k1 bel lt1) (trodAll_cons_mk (Below.trod laidOut (by kernel_rfl) (of_decide_eq_true (by kernel_rfl)) k2 bel lt2) trodAll_mk0)), rfl, bel.frame _, fun h => by cases h⟩
theorem packRaw_facts : joinedFacts Tryz.pinned.checked.prog 6 Tryz.f6 Rows.packRawSpec Rows.packRawRow = true := of_decide_eq_true (by kernel_rfl)
theorem packRaw_named : Tryz.pinned.checked.prog.funcNamed Rows.packRawRow.func = some 6 := by kernel_rfl
theorem packRaw_wrap : Tryz.f6.isWrapper Tryz.pinned.checked.prog Rows.packRawRow.wrapper Rows.packRawRow.mainSum := by
  unfold Func.isWrapper
  first
    | (rw [if_pos (by decide +kernel)]; kernel_rfl)
    | (rw [if_neg (by decide +kernel)]; exact ⟨rfl, rfl⟩)
theorem packRaw_inst : Tryz.f6.isInstance Tryz.pinned.checked.prog Rows.packRawRow.origin Rows.packRawRow.targs := of_decide_eq_true (by kernel_rfl)
theorem packRaw_over : Rows.packRawRow.holds Tryz.pinned (OpenSpec.ofChange Rows.packRawSpec) :=
  OpenClaim.holds_of_wide 6 Tryz.f6 rfl rfl rfl rfl rfl rfl rfl ⟨rfl, rfl, rfl, rfl, rfl⟩ rfl rfl rfl rfl rfl packRaw_named Tryz.func6 packRaw_facts packRaw_inst packRaw_wrap
    (fun os started H enc _ => packRaw_lifted os started H enc)
/-- The statement PackRaw: the tied card of its row. -/
theorem packRaw_card : Rows.PackRawCardSaid :=
  Claim7.holds_tied_plain_at .later [] [.handle] true (true, "8ef46d1f72c5e34a7db7dab335248621e9e5b42690b559392637419a9e3ce3d1") true
    packRaw_over (fun _ h => by cases h) (by kernel_rfl) (fun _ h => by cases h) packRaw_row_tie rfl ⟨rfl, rfl⟩ (by kernel_rfl) rfl
    (fun f fn hf hfn => by
      obtain rfl : f = 6 := Option.some.inj ((show Tryz.prog.funcNamed "kedge/kedgelaw18.PackRaw" = some 6 by kernel_rfl).symm.trans hf) |>.symm
      obtain rfl : fn = Tryz.f6 := (Option.some.inj (Tryz.func6.symm.trans hfn)).symm
      exact ⟨by kernel_rfl, fun j t ht => by
        rw [Tryz.params6] at ht
        rcases j with _ | j
        · obtain rfl : 26 = t := by simpa using ht
          exact (show Tryz.prog.wantsStandIn 26 = false by kernel_rfl)
        rcases j with _ | j
        · obtain rfl : 26 = t := by simpa using ht
          exact (show Tryz.prog.wantsStandIn 26 = false by kernel_rfl)
        rcases j with _ | j
        · obtain rfl : 61 = t := by simpa using ht
          exact (show Tryz.prog.wantsStandIn 61 = false by kernel_rfl)
        simp at ht⟩)
    (by kernel_rfl)
#print axioms packRaw_card
end Go.Proofs.YtfebcajheojodaaGreatDoor
