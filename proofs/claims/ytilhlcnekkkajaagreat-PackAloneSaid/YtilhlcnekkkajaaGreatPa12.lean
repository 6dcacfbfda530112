/- The resolved code of functions, printed by program. The engine, part 19: steps and facts carried on, as arguments that are found. Functions whose calls leave the world as it was, and what they return. What is said of a function's code, from its resolved form. The engine, part 20: code by its shapes: read off the program's own text, drawn regions by the order that is told. -/
import Derived.Test.YtilhlcnekkkajaaGreatPa10
import Derived.Test.YtilhlcnekkkajaaGreatPa11
set_option linter.unusedVariables false
set_option linter.unusedSimpArgs false
section
namespace Go.Proofs.YtilhlcnekkkajaaGreat
open Go Go.K
noncomputable def k_kedgeref01_Good : KC :=
(.seq (.reg false <| oR 2 (.move (.const (.bool false)))<| .nil) (.seq (.reg false <| oM 3 0<| oC 4 .geq 3 0<| oM 5 4<| oG 6 5 true (.move (t 0))<|
 oG 7 5 true (.bin .leq (t 6) (oi 2100000000000000))<| oR 8 (.pick (t 5) (t 7) (.const (.bool false)))<| oM 2 8<| .nil) .ret))
theorem c_kedgeref01_Good : @compileC Tryz.prog q0 9 (bodyOf Tryz.f89) = k_kedgeref01_Good := by kernel_rfl
theorem s_kedgeref01_Good {args : List Value} {w : World} {R : Value → World → Prop} (ha : Nat.ble args.length 9 = true) (h : codeK Tryz.prog k_kedgeref01_Good (retK [.tmp 2] R) (startEnv args) w) : K.Spec Tryz.prog F.kedgeref01_Good args w R :=
  letI := q0; calls_sound mixed Tryz.func89 rfl rfl (by kernel_rfl) c_kedgeref01_Good (Nat.le_of_ble_eq_true ha) h
noncomputable def k_amount_Good : KC :=
(.seq (.reg false <| oR 2 (.move (.const (.bool false)))<| .nil) (.seq (.reg false <| oM 3 0<| oR 4 (.call 143 [(t 3), (oi 2100000000000000)])<| oM 2 4<| .nil) .ret))
theorem c_amount_Good : @compileC Tryz.prog q0 5 (bodyOf Tryz.f100) = k_amount_Good := by kernel_rfl
theorem s_amount_Good {args : List Value} {w : World} {R : Value → World → Prop} (ha : Nat.ble args.length 5 = true) (h : codeK Tryz.prog k_amount_Good (retK [.tmp 2] R) (startEnv args) w) : K.Spec Tryz.prog F.amount_Good args w R :=
  letI := q0; calls_sound mixed Tryz.func100 rfl rfl (by kernel_rfl) c_amount_Good (Nat.le_of_ble_eq_true ha) h
noncomputable def k_amount_within : KC :=
(.seq (.reg false <| oR 4 (.move (.const (.bool false)))<| .nil) (.seq (.reg false <| oM 5 0<| oC 6 .geq 5 0<| oM 7 6<| oG 8 7 true (.move (t 0))<|
 oG 9 7 true (.move (t 1))<| oG 10 7 true (.bin .leq (t 8) (t 9))<| oR 11 (.pick (t 7) (t 10) (.const (.bool false)))<| oM 4 11<| .nil) .ret))
theorem c_amount_within : @compileC Tryz.prog q0 12 (bodyOf Tryz.f143) = k_amount_within := by kernel_rfl
theorem s_amount_within {args : List Value} {w : World} {R : Value → World → Prop} (ha : Nat.ble args.length 12 = true) (h : codeK Tryz.prog k_amount_within (retK [.tmp 4] R) (startEnv args) w) : K.Spec Tryz.prog F.amount_within args w R :=
  letI := q0; calls_sound mixed Tryz.func143 rfl rfl (by kernel_rfl) c_amount_within (Nat.le_of_ble_eq_true ha) h
noncomputable def k_tx_within : KC :=
(.seq (.reg false <| oR 4 (.move (.const (.bool false)))<| .nil) (.seq (.reg false <| oM 5 0<| oC 6 .geq 5 1<| oM 7 6<| oG 8 7 true (.move (t 0))<|
 oG 9 7 true (.move (t 1))<| oG 10 7 true (.bin .leq (t 8) (t 9))<| oR 11 (.pick (t 7) (t 10) (.const (.bool false)))<| oM 4 11<| .nil) .ret))
theorem c_tx_within : @compileC Tryz.prog q0 12 (bodyOf Tryz.f197) = k_tx_within := by kernel_rfl
theorem s_tx_within {args : List Value} {w : World} {R : Value → World → Prop} (ha : Nat.ble args.length 12 = true) (h : codeK Tryz.prog k_tx_within (retK [.tmp 4] R) (startEnv args) w) : K.Spec Tryz.prog F.tx_within args w R :=
  letI := q0; calls_sound mixed Tryz.func197 rfl rfl (by kernel_rfl) c_tx_within (Nat.le_of_ble_eq_true ha) h
noncomputable def k_sha_right : KC :=
(.seq (.reg false <| oR 4 (.move (.const (.int .u32 0)))<| .nil) (.seq (.reg false <| oM 5 0<| oM 6 1<| oR 7 (.unNeg false (t 6))<| oR 8 (ob 236 5 7)<|
 oM 4 8<| .nil) .ret))
theorem c_sha_right : @compileC Tryz.prog q0 9 (bodyOf Tryz.f206) = k_sha_right := by kernel_rfl
theorem s_sha_right {args : List Value} {w : World} {R : Value → World → Prop} (ha : Nat.ble args.length 9 = true) (h : codeK Tryz.prog k_sha_right (retK [.tmp 4] R) (startEnv args) w) : K.Spec Tryz.prog F.sha_right args w R :=
  letI := q0; calls_sound mixed Tryz.func206 rfl rfl (by kernel_rfl) c_sha_right (Nat.le_of_ble_eq_true ha) h
noncomputable def k_math_bits_RotateLeft32 : KC :=
(.seq (.reg false <| oR 4 (.move (.const (.int .u32 0)))<| .nil) (.seq (.reg false <| oM 6 1<| oV 7 .u64 6<| oR 8 (.bin .and (t 7) (.const (.int .u64 31)))<|
 oM 5 8<| .nil) (.seq (.reg false <| oM 9 0<| oM 10 5<| oB 11 .shl 9 10<| oM 12 0<| oM 13 5<| oR 14 (.bin .sub (.const (.int .u64 32)) (t 13))<| oB 15 .shr 12 14<|
 oB 16 .or 11 15<| oM 4 16<| .nil) .ret)))
theorem c_math_bits_RotateLeft32 : @compileC Tryz.prog q0 17 (bodyOf Tryz.f236) = k_math_bits_RotateLeft32 := by kernel_rfl
theorem s_math_bits_RotateLeft32 {args : List Value} {w : World} {R : Value → World → Prop} (ha : Nat.ble args.length 17 = true) (h : codeK Tryz.prog k_math_bits_RotateLeft32 (retK [.tmp 4] R) (startEnv args) w) : K.Spec Tryz.prog F.math_bits_RotateLeft32 args w R :=
  letI := q0; calls_sound mixed Tryz.func236 rfl rfl (by kernel_rfl) c_math_bits_RotateLeft32 (Nat.le_of_ble_eq_true ha) h
noncomputable def k_kedgeref04_right : KC :=
(.seq (.reg false <| oR 4 (.move (.const (.int .u32 0)))<| .nil) (.seq (.reg false <| oM 5 0<| oM 6 1<| oB 7 .shr 5 6<| oM 8 0<| oM 9 1<|
 oR 10 (.bin .sub (.const (.int .u64 32)) (t 9))<| oB 11 .shl 8 10<| oB 12 .or 7 11<| oM 4 12<| .nil) .ret))
theorem c_kedgeref04_right : @compileC Tryz.prog q0 13 (bodyOf Tryz.f246) = k_kedgeref04_right := by kernel_rfl
theorem s_kedgeref04_right {args : List Value} {w : World} {R : Value → World → Prop} (ha : Nat.ble args.length 13 = true) (h : codeK Tryz.prog k_kedgeref04_right (retK [.tmp 4] R) (startEnv args) w) : K.Spec Tryz.prog F.kedgeref04_right args w R :=
  letI := q0; calls_sound mixed Tryz.func246 rfl rfl (by kernel_rfl) c_kedgeref04_right (Nat.le_of_ble_eq_true ha) h
end Go.Proofs.YtilhlcnekkkajaaGreat
end
section
namespace Go.K
open Go
/-- A fact that is found by looking at what is known. -/
theorem fx {p : Prop} (h : p := by focus(repeat(first|assumption|exact Ext.refl _|((first|apply Bld.x|apply MapE.ext|apply MapPend.ext|apply Row.ext|apply SlR.x|apply R.x|apply OwnR.x|apply MapR.x|apply SlE.x|apply Ext.c|apply le_x);assumption)|exact Nat.le_refl _))) : p := h
structure Held (b : Prop) : Prop where
  out : b
/-- One step, or many, without a new variable. -/
theorem go {a b : Prop} (k : b) (h : Held b → a := by intro hheld; (first|(apply z0;conv=>arg 4;arg 3;whnf)|apply z1|(apply zO;focus((conv=>lhs;whnf)<;>(first|with_reducible exact rfl|(refine congrArg Value.bool ?_;decide))))|(apply zP;(focus((conv=>lhs;whnf)<;>with_reducible exact rfl));(focus decide))|(apply zQ;focus((conv=>lhs;whnf)<;>exact rfl))|refine z4 rfl rfl ?_|refine z5 rfl rfl (by omega) ?_|refine z6 rfl rfl (by omega) ?_|(refine z7 rfl rfl ?_;conv=>arg 4;arg 3;whnf)|refine zF (qG _) ?_|refine zF (qF _ _ _) ?_|((first|apply zb rfl|apply za rfl|apply z9 rfl|apply z8 rfl|apply ze rfl|apply zd rfl|apply zc rfl);(focus(repeat(first|assumption|(apply Row.ext;assumption))));(first|exact Nat.le_of_ble_eq_true rfl|rfl);(try rfl))|apply zf|apply zh|apply zj|apply zk|apply zl|apply zm|apply zn|apply zo|apply zp|apply zq|apply zr|apply zs|apply zt|refine zu (by decide) ?_|apply zv|apply zw|apply zx|(apply zy;focus((conv=>lhs;whnf)<;>(first|with_reducible exact rfl|(refine congrArg Value.bool ?_;decide))))|(apply zz;focus((conv=>lhs;whnf)<;>(first|with_reducible exact rfl|(refine congrArg Value.bool ?_;decide))))|apply zA|fail); (repeat (first|(apply z0;conv=>arg 4;arg 3;whnf)|apply z1|(apply zO;focus((conv=>lhs;whnf)<;>(first|with_reducible exact rfl|(refine congrArg Value.bool ?_;decide))))|(apply zP;(focus((conv=>lhs;whnf)<;>with_reducible exact rfl));(focus decide))|(apply zQ;focus((conv=>lhs;whnf)<;>exact rfl))|refine z4 rfl rfl ?_|refine z5 rfl rfl (by omega) ?_|refine z6 rfl rfl (by omega) ?_|(refine z7 rfl rfl ?_;conv=>arg 4;arg 3;whnf)|refine zF (qG _) ?_|refine zF (qF _ _ _) ?_|((first|apply zb rfl|apply za rfl|apply z9 rfl|apply z8 rfl|apply ze rfl|apply zd rfl|apply zc rfl);(focus(repeat(first|assumption|(apply Row.ext;assumption))));(first|exact Nat.le_of_ble_eq_true rfl|rfl);(try rfl))|apply zf|apply zh|apply zj|apply zk|apply zl|apply zm|apply zn|apply zo|apply zp|apply zq|apply zr|apply zs|apply zt|refine zu (by decide) ?_|apply zv|apply zw|apply zx|(apply zy;focus((conv=>lhs;whnf)<;>(first|with_reducible exact rfl|(refine congrArg Value.bool ?_;decide))))|(apply zz;focus((conv=>lhs;whnf)<;>(first|with_reducible exact rfl|(refine congrArg Value.bool ?_;decide))))|apply zA|fail)); exact hheld.out) : a := h ⟨k⟩
theorem go1 {a b : Prop} (k : b) (h : Held b → a := by intro hheld; (first|(apply z0;conv=>arg 4;arg 3;whnf)|apply z1|(apply zO;focus((conv=>lhs;whnf)<;>(first|with_reducible exact rfl|(refine congrArg Value.bool ?_;decide))))|(apply zP;(focus((conv=>lhs;whnf)<;>with_reducible exact rfl));(focus decide))|(apply zQ;focus((conv=>lhs;whnf)<;>exact rfl))|refine z4 rfl rfl ?_|refine z5 rfl rfl (by omega) ?_|refine z6 rfl rfl (by omega) ?_|(refine z7 rfl rfl ?_;conv=>arg 4;arg 3;whnf)|refine zF (qG _) ?_|refine zF (qF _ _ _) ?_|((first|apply zb rfl|apply za rfl|apply z9 rfl|apply z8 rfl|apply ze rfl|apply zd rfl|apply zc rfl);(focus(repeat(first|assumption|(apply Row.ext;assumption))));(first|exact Nat.le_of_ble_eq_true rfl|rfl);(try rfl))|apply zf|apply zh|apply zj|apply zk|apply zl|apply zm|apply zn|apply zo|apply zp|apply zq|apply zr|apply zs|apply zt|refine zu (by decide) ?_|apply zv|apply zw|apply zx|(apply zy;focus((conv=>lhs;whnf)<;>(first|with_reducible exact rfl|(refine congrArg Value.bool ?_;decide))))|(apply zz;focus((conv=>lhs;whnf)<;>(first|with_reducible exact rfl|(refine congrArg Value.bool ?_;decide))))|apply zA|fail); exact hheld.out) : a := h ⟨k⟩
end Go.K
end
section
namespace Go.Proofs.YtilhlcnekkkajaaGreat
open Go Go.K
attribute [local irreducible] regK codeK retK KOp.wp

theorem qRot_some {k : IntKind} {args : List Value} {v : Value} (h : qRot k args = some v) : ∃ (x : W32) (n : Nat), args = [u32 x, .int k (n : Nat)] ∧ 0 < n ∧ n < 32 ∧ v = u32 (rot x n) := by
  unfold qRot at h
  split at h
  · rename_i a k n
    split at h
    · rename_i hc
      refine ⟨BitVec.ofInt 32 a, n.toNat, ?_, by omega, by omega, by simpa using h.symm⟩
      have e1 : ((BitVec.ofInt 32 a).toNat : Int) = a := by rw [BitVec.toNat_ofInt]; omega
      have e2 : ((n.toNat : Nat) : Int) = n := by omega
      rw [u32, e1, e2, hc.1]
    · cases h
  · cases h
attribute [local irreducible] u32
theorem within0_q (a b : Int) (w : World) : K.Spec Tryz.prog F.amount_within [.int .i64 a, .int .i64 b] w fun v w' => v = .bool (decide (0 ≤ a ∧ a ≤ b)) ∧ w' = w := by
  refine s_amount_within rfl ?_
  unfold k_amount_within
  repeat (first|refine go ?_|refine zg (fun _ _=>?_)|refine zi (fun _ _=>?_))
  refine g_split rfl (fun h => ?_) (fun h => ?_)
  · repeat (first|refine go ?_|refine zg (fun _ _=>?_)|refine zi (fun _ _=>?_))
    refine x_ret rfl ⟨congrArg Value.bool ?_, rfl⟩
    have h : 0 ≤ a := h
    simp [h]
  · repeat (first|refine go ?_|refine zg (fun _ _=>?_)|refine zi (fun _ _=>?_))
    refine x_ret rfl ⟨congrArg Value.bool ?_, rfl⟩
    have h : ¬ 0 ≤ a := h
    simp [h]
theorem within1_q (a b : Int) (w : World) : K.Spec Tryz.prog F.tx_within [.int .i64 a, .int .i64 b] w fun v w' => v = .bool (decide (1 ≤ a ∧ a ≤ b)) ∧ w' = w := by
  refine s_tx_within rfl ?_
  unfold k_tx_within
  repeat (first|refine go ?_|refine zg (fun _ _=>?_)|refine zi (fun _ _=>?_))
  refine g_split rfl (fun h => ?_) (fun h => ?_)
  · repeat (first|refine go ?_|refine zg (fun _ _=>?_)|refine zi (fun _ _=>?_))
    refine x_ret rfl ⟨congrArg Value.bool ?_, rfl⟩
    have h : 1 ≤ a := h
    simp [h]
  · repeat (first|refine go ?_|refine zg (fun _ _=>?_)|refine zi (fun _ _=>?_))
    refine x_ret rfl ⟨congrArg Value.bool ?_, rfl⟩
    have h : ¬ 1 ≤ a := h
    simp [h]
theorem good_q (a : Int) (w : World) : K.Spec Tryz.prog F.amount_Good [.int .i64 a] w fun v w' => v = .bool (goodB a) ∧ w' = w := by
  refine s_amount_Good rfl ?_
  unfold k_amount_Good
  repeat (first|refine go ?_|refine zg (fun _ _=>?_)|refine zi (fun _ _=>?_))
  refine st_call rfl (within0_q _ _ _) ?_
  rintro _ w1 ⟨rfl, rfl⟩
  repeat (first|refine go ?_|refine zg (fun _ _=>?_)|refine zi (fun _ _=>?_))
  exact x_ret rfl ⟨rfl, rfl⟩
theorem rgood_q (a : Int) (w : World) : K.Spec Tryz.prog F.kedgeref01_Good [.int .i64 a] w fun v w' => v = .bool (goodB a) ∧ w' = w := by
  refine s_kedgeref01_Good rfl ?_
  unfold k_kedgeref01_Good
  repeat (first|refine go ?_|refine zg (fun _ _=>?_)|refine zi (fun _ _=>?_))
  refine g_split rfl (fun h => ?_) (fun h => ?_)
  · repeat (first|refine go ?_|refine zg (fun _ _=>?_)|refine zi (fun _ _=>?_))
    refine x_ret rfl ⟨congrArg Value.bool ?_, rfl⟩
    have h : 0 ≤ a := h
    simp [goodB, h]
  · repeat (first|refine go ?_|refine zg (fun _ _=>?_)|refine zi (fun _ _=>?_))
    refine x_ret rfl ⟨congrArg Value.bool ?_, rfl⟩
    have h : ¬ 0 ≤ a := h
    simp [goodB, h]
theorem rright_q (x : W32) (n : Nat) (h0 : 0 < n) (hn : n < 32) (w : World) : K.Spec Tryz.prog F.kedgeref04_right [u32 x, .int .u64 (n : Nat)] w fun v w' => v = u32 (rot x n) ∧ w' = w := by
  refine s_kedgeref04_right rfl ?_
  unfold k_kedgeref04_right
  repeat (first|(apply z0;conv=>arg 4;arg 3;whnf)|apply z1|apply zf|apply zh|apply zj|apply zl|apply zm|apply zo|apply zp)
  refine st_bin rfl rfl (w32_shr x .u64 n hn) ?_
  repeat (first|(apply z0;conv=>arg 4;arg 3;whnf)|apply z1|apply zf|apply zh|apply zj|apply zl|apply zm|apply zo|apply zp)
  refine st_bin (v := .int .u64 ((32 - n : Nat) : Int)) rfl rfl (by
    have : IntKind.u64.wrap (32 - (n : Int)) = ((32 - n : Nat) : Int) := by
      have e : ∀ m : Int, IntKind.u64.wrap m = m % 18446744073709551616 := fun _ => rfl
      rw [e]; omega
    show intBin .sub .u64 32 (n : Nat) = _
    simp [intBin, this]) ?_
  repeat (first|(apply z0;conv=>arg 4;arg 3;whnf)|apply z1|apply zf|apply zh|apply zj|apply zl|apply zm|apply zo|apply zp)
  refine st_bin rfl rfl (w32_shl x .u64 (32 - n) (by omega)) ?_
  repeat (first|(apply z0;conv=>arg 4;arg 3;whnf)|apply z1|apply zf|apply zh|apply zj|apply zl|apply zm|apply zo|apply zp)
  refine st_bin rfl rfl (w32_or _ _) ?_
  repeat (first|(apply z0;conv=>arg 4;arg 3;whnf)|apply z1|apply zf|apply zh|apply zj|apply zl|apply zm|apply zo|apply zp)
  exact x_ret rfl ⟨rfl, rfl⟩
theorem left_q (x : W32) (n : Nat) (h0 : 0 < n) (hn : n < 32) (w : World) : K.Spec Tryz.prog F.math_bits_RotateLeft32 [u32 x, .int .i64 (-(n : Int))] w fun v w' => v = u32 (rot x n) ∧ w' = w := by
  refine s_math_bits_RotateLeft32 rfl ?_
  unfold k_math_bits_RotateLeft32
  repeat (first|(apply z0;conv=>arg 4;arg 3;whnf)|apply z1|apply zf|apply zh|apply zj|apply zl|apply zm|apply zo|apply zp)
  refine st_fix rfl rfl ?_
  repeat (first|(apply z0;conv=>arg 4;arg 3;whnf)|apply z1|apply zf|apply zh|apply zj|apply zl|apply zm|apply zo|apply zp)
  refine st_bin rfl rfl (neg_and n h0 hn) ?_
  repeat (first|(apply z0;conv=>arg 4;arg 3;whnf)|apply z1|apply zf|apply zh|apply zj|apply zl|apply zm|apply zo|apply zp)
  refine st_bin rfl rfl (w32_shl x .u64 (32 - n) (by omega)) ?_
  repeat (first|(apply z0;conv=>arg 4;arg 3;whnf)|apply z1|apply zf|apply zh|apply zj|apply zl|apply zm|apply zo|apply zp)
  refine st_bin (v := .int .u64 (n : Nat)) rfl rfl (by
    have : IntKind.u64.wrap (32 - ((32 - n : Nat) : Int)) = (n : Int) := by
      have e : ∀ m : Int, IntKind.u64.wrap m = m % 18446744073709551616 := fun _ => rfl
      rw [e]; omega
    show intBin .sub .u64 32 ((32 - n : Nat) : Int) = _
    simp [intBin, this]) ?_
  repeat (first|(apply z0;conv=>arg 4;arg 3;whnf)|apply z1|apply zf|apply zh|apply zj|apply zl|apply zm|apply zo|apply zp)
  refine st_bin rfl rfl (w32_shr x .u64 n hn) ?_
  repeat (first|(apply z0;conv=>arg 4;arg 3;whnf)|apply z1|apply zf|apply zh|apply zj|apply zl|apply zm|apply zo|apply zp)
  refine st_bin rfl rfl (w32_or _ _) ?_
  repeat (first|(apply z0;conv=>arg 4;arg 3;whnf)|apply z1|apply zf|apply zh|apply zj|apply zl|apply zm|apply zo|apply zp)
  refine x_ret rfl ⟨?_, rfl⟩
  show u32 _ = u32 _
  rw [rot, BitVec.or_comm]
theorem right_q (x : W32) (n : Nat) (h0 : 0 < n) (hn : n < 32) (w : World) : K.Spec Tryz.prog F.sha_right [u32 x, .int .i64 (n : Nat)] w fun v w' => v = u32 (rot x n) ∧ w' = w := by
  refine s_sha_right rfl ?_
  unfold k_sha_right
  repeat (first|(apply z0;conv=>arg 4;arg 3;whnf)|apply z1|apply zf|apply zh|apply zj|apply zl|apply zm|apply zo|apply zp)
  refine st_fix (v := .int .i64 (-(n : Int))) rfl (by
    have : IntKind.i64.wrap (0 - (n : Int)) = -(n : Int) := by rw [IntWalk.i64_in _ (by omega)]; omega
    simp only [KOp.fix]
    show intBin .sub .i64 0 (n : Nat) = _
    simp only [intBin, this]) ?_
  repeat (first|(apply z0;conv=>arg 4;arg 3;whnf)|apply z1|apply zf|apply zh|apply zj|apply zl|apply zm|apply zo|apply zp)
  refine st_call rfl (left_q x n h0 hn _) ?_
  rintro _ w1 ⟨rfl, rfl⟩
  repeat (first|(apply z0;conv=>arg 4;arg 3;whnf)|apply z1|apply zf|apply zh|apply zj|apply zl|apply zm|apply zo|apply zp)
  exact x_ret rfl ⟨rfl, rfl⟩
def qTab : FuncId → Option (List Value → Option Value) := fun f =>
  if Nat.beq f F.amount_within = true then some qFrom0 else if Nat.beq f F.tx_within = true then some qFrom1 else if Nat.beq f F.amount_Good = true then some qGood else if Nat.beq f F.kedgeref01_Good = true then some qGood
  else if Nat.beq f F.sha_right = true then some qRotI else if Nat.beq f F.kedgeref04_right = true then some qRotU else none
theorem calls_q {f : FuncId} {args : List Value} {w : World} {u v : Value} (h : K.Spec Tryz.prog f args w fun v w' => v = u ∧ w' = w) (e : u = v) : Calls Tryz.prog f args.toArray w fun e w' => e = .returned v ∧ w' = w :=
  h.mono fun _ _ ⟨_, h1, h2, h3⟩ => ⟨by rw [h1, h2, e], h3⟩
theorem qFrom_some {m : Int} {args : List Value} {v : Value} (h : qFrom m args = some v) : ∃ a b, args = [.int .i64 a, .int .i64 b] ∧ Value.bool (decide (m ≤ a ∧ a ≤ b)) = v := by
  unfold qFrom at h; split at h
  · exact ⟨_, _, rfl, by simpa using h⟩
  · cases h
theorem qGood_some {args : List Value} {v : Value} (h : qGood args = some v) : ∃ a, args = [.int .i64 a] ∧ Value.bool (goodB a) = v := by
  unfold qGood at h; split at h
  · exact ⟨_, rfl, by simpa using h⟩
  · cases h
instance quiet : Quiet Tryz.prog where
  tab := qTab
  ok := by
    intro f G args v w h hv
    unfold qTab at h
    split at h
    · rename_i e; obtain rfl := Nat.eq_of_beq_eq_true e; cases h
      obtain ⟨a, b, rfl, e⟩ := qFrom_some hv
      exact calls_q (within0_q a b w) e
    split at h
    · rename_i e; obtain rfl := Nat.eq_of_beq_eq_true e; cases h
      obtain ⟨a, b, rfl, e⟩ := qFrom_some hv
      exact calls_q (within1_q a b w) e
    split at h
    · rename_i e; obtain rfl := Nat.eq_of_beq_eq_true e; cases h
      obtain ⟨a, rfl, e⟩ := qGood_some hv
      exact calls_q (good_q a w) e
    split at h
    · rename_i e; obtain rfl := Nat.eq_of_beq_eq_true e; cases h
      obtain ⟨a, rfl, e⟩ := qGood_some hv
      exact calls_q (rgood_q a w) e
    split at h
    · rename_i e; obtain rfl := Nat.eq_of_beq_eq_true e; cases h
      obtain ⟨x, n, rfl, h0, h1, rfl⟩ := qRot_some hv
      exact calls_q (right_q x n h0 h1 w) rfl
    split at h
    · rename_i e; obtain rfl := Nat.eq_of_beq_eq_true e; cases h
      obtain ⟨x, n, rfl, h0, h1, rfl⟩ := qRot_some hv
      exact calls_q (rright_q x n h0 h1 w) rfl
    · cases h
end Go.Proofs.YtilhlcnekkkajaaGreat
end
section
namespace Go.Proofs.YtilhlcnekkkajaaGreat
open Go Go.K
/-- What holds of a run of the code holds of a call. -/
abbrev CS (n : Nat) (k : KC) (rs : List RV) (f : Nat) : Prop := ∀ {args : List Value} {w : World} {R : Value → World → Prop}, Nat.ble args.length n = true → codeK Tryz.prog k (retK rs R) (startEnv args) w → K.Spec Tryz.prog f args w R
theorem cs {n f : Nat} {k : KC} {rs : List RV} {fn : Func} (hf : Tryz.prog.funcs[f]? = some fn) (hrs : resultsOf Tryz.prog fn n = some rs) (hk : compileC Tryz.prog n (bodyOf fn) = k) (hb : fn.body = some (bodyOf fn) := by exact rfl) (hn : fn.ntmps = n := by exact rfl) : CS n k rs f :=
  fun ha h => calls_sound mixed hf hb hn hrs hk (Nat.le_of_ble_eq_true ha) h
/-- The methods that dynamic types have of their own. -/
@[irreducible] noncomputable def mo : TypeId → Value → String → Bool := metOk Tryz.prog
end Go.Proofs.YtilhlcnekkkajaaGreat
end
section
namespace Go.K
open Go
/-- The shape of a drawn region: operations by their numbers, joins, alternatives. -/
inductive Sh where
  | l (is : List Nat)
  | j (x y : Sh)
  | b (is : List Nat) (x y : Sh)
  | a
def ovAt : List (Nat × KOp) → Nat → Option KOp
  | [], _ => none
  | (k, o) :: l, i => if Nat.beq k i then some o else ovAt l i
/-- An operation, resolved: as is told of its place, or else by what it is. -/
def kiOf (P : Program) [Quiet P] (ov : List (Nat × KOp)) (id : Nat) (ops : Array Oper) (i : Nat) (o : Oper) : KI := ⟨o.dst, match ovAt ov (id * 1000 + i) with
  | some k => k
  | none => compileOp P o, match o.guard with
  | none => none
  | some (g, b) => ((ops[g]?).bind (·.dst)).map (·, b)⟩
def kiAt (P : Program) [Quiet P] (ov : List (Nat × KOp)) (id : Nat) (ops : Array Oper) (i : Nat) : KI := match ops[i]? with
  | some o => kiOf P ov id ops i o
  | none => ⟨none, .dead, none⟩
def kiCons (P : Program) [Quiet P] (ov : List (Nat × KOp)) (id : Nat) (ops : Array Oper) : List Nat → KR → KR
  | [], r => r
  | i :: is, r => .cons (kiAt P ov id ops i) (kiCons P ov id ops is r)
def kiAll (P : Program) [Quiet P] (ov : List (Nat × KOp)) (id : Nat) (ops : Array Oper) : Nat → List Oper → KR
  | _, [] => .nil
  | i, o :: l => .cons (kiOf P ov id ops i o) (kiAll P ov id ops (i + 1) l)
def Sh.kr (P : Program) [Quiet P] (ov : List (Nat × KOp)) (id : Nat) (ops : Array Oper) : Sh → KR
  | .l is => kiCons P ov id ops is .nil
  | .j x y => .join (Sh.kr P ov id ops x) (Sh.kr P ov id ops y)
  | .b is x y => kiCons P ov id ops is (.both (Sh.kr P ov id ops x) (Sh.kr P ov id ops y))
  | .a => .nil
/-- The operations of a region of many orders, each with those that it waits for. -/
def itemsK (P : Program) [Quiet P] (ov : List (Nat × KOp)) (id : Nat) (ops : Array Oper) : Nat → List Oper → List (KI × List Nat)
  | _, [] => []
  | i, o :: l => (kiOf P ov id ops i o, depsOf o) :: itemsK P ov id ops (i + 1) l
def Sh.isA : Sh → Bool
  | .a => true
  | _ => false
def shAt : List (Nat × Sh) → Nat → Sh
  | [], _ => .l []
  | (k, s) :: l, i => if Nat.beq k i then s else shAt l i
def kS (P : Program) [Quiet P] (ss : List (Nat × Sh)) (ov : List (Nat × KOp)) : Code → KC
  | .skip => .skip
  | .region id ops true => match (shAt ss id).isA with
    | true => .anyR (itemsK P ov id ops 0 ops.toList)
    | false => .reg true (Sh.kr P ov id ops (shAt ss id))
  | .region id ops false => .reg false (kiAll P ov id ops 0 ops.toList)
  | .seq a b => .seq (kS P ss ov a) (kS P ss ov b)
  | .cond x a b => .cond x (kS P ss ov a) (kS P ss ov b)
  | .block id c => .block id (kS P ss ov c)
  | .loop c => .loop (kS P ss ov c)
  | .exit id => .exit id
  | _ => .ret
theorem fixN (n : Nat) : Int.ofNat (no_index (@OfNat.ofNat Nat n (instOfNatNat n))) = @OfNat.ofNat Int n (@instOfNat n) := rfl
theorem fixM : Int.negSucc (no_index (@OfNat.ofNat Nat 0 (instOfNatNat 0))) = -1 := rfl
theorem fixB (n : Nat) (h : n < 2 ^ 8) : UInt8.ofBitVec (BitVec.ofFin ⟨no_index (@OfNat.ofNat Nat n (instOfNatNat n)), h⟩) = @OfNat.ofNat UInt8 n UInt8.instOfNat := by
  apply UInt8.toNat_inj.1
  show n = n % 2 ^ 8
  omega
theorem mkA {α : Type} (l : List α) : Array.mk l = l.toArray := rfl
structure HeldS (b : Prop) : Prop where
  out : b
/-- The code, read off. -/
theorem oy {a b : Prop} (k : b) (h : HeldS b → a := by (intro hheld; set_option maxRecDepth 100000 in (conv => (arg 2; reduce; (try (dsimp only [fixN, fixM, mkA])); (try (simp only [fixB])))); exact hheld.out)) : a := h ⟨k⟩
end Go.K
end
