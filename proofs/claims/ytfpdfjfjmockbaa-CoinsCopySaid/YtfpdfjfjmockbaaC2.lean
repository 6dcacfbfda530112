/- The resolved code of functions, printed by program. -/
import Derived.Test.YtfpdfjfjmockbaaC0
namespace Go.Proofs.Ytfpdfjfjmockbaa
open Go Go.K
/-- kedge/kedgeref10.Total -/
noncomputable def k_kedgeref10_Total : KC :=
(.seq (.reg false <|
 .cons ⟨(some 2), .move (.const (.int .i64 0)), none⟩ <|
 .nil)
 (.seq (.reg false <|
 .cons ⟨(some 3), .move (.const (.int .i64 0)), none⟩ <|
 .nil)
 (.seq (.seq (.reg false <|
 .cons ⟨(some 4), .move (.const (.int .i64 0)), none⟩ <|
 .nil)
 (.block 0 (.loop (.seq (.seq (.reg false <|
 .cons ⟨(some 5), .move (t 4), none⟩ <|
 .cons ⟨(some 6), .move (t 0), none⟩ <|
 .cons ⟨(some 7), .len false (t 6), none⟩ <|
 .cons ⟨(some 8), .bin .lss (t 5) (t 7), none⟩ <|
 .nil)
 (.cond (t 8) .skip (.exit 0)))
 (.seq (.block 1 (.reg false <|
 .cons ⟨(some 11), .move (t 3), none⟩ <|
 .cons ⟨(some 12), .move (t 0), none⟩ <|
 .cons ⟨(some 13), .move (t 4), none⟩ <|
 .cons ⟨(some 14), .indexAddr 5 (t 12) (t 13), none⟩ <|
 .cons ⟨(some 15), .fieldAddr 2 (t 14), none⟩ <|
 .cons ⟨(some 16), .fieldAddr 0 (t 15), none⟩ <|
 .cons ⟨(some 17), .fieldAddr 0 (t 16), none⟩ <|
 .cons ⟨(some 18), .load (t 17), none⟩ <|
 .cons ⟨(some 19), .bin .add (t 11) (t 18), none⟩ <|
 .cons ⟨(some 3), .move (t 19), none⟩ <|
 .nil))
 (.reg false <|
 .cons ⟨(some 9), .move (t 4), none⟩ <|
 .cons ⟨(some 10), .bin .add (t 9) (.const (.int .i64 1)), none⟩ <|
 .cons ⟨(some 4), .move (t 10), none⟩ <|
 .nil))))))
 (.seq (.reg false <|
 .cons ⟨(some 20), .move (t 3), none⟩ <|
 .cons ⟨(some 2), .move (t 20), none⟩ <|
 .nil)
 .ret))))
theorem c_kedgeref10_Total : compileC Try.prog 21 (bodyOf Try.f28) = k_kedgeref10_Total := by kernel_rfl
theorem s_kedgeref10_Total {args : List Value} {w : World} {R : Value → World → Prop} (ha : Nat.ble args.length 21 = true) (h : codeK Try.prog k_kedgeref10_Total (retK [.tmp 2] R) (startEnv args) w) : K.Spec Try.prog F.kedgeref10_Total args w R :=
  calls_sound mixed Try.func28 rfl rfl (by kernel_rfl) c_kedgeref10_Total (Nat.le_of_ble_eq_true ha) h
/-- kedge/coins.order -/
noncomputable def k_coins_order : KC :=
(.seq (.reg false <|
 .cons ⟨(some 2), .box 55 (t 0), none⟩ <|
 .cons ⟨(some 3), .box 55 (t 1), none⟩ <|
 .cons ⟨(some 4), .move (.const (.int .i64 0)), none⟩ <|
 .nil)
 (.seq (.block 0 (.seq (.reg false <|
 .cons ⟨(some 6), .fieldAddr 0 (t 2), none⟩ <|
 .cons ⟨(some 7), .loadN 2 (t 6), none⟩ <|
 .cons ⟨(some 8), .fieldAddr 0 (t 3), none⟩ <|
 .cons ⟨(some 9), .loadN 2 (t 8), none⟩ <|
 .cons ⟨(some 10), .call 35 [(t 7), (t 9)], none⟩ <|
 .cons ⟨(some 5), .move (t 10), none⟩ <|
 .nil)
 (.cond (t 5) (.seq (.reg false <|
 .cons ⟨(some 4), .move (.const (.int .i64 (-1))), none⟩ <|
 .nil)
 .ret) (.seq (.reg false <|
 .cons ⟨(some 12), .fieldAddr 0 (t 3), none⟩ <|
 .cons ⟨(some 13), .loadN 2 (t 12), none⟩ <|
 .cons ⟨(some 14), .fieldAddr 0 (t 2), none⟩ <|
 .cons ⟨(some 15), .loadN 2 (t 14), none⟩ <|
 .cons ⟨(some 16), .call 35 [(t 13), (t 15)], none⟩ <|
 .cons ⟨(some 11), .move (t 16), none⟩ <|
 .nil)
 (.cond (t 11) (.seq (.reg false <|
 .cons ⟨(some 4), .move (.const (.int .i64 1)), none⟩ <|
 .nil)
 .ret) .skip)))))
 (.seq (.reg false <|
 .cons ⟨(some 4), .move (.const (.int .i64 0)), none⟩ <|
 .nil)
 .ret)))
theorem c_coins_order : compileC Try.prog 17 (bodyOf Try.f30) = k_coins_order := by kernel_rfl
theorem s_coins_order {args : List Value} {w : World} {R : Value → World → Prop} (ha : Nat.ble args.length 17 = true) (h : codeK Try.prog k_coins_order (retK [.tmp 4] R) (startEnv args) w) : K.Spec Try.prog F.coins_order args w R :=
  calls_sound mixed Try.func30 rfl rfl (by kernel_rfl) c_coins_order (Nat.le_of_ble_eq_true ha) h
/-- kedge/amount.Good -/
noncomputable def k_amount_Good : KC :=
(.seq (.reg false <|
 .cons ⟨(some 2), .move (.const (.bool false)), none⟩ <|
 .nil)
 (.seq (.reg false <|
 .cons ⟨(some 3), .move (t 0), none⟩ <|
 .cons ⟨(some 4), .call 37 [(t 3), (.const (.int .i64 2100000000000000))], none⟩ <|
 .cons ⟨(some 2), .move (t 4), none⟩ <|
 .nil)
 .ret))
theorem c_amount_Good : compileC Try.prog 5 (bodyOf Try.f32) = k_amount_Good := by kernel_rfl
theorem s_amount_Good {args : List Value} {w : World} {R : Value → World → Prop} (ha : Nat.ble args.length 5 = true) (h : codeK Try.prog k_amount_Good (retK [.tmp 2] R) (startEnv args) w) : K.Spec Try.prog F.amount_Good args w R :=
  calls_sound mixed Try.func32 rfl rfl (by kernel_rfl) c_amount_Good (Nat.le_of_ble_eq_true ha) h
/-- kedge/tx.Less -/
noncomputable def k_tx_Less : KC :=
(.seq (.reg false <|
 .cons ⟨(some 2), .box 28 (t 0), none⟩ <|
 .cons ⟨(some 3), .box 28 (t 1), none⟩ <|
 .cons ⟨(some 4), .move (.const (.bool false)), none⟩ <|
 .nil)
 (.seq (.reg true <|
 .cons ⟨(some 5), .fieldAddr 0 (t 2), none⟩ <|
 .cons ⟨(some 6), .load (t 5), none⟩ <|
 .cons ⟨(some 7), .fieldAddr 0 (t 3), none⟩ <|
 .cons ⟨(some 8), .load (t 7), none⟩ <|
 .cons ⟨(some 10), .fieldAddr 1 (t 2), none⟩ <|
 .cons ⟨(some 12), .fieldAddr 1 (t 3), none⟩ <|
 .both (.cons ⟨(some 9), .call 49 [(t 6), (t 8)], none⟩ <|
 .cons ⟨(some 11), .load (t 10), none⟩ <|
 .cons ⟨(some 13), .load (t 12), none⟩ <|
 .cons ⟨(some 14), .call 50 [(t 11), (t 13)], none⟩ <|
 .cons ⟨(some 15), .buildSlice 3 2 [(.int .i64 0), (.int .i64 0)] [(0, 1, (t 9)), (1, 1, (t 14))], none⟩ <|
 .cons ⟨(some 16), .call 48 [(t 15)], none⟩ <|
 .cons ⟨(some 17), .bin .lss (t 16) (.const (.int .i64 0)), none⟩ <|
 .cons ⟨(some 4), .move (t 17), none⟩ <|
 .nil)
 (.both (.cons ⟨(some 11), .load (t 10), none⟩ <|
 .both (.cons ⟨(some 9), .call 49 [(t 6), (t 8)], none⟩ <|
 .cons ⟨(some 13), .load (t 12), none⟩ <|
 .cons ⟨(some 14), .call 50 [(t 11), (t 13)], none⟩ <|
 .cons ⟨(some 15), .buildSlice 3 2 [(.int .i64 0), (.int .i64 0)] [(0, 1, (t 9)), (1, 1, (t 14))], none⟩ <|
 .cons ⟨(some 16), .call 48 [(t 15)], none⟩ <|
 .cons ⟨(some 17), .bin .lss (t 16) (.const (.int .i64 0)), none⟩ <|
 .cons ⟨(some 4), .move (t 17), none⟩ <|
 .nil)
 (.cons ⟨(some 13), .load (t 12), none⟩ <|
 .cons ⟨(some 9), .call 49 [(t 6), (t 8)], none⟩ <|
 .cons ⟨(some 14), .call 50 [(t 11), (t 13)], none⟩ <|
 .cons ⟨(some 15), .buildSlice 3 2 [(.int .i64 0), (.int .i64 0)] [(0, 1, (t 9)), (1, 1, (t 14))], none⟩ <|
 .cons ⟨(some 16), .call 48 [(t 15)], none⟩ <|
 .cons ⟨(some 17), .bin .lss (t 16) (.const (.int .i64 0)), none⟩ <|
 .cons ⟨(some 4), .move (t 17), none⟩ <|
 .nil))
 (.cons ⟨(some 13), .load (t 12), none⟩ <|
 .both (.cons ⟨(some 9), .call 49 [(t 6), (t 8)], none⟩ <|
 .cons ⟨(some 11), .load (t 10), none⟩ <|
 .cons ⟨(some 14), .call 50 [(t 11), (t 13)], none⟩ <|
 .cons ⟨(some 15), .buildSlice 3 2 [(.int .i64 0), (.int .i64 0)] [(0, 1, (t 9)), (1, 1, (t 14))], none⟩ <|
 .cons ⟨(some 16), .call 48 [(t 15)], none⟩ <|
 .cons ⟨(some 17), .bin .lss (t 16) (.const (.int .i64 0)), none⟩ <|
 .cons ⟨(some 4), .move (t 17), none⟩ <|
 .nil)
 (.cons ⟨(some 11), .load (t 10), none⟩ <|
 .cons ⟨(some 9), .call 49 [(t 6), (t 8)], none⟩ <|
 .cons ⟨(some 14), .call 50 [(t 11), (t 13)], none⟩ <|
 .cons ⟨(some 15), .buildSlice 3 2 [(.int .i64 0), (.int .i64 0)] [(0, 1, (t 9)), (1, 1, (t 14))], none⟩ <|
 .cons ⟨(some 16), .call 48 [(t 15)], none⟩ <|
 .cons ⟨(some 17), .bin .lss (t 16) (.const (.int .i64 0)), none⟩ <|
 .cons ⟨(some 4), .move (t 17), none⟩ <|
 .nil))))
 .ret))
theorem c_tx_Less : compileC Try.prog 18 (bodyOf Try.f35) = k_tx_Less := by kernel_rfl
theorem s_tx_Less {args : List Value} {w : World} {R : Value → World → Prop} (ha : Nat.ble args.length 18 = true) (h : codeK Try.prog k_tx_Less (retK [.tmp 4] R) (startEnv args) w) : K.Spec Try.prog F.tx_Less args w R :=
  calls_sound mixed Try.func35 rfl rfl (by kernel_rfl) c_tx_Less (Nat.le_of_ble_eq_true ha) h
/-- kedge/amount.within -/
noncomputable def k_amount_within : KC :=
(.seq (.reg false <|
 .cons ⟨(some 4), .move (.const (.bool false)), none⟩ <|
 .nil)
 (.seq (.reg false <|
 .cons ⟨(some 5), .move (t 0), none⟩ <|
 .cons ⟨(some 6), .bin .geq (t 5) (.const (.int .i64 0)), none⟩ <|
 .cons ⟨(some 7), .move (t 6), none⟩ <|
 .cons ⟨(some 8), .move (t 0), (some (7, true))⟩ <|
 .cons ⟨(some 9), .move (t 1), (some (7, true))⟩ <|
 .cons ⟨(some 10), .bin .leq (t 8) (t 9), (some (7, true))⟩ <|
 .cons ⟨(some 11), .pick (t 7) (t 10) (.const (.bool false)), none⟩ <|
 .cons ⟨(some 4), .move (t 11), none⟩ <|
 .nil)
 .ret))
theorem c_amount_within : compileC Try.prog 12 (bodyOf Try.f37) = k_amount_within := by kernel_rfl
theorem s_amount_within {args : List Value} {w : World} {R : Value → World → Prop} (ha : Nat.ble args.length 12 = true) (h : codeK Try.prog k_amount_within (retK [.tmp 4] R) (startEnv args) w) : K.Spec Try.prog F.amount_within args w R :=
  calls_sound mixed Try.func37 rfl rfl (by kernel_rfl) c_amount_within (Nat.le_of_ble_eq_true ha) h
/-- cmp.Or[int] -/
noncomputable def k_cmp_Or_int : KC :=
(.seq (.reg false <|
 .cons ⟨(some 2), .move (.const (.int .i64 0)), none⟩ <|
 .nil)
 (.seq (.reg false <|
 .cons ⟨(some 3), .move (.const (.int .i64 0)), none⟩ <|
 .nil)
 (.seq (.seq (.reg false <|
 .cons ⟨(some 6), .move (t 0), none⟩ <|
 .cons ⟨(some 7), .len false (t 6), none⟩ <|
 .cons ⟨(some 8), .move (.const (.int .i64 0)), none⟩ <|
 .nil)
 (.block 0 (.loop (.seq (.reg false <|
 .cons ⟨(some 9), .bin .lss (t 8) (t 7), none⟩ <|
 .nil)
 (.seq (.cond (t 9) .skip (.exit 0))
 (.seq (.block 1 (.seq (.reg false <|
 .cons ⟨(some 10), .indexAddr 1 (t 6) (t 8), none⟩ <|
 .cons ⟨(some 11), .load (t 10), none⟩ <|
 .cons ⟨(some 5), .move (t 11), none⟩ <|
 .nil)
 (.seq (.reg false <|
 .cons ⟨(some 12), .move (t 5), none⟩ <|
 .cons ⟨(some 13), .move (t 3), none⟩ <|
 .cons ⟨(some 14), .bin .neq (t 12) (t 13), none⟩ <|
 .nil)
 (.cond (t 14) (.seq (.reg false <|
 .cons ⟨(some 15), .move (t 5), none⟩ <|
 .cons ⟨(some 2), .move (t 15), none⟩ <|
 .nil)
 .ret) .skip))))
 (.reg false <|
 .cons ⟨(some 16), .bin .add (t 8) (.const (.int .i64 1)), none⟩ <|
 .cons ⟨(some 8), .move (t 16), none⟩ <|
 .nil)))))))
 (.seq (.reg false <|
 .cons ⟨(some 17), .move (t 3), none⟩ <|
 .cons ⟨(some 2), .move (t 17), none⟩ <|
 .nil)
 .ret))))
theorem c_cmp_Or_int : compileC Try.prog 18 (bodyOf Try.f48) = k_cmp_Or_int := by kernel_rfl
theorem s_cmp_Or_int {args : List Value} {w : World} {R : Value → World → Prop} (ha : Nat.ble args.length 18 = true) (h : codeK Try.prog k_cmp_Or_int (retK [.tmp 2] R) (startEnv args) w) : K.Spec Try.prog F.cmp_Or_int args w R :=
  calls_sound mixed Try.func48 rfl rfl (by kernel_rfl) c_cmp_Or_int (Nat.le_of_ble_eq_true ha) h
/-- cmp.Compare[uint32] -/
noncomputable def k_cmp_Compare_uint32 : KC :=
(.seq (.reg false <|
 .cons ⟨(some 4), .move (.const (.int .i64 0)), none⟩ <|
 .nil)
 (.seq (.reg false <|
 .cons ⟨(some 7), .move (t 0), none⟩ <|
 .cons ⟨(some 8), .call 57 [(t 7)], none⟩ <|
 .cons ⟨(some 5), .move (t 8), none⟩ <|
 .nil)
 (.seq (.reg false <|
 .cons ⟨(some 9), .move (t 1), none⟩ <|
 .cons ⟨(some 10), .call 57 [(t 9)], none⟩ <|
 .cons ⟨(some 6), .move (t 10), none⟩ <|
 .nil)
 (.seq (.seq (.reg false <|
 .cons ⟨(some 11), .move (t 5), none⟩ <|
 .nil)
 (.cond (t 11) (.seq (.seq (.reg false <|
 .cons ⟨(some 12), .move (t 6), none⟩ <|
 .nil)
 (.cond (t 12) (.seq (.reg false <|
 .cons ⟨(some 4), .move (.const (.int .i64 0)), none⟩ <|
 .nil)
 .ret) .skip))
 (.seq (.reg false <|
 .cons ⟨(some 4), .move (.const (.int .i64 (-1))), none⟩ <|
 .nil)
 .ret)) .skip))
 (.seq (.seq (.reg false <|
 .cons ⟨(some 13), .move (t 6), none⟩ <|
 .nil)
 (.cond (t 13) (.seq (.reg false <|
 .cons ⟨(some 4), .move (.const (.int .i64 1)), none⟩ <|
 .nil)
 .ret) .skip))
 (.seq (.seq (.reg false <|
 .cons ⟨(some 14), .move (t 0), none⟩ <|
 .cons ⟨(some 15), .move (t 1), none⟩ <|
 .cons ⟨(some 16), .bin .lss (t 14) (t 15), none⟩ <|
 .nil)
 (.cond (t 16) (.seq (.reg false <|
 .cons ⟨(some 4), .move (.const (.int .i64 (-1))), none⟩ <|
 .nil)
 .ret) .skip))
 (.seq (.seq (.reg false <|
 .cons ⟨(some 17), .move (t 0), none⟩ <|
 .cons ⟨(some 18), .move (t 1), none⟩ <|
 .cons ⟨(some 19), .bin .gtr (t 17) (t 18), none⟩ <|
 .nil)
 (.cond (t 19) (.seq (.reg false <|
 .cons ⟨(some 4), .move (.const (.int .i64 1)), none⟩ <|
 .nil)
 .ret) .skip))
 (.seq (.reg false <|
 .cons ⟨(some 4), .move (.const (.int .i64 0)), none⟩ <|
 .nil)
 .ret))))))))
theorem c_cmp_Compare_uint32 : compileC Try.prog 20 (bodyOf Try.f50) = k_cmp_Compare_uint32 := by kernel_rfl
theorem s_cmp_Compare_uint32 {args : List Value} {w : World} {R : Value → World → Prop} (ha : Nat.ble args.length 20 = true) (h : codeK Try.prog k_cmp_Compare_uint32 (retK [.tmp 4] R) (startEnv args) w) : K.Spec Try.prog F.cmp_Compare_uint32 args w R :=
  calls_sound mixed Try.func50 rfl rfl (by kernel_rfl) c_cmp_Compare_uint32 (Nat.le_of_ble_eq_true ha) h
/-- cmp.isNaN[uint32] -/
noncomputable def k_cmp_isNaN_uint32 : KC :=
(.seq (.reg false <|
 .cons ⟨(some 2), .move (.const (.bool false)), none⟩ <|
 .nil)
 (.seq (.reg false <|
 .cons ⟨(some 3), .move (t 0), none⟩ <|
 .cons ⟨(some 4), .move (t 0), none⟩ <|
 .cons ⟨(some 5), .bin .neq (t 3) (t 4), none⟩ <|
 .cons ⟨(some 2), .move (t 5), none⟩ <|
 .nil)
 .ret))
theorem c_cmp_isNaN_uint32 : compileC Try.prog 6 (bodyOf Try.f57) = k_cmp_isNaN_uint32 := by kernel_rfl
theorem s_cmp_isNaN_uint32 {args : List Value} {w : World} {R : Value → World → Prop} (ha : Nat.ble args.length 6 = true) (h : codeK Try.prog k_cmp_isNaN_uint32 (retK [.tmp 2] R) (startEnv args) w) : K.Spec Try.prog F.cmp_isNaN_uint32 args w R :=
  calls_sound mixed Try.func57 rfl rfl (by kernel_rfl) c_cmp_isNaN_uint32 (Nat.le_of_ble_eq_true ha) h
end Go.Proofs.Ytfpdfjfjmockbaa
