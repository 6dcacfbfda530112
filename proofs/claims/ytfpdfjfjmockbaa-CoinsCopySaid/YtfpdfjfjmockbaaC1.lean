/- The resolved code of functions, printed by program. -/
import Derived.Test.YtfpdfjfjmockbaaC0
namespace Go.Proofs.Ytfpdfjfjmockbaa
open Go Go.K
/-- kedge/kedgelaw10.CoinsPlay -/
noncomputable def k_kedgelaw10_CoinsPlay : KC :=
(.seq (.reg false <|
 .cons ⟨(some 2), .move (.const (.bool false)), none⟩ <|
 .nil)
 (.seq (.reg false <|
 .cons ⟨(some 19), .call 7 [], none⟩ <|
 .cons ⟨(some 3), .move (t 19), none⟩ <|
 .nil)
 (.seq (.reg false <|
 .cons ⟨(some 4), .move (.const (.slice none 0 0)), none⟩ <|
 .nil)
 (.seq (.seq (.reg false <|
 .cons ⟨(some 20), .move (t 0), none⟩ <|
 .cons ⟨(some 21), .move (t 0), none⟩ <|
 .cons ⟨(some 22), .len false (t 21), none⟩ <|
 .cons ⟨(some 23), .minmax false (t 22) [(.const (.int .i64 40))], none⟩ <|
 .cons ⟨(some 24), .sliceSl 9 (t 20) none (some (t 23)), none⟩ <|
 .cons ⟨(some 25), .len false (t 24), none⟩ <|
 .cons ⟨(some 26), .move (.const (.int .i64 0)), none⟩ <|
 .nil)
 (.block 0 (.loop (.seq (.reg false <|
 .cons ⟨(some 27), .bin .lss (t 26) (t 25), none⟩ <|
 .nil)
 (.seq (.cond (t 27) .skip (.exit 0))
 (.seq (.block 1 (.seq (.reg false <|
 .cons ⟨(some 28), .indexAddr 9 (t 24) (t 26), none⟩ <|
 .cons ⟨(some 29), .loadN 9 (t 28), none⟩ <|
 .cons ⟨(some 6), .alloc 30 [(.int .u8 0), (.int .u8 0), (.int .u8 0), (.int .i64 0), (.int .i64 0), (.string ⟨#[]⟩), (.string ⟨#[]⟩), (.int .u32 0), (.bool false)], none⟩ <|
 .cons ⟨none, .storeN 9 (t 6) (t 29), none⟩ <|
 .nil)
 (.seq (.reg false <|
 .cons ⟨(some 30), .loadN 9 (t 6), none⟩ <|
 .cons ⟨(some 31), .call 8 [(t 30)], none⟩ <|
 .cons ⟨(some 7), .alloc 28 [(.string ⟨#[]⟩), (.int .u32 0)], none⟩ <|
 .cons ⟨none, .storeN 2 (t 7) (t 31), none⟩ <|
 .nil)
 (.seq (.seq (.reg false <|
 .cons ⟨(some 32), .fieldAddr 0 (t 6), none⟩ <|
 .cons ⟨(some 33), .load (t 32), none⟩ <|
 .cons ⟨(some 34), .bin .rem (t 33) (.const (.int .u8 4)), none⟩ <|
 .nil)
 (.block 2 (.seq (.reg false <|
 .cons ⟨(some 53), .bin .eql (t 34) (.const (.int .u8 2)), none⟩ <|
 .cons ⟨(some 52), .move (t 53), none⟩ <|
 .nil)
 (.cond (t 52) (.seq (.reg false <|
 .cons ⟨(some 55), .move (t 3), none⟩ <|
 .cons ⟨(some 56), .loadN 2 (t 7), none⟩ <|
 .cons ⟨(some 57), .call 9 [(t 55), (t 56)], none⟩ <|
 .cons ⟨(some 54), .move (t 57), none⟩ <|
 .cons ⟨(some 58), .extract 0 (t 54), none⟩ <|
 .cons ⟨(some 59), .extract 1 (t 54), none⟩ <|
 .cons ⟨(some 8), .alloc 35 [(.int .i64 0), (.string ⟨#[]⟩), (.int .i64 0)], none⟩ <|
 .cons ⟨none, .storeN 3 (t 8) (t 58), none⟩ <|
 .cons ⟨(some 9), .move (t 59), none⟩ <|
 .nil)
 (.seq (.reg false <|
 .cons ⟨(some 61), .move (t 4), none⟩ <|
 .cons ⟨(some 62), .loadN 2 (t 7), none⟩ <|
 .cons ⟨(some 63), .call 10 [(t 61), (t 62)], none⟩ <|
 .cons ⟨(some 60), .move (t 63), none⟩ <|
 .cons ⟨(some 64), .extract 0 (t 60), none⟩ <|
 .cons ⟨(some 65), .extract 1 (t 60), none⟩ <|
 .cons ⟨(some 66), .extract 2 (t 60), none⟩ <|
 .cons ⟨(some 11), .alloc 35 [(.int .i64 0), (.string ⟨#[]⟩), (.int .i64 0)], none⟩ <|
 .cons ⟨(some 10), .move (t 64), none⟩ <|
 .cons ⟨none, .storeN 3 (t 11) (t 65), none⟩ <|
 .cons ⟨(some 12), .move (t 66), none⟩ <|
 .nil)
 (.seq (.seq (.reg false <|
 .cons ⟨(some 67), .loadN 3 (t 8), none⟩ <|
 .cons ⟨(some 68), .loadN 3 (t 11), none⟩ <|
 .cons ⟨(some 69), .eqAgg true [.i, .s, .i] (t 67) (t 68), none⟩ <|
 .cons ⟨(some 70), .move (t 69), none⟩ <|
 .cons ⟨(some 71), .move (t 9), (some (70, false))⟩ <|
 .cons ⟨(some 72), .move (t 12), (some (70, false))⟩ <|
 .cons ⟨(some 73), .bin .neq (t 71) (t 72), (some (70, false))⟩ <|
 .cons ⟨(some 74), .pick (t 70) (.const (.bool true)) (t 73), none⟩ <|
 .nil)
 (.cond (t 74) (.seq (.reg false <|
 .cons ⟨(some 2), .move (.const (.bool false)), none⟩ <|
 .nil)
 .ret) .skip))
 (.reg false <|
 .cons ⟨(some 75), .move (t 10), none⟩ <|
 .cons ⟨(some 4), .move (t 75), none⟩ <|
 .nil)))) (.seq (.reg false <|
 .cons ⟨(some 77), .bin .eql (t 34) (.const (.int .u8 3)), none⟩ <|
 .cons ⟨(some 76), .move (t 77), none⟩ <|
 .nil)
 (.cond (t 76) (.seq (.reg false <|
 .cons ⟨(some 79), .move (t 3), none⟩ <|
 .cons ⟨(some 80), .loadN 2 (t 7), none⟩ <|
 .cons ⟨(some 81), .call 11 [(t 79), (t 80)], none⟩ <|
 .cons ⟨(some 78), .move (t 81), none⟩ <|
 .cons ⟨(some 82), .extract 0 (t 78), none⟩ <|
 .cons ⟨(some 83), .extract 1 (t 78), none⟩ <|
 .cons ⟨(some 13), .alloc 35 [(.int .i64 0), (.string ⟨#[]⟩), (.int .i64 0)], none⟩ <|
 .cons ⟨none, .storeN 3 (t 13) (t 82), none⟩ <|
 .cons ⟨(some 14), .move (t 83), none⟩ <|
 .nil)
 (.seq (.reg false <|
 .cons ⟨(some 84), .move (t 4), none⟩ <|
 .cons ⟨(some 85), .loadN 2 (t 7), none⟩ <|
 .cons ⟨(some 86), .call 12 [(t 84), (t 85)], none⟩ <|
 .cons ⟨(some 15), .move (t 86), none⟩ <|
 .nil)
 (.seq (.reg true <|
 .cons ⟨(some 87), .move (t 14), none⟩ <|
 .cons ⟨(some 88), .move (t 15), none⟩ <|
 .cons ⟨(some 89), .bin .geq (t 88) (.const (.int .i64 0)), none⟩ <|
 .cons ⟨(some 90), .eqNil true .bool (t 87) (t 89), none⟩ <|
 .cons ⟨(some 91), .move (t 90), none⟩ <|
 .cons ⟨(some 92), .move (t 14), (some (91, false))⟩ <|
 .cons ⟨(some 93), .move (t 92), (some (91, false))⟩ <|
 .cons ⟨(some 94), .loadN 3 (t 13), (some (93, true))⟩ <|
 .cons ⟨(some 95), .move (t 4), (some (93, true))⟩ <|
 .cons ⟨(some 96), .move (t 15), (some (93, true))⟩ <|
 .cons ⟨(some 97), .indexAddr 5 (t 95) (t 96), (some (93, true))⟩ <|
 .cons ⟨(some 98), .fieldAddr 2 (t 97), (some (93, true))⟩ <|
 .cons ⟨(some 99), .loadN 3 (t 98), (some (93, true))⟩ <|
 .cons ⟨(some 100), .eqAgg true [.i, .s, .i] (t 94) (t 99), (some (93, true))⟩ <|
 .cons ⟨(some 101), .pick (t 93) (t 100) (.const (.bool false)), (some (91, false))⟩ <|
 .cons ⟨(some 102), .pick (t 91) (.const (.bool true)) (t 101), none⟩ <|
 .cons ⟨(some 103), .move (t 102), none⟩ <|
 .cons ⟨(some 104), .move (t 14), (some (103, false))⟩ <|
 .cons ⟨(some 105), .not (t 104), (some (103, false))⟩ <|
 .cons ⟨(some 106), .move (t 105), (some (103, false))⟩ <|
 .cons ⟨(some 107), .loadN 3 (t 13), (some (106, true))⟩ <|
 .cons ⟨(some 108), .build [(.int .i64 0), (.string ⟨#[]⟩), (.int .i64 0)] [], (some (106, true))⟩ <|
 .cons ⟨(some 109), .eqAgg true [.i, .s, .i] (t 107) (t 108), (some (106, true))⟩ <|
 .cons ⟨(some 110), .pick (t 106) (t 109) (.const (.bool false)), (some (103, false))⟩ <|
 .cons ⟨(some 111), .pick (t 103) (.const (.bool true)) (t 110), none⟩ <|
 .nil)
 (.cond (t 111) (.seq (.reg false <|
 .cons ⟨(some 2), .move (.const (.bool false)), none⟩ <|
 .nil)
 .ret) .skip)))) (.seq (.reg true <|
 .cons ⟨(some 35), .move (t 3), none⟩ <|
 .cons ⟨(some 37), .loadN 9 (t 6), none⟩ <|
 .both (.cons ⟨(some 36), .loadN 2 (t 7), none⟩ <|
 .cons ⟨(some 38), .call 14 [(t 37)], none⟩ <|
 .cons ⟨(some 39), .call 13 [(t 35), (t 36), (t 38)], none⟩ <|
 .cons ⟨(some 16), .move (t 39), none⟩ <|
 .nil)
 (.cons ⟨(some 38), .call 14 [(t 37)], none⟩ <|
 .cons ⟨(some 36), .loadN 2 (t 7), none⟩ <|
 .cons ⟨(some 39), .call 13 [(t 35), (t 36), (t 38)], none⟩ <|
 .cons ⟨(some 16), .move (t 39), none⟩ <|
 .nil))
 (.seq (.reg true <|
 .cons ⟨(some 41), .move (t 4), none⟩ <|
 .cons ⟨(some 43), .loadN 9 (t 6), none⟩ <|
 .both (.cons ⟨(some 42), .loadN 2 (t 7), none⟩ <|
 .cons ⟨(some 44), .call 14 [(t 43)], none⟩ <|
 .cons ⟨(some 45), .call 15 [(t 41), (t 42), (t 44)], none⟩ <|
 .cons ⟨(some 40), .move (t 45), none⟩ <|
 .cons ⟨(some 46), .extract 0 (t 40), none⟩ <|
 .cons ⟨(some 47), .extract 1 (t 40), none⟩ <|
 .cons ⟨(some 17), .move (t 46), none⟩ <|
 .cons ⟨(some 18), .move (t 47), none⟩ <|
 .nil)
 (.cons ⟨(some 44), .call 14 [(t 43)], none⟩ <|
 .cons ⟨(some 42), .loadN 2 (t 7), none⟩ <|
 .cons ⟨(some 45), .call 15 [(t 41), (t 42), (t 44)], none⟩ <|
 .cons ⟨(some 40), .move (t 45), none⟩ <|
 .cons ⟨(some 46), .extract 0 (t 40), none⟩ <|
 .cons ⟨(some 47), .extract 1 (t 40), none⟩ <|
 .cons ⟨(some 17), .move (t 46), none⟩ <|
 .cons ⟨(some 18), .move (t 47), none⟩ <|
 .nil))
 (.seq (.seq (.reg false <|
 .cons ⟨(some 48), .move (t 16), none⟩ <|
 .cons ⟨(some 49), .move (t 18), none⟩ <|
 .cons ⟨(some 50), .bin .neq (t 48) (t 49), none⟩ <|
 .nil)
 (.cond (t 50) (.seq (.reg false <|
 .cons ⟨(some 2), .move (.const (.bool false)), none⟩ <|
 .nil)
 .ret) .skip))
 (.reg false <|
 .cons ⟨(some 51), .move (t 17), none⟩ <|
 .cons ⟨(some 4), .move (t 51), none⟩ <|
 .nil))))))))))
 (.seq (.reg false <|
 .cons ⟨(some 112), .move (t 3), none⟩ <|
 .cons ⟨(some 113), .move (t 4), none⟩ <|
 .cons ⟨(some 114), .call 16 [(t 112), (t 113)], none⟩ <|
 .cons ⟨(some 115), .not (t 114), none⟩ <|
 .nil)
 (.cond (t 115) (.seq (.reg false <|
 .cons ⟨(some 2), .move (.const (.bool false)), none⟩ <|
 .nil)
 .ret) .skip))))))
 (.reg false <|
 .cons ⟨(some 116), .bin .add (t 26) (.const (.int .i64 1)), none⟩ <|
 .cons ⟨(some 26), .move (t 116), none⟩ <|
 .nil)))))))
 (.seq (.reg false <|
 .cons ⟨(some 117), .call 17 [], none⟩ <|
 .cons ⟨(some 2), .move (t 117), none⟩ <|
 .nil)
 .ret)))))
theorem c_kedgelaw10_CoinsPlay : compileC Try.prog 118 (bodyOf Try.f3) = k_kedgelaw10_CoinsPlay := by kernel_rfl
theorem s_kedgelaw10_CoinsPlay {args : List Value} {w : World} {R : Value → World → Prop} (ha : Nat.ble args.length 118 = true) (h : codeK Try.prog k_kedgelaw10_CoinsPlay (retK [.tmp 2] R) (startEnv args) w) : K.Spec Try.prog F.kedgelaw10_CoinsPlay args w R :=
  calls_sound mixed Try.func3 rfl rfl (by kernel_rfl) c_kedgelaw10_CoinsPlay (Nat.le_of_ble_eq_true ha) h
/-- kedge/kedgelaw10.CoinsOrder -/
noncomputable def k_kedgelaw10_CoinsOrder : KC :=
(.seq (.reg false <|
 .cons ⟨(some 2), .move (.const (.bool false)), none⟩ <|
 .nil)
 (.seq (.reg false <|
 .cons ⟨(some 12), .call 7 [], none⟩ <|
 .cons ⟨(some 3), .move (t 12), none⟩ <|
 .nil)
 (.seq (.seq (.reg false <|
 .cons ⟨(some 13), .move (t 0), none⟩ <|
 .cons ⟨(some 14), .move (t 0), none⟩ <|
 .cons ⟨(some 15), .len false (t 14), none⟩ <|
 .cons ⟨(some 16), .minmax false (t 15) [(.const (.int .i64 25))], none⟩ <|
 .cons ⟨(some 17), .sliceSl 9 (t 13) none (some (t 16)), none⟩ <|
 .cons ⟨(some 18), .len false (t 17), none⟩ <|
 .cons ⟨(some 19), .move (.const (.int .i64 0)), none⟩ <|
 .nil)
 (.block 0 (.loop (.seq (.reg false <|
 .cons ⟨(some 20), .bin .lss (t 19) (t 18), none⟩ <|
 .nil)
 (.seq (.cond (t 20) .skip (.exit 0))
 (.seq (.block 1 (.seq (.reg false <|
 .cons ⟨(some 21), .indexAddr 9 (t 17) (t 19), none⟩ <|
 .cons ⟨(some 22), .loadN 9 (t 21), none⟩ <|
 .cons ⟨(some 5), .alloc 30 [(.int .u8 0), (.int .u8 0), (.int .u8 0), (.int .i64 0), (.int .i64 0), (.string ⟨#[]⟩), (.string ⟨#[]⟩), (.int .u32 0), (.bool false)], none⟩ <|
 .cons ⟨none, .storeN 9 (t 5) (t 22), none⟩ <|
 .nil)
 (.seq (.reg false <|
 .cons ⟨(some 23), .fieldAddr 0 (t 5), none⟩ <|
 .cons ⟨(some 24), .load (t 23), none⟩ <|
 .cons ⟨(some 25), .bin .rem (t 24) (.const (.int .u8 4)), none⟩ <|
 .cons ⟨(some 26), .bin .eql (t 25) (.const (.int .u8 2)), none⟩ <|
 .nil)
 (.cond (t 26) (.reg false <|
 .cons ⟨(some 27), .move (t 3), none⟩ <|
 .cons ⟨(some 28), .loadN 9 (t 5), none⟩ <|
 .cons ⟨(some 29), .call 8 [(t 28)], none⟩ <|
 .cons ⟨(some 30), .call 9 [(t 27), (t 29)], none⟩ <|
 .nil) (.reg true <|
 .cons ⟨(some 31), .move (t 3), none⟩ <|
 .cons ⟨(some 32), .loadN 9 (t 5), none⟩ <|
 .cons ⟨(some 34), .fieldAddr 3 (t 5), none⟩ <|
 .cons ⟨(some 38), .fieldAddr 4 (t 5), none⟩ <|
 .both (.cons ⟨(some 33), .call 8 [(t 32)], none⟩ <|
 .cons ⟨(some 35), .load (t 34), none⟩ <|
 .cons ⟨(some 36), .bin .and (t 35) (.const (.int .i64 16777215)), none⟩ <|
 .cons ⟨(some 37), .build [(.int .i64 0), (.string ⟨#[]⟩)] [(0, 1, (t 36))], none⟩ <|
 .cons ⟨(some 39), .load (t 38), none⟩ <|
 .cons ⟨(some 40), .bin .and (t 39) (.const (.int .i64 4095)), none⟩ <|
 .cons ⟨(some 41), .build [(.int .i64 0), (.string ⟨#[]⟩), (.int .i64 0)] [(0, 2, (t 37)), (2, 1, (t 40))], none⟩ <|
 .cons ⟨(some 42), .call 13 [(t 31), (t 33), (t 41)], none⟩ <|
 .nil)
 (.both (.cons ⟨(some 35), .load (t 34), none⟩ <|
 .cons ⟨(some 36), .bin .and (t 35) (.const (.int .i64 16777215)), none⟩ <|
 .cons ⟨(some 37), .build [(.int .i64 0), (.string ⟨#[]⟩)] [(0, 1, (t 36))], none⟩ <|
 .both (.cons ⟨(some 33), .call 8 [(t 32)], none⟩ <|
 .cons ⟨(some 39), .load (t 38), none⟩ <|
 .cons ⟨(some 40), .bin .and (t 39) (.const (.int .i64 4095)), none⟩ <|
 .cons ⟨(some 41), .build [(.int .i64 0), (.string ⟨#[]⟩), (.int .i64 0)] [(0, 2, (t 37)), (2, 1, (t 40))], none⟩ <|
 .cons ⟨(some 42), .call 13 [(t 31), (t 33), (t 41)], none⟩ <|
 .nil)
 (.cons ⟨(some 39), .load (t 38), none⟩ <|
 .cons ⟨(some 40), .bin .and (t 39) (.const (.int .i64 4095)), none⟩ <|
 .cons ⟨(some 41), .build [(.int .i64 0), (.string ⟨#[]⟩), (.int .i64 0)] [(0, 2, (t 37)), (2, 1, (t 40))], none⟩ <|
 .cons ⟨(some 33), .call 8 [(t 32)], none⟩ <|
 .cons ⟨(some 42), .call 13 [(t 31), (t 33), (t 41)], none⟩ <|
 .nil))
 (.cons ⟨(some 39), .load (t 38), none⟩ <|
 .cons ⟨(some 40), .bin .and (t 39) (.const (.int .i64 4095)), none⟩ <|
 .both (.cons ⟨(some 33), .call 8 [(t 32)], none⟩ <|
 .cons ⟨(some 35), .load (t 34), none⟩ <|
 .cons ⟨(some 36), .bin .and (t 35) (.const (.int .i64 16777215)), none⟩ <|
 .cons ⟨(some 37), .build [(.int .i64 0), (.string ⟨#[]⟩)] [(0, 1, (t 36))], none⟩ <|
 .cons ⟨(some 41), .build [(.int .i64 0), (.string ⟨#[]⟩), (.int .i64 0)] [(0, 2, (t 37)), (2, 1, (t 40))], none⟩ <|
 .cons ⟨(some 42), .call 13 [(t 31), (t 33), (t 41)], none⟩ <|
 .nil)
 (.cons ⟨(some 35), .load (t 34), none⟩ <|
 .cons ⟨(some 36), .bin .and (t 35) (.const (.int .i64 16777215)), none⟩ <|
 .cons ⟨(some 37), .build [(.int .i64 0), (.string ⟨#[]⟩)] [(0, 1, (t 36))], none⟩ <|
 .cons ⟨(some 41), .build [(.int .i64 0), (.string ⟨#[]⟩), (.int .i64 0)] [(0, 2, (t 37)), (2, 1, (t 40))], none⟩ <|
 .cons ⟨(some 33), .call 8 [(t 32)], none⟩ <|
 .cons ⟨(some 42), .call 13 [(t 31), (t 33), (t 41)], none⟩ <|
 .nil))))))))
 (.reg false <|
 .cons ⟨(some 43), .bin .add (t 19) (.const (.int .i64 1)), none⟩ <|
 .cons ⟨(some 19), .move (t 43), none⟩ <|
 .nil)))))))
 (.seq (.reg false <|
 .cons ⟨(some 44), .move (t 3), none⟩ <|
 .cons ⟨(some 45), .call 18 [(t 44)], none⟩ <|
 .cons ⟨(some 6), .move (t 45), none⟩ <|
 .nil)
 (.seq (.reg false <|
 .cons ⟨(some 7), .move (.const (.int .i64 0)), none⟩ <|
 .nil)
 (.seq (.seq (.reg false <|
 .cons ⟨(some 46), .move (t 6), none⟩ <|
 .cons ⟨(some 47), .len false (t 46), none⟩ <|
 .cons ⟨(some 48), .move (.const (.int .i64 0)), none⟩ <|
 .nil)
 (.block 2 (.loop (.seq (.reg false <|
 .cons ⟨(some 49), .bin .lss (t 48) (t 47), none⟩ <|
 .nil)
 (.seq (.cond (t 49) .skip (.exit 2))
 (.seq (.block 3 (.seq (.reg false <|
 .cons ⟨(some 50), .move (t 48), none⟩ <|
 .cons ⟨(some 51), .indexAddr 5 (t 46) (t 48), none⟩ <|
 .cons ⟨(some 52), .loadN 5 (t 51), none⟩ <|
 .cons ⟨(some 9), .alloc 55 [(.string ⟨#[]⟩), (.int .u32 0), (.int .i64 0), (.string ⟨#[]⟩), (.int .i64 0)], none⟩ <|
 .cons ⟨(some 8), .move (t 50), none⟩ <|
 .cons ⟨none, .storeN 5 (t 9) (t 52), none⟩ <|
 .nil)
 (.seq (.reg false <|
 .cons ⟨(some 54), .move (t 3), none⟩ <|
 .cons ⟨(some 55), .fieldAddr 0 (t 9), none⟩ <|
 .cons ⟨(some 56), .loadN 2 (t 55), none⟩ <|
 .cons ⟨(some 57), .call 11 [(t 54), (t 56)], none⟩ <|
 .cons ⟨(some 53), .move (t 57), none⟩ <|
 .cons ⟨(some 58), .extract 0 (t 53), none⟩ <|
 .cons ⟨(some 59), .extract 1 (t 53), none⟩ <|
 .cons ⟨(some 10), .alloc 35 [(.int .i64 0), (.string ⟨#[]⟩), (.int .i64 0)], none⟩ <|
 .cons ⟨none, .storeN 3 (t 10) (t 58), none⟩ <|
 .cons ⟨(some 11), .move (t 59), none⟩ <|
 .nil)
 (.seq (.seq (.reg true <|
 .cons ⟨(some 60), .move (t 11), none⟩ <|
 .cons ⟨(some 61), .not (t 60), none⟩ <|
 .cons ⟨(some 62), .move (t 61), none⟩ <|
 .cons ⟨(some 63), .loadN 3 (t 10), (some (62, false))⟩ <|
 .cons ⟨(some 64), .fieldAddr 2 (t 9), (some (62, false))⟩ <|
 .cons ⟨(some 65), .loadN 3 (t 64), (some (62, false))⟩ <|
 .cons ⟨(some 66), .eqAgg true [.i, .s, .i] (t 63) (t 65), (some (62, false))⟩ <|
 .cons ⟨(some 67), .pick (t 62) (.const (.bool true)) (t 66), none⟩ <|
 .cons ⟨(some 68), .move (t 67), none⟩ <|
 .cons ⟨(some 69), .move (t 8), (some (68, false))⟩ <|
 .cons ⟨(some 70), .bin .gtr (t 69) (.const (.int .i64 0)), (some (68, false))⟩ <|
 .cons ⟨(some 71), .move (t 70), (some (68, false))⟩ <|
 .cons ⟨(some 72), .move (t 6), (some (71, true))⟩ <|
 .cons ⟨(some 73), .move (t 8), (some (71, true))⟩ <|
 .cons ⟨(some 74), .bin .sub (t 73) (.const (.int .i64 1)), (some (71, true))⟩ <|
 .cons ⟨(some 75), .indexAddr 5 (t 72) (t 74), (some (71, true))⟩ <|
 .cons ⟨(some 76), .fieldAddr 0 (t 75), (some (71, true))⟩ <|
 .cons ⟨(some 77), .loadN 2 (t 76), (some (71, true))⟩ <|
 .cons ⟨(some 78), .fieldAddr 0 (t 9), (some (71, true))⟩ <|
 .cons ⟨(some 79), .loadN 2 (t 78), (some (71, true))⟩ <|
 .cons ⟨(some 80), .call 19 [(t 77), (t 79)], (some (71, true))⟩ <|
 .cons ⟨(some 81), .not (t 80), (some (71, true))⟩ <|
 .cons ⟨(some 82), .pick (t 71) (t 81) (.const (.bool false)), (some (68, false))⟩ <|
 .cons ⟨(some 83), .pick (t 68) (.const (.bool true)) (t 82), none⟩ <|
 .nil)
 (.cond (t 83) (.seq (.reg false <|
 .cons ⟨(some 2), .move (.const (.bool false)), none⟩ <|
 .nil)
 .ret) .skip))
 (.reg false <|
 .cons ⟨(some 84), .move (t 7), none⟩ <|
 .cons ⟨(some 85), .fieldAddr 0 (t 10), none⟩ <|
 .cons ⟨(some 86), .fieldAddr 0 (t 85), none⟩ <|
 .cons ⟨(some 87), .load (t 86), none⟩ <|
 .cons ⟨(some 88), .bin .add (t 84) (t 87), none⟩ <|
 .cons ⟨(some 7), .move (t 88), none⟩ <|
 .nil)))))
 (.reg false <|
 .cons ⟨(some 89), .bin .add (t 48) (.const (.int .i64 1)), none⟩ <|
 .cons ⟨(some 48), .move (t 89), none⟩ <|
 .nil)))))))
 (.seq (.reg false <|
 .cons ⟨(some 90), .call 17 [], none⟩ <|
 .cons ⟨(some 91), .move (t 90), none⟩ <|
 .cons ⟨(some 92), .move (t 7), (some (91, true))⟩ <|
 .cons ⟨(some 93), .move (t 3), (some (91, true))⟩ <|
 .cons ⟨(some 94), .call 20 [(t 93)], (some (91, true))⟩ <|
 .cons ⟨(some 95), .bin .eql (t 92) (t 94), (some (91, true))⟩ <|
 .cons ⟨(some 96), .pick (t 91) (t 95) (.const (.bool false)), none⟩ <|
 .cons ⟨(some 97), .move (t 96), none⟩ <|
 .cons ⟨(some 98), .move (t 6), (some (97, true))⟩ <|
 .cons ⟨(some 99), .len false (t 98), (some (97, true))⟩ <|
 .cons ⟨(some 100), .move (t 3), (some (97, true))⟩ <|
 .cons ⟨(some 101), .call 21 [(t 100)], (some (97, true))⟩ <|
 .cons ⟨(some 102), .bin .eql (t 99) (t 101), (some (97, true))⟩ <|
 .cons ⟨(some 103), .pick (t 97) (t 102) (.const (.bool false)), none⟩ <|
 .cons ⟨(some 2), .move (t 103), none⟩ <|
 .nil)
 .ret)))))))
theorem c_kedgelaw10_CoinsOrder : compileC Try.prog 104 (bodyOf Try.f4) = k_kedgelaw10_CoinsOrder := by kernel_rfl
theorem s_kedgelaw10_CoinsOrder {args : List Value} {w : World} {R : Value → World → Prop} (ha : Nat.ble args.length 104 = true) (h : codeK Try.prog k_kedgelaw10_CoinsOrder (retK [.tmp 2] R) (startEnv args) w) : K.Spec Try.prog F.kedgelaw10_CoinsOrder args w R :=
  calls_sound mixed Try.func4 rfl rfl (by kernel_rfl) c_kedgelaw10_CoinsOrder (Nat.le_of_ble_eq_true ha) h
/-- kedge/kedgelaw10.CoinsCopy -/
noncomputable def k_kedgelaw10_CoinsCopy : KC :=
(.seq (.reg false <|
 .cons ⟨(some 4), .move (.const (.bool false)), none⟩ <|
 .nil)
 (.seq (.reg false <|
 .cons ⟨(some 19), .call 7 [], none⟩ <|
 .cons ⟨(some 20), .call 7 [], none⟩ <|
 .cons ⟨(some 5), .move (t 19), none⟩ <|
 .cons ⟨(some 6), .move (t 20), none⟩ <|
 .nil)
 (.seq (.reg true <|
 .cons ⟨(some 21), .move (t 0), none⟩ <|
 .cons ⟨(some 22), .move (t 0), none⟩ <|
 .cons ⟨(some 23), .len false (t 22), none⟩ <|
 .cons ⟨(some 24), .minmax false (t 23) [(.const (.int .i64 12))], none⟩ <|
 .cons ⟨(some 25), .sliceSl 9 (t 21) none (some (t 24)), none⟩ <|
 .cons ⟨(some 26), .move (t 1), none⟩ <|
 .cons ⟨(some 27), .move (t 1), none⟩ <|
 .cons ⟨(some 28), .len false (t 27), none⟩ <|
 .cons ⟨(some 29), .minmax false (t 28) [(.const (.int .i64 12))], none⟩ <|
 .cons ⟨(some 30), .sliceSl 9 (t 26) none (some (t 29)), none⟩ <|
 .cons ⟨(some 0), .move (t 25), none⟩ <|
 .cons ⟨(some 1), .move (t 30), none⟩ <|
 .nil)
 (.seq (.seq (.reg false <|
 .cons ⟨(some 31), .move (t 0), none⟩ <|
 .cons ⟨(some 32), .len false (t 31), none⟩ <|
 .cons ⟨(some 33), .move (.const (.int .i64 0)), none⟩ <|
 .nil)
 (.block 0 (.loop (.seq (.reg false <|
 .cons ⟨(some 34), .bin .lss (t 33) (t 32), none⟩ <|
 .nil)
 (.seq (.cond (t 34) .skip (.exit 0))
 (.seq (.block 1 (.seq (.reg false <|
 .cons ⟨(some 35), .indexAddr 9 (t 31) (t 33), none⟩ <|
 .cons ⟨(some 36), .loadN 9 (t 35), none⟩ <|
 .cons ⟨(some 8), .alloc 30 [(.int .u8 0), (.int .u8 0), (.int .u8 0), (.int .i64 0), (.int .i64 0), (.string ⟨#[]⟩), (.string ⟨#[]⟩), (.int .u32 0), (.bool false)], none⟩ <|
 .cons ⟨none, .storeN 9 (t 8) (t 36), none⟩ <|
 .nil)
 (.reg true <|
 .cons ⟨(some 37), .move (t 5), none⟩ <|
 .cons ⟨(some 38), .loadN 9 (t 8), none⟩ <|
 .cons ⟨(some 40), .fieldAddr 3 (t 8), none⟩ <|
 .both (.cons ⟨(some 39), .call 8 [(t 38)], none⟩ <|
 .cons ⟨(some 41), .load (t 40), none⟩ <|
 .cons ⟨(some 42), .bin .and (t 41) (.const (.int .i64 65535)), none⟩ <|
 .cons ⟨(some 43), .build [(.int .i64 0), (.string ⟨#[]⟩)] [(0, 1, (t 42))], none⟩ <|
 .cons ⟨(some 44), .build [(.int .i64 0), (.string ⟨#[]⟩), (.int .i64 0)] [(0, 2, (t 43))], none⟩ <|
 .cons ⟨(some 45), .call 13 [(t 37), (t 39), (t 44)], none⟩ <|
 .nil)
 (.cons ⟨(some 41), .load (t 40), none⟩ <|
 .cons ⟨(some 42), .bin .and (t 41) (.const (.int .i64 65535)), none⟩ <|
 .cons ⟨(some 43), .build [(.int .i64 0), (.string ⟨#[]⟩)] [(0, 1, (t 42))], none⟩ <|
 .cons ⟨(some 44), .build [(.int .i64 0), (.string ⟨#[]⟩), (.int .i64 0)] [(0, 2, (t 43))], none⟩ <|
 .cons ⟨(some 39), .call 8 [(t 38)], none⟩ <|
 .cons ⟨(some 45), .call 13 [(t 37), (t 39), (t 44)], none⟩ <|
 .nil))))
 (.reg false <|
 .cons ⟨(some 46), .bin .add (t 33) (.const (.int .i64 1)), none⟩ <|
 .cons ⟨(some 33), .move (t 46), none⟩ <|
 .nil)))))))
 (.seq (.seq (.reg false <|
 .cons ⟨(some 47), .move (t 5), none⟩ <|
 .cons ⟨(some 48), .call 18 [(t 47)], none⟩ <|
 .cons ⟨(some 49), .len false (t 48), none⟩ <|
 .cons ⟨(some 50), .move (.const (.int .i64 0)), none⟩ <|
 .nil)
 (.block 2 (.loop (.seq (.reg false <|
 .cons ⟨(some 51), .bin .lss (t 50) (t 49), none⟩ <|
 .nil)
 (.seq (.cond (t 51) .skip (.exit 2))
 (.seq (.block 3 (.seq (.reg false <|
 .cons ⟨(some 52), .move (t 50), none⟩ <|
 .cons ⟨(some 9), .move (t 52), none⟩ <|
 .nil)
 (.seq (.reg false <|
 .cons ⟨(some 53), .move (t 5), none⟩ <|
 .cons ⟨(some 54), .call 18 [(t 53)], none⟩ <|
 .cons ⟨(some 55), .move (t 5), none⟩ <|
 .cons ⟨(some 56), .call 21 [(t 55)], none⟩ <|
 .cons ⟨(some 57), .bin .sub (t 56) (.const (.int .i64 1)), none⟩ <|
 .cons ⟨(some 58), .move (t 9), none⟩ <|
 .cons ⟨(some 59), .bin .sub (t 57) (t 58), none⟩ <|
 .cons ⟨(some 60), .indexAddr 5 (t 54) (t 59), none⟩ <|
 .cons ⟨(some 61), .loadN 5 (t 60), none⟩ <|
 .cons ⟨(some 10), .alloc 55 [(.string ⟨#[]⟩), (.int .u32 0), (.int .i64 0), (.string ⟨#[]⟩), (.int .i64 0)], none⟩ <|
 .cons ⟨none, .storeN 5 (t 10) (t 61), none⟩ <|
 .nil)
 (.reg false <|
 .cons ⟨(some 62), .move (t 6), none⟩ <|
 .cons ⟨(some 63), .fieldAddr 0 (t 10), none⟩ <|
 .cons ⟨(some 64), .loadN 2 (t 63), none⟩ <|
 .cons ⟨(some 65), .fieldAddr 2 (t 10), none⟩ <|
 .cons ⟨(some 66), .loadN 3 (t 65), none⟩ <|
 .cons ⟨(some 67), .call 13 [(t 62), (t 64), (t 66)], none⟩ <|
 .nil))))
 (.reg false <|
 .cons ⟨(some 68), .bin .add (t 50) (.const (.int .i64 1)), none⟩ <|
 .cons ⟨(some 50), .move (t 68), none⟩ <|
 .nil)))))))
 (.seq (.reg false <|
 .cons ⟨(some 69), .move (t 5), none⟩ <|
 .cons ⟨(some 70), .call 22 [(t 69)], none⟩ <|
 .cons ⟨(some 11), .move (t 70), none⟩ <|
 .nil)
 (.seq (.reg false <|
 .cons ⟨(some 71), .move (t 5), none⟩ <|
 .cons ⟨(some 72), .call 18 [(t 71)], none⟩ <|
 .cons ⟨(some 12), .move (t 72), none⟩ <|
 .nil)
 (.seq (.seq (.reg false <|
 .cons ⟨(some 73), .move (t 1), none⟩ <|
 .cons ⟨(some 74), .len false (t 73), none⟩ <|
 .cons ⟨(some 75), .move (.const (.int .i64 0)), none⟩ <|
 .nil)
 (.block 4 (.loop (.seq (.reg false <|
 .cons ⟨(some 76), .bin .lss (t 75) (t 74), none⟩ <|
 .nil)
 (.seq (.cond (t 76) .skip (.exit 4))
 (.seq (.block 5 (.seq (.reg false <|
 .cons ⟨(some 77), .indexAddr 9 (t 73) (t 75), none⟩ <|
 .cons ⟨(some 78), .loadN 9 (t 77), none⟩ <|
 .cons ⟨(some 14), .alloc 30 [(.int .u8 0), (.int .u8 0), (.int .u8 0), (.int .i64 0), (.int .i64 0), (.string ⟨#[]⟩), (.string ⟨#[]⟩), (.int .u32 0), (.bool false)], none⟩ <|
 .cons ⟨none, .storeN 9 (t 14) (t 78), none⟩ <|
 .nil)
 (.seq (.reg false <|
 .cons ⟨(some 79), .fieldAddr 0 (t 14), none⟩ <|
 .cons ⟨(some 80), .load (t 79), none⟩ <|
 .cons ⟨(some 81), .bin .and (t 80) (.const (.int .u8 1)), none⟩ <|
 .cons ⟨(some 82), .bin .eql (t 81) (.const (.int .u8 1)), none⟩ <|
 .nil)
 (.cond (t 82) (.reg false <|
 .cons ⟨(some 83), .move (t 11), none⟩ <|
 .cons ⟨(some 84), .loadN 9 (t 14), none⟩ <|
 .cons ⟨(some 85), .call 8 [(t 84)], none⟩ <|
 .cons ⟨(some 86), .call 9 [(t 83), (t 85)], none⟩ <|
 .nil) (.reg false <|
 .cons ⟨(some 87), .move (t 11), none⟩ <|
 .cons ⟨(some 88), .loadN 9 (t 14), none⟩ <|
 .cons ⟨(some 89), .call 8 [(t 88)], none⟩ <|
 .cons ⟨(some 90), .build [(.int .i64 0), (.string ⟨#[]⟩)] [(0, 1, (.const (.int .i64 7)))], none⟩ <|
 .cons ⟨(some 91), .build [(.int .i64 0), (.string ⟨#[]⟩), (.int .i64 0)] [(0, 2, (t 90))], none⟩ <|
 .cons ⟨(some 92), .call 13 [(t 87), (t 89), (t 91)], none⟩ <|
 .nil)))))
 (.reg false <|
 .cons ⟨(some 93), .bin .add (t 75) (.const (.int .i64 1)), none⟩ <|
 .cons ⟨(some 75), .move (t 93), none⟩ <|
 .nil)))))))
 (.seq (.reg false <|
 .cons ⟨(some 94), .move (t 5), none⟩ <|
 .cons ⟨(some 95), .call 18 [(t 94)], none⟩ <|
 .cons ⟨(some 96), .move (t 6), none⟩ <|
 .cons ⟨(some 97), .call 18 [(t 96)], none⟩ <|
 .cons ⟨(some 15), .move (t 95), none⟩ <|
 .cons ⟨(some 16), .move (t 97), none⟩ <|
 .nil)
 (.seq (.seq (.reg false <|
 .cons ⟨(some 98), .call 17 [], none⟩ <|
 .cons ⟨(some 99), .not (t 98), none⟩ <|
 .cons ⟨(some 100), .move (t 99), none⟩ <|
 .cons ⟨(some 101), .move (t 15), (some (100, false))⟩ <|
 .cons ⟨(some 102), .len false (t 101), (some (100, false))⟩ <|
 .cons ⟨(some 103), .move (t 12), (some (100, false))⟩ <|
 .cons ⟨(some 104), .len false (t 103), (some (100, false))⟩ <|
 .cons ⟨(some 105), .bin .neq (t 102) (t 104), (some (100, false))⟩ <|
 .cons ⟨(some 106), .pick (t 100) (.const (.bool true)) (t 105), none⟩ <|
 .cons ⟨(some 107), .move (t 106), none⟩ <|
 .cons ⟨(some 108), .move (t 16), (some (107, false))⟩ <|
 .cons ⟨(some 109), .len false (t 108), (some (107, false))⟩ <|
 .cons ⟨(some 110), .move (t 12), (some (107, false))⟩ <|
 .cons ⟨(some 111), .len false (t 110), (some (107, false))⟩ <|
 .cons ⟨(some 112), .bin .neq (t 109) (t 111), (some (107, false))⟩ <|
 .cons ⟨(some 113), .pick (t 107) (.const (.bool true)) (t 112), none⟩ <|
 .nil)
 (.cond (t 113) (.seq (.reg false <|
 .cons ⟨(some 4), .move (.const (.bool false)), none⟩ <|
 .nil)
 .ret) .skip))
 (.seq (.reg false <|
 .cons ⟨(some 17), .move (.const (.int .i64 0)), none⟩ <|
 .nil)
 (.seq (.seq (.reg false <|
 .cons ⟨(some 114), .move (t 12), none⟩ <|
 .cons ⟨(some 115), .len false (t 114), none⟩ <|
 .cons ⟨(some 116), .move (.const (.int .i64 0)), none⟩ <|
 .nil)
 (.block 6 (.loop (.seq (.reg false <|
 .cons ⟨(some 117), .bin .lss (t 116) (t 115), none⟩ <|
 .nil)
 (.seq (.cond (t 117) .skip (.exit 6))
 (.seq (.block 7 (.seq (.reg false <|
 .cons ⟨(some 118), .move (t 116), none⟩ <|
 .cons ⟨(some 18), .move (t 118), none⟩ <|
 .nil)
 (.seq (.seq (.reg true <|
 .cons ⟨(some 119), .move (t 15), none⟩ <|
 .cons ⟨(some 120), .move (t 18), none⟩ <|
 .cons ⟨(some 121), .indexAddr 5 (t 119) (t 120), none⟩ <|
 .cons ⟨(some 122), .loadN 5 (t 121), none⟩ <|
 .cons ⟨(some 123), .move (t 12), none⟩ <|
 .cons ⟨(some 124), .move (t 18), none⟩ <|
 .cons ⟨(some 125), .indexAddr 5 (t 123) (t 124), none⟩ <|
 .cons ⟨(some 126), .loadN 5 (t 125), none⟩ <|
 .cons ⟨(some 127), .eqAgg true [.s, .i, .i, .s, .i] (t 122) (t 126), none⟩ <|
 .cons ⟨(some 128), .move (t 127), none⟩ <|
 .cons ⟨(some 129), .move (t 16), (some (128, false))⟩ <|
 .cons ⟨(some 130), .move (t 18), (some (128, false))⟩ <|
 .cons ⟨(some 131), .indexAddr 5 (t 129) (t 130), (some (128, false))⟩ <|
 .cons ⟨(some 132), .loadN 5 (t 131), (some (128, false))⟩ <|
 .cons ⟨(some 133), .move (t 12), (some (128, false))⟩ <|
 .cons ⟨(some 134), .move (t 18), (some (128, false))⟩ <|
 .cons ⟨(some 135), .indexAddr 5 (t 133) (t 134), (some (128, false))⟩ <|
 .cons ⟨(some 136), .loadN 5 (t 135), (some (128, false))⟩ <|
 .cons ⟨(some 137), .eqAgg true [.s, .i, .i, .s, .i] (t 132) (t 136), (some (128, false))⟩ <|
 .cons ⟨(some 138), .pick (t 128) (.const (.bool true)) (t 137), none⟩ <|
 .nil)
 (.cond (t 138) (.seq (.reg false <|
 .cons ⟨(some 4), .move (.const (.bool false)), none⟩ <|
 .nil)
 .ret) .skip))
 (.reg false <|
 .cons ⟨(some 139), .move (t 17), none⟩ <|
 .cons ⟨(some 140), .move (t 12), none⟩ <|
 .cons ⟨(some 141), .move (t 18), none⟩ <|
 .cons ⟨(some 142), .indexAddr 5 (t 140) (t 141), none⟩ <|
 .cons ⟨(some 143), .fieldAddr 2 (t 142), none⟩ <|
 .cons ⟨(some 144), .fieldAddr 0 (t 143), none⟩ <|
 .cons ⟨(some 145), .fieldAddr 0 (t 144), none⟩ <|
 .cons ⟨(some 146), .load (t 145), none⟩ <|
 .cons ⟨(some 147), .bin .add (t 139) (t 146), none⟩ <|
 .cons ⟨(some 17), .move (t 147), none⟩ <|
 .nil))))
 (.reg false <|
 .cons ⟨(some 148), .bin .add (t 116) (.const (.int .i64 1)), none⟩ <|
 .cons ⟨(some 116), .move (t 148), none⟩ <|
 .nil)))))))
 (.seq (.reg false <|
 .cons ⟨(some 149), .move (t 5), none⟩ <|
 .cons ⟨(some 150), .call 20 [(t 149)], none⟩ <|
 .cons ⟨(some 151), .move (t 17), none⟩ <|
 .cons ⟨(some 152), .bin .eql (t 150) (t 151), none⟩ <|
 .cons ⟨(some 4), .move (t 152), none⟩ <|
 .nil)
 .ret)))))))))))))
theorem c_kedgelaw10_CoinsCopy : compileC Try.prog 153 (bodyOf Try.f5) = k_kedgelaw10_CoinsCopy := by kernel_rfl
theorem s_kedgelaw10_CoinsCopy {args : List Value} {w : World} {R : Value → World → Prop} (ha : Nat.ble args.length 153 = true) (h : codeK Try.prog k_kedgelaw10_CoinsCopy (retK [.tmp 4] R) (startEnv args) w) : K.Spec Try.prog F.kedgelaw10_CoinsCopy args w R :=
  calls_sound mixed Try.func5 rfl rfl (by kernel_rfl) c_kedgelaw10_CoinsCopy (Nat.le_of_ble_eq_true ha) h
/-- kedge/kedgelaw10.CoinsNil -/
noncomputable def k_kedgelaw10_CoinsNil : KC :=
(.seq (.reg false <|
 .cons ⟨(some 1), .box 30 (t 0), none⟩ <|
 .cons ⟨(some 2), .move (.const (.bool false)), none⟩ <|
 .nil)
 (.seq (.reg false <|
 .cons ⟨(some 3), .move (.const (.pointer none)), none⟩ <|
 .nil)
 (.seq (.reg false <|
 .cons ⟨(some 9), .move (t 3), none⟩ <|
 .cons ⟨(some 10), .loadN 9 (t 1), none⟩ <|
 .cons ⟨(some 11), .call 8 [(t 10)], none⟩ <|
 .cons ⟨(some 12), .call 11 [(t 9), (t 11)], none⟩ <|
 .cons ⟨(some 8), .move (t 12), none⟩ <|
 .cons ⟨(some 13), .extract 0 (t 8), none⟩ <|
 .cons ⟨(some 14), .extract 1 (t 8), none⟩ <|
 .cons ⟨(some 4), .alloc 35 [(.int .i64 0), (.string ⟨#[]⟩), (.int .i64 0)], none⟩ <|
 .cons ⟨none, .storeN 3 (t 4) (t 13), none⟩ <|
 .cons ⟨(some 5), .move (t 14), none⟩ <|
 .nil)
 (.seq (.reg false <|
 .cons ⟨(some 16), .move (t 3), none⟩ <|
 .cons ⟨(some 17), .loadN 9 (t 1), none⟩ <|
 .cons ⟨(some 18), .call 8 [(t 17)], none⟩ <|
 .cons ⟨(some 19), .call 9 [(t 16), (t 18)], none⟩ <|
 .cons ⟨(some 15), .move (t 19), none⟩ <|
 .cons ⟨(some 20), .extract 0 (t 15), none⟩ <|
 .cons ⟨(some 21), .extract 1 (t 15), none⟩ <|
 .cons ⟨(some 6), .alloc 35 [(.int .i64 0), (.string ⟨#[]⟩), (.int .i64 0)], none⟩ <|
 .cons ⟨none, .storeN 3 (t 6) (t 20), none⟩ <|
 .cons ⟨(some 7), .move (t 21), none⟩ <|
 .nil)
 (.seq (.reg true <|
 .cons ⟨(some 22), .call 17 [], none⟩ <|
 .cons ⟨(some 23), .move (t 22), none⟩ <|
 .cons ⟨(some 24), .loadN 3 (t 4), (some (23, true))⟩ <|
 .cons ⟨(some 25), .build [(.int .i64 0), (.string ⟨#[]⟩), (.int .i64 0)] [], (some (23, true))⟩ <|
 .cons ⟨(some 26), .eqAgg false [.i, .s, .i] (t 24) (t 25), (some (23, true))⟩ <|
 .cons ⟨(some 27), .pick (t 23) (t 26) (.const (.bool false)), none⟩ <|
 .cons ⟨(some 28), .move (t 27), none⟩ <|
 .cons ⟨(some 29), .move (t 5), (some (28, true))⟩ <|
 .cons ⟨(some 30), .not (t 29), (some (28, true))⟩ <|
 .cons ⟨(some 31), .pick (t 28) (t 30) (.const (.bool false)), none⟩ <|
 .cons ⟨(some 32), .move (t 31), none⟩ <|
 .cons ⟨(some 33), .loadN 3 (t 6), (some (32, true))⟩ <|
 .cons ⟨(some 34), .build [(.int .i64 0), (.string ⟨#[]⟩), (.int .i64 0)] [], (some (32, true))⟩ <|
 .cons ⟨(some 35), .eqAgg false [.i, .s, .i] (t 33) (t 34), (some (32, true))⟩ <|
 .cons ⟨(some 36), .pick (t 32) (t 35) (.const (.bool false)), none⟩ <|
 .cons ⟨(some 37), .move (t 36), none⟩ <|
 .cons ⟨(some 38), .move (t 7), (some (37, true))⟩ <|
 .cons ⟨(some 39), .bin .eql (t 38) (.const (.int .i64 1)), (some (37, true))⟩ <|
 .cons ⟨(some 40), .pick (t 37) (t 39) (.const (.bool false)), none⟩ <|
 .cons ⟨(some 41), .move (t 40), none⟩ <|
 .cons ⟨(some 42), .move (t 3), (some (41, true))⟩ <|
 .cons ⟨(some 43), .loadN 9 (t 1), (some (41, true))⟩ <|
 .both (.cons ⟨(some 44), .call 8 [(t 43)], (some (41, true))⟩ <|
 .cons ⟨(some 45), .loadN 9 (t 1), (some (41, true))⟩ <|
 .cons ⟨(some 46), .call 14 [(t 45)], (some (41, true))⟩ <|
 .cons ⟨(some 47), .call 13 [(t 42), (t 44), (t 46)], (some (41, true))⟩ <|
 .cons ⟨(some 48), .bin .eql (t 47) (.const (.int .i64 1)), (some (41, true))⟩ <|
 .cons ⟨(some 49), .pick (t 41) (t 48) (.const (.bool false)), none⟩ <|
 .cons ⟨(some 50), .move (t 49), none⟩ <|
 .cons ⟨(some 51), .move (t 3), (some (50, true))⟩ <|
 .cons ⟨(some 52), .call 21 [(t 51)], (some (50, true))⟩ <|
 .cons ⟨(some 53), .bin .eql (t 52) (.const (.int .i64 0)), (some (50, true))⟩ <|
 .cons ⟨(some 54), .pick (t 50) (t 53) (.const (.bool false)), none⟩ <|
 .cons ⟨(some 55), .move (t 54), none⟩ <|
 .cons ⟨(some 56), .move (t 3), (some (55, true))⟩ <|
 .cons ⟨(some 57), .call 20 [(t 56)], (some (55, true))⟩ <|
 .cons ⟨(some 58), .bin .eql (t 57) (.const (.int .i64 0)), (some (55, true))⟩ <|
 .cons ⟨(some 59), .pick (t 55) (t 58) (.const (.bool false)), none⟩ <|
 .cons ⟨(some 60), .move (t 59), none⟩ <|
 .cons ⟨(some 61), .move (t 3), (some (60, true))⟩ <|
 .cons ⟨(some 62), .call 18 [(t 61)], (some (60, true))⟩ <|
 .cons ⟨(some 63), .len false (t 62), (some (60, true))⟩ <|
 .cons ⟨(some 64), .bin .eql (t 63) (.const (.int .i64 0)), (some (60, true))⟩ <|
 .cons ⟨(some 65), .pick (t 60) (t 64) (.const (.bool false)), none⟩ <|
 .cons ⟨(some 66), .move (t 65), none⟩ <|
 .cons ⟨(some 67), .move (t 3), (some (66, true))⟩ <|
 .cons ⟨(some 68), .call 22 [(t 67)], (some (66, true))⟩ <|
 .cons ⟨(some 69), .eqNil false .pointer (t 68) (.const (.pointer none)), (some (66, true))⟩ <|
 .cons ⟨(some 70), .pick (t 66) (t 69) (.const (.bool false)), none⟩ <|
 .cons ⟨(some 2), .move (t 70), none⟩ <|
 .nil)
 (.cons ⟨(some 45), .loadN 9 (t 1), (some (41, true))⟩ <|
 .cons ⟨(some 44), .call 8 [(t 43)], (some (41, true))⟩ <|
 .cons ⟨(some 46), .call 14 [(t 45)], (some (41, true))⟩ <|
 .cons ⟨(some 47), .call 13 [(t 42), (t 44), (t 46)], (some (41, true))⟩ <|
 .cons ⟨(some 48), .bin .eql (t 47) (.const (.int .i64 1)), (some (41, true))⟩ <|
 .cons ⟨(some 49), .pick (t 41) (t 48) (.const (.bool false)), none⟩ <|
 .cons ⟨(some 50), .move (t 49), none⟩ <|
 .cons ⟨(some 51), .move (t 3), (some (50, true))⟩ <|
 .cons ⟨(some 52), .call 21 [(t 51)], (some (50, true))⟩ <|
 .cons ⟨(some 53), .bin .eql (t 52) (.const (.int .i64 0)), (some (50, true))⟩ <|
 .cons ⟨(some 54), .pick (t 50) (t 53) (.const (.bool false)), none⟩ <|
 .cons ⟨(some 55), .move (t 54), none⟩ <|
 .cons ⟨(some 56), .move (t 3), (some (55, true))⟩ <|
 .cons ⟨(some 57), .call 20 [(t 56)], (some (55, true))⟩ <|
 .cons ⟨(some 58), .bin .eql (t 57) (.const (.int .i64 0)), (some (55, true))⟩ <|
 .cons ⟨(some 59), .pick (t 55) (t 58) (.const (.bool false)), none⟩ <|
 .cons ⟨(some 60), .move (t 59), none⟩ <|
 .cons ⟨(some 61), .move (t 3), (some (60, true))⟩ <|
 .cons ⟨(some 62), .call 18 [(t 61)], (some (60, true))⟩ <|
 .cons ⟨(some 63), .len false (t 62), (some (60, true))⟩ <|
 .cons ⟨(some 64), .bin .eql (t 63) (.const (.int .i64 0)), (some (60, true))⟩ <|
 .cons ⟨(some 65), .pick (t 60) (t 64) (.const (.bool false)), none⟩ <|
 .cons ⟨(some 66), .move (t 65), none⟩ <|
 .cons ⟨(some 67), .move (t 3), (some (66, true))⟩ <|
 .cons ⟨(some 68), .call 22 [(t 67)], (some (66, true))⟩ <|
 .cons ⟨(some 69), .eqNil false .pointer (t 68) (.const (.pointer none)), (some (66, true))⟩ <|
 .cons ⟨(some 70), .pick (t 66) (t 69) (.const (.bool false)), none⟩ <|
 .cons ⟨(some 2), .move (t 70), none⟩ <|
 .nil))
 .ret)))))
theorem c_kedgelaw10_CoinsNil : compileC Try.prog 71 (bodyOf Try.f6) = k_kedgelaw10_CoinsNil := by kernel_rfl
theorem s_kedgelaw10_CoinsNil {args : List Value} {w : World} {R : Value → World → Prop} (ha : Nat.ble args.length 71 = true) (h : codeK Try.prog k_kedgelaw10_CoinsNil (retK [.tmp 2] R) (startEnv args) w) : K.Spec Try.prog F.kedgelaw10_CoinsNil args w R :=
  calls_sound mixed Try.func6 rfl rfl (by kernel_rfl) c_kedgelaw10_CoinsNil (Nat.le_of_ble_eq_true ha) h
/-- kedge/coins.New -/
noncomputable def k_coins_New : KC :=
(.seq (.reg false <|
 .cons ⟨(some 0), .move (.const (.pointer none)), none⟩ <|
 .nil)
 (.seq (.reg false <|
 .cons ⟨(some 1), .makeMap, none⟩ <|
 .cons ⟨(some 2), .build [(.map none), (.int .i64 0)] [(0, 1, (t 1))], none⟩ <|
 .cons ⟨(some 3), .box 62 (t 2), none⟩ <|
 .cons ⟨(some 0), .move (t 3), none⟩ <|
 .nil)
 .ret))
theorem c_coins_New : compileC Try.prog 4 (bodyOf Try.f7) = k_coins_New := by kernel_rfl
theorem s_coins_New {args : List Value} {w : World} {R : Value → World → Prop} (ha : Nat.ble args.length 4 = true) (h : codeK Try.prog k_coins_New (retK [.tmp 0] R) (startEnv args) w) : K.Spec Try.prog F.coins_New args w R :=
  calls_sound mixed Try.func7 rfl rfl (by kernel_rfl) c_coins_New (Nat.le_of_ble_eq_true ha) h
/-- kedge/kedgelaw10.point -/
noncomputable def k_kedgelaw10_point : KC :=
(.seq (.reg false <|
 .cons ⟨(some 1), .box 30 (t 0), none⟩ <|
 .cons ⟨(some 2), .alloc 28 [(.string ⟨#[]⟩), (.int .u32 0)], none⟩ <|
 .nil)
 (.seq (.seq (.reg false <|
 .cons ⟨(some 3), .fieldAddr 8 (t 1), none⟩ <|
 .cons ⟨(some 4), .load (t 3), none⟩ <|
 .nil)
 (.cond (t 4) (.seq (.reg true <|
 .cons ⟨(some 5), .fieldAddr 6 (t 1), none⟩ <|
 .cons ⟨(some 6), .fieldAddr 0 (t 5), none⟩ <|
 .cons ⟨(some 7), .load (t 6), none⟩ <|
 .cons ⟨(some 8), .fieldAddr 6 (t 1), none⟩ <|
 .cons ⟨(some 9), .fieldAddr 0 (t 8), none⟩ <|
 .cons ⟨(some 10), .load (t 9), none⟩ <|
 .cons ⟨(some 11), .len true (t 10), none⟩ <|
 .cons ⟨(some 12), .minmax false (t 11) [(.const (.int .i64 40))], none⟩ <|
 .cons ⟨(some 13), .sliceStr (t 7) none (some (t 12)), none⟩ <|
 .cons ⟨(some 14), .fieldAddr 6 (t 1), none⟩ <|
 .cons ⟨(some 15), .fieldAddr 1 (t 14), none⟩ <|
 .cons ⟨(some 16), .load (t 15), none⟩ <|
 .cons ⟨(some 17), .build [(.string ⟨#[]⟩), (.int .u32 0)] [(0, 1, (t 13)), (1, 1, (t 16))], none⟩ <|
 .cons ⟨none, .storeN 2 (t 2) (t 17), none⟩ <|
 .nil)
 .ret) .skip))
 (.seq (.reg true <|
 .cons ⟨(some 18), .fieldAddr 1 (t 1), none⟩ <|
 .cons ⟨(some 19), .load (t 18), none⟩ <|
 .cons ⟨(some 20), .bin .rem (t 19) (.const (.int .u8 6)), none⟩ <|
 .cons ⟨(some 21), .conv .i64 (t 20), none⟩ <|
 .cons ⟨(some 23), .fieldAddr 2 (t 1), none⟩ <|
 .both (.cons ⟨(some 22), .call 23 [(t 21)], none⟩ <|
 .cons ⟨(some 24), .load (t 23), none⟩ <|
 .cons ⟨(some 25), .bin .rem (t 24) (.const (.int .u8 3)), none⟩ <|
 .cons ⟨(some 26), .conv .u32 (t 25), none⟩ <|
 .cons ⟨(some 27), .build [(.string ⟨#[]⟩), (.int .u32 0)] [(0, 1, (t 22)), (1, 1, (t 26))], none⟩ <|
 .cons ⟨none, .storeN 2 (t 2) (t 27), none⟩ <|
 .nil)
 (.cons ⟨(some 24), .load (t 23), none⟩ <|
 .cons ⟨(some 25), .bin .rem (t 24) (.const (.int .u8 3)), none⟩ <|
 .cons ⟨(some 26), .conv .u32 (t 25), none⟩ <|
 .cons ⟨(some 22), .call 23 [(t 21)], none⟩ <|
 .cons ⟨(some 27), .build [(.string ⟨#[]⟩), (.int .u32 0)] [(0, 1, (t 22)), (1, 1, (t 26))], none⟩ <|
 .cons ⟨none, .storeN 2 (t 2) (t 27), none⟩ <|
 .nil))
 .ret)))
theorem c_kedgelaw10_point : compileC Try.prog 28 (bodyOf Try.f8) = k_kedgelaw10_point := by kernel_rfl
theorem s_kedgelaw10_point {args : List Value} {w : World} {R : Value → World → Prop} (ha : Nat.ble args.length 28 = true) (h : codeK Try.prog k_kedgelaw10_point (retK [.cellN 2 2] R) (startEnv args) w) : K.Spec Try.prog F.kedgelaw10_point args w R :=
  calls_sound mixed Try.func8 rfl rfl (by kernel_rfl) c_kedgelaw10_point (Nat.le_of_ble_eq_true ha) h
/-- (*kedge/coins.Set).Take -/
noncomputable def k_coins_Set_Take : KC :=
(.seq (.reg false <|
 .cons ⟨(some 3), .box 28 (t 1), none⟩ <|
 .cons ⟨(some 4), .alloc 35 [(.int .i64 0), (.string ⟨#[]⟩), (.int .i64 0)], none⟩ <|
 .cons ⟨(some 5), .move (.const (.int .i64 0)), none⟩ <|
 .nil)
 (.seq (.seq (.reg false <|
 .cons ⟨(some 8), .move (t 0), none⟩ <|
 .cons ⟨(some 9), .eqNil false .pointer (t 8) (.const (.pointer none)), none⟩ <|
 .nil)
 (.cond (t 9) (.seq (.reg false <|
 .cons ⟨(some 10), .build [(.int .i64 0), (.string ⟨#[]⟩), (.int .i64 0)] [], none⟩ <|
 .cons ⟨none, .storeN 3 (t 4) (t 10), none⟩ <|
 .cons ⟨(some 5), .move (.const (.int .i64 1)), none⟩ <|
 .nil)
 .ret) .skip))
 (.seq (.reg true <|
 .cons ⟨(some 12), .move (t 0), none⟩ <|
 .cons ⟨(some 13), .nilCheck (t 12), none⟩ <|
 .cons ⟨(some 14), .fieldAddr 0 (t 13), none⟩ <|
 .cons ⟨(some 15), .load (t 14), none⟩ <|
 .cons ⟨(some 16), .loadN 2 (t 3), none⟩ <|
 .cons ⟨(some 17), .lookup true [.s, .i] (.agg #[(.int .i64 0), (.string ⟨#[]⟩), (.int .i64 0)]) true (t 15) (t 16), none⟩ <|
 .cons ⟨(some 11), .move (t 17), none⟩ <|
 .cons ⟨(some 18), .extract 0 (t 11), none⟩ <|
 .cons ⟨(some 19), .extract 1 (t 11), none⟩ <|
 .cons ⟨(some 6), .alloc 35 [(.int .i64 0), (.string ⟨#[]⟩), (.int .i64 0)], none⟩ <|
 .cons ⟨none, .storeN 3 (t 6) (t 18), none⟩ <|
 .cons ⟨(some 7), .move (t 19), none⟩ <|
 .nil)
 (.seq (.seq (.reg false <|
 .cons ⟨(some 20), .move (t 7), none⟩ <|
 .cons ⟨(some 21), .not (t 20), none⟩ <|
 .nil)
 (.cond (t 21) (.seq (.reg false <|
 .cons ⟨(some 22), .build [(.int .i64 0), (.string ⟨#[]⟩), (.int .i64 0)] [], none⟩ <|
 .cons ⟨none, .storeN 3 (t 4) (t 22), none⟩ <|
 .cons ⟨(some 5), .move (.const (.int .i64 8)), none⟩ <|
 .nil)
 .ret) .skip))
 (.seq (.reg true <|
 .cons ⟨(some 23), .move (t 0), none⟩ <|
 .cons ⟨(some 24), .nilCheck (t 23), none⟩ <|
 .cons ⟨(some 25), .fieldAddr 0 (t 24), none⟩ <|
 .cons ⟨(some 26), .load (t 25), none⟩ <|
 .cons ⟨(some 27), .loadN 2 (t 3), none⟩ <|
 .cons ⟨none, .delete true [.s, .i] (t 26) (t 27), none⟩ <|
 .nil)
 (.seq (.reg true <|
 .cons ⟨(some 28), .move (t 0), none⟩ <|
 .cons ⟨(some 29), .nilCheck (t 28), none⟩ <|
 .cons ⟨(some 30), .fieldAddr 1 (t 29), none⟩ <|
 .cons ⟨(some 31), .load (t 30), none⟩ <|
 .cons ⟨(some 32), .fieldAddr 0 (t 6), none⟩ <|
 .cons ⟨(some 33), .fieldAddr 0 (t 32), none⟩ <|
 .cons ⟨(some 34), .load (t 33), none⟩ <|
 .cons ⟨(some 35), .bin .sub (t 31) (t 34), none⟩ <|
 .cons ⟨(some 36), .nilCheck (t 28), none⟩ <|
 .cons ⟨(some 37), .fieldAddr 1 (t 36), none⟩ <|
 .cons ⟨none, .store (t 37) (t 35), none⟩ <|
 .nil)
 (.seq (.reg false <|
 .cons ⟨(some 38), .loadN 3 (t 6), none⟩ <|
 .cons ⟨none, .storeN 3 (t 4) (t 38), none⟩ <|
 .cons ⟨(some 5), .move (.const (.int .i64 0)), none⟩ <|
 .nil)
 .ret)))))))
theorem c_coins_Set_Take : compileC Try.prog 39 (bodyOf Try.f9) = k_coins_Set_Take := by kernel_rfl
theorem s_coins_Set_Take {args : List Value} {w : World} {R : Value → World → Prop} (ha : Nat.ble args.length 39 = true) (h : codeK Try.prog k_coins_Set_Take (retK [.cellN 3 4, .tmp 5] R) (startEnv args) w) : K.Spec Try.prog F.coins_Set_Take args w R :=
  calls_sound mixed Try.func9 rfl rfl (by kernel_rfl) c_coins_Set_Take (Nat.le_of_ble_eq_true ha) h
/-- kedge/kedgeref10.Take -/
noncomputable def k_kedgeref10_Take : KC :=
(.seq (.reg false <|
 .cons ⟨(some 3), .box 28 (t 1), none⟩ <|
 .cons ⟨(some 4), .move (.const (.slice none 0 0)), none⟩ <|
 .cons ⟨(some 5), .alloc 35 [(.int .i64 0), (.string ⟨#[]⟩), (.int .i64 0)], none⟩ <|
 .cons ⟨(some 6), .move (.const (.int .i64 0)), none⟩ <|
 .nil)
 (.seq (.reg false <|
 .cons ⟨(some 10), .move (t 0), none⟩ <|
 .cons ⟨(some 11), .loadN 2 (t 3), none⟩ <|
 .cons ⟨(some 12), .call 12 [(t 10), (t 11)], none⟩ <|
 .cons ⟨(some 7), .move (t 12), none⟩ <|
 .nil)
 (.seq (.seq (.reg false <|
 .cons ⟨(some 13), .move (t 7), none⟩ <|
 .cons ⟨(some 14), .bin .lss (t 13) (.const (.int .i64 0)), none⟩ <|
 .nil)
 (.cond (t 14) (.seq (.reg false <|
 .cons ⟨(some 15), .move (t 0), none⟩ <|
 .cons ⟨(some 16), .build [(.int .i64 0), (.string ⟨#[]⟩), (.int .i64 0)] [], none⟩ <|
 .cons ⟨(some 4), .move (t 15), none⟩ <|
 .cons ⟨none, .storeN 3 (t 5) (t 16), none⟩ <|
 .cons ⟨(some 6), .move (.const (.int .i64 8)), none⟩ <|
 .nil)
 .ret) .skip))
 (.seq (.reg false <|
 .cons ⟨(some 8), .move (.const (.slice none 0 0)), none⟩ <|
 .nil)
 (.seq (.seq (.reg false <|
 .cons ⟨(some 9), .move (.const (.int .i64 0)), none⟩ <|
 .nil)
 (.block 0 (.loop (.seq (.seq (.reg false <|
 .cons ⟨(some 17), .move (t 9), none⟩ <|
 .cons ⟨(some 18), .move (t 0), none⟩ <|
 .cons ⟨(some 19), .len false (t 18), none⟩ <|
 .cons ⟨(some 20), .bin .lss (t 17) (t 19), none⟩ <|
 .nil)
 (.cond (t 20) .skip (.exit 0)))
 (.seq (.block 1 (.seq (.reg false <|
 .cons ⟨(some 23), .move (t 9), none⟩ <|
 .cons ⟨(some 24), .move (t 7), none⟩ <|
 .cons ⟨(some 25), .bin .neq (t 23) (t 24), none⟩ <|
 .nil)
 (.cond (t 25) (.reg false <|
 .cons ⟨(some 26), .move (t 8), none⟩ <|
 .cons ⟨(some 27), .move (t 0), none⟩ <|
 .cons ⟨(some 28), .move (t 9), none⟩ <|
 .cons ⟨(some 29), .indexAddr 5 (t 27) (t 28), none⟩ <|
 .cons ⟨(some 30), .loadN 5 (t 29), none⟩ <|
 .cons ⟨(some 31), .buildSlice 45 1 [(.string ⟨#[]⟩), (.int .u32 0), (.int .i64 0), (.string ⟨#[]⟩), (.int .i64 0)] [(0, 5, (t 30))], none⟩ <|
 .cons ⟨(some 32), .append 45 5 56 [(.string ⟨#[]⟩), (.int .u32 0), (.int .i64 0), (.string ⟨#[]⟩), (.int .i64 0)] (t 26) (t 31), none⟩ <|
 .cons ⟨(some 8), .move (t 32), none⟩ <|
 .nil) .skip)))
 (.reg false <|
 .cons ⟨(some 21), .move (t 9), none⟩ <|
 .cons ⟨(some 22), .bin .add (t 21) (.const (.int .i64 1)), none⟩ <|
 .cons ⟨(some 9), .move (t 22), none⟩ <|
 .nil))))))
 (.seq (.reg true <|
 .cons ⟨(some 33), .move (t 8), none⟩ <|
 .cons ⟨(some 34), .move (t 0), none⟩ <|
 .cons ⟨(some 35), .move (t 7), none⟩ <|
 .cons ⟨(some 36), .indexAddr 5 (t 34) (t 35), none⟩ <|
 .cons ⟨(some 37), .fieldAddr 2 (t 36), none⟩ <|
 .cons ⟨(some 38), .loadN 3 (t 37), none⟩ <|
 .cons ⟨(some 4), .move (t 33), none⟩ <|
 .cons ⟨none, .storeN 3 (t 5) (t 38), none⟩ <|
 .cons ⟨(some 6), .move (.const (.int .i64 0)), none⟩ <|
 .nil)
 .ret))))))
theorem c_kedgeref10_Take : compileC Try.prog 39 (bodyOf Try.f10) = k_kedgeref10_Take := by kernel_rfl
theorem s_kedgeref10_Take {args : List Value} {w : World} {R : Value → World → Prop} (ha : Nat.ble args.length 39 = true) (h : codeK Try.prog k_kedgeref10_Take (retK [.tmp 4, .cellN 3 5, .tmp 6] R) (startEnv args) w) : K.Spec Try.prog F.kedgeref10_Take args w R :=
  calls_sound mixed Try.func10 rfl rfl (by kernel_rfl) c_kedgeref10_Take (Nat.le_of_ble_eq_true ha) h
/-- (*kedge/coins.Set).Get -/
noncomputable def k_coins_Set_Get : KC :=
(.seq (.reg false <|
 .cons ⟨(some 3), .box 28 (t 1), none⟩ <|
 .cons ⟨(some 4), .alloc 35 [(.int .i64 0), (.string ⟨#[]⟩), (.int .i64 0)], none⟩ <|
 .cons ⟨(some 5), .move (.const (.bool false)), none⟩ <|
 .nil)
 (.seq (.seq (.reg false <|
 .cons ⟨(some 8), .move (t 0), none⟩ <|
 .cons ⟨(some 9), .eqNil false .pointer (t 8) (.const (.pointer none)), none⟩ <|
 .nil)
 (.cond (t 9) (.seq (.reg false <|
 .cons ⟨(some 10), .build [(.int .i64 0), (.string ⟨#[]⟩), (.int .i64 0)] [], none⟩ <|
 .cons ⟨none, .storeN 3 (t 4) (t 10), none⟩ <|
 .cons ⟨(some 5), .move (.const (.bool false)), none⟩ <|
 .nil)
 .ret) .skip))
 (.seq (.reg true <|
 .cons ⟨(some 12), .move (t 0), none⟩ <|
 .cons ⟨(some 13), .nilCheck (t 12), none⟩ <|
 .cons ⟨(some 14), .fieldAddr 0 (t 13), none⟩ <|
 .cons ⟨(some 15), .load (t 14), none⟩ <|
 .cons ⟨(some 16), .loadN 2 (t 3), none⟩ <|
 .cons ⟨(some 17), .lookup true [.s, .i] (.agg #[(.int .i64 0), (.string ⟨#[]⟩), (.int .i64 0)]) true (t 15) (t 16), none⟩ <|
 .cons ⟨(some 11), .move (t 17), none⟩ <|
 .cons ⟨(some 18), .extract 0 (t 11), none⟩ <|
 .cons ⟨(some 19), .extract 1 (t 11), none⟩ <|
 .cons ⟨(some 6), .alloc 35 [(.int .i64 0), (.string ⟨#[]⟩), (.int .i64 0)], none⟩ <|
 .cons ⟨none, .storeN 3 (t 6) (t 18), none⟩ <|
 .cons ⟨(some 7), .move (t 19), none⟩ <|
 .nil)
 (.seq (.reg false <|
 .cons ⟨(some 20), .loadN 3 (t 6), none⟩ <|
 .cons ⟨(some 21), .move (t 7), none⟩ <|
 .cons ⟨none, .storeN 3 (t 4) (t 20), none⟩ <|
 .cons ⟨(some 5), .move (t 21), none⟩ <|
 .nil)
 .ret))))
theorem c_coins_Set_Get : compileC Try.prog 22 (bodyOf Try.f11) = k_coins_Set_Get := by kernel_rfl
theorem s_coins_Set_Get {args : List Value} {w : World} {R : Value → World → Prop} (ha : Nat.ble args.length 22 = true) (h : codeK Try.prog k_coins_Set_Get (retK [.cellN 3 4, .tmp 5] R) (startEnv args) w) : K.Spec Try.prog F.coins_Set_Get args w R :=
  calls_sound mixed Try.func11 rfl rfl (by kernel_rfl) c_coins_Set_Get (Nat.le_of_ble_eq_true ha) h
/-- kedge/kedgeref10.Find -/
noncomputable def k_kedgeref10_Find : KC :=
(.seq (.reg false <|
 .cons ⟨(some 3), .box 28 (t 1), none⟩ <|
 .cons ⟨(some 4), .move (.const (.int .i64 0)), none⟩ <|
 .nil)
 (.seq (.seq (.reg false <|
 .cons ⟨(some 5), .move (.const (.int .i64 0)), none⟩ <|
 .nil)
 (.block 0 (.loop (.seq (.seq (.reg false <|
 .cons ⟨(some 7), .move (t 5), none⟩ <|
 .cons ⟨(some 8), .move (t 0), none⟩ <|
 .cons ⟨(some 9), .len false (t 8), none⟩ <|
 .cons ⟨(some 10), .bin .lss (t 7) (t 9), none⟩ <|
 .nil)
 (.cond (t 10) .skip (.exit 0)))
 (.seq (.block 1 (.seq (.reg true <|
 .cons ⟨(some 13), .move (t 0), none⟩ <|
 .cons ⟨(some 14), .move (t 5), none⟩ <|
 .cons ⟨(some 15), .indexAddr 5 (t 13) (t 14), none⟩ <|
 .cons ⟨(some 16), .fieldAddr 0 (t 15), none⟩ <|
 .cons ⟨(some 17), .loadN 2 (t 16), none⟩ <|
 .cons ⟨(some 18), .loadN 2 (t 3), none⟩ <|
 .cons ⟨(some 19), .call 24 [(t 17), (t 18)], none⟩ <|
 .cons ⟨(some 6), .move (t 19), none⟩ <|
 .nil)
 (.seq (.reg false <|
 .cons ⟨(some 20), .move (t 6), none⟩ <|
 .nil)
 (.cond (t 20) (.seq (.reg false <|
 .cons ⟨(some 21), .move (t 5), none⟩ <|
 .cons ⟨(some 4), .move (t 21), none⟩ <|
 .nil)
 .ret) .skip))))
 (.reg false <|
 .cons ⟨(some 11), .move (t 5), none⟩ <|
 .cons ⟨(some 12), .bin .add (t 11) (.const (.int .i64 1)), none⟩ <|
 .cons ⟨(some 5), .move (t 12), none⟩ <|
 .nil))))))
 (.seq (.reg false <|
 .cons ⟨(some 4), .move (.const (.int .i64 (-1))), none⟩ <|
 .nil)
 .ret)))
theorem c_kedgeref10_Find : compileC Try.prog 22 (bodyOf Try.f12) = k_kedgeref10_Find := by kernel_rfl
theorem s_kedgeref10_Find {args : List Value} {w : World} {R : Value → World → Prop} (ha : Nat.ble args.length 22 = true) (h : codeK Try.prog k_kedgeref10_Find (retK [.tmp 4] R) (startEnv args) w) : K.Spec Try.prog F.kedgeref10_Find args w R :=
  calls_sound mixed Try.func12 rfl rfl (by kernel_rfl) c_kedgeref10_Find (Nat.le_of_ble_eq_true ha) h
/-- (*kedge/coins.Set).Put -/
noncomputable def k_coins_Set_Put : KC :=
(.seq (.reg false <|
 .cons ⟨(some 4), .box 28 (t 1), none⟩ <|
 .cons ⟨(some 5), .box 35 (t 2), none⟩ <|
 .cons ⟨(some 6), .move (.const (.int .i64 0)), none⟩ <|
 .nil)
 (.seq (.block 0 (.seq (.reg false <|
 .cons ⟨(some 12), .move (t 0), none⟩ <|
 .cons ⟨(some 13), .eqNil false .pointer (t 12) (.const (.pointer none)), none⟩ <|
 .cons ⟨(some 11), .move (t 13), none⟩ <|
 .nil)
 (.cond (t 11) (.seq (.reg false <|
 .cons ⟨(some 6), .move (.const (.int .i64 1)), none⟩ <|
 .nil)
 .ret) (.seq (.reg false <|
 .cons ⟨(some 15), .loadN 2 (t 4), none⟩ <|
 .cons ⟨(some 16), .loadN 3 (t 5), none⟩ <|
 .cons ⟨(some 17), .call 25 [(t 15), (t 16)], none⟩ <|
 .cons ⟨(some 18), .not (t 17), none⟩ <|
 .cons ⟨(some 14), .move (t 18), none⟩ <|
 .nil)
 (.cond (t 14) (.seq (.reg false <|
 .cons ⟨(some 6), .move (.const (.int .i64 2)), none⟩ <|
 .nil)
 .ret) .skip)))))
 (.seq (.seq (.reg true <|
 .cons ⟨(some 20), .move (t 0), none⟩ <|
 .cons ⟨(some 21), .nilCheck (t 20), none⟩ <|
 .cons ⟨(some 22), .fieldAddr 0 (t 21), none⟩ <|
 .cons ⟨(some 23), .load (t 22), none⟩ <|
 .cons ⟨(some 24), .loadN 2 (t 4), none⟩ <|
 .cons ⟨(some 25), .lookup true [.s, .i] (.agg #[(.int .i64 0), (.string ⟨#[]⟩), (.int .i64 0)]) true (t 23) (t 24), none⟩ <|
 .cons ⟨(some 19), .move (t 25), none⟩ <|
 .cons ⟨(some 26), .extract 0 (t 19), none⟩ <|
 .cons ⟨(some 27), .extract 1 (t 19), none⟩ <|
 .cons ⟨(some 7), .alloc 35 [(.int .i64 0), (.string ⟨#[]⟩), (.int .i64 0)], none⟩ <|
 .cons ⟨none, .storeN 3 (t 7) (t 26), none⟩ <|
 .cons ⟨(some 8), .move (t 27), none⟩ <|
 .nil)
 (.seq (.reg false <|
 .cons ⟨(some 28), .move (t 8), none⟩ <|
 .nil)
 (.cond (t 28) (.seq (.reg false <|
 .cons ⟨(some 6), .move (.const (.int .i64 7)), none⟩ <|
 .nil)
 .ret) .skip)))
 (.seq (.reg true <|
 .cons ⟨(some 30), .move (t 0), none⟩ <|
 .cons ⟨(some 31), .nilCheck (t 30), none⟩ <|
 .cons ⟨(some 32), .fieldAddr 1 (t 31), none⟩ <|
 .cons ⟨(some 33), .load (t 32), none⟩ <|
 .cons ⟨(some 34), .fieldAddr 0 (t 5), none⟩ <|
 .cons ⟨(some 35), .fieldAddr 0 (t 34), none⟩ <|
 .cons ⟨(some 36), .load (t 35), none⟩ <|
 .cons ⟨(some 37), .call 26 [(t 33), (t 36)], none⟩ <|
 .cons ⟨(some 29), .move (t 37), none⟩ <|
 .cons ⟨(some 38), .extract 0 (t 29), none⟩ <|
 .cons ⟨(some 39), .extract 1 (t 29), none⟩ <|
 .cons ⟨(some 9), .move (t 38), none⟩ <|
 .cons ⟨(some 10), .move (t 39), none⟩ <|
 .nil)
 (.seq (.seq (.reg false <|
 .cons ⟨(some 40), .move (t 10), none⟩ <|
 .cons ⟨(some 41), .bin .neq (t 40) (.const (.int .i64 0)), none⟩ <|
 .nil)
 (.cond (t 41) (.seq (.reg false <|
 .cons ⟨(some 42), .move (t 10), none⟩ <|
 .cons ⟨(some 6), .move (t 42), none⟩ <|
 .nil)
 .ret) .skip))
 (.seq (.reg true <|
 .cons ⟨(some 43), .move (t 0), none⟩ <|
 .cons ⟨(some 44), .nilCheck (t 43), none⟩ <|
 .cons ⟨(some 45), .fieldAddr 0 (t 44), none⟩ <|
 .cons ⟨(some 46), .load (t 45), none⟩ <|
 .cons ⟨(some 47), .loadN 2 (t 4), none⟩ <|
 .cons ⟨(some 48), .move (t 0), none⟩ <|
 .cons ⟨(some 50), .move (t 9), none⟩ <|
 .both (.cons ⟨(some 49), .loadN 3 (t 5), none⟩ <|
 .cons ⟨(some 51), .mapEntry true [.s, .i] (.agg #[(.int .i64 0), (.string ⟨#[]⟩), (.int .i64 0)]) (t 46) (t 47), none⟩ <|
 .cons ⟨(some 52), .extract 1 (t 51), none⟩ <|
 .cons ⟨none, .entryStore (t 46) (t 52) (t 49), none⟩ <|
 .cons ⟨(some 53), .nilCheck (t 48), none⟩ <|
 .cons ⟨(some 54), .fieldAddr 1 (t 53), none⟩ <|
 .cons ⟨none, .store (t 54) (t 50), none⟩ <|
 .nil)
 (.cons ⟨(some 51), .mapEntry true [.s, .i] (.agg #[(.int .i64 0), (.string ⟨#[]⟩), (.int .i64 0)]) (t 46) (t 47), none⟩ <|
 .cons ⟨(some 49), .loadN 3 (t 5), none⟩ <|
 .cons ⟨(some 52), .extract 1 (t 51), none⟩ <|
 .cons ⟨none, .entryStore (t 46) (t 52) (t 49), none⟩ <|
 .cons ⟨(some 53), .nilCheck (t 48), none⟩ <|
 .cons ⟨(some 54), .fieldAddr 1 (t 53), none⟩ <|
 .cons ⟨none, .store (t 54) (t 50), none⟩ <|
 .nil))
 (.seq (.reg false <|
 .cons ⟨(some 6), .move (.const (.int .i64 0)), none⟩ <|
 .nil)
 .ret)))))))
theorem c_coins_Set_Put : compileC Try.prog 55 (bodyOf Try.f13) = k_coins_Set_Put := by kernel_rfl
theorem s_coins_Set_Put {args : List Value} {w : World} {R : Value → World → Prop} (ha : Nat.ble args.length 55 = true) (h : codeK Try.prog k_coins_Set_Put (retK [.tmp 6] R) (startEnv args) w) : K.Spec Try.prog F.coins_Set_Put args w R :=
  calls_sound mixed Try.func13 rfl rfl (by kernel_rfl) c_coins_Set_Put (Nat.le_of_ble_eq_true ha) h
/-- kedge/kedgelaw10.coin -/
noncomputable def k_kedgelaw10_coin : KC :=
(.seq (.reg false <|
 .cons ⟨(some 1), .box 30 (t 0), none⟩ <|
 .cons ⟨(some 2), .alloc 35 [(.int .i64 0), (.string ⟨#[]⟩), (.int .i64 0)], none⟩ <|
 .nil)
 (.seq (.reg true <|
 .cons ⟨(some 3), .fieldAddr 3 (t 1), none⟩ <|
 .cons ⟨(some 4), .load (t 3), none⟩ <|
 .cons ⟨(some 5), .fieldAddr 5 (t 1), none⟩ <|
 .cons ⟨(some 6), .load (t 5), none⟩ <|
 .cons ⟨(some 7), .fieldAddr 5 (t 1), none⟩ <|
 .cons ⟨(some 8), .load (t 7), none⟩ <|
 .cons ⟨(some 9), .len true (t 8), none⟩ <|
 .cons ⟨(some 10), .minmax false (t 9) [(.const (.int .i64 40))], none⟩ <|
 .cons ⟨(some 11), .sliceStr (t 6) none (some (t 10)), none⟩ <|
 .cons ⟨(some 12), .build [(.int .i64 0), (.string ⟨#[]⟩)] [(0, 1, (t 4)), (1, 1, (t 11))], none⟩ <|
 .cons ⟨(some 13), .fieldAddr 4 (t 1), none⟩ <|
 .cons ⟨(some 14), .load (t 13), none⟩ <|
 .cons ⟨(some 15), .build [(.int .i64 0), (.string ⟨#[]⟩), (.int .i64 0)] [(0, 2, (t 12)), (2, 1, (t 14))], none⟩ <|
 .cons ⟨none, .storeN 3 (t 2) (t 15), none⟩ <|
 .nil)
 .ret))
theorem c_kedgelaw10_coin : compileC Try.prog 16 (bodyOf Try.f14) = k_kedgelaw10_coin := by kernel_rfl
theorem s_kedgelaw10_coin {args : List Value} {w : World} {R : Value → World → Prop} (ha : Nat.ble args.length 16 = true) (h : codeK Try.prog k_kedgelaw10_coin (retK [.cellN 3 2] R) (startEnv args) w) : K.Spec Try.prog F.kedgelaw10_coin args w R :=
  calls_sound mixed Try.func14 rfl rfl (by kernel_rfl) c_kedgelaw10_coin (Nat.le_of_ble_eq_true ha) h
/-- kedge/kedgeref10.Put -/
noncomputable def k_kedgeref10_Put : KC :=
(.seq (.reg false <|
 .cons ⟨(some 4), .box 28 (t 1), none⟩ <|
 .cons ⟨(some 5), .box 35 (t 2), none⟩ <|
 .cons ⟨(some 6), .move (.const (.slice none 0 0)), none⟩ <|
 .cons ⟨(some 7), .move (.const (.int .i64 0)), none⟩ <|
 .nil)
 (.seq (.reg false <|
 .cons ⟨(some 15), .fieldAddr 0 (t 5), none⟩ <|
 .cons ⟨(some 16), .fieldAddr 0 (t 15), none⟩ <|
 .cons ⟨(some 17), .load (t 16), none⟩ <|
 .cons ⟨(some 18), .call 27 [(t 17)], none⟩ <|
 .cons ⟨(some 8), .move (t 18), none⟩ <|
 .nil)
 (.seq (.seq (.reg false <|
 .cons ⟨(some 19), .fieldAddr 0 (t 4), none⟩ <|
 .cons ⟨(some 20), .load (t 19), none⟩ <|
 .cons ⟨(some 21), .len true (t 20), none⟩ <|
 .cons ⟨(some 22), .bin .neq (t 21) (.const (.int .i64 32)), none⟩ <|
 .cons ⟨(some 23), .move (t 22), none⟩ <|
 .cons ⟨(some 24), .fieldAddr 2 (t 5), (some (23, false))⟩ <|
 .cons ⟨(some 25), .load (t 24), (some (23, false))⟩ <|
 .cons ⟨(some 26), .bin .lss (t 25) (.const (.int .i64 0)), (some (23, false))⟩ <|
 .cons ⟨(some 27), .pick (t 23) (.const (.bool true)) (t 26), none⟩ <|
 .cons ⟨(some 28), .move (t 27), none⟩ <|
 .cons ⟨(some 29), .fieldAddr 2 (t 5), (some (28, false))⟩ <|
 .cons ⟨(some 30), .load (t 29), (some (28, false))⟩ <|
 .cons ⟨(some 31), .bin .gtr (t 30) (.const (.int .i64 1000000)), (some (28, false))⟩ <|
 .cons ⟨(some 32), .pick (t 28) (.const (.bool true)) (t 31), none⟩ <|
 .cons ⟨(some 33), .move (t 32), none⟩ <|
 .cons ⟨(some 34), .move (t 8), (some (33, false))⟩ <|
 .cons ⟨(some 35), .not (t 34), (some (33, false))⟩ <|
 .cons ⟨(some 36), .pick (t 33) (.const (.bool true)) (t 35), none⟩ <|
 .nil)
 (.cond (t 36) (.seq (.reg false <|
 .cons ⟨(some 37), .move (t 0), none⟩ <|
 .cons ⟨(some 6), .move (t 37), none⟩ <|
 .cons ⟨(some 7), .move (.const (.int .i64 2)), none⟩ <|
 .nil)
 .ret) .skip))
 (.seq (.reg false <|
 .cons ⟨(some 38), .move (t 0), none⟩ <|
 .cons ⟨(some 39), .loadN 2 (t 4), none⟩ <|
 .cons ⟨(some 40), .call 12 [(t 38), (t 39)], none⟩ <|
 .cons ⟨(some 9), .move (t 40), none⟩ <|
 .nil)
 (.seq (.seq (.reg false <|
 .cons ⟨(some 41), .move (t 9), none⟩ <|
 .cons ⟨(some 42), .bin .geq (t 41) (.const (.int .i64 0)), none⟩ <|
 .nil)
 (.cond (t 42) (.seq (.reg false <|
 .cons ⟨(some 43), .move (t 0), none⟩ <|
 .cons ⟨(some 6), .move (t 43), none⟩ <|
 .cons ⟨(some 7), .move (.const (.int .i64 7)), none⟩ <|
 .nil)
 .ret) .skip))
 (.seq (.reg false <|
 .cons ⟨(some 44), .move (t 0), none⟩ <|
 .cons ⟨(some 45), .call 28 [(t 44)], none⟩ <|
 .cons ⟨(some 10), .move (t 45), none⟩ <|
 .nil)
 (.seq (.reg false <|
 .cons ⟨(some 46), .move (t 10), none⟩ <|
 .cons ⟨(some 47), .fieldAddr 0 (t 5), none⟩ <|
 .cons ⟨(some 48), .fieldAddr 0 (t 47), none⟩ <|
 .cons ⟨(some 49), .load (t 48), none⟩ <|
 .cons ⟨(some 50), .bin .add (t 46) (t 49), none⟩ <|
 .cons ⟨(some 51), .call 27 [(t 50)], none⟩ <|
 .cons ⟨(some 8), .move (t 51), none⟩ <|
 .nil)
 (.seq (.seq (.reg false <|
 .cons ⟨(some 52), .move (t 8), none⟩ <|
 .cons ⟨(some 53), .not (t 52), none⟩ <|
 .nil)
 (.cond (t 53) (.seq (.reg false <|
 .cons ⟨(some 54), .move (t 0), none⟩ <|
 .cons ⟨(some 6), .move (t 54), none⟩ <|
 .cons ⟨(some 7), .move (.const (.int .i64 3)), none⟩ <|
 .nil)
 .ret) .skip))
 (.seq (.reg false <|
 .cons ⟨(some 11), .move (.const (.slice none 0 0)), none⟩ <|
 .nil)
 (.seq (.reg false <|
 .cons ⟨(some 12), .move (.const (.bool false)), none⟩ <|
 .nil)
 (.seq (.seq (.reg false <|
 .cons ⟨(some 13), .move (.const (.int .i64 0)), none⟩ <|
 .nil)
 (.block 0 (.loop (.seq (.seq (.reg false <|
 .cons ⟨(some 55), .move (t 13), none⟩ <|
 .cons ⟨(some 56), .move (t 0), none⟩ <|
 .cons ⟨(some 57), .len false (t 56), none⟩ <|
 .cons ⟨(some 58), .bin .lss (t 55) (t 57), none⟩ <|
 .nil)
 (.cond (t 58) .skip (.exit 0)))
 (.seq (.block 1 (.seq (.reg true <|
 .cons ⟨(some 61), .loadN 2 (t 4), none⟩ <|
 .cons ⟨(some 62), .move (t 0), none⟩ <|
 .cons ⟨(some 63), .move (t 13), none⟩ <|
 .cons ⟨(some 64), .indexAddr 5 (t 62) (t 63), none⟩ <|
 .cons ⟨(some 65), .fieldAddr 0 (t 64), none⟩ <|
 .cons ⟨(some 66), .loadN 2 (t 65), none⟩ <|
 .cons ⟨(some 67), .call 19 [(t 61), (t 66)], none⟩ <|
 .cons ⟨(some 14), .move (t 67), none⟩ <|
 .nil)
 (.seq (.seq (.reg false <|
 .cons ⟨(some 68), .move (t 14), none⟩ <|
 .cons ⟨(some 69), .move (t 68), none⟩ <|
 .cons ⟨(some 70), .move (t 12), (some (69, true))⟩ <|
 .cons ⟨(some 71), .not (t 70), (some (69, true))⟩ <|
 .cons ⟨(some 72), .pick (t 69) (t 71) (.const (.bool false)), none⟩ <|
 .nil)
 (.cond (t 72) (.seq (.reg false <|
 .cons ⟨(some 73), .move (t 11), none⟩ <|
 .cons ⟨(some 74), .loadN 2 (t 4), none⟩ <|
 .cons ⟨(some 75), .loadN 3 (t 5), none⟩ <|
 .cons ⟨(some 76), .build [(.string ⟨#[]⟩), (.int .u32 0), (.int .i64 0), (.string ⟨#[]⟩), (.int .i64 0)] [(0, 2, (t 74)), (2, 3, (t 75))], none⟩ <|
 .cons ⟨(some 77), .buildSlice 45 1 [(.string ⟨#[]⟩), (.int .u32 0), (.int .i64 0), (.string ⟨#[]⟩), (.int .i64 0)] [(0, 5, (t 76))], none⟩ <|
 .cons ⟨(some 78), .append 45 5 56 [(.string ⟨#[]⟩), (.int .u32 0), (.int .i64 0), (.string ⟨#[]⟩), (.int .i64 0)] (t 73) (t 77), none⟩ <|
 .cons ⟨(some 11), .move (t 78), none⟩ <|
 .nil)
 (.reg false <|
 .cons ⟨(some 12), .move (.const (.bool true)), none⟩ <|
 .nil)) .skip))
 (.reg false <|
 .cons ⟨(some 79), .move (t 11), none⟩ <|
 .cons ⟨(some 80), .move (t 0), none⟩ <|
 .cons ⟨(some 81), .move (t 13), none⟩ <|
 .cons ⟨(some 82), .indexAddr 5 (t 80) (t 81), none⟩ <|
 .cons ⟨(some 83), .loadN 5 (t 82), none⟩ <|
 .cons ⟨(some 84), .buildSlice 45 1 [(.string ⟨#[]⟩), (.int .u32 0), (.int .i64 0), (.string ⟨#[]⟩), (.int .i64 0)] [(0, 5, (t 83))], none⟩ <|
 .cons ⟨(some 85), .append 45 5 56 [(.string ⟨#[]⟩), (.int .u32 0), (.int .i64 0), (.string ⟨#[]⟩), (.int .i64 0)] (t 79) (t 84), none⟩ <|
 .cons ⟨(some 11), .move (t 85), none⟩ <|
 .nil))))
 (.reg false <|
 .cons ⟨(some 59), .move (t 13), none⟩ <|
 .cons ⟨(some 60), .bin .add (t 59) (.const (.int .i64 1)), none⟩ <|
 .cons ⟨(some 13), .move (t 60), none⟩ <|
 .nil))))))
 (.seq (.seq (.reg false <|
 .cons ⟨(some 86), .move (t 12), none⟩ <|
 .cons ⟨(some 87), .not (t 86), none⟩ <|
 .nil)
 (.cond (t 87) (.reg false <|
 .cons ⟨(some 88), .move (t 11), none⟩ <|
 .cons ⟨(some 89), .loadN 2 (t 4), none⟩ <|
 .cons ⟨(some 90), .loadN 3 (t 5), none⟩ <|
 .cons ⟨(some 91), .build [(.string ⟨#[]⟩), (.int .u32 0), (.int .i64 0), (.string ⟨#[]⟩), (.int .i64 0)] [(0, 2, (t 89)), (2, 3, (t 90))], none⟩ <|
 .cons ⟨(some 92), .buildSlice 45 1 [(.string ⟨#[]⟩), (.int .u32 0), (.int .i64 0), (.string ⟨#[]⟩), (.int .i64 0)] [(0, 5, (t 91))], none⟩ <|
 .cons ⟨(some 93), .append 45 5 56 [(.string ⟨#[]⟩), (.int .u32 0), (.int .i64 0), (.string ⟨#[]⟩), (.int .i64 0)] (t 88) (t 92), none⟩ <|
 .cons ⟨(some 11), .move (t 93), none⟩ <|
 .nil) .skip))
 (.seq (.reg false <|
 .cons ⟨(some 94), .move (t 11), none⟩ <|
 .cons ⟨(some 6), .move (t 94), none⟩ <|
 .cons ⟨(some 7), .move (.const (.int .i64 0)), none⟩ <|
 .nil)
 .ret)))))))))))))
theorem c_kedgeref10_Put : compileC Try.prog 95 (bodyOf Try.f15) = k_kedgeref10_Put := by kernel_rfl
theorem s_kedgeref10_Put {args : List Value} {w : World} {R : Value → World → Prop} (ha : Nat.ble args.length 95 = true) (h : codeK Try.prog k_kedgeref10_Put (retK [.tmp 6, .tmp 7] R) (startEnv args) w) : K.Spec Try.prog F.kedgeref10_Put args w R :=
  calls_sound mixed Try.func15 rfl rfl (by kernel_rfl) c_kedgeref10_Put (Nat.le_of_ble_eq_true ha) h
/-- kedge/kedgelaw10.same -/
noncomputable def k_kedgelaw10_same : KC :=
(.seq (.reg false <|
 .cons ⟨(some 4), .move (.const (.bool false)), none⟩ <|
 .nil)
 (.seq (.reg false <|
 .cons ⟨(some 8), .move (t 0), none⟩ <|
 .cons ⟨(some 9), .call 18 [(t 8)], none⟩ <|
 .cons ⟨(some 5), .move (t 9), none⟩ <|
 .nil)
 (.seq (.seq (.reg false <|
 .cons ⟨(some 10), .move (t 5), none⟩ <|
 .cons ⟨(some 11), .len false (t 10), none⟩ <|
 .cons ⟨(some 12), .move (t 1), none⟩ <|
 .cons ⟨(some 13), .len false (t 12), none⟩ <|
 .cons ⟨(some 14), .bin .neq (t 11) (t 13), none⟩ <|
 .cons ⟨(some 15), .move (t 14), none⟩ <|
 .cons ⟨(some 16), .move (t 0), (some (15, false))⟩ <|
 .cons ⟨(some 17), .call 21 [(t 16)], (some (15, false))⟩ <|
 .cons ⟨(some 18), .move (t 1), (some (15, false))⟩ <|
 .cons ⟨(some 19), .len false (t 18), (some (15, false))⟩ <|
 .cons ⟨(some 20), .bin .neq (t 17) (t 19), (some (15, false))⟩ <|
 .cons ⟨(some 21), .pick (t 15) (.const (.bool true)) (t 20), none⟩ <|
 .cons ⟨(some 22), .move (t 21), none⟩ <|
 .cons ⟨(some 23), .move (t 0), (some (22, false))⟩ <|
 .cons ⟨(some 24), .call 20 [(t 23)], (some (22, false))⟩ <|
 .cons ⟨(some 25), .move (t 1), (some (22, false))⟩ <|
 .cons ⟨(some 26), .call 28 [(t 25)], (some (22, false))⟩ <|
 .cons ⟨(some 27), .bin .neq (t 24) (t 26), (some (22, false))⟩ <|
 .cons ⟨(some 28), .pick (t 22) (.const (.bool true)) (t 27), none⟩ <|
 .nil)
 (.cond (t 28) (.seq (.reg false <|
 .cons ⟨(some 4), .move (.const (.bool false)), none⟩ <|
 .nil)
 .ret) .skip))
 (.seq (.seq (.reg false <|
 .cons ⟨(some 29), .move (t 5), none⟩ <|
 .cons ⟨(some 30), .len false (t 29), none⟩ <|
 .cons ⟨(some 31), .move (.const (.int .i64 0)), none⟩ <|
 .nil)
 (.block 0 (.loop (.seq (.reg false <|
 .cons ⟨(some 32), .bin .lss (t 31) (t 30), none⟩ <|
 .nil)
 (.seq (.cond (t 32) .skip (.exit 0))
 (.seq (.block 1 (.seq (.reg false <|
 .cons ⟨(some 33), .move (t 31), none⟩ <|
 .cons ⟨(some 34), .indexAddr 5 (t 29) (t 31), none⟩ <|
 .cons ⟨(some 35), .loadN 5 (t 34), none⟩ <|
 .cons ⟨(some 7), .alloc 55 [(.string ⟨#[]⟩), (.int .u32 0), (.int .i64 0), (.string ⟨#[]⟩), (.int .i64 0)], none⟩ <|
 .cons ⟨(some 6), .move (t 33), none⟩ <|
 .cons ⟨none, .storeN 5 (t 7) (t 35), none⟩ <|
 .nil)
 (.seq (.reg true <|
 .cons ⟨(some 36), .fieldAddr 0 (t 7), none⟩ <|
 .cons ⟨(some 37), .loadN 2 (t 36), none⟩ <|
 .cons ⟨(some 38), .move (t 1), none⟩ <|
 .cons ⟨(some 39), .move (t 6), none⟩ <|
 .cons ⟨(some 40), .indexAddr 5 (t 38) (t 39), none⟩ <|
 .cons ⟨(some 41), .fieldAddr 0 (t 40), none⟩ <|
 .cons ⟨(some 42), .loadN 2 (t 41), none⟩ <|
 .cons ⟨(some 43), .eqAgg true [.s, .i] (t 37) (t 42), none⟩ <|
 .cons ⟨(some 44), .move (t 43), none⟩ <|
 .cons ⟨(some 45), .fieldAddr 2 (t 7), (some (44, false))⟩ <|
 .cons ⟨(some 46), .loadN 3 (t 45), (some (44, false))⟩ <|
 .cons ⟨(some 47), .move (t 1), (some (44, false))⟩ <|
 .cons ⟨(some 48), .move (t 6), (some (44, false))⟩ <|
 .cons ⟨(some 49), .indexAddr 5 (t 47) (t 48), (some (44, false))⟩ <|
 .cons ⟨(some 50), .fieldAddr 2 (t 49), (some (44, false))⟩ <|
 .cons ⟨(some 51), .loadN 3 (t 50), (some (44, false))⟩ <|
 .cons ⟨(some 52), .eqAgg true [.i, .s, .i] (t 46) (t 51), (some (44, false))⟩ <|
 .cons ⟨(some 53), .pick (t 44) (.const (.bool true)) (t 52), none⟩ <|
 .nil)
 (.cond (t 53) (.seq (.reg false <|
 .cons ⟨(some 4), .move (.const (.bool false)), none⟩ <|
 .nil)
 .ret) .skip))))
 (.reg false <|
 .cons ⟨(some 54), .bin .add (t 31) (.const (.int .i64 1)), none⟩ <|
 .cons ⟨(some 31), .move (t 54), none⟩ <|
 .nil)))))))
 (.seq (.reg false <|
 .cons ⟨(some 4), .move (.const (.bool true)), none⟩ <|
 .nil)
 .ret)))))
theorem c_kedgelaw10_same : compileC Try.prog 55 (bodyOf Try.f16) = k_kedgelaw10_same := by kernel_rfl
theorem s_kedgelaw10_same {args : List Value} {w : World} {R : Value → World → Prop} (ha : Nat.ble args.length 55 = true) (h : codeK Try.prog k_kedgelaw10_same (retK [.tmp 4] R) (startEnv args) w) : K.Spec Try.prog F.kedgelaw10_same args w R :=
  calls_sound mixed Try.func16 rfl rfl (by kernel_rfl) c_kedgelaw10_same (Nat.le_of_ble_eq_true ha) h
/-- kedge/kedgelaw10.wakes -/
noncomputable def k_kedgelaw10_wakes : KC :=
(.seq (.reg false <|
 .cons ⟨(some 0), .move (.const (.bool false)), none⟩ <|
 .nil)
 (.seq (.reg false <|
 .cons ⟨(some 9), .call 7 [], none⟩ <|
 .cons ⟨(some 1), .move (t 9), none⟩ <|
 .nil)
 (.seq (.reg false <|
 .cons ⟨(some 10), .call 23 [(.const (.int .i64 1))], none⟩ <|
 .cons ⟨(some 11), .build [(.string ⟨#[]⟩), (.int .u32 0)] [(0, 1, (t 10))], none⟩ <|
 .cons ⟨(some 2), .alloc 28 [(.string ⟨#[]⟩), (.int .u32 0)], none⟩ <|
 .cons ⟨none, .storeN 2 (t 2) (t 11), none⟩ <|
 .nil)
 (.seq (.reg false <|
 .cons ⟨(some 12), .move (t 1), none⟩ <|
 .cons ⟨(some 13), .loadN 2 (t 2), none⟩ <|
 .cons ⟨(some 14), .build [(.int .i64 0), (.string ⟨#[]⟩)] [(0, 1, (.const (.int .i64 5)))], none⟩ <|
 .cons ⟨(some 15), .build [(.int .i64 0), (.string ⟨#[]⟩), (.int .i64 0)] [(0, 2, (t 14))], none⟩ <|
 .cons ⟨(some 16), .call 13 [(t 12), (t 13), (t 15)], none⟩ <|
 .cons ⟨(some 3), .move (t 16), none⟩ <|
 .nil)
 (.seq (.reg false <|
 .cons ⟨(some 17), .move (t 1), none⟩ <|
 .cons ⟨(some 18), .call 20 [(t 17)], none⟩ <|
 .cons ⟨(some 4), .move (t 18), none⟩ <|
 .nil)
 (.seq (.reg false <|
 .cons ⟨(some 20), .move (t 1), none⟩ <|
 .cons ⟨(some 21), .loadN 2 (t 2), none⟩ <|
 .cons ⟨(some 22), .call 9 [(t 20), (t 21)], none⟩ <|
 .cons ⟨(some 19), .move (t 22), none⟩ <|
 .cons ⟨(some 23), .extract 0 (t 19), none⟩ <|
 .cons ⟨(some 24), .extract 1 (t 19), none⟩ <|
 .cons ⟨(some 5), .alloc 35 [(.int .i64 0), (.string ⟨#[]⟩), (.int .i64 0)], none⟩ <|
 .cons ⟨none, .storeN 3 (t 5) (t 23), none⟩ <|
 .cons ⟨(some 6), .move (t 24), none⟩ <|
 .nil)
 (.seq (.reg false <|
 .cons ⟨(some 26), .move (t 1), none⟩ <|
 .cons ⟨(some 27), .loadN 2 (t 2), none⟩ <|
 .cons ⟨(some 28), .call 9 [(t 26), (t 27)], none⟩ <|
 .cons ⟨(some 25), .move (t 28), none⟩ <|
 .cons ⟨(some 29), .extract 0 (t 25), none⟩ <|
 .cons ⟨(some 30), .extract 1 (t 25), none⟩ <|
 .cons ⟨(some 7), .alloc 35 [(.int .i64 0), (.string ⟨#[]⟩), (.int .i64 0)], none⟩ <|
 .cons ⟨none, .storeN 3 (t 7) (t 29), none⟩ <|
 .cons ⟨(some 8), .move (t 30), none⟩ <|
 .nil)
 (.seq (.reg false <|
 .cons ⟨(some 31), .move (t 3), none⟩ <|
 .cons ⟨(some 32), .bin .eql (t 31) (.const (.int .i64 0)), none⟩ <|
 .cons ⟨(some 33), .move (t 32), none⟩ <|
 .cons ⟨(some 34), .move (t 4), (some (33, true))⟩ <|
 .cons ⟨(some 35), .bin .eql (t 34) (.const (.int .i64 5)), (some (33, true))⟩ <|
 .cons ⟨(some 36), .pick (t 33) (t 35) (.const (.bool false)), none⟩ <|
 .cons ⟨(some 37), .move (t 36), none⟩ <|
 .cons ⟨(some 38), .move (t 6), (some (37, true))⟩ <|
 .cons ⟨(some 39), .bin .eql (t 38) (.const (.int .i64 0)), (some (37, true))⟩ <|
 .cons ⟨(some 40), .pick (t 37) (t 39) (.const (.bool false)), none⟩ <|
 .cons ⟨(some 41), .move (t 40), none⟩ <|
 .cons ⟨(some 42), .fieldAddr 0 (t 5), (some (41, true))⟩ <|
 .cons ⟨(some 43), .fieldAddr 0 (t 42), (some (41, true))⟩ <|
 .cons ⟨(some 44), .load (t 43), (some (41, true))⟩ <|
 .cons ⟨(some 45), .bin .eql (t 44) (.const (.int .i64 5)), (some (41, true))⟩ <|
 .cons ⟨(some 46), .pick (t 41) (t 45) (.const (.bool false)), none⟩ <|
 .cons ⟨(some 47), .move (t 46), none⟩ <|
 .cons ⟨(some 48), .move (t 8), (some (47, true))⟩ <|
 .cons ⟨(some 49), .bin .eql (t 48) (.const (.int .i64 8)), (some (47, true))⟩ <|
 .cons ⟨(some 50), .pick (t 47) (t 49) (.const (.bool false)), none⟩ <|
 .cons ⟨(some 51), .move (t 50), none⟩ <|
 .cons ⟨(some 52), .move (t 1), (some (51, true))⟩ <|
 .cons ⟨(some 53), .call 21 [(t 52)], (some (51, true))⟩ <|
 .cons ⟨(some 54), .bin .eql (t 53) (.const (.int .i64 0)), (some (51, true))⟩ <|
 .cons ⟨(some 55), .pick (t 51) (t 54) (.const (.bool false)), none⟩ <|
 .cons ⟨(some 0), .move (t 55), none⟩ <|
 .nil)
 .ret))))))))
theorem c_kedgelaw10_wakes : compileC Try.prog 56 (bodyOf Try.f17) = k_kedgelaw10_wakes := by kernel_rfl
theorem s_kedgelaw10_wakes {args : List Value} {w : World} {R : Value → World → Prop} (ha : Nat.ble args.length 56 = true) (h : codeK Try.prog k_kedgelaw10_wakes (retK [.tmp 0] R) (startEnv args) w) : K.Spec Try.prog F.kedgelaw10_wakes args w R :=
  calls_sound mixed Try.func17 rfl rfl (by kernel_rfl) c_kedgelaw10_wakes (Nat.le_of_ble_eq_true ha) h
/-- (*kedge/coins.Set).All -/
noncomputable def k_coins_Set_All : KC :=
(.seq (.reg false <|
 .cons ⟨(some 2), .move (.const (.slice none 0 0)), none⟩ <|
 .nil)
 (.seq (.seq (.reg false <|
 .cons ⟨(some 6), .move (t 0), none⟩ <|
 .cons ⟨(some 7), .eqNil false .pointer (t 6) (.const (.pointer none)), none⟩ <|
 .nil)
 (.cond (t 7) (.seq (.reg false <|
 .cons ⟨(some 2), .move (.const (.slice none 0 0)), none⟩ <|
 .nil)
 .ret) .skip))
 (.seq (.reg false <|
 .cons ⟨(some 3), .move (.const (.slice none 0 0)), none⟩ <|
 .nil)
 (.seq (.seq (.reg false <|
 .cons ⟨(some 8), .move (t 0), none⟩ <|
 .cons ⟨(some 9), .nilCheck (t 8), none⟩ <|
 .cons ⟨(some 10), .fieldAddr 0 (t 9), none⟩ <|
 .cons ⟨(some 11), .load (t 10), none⟩ <|
 .cons ⟨(some 12), .rangeMap (t 11), none⟩ <|
 .nil)
 (.block 0 (.loop (.seq (.reg false <|
 .cons ⟨(some 13), .nextMap (t 12), none⟩ <|
 .cons ⟨(some 14), .extract 0 (t 13), none⟩ <|
 .nil)
 (.seq (.cond (t 14) .skip (.exit 0))
 (.block 1 (.seq (.reg false <|
 .cons ⟨(some 15), .entry (t 12), none⟩ <|
 .cons ⟨(some 16), .extract 0 (t 15), none⟩ <|
 .cons ⟨(some 17), .extract 1 (t 15), none⟩ <|
 .cons ⟨(some 4), .alloc 28 [(.string ⟨#[]⟩), (.int .u32 0)], none⟩ <|
 .cons ⟨(some 5), .alloc 35 [(.int .i64 0), (.string ⟨#[]⟩), (.int .i64 0)], none⟩ <|
 .cons ⟨none, .storeN 2 (t 4) (t 16), none⟩ <|
 .cons ⟨none, .storeN 3 (t 5) (t 17), none⟩ <|
 .nil)
 (.reg false <|
 .cons ⟨(some 18), .move (t 3), none⟩ <|
 .cons ⟨(some 19), .loadN 2 (t 4), none⟩ <|
 .cons ⟨(some 20), .loadN 3 (t 5), none⟩ <|
 .cons ⟨(some 21), .build [(.string ⟨#[]⟩), (.int .u32 0), (.int .i64 0), (.string ⟨#[]⟩), (.int .i64 0)] [(0, 2, (t 19)), (2, 3, (t 20))], none⟩ <|
 .cons ⟨(some 22), .buildSlice 55 1 [(.string ⟨#[]⟩), (.int .u32 0), (.int .i64 0), (.string ⟨#[]⟩), (.int .i64 0)] [(0, 5, (t 21))], none⟩ <|
 .cons ⟨(some 23), .append 55 5 56 [(.string ⟨#[]⟩), (.int .u32 0), (.int .i64 0), (.string ⟨#[]⟩), (.int .i64 0)] (t 18) (t 22), none⟩ <|
 .cons ⟨(some 3), .move (t 23), none⟩ <|
 .nil))))))))
 (.seq (.reg false <|
 .cons ⟨(some 24), .move (t 3), none⟩ <|
 .cons ⟨(some 25), .call 29 [(t 24), (.func 30)], none⟩ <|
 .nil)
 (.seq (.reg false <|
 .cons ⟨(some 26), .move (t 3), none⟩ <|
 .cons ⟨(some 2), .move (t 26), none⟩ <|
 .nil)
 .ret))))))
theorem c_coins_Set_All : compileC Try.prog 27 (bodyOf Try.f18) = k_coins_Set_All := by kernel_rfl
theorem s_coins_Set_All {args : List Value} {w : World} {R : Value → World → Prop} (ha : Nat.ble args.length 27 = true) (h : codeK Try.prog k_coins_Set_All (retK [.tmp 2] R) (startEnv args) w) : K.Spec Try.prog F.coins_Set_All args w R :=
  calls_sound mixed Try.func18 rfl rfl (by kernel_rfl) c_coins_Set_All (Nat.le_of_ble_eq_true ha) h
/-- kedge/kedgeref05.Less -/
noncomputable def k_kedgeref05_Less : KC :=
(.seq (.reg false <|
 .cons ⟨(some 2), .box 28 (t 0), none⟩ <|
 .cons ⟨(some 3), .box 28 (t 1), none⟩ <|
 .cons ⟨(some 4), .move (.const (.bool false)), none⟩ <|
 .nil)
 (.seq (.seq (.reg false <|
 .cons ⟨(some 5), .fieldAddr 0 (t 2), none⟩ <|
 .cons ⟨(some 6), .load (t 5), none⟩ <|
 .cons ⟨(some 7), .fieldAddr 0 (t 3), none⟩ <|
 .cons ⟨(some 8), .load (t 7), none⟩ <|
 .cons ⟨(some 9), .bin .eql (t 6) (t 8), none⟩ <|
 .nil)
 (.cond (t 9) (.seq (.reg false <|
 .cons ⟨(some 10), .fieldAddr 1 (t 2), none⟩ <|
 .cons ⟨(some 11), .load (t 10), none⟩ <|
 .cons ⟨(some 12), .fieldAddr 1 (t 3), none⟩ <|
 .cons ⟨(some 13), .load (t 12), none⟩ <|
 .cons ⟨(some 14), .bin .lss (t 11) (t 13), none⟩ <|
 .cons ⟨(some 4), .move (t 14), none⟩ <|
 .nil)
 .ret) .skip))
 (.seq (.reg false <|
 .cons ⟨(some 15), .fieldAddr 0 (t 2), none⟩ <|
 .cons ⟨(some 16), .load (t 15), none⟩ <|
 .cons ⟨(some 17), .fieldAddr 0 (t 3), none⟩ <|
 .cons ⟨(some 18), .load (t 17), none⟩ <|
 .cons ⟨(some 19), .bin .lss (t 16) (t 18), none⟩ <|
 .cons ⟨(some 4), .move (t 19), none⟩ <|
 .nil)
 .ret)))
theorem c_kedgeref05_Less : compileC Try.prog 20 (bodyOf Try.f19) = k_kedgeref05_Less := by kernel_rfl
theorem s_kedgeref05_Less {args : List Value} {w : World} {R : Value → World → Prop} (ha : Nat.ble args.length 20 = true) (h : codeK Try.prog k_kedgeref05_Less (retK [.tmp 4] R) (startEnv args) w) : K.Spec Try.prog F.kedgeref05_Less args w R :=
  calls_sound mixed Try.func19 rfl rfl (by kernel_rfl) c_kedgeref05_Less (Nat.le_of_ble_eq_true ha) h
/-- (*kedge/coins.Set).Total -/
noncomputable def k_coins_Set_Total : KC :=
(.seq (.reg false <|
 .cons ⟨(some 2), .move (.const (.int .i64 0)), none⟩ <|
 .nil)
 (.seq (.seq (.reg false <|
 .cons ⟨(some 3), .move (t 0), none⟩ <|
 .cons ⟨(some 4), .eqNil false .pointer (t 3) (.const (.pointer none)), none⟩ <|
 .nil)
 (.cond (t 4) (.seq (.reg false <|
 .cons ⟨(some 2), .move (.const (.int .i64 0)), none⟩ <|
 .nil)
 .ret) .skip))
 (.seq (.reg false <|
 .cons ⟨(some 5), .move (t 0), none⟩ <|
 .cons ⟨(some 6), .nilCheck (t 5), none⟩ <|
 .cons ⟨(some 7), .fieldAddr 1 (t 6), none⟩ <|
 .cons ⟨(some 8), .load (t 7), none⟩ <|
 .cons ⟨(some 2), .move (t 8), none⟩ <|
 .nil)
 .ret)))
theorem c_coins_Set_Total : compileC Try.prog 9 (bodyOf Try.f20) = k_coins_Set_Total := by kernel_rfl
theorem s_coins_Set_Total {args : List Value} {w : World} {R : Value → World → Prop} (ha : Nat.ble args.length 9 = true) (h : codeK Try.prog k_coins_Set_Total (retK [.tmp 2] R) (startEnv args) w) : K.Spec Try.prog F.coins_Set_Total args w R :=
  calls_sound mixed Try.func20 rfl rfl (by kernel_rfl) c_coins_Set_Total (Nat.le_of_ble_eq_true ha) h
/-- (*kedge/coins.Set).Len -/
noncomputable def k_coins_Set_Len : KC :=
(.seq (.reg false <|
 .cons ⟨(some 2), .move (.const (.int .i64 0)), none⟩ <|
 .nil)
 (.seq (.seq (.reg false <|
 .cons ⟨(some 3), .move (t 0), none⟩ <|
 .cons ⟨(some 4), .eqNil false .pointer (t 3) (.const (.pointer none)), none⟩ <|
 .nil)
 (.cond (t 4) (.seq (.reg false <|
 .cons ⟨(some 2), .move (.const (.int .i64 0)), none⟩ <|
 .nil)
 .ret) .skip))
 (.seq (.reg false <|
 .cons ⟨(some 5), .move (t 0), none⟩ <|
 .cons ⟨(some 6), .nilCheck (t 5), none⟩ <|
 .cons ⟨(some 7), .fieldAddr 0 (t 6), none⟩ <|
 .cons ⟨(some 8), .load (t 7), none⟩ <|
 .cons ⟨(some 9), .lenMap (t 8), none⟩ <|
 .cons ⟨(some 2), .move (t 9), none⟩ <|
 .nil)
 .ret)))
theorem c_coins_Set_Len : compileC Try.prog 10 (bodyOf Try.f21) = k_coins_Set_Len := by kernel_rfl
theorem s_coins_Set_Len {args : List Value} {w : World} {R : Value → World → Prop} (ha : Nat.ble args.length 10 = true) (h : codeK Try.prog k_coins_Set_Len (retK [.tmp 2] R) (startEnv args) w) : K.Spec Try.prog F.coins_Set_Len args w R :=
  calls_sound mixed Try.func21 rfl rfl (by kernel_rfl) c_coins_Set_Len (Nat.le_of_ble_eq_true ha) h
/-- (*kedge/coins.Set).Copy -/
noncomputable def k_coins_Set_Copy : KC :=
(.seq (.reg false <|
 .cons ⟨(some 2), .move (.const (.pointer none)), none⟩ <|
 .nil)
 (.seq (.seq (.reg false <|
 .cons ⟨(some 3), .move (t 0), none⟩ <|
 .cons ⟨(some 4), .eqNil false .pointer (t 3) (.const (.pointer none)), none⟩ <|
 .nil)
 (.cond (t 4) (.seq (.reg false <|
 .cons ⟨(some 2), .move (.const (.pointer none)), none⟩ <|
 .nil)
 .ret) .skip))
 (.seq (.reg true <|
 .cons ⟨(some 5), .move (t 0), none⟩ <|
 .cons ⟨(some 6), .nilCheck (t 5), none⟩ <|
 .cons ⟨(some 7), .fieldAddr 0 (t 6), none⟩ <|
 .cons ⟨(some 8), .load (t 7), none⟩ <|
 .cons ⟨(some 10), .move (t 0), none⟩ <|
 .cons ⟨(some 11), .nilCheck (t 10), none⟩ <|
 .cons ⟨(some 12), .fieldAddr 1 (t 11), none⟩ <|
 .both (.cons ⟨(some 9), .call 31 [(t 8)], none⟩ <|
 .cons ⟨(some 13), .load (t 12), none⟩ <|
 .cons ⟨(some 14), .build [(.map none), (.int .i64 0)] [(0, 1, (t 9)), (1, 1, (t 13))], none⟩ <|
 .cons ⟨(some 15), .box 62 (t 14), none⟩ <|
 .cons ⟨(some 2), .move (t 15), none⟩ <|
 .nil)
 (.cons ⟨(some 13), .load (t 12), none⟩ <|
 .cons ⟨(some 9), .call 31 [(t 8)], none⟩ <|
 .cons ⟨(some 14), .build [(.map none), (.int .i64 0)] [(0, 1, (t 9)), (1, 1, (t 13))], none⟩ <|
 .cons ⟨(some 15), .box 62 (t 14), none⟩ <|
 .cons ⟨(some 2), .move (t 15), none⟩ <|
 .nil))
 .ret)))
theorem c_coins_Set_Copy : compileC Try.prog 16 (bodyOf Try.f22) = k_coins_Set_Copy := by kernel_rfl
theorem s_coins_Set_Copy {args : List Value} {w : World} {R : Value → World → Prop} (ha : Nat.ble args.length 16 = true) (h : codeK Try.prog k_coins_Set_Copy (retK [.tmp 2] R) (startEnv args) w) : K.Spec Try.prog F.coins_Set_Copy args w R :=
  calls_sound mixed Try.func22 rfl rfl (by kernel_rfl) c_coins_Set_Copy (Nat.le_of_ble_eq_true ha) h
/-- kedge/kedgeref05.ID -/
noncomputable def k_kedgeref05_ID : KC :=
(.seq (.reg false <|
 .cons ⟨(some 2), .move (.const (.string ⟨#[]⟩)), none⟩ <|
 .nil)
 (.seq (.reg false <|
 .cons ⟨(some 3), .move (.const (.string ⟨#[]⟩)), none⟩ <|
 .nil)
 (.seq (.seq (.reg false <|
 .cons ⟨(some 4), .move (.const (.int .i64 0)), none⟩ <|
 .nil)
 (.block 0 (.loop (.seq (.seq (.reg false <|
 .cons ⟨(some 5), .move (t 4), none⟩ <|
 .cons ⟨(some 6), .bin .lss (t 5) (.const (.int .i64 32)), none⟩ <|
 .nil)
 (.cond (t 6) .skip (.exit 0)))
 (.seq (.block 1 (.reg false <|
 .cons ⟨(some 9), .move (t 3), none⟩ <|
 .cons ⟨(some 10), .move (t 0), none⟩ <|
 .cons ⟨(some 11), .move (t 4), none⟩ <|
 .cons ⟨(some 12), .bin .rem (t 11) (.const (.int .i64 8)), none⟩ <|
 .cons ⟨(some 13), .bin .shr (t 10) (t 12), none⟩ <|
 .cons ⟨(some 14), .conv .u8 (t 13), none⟩ <|
 .cons ⟨(some 15), .move (t 4), none⟩ <|
 .cons ⟨(some 16), .conv .u8 (t 15), none⟩ <|
 .cons ⟨(some 17), .bin .xor (t 14) (t 16), none⟩ <|
 .cons ⟨(some 18), .buildSlice 5 1 [(.int .u8 0)] [(0, 1, (t 17))], none⟩ <|
 .cons ⟨(some 19), .strOf (t 18), none⟩ <|
 .cons ⟨(some 20), .bin .add (t 9) (t 19), none⟩ <|
 .cons ⟨(some 3), .move (t 20), none⟩ <|
 .nil))
 (.reg false <|
 .cons ⟨(some 7), .move (t 4), none⟩ <|
 .cons ⟨(some 8), .bin .add (t 7) (.const (.int .i64 1)), none⟩ <|
 .cons ⟨(some 4), .move (t 8), none⟩ <|
 .nil))))))
 (.seq (.reg false <|
 .cons ⟨(some 21), .move (t 3), none⟩ <|
 .cons ⟨(some 2), .move (t 21), none⟩ <|
 .nil)
 .ret))))
theorem c_kedgeref05_ID : compileC Try.prog 22 (bodyOf Try.f23) = k_kedgeref05_ID := by kernel_rfl
theorem s_kedgeref05_ID {args : List Value} {w : World} {R : Value → World → Prop} (ha : Nat.ble args.length 22 = true) (h : codeK Try.prog k_kedgeref05_ID (retK [.tmp 2] R) (startEnv args) w) : K.Spec Try.prog F.kedgeref05_ID args w R :=
  calls_sound mixed Try.func23 rfl rfl (by kernel_rfl) c_kedgeref05_ID (Nat.le_of_ble_eq_true ha) h
/-- kedge/kedgeref10.same -/
noncomputable def k_kedgeref10_same : KC :=
(.seq (.reg false <|
 .cons ⟨(some 2), .box 28 (t 0), none⟩ <|
 .cons ⟨(some 3), .box 28 (t 1), none⟩ <|
 .cons ⟨(some 4), .move (.const (.bool false)), none⟩ <|
 .nil)
 (.seq (.reg false <|
 .cons ⟨(some 5), .fieldAddr 0 (t 2), none⟩ <|
 .cons ⟨(some 6), .load (t 5), none⟩ <|
 .cons ⟨(some 7), .fieldAddr 0 (t 3), none⟩ <|
 .cons ⟨(some 8), .load (t 7), none⟩ <|
 .cons ⟨(some 9), .bin .eql (t 6) (t 8), none⟩ <|
 .cons ⟨(some 10), .move (t 9), none⟩ <|
 .cons ⟨(some 11), .fieldAddr 1 (t 2), (some (10, true))⟩ <|
 .cons ⟨(some 12), .load (t 11), (some (10, true))⟩ <|
 .cons ⟨(some 13), .fieldAddr 1 (t 3), (some (10, true))⟩ <|
 .cons ⟨(some 14), .load (t 13), (some (10, true))⟩ <|
 .cons ⟨(some 15), .bin .eql (t 12) (t 14), (some (10, true))⟩ <|
 .cons ⟨(some 16), .pick (t 10) (t 15) (.const (.bool false)), none⟩ <|
 .cons ⟨(some 4), .move (t 16), none⟩ <|
 .nil)
 .ret))
theorem c_kedgeref10_same : compileC Try.prog 17 (bodyOf Try.f24) = k_kedgeref10_same := by kernel_rfl
theorem s_kedgeref10_same {args : List Value} {w : World} {R : Value → World → Prop} (ha : Nat.ble args.length 17 = true) (h : codeK Try.prog k_kedgeref10_same (retK [.tmp 4] R) (startEnv args) w) : K.Spec Try.prog F.kedgeref10_same args w R :=
  calls_sound mixed Try.func24 rfl rfl (by kernel_rfl) c_kedgeref10_same (Nat.le_of_ble_eq_true ha) h
/-- kedge/coins.formed -/
noncomputable def k_coins_formed : KC :=
(.seq (.reg false <|
 .cons ⟨(some 2), .box 28 (t 0), none⟩ <|
 .cons ⟨(some 3), .box 35 (t 1), none⟩ <|
 .cons ⟨(some 4), .move (.const (.bool false)), none⟩ <|
 .nil)
 (.seq (.reg false <|
 .cons ⟨(some 5), .fieldAddr 0 (t 2), none⟩ <|
 .cons ⟨(some 6), .load (t 5), none⟩ <|
 .cons ⟨(some 7), .len true (t 6), none⟩ <|
 .cons ⟨(some 8), .bin .eql (t 7) (.const (.int .i64 32)), none⟩ <|
 .cons ⟨(some 9), .move (t 8), none⟩ <|
 .cons ⟨(some 10), .fieldAddr 2 (t 3), (some (9, true))⟩ <|
 .cons ⟨(some 11), .load (t 10), (some (9, true))⟩ <|
 .cons ⟨(some 12), .bin .geq (t 11) (.const (.int .i64 0)), (some (9, true))⟩ <|
 .cons ⟨(some 13), .pick (t 9) (t 12) (.const (.bool false)), none⟩ <|
 .cons ⟨(some 14), .move (t 13), none⟩ <|
 .cons ⟨(some 15), .fieldAddr 2 (t 3), (some (14, true))⟩ <|
 .cons ⟨(some 16), .load (t 15), (some (14, true))⟩ <|
 .cons ⟨(some 17), .bin .leq (t 16) (.const (.int .i64 1000000)), (some (14, true))⟩ <|
 .cons ⟨(some 18), .pick (t 14) (t 17) (.const (.bool false)), none⟩ <|
 .cons ⟨(some 19), .move (t 18), none⟩ <|
 .cons ⟨(some 20), .fieldAddr 0 (t 3), (some (19, true))⟩ <|
 .cons ⟨(some 21), .fieldAddr 0 (t 20), (some (19, true))⟩ <|
 .cons ⟨(some 22), .load (t 21), (some (19, true))⟩ <|
 .cons ⟨(some 23), .call 32 [(t 22)], (some (19, true))⟩ <|
 .cons ⟨(some 24), .pick (t 19) (t 23) (.const (.bool false)), none⟩ <|
 .cons ⟨(some 4), .move (t 24), none⟩ <|
 .nil)
 .ret))
theorem c_coins_formed : compileC Try.prog 25 (bodyOf Try.f25) = k_coins_formed := by kernel_rfl
theorem s_coins_formed {args : List Value} {w : World} {R : Value → World → Prop} (ha : Nat.ble args.length 25 = true) (h : codeK Try.prog k_coins_formed (retK [.tmp 4] R) (startEnv args) w) : K.Spec Try.prog F.coins_formed args w R :=
  calls_sound mixed Try.func25 rfl rfl (by kernel_rfl) c_coins_formed (Nat.le_of_ble_eq_true ha) h
/-- kedge/amount.Add -/
noncomputable def k_amount_Add : KC :=
(.seq (.reg false <|
 .cons ⟨(some 4), .move (.const (.int .i64 0)), none⟩ <|
 .cons ⟨(some 5), .move (.const (.int .i64 0)), none⟩ <|
 .nil)
 (.seq (.seq (.reg false <|
 .cons ⟨(some 6), .move (t 0), none⟩ <|
 .cons ⟨(some 7), .call 32 [(t 6)], none⟩ <|
 .cons ⟨(some 8), .not (t 7), none⟩ <|
 .cons ⟨(some 9), .move (t 8), none⟩ <|
 .cons ⟨(some 10), .move (t 1), (some (9, false))⟩ <|
 .cons ⟨(some 11), .call 32 [(t 10)], (some (9, false))⟩ <|
 .cons ⟨(some 12), .not (t 11), (some (9, false))⟩ <|
 .cons ⟨(some 13), .pick (t 9) (.const (.bool true)) (t 12), none⟩ <|
 .cons ⟨(some 14), .move (t 13), none⟩ <|
 .cons ⟨(some 15), .move (t 0), (some (14, false))⟩ <|
 .cons ⟨(some 16), .move (t 1), (some (14, false))⟩ <|
 .cons ⟨(some 17), .bin .add (t 15) (t 16), (some (14, false))⟩ <|
 .cons ⟨(some 18), .call 32 [(t 17)], (some (14, false))⟩ <|
 .cons ⟨(some 19), .not (t 18), (some (14, false))⟩ <|
 .cons ⟨(some 20), .pick (t 14) (.const (.bool true)) (t 19), none⟩ <|
 .nil)
 (.cond (t 20) (.seq (.reg false <|
 .cons ⟨(some 4), .move (.const (.int .i64 0)), none⟩ <|
 .cons ⟨(some 5), .move (.const (.int .i64 3)), none⟩ <|
 .nil)
 .ret) .skip))
 (.seq (.reg false <|
 .cons ⟨(some 21), .move (t 0), none⟩ <|
 .cons ⟨(some 22), .move (t 1), none⟩ <|
 .cons ⟨(some 23), .bin .add (t 21) (t 22), none⟩ <|
 .cons ⟨(some 4), .move (t 23), none⟩ <|
 .cons ⟨(some 5), .move (.const (.int .i64 0)), none⟩ <|
 .nil)
 .ret)))
theorem c_amount_Add : compileC Try.prog 24 (bodyOf Try.f26) = k_amount_Add := by kernel_rfl
theorem s_amount_Add {args : List Value} {w : World} {R : Value → World → Prop} (ha : Nat.ble args.length 24 = true) (h : codeK Try.prog k_amount_Add (retK [.tmp 4, .tmp 5] R) (startEnv args) w) : K.Spec Try.prog F.amount_Add args w R :=
  calls_sound mixed Try.func26 rfl rfl (by kernel_rfl) c_amount_Add (Nat.le_of_ble_eq_true ha) h
/-- kedge/kedgeref01.Good -/
noncomputable def k_kedgeref01_Good : KC :=
(.seq (.reg false <|
 .cons ⟨(some 2), .move (.const (.bool false)), none⟩ <|
 .nil)
 (.seq (.reg false <|
 .cons ⟨(some 3), .move (t 0), none⟩ <|
 .cons ⟨(some 4), .bin .geq (t 3) (.const (.int .i64 0)), none⟩ <|
 .cons ⟨(some 5), .move (t 4), none⟩ <|
 .cons ⟨(some 6), .move (t 0), (some (5, true))⟩ <|
 .cons ⟨(some 7), .bin .leq (t 6) (.const (.int .i64 2100000000000000)), (some (5, true))⟩ <|
 .cons ⟨(some 8), .pick (t 5) (t 7) (.const (.bool false)), none⟩ <|
 .cons ⟨(some 2), .move (t 8), none⟩ <|
 .nil)
 .ret))
theorem c_kedgeref01_Good : compileC Try.prog 9 (bodyOf Try.f27) = k_kedgeref01_Good := by kernel_rfl
theorem s_kedgeref01_Good {args : List Value} {w : World} {R : Value → World → Prop} (ha : Nat.ble args.length 9 = true) (h : codeK Try.prog k_kedgeref01_Good (retK [.tmp 2] R) (startEnv args) w) : K.Spec Try.prog F.kedgeref01_Good args w R :=
  calls_sound mixed Try.func27 rfl rfl (by kernel_rfl) c_kedgeref01_Good (Nat.le_of_ble_eq_true ha) h
end Go.Proofs.Ytfpdfjfjmockbaa
