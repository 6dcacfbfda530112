/- The resolved code of functions, printed by program. -/
import Derived.Test.YtfeifodeaphbjaaGreatH15
set_option linter.unusedVariables false
set_option linter.unusedSimpArgs false
section
namespace Go.Proofs.YtfeifodeaphbjaaGreat
open Go Go.K
noncomputable def k_kedgelaw15_LimitFits : KC :=
(.seq (.reg false <| oR 3 (.box 72 (t 0))<| oR 6 (.move (.const (.bool false)))<| .nil) (.seq (.reg false <| oK 13 4 3<|
 oR 14 (.call 31 [(t 13), (.const (.bool false))])<| oM 12 14<| oX 15 0 12<| oX 16 1 12<| oM 7 15<| oM 8 16<| .nil) (.seq (.seq (.reg false <| oM 17 1<|
 oR 18 (.buildSlice 5 1 [(.int .u8 0)] [(0, 1, (t 17))])<|
 oR 19 (.build [(.slice none 0 0), (.int .u8 0), (.int .u8 0), (.int .i64 0), (.int .u8 0), (.int .u8 0)] [(0, 1, (t 18)), (4, 1, (.const (.int .u8 200)))])<| oM 20 1<|
 oR 21 (.buildSlice 5 1 [(.int .u8 0)] [(0, 1, (t 20))])<| oM 22 2<|
 oR 23 (.build [(.slice none 0 0), (.int .u8 0), (.int .u8 0), (.int .i64 0), (.int .u8 0), (.int .u8 0)] [(0, 1, (t 21)), (4, 1, (.const (.int .u8 201))), (5, 1, (t 22))])<|
 oM 24 1<| oM 25 1<| oR 26 (.bin .add (t 25) (.const (.int .u8 1)))<| oR 27 (.buildSlice 5 2 [(.int .u8 0), (.int .u8 0)] [(0, 1, (t 24)), (1, 1, (t 26))])<|
 oR 28 (.build [(.slice none 0 0), (.int .u8 0), (.int .u8 0), (.int .i64 0), (.int .u8 0), (.int .u8 0)] [(0, 1, (t 27)), (1, 1, (.const (.int .u8 4))), (4, 1, (.const (.int .u8 202)))])<|
 oR 29 (.buildSlice 31 3 [(.slice none 0 0), (.int .u8 0), (.int .u8 0), (.int .i64 0), (.int .u8 0), (.int .u8 0), (.slice none 0 0), (.int .u8 0), (.int .u8 0), (.int .i64 0), (.int .u8 0), (.int .u8 0), (.slice none 0 0), (.int .u8 0), (.int .u8 0), (.int .i64 0), (.int .u8 0), (.int .u8 0)] [(0, 6, (t 19)), (6, 6, (t 23)), (12, 6, (t 28))])<|
 oD 30 29<| oO 31 0<| .nil) (.block 0 (.loop (.seq (.reg false <| oB 32 .lss 31 30<| .nil) (.seq (.cond (t 32) .skip (.exit 0)) (.seq (.block 1 (.seq (.reg false <|
 oI 33 6 29 31<| oK 34 6 33<| oR 10 (.alloc 31 [(.slice none 0 0), (.int .u8 0), (.int .u8 0), (.int .i64 0), (.int .u8 0), (.int .u8 0)])<| oU 6 10 34<| .nil)
 (.seq (.reg false <| oM 35 8<| oK 36 6 10<| oR 37 (ob 32 35 36)<| oR 11 (.alloc 35 [(.int .u32 0), (.slice none 0 0), (.slice none 0 0), (.int .u32 0)])<|
 oU 4 11 37<| .nil) (.seq (.reg true <| .join (oM 38 7<| oK 39 4 11<| oM 41 8<| .both (oR 40 (ob 33 38 39)<| oK 42 4 11<| .nil) (oK 42 4 11<|
 oR 40 (ob 33 38 39)<| .nil)) <|oR 43 (ob 34 41 42)<| oB 44 .neq 40 43<| .nil) (.cond (t 44) (.seq (.reg false <|
 oR 6 (.move (.const (.bool false)))<| .nil) .ret) .skip))))) (.reg false <| oC 45 .add 31 1<| oM 31 45<| .nil))))))) (.seq (.reg false <| oR 46 (.call 35 [])<|
 oM 6 46<| .nil) .ret))))
theorem s_kedgelaw15_LimitFits : CS 47 k_kedgelaw15_LimitFits [.tmp 6] F.kedgelaw15_LimitFits :=
  cs Tryz.func5 (by kernel_rfl) (by kernel_rfl)
noncomputable def k_kedgelaw15_LimitAll : KC :=
(.seq (.reg false <| oR 3 (.box 72 (t 0))<| oR 4 (.box 35 (t 1))<| oR 6 (.move (.const (.bool false)))<| .nil) (.seq (.reg false <| oK 12 4 3<|
 oR 13 (.call 31 [(t 12), (.const (.bool true))])<| oM 11 13<| oX 14 0 11<| oX 15 1 11<| oM 7 14<| oM 8 15<| .nil) (.seq (.seq (.reg false <| oK 16 4 4<|
 oR 17 (.call 36 [(t 16), (oi 4)])<| oM 18 8<| oM 19 2<| oR 20 (.buildSlice 5 1 [(.int .u8 0)] [(0, 1, (t 19))])<|
 oR 21 (.build [(.slice none 0 0), (.int .u8 0), (.int .u8 0), (.int .i64 0), (.int .u8 0), (.int .u8 0)] [(0, 1, (t 20)), (4, 1, (.const (.int .u8 200)))])<|
 oR 22 (ob 32 18 21)<|
 oR 23 (.buildSlice 35 2 [(.int .u32 0), (.slice none 0 0), (.slice none 0 0), (.int .u32 0), (.int .u32 0), (.slice none 0 0), (.slice none 0 0), (.int .u32 0)] [(0, 4, (t 17)), (4, 4, (t 22))])<|
 oD 24 23<| oO 25 0<| .nil) (.block 0 (.loop (.seq (.reg false <| oB 26 .lss 25 24<| .nil) (.seq (.cond (t 26) .skip (.exit 0)) (.seq (.block 1 (.seq (.reg false <|
 oI 27 4 23 25<| oK 28 4 27<| oR 10 (.alloc 35 [(.int .u32 0), (.slice none 0 0), (.slice none 0 0), (.int .u32 0)])<| oU 4 10 28<| .nil)
 (.seq (.reg true <| .join (oM 29 7<| oK 30 4 10<| oM 32 8<| .both (oR 31 (ob 33 29 30)<| oK 33 4 10<| .nil) (oK 33 4 10<|
 oR 31 (ob 33 29 30)<| .nil)) <|oR 34 (ob 34 32 33)<| oB 35 .neq 31 34<| .nil) (.cond (t 35) (.seq (.reg false <|
 oR 6 (.move (.const (.bool false)))<| .nil) .ret) .skip)))) (.reg false <| oC 36 .add 25 1<| oM 25 36<| .nil))))))) (.seq (.reg false <| oR 37 (.call 35 [])<|
 oM 6 37<| .nil) .ret))))
theorem s_kedgelaw15_LimitAll : CS 38 k_kedgelaw15_LimitAll [.tmp 6] F.kedgelaw15_LimitAll :=
  cs Tryz.func6 (by kernel_rfl) (by kernel_rfl)
noncomputable def k_kedgelaw15_LimitCarves : KC :=
(.seq (.reg false <| oR 4 (.move (.const (.bool false)))<| .nil) (.seq (.reg false <| oR 15 (.call 13 [])<| oM 5 15<| .nil)
 (.seq (.reg true <| .join (.both (oR 16 (.call 37 [(oi 1)])<| oR 17 (.build [(.string ⟨#[]⟩), (.int .u32 0)] [(0, 1, (t 16))])<|
 oR 18 (.build [(.string ⟨#[]⟩), (.int .u32 0), (.int .u32 0), (.slice none 0 0)] [(0, 2, (t 17)), (2, 1, (.const (.int .u32 1)))])<| .both (oR 19 (.buildSlice 50 1 [(.string ⟨#[]⟩), (.int .u32 0), (.int .u32 0), (.slice none 0 0)] [(0, 4, (t 18))])<| .both (oR 20 (.makeSlice 58 2 24 [(.int .i64 0), (.string ⟨#[]⟩)] (oi 40) (oi 40))<|
 oR 21 (.build [(.int .u32 0), (.slice none 0 0), (.slice none 0 0), (.int .u32 0)] [(0, 1, (.const (.int .u32 2))), (1, 1, (t 19)), (2, 1, (t 20))])<|
 oR 6 (.alloc 35 [(.int .u32 0), (.slice none 0 0), (.slice none 0 0), (.int .u32 0)])<| .nil)
 (oR 6 (.alloc 35 [(.int .u32 0), (.slice none 0 0), (.slice none 0 0), (.int .u32 0)])<| oR 20 (.makeSlice 58 2 24 [(.int .i64 0), (.string ⟨#[]⟩)] (oi 40) (oi 40))<|
 oR 21 (.build [(.int .u32 0), (.slice none 0 0), (.slice none 0 0), (.int .u32 0)] [(0, 1, (.const (.int .u32 2))), (1, 1, (t 19)), (2, 1, (t 20))])<| .nil))
 (.both (oR 20 (.makeSlice 58 2 24 [(.int .i64 0), (.string ⟨#[]⟩)] (oi 40) (oi 40))<| .both (oR 19 (.buildSlice 50 1 [(.string ⟨#[]⟩), (.int .u32 0), (.int .u32 0), (.slice none 0 0)] [(0, 4, (t 18))])<|
 oR 21 (.build [(.int .u32 0), (.slice none 0 0), (.slice none 0 0), (.int .u32 0)] [(0, 1, (.const (.int .u32 2))), (1, 1, (t 19)), (2, 1, (t 20))])<|
 oR 6 (.alloc 35 [(.int .u32 0), (.slice none 0 0), (.slice none 0 0), (.int .u32 0)])<| .nil)
 (oR 6 (.alloc 35 [(.int .u32 0), (.slice none 0 0), (.slice none 0 0), (.int .u32 0)])<|
 oR 19 (.buildSlice 50 1 [(.string ⟨#[]⟩), (.int .u32 0), (.int .u32 0), (.slice none 0 0)] [(0, 4, (t 18))])<|
 oR 21 (.build [(.int .u32 0), (.slice none 0 0), (.slice none 0 0), (.int .u32 0)] [(0, 1, (.const (.int .u32 2))), (1, 1, (t 19)), (2, 1, (t 20))])<| .nil))
 (oR 6 (.alloc 35 [(.int .u32 0), (.slice none 0 0), (.slice none 0 0), (.int .u32 0)])<| .both (oR 19 (.buildSlice 50 1 [(.string ⟨#[]⟩), (.int .u32 0), (.int .u32 0), (.slice none 0 0)] [(0, 4, (t 18))])<|
 oR 20 (.makeSlice 58 2 24 [(.int .i64 0), (.string ⟨#[]⟩)] (oi 40) (oi 40))<|
 oR 21 (.build [(.int .u32 0), (.slice none 0 0), (.slice none 0 0), (.int .u32 0)] [(0, 1, (.const (.int .u32 2))), (1, 1, (t 19)), (2, 1, (t 20))])<| .nil)
 (oR 20 (.makeSlice 58 2 24 [(.int .i64 0), (.string ⟨#[]⟩)] (oi 40) (oi 40))<|
 oR 19 (.buildSlice 50 1 [(.string ⟨#[]⟩), (.int .u32 0), (.int .u32 0), (.slice none 0 0)] [(0, 4, (t 18))])<|
 oR 21 (.build [(.int .u32 0), (.slice none 0 0), (.slice none 0 0), (.int .u32 0)] [(0, 1, (.const (.int .u32 2))), (1, 1, (t 19)), (2, 1, (t 20))])<| .nil))))
 (.both (oR 20 (.makeSlice 58 2 24 [(.int .i64 0), (.string ⟨#[]⟩)] (oi 40) (oi 40))<| .both (oR 16 (.call 37 [(oi 1)])<|
 oR 17 (.build [(.string ⟨#[]⟩), (.int .u32 0)] [(0, 1, (t 16))])<|
 oR 18 (.build [(.string ⟨#[]⟩), (.int .u32 0), (.int .u32 0), (.slice none 0 0)] [(0, 2, (t 17)), (2, 1, (.const (.int .u32 1)))])<| .both (oR 19 (.buildSlice 50 1 [(.string ⟨#[]⟩), (.int .u32 0), (.int .u32 0), (.slice none 0 0)] [(0, 4, (t 18))])<|
 oR 21 (.build [(.int .u32 0), (.slice none 0 0), (.slice none 0 0), (.int .u32 0)] [(0, 1, (.const (.int .u32 2))), (1, 1, (t 19)), (2, 1, (t 20))])<|
 oR 6 (.alloc 35 [(.int .u32 0), (.slice none 0 0), (.slice none 0 0), (.int .u32 0)])<| .nil)
 (oR 6 (.alloc 35 [(.int .u32 0), (.slice none 0 0), (.slice none 0 0), (.int .u32 0)])<|
 oR 19 (.buildSlice 50 1 [(.string ⟨#[]⟩), (.int .u32 0), (.int .u32 0), (.slice none 0 0)] [(0, 4, (t 18))])<|
 oR 21 (.build [(.int .u32 0), (.slice none 0 0), (.slice none 0 0), (.int .u32 0)] [(0, 1, (.const (.int .u32 2))), (1, 1, (t 19)), (2, 1, (t 20))])<| .nil))
 (oR 6 (.alloc 35 [(.int .u32 0), (.slice none 0 0), (.slice none 0 0), (.int .u32 0)])<| oR 16 (.call 37 [(oi 1)])<|
 oR 17 (.build [(.string ⟨#[]⟩), (.int .u32 0)] [(0, 1, (t 16))])<|
 oR 18 (.build [(.string ⟨#[]⟩), (.int .u32 0), (.int .u32 0), (.slice none 0 0)] [(0, 2, (t 17)), (2, 1, (.const (.int .u32 1)))])<|
 oR 19 (.buildSlice 50 1 [(.string ⟨#[]⟩), (.int .u32 0), (.int .u32 0), (.slice none 0 0)] [(0, 4, (t 18))])<|
 oR 21 (.build [(.int .u32 0), (.slice none 0 0), (.slice none 0 0), (.int .u32 0)] [(0, 1, (.const (.int .u32 2))), (1, 1, (t 19)), (2, 1, (t 20))])<| .nil))
 (oR 6 (.alloc 35 [(.int .u32 0), (.slice none 0 0), (.slice none 0 0), (.int .u32 0)])<| .both (oR 16 (.call 37 [(oi 1)])<|
 oR 17 (.build [(.string ⟨#[]⟩), (.int .u32 0)] [(0, 1, (t 16))])<|
 oR 18 (.build [(.string ⟨#[]⟩), (.int .u32 0), (.int .u32 0), (.slice none 0 0)] [(0, 2, (t 17)), (2, 1, (.const (.int .u32 1)))])<| .both (oR 19 (.buildSlice 50 1 [(.string ⟨#[]⟩), (.int .u32 0), (.int .u32 0), (.slice none 0 0)] [(0, 4, (t 18))])<|
 oR 20 (.makeSlice 58 2 24 [(.int .i64 0), (.string ⟨#[]⟩)] (oi 40) (oi 40))<|
 oR 21 (.build [(.int .u32 0), (.slice none 0 0), (.slice none 0 0), (.int .u32 0)] [(0, 1, (.const (.int .u32 2))), (1, 1, (t 19)), (2, 1, (t 20))])<| .nil)
 (oR 20 (.makeSlice 58 2 24 [(.int .i64 0), (.string ⟨#[]⟩)] (oi 40) (oi 40))<|
 oR 19 (.buildSlice 50 1 [(.string ⟨#[]⟩), (.int .u32 0), (.int .u32 0), (.slice none 0 0)] [(0, 4, (t 18))])<|
 oR 21 (.build [(.int .u32 0), (.slice none 0 0), (.slice none 0 0), (.int .u32 0)] [(0, 1, (.const (.int .u32 2))), (1, 1, (t 19)), (2, 1, (t 20))])<| .nil))
 (oR 20 (.makeSlice 58 2 24 [(.int .i64 0), (.string ⟨#[]⟩)] (oi 40) (oi 40))<| oR 16 (.call 37 [(oi 1)])<|
 oR 17 (.build [(.string ⟨#[]⟩), (.int .u32 0)] [(0, 1, (t 16))])<|
 oR 18 (.build [(.string ⟨#[]⟩), (.int .u32 0), (.int .u32 0), (.slice none 0 0)] [(0, 2, (t 17)), (2, 1, (.const (.int .u32 1)))])<|
 oR 19 (.buildSlice 50 1 [(.string ⟨#[]⟩), (.int .u32 0), (.int .u32 0), (.slice none 0 0)] [(0, 4, (t 18))])<|
 oR 21 (.build [(.int .u32 0), (.slice none 0 0), (.slice none 0 0), (.int .u32 0)] [(0, 1, (.const (.int .u32 2))), (1, 1, (t 19)), (2, 1, (t 20))])<| .nil)))) <|oU 4 6 21<| .nil)
 (.seq (.seq (.reg false <| oM 22 5<| oK 23 4 6<| oR 24 (.call 17 [(t 22), (t 23), (oi 1)])<| oC 25 .neq 24 0<| .nil) (.cond (t 25) (.seq (.reg false <|
 oR 4 (.move (.const (.bool false)))<| .nil) .ret) .skip)) (.seq (.reg false <| oK 26 4 6<| oR 27 (oa 38 26)<| oM 7 27<| .nil) (.seq (.reg false <| oM 28 0<|
 oR 29 (.bin .rem (t 28) (.const (.int .u8 8)))<| oV 30 .i64 29<| oR 31 (.bin .add (oi 20) (t 30))<| oM 8 31<| .nil) (.seq (.reg false <| oO 9 1<| .nil)
 (.seq (.seq (.reg false <| oM 32 8<| oO 33 0<| .nil) (.block 0 (.loop (.seq (.reg false <| oB 34 .lss 33 32<| .nil) (.seq (.cond (t 34) .skip (.exit 0))
 (.seq (.block 1 (.seq (.reg false <| oM 35 33<| oM 10 35<| .nil) (.seq (.reg false <| oM 36 7<| oM 37 10<| oM 38 10<| oR 39 (oc 39 36 37 38)<|
 oR 11 (.alloc 35 [(.int .u32 0), (.slice none 0 0), (.slice none 0 0), (.int .u32 0)])<| oU 4 11 39<| .nil) (.seq (.seq (.reg false <| oM 40 1<| oT 41 40<| .nil)
 (.cond (t 41) (.seq (.reg false <| oR 42 (.makeSlice 58 2 24 [(.int .i64 0), (.string ⟨#[]⟩)] (oi 256) (oi 256))<| oF 43 2 11<| oS 43 42<| .nil) (.seq (.reg false <|
 oF 44 2 11<| oL 45 44<| oD 46 45<| oO 47 0<| .nil) (.block 2 (.loop (.seq (.reg false <| oB 48 .lss 47 46<| .nil) (.seq (.cond (t 48) .skip (.exit 2))
 (.seq (.block 3 (.seq (.reg false <| oM 49 47<| oM 12 49<| .nil) (.reg false <| oF 50 2 11<| oL 51 50<| oM 52 12<| oI 53 2 51 52<| oF 54 1 53<|
 oQ (.store (t 54) (.const (.string ⟨#[48, 49, 50, 51, 52, 53, 54, 55, 56, 57, 48, 49, 50, 51, 52, 53, 54, 55, 56, 57, 48, 49, 50, 51, 52, 53, 54, 55, 56, 57, 48, 49, 50, 51, 52, 53, 54, 55, 56, 57]⟩)))<| .nil)))
 (.reg false <| oC 55 .add 47 1<| oM 47 55<| .nil)))))))) .skip)) (.seq (.reg false <| oM 56 5<| oK 57 4 11<| oR 58 (ob 33 56 57)<| oC 59 .eql 58 0<| .nil)
 (.cond (t 59) (.seq (.reg false <| oM 60 5<| oK 61 4 11<| oR 62 (.call 17 [(t 60), (t 61), (oi 1)])<| .nil) (.reg false <| oM 63 9<| oC 64 .add 63 1<|
 oM 9 64<| .nil)) .skip)))))) (.reg false <| oC 65 .add 33 1<| oM 33 65<| .nil))))))) (.seq (.seq (.reg false <| oM 66 1<| .nil) (.cond (t 66) (.seq (.reg false <|
 oR 67 (.call 35 [])<| oM 68 67<| oG 69 68 true (.move (t 9))<| oG 70 68 true (.move (t 8))<| oG 71 68 true (.bin .add (t 70) (oi 1))<|
 oG 72 68 true (.minmax false (t 71) [(oi 26)])<| oG 73 68 true (.bin .eql (t 69) (t 72))<| oR 74 (.pick (t 68) (t 73) (.const (.bool false)))<|
 oM 4 74<| .nil) .ret) .skip)) (.seq (.reg false <| oM 76 5<| oM 77 5<| oM 78 7<| oR 79 (ob 30 77 78)<| oR 80 (ob 40 76 79)<| oM 75 80<| oX 81 0 75<| oX 82 1 75<|
 oM 13 81<| oM 14 82<| .nil) (.seq (.reg false <| oR 83 (.call 35 [])<| oM 84 83<| oG 85 84 true (.move (t 9))<| oG 86 84 true (.bin .lss (t 85) (oi 10))<|
 oR 87 (.pick (t 84) (t 86) (.const (.bool false)))<| oM 88 87<| oG 89 88 true (.move (t 14))<| oG 90 88 true (.bin .leq (t 89) (oi 101000))<|
 oR 91 (.pick (t 88) (t 90) (.const (.bool false)))<| oM 4 91<| .nil) .ret)))))))))))
theorem s_kedgelaw15_LimitCarves : CS 92 k_kedgelaw15_LimitCarves [.tmp 4] F.kedgelaw15_LimitCarves :=
  cs Tryz.func7 (by kernel_rfl) (by kernel_rfl)
noncomputable def k_kedgelaw15_LimitLess : KC :=
(.seq (.reg false <| oR 3 (.box 72 (t 0))<| oR 6 (.move (.const (.bool false)))<| .nil) (.seq (.reg false <| oK 12 4 3<|
 oR 13 (.call 31 [(t 12), (.const (.bool false))])<| oM 11 13<| oX 14 0 11<| oX 15 1 11<| oM 7 14<| oM 8 15<| .nil) (.seq (.reg false <| oM 16 8<| oM 17 1<|
 oR 18 (.buildSlice 5 1 [(.int .u8 0)] [(0, 1, (t 17))])<|
 oR 19 (.build [(.slice none 0 0), (.int .u8 0), (.int .u8 0), (.int .i64 0), (.int .u8 0), (.int .u8 0)] [(0, 1, (t 18)), (4, 1, (.const (.int .u8 200)))])<|
 oR 20 (ob 32 16 19)<| oR 9 (.alloc 35 [(.int .u32 0), (.slice none 0 0), (.slice none 0 0), (.int .u32 0)])<| oU 4 9 20<| .nil) (.seq (.seq (.reg false <| oM 21 7<|
 oK 22 4 9<| oR 23 (ob 33 21 22)<| oC 24 .neq 23 0<| oM 25 24<| oG 26 25 false (.move (t 8))<| oG 27 25 false (.len false (t 26))<|
 oG 28 25 false (.bin .eql (t 27) (oi 0))<| oR 29 (.pick (t 25) (.const (.bool true)) (t 28))<| .nil) (.cond (t 29) (.seq (.reg false <| oR 30 (.call 35 [])<|
 oM 6 30<| .nil) .ret) .skip)) (.seq (.reg false <| oM 31 8<| oM 32 2<| oV 33 .i64 32<| oM 34 8<| oD 35 34<| oB 36 .rem 33 35<| oI 37 7 31 36<| oK 38 7 37<|
 oR 10 (.alloc 39 [(.int .u32 0), (.slice none 0 0), (.slice none 0 0), (.int .u32 0), (.string ⟨#[]⟩), (.int .i64 0), (.int .i64 0)])<| oU 7 10 38<| .nil)
 (.seq (.seq (.reg false <| oM 39 7<| oF 40 4 10<| oL 41 40<| oR 42 (ob 30 39 41)<| oD 43 42<| oC 44 .gtr 43 1<| oM 45 44<| oG 46 45 false (.loadN 4 (t 9))<|
 oG 47 45 false (.loadN 7 (t 10))<| oG 48 45 false (ob 46 46 47)<| oR 49 (.pick (t 45) (.const (.bool true)) (t 48))<| .nil) (.cond (t 49) (.seq (.reg false <|
 oR 50 (.call 35 [])<| oM 6 50<| .nil) .ret) .skip)) (.seq (.reg false <| oR 51 (.call 35 [])<| oM 52 51<| oG 53 52 true (.move (t 7))<|
 oG 54 52 true (.fieldAddr 4 (t 10))<| oG 55 52 true (.load (t 54))<| oG 56 52 true (ob 14 53 55)<| oG 57 52 true (.bin .eql (t 56) (oi 0))<|
 oR 58 (.pick (t 52) (t 57) (.const (.bool false)))<| oM 59 58<| oG 60 59 true (.move (t 7))<| oG 61 59 true (.loadN 4 (t 9))<| oG 62 59 true (ob 33 60 61)<|
 oG 63 59 true (.bin .eql (t 62) (oi 0))<| oR 64 (.pick (t 59) (t 63) (.const (.bool false)))<| oM 6 64<| .nil) .ret)))))))
theorem s_kedgelaw15_LimitLess : CS 65 k_kedgelaw15_LimitLess [.tmp 6] F.kedgelaw15_LimitLess :=
  cs Tryz.func11 (by kernel_rfl) (by kernel_rfl)
noncomputable def k_graph_New : KC :=
(.seq (.reg false <| oR 0 (.move (.const (.pointer none)))<| .nil) (.seq (.reg false <| oR 1 (.makeMap)<| oR 2 (.makeMap)<|
 oR 3 (.build [(.map none), (.slice none 0 0), (.map none)] [(0, 1, (t 1)), (2, 1, (t 2))])<| oR 4 (.box 101 (t 3))<| oM 0 4<| .nil) .ret))
theorem s_graph_New : CS 5 k_graph_New [.tmp 0] F.graph_New :=
  cs Tryz.func13 (by kernel_rfl) (by kernel_rfl)
noncomputable def k_graph_Graph_Drop : KC :=
(.seq (.reg false <| oR 3 (.box 9 (t 1))<| oO 4 0<| .nil) (.seq (.seq (.reg false <| oM 9 0<| oR 10 (.eqNil false .pointer (t 9) (.const (.pointer none)))<| .nil)
 (.cond (t 10) (.seq (.reg false <| oO 4 1<| .nil) .ret) .skip)) (.seq (.reg true <| .join (oM 12 0<| oR 13 (.nilCheck (t 12))<| oF 14 0 13<| oL 15 14<| oL 16 3<|
 oR 17 (.lookup false [.s] (.agg #[(.int .u32 0), (.slice none 0 0), (.slice none 0 0), (.int .u32 0), (.string ⟨#[]⟩), (.int .i64 0), (.int .i64 0)]) true (t 15) (t 16))<|
 oM 11 17<| oX 18 0 11<| oX 19 1 11<|
 oR 5 (.alloc 39 [(.int .u32 0), (.slice none 0 0), (.slice none 0 0), (.int .u32 0), (.string ⟨#[]⟩), (.int .i64 0), (.int .i64 0)])<| .nil) <|oU 7 5 18<| oM 6 19<| .nil)
 (.seq (.seq (.reg false <| oM 20 6<| oT 21 20<| .nil) (.cond (t 21) (.seq (.reg false <| oO 4 8<| .nil) .ret) .skip)) (.seq (.reg true <| .join (oM 22 0<|
 oR 23 (.nilCheck (t 22))<| oF 24 0 23<| oL 25 24<| oL 26 3<| .nil) <|oQ (.delete false [.s] (t 25) (t 26))<| .nil) (.seq (.seq (.reg false <| oF 27 0 5<| oF 28 1 27<|
 oL 29 28<| oD 30 29<| oO 31 0<| .nil) (.block 0 (.loop (.seq (.reg false <| oB 32 .lss 31 30<| .nil) (.seq (.cond (t 32) .skip (.exit 0))
 (.seq (.block 1 (.seq (.reg false <| oI 33 4 29 31<| oK 34 4 33<| oR 8 (.alloc 50 [(.string ⟨#[]⟩), (.int .u32 0), (.int .u32 0), (.slice none 0 0)])<| oU 4 8 34<| .nil)
 (.reg true <| .join (oM 35 0<| oR 36 (.nilCheck (t 35))<| oF 37 2 36<| oL 38 37<| oF 39 0 8<| oK 40 2 39<| .nil) <|oQ (.delete true [.s, .i] (t 38) (t 40))<| .nil)))
 (.reg false <| oC 41 .add 31 1<| oM 31 41<| .nil))))))) (.seq (.reg false <| oM 42 0<| oM 43 0<| oR 44 (.nilCheck (t 43))<| oF 45 1 44<| oL 46 45<|
 oR 47 (.makeFunc (.func 49) [] [(t 3)])<| oR 48 (ob 48 46 47)<| oR 49 (.nilCheck (t 42))<| oF 50 1 49<| oS 50 48<| .nil) (.seq (.reg false <| oO 4 0<| .nil) .ret))))))))
theorem s_graph_Graph_Drop : CS 51 k_graph_Graph_Drop [.tmp 4] F.graph_Graph_Drop :=
  cs Tryz.func14 (by kernel_rfl) (by kernel_rfl)
noncomputable def k_kedgeref14_Drop : KC :=
(.seq (.reg false <| oR 4 (.move (.const (.slice none 0 0)))<| oO 5 0<| .nil) (.seq (.reg false <| oM 9 0<| oM 10 1<| oR 11 (ob 20 9 10)<| oM 6 11<| .nil)
 (.seq (.seq (.reg false <| oM 12 6<| oC 13 .lss 12 0<| .nil) (.cond (t 13) (.seq (.reg false <| oM 14 0<| oM 4 14<| oO 5 8<| .nil) .ret) .skip)) (.seq (.reg false <|
 oR 7 (.move (.const (.slice none 0 0)))<| .nil) (.seq (.seq (.reg false <| oO 8 0<| .nil) (.block 0 (.loop (.seq (.seq (.reg false <| oM 15 8<| oM 16 0<| oD 17 16<|
 oB 18 .lss 15 17<| .nil) (.cond (t 18) .skip (.exit 0))) (.seq (.block 1 (.seq (.reg false <| oM 21 8<| oM 22 6<| oB 23 .neq 21 22<| .nil) (.cond (t 23) (.reg false <|
 oM 24 7<| oM 25 0<| oM 26 8<| oI 27 7 25 26<| oK 28 7 27<|
 oR 29 (.buildSlice 39 1 [(.int .u32 0), (.slice none 0 0), (.slice none 0 0), (.int .u32 0), (.string ⟨#[]⟩), (.int .i64 0), (.int .i64 0)] [(0, 7, (t 28))])<|
 oR 30 (.append 39 7 96 [(.int .u32 0), (.slice none 0 0), (.slice none 0 0), (.int .u32 0), (.string ⟨#[]⟩), (.int .i64 0), (.int .i64 0)] (t 24) (t 29))<|
 oM 7 30<| .nil) .skip))) (.reg false <| oM 19 8<| oC 20 .add 19 1<| oM 8 20<| .nil)))))) (.seq (.reg false <| oM 31 7<| oM 4 31<| oO 5 0<| .nil) .ret))))))
theorem s_kedgeref14_Drop : CS 32 k_kedgeref14_Drop [.tmp 4, .tmp 5] F.kedgeref14_Drop :=
  cs Tryz.func15 (by kernel_rfl) (by kernel_rfl)
noncomputable def k_kedgelaw14_of : KC :=
(.seq (.reg false <| oR 3 (.box 37 (t 1))<| oR 4 (.alloc 35 [(.int .u32 0), (.slice none 0 0), (.slice none 0 0), (.int .u32 0)])<| .nil) (.seq (.seq (.reg false <|
 oF 6 12 3<| oL 7 6<| .nil) (.cond (t 7) (.seq (.reg false <| oF 8 8 3<| oK 9 4 8<| oR 10 (.call 36 [(t 9), (oi 4)])<| oU 4 4 10<| .nil) .ret) .skip)) (.seq (.reg false <|
 oF 11 2 3<| oK 12 6 11<| oR 5 (.alloc 31 [(.slice none 0 0), (.int .u8 0), (.int .u8 0), (.int .i64 0), (.int .u8 0), (.int .u8 0)])<| oU 6 5 12<| .nil)
 (.seq (.reg false <| oF 13 5 5<| oL 14 13<| oR 15 (.bin .rem (t 14) (.const (.int .u8 4)))<| oF 16 5 5<| oS 16 15<| .nil) (.seq (.reg false <| oM 17 0<| oK 18 6 5<|
 oR 19 (ob 32 17 18)<| oU 4 4 19<| .nil) .ret)))))
theorem s_kedgelaw14_of : CS 20 k_kedgelaw14_of [.cellN 4 4] F.kedgelaw14_of :=
  cs Tryz.func16 (by kernel_rfl) (by kernel_rfl)
noncomputable def k_graph_Graph_Add : KC :=
(.seq (.reg false <| oR 4 (.box 35 (t 1))<| oO 6 0<| .nil) (.seq (.seq (.reg false <| oM 17 0<| oR 18 (.eqNil false .pointer (t 17) (.const (.pointer none)))<| .nil)
 (.cond (t 18) (.seq (.reg false <| oO 6 1<| .nil) .ret) .skip)) (.seq (.reg false <| oK 20 4 4<| oM 21 2<| oR 22 (ob 50 20 21)<| oM 19 22<| oX 23 0 19<| oX 24 1 19<|
 oR 7 (.alloc 39 [(.int .u32 0), (.slice none 0 0), (.slice none 0 0), (.int .u32 0), (.string ⟨#[]⟩), (.int .i64 0), (.int .i64 0)])<| oU 7 7 23<| oM 8 24<| .nil)
 (.seq (.seq (.reg false <| oM 25 8<| oC 26 .neq 25 0<| .nil) (.cond (t 26) (.seq (.reg false <| oM 27 8<| oM 6 27<| .nil) .ret) .skip))
 (.seq (.seq (.reg true <| .join (oM 29 0<| oR 30 (.nilCheck (t 29))<| oF 31 0 30<| oL 32 31<| oF 33 4 7<| oL 34 33<|
 oR 35 (.lookup false [.s] (.agg #[(.int .u32 0), (.slice none 0 0), (.slice none 0 0), (.int .u32 0), (.string ⟨#[]⟩), (.int .i64 0), (.int .i64 0)]) true (t 32) (t 34))<|
 oM 28 35<| oX 36 0 28<| oX 37 1 28<|
 oR 9 (.alloc 39 [(.int .u32 0), (.slice none 0 0), (.slice none 0 0), (.int .u32 0), (.string ⟨#[]⟩), (.int .i64 0), (.int .i64 0)])<| .nil) <|oU 7 9 36<| oM 10 37<| .nil)
 (.seq (.reg false <| oM 38 10<| .nil) (.cond (t 38) (.seq (.reg false <| oO 6 7<| .nil) .ret) .skip))) (.seq (.seq (.reg false <| oF 39 1 4<| oL 40 39<| oD 41 40<|
 oO 42 0<| .nil) (.block 0 (.loop (.seq (.reg false <| oB 43 .lss 42 41<| .nil) (.seq (.cond (t 43) .skip (.exit 0)) (.seq (.block 1 (.seq (.reg false <| oI 44 4 40 42<|
 oK 45 4 44<| oR 12 (.alloc 50 [(.string ⟨#[]⟩), (.int .u32 0), (.int .u32 0), (.slice none 0 0)])<| oU 4 12 45<| .nil) (.seq (.reg true <| .join (oM 47 0<|
 oR 48 (.nilCheck (t 47))<| oF 49 2 48<| oL 50 49<| oF 51 0 12<| oK 52 2 51<| .nil) <|oR 53 (.lookup true [.s, .i] (.string ⟨#[]⟩) true (t 50) (t 52))<| oM 46 53<|
 oX 54 0 46<| oX 55 1 46<| oM 13 54<| oM 14 55<| .nil) (.seq (.reg false <| oM 56 14<| .nil) (.cond (t 56) (.seq (.reg false <| oO 6 15<| .nil) .ret) .skip)))))
 (.reg false <| oC 57 .add 42 1<| oM 42 57<| .nil))))))) (.seq (.reg true <| .join (oM 58 0<| oR 59 (.nilCheck (t 58))<| oF 60 0 59<| oL 61 60<| oF 62 4 7<| oL 63 62<|
 oK 64 7 7<| .nil) <|oQ (.mapUpdate false [.s] (t 61) (t 63) (t 64))<| .nil) (.seq (.reg true <| .join (oM 65 0<| oM 66 0<| oR 67 (.nilCheck (t 66))<| oF 68 1 67<|
 oF 70 4 7<| oL 71 70<| .both (oL 69 68<| oR 72 (.buildSlice 9 1 [(.string ⟨#[]⟩)] [(0, 1, (t 71))])<| .nil) (oR 72 (.buildSlice 9 1 [(.string ⟨#[]⟩)] [(0, 1, (t 71))])<|
 oL 69 68<| .nil)) <|oR 73 (.append 9 1 16 [(.string ⟨#[]⟩)] (t 69) (t 72))<| oR 74 (.nilCheck (t 65))<| oF 75 1 74<| oS 75 73<| .nil) (.seq (.seq (.reg false <|
 oF 76 1 4<| oL 77 76<| oD 78 77<| oO 79 0<| .nil) (.block 2 (.loop (.seq (.reg false <| oB 80 .lss 79 78<| .nil) (.seq (.cond (t 80) .skip (.exit 2))
 (.seq (.block 3 (.seq (.reg false <| oI 81 4 77 79<| oK 82 4 81<| oR 16 (.alloc 50 [(.string ⟨#[]⟩), (.int .u32 0), (.int .u32 0), (.slice none 0 0)])<| oU 4 16 82<| .nil)
 (.reg true <| .join (oM 83 0<| oR 84 (.nilCheck (t 83))<| oF 85 2 84<| oL 86 85<| oF 87 0 16<| oK 88 2 87<| oF 89 4 7<|
 oL 90 89<| .nil) <|oQ (.mapUpdate true [.s, .i] (t 86) (t 88) (t 90))<| .nil))) (.reg false <| oC 91 .add 79 1<| oM 79 91<| .nil))))))) (.seq (.reg false <|
 oO 6 0<| .nil) .ret))))))))))
theorem s_graph_Graph_Add : CS 92 k_graph_Graph_Add [.tmp 6] F.graph_Graph_Add :=
  cs Tryz.func17 (by kernel_rfl) (by kernel_rfl)
noncomputable def k_kedgeref14_Add : KC :=
(.seq (.reg false <| oR 4 (.box 35 (t 1))<| oR 6 (.move (.const (.slice none 0 0)))<| oO 7 0<| .nil) (.seq (.reg false <| oK 17 4 4<| oR 18 (oa 51 17)<| oM 8 18<| .nil)
 (.seq (.seq (.reg false <| oM 19 8<| oC 20 .neq 19 0<| .nil) (.cond (t 20) (.seq (.reg false <| oM 21 0<| oM 22 8<| oM 6 21<| oM 7 22<| .nil) .ret) .skip))
 (.seq (.reg false <| oF 23 1 4<| oL 24 23<| oR 25 (.indexAddr 4 (t 24) (oi 0))<| oF 26 0 25<| oK 27 2 26<| oR 28 (oa 52 27)<| oM 9 28<| .nil) (.seq (.seq (.reg false <|
 oM 29 9<| .nil) (.cond (t 29) (.seq (.reg false <| oM 30 0<| oM 6 30<| oO 7 4<| .nil) .ret) .skip)) (.seq (.reg false <| oM 31 2<|
 oR 32 (.pcall 53 Go.Proofs.YtfeifodeaphbjaaGreat.qGood [(t 31)])<| oM 10 32<| .nil) (.seq (.seq (.reg false <| oM 33 10<| oT 34 33<| .nil)
 (.cond (t 34) (.seq (.reg false <| oM 35 0<| oM 6 35<| oO 7 3<| .nil) .ret) .skip)) (.seq (.reg false <| oK 36 4 4<| oR 37 (oa 38 36)<| oM 11 37<| .nil)
 (.seq (.reg false <| oM 38 0<| oM 39 11<| oR 40 (ob 20 38 39)<| oM 12 40<| .nil) (.seq (.seq (.reg false <| oM 41 12<| oC 42 .geq 41 0<| .nil)
 (.cond (t 42) (.seq (.reg false <| oM 43 0<| oM 6 43<| oO 7 7<| .nil) .ret) .skip)) (.seq (.seq (.reg false <| oO 13 0<| .nil) (.block 0 (.loop (.seq (.seq (.reg false <|
 oM 44 13<| oF 45 1 4<| oL 46 45<| oD 47 46<| oB 48 .lss 44 47<| .nil) (.cond (t 48) .skip (.exit 0))) (.seq (.block 1 (.seq (.reg false <| oM 51 0<| oF 52 1 4<| oL 53 52<|
 oM 54 13<| oI 55 4 53 54<| oF 56 0 55<| oK 57 2 56<| oR 58 (ob 23 51 57)<| oM 12 58<| .nil) (.seq (.reg false <| oM 59 12<| oC 60 .geq 59 0<| .nil)
 (.cond (t 60) (.seq (.reg false <| oM 61 0<| oM 6 61<| oO 7 15<| .nil) .ret) .skip)))) (.reg false <| oM 49 13<| oC 50 .add 49 1<| oM 13 50<| .nil))))))
 (.seq (.reg false <| oK 62 4 4<| oR 63 (oa 54 62)<| oM 14 63<| .nil) (.seq (.reg false <| oR 15 (.move (.const (.slice none 0 0)))<| .nil) (.seq (.seq (.reg false <|
 oO 16 0<| .nil) (.block 2 (.loop (.seq (.seq (.reg false <| oM 64 16<| oM 65 0<| oD 66 65<| oB 67 .lss 64 66<| .nil) (.cond (t 67) .skip (.exit 2)))
 (.seq (.block 3 (.reg false <| oM 70 15<| oM 71 0<| oM 72 16<| oI 73 7 71 72<| oK 74 7 73<|
 oR 75 (.buildSlice 39 1 [(.int .u32 0), (.slice none 0 0), (.slice none 0 0), (.int .u32 0), (.string ⟨#[]⟩), (.int .i64 0), (.int .i64 0)] [(0, 7, (t 74))])<|
 oR 76 (.append 39 7 96 [(.int .u32 0), (.slice none 0 0), (.slice none 0 0), (.int .u32 0), (.string ⟨#[]⟩), (.int .i64 0), (.int .i64 0)] (t 70) (t 75))<|
 oM 15 76<| .nil)) (.reg false <| oM 68 16<| oC 69 .add 68 1<| oM 16 69<| .nil)))))) (.seq (.reg false <| oM 77 15<| oK 78 4 4<| oM 79 11<| oM 80 2<| oM 81 14<|
 oR 82 (.build [(.int .u32 0), (.slice none 0 0), (.slice none 0 0), (.int .u32 0), (.string ⟨#[]⟩), (.int .i64 0), (.int .i64 0)] [(0, 4, (t 78)), (4, 1, (t 79)), (5, 1, (t 80)), (6, 1, (t 81))])<|
 oR 83 (.buildSlice 39 1 [(.int .u32 0), (.slice none 0 0), (.slice none 0 0), (.int .u32 0), (.string ⟨#[]⟩), (.int .i64 0), (.int .i64 0)] [(0, 7, (t 82))])<|
 oR 84 (.append 39 7 96 [(.int .u32 0), (.slice none 0 0), (.slice none 0 0), (.int .u32 0), (.string ⟨#[]⟩), (.int .i64 0), (.int .i64 0)] (t 77) (t 83))<| oM 6 84<|
 oO 7 0<| .nil) .ret)))))))))))))))
theorem s_kedgeref14_Add : CS 85 k_kedgeref14_Add [.tmp 6, .tmp 7] F.kedgeref14_Add :=
  cs Tryz.func18 (by kernel_rfl) (by kernel_rfl)
noncomputable def k_kedgeref14_Find : KC :=
(.seq (.reg false <| oO 4 0<| .nil) (.seq (.seq (.reg false <| oO 5 0<| .nil) (.block 0 (.loop (.seq (.seq (.reg false <| oM 6 5<| oM 7 0<| oD 8 7<| oB 9 .lss 6 8<| .nil)
 (.cond (t 9) .skip (.exit 0))) (.seq (.block 1 (.seq (.reg false <| oM 12 0<| oM 13 5<| oI 14 7 12 13<| oF 15 4 14<| oL 16 15<| oM 17 1<| oB 18 .eql 16 17<| .nil)
 (.cond (t 18) (.seq (.reg false <| oM 19 5<| oM 4 19<| .nil) .ret) .skip))) (.reg false <| oM 10 5<| oC 11 .add 10 1<| oM 5 11<| .nil)))))) (.seq (.reg false <|
 oO 4 (-1)<| .nil) .ret)))
theorem s_kedgeref14_Find : CS 20 k_kedgeref14_Find [.tmp 4] F.kedgeref14_Find :=
  cs Tryz.func20 (by kernel_rfl) (by kernel_rfl)
noncomputable def k_graph_Graph_Get : KC :=
(.seq (.reg false <| oR 4 (.alloc 39 [(.int .u32 0), (.slice none 0 0), (.slice none 0 0), (.int .u32 0), (.string ⟨#[]⟩), (.int .i64 0), (.int .i64 0)])<|
 oR 5 (.move (.const (.bool false)))<| .nil) (.seq (.seq (.reg false <| oM 8 0<| oR 9 (.eqNil false .pointer (t 8) (.const (.pointer none)))<| .nil)
 (.cond (t 9) (.seq (.reg false <| oR 10 (.build [(.int .u32 0), (.slice none 0 0), (.slice none 0 0), (.int .u32 0), (.string ⟨#[]⟩), (.int .i64 0), (.int .i64 0)] [])<|
 oU 7 4 10<| oR 5 (.move (.const (.bool false)))<| .nil) .ret) .skip)) (.seq (.reg false <| oM 12 0<| oR 13 (.nilCheck (t 12))<| oF 14 0 13<| oL 15 14<| oM 16 1<|
 oR 17 (.lookup false [.s] (.agg #[(.int .u32 0), (.slice none 0 0), (.slice none 0 0), (.int .u32 0), (.string ⟨#[]⟩), (.int .i64 0), (.int .i64 0)]) true (t 15) (t 16))<|
 oM 11 17<| oX 18 0 11<| oX 19 1 11<| oR 6 (.alloc 39 [(.int .u32 0), (.slice none 0 0), (.slice none 0 0), (.int .u32 0), (.string ⟨#[]⟩), (.int .i64 0), (.int .i64 0)])<|
 oU 7 6 18<| oM 7 19<| .nil) (.seq (.reg false <| oF 20 0 6<| oK 21 4 20<| oR 22 (oa 56 21)<| oF 23 0 6<| oU 4 23 22<| .nil) (.seq (.reg false <| oK 24 7 6<| oM 25 7<|
 oU 7 4 24<| oM 5 25<| .nil) .ret)))))
theorem s_graph_Graph_Get : CS 26 k_graph_Graph_Get [.cellN 7 4, .tmp 5] F.graph_Graph_Get :=
  cs Tryz.func21 (by kernel_rfl) (by kernel_rfl)
noncomputable def k_graph_Graph_Spender : KC :=
(.seq (.reg false <| oR 3 (.box 25 (t 1))<| oR 4 (.move (.const (.string ⟨#[]⟩)))<| oR 5 (.move (.const (.bool false)))<| .nil) (.seq (.seq (.reg false <| oM 8 0<|
 oR 9 (.eqNil false .pointer (t 8) (.const (.pointer none)))<| .nil) (.cond (t 9) (.seq (.reg false <| oR 4 (.move (.const (.string ⟨#[]⟩)))<|
 oR 5 (.move (.const (.bool false)))<| .nil) .ret) .skip)) (.seq (.reg true <| .join (oM 11 0<| oR 12 (.nilCheck (t 11))<| oF 13 2 12<| oL 14 13<|
 oK 15 2 3<| .nil) <|oR 16 (.lookup true [.s, .i] (.string ⟨#[]⟩) true (t 14) (t 15))<| oM 10 16<| oX 17 0 10<| oX 18 1 10<| oM 6 17<| oM 7 18<| .nil) (.seq (.reg false <|
 oM 19 6<| oM 20 7<| oM 4 19<| oM 5 20<| .nil) .ret))))
theorem s_graph_Graph_Spender : CS 21 k_graph_Graph_Spender [.tmp 4, .tmp 5] F.graph_Graph_Spender :=
  cs Tryz.func22 (by kernel_rfl) (by kernel_rfl)
noncomputable def k_kedgeref14_Spender : KC :=
(.seq (.reg false <| oR 3 (.box 25 (t 1))<| oO 4 0<| .nil) (.seq (.seq (.reg false <| oO 5 0<| .nil) (.block 0 (.loop (.seq (.seq (.reg false <| oM 7 5<| oM 8 0<| oD 9 8<|
 oB 10 .lss 7 9<| .nil) (.cond (t 10) .skip (.exit 0))) (.seq (.block 1 (.seq (.reg false <| oO 6 0<| .nil) (.block 2 (.loop (.seq (.seq (.reg false <| oM 13 6<| oM 14 0<|
 oM 15 5<| oI 16 7 14 15<| oF 17 0 16<| oF 18 1 17<| oL 19 18<| oD 20 19<| oB 21 .lss 13 20<| .nil) (.cond (t 21) .skip (.exit 2)))
 (.seq (.block 3 (.seq (.reg true <| .join (oM 24 0<| oM 25 5<| oI 26 7 24 25<| oF 27 0 26<| oF 28 1 27<| oL 29 28<| oM 30 6<| oI 31 4 29 30<| oF 32 0 31<| oF 33 0 32<|
 oL 34 33<| oF 35 0 3<| oL 36 35<| oB 37 .eql 34 36<| oM 38 37<| oG 39 38 true (.move (t 0))<| oG 40 38 true (.move (t 5))<| oG 41 38 true (.indexAddr 7 (t 39) (t 40))<|
 oG 42 38 true (.fieldAddr 0 (t 41))<| oG 43 38 true (.fieldAddr 1 (t 42))<| oG 45 38 true (.move (t 6))<|
 oG 50 38 true (.fieldAddr 1 (t 3))<| .nil) <|oG 44 38 true (.load (t 43))<| oG 46 38 true (.indexAddr 4 (t 44) (t 45))<| oG 47 38 true (.fieldAddr 0 (t 46))<|
 oG 48 38 true (.fieldAddr 1 (t 47))<| oG 49 38 true (.load (t 48))<| oG 51 38 true (.load (t 50))<| oG 52 38 true (.bin .eql (t 49) (t 51))<|
 oR 53 (.pick (t 38) (t 52) (.const (.bool false)))<| .nil) (.cond (t 53) (.seq (.reg false <| oM 54 5<| oM 4 54<| .nil) .ret) .skip))) (.reg false <| oM 22 6<|
 oC 23 .add 22 1<| oM 6 23<| .nil))))))) (.reg false <| oM 11 5<| oC 12 .add 11 1<| oM 5 12<| .nil)))))) (.seq (.reg false <| oO 4 (-1)<| .nil) .ret)))
theorem s_kedgeref14_Spender : CS 55 k_kedgeref14_Spender [.tmp 4] F.kedgeref14_Spender :=
  cs Tryz.func23 (by kernel_rfl) (by kernel_rfl)
noncomputable def k_graph_Graph_Out : KC :=
(.seq (.reg false <| oR 3 (.box 25 (t 1))<| oR 4 (.alloc 58 [(.int .i64 0), (.string ⟨#[]⟩)])<| oR 5 (.move (.const (.bool false)))<| .nil) (.seq (.reg false <| oM 9 0<|
 oF 10 0 3<| oL 11 10<| oR 12 (ob 21 9 11)<| oM 8 12<| oX 13 0 8<| oX 14 1 8<|
 oR 6 (.alloc 39 [(.int .u32 0), (.slice none 0 0), (.slice none 0 0), (.int .u32 0), (.string ⟨#[]⟩), (.int .i64 0), (.int .i64 0)])<| oU 7 6 13<| oM 7 14<| .nil)
 (.seq (.seq (.reg false <| oM 15 7<| oT 16 15<| oM 17 16<| oG 18 17 false (.fieldAddr 1 (t 3))<| oG 19 17 false (.load (t 18))<| oG 20 17 false (.conv .i64 (t 19))<|
 oG 21 17 false (.fieldAddr 0 (t 6))<| oG 22 17 false (.fieldAddr 2 (t 21))<| oG 23 17 false (.load (t 22))<| oG 24 17 false (.len false (t 23))<|
 oG 25 17 false (.bin .geq (t 20) (t 24))<| oR 26 (.pick (t 17) (.const (.bool true)) (t 25))<| .nil) (.cond (t 26) (.seq (.reg false <|
 oR 27 (.build [(.int .i64 0), (.string ⟨#[]⟩)] [])<| oU 2 4 27<| oR 5 (.move (.const (.bool false)))<| .nil) .ret) .skip)) (.seq (.reg false <| oF 28 0 6<| oF 29 2 28<|
 oL 30 29<| oF 31 1 3<| oL 32 31<| oI 33 2 30 32<| oK 34 2 33<| oU 2 4 34<| oR 5 (.move (.const (.bool true)))<| .nil) .ret))))
theorem s_graph_Graph_Out : CS 35 k_graph_Graph_Out [.cellN 2 4, .tmp 5] F.graph_Graph_Out :=
  cs Tryz.func24 (by kernel_rfl) (by kernel_rfl)
noncomputable def k_kedgelaw14_filled : KC :=
(.seq (.reg false <| oR 4 (.move (.const (.pointer none)))<| oR 5 (.move (.const (.slice none 0 0)))<| .nil) (.seq (.reg false <| oR 12 (.call 13 [])<| oM 6 12<| .nil)
 (.seq (.reg false <| oR 7 (.move (.const (.slice none 0 0)))<| .nil) (.seq (.seq (.reg false <| oM 13 0<| oM 14 0<| oD 15 14<| oM 16 1<|
 oR 17 (.minmax false (t 15) [(t 16)])<| oR 18 (.sliceSl 13 (t 13) none (some (t 17)))<| oD 19 18<| oO 20 0<| .nil) (.block 0 (.loop (.seq (.reg false <|
 oB 21 .lss 20 19<| .nil) (.seq (.cond (t 21) .skip (.exit 0)) (.seq (.block 1 (.seq (.reg false <| oI 22 13 18 20<| oK 23 13 22<|
 oR 9 (.alloc 37 [(.int .u8 0), (.int .u8 0), (.slice none 0 0), (.int .u8 0), (.int .u8 0), (.int .i64 0), (.int .u8 0), (.int .u8 0), (.int .u32 0), (.slice none 0 0), (.slice none 0 0), (.int .u32 0), (.bool false)])<|
 oU 13 9 23<| .nil) (.seq (.reg false <| oM 24 7<| oK 25 13 9<| oR 26 (ob 16 24 25)<|
 oR 10 (.alloc 35 [(.int .u32 0), (.slice none 0 0), (.slice none 0 0), (.int .u32 0)])<| oU 4 10 26<| .nil) (.seq (.reg false <| oM 27 6<| oK 28 4 10<| oF 29 2 9<|
 oF 30 3 29<| oL 31 30<| oC 32 .and 31 65535<| oR 33 (oc 17 27 28 32)<| .nil) (.seq (.reg false <| oM 35 7<| oK 36 4 10<| oF 37 2 9<| oF 38 3 37<| oL 39 38<|
 oC 40 .and 39 65535<| oR 41 (oc 18 35 36 40)<| oM 34 41<| oX 42 0 34<| oX 43 1 34<| oM 7 42<| .nil) (.seq (.reg false <| oF 44 0 9<| oL 45 44<|
 oR 46 (.bin .rem (t 45) (.const (.int .u8 8)))<| oR 47 (.bin .eql (t 46) (.const (.int .u8 7)))<| oM 48 47<| oG 49 48 true (.move (t 7))<|
 oG 50 48 true (.len false (t 49))<| oG 51 48 true (.bin .gtr (t 50) (oi 0))<| oR 52 (.pick (t 48) (t 51) (.const (.bool false)))<| .nil) (.cond (t 52) (.seq (.reg false <|
 oM 53 7<| oF 54 1 9<| oL 55 54<| oV 56 .i64 55<| oM 57 7<| oD 58 57<| oB 59 .rem 56 58<| oI 60 7 53 59<| oF 61 4 60<| oL 62 61<| oM 11 62<| .nil) (.seq (.reg false <|
 oM 63 6<| oM 64 11<| oR 65 (ob 14 63 64)<| .nil) (.reg false <| oM 67 7<| oM 68 11<| oR 69 (ob 15 67 68)<| oM 66 69<| oX 70 0 66<| oX 71 1 66<|
 oM 7 70<| .nil))) .skip))))))) (.reg false <| oC 72 .add 20 1<| oM 20 72<| .nil))))))) (.seq (.reg false <| oM 73 6<| oM 74 7<| oM 4 73<| oM 5 74<| .nil) .ret)))))
theorem s_kedgelaw14_filled : CS 75 k_kedgelaw14_filled [.tmp 4, .tmp 5] F.kedgelaw14_filled :=
  cs Tryz.func26 (by kernel_rfl) (by kernel_rfl)
noncomputable def k_graph_Graph_All : KC :=
(.seq (.reg false <| oR 2 (.move (.const (.slice none 0 0)))<| .nil) (.seq (.seq (.reg false <| oM 8 0<|
 oR 9 (.eqNil false .pointer (t 8) (.const (.pointer none)))<| .nil) (.cond (t 9) (.seq (.reg false <| oR 2 (.move (.const (.slice none 0 0)))<| .nil) .ret) .skip))
 (.seq (.reg false <| oR 3 (.move (.const (.slice none 0 0)))<| .nil) (.seq (.seq (.reg false <| oM 10 0<| oR 11 (.nilCheck (t 10))<| oF 12 1 11<| oL 13 12<| oD 14 13<|
 oO 15 0<| .nil) (.block 0 (.loop (.seq (.reg false <| oB 16 .lss 15 14<| .nil) (.seq (.cond (t 16) .skip (.exit 0)) (.seq (.block 1 (.seq (.reg false <| oI 17 1 13 15<|
 oL 18 17<| oM 5 18<| .nil) (.seq (.reg false <| oM 20 0<| oM 21 5<| oR 22 (ob 21 20 21)<| oM 19 22<| oX 23 0 19<| oX 24 1 19<|
 oR 6 (.alloc 39 [(.int .u32 0), (.slice none 0 0), (.slice none 0 0), (.int .u32 0), (.string ⟨#[]⟩), (.int .i64 0), (.int .i64 0)])<| oU 7 6 23<| oM 7 24<| .nil)
 (.reg false <| oM 25 3<| oK 26 7 6<|
 oR 27 (.buildSlice 39 1 [(.int .u32 0), (.slice none 0 0), (.slice none 0 0), (.int .u32 0), (.string ⟨#[]⟩), (.int .i64 0), (.int .i64 0)] [(0, 7, (t 26))])<|
 oR 28 (.append 39 7 96 [(.int .u32 0), (.slice none 0 0), (.slice none 0 0), (.int .u32 0), (.string ⟨#[]⟩), (.int .i64 0), (.int .i64 0)] (t 25) (t 27))<|
 oM 3 28<| .nil)))) (.reg false <| oC 29 .add 15 1<| oM 15 29<| .nil))))))) (.seq (.reg false <| oM 30 3<| oM 2 30<| .nil) .ret)))))
theorem s_graph_Graph_All : CS 31 k_graph_Graph_All [.tmp 2] F.graph_Graph_All :=
  cs Tryz.func27 (by kernel_rfl) (by kernel_rfl)
noncomputable def k_graph_Graph_Above : KC :=
(.seq (.reg false <| oR 2 (.box 26 (t 0))<| oR 3 (.box 35 (t 1))<| oR 4 (.move (.const (.slice none 0 0)))<| .nil) (.seq (.seq (.reg false <| oL 5 2<|
 oR 6 (.eqNil false .pointer (t 5) (.const (.pointer none)))<| .nil) (.cond (t 6) (.seq (.reg false <| oR 4 (.move (.const (.slice none 0 0)))<| .nil) .ret) .skip))
 (.seq (.reg true <| .join (oL 8 2<| oK 9 4 3<| oR 11 (.makeFunc (.func 59) [] [(t 2)])<| .both (oL 7 2<| oR 10 (ob 58 8 9)<| .nil) (oR 10 (ob 58 8 9)<|
 oL 7 2<| .nil)) <|oR 12 (oc 57 7 10 11)<| oM 4 12<| .nil) .ret)))
theorem s_graph_Graph_Above : CS 13 k_graph_Graph_Above [.tmp 4] F.graph_Graph_Above :=
  cs Tryz.func28 (by kernel_rfl) (by kernel_rfl)
noncomputable def k_slices_Contains_L_string_string : KC :=
(.seq (.reg false <| oR 4 (.move (.const (.bool false)))<| .nil) (.seq (.reg false <| oM 5 0<| oM 6 1<| oR 7 (ob 60 5 6)<| oC 8 .geq 7 0<| oM 4 8<| .nil) .ret))
theorem s_slices_Contains_L_string_string : CS 9 k_slices_Contains_L_string_string [.tmp 4] F.slices_Contains_L_string_string :=
  cs Tryz.func29 (by kernel_rfl) (by kernel_rfl)
noncomputable def k_graph_Graph_Below : KC :=
(.seq (.reg false <| oR 4 (.move (.const (.slice none 0 0)))<| .nil) (.seq (.seq (.reg false <| oM 8 0<| oM 9 1<| oR 10 (ob 21 8 9)<| oM 7 10<| oX 11 0 7<| oX 12 1 7<|
 oR 5 (.alloc 39 [(.int .u32 0), (.slice none 0 0), (.slice none 0 0), (.int .u32 0), (.string ⟨#[]⟩), (.int .i64 0), (.int .i64 0)])<| oU 7 5 11<| oM 6 12<| .nil)
 (.seq (.reg false <| oM 13 6<| oT 14 13<| .nil) (.cond (t 14) (.seq (.reg false <| oR 4 (.move (.const (.slice none 0 0)))<| .nil) .ret) .skip))) (.seq (.reg false <|
 oM 15 0<| oM 16 1<| oR 17 (.buildSlice 9 1 [(.string ⟨#[]⟩)] [(0, 1, (t 16))])<| oM 18 0<| oR 19 (.makeFunc (.func 61) [(t 18)] [])<| oR 20 (oc 57 15 17 19)<|
 oM 4 20<| .nil) .ret)))
theorem s_graph_Graph_Below : CS 21 k_graph_Graph_Below [.tmp 4] F.graph_Graph_Below :=
  cs Tryz.func30 (by kernel_rfl) (by kernel_rfl)
noncomputable def k_kedgelaw15_built : KC :=
(.seq (.reg false <| oR 2 (.box 72 (t 0))<| oR 4 (.move (.const (.pointer none)))<| oR 5 (.move (.const (.slice none 0 0)))<| .nil) (.seq (.reg false <|
 oR 11 (.call 13 [])<| oM 6 11<| .nil) (.seq (.reg false <| oR 7 (.move (.const (.slice none 0 0)))<| .nil) (.seq (.seq (.reg false <| oF 12 0 2<| oL 13 12<| oF 14 0 2<|
 oL 15 14<| oD 16 15<| oR 17 (.minmax false (t 16) [(oi 34)])<| oR 18 (.sliceSl 1 (t 13) none (some (t 17)))<| oD 19 18<| oO 20 0<| .nil)
 (.block 0 (.loop (.seq (.reg false <| oB 21 .lss 20 19<| .nil) (.seq (.cond (t 21) .skip (.exit 0)) (.seq (.block 1 (.seq (.reg false <| oM 22 20<| oI 23 1 18 20<|
 oL 24 23<| oM 8 22<| oM 9 24<| .nil) (.seq (.reg false <| oM 25 7<| oK 26 4 2<| oM 27 8<| oM 28 9<| oR 29 (.call 62 [(t 25), (t 26), (t 27), (t 28)])<|
 oR 10 (.alloc 35 [(.int .u32 0), (.slice none 0 0), (.slice none 0 0), (.int .u32 0)])<| oU 4 10 29<| .nil) (.seq (.seq (.reg false <| oM 30 1<| oT 31 30<| oM 32 31<|
 oG 33 32 true (.move (t 6))<| oG 34 32 true (.loadN 4 (t 10))<| oG 35 32 true (ob 33 33 34)<| oG 36 32 true (.bin .neq (t 35) (oi 0))<|
 oR 37 (.pick (t 32) (t 36) (.const (.bool false)))<| .nil) (.cond (t 37) (.exit 1) .skip)) (.seq (.reg false <| oM 38 6<| oK 39 4 10<|
 oR 40 (.call 17 [(t 38), (t 39), (oi 1)])<| .nil) (.reg false <| oM 42 7<| oK 43 4 10<| oR 44 (.call 18 [(t 42), (t 43), (oi 1)])<| oM 41 44<| oX 45 0 41<| oX 46 1 41<|
 oM 7 45<| .nil)))))) (.reg false <| oC 47 .add 20 1<| oM 20 47<| .nil))))))) (.seq (.reg false <| oM 48 6<| oM 49 7<| oM 4 48<| oM 5 49<| .nil) .ret)))))
theorem s_kedgelaw15_built : CS 50 k_kedgelaw15_built [.tmp 4, .tmp 5] F.kedgelaw15_built :=
  cs Tryz.func31 (by kernel_rfl) (by kernel_rfl)
noncomputable def k_kedgeref14_Make : KC :=
(.seq (.reg false <| oR 3 (.box 31 (t 1))<| oR 4 (.alloc 35 [(.int .u32 0), (.slice none 0 0), (.slice none 0 0), (.int .u32 0)])<| .nil) (.seq (.reg false <| oF 11 4 3<|
 oL 12 11<| oV 13 .u32 12<| oR 14 (.build [(.int .u32 0), (.slice none 0 0), (.slice none 0 0), (.int .u32 0)] [(0, 1, (.const (.int .u32 2))), (3, 1, (t 13))])<|
 oR 5 (.alloc 35 [(.int .u32 0), (.slice none 0 0), (.slice none 0 0), (.int .u32 0)])<| oU 4 5 14<| .nil) (.seq (.seq (.reg false <| oO 6 0<| .nil)
 (.block 0 (.loop (.seq (.seq (.reg false <| oM 15 6<| oF 16 0 3<| oL 17 16<| oD 18 17<| oB 19 .lss 15 18<| oM 20 19<| oG 21 20 true (.move (t 6))<|
 oG 22 20 true (.bin .lss (t 21) (oi 4))<| oR 23 (.pick (t 20) (t 22) (.const (.bool false)))<| .nil) (.cond (t 23) .skip (.exit 0))) (.seq (.block 1 (.seq (.reg false <|
 oF 26 0 3<| oL 27 26<| oM 28 6<| oI 29 1 27 28<| oL 30 29<| oV 31 .i64 30<| oM 7 31<| .nil) (.seq (.reg false <| oM 32 7<| oC 33 .rem 32 16<| oR 34 (oa 37 33)<|
 oM 8 34<| .nil) (.seq (.seq (.reg false <| oM 35 7<| oC 36 .lss 35 128<| oM 37 36<| oG 38 37 true (.move (t 0))<| oG 39 37 true (.len false (t 38))<|
 oG 40 37 true (.bin .gtr (t 39) (oi 0))<| oR 41 (.pick (t 37) (t 40) (.const (.bool false)))<| .nil) (.cond (t 41) (.reg false <| oM 42 0<| oM 43 7<| oM 44 0<| oD 45 44<|
 oB 46 .rem 43 45<| oI 47 7 42 46<| oF 48 4 47<| oL 49 48<| oM 8 49<| .nil) .skip)) (.reg true <| .join (oF 50 1 5<| oM 52 8<| oF 53 1 3<| oL 54 53<| oV 55 .i64 54<|
 oM 56 6<| oR 57 (.bin .mul (oi 2) (t 56))<| oB 58 .shr 55 57<| oV 59 .u32 58<| oR 60 (.bin .rem (t 59) (.const (.int .u32 4)))<|
 oR 61 (.build [(.string ⟨#[]⟩), (.int .u32 0)] [(0, 1, (t 52)), (1, 1, (t 60))])<|
 oR 62 (.build [(.string ⟨#[]⟩), (.int .u32 0), (.int .u32 0), (.slice none 0 0)] [(0, 2, (t 61)), (2, 1, (.const (.int .u32 4294967293)))])<| .both (oL 51 50<|
 oR 63 (.buildSlice 50 1 [(.string ⟨#[]⟩), (.int .u32 0), (.int .u32 0), (.slice none 0 0)] [(0, 4, (t 62))])<| .nil)
 (oR 63 (.buildSlice 50 1 [(.string ⟨#[]⟩), (.int .u32 0), (.int .u32 0), (.slice none 0 0)] [(0, 4, (t 62))])<|
 oL 51 50<| .nil)) <|oR 64 (.append 50 4 56 [(.string ⟨#[]⟩), (.int .u32 0), (.int .u32 0), (.slice none 0 0)] (t 51) (t 63))<| oF 65 1 5<| oS 65 64<| .nil)))))
 (.reg false <| oM 24 6<| oC 25 .add 24 1<| oM 6 25<| .nil)))))) (.seq (.seq (.reg false <| oO 9 0<| .nil) (.block 2 (.loop (.seq (.seq (.reg false <| oM 66 9<| oF 67 2 3<|
 oL 68 67<| oR 69 (.bin .rem (t 68) (.const (.int .u8 3)))<| oV 70 .i64 69<| oB 71 .leq 66 70<| .nil) (.cond (t 71) .skip (.exit 2))) (.seq (.block 3 (.reg false <|
 oF 74 2 5<| oL 75 74<| oM 76 9<| oR 77 (.bin .add (oi 1000) (t 76))<|
 oR 78 (.build [(.int .i64 0), (.string ⟨#[]⟩)] [(0, 1, (t 77)), (1, 1, (.const (.string ⟨#[1, 1, 0, 0, 0, 0, 0, 0, 0]⟩)))])<|
 oR 79 (.buildSlice 58 1 [(.int .i64 0), (.string ⟨#[]⟩)] [(0, 2, (t 78))])<| oR 80 (.append 58 2 24 [(.int .i64 0), (.string ⟨#[]⟩)] (t 75) (t 79))<| oF 81 2 5<|
 oS 81 80<| .nil)) (.reg false <| oM 72 9<| oC 73 .add 72 1<| oM 9 73<| .nil)))))) (.seq (.seq (.reg false <| oO 10 0<| .nil) (.block 4 (.loop (.seq (.seq (.reg false <|
 oM 82 10<| oF 83 5 3<| oL 84 83<| oV 85 .i64 84<| oB 86 .lss 82 85<| .nil) (.cond (t 86) .skip (.exit 4))) (.seq (.block 5 (.reg false <| oF 89 2 5<| oL 90 89<|
 oR 91 (.build [(.int .i64 0), (.string ⟨#[]⟩)] [(0, 1, (oi 1000)), (1, 1, (.const (.string ⟨#[48, 49, 50, 51, 52, 53, 54, 55, 56, 57, 48, 49, 50, 51, 52, 53, 54, 55, 56, 57, 48, 49, 50, 51, 52, 53, 54, 55, 56, 57, 48, 49, 50, 51, 52, 53, 54, 55, 56, 57]⟩)))])<|
 oR 92 (.buildSlice 58 1 [(.int .i64 0), (.string ⟨#[]⟩)] [(0, 2, (t 91))])<| oR 93 (.append 58 2 24 [(.int .i64 0), (.string ⟨#[]⟩)] (t 90) (t 92))<| oF 94 2 5<|
 oS 94 93<| .nil)) (.reg false <| oM 87 10<| oC 88 .add 87 1<| oM 10 88<| .nil)))))) (.seq (.reg false <| oK 95 4 5<| oU 4 4 95<| .nil) .ret))))))
theorem s_kedgeref14_Make : CS 96 k_kedgeref14_Make [.cellN 4 4] F.kedgeref14_Make :=
  cs Tryz.func32 (by kernel_rfl) (by kernel_rfl)
noncomputable def k_limit_Fits : KC :=
(.seq (.reg false <| oR 3 (.box 35 (t 1))<| oO 4 0<| .nil) (.seq (.seq (.reg false <| oM 8 0<| oR 9 (.eqNil false .pointer (t 8) (.const (.pointer none)))<| .nil)
 (.cond (t 9) (.seq (.reg false <| oO 4 1<| .nil) .ret) .skip)) (.seq (.reg false <| oK 11 4 3<| oR 12 (oa 63 11)<| oM 10 12<| oX 13 0 10<| oX 14 1 10<| oM 5 13<|
 oM 6 14<| .nil) (.seq (.seq (.reg false <| oM 15 6<| oC 16 .neq 15 0<| .nil) (.cond (t 16) (.seq (.reg false <| oM 17 6<| oM 4 17<| .nil) .ret) .skip))
 (.seq (.reg false <| oM 18 0<| oK 19 4 3<| oR 20 (ob 28 18 19)<| oM 7 20<| .nil) (.seq (.block 0 (.seq (.reg false <| oM 22 0<| oM 23 7<| oM 24 5<|
 oR 25 (.call 64 [(t 22), (t 23), (t 24), (oi 25), (oi 101000)])<| oT 26 25<| oM 21 26<| .nil) (.cond (t 21) (.seq (.reg false <| oO 4 14<| .nil) .ret) (.seq (.reg false <|
 oM 28 0<| oM 29 7<| oM 30 5<| oR 31 (.call 65 [(t 28), (t 29), (t 30), (oi 25), (oi 101000)])<| oM 27 31<| .nil) (.cond (t 27) (.seq (.reg false <|
 oO 4 0<| .nil) .ret) (.seq (.reg false <| oM 33 7<| oD 34 33<| oC 35 .eql 34 1<| oM 36 35<| oG 37 36 true (.move (t 5))<| oG 38 36 true (.bin .leq (t 37) (oi 10000))<|
 oR 39 (.pick (t 36) (t 38) (.const (.bool false)))<| oM 40 39<| oG 41 40 true (.move (t 0))<| oG 42 40 true (.move (t 7))<| oG 43 40 true (.move (t 5))<|
 oG 44 40 true (.call 65 [(t 41), (t 42), (t 43), (oi 26), (oi 111000)])<| oR 45 (.pick (t 40) (t 44) (.const (.bool false)))<| oM 32 45<| .nil)
 (.cond (t 32) (.seq (.reg false <| oO 4 0<| .nil) .ret) .skip))))))) (.seq (.reg false <| oO 4 14<| .nil) .ret)))))))
theorem s_limit_Fits : CS 46 k_limit_Fits [.tmp 4] F.limit_Fits :=
  cs Tryz.func33 (by kernel_rfl) (by kernel_rfl)
noncomputable def k_kedgeref15_Fits : KC :=
(.seq (.reg false <| oR 3 (.box 35 (t 1))<| oO 4 0<| .nil) (.seq (.reg false <| oK 17 4 3<| oR 18 (oa 51 17)<| oM 5 18<| .nil) (.seq (.seq (.reg false <| oM 19 5<|
 oC 20 .neq 19 0<| .nil) (.cond (t 20) (.seq (.reg false <| oM 21 5<| oM 4 21<| .nil) .ret) .skip)) (.seq (.reg false <| oK 22 4 3<| oR 23 (oa 54 22)<| oM 6 23<| .nil)
 (.seq (.reg false <| oM 24 0<| oK 25 4 3<| oR 26 (ob 41 24 25)<| oM 7 26<| .nil) (.seq (.reg false <| oM 27 7<| oR 28 (oa 66 27)<| oM 8 28<| .nil) (.seq (.reg false <|
 oM 30 0<| oM 31 7<| oR 32 (ob 42 30 31)<| oM 29 32<| oX 33 0 29<| oX 34 1 29<| oM 9 33<| oM 10 34<| .nil) (.seq (.seq (.reg false <| oM 35 8<| oC 36 .add 35 1<|
 oC 37 .gtr 36 25<| oM 38 37<| oG 39 38 false (.move (t 10))<| oG 40 38 false (.move (t 6))<| oG 41 38 false (.bin .add (t 39) (t 40))<|
 oG 42 38 false (.bin .gtr (t 41) (oi 101000))<| oR 43 (.pick (t 38) (.const (.bool true)) (t 42))<| .nil) (.cond (t 43) (.seq (.reg false <| oO 4 14<| .nil) .ret) .skip))
 (.seq (.reg false <| oR 11 (.move (.const (.bool true)))<| .nil) (.seq (.seq (.reg false <| oO 12 0<| .nil) (.block 0 (.loop (.seq (.seq (.reg false <| oM 44 12<|
 oM 45 0<| oD 46 45<| oB 47 .lss 44 46<| .nil) (.cond (t 47) .skip (.exit 0))) (.seq (.block 1 (.seq (.seq (.reg false <| oM 50 7<| oM 51 12<| oI 52 1 50 51<| oL 53 52<|
 oT 54 53<| .nil) (.cond (t 54) (.exit 1) .skip)) (.seq (.reg false <| oM 55 0<| oM 56 0<| oM 57 12<| oI 58 7 56 57<| oF 59 4 58<| oL 60 59<| oR 61 (ob 45 55 60)<|
 oM 13 61<| .nil) (.seq (.reg false <| oM 62 13<| oR 63 (oa 66 62)<| oM 14 63<| .nil) (.seq (.reg false <| oM 65 0<| oM 66 13<| oR 67 (ob 42 65 66)<| oM 64 67<|
 oX 68 0 64<| oX 69 1 64<| oM 15 68<| oM 16 69<| .nil) (.seq (.seq (.reg false <| oM 70 14<| oC 71 .add 70 1<| oC 72 .gtr 71 25<| oM 73 72<| oG 74 73 false (.move (t 16))<|
 oG 75 73 false (.move (t 6))<| oG 76 73 false (.bin .add (t 74) (t 75))<| oG 77 73 false (.bin .gtr (t 76) (oi 101000))<|
 oR 78 (.pick (t 73) (.const (.bool true)) (t 77))<| .nil) (.cond (t 78) (.reg false <| oR 11 (.move (.const (.bool false)))<| .nil) .skip)) (.seq (.reg false <| oM 79 8<|
 oC 80 .eql 79 1<| oM 81 80<| oG 82 81 true (.move (t 6))<| oG 83 81 true (.bin .leq (t 82) (oi 10000))<| oR 84 (.pick (t 81) (t 83) (.const (.bool false)))<| oM 85 84<|
 oG 86 85 true (.move (t 14))<| oG 87 85 true (.bin .add (t 86) (oi 1))<| oG 88 85 true (.bin .leq (t 87) (oi 26))<| oR 89 (.pick (t 85) (t 88) (.const (.bool false)))<|
 oM 90 89<| oG 91 90 true (.move (t 16))<| oG 92 90 true (.move (t 6))<| oG 93 90 true (.bin .add (t 91) (t 92))<| oG 94 90 true (.bin .leq (t 93) (oi 111000))<|
 oR 95 (.pick (t 90) (t 94) (.const (.bool false)))<| .nil) (.cond (t 95) (.seq (.reg false <| oO 4 0<| .nil) .ret) .skip)))))))) (.reg false <| oM 48 12<|
 oC 49 .add 48 1<| oM 12 49<| .nil)))))) (.seq (.seq (.reg false <| oM 96 11<| .nil) (.cond (t 96) (.seq (.reg false <| oO 4 0<| .nil) .ret) .skip)) (.seq (.reg false <|
 oO 4 14<| .nil) .ret))))))))))))
theorem s_kedgeref15_Fits : CS 97 k_kedgeref15_Fits [.tmp 4] F.kedgeref15_Fits :=
  cs Tryz.func34 (by kernel_rfl) (by kernel_rfl)
noncomputable def k_kedgelaw15_wakes : KC :=
(.seq (.reg false <| oR 0 (.move (.const (.bool false)))<| .nil) (.seq (.reg false <| oR 5 (.call 13 [])<| oM 1 5<| .nil) (.seq (.reg false <| oR 6 (.call 37 [(oi 3)])<|
 oM 2 6<| .nil) (.seq (.seq (.reg false <| oO 7 0<| .nil) (.block 0 (.loop (.seq (.reg false <| oC 8 .lss 7 25<| .nil) (.seq (.cond (t 8) .skip (.exit 0))
 (.seq (.block 1 (.seq (.reg false <| oM 9 7<| oM 3 9<| .nil) (.seq (.reg false <| oM 10 2<| oM 11 3<| oR 12 (.call 39 [(t 10), (oi 0), (t 11)])<|
 oR 4 (.alloc 35 [(.int .u32 0), (.slice none 0 0), (.slice none 0 0), (.int .u32 0)])<| oU 4 4 12<| .nil) (.seq (.seq (.reg false <| oM 13 1<| oK 14 4 4<|
 oR 15 (ob 33 13 14)<| oC 16 .neq 15 0<| oM 17 16<| oG 18 17 false (.move (t 1))<| oG 19 17 false (.loadN 4 (t 4))<| oG 20 17 false (.call 17 [(t 18), (t 19), (oi 1)])<|
 oG 21 17 false (.bin .neq (t 20) (oi 0))<| oR 22 (.pick (t 17) (.const (.bool true)) (t 21))<| .nil) (.cond (t 22) (.seq (.reg false <|
 oR 0 (.move (.const (.bool false)))<| .nil) .ret) .skip)) (.reg false <| oK 23 4 4<| oR 24 (oa 38 23)<| oM 2 24<| .nil))))) (.reg false <| oC 25 .add 7 1<|
 oM 7 25<| .nil))))))) (.seq (.reg false <| oM 26 1<| oM 27 2<| oR 28 (.call 39 [(t 27), (oi 0), (oi 99)])<| oR 29 (ob 33 26 28)<| oC 30 .eql 29 14<| oM 31 30<|
 oG 32 31 true (.move (t 2))<| oG 33 31 true (.call 39 [(t 32), (oi 0), (oi 99)])<| oG 34 31 true (.call 33 [(.const (.pointer none)), (t 33)])<|
 oG 35 31 true (.bin .eql (t 34) (oi 1))<| oR 36 (.pick (t 31) (t 35) (.const (.bool false)))<| oM 0 36<| .nil) .ret)))))
theorem s_kedgelaw15_wakes : CS 37 k_kedgelaw15_wakes [.tmp 0] F.kedgelaw15_wakes :=
  cs Tryz.func35 (by kernel_rfl) (by kernel_rfl)
end Go.Proofs.YtfeifodeaphbjaaGreat
end
