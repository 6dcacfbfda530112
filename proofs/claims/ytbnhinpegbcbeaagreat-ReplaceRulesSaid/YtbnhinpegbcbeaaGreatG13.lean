/- The resolved code of functions, printed by program. -/
import Derived.Test.YtbnhinpegbcbeaaGreatG12
set_option linter.unusedVariables false
set_option linter.unusedSimpArgs false
section
namespace Go.Proofs.YtbnhinpegbcbeaaGreat
open Go Go.K
noncomputable def k_kedgelaw16_ReplaceRules : KC :=
(.seq (.reg false <| oR 4 (.box 27 (t 1))<| oR 5 (.box 32 (t 2))<| oR 6 (.move (.const (.bool false)))<| .nil) (.seq (.reg false <| oM 14 0<|
 oR 15 (.call 10 [(t 14), (oi 12)])<| oM 13 15<| oX 16 0 13<| oX 17 1 13<| oM 7 16<| oM 8 17<| .nil) (.seq (.seq (.reg true <| .join (oM 18 8<| oK 19 7 4<|
 oO 25 0<| .both (oR 20 (ob 11 18 19)<| oK 21 4 5<| .nil) (oK 21 4 5<| oR 20 (ob 11 18 19)<| .nil)) <|oR 22 (.call 12 [(t 21), (oi 4)])<|
 oR 23 (.buildSlice 32 2 [(.int .u32 0), (.slice none 0 0), (.slice none 0 0), (.int .u32 0), (.int .u32 0), (.slice none 0 0), (.slice none 0 0), (.int .u32 0)] [(0, 4, (t 20)), (4, 4, (t 22))])<|
 oD 24 23<| .nil) (.block 0 (.loop (.seq (.reg false <| oB 26 .lss 25 24<| .nil) (.seq (.cond (t 26) .skip (.exit 0)) (.seq (.block 1 (.seq (.reg false <| oI 27 4 23 25<|
 oK 28 4 27<| oR 10 (.alloc 32 [(.int .u32 0), (.slice none 0 0), (.slice none 0 0), (.int .u32 0)])<| oU 4 10 28<| .nil) (.seq (.seq (.reg true <| .join (oM 29 7<|
 oK 30 4 10<| oM 32 8<| oM 33 8<| .both (oR 31 (ob 14 29 30)<| oK 34 4 10<| .nil) (oK 34 4 10<| oR 31 (ob 14 29 30)<| .nil)) <|.join (oR 35 (ob 16 33 34)<|
 oR 36 (ob 15 32 35)<| oR 37 (ob 13 31 36)<| oT 38 37<| oM 39 38<| oG 40 39 false (.move (t 7))<| oG 43 39 false (.move (t 8))<|
 oG 44 39 false (.move (t 8))<| .nil) <|.join (oG 41 39 false (.loadN 4 (t 10))<| .both (oG 42 39 false (ob 17 40 41)<| oG 45 39 false (.loadN 4 (t 10))<| .nil)
 (oG 45 39 false (.loadN 4 (t 10))<| oG 42 39 false (ob 17 40 41)<| .nil)) <|oG 46 39 false (ob 18 44 45)<| oG 47 39 false (ob 15 43 46)<| oG 48 39 false (ob 13 42 47)<|
 oG 49 39 false (.not (t 48))<| oR 50 (.pick (t 39) (.const (.bool true)) (t 49))<| .nil) (.cond (t 50) (.seq (.reg false <|
 oR 6 (.move (.const (.bool false)))<| .nil) .ret) .skip)) (.seq (.reg false <| oF 51 0 4<| oF 52 3 51<| oL 53 52<| oF 54 0 4<| oF 55 3 54<| oL 56 55<|
 oC 57 .and 56 65535<| oF 58 0 4<| oF 59 3 58<| oL 60 59<| oC 61 .and 60 16777215<|
 oR 62 (.buildSlice 3 3 [(.int .i64 0), (.int .i64 0), (.int .i64 0)] [(0, 1, (t 53)), (1, 1, (t 57)), (2, 1, (t 61))])<| oD 63 62<| oO 64 0<| .nil)
 (.block 2 (.loop (.seq (.reg false <| oB 65 .lss 64 63<| .nil) (.seq (.cond (t 65) .skip (.exit 2)) (.seq (.block 3 (.seq (.reg false <| oI 66 1 62 64<| oL 67 66<|
 oM 12 67<| .nil) (.seq (.reg true <| .join (oM 68 7<| oK 69 4 10<| oM 70 12<| oM 72 8<| oM 74 12<| .both (oR 71 (oc 19 68 69 70)<| oK 73 4 10<| .nil) (oK 73 4 10<|
 oR 71 (oc 19 68 69 70)<| .nil)) <|oR 75 (oc 20 72 73 74)<| oB 76 .neq 71 75<| .nil) (.cond (t 76) (.seq (.reg false <|
 oR 6 (.move (.const (.bool false)))<| .nil) .ret) .skip)))) (.reg false <| oC 77 .add 64 1<| oM 64 77<| .nil)))))))))) (.reg false <| oC 78 .add 25 1<|
 oM 25 78<| .nil))))))) (.seq (.reg false <| oR 79 (.call 21 [])<| oM 80 79<| oG 81 80 true (.loadN 4 (t 5))<|
 oG 82 80 true (.call 19 [(.const (.pointer none)), (t 81), (oi 0)])<| oG 83 80 true (.bin .eql (t 82) (oi 1))<| oR 84 (.pick (t 80) (t 83) (.const (.bool false)))<|
 oM 85 84<| oG 86 85 true (.loadN 4 (t 5))<| oG 87 85 true (.call 14 [(.const (.pointer none)), (t 86)])<| oG 88 85 true (.len false (t 87))<|
 oG 89 85 true (.bin .eql (t 88) (oi 0))<| oR 90 (.pick (t 85) (t 89) (.const (.bool false)))<| oM 91 90<| oG 92 91 true (.loadN 4 (t 5))<|
 oG 93 91 true (.call 17 [(.const (.pointer none)), (t 92)])<| oG 94 91 true (.len false (t 93))<| oG 95 91 true (.bin .eql (t 94) (oi 0))<|
 oR 96 (.pick (t 91) (t 95) (.const (.bool false)))<| oM 6 96<| .nil) .ret))))
theorem s_kedgelaw16_ReplaceRules : CS 97 k_kedgelaw16_ReplaceRules [.tmp 6] F.kedgelaw16_ReplaceRules :=
  cs Tryz.func3 (by kernel_rfl) (by kernel_rfl)
noncomputable def k_kedgelaw16_ReplaceNone : KC :=
(.seq (.reg false <| oR 3 (.box 27 (t 1))<| oR 4 (.move (.const (.bool false)))<| .nil) (.seq (.reg false <| oM 18 0<| oR 19 (.call 10 [(t 18), (oi 12)])<| oM 17 19<|
 oX 20 0 17<| oX 21 1 17<| oM 5 20<| oM 6 21<| .nil) (.seq (.reg false <| oM 22 6<| oK 23 7 3<| oR 24 (ob 11 22 23)<|
 oR 7 (.alloc 32 [(.int .u32 0), (.slice none 0 0), (.slice none 0 0), (.int .u32 0)])<| oU 4 7 24<| .nil) (.seq (.reg false <| oM 25 5<| oK 26 4 7<| oR 27 (ob 14 25 26)<|
 oM 8 27<| .nil) (.seq (.seq (.reg false <| oK 28 4 7<| oR 29 (oa 22 28)<| oC 30 .eql 29 0<| oM 31 30<| oG 32 31 true (.move (t 8))<| oG 33 31 true (.len false (t 32))<|
 oG 34 31 true (.bin .eql (t 33) (oi 0))<| oR 35 (.pick (t 31) (t 34) (.const (.bool false)))<| .nil) (.cond (t 35) (.seq (.reg false <| oM 37 5<| oK 38 4 7<|
 oR 39 (ob 23 37 38)<| oM 36 39<| oX 40 0 36<| oX 41 1 36<| oM 9 40<| oM 10 41<| .nil) (.seq (.reg false <| oM 42 10<| oC 43 .neq 42 0<| oM 44 43<|
 oG 45 44 false (.move (t 9))<| oG 46 44 false (.bin .neq (t 45) (oi 0))<| oR 47 (.pick (t 44) (.const (.bool true)) (t 46))<| oM 48 47<| oG 49 48 false (.move (t 5))<|
 oG 50 48 false (.loadN 4 (t 7))<| oG 51 48 false (.call 19 [(t 49), (t 50), (oi 0)])<| oG 52 48 false (.bin .neq (t 51) (oi 0))<|
 oR 53 (.pick (t 48) (.const (.bool true)) (t 52))<| oM 54 53<| oG 55 54 false (.move (t 5))<| oG 56 54 false (.loadN 4 (t 7))<| oG 57 54 false (ob 17 55 56)<|
 oG 58 54 false (.len false (t 57))<| oG 59 54 false (.bin .neq (t 58) (oi 0))<| oR 60 (.pick (t 54) (.const (.bool true)) (t 59))<| .nil)
 (.cond (t 60) (.seq (.reg false <| oR 4 (.move (.const (.bool false)))<| .nil) .ret) .skip))) .skip)) (.seq (.seq (.reg false <| oM 61 5<| oR 62 (oa 24 61)<| oD 63 62<|
 oO 64 0<| .nil) (.block 0 (.loop (.seq (.reg false <| oB 65 .lss 64 63<| .nil) (.seq (.cond (t 65) .skip (.exit 0)) (.seq (.block 1 (.seq (.reg false <| oI 66 7 62 64<|
 oK 67 7 66<| oR 12 (.alloc 57 [(.int .u32 0), (.slice none 0 0), (.slice none 0 0), (.int .u32 0), (.string ⟨#[]⟩), (.int .i64 0), (.int .i64 0)])<| oU 7 12 67<| .nil)
 (.seq (.seq (.reg true <| .join (oM 68 5<| oF 69 0 12<| oF 72 4 12<| .both (oK 70 4 69<| .both (oR 71 (ob 14 68 70)<| oL 73 72<|
 oR 74 (.buildSlice 9 1 [(.string ⟨#[]⟩)] [(0, 1, (t 73))])<| .nil) (oL 73 72<| .both (oR 71 (ob 14 68 70)<|
 oR 74 (.buildSlice 9 1 [(.string ⟨#[]⟩)] [(0, 1, (t 73))])<| .nil) (oR 74 (.buildSlice 9 1 [(.string ⟨#[]⟩)] [(0, 1, (t 73))])<| oR 71 (ob 14 68 70)<| .nil)))
 (oL 73 72<| .both (oK 70 4 69<| .both (oR 71 (ob 14 68 70)<| oR 74 (.buildSlice 9 1 [(.string ⟨#[]⟩)] [(0, 1, (t 73))])<| .nil)
 (oR 74 (.buildSlice 9 1 [(.string ⟨#[]⟩)] [(0, 1, (t 73))])<| oR 71 (ob 14 68 70)<| .nil)) (oR 74 (.buildSlice 9 1 [(.string ⟨#[]⟩)] [(0, 1, (t 73))])<| oK 70 4 69<|
 oR 71 (ob 14 68 70)<| .nil))) <|.join (oR 75 (ob 13 71 74)<| oT 76 75<| oM 77 76<| oG 78 77 false (.move (t 5))<| oG 79 77 false (.fieldAddr 0 (t 12))<|
 oG 82 77 false (.move (t 5))<| oG 83 77 false (.fieldAddr 4 (t 12))<| .nil) <|.join (oG 80 77 false (.loadN 4 (t 79))<| .both (oG 81 77 false (ob 17 78 80)<|
 oG 84 77 false (.load (t 83))<| .nil) (oG 84 77 false (.load (t 83))<| oG 81 77 false (ob 17 78 80)<| .nil)) <|oG 85 77 false (ob 25 82 84)<|
 oG 86 77 false (ob 13 81 85)<| oG 87 77 false (.not (t 86))<| oR 88 (.pick (t 77) (.const (.bool true)) (t 87))<| .nil) (.cond (t 88) (.seq (.reg false <|
 oR 4 (.move (.const (.bool false)))<| .nil) .ret) .skip)) (.seq (.reg false <| oF 89 1 7<| oL 90 89<| oD 91 90<| oO 92 0<| .nil) (.block 2 (.loop (.seq (.reg false <|
 oB 93 .lss 92 91<| .nil) (.seq (.cond (t 93) .skip (.exit 2)) (.seq (.block 3 (.seq (.reg false <| oI 94 4 90 92<| oK 95 4 94<|
 oR 14 (.alloc 62 [(.string ⟨#[]⟩), (.int .u32 0), (.int .u32 0), (.slice none 0 0)])<| oU 4 14 95<| .nil) (.seq (.reg false <| oF 96 0 12<| oF 97 1 96<| oL 98 97<|
 oD 99 98<| oO 100 0<| .nil) (.block 4 (.loop (.seq (.reg false <| oB 101 .lss 100 99<| .nil) (.seq (.cond (t 101) .skip (.exit 4)) (.seq (.block 5 (.seq (.reg false <|
 oI 102 4 98 100<| oK 103 4 102<| oR 16 (.alloc 62 [(.string ⟨#[]⟩), (.int .u32 0), (.int .u32 0), (.slice none 0 0)])<| oU 4 16 103<| .nil) (.seq (.reg false <|
 oF 104 0 14<| oK 105 2 104<| oF 106 0 16<| oK 107 2 106<| oR 108 (.eqAgg false [.s, .i] (t 105) (t 107))<| oM 109 108<| oG 110 109 true (.move (t 8))<|
 oG 111 109 true (.fieldAddr 4 (t 12))<| oG 112 109 true (.load (t 111))<| oG 113 109 true (ob 26 110 112)<| oG 114 109 true (.not (t 113))<|
 oR 115 (.pick (t 109) (t 114) (.const (.bool false)))<| .nil) (.cond (t 115) (.seq (.reg false <| oR 4 (.move (.const (.bool false)))<| .nil) .ret) .skip))))
 (.reg false <| oC 116 .add 100 1<| oM 100 116<| .nil))))))))) (.reg false <| oC 117 .add 92 1<| oM 92 117<| .nil)))))))))) (.reg false <| oC 118 .add 64 1<|
 oM 64 118<| .nil))))))) (.seq (.reg false <| oR 119 (.call 21 [])<| oM 4 119<| .nil) .ret))))))) -- f8 FAILS kernel whnf fails
theorem s_kedgelaw16_ReplaceNone : CS 120 k_kedgelaw16_ReplaceNone [.tmp 4] F.kedgelaw16_ReplaceNone :=
  cs Tryz.func4 (by kernel_rfl) (by kernel_rfl)
noncomputable def k_kedgelaw16_filled : KC :=
(.seq (.reg false <| oR 4 (.move (.const (.pointer none)))<| oR 5 (.move (.const (.slice none 0 0)))<| .nil) (.seq (.reg false <| oR 11 (.call 28 [])<| oM 6 11<| .nil)
 (.seq (.reg false <| oR 7 (.move (.const (.slice none 0 0)))<| .nil) (.seq (.seq (.reg false <| oM 12 0<| oM 13 0<| oD 14 13<| oM 15 1<|
 oR 16 (.minmax false (t 14) [(t 15)])<| oR 17 (.sliceSl 7 (t 12) none (some (t 16)))<| oD 18 17<| oO 19 0<| .nil) (.block 0 (.loop (.seq (.reg false <|
 oB 20 .lss 19 18<| .nil) (.seq (.cond (t 20) .skip (.exit 0)) (.seq (.block 1 (.seq (.reg false <| oI 21 7 17 19<| oK 22 7 21<|
 oR 9 (.alloc 27 [(.slice none 0 0), (.int .u8 0), (.int .u8 0), (.int .i64 0), (.int .u8 0), (.int .u8 0), (.bool false)])<| oU 7 9 22<| .nil) (.seq (.reg false <|
 oM 23 7<| oK 24 7 9<| oR 25 (ob 11 23 24)<| oR 10 (.alloc 32 [(.int .u32 0), (.slice none 0 0), (.slice none 0 0), (.int .u32 0)])<| oU 4 10 25<| .nil)
 (.seq (.reg false <| oM 26 6<| oK 27 4 10<| oF 28 0 9<| oF 29 3 28<| oL 30 29<| oC 31 .and 30 16777215<| oR 32 (oc 51 26 27 31)<| .nil) (.reg false <| oM 34 7<|
 oK 35 4 10<| oF 36 0 9<| oF 37 3 36<| oL 38 37<| oC 39 .and 38 16777215<| oR 40 (oc 52 34 35 39)<| oM 33 40<| oX 41 0 33<| oX 42 1 33<| oM 7 41<| .nil))))) (.reg false <|
 oC 43 .add 19 1<| oM 19 43<| .nil))))))) (.seq (.reg false <| oM 44 6<| oM 45 7<| oM 4 44<| oM 5 45<| .nil) .ret)))))
theorem s_kedgelaw16_filled : CS 46 k_kedgelaw16_filled [.tmp 4, .tmp 5] F.kedgelaw16_filled :=
  cs Tryz.func10 (by kernel_rfl) (by kernel_rfl)
noncomputable def k_kedgelaw16_of : KC :=
(.seq (.reg false <| oR 3 (.box 27 (t 1))<| oR 4 (.alloc 32 [(.int .u32 0), (.slice none 0 0), (.slice none 0 0), (.int .u32 0)])<| .nil) (.seq (.reg false <| oF 8 0 3<|
 oK 9 6 8<| oR 5 (.alloc 25 [(.slice none 0 0), (.int .u8 0), (.int .u8 0), (.int .i64 0), (.int .u8 0), (.int .u8 0)])<| oU 6 5 9<| .nil) (.seq (.reg false <| oF 10 5 5<|
 oL 11 10<| oR 12 (.bin .rem (t 11) (.const (.int .u8 4)))<| oF 13 5 5<| oS 13 12<| .nil) (.seq (.reg false <| oM 14 0<| oK 15 6 5<| oR 16 (ob 53 14 15)<|
 oR 6 (.alloc 32 [(.int .u32 0), (.slice none 0 0), (.slice none 0 0), (.int .u32 0)])<| oU 4 6 16<| .nil) (.seq (.seq (.reg false <| oF 17 1 6<| oL 18 17<| oD 19 18<|
 oO 20 0<| .nil) (.block 0 (.loop (.seq (.reg false <| oB 21 .lss 20 19<| .nil) (.seq (.cond (t 21) .skip (.exit 0)) (.seq (.block 1 (.seq (.reg false <| oM 22 20<|
 oM 7 22<| .nil) (.seq (.reg false <| oF 23 6 3<| oL 24 23<| .nil) (.cond (t 24) (.reg false <| oF 25 1 6<| oL 26 25<| oM 27 7<| oI 28 4 26 27<| oF 29 2 28<|
 oQ (.store (t 29) (.const (.int .u32 4294967294)))<| .nil) .skip)))) (.reg false <| oC 30 .add 20 1<| oM 20 30<| .nil))))))) (.seq (.reg false <| oK 31 4 6<|
 oU 4 4 31<| .nil) .ret))))))
theorem s_kedgelaw16_of : CS 32 k_kedgelaw16_of [.cellN 4 4] F.kedgelaw16_of :=
  cs Tryz.func11 (by kernel_rfl) (by kernel_rfl)
noncomputable def k_kedgeref05_Cut : KC :=
(.seq (.reg false <| oR 2 (.box 32 (t 0))<| oR 4 (.alloc 32 [(.int .u32 0), (.slice none 0 0), (.slice none 0 0), (.int .u32 0)])<| .nil) (.seq (.reg false <| oF 12 0 2<|
 oL 13 12<| oF 14 3 2<| oL 15 14<| oR 16 (.build [(.int .u32 0), (.slice none 0 0), (.slice none 0 0), (.int .u32 0)] [(0, 1, (t 13)), (3, 1, (t 15))])<|
 oR 5 (.alloc 32 [(.int .u32 0), (.slice none 0 0), (.slice none 0 0), (.int .u32 0)])<| oU 4 5 16<| .nil) (.seq (.seq (.reg false <| oO 6 0<| .nil)
 (.block 0 (.loop (.seq (.seq (.reg false <| oM 17 6<| oF 18 1 2<| oL 19 18<| oD 20 19<| oB 21 .lss 17 20<| oM 22 21<| oG 23 22 true (.move (t 6))<|
 oG 24 22 true (.move (t 1))<| oG 25 22 true (.bin .lss (t 23) (t 24))<| oR 26 (.pick (t 22) (t 25) (.const (.bool false)))<| .nil) (.cond (t 26) .skip (.exit 0)))
 (.seq (.block 1 (.seq (.reg true <| .join (oF 29 1 2<| oL 30 29<| oM 31 6<| oI 32 4 30 31<| oF 33 0 32<| oK 34 2 33<| oF 35 1 2<| oL 36 35<| oM 37 6<| oI 38 4 36 37<|
 oF 39 2 38<| oL 40 39<| oR 41 (.build [(.string ⟨#[]⟩), (.int .u32 0), (.int .u32 0), (.slice none 0 0)] [(0, 2, (t 34)), (2, 1, (t 40))])<|
 oR 7 (.alloc 62 [(.string ⟨#[]⟩), (.int .u32 0), (.int .u32 0), (.slice none 0 0)])<| .nil) <|oU 4 7 41<| .nil) (.seq (.seq (.reg false <| oF 42 0 7<| oF 43 0 42<|
 oL 44 43<| oR 45 (.len true (t 44))<| oC 46 .gtr 45 40<| .nil) (.cond (t 46) (.reg false <| oF 47 0 7<| oF 48 0 47<| oL 49 48<|
 oR 50 (.sliceStr (t 49) none (some (oi 40)))<| oF 51 0 7<| oF 52 0 51<| oS 52 50<| .nil) .skip)) (.seq (.seq (.reg false <| oO 8 0<| .nil)
 (.block 2 (.loop (.seq (.seq (.reg false <| oM 53 8<| oF 54 1 2<| oL 55 54<| oM 56 6<| oI 57 4 55 56<| oF 58 3 57<| oL 59 58<| oD 60 59<| oB 61 .lss 53 60<| oM 62 61<|
 oG 63 62 true (.move (t 8))<| oG 64 62 true (.bin .lss (t 63) (oi 6))<| oR 65 (.pick (t 62) (t 64) (.const (.bool false)))<| .nil) (.cond (t 65) .skip (.exit 2)))
 (.seq (.block 3 (.seq (.reg false <| oF 68 1 2<| oL 69 68<| oM 70 6<| oI 71 4 69 70<| oF 72 3 71<| oL 73 72<| oM 74 8<| oI 75 1 73 74<| oL 76 75<| oM 9 76<| .nil)
 (.seq (.seq (.reg false <| oM 77 9<| oR 78 (.len true (t 77))<| oC 79 .gtr 78 90<| .nil) (.cond (t 79) (.reg false <| oM 80 9<|
 oR 81 (.sliceStr (t 80) none (some (oi 90)))<| oM 9 81<| .nil) .skip)) (.reg false <| oF 82 3 7<| oL 83 82<| oM 84 9<|
 oR 85 (.buildSlice 9 1 [(.string ⟨#[]⟩)] [(0, 1, (t 84))])<| oR 86 (.append 9 1 16 [(.string ⟨#[]⟩)] (t 83) (t 85))<| oF 87 3 7<| oS 87 86<| .nil)))) (.reg false <|
 oM 66 8<| oC 67 .add 66 1<| oM 8 67<| .nil)))))) (.reg false <| oF 88 1 5<| oL 89 88<| oK 90 4 7<|
 oR 91 (.buildSlice 62 1 [(.string ⟨#[]⟩), (.int .u32 0), (.int .u32 0), (.slice none 0 0)] [(0, 4, (t 90))])<|
 oR 92 (.append 62 4 56 [(.string ⟨#[]⟩), (.int .u32 0), (.int .u32 0), (.slice none 0 0)] (t 89) (t 91))<| oF 93 1 5<| oS 93 92<| .nil))))) (.reg false <| oM 27 6<|
 oC 28 .add 27 1<| oM 6 28<| .nil)))))) (.seq (.seq (.reg false <| oO 10 0<| .nil) (.block 4 (.loop (.seq (.seq (.reg false <| oM 94 10<| oF 95 2 2<| oL 96 95<| oD 97 96<|
 oB 98 .lss 94 97<| oM 99 98<| oG 100 99 true (.move (t 10))<| oG 101 99 true (.move (t 1))<| oG 102 99 true (.bin .lss (t 100) (t 101))<|
 oR 103 (.pick (t 99) (t 102) (.const (.bool false)))<| .nil) (.cond (t 103) .skip (.exit 4))) (.seq (.block 5 (.seq (.reg false <| oF 106 2 2<| oL 107 106<| oM 108 10<|
 oI 109 2 107 108<| oK 110 2 109<| oR 11 (.alloc 87 [(.int .i64 0), (.string ⟨#[]⟩)])<| oU 2 11 110<| .nil) (.seq (.seq (.reg false <| oF 111 1 11<| oL 112 111<|
 oR 113 (.len true (t 112))<| oC 114 .gtr 113 50<| .nil) (.cond (t 114) (.reg false <| oF 115 1 11<| oL 116 115<| oR 117 (.sliceStr (t 116) none (some (oi 50)))<|
 oF 118 1 11<| oS 118 117<| .nil) .skip)) (.reg false <| oF 119 2 5<| oL 120 119<| oK 121 2 11<|
 oR 122 (.buildSlice 87 1 [(.int .i64 0), (.string ⟨#[]⟩)] [(0, 2, (t 121))])<| oR 123 (.append 87 2 24 [(.int .i64 0), (.string ⟨#[]⟩)] (t 120) (t 122))<| oF 124 2 5<|
 oS 124 123<| .nil)))) (.reg false <| oM 104 10<| oC 105 .add 104 1<| oM 10 105<| .nil)))))) (.seq (.reg false <| oK 125 4 5<| oU 4 4 125<| .nil) .ret)))))
theorem s_kedgeref05_Cut : CS 126 k_kedgeref05_Cut [.cellN 4 4] F.kedgeref05_Cut :=
  cs Tryz.func12 (by kernel_rfl) (by kernel_rfl)
noncomputable def k_slices_Equal_L_string_string : KC :=
(.seq (.reg false <| oR 4 (.move (.const (.bool false)))<| .nil) (.seq (.seq (.reg false <| oM 6 0<| oD 7 6<| oM 8 1<| oD 9 8<| oB 10 .neq 7 9<| .nil)
 (.cond (t 10) (.seq (.reg false <| oR 4 (.move (.const (.bool false)))<| .nil) .ret) .skip)) (.seq (.seq (.reg false <| oM 11 0<| oD 12 11<| oO 13 0<| .nil)
 (.block 0 (.loop (.seq (.reg false <| oB 14 .lss 13 12<| .nil) (.seq (.cond (t 14) .skip (.exit 0)) (.seq (.block 1 (.seq (.reg false <| oM 15 13<| oM 5 15<| .nil)
 (.seq (.reg true <| oM 16 0<| oM 17 5<| oI 18 1 16 17<| oL 19 18<| oM 20 1<| oM 21 5<| oI 22 1 20 21<| oL 23 22<| oB 24 .neq 19 23<| .nil)
 (.cond (t 24) (.seq (.reg false <| oR 4 (.move (.const (.bool false)))<| .nil) .ret) .skip)))) (.reg false <| oC 25 .add 13 1<| oM 13 25<| .nil))))))) (.seq (.reg false <|
 oR 4 (.move (.const (.bool true)))<| .nil) .ret))))
theorem s_slices_Equal_L_string_string : CS 26 k_slices_Equal_L_string_string [.tmp 4] F.slices_Equal_L_string_string :=
  cs Tryz.func13 (by kernel_rfl) (by kernel_rfl)
noncomputable def k_replace_Conflicts : KC :=
(.seq (.reg false <| oR 3 (.box 32 (t 1))<| oR 4 (.move (.const (.slice none 0 0)))<| .nil) (.seq (.reg false <| oR 5 (.move (.const (.slice none 0 0)))<| .nil)
 (.seq (.seq (.reg false <| oM 8 0<| oR 9 (oa 24 8)<| oD 10 9<| oO 11 0<| .nil) (.block 0 (.loop (.seq (.reg false <| oB 12 .lss 11 10<| .nil)
 (.seq (.cond (t 12) .skip (.exit 0)) (.seq (.block 1 (.seq (.reg false <| oI 13 7 9 11<| oK 14 7 13<|
 oR 7 (.alloc 57 [(.int .u32 0), (.slice none 0 0), (.slice none 0 0), (.int .u32 0), (.string ⟨#[]⟩), (.int .i64 0), (.int .i64 0)])<| oU 7 7 14<| .nil)
 (.seq (.reg false <| oF 15 0 7<| oF 16 1 15<| oL 17 16<| oR 18 (.makeFunc (.func 55) [] [(t 3)])<| oR 19 (ob 54 17 18)<| .nil) (.cond (t 19) (.reg false <| oM 20 5<|
 oF 21 4 7<| oL 22 21<| oR 23 (.buildSlice 9 1 [(.string ⟨#[]⟩)] [(0, 1, (t 22))])<| oR 24 (.append 9 1 16 [(.string ⟨#[]⟩)] (t 20) (t 23))<| oM 5 24<| .nil) .skip))))
 (.reg false <| oC 25 .add 11 1<| oM 11 25<| .nil))))))) (.seq (.reg false <| oM 26 5<| oM 4 26<| .nil) .ret))))
theorem s_replace_Conflicts : CS 27 k_replace_Conflicts [.tmp 4] F.replace_Conflicts :=
  cs Tryz.func14 (by kernel_rfl) (by kernel_rfl)
noncomputable def k_kedgeref14_IDs : KC :=
(.seq (.reg false <| oR 4 (.move (.const (.slice none 0 0)))<| .nil) (.seq (.reg false <| oR 5 (.move (.const (.slice none 0 0)))<| .nil) (.seq (.seq (.reg false <|
 oO 6 0<| .nil) (.block 0 (.loop (.seq (.seq (.reg false <| oM 7 6<| oM 8 0<| oD 9 8<| oB 10 .lss 7 9<| .nil) (.cond (t 10) .skip (.exit 0)))
 (.seq (.block 1 (.seq (.reg false <| oM 13 1<| oM 14 6<| oI 15 1 13 14<| oL 16 15<| .nil) (.cond (t 16) (.reg false <| oM 17 5<| oM 18 0<| oM 19 6<| oI 20 7 18 19<|
 oF 21 4 20<| oL 22 21<| oR 23 (.buildSlice 9 1 [(.string ⟨#[]⟩)] [(0, 1, (t 22))])<| oR 24 (.append 9 1 16 [(.string ⟨#[]⟩)] (t 17) (t 23))<| oM 5 24<| .nil) .skip)))
 (.reg false <| oM 11 6<| oC 12 .add 11 1<| oM 6 12<| .nil)))))) (.seq (.reg false <| oM 25 5<| oM 4 25<| .nil) .ret))))
theorem s_kedgeref14_IDs : CS 26 k_kedgeref14_IDs [.tmp 4] F.kedgeref14_IDs :=
  cs Tryz.func15 (by kernel_rfl) (by kernel_rfl)
noncomputable def k_kedgeref16_Conflicts : KC :=
(.seq (.reg false <| oR 3 (.box 32 (t 1))<| oR 4 (.move (.const (.slice none 0 0)))<| .nil) (.seq (.reg false <| oM 11 0<| oD 12 11<|
 oR 13 (.makeSlice 4 1 1 [(.bool false)] (t 12) (t 12))<| oM 5 13<| .nil) (.seq (.seq (.reg false <| oO 6 0<| .nil) (.block 0 (.loop (.seq (.seq (.reg false <| oM 14 6<|
 oM 15 0<| oD 16 15<| oB 17 .lss 14 16<| .nil) (.cond (t 17) .skip (.exit 0))) (.seq (.block 1 (.seq (.reg false <| oO 7 0<| .nil)
 (.block 2 (.loop (.seq (.seq (.reg false <| oM 20 7<| oM 21 0<| oM 22 6<| oI 23 7 21 22<| oF 24 0 23<| oF 25 1 24<| oL 26 25<| oD 27 26<| oB 28 .lss 20 27<| .nil)
 (.cond (t 28) .skip (.exit 2))) (.seq (.block 3 (.seq (.reg false <| oO 8 0<| .nil) (.block 4 (.loop (.seq (.seq (.reg false <| oM 31 8<| oF 32 1 3<| oL 33 32<| oD 34 33<|
 oB 35 .lss 31 34<| .nil) (.cond (t 35) .skip (.exit 4))) (.seq (.block 5 (.seq (.reg false <| oM 38 0<| oM 39 6<| oI 40 7 38 39<| oF 41 0 40<| oF 42 1 41<| oL 43 42<|
 oM 44 7<| oI 45 4 43 44<| oF 46 0 45<| oK 47 2 46<| oR 9 (.alloc 60 [(.string ⟨#[]⟩), (.int .u32 0)])<| oU 2 9 47<| .nil) (.seq (.reg false <| oF 48 1 3<| oL 49 48<|
 oM 50 8<| oI 51 4 49 50<| oF 52 0 51<| oK 53 2 52<| oR 10 (.alloc 60 [(.string ⟨#[]⟩), (.int .u32 0)])<| oU 2 10 53<| .nil) (.reg false <| oM 54 5<| oM 55 6<| oM 56 5<|
 oM 57 6<| oI 58 1 56 57<| oL 59 58<| oM 60 59<| oG 61 60 false (.fieldAddr 0 (t 9))<| oG 62 60 false (.load (t 61))<| oG 63 60 false (.fieldAddr 0 (t 10))<|
 oG 64 60 false (.load (t 63))<| oG 65 60 false (.bin .eql (t 62) (t 64))<| oG 66 60 false (.move (t 65))<| oG 67 66 true (.fieldAddr 1 (t 9))<|
 oG 68 66 true (.load (t 67))<| oG 69 66 true (.fieldAddr 1 (t 10))<| oG 70 66 true (.load (t 69))<| oG 71 66 true (.bin .eql (t 68) (t 70))<|
 oG 72 60 false (.pick (t 66) (t 71) (.const (.bool false)))<| oR 73 (.pick (t 60) (.const (.bool true)) (t 72))<| oI 74 1 54 55<| oS 74 73<| .nil)))) (.reg false <|
 oM 36 8<| oC 37 .add 36 1<| oM 8 37<| .nil))))))) (.reg false <| oM 29 7<| oC 30 .add 29 1<| oM 7 30<| .nil))))))) (.reg false <| oM 18 6<| oC 19 .add 18 1<|
 oM 6 19<| .nil)))))) (.seq (.reg false <| oM 75 5<| oM 4 75<| .nil) .ret))))
theorem s_kedgeref16_Conflicts : CS 76 k_kedgeref16_Conflicts [.tmp 4] F.kedgeref16_Conflicts :=
  cs Tryz.func16 (by kernel_rfl) (by kernel_rfl)
noncomputable def k_replace_Evicted : KC :=
(.seq (.reg false <| oR 3 (.box 32 (t 1))<| oR 4 (.move (.const (.slice none 0 0)))<| .nil) (.seq (.reg false <| oR 13 (.makeMap)<| oM 5 13<| .nil)
 (.seq (.seq (.reg false <| oM 14 0<| oK 15 4 3<| oR 16 (ob 14 14 15)<| oD 17 16<| oO 18 0<| .nil) (.block 0 (.loop (.seq (.reg false <| oB 19 .lss 18 17<| .nil)
 (.seq (.cond (t 19) .skip (.exit 0)) (.seq (.block 1 (.seq (.reg false <| oI 20 1 16 18<| oL 21 20<| oM 7 21<| .nil) (.seq (.reg false <| oM 22 0<| oM 23 7<|
 oR 24 (ob 25 22 23)<| oD 25 24<| oO 26 0<| .nil) (.block 2 (.loop (.seq (.reg false <| oB 27 .lss 26 25<| .nil) (.seq (.cond (t 27) .skip (.exit 2))
 (.seq (.block 3 (.seq (.reg false <| oI 28 1 24 26<| oL 29 28<| oM 9 29<| .nil) (.reg false <| oM 30 5<| oM 31 9<|
 oR 32 (.lookup false [.s] (.int .i64 0) false (t 30) (t 31))<| oC 33 .add 32 1<| oQ (.mapUpdate false [.s] (t 30) (t 31) (t 33))<| .nil))) (.reg false <| oC 34 .add 26 1<|
 oM 26 34<| .nil))))))))) (.reg false <| oC 35 .add 18 1<| oM 18 35<| .nil))))))) (.seq (.reg false <| oR 10 (.move (.const (.slice none 0 0)))<| .nil)
 (.seq (.seq (.reg false <| oM 36 0<| oR 37 (oa 24 36)<| oD 38 37<| oO 39 0<| .nil) (.block 4 (.loop (.seq (.reg false <| oB 40 .lss 39 38<| .nil)
 (.seq (.cond (t 40) .skip (.exit 4)) (.seq (.block 5 (.seq (.reg false <| oI 41 7 37 39<| oK 42 7 41<|
 oR 12 (.alloc 57 [(.int .u32 0), (.slice none 0 0), (.slice none 0 0), (.int .u32 0), (.string ⟨#[]⟩), (.int .i64 0), (.int .i64 0)])<| oU 7 12 42<| .nil)
 (.seq (.reg false <| oM 43 5<| oF 44 4 12<| oL 45 44<| oR 46 (.lookup false [.s] (.int .i64 0) false (t 43) (t 45))<| oC 47 .gtr 46 0<| .nil) (.cond (t 47) (.reg false <|
 oM 48 10<| oF 49 4 12<| oL 50 49<| oR 51 (.buildSlice 9 1 [(.string ⟨#[]⟩)] [(0, 1, (t 50))])<| oR 52 (.append 9 1 16 [(.string ⟨#[]⟩)] (t 48) (t 51))<|
 oM 10 52<| .nil) .skip)))) (.reg false <| oC 53 .add 39 1<| oM 39 53<| .nil))))))) (.seq (.reg false <| oM 54 10<| oM 4 54<| .nil) .ret))))))
theorem s_replace_Evicted : CS 55 k_replace_Evicted [.tmp 4] F.replace_Evicted :=
  cs Tryz.func17 (by kernel_rfl) (by kernel_rfl)
noncomputable def k_kedgeref16_Evicted : KC :=
(.seq (.reg false <| oR 3 (.box 32 (t 1))<| oR 4 (.move (.const (.slice none 0 0)))<| .nil) (.seq (.reg false <| oM 10 0<| oD 11 10<|
 oR 12 (.makeSlice 4 1 1 [(.bool false)] (t 11) (t 11))<| oM 5 12<| .nil) (.seq (.reg false <| oM 13 0<| oK 14 4 3<| oR 15 (ob 16 13 14)<| oM 6 15<| .nil)
 (.seq (.seq (.reg false <| oO 7 0<| .nil) (.block 0 (.loop (.seq (.seq (.reg false <| oM 16 7<| oM 17 0<| oD 18 17<| oB 19 .lss 16 18<| .nil)
 (.cond (t 19) .skip (.exit 0))) (.seq (.block 1 (.seq (.seq (.reg false <| oM 22 6<| oM 23 7<| oI 24 1 22 23<| oL 25 24<| oT 26 25<| .nil) (.cond (t 26) (.exit 1) .skip))
 (.seq (.reg false <| oM 27 0<| oM 28 0<| oM 29 7<| oI 30 7 28 29<| oF 31 4 30<| oL 32 31<| oR 33 (ob 57 27 32)<| oM 8 33<| .nil) (.seq (.reg false <| oO 9 0<| .nil)
 (.block 2 (.loop (.seq (.seq (.reg false <| oM 34 9<| oM 35 0<| oD 36 35<| oB 37 .lss 34 36<| .nil) (.cond (t 37) .skip (.exit 2))) (.seq (.block 3 (.reg false <|
 oM 40 5<| oM 41 9<| oM 42 5<| oM 43 9<| oI 44 1 42 43<| oL 45 44<| oM 46 45<| oG 47 46 false (.move (t 8))<| oG 48 46 false (.move (t 9))<|
 oG 49 46 false (.indexAddr 1 (t 47) (t 48))<| oG 50 46 false (.load (t 49))<| oR 51 (.pick (t 46) (.const (.bool true)) (t 50))<| oI 52 1 40 41<| oS 52 51<| .nil))
 (.reg false <| oM 38 9<| oC 39 .add 38 1<| oM 9 39<| .nil))))))))) (.reg false <| oM 20 7<| oC 21 .add 20 1<| oM 7 21<| .nil)))))) (.seq (.reg false <| oM 53 5<|
 oM 4 53<| .nil) .ret)))))
theorem s_kedgeref16_Evicted : CS 54 k_kedgeref16_Evicted [.tmp 4] F.kedgeref16_Evicted :=
  cs Tryz.func18 (by kernel_rfl) (by kernel_rfl)
noncomputable def k_replace_Rules : KC :=
(.seq (.reg false <| oR 3 (.box 33 (t 0))<| oR 4 (.box 32 (t 1))<| oO 6 0<| .nil) (.seq (.seq (.reg false <| oL 13 3<|
 oR 14 (.eqNil false .pointer (t 13) (.const (.pointer none)))<| .nil) (.cond (t 14) (.seq (.reg false <| oO 6 1<| .nil) .ret) .skip)) (.seq (.seq (.reg false <|
 oK 16 4 4<| oR 17 (oa 58 16)<| oM 15 17<| oX 18 0 15<| oX 19 1 15<| oM 7 18<| oM 8 19<| .nil) (.seq (.reg false <| oM 20 8<| oC 21 .neq 20 0<| .nil)
 (.cond (t 21) (.seq (.reg false <| oM 22 8<| oM 6 22<| .nil) .ret) .skip))) (.seq (.reg false <| oL 24 3<| oK 25 4 4<| oR 26 (ob 23 24 25)<| oM 23 26<| oX 27 0 23<|
 oX 28 1 23<| oM 9 27<| oM 10 28<| .nil) (.seq (.seq (.reg false <| oM 29 10<| oC 30 .neq 29 0<| .nil) (.cond (t 30) (.reg false <| oO 9 2100000000000001<| .nil) .skip))
 (.seq (.seq (.reg false <| oM 31 2<| oR 32 (.pcall 59 Go.Proofs.YtbnhinpegbcbeaaGreat.qGood [(t 31)])<| oT 33 32<| .nil) (.cond (t 33) (.seq (.reg false <|
 oO 6 3<| .nil) .ret) .skip)) (.seq (.reg true <| .join (oL 34 3<| oK 35 4 4<| .both (oR 36 (ob 14 34 35)<| oL 37 3<| oK 38 4 4<| .nil)
 (.both (oL 37 3<| .both (oR 36 (ob 14 34 35)<| oK 38 4 4<| .nil) (oK 38 4 4<| oR 36 (ob 14 34 35)<| .nil)) (oK 38 4 4<| .both (oR 36 (ob 14 34 35)<| oL 37 3<| .nil)
 (oL 37 3<| oR 36 (ob 14 34 35)<| .nil)))) <|oR 39 (ob 17 37 38)<| oM 11 36<| oM 12 39<| .nil) (.seq (.block 0 (.seq (.reg false <| oM 41 11<| oD 42 41<| oC 43 .eql 42 0<|
 oM 40 43<| .nil) (.cond (t 40) (.seq (.reg false <| oO 6 0<| .nil) .ret) (.seq (.reg false <| oM 45 11<| oR 46 (.makeFunc (.func 61) [] [(t 3)])<| oR 47 (ob 60 45 46)<|
 oM 44 47<| .nil) (.cond (t 44) (.seq (.reg false <| oO 6 15<| .nil) .ret) (.seq (.reg false <| oM 49 12<| oD 50 49<| oC 51 .gtr 50 100<| oM 52 51<|
 oG 53 52 false (.load (t 3))<| oG 54 52 false (.loadN 4 (t 4))<| oG 55 52 false (.move (t 11))<| oG 56 52 false (.move (t 12))<|
 oG 57 52 false (.call 63 [(t 53), (t 54), (t 55), (t 56)])<| oR 58 (.pick (t 52) (.const (.bool true)) (t 57))<| oM 48 58<| .nil) (.cond (t 48) (.seq (.reg false <|
 oO 6 15<| .nil) .ret) (.seq (.reg false <| oM 60 2<| oM 61 9<| oB 62 .lss 60 61<| oM 59 62<| .nil) (.cond (t 59) (.seq (.reg false <| oO 6 11<| .nil) .ret) .skip)))))))))
 (.seq (.reg false <| oO 6 0<| .nil) .ret)))))))))
theorem s_replace_Rules : CS 63 k_replace_Rules [.tmp 6] F.replace_Rules :=
  cs Tryz.func19 (by kernel_rfl) (by kernel_rfl)
noncomputable def k_kedgeref16_Rules : KC :=
(.seq (.reg false <| oR 4 (.box 32 (t 1))<| oO 6 0<| .nil) (.seq (.reg false <| oK 18 4 4<| oR 19 (oa 22 18)<| oM 7 19<| .nil) (.seq (.seq (.reg false <| oM 20 7<|
 oC 21 .neq 20 0<| .nil) (.cond (t 21) (.seq (.reg false <| oM 22 7<| oM 6 22<| .nil) .ret) .skip)) (.seq (.reg false <| oM 23 2<|
 oR 24 (.pcall 64 Go.Proofs.YtbnhinpegbcbeaaGreat.qGood [(t 23)])<| oM 8 24<| .nil) (.seq (.seq (.reg false <| oM 25 8<| oT 26 25<| .nil) (.cond (t 26) (.seq (.reg false <|
 oO 6 3<| .nil) .ret) .skip)) (.seq (.reg false <| oM 27 0<| oK 28 4 4<| oR 29 (ob 16 27 28)<| oM 9 29<| .nil) (.seq (.reg false <| oM 30 0<| oK 31 4 4<|
 oR 32 (ob 18 30 31)<| oM 10 32<| .nil) (.seq (.reg false <| oR 11 (.move (.const (.bool false)))<| .nil) (.seq (.reg false <| oO 12 0<| .nil) (.seq (.seq (.reg false <|
 oO 13 0<| .nil) (.block 0 (.loop (.seq (.seq (.reg false <| oM 33 13<| oM 34 0<| oD 35 34<| oB 36 .lss 33 35<| .nil) (.cond (t 36) .skip (.exit 0)))
 (.seq (.block 1 (.seq (.reg false <| oM 39 0<| oM 40 13<| oR 41 (ob 65 39 40)<| oM 14 41<| .nil) (.seq (.seq (.reg false <| oM 42 9<| oM 43 13<| oI 44 1 42 43<| oL 45 44<|
 oM 46 45<| oG 47 46 true (.move (t 14))<| oG 48 46 true (.not (t 47))<| oR 49 (.pick (t 46) (t 48) (.const (.bool false)))<| .nil) (.cond (t 49) (.seq (.reg false <|
 oO 6 15<| .nil) .ret) .skip)) (.seq (.reg false <| oM 50 11<| oM 51 50<| oG 52 51 false (.move (t 9))<| oG 53 51 false (.move (t 13))<|
 oG 54 51 false (.indexAddr 1 (t 52) (t 53))<| oG 55 51 false (.load (t 54))<| oR 56 (.pick (t 51) (.const (.bool true)) (t 55))<| oM 11 56<| .nil) (.seq (.reg false <|
 oM 57 10<| oM 58 13<| oI 59 1 57 58<| oL 60 59<| .nil) (.cond (t 60) (.reg false <| oM 61 12<| oC 62 .add 61 1<| oM 12 62<| .nil) .skip)))))) (.reg false <| oM 37 13<|
 oC 38 .add 37 1<| oM 13 38<| .nil)))))) (.seq (.seq (.reg false <| oM 63 11<| oT 64 63<| .nil) (.cond (t 64) (.seq (.reg false <| oO 6 0<| .nil) .ret) .skip))
 (.seq (.seq (.reg false <| oM 65 12<| oC 66 .gtr 65 100<| .nil) (.cond (t 66) (.seq (.reg false <| oO 6 15<| .nil) .ret) .skip)) (.seq (.seq (.reg false <| oO 15 0<| .nil)
 (.block 2 (.loop (.seq (.seq (.reg false <| oM 67 15<| oF 68 1 4<| oL 69 68<| oD 70 69<| oB 71 .lss 67 70<| .nil) (.cond (t 71) .skip (.exit 2)))
 (.seq (.block 3 (.seq (.reg false <| oM 74 0<| oF 75 1 4<| oL 76 75<| oM 77 15<| oI 78 4 76 77<| oF 79 0 78<| oF 80 0 79<| oL 81 80<| oR 82 (ob 50 74 81)<|
 oM 16 82<| .nil) (.seq (.seq (.reg true <| oM 83 16<| oC 84 .lss 83 0<| oM 85 84<| oG 86 85 false (.fieldAddr 1 (t 4))<| oG 87 85 false (.load (t 86))<|
 oG 88 85 false (.move (t 15))<| oG 89 85 false (.indexAddr 4 (t 87) (t 88))<| oG 90 85 false (.fieldAddr 0 (t 89))<| oG 91 85 false (.fieldAddr 1 (t 90))<|
 oG 92 85 false (.load (t 91))<| oG 93 85 false (.conv .i64 (t 92))<| oG 94 85 false (.move (t 0))<| oG 95 85 false (.move (t 16))<|
 oG 96 85 false (.minmax true (t 95) [(oi 0)])<| oG 97 85 false (.indexAddr 7 (t 94) (t 96))<| oG 98 85 false (.fieldAddr 0 (t 97))<| oG 99 85 false (.fieldAddr 2 (t 98))<|
 oG 100 85 false (.load (t 99))<| oG 101 85 false (.len false (t 100))<| oG 102 85 false (.bin .geq (t 93) (t 101))<|
 oR 103 (.pick (t 85) (.const (.bool true)) (t 102))<| .nil) (.cond (t 103) (.exit 3) .skip)) (.seq (.reg false <| oM 104 0<| oF 105 1 4<| oL 106 105<| oM 107 15<|
 oI 108 4 106 107<| oF 109 0 108<| oK 110 2 109<| oR 111 (ob 66 104 110)<| oM 17 111<| .nil) (.seq (.reg false <| oM 112 10<| oM 113 16<| oI 114 1 112 113<| oL 115 114<|
 oM 116 115<| oG 117 116 false (.move (t 17))<| oG 118 116 false (.bin .lss (t 117) (oi 0))<| oR 119 (.pick (t 116) (.const (.bool true)) (t 118))<| oM 120 119<|
 oG 121 120 false (.move (t 9))<| oG 122 120 false (.move (t 17))<| oG 123 120 false (.minmax true (t 122) [(oi 0)])<| oG 124 120 false (.indexAddr 1 (t 121) (t 123))<|
 oG 125 120 false (.load (t 124))<| oG 126 120 false (.not (t 125))<| oR 127 (.pick (t 120) (.const (.bool true)) (t 126))<| .nil) (.cond (t 127) (.seq (.reg false <|
 oO 6 15<| .nil) .ret) .skip)))))) (.reg false <| oM 72 15<| oC 73 .add 72 1<| oM 15 73<| .nil)))))) (.seq (.reg false <| oM 128 0<| oK 129 4 4<| oM 130 2<|
 oR 131 (oc 67 128 129 130)<| oM 8 131<| .nil) (.seq (.seq (.reg false <| oM 132 8<| oT 133 132<| .nil) (.cond (t 133) (.seq (.reg false <| oO 6 11<| .nil) .ret) .skip))
 (.seq (.reg false <| oO 6 0<| .nil) .ret))))))))))))))))
theorem s_kedgeref16_Rules : CS 134 k_kedgeref16_Rules [.tmp 6] F.kedgeref16_Rules :=
  cs Tryz.func20 (by kernel_rfl) (by kernel_rfl)
noncomputable def k_kedgelaw16_wakes : KC :=
(.seq (.reg false <| oR 0 (.move (.const (.bool false)))<| .nil) (.seq (.reg false <| oR 9 (.call 28 [])<| oM 1 9<| .nil) (.seq (.reg false <|
 oR 10 (.buildSlice 5 1 [(.int .u8 0)] [(0, 1, (.const (.int .u8 200)))])<|
 oR 11 (.build [(.slice none 0 0), (.int .u8 0), (.int .u8 0), (.int .i64 0), (.int .u8 0), (.int .u8 0)] [(0, 1, (t 10))])<|
 oR 12 (.call 53 [(.const (.slice none 0 0)), (t 11)])<| oR 2 (.alloc 32 [(.int .u32 0), (.slice none 0 0), (.slice none 0 0), (.int .u32 0)])<| oU 4 2 12<| .nil)
 (.seq (.reg false <| oR 13 (.buildSlice 5 1 [(.int .u8 0)] [(0, 1, (.const (.int .u8 200)))])<|
 oR 14 (.build [(.slice none 0 0), (.int .u8 0), (.int .u8 0), (.int .i64 0), (.int .u8 0), (.int .u8 0)] [(0, 1, (t 13)), (4, 1, (.const (.int .u8 1)))])<|
 oR 15 (.call 53 [(.const (.slice none 0 0)), (t 14)])<| oR 3 (.alloc 32 [(.int .u32 0), (.slice none 0 0), (.slice none 0 0), (.int .u32 0)])<| oU 4 3 15<| .nil)
 (.seq (.reg false <| oM 16 1<| oK 17 4 2<| oR 18 (.call 51 [(t 16), (t 17), (oi 1000)])<| oM 4 18<| .nil) (.seq (.reg false <| oM 20 1<| oK 21 4 3<| oR 22 (ob 23 20 21)<|
 oM 19 22<| oX 23 0 19<| oX 24 1 19<| oM 5 23<| oM 6 24<| .nil) (.seq (.reg false <| oK 26 4 3<| oR 27 (.call 23 [(.const (.pointer none)), (t 26)])<| oM 25 27<|
 oX 28 0 25<| oX 29 1 25<| oM 7 28<| oM 8 29<| .nil) (.seq (.reg false <| oM 30 4<| oC 31 .eql 30 0<| oM 32 31<| oG 33 32 true (.move (t 6))<|
 oG 34 32 true (.bin .eql (t 33) (oi 0))<| oR 35 (.pick (t 32) (t 34) (.const (.bool false)))<| oM 36 35<| oG 37 36 true (.move (t 5))<|
 oG 38 36 true (.bin .eql (t 37) (oi 1069))<| oR 39 (.pick (t 36) (t 38) (.const (.bool false)))<| oM 40 39<| oG 41 40 true (.move (t 1))<| oG 42 40 true (.loadN 4 (t 3))<|
 oG 43 40 true (.call 19 [(t 41), (t 42), (oi 1000)])<| oG 44 40 true (.bin .eql (t 43) (oi 11))<| oR 45 (.pick (t 40) (t 44) (.const (.bool false)))<| oM 46 45<|
 oG 47 46 true (.move (t 1))<| oG 48 46 true (.loadN 4 (t 3))<| oG 49 46 true (.move (t 5))<| oG 50 46 true (oc 19 47 48 49)<| oG 51 46 true (.bin .eql (t 50) (oi 0))<|
 oR 52 (.pick (t 46) (t 51) (.const (.bool false)))<| oM 53 52<| oG 54 53 true (.move (t 1))<| oG 55 53 true (.loadN 4 (t 3))<| oG 56 53 true (ob 17 54 55)<|
 oG 57 53 true (.len false (t 56))<| oG 58 53 true (.bin .eql (t 57) (oi 1))<| oR 59 (.pick (t 53) (t 58) (.const (.bool false)))<| oM 60 59<| oG 61 60 true (.move (t 8))<|
 oG 62 60 true (.bin .eql (t 61) (oi 1))<| oR 63 (.pick (t 60) (t 62) (.const (.bool false)))<| oM 0 63<| .nil) .ret))))))))
theorem s_kedgelaw16_wakes : CS 64 k_kedgelaw16_wakes [.tmp 0] F.kedgelaw16_wakes :=
  cs Tryz.func21 (by kernel_rfl) (by kernel_rfl)
noncomputable def k_kedgeref05_Check : KC :=
(.seq (.reg false <| oR 1 (.box 32 (t 0))<| oO 2 0<| .nil) (.seq (.seq (.reg false <| oF 11 1 1<| oL 12 11<| oD 13 12<| oC 14 .lss 13 1<| oM 15 14<|
 oG 16 15 false (.fieldAddr 1 (t 1))<| oG 17 15 false (.load (t 16))<| oG 18 15 false (.len false (t 17))<| oG 19 15 false (.bin .gtr (t 18) (oi 256))<|
 oR 20 (.pick (t 15) (.const (.bool true)) (t 19))<| oM 21 20<| oG 22 21 false (.fieldAddr 2 (t 1))<| oG 23 21 false (.load (t 22))<| oG 24 21 false (.len false (t 23))<|
 oG 25 21 false (.bin .lss (t 24) (oi 1))<| oR 26 (.pick (t 21) (.const (.bool true)) (t 25))<| oM 27 26<| oG 28 27 false (.fieldAddr 2 (t 1))<|
 oG 29 27 false (.load (t 28))<| oG 30 27 false (.len false (t 29))<| oG 31 27 false (.bin .gtr (t 30) (oi 256))<| oR 32 (.pick (t 27) (.const (.bool true)) (t 31))<| .nil)
 (.cond (t 32) (.seq (.reg false <| oO 2 6<| .nil) .ret) .skip)) (.seq (.seq (.reg false <| oO 3 0<| .nil) (.block 0 (.loop (.seq (.seq (.reg false <| oM 33 3<| oF 34 1 1<|
 oL 35 34<| oD 36 35<| oB 37 .lss 33 36<| .nil) (.cond (t 37) .skip (.exit 0))) (.seq (.block 1 (.seq (.reg false <| oF 40 1 1<| oL 41 40<| oM 42 3<| oI 43 4 41 42<|
 oF 44 3 43<| oL 45 44<| oD 46 45<| oC 47 .gtr 46 4<| .nil) (.cond (t 47) (.seq (.reg false <| oO 2 6<| .nil) .ret) .skip))) (.reg false <| oM 38 3<| oC 39 .add 38 1<|
 oM 3 39<| .nil)))))) (.seq (.reg false <| oK 48 4 1<| oR 49 (oa 68 48)<| oM 4 49<| .nil) (.seq (.seq (.reg false <| oM 50 4<| .nil) (.cond (t 50) (.seq (.reg false <|
 oO 2 20<| .nil) .ret) .skip)) (.seq (.seq (.reg false <| oO 5 0<| .nil) (.block 2 (.loop (.seq (.seq (.reg false <| oM 51 5<| oF 52 1 1<| oL 53 52<| oD 54 53<|
 oB 55 .lss 51 54<| .nil) (.cond (t 55) .skip (.exit 2))) (.seq (.block 3 (.seq (.reg false <| oF 58 1 1<| oL 59 58<| oM 60 5<| oI 61 4 59 60<| oF 62 0 61<| oK 63 2 62<|
 oR 64 (oa 69 63)<| oM 6 64<| .nil) (.seq (.reg false <| oF 65 1 1<| oL 66 65<| oM 67 5<| oI 68 4 66 67<| oF 69 0 68<| oF 70 0 69<| oL 71 70<| oR 72 (.len true (t 71))<|
 oC 73 .neq 72 32<| oM 74 73<| oG 75 74 false (.move (t 6))<| oG 76 74 false (.move (t 75))<| oG 77 76 true (.fieldAddr 1 (t 1))<| oG 78 76 true (.load (t 77))<|
 oG 79 76 true (.len false (t 78))<| oG 80 76 true (.bin .gtr (t 79) (oi 1))<| oG 81 74 false (.pick (t 76) (t 80) (.const (.bool false)))<|
 oR 82 (.pick (t 74) (.const (.bool true)) (t 81))<| .nil) (.cond (t 82) (.seq (.reg false <| oO 2 4<| .nil) .ret) .skip)))) (.reg false <| oM 56 5<| oC 57 .add 56 1<|
 oM 5 57<| .nil)))))) (.seq (.seq (.reg false <| oO 7 0<| .nil) (.block 4 (.loop (.seq (.seq (.reg false <| oM 83 7<| oF 84 1 1<| oL 85 84<| oD 86 85<|
 oB 87 .lss 83 86<| .nil) (.cond (t 87) .skip (.exit 4))) (.seq (.block 5 (.seq (.reg false <| oO 8 0<| .nil) (.block 6 (.loop (.seq (.seq (.reg false <| oM 90 8<|
 oM 91 7<| oB 92 .lss 90 91<| .nil) (.cond (t 92) .skip (.exit 6))) (.seq (.block 7 (.seq (.reg true <| .join (oF 95 1 1<| oL 96 95<| oM 97 7<| oI 98 4 96 97<| oF 99 0 98<|
 oF 100 0 99<| oL 101 100<| oF 102 1 1<| oL 103 102<| oM 104 8<| oI 105 4 103 104<| oF 106 0 105<| oF 107 0 106<| oL 108 107<| oB 109 .eql 101 108<| oM 110 109<|
 oG 111 110 true (.fieldAddr 1 (t 1))<| oG 113 110 true (.move (t 7))<| oG 118 110 true (.fieldAddr 1 (t 1))<|
 oG 120 110 true (.move (t 8))<| .nil) <|oG 112 110 true (.load (t 111))<| oG 114 110 true (.indexAddr 4 (t 112) (t 113))<| oG 115 110 true (.fieldAddr 0 (t 114))<|
 oG 116 110 true (.fieldAddr 1 (t 115))<| oG 117 110 true (.load (t 116))<| oG 119 110 true (.load (t 118))<| oG 121 110 true (.indexAddr 4 (t 119) (t 120))<|
 oG 122 110 true (.fieldAddr 0 (t 121))<| oG 123 110 true (.fieldAddr 1 (t 122))<| oG 124 110 true (.load (t 123))<| oG 125 110 true (.bin .eql (t 117) (t 124))<|
 oR 126 (.pick (t 110) (t 125) (.const (.bool false)))<| .nil) (.cond (t 126) (.seq (.reg false <| oO 2 7<| .nil) .ret) .skip))) (.reg false <| oM 93 8<| oC 94 .add 93 1<|
 oM 8 94<| .nil))))))) (.reg false <| oM 88 7<| oC 89 .add 88 1<| oM 7 89<| .nil)))))) (.seq (.reg false <| oK 128 4 1<| oR 129 (oa 70 128)<| oM 127 129<| oX 130 0 127<|
 oX 131 1 127<| oM 9 130<| oM 10 131<| .nil) (.seq (.reg false <| oM 132 10<| oM 2 132<| .nil) .ret)))))))))
theorem s_kedgeref05_Check : CS 133 k_kedgeref05_Check [.tmp 2] F.kedgeref05_Check :=
  cs Tryz.func22 (by kernel_rfl) (by kernel_rfl)
noncomputable def k_replace_Need : KC :=
(.seq (.reg false <| oR 3 (.box 32 (t 1))<| oO 4 0<| oO 5 0<| .nil) (.seq (.seq (.reg false <| oM 18 0<|
 oR 19 (.eqNil false .pointer (t 18) (.const (.pointer none)))<| .nil) (.cond (t 19) (.seq (.reg false <| oO 4 0<| oO 5 1<| .nil) .ret) .skip)) (.seq (.reg false <|
 oK 21 4 3<| oR 22 (oa 58 21)<| oM 20 22<| oX 23 0 20<| oX 24 1 20<| oM 6 23<| oM 7 24<| .nil) (.seq (.seq (.reg false <| oM 25 7<| oC 26 .neq 25 0<| .nil)
 (.cond (t 26) (.seq (.reg false <| oM 27 7<| oO 4 0<| oM 5 27<| .nil) .ret) .skip)) (.seq (.reg false <| oM 28 0<| oK 29 4 3<| oR 30 (ob 14 28 29)<| oM 8 30<| .nil)
 (.seq (.seq (.reg false <| oM 31 8<| oD 32 31<| oC 33 .eql 32 0<| .nil) (.cond (t 33) (.seq (.reg false <| oO 4 0<| oO 5 0<| .nil) .ret) .skip)) (.seq (.reg false <|
 oM 35 0<| oM 36 0<| oK 37 4 3<| oR 38 (ob 17 36 37)<| oR 39 (ob 71 35 38)<| oM 34 39<| oX 40 0 34<| oX 41 1 34<| oM 9 40<| oM 10 41<| .nil) (.seq (.reg false <| oM 43 6<|
 oR 44 (.call 37 [(oi 1000), (t 43)])<| oM 42 44<| oX 45 0 42<| oX 46 1 42<| oM 11 45<| oM 12 46<| .nil) (.seq (.reg false <| oM 47 9<| oM 48 11<| oB 49 .add 47 48<|
 oM 13 49<| .nil) (.seq (.seq (.reg false <| oM 50 8<| oD 51 50<| oO 52 0<| .nil) (.block 0 (.loop (.seq (.reg false <| oB 53 .lss 52 51<| .nil)
 (.seq (.cond (t 53) .skip (.exit 0)) (.seq (.block 1 (.seq (.reg false <| oI 54 1 50 52<| oL 55 54<| oM 15 55<| .nil) (.seq (.reg false <| oM 57 0<| oM 58 15<|
 oR 59 (ob 35 57 58)<| oM 56 59<| oX 60 0 56<| oX 61 1 56<|
 oR 16 (.alloc 57 [(.int .u32 0), (.slice none 0 0), (.slice none 0 0), (.int .u32 0), (.string ⟨#[]⟩), (.int .i64 0), (.int .i64 0)])<| oU 7 16 60<| oM 17 61<| .nil)
 (.reg false <| oM 62 13<| oM 63 6<| oF 64 5 16<| oL 65 64<| oF 66 6 16<| oL 67 66<| oR 68 (oc 72 63 65 67)<| oR 69 (.minmax true (t 62) [(t 68)])<| oM 13 69<| .nil))))
 (.reg false <| oC 70 .add 52 1<| oM 52 70<| .nil))))))) (.seq (.seq (.reg false <| oM 71 13<| oR 72 (.pcall 59 Go.Proofs.YtbnhinpegbcbeaaGreat.qGood [(t 71)])<|
 oT 73 72<| .nil) (.cond (t 73) (.seq (.reg false <| oO 4 0<| oO 5 3<| .nil) .ret) .skip)) (.seq (.reg false <| oM 74 13<| oM 4 74<| oO 5 0<| .nil) .ret))))))))))))
theorem s_replace_Need : CS 75 k_replace_Need [.tmp 4, .tmp 5] F.replace_Need :=
  cs Tryz.func23 (by kernel_rfl) (by kernel_rfl)
noncomputable def k_graph_Graph_All : KC :=
(.seq (.reg false <| oR 2 (.move (.const (.slice none 0 0)))<| .nil) (.seq (.seq (.reg false <| oM 8 0<|
 oR 9 (.eqNil false .pointer (t 8) (.const (.pointer none)))<| .nil) (.cond (t 9) (.seq (.reg false <| oR 2 (.move (.const (.slice none 0 0)))<| .nil) .ret) .skip))
 (.seq (.reg false <| oR 3 (.move (.const (.slice none 0 0)))<| .nil) (.seq (.seq (.reg false <| oM 10 0<| oR 11 (.nilCheck (t 10))<| oF 12 1 11<| oL 13 12<| oD 14 13<|
 oO 15 0<| .nil) (.block 0 (.loop (.seq (.reg false <| oB 16 .lss 15 14<| .nil) (.seq (.cond (t 16) .skip (.exit 0)) (.seq (.block 1 (.seq (.reg false <| oI 17 1 13 15<|
 oL 18 17<| oM 5 18<| .nil) (.seq (.reg false <| oM 20 0<| oM 21 5<| oR 22 (ob 35 20 21)<| oM 19 22<| oX 23 0 19<| oX 24 1 19<|
 oR 6 (.alloc 57 [(.int .u32 0), (.slice none 0 0), (.slice none 0 0), (.int .u32 0), (.string ⟨#[]⟩), (.int .i64 0), (.int .i64 0)])<| oU 7 6 23<| oM 7 24<| .nil)
 (.reg false <| oM 25 3<| oK 26 7 6<|
 oR 27 (.buildSlice 57 1 [(.int .u32 0), (.slice none 0 0), (.slice none 0 0), (.int .u32 0), (.string ⟨#[]⟩), (.int .i64 0), (.int .i64 0)] [(0, 7, (t 26))])<|
 oR 28 (.append 57 7 96 [(.int .u32 0), (.slice none 0 0), (.slice none 0 0), (.int .u32 0), (.string ⟨#[]⟩), (.int .i64 0), (.int .i64 0)] (t 25) (t 27))<|
 oM 3 28<| .nil)))) (.reg false <| oC 29 .add 15 1<| oM 15 29<| .nil))))))) (.seq (.reg false <| oM 30 3<| oM 2 30<| .nil) .ret)))))
theorem s_graph_Graph_All : CS 31 k_graph_Graph_All [.tmp 2] F.graph_Graph_All :=
  cs Tryz.func24 (by kernel_rfl) (by kernel_rfl)
noncomputable def k_graph_Graph_Below : KC :=
(.seq (.reg false <| oR 4 (.move (.const (.slice none 0 0)))<| .nil) (.seq (.seq (.reg false <| oM 8 0<| oM 9 1<| oR 10 (ob 35 8 9)<| oM 7 10<| oX 11 0 7<| oX 12 1 7<|
 oR 5 (.alloc 57 [(.int .u32 0), (.slice none 0 0), (.slice none 0 0), (.int .u32 0), (.string ⟨#[]⟩), (.int .i64 0), (.int .i64 0)])<| oU 7 5 11<| oM 6 12<| .nil)
 (.seq (.reg false <| oM 13 6<| oT 14 13<| .nil) (.cond (t 14) (.seq (.reg false <| oR 4 (.move (.const (.slice none 0 0)))<| .nil) .ret) .skip))) (.seq (.reg false <|
 oM 15 0<| oM 16 1<| oR 17 (.buildSlice 9 1 [(.string ⟨#[]⟩)] [(0, 1, (t 16))])<| oM 18 0<| oR 19 (.makeFunc (.func 74) [(t 18)] [])<| oR 20 (oc 73 15 17 19)<|
 oM 4 20<| .nil) .ret)))
theorem s_graph_Graph_Below : CS 21 k_graph_Graph_Below [.tmp 4] F.graph_Graph_Below :=
  cs Tryz.func25 (by kernel_rfl) (by kernel_rfl)
noncomputable def k_slices_Contains_L_string_string : KC :=
(.seq (.reg false <| oR 4 (.move (.const (.bool false)))<| .nil) (.seq (.reg false <| oM 5 0<| oM 6 1<| oR 7 (ob 75 5 6)<| oC 8 .geq 7 0<| oM 4 8<| .nil) .ret))
theorem s_slices_Contains_L_string_string : CS 9 k_slices_Contains_L_string_string [.tmp 4] F.slices_Contains_L_string_string :=
  cs Tryz.func26 (by kernel_rfl) (by kernel_rfl)
noncomputable def k_graph_New : KC :=
(.seq (.reg false <| oR 0 (.move (.const (.pointer none)))<| .nil) (.seq (.reg false <| oR 1 (.makeMap)<| oR 2 (.makeMap)<|
 oR 3 (.build [(.map none), (.slice none 0 0), (.map none)] [(0, 1, (t 1)), (2, 1, (t 2))])<| oR 4 (.box 144 (t 3))<| oM 0 4<| .nil) .ret))
theorem s_graph_New : CS 5 k_graph_New [.tmp 0] F.graph_New :=
  cs Tryz.func28 (by kernel_rfl) (by kernel_rfl)
noncomputable def k_graph_Graph_Get : KC :=
(.seq (.reg false <| oR 4 (.alloc 57 [(.int .u32 0), (.slice none 0 0), (.slice none 0 0), (.int .u32 0), (.string ⟨#[]⟩), (.int .i64 0), (.int .i64 0)])<|
 oR 5 (.move (.const (.bool false)))<| .nil) (.seq (.seq (.reg false <| oM 8 0<| oR 9 (.eqNil false .pointer (t 8) (.const (.pointer none)))<| .nil)
 (.cond (t 9) (.seq (.reg false <| oR 10 (.build [(.int .u32 0), (.slice none 0 0), (.slice none 0 0), (.int .u32 0), (.string ⟨#[]⟩), (.int .i64 0), (.int .i64 0)] [])<|
 oU 7 4 10<| oR 5 (.move (.const (.bool false)))<| .nil) .ret) .skip)) (.seq (.reg false <| oM 12 0<| oR 13 (.nilCheck (t 12))<| oF 14 0 13<| oL 15 14<| oM 16 1<|
 oR 17 (.lookup false [.s] (.agg #[(.int .u32 0), (.slice none 0 0), (.slice none 0 0), (.int .u32 0), (.string ⟨#[]⟩), (.int .i64 0), (.int .i64 0)]) true (t 15) (t 16))<|
 oM 11 17<| oX 18 0 11<| oX 19 1 11<| oR 6 (.alloc 57 [(.int .u32 0), (.slice none 0 0), (.slice none 0 0), (.int .u32 0), (.string ⟨#[]⟩), (.int .i64 0), (.int .i64 0)])<|
 oU 7 6 18<| oM 7 19<| .nil) (.seq (.reg false <| oF 20 0 6<| oK 21 4 20<| oR 22 (oa 86 21)<| oF 23 0 6<| oU 4 23 22<| .nil) (.seq (.reg false <| oK 24 7 6<| oM 25 7<|
 oU 7 4 24<| oM 5 25<| .nil) .ret)))))
theorem s_graph_Graph_Get : CS 26 k_graph_Graph_Get [.cellN 7 4, .tmp 5] F.graph_Graph_Get :=
  cs Tryz.func35 (by kernel_rfl) (by kernel_rfl)
noncomputable def k_amount_Fee : KC :=
(.seq (.reg false <| oO 4 0<| oO 5 0<| .nil) (.seq (.seq (.reg false <| oM 6 0<| oR 7 (.pcall 87 Go.Proofs.YtbnhinpegbcbeaaGreat.qFrom0 [(t 6), (oi 100000000)])<| oT 8 7<|
 oM 9 8<| oG 10 9 false (.move (t 1))<| oG 11 9 false (.pcall 87 Go.Proofs.YtbnhinpegbcbeaaGreat.qFrom0 [(t 10), (oi 1000000)])<| oG 12 9 false (.not (t 11))<|
 oR 13 (.pick (t 9) (.const (.bool true)) (t 12))<| .nil) (.cond (t 13) (.seq (.reg false <| oO 4 0<| oO 5 3<| .nil) .ret) .skip)) (.seq (.reg false <| oM 14 0<| oM 15 1<|
 oB 16 .mul 14 15<| oC 17 .add 16 1000<| oC 18 .sub 17 1<| oC 19 .quo 18 1000<| oM 4 19<| oO 5 0<| .nil) .ret)))
theorem s_amount_Fee : CS 20 k_amount_Fee [.tmp 4, .tmp 5] F.amount_Fee :=
  cs Tryz.func37 (by kernel_rfl) (by kernel_rfl)
noncomputable def k_graph_Graph_Out : KC :=
(.seq (.reg false <| oR 3 (.box 60 (t 1))<| oR 4 (.alloc 87 [(.int .i64 0), (.string ⟨#[]⟩)])<| oR 5 (.move (.const (.bool false)))<| .nil) (.seq (.reg false <| oM 9 0<|
 oF 10 0 3<| oL 11 10<| oR 12 (ob 35 9 11)<| oM 8 12<| oX 13 0 8<| oX 14 1 8<|
 oR 6 (.alloc 57 [(.int .u32 0), (.slice none 0 0), (.slice none 0 0), (.int .u32 0), (.string ⟨#[]⟩), (.int .i64 0), (.int .i64 0)])<| oU 7 6 13<| oM 7 14<| .nil)
 (.seq (.seq (.reg false <| oM 15 7<| oT 16 15<| oM 17 16<| oG 18 17 false (.fieldAddr 1 (t 3))<| oG 19 17 false (.load (t 18))<| oG 20 17 false (.conv .i64 (t 19))<|
 oG 21 17 false (.fieldAddr 0 (t 6))<| oG 22 17 false (.fieldAddr 2 (t 21))<| oG 23 17 false (.load (t 22))<| oG 24 17 false (.len false (t 23))<|
 oG 25 17 false (.bin .geq (t 20) (t 24))<| oR 26 (.pick (t 17) (.const (.bool true)) (t 25))<| .nil) (.cond (t 26) (.seq (.reg false <|
 oR 27 (.build [(.int .i64 0), (.string ⟨#[]⟩)] [])<| oU 2 4 27<| oR 5 (.move (.const (.bool false)))<| .nil) .ret) .skip)) (.seq (.reg false <| oF 28 0 6<| oF 29 2 28<|
 oL 30 29<| oF 31 1 3<| oL 32 31<| oI 33 2 30 32<| oK 34 2 33<| oU 2 4 34<| oR 5 (.move (.const (.bool true)))<| .nil) .ret))))
theorem s_graph_Graph_Out : CS 35 k_graph_Graph_Out [.cellN 2 4, .tmp 5] F.graph_Graph_Out :=
  cs Tryz.func39 (by kernel_rfl) (by kernel_rfl)
end Go.Proofs.YtbnhinpegbcbeaaGreat
end
