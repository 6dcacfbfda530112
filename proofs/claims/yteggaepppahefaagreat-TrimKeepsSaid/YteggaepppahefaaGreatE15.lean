/- The resolved code of functions, printed by program. -/
import Derived.Test.YteggaepppahefaaGreatE14
set_option linter.unusedVariables false
set_option linter.unusedSimpArgs false
section
namespace Go.Proofs.YteggaepppahefaaGreat
open Go Go.K
noncomputable def k_kedgelaw19_TrimScores : KC :=
(.seq (.reg false <| oR 4 (.move (.const (.bool false)))<| .nil) (.seq (.reg false <| oM 21 0<| oR 22 (.call 12 [(t 21), (oi 12)])<| oM 20 22<| oX 23 0 20<| oX 24 1 20<|
 oM 5 23<| oM 6 24<| .nil) (.seq (.seq (.reg false <| oM 25 6<| oD 26 25<| oO 27 0<| .nil) (.block 0 (.loop (.seq (.reg false <| oB 28 .lss 27 26<| .nil)
 (.seq (.cond (t 28) .skip (.exit 0)) (.seq (.block 1 (.seq (.reg false <| oM 29 27<| oI 30 7 25 27<| oK 31 7 30<|
 oR 8 (.alloc 33 [(.int .u32 0), (.slice none 0 0), (.slice none 0 0), (.int .u32 0), (.string ⟨#[]⟩), (.int .i64 0), (.int .i64 0)])<| oM 7 29<| oU 7 8 31<| .nil)
 (.seq (.reg false <| oM 33 5<| oF 34 4 8<| oL 35 34<| oR 36 (ob 13 33 35)<| oM 32 36<| oX 37 0 32<| oX 38 1 32<| oM 9 37<| oM 10 38<| .nil) (.seq (.reg false <| oM 40 6<|
 oM 41 7<| oR 42 (ob 14 40 41)<| oM 39 42<| oX 43 0 39<| oX 44 1 39<| oM 11 43<| oM 12 44<| .nil) (.seq (.reg false <| oM 45 9<| oM 46 11<| oB 47 .neq 45 46<| oM 48 47<|
 oG 49 48 false (.move (t 10))<| oG 50 48 false (.move (t 12))<| oG 51 48 false (.bin .neq (t 49) (t 50))<| oR 52 (.pick (t 48) (.const (.bool true)) (t 51))<| .nil)
 (.cond (t 52) (.seq (.reg false <| oR 4 (.move (.const (.bool false)))<| .nil) .ret) .skip)))))) (.reg false <| oC 53 .add 27 1<| oM 27 53<| .nil)))))))
 (.seq (.reg false <| oM 55 5<| oR 56 (oa 15 55)<| oM 54 56<| oX 57 0 54<| oX 58 1 54<| oM 13 57<| oM 14 58<| .nil) (.seq (.reg false <| oM 59 6<| oR 60 (oa 16 59)<|
 oM 15 60<| .nil) (.seq (.seq (.reg false <| oM 61 14<| oM 62 15<| oC 63 .geq 62 0<| oR 64 (.eqNil true .bool (t 61) (t 63))<| oM 65 64<| oG 66 65 false (.move (t 14))<|
 oG 67 65 false (.move (t 66))<| oG 68 67 true (.move (t 13))<| oG 69 67 true (.move (t 6))<| oG 70 67 true (.move (t 15))<| oG 71 67 true (.indexAddr 7 (t 69) (t 70))<|
 oG 72 67 true (.fieldAddr 4 (t 71))<| oG 73 67 true (.load (t 72))<| oG 74 67 true (.bin .neq (t 68) (t 73))<|
 oG 75 65 false (.pick (t 67) (t 74) (.const (.bool false)))<| oR 76 (.pick (t 65) (.const (.bool true)) (t 75))<| oM 77 76<| oG 78 77 false (.move (t 14))<|
 oG 79 77 false (.not (t 78))<| oG 80 77 false (.move (t 79))<| oG 81 80 true (.move (t 13))<| oG 82 80 true (.bin .neq (t 81) (.const (.string ⟨#[]⟩)))<|
 oG 83 77 false (.pick (t 80) (t 82) (.const (.bool false)))<| oR 84 (.pick (t 77) (.const (.bool true)) (t 83))<| .nil) (.cond (t 84) (.seq (.reg false <|
 oR 4 (.move (.const (.bool false)))<| .nil) .ret) .skip)) (.seq (.reg false <| oM 86 5<| oM 87 1<| oR 88 (ob 13 86 87)<| oM 85 88<| oX 89 0 85<| oX 90 1 85<| oM 16 89<|
 oM 17 90<| .nil) (.seq (.reg false <| oR 92 (.call 15 [(.const (.pointer none))])<| oM 91 92<| oX 93 0 91<| oX 94 1 91<| oM 18 93<| oM 19 94<| .nil) (.seq (.reg false <|
 oR 95 (.call 17 [])<| oM 96 95<| oG 97 96 true (.move (t 6))<| oG 98 96 true (.move (t 1))<| oG 99 96 true (ob 18 97 98)<| oG 100 96 true (.bin .geq (t 99) (oi 0))<|
 oG 101 96 true (.move (t 100))<| oG 102 101 false (.move (t 16))<| oG 103 101 false (.bin .eql (t 102) (oi 0))<| oG 104 101 false (.move (t 103))<|
 oG 105 104 true (.move (t 17))<| oG 106 104 true (.bin .eql (t 105) (oi 0))<| oG 107 101 false (.pick (t 104) (t 106) (.const (.bool false)))<|
 oG 108 96 true (.pick (t 101) (.const (.bool true)) (t 107))<| oR 109 (.pick (t 96) (t 108) (.const (.bool false)))<| oM 110 109<| oG 111 110 true (.move (t 19))<|
 oG 112 110 true (.not (t 111))<| oR 113 (.pick (t 110) (t 112) (.const (.bool false)))<| oM 4 113<| .nil) .ret)))))))))
theorem s_kedgelaw19_TrimScores : CS 114 k_kedgelaw19_TrimScores [.tmp 4] F.kedgelaw19_TrimScores :=
  cs Tryz.func3 (by kernel_rfl) (by kernel_rfl)
noncomputable def k_kedgelaw19_TrimPlays : KC :=
(.seq (.reg false <| oR 4 (.move (.const (.bool false)))<| .nil) (.seq (.seq (.reg false <| oM 19 1<| oM 20 1<| oR 21 (.minmax true (oi 0) [(t 20)])<| oC 22 .rem 21 1200<|
 oR 23 (.buildSlice 3 2 [(.int .i64 0), (.int .i64 0)] [(0, 1, (t 19)), (1, 1, (t 22))])<| oD 24 23<| oO 25 0<| .nil) (.block 0 (.loop (.seq (.reg false <|
 oB 26 .lss 25 24<| .nil) (.seq (.cond (t 26) .skip (.exit 0)) (.seq (.block 1 (.seq (.reg false <| oI 27 1 23 25<| oL 28 27<| oM 6 28<| .nil) (.seq (.reg false <|
 oM 30 0<| oR 31 (.call 12 [(t 30), (oi 12)])<| oM 29 31<| oX 32 0 29<| oX 33 1 29<| oM 7 32<| oM 8 33<| .nil) (.seq (.reg false <| oM 35 7<| oM 36 6<|
 oR 37 (ob 19 35 36)<| oM 34 37<| oX 38 0 34<| oX 39 1 34<| oM 9 38<| oM 10 39<| .nil) (.seq (.reg false <| oM 41 8<| oM 42 6<| oR 43 (ob 20 41 42)<| oM 40 43<|
 oX 44 0 40<| oX 45 1 40<| oX 46 2 40<| oM 11 44<| oM 12 45<| oM 13 46<| .nil) (.seq (.reg false <| oM 47 7<| oR 48 (oa 21 47)<| oM 14 48<| .nil) (.seq (.seq (.reg false <|
 oM 49 9<| oM 50 12<| oR 51 (ob 22 49 50)<| oT 52 51<| oM 53 52<| oG 54 53 false (.move (t 10))<| oG 55 53 false (.move (t 13))<| oG 56 53 false (.bin .neq (t 54) (t 55))<|
 oR 57 (.pick (t 53) (.const (.bool true)) (t 56))<| oM 58 57<| oG 59 58 false (.move (t 14))<| oG 60 58 false (.len false (t 59))<| oG 61 58 false (.move (t 11))<|
 oG 62 58 false (.len false (t 61))<| oG 63 58 false (.bin .neq (t 60) (t 62))<| oR 64 (.pick (t 58) (.const (.bool true)) (t 63))<| .nil)
 (.cond (t 64) (.seq (.reg false <| oR 4 (.move (.const (.bool false)))<| .nil) .ret) .skip)) (.seq (.reg false <| oM 65 14<| oD 66 65<| oO 67 0<| .nil)
 (.block 2 (.loop (.seq (.reg false <| oB 68 .lss 67 66<| .nil) (.seq (.cond (t 68) .skip (.exit 2)) (.seq (.block 3 (.seq (.reg false <| oM 69 67<| oI 70 7 65 67<|
 oK 71 7 70<| oR 16 (.alloc 33 [(.int .u32 0), (.slice none 0 0), (.slice none 0 0), (.int .u32 0), (.string ⟨#[]⟩), (.int .i64 0), (.int .i64 0)])<| oM 15 69<|
 oU 7 16 71<| .nil) (.seq (.reg true <| oF 72 4 16<| oL 73 72<| oM 74 11<| oM 75 15<| oI 76 7 74 75<| oF 77 4 76<| oL 78 77<| oB 79 .neq 73 78<| .nil)
 (.cond (t 79) (.seq (.reg false <| oR 4 (.move (.const (.bool false)))<| .nil) .ret) .skip)))) (.reg false <| oC 80 .add 67 1<| oM 67 80<| .nil))))))))))))))
 (.reg false <| oC 81 .add 25 1<| oM 25 81<| .nil))))))) (.seq (.reg false <| oR 83 (.call 19 [(.const (.pointer none)), (oi 0)])<| oM 82 83<| oX 84 0 82<| oX 85 1 82<|
 oM 17 84<| oM 18 85<| .nil) (.seq (.reg false <| oR 86 (.call 17 [])<| oM 87 86<| oG 88 87 true (.move (t 17))<| oG 89 87 true (.len false (t 88))<|
 oG 90 87 true (.bin .eql (t 89) (oi 0))<| oR 91 (.pick (t 87) (t 90) (.const (.bool false)))<| oM 92 91<| oG 93 92 true (.move (t 18))<|
 oG 94 92 true (.bin .eql (t 93) (oi 0))<| oR 95 (.pick (t 92) (t 94) (.const (.bool false)))<| oM 4 95<| .nil) .ret))))
theorem s_kedgelaw19_TrimPlays : CS 96 k_kedgelaw19_TrimPlays [.tmp 4] F.kedgelaw19_TrimPlays :=
  cs Tryz.func4 (by kernel_rfl) (by kernel_rfl)
noncomputable def k_kedgelaw19_TrimParts : KC :=
(.seq (.reg false <| oR 6 (.move (.const (.bool false)))<| .nil) (.seq (.reg false <| oM 21 0<| oR 22 (.call 12 [(t 21), (oi 12)])<| oM 20 22<| oX 23 0 20<| oX 24 1 20<|
 oM 7 23<| oM 8 24<| .nil) (.seq (.reg false <| oM 25 7<| oR 26 (oa 23 25)<| oM 9 26<| .nil) (.seq (.reg false <| oM 27 1<| oM 28 2<| oR 29 (.minmax true (t 27) [(t 28)])<|
 oV 30 .i64 29<| oC 31 .rem 30 1500<| oM 32 1<| oM 33 2<| oR 34 (.minmax false (t 32) [(t 33)])<| oV 35 .i64 34<| oC 36 .rem 35 1500<| oM 10 31<| oM 11 36<| .nil)
 (.seq (.reg false <| oM 37 10<| oM 38 11<| oR 39 (.minmax true (t 37) [(t 38)])<| oM 40 10<| oM 41 11<| oR 42 (.minmax false (t 40) [(t 41)])<| oM 10 39<| oM 11 42<| .nil)
 (.seq (.reg false <| oM 44 7<| oM 45 10<| oR 46 (ob 19 44 45)<| oM 43 46<| oX 47 0 43<| oX 48 1 43<| oM 12 47<| oM 13 48<| .nil) (.seq (.reg false <| oM 50 7<| oM 51 11<|
 oR 52 (ob 19 50 51)<| oM 49 52<| oX 53 0 49<| oX 54 1 49<| oM 14 53<| oM 15 54<| .nil) (.seq (.reg false <| oM 56 9<| oM 57 11<| oR 58 (ob 19 56 57)<| oM 55 58<|
 oX 59 0 55<| oX 60 1 55<| oM 16 59<| oM 17 60<| .nil) (.seq (.seq (.reg false <| oM 61 12<| oR 62 (.append 9 1 16 [(.string ⟨#[]⟩)] (.const (.slice none 0 0)) (t 61))<|
 oM 63 14<| oR 64 (.append 9 1 16 [(.string ⟨#[]⟩)] (t 62) (t 63))<| oM 65 16<| oR 66 (ob 22 64 65)<| oT 67 66<| oM 68 67<| oG 69 68 false (.move (t 13))<|
 oG 70 68 false (.move (t 15))<| oG 71 68 false (.minmax true (t 69) [(t 70)])<| oG 72 68 false (.move (t 17))<| oG 73 68 false (.bin .neq (t 71) (t 72))<|
 oR 74 (.pick (t 68) (.const (.bool true)) (t 73))<| oM 75 74<| oG 76 75 false (.move (t 7))<| oG 77 75 false (oa 21 76)<| oG 78 75 false (.len false (t 77))<|
 oG 79 75 false (.move (t 9))<| oG 80 75 false (oa 21 79)<| oG 81 75 false (.len false (t 80))<| oG 82 75 false (.bin .neq (t 78) (t 81))<|
 oR 83 (.pick (t 75) (.const (.bool true)) (t 82))<| .nil) (.cond (t 83) (.seq (.reg false <| oR 6 (.move (.const (.bool false)))<| .nil) .ret) .skip)) (.seq (.reg false <|
 oM 85 7<| oM 86 11<| oR 87 (ob 19 85 86)<| oM 84 87<| oX 88 0 84<| oX 89 1 84<| oM 18 88<| oM 19 89<| .nil) (.seq (.reg false <| oR 90 (.call 17 [])<| oM 91 90<|
 oG 92 91 true (.move (t 18))<| oG 93 91 true (.len false (t 92))<| oG 94 91 true (.bin .eql (t 93) (oi 0))<| oR 95 (.pick (t 91) (t 94) (.const (.bool false)))<|
 oM 96 95<| oG 97 96 true (.move (t 19))<| oG 98 96 true (.bin .eql (t 97) (oi 0))<| oR 99 (.pick (t 96) (t 98) (.const (.bool false)))<| oM 6 99<| .nil) .ret)))))))))))
theorem s_kedgelaw19_TrimParts : CS 100 k_kedgelaw19_TrimParts [.tmp 6] F.kedgelaw19_TrimParts :=
  cs Tryz.func5 (by kernel_rfl) (by kernel_rfl)
noncomputable def k_kedgelaw19_TrimKeeps : KC :=
(.seq (.reg false <| oR 4 (.move (.const (.bool false)))<| .nil) (.seq (.reg false <| oM 26 0<| oR 27 (.call 12 [(t 26), (oi 12)])<| oM 25 27<| oX 28 0 25<| oX 29 1 25<|
 oM 5 28<| oM 6 29<| .nil) (.seq (.reg false <| oM 30 5<| oR 31 (oa 23 30)<| oM 7 31<| .nil) (.seq (.reg false <| oM 32 1<| oV 33 .i64 32<| oC 34 .rem 33 1500<|
 oM 8 34<| .nil) (.seq (.reg false <| oM 36 5<| oM 37 8<| oR 38 (ob 19 36 37)<| oM 35 38<| oX 39 0 35<| oX 40 1 35<| oM 9 39<| oM 10 40<| .nil) (.seq (.reg false <|
 oO 11 0<| oO 12 0<| .nil) (.seq (.seq (.reg false <| oM 41 7<| oR 42 (oa 21 41)<| oD 43 42<| oO 44 0<| .nil) (.block 0 (.loop (.seq (.reg false <| oB 45 .lss 44 43<| .nil)
 (.seq (.cond (t 45) .skip (.exit 0)) (.seq (.block 1 (.seq (.reg false <| oI 46 7 42 44<| oK 47 7 46<|
 oR 14 (.alloc 33 [(.int .u32 0), (.slice none 0 0), (.slice none 0 0), (.int .u32 0), (.string ⟨#[]⟩), (.int .i64 0), (.int .i64 0)])<| oU 7 14 47<| .nil)
 (.seq (.reg false <| oM 48 12<| oF 49 6 14<| oL 50 49<| oB 51 .add 48 50<| oM 12 51<| .nil) (.seq (.reg false <| oM 53 5<| oF 54 4 14<| oL 55 54<| oR 56 (ob 24 53 55)<|
 oM 52 56<| oX 57 0 52<| oX 58 1 52<|
 oR 15 (.alloc 33 [(.int .u32 0), (.slice none 0 0), (.slice none 0 0), (.int .u32 0), (.string ⟨#[]⟩), (.int .i64 0), (.int .i64 0)])<| oU 7 15 57<| oM 16 58<| .nil)
 (.seq (.seq (.reg false <| oM 59 16<| oM 60 9<| oF 61 4 14<| oL 62 61<| oR 63 (ob 25 60 62)<| oR 64 (.eqNil false .bool (t 59) (t 63))<| .nil)
 (.cond (t 64) (.seq (.reg false <| oR 4 (.move (.const (.bool false)))<| .nil) .ret) .skip)) (.seq (.reg false <| oM 65 16<| .nil) (.cond (t 65) (.seq (.reg false <|
 oM 66 11<| oF 67 6 14<| oL 68 67<| oB 69 .add 66 68<| oM 11 69<| .nil) (.seq (.reg false <| oM 70 7<| oF 71 0 14<| oK 72 4 71<| oR 73 (ob 26 70 72)<| oD 74 73<|
 oO 75 0<| .nil) (.block 2 (.loop (.seq (.reg false <| oB 76 .lss 75 74<| .nil) (.seq (.cond (t 76) .skip (.exit 2)) (.seq (.block 3 (.seq (.reg false <| oI 77 1 73 75<|
 oL 78 77<| oM 18 78<| .nil) (.seq (.reg false <| oM 80 5<| oM 81 18<| oR 82 (ob 24 80 81)<| oM 79 82<| oX 83 0 79<| oX 84 1 79<|
 oR 19 (.alloc 33 [(.int .u32 0), (.slice none 0 0), (.slice none 0 0), (.int .u32 0), (.string ⟨#[]⟩), (.int .i64 0), (.int .i64 0)])<| oU 7 19 83<| oM 20 84<| .nil)
 (.seq (.reg false <| oM 85 20<| oT 86 85<| .nil) (.cond (t 86) (.seq (.reg false <| oR 4 (.move (.const (.bool false)))<| .nil) .ret) .skip))))) (.reg false <|
 oC 87 .add 75 1<| oM 75 87<| .nil)))))))) .skip))))))) (.reg false <| oC 88 .add 44 1<| oM 44 88<| .nil))))))) (.seq (.seq (.reg false <| oM 89 11<| oM 90 8<|
 oB 91 .gtr 89 90<| oM 92 91<| oG 93 92 false (.move (t 12))<| oG 94 92 false (.move (t 8))<| oG 95 92 false (.bin .leq (t 93) (t 94))<| oG 96 92 false (.move (t 95))<|
 oG 97 96 true (.move (t 9))<| oG 98 96 true (.len false (t 97))<| oG 99 96 true (.bin .gtr (t 98) (oi 0))<| oG 100 92 false (.pick (t 96) (t 99) (.const (.bool false)))<|
 oR 101 (.pick (t 92) (.const (.bool true)) (t 100))<| oM 102 101<| oG 103 102 false (.move (t 10))<| oG 104 102 false (.bin .gtr (t 103) (oi 0))<|
 oG 105 102 false (.move (t 9))<| oG 106 102 false (.len false (t 105))<| oG 107 102 false (.bin .gtr (t 106) (oi 0))<|
 oG 108 102 false (.eqNil true .bool (t 104) (t 107))<| oR 109 (.pick (t 102) (.const (.bool true)) (t 108))<| .nil) (.cond (t 109) (.seq (.reg false <|
 oR 4 (.move (.const (.bool false)))<| .nil) .ret) .skip)) (.seq (.seq (.reg false <| oM 110 9<| oD 111 110<| oC 112 .eql 111 0<| .nil) (.cond (t 112) (.seq (.reg false <|
 oR 113 (.call 17 [])<| oM 4 113<| .nil) .ret) .skip)) (.seq (.reg false <| oM 115 7<| oR 116 (oa 15 115)<| oM 114 116<| oX 117 0 114<| oX 118 1 114<| oM 21 117<|
 oM 22 118<| .nil) (.seq (.reg false <| oM 120 7<| oM 121 21<| oR 122 (ob 13 120 121)<| oM 119 122<| oX 123 0 119<| oX 124 1 119<| oM 23 123<| oM 24 124<| .nil)
 (.seq (.reg false <| oR 125 (.call 17 [])<| oM 126 125<| oG 127 126 true (.move (t 9))<| oG 128 126 true (.move (t 21))<| oG 129 126 true (ob 25 127 128)<|
 oR 130 (.pick (t 126) (t 129) (.const (.bool false)))<| oM 131 130<| oG 132 131 true (.move (t 10))<| oG 133 131 true (.bin .eql (t 132) (oi 100000000))<|
 oG 134 131 true (.move (t 133))<| oG 135 134 false (.move (t 23))<| oG 136 134 false (.move (t 24))<| oG 137 134 false (.move (t 10))<|
 oG 138 134 false (.call 27 [(t 135), (t 136), (t 137), (oi 1000)])<| oG 139 134 false (.bin .lss (t 138) (oi 0))<|
 oG 140 131 true (.pick (t 134) (.const (.bool true)) (t 139))<| oR 141 (.pick (t 131) (t 140) (.const (.bool false)))<| oM 4 141<| .nil) .ret))))))))))))
theorem s_kedgelaw19_TrimKeeps : CS 142 k_kedgelaw19_TrimKeeps [.tmp 4] F.kedgelaw19_TrimKeeps :=
  cs Tryz.func6 (by kernel_rfl) (by kernel_rfl)
noncomputable def k_kedgelaw19_filled : KC :=
(.seq (.reg false <| oR 4 (.move (.const (.pointer none)))<| oR 5 (.move (.const (.slice none 0 0)))<| .nil) (.seq (.reg false <| oR 11 (.call 50 [])<| oM 6 11<| .nil)
 (.seq (.reg false <| oR 7 (.move (.const (.slice none 0 0)))<| .nil) (.seq (.seq (.reg false <| oM 12 0<| oM 13 0<| oD 14 13<| oM 15 1<|
 oR 16 (.minmax false (t 14) [(t 15)])<| oR 17 (.sliceSl 6 (t 12) none (some (t 16)))<| oD 18 17<| oO 19 0<| .nil) (.block 0 (.loop (.seq (.reg false <|
 oB 20 .lss 19 18<| .nil) (.seq (.cond (t 20) .skip (.exit 0)) (.seq (.block 1 (.seq (.reg false <| oI 21 6 17 19<| oK 22 6 21<|
 oR 9 (.alloc 64 [(.slice none 0 0), (.int .u8 0), (.int .u8 0), (.int .i64 0), (.int .u8 0), (.int .u8 0)])<| oU 6 9 22<| .nil) (.seq (.reg false <| oF 23 5 9<| oL 24 23<|
 oR 25 (.bin .rem (t 24) (.const (.int .u8 8)))<| oF 26 5 9<| oS 26 25<| .nil) (.seq (.reg false <| oF 27 3 9<| oL 28 27<| oC 29 .and 28 1073741823<| oF 30 3 9<|
 oS 30 29<| .nil) (.seq (.reg false <| oM 31 7<| oK 32 6 9<| oR 33 (ob 51 31 32)<| oR 10 (.alloc 31 [(.int .u32 0), (.slice none 0 0), (.slice none 0 0), (.int .u32 0)])<|
 oU 4 10 33<| .nil) (.seq (.reg false <| oM 34 6<| oK 35 4 10<| oF 36 3 9<| oL 37 36<| oR 38 (oc 44 34 35 37)<| .nil) (.reg false <| oM 40 7<| oK 41 4 10<| oF 42 3 9<|
 oL 43 42<| oR 44 (oc 52 40 41 43)<| oM 39 44<| oX 45 0 39<| oX 46 1 39<| oM 7 45<| .nil))))))) (.reg false <| oC 47 .add 19 1<| oM 19 47<| .nil))))))) (.seq (.reg false <|
 oM 48 6<| oM 49 7<| oM 4 48<| oM 5 49<| .nil) .ret)))))
theorem s_kedgelaw19_filled : CS 50 k_kedgelaw19_filled [.tmp 4, .tmp 5] F.kedgelaw19_filled :=
  cs Tryz.func12 (by kernel_rfl) (by kernel_rfl)
noncomputable def k_trim_Score : KC :=
(.seq (.reg false <| oO 4 0<| oO 5 0<| .nil) (.seq (.reg false <| oM 11 0<| oM 12 1<| oR 13 (ob 24 11 12)<| oM 10 13<| oX 14 0 10<| oX 15 1 10<|
 oR 6 (.alloc 33 [(.int .u32 0), (.slice none 0 0), (.slice none 0 0), (.int .u32 0), (.string ⟨#[]⟩), (.int .i64 0), (.int .i64 0)])<| oU 7 6 14<| oM 7 15<| .nil)
 (.seq (.seq (.reg false <| oM 16 7<| oT 17 16<| .nil) (.cond (t 17) (.seq (.reg false <| oO 4 0<| oO 5 0<| .nil) .ret) .skip)) (.seq (.reg false <| oM 19 0<| oM 20 0<|
 oM 21 1<| oR 22 (ob 42 20 21)<| oR 23 (ob 47 19 22)<| oM 18 23<| oX 24 0 18<| oX 25 1 18<| oM 8 24<| oM 9 25<| .nil) (.seq (.seq (.reg false <| oM 26 8<| oM 27 9<|
 oF 28 5 6<| oL 29 28<| oF 30 6 6<| oL 31 30<| oR 32 (.call 27 [(t 26), (t 27), (t 29), (t 31)])<| oC 33 .gtr 32 0<| .nil) (.cond (t 33) (.seq (.reg false <| oM 34 8<|
 oM 35 9<| oM 4 34<| oM 5 35<| .nil) .ret) .skip)) (.seq (.reg true <| oF 36 5 6<| oL 37 36<| oF 38 6 6<| oL 39 38<| oM 4 37<| oM 5 39<| .nil) .ret))))))
theorem s_trim_Score : CS 40 k_trim_Score [.tmp 4, .tmp 5] F.trim_Score :=
  cs Tryz.func13 (by kernel_rfl) (by kernel_rfl)
noncomputable def k_kedgeref19_Score : KC :=
(.seq (.reg false <| oO 4 0<| oO 5 0<| .nil) (.seq (.reg false <| oM 10 0<| oM 11 0<| oM 12 1<| oI 13 7 11 12<| oF 14 4 13<| oL 15 14<| oR 16 (ob 53 10 15)<|
 oM 6 16<| .nil) (.seq (.reg false <| oM 18 0<| oM 19 6<| oR 20 (ob 54 18 19)<| oM 17 20<| oX 21 0 17<| oX 22 1 17<| oM 7 21<| oM 8 22<| .nil)
 (.seq (.reg true <| .join (oM 23 7<| oM 24 8<| oM 25 0<| oM 26 1<| oI 27 7 25 26<| oF 28 5 27<| oL 29 28<| oM 30 0<| oM 31 1<| oI 32 7 30 31<| oF 33 6 32<|
 oL 34 33<| .nil) <|oR 35 (.call 55 [(t 23), (t 24), (t 29), (t 34)])<| oM 9 35<| .nil) (.seq (.seq (.reg false <| oM 36 9<| oC 37 .gtr 36 0<| .nil)
 (.cond (t 37) (.seq (.reg false <| oM 38 7<| oM 39 8<| oM 4 38<| oM 5 39<| .nil) .ret) .skip)) (.seq (.reg true <| oM 40 0<| oM 41 1<| oI 42 7 40 41<| oF 43 5 42<|
 oL 44 43<| oM 45 0<| oM 46 1<| oI 47 7 45 46<| oF 48 6 47<| oL 49 48<| oM 4 44<| oM 5 49<| .nil) .ret))))))
theorem s_kedgeref19_Score : CS 50 k_kedgeref19_Score [.tmp 4, .tmp 5] F.kedgeref19_Score :=
  cs Tryz.func14 (by kernel_rfl) (by kernel_rfl)
noncomputable def k_trim_Worst : KC :=
(.seq (.reg false <| oR 2 (.move (.const (.string ⟨#[]⟩)))<| oR 3 (.move (.const (.bool false)))<| .nil) (.seq (.reg false <| oR 4 (.move (.const (.string ⟨#[]⟩)))<|
 oO 5 0<| oO 6 0<| .nil) (.seq (.seq (.reg false <| oM 11 0<| oR 12 (oa 21 11)<| oD 13 12<| oO 14 0<| .nil) (.block 0 (.loop (.seq (.reg false <| oB 15 .lss 14 13<| .nil)
 (.seq (.cond (t 15) .skip (.exit 0)) (.seq (.block 1 (.seq (.reg false <| oI 16 7 12 14<| oK 17 7 16<|
 oR 8 (.alloc 33 [(.int .u32 0), (.slice none 0 0), (.slice none 0 0), (.int .u32 0), (.string ⟨#[]⟩), (.int .i64 0), (.int .i64 0)])<| oU 7 8 17<| .nil)
 (.seq (.reg false <| oM 19 0<| oF 20 4 8<| oL 21 20<| oR 22 (ob 13 19 21)<| oM 18 22<| oX 23 0 18<| oX 24 1 18<| oM 9 23<| oM 10 24<| .nil) (.seq (.reg false <| oM 25 4<|
 oR 26 (.bin .eql (t 25) (.const (.string ⟨#[]⟩)))<| oM 27 26<| oG 28 27 false (.move (t 9))<| oG 29 27 false (.move (t 10))<| oG 30 27 false (.move (t 5))<|
 oG 31 27 false (.move (t 6))<| oG 32 27 false (.call 27 [(t 28), (t 29), (t 30), (t 31)])<| oG 33 27 false (.bin .leq (t 32) (oi 0))<|
 oR 34 (.pick (t 27) (.const (.bool true)) (t 33))<| .nil) (.cond (t 34) (.reg false <| oF 35 4 8<| oL 36 35<| oM 37 9<| oM 38 10<| oM 4 36<| oM 5 37<|
 oM 6 38<| .nil) .skip))))) (.reg false <| oC 39 .add 14 1<| oM 14 39<| .nil))))))) (.seq (.reg false <| oM 40 4<| oM 41 4<|
 oR 42 (.bin .neq (t 41) (.const (.string ⟨#[]⟩)))<| oM 2 40<| oM 3 42<| .nil) .ret))))
theorem s_trim_Worst : CS 43 k_trim_Worst [.tmp 2, .tmp 3] F.trim_Worst :=
  cs Tryz.func15 (by kernel_rfl) (by kernel_rfl)
noncomputable def k_kedgeref19_Worst : KC :=
(.seq (.reg false <| oO 2 0<| .nil) (.seq (.reg false <| oO 3 (-1)<| .nil) (.seq (.seq (.reg false <| oO 4 0<| .nil) (.block 0 (.loop (.seq (.seq (.reg false <| oM 10 4<|
 oM 11 0<| oD 12 11<| oB 13 .lss 10 12<| .nil) (.cond (t 13) .skip (.exit 0))) (.seq (.block 1 (.seq (.seq (.reg false <| oM 16 3<| oC 17 .lss 16 0<| .nil)
 (.cond (t 17) (.seq (.reg false <| oM 18 4<| oM 3 18<| .nil) (.exit 1)) .skip)) (.seq (.reg false <| oM 20 0<| oM 21 4<| oR 22 (ob 14 20 21)<| oM 19 22<| oX 23 0 19<|
 oX 24 1 19<| oM 5 23<| oM 6 24<| .nil) (.seq (.reg false <| oM 26 0<| oM 27 3<| oR 28 (ob 14 26 27)<| oM 25 28<| oX 29 0 25<| oX 30 1 25<| oM 7 29<| oM 8 30<| .nil)
 (.seq (.reg false <| oM 31 5<| oM 32 6<| oM 33 7<| oM 34 8<| oR 35 (.call 55 [(t 31), (t 32), (t 33), (t 34)])<| oM 9 35<| .nil) (.seq (.reg false <| oM 36 9<|
 oC 37 .leq 36 0<| .nil) (.cond (t 37) (.reg false <| oM 38 4<| oM 3 38<| .nil) .skip))))))) (.reg false <| oM 14 4<| oC 15 .add 14 1<| oM 4 15<| .nil))))))
 (.seq (.reg false <| oM 39 3<| oM 2 39<| .nil) .ret))))
theorem s_kedgeref19_Worst : CS 40 k_kedgeref19_Worst [.tmp 2] F.kedgeref19_Worst :=
  cs Tryz.func16 (by kernel_rfl) (by kernel_rfl)
noncomputable def k_kedgelaw19_wakes : KC :=
(.seq (.reg false <| oR 0 (.move (.const (.bool false)))<| .nil) (.seq (.reg false <| oR 11 (.call 50 [])<| oM 1 11<| .nil) (.seq (.reg false <|
 oR 12 (.buildSlice 5 1 [(.int .u8 0)] [(0, 1, (.const (.int .u8 200)))])<|
 oR 13 (.build [(.slice none 0 0), (.int .u8 0), (.int .u8 0), (.int .i64 0), (.int .u8 0), (.int .u8 0)] [(0, 1, (t 12))])<|
 oR 14 (.call 51 [(.const (.slice none 0 0)), (t 13)])<| oR 2 (.alloc 31 [(.int .u32 0), (.slice none 0 0), (.slice none 0 0), (.int .u32 0)])<| oU 4 2 14<| .nil)
 (.seq (.reg false <| oR 15 (.buildSlice 5 1 [(.int .u8 0)] [(0, 1, (.const (.int .u8 201)))])<|
 oR 16 (.build [(.slice none 0 0), (.int .u8 0), (.int .u8 0), (.int .i64 0), (.int .u8 0), (.int .u8 0)] [(0, 1, (t 15))])<|
 oR 17 (.call 51 [(.const (.slice none 0 0)), (t 16)])<| oR 3 (.alloc 31 [(.int .u32 0), (.slice none 0 0), (.slice none 0 0), (.int .u32 0)])<| oU 4 3 17<| .nil)
 (.seq (.reg true <| .join (oM 18 1<| oK 19 4 2<| oM 21 1<| .both (oR 20 (.call 44 [(t 18), (t 19), (oi 500)])<| oK 22 4 3<| .nil) (oK 22 4 3<|
 oR 20 (.call 44 [(t 18), (t 19), (oi 500)])<| .nil)) <|oR 23 (.call 44 [(t 21), (t 22), (oi 400)])<| oM 4 20<| oM 5 23<| .nil) (.seq (.seq (.reg false <| oM 24 4<|
 oC 25 .neq 24 0<| oM 26 25<| oG 27 26 false (.move (t 5))<| oG 28 26 false (.bin .neq (t 27) (oi 0))<| oR 29 (.pick (t 26) (.const (.bool true)) (t 28))<| oM 30 29<|
 oG 31 30 false (.move (t 1))<| oG 32 30 false (oa 21 31)<| oG 33 30 false (.len false (t 32))<| oG 34 30 false (.bin .neq (t 33) (oi 2))<|
 oR 35 (.pick (t 30) (.const (.bool true)) (t 34))<| .nil) (.cond (t 35) (.seq (.reg false <| oR 0 (.move (.const (.bool false)))<| .nil) .ret) .skip)) (.seq (.reg false <|
 oM 36 1<| oR 37 (oa 21 36)<| oR 38 (.indexAddr 7 (t 37) (oi 1))<| oF 39 4 38<| oL 40 39<| oM 6 40<| .nil) (.seq (.reg false <| oM 42 1<| oR 43 (oa 15 42)<| oM 41 43<|
 oX 44 0 41<| oX 45 1 41<| oM 7 44<| oM 8 45<| .nil) (.seq (.reg false <| oM 47 1<| oR 48 (.call 19 [(t 47), (oi 100)])<| oM 46 48<| oX 49 0 46<| oX 50 1 46<| oM 9 49<|
 oM 10 50<| .nil) (.seq (.reg false <| oM 51 8<| oM 52 51<| oG 53 52 true (.move (t 7))<| oG 54 52 true (.move (t 6))<| oG 55 52 true (.bin .eql (t 53) (t 54))<|
 oR 56 (.pick (t 52) (t 55) (.const (.bool false)))<| oM 57 56<| oG 58 57 true (.move (t 9))<| oG 59 57 true (.move (t 6))<|
 oG 60 57 true (.buildSlice 9 1 [(.string ⟨#[]⟩)] [(0, 1, (t 59))])<| oG 61 57 true (ob 22 58 60)<| oR 62 (.pick (t 57) (t 61) (.const (.bool false)))<| oM 63 62<|
 oG 64 63 true (.move (t 10))<| oG 65 63 true (.bin .eql (t 64) (oi 6797))<| oR 66 (.pick (t 63) (t 65) (.const (.bool false)))<| oM 67 66<| oG 68 67 true (.move (t 1))<|
 oG 69 67 true (oa 21 68)<| oG 70 67 true (.len false (t 69))<| oG 71 67 true (.bin .eql (t 70) (oi 1))<| oR 72 (.pick (t 67) (t 71) (.const (.bool false)))<|
 oM 0 72<| .nil) .ret))))))))))
theorem s_kedgelaw19_wakes : CS 73 k_kedgelaw19_wakes [.tmp 0] F.kedgelaw19_wakes :=
  cs Tryz.func17 (by kernel_rfl) (by kernel_rfl)
noncomputable def k_kedgeref14_Find : KC :=
(.seq (.reg false <| oO 4 0<| .nil) (.seq (.seq (.reg false <| oO 5 0<| .nil) (.block 0 (.loop (.seq (.seq (.reg false <| oM 6 5<| oM 7 0<| oD 8 7<| oB 9 .lss 6 8<| .nil)
 (.cond (t 9) .skip (.exit 0))) (.seq (.block 1 (.seq (.reg false <| oM 12 0<| oM 13 5<| oI 14 7 12 13<| oF 15 4 14<| oL 16 15<| oM 17 1<| oB 18 .eql 16 17<| .nil)
 (.cond (t 18) (.seq (.reg false <| oM 19 5<| oM 4 19<| .nil) .ret) .skip))) (.reg false <| oM 10 5<| oC 11 .add 10 1<| oM 5 11<| .nil)))))) (.seq (.reg false <|
 oO 4 (-1)<| .nil) .ret)))
theorem s_kedgeref14_Find : CS 20 k_kedgeref14_Find [.tmp 4] F.kedgeref14_Find :=
  cs Tryz.func18 (by kernel_rfl) (by kernel_rfl)
noncomputable def k_trim_Trim : KC :=
(.seq (.reg false <| oR 4 (.move (.const (.slice none 0 0)))<| oO 5 0<| .nil) (.seq (.reg false <| oR 6 (.move (.const (.slice none 0 0)))<| .nil) (.seq (.reg false <|
 oO 7 0<| .nil) (.seq (.block 0 (.loop (.seq (.seq (.reg false <| oM 14 0<| oR 15 (oa 56 14)<| oM 16 1<| oB 17 .gtr 15 16<| .nil) (.cond (t 17) .skip (.exit 0)))
 (.block 1 (.seq (.reg false <| oM 19 0<| oR 20 (oa 15 19)<| oM 18 20<| oX 21 0 18<| oX 22 1 18<| oM 8 21<| oM 9 22<| .nil) (.seq (.seq (.reg false <| oM 23 9<|
 oT 24 23<| .nil) (.cond (t 24) (.exit 0) .skip)) (.seq (.reg false <| oM 26 0<| oM 27 8<| oR 28 (ob 13 26 27)<| oX 29 0 28<| oX 30 1 28<| oR 31 (ob 57 29 30)<| oM 25 31<|
 oX 32 0 25<| oX 33 1 25<| oM 10 32<| oM 11 33<| .nil) (.seq (.reg false <| oM 34 7<| oM 35 10<| oC 36 .add 35 1000<| oR 37 (.minmax false (t 36) [(oi 100000000)])<|
 oR 38 (.minmax true (t 34) [(t 37)])<| oM 7 38<| .nil) (.seq (.reg false <| oM 39 0<| oM 40 8<| oR 41 (ob 42 39 40)<| oD 42 41<| oO 43 0<| .nil)
 (.block 2 (.loop (.seq (.reg false <| oB 44 .lss 43 42<| .nil) (.seq (.cond (t 44) .skip (.exit 2)) (.seq (.block 3 (.seq (.reg false <| oI 45 1 41 43<| oL 46 45<|
 oM 13 46<| .nil) (.seq (.reg false <| oM 47 0<| oM 48 13<| oR 49 (ob 43 47 48)<| .nil) (.reg false <| oM 50 6<| oM 51 13<|
 oR 52 (.buildSlice 9 1 [(.string ⟨#[]⟩)] [(0, 1, (t 51))])<| oR 53 (.append 9 1 16 [(.string ⟨#[]⟩)] (t 50) (t 52))<| oM 6 53<| .nil)))) (.reg false <| oC 54 .add 43 1<|
 oM 43 54<| .nil))))))))))))))) (.seq (.reg false <| oM 55 6<| oM 56 7<| oM 4 55<| oM 5 56<| .nil) .ret)))))
theorem s_trim_Trim : CS 57 k_trim_Trim [.tmp 4, .tmp 5] F.trim_Trim :=
  cs Tryz.func19 (by kernel_rfl) (by kernel_rfl)
noncomputable def k_kedgeref19_Trim : KC :=
(.seq (.reg false <| oR 4 (.move (.const (.slice none 0 0)))<| oR 5 (.move (.const (.slice none 0 0)))<| oO 6 0<| .nil) (.seq (.reg false <|
 oR 7 (.move (.const (.slice none 0 0)))<| .nil) (.seq (.reg false <| oO 8 0<| .nil) (.seq (.block 0 (.loop (.seq (.seq (.reg false <| oM 19 0<| oD 20 19<|
 oC 21 .gtr 20 0<| .nil) (.cond (t 21) .skip (.exit 0))) (.block 1 (.seq (.reg false <| oO 9 0<| .nil) (.seq (.seq (.reg false <| oO 10 0<| .nil)
 (.block 2 (.loop (.seq (.seq (.reg false <| oM 22 10<| oM 23 0<| oD 24 23<| oB 25 .lss 22 24<| .nil) (.cond (t 25) .skip (.exit 2))) (.seq (.block 3 (.reg false <|
 oM 28 9<| oM 29 0<| oM 30 10<| oI 31 7 29 30<| oF 32 6 31<| oL 33 32<| oB 34 .add 28 33<| oM 9 34<| .nil)) (.reg false <| oM 26 10<| oC 27 .add 26 1<|
 oM 10 27<| .nil)))))) (.seq (.seq (.reg false <| oM 35 9<| oM 36 1<| oB 37 .leq 35 36<| .nil) (.cond (t 37) (.seq (.reg false <| oM 38 0<| oM 39 7<| oM 40 8<| oM 4 38<|
 oM 5 39<| oM 6 40<| .nil) .ret) .skip)) (.seq (.reg false <| oM 41 0<| oR 42 (oa 16 41)<| oM 11 42<| .nil) (.seq (.reg false <| oM 44 0<| oM 45 11<| oR 46 (ob 14 44 45)<|
 oM 43 46<| oX 47 0 43<| oX 48 1 43<| oM 12 47<| oM 13 48<| .nil) (.seq (.reg false <| oM 50 12<| oM 51 13<| oR 52 (ob 58 50 51)<| oM 49 52<| oX 53 0 49<| oX 54 1 49<|
 oM 14 53<| oM 15 54<| .nil) (.seq (.reg false <| oM 55 14<| oC 56 .add 55 1000<| oM 14 56<| .nil) (.seq (.seq (.reg false <| oM 57 14<| oC 58 .gtr 57 100000000<| .nil)
 (.cond (t 58) (.reg false <| oO 14 100000000<| .nil) .skip)) (.seq (.seq (.reg false <| oM 59 14<| oM 60 8<| oB 61 .gtr 59 60<| .nil) (.cond (t 61) (.reg false <|
 oM 62 14<| oM 8 62<| .nil) .skip)) (.seq (.reg false <| oM 63 0<| oM 64 0<| oM 65 11<| oI 66 7 64 65<| oF 67 4 66<| oL 68 67<| oR 69 (ob 53 63 68)<| oM 16 69<| .nil)
 (.seq (.reg false <| oR 17 (.move (.const (.slice none 0 0)))<| .nil) (.seq (.seq (.reg false <| oO 18 0<| .nil) (.block 4 (.loop (.seq (.seq (.reg false <| oM 70 18<|
 oM 71 0<| oD 72 71<| oB 73 .lss 70 72<| .nil) (.cond (t 73) .skip (.exit 4))) (.seq (.block 5 (.seq (.reg false <| oM 76 16<| oM 77 18<| oI 78 1 76 77<| oL 79 78<| .nil)
 (.cond (t 79) (.reg false <| oM 80 7<| oM 81 0<| oM 82 18<| oI 83 7 81 82<| oF 84 4 83<| oL 85 84<| oR 86 (.buildSlice 9 1 [(.string ⟨#[]⟩)] [(0, 1, (t 85))])<|
 oR 87 (.append 9 1 16 [(.string ⟨#[]⟩)] (t 80) (t 86))<| oM 7 87<| .nil) (.reg false <| oM 88 17<| oM 89 0<| oM 90 18<| oI 91 7 89 90<| oK 92 7 91<|
 oR 93 (.buildSlice 33 1 [(.int .u32 0), (.slice none 0 0), (.slice none 0 0), (.int .u32 0), (.string ⟨#[]⟩), (.int .i64 0), (.int .i64 0)] [(0, 7, (t 92))])<|
 oR 94 (.append 33 7 96 [(.int .u32 0), (.slice none 0 0), (.slice none 0 0), (.int .u32 0), (.string ⟨#[]⟩), (.int .i64 0), (.int .i64 0)] (t 88) (t 93))<|
 oM 17 94<| .nil)))) (.reg false <| oM 74 18<| oC 75 .add 74 1<| oM 18 75<| .nil)))))) (.reg false <| oM 95 17<| oM 0 95<| .nil))))))))))))))))) (.seq (.reg false <|
 oM 96 0<| oM 97 7<| oM 98 8<| oM 4 96<| oM 5 97<| oM 6 98<| .nil) .ret)))))
theorem s_kedgeref19_Trim : CS 99 k_kedgeref19_Trim [.tmp 4, .tmp 5, .tmp 6] F.kedgeref19_Trim :=
  cs Tryz.func20 (by kernel_rfl) (by kernel_rfl)
noncomputable def k_graph_Graph_All : KC :=
(.seq (.reg false <| oR 2 (.move (.const (.slice none 0 0)))<| .nil) (.seq (.seq (.reg false <| oM 8 0<|
 oR 9 (.eqNil false .pointer (t 8) (.const (.pointer none)))<| .nil) (.cond (t 9) (.seq (.reg false <| oR 2 (.move (.const (.slice none 0 0)))<| .nil) .ret) .skip))
 (.seq (.reg false <| oR 3 (.move (.const (.slice none 0 0)))<| .nil) (.seq (.seq (.reg false <| oM 10 0<| oR 11 (.nilCheck (t 10))<| oF 12 1 11<| oL 13 12<| oD 14 13<|
 oO 15 0<| .nil) (.block 0 (.loop (.seq (.reg false <| oB 16 .lss 15 14<| .nil) (.seq (.cond (t 16) .skip (.exit 0)) (.seq (.block 1 (.seq (.reg false <| oI 17 1 13 15<|
 oL 18 17<| oM 5 18<| .nil) (.seq (.reg false <| oM 20 0<| oM 21 5<| oR 22 (ob 24 20 21)<| oM 19 22<| oX 23 0 19<| oX 24 1 19<|
 oR 6 (.alloc 33 [(.int .u32 0), (.slice none 0 0), (.slice none 0 0), (.int .u32 0), (.string ⟨#[]⟩), (.int .i64 0), (.int .i64 0)])<| oU 7 6 23<| oM 7 24<| .nil)
 (.reg false <| oM 25 3<| oK 26 7 6<|
 oR 27 (.buildSlice 33 1 [(.int .u32 0), (.slice none 0 0), (.slice none 0 0), (.int .u32 0), (.string ⟨#[]⟩), (.int .i64 0), (.int .i64 0)] [(0, 7, (t 26))])<|
 oR 28 (.append 33 7 96 [(.int .u32 0), (.slice none 0 0), (.slice none 0 0), (.int .u32 0), (.string ⟨#[]⟩), (.int .i64 0), (.int .i64 0)] (t 25) (t 27))<|
 oM 3 28<| .nil)))) (.reg false <| oC 29 .add 15 1<| oM 15 29<| .nil))))))) (.seq (.reg false <| oM 30 3<| oM 2 30<| .nil) .ret)))))
theorem s_graph_Graph_All : CS 31 k_graph_Graph_All [.tmp 2] F.graph_Graph_All :=
  cs Tryz.func21 (by kernel_rfl) (by kernel_rfl)
noncomputable def k_slices_Equal_L_string_string : KC :=
(.seq (.reg false <| oR 4 (.move (.const (.bool false)))<| .nil) (.seq (.seq (.reg false <| oM 6 0<| oD 7 6<| oM 8 1<| oD 9 8<| oB 10 .neq 7 9<| .nil)
 (.cond (t 10) (.seq (.reg false <| oR 4 (.move (.const (.bool false)))<| .nil) .ret) .skip)) (.seq (.seq (.reg false <| oM 11 0<| oD 12 11<| oO 13 0<| .nil)
 (.block 0 (.loop (.seq (.reg false <| oB 14 .lss 13 12<| .nil) (.seq (.cond (t 14) .skip (.exit 0)) (.seq (.block 1 (.seq (.reg false <| oM 15 13<| oM 5 15<| .nil)
 (.seq (.reg true <| oM 16 0<| oM 17 5<| oI 18 1 16 17<| oL 19 18<| oM 20 1<| oM 21 5<| oI 22 1 20 21<| oL 23 22<| oB 24 .neq 19 23<| .nil)
 (.cond (t 24) (.seq (.reg false <| oR 4 (.move (.const (.bool false)))<| .nil) .ret) .skip)))) (.reg false <| oC 25 .add 13 1<| oM 13 25<| .nil))))))) (.seq (.reg false <|
 oR 4 (.move (.const (.bool true)))<| .nil) .ret))))
theorem s_slices_Equal_L_string_string : CS 26 k_slices_Equal_L_string_string [.tmp 4] F.slices_Equal_L_string_string :=
  cs Tryz.func22 (by kernel_rfl) (by kernel_rfl)
noncomputable def k_graph_Graph_Copy : KC :=
(.seq (.reg false <| oR 2 (.move (.const (.pointer none)))<| .nil) (.seq (.seq (.reg false <| oM 3 0<| oR 4 (.eqNil false .pointer (t 3) (.const (.pointer none)))<| .nil)
 (.cond (t 4) (.seq (.reg false <| oR 2 (.move (.const (.pointer none)))<| .nil) .ret) .skip)) (.seq (.reg true <| .join (oM 5 0<| oR 6 (.nilCheck (t 5))<| oF 7 0 6<|
 oL 8 7<| oM 10 0<| oR 11 (.nilCheck (t 10))<| oF 12 1 11<| oM 15 0<| oR 16 (.nilCheck (t 15))<| oF 17 2 16<| .both (oR 9 (oa 59 8)<| oL 13 12<| .both (oR 14 (oa 60 13)<|
 oL 18 17<| .nil) (oL 18 17<| oR 14 (oa 60 13)<| .nil)) (.both (oL 13 12<| .both (oR 9 (oa 59 8)<| .both (oR 14 (oa 60 13)<| oL 18 17<| .nil) (oL 18 17<|
 oR 14 (oa 60 13)<| .nil)) (oL 18 17<| oR 9 (oa 59 8)<| oR 14 (oa 60 13)<| .nil)) (oL 18 17<| .both (oR 9 (oa 59 8)<| oL 13 12<| oR 14 (oa 60 13)<| .nil) (oL 13 12<|
 oR 9 (oa 59 8)<| oR 14 (oa 60 13)<| .nil)))) <|oR 19 (oa 61 18)<|
 oR 20 (.build [(.map none), (.slice none 0 0), (.map none)] [(0, 1, (t 9)), (1, 1, (t 14)), (2, 1, (t 19))])<| oR 21 (.box 108 (t 20))<| oM 2 21<| .nil) .ret)))
theorem s_graph_Graph_Copy : CS 22 k_graph_Graph_Copy [.tmp 2] F.graph_Graph_Copy :=
  cs Tryz.func23 (by kernel_rfl) (by kernel_rfl)
noncomputable def k_graph_Graph_Get : KC :=
(.seq (.reg false <| oR 4 (.alloc 33 [(.int .u32 0), (.slice none 0 0), (.slice none 0 0), (.int .u32 0), (.string ⟨#[]⟩), (.int .i64 0), (.int .i64 0)])<|
 oR 5 (.move (.const (.bool false)))<| .nil) (.seq (.seq (.reg false <| oM 8 0<| oR 9 (.eqNil false .pointer (t 8) (.const (.pointer none)))<| .nil)
 (.cond (t 9) (.seq (.reg false <| oR 10 (.build [(.int .u32 0), (.slice none 0 0), (.slice none 0 0), (.int .u32 0), (.string ⟨#[]⟩), (.int .i64 0), (.int .i64 0)] [])<|
 oU 7 4 10<| oR 5 (.move (.const (.bool false)))<| .nil) .ret) .skip)) (.seq (.reg false <| oM 12 0<| oR 13 (.nilCheck (t 12))<| oF 14 0 13<| oL 15 14<| oM 16 1<|
 oR 17 (.lookup false [.s] (.agg #[(.int .u32 0), (.slice none 0 0), (.slice none 0 0), (.int .u32 0), (.string ⟨#[]⟩), (.int .i64 0), (.int .i64 0)]) true (t 15) (t 16))<|
 oM 11 17<| oX 18 0 11<| oX 19 1 11<| oR 6 (.alloc 33 [(.int .u32 0), (.slice none 0 0), (.slice none 0 0), (.int .u32 0), (.string ⟨#[]⟩), (.int .i64 0), (.int .i64 0)])<|
 oU 7 6 18<| oM 7 19<| .nil) (.seq (.reg false <| oF 20 0 6<| oK 21 4 20<| oR 22 (oa 62 21)<| oF 23 0 6<| oU 4 23 22<| .nil) (.seq (.reg false <| oK 24 7 6<| oM 25 7<|
 oU 7 4 24<| oM 5 25<| .nil) .ret)))))
theorem s_graph_Graph_Get : CS 26 k_graph_Graph_Get [.cellN 7 4, .tmp 5] F.graph_Graph_Get :=
  cs Tryz.func24 (by kernel_rfl) (by kernel_rfl)
noncomputable def k_slices_Contains_L_string_string : KC :=
(.seq (.reg false <| oR 4 (.move (.const (.bool false)))<| .nil) (.seq (.reg false <| oM 5 0<| oM 6 1<| oR 7 (ob 63 5 6)<| oC 8 .geq 7 0<| oM 4 8<| .nil) .ret))
theorem s_slices_Contains_L_string_string : CS 9 k_slices_Contains_L_string_string [.tmp 4] F.slices_Contains_L_string_string :=
  cs Tryz.func25 (by kernel_rfl) (by kernel_rfl)
noncomputable def k_graph_Graph_Above : KC :=
(.seq (.reg false <| oR 2 (.box 23 (t 0))<| oR 3 (.box 31 (t 1))<| oR 4 (.move (.const (.slice none 0 0)))<| .nil) (.seq (.seq (.reg false <| oL 5 2<|
 oR 6 (.eqNil false .pointer (t 5) (.const (.pointer none)))<| .nil) (.cond (t 6) (.seq (.reg false <| oR 4 (.move (.const (.slice none 0 0)))<| .nil) .ret) .skip))
 (.seq (.reg true <| .join (oL 8 2<| oK 9 4 3<| oR 11 (.makeFunc (.func 66) [] [(t 2)])<| .both (oL 7 2<| oR 10 (ob 65 8 9)<| .nil) (oR 10 (ob 65 8 9)<|
 oL 7 2<| .nil)) <|oR 12 (oc 64 7 10 11)<| oM 4 12<| .nil) .ret)))
theorem s_graph_Graph_Above : CS 13 k_graph_Graph_Above [.tmp 4] F.graph_Graph_Above :=
  cs Tryz.func26 (by kernel_rfl) (by kernel_rfl)
noncomputable def k_amount_Compare : KC :=
(.seq (.reg false <| oO 8 0<| .nil) (.seq (.seq (.reg false <| oM 13 0<| oM 14 1<| oR 15 (ob 67 13 14)<| oT 16 15<| oM 17 16<| oG 18 17 false (.move (t 2))<|
 oG 19 17 false (.move (t 3))<| oG 20 17 false (ob 67 18 19)<| oG 21 17 false (.not (t 20))<| oR 22 (.pick (t 17) (.const (.bool true)) (t 21))<| .nil)
 (.cond (t 22) (.seq (.reg false <| oO 8 0<| .nil) .ret) .skip)) (.seq (.reg false <| oM 24 0<| oV 25 .u64 24<| oM 26 3<| oV 27 .u64 26<| oR 28 (ob 68 25 27)<| oM 23 28<|
 oX 29 0 23<| oX 30 1 23<| oM 9 29<| oM 10 30<| .nil) (.seq (.reg false <| oM 32 2<| oV 33 .u64 32<| oM 34 1<| oV 35 .u64 34<| oR 36 (ob 68 33 35)<| oM 31 36<| oX 37 0 31<|
 oX 38 1 31<| oM 11 37<| oM 12 38<| .nil) (.seq (.reg false <| oM 39 9<| oM 40 11<| oR 41 (ob 70 39 40)<| oM 42 10<| oM 43 12<| oR 44 (ob 70 42 43)<|
 oR 45 (.buildSlice 3 2 [(.int .i64 0), (.int .i64 0)] [(0, 1, (t 41)), (1, 1, (t 44))])<| oR 46 (oa 69 45)<| oM 8 46<| .nil) .ret)))))
theorem s_amount_Compare : CS 47 k_amount_Compare [.tmp 8] F.amount_Compare :=
  cs Tryz.func27 (by kernel_rfl) (by kernel_rfl)
noncomputable def k_kedgeref05_Check : KC :=
(.seq (.reg false <| oR 1 (.box 31 (t 0))<| oO 2 0<| .nil) (.seq (.seq (.reg false <| oF 11 1 1<| oL 12 11<| oD 13 12<| oC 14 .lss 13 1<| oM 15 14<|
 oG 16 15 false (.fieldAddr 1 (t 1))<| oG 17 15 false (.load (t 16))<| oG 18 15 false (.len false (t 17))<| oG 19 15 false (.bin .gtr (t 18) (oi 256))<|
 oR 20 (.pick (t 15) (.const (.bool true)) (t 19))<| oM 21 20<| oG 22 21 false (.fieldAddr 2 (t 1))<| oG 23 21 false (.load (t 22))<| oG 24 21 false (.len false (t 23))<|
 oG 25 21 false (.bin .lss (t 24) (oi 1))<| oR 26 (.pick (t 21) (.const (.bool true)) (t 25))<| oM 27 26<| oG 28 27 false (.fieldAddr 2 (t 1))<|
 oG 29 27 false (.load (t 28))<| oG 30 27 false (.len false (t 29))<| oG 31 27 false (.bin .gtr (t 30) (oi 256))<| oR 32 (.pick (t 27) (.const (.bool true)) (t 31))<| .nil)
 (.cond (t 32) (.seq (.reg false <| oO 2 6<| .nil) .ret) .skip)) (.seq (.seq (.reg false <| oO 3 0<| .nil) (.block 0 (.loop (.seq (.seq (.reg false <| oM 33 3<| oF 34 1 1<|
 oL 35 34<| oD 36 35<| oB 37 .lss 33 36<| .nil) (.cond (t 37) .skip (.exit 0))) (.seq (.block 1 (.seq (.reg false <| oF 40 1 1<| oL 41 40<| oM 42 3<| oI 43 4 41 42<|
 oF 44 3 43<| oL 45 44<| oD 46 45<| oC 47 .gtr 46 4<| .nil) (.cond (t 47) (.seq (.reg false <| oO 2 6<| .nil) .ret) .skip))) (.reg false <| oM 38 3<| oC 39 .add 38 1<|
 oM 3 39<| .nil)))))) (.seq (.reg false <| oK 48 4 1<| oR 49 (oa 73 48)<| oM 4 49<| .nil) (.seq (.seq (.reg false <| oM 50 4<| .nil) (.cond (t 50) (.seq (.reg false <|
 oO 2 20<| .nil) .ret) .skip)) (.seq (.seq (.reg false <| oO 5 0<| .nil) (.block 2 (.loop (.seq (.seq (.reg false <| oM 51 5<| oF 52 1 1<| oL 53 52<| oD 54 53<|
 oB 55 .lss 51 54<| .nil) (.cond (t 55) .skip (.exit 2))) (.seq (.block 3 (.seq (.reg false <| oF 58 1 1<| oL 59 58<| oM 60 5<| oI 61 4 59 60<| oF 62 0 61<| oK 63 2 62<|
 oR 64 (oa 74 63)<| oM 6 64<| .nil) (.seq (.reg false <| oF 65 1 1<| oL 66 65<| oM 67 5<| oI 68 4 66 67<| oF 69 0 68<| oF 70 0 69<| oL 71 70<| oR 72 (.len true (t 71))<|
 oC 73 .neq 72 32<| oM 74 73<| oG 75 74 false (.move (t 6))<| oG 76 74 false (.move (t 75))<| oG 77 76 true (.fieldAddr 1 (t 1))<| oG 78 76 true (.load (t 77))<|
 oG 79 76 true (.len false (t 78))<| oG 80 76 true (.bin .gtr (t 79) (oi 1))<| oG 81 74 false (.pick (t 76) (t 80) (.const (.bool false)))<|
 oR 82 (.pick (t 74) (.const (.bool true)) (t 81))<| .nil) (.cond (t 82) (.seq (.reg false <| oO 2 4<| .nil) .ret) .skip)))) (.reg false <| oM 56 5<| oC 57 .add 56 1<|
 oM 5 57<| .nil)))))) (.seq (.seq (.reg false <| oO 7 0<| .nil) (.block 4 (.loop (.seq (.seq (.reg false <| oM 83 7<| oF 84 1 1<| oL 85 84<| oD 86 85<|
 oB 87 .lss 83 86<| .nil) (.cond (t 87) .skip (.exit 4))) (.seq (.block 5 (.seq (.reg false <| oO 8 0<| .nil) (.block 6 (.loop (.seq (.seq (.reg false <| oM 90 8<|
 oM 91 7<| oB 92 .lss 90 91<| .nil) (.cond (t 92) .skip (.exit 6))) (.seq (.block 7 (.seq (.reg true <| .join (oF 95 1 1<| oL 96 95<| oM 97 7<| oI 98 4 96 97<| oF 99 0 98<|
 oF 100 0 99<| oL 101 100<| oF 102 1 1<| oL 103 102<| oM 104 8<| oI 105 4 103 104<| oF 106 0 105<| oF 107 0 106<| oL 108 107<| oB 109 .eql 101 108<| oM 110 109<|
 oG 111 110 true (.fieldAddr 1 (t 1))<| oG 113 110 true (.move (t 7))<| oG 118 110 true (.fieldAddr 1 (t 1))<|
 oG 120 110 true (.move (t 8))<| .nil) <|oG 112 110 true (.load (t 111))<| oG 114 110 true (.indexAddr 4 (t 112) (t 113))<| oG 115 110 true (.fieldAddr 0 (t 114))<|
 oG 116 110 true (.fieldAddr 1 (t 115))<| oG 117 110 true (.load (t 116))<| oG 119 110 true (.load (t 118))<| oG 121 110 true (.indexAddr 4 (t 119) (t 120))<|
 oG 122 110 true (.fieldAddr 0 (t 121))<| oG 123 110 true (.fieldAddr 1 (t 122))<| oG 124 110 true (.load (t 123))<| oG 125 110 true (.bin .eql (t 117) (t 124))<|
 oR 126 (.pick (t 110) (t 125) (.const (.bool false)))<| .nil) (.cond (t 126) (.seq (.reg false <| oO 2 7<| .nil) .ret) .skip))) (.reg false <| oM 93 8<| oC 94 .add 93 1<|
 oM 8 94<| .nil))))))) (.reg false <| oM 88 7<| oC 89 .add 88 1<| oM 7 89<| .nil)))))) (.seq (.reg false <| oK 128 4 1<| oR 129 (oa 75 128)<| oM 127 129<| oX 130 0 127<|
 oX 131 1 127<| oM 9 130<| oM 10 131<| .nil) (.seq (.reg false <| oM 132 10<| oM 2 132<| .nil) .ret)))))))))
theorem s_kedgeref05_Check : CS 133 k_kedgeref05_Check [.tmp 2] F.kedgeref05_Check :=
  cs Tryz.func31 (by kernel_rfl) (by kernel_rfl)
noncomputable def k_kedgeref05_Cut : KC :=
(.seq (.reg false <| oR 2 (.box 31 (t 0))<| oR 4 (.alloc 31 [(.int .u32 0), (.slice none 0 0), (.slice none 0 0), (.int .u32 0)])<| .nil) (.seq (.reg false <| oF 12 0 2<|
 oL 13 12<| oF 14 3 2<| oL 15 14<| oR 16 (.build [(.int .u32 0), (.slice none 0 0), (.slice none 0 0), (.int .u32 0)] [(0, 1, (t 13)), (3, 1, (t 15))])<|
 oR 5 (.alloc 31 [(.int .u32 0), (.slice none 0 0), (.slice none 0 0), (.int .u32 0)])<| oU 4 5 16<| .nil) (.seq (.seq (.reg false <| oO 6 0<| .nil)
 (.block 0 (.loop (.seq (.seq (.reg false <| oM 17 6<| oF 18 1 2<| oL 19 18<| oD 20 19<| oB 21 .lss 17 20<| oM 22 21<| oG 23 22 true (.move (t 6))<|
 oG 24 22 true (.move (t 1))<| oG 25 22 true (.bin .lss (t 23) (t 24))<| oR 26 (.pick (t 22) (t 25) (.const (.bool false)))<| .nil) (.cond (t 26) .skip (.exit 0)))
 (.seq (.block 1 (.seq (.reg true <| .join (oF 29 1 2<| oL 30 29<| oM 31 6<| oI 32 4 30 31<| oF 33 0 32<| oK 34 2 33<| oF 35 1 2<| oL 36 35<| oM 37 6<| oI 38 4 36 37<|
 oF 39 2 38<| oL 40 39<| oR 41 (.build [(.string ⟨#[]⟩), (.int .u32 0), (.int .u32 0), (.slice none 0 0)] [(0, 2, (t 34)), (2, 1, (t 40))])<|
 oR 7 (.alloc 88 [(.string ⟨#[]⟩), (.int .u32 0), (.int .u32 0), (.slice none 0 0)])<| .nil) <|oU 4 7 41<| .nil) (.seq (.seq (.reg false <| oF 42 0 7<| oF 43 0 42<|
 oL 44 43<| oR 45 (.len true (t 44))<| oC 46 .gtr 45 40<| .nil) (.cond (t 46) (.reg false <| oF 47 0 7<| oF 48 0 47<| oL 49 48<|
 oR 50 (.sliceStr (t 49) none (some (oi 40)))<| oF 51 0 7<| oF 52 0 51<| oS 52 50<| .nil) .skip)) (.seq (.seq (.reg false <| oO 8 0<| .nil)
 (.block 2 (.loop (.seq (.seq (.reg false <| oM 53 8<| oF 54 1 2<| oL 55 54<| oM 56 6<| oI 57 4 55 56<| oF 58 3 57<| oL 59 58<| oD 60 59<| oB 61 .lss 53 60<| oM 62 61<|
 oG 63 62 true (.move (t 8))<| oG 64 62 true (.bin .lss (t 63) (oi 6))<| oR 65 (.pick (t 62) (t 64) (.const (.bool false)))<| .nil) (.cond (t 65) .skip (.exit 2)))
 (.seq (.block 3 (.seq (.reg false <| oF 68 1 2<| oL 69 68<| oM 70 6<| oI 71 4 69 70<| oF 72 3 71<| oL 73 72<| oM 74 8<| oI 75 1 73 74<| oL 76 75<| oM 9 76<| .nil)
 (.seq (.seq (.reg false <| oM 77 9<| oR 78 (.len true (t 77))<| oC 79 .gtr 78 90<| .nil) (.cond (t 79) (.reg false <| oM 80 9<|
 oR 81 (.sliceStr (t 80) none (some (oi 90)))<| oM 9 81<| .nil) .skip)) (.reg false <| oF 82 3 7<| oL 83 82<| oM 84 9<|
 oR 85 (.buildSlice 9 1 [(.string ⟨#[]⟩)] [(0, 1, (t 84))])<| oR 86 (.append 9 1 16 [(.string ⟨#[]⟩)] (t 83) (t 85))<| oF 87 3 7<| oS 87 86<| .nil)))) (.reg false <|
 oM 66 8<| oC 67 .add 66 1<| oM 8 67<| .nil)))))) (.reg false <| oF 88 1 5<| oL 89 88<| oK 90 4 7<|
 oR 91 (.buildSlice 88 1 [(.string ⟨#[]⟩), (.int .u32 0), (.int .u32 0), (.slice none 0 0)] [(0, 4, (t 90))])<|
 oR 92 (.append 88 4 56 [(.string ⟨#[]⟩), (.int .u32 0), (.int .u32 0), (.slice none 0 0)] (t 89) (t 91))<| oF 93 1 5<| oS 93 92<| .nil))))) (.reg false <| oM 27 6<|
 oC 28 .add 27 1<| oM 6 28<| .nil)))))) (.seq (.seq (.reg false <| oO 10 0<| .nil) (.block 4 (.loop (.seq (.seq (.reg false <| oM 94 10<| oF 95 2 2<| oL 96 95<| oD 97 96<|
 oB 98 .lss 94 97<| oM 99 98<| oG 100 99 true (.move (t 10))<| oG 101 99 true (.move (t 1))<| oG 102 99 true (.bin .lss (t 100) (t 101))<|
 oR 103 (.pick (t 99) (t 102) (.const (.bool false)))<| .nil) (.cond (t 103) .skip (.exit 4))) (.seq (.block 5 (.seq (.reg false <| oF 106 2 2<| oL 107 106<| oM 108 10<|
 oI 109 2 107 108<| oK 110 2 109<| oR 11 (.alloc 128 [(.int .i64 0), (.string ⟨#[]⟩)])<| oU 2 11 110<| .nil) (.seq (.seq (.reg false <| oF 111 1 11<| oL 112 111<|
 oR 113 (.len true (t 112))<| oC 114 .gtr 113 50<| .nil) (.cond (t 114) (.reg false <| oF 115 1 11<| oL 116 115<| oR 117 (.sliceStr (t 116) none (some (oi 50)))<|
 oF 118 1 11<| oS 118 117<| .nil) .skip)) (.reg false <| oF 119 2 5<| oL 120 119<| oK 121 2 11<|
 oR 122 (.buildSlice 128 1 [(.int .i64 0), (.string ⟨#[]⟩)] [(0, 2, (t 121))])<| oR 123 (.append 128 2 24 [(.int .i64 0), (.string ⟨#[]⟩)] (t 120) (t 122))<| oF 124 2 5<|
 oS 124 123<| .nil)))) (.reg false <| oM 104 10<| oC 105 .add 104 1<| oM 10 105<| .nil)))))) (.seq (.reg false <| oK 125 4 5<| oU 4 4 125<| .nil) .ret)))))
theorem s_kedgeref05_Cut : CS 126 k_kedgeref05_Cut [.cellN 4 4] F.kedgeref05_Cut :=
  cs Tryz.func34 (by kernel_rfl) (by kernel_rfl)
noncomputable def k_kedgeref14_IDs : KC :=
(.seq (.reg false <| oR 4 (.move (.const (.slice none 0 0)))<| .nil) (.seq (.reg false <| oR 5 (.move (.const (.slice none 0 0)))<| .nil) (.seq (.seq (.reg false <|
 oO 6 0<| .nil) (.block 0 (.loop (.seq (.seq (.reg false <| oM 7 6<| oM 8 0<| oD 9 8<| oB 10 .lss 7 9<| .nil) (.cond (t 10) .skip (.exit 0)))
 (.seq (.block 1 (.seq (.reg false <| oM 13 1<| oM 14 6<| oI 15 1 13 14<| oL 16 15<| .nil) (.cond (t 16) (.reg false <| oM 17 5<| oM 18 0<| oM 19 6<| oI 20 7 18 19<|
 oF 21 4 20<| oL 22 21<| oR 23 (.buildSlice 9 1 [(.string ⟨#[]⟩)] [(0, 1, (t 22))])<| oR 24 (.append 9 1 16 [(.string ⟨#[]⟩)] (t 17) (t 23))<| oM 5 24<| .nil) .skip)))
 (.reg false <| oM 11 6<| oC 12 .add 11 1<| oM 6 12<| .nil)))))) (.seq (.reg false <| oM 25 5<| oM 4 25<| .nil) .ret))))
theorem s_kedgeref14_IDs : CS 26 k_kedgeref14_IDs [.tmp 4] F.kedgeref14_IDs :=
  cs Tryz.func36 (by kernel_rfl) (by kernel_rfl)
noncomputable def k_graph_Graph_Below : KC :=
(.seq (.reg false <| oR 4 (.move (.const (.slice none 0 0)))<| .nil) (.seq (.seq (.reg false <| oM 8 0<| oM 9 1<| oR 10 (ob 24 8 9)<| oM 7 10<| oX 11 0 7<| oX 12 1 7<|
 oR 5 (.alloc 33 [(.int .u32 0), (.slice none 0 0), (.slice none 0 0), (.int .u32 0), (.string ⟨#[]⟩), (.int .i64 0), (.int .i64 0)])<| oU 7 5 11<| oM 6 12<| .nil)
 (.seq (.reg false <| oM 13 6<| oT 14 13<| .nil) (.cond (t 14) (.seq (.reg false <| oR 4 (.move (.const (.slice none 0 0)))<| .nil) .ret) .skip))) (.seq (.reg false <|
 oM 15 0<| oM 16 1<| oR 17 (.buildSlice 9 1 [(.string ⟨#[]⟩)] [(0, 1, (t 16))])<| oM 18 0<| oR 19 (.makeFunc (.func 88) [(t 18)] [])<| oR 20 (oc 64 15 17 19)<|
 oM 4 20<| .nil) .ret)))
theorem s_graph_Graph_Below : CS 21 k_graph_Graph_Below [.tmp 4] F.graph_Graph_Below :=
  cs Tryz.func42 (by kernel_rfl) (by kernel_rfl)
end Go.Proofs.YteggaepppahefaaGreat
end
