/- The resolved code of functions, printed by program. -/
import Derived.Test.YtfeifodeaphbjaaGreatB15
section
namespace Go.Proofs.YtfeifodeaphbjaaGreat
open Go Go.K
noncomputable def k_kedgelaw14_GraphBoth : KC :=
(.seq (.reg false <| oR 2 (.move (.const (.bool false)))<| .nil) (.seq (.reg false <| oM 16 0<| oR 17 (.call 26 [(t 16), (oi 12)])<| oM 15 17<| oX 18 0 15<| oX 19 1 15<|
 oM 3 18<| oM 4 19<| .nil) (.seq (.reg false <| oM 20 3<| oR 21 (oa 27 20)<| oM 5 21<| .nil) (.seq (.reg false <| oR 22 (.makeMap)<| oM 6 22<| .nil)
 (.seq (.seq (.reg false <| oM 23 5<| oD 24 23<| oO 25 0<| .nil) (.block 0 (.loop (.seq (.reg false <| oB 26 .lss 25 24<| .nil) (.seq (.cond (t 26) .skip (.exit 0))
 (.seq (.block 1 (.seq (.reg false <| oI 27 7 23 25<| oK 28 7 27<|
 oR 8 (.alloc 39 [(.int .u32 0), (.slice none 0 0), (.slice none 0 0), (.int .u32 0), (.string ⟨#[]⟩), (.int .i64 0), (.int .i64 0)])<| oU 7 8 28<| .nil)
 (.reg true <| .join (oM 29 6<| oF 30 4 8<| oM 32 3<| oF 33 0 8<| oK 34 4 33<| .both (oL 31 30<| oR 35 (ob 28 32 34)<| .nil) (oR 35 (ob 28 32 34)<|
 oL 31 30<| .nil)) <|oQ (.mapUpdate false [.s] (t 29) (t 31) (t 35))<| .nil))) (.reg false <| oC 36 .add 25 1<| oM 25 36<| .nil))))))) (.seq (.seq (.reg false <| oM 37 5<|
 oD 38 37<| oO 39 0<| .nil) (.block 2 (.loop (.seq (.reg false <| oB 40 .lss 39 38<| .nil) (.seq (.cond (t 40) .skip (.exit 2)) (.seq (.block 3 (.seq (.reg false <|
 oI 41 7 37 39<| oK 42 7 41<| oR 10 (.alloc 39 [(.int .u32 0), (.slice none 0 0), (.slice none 0 0), (.int .u32 0), (.string ⟨#[]⟩), (.int .i64 0), (.int .i64 0)])<|
 oU 7 10 42<| .nil) (.seq (.seq (.reg false <| oM 43 5<| oD 44 43<| oO 45 0<| .nil) (.block 4 (.loop (.seq (.reg false <| oB 46 .lss 45 44<| .nil)
 (.seq (.cond (t 46) .skip (.exit 4)) (.seq (.block 5 (.seq (.reg false <| oI 47 7 43 45<| oK 48 7 47<|
 oR 12 (.alloc 39 [(.int .u32 0), (.slice none 0 0), (.slice none 0 0), (.int .u32 0), (.string ⟨#[]⟩), (.int .i64 0), (.int .i64 0)])<| oU 7 12 48<| .nil)
 (.seq (.seq (.reg true <| .join (oF 49 4 10<| oL 50 49<| oF 51 4 12<| oL 52 51<| oB 53 .neq 50 52<| oM 54 53<| oG 55 54 true (.move (t 6))<|
 oG 56 54 true (.fieldAddr 4 (t 10))<| oG 59 54 true (.fieldAddr 4 (t 12))<| oG 62 54 true (.move (t 3))<| oG 63 54 true (.fieldAddr 4 (t 12))<|
 oG 66 54 true (.fieldAddr 4 (t 10))<| .nil) <|.join (oG 57 54 true (.load (t 56))<| oG 58 54 true (.lookup false [.s] (.slice none 0 0) false (t 55) (t 57))<|
 oG 60 54 true (.load (t 59))<| .both (oG 61 54 true (ob 29 58 60)<| oG 64 54 true (.load (t 63))<| .both (oG 65 54 true (ob 30 62 64)<|
 oG 67 54 true (.load (t 66))<| .nil) (oG 67 54 true (.load (t 66))<| oG 65 54 true (ob 30 62 64)<| .nil))
 (.both (oG 64 54 true (.load (t 63))<| .both (oG 61 54 true (ob 29 58 60)<| .both (oG 65 54 true (ob 30 62 64)<| oG 67 54 true (.load (t 66))<| .nil)
 (oG 67 54 true (.load (t 66))<| oG 65 54 true (ob 30 62 64)<| .nil)) (oG 67 54 true (.load (t 66))<| oG 61 54 true (ob 29 58 60)<| oG 65 54 true (ob 30 62 64)<| .nil))
 (oG 67 54 true (.load (t 66))<| .both (oG 61 54 true (ob 29 58 60)<| oG 64 54 true (.load (t 63))<| oG 65 54 true (ob 30 62 64)<| .nil) (oG 64 54 true (.load (t 63))<|
 oG 61 54 true (ob 29 58 60)<| oG 65 54 true (ob 30 62 64)<| .nil)))) <|oG 68 54 true (ob 29 65 67)<| oG 69 54 true (.eqNil true .bool (t 61) (t 68))<|
 oR 70 (.pick (t 54) (t 69) (.const (.bool false)))<| .nil) (.cond (t 70) (.seq (.reg false <| oR 2 (.move (.const (.bool false)))<| .nil) .ret) .skip))
 (.seq (.reg false <| oM 71 6<| oF 72 4 10<| oL 73 72<| oR 74 (.lookup false [.s] (.slice none 0 0) false (t 71) (t 73))<| oF 75 4 12<| oL 76 75<|
 oR 77 (ob 29 74 76)<| .nil) (.cond (t 77) (.seq (.reg false <| oM 78 6<| oF 79 4 12<| oL 80 79<| oR 81 (.lookup false [.s] (.slice none 0 0) false (t 78) (t 80))<|
 oD 82 81<| oO 83 0<| .nil) (.block 6 (.loop (.seq (.reg false <| oB 84 .lss 83 82<| .nil) (.seq (.cond (t 84) .skip (.exit 6)) (.seq (.block 7 (.seq (.reg false <|
 oI 85 1 81 83<| oL 86 85<| oM 14 86<| .nil) (.seq (.reg false <| oM 87 6<| oF 88 4 10<| oL 89 88<| oR 90 (.lookup false [.s] (.slice none 0 0) false (t 87) (t 89))<|
 oM 91 14<| oR 92 (ob 29 90 91)<| oT 93 92<| .nil) (.cond (t 93) (.seq (.reg false <| oR 2 (.move (.const (.bool false)))<| .nil) .ret) .skip)))) (.reg false <|
 oC 94 .add 83 1<| oM 83 94<| .nil))))))) .skip))))) (.reg false <| oC 95 .add 45 1<| oM 45 95<| .nil))))))) (.seq (.reg true <| .join (oM 96 3<| oF 97 4 10<| oL 98 97<|
 oF 100 4 10<| .both (oR 99 (ob 30 96 98)<| oL 101 100<| .nil) (oL 101 100<| oR 99 (ob 30 96 98)<| .nil)) <|oR 102 (ob 29 99 101)<| oT 103 102<| .nil)
 (.cond (t 103) (.seq (.reg false <| oR 2 (.move (.const (.bool false)))<| .nil) .ret) .skip))))) (.reg false <| oC 104 .add 39 1<| oM 39 104<| .nil)))))))
 (.seq (.reg false <| oR 105 (.call 25 [])<| oM 2 105<| .nil) .ret)))))))
theorem s_kedgelaw14_GraphBoth : CS 106 k_kedgelaw14_GraphBoth [.tmp 2] F.kedgelaw14_GraphBoth :=
  cs Tryz.func4 (by kernel_rfl) (by kernel_rfl)
noncomputable def k_kedgelaw14_GraphHangs : KC :=
(.seq (.reg false <| oR 4 (.box 35 (t 1))<| oR 6 (.move (.const (.bool false)))<| .nil) (.seq (.reg false <| oM 26 0<| oR 27 (.call 26 [(t 26), (oi 14)])<| oM 25 27<|
 oX 28 0 25<| oX 29 1 25<| oM 7 28<| oM 8 29<| .nil) (.seq (.seq (.reg false <| oM 30 7<| oM 31 8<| oR 32 (ob 19 30 31)<| oT 33 32<| .nil)
 (.cond (t 33) (.seq (.reg false <| oR 6 (.move (.const (.bool false)))<| .nil) .ret) .skip)) (.seq (.reg false <| oK 34 4 4<| oR 35 (.call 36 [(t 34), (oi 4)])<|
 oR 36 (.buildSlice 35 1 [(.int .u32 0), (.slice none 0 0), (.slice none 0 0), (.int .u32 0)] [(0, 4, (t 35))])<| oM 9 36<| .nil) (.seq (.seq (.reg false <| oM 37 8<|
 oD 38 37<| oO 39 0<| .nil) (.block 0 (.loop (.seq (.reg false <| oB 40 .lss 39 38<| .nil) (.seq (.cond (t 40) .skip (.exit 0)) (.seq (.block 1 (.seq (.reg false <|
 oI 41 7 37 39<| oK 42 7 41<| oR 11 (.alloc 39 [(.int .u32 0), (.slice none 0 0), (.slice none 0 0), (.int .u32 0), (.string ⟨#[]⟩), (.int .i64 0), (.int .i64 0)])<|
 oU 7 11 42<| .nil) (.reg false <| oM 43 9<| oF 44 0 11<| oK 45 4 44<|
 oR 46 (.buildSlice 35 1 [(.int .u32 0), (.slice none 0 0), (.slice none 0 0), (.int .u32 0)] [(0, 4, (t 45))])<|
 oR 47 (.append 35 4 64 [(.int .u32 0), (.slice none 0 0), (.slice none 0 0), (.int .u32 0)] (t 43) (t 46))<| oM 9 47<| .nil))) (.reg false <| oC 48 .add 39 1<|
 oM 39 48<| .nil))))))) (.seq (.seq (.reg false <| oM 49 9<| oD 50 49<| oO 51 0<| .nil) (.block 2 (.loop (.seq (.reg false <| oB 52 .lss 51 50<| .nil)
 (.seq (.cond (t 52) .skip (.exit 2)) (.seq (.block 3 (.seq (.reg false <| oI 53 4 49 51<| oK 54 4 53<|
 oR 13 (.alloc 35 [(.int .u32 0), (.slice none 0 0), (.slice none 0 0), (.int .u32 0)])<| oU 4 13 54<| .nil) (.seq (.reg false <| oM 55 8<| oK 56 4 13<|
 oR 57 (ob 41 55 56)<| oM 14 57<| .nil) (.seq (.reg false <| oM 58 7<| oK 59 4 13<| oR 60 (ob 28 58 59)<| oM 15 60<| .nil) (.seq (.reg false <| oM 62 7<| oM 63 15<|
 oR 64 (.append 9 1 16 [(.string ⟨#[]⟩)] (.const (.slice none 0 0)) (t 63))<| oM 65 15<| oR 66 (.append 9 1 16 [(.string ⟨#[]⟩)] (t 64) (t 65))<| oR 67 (ob 40 62 66)<|
 oM 61 67<| oX 68 0 61<| oX 69 1 61<| oM 16 68<| oM 17 69<| .nil) (.seq (.reg false <| oM 71 8<| oM 72 14<| oR 73 (ob 42 71 72)<| oM 70 73<| oX 74 0 70<| oX 75 1 70<|
 oM 18 74<| oM 19 75<| .nil) (.seq (.reg false <| oM 76 15<| oM 77 8<| oM 78 14<| oR 79 (ob 44 77 78)<| oR 80 (ob 43 76 79)<| oT 81 80<| oM 82 81<|
 oG 83 82 false (.move (t 16))<| oG 84 82 false (.move (t 18))<| oG 85 82 false (.bin .neq (t 83) (t 84))<| oR 86 (.pick (t 82) (.const (.bool true)) (t 85))<| oM 87 86<|
 oG 88 87 false (.move (t 17))<| oG 89 87 false (.move (t 19))<| oG 90 87 false (.bin .neq (t 88) (t 89))<| oR 91 (.pick (t 87) (.const (.bool true)) (t 90))<| .nil)
 (.cond (t 91) (.seq (.reg false <| oR 6 (.move (.const (.bool false)))<| .nil) .ret) .skip)))))))) (.reg false <| oC 92 .add 51 1<| oM 51 92<| .nil)))))))
 (.seq (.seq (.reg false <| oM 93 8<| oD 94 93<| oO 95 0<| .nil) (.block 4 (.loop (.seq (.reg false <| oB 96 .lss 95 94<| .nil) (.seq (.cond (t 96) .skip (.exit 4))
 (.seq (.block 5 (.seq (.reg false <| oI 97 7 93 95<| oK 98 7 97<|
 oR 21 (.alloc 39 [(.int .u32 0), (.slice none 0 0), (.slice none 0 0), (.int .u32 0), (.string ⟨#[]⟩), (.int .i64 0), (.int .i64 0)])<| oU 7 21 98<| .nil)
 (.seq (.reg true <| .join (oM 99 7<| oF 100 4 21<| oL 101 100<| oM 103 8<| oM 104 8<| oF 105 4 21<| .both (oR 102 (ob 30 99 101)<| oL 106 105<| .nil) (oL 106 105<|
 oR 102 (ob 30 99 101)<| .nil)) <|oR 107 (ob 45 104 106)<| oR 108 (ob 44 103 107)<| oR 109 (ob 43 102 108)<| oT 110 109<| .nil) (.cond (t 110) (.seq (.reg false <|
 oR 6 (.move (.const (.bool false)))<| .nil) .ret) .skip)))) (.reg false <| oC 111 .add 95 1<| oM 95 111<| .nil))))))) (.seq (.reg false <| oM 113 7<| oM 114 2<|
 oR 115 (.buildSlice 9 1 [(.string ⟨#[]⟩)] [(0, 1, (t 114))])<| oR 116 (ob 40 113 115)<| oM 112 116<| oX 117 0 112<| oX 118 1 112<| oM 22 117<| oM 23 118<| .nil)
 (.seq (.reg false <| oM 119 8<| oM 120 2<| oR 121 (ob 20 119 120)<| oM 24 121<| .nil) (.seq (.reg false <| oR 122 (.call 25 [])<| oM 123 122<|
 oG 124 123 true (.move (t 24))<| oG 125 123 true (.bin .geq (t 124) (oi 0))<| oG 126 123 true (.move (t 125))<| oG 127 126 false (.move (t 7))<|
 oG 128 126 false (.move (t 2))<| oG 129 126 false (ob 30 127 128)<| oG 130 126 false (.len false (t 129))<| oG 131 126 false (.bin .eql (t 130) (oi 0))<|
 oG 132 126 false (.move (t 131))<| oG 133 132 true (.move (t 22))<| oG 134 132 true (.bin .eql (t 133) (oi 0))<|
 oG 135 126 false (.pick (t 132) (t 134) (.const (.bool false)))<| oG 136 126 false (.move (t 135))<| oG 137 136 true (.move (t 23))<|
 oG 138 136 true (.bin .eql (t 137) (oi 0))<| oG 139 126 false (.pick (t 136) (t 138) (.const (.bool false)))<|
 oG 140 123 true (.pick (t 126) (.const (.bool true)) (t 139))<| oR 141 (.pick (t 123) (t 140) (.const (.bool false)))<| oM 6 141<| .nil) .ret))))))))))
theorem s_kedgelaw14_GraphHangs : CS 142 k_kedgelaw14_GraphHangs [.tmp 6] F.kedgelaw14_GraphHangs :=
  cs Tryz.func8 (by kernel_rfl) (by kernel_rfl)
noncomputable def k_kedgelaw14_GraphAgain : KC :=
(.seq (.reg false <| oR 2 (.move (.const (.bool false)))<| .nil) (.seq (.reg false <| oM 13 0<| oR 14 (.call 26 [(t 13), (oi 12)])<| oM 12 14<| oX 15 0 12<| oX 16 1 12<|
 oM 3 15<| oM 4 16<| .nil) (.seq (.reg false <| oR 17 (.call 13 [])<| oM 5 17<| .nil) (.seq (.reg false <| oM 18 3<| oR 19 (oa 27 18)<| oM 6 19<| .nil)
 (.seq (.seq (.reg false <| oM 20 6<| oD 21 20<| oO 22 0<| .nil) (.block 0 (.loop (.seq (.reg false <| oB 23 .lss 22 21<| .nil) (.seq (.cond (t 23) .skip (.exit 0))
 (.seq (.block 1 (.seq (.reg false <| oI 24 7 20 22<| oK 25 7 24<|
 oR 8 (.alloc 39 [(.int .u32 0), (.slice none 0 0), (.slice none 0 0), (.int .u32 0), (.string ⟨#[]⟩), (.int .i64 0), (.int .i64 0)])<| oU 7 8 25<| .nil)
 (.seq (.reg false <| oM 26 5<| oF 27 0 8<| oK 28 4 27<| oF 29 5 8<| oL 30 29<| oR 31 (oc 17 26 28 30)<| oC 32 .neq 31 0<| .nil) (.cond (t 32) (.seq (.reg false <|
 oR 2 (.move (.const (.bool false)))<| .nil) .ret) .skip)))) (.reg false <| oC 33 .add 22 1<| oM 22 33<| .nil))))))) (.seq (.seq (.reg false <| oM 34 5<| oM 35 6<|
 oR 36 (ob 19 34 35)<| oT 37 36<| .nil) (.cond (t 37) (.seq (.reg false <| oR 2 (.move (.const (.bool false)))<| .nil) .ret) .skip)) (.seq (.seq (.reg false <| oM 38 6<|
 oD 39 38<| oC 40 .sub 39 1<| oM 9 40<| .nil) (.block 2 (.loop (.seq (.seq (.reg false <| oM 41 9<| oC 42 .geq 41 0<| .nil) (.cond (t 42) .skip (.exit 2)))
 (.seq (.block 3 (.seq (.reg false <| oM 45 3<| oM 46 6<| oM 47 9<| oI 48 7 46 47<| oF 49 4 48<| oL 50 49<| oR 51 (ob 14 45 50)<| oC 52 .neq 51 0<| oM 53 52<|
 oG 54 53 false (.move (t 3))<| oG 55 53 false (.move (t 6))<| oG 56 53 false (.move (t 9))<| oG 57 53 false (.sliceSl 7 (t 55) none (some (t 56)))<|
 oG 58 53 false (ob 19 54 57)<| oG 59 53 false (.not (t 58))<| oR 60 (.pick (t 53) (.const (.bool true)) (t 59))<| .nil) (.cond (t 60) (.seq (.reg false <|
 oR 2 (.move (.const (.bool false)))<| .nil) .ret) .skip))) (.reg false <| oM 43 9<| oC 44 .sub 43 1<| oM 9 44<| .nil)))))) (.seq (.reg false <| oM 62 3<|
 oR 63 (.buildSlice 9 1 [(.string ⟨#[]⟩)] [(0, 1, (.const (.string ⟨#[]⟩)))])<| oR 64 (ob 40 62 63)<| oM 61 64<| oX 65 0 61<| oX 66 1 61<| oM 10 65<| oM 11 66<| .nil)
 (.seq (.reg false <| oR 67 (.call 25 [])<| oM 68 67<| oG 69 68 true (.move (t 10))<| oG 70 68 true (.bin .eql (t 69) (oi 0))<|
 oR 71 (.pick (t 68) (t 70) (.const (.bool false)))<| oM 72 71<| oG 73 72 true (.move (t 11))<| oG 74 72 true (.bin .eql (t 73) (oi 0))<|
 oR 75 (.pick (t 72) (t 74) (.const (.bool false)))<| oM 2 75<| .nil) .ret)))))))))
theorem s_kedgelaw14_GraphAgain : CS 76 k_kedgelaw14_GraphAgain [.tmp 2] F.kedgelaw14_GraphAgain :=
  cs Tryz.func9 (by kernel_rfl) (by kernel_rfl)
noncomputable def k_graph_New : KC :=
(.seq (.reg false <| oR 0 (.move (.const (.pointer none)))<| .nil) (.seq (.reg false <| oR 1 (.makeMap)<| oR 2 (.makeMap)<|
 oR 3 (.build [(.map none), (.slice none 0 0), (.map none)] [(0, 1, (t 1)), (2, 1, (t 2))])<| oR 4 (.box 101 (t 3))<| oM 0 4<| .nil) .ret))
theorem s_graph_New : CS 5 k_graph_New [.tmp 0] F.graph_New :=
  cs Tryz.func13 (by kernel_rfl) (by kernel_rfl)
noncomputable def k_graph_Graph_Drop : KC :=
(.seq (.reg false <| oR 3 (.box 9 (t 1))<| oO 4 0<| .nil) (.seq (.seq (.reg false <| oM 9 0<| oR 10 (.eqNil false .pointer (t 9) (.const (.pointer none)))<| .nil)
 (.cond (t 10) (.seq (.reg false <| oO 4 1<| .nil) .ret) .skip)) (.seq (.reg true <| .join (oM 12 0<| oR 13 (.nilCheck (t 12))<| oF 14 0 13<| oL 15 14<| oL 16 3<|
 oR 17 (.lookup false [.s] (.agg #[(.int .u32 0), (.slice none 0 0), (.slice none 0 0), (.int .u32 0), (.string ⟨#[]⟩), (.int .i64 0), (.int .i64 0)]) true (t 15) (t 16))<|
 oM 11 17<| oX 18 0 11<| oX 19 1 11<|
 oR 5 (.alloc 39 [(.int .u32 0), (.slice none 0 0), (.slice none 0 0), (.int .u32 0), (.string ⟨#[]⟩), (.int .i64 0), (.int .i64 0)])<| .nil) <|oU 7 5 18<| oM 6 19<| .nil)
 (.seq (.seq (.reg false <| oM 20 6<| oT 21 20<| .nil) (.cond (t 21) (.seq (.reg false <| oO 4 8<| .nil) .ret) .skip)) (.seq (.reg true <| .join (oM 22 0<|
 oR 23 (.nilCheck (t 22))<| oF 24 0 23<| oL 25 24<| oL 26 3<| .nil) <|oQ (.delete false [.s] (t 25) (t 26))<| .nil) (.seq (.seq (.reg false <| oF 27 0 5<| oF 28 1 27<|
 oL 29 28<| oD 30 29<| oO 31 0<| .nil) (.block 0 (.loop (.seq (.reg false <| oB 32 .lss 31 30<| .nil) (.seq (.cond (t 32) .skip (.exit 0))
 (.seq (.block 1 (.seq (.reg false <| oI 33 4 29 31<| oK 34 4 33<| oR 8 (.alloc 50 [(.string ⟨#[]⟩), (.int .u32 0), (.int .u32 0), (.slice none 0 0)])<| oU 4 8 34<| .nil)
 (.reg true <| .join (oM 35 0<| oR 36 (.nilCheck (t 35))<| oF 37 2 36<| oL 38 37<| oF 39 0 8<| oK 40 2 39<| .nil) <|oQ (.delete true [.s, .i] (t 38) (t 40))<| .nil)))
 (.reg false <| oC 41 .add 31 1<| oM 31 41<| .nil))))))) (.seq (.reg false <| oM 42 0<| oM 43 0<| oR 44 (.nilCheck (t 43))<| oF 45 1 44<| oL 46 45<|
 oR 47 (.makeFunc (.func 49) [] [(t 3)])<| oR 48 (ob 48 46 47)<| oR 49 (.nilCheck (t 42))<| oF 50 1 49<| oS 50 48<| .nil) (.seq (.reg false <| oO 4 0<| .nil) .ret))))))))
theorem s_graph_Graph_Drop : CS 51 k_graph_Graph_Drop [.tmp 4] F.graph_Graph_Drop :=
  cs Tryz.func14 (by kernel_rfl) (by kernel_rfl)
noncomputable def k_kedgeref14_Drop : KC :=
(.seq (.reg false <| oR 4 (.move (.const (.slice none 0 0)))<| oO 5 0<| .nil) (.seq (.reg false <| oM 9 0<| oM 10 1<| oR 11 (ob 20 9 10)<| oM 6 11<| .nil)
 (.seq (.seq (.reg false <| oM 12 6<| oC 13 .lss 12 0<| .nil) (.cond (t 13) (.seq (.reg false <| oM 14 0<| oM 4 14<| oO 5 8<| .nil) .ret) .skip)) (.seq (.reg false <|
 oR 7 (.move (.const (.slice none 0 0)))<| .nil) (.seq (.seq (.reg false <| oO 8 0<| .nil) (.block 0 (.loop (.seq (.seq (.reg false <| oM 15 8<| oM 16 0<| oD 17 16<|
 oB 18 .lss 15 17<| .nil) (.cond (t 18) .skip (.exit 0))) (.seq (.block 1 (.seq (.reg false <| oM 21 8<| oM 22 6<| oB 23 .neq 21 22<| .nil) (.cond (t 23) (.reg false <|
 oM 24 7<| oM 25 0<| oM 26 8<| oI 27 7 25 26<| oK 28 7 27<|
 oR 29 (.buildSlice 39 1 [(.int .u32 0), (.slice none 0 0), (.slice none 0 0), (.int .u32 0), (.string ⟨#[]⟩), (.int .i64 0), (.int .i64 0)] [(0, 7, (t 28))])<|
 oR 30 (.append 39 7 96 [(.int .u32 0), (.slice none 0 0), (.slice none 0 0), (.int .u32 0), (.string ⟨#[]⟩), (.int .i64 0), (.int .i64 0)] (t 24) (t 29))<|
 oM 7 30<| .nil) .skip))) (.reg false <| oM 19 8<| oC 20 .add 19 1<| oM 8 20<| .nil)))))) (.seq (.reg false <| oM 31 7<| oM 4 31<| oO 5 0<| .nil) .ret))))))
theorem s_kedgeref14_Drop : CS 32 k_kedgeref14_Drop [.tmp 4, .tmp 5] F.kedgeref14_Drop :=
  cs Tryz.func15 (by kernel_rfl) (by kernel_rfl)
noncomputable def k_kedgelaw14_of : KC :=
(.seq (.reg false <| oR 3 (.box 37 (t 1))<| oR 4 (.alloc 35 [(.int .u32 0), (.slice none 0 0), (.slice none 0 0), (.int .u32 0)])<| .nil) (.seq (.seq (.reg false <|
 oF 6 12 3<| oL 7 6<| .nil) (.cond (t 7) (.seq (.reg false <| oF 8 8 3<| oK 9 4 8<| oR 10 (.call 36 [(t 9), (oi 4)])<| oU 4 4 10<| .nil) .ret) .skip)) (.seq (.reg false <|
 oF 11 2 3<| oK 12 6 11<| oR 5 (.alloc 31 [(.slice none 0 0), (.int .u8 0), (.int .u8 0), (.int .i64 0), (.int .u8 0), (.int .u8 0)])<| oU 6 5 12<| .nil)
 (.seq (.reg false <| oF 13 5 5<| oL 14 13<| oR 15 (.bin .rem (t 14) (.const (.int .u8 4)))<| oF 16 5 5<| oS 16 15<| .nil) (.seq (.reg false <| oM 17 0<| oK 18 6 5<|
 oR 19 (ob 32 17 18)<| oU 4 4 19<| .nil) .ret)))))
theorem s_kedgelaw14_of : CS 20 k_kedgelaw14_of [.cellN 4 4] F.kedgelaw14_of :=
  cs Tryz.func16 (by kernel_rfl) (by kernel_rfl)
noncomputable def k_graph_Graph_Add : KC :=
(.seq (.reg false <| oR 4 (.box 35 (t 1))<| oO 6 0<| .nil) (.seq (.seq (.reg false <| oM 17 0<| oR 18 (.eqNil false .pointer (t 17) (.const (.pointer none)))<| .nil)
 (.cond (t 18) (.seq (.reg false <| oO 6 1<| .nil) .ret) .skip)) (.seq (.reg false <| oK 20 4 4<| oM 21 2<| oR 22 (ob 50 20 21)<| oM 19 22<| oX 23 0 19<| oX 24 1 19<|
 oR 7 (.alloc 39 [(.int .u32 0), (.slice none 0 0), (.slice none 0 0), (.int .u32 0), (.string ⟨#[]⟩), (.int .i64 0), (.int .i64 0)])<| oU 7 7 23<| oM 8 24<| .nil)
 (.seq (.seq (.reg false <| oM 25 8<| oC 26 .neq 25 0<| .nil) (.cond (t 26) (.seq (.reg false <| oM 27 8<| oM 6 27<| .nil) .ret) .skip))
 (.seq (.seq (.reg true <| .join (oM 29 0<| oR 30 (.nilCheck (t 29))<| oF 31 0 30<| oL 32 31<| oF 33 4 7<| oL 34 33<|
 oR 35 (.lookup false [.s] (.agg #[(.int .u32 0), (.slice none 0 0), (.slice none 0 0), (.int .u32 0), (.string ⟨#[]⟩), (.int .i64 0), (.int .i64 0)]) true (t 32) (t 34))<|
 oM 28 35<| oX 36 0 28<| oX 37 1 28<|
 oR 9 (.alloc 39 [(.int .u32 0), (.slice none 0 0), (.slice none 0 0), (.int .u32 0), (.string ⟨#[]⟩), (.int .i64 0), (.int .i64 0)])<| .nil) <|oU 7 9 36<| oM 10 37<| .nil)
 (.seq (.reg false <| oM 38 10<| .nil) (.cond (t 38) (.seq (.reg false <| oO 6 7<| .nil) .ret) .skip))) (.seq (.seq (.reg false <| oF 39 1 4<| oL 40 39<| oD 41 40<|
 oO 42 0<| .nil) (.block 0 (.loop (.seq (.reg false <| oB 43 .lss 42 41<| .nil) (.seq (.cond (t 43) .skip (.exit 0)) (.seq (.block 1 (.seq (.reg false <| oI 44 4 40 42<|
 oK 45 4 44<| oR 12 (.alloc 50 [(.string ⟨#[]⟩), (.int .u32 0), (.int .u32 0), (.slice none 0 0)])<| oU 4 12 45<| .nil) (.seq (.reg true <| .join (oM 47 0<|
 oR 48 (.nilCheck (t 47))<| oF 49 2 48<| oL 50 49<| oF 51 0 12<| oK 52 2 51<| .nil) <|oR 53 (.lookup true [.s, .i] (.string ⟨#[]⟩) true (t 50) (t 52))<| oM 46 53<|
 oX 54 0 46<| oX 55 1 46<| oM 13 54<| oM 14 55<| .nil) (.seq (.reg false <| oM 56 14<| .nil) (.cond (t 56) (.seq (.reg false <| oO 6 15<| .nil) .ret) .skip)))))
 (.reg false <| oC 57 .add 42 1<| oM 42 57<| .nil))))))) (.seq (.reg true <| .join (oM 58 0<| oR 59 (.nilCheck (t 58))<| oF 60 0 59<| oL 61 60<| oF 62 4 7<| oL 63 62<|
 oK 64 7 7<| .nil) <|oQ (.mapUpdate false [.s] (t 61) (t 63) (t 64))<| .nil) (.seq (.reg true <| .join (oM 65 0<| oM 66 0<| oR 67 (.nilCheck (t 66))<| oF 68 1 67<|
 oF 70 4 7<| oL 71 70<| .both (oL 69 68<| oR 72 (.buildSlice 9 1 [(.string ⟨#[]⟩)] [(0, 1, (t 71))])<| .nil) (oR 72 (.buildSlice 9 1 [(.string ⟨#[]⟩)] [(0, 1, (t 71))])<|
 oL 69 68<| .nil)) <|oR 73 (.append 9 1 16 [(.string ⟨#[]⟩)] (t 69) (t 72))<| oR 74 (.nilCheck (t 65))<| oF 75 1 74<| oS 75 73<| .nil) (.seq (.seq (.reg false <|
 oF 76 1 4<| oL 77 76<| oD 78 77<| oO 79 0<| .nil) (.block 2 (.loop (.seq (.reg false <| oB 80 .lss 79 78<| .nil) (.seq (.cond (t 80) .skip (.exit 2))
 (.seq (.block 3 (.seq (.reg false <| oI 81 4 77 79<| oK 82 4 81<| oR 16 (.alloc 50 [(.string ⟨#[]⟩), (.int .u32 0), (.int .u32 0), (.slice none 0 0)])<| oU 4 16 82<| .nil)
 (.reg true <| .join (oM 83 0<| oR 84 (.nilCheck (t 83))<| oF 85 2 84<| oL 86 85<| oF 87 0 16<| oK 88 2 87<| oF 89 4 7<|
 oL 90 89<| .nil) <|oQ (.mapUpdate true [.s, .i] (t 86) (t 88) (t 90))<| .nil))) (.reg false <| oC 91 .add 79 1<| oM 79 91<| .nil))))))) (.seq (.reg false <|
 oO 6 0<| .nil) .ret))))))))))
theorem s_graph_Graph_Add : CS 92 k_graph_Graph_Add [.tmp 6] F.graph_Graph_Add :=
  cs Tryz.func17 (by kernel_rfl) (by kernel_rfl)
noncomputable def k_kedgeref14_Add : KC :=
(.seq (.reg false <| oR 4 (.box 35 (t 1))<| oR 6 (.move (.const (.slice none 0 0)))<| oO 7 0<| .nil) (.seq (.reg false <| oK 17 4 4<| oR 18 (oa 51 17)<| oM 8 18<| .nil)
 (.seq (.seq (.reg false <| oM 19 8<| oC 20 .neq 19 0<| .nil) (.cond (t 20) (.seq (.reg false <| oM 21 0<| oM 22 8<| oM 6 21<| oM 7 22<| .nil) .ret) .skip))
 (.seq (.reg false <| oF 23 1 4<| oL 24 23<| oR 25 (.indexAddr 4 (t 24) (oi 0))<| oF 26 0 25<| oK 27 2 26<| oR 28 (oa 52 27)<| oM 9 28<| .nil) (.seq (.seq (.reg false <|
 oM 29 9<| .nil) (.cond (t 29) (.seq (.reg false <| oM 30 0<| oM 6 30<| oO 7 4<| .nil) .ret) .skip)) (.seq (.reg false <| oM 31 2<|
 oR 32 (.pcall 53 Go.Proofs.YtfeifodeaphbjaaGreat.qGood [(t 31)])<| oM 10 32<| .nil) (.seq (.seq (.reg false <| oM 33 10<| oT 34 33<| .nil)
 (.cond (t 34) (.seq (.reg false <| oM 35 0<| oM 6 35<| oO 7 3<| .nil) .ret) .skip)) (.seq (.reg false <| oK 36 4 4<| oR 37 (oa 38 36)<| oM 11 37<| .nil)
 (.seq (.reg false <| oM 38 0<| oM 39 11<| oR 40 (ob 20 38 39)<| oM 12 40<| .nil) (.seq (.seq (.reg false <| oM 41 12<| oC 42 .geq 41 0<| .nil)
 (.cond (t 42) (.seq (.reg false <| oM 43 0<| oM 6 43<| oO 7 7<| .nil) .ret) .skip)) (.seq (.seq (.reg false <| oO 13 0<| .nil) (.block 0 (.loop (.seq (.seq (.reg false <|
 oM 44 13<| oF 45 1 4<| oL 46 45<| oD 47 46<| oB 48 .lss 44 47<| .nil) (.cond (t 48) .skip (.exit 0))) (.seq (.block 1 (.seq (.reg false <| oM 51 0<| oF 52 1 4<| oL 53 52<|
 oM 54 13<| oI 55 4 53 54<| oF 56 0 55<| oK 57 2 56<| oR 58 (ob 23 51 57)<| oM 12 58<| .nil) (.seq (.reg false <| oM 59 12<| oC 60 .geq 59 0<| .nil)
 (.cond (t 60) (.seq (.reg false <| oM 61 0<| oM 6 61<| oO 7 15<| .nil) .ret) .skip)))) (.reg false <| oM 49 13<| oC 50 .add 49 1<| oM 13 50<| .nil))))))
 (.seq (.reg false <| oK 62 4 4<| oR 63 (oa 54 62)<| oM 14 63<| .nil) (.seq (.reg false <| oR 15 (.move (.const (.slice none 0 0)))<| .nil) (.seq (.seq (.reg false <|
 oO 16 0<| .nil) (.block 2 (.loop (.seq (.seq (.reg false <| oM 64 16<| oM 65 0<| oD 66 65<| oB 67 .lss 64 66<| .nil) (.cond (t 67) .skip (.exit 2)))
 (.seq (.block 3 (.reg false <| oM 70 15<| oM 71 0<| oM 72 16<| oI 73 7 71 72<| oK 74 7 73<|
 oR 75 (.buildSlice 39 1 [(.int .u32 0), (.slice none 0 0), (.slice none 0 0), (.int .u32 0), (.string ⟨#[]⟩), (.int .i64 0), (.int .i64 0)] [(0, 7, (t 74))])<|
 oR 76 (.append 39 7 96 [(.int .u32 0), (.slice none 0 0), (.slice none 0 0), (.int .u32 0), (.string ⟨#[]⟩), (.int .i64 0), (.int .i64 0)] (t 70) (t 75))<|
 oM 15 76<| .nil)) (.reg false <| oM 68 16<| oC 69 .add 68 1<| oM 16 69<| .nil)))))) (.seq (.reg false <| oM 77 15<| oK 78 4 4<| oM 79 11<| oM 80 2<| oM 81 14<|
 oR 82 (.build [(.int .u32 0), (.slice none 0 0), (.slice none 0 0), (.int .u32 0), (.string ⟨#[]⟩), (.int .i64 0), (.int .i64 0)] [(0, 4, (t 78)), (4, 1, (t 79)), (5, 1, (t 80)), (6, 1, (t 81))])<|
 oR 83 (.buildSlice 39 1 [(.int .u32 0), (.slice none 0 0), (.slice none 0 0), (.int .u32 0), (.string ⟨#[]⟩), (.int .i64 0), (.int .i64 0)] [(0, 7, (t 82))])<|
 oR 84 (.append 39 7 96 [(.int .u32 0), (.slice none 0 0), (.slice none 0 0), (.int .u32 0), (.string ⟨#[]⟩), (.int .i64 0), (.int .i64 0)] (t 77) (t 83))<| oM 6 84<|
 oO 7 0<| .nil) .ret)))))))))))))))
theorem s_kedgeref14_Add : CS 85 k_kedgeref14_Add [.tmp 6, .tmp 7] F.kedgeref14_Add :=
  cs Tryz.func18 (by kernel_rfl) (by kernel_rfl)
noncomputable def k_kedgelaw14_same : KC :=
(.seq (.reg false <| oR 4 (.move (.const (.bool false)))<| .nil) (.seq (.reg false <| oM 8 0<| oR 9 (oa 27 8)<| oM 5 9<| .nil) (.seq (.seq (.reg false <| oM 10 5<|
 oD 11 10<| oM 12 1<| oD 13 12<| oB 14 .neq 11 13<| .nil) (.cond (t 14) (.seq (.reg false <| oR 4 (.move (.const (.bool false)))<| .nil) .ret) .skip))
 (.seq (.seq (.reg false <| oM 15 5<| oD 16 15<| oO 17 0<| .nil) (.block 0 (.loop (.seq (.reg false <| oB 18 .lss 17 16<| .nil) (.seq (.cond (t 18) .skip (.exit 0))
 (.seq (.block 1 (.seq (.reg false <| oM 19 17<| oI 20 7 15 17<| oK 21 7 20<|
 oR 7 (.alloc 39 [(.int .u32 0), (.slice none 0 0), (.slice none 0 0), (.int .u32 0), (.string ⟨#[]⟩), (.int .i64 0), (.int .i64 0)])<| oM 6 19<| oU 7 7 21<| .nil)
 (.seq (.reg true <| .join (oF 22 4 7<| oL 23 22<| oM 24 1<| oM 25 6<| oI 26 7 24 25<| oF 27 4 26<| oL 28 27<| oB 29 .neq 23 28<| oM 30 29<|
 oG 31 30 false (.fieldAddr 5 (t 7))<| oG 33 30 false (.move (t 1))<| oG 34 30 false (.move (t 6))<| oG 35 30 false (.indexAddr 7 (t 33) (t 34))<|
 oG 36 30 false (.fieldAddr 5 (t 35))<| .nil) <|.join (oG 32 30 false (.load (t 31))<| oG 37 30 false (.load (t 36))<| oG 38 30 false (.bin .neq (t 32) (t 37))<|
 oR 39 (.pick (t 30) (.const (.bool true)) (t 38))<| oM 40 39<| oG 41 40 false (.fieldAddr 6 (t 7))<| oG 43 40 false (.move (t 1))<| oG 44 40 false (.move (t 6))<|
 oG 45 40 false (.indexAddr 7 (t 43) (t 44))<| oG 46 40 false (.fieldAddr 6 (t 45))<| .nil) <|.join (oG 42 40 false (.load (t 41))<| oG 47 40 false (.load (t 46))<|
 oG 48 40 false (.bin .neq (t 42) (t 47))<| oR 49 (.pick (t 40) (.const (.bool true)) (t 48))<| oM 50 49<| oG 51 50 false (.fieldAddr 0 (t 7))<|
 oG 53 50 false (.move (t 1))<| oG 54 50 false (.move (t 6))<| oG 55 50 false (.indexAddr 7 (t 53) (t 54))<|
 oG 56 50 false (.fieldAddr 0 (t 55))<| .nil) <|.join (oG 52 50 false (.loadN 4 (t 51))<| oG 57 50 false (.loadN 4 (t 56))<| .nil) <|oG 58 50 false (ob 55 52 57)<|
 oG 59 50 false (.not (t 58))<| oR 60 (.pick (t 50) (.const (.bool true)) (t 59))<| .nil) (.cond (t 60) (.seq (.reg false <|
 oR 4 (.move (.const (.bool false)))<| .nil) .ret) .skip)))) (.reg false <| oC 61 .add 17 1<| oM 17 61<| .nil))))))) (.seq (.reg false <|
 oR 4 (.move (.const (.bool true)))<| .nil) .ret)))))
theorem s_kedgelaw14_same : CS 62 k_kedgelaw14_same [.tmp 4] F.kedgelaw14_same :=
  cs Tryz.func19 (by kernel_rfl) (by kernel_rfl)
noncomputable def k_kedgeref14_Find : KC :=
(.seq (.reg false <| oO 4 0<| .nil) (.seq (.seq (.reg false <| oO 5 0<| .nil) (.block 0 (.loop (.seq (.seq (.reg false <| oM 6 5<| oM 7 0<| oD 8 7<| oB 9 .lss 6 8<| .nil)
 (.cond (t 9) .skip (.exit 0))) (.seq (.block 1 (.seq (.reg false <| oM 12 0<| oM 13 5<| oI 14 7 12 13<| oF 15 4 14<| oL 16 15<| oM 17 1<| oB 18 .eql 16 17<| .nil)
 (.cond (t 18) (.seq (.reg false <| oM 19 5<| oM 4 19<| .nil) .ret) .skip))) (.reg false <| oM 10 5<| oC 11 .add 10 1<| oM 5 11<| .nil)))))) (.seq (.reg false <|
 oO 4 (-1)<| .nil) .ret)))
theorem s_kedgeref14_Find : CS 20 k_kedgeref14_Find [.tmp 4] F.kedgeref14_Find :=
  cs Tryz.func20 (by kernel_rfl) (by kernel_rfl)
noncomputable def k_graph_Graph_Get : KC :=
(.seq (.reg false <| oR 4 (.alloc 39 [(.int .u32 0), (.slice none 0 0), (.slice none 0 0), (.int .u32 0), (.string ⟨#[]⟩), (.int .i64 0), (.int .i64 0)])<|
 oR 5 (.move (.const (.bool false)))<| .nil) (.seq (.seq (.reg false <| oM 8 0<| oR 9 (.eqNil false .pointer (t 8) (.const (.pointer none)))<| .nil)
 (.cond (t 9) (.seq (.reg false <| oR 10 (.build [(.int .u32 0), (.slice none 0 0), (.slice none 0 0), (.int .u32 0), (.string ⟨#[]⟩), (.int .i64 0), (.int .i64 0)] [])<|
 oU 7 4 10<| oR 5 (.move (.const (.bool false)))<| .nil) .ret) .skip)) (.seq (.reg false <| oM 12 0<| oR 13 (.nilCheck (t 12))<| oF 14 0 13<| oL 15 14<| oM 16 1<|
 oR 17 (.lookup false [.s] (.agg #[(.int .u32 0), (.slice none 0 0), (.slice none 0 0), (.int .u32 0), (.string ⟨#[]⟩), (.int .i64 0), (.int .i64 0)]) true (t 15) (t 16))<|
 oM 11 17<| oX 18 0 11<| oX 19 1 11<| oR 6 (.alloc 39 [(.int .u32 0), (.slice none 0 0), (.slice none 0 0), (.int .u32 0), (.string ⟨#[]⟩), (.int .i64 0), (.int .i64 0)])<|
 oU 7 6 18<| oM 7 19<| .nil) (.seq (.reg false <| oF 20 0 6<| oK 21 4 20<| oR 22 (oa 56 21)<| oF 23 0 6<| oU 4 23 22<| .nil) (.seq (.reg false <| oK 24 7 6<| oM 25 7<|
 oU 7 4 24<| oM 5 25<| .nil) .ret)))))
theorem s_graph_Graph_Get : CS 26 k_graph_Graph_Get [.cellN 7 4, .tmp 5] F.graph_Graph_Get :=
  cs Tryz.func21 (by kernel_rfl) (by kernel_rfl)
noncomputable def k_graph_Graph_Spender : KC :=
(.seq (.reg false <| oR 3 (.box 25 (t 1))<| oR 4 (.move (.const (.string ⟨#[]⟩)))<| oR 5 (.move (.const (.bool false)))<| .nil) (.seq (.seq (.reg false <| oM 8 0<|
 oR 9 (.eqNil false .pointer (t 8) (.const (.pointer none)))<| .nil) (.cond (t 9) (.seq (.reg false <| oR 4 (.move (.const (.string ⟨#[]⟩)))<|
 oR 5 (.move (.const (.bool false)))<| .nil) .ret) .skip)) (.seq (.reg true <| .join (oM 11 0<| oR 12 (.nilCheck (t 11))<| oF 13 2 12<| oL 14 13<|
 oK 15 2 3<| .nil) <|oR 16 (.lookup true [.s, .i] (.string ⟨#[]⟩) true (t 14) (t 15))<| oM 10 16<| oX 17 0 10<| oX 18 1 10<| oM 6 17<| oM 7 18<| .nil) (.seq (.reg false <|
 oM 19 6<| oM 20 7<| oM 4 19<| oM 5 20<| .nil) .ret))))
theorem s_graph_Graph_Spender : CS 21 k_graph_Graph_Spender [.tmp 4, .tmp 5] F.graph_Graph_Spender :=
  cs Tryz.func22 (by kernel_rfl) (by kernel_rfl)
noncomputable def k_kedgeref14_Spender : KC :=
(.seq (.reg false <| oR 3 (.box 25 (t 1))<| oO 4 0<| .nil) (.seq (.seq (.reg false <| oO 5 0<| .nil) (.block 0 (.loop (.seq (.seq (.reg false <| oM 7 5<| oM 8 0<| oD 9 8<|
 oB 10 .lss 7 9<| .nil) (.cond (t 10) .skip (.exit 0))) (.seq (.block 1 (.seq (.reg false <| oO 6 0<| .nil) (.block 2 (.loop (.seq (.seq (.reg false <| oM 13 6<| oM 14 0<|
 oM 15 5<| oI 16 7 14 15<| oF 17 0 16<| oF 18 1 17<| oL 19 18<| oD 20 19<| oB 21 .lss 13 20<| .nil) (.cond (t 21) .skip (.exit 2)))
 (.seq (.block 3 (.seq (.reg true <| .join (oM 24 0<| oM 25 5<| oI 26 7 24 25<| oF 27 0 26<| oF 28 1 27<| oL 29 28<| oM 30 6<| oI 31 4 29 30<| oF 32 0 31<| oF 33 0 32<|
 oL 34 33<| oF 35 0 3<| oL 36 35<| oB 37 .eql 34 36<| oM 38 37<| oG 39 38 true (.move (t 0))<| oG 40 38 true (.move (t 5))<| oG 41 38 true (.indexAddr 7 (t 39) (t 40))<|
 oG 42 38 true (.fieldAddr 0 (t 41))<| oG 43 38 true (.fieldAddr 1 (t 42))<| oG 45 38 true (.move (t 6))<|
 oG 50 38 true (.fieldAddr 1 (t 3))<| .nil) <|oG 44 38 true (.load (t 43))<| oG 46 38 true (.indexAddr 4 (t 44) (t 45))<| oG 47 38 true (.fieldAddr 0 (t 46))<|
 oG 48 38 true (.fieldAddr 1 (t 47))<| oG 49 38 true (.load (t 48))<| oG 51 38 true (.load (t 50))<| oG 52 38 true (.bin .eql (t 49) (t 51))<|
 oR 53 (.pick (t 38) (t 52) (.const (.bool false)))<| .nil) (.cond (t 53) (.seq (.reg false <| oM 54 5<| oM 4 54<| .nil) .ret) .skip))) (.reg false <| oM 22 6<|
 oC 23 .add 22 1<| oM 6 23<| .nil))))))) (.reg false <| oM 11 5<| oC 12 .add 11 1<| oM 5 12<| .nil)))))) (.seq (.reg false <| oO 4 (-1)<| .nil) .ret)))
theorem s_kedgeref14_Spender : CS 55 k_kedgeref14_Spender [.tmp 4] F.kedgeref14_Spender :=
  cs Tryz.func23 (by kernel_rfl) (by kernel_rfl)
noncomputable def k_graph_Graph_Out : KC :=
(.seq (.reg false <| oR 3 (.box 25 (t 1))<| oR 4 (.alloc 58 [(.int .i64 0), (.string ⟨#[]⟩)])<| oR 5 (.move (.const (.bool false)))<| .nil) (.seq (.reg false <| oM 9 0<|
 oF 10 0 3<| oL 11 10<| oR 12 (ob 21 9 11)<| oM 8 12<| oX 13 0 8<| oX 14 1 8<|
 oR 6 (.alloc 39 [(.int .u32 0), (.slice none 0 0), (.slice none 0 0), (.int .u32 0), (.string ⟨#[]⟩), (.int .i64 0), (.int .i64 0)])<| oU 7 6 13<| oM 7 14<| .nil)
 (.seq (.seq (.reg false <| oM 15 7<| oT 16 15<| oM 17 16<| oG 18 17 false (.fieldAddr 1 (t 3))<| oG 19 17 false (.load (t 18))<| oG 20 17 false (.conv .i64 (t 19))<|
 oG 21 17 false (.fieldAddr 0 (t 6))<| oG 22 17 false (.fieldAddr 2 (t 21))<| oG 23 17 false (.load (t 22))<| oG 24 17 false (.len false (t 23))<|
 oG 25 17 false (.bin .geq (t 20) (t 24))<| oR 26 (.pick (t 17) (.const (.bool true)) (t 25))<| .nil) (.cond (t 26) (.seq (.reg false <|
 oR 27 (.build [(.int .i64 0), (.string ⟨#[]⟩)] [])<| oU 2 4 27<| oR 5 (.move (.const (.bool false)))<| .nil) .ret) .skip)) (.seq (.reg false <| oF 28 0 6<| oF 29 2 28<|
 oL 30 29<| oF 31 1 3<| oL 32 31<| oI 33 2 30 32<| oK 34 2 33<| oU 2 4 34<| oR 5 (.move (.const (.bool true)))<| .nil) .ret))))
theorem s_graph_Graph_Out : CS 35 k_graph_Graph_Out [.cellN 2 4, .tmp 5] F.graph_Graph_Out :=
  cs Tryz.func24 (by kernel_rfl) (by kernel_rfl)
noncomputable def k_kedgelaw14_wakes : KC :=
(.seq (.reg false <| oR 0 (.move (.const (.bool false)))<| .nil) (.seq (.reg false <| oR 8 (.call 13 [])<| oM 1 8<| .nil) (.seq (.reg false <|
 oR 9 (.buildSlice 5 1 [(.int .u8 0)] [(0, 1, (.const (.int .u8 200)))])<|
 oR 10 (.build [(.slice none 0 0), (.int .u8 0), (.int .u8 0), (.int .i64 0), (.int .u8 0), (.int .u8 0)] [(0, 1, (t 9))])<|
 oR 11 (.call 32 [(.const (.slice none 0 0)), (t 10)])<| oR 2 (.alloc 35 [(.int .u32 0), (.slice none 0 0), (.slice none 0 0), (.int .u32 0)])<| oU 4 2 11<| .nil)
 (.seq (.reg false <| oM 12 1<| oK 13 4 2<| oR 14 (.call 17 [(t 12), (t 13), (oi 5)])<| oM 3 14<| .nil) (.seq (.reg false <| oM 15 1<| oK 16 4 2<|
 oR 17 (.call 17 [(t 15), (t 16), (oi 5)])<| oM 4 17<| .nil) (.seq (.reg false <| oM 19 1<| oK 20 4 2<| oR 21 (oa 38 20)<| oR 22 (ob 21 19 21)<| oM 18 22<| oX 23 0 18<|
 oX 24 1 18<| oR 5 (.alloc 39 [(.int .u32 0), (.slice none 0 0), (.slice none 0 0), (.int .u32 0), (.string ⟨#[]⟩), (.int .i64 0), (.int .i64 0)])<| oU 7 5 23<|
 oM 6 24<| .nil) (.seq (.reg false <| oF 25 4 5<| oL 26 25<| oR 27 (.build [(.string ⟨#[]⟩), (.int .u32 0)] [(0, 1, (t 26))])<|
 oR 28 (.build [(.string ⟨#[]⟩), (.int .u32 0), (.int .u32 0), (.slice none 0 0)] [(0, 2, (t 27))])<|
 oR 29 (.buildSlice 50 1 [(.string ⟨#[]⟩), (.int .u32 0), (.int .u32 0), (.slice none 0 0)] [(0, 4, (t 28))])<|
 oR 30 (.build [(.int .u32 0), (.slice none 0 0), (.slice none 0 0), (.int .u32 0)] [(1, 1, (t 29))])<|
 oR 7 (.alloc 35 [(.int .u32 0), (.slice none 0 0), (.slice none 0 0), (.int .u32 0)])<| oU 4 7 30<| .nil) (.seq (.reg true <| .join (oM 31 3<| oC 32 .eql 31 0<| oM 33 32<|
 oG 34 33 true (.move (t 4))<| oG 35 33 true (.bin .eql (t 34) (oi 7))<| oR 36 (.pick (t 33) (t 35) (.const (.bool false)))<| oM 37 36<| oG 38 37 true (.move (t 6))<|
 oR 39 (.pick (t 37) (t 38) (.const (.bool false)))<| oM 40 39<| oG 41 40 true (.fieldAddr 5 (t 5))<| oG 42 40 true (.load (t 41))<|
 oG 43 40 true (.bin .eql (t 42) (oi 5))<| oR 44 (.pick (t 40) (t 43) (.const (.bool false)))<| oM 45 44<| oG 46 45 true (.move (t 1))<|
 oG 49 45 true (.fieldAddr 4 (t 5))<| .nil) <|.join (.both (oG 47 45 true (.loadN 4 (t 7))<| .both (oG 48 45 true (ob 28 46 47)<| oG 50 45 true (.load (t 49))<|
 oG 51 45 true (.buildSlice 9 1 [(.string ⟨#[]⟩)] [(0, 1, (t 50))])<| .nil) (oG 50 45 true (.load (t 49))<| .both (oG 48 45 true (ob 28 46 47)<|
 oG 51 45 true (.buildSlice 9 1 [(.string ⟨#[]⟩)] [(0, 1, (t 50))])<| .nil) (oG 51 45 true (.buildSlice 9 1 [(.string ⟨#[]⟩)] [(0, 1, (t 50))])<|
 oG 48 45 true (ob 28 46 47)<| .nil))) (oG 50 45 true (.load (t 49))<| .both (oG 47 45 true (.loadN 4 (t 7))<| .both (oG 48 45 true (ob 28 46 47)<|
 oG 51 45 true (.buildSlice 9 1 [(.string ⟨#[]⟩)] [(0, 1, (t 50))])<| .nil) (oG 51 45 true (.buildSlice 9 1 [(.string ⟨#[]⟩)] [(0, 1, (t 50))])<|
 oG 48 45 true (ob 28 46 47)<| .nil)) (oG 51 45 true (.buildSlice 9 1 [(.string ⟨#[]⟩)] [(0, 1, (t 50))])<| oG 47 45 true (.loadN 4 (t 7))<|
 oG 48 45 true (ob 28 46 47)<| .nil))) <|.join (oG 52 45 true (ob 43 48 51)<| oR 53 (.pick (t 45) (t 52) (.const (.bool false)))<| oM 54 53<| oG 55 54 true (.move (t 1))<|
 oG 56 54 true (.fieldAddr 4 (t 5))<| oG 59 54 true (.fieldAddr 4 (t 5))<| .nil) <|.join (.both (oG 57 54 true (.load (t 56))<| .both (oG 58 54 true (ob 30 55 57)<|
 oG 60 54 true (.load (t 59))<| oG 61 54 true (.buildSlice 9 1 [(.string ⟨#[]⟩)] [(0, 1, (t 60))])<| .nil)
 (oG 60 54 true (.load (t 59))<| .both (oG 58 54 true (ob 30 55 57)<| oG 61 54 true (.buildSlice 9 1 [(.string ⟨#[]⟩)] [(0, 1, (t 60))])<| .nil)
 (oG 61 54 true (.buildSlice 9 1 [(.string ⟨#[]⟩)] [(0, 1, (t 60))])<| oG 58 54 true (ob 30 55 57)<| .nil)))
 (oG 60 54 true (.load (t 59))<| .both (oG 57 54 true (.load (t 56))<| .both (oG 58 54 true (ob 30 55 57)<|
 oG 61 54 true (.buildSlice 9 1 [(.string ⟨#[]⟩)] [(0, 1, (t 60))])<| .nil) (oG 61 54 true (.buildSlice 9 1 [(.string ⟨#[]⟩)] [(0, 1, (t 60))])<|
 oG 58 54 true (ob 30 55 57)<| .nil)) (oG 61 54 true (.buildSlice 9 1 [(.string ⟨#[]⟩)] [(0, 1, (t 60))])<| oG 57 54 true (.load (t 56))<|
 oG 58 54 true (ob 30 55 57)<| .nil))) <|oG 62 54 true (ob 43 58 61)<| oR 63 (.pick (t 54) (t 62) (.const (.bool false)))<| oM 64 63<| oG 65 64 true (.move (t 1))<|
 oG 66 64 true (.call 14 [(t 65), (.const (.string ⟨#[]⟩))])<| oG 67 64 true (.bin .eql (t 66) (oi 8))<| oR 68 (.pick (t 64) (t 67) (.const (.bool false)))<|
 oM 0 68<| .nil) .ret))))))))
theorem s_kedgelaw14_wakes : CS 69 k_kedgelaw14_wakes [.tmp 0] F.kedgelaw14_wakes :=
  cs Tryz.func25 (by kernel_rfl) (by kernel_rfl)
noncomputable def k_kedgelaw14_filled : KC :=
(.seq (.reg false <| oR 4 (.move (.const (.pointer none)))<| oR 5 (.move (.const (.slice none 0 0)))<| .nil) (.seq (.reg false <| oR 12 (.call 13 [])<| oM 6 12<| .nil)
 (.seq (.reg false <| oR 7 (.move (.const (.slice none 0 0)))<| .nil) (.seq (.seq (.reg false <| oM 13 0<| oM 14 0<| oD 15 14<| oM 16 1<|
 oR 17 (.minmax false (t 15) [(t 16)])<| oR 18 (.sliceSl 13 (t 13) none (some (t 17)))<| oD 19 18<| oO 20 0<| .nil) (.block 0 (.loop (.seq (.reg false <|
 oB 21 .lss 20 19<| .nil) (.seq (.cond (t 21) .skip (.exit 0)) (.seq (.block 1 (.seq (.reg false <| oI 22 13 18 20<| oK 23 13 22<|
 oR 9 (.alloc 37 [(.int .u8 0), (.int .u8 0), (.slice none 0 0), (.int .u8 0), (.int .u8 0), (.int .i64 0), (.int .u8 0), (.int .u8 0), (.int .u32 0), (.slice none 0 0), (.slice none 0 0), (.int .u32 0), (.bool false)])<|
 oU 13 9 23<| .nil) (.seq (.reg false <| oM 24 7<| oK 25 13 9<| oR 26 (ob 16 24 25)<|
 oR 10 (.alloc 35 [(.int .u32 0), (.slice none 0 0), (.slice none 0 0), (.int .u32 0)])<| oU 4 10 26<| .nil) (.seq (.reg false <| oM 27 6<| oK 28 4 10<| oF 29 2 9<|
 oF 30 3 29<| oL 31 30<| oC 32 .and 31 65535<| oR 33 (oc 17 27 28 32)<| .nil) (.seq (.reg false <| oM 35 7<| oK 36 4 10<| oF 37 2 9<| oF 38 3 37<| oL 39 38<|
 oC 40 .and 39 65535<| oR 41 (oc 18 35 36 40)<| oM 34 41<| oX 42 0 34<| oX 43 1 34<| oM 7 42<| .nil) (.seq (.reg false <| oF 44 0 9<| oL 45 44<|
 oR 46 (.bin .rem (t 45) (.const (.int .u8 8)))<| oR 47 (.bin .eql (t 46) (.const (.int .u8 7)))<| oM 48 47<| oG 49 48 true (.move (t 7))<|
 oG 50 48 true (.len false (t 49))<| oG 51 48 true (.bin .gtr (t 50) (oi 0))<| oR 52 (.pick (t 48) (t 51) (.const (.bool false)))<| .nil) (.cond (t 52) (.seq (.reg false <|
 oM 53 7<| oF 54 1 9<| oL 55 54<| oV 56 .i64 55<| oM 57 7<| oD 58 57<| oB 59 .rem 56 58<| oI 60 7 53 59<| oF 61 4 60<| oL 62 61<| oM 11 62<| .nil) (.seq (.reg false <|
 oM 63 6<| oM 64 11<| oR 65 (ob 14 63 64)<| .nil) (.reg false <| oM 67 7<| oM 68 11<| oR 69 (ob 15 67 68)<| oM 66 69<| oX 70 0 66<| oX 71 1 66<|
 oM 7 70<| .nil))) .skip))))))) (.reg false <| oC 72 .add 20 1<| oM 20 72<| .nil))))))) (.seq (.reg false <| oM 73 6<| oM 74 7<| oM 4 73<| oM 5 74<| .nil) .ret)))))
theorem s_kedgelaw14_filled : CS 75 k_kedgelaw14_filled [.tmp 4, .tmp 5] F.kedgelaw14_filled :=
  cs Tryz.func26 (by kernel_rfl) (by kernel_rfl)
noncomputable def k_graph_Graph_All : KC :=
(.seq (.reg false <| oR 2 (.move (.const (.slice none 0 0)))<| .nil) (.seq (.seq (.reg false <| oM 8 0<|
 oR 9 (.eqNil false .pointer (t 8) (.const (.pointer none)))<| .nil) (.cond (t 9) (.seq (.reg false <| oR 2 (.move (.const (.slice none 0 0)))<| .nil) .ret) .skip))
 (.seq (.reg false <| oR 3 (.move (.const (.slice none 0 0)))<| .nil) (.seq (.seq (.reg false <| oM 10 0<| oR 11 (.nilCheck (t 10))<| oF 12 1 11<| oL 13 12<| oD 14 13<|
 oO 15 0<| .nil) (.block 0 (.loop (.seq (.reg false <| oB 16 .lss 15 14<| .nil) (.seq (.cond (t 16) .skip (.exit 0)) (.seq (.block 1 (.seq (.reg false <| oI 17 1 13 15<|
 oL 18 17<| oM 5 18<| .nil) (.seq (.reg false <| oM 20 0<| oM 21 5<| oR 22 (ob 21 20 21)<| oM 19 22<| oX 23 0 19<| oX 24 1 19<|
 oR 6 (.alloc 39 [(.int .u32 0), (.slice none 0 0), (.slice none 0 0), (.int .u32 0), (.string ⟨#[]⟩), (.int .i64 0), (.int .i64 0)])<| oU 7 6 23<| oM 7 24<| .nil)
 (.reg false <| oM 25 3<| oK 26 7 6<|
 oR 27 (.buildSlice 39 1 [(.int .u32 0), (.slice none 0 0), (.slice none 0 0), (.int .u32 0), (.string ⟨#[]⟩), (.int .i64 0), (.int .i64 0)] [(0, 7, (t 26))])<|
 oR 28 (.append 39 7 96 [(.int .u32 0), (.slice none 0 0), (.slice none 0 0), (.int .u32 0), (.string ⟨#[]⟩), (.int .i64 0), (.int .i64 0)] (t 25) (t 27))<|
 oM 3 28<| .nil)))) (.reg false <| oC 29 .add 15 1<| oM 15 29<| .nil))))))) (.seq (.reg false <| oM 30 3<| oM 2 30<| .nil) .ret)))))
theorem s_graph_Graph_All : CS 31 k_graph_Graph_All [.tmp 2] F.graph_Graph_All :=
  cs Tryz.func27 (by kernel_rfl) (by kernel_rfl)
noncomputable def k_graph_Graph_Above : KC :=
(.seq (.reg false <| oR 2 (.box 26 (t 0))<| oR 3 (.box 35 (t 1))<| oR 4 (.move (.const (.slice none 0 0)))<| .nil) (.seq (.seq (.reg false <| oL 5 2<|
 oR 6 (.eqNil false .pointer (t 5) (.const (.pointer none)))<| .nil) (.cond (t 6) (.seq (.reg false <| oR 4 (.move (.const (.slice none 0 0)))<| .nil) .ret) .skip))
 (.seq (.reg true <| .join (oL 8 2<| oK 9 4 3<| oR 11 (.makeFunc (.func 59) [] [(t 2)])<| .both (oL 7 2<| oR 10 (ob 58 8 9)<| .nil) (oR 10 (ob 58 8 9)<|
 oL 7 2<| .nil)) <|oR 12 (oc 57 7 10 11)<| oM 4 12<| .nil) .ret)))
theorem s_graph_Graph_Above : CS 13 k_graph_Graph_Above [.tmp 4] F.graph_Graph_Above :=
  cs Tryz.func28 (by kernel_rfl) (by kernel_rfl)
noncomputable def k_slices_Contains_L_string_string : KC :=
(.seq (.reg false <| oR 4 (.move (.const (.bool false)))<| .nil) (.seq (.reg false <| oM 5 0<| oM 6 1<| oR 7 (ob 60 5 6)<| oC 8 .geq 7 0<| oM 4 8<| .nil) .ret))
theorem s_slices_Contains_L_string_string : CS 9 k_slices_Contains_L_string_string [.tmp 4] F.slices_Contains_L_string_string :=
  cs Tryz.func29 (by kernel_rfl) (by kernel_rfl)
noncomputable def k_graph_Graph_Below : KC :=
(.seq (.reg false <| oR 4 (.move (.const (.slice none 0 0)))<| .nil) (.seq (.seq (.reg false <| oM 8 0<| oM 9 1<| oR 10 (ob 21 8 9)<| oM 7 10<| oX 11 0 7<| oX 12 1 7<|
 oR 5 (.alloc 39 [(.int .u32 0), (.slice none 0 0), (.slice none 0 0), (.int .u32 0), (.string ⟨#[]⟩), (.int .i64 0), (.int .i64 0)])<| oU 7 5 11<| oM 6 12<| .nil)
 (.seq (.reg false <| oM 13 6<| oT 14 13<| .nil) (.cond (t 14) (.seq (.reg false <| oR 4 (.move (.const (.slice none 0 0)))<| .nil) .ret) .skip))) (.seq (.reg false <|
 oM 15 0<| oM 16 1<| oR 17 (.buildSlice 9 1 [(.string ⟨#[]⟩)] [(0, 1, (t 16))])<| oM 18 0<| oR 19 (.makeFunc (.func 61) [(t 18)] [])<| oR 20 (oc 57 15 17 19)<|
 oM 4 20<| .nil) .ret)))
theorem s_graph_Graph_Below : CS 21 k_graph_Graph_Below [.tmp 4] F.graph_Graph_Below :=
  cs Tryz.func30 (by kernel_rfl) (by kernel_rfl)
noncomputable def k_kedgeref14_Make : KC :=
(.seq (.reg false <| oR 3 (.box 31 (t 1))<| oR 4 (.alloc 35 [(.int .u32 0), (.slice none 0 0), (.slice none 0 0), (.int .u32 0)])<| .nil) (.seq (.reg false <| oF 11 4 3<|
 oL 12 11<| oV 13 .u32 12<| oR 14 (.build [(.int .u32 0), (.slice none 0 0), (.slice none 0 0), (.int .u32 0)] [(0, 1, (.const (.int .u32 2))), (3, 1, (t 13))])<|
 oR 5 (.alloc 35 [(.int .u32 0), (.slice none 0 0), (.slice none 0 0), (.int .u32 0)])<| oU 4 5 14<| .nil) (.seq (.seq (.reg false <| oO 6 0<| .nil)
 (.block 0 (.loop (.seq (.seq (.reg false <| oM 15 6<| oF 16 0 3<| oL 17 16<| oD 18 17<| oB 19 .lss 15 18<| oM 20 19<| oG 21 20 true (.move (t 6))<|
 oG 22 20 true (.bin .lss (t 21) (oi 4))<| oR 23 (.pick (t 20) (t 22) (.const (.bool false)))<| .nil) (.cond (t 23) .skip (.exit 0))) (.seq (.block 1 (.seq (.reg false <|
 oF 26 0 3<| oL 27 26<| oM 28 6<| oI 29 1 27 28<| oL 30 29<| oV 31 .i64 30<| oM 7 31<| .nil) (.seq (.reg false <| oM 32 7<| oC 33 .rem 32 16<| oR 34 (oa 37 33)<|
 oM 8 34<| .nil) (.seq (.seq (.reg false <| oM 35 7<| oC 36 .lss 35 128<| oM 37 36<| oG 38 37 true (.move (t 0))<| oG 39 37 true (.len false (t 38))<|
 oG 40 37 true (.bin .gtr (t 39) (oi 0))<| oR 41 (.pick (t 37) (t 40) (.const (.bool false)))<| .nil) (.cond (t 41) (.reg false <| oM 42 0<| oM 43 7<| oM 44 0<| oD 45 44<|
 oB 46 .rem 43 45<| oI 47 7 42 46<| oF 48 4 47<| oL 49 48<| oM 8 49<| .nil) .skip)) (.reg true <| .join (oF 50 1 5<| oM 52 8<| oF 53 1 3<| oL 54 53<| oV 55 .i64 54<|
 oM 56 6<| oR 57 (.bin .mul (oi 2) (t 56))<| oB 58 .shr 55 57<| oV 59 .u32 58<| oR 60 (.bin .rem (t 59) (.const (.int .u32 4)))<|
 oR 61 (.build [(.string ⟨#[]⟩), (.int .u32 0)] [(0, 1, (t 52)), (1, 1, (t 60))])<|
 oR 62 (.build [(.string ⟨#[]⟩), (.int .u32 0), (.int .u32 0), (.slice none 0 0)] [(0, 2, (t 61)), (2, 1, (.const (.int .u32 4294967293)))])<| .both (oL 51 50<|
 oR 63 (.buildSlice 50 1 [(.string ⟨#[]⟩), (.int .u32 0), (.int .u32 0), (.slice none 0 0)] [(0, 4, (t 62))])<| .nil)
 (oR 63 (.buildSlice 50 1 [(.string ⟨#[]⟩), (.int .u32 0), (.int .u32 0), (.slice none 0 0)] [(0, 4, (t 62))])<|
 oL 51 50<| .nil)) <|oR 64 (.append 50 4 56 [(.string ⟨#[]⟩), (.int .u32 0), (.int .u32 0), (.slice none 0 0)] (t 51) (t 63))<| oF 65 1 5<| oS 65 64<| .nil)))))
 (.reg false <| oM 24 6<| oC 25 .add 24 1<| oM 6 25<| .nil)))))) (.seq (.seq (.reg false <| oO 9 0<| .nil) (.block 2 (.loop (.seq (.seq (.reg false <| oM 66 9<| oF 67 2 3<|
 oL 68 67<| oR 69 (.bin .rem (t 68) (.const (.int .u8 3)))<| oV 70 .i64 69<| oB 71 .leq 66 70<| .nil) (.cond (t 71) .skip (.exit 2))) (.seq (.block 3 (.reg false <|
 oF 74 2 5<| oL 75 74<| oM 76 9<| oR 77 (.bin .add (oi 1000) (t 76))<|
 oR 78 (.build [(.int .i64 0), (.string ⟨#[]⟩)] [(0, 1, (t 77)), (1, 1, (.const (.string ⟨#[1, 1, 0, 0, 0, 0, 0, 0, 0]⟩)))])<|
 oR 79 (.buildSlice 58 1 [(.int .i64 0), (.string ⟨#[]⟩)] [(0, 2, (t 78))])<| oR 80 (.append 58 2 24 [(.int .i64 0), (.string ⟨#[]⟩)] (t 75) (t 79))<| oF 81 2 5<|
 oS 81 80<| .nil)) (.reg false <| oM 72 9<| oC 73 .add 72 1<| oM 9 73<| .nil)))))) (.seq (.seq (.reg false <| oO 10 0<| .nil) (.block 4 (.loop (.seq (.seq (.reg false <|
 oM 82 10<| oF 83 5 3<| oL 84 83<| oV 85 .i64 84<| oB 86 .lss 82 85<| .nil) (.cond (t 86) .skip (.exit 4))) (.seq (.block 5 (.reg false <| oF 89 2 5<| oL 90 89<|
 oR 91 (.build [(.int .i64 0), (.string ⟨#[]⟩)] [(0, 1, (oi 1000)), (1, 1, (.const (.string ⟨#[48, 49, 50, 51, 52, 53, 54, 55, 56, 57, 48, 49, 50, 51, 52, 53, 54, 55, 56, 57, 48, 49, 50, 51, 52, 53, 54, 55, 56, 57, 48, 49, 50, 51, 52, 53, 54, 55, 56, 57]⟩)))])<|
 oR 92 (.buildSlice 58 1 [(.int .i64 0), (.string ⟨#[]⟩)] [(0, 2, (t 91))])<| oR 93 (.append 58 2 24 [(.int .i64 0), (.string ⟨#[]⟩)] (t 90) (t 92))<| oF 94 2 5<|
 oS 94 93<| .nil)) (.reg false <| oM 87 10<| oC 88 .add 87 1<| oM 10 88<| .nil)))))) (.seq (.reg false <| oK 95 4 5<| oU 4 4 95<| .nil) .ret))))))
theorem s_kedgeref14_Make : CS 96 k_kedgeref14_Make [.cellN 4 4] F.kedgeref14_Make :=
  cs Tryz.func32 (by kernel_rfl) (by kernel_rfl)
end Go.Proofs.YtfeifodeaphbjaaGreat
end
