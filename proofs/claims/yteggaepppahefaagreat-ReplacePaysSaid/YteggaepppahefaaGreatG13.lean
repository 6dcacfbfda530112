/- The resolved code of functions, printed by program. -/
import Derived.Test.YteggaepppahefaaGreatG12
set_option linter.unusedVariables false
set_option linter.unusedSimpArgs false
section
namespace Go.Proofs.YteggaepppahefaaGreat
open Go Go.K
noncomputable def k_kedgelaw16_ReplaceComes : KC :=
(.seq (.reg false <| oR 3 (.box 66 (t 1))<| oR 4 (.move (.const (.bool false)))<| .nil) (.seq (.reg false <| oM 19 0<| oR 20 (.call 28 [(t 19), (oi 12)])<| oM 18 20<|
 oX 21 0 18<| oX 22 1 18<| oM 5 21<| oM 6 22<| .nil) (.seq (.reg false <| oM 23 6<| oK 24 7 3<| oR 25 (ob 29 23 24)<|
 oR 7 (.alloc 31 [(.int .u32 0), (.slice none 0 0), (.slice none 0 0), (.int .u32 0)])<| oU 4 7 25<| .nil) (.seq (.reg false <| oF 26 0 3<| oF 27 3 26<| oL 28 27<|
 oC 29 .and 28 16777215<| oM 8 29<| .nil) (.seq (.seq (.reg false <| oM 30 5<| oK 31 4 7<| oM 32 8<| oR 33 (oc 40 30 31 32)<| oC 34 .neq 33 0<| .nil)
 (.cond (t 34) (.seq (.reg false <| oR 35 (.call 32 [])<| oM 4 35<| .nil) .ret) .skip)) (.seq (.reg false <| oM 36 5<| oK 37 4 7<| oR 38 (ob 26 36 37)<| oM 9 38<| .nil)
 (.seq (.reg false <| oM 39 5<| oK 40 4 7<| oR 41 (ob 38 39 40)<| oM 10 41<| .nil) (.seq (.seq (.reg false <| oM 42 10<| oD 43 42<| oO 44 0<| .nil)
 (.block 0 (.loop (.seq (.reg false <| oB 45 .lss 44 43<| .nil) (.seq (.cond (t 45) .skip (.exit 0)) (.seq (.block 1 (.seq (.reg false <| oI 46 1 42 44<| oL 47 46<|
 oM 12 47<| .nil) (.seq (.reg false <| oM 48 9<| oM 49 12<| oR 50 (ob 25 48 49)<| oM 51 50<| oG 52 51 false (.move (t 5))<| oG 53 51 false (.move (t 12))<|
 oG 54 51 false (ob 43 52 53)<| oG 55 51 false (.bin .neq (t 54) (oi 0))<| oR 56 (.pick (t 51) (.const (.bool true)) (t 55))<| .nil) (.cond (t 56) (.seq (.reg false <|
 oR 4 (.move (.const (.bool false)))<| .nil) .ret) .skip)))) (.reg false <| oC 57 .add 44 1<| oM 44 57<| .nil))))))) (.seq (.reg false <| oM 58 5<| oK 59 4 7<| oM 60 8<|
 oR 61 (oc 44 58 59 60)<| oM 13 61<| .nil) (.seq (.reg false <| oK 63 4 7<| oR 64 (oa 45 63)<| oM 62 64<| oX 65 0 62<| oX 66 1 62<| oM 14 65<| oM 15 66<| .nil)
 (.seq (.reg false <| oM 68 5<| oM 69 14<| oR 70 (ob 24 68 69)<| oM 67 70<| oX 71 0 67<| oX 72 1 67<|
 oR 16 (.alloc 33 [(.int .u32 0), (.slice none 0 0), (.slice none 0 0), (.int .u32 0), (.string ⟨#[]⟩), (.int .i64 0), (.int .i64 0)])<| oU 7 16 71<| oM 17 72<| .nil)
 (.seq (.reg false <| oR 73 (.call 32 [])<| oM 74 73<| oG 75 74 true (.move (t 13))<| oG 76 74 true (.bin .eql (t 75) (oi 0))<| oG 77 74 true (.move (t 76))<|
 oG 78 77 false (.move (t 13))<| oG 79 77 false (.bin .eql (t 78) (oi 7))<| oG 80 77 false (.move (t 79))<| oG 81 80 true (.move (t 17))<|
 oG 82 77 false (.pick (t 80) (t 81) (.const (.bool false)))<| oG 83 77 false (.move (t 82))<| oG 84 83 true (.fieldAddr 0 (t 16))<| oG 85 83 true (.loadN 4 (t 84))<|
 oG 86 83 true (.loadN 4 (t 7))<| oG 87 83 true (ob 46 85 86)<| oG 88 83 true (.not (t 87))<| oG 89 77 false (.pick (t 83) (t 88) (.const (.bool false)))<|
 oG 90 74 true (.pick (t 77) (.const (.bool true)) (t 89))<| oR 91 (.pick (t 74) (t 90) (.const (.bool false)))<| oM 4 91<| .nil) .ret))))))))))))
theorem s_kedgelaw16_ReplaceComes : CS 92 k_kedgelaw16_ReplaceComes [.tmp 4] F.kedgelaw16_ReplaceComes :=
  cs Tryz.func10 (by kernel_rfl) (by kernel_rfl)
noncomputable def k_kedgelaw16_ReplacePays : KC :=
(.seq (.reg false <| oR 4 (.box 66 (t 1))<| oR 6 (.move (.const (.bool false)))<| .nil) (.seq (.reg false <| oM 22 0<| oR 23 (.call 28 [(t 22), (oi 12)])<| oM 21 23<|
 oX 24 0 21<| oX 25 1 21<| oM 7 24<| oM 8 25<| .nil) (.seq (.reg false <| oM 26 8<| oK 27 7 4<| oR 28 (ob 29 26 27)<|
 oR 9 (.alloc 31 [(.int .u32 0), (.slice none 0 0), (.slice none 0 0), (.int .u32 0)])<| oU 4 9 28<| .nil) (.seq (.reg false <| oF 29 0 4<| oF 30 3 29<| oL 31 30<|
 oC 32 .and 31 16777215<| oM 10 32<| .nil) (.seq (.seq (.reg false <| oM 33 7<| oK 34 4 9<| oM 35 10<| oR 36 (oc 40 33 34 35)<| oC 37 .neq 36 0<| oM 38 37<|
 oG 39 38 false (.move (t 7))<| oG 40 38 false (.loadN 4 (t 9))<| oG 41 38 false (ob 35 39 40)<| oG 42 38 false (.len false (t 41))<|
 oG 43 38 false (.bin .eql (t 42) (oi 0))<| oR 44 (.pick (t 38) (.const (.bool true)) (t 43))<| .nil) (.cond (t 44) (.seq (.reg false <| oR 45 (.call 32 [])<|
 oM 6 45<| .nil) .ret) .skip)) (.seq (.reg false <| oM 47 7<| oM 48 7<| oK 49 4 9<| oR 50 (ob 38 48 49)<| oR 51 (ob 47 47 50)<| oM 46 51<| oX 52 0 46<| oX 53 1 46<|
 oM 11 52<| oM 12 53<| .nil) (.seq (.reg false <| oK 55 4 9<| oR 56 (oa 48 55)<| oM 54 56<| oX 57 0 54<| oX 58 1 54<| oM 13 57<| oM 14 58<| .nil) (.seq (.reg false <|
 oM 60 13<| oR 61 (.call 49 [(oi 1000), (t 60)])<| oM 59 61<| oX 62 0 59<| oX 63 1 59<| oM 15 62<| oM 16 63<| .nil) (.seq (.seq (.reg false <| oM 64 7<| oK 65 4 9<|
 oR 66 (ob 35 64 65)<| oD 67 66<| oO 68 0<| .nil) (.block 0 (.loop (.seq (.reg false <| oB 69 .lss 68 67<| .nil) (.seq (.cond (t 69) .skip (.exit 0))
 (.seq (.block 1 (.seq (.reg false <| oI 70 1 66 68<| oL 71 70<| oM 18 71<| .nil) (.seq (.reg false <| oM 73 7<| oM 74 18<| oR 75 (ob 24 73 74)<| oM 72 75<| oX 76 0 72<|
 oX 77 1 72<| oR 19 (.alloc 33 [(.int .u32 0), (.slice none 0 0), (.slice none 0 0), (.int .u32 0), (.string ⟨#[]⟩), (.int .i64 0), (.int .i64 0)])<| oU 7 19 76<|
 oM 20 77<| .nil) (.seq (.reg false <| oM 78 20<| oT 79 78<| oM 80 79<| oG 81 80 false (.move (t 10))<| oG 82 80 false (.move (t 13))<|
 oG 83 80 false (.fieldAddr 5 (t 19))<| oG 84 80 false (.load (t 83))<| oG 85 80 false (.fieldAddr 6 (t 19))<| oG 86 80 false (.load (t 85))<|
 oG 87 80 false (.call 27 [(t 81), (t 82), (t 84), (t 86)])<| oG 88 80 false (.bin .leq (t 87) (oi 0))<| oR 89 (.pick (t 80) (.const (.bool true)) (t 88))<| oM 90 89<|
 oG 91 90 false (.move (t 7))<| oG 92 90 false (.loadN 4 (t 9))<| oG 93 90 false (ob 38 91 92)<| oG 94 90 false (.move (t 18))<| oG 95 90 false (ob 25 93 94)<|
 oG 96 90 false (.not (t 95))<| oR 97 (.pick (t 90) (.const (.bool true)) (t 96))<| .nil) (.cond (t 97) (.seq (.reg false <|
 oR 6 (.move (.const (.bool false)))<| .nil) .ret) .skip))))) (.reg false <| oC 98 .add 68 1<| oM 68 98<| .nil))))))) (.seq (.reg false <| oR 99 (.call 32 [])<| oM 100 99<|
 oG 101 100 true (.move (t 14))<| oG 102 100 true (.bin .eql (t 101) (oi 0))<| oR 103 (.pick (t 100) (t 102) (.const (.bool false)))<| oM 104 103<|
 oG 105 104 true (.move (t 16))<| oG 106 104 true (.bin .eql (t 105) (oi 0))<| oR 107 (.pick (t 104) (t 106) (.const (.bool false)))<| oM 108 107<|
 oG 109 108 true (.move (t 10))<| oG 110 108 true (.move (t 11))<| oG 111 108 true (.move (t 15))<| oG 112 108 true (.bin .add (t 110) (t 111))<|
 oG 113 108 true (.bin .geq (t 109) (t 112))<| oR 114 (.pick (t 108) (t 113) (.const (.bool false)))<| oM 115 114<| oG 116 115 true (.move (t 7))<|
 oG 117 115 true (.loadN 4 (t 9))<| oG 118 115 true (.move (t 10))<| oG 119 115 true (.move (t 2))<| oG 120 115 true (.conv .i64 (t 119))<|
 oG 121 115 true (.bin .add (t 118) (t 120))<| oG 122 115 true (oc 40 116 117 121)<| oG 123 115 true (.bin .eql (t 122) (oi 0))<|
 oR 124 (.pick (t 115) (t 123) (.const (.bool false)))<| oM 6 124<| .nil) .ret))))))))))
theorem s_kedgelaw16_ReplacePays : CS 125 k_kedgelaw16_ReplacePays [.tmp 6] F.kedgelaw16_ReplacePays :=
  cs Tryz.func11 (by kernel_rfl) (by kernel_rfl)
noncomputable def k_kedgeref14_Find : KC :=
(.seq (.reg false <| oO 4 0<| .nil) (.seq (.seq (.reg false <| oO 5 0<| .nil) (.block 0 (.loop (.seq (.seq (.reg false <| oM 6 5<| oM 7 0<| oD 8 7<| oB 9 .lss 6 8<| .nil)
 (.cond (t 9) .skip (.exit 0))) (.seq (.block 1 (.seq (.reg false <| oM 12 0<| oM 13 5<| oI 14 7 12 13<| oF 15 4 14<| oL 16 15<| oM 17 1<| oB 18 .eql 16 17<| .nil)
 (.cond (t 18) (.seq (.reg false <| oM 19 5<| oM 4 19<| .nil) .ret) .skip))) (.reg false <| oM 10 5<| oC 11 .add 10 1<| oM 5 11<| .nil)))))) (.seq (.reg false <|
 oO 4 (-1)<| .nil) .ret)))
theorem s_kedgeref14_Find : CS 20 k_kedgeref14_Find [.tmp 4] F.kedgeref14_Find :=
  cs Tryz.func18 (by kernel_rfl) (by kernel_rfl)
noncomputable def k_graph_Graph_All : KC :=
(.seq (.reg false <| oR 2 (.move (.const (.slice none 0 0)))<| .nil) (.seq (.seq (.reg false <| oM 8 0<|
 oR 9 (.eqNil false .pointer (t 8) (.const (.pointer none)))<| .nil) (.cond (t 9) (.seq (.reg false <| oR 2 (.move (.const (.slice none 0 0)))<| .nil) .ret) .skip))
 (.seq (.reg false <| oR 3 (.move (.const (.slice none 0 0)))<| .nil) (.seq (.seq (.reg false <| oM 10 0<| oR 11 (.nilCheck (t 10))<| oF 12 1 11<| oL 13 12<| oD 14 13<|
 oO 15 0<| .nil) (.block 0 (.loop (.seq (.reg false <| oB 16 .lss 15 14<| .nil) (.seq (.cond (t 16) .skip (.exit 0)) (.seq (.block 1 (.seq (.reg false <| oI 17 1 13 15<|
 oL 18 17<| oM 5 18<| .nil) (.seq (.reg false <| oM 20 0<| oM 21 5<| oR 22 (ob 24 20 21)<| oM 19 22<| oX 23 0 19<| oX 24 1 19<|
 oR 6 (.alloc 33 [(.int .u32 0), (.slice none 0 0), (.slice none 0 0), (.int .u32 0), (.string ⟨#[]⟩), (.int .i64 0), (.int .i64 0)])<| oU 7 6 23<| oM 7 24<| .nil)
 (.reg false <| oM 25 3<| oK 26 7 6<|
 oR 27 (.buildSlice 33 1 [(.int .u32 0), (.slice none 0 0), (.slice none 0 0), (.int .u32 0), (.string ⟨#[]⟩), (.int .i64 0), (.int .i64 0)] [(0, 7, (t 26))])<|
 oR 28 (.append 33 7 96 [(.int .u32 0), (.slice none 0 0), (.slice none 0 0), (.int .u32 0), (.string ⟨#[]⟩), (.int .i64 0), (.int .i64 0)] (t 25) (t 27))<|
 oM 3 28<| .nil)))) (.reg false <| oC 29 .add 15 1<| oM 15 29<| .nil))))))) (.seq (.reg false <| oM 30 3<| oM 2 30<| .nil) .ret)))))
theorem s_graph_Graph_All : CS 31 k_graph_Graph_All [.tmp 2] F.graph_Graph_All :=
  cs Tryz.func21 (by kernel_rfl) (by kernel_rfl)
noncomputable def k_graph_Graph_Get : KC :=
(.seq (.reg false <| oR 4 (.alloc 33 [(.int .u32 0), (.slice none 0 0), (.slice none 0 0), (.int .u32 0), (.string ⟨#[]⟩), (.int .i64 0), (.int .i64 0)])<|
 oR 5 (.move (.const (.bool false)))<| .nil) (.seq (.seq (.reg false <| oM 8 0<| oR 9 (.eqNil false .pointer (t 8) (.const (.pointer none)))<| .nil)
 (.cond (t 9) (.seq (.reg false <| oR 10 (.build [(.int .u32 0), (.slice none 0 0), (.slice none 0 0), (.int .u32 0), (.string ⟨#[]⟩), (.int .i64 0), (.int .i64 0)] [])<|
 oU 7 4 10<| oR 5 (.move (.const (.bool false)))<| .nil) .ret) .skip)) (.seq (.reg false <| oM 12 0<| oR 13 (.nilCheck (t 12))<| oF 14 0 13<| oL 15 14<| oM 16 1<|
 oR 17 (.lookup false [.s] (.agg #[(.int .u32 0), (.slice none 0 0), (.slice none 0 0), (.int .u32 0), (.string ⟨#[]⟩), (.int .i64 0), (.int .i64 0)]) true (t 15) (t 16))<|
 oM 11 17<| oX 18 0 11<| oX 19 1 11<| oR 6 (.alloc 33 [(.int .u32 0), (.slice none 0 0), (.slice none 0 0), (.int .u32 0), (.string ⟨#[]⟩), (.int .i64 0), (.int .i64 0)])<|
 oU 7 6 18<| oM 7 19<| .nil) (.seq (.reg false <| oF 20 0 6<| oK 21 4 20<| oR 22 (oa 62 21)<| oF 23 0 6<| oU 4 23 22<| .nil) (.seq (.reg false <| oK 24 7 6<| oM 25 7<|
 oU 7 4 24<| oM 5 25<| .nil) .ret)))))
theorem s_graph_Graph_Get : CS 26 k_graph_Graph_Get [.cellN 7 4, .tmp 5] F.graph_Graph_Get :=
  cs Tryz.func24 (by kernel_rfl) (by kernel_rfl)
noncomputable def k_slices_Contains_L_string_string : KC :=
(.seq (.reg false <| oR 4 (.move (.const (.bool false)))<| .nil) (.seq (.reg false <| oM 5 0<| oM 6 1<| oR 7 (ob 63 5 6)<| oC 8 .geq 7 0<| oM 4 8<| .nil) .ret))
theorem s_slices_Contains_L_string_string : CS 9 k_slices_Contains_L_string_string [.tmp 4] F.slices_Contains_L_string_string :=
  cs Tryz.func25 (by kernel_rfl) (by kernel_rfl)
noncomputable def k_graph_Graph_Above : KC :=
(.seq (.reg false <| oR 2 (.box 23 (t 0))<| oR 3 (.box 31 (t 1))<| oR 4 (.move (.const (.slice none 0 0)))<| .nil) (.seq (.seq (.reg false <| oL 5 2<|
 oR 6 (.eqNil false .pointer (t 5) (.const (.pointer none)))<| .nil) (.cond (t 6) (.seq (.reg false <| oR 4 (.move (.const (.slice none 0 0)))<| .nil) .ret) .skip))
 (.seq (.reg true <| .join (oL 8 2<| oK 9 4 3<| oR 11 (.makeFunc (.func 66) [] [(t 2)])<| .both (oL 7 2<| oR 10 (ob 65 8 9)<| .nil) (oR 10 (ob 65 8 9)<|
 oL 7 2<| .nil)) <|oR 12 (oc 64 7 10 11)<| oM 4 12<| .nil) .ret)))
theorem s_graph_Graph_Above : CS 13 k_graph_Graph_Above [.tmp 4] F.graph_Graph_Above :=
  cs Tryz.func26 (by kernel_rfl) (by kernel_rfl)
noncomputable def k_amount_Compare : KC :=
(.seq (.reg false <| oO 8 0<| .nil) (.seq (.seq (.reg false <| oM 13 0<| oM 14 1<| oR 15 (ob 67 13 14)<| oT 16 15<| oM 17 16<| oG 18 17 false (.move (t 2))<|
 oG 19 17 false (.move (t 3))<| oG 20 17 false (ob 67 18 19)<| oG 21 17 false (.not (t 20))<| oR 22 (.pick (t 17) (.const (.bool true)) (t 21))<| .nil)
 (.cond (t 22) (.seq (.reg false <| oO 8 0<| .nil) .ret) .skip)) (.seq (.reg false <| oM 24 0<| oV 25 .u64 24<| oM 26 3<| oV 27 .u64 26<| oR 28 (ob 68 25 27)<| oM 23 28<|
 oX 29 0 23<| oX 30 1 23<| oM 9 29<| oM 10 30<| .nil) (.seq (.reg false <| oM 32 2<| oV 33 .u64 32<| oM 34 1<| oV 35 .u64 34<| oR 36 (ob 68 33 35)<| oM 31 36<| oX 37 0 31<|
 oX 38 1 31<| oM 11 37<| oM 12 38<| .nil) (.seq (.reg false <| oM 39 9<| oM 40 11<| oR 41 (ob 70 39 40)<| oM 42 10<| oM 43 12<| oR 44 (ob 70 42 43)<|
 oR 45 (.buildSlice 3 2 [(.int .i64 0), (.int .i64 0)] [(0, 1, (t 41)), (1, 1, (t 44))])<| oR 46 (oa 69 45)<| oM 8 46<| .nil) .ret)))))
theorem s_amount_Compare : CS 47 k_amount_Compare [.tmp 8] F.amount_Compare :=
  cs Tryz.func27 (by kernel_rfl) (by kernel_rfl)
noncomputable def k_kedgelaw16_filled : KC :=
(.seq (.reg false <| oR 4 (.move (.const (.pointer none)))<| oR 5 (.move (.const (.slice none 0 0)))<| .nil) (.seq (.reg false <| oR 11 (.call 50 [])<| oM 6 11<| .nil)
 (.seq (.reg false <| oR 7 (.move (.const (.slice none 0 0)))<| .nil) (.seq (.seq (.reg false <| oM 12 0<| oM 13 0<| oD 14 13<| oM 15 1<|
 oR 16 (.minmax false (t 14) [(t 15)])<| oR 17 (.sliceSl 7 (t 12) none (some (t 16)))<| oD 18 17<| oO 19 0<| .nil) (.block 0 (.loop (.seq (.reg false <|
 oB 20 .lss 19 18<| .nil) (.seq (.cond (t 20) .skip (.exit 0)) (.seq (.block 1 (.seq (.reg false <| oI 21 7 17 19<| oK 22 7 21<|
 oR 9 (.alloc 66 [(.slice none 0 0), (.int .u8 0), (.int .u8 0), (.int .i64 0), (.int .u8 0), (.int .u8 0), (.bool false)])<| oU 7 9 22<| .nil) (.seq (.reg false <|
 oM 23 7<| oK 24 7 9<| oR 25 (ob 29 23 24)<| oR 10 (.alloc 31 [(.int .u32 0), (.slice none 0 0), (.slice none 0 0), (.int .u32 0)])<| oU 4 10 25<| .nil)
 (.seq (.reg false <| oM 26 6<| oK 27 4 10<| oF 28 0 9<| oF 29 3 28<| oL 30 29<| oC 31 .and 30 16777215<| oR 32 (oc 44 26 27 31)<| .nil) (.reg false <| oM 34 7<|
 oK 35 4 10<| oF 36 0 9<| oF 37 3 36<| oL 38 37<| oC 39 .and 38 16777215<| oR 40 (oc 52 34 35 39)<| oM 33 40<| oX 41 0 33<| oX 42 1 33<| oM 7 41<| .nil))))) (.reg false <|
 oC 43 .add 19 1<| oM 19 43<| .nil))))))) (.seq (.reg false <| oM 44 6<| oM 45 7<| oM 4 44<| oM 5 45<| .nil) .ret)))))
theorem s_kedgelaw16_filled : CS 46 k_kedgelaw16_filled [.tmp 4, .tmp 5] F.kedgelaw16_filled :=
  cs Tryz.func28 (by kernel_rfl) (by kernel_rfl)
noncomputable def k_kedgelaw16_of : KC :=
(.seq (.reg false <| oR 3 (.box 66 (t 1))<| oR 4 (.alloc 31 [(.int .u32 0), (.slice none 0 0), (.slice none 0 0), (.int .u32 0)])<| .nil) (.seq (.reg false <| oF 8 0 3<|
 oK 9 6 8<| oR 5 (.alloc 64 [(.slice none 0 0), (.int .u8 0), (.int .u8 0), (.int .i64 0), (.int .u8 0), (.int .u8 0)])<| oU 6 5 9<| .nil) (.seq (.reg false <| oF 10 5 5<|
 oL 11 10<| oR 12 (.bin .rem (t 11) (.const (.int .u8 4)))<| oF 13 5 5<| oS 13 12<| .nil) (.seq (.reg false <| oM 14 0<| oK 15 6 5<| oR 16 (ob 51 14 15)<|
 oR 6 (.alloc 31 [(.int .u32 0), (.slice none 0 0), (.slice none 0 0), (.int .u32 0)])<| oU 4 6 16<| .nil) (.seq (.seq (.reg false <| oF 17 1 6<| oL 18 17<| oD 19 18<|
 oO 20 0<| .nil) (.block 0 (.loop (.seq (.reg false <| oB 21 .lss 20 19<| .nil) (.seq (.cond (t 21) .skip (.exit 0)) (.seq (.block 1 (.seq (.reg false <| oM 22 20<|
 oM 7 22<| .nil) (.seq (.reg false <| oF 23 6 3<| oL 24 23<| .nil) (.cond (t 24) (.reg false <| oF 25 1 6<| oL 26 25<| oM 27 7<| oI 28 4 26 27<| oF 29 2 28<|
 oQ (.store (t 29) (.const (.int .u32 4294967294)))<| .nil) .skip)))) (.reg false <| oC 30 .add 20 1<| oM 20 30<| .nil))))))) (.seq (.reg false <| oK 31 4 6<|
 oU 4 4 31<| .nil) .ret))))))
theorem s_kedgelaw16_of : CS 32 k_kedgelaw16_of [.cellN 4 4] F.kedgelaw16_of :=
  cs Tryz.func29 (by kernel_rfl) (by kernel_rfl)
noncomputable def k_replace_Need : KC :=
(.seq (.reg false <| oR 3 (.box 31 (t 1))<| oO 4 0<| oO 5 0<| .nil) (.seq (.seq (.reg false <| oM 18 0<|
 oR 19 (.eqNil false .pointer (t 18) (.const (.pointer none)))<| .nil) (.cond (t 19) (.seq (.reg false <| oO 4 0<| oO 5 1<| .nil) .ret) .skip)) (.seq (.reg false <|
 oK 21 4 3<| oR 22 (oa 48 21)<| oM 20 22<| oX 23 0 20<| oX 24 1 20<| oM 6 23<| oM 7 24<| .nil) (.seq (.seq (.reg false <| oM 25 7<| oC 26 .neq 25 0<| .nil)
 (.cond (t 26) (.seq (.reg false <| oM 27 7<| oO 4 0<| oM 5 27<| .nil) .ret) .skip)) (.seq (.reg false <| oM 28 0<| oK 29 4 3<| oR 30 (ob 35 28 29)<| oM 8 30<| .nil)
 (.seq (.seq (.reg false <| oM 31 8<| oD 32 31<| oC 33 .eql 32 0<| .nil) (.cond (t 33) (.seq (.reg false <| oO 4 0<| oO 5 0<| .nil) .ret) .skip)) (.seq (.reg false <|
 oM 35 0<| oM 36 0<| oK 37 4 3<| oR 38 (ob 38 36 37)<| oR 39 (ob 47 35 38)<| oM 34 39<| oX 40 0 34<| oX 41 1 34<| oM 9 40<| oM 10 41<| .nil) (.seq (.reg false <| oM 43 6<|
 oR 44 (.call 49 [(oi 1000), (t 43)])<| oM 42 44<| oX 45 0 42<| oX 46 1 42<| oM 11 45<| oM 12 46<| .nil) (.seq (.reg false <| oM 47 9<| oM 48 11<| oB 49 .add 47 48<|
 oM 13 49<| .nil) (.seq (.seq (.reg false <| oM 50 8<| oD 51 50<| oO 52 0<| .nil) (.block 0 (.loop (.seq (.reg false <| oB 53 .lss 52 51<| .nil)
 (.seq (.cond (t 53) .skip (.exit 0)) (.seq (.block 1 (.seq (.reg false <| oI 54 1 50 52<| oL 55 54<| oM 15 55<| .nil) (.seq (.reg false <| oM 57 0<| oM 58 15<|
 oR 59 (ob 24 57 58)<| oM 56 59<| oX 60 0 56<| oX 61 1 56<|
 oR 16 (.alloc 33 [(.int .u32 0), (.slice none 0 0), (.slice none 0 0), (.int .u32 0), (.string ⟨#[]⟩), (.int .i64 0), (.int .i64 0)])<| oU 7 16 60<| oM 17 61<| .nil)
 (.reg false <| oM 62 13<| oM 63 6<| oF 64 5 16<| oL 65 64<| oF 66 6 16<| oL 67 66<| oR 68 (oc 71 63 65 67)<| oR 69 (.minmax true (t 62) [(t 68)])<| oM 13 69<| .nil))))
 (.reg false <| oC 70 .add 52 1<| oM 52 70<| .nil))))))) (.seq (.seq (.reg false <| oM 71 13<| oR 72 (.pcall 72 Go.Proofs.YteggaepppahefaaGreat.qGood [(t 71)])<|
 oT 73 72<| .nil) (.cond (t 73) (.seq (.reg false <| oO 4 0<| oO 5 3<| .nil) .ret) .skip)) (.seq (.reg false <| oM 74 13<| oM 4 74<| oO 5 0<| .nil) .ret))))))))))))
theorem s_replace_Need : CS 75 k_replace_Need [.tmp 4, .tmp 5] F.replace_Need :=
  cs Tryz.func30 (by kernel_rfl) (by kernel_rfl)
noncomputable def k_kedgeref05_Check : KC :=
(.seq (.reg false <| oR 1 (.box 31 (t 0))<| oO 2 0<| .nil) (.seq (.seq (.reg false <| oF 11 1 1<| oL 12 11<| oD 13 12<| oC 14 .lss 13 1<| oM 15 14<|
 oG 16 15 false (.fieldAddr 1 (t 1))<| oG 17 15 false (.load (t 16))<| oG 18 15 false (.len false (t 17))<| oG 19 15 false (.bin .gtr (t 18) (oi 256))<|
 oR 20 (.pick (t 15) (.const (.bool true)) (t 19))<| oM 21 20<| oG 22 21 false (.fieldAddr 2 (t 1))<| oG 23 21 false (.load (t 22))<| oG 24 21 false (.len false (t 23))<|
 oG 25 21 false (.bin .lss (t 24) (oi 1))<| oR 26 (.pick (t 21) (.const (.bool true)) (t 25))<| oM 27 26<| oG 28 27 false (.fieldAddr 2 (t 1))<|
 oG 29 27 false (.load (t 28))<| oG 30 27 false (.len false (t 29))<| oG 31 27 false (.bin .gtr (t 30) (oi 256))<| oR 32 (.pick (t 27) (.const (.bool true)) (t 31))<| .nil)
 (.cond (t 32) (.seq (.reg false <| oO 2 6<| .nil) .ret) .skip)) (.seq (.seq (.reg false <| oO 3 0<| .nil) (.block 0 (.loop (.seq (.seq (.reg false <| oM 33 3<| oF 34 1 1<|
 oL 35 34<| oD 36 35<| oB 37 .lss 33 36<| .nil) (.cond (t 37) .skip (.exit 0))) (.seq (.block 1 (.seq (.reg false <| oF 40 1 1<| oL 41 40<| oM 42 3<| oI 43 4 41 42<|
 oF 44 3 43<| oL 45 44<| oD 46 45<| oC 47 .gtr 46 4<| .nil) (.cond (t 47) (.seq (.reg false <| oO 2 6<| .nil) .ret) .skip))) (.reg false <| oM 38 3<| oC 39 .add 38 1<|
 oM 3 39<| .nil)))))) (.seq (.reg false <| oK 48 4 1<| oR 49 (oa 73 48)<| oM 4 49<| .nil) (.seq (.seq (.reg false <| oM 50 4<| .nil) (.cond (t 50) (.seq (.reg false <|
 oO 2 20<| .nil) .ret) .skip)) (.seq (.seq (.reg false <| oO 5 0<| .nil) (.block 2 (.loop (.seq (.seq (.reg false <| oM 51 5<| oF 52 1 1<| oL 53 52<| oD 54 53<|
 oB 55 .lss 51 54<| .nil) (.cond (t 55) .skip (.exit 2))) (.seq (.block 3 (.seq (.reg false <| oF 58 1 1<| oL 59 58<| oM 60 5<| oI 61 4 59 60<| oF 62 0 61<| oK 63 2 62<|
 oR 64 (oa 74 63)<| oM 6 64<| .nil) (.seq (.reg false <| oF 65 1 1<| oL 66 65<| oM 67 5<| oI 68 4 66 67<| oF 69 0 68<| oF 70 0 69<| oL 71 70<| oR 72 (.len true (t 71))<|
 oC 73 .neq 72 32<| oM 74 73<| oG 75 74 false (.move (t 6))<| oG 76 74 false (.move (t 75))<| oG 77 76 true (.fieldAddr 1 (t 1))<| oG 78 76 true (.load (t 77))<|
 oG 79 76 true (.len false (t 78))<| oG 80 76 true (.bin .gtr (t 79) (oi 1))<| oG 81 74 false (.pick (t 76) (t 80) (.const (.bool false)))<|
 oR 82 (.pick (t 74) (.const (.bool true)) (t 81))<| .nil) (.cond (t 82) (.seq (.reg false <| oO 2 4<| .nil) .ret) .skip)))) (.reg false <| oM 56 5<| oC 57 .add 56 1<|
 oM 5 57<| .nil)))))) (.seq (.seq (.reg false <| oO 7 0<| .nil) (.block 4 (.loop (.seq (.seq (.reg false <| oM 83 7<| oF 84 1 1<| oL 85 84<| oD 86 85<|
 oB 87 .lss 83 86<| .nil) (.cond (t 87) .skip (.exit 4))) (.seq (.block 5 (.seq (.reg false <| oO 8 0<| .nil) (.block 6 (.loop (.seq (.seq (.reg false <| oM 90 8<|
 oM 91 7<| oB 92 .lss 90 91<| .nil) (.cond (t 92) .skip (.exit 6))) (.seq (.block 7 (.seq (.reg true <| .join (oF 95 1 1<| oL 96 95<| oM 97 7<| oI 98 4 96 97<| oF 99 0 98<|
 oF 100 0 99<| oL 101 100<| oF 102 1 1<| oL 103 102<| oM 104 8<| oI 105 4 103 104<| oF 106 0 105<| oF 107 0 106<| oL 108 107<| oB 109 .eql 101 108<| oM 110 109<|
 oG 111 110 true (.fieldAddr 1 (t 1))<| oG 113 110 true (.move (t 7))<| oG 118 110 true (.fieldAddr 1 (t 1))<|
 oG 120 110 true (.move (t 8))<| .nil) <|oG 112 110 true (.load (t 111))<| oG 114 110 true (.indexAddr 4 (t 112) (t 113))<| oG 115 110 true (.fieldAddr 0 (t 114))<|
 oG 116 110 true (.fieldAddr 1 (t 115))<| oG 117 110 true (.load (t 116))<| oG 119 110 true (.load (t 118))<| oG 121 110 true (.indexAddr 4 (t 119) (t 120))<|
 oG 122 110 true (.fieldAddr 0 (t 121))<| oG 123 110 true (.fieldAddr 1 (t 122))<| oG 124 110 true (.load (t 123))<| oG 125 110 true (.bin .eql (t 117) (t 124))<|
 oR 126 (.pick (t 110) (t 125) (.const (.bool false)))<| .nil) (.cond (t 126) (.seq (.reg false <| oO 2 7<| .nil) .ret) .skip))) (.reg false <| oM 93 8<| oC 94 .add 93 1<|
 oM 8 94<| .nil))))))) (.reg false <| oM 88 7<| oC 89 .add 88 1<| oM 7 89<| .nil)))))) (.seq (.reg false <| oK 128 4 1<| oR 129 (oa 75 128)<| oM 127 129<| oX 130 0 127<|
 oX 131 1 127<| oM 9 130<| oM 10 131<| .nil) (.seq (.reg false <| oM 132 10<| oM 2 132<| .nil) .ret)))))))))
theorem s_kedgeref05_Check : CS 133 k_kedgeref05_Check [.tmp 2] F.kedgeref05_Check :=
  cs Tryz.func31 (by kernel_rfl) (by kernel_rfl)
noncomputable def k_kedgelaw16_wakes : KC :=
(.seq (.reg false <| oR 0 (.move (.const (.bool false)))<| .nil) (.seq (.reg false <| oR 9 (.call 50 [])<| oM 1 9<| .nil) (.seq (.reg false <|
 oR 10 (.buildSlice 5 1 [(.int .u8 0)] [(0, 1, (.const (.int .u8 200)))])<|
 oR 11 (.build [(.slice none 0 0), (.int .u8 0), (.int .u8 0), (.int .i64 0), (.int .u8 0), (.int .u8 0)] [(0, 1, (t 10))])<|
 oR 12 (.call 51 [(.const (.slice none 0 0)), (t 11)])<| oR 2 (.alloc 31 [(.int .u32 0), (.slice none 0 0), (.slice none 0 0), (.int .u32 0)])<| oU 4 2 12<| .nil)
 (.seq (.reg false <| oR 13 (.buildSlice 5 1 [(.int .u8 0)] [(0, 1, (.const (.int .u8 200)))])<|
 oR 14 (.build [(.slice none 0 0), (.int .u8 0), (.int .u8 0), (.int .i64 0), (.int .u8 0), (.int .u8 0)] [(0, 1, (t 13)), (4, 1, (.const (.int .u8 1)))])<|
 oR 15 (.call 51 [(.const (.slice none 0 0)), (t 14)])<| oR 3 (.alloc 31 [(.int .u32 0), (.slice none 0 0), (.slice none 0 0), (.int .u32 0)])<| oU 4 3 15<| .nil)
 (.seq (.reg false <| oM 16 1<| oK 17 4 2<| oR 18 (.call 44 [(t 16), (t 17), (oi 1000)])<| oM 4 18<| .nil) (.seq (.reg false <| oM 20 1<| oK 21 4 3<| oR 22 (ob 30 20 21)<|
 oM 19 22<| oX 23 0 19<| oX 24 1 19<| oM 5 23<| oM 6 24<| .nil) (.seq (.reg false <| oK 26 4 3<| oR 27 (.call 30 [(.const (.pointer none)), (t 26)])<| oM 25 27<|
 oX 28 0 25<| oX 29 1 25<| oM 7 28<| oM 8 29<| .nil) (.seq (.reg false <| oM 30 4<| oC 31 .eql 30 0<| oM 32 31<| oG 33 32 true (.move (t 6))<|
 oG 34 32 true (.bin .eql (t 33) (oi 0))<| oR 35 (.pick (t 32) (t 34) (.const (.bool false)))<| oM 36 35<| oG 37 36 true (.move (t 5))<|
 oG 38 36 true (.bin .eql (t 37) (oi 1069))<| oR 39 (.pick (t 36) (t 38) (.const (.bool false)))<| oM 40 39<| oG 41 40 true (.move (t 1))<| oG 42 40 true (.loadN 4 (t 3))<|
 oG 43 40 true (.call 40 [(t 41), (t 42), (oi 1000)])<| oG 44 40 true (.bin .eql (t 43) (oi 11))<| oR 45 (.pick (t 40) (t 44) (.const (.bool false)))<| oM 46 45<|
 oG 47 46 true (.move (t 1))<| oG 48 46 true (.loadN 4 (t 3))<| oG 49 46 true (.move (t 5))<| oG 50 46 true (oc 40 47 48 49)<| oG 51 46 true (.bin .eql (t 50) (oi 0))<|
 oR 52 (.pick (t 46) (t 51) (.const (.bool false)))<| oM 53 52<| oG 54 53 true (.move (t 1))<| oG 55 53 true (.loadN 4 (t 3))<| oG 56 53 true (ob 38 54 55)<|
 oG 57 53 true (.len false (t 56))<| oG 58 53 true (.bin .eql (t 57) (oi 1))<| oR 59 (.pick (t 53) (t 58) (.const (.bool false)))<| oM 60 59<| oG 61 60 true (.move (t 8))<|
 oG 62 60 true (.bin .eql (t 61) (oi 1))<| oR 63 (.pick (t 60) (t 62) (.const (.bool false)))<| oM 0 63<| .nil) .ret))))))))
theorem s_kedgelaw16_wakes : CS 64 k_kedgelaw16_wakes [.tmp 0] F.kedgelaw16_wakes :=
  cs Tryz.func32 (by kernel_rfl) (by kernel_rfl)
noncomputable def k_replace_Conflicts : KC :=
(.seq (.reg false <| oR 3 (.box 31 (t 1))<| oR 4 (.move (.const (.slice none 0 0)))<| .nil) (.seq (.reg false <| oR 5 (.move (.const (.slice none 0 0)))<| .nil)
 (.seq (.seq (.reg false <| oM 8 0<| oR 9 (oa 21 8)<| oD 10 9<| oO 11 0<| .nil) (.block 0 (.loop (.seq (.reg false <| oB 12 .lss 11 10<| .nil)
 (.seq (.cond (t 12) .skip (.exit 0)) (.seq (.block 1 (.seq (.reg false <| oI 13 7 9 11<| oK 14 7 13<|
 oR 7 (.alloc 33 [(.int .u32 0), (.slice none 0 0), (.slice none 0 0), (.int .u32 0), (.string ⟨#[]⟩), (.int .i64 0), (.int .i64 0)])<| oU 7 7 14<| .nil)
 (.seq (.reg false <| oF 15 0 7<| oF 16 1 15<| oL 17 16<| oR 18 (.makeFunc (.func 79) [] [(t 3)])<| oR 19 (ob 78 17 18)<| .nil) (.cond (t 19) (.reg false <| oM 20 5<|
 oF 21 4 7<| oL 22 21<| oR 23 (.buildSlice 9 1 [(.string ⟨#[]⟩)] [(0, 1, (t 22))])<| oR 24 (.append 9 1 16 [(.string ⟨#[]⟩)] (t 20) (t 23))<| oM 5 24<| .nil) .skip))))
 (.reg false <| oC 25 .add 11 1<| oM 11 25<| .nil))))))) (.seq (.reg false <| oM 26 5<| oM 4 26<| .nil) .ret))))
theorem s_replace_Conflicts : CS 27 k_replace_Conflicts [.tmp 4] F.replace_Conflicts :=
  cs Tryz.func35 (by kernel_rfl) (by kernel_rfl)
noncomputable def k_replace_Evicted : KC :=
(.seq (.reg false <| oR 3 (.box 31 (t 1))<| oR 4 (.move (.const (.slice none 0 0)))<| .nil) (.seq (.reg false <| oR 13 (.makeMap)<| oM 5 13<| .nil)
 (.seq (.seq (.reg false <| oM 14 0<| oK 15 4 3<| oR 16 (ob 35 14 15)<| oD 17 16<| oO 18 0<| .nil) (.block 0 (.loop (.seq (.reg false <| oB 19 .lss 18 17<| .nil)
 (.seq (.cond (t 19) .skip (.exit 0)) (.seq (.block 1 (.seq (.reg false <| oI 20 1 16 18<| oL 21 20<| oM 7 21<| .nil) (.seq (.reg false <| oM 22 0<| oM 23 7<|
 oR 24 (ob 42 22 23)<| oD 25 24<| oO 26 0<| .nil) (.block 2 (.loop (.seq (.reg false <| oB 27 .lss 26 25<| .nil) (.seq (.cond (t 27) .skip (.exit 2))
 (.seq (.block 3 (.seq (.reg false <| oI 28 1 24 26<| oL 29 28<| oM 9 29<| .nil) (.reg false <| oM 30 5<| oM 31 9<|
 oR 32 (.lookup false [.s] (.int .i64 0) false (t 30) (t 31))<| oC 33 .add 32 1<| oQ (.mapUpdate false [.s] (t 30) (t 31) (t 33))<| .nil))) (.reg false <| oC 34 .add 26 1<|
 oM 26 34<| .nil))))))))) (.reg false <| oC 35 .add 18 1<| oM 18 35<| .nil))))))) (.seq (.reg false <| oR 10 (.move (.const (.slice none 0 0)))<| .nil)
 (.seq (.seq (.reg false <| oM 36 0<| oR 37 (oa 21 36)<| oD 38 37<| oO 39 0<| .nil) (.block 4 (.loop (.seq (.reg false <| oB 40 .lss 39 38<| .nil)
 (.seq (.cond (t 40) .skip (.exit 4)) (.seq (.block 5 (.seq (.reg false <| oI 41 7 37 39<| oK 42 7 41<|
 oR 12 (.alloc 33 [(.int .u32 0), (.slice none 0 0), (.slice none 0 0), (.int .u32 0), (.string ⟨#[]⟩), (.int .i64 0), (.int .i64 0)])<| oU 7 12 42<| .nil)
 (.seq (.reg false <| oM 43 5<| oF 44 4 12<| oL 45 44<| oR 46 (.lookup false [.s] (.int .i64 0) false (t 43) (t 45))<| oC 47 .gtr 46 0<| .nil) (.cond (t 47) (.reg false <|
 oM 48 10<| oF 49 4 12<| oL 50 49<| oR 51 (.buildSlice 9 1 [(.string ⟨#[]⟩)] [(0, 1, (t 50))])<| oR 52 (.append 9 1 16 [(.string ⟨#[]⟩)] (t 48) (t 51))<|
 oM 10 52<| .nil) .skip)))) (.reg false <| oC 53 .add 39 1<| oM 39 53<| .nil))))))) (.seq (.reg false <| oM 54 10<| oM 4 54<| .nil) .ret))))))
theorem s_replace_Evicted : CS 55 k_replace_Evicted [.tmp 4] F.replace_Evicted :=
  cs Tryz.func38 (by kernel_rfl) (by kernel_rfl)
noncomputable def k_replace_Rules : KC :=
(.seq (.reg false <| oR 3 (.box 23 (t 0))<| oR 4 (.box 31 (t 1))<| oO 6 0<| .nil) (.seq (.seq (.reg false <| oL 13 3<|
 oR 14 (.eqNil false .pointer (t 13) (.const (.pointer none)))<| .nil) (.cond (t 14) (.seq (.reg false <| oO 6 1<| .nil) .ret) .skip)) (.seq (.seq (.reg false <|
 oK 16 4 4<| oR 17 (oa 48 16)<| oM 15 17<| oX 18 0 15<| oX 19 1 15<| oM 7 18<| oM 8 19<| .nil) (.seq (.reg false <| oM 20 8<| oC 21 .neq 20 0<| .nil)
 (.cond (t 21) (.seq (.reg false <| oM 22 8<| oM 6 22<| .nil) .ret) .skip))) (.seq (.reg false <| oL 24 3<| oK 25 4 4<| oR 26 (ob 30 24 25)<| oM 23 26<| oX 27 0 23<|
 oX 28 1 23<| oM 9 27<| oM 10 28<| .nil) (.seq (.seq (.reg false <| oM 29 10<| oC 30 .neq 29 0<| .nil) (.cond (t 30) (.reg false <| oO 9 2100000000000001<| .nil) .skip))
 (.seq (.seq (.reg false <| oM 31 2<| oR 32 (.pcall 72 Go.Proofs.YteggaepppahefaaGreat.qGood [(t 31)])<| oT 33 32<| .nil) (.cond (t 33) (.seq (.reg false <|
 oO 6 3<| .nil) .ret) .skip)) (.seq (.reg true <| .join (oL 34 3<| oK 35 4 4<| .both (oR 36 (ob 35 34 35)<| oL 37 3<| oK 38 4 4<| .nil)
 (.both (oL 37 3<| .both (oR 36 (ob 35 34 35)<| oK 38 4 4<| .nil) (oK 38 4 4<| oR 36 (ob 35 34 35)<| .nil)) (oK 38 4 4<| .both (oR 36 (ob 35 34 35)<| oL 37 3<| .nil)
 (oL 37 3<| oR 36 (ob 35 34 35)<| .nil)))) <|oR 39 (ob 38 37 38)<| oM 11 36<| oM 12 39<| .nil) (.seq (.block 0 (.seq (.reg false <| oM 41 11<| oD 42 41<| oC 43 .eql 42 0<|
 oM 40 43<| .nil) (.cond (t 40) (.seq (.reg false <| oO 6 0<| .nil) .ret) (.seq (.reg false <| oM 45 11<| oR 46 (.makeFunc (.func 82) [] [(t 3)])<| oR 47 (ob 81 45 46)<|
 oM 44 47<| .nil) (.cond (t 44) (.seq (.reg false <| oO 6 15<| .nil) .ret) (.seq (.reg false <| oM 49 12<| oD 50 49<| oC 51 .gtr 50 100<| oM 52 51<|
 oG 53 52 false (.load (t 3))<| oG 54 52 false (.loadN 4 (t 4))<| oG 55 52 false (.move (t 11))<| oG 56 52 false (.move (t 12))<|
 oG 57 52 false (.call 84 [(t 53), (t 54), (t 55), (t 56)])<| oR 58 (.pick (t 52) (.const (.bool true)) (t 57))<| oM 48 58<| .nil) (.cond (t 48) (.seq (.reg false <|
 oO 6 15<| .nil) .ret) (.seq (.reg false <| oM 60 2<| oM 61 9<| oB 62 .lss 60 61<| oM 59 62<| .nil) (.cond (t 59) (.seq (.reg false <| oO 6 11<| .nil) .ret) .skip)))))))))
 (.seq (.reg false <| oO 6 0<| .nil) .ret)))))))))
theorem s_replace_Rules : CS 63 k_replace_Rules [.tmp 6] F.replace_Rules :=
  cs Tryz.func40 (by kernel_rfl) (by kernel_rfl)
noncomputable def k_graph_Graph_Below : KC :=
(.seq (.reg false <| oR 4 (.move (.const (.slice none 0 0)))<| .nil) (.seq (.seq (.reg false <| oM 8 0<| oM 9 1<| oR 10 (ob 24 8 9)<| oM 7 10<| oX 11 0 7<| oX 12 1 7<|
 oR 5 (.alloc 33 [(.int .u32 0), (.slice none 0 0), (.slice none 0 0), (.int .u32 0), (.string ⟨#[]⟩), (.int .i64 0), (.int .i64 0)])<| oU 7 5 11<| oM 6 12<| .nil)
 (.seq (.reg false <| oM 13 6<| oT 14 13<| .nil) (.cond (t 14) (.seq (.reg false <| oR 4 (.move (.const (.slice none 0 0)))<| .nil) .ret) .skip))) (.seq (.reg false <|
 oM 15 0<| oM 16 1<| oR 17 (.buildSlice 9 1 [(.string ⟨#[]⟩)] [(0, 1, (t 16))])<| oM 18 0<| oR 19 (.makeFunc (.func 88) [(t 18)] [])<| oR 20 (oc 64 15 17 19)<|
 oM 4 20<| .nil) .ret)))
theorem s_graph_Graph_Below : CS 21 k_graph_Graph_Below [.tmp 4] F.graph_Graph_Below :=
  cs Tryz.func42 (by kernel_rfl) (by kernel_rfl)
end Go.Proofs.YteggaepppahefaaGreat
end
