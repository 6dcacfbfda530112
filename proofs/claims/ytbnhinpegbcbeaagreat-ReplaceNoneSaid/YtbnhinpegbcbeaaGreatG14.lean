/- The resolved code of functions, printed by program. -/
import Derived.Test.YtbnhinpegbcbeaaGreatG12
set_option linter.unusedVariables false
set_option linter.unusedSimpArgs false
section
namespace Go.Proofs.YtbnhinpegbcbeaaGreat
open Go Go.K
noncomputable def k_ident_ID : KC :=
(.seq (.reg false <| oR 1 (.box 32 (t 0))<| oR 2 (.move (.const (.string ⟨#[]⟩)))<| oO 3 0<| .nil) (.seq (.reg false <| oK 7 4 1<| oR 8 (oa 94 7)<| oM 6 8<| oX 9 0 6<|
 oX 10 1 6<| oM 4 9<| oM 5 10<| .nil) (.seq (.seq (.reg false <| oM 11 5<| oC 12 .neq 11 0<| .nil) (.cond (t 12) (.seq (.reg false <| oM 13 5<|
 oR 2 (.move (.const (.string ⟨#[]⟩)))<| oM 3 13<| .nil) .ret) .skip)) (.seq (.reg false <| oM 14 4<| oR 15 (oa 95 14)<| oM 2 15<| oO 3 0<| .nil) .ret))))
theorem s_ident_ID : CS 16 k_ident_ID [.tmp 2, .tmp 3] F.ident_ID :=
  cs Tryz.func45 (by kernel_rfl) (by kernel_rfl)
noncomputable def k_graph_Graph_Above : KC :=
(.seq (.reg false <| oR 2 (.box 33 (t 0))<| oR 3 (.box 32 (t 1))<| oR 4 (.move (.const (.slice none 0 0)))<| .nil) (.seq (.seq (.reg false <| oL 5 2<|
 oR 6 (.eqNil false .pointer (t 5) (.const (.pointer none)))<| .nil) (.cond (t 6) (.seq (.reg false <| oR 4 (.move (.const (.slice none 0 0)))<| .nil) .ret) .skip))
 (.seq (.reg true <| .join (oL 8 2<| oK 9 4 3<| oR 11 (.makeFunc (.func 102) [] [(t 2)])<| .both (oL 7 2<| oR 10 (ob 101 8 9)<| .nil) (oR 10 (ob 101 8 9)<|
 oL 7 2<| .nil)) <|oR 12 (oc 73 7 10 11)<| oM 4 12<| .nil) .ret)))
theorem s_graph_Graph_Above : CS 13 k_graph_Graph_Above [.tmp 4] F.graph_Graph_Above :=
  cs Tryz.func49 (by kernel_rfl) (by kernel_rfl)
noncomputable def k_kedgeref14_Find : KC :=
(.seq (.reg false <| oO 4 0<| .nil) (.seq (.seq (.reg false <| oO 5 0<| .nil) (.block 0 (.loop (.seq (.seq (.reg false <| oM 6 5<| oM 7 0<| oD 8 7<| oB 9 .lss 6 8<| .nil)
 (.cond (t 9) .skip (.exit 0))) (.seq (.block 1 (.seq (.reg false <| oM 12 0<| oM 13 5<| oI 14 7 12 13<| oF 15 4 14<| oL 16 15<| oM 17 1<| oB 18 .eql 16 17<| .nil)
 (.cond (t 18) (.seq (.reg false <| oM 19 5<| oM 4 19<| .nil) .ret) .skip))) (.reg false <| oM 10 5<| oC 11 .add 10 1<| oM 5 11<| .nil)))))) (.seq (.reg false <|
 oO 4 (-1)<| .nil) .ret)))
theorem s_kedgeref14_Find : CS 20 k_kedgeref14_Find [.tmp 4] F.kedgeref14_Find :=
  cs Tryz.func50 (by kernel_rfl) (by kernel_rfl)
noncomputable def k_graph_Graph_Add : KC :=
(.seq (.reg false <| oR 4 (.box 32 (t 1))<| oO 6 0<| .nil) (.seq (.seq (.reg false <| oM 17 0<| oR 18 (.eqNil false .pointer (t 17) (.const (.pointer none)))<| .nil)
 (.cond (t 18) (.seq (.reg false <| oO 6 1<| .nil) .ret) .skip)) (.seq (.reg false <| oK 20 4 4<| oM 21 2<| oR 22 (ob 103 20 21)<| oM 19 22<| oX 23 0 19<| oX 24 1 19<|
 oR 7 (.alloc 57 [(.int .u32 0), (.slice none 0 0), (.slice none 0 0), (.int .u32 0), (.string ⟨#[]⟩), (.int .i64 0), (.int .i64 0)])<| oU 7 7 23<| oM 8 24<| .nil)
 (.seq (.seq (.reg false <| oM 25 8<| oC 26 .neq 25 0<| .nil) (.cond (t 26) (.seq (.reg false <| oM 27 8<| oM 6 27<| .nil) .ret) .skip))
 (.seq (.seq (.reg true <| .join (oM 29 0<| oR 30 (.nilCheck (t 29))<| oF 31 0 30<| oL 32 31<| oF 33 4 7<| oL 34 33<|
 oR 35 (.lookup false [.s] (.agg #[(.int .u32 0), (.slice none 0 0), (.slice none 0 0), (.int .u32 0), (.string ⟨#[]⟩), (.int .i64 0), (.int .i64 0)]) true (t 32) (t 34))<|
 oM 28 35<| oX 36 0 28<| oX 37 1 28<|
 oR 9 (.alloc 57 [(.int .u32 0), (.slice none 0 0), (.slice none 0 0), (.int .u32 0), (.string ⟨#[]⟩), (.int .i64 0), (.int .i64 0)])<| .nil) <|oU 7 9 36<| oM 10 37<| .nil)
 (.seq (.reg false <| oM 38 10<| .nil) (.cond (t 38) (.seq (.reg false <| oO 6 7<| .nil) .ret) .skip))) (.seq (.seq (.reg false <| oF 39 1 4<| oL 40 39<| oD 41 40<|
 oO 42 0<| .nil) (.block 0 (.loop (.seq (.reg false <| oB 43 .lss 42 41<| .nil) (.seq (.cond (t 43) .skip (.exit 0)) (.seq (.block 1 (.seq (.reg false <| oI 44 4 40 42<|
 oK 45 4 44<| oR 12 (.alloc 62 [(.string ⟨#[]⟩), (.int .u32 0), (.int .u32 0), (.slice none 0 0)])<| oU 4 12 45<| .nil) (.seq (.reg true <| .join (oM 47 0<|
 oR 48 (.nilCheck (t 47))<| oF 49 2 48<| oL 50 49<| oF 51 0 12<| oK 52 2 51<| .nil) <|oR 53 (.lookup true [.s, .i] (.string ⟨#[]⟩) true (t 50) (t 52))<| oM 46 53<|
 oX 54 0 46<| oX 55 1 46<| oM 13 54<| oM 14 55<| .nil) (.seq (.reg false <| oM 56 14<| .nil) (.cond (t 56) (.seq (.reg false <| oO 6 15<| .nil) .ret) .skip)))))
 (.reg false <| oC 57 .add 42 1<| oM 42 57<| .nil))))))) (.seq (.reg true <| .join (oM 58 0<| oR 59 (.nilCheck (t 58))<| oF 60 0 59<| oL 61 60<| oF 62 4 7<| oL 63 62<|
 oK 64 7 7<| .nil) <|oQ (.mapUpdate false [.s] (t 61) (t 63) (t 64))<| .nil) (.seq (.reg true <| .join (oM 65 0<| oM 66 0<| oR 67 (.nilCheck (t 66))<| oF 68 1 67<|
 oF 70 4 7<| oL 71 70<| .both (oL 69 68<| oR 72 (.buildSlice 9 1 [(.string ⟨#[]⟩)] [(0, 1, (t 71))])<| .nil) (oR 72 (.buildSlice 9 1 [(.string ⟨#[]⟩)] [(0, 1, (t 71))])<|
 oL 69 68<| .nil)) <|oR 73 (.append 9 1 16 [(.string ⟨#[]⟩)] (t 69) (t 72))<| oR 74 (.nilCheck (t 65))<| oF 75 1 74<| oS 75 73<| .nil) (.seq (.seq (.reg false <|
 oF 76 1 4<| oL 77 76<| oD 78 77<| oO 79 0<| .nil) (.block 2 (.loop (.seq (.reg false <| oB 80 .lss 79 78<| .nil) (.seq (.cond (t 80) .skip (.exit 2))
 (.seq (.block 3 (.seq (.reg false <| oI 81 4 77 79<| oK 82 4 81<| oR 16 (.alloc 62 [(.string ⟨#[]⟩), (.int .u32 0), (.int .u32 0), (.slice none 0 0)])<| oU 4 16 82<| .nil)
 (.reg true <| .join (oM 83 0<| oR 84 (.nilCheck (t 83))<| oF 85 2 84<| oL 86 85<| oF 87 0 16<| oK 88 2 87<| oF 89 4 7<|
 oL 90 89<| .nil) <|oQ (.mapUpdate true [.s, .i] (t 86) (t 88) (t 90))<| .nil))) (.reg false <| oC 91 .add 79 1<| oM 79 91<| .nil))))))) (.seq (.reg false <|
 oO 6 0<| .nil) .ret))))))))))
theorem s_graph_Graph_Add : CS 92 k_graph_Graph_Add [.tmp 6] F.graph_Graph_Add :=
  cs Tryz.func51 (by kernel_rfl) (by kernel_rfl)
noncomputable def k_kedgeref14_Add : KC :=
(.seq (.reg false <| oR 4 (.box 32 (t 1))<| oR 6 (.move (.const (.slice none 0 0)))<| oO 7 0<| .nil) (.seq (.reg false <| oK 17 4 4<| oR 18 (oa 22 17)<| oM 8 18<| .nil)
 (.seq (.seq (.reg false <| oM 19 8<| oC 20 .neq 19 0<| .nil) (.cond (t 20) (.seq (.reg false <| oM 21 0<| oM 22 8<| oM 6 21<| oM 7 22<| .nil) .ret) .skip))
 (.seq (.reg false <| oF 23 1 4<| oL 24 23<| oR 25 (.indexAddr 4 (t 24) (oi 0))<| oF 26 0 25<| oK 27 2 26<| oR 28 (oa 69 27)<| oM 9 28<| .nil) (.seq (.seq (.reg false <|
 oM 29 9<| .nil) (.cond (t 29) (.seq (.reg false <| oM 30 0<| oM 6 30<| oO 7 4<| .nil) .ret) .skip)) (.seq (.reg false <| oM 31 2<|
 oR 32 (.pcall 64 Go.Proofs.YtbnhinpegbcbeaaGreat.qGood [(t 31)])<| oM 10 32<| .nil) (.seq (.seq (.reg false <| oM 33 10<| oT 34 33<| .nil)
 (.cond (t 34) (.seq (.reg false <| oM 35 0<| oM 6 35<| oO 7 3<| .nil) .ret) .skip)) (.seq (.reg false <| oK 36 4 4<| oR 37 (oa 104 36)<| oM 11 37<| .nil)
 (.seq (.reg false <| oM 38 0<| oM 39 11<| oR 40 (ob 50 38 39)<| oM 12 40<| .nil) (.seq (.seq (.reg false <| oM 41 12<| oC 42 .geq 41 0<| .nil)
 (.cond (t 42) (.seq (.reg false <| oM 43 0<| oM 6 43<| oO 7 7<| .nil) .ret) .skip)) (.seq (.seq (.reg false <| oO 13 0<| .nil) (.block 0 (.loop (.seq (.seq (.reg false <|
 oM 44 13<| oF 45 1 4<| oL 46 45<| oD 47 46<| oB 48 .lss 44 47<| .nil) (.cond (t 48) .skip (.exit 0))) (.seq (.block 1 (.seq (.reg false <| oM 51 0<| oF 52 1 4<| oL 53 52<|
 oM 54 13<| oI 55 4 53 54<| oF 56 0 55<| oK 57 2 56<| oR 58 (ob 66 51 57)<| oM 12 58<| .nil) (.seq (.reg false <| oM 59 12<| oC 60 .geq 59 0<| .nil)
 (.cond (t 60) (.seq (.reg false <| oM 61 0<| oM 6 61<| oO 7 15<| .nil) .ret) .skip)))) (.reg false <| oM 49 13<| oC 50 .add 49 1<| oM 13 50<| .nil))))))
 (.seq (.reg false <| oK 62 4 4<| oR 63 (oa 105 62)<| oM 14 63<| .nil) (.seq (.reg false <| oR 15 (.move (.const (.slice none 0 0)))<| .nil) (.seq (.seq (.reg false <|
 oO 16 0<| .nil) (.block 2 (.loop (.seq (.seq (.reg false <| oM 64 16<| oM 65 0<| oD 66 65<| oB 67 .lss 64 66<| .nil) (.cond (t 67) .skip (.exit 2)))
 (.seq (.block 3 (.reg false <| oM 70 15<| oM 71 0<| oM 72 16<| oI 73 7 71 72<| oK 74 7 73<|
 oR 75 (.buildSlice 57 1 [(.int .u32 0), (.slice none 0 0), (.slice none 0 0), (.int .u32 0), (.string ⟨#[]⟩), (.int .i64 0), (.int .i64 0)] [(0, 7, (t 74))])<|
 oR 76 (.append 57 7 96 [(.int .u32 0), (.slice none 0 0), (.slice none 0 0), (.int .u32 0), (.string ⟨#[]⟩), (.int .i64 0), (.int .i64 0)] (t 70) (t 75))<|
 oM 15 76<| .nil)) (.reg false <| oM 68 16<| oC 69 .add 68 1<| oM 16 69<| .nil)))))) (.seq (.reg false <| oM 77 15<| oK 78 4 4<| oM 79 11<| oM 80 2<| oM 81 14<|
 oR 82 (.build [(.int .u32 0), (.slice none 0 0), (.slice none 0 0), (.int .u32 0), (.string ⟨#[]⟩), (.int .i64 0), (.int .i64 0)] [(0, 4, (t 78)), (4, 1, (t 79)), (5, 1, (t 80)), (6, 1, (t 81))])<|
 oR 83 (.buildSlice 57 1 [(.int .u32 0), (.slice none 0 0), (.slice none 0 0), (.int .u32 0), (.string ⟨#[]⟩), (.int .i64 0), (.int .i64 0)] [(0, 7, (t 82))])<|
 oR 84 (.append 57 7 96 [(.int .u32 0), (.slice none 0 0), (.slice none 0 0), (.int .u32 0), (.string ⟨#[]⟩), (.int .i64 0), (.int .i64 0)] (t 77) (t 83))<| oM 6 84<|
 oO 7 0<| .nil) .ret)))))))))))))))
theorem s_kedgeref14_Add : CS 85 k_kedgeref14_Add [.tmp 6, .tmp 7] F.kedgeref14_Add :=
  cs Tryz.func52 (by kernel_rfl) (by kernel_rfl)
noncomputable def k_kedgeref14_Make : KC :=
(.seq (.reg false <| oR 3 (.box 25 (t 1))<| oR 4 (.alloc 32 [(.int .u32 0), (.slice none 0 0), (.slice none 0 0), (.int .u32 0)])<| .nil) (.seq (.reg false <| oF 11 4 3<|
 oL 12 11<| oV 13 .u32 12<| oR 14 (.build [(.int .u32 0), (.slice none 0 0), (.slice none 0 0), (.int .u32 0)] [(0, 1, (.const (.int .u32 2))), (3, 1, (t 13))])<|
 oR 5 (.alloc 32 [(.int .u32 0), (.slice none 0 0), (.slice none 0 0), (.int .u32 0)])<| oU 4 5 14<| .nil) (.seq (.seq (.reg false <| oO 6 0<| .nil)
 (.block 0 (.loop (.seq (.seq (.reg false <| oM 15 6<| oF 16 0 3<| oL 17 16<| oD 18 17<| oB 19 .lss 15 18<| oM 20 19<| oG 21 20 true (.move (t 6))<|
 oG 22 20 true (.bin .lss (t 21) (oi 4))<| oR 23 (.pick (t 20) (t 22) (.const (.bool false)))<| .nil) (.cond (t 23) .skip (.exit 0))) (.seq (.block 1 (.seq (.reg false <|
 oF 26 0 3<| oL 27 26<| oM 28 6<| oI 29 1 27 28<| oL 30 29<| oV 31 .i64 30<| oM 7 31<| .nil) (.seq (.reg false <| oM 32 7<| oC 33 .rem 32 16<| oR 34 (oa 77 33)<|
 oM 8 34<| .nil) (.seq (.seq (.reg false <| oM 35 7<| oC 36 .lss 35 128<| oM 37 36<| oG 38 37 true (.move (t 0))<| oG 39 37 true (.len false (t 38))<|
 oG 40 37 true (.bin .gtr (t 39) (oi 0))<| oR 41 (.pick (t 37) (t 40) (.const (.bool false)))<| .nil) (.cond (t 41) (.reg false <| oM 42 0<| oM 43 7<| oM 44 0<| oD 45 44<|
 oB 46 .rem 43 45<| oI 47 7 42 46<| oF 48 4 47<| oL 49 48<| oM 8 49<| .nil) .skip)) (.reg true <| .join (oF 50 1 5<| oM 52 8<| oF 53 1 3<| oL 54 53<| oV 55 .i64 54<|
 oM 56 6<| oR 57 (.bin .mul (oi 2) (t 56))<| oB 58 .shr 55 57<| oV 59 .u32 58<| oR 60 (.bin .rem (t 59) (.const (.int .u32 4)))<|
 oR 61 (.build [(.string ⟨#[]⟩), (.int .u32 0)] [(0, 1, (t 52)), (1, 1, (t 60))])<|
 oR 62 (.build [(.string ⟨#[]⟩), (.int .u32 0), (.int .u32 0), (.slice none 0 0)] [(0, 2, (t 61)), (2, 1, (.const (.int .u32 4294967293)))])<| .both (oL 51 50<|
 oR 63 (.buildSlice 62 1 [(.string ⟨#[]⟩), (.int .u32 0), (.int .u32 0), (.slice none 0 0)] [(0, 4, (t 62))])<| .nil)
 (oR 63 (.buildSlice 62 1 [(.string ⟨#[]⟩), (.int .u32 0), (.int .u32 0), (.slice none 0 0)] [(0, 4, (t 62))])<|
 oL 51 50<| .nil)) <|oR 64 (.append 62 4 56 [(.string ⟨#[]⟩), (.int .u32 0), (.int .u32 0), (.slice none 0 0)] (t 51) (t 63))<| oF 65 1 5<| oS 65 64<| .nil)))))
 (.reg false <| oM 24 6<| oC 25 .add 24 1<| oM 6 25<| .nil)))))) (.seq (.seq (.reg false <| oO 9 0<| .nil) (.block 2 (.loop (.seq (.seq (.reg false <| oM 66 9<| oF 67 2 3<|
 oL 68 67<| oR 69 (.bin .rem (t 68) (.const (.int .u8 3)))<| oV 70 .i64 69<| oB 71 .leq 66 70<| .nil) (.cond (t 71) .skip (.exit 2))) (.seq (.block 3 (.reg false <|
 oF 74 2 5<| oL 75 74<| oM 76 9<| oR 77 (.bin .add (oi 1000) (t 76))<|
 oR 78 (.build [(.int .i64 0), (.string ⟨#[]⟩)] [(0, 1, (t 77)), (1, 1, (.const (.string ⟨#[1, 1, 0, 0, 0, 0, 0, 0, 0]⟩)))])<|
 oR 79 (.buildSlice 87 1 [(.int .i64 0), (.string ⟨#[]⟩)] [(0, 2, (t 78))])<| oR 80 (.append 87 2 24 [(.int .i64 0), (.string ⟨#[]⟩)] (t 75) (t 79))<| oF 81 2 5<|
 oS 81 80<| .nil)) (.reg false <| oM 72 9<| oC 73 .add 72 1<| oM 9 73<| .nil)))))) (.seq (.seq (.reg false <| oO 10 0<| .nil) (.block 4 (.loop (.seq (.seq (.reg false <|
 oM 82 10<| oF 83 5 3<| oL 84 83<| oV 85 .i64 84<| oB 86 .lss 82 85<| .nil) (.cond (t 86) .skip (.exit 4))) (.seq (.block 5 (.reg false <| oF 89 2 5<| oL 90 89<|
 oR 91 (.build [(.int .i64 0), (.string ⟨#[]⟩)] [(0, 1, (oi 1000)), (1, 1, (.const (.string ⟨#[48, 49, 50, 51, 52, 53, 54, 55, 56, 57, 48, 49, 50, 51, 52, 53, 54, 55, 56, 57, 48, 49, 50, 51, 52, 53, 54, 55, 56, 57, 48, 49, 50, 51, 52, 53, 54, 55, 56, 57]⟩)))])<|
 oR 92 (.buildSlice 87 1 [(.int .i64 0), (.string ⟨#[]⟩)] [(0, 2, (t 91))])<| oR 93 (.append 87 2 24 [(.int .i64 0), (.string ⟨#[]⟩)] (t 90) (t 92))<| oF 94 2 5<|
 oS 94 93<| .nil)) (.reg false <| oM 87 10<| oC 88 .add 87 1<| oM 10 88<| .nil)))))) (.seq (.reg false <| oK 95 4 5<| oU 4 4 95<| .nil) .ret))))))
theorem s_kedgeref14_Make : CS 96 k_kedgeref14_Make [.cellN 4 4] F.kedgeref14_Make :=
  cs Tryz.func53 (by kernel_rfl) (by kernel_rfl)
noncomputable def k_slices_ContainsFunc_L_api_In_api_In : KC :=
(.seq (.reg false <| oR 4 (.move (.const (.bool false)))<| .nil) (.seq (.reg false <| oM 5 0<| oM 6 1<| oR 7 (ob 106 5 6)<| oC 8 .geq 7 0<| oM 4 8<| .nil) .ret))
theorem s_slices_ContainsFunc_L_api_In_api_In : CS 9 k_slices_ContainsFunc_L_api_In_api_In [.tmp 4] F.slices_ContainsFunc_L_api_In_api_In :=
  cs Tryz.func54 (by kernel_rfl) (by kernel_rfl)
noncomputable def k_replace_Conflicts_1 : KC :=
(.seq (.reg false <| oR 2 (.box 62 (t 0))<| oR 3 (.move (.const (.bool false)))<| .nil) (.seq (.reg false <| oF 4 1 1<| oL 5 4<| oR 6 (.makeFunc (.func 56) [] [(t 2)])<|
 oR 7 (ob 54 5 6)<| oM 3 7<| .nil) .ret))
theorem s_replace_Conflicts_1 : CS 8 k_replace_Conflicts_1 [.tmp 3] F.replace_Conflicts_1 :=
  cs Tryz.func55 (by kernel_rfl) (by kernel_rfl)
noncomputable def k_replace_Conflicts_1_1 : KC :=
(.seq (.reg false <| oR 2 (.box 62 (t 0))<| oR 3 (.move (.const (.bool false)))<| .nil) (.seq (.reg false <| oF 4 0 1<| oK 5 2 4<| oF 6 0 2<| oK 7 2 6<|
 oR 8 (.eqAgg false [.s, .i] (t 5) (t 7))<| oM 3 8<| .nil) .ret))
theorem s_replace_Conflicts_1_1 : CS 9 k_replace_Conflicts_1_1 [.tmp 3] F.replace_Conflicts_1_1 :=
  cs Tryz.func56 (by kernel_rfl) (by kernel_rfl)
noncomputable def k_kedgeref14_Below : KC :=
(.seq (.reg false <| oR 4 (.move (.const (.slice none 0 0)))<| .nil) (.seq (.reg false <| oM 11 0<| oD 12 11<| oR 13 (.makeSlice 4 1 1 [(.bool false)] (t 12) (t 12))<|
 oM 5 13<| .nil) (.seq (.reg false <| oM 14 0<| oM 15 1<| oR 16 (ob 50 14 15)<| oM 6 16<| .nil) (.seq (.seq (.reg false <| oM 17 6<| oC 18 .lss 17 0<| .nil)
 (.cond (t 18) (.seq (.reg false <| oM 19 5<| oM 4 19<| .nil) .ret) .skip)) (.seq (.reg false <| oM 20 5<| oM 21 6<| oI 22 1 20 21<|
 oQ (.store (t 22) (.const (.bool true)))<| .nil) (.seq (.seq (.reg false <| oO 7 0<| .nil) (.block 0 (.loop (.seq (.seq (.reg false <| oM 23 7<| oM 24 0<| oD 25 24<|
 oB 26 .leq 23 25<| .nil) (.cond (t 26) .skip (.exit 0))) (.seq (.block 1 (.seq (.reg false <| oO 8 0<| .nil) (.block 2 (.loop (.seq (.seq (.reg false <| oM 29 8<|
 oM 30 0<| oD 31 30<| oB 32 .lss 29 31<| .nil) (.cond (t 32) .skip (.exit 2))) (.seq (.block 3 (.seq (.reg false <| oO 9 0<| .nil)
 (.block 4 (.loop (.seq (.seq (.reg false <| oM 35 9<| oM 36 0<| oD 37 36<| oB 38 .lss 35 37<| .nil) (.cond (t 38) .skip (.exit 4)))
 (.seq (.block 5 (.seq (.reg true <| .join (oM 41 0<| oM 42 8<| oI 43 7 41 42<| oF 44 0 43<| oK 45 4 44<| oM 46 0<| oM 47 9<| oI 48 7 46 47<|
 oK 49 7 48<| .nil) <|oR 50 (ob 107 45 49)<| oM 10 50<| .nil) (.reg false <| oM 51 5<| oM 52 8<| oM 53 5<| oM 54 8<| oI 55 1 53 54<| oL 56 55<| oM 57 56<|
 oG 58 57 false (.move (t 5))<| oG 59 57 false (.move (t 9))<| oG 60 57 false (.indexAddr 1 (t 58) (t 59))<| oG 61 57 false (.load (t 60))<| oG 62 57 false (.move (t 61))<|
 oG 63 62 true (.move (t 10))<| oG 64 57 false (.pick (t 62) (t 63) (.const (.bool false)))<| oR 65 (.pick (t 57) (.const (.bool true)) (t 64))<| oI 66 1 51 52<|
 oS 66 65<| .nil))) (.reg false <| oM 39 9<| oC 40 .add 39 1<| oM 9 40<| .nil))))))) (.reg false <| oM 33 8<| oC 34 .add 33 1<| oM 8 34<| .nil))))))) (.reg false <|
 oM 27 7<| oC 28 .add 27 1<| oM 7 28<| .nil)))))) (.seq (.reg false <| oM 67 5<| oM 4 67<| .nil) .ret)))))))
theorem s_kedgeref14_Below : CS 68 k_kedgeref14_Below [.tmp 4] F.kedgeref14_Below :=
  cs Tryz.func57 (by kernel_rfl) (by kernel_rfl)
noncomputable def k_ident_Size : KC :=
(.seq (.reg false <| oR 1 (.box 32 (t 0))<| oO 2 0<| oO 3 0<| .nil) (.seq (.reg false <| oK 7 4 1<| oR 8 (oa 108 7)<| oM 6 8<| oX 9 0 6<| oX 10 1 6<| oM 4 9<|
 oM 5 10<| .nil) (.seq (.reg false <| oM 11 4<| oC 12 .add 11 4<| oC 13 .sub 12 1<| oC 14 .quo 13 4<| oM 15 5<| oM 2 14<| oM 3 15<| .nil) .ret)))
theorem s_ident_Size : CS 16 k_ident_Size [.tmp 2, .tmp 3] F.ident_Size :=
  cs Tryz.func58 (by kernel_rfl) (by kernel_rfl)
noncomputable def k_slices_ContainsFunc_L_string_string : KC :=
(.seq (.reg false <| oR 4 (.move (.const (.bool false)))<| .nil) (.seq (.reg false <| oM 5 0<| oM 6 1<| oR 7 (ob 109 5 6)<| oC 8 .geq 7 0<| oM 4 8<| .nil) .ret))
theorem s_slices_ContainsFunc_L_string_string : CS 9 k_slices_ContainsFunc_L_string_string [.tmp 4] F.slices_ContainsFunc_L_string_string :=
  cs Tryz.func60 (by kernel_rfl) (by kernel_rfl)
noncomputable def k_replace_Rules_1 : KC :=
(.seq (.reg false <| oR 3 (.move (.const (.bool false)))<| .nil) (.seq (.reg false <| oL 4 1<| oM 5 0<| oR 6 (ob 62 4 5)<| oT 7 6<| oM 3 7<| .nil) .ret))
theorem s_replace_Rules_1 : CS 8 k_replace_Rules_1 [.tmp 3] F.replace_Rules_1 :=
  cs Tryz.func61 (by kernel_rfl) (by kernel_rfl)
noncomputable def k_replace_replaceable : KC :=
(.seq (.reg false <| oR 2 (.box 33 (t 0))<| oR 4 (.move (.const (.bool false)))<| .nil) (.seq (.reg false <| oL 8 2<| oM 9 1<| oR 10 (ob 35 8 9)<| oM 7 10<| oX 11 0 7<|
 oX 12 1 7<| oR 5 (.alloc 57 [(.int .u32 0), (.slice none 0 0), (.slice none 0 0), (.int .u32 0), (.string ⟨#[]⟩), (.int .i64 0), (.int .i64 0)])<| oU 7 5 11<|
 oM 6 12<| .nil) (.seq (.reg false <| oF 13 0 5<| oK 14 4 13<| oR 15 (oa 110 14)<| oM 16 15<| oG 17 16 false (.load (t 2))<| oG 18 16 false (.fieldAddr 0 (t 5))<|
 oG 19 16 false (.loadN 4 (t 18))<| oG 20 16 false (ob 49 17 19)<| oG 21 16 false (.makeFunc (.func 111) [] [(t 2)])<| oG 22 16 false (ob 60 20 21)<|
 oR 23 (.pick (t 16) (.const (.bool true)) (t 22))<| oM 4 23<| .nil) .ret)))
theorem s_replace_replaceable : CS 24 k_replace_replaceable [.tmp 4] F.replace_replaceable :=
  cs Tryz.func62 (by kernel_rfl) (by kernel_rfl)
noncomputable def k_replace_fresh : KC :=
(.seq (.reg false <| oR 5 (.box 32 (t 1))<| oR 8 (.move (.const (.bool false)))<| .nil) (.seq (.seq (.reg false <| oF 15 1 5<| oL 16 15<| oD 17 16<| oO 18 0<| .nil)
 (.block 0 (.loop (.seq (.reg false <| oB 19 .lss 18 17<| .nil) (.seq (.cond (t 19) .skip (.exit 0)) (.seq (.block 1 (.seq (.reg false <| oI 20 4 16 18<| oK 21 4 20<|
 oR 10 (.alloc 62 [(.string ⟨#[]⟩), (.int .u32 0), (.int .u32 0), (.slice none 0 0)])<| oU 4 10 21<| .nil) (.seq (.seq (.reg false <| oM 23 0<| oF 24 0 10<| oK 25 2 24<|
 oR 26 (ob 39 23 25)<| oM 22 26<| oX 27 0 22<| oX 28 1 22<| oR 11 (.alloc 87 [(.int .i64 0), (.string ⟨#[]⟩)])<| oU 2 11 27<| oM 12 28<| .nil) (.seq (.reg false <|
 oM 29 12<| oT 30 29<| .nil) (.cond (t 30) (.exit 1) .skip))) (.seq (.reg false <| oM 32 0<| oF 33 0 10<| oK 34 2 33<| oR 35 (ob 112 32 34)<| oM 31 35<| oX 36 0 31<|
 oX 37 1 31<| oM 13 36<| oM 14 37<| .nil) (.seq (.reg false <| oM 38 3<| oF 39 0 10<| oF 40 0 39<| oL 41 40<| oR 42 (ob 26 38 41)<| oM 43 42<|
 oG 44 43 false (.move (t 2))<| oG 45 43 false (.move (t 13))<| oG 46 43 false (ob 26 44 45)<| oG 47 43 false (.not (t 46))<|
 oR 48 (.pick (t 43) (.const (.bool true)) (t 47))<| .nil) (.cond (t 48) (.seq (.reg false <| oR 8 (.move (.const (.bool true)))<| .nil) .ret) .skip)))))) (.reg false <|
 oC 49 .add 18 1<| oM 18 49<| .nil))))))) (.seq (.reg false <| oR 8 (.move (.const (.bool false)))<| .nil) .ret)))
theorem s_replace_fresh : CS 50 k_replace_fresh [.tmp 8] F.replace_fresh :=
  cs Tryz.func63 (by kernel_rfl) (by kernel_rfl)
noncomputable def k_kedgeref16_May : KC :=
(.seq (.reg false <| oR 4 (.move (.const (.bool false)))<| .nil) (.seq (.reg false <| oM 8 0<| oM 9 1<| oI 10 7 8 9<| oF 11 0 10<| oK 12 4 11<| oR 13 (oa 113 12)<|
 oM 5 13<| .nil) (.seq (.seq (.reg false <| oM 14 5<| .nil) (.cond (t 14) (.seq (.reg false <| oR 4 (.move (.const (.bool true)))<| .nil) .ret) .skip)) (.seq (.reg false <|
 oM 15 0<| oM 16 0<| oM 17 1<| oI 18 7 16 17<| oF 19 0 18<| oK 20 4 19<| oR 21 (ob 114 15 20)<| oM 6 21<| .nil) (.seq (.seq (.reg false <| oO 7 0<| .nil)
 (.block 0 (.loop (.seq (.seq (.reg false <| oM 22 7<| oM 23 0<| oD 24 23<| oB 25 .lss 22 24<| .nil) (.cond (t 25) .skip (.exit 0))) (.seq (.block 1 (.seq (.reg false <|
 oM 28 0<| oM 29 7<| oI 30 7 28 29<| oF 31 0 30<| oK 32 4 31<| oR 33 (oa 113 32)<| oM 5 33<| .nil) (.seq (.reg false <| oM 34 6<| oM 35 7<| oI 36 1 34 35<| oL 37 36<|
 oM 38 37<| oG 39 38 true (.move (t 5))<| oR 40 (.pick (t 38) (t 39) (.const (.bool false)))<| .nil) (.cond (t 40) (.seq (.reg false <|
 oR 4 (.move (.const (.bool true)))<| .nil) .ret) .skip)))) (.reg false <| oM 26 7<| oC 27 .add 26 1<| oM 7 27<| .nil)))))) (.seq (.reg false <|
 oR 4 (.move (.const (.bool false)))<| .nil) .ret))))))
theorem s_kedgeref16_May : CS 41 k_kedgeref16_May [.tmp 4] F.kedgeref16_May :=
  cs Tryz.func65 (by kernel_rfl) (by kernel_rfl)
noncomputable def k_kedgeref14_Spender : KC :=
(.seq (.reg false <| oR 3 (.box 60 (t 1))<| oO 4 0<| .nil) (.seq (.seq (.reg false <| oO 5 0<| .nil) (.block 0 (.loop (.seq (.seq (.reg false <| oM 7 5<| oM 8 0<| oD 9 8<|
 oB 10 .lss 7 9<| .nil) (.cond (t 10) .skip (.exit 0))) (.seq (.block 1 (.seq (.reg false <| oO 6 0<| .nil) (.block 2 (.loop (.seq (.seq (.reg false <| oM 13 6<| oM 14 0<|
 oM 15 5<| oI 16 7 14 15<| oF 17 0 16<| oF 18 1 17<| oL 19 18<| oD 20 19<| oB 21 .lss 13 20<| .nil) (.cond (t 21) .skip (.exit 2)))
 (.seq (.block 3 (.seq (.reg true <| .join (oM 24 0<| oM 25 5<| oI 26 7 24 25<| oF 27 0 26<| oF 28 1 27<| oL 29 28<| oM 30 6<| oI 31 4 29 30<| oF 32 0 31<| oF 33 0 32<|
 oL 34 33<| oF 35 0 3<| oL 36 35<| oB 37 .eql 34 36<| oM 38 37<| oG 39 38 true (.move (t 0))<| oG 40 38 true (.move (t 5))<| oG 41 38 true (.indexAddr 7 (t 39) (t 40))<|
 oG 42 38 true (.fieldAddr 0 (t 41))<| oG 43 38 true (.fieldAddr 1 (t 42))<| oG 45 38 true (.move (t 6))<|
 oG 50 38 true (.fieldAddr 1 (t 3))<| .nil) <|oG 44 38 true (.load (t 43))<| oG 46 38 true (.indexAddr 4 (t 44) (t 45))<| oG 47 38 true (.fieldAddr 0 (t 46))<|
 oG 48 38 true (.fieldAddr 1 (t 47))<| oG 49 38 true (.load (t 48))<| oG 51 38 true (.load (t 50))<| oG 52 38 true (.bin .eql (t 49) (t 51))<|
 oR 53 (.pick (t 38) (t 52) (.const (.bool false)))<| .nil) (.cond (t 53) (.seq (.reg false <| oM 54 5<| oM 4 54<| .nil) .ret) .skip))) (.reg false <| oM 22 6<|
 oC 23 .add 22 1<| oM 6 23<| .nil))))))) (.reg false <| oM 11 5<| oC 12 .add 11 1<| oM 5 12<| .nil)))))) (.seq (.reg false <| oO 4 (-1)<| .nil) .ret)))
theorem s_kedgeref14_Spender : CS 55 k_kedgeref14_Spender [.tmp 4] F.kedgeref14_Spender :=
  cs Tryz.func66 (by kernel_rfl) (by kernel_rfl)
noncomputable def k_kedgeref16_Enough : KC :=
(.seq (.reg false <| oR 4 (.box 32 (t 1))<| oR 6 (.move (.const (.bool false)))<| .nil) (.seq (.reg false <| oM 17 0<| oK 18 4 4<| oR 19 (ob 16 17 18)<| oM 7 19<| .nil)
 (.seq (.reg false <| oM 20 0<| oK 21 4 4<| oR 22 (ob 18 20 21)<| oM 8 22<| .nil) (.seq (.reg false <| oM 24 0<| oM 25 8<| oR 26 (ob 115 24 25)<| oM 23 26<| oX 27 0 23<|
 oX 28 1 23<| oM 9 27<| oM 10 28<| .nil) (.seq (.reg false <| oK 29 4 4<| oR 30 (oa 105 29)<| oM 11 30<| .nil) (.seq (.reg false <| oM 32 11<|
 oR 33 (.call 116 [(oi 1000), (t 32)])<| oM 31 33<| oX 34 0 31<| oX 35 1 31<| oM 12 34<| oM 13 35<| .nil) (.seq (.reg false <| oR 14 (.move (.const (.bool false)))<| .nil)
 (.seq (.seq (.reg false <| oO 15 0<| .nil) (.block 0 (.loop (.seq (.seq (.reg false <| oM 36 15<| oM 37 0<| oD 38 37<| oB 39 .lss 36 38<| .nil)
 (.cond (t 39) .skip (.exit 0))) (.seq (.block 1 (.seq (.seq (.reg false <| oM 42 7<| oM 43 15<| oI 44 1 42 43<| oL 45 44<| oT 46 45<| .nil) (.cond (t 46) (.exit 1) .skip))
 (.seq (.reg false <| oR 14 (.move (.const (.bool true)))<| .nil) (.seq (.reg true <| .join (oM 47 2<| oM 48 11<| oM 49 0<| oM 50 15<| oI 51 7 49 50<| oF 52 5 51<|
 oL 53 52<| oM 54 0<| oM 55 15<| oI 56 7 54 55<| oF 57 6 56<| oL 58 57<| .nil) <|oR 59 (.call 117 [(t 47), (t 48), (t 53), (t 58)])<| oM 16 59<| .nil) (.seq (.reg false <|
 oM 60 16<| oC 61 .leq 60 0<| .nil) (.cond (t 61) (.seq (.reg false <| oR 6 (.move (.const (.bool false)))<| .nil) .ret) .skip)))))) (.reg false <| oM 40 15<|
 oC 41 .add 40 1<| oM 15 41<| .nil)))))) (.seq (.reg false <| oM 62 14<| oT 63 62<| oM 64 63<| oG 65 64 false (.move (t 2))<| oG 66 64 false (.move (t 9))<|
 oG 67 64 false (.move (t 12))<| oG 68 64 false (.bin .add (t 66) (t 67))<| oG 69 64 false (.bin .geq (t 65) (t 68))<| oR 70 (.pick (t 64) (.const (.bool true)) (t 69))<|
 oM 6 70<| .nil) .ret)))))))))
theorem s_kedgeref16_Enough : CS 71 k_kedgeref16_Enough [.tmp 6] F.kedgeref16_Enough :=
  cs Tryz.func67 (by kernel_rfl) (by kernel_rfl)
noncomputable def k_kedgeref05_long : KC :=
(.seq (.reg false <| oR 1 (.box 32 (t 0))<| oR 2 (.move (.const (.bool false)))<| .nil) (.seq (.seq (.reg false <| oO 3 0<| .nil)
 (.block 0 (.loop (.seq (.seq (.reg false <| oM 6 3<| oF 7 2 1<| oL 8 7<| oD 9 8<| oB 10 .lss 6 9<| .nil) (.cond (t 10) .skip (.exit 0)))
 (.seq (.block 1 (.seq (.reg false <| oF 13 2 1<| oL 14 13<| oM 15 3<| oI 16 2 14 15<| oF 17 1 16<| oL 18 17<| oR 19 (.len true (t 18))<| oC 20 .gtr 19 40<| .nil)
 (.cond (t 20) (.seq (.reg false <| oR 2 (.move (.const (.bool true)))<| .nil) .ret) .skip))) (.reg false <| oM 11 3<| oC 12 .add 11 1<| oM 3 12<| .nil))))))
 (.seq (.seq (.reg false <| oO 4 0<| .nil) (.block 2 (.loop (.seq (.seq (.reg false <| oM 21 4<| oF 22 1 1<| oL 23 22<| oD 24 23<| oB 25 .lss 21 24<| .nil)
 (.cond (t 25) .skip (.exit 2))) (.seq (.block 3 (.seq (.reg false <| oO 5 0<| .nil) (.block 4 (.loop (.seq (.seq (.reg false <| oM 28 5<| oF 29 1 1<| oL 30 29<| oM 31 4<|
 oI 32 4 30 31<| oF 33 3 32<| oL 34 33<| oD 35 34<| oB 36 .lss 28 35<| .nil) (.cond (t 36) .skip (.exit 4))) (.seq (.block 5 (.seq (.reg false <| oF 39 1 1<| oL 40 39<|
 oM 41 4<| oI 42 4 40 41<| oF 43 3 42<| oL 44 43<| oM 45 5<| oI 46 1 44 45<| oL 47 46<| oR 48 (.len true (t 47))<| oC 49 .gtr 48 80<| .nil)
 (.cond (t 49) (.seq (.reg false <| oR 2 (.move (.const (.bool true)))<| .nil) .ret) .skip))) (.reg false <| oM 37 5<| oC 38 .add 37 1<| oM 5 38<| .nil)))))))
 (.reg false <| oM 26 4<| oC 27 .add 26 1<| oM 4 27<| .nil)))))) (.seq (.reg false <| oR 2 (.move (.const (.bool false)))<| .nil) .ret))))
theorem s_kedgeref05_long : CS 50 k_kedgeref05_long [.tmp 2] F.kedgeref05_long :=
  cs Tryz.func68 (by kernel_rfl) (by kernel_rfl)
noncomputable def k_kedgeref05_Base : KC :=
(.seq (.reg false <| oR 1 (.box 60 (t 0))<| oR 2 (.move (.const (.bool false)))<| .nil) (.seq (.seq (.reg false <| oF 4 0 1<| oL 5 4<| oR 6 (.len true (t 5))<|
 oC 7 .neq 6 32<| oM 8 7<| oG 9 8 false (.fieldAddr 1 (t 1))<| oG 10 8 false (.load (t 9))<| oG 11 8 false (.bin .neq (t 10) (.const (.int .u32 4294967295)))<|
 oR 12 (.pick (t 8) (.const (.bool true)) (t 11))<| .nil) (.cond (t 12) (.seq (.reg false <| oR 2 (.move (.const (.bool false)))<| .nil) .ret) .skip))
 (.seq (.seq (.reg false <| oO 3 0<| .nil) (.block 0 (.loop (.seq (.seq (.reg false <| oM 13 3<| oC 14 .lss 13 32<| .nil) (.cond (t 14) .skip (.exit 0)))
 (.seq (.block 1 (.seq (.reg false <| oF 17 0 1<| oL 18 17<| oM 19 3<| oR 20 (.indexStr (t 18) (t 19))<| oR 21 (.bin .neq (t 20) (.const (.int .u8 0)))<| .nil)
 (.cond (t 21) (.seq (.reg false <| oR 2 (.move (.const (.bool false)))<| .nil) .ret) .skip))) (.reg false <| oM 15 3<| oC 16 .add 15 1<| oM 3 16<| .nil))))))
 (.seq (.reg false <| oR 2 (.move (.const (.bool true)))<| .nil) .ret))))
theorem s_kedgeref05_Base : CS 22 k_kedgeref05_Base [.tmp 2] F.kedgeref05_Base :=
  cs Tryz.func69 (by kernel_rfl) (by kernel_rfl)
noncomputable def k_kedgeref05_Total : KC :=
(.seq (.reg false <| oR 1 (.box 32 (t 0))<| oO 2 0<| oO 3 0<| .nil) (.seq (.reg false <| oR 4 (.move (.const (.slice none 0 0)))<| .nil) (.seq (.seq (.reg false <|
 oO 5 0<| .nil) (.block 0 (.loop (.seq (.seq (.reg false <| oM 6 5<| oF 7 2 1<| oL 8 7<| oD 9 8<| oB 10 .lss 6 9<| .nil) (.cond (t 10) .skip (.exit 0)))
 (.seq (.block 1 (.reg false <| oM 13 4<| oF 14 2 1<| oL 15 14<| oM 16 5<| oI 17 2 15 16<| oF 18 0 17<| oL 19 18<|
 oR 20 (.buildSlice 3 1 [(.int .i64 0)] [(0, 1, (t 19))])<| oR 21 (.append 3 1 8 [(.int .i64 0)] (t 13) (t 20))<| oM 4 21<| .nil)) (.reg false <| oM 11 5<|
 oC 12 .add 11 1<| oM 5 12<| .nil)))))) (.seq (.reg false <| oM 22 4<| oR 23 (oa 118 22)<| oX 24 0 23<| oX 25 1 23<| oM 2 24<| oM 3 25<| .nil) .ret))))
theorem s_kedgeref05_Total : CS 26 k_kedgeref05_Total [.tmp 2, .tmp 3] F.kedgeref05_Total :=
  cs Tryz.func70 (by kernel_rfl) (by kernel_rfl)
noncomputable def k_graph_Graph_Sum : KC :=
(.seq (.reg false <| oO 4 0<| oO 5 0<| .nil) (.seq (.reg false <| oO 6 0<| oO 7 0<| .nil) (.seq (.reg false <| oR 13 (.makeMap)<| oM 8 13<| .nil)
 (.seq (.seq (.reg false <| oM 14 1<| oD 15 14<| oO 16 0<| .nil) (.block 0 (.loop (.seq (.reg false <| oB 17 .lss 16 15<| .nil) (.seq (.cond (t 17) .skip (.exit 0))
 (.seq (.block 1 (.seq (.reg false <| oI 18 1 14 16<| oL 19 18<| oM 10 19<| .nil) (.seq (.seq (.reg false <| oM 20 8<| oM 21 10<|
 oR 22 (.lookup false [.s] (.int .i64 0) false (t 20) (t 21))<| oC 23 .add 22 1<| oQ (.mapUpdate false [.s] (t 20) (t 21) (t 23))<| .nil) (.seq (.reg false <| oM 24 8<|
 oM 25 10<| oR 26 (.lookup false [.s] (.int .i64 0) false (t 24) (t 25))<| oC 27 .gtr 26 1<| .nil) (.cond (t 27) (.exit 1) .skip))) (.seq (.reg false <| oM 29 0<|
 oM 30 10<| oR 31 (ob 35 29 30)<| oM 28 31<| oX 32 0 28<| oX 33 1 28<|
 oR 11 (.alloc 57 [(.int .u32 0), (.slice none 0 0), (.slice none 0 0), (.int .u32 0), (.string ⟨#[]⟩), (.int .i64 0), (.int .i64 0)])<| oU 7 11 32<| oM 12 33<| .nil)
 (.reg true <| oM 34 6<| oF 35 5 11<| oL 36 35<| oB 37 .add 34 36<| oM 38 7<| oF 39 6 11<| oL 40 39<| oB 41 .add 38 40<| oM 6 37<| oM 7 41<| .nil))))) (.reg false <|
 oC 42 .add 16 1<| oM 16 42<| .nil))))))) (.seq (.reg false <| oM 43 6<| oM 44 7<| oM 4 43<| oM 5 44<| .nil) .ret)))))
theorem s_graph_Graph_Sum : CS 45 k_graph_Graph_Sum [.tmp 4, .tmp 5] F.graph_Graph_Sum :=
  cs Tryz.func71 (by kernel_rfl) (by kernel_rfl)
noncomputable def k_replace_above : KC :=
(.seq (.reg false <| oO 6 0<| .nil) (.seq (.reg false <| oM 12 1<| oV 13 .u64 12<| oM 14 0<| oV 15 .u64 14<| oR 16 (ob 119 13 15)<| oM 11 16<| oX 17 0 11<| oX 18 1 11<|
 oM 7 17<| oM 8 18<| .nil) (.seq (.reg false <| oM 20 7<| oM 21 8<| oM 22 2<| oV 23 .u64 22<| oR 24 (oc 120 20 21 23)<| oM 19 24<| oX 25 0 19<| oX 26 1 19<| oM 9 25<|
 oM 10 26<| .nil) (.seq (.reg false <| oM 27 9<| oV 28 .i64 27<| oC 29 .add 28 1<| oM 6 29<| .nil) .ret))))
theorem s_replace_above : CS 30 k_replace_above [.tmp 6] F.replace_above :=
  cs Tryz.func72 (by kernel_rfl) (by kernel_rfl)
noncomputable def k_graph_Graph_reach : KC :=
(.seq (.reg false <| oR 6 (.move (.const (.slice none 0 0)))<| .nil) (.seq (.reg false <| oR 9 (.makeMap)<| oR 7 (.alloc 124 [(.map none)])<| oS 7 9<| .nil)
 (.seq (.seq (.reg false <| oM 10 1<| oM 8 10<| .nil) (.block 0 (.loop (.seq (.seq (.reg false <| oM 11 8<| oD 12 11<| oC 13 .gtr 12 0<| .nil)
 (.cond (t 13) .skip (.exit 0))) (.seq (.block 1 (.seq (.reg true <| .join (oL 16 7<| oM 17 8<| oR 18 (.indexAddr 1 (t 17) (oi 0))<|
 oL 19 18<| .nil) <|oR 20 (.lookup false [.s] (.int .i64 0) false (t 16) (t 19))<| oC 21 .add 20 1<| oQ (.mapUpdate false [.s] (t 16) (t 19) (t 21))<| .nil)
 (.seq (.reg true <| .join (oL 22 7<| oM 23 8<| oR 24 (.indexAddr 1 (t 23) (oi 0))<| oL 25 24<| .nil) <|oR 26 (.lookup false [.s] (.int .i64 0) false (t 22) (t 25))<|
 oC 27 .eql 26 1<| .nil) (.cond (t 27) (.reg true <| .join (oM 28 8<| oM 29 2<| oM 30 0<| oR 31 (.nilCheck (t 30))<| oF 32 0 31<| oL 33 32<| oM 34 8<|
 oR 35 (.indexAddr 1 (t 34) (oi 0))<|
 oL 36 35<| .nil) <|oR 37 (.lookup false [.s] (.agg #[(.int .u32 0), (.slice none 0 0), (.slice none 0 0), (.int .u32 0), (.string ⟨#[]⟩), (.int .i64 0), (.int .i64 0)]) false (t 33) (t 36))<|
 oR 38 (.callV (t 29) [(t 37)])<| oR 39 (.buildSlice 41 2 [(.slice none 0 0), (.slice none 0 0)] [(0, 1, (t 28)), (1, 1, (t 38))])<| oR 40 (oa 121 39)<|
 oM 8 40<| .nil) .skip)))) (.reg false <| oM 14 8<| oR 15 (.sliceSl 1 (t 14) (some (oi 1)) none)<| oM 8 15<| .nil)))))) (.seq (.reg false <| oM 41 0<|
 oR 42 (.nilCheck (t 41))<| oF 43 1 42<| oL 44 43<| oR 45 (oa 89 44)<| oR 46 (.makeFunc (.func 123) [] [(t 7)])<| oR 47 (ob 122 45 46)<| oM 6 47<| .nil) .ret))))
theorem s_graph_Graph_reach : CS 48 k_graph_Graph_reach [.tmp 6] F.graph_Graph_reach :=
  cs Tryz.func73 (by kernel_rfl) (by kernel_rfl)
noncomputable def k_graph_Graph_children : KC :=
(.seq (.reg false <| oR 3 (.box 57 (t 1))<| oR 4 (.move (.const (.slice none 0 0)))<| .nil) (.seq (.reg false <| oR 5 (.move (.const (.slice none 0 0)))<| .nil)
 (.seq (.seq (.reg false <| oF 9 0 3<| oF 10 2 9<| oL 11 10<| oD 12 11<| oO 13 0<| .nil) (.block 0 (.loop (.seq (.reg false <| oB 14 .lss 13 12<| .nil)
 (.seq (.cond (t 14) .skip (.exit 0)) (.seq (.block 1 (.seq (.reg false <| oM 15 13<| oM 6 15<| .nil) (.seq (.reg false <| oM 17 0<| oF 18 4 3<| oL 19 18<| oM 20 6<|
 oV 21 .u32 20<| oR 22 (.build [(.string ⟨#[]⟩), (.int .u32 0)] [(0, 1, (t 19)), (1, 1, (t 21))])<| oR 23 (ob 112 17 22)<| oM 16 23<| oX 24 0 16<| oX 25 1 16<| oM 7 24<|
 oM 8 25<| .nil) (.seq (.reg false <| oM 26 8<| .nil) (.cond (t 26) (.reg false <| oM 27 5<| oM 28 7<| oR 29 (.buildSlice 9 1 [(.string ⟨#[]⟩)] [(0, 1, (t 28))])<|
 oR 30 (.append 9 1 16 [(.string ⟨#[]⟩)] (t 27) (t 29))<| oM 5 30<| .nil) .skip))))) (.reg false <| oC 31 .add 13 1<| oM 13 31<| .nil))))))) (.seq (.reg false <| oM 32 5<|
 oM 4 32<| .nil) .ret))))
theorem s_graph_Graph_children : CS 33 k_graph_Graph_children [.tmp 4] F.graph_Graph_children :=
  cs Tryz.func74 (by kernel_rfl) (by kernel_rfl)
noncomputable def k_slices_Index_L_string_string : KC :=
(.seq (.reg false <| oO 4 0<| .nil) (.seq (.seq (.reg false <| oM 6 0<| oD 7 6<| oO 8 0<| .nil) (.block 0 (.loop (.seq (.reg false <| oB 9 .lss 8 7<| .nil)
 (.seq (.cond (t 9) .skip (.exit 0)) (.seq (.block 1 (.seq (.reg false <| oM 10 8<| oM 5 10<| .nil) (.seq (.reg false <| oM 11 1<| oM 12 0<| oM 13 5<| oI 14 1 12 13<|
 oL 15 14<| oB 16 .eql 11 15<| .nil) (.cond (t 16) (.seq (.reg false <| oM 17 5<| oM 4 17<| .nil) .ret) .skip)))) (.reg false <| oC 18 .add 8 1<| oM 8 18<| .nil)))))))
 (.seq (.reg false <| oO 4 (-1)<| .nil) .ret)))
theorem s_slices_Index_L_string_string : CS 19 k_slices_Index_L_string_string [.tmp 4] F.slices_Index_L_string_string :=
  cs Tryz.func75 (by kernel_rfl) (by kernel_rfl)
noncomputable def k_kedgeref05_ID : KC :=
(.seq (.reg false <| oR 2 (.move (.const (.string ⟨#[]⟩)))<| .nil) (.seq (.reg false <| oR 3 (.move (.const (.string ⟨#[]⟩)))<| .nil) (.seq (.seq (.reg false <|
 oO 4 0<| .nil) (.block 0 (.loop (.seq (.seq (.reg false <| oM 5 4<| oC 6 .lss 5 32<| .nil) (.cond (t 6) .skip (.exit 0))) (.seq (.block 1 (.reg false <| oM 9 3<| oM 10 0<|
 oM 11 4<| oC 12 .rem 11 8<| oB 13 .shr 10 12<| oV 14 .u8 13<| oM 15 4<| oV 16 .u8 15<| oB 17 .xor 14 16<| oR 18 (.buildSlice 5 1 [(.int .u8 0)] [(0, 1, (t 17))])<|
 oR 19 (.strOf (t 18))<| oB 20 .add 9 19<| oM 3 20<| .nil)) (.reg false <| oM 7 4<| oC 8 .add 7 1<| oM 4 8<| .nil)))))) (.seq (.reg false <| oM 21 3<|
 oM 2 21<| .nil) .ret))))
theorem s_kedgeref05_ID : CS 22 k_kedgeref05_ID [.tmp 2] F.kedgeref05_ID :=
  cs Tryz.func77 (by kernel_rfl) (by kernel_rfl)
noncomputable def k_tx_Copy : KC :=
(.seq (.reg false <| oR 1 (.box 32 (t 0))<| oR 2 (.alloc 32 [(.int .u32 0), (.slice none 0 0), (.slice none 0 0), (.int .u32 0)])<| .nil)
 (.seq (.reg true <| .join (oF 4 1 1<| oL 5 4<| oF 7 2 1<| .both (oR 6 (oa 133 5)<| oL 8 7<| oF 10 1 1<| .nil) (oL 8 7<| oR 6 (oa 133 5)<|
 oF 10 1 1<| .nil)) <|oR 9 (oa 134 8)<| oS 10 6<| oF 11 2 1<| oS 11 9<| .nil) (.seq (.seq (.reg false <| oF 12 1 1<| oL 13 12<| oD 14 13<| oO 15 0<| .nil)
 (.block 0 (.loop (.seq (.reg false <| oB 16 .lss 15 14<| .nil) (.seq (.cond (t 16) .skip (.exit 0)) (.seq (.block 1 (.seq (.reg false <| oM 17 15<| oM 3 17<| .nil)
 (.reg true <| .join (oF 18 1 1<| oM 20 3<| oF 21 1 1<| oL 22 21<| oM 23 3<| oI 24 4 22 23<| oF 25 3 24<| oL 26 25<| .both (oL 19 18<| oR 27 (oa 89 26)<| oI 28 4 19 20<|
 oF 29 3 28<| .nil) (oR 27 (oa 89 26)<| oL 19 18<| oI 28 4 19 20<| oF 29 3 28<| .nil)) <|oS 29 27<| .nil))) (.reg false <| oC 30 .add 15 1<| oM 15 30<| .nil)))))))
 (.seq (.reg false <| oK 31 4 1<| oU 4 2 31<| .nil) .ret))))
theorem s_tx_Copy : CS 32 k_tx_Copy [.cellN 4 2] F.tx_Copy :=
  cs Tryz.func86 (by kernel_rfl) (by kernel_rfl)
noncomputable def k_slices_Clone_L_string_string : KC :=
(.seq (.reg false <| oR 2 (.move (.const (.slice none 0 0)))<| .nil) (.seq (.seq (.reg false <| oM 3 0<|
 oR 4 (.eqNil false .slice (t 3) (.const (.slice none 0 0)))<| .nil) (.cond (t 4) (.seq (.reg false <| oR 2 (.move (.const (.slice none 0 0)))<| .nil) .ret) .skip))
 (.seq (.reg false <| oR 5 (.buildSlice 9 0 [] [])<| oM 6 0<| oR 7 (.append 9 1 16 [(.string ⟨#[]⟩)] (t 5) (t 6))<| oM 2 7<| .nil) .ret)))
theorem s_slices_Clone_L_string_string : CS 8 k_slices_Clone_L_string_string [.tmp 2] F.slices_Clone_L_string_string :=
  cs Tryz.func89 (by kernel_rfl) (by kernel_rfl)
noncomputable def k_wire_Bare : KC :=
(.seq (.reg false <| oR 1 (.box 32 (t 0))<| oR 2 (.move (.const (.string ⟨#[]⟩)))<| oO 3 0<| .nil) (.seq (.seq (.reg false <| oK 5 4 1<| oR 6 (oa 136 5)<| oM 4 6<| .nil)
 (.seq (.reg false <| oM 7 4<| oC 8 .neq 7 0<| .nil) (.cond (t 8) (.seq (.reg false <| oM 9 4<| oR 2 (.move (.const (.string ⟨#[]⟩)))<| oM 3 9<| .nil) .ret) .skip)))
 (.seq (.reg false <| oK 10 4 1<| oR 11 (.call 137 [(t 10), (.const (.bool false))])<| oM 2 11<| oO 3 0<| .nil) .ret)))
theorem s_wire_Bare : CS 12 k_wire_Bare [.tmp 2, .tmp 3] F.wire_Bare :=
  cs Tryz.func94 (by kernel_rfl) (by kernel_rfl)
noncomputable def k_sha_Twice : KC :=
(.seq (.reg false <| oR 2 (.move (.const (.string ⟨#[]⟩)))<| .nil) (.seq (.reg false <| oM 3 0<| oR 4 (oa 138 3)<| oR 5 (oa 138 4)<| oM 2 5<| .nil) .ret))
theorem s_sha_Twice : CS 6 k_sha_Twice [.tmp 2] F.sha_Twice :=
  cs Tryz.func95 (by kernel_rfl) (by kernel_rfl)
noncomputable def k_graph_Graph_parents : KC :=
(.seq (.reg false <| oR 3 (.box 32 (t 1))<| oR 4 (.move (.const (.slice none 0 0)))<| .nil) (.seq (.reg false <| oR 5 (.move (.const (.slice none 0 0)))<| .nil)
 (.seq (.seq (.reg false <| oF 10 1 3<| oL 11 10<| oD 12 11<| oO 13 0<| .nil) (.block 0 (.loop (.seq (.reg false <| oB 14 .lss 13 12<| .nil)
 (.seq (.cond (t 14) .skip (.exit 0)) (.seq (.block 1 (.seq (.reg false <| oI 15 4 11 13<| oK 16 4 15<|
 oR 7 (.alloc 62 [(.string ⟨#[]⟩), (.int .u32 0), (.int .u32 0), (.slice none 0 0)])<| oU 4 7 16<| .nil) (.seq (.reg false <| oM 18 0<| oF 19 0 7<| oK 20 2 19<|
 oR 21 (ob 39 18 20)<| oM 17 21<| oX 22 0 17<| oX 23 1 17<| oR 8 (.alloc 87 [(.int .i64 0), (.string ⟨#[]⟩)])<| oU 2 8 22<| oM 9 23<| .nil) (.seq (.reg false <|
 oM 24 9<| .nil) (.cond (t 24) (.reg false <| oM 25 5<| oF 26 0 7<| oF 27 0 26<| oL 28 27<| oR 29 (.buildSlice 9 1 [(.string ⟨#[]⟩)] [(0, 1, (t 28))])<|
 oR 30 (.append 9 1 16 [(.string ⟨#[]⟩)] (t 25) (t 29))<| oM 5 30<| .nil) .skip))))) (.reg false <| oC 31 .add 13 1<| oM 13 31<| .nil))))))) (.seq (.reg false <| oM 32 5<|
 oM 4 32<| .nil) .ret))))
theorem s_graph_Graph_parents : CS 33 k_graph_Graph_parents [.tmp 4] F.graph_Graph_parents :=
  cs Tryz.func101 (by kernel_rfl) (by kernel_rfl)
noncomputable def k_graph_Graph_Above_1 : KC :=
(.seq (.reg false <| oR 2 (.box 57 (t 0))<| oR 3 (.move (.const (.slice none 0 0)))<| .nil) (.seq (.reg false <| oL 4 1<| oF 5 0 2<| oK 6 4 5<| oR 7 (ob 101 4 6)<|
 oM 3 7<| .nil) .ret))
theorem s_graph_Graph_Above_1 : CS 8 k_graph_Graph_Above_1 [.tmp 3] F.graph_Graph_Above_1 :=
  cs Tryz.func102 (by kernel_rfl) (by kernel_rfl)
noncomputable def k_graph_entry : KC :=
(.seq (.reg false <| oR 2 (.box 32 (t 0))<|
 oR 4 (.alloc 57 [(.int .u32 0), (.slice none 0 0), (.slice none 0 0), (.int .u32 0), (.string ⟨#[]⟩), (.int .i64 0), (.int .i64 0)])<| oO 5 0<| .nil) (.seq (.reg false <|
 oK 11 4 2<| oR 12 (oa 45 11)<| oM 10 12<| oX 13 0 10<| oX 14 1 10<| oM 6 13<| oM 7 14<| .nil) (.seq (.block 0 (.seq (.reg false <| oM 16 7<| oC 17 .neq 16 0<|
 oM 15 17<| .nil) (.cond (t 15) (.seq (.reg false <|
 oR 18 (.build [(.int .u32 0), (.slice none 0 0), (.slice none 0 0), (.int .u32 0), (.string ⟨#[]⟩), (.int .i64 0), (.int .i64 0)] [])<| oM 19 7<| oU 7 4 18<|
 oM 5 19<| .nil) .ret) (.seq (.reg false <| oK 21 4 2<| oR 22 (oa 139 21)<| oM 20 22<| .nil) (.cond (t 20) (.seq (.reg false <|
 oR 23 (.build [(.int .u32 0), (.slice none 0 0), (.slice none 0 0), (.int .u32 0), (.string ⟨#[]⟩), (.int .i64 0), (.int .i64 0)] [])<| oU 7 4 23<|
 oO 5 4<| .nil) .ret) (.seq (.reg false <| oM 25 1<| oR 26 (.pcall 59 Go.Proofs.YtbnhinpegbcbeaaGreat.qGood [(t 25)])<| oT 27 26<| oM 24 27<| .nil)
 (.cond (t 24) (.seq (.reg false <| oR 28 (.build [(.int .u32 0), (.slice none 0 0), (.slice none 0 0), (.int .u32 0), (.string ⟨#[]⟩), (.int .i64 0), (.int .i64 0)] [])<|
 oU 7 4 28<| oO 5 3<| .nil) .ret) .skip))))))) (.seq (.reg false <| oK 30 4 2<| oR 31 (oa 58 30)<| oM 29 31<| oX 32 0 29<| oX 33 1 29<| oM 8 32<| oM 9 33<| .nil)
 (.seq (.reg false <| oK 34 4 2<| oR 35 (oa 86 34)<| oM 36 6<| oM 37 1<| oM 38 8<|
 oR 39 (.build [(.int .u32 0), (.slice none 0 0), (.slice none 0 0), (.int .u32 0), (.string ⟨#[]⟩), (.int .i64 0), (.int .i64 0)] [(0, 4, (t 35)), (4, 1, (t 36)), (5, 1, (t 37)), (6, 1, (t 38))])<|
 oU 7 4 39<| oO 5 0<| .nil) .ret)))))
theorem s_graph_entry : CS 40 k_graph_entry [.cellN 7 4, .tmp 5] F.graph_entry :=
  cs Tryz.func103 (by kernel_rfl) (by kernel_rfl)
noncomputable def k_kedgeref07_ID : KC :=
(.seq (.reg false <| oR 1 (.box 32 (t 0))<| oR 2 (.move (.const (.string ⟨#[]⟩)))<| .nil) (.seq (.reg false <| oK 4 4 1<| oR 5 (.call 140 [(t 4), (.const (.bool true))])<|
 oM 3 5<| .nil) (.seq (.reg false <| oM 6 3<| oR 7 (oa 141 6)<| oM 2 7<| .nil) .ret)))
theorem s_kedgeref07_ID : CS 8 k_kedgeref07_ID [.tmp 2] F.kedgeref07_ID :=
  cs Tryz.func104 (by kernel_rfl) (by kernel_rfl)
noncomputable def k_kedgeref07_Size : KC :=
(.seq (.reg false <| oR 1 (.box 32 (t 0))<| oO 2 0<| .nil) (.seq (.reg false <| oK 4 4 1<| oR 5 (oa 142 4)<| oM 3 5<| .nil) (.seq (.seq (.reg false <| oM 6 3<|
 oC 7 .rem 6 4<| oC 8 .eql 7 0<| .nil) (.cond (t 8) (.seq (.reg false <| oM 9 3<| oC 10 .quo 9 4<| oM 2 10<| .nil) .ret) .skip)) (.seq (.reg false <| oM 11 3<|
 oC 12 .quo 11 4<| oC 13 .add 12 1<| oM 2 13<| .nil) .ret))))
theorem s_kedgeref07_Size : CS 14 k_kedgeref07_Size [.tmp 2] F.kedgeref07_Size :=
  cs Tryz.func105 (by kernel_rfl) (by kernel_rfl)
noncomputable def k_slices_IndexFunc_L_api_In_api_In : KC :=
(.seq (.reg false <| oO 4 0<| .nil) (.seq (.seq (.reg false <| oM 6 0<| oD 7 6<| oO 8 0<| .nil) (.block 0 (.loop (.seq (.reg false <| oB 9 .lss 8 7<| .nil)
 (.seq (.cond (t 9) .skip (.exit 0)) (.seq (.block 1 (.seq (.reg false <| oM 10 8<| oM 5 10<| .nil) (.seq (.reg false <| oM 11 1<| oM 12 0<| oM 13 5<| oI 14 4 12 13<|
 oK 15 4 14<| oR 16 (.callV (t 11) [(t 15)])<| .nil) (.cond (t 16) (.seq (.reg false <| oM 17 5<| oM 4 17<| .nil) .ret) .skip)))) (.reg false <| oC 18 .add 8 1<|
 oM 8 18<| .nil))))))) (.seq (.reg false <| oO 4 (-1)<| .nil) .ret)))
theorem s_slices_IndexFunc_L_api_In_api_In : CS 19 k_slices_IndexFunc_L_api_In_api_In [.tmp 4] F.slices_IndexFunc_L_api_In_api_In :=
  cs Tryz.func106 (by kernel_rfl) (by kernel_rfl)
noncomputable def k_kedgeref14_Hangs : KC :=
(.seq (.reg false <| oR 2 (.box 32 (t 0))<| oR 3 (.box 57 (t 1))<| oR 4 (.move (.const (.bool false)))<| .nil) (.seq (.seq (.reg false <| oO 5 0<| .nil)
 (.block 0 (.loop (.seq (.seq (.reg false <| oM 6 5<| oF 7 1 2<| oL 8 7<| oD 9 8<| oB 10 .lss 6 9<| .nil) (.cond (t 10) .skip (.exit 0)))
 (.seq (.block 1 (.seq (.reg true <| .join (oF 13 1 2<| oL 14 13<| oM 15 5<| oI 16 4 14 15<| oF 17 0 16<| oF 18 0 17<| oL 19 18<| oF 20 4 3<| oL 21 20<| oB 22 .eql 19 21<|
 oM 23 22<| oG 24 23 true (.fieldAddr 1 (t 2))<| oG 26 23 true (.move (t 5))<| oG 32 23 true (.fieldAddr 0 (t 3))<|
 oG 33 23 true (.fieldAddr 2 (t 32))<| .nil) <|oG 25 23 true (.load (t 24))<| oG 27 23 true (.indexAddr 4 (t 25) (t 26))<| oG 28 23 true (.fieldAddr 0 (t 27))<|
 oG 29 23 true (.fieldAddr 1 (t 28))<| oG 30 23 true (.load (t 29))<| oG 31 23 true (.conv .i64 (t 30))<| oG 34 23 true (.load (t 33))<| oG 35 23 true (.len false (t 34))<|
 oG 36 23 true (.bin .lss (t 31) (t 35))<| oR 37 (.pick (t 23) (t 36) (.const (.bool false)))<| .nil) (.cond (t 37) (.seq (.reg false <|
 oR 4 (.move (.const (.bool true)))<| .nil) .ret) .skip))) (.reg false <| oM 11 5<| oC 12 .add 11 1<| oM 5 12<| .nil)))))) (.seq (.reg false <|
 oR 4 (.move (.const (.bool false)))<| .nil) .ret)))
theorem s_kedgeref14_Hangs : CS 38 k_kedgeref14_Hangs [.tmp 4] F.kedgeref14_Hangs :=
  cs Tryz.func107 (by kernel_rfl) (by kernel_rfl)
noncomputable def k_ident_Weight : KC :=
(.seq (.reg false <| oR 1 (.box 32 (t 0))<| oO 2 0<| oO 3 0<| .nil) (.seq (.reg false <| oK 8 4 1<| oR 9 (oa 94 8)<| oM 7 9<| oX 10 0 7<| oX 11 1 7<| oM 4 10<|
 oM 5 11<| .nil) (.seq (.seq (.reg false <| oM 12 5<| oC 13 .neq 12 0<| .nil) (.cond (t 13) (.seq (.reg false <| oM 14 5<| oO 2 0<| oM 3 14<| .nil) .ret) .skip))
 (.seq (.reg false <| oK 16 4 1<| oR 17 (oa 143 16)<| oM 15 17<| oX 18 0 15<| oX 19 1 15<| oM 6 18<| oM 5 19<| .nil) (.seq (.reg false <| oM 20 4<|
 oR 21 (.len true (t 20))<| oR 22 (.bin .mul (oi 3) (t 21))<| oM 23 6<| oR 24 (.len true (t 23))<| oB 25 .add 22 24<| oM 26 5<| oM 2 25<| oM 3 26<| .nil) .ret)))))
theorem s_ident_Weight : CS 27 k_ident_Weight [.tmp 2, .tmp 3] F.ident_Weight :=
  cs Tryz.func108 (by kernel_rfl) (by kernel_rfl)
noncomputable def k_slices_IndexFunc_L_string_string : KC :=
(.seq (.reg false <| oO 4 0<| .nil) (.seq (.seq (.reg false <| oM 6 0<| oD 7 6<| oO 8 0<| .nil) (.block 0 (.loop (.seq (.reg false <| oB 9 .lss 8 7<| .nil)
 (.seq (.cond (t 9) .skip (.exit 0)) (.seq (.block 1 (.seq (.reg false <| oM 10 8<| oM 5 10<| .nil) (.seq (.reg false <| oM 11 1<| oM 12 0<| oM 13 5<| oI 14 1 12 13<|
 oL 15 14<| oR 16 (.callV (t 11) [(t 15)])<| .nil) (.cond (t 16) (.seq (.reg false <| oM 17 5<| oM 4 17<| .nil) .ret) .skip)))) (.reg false <| oC 18 .add 8 1<|
 oM 8 18<| .nil))))))) (.seq (.reg false <| oO 4 (-1)<| .nil) .ret)))
theorem s_slices_IndexFunc_L_string_string : CS 19 k_slices_IndexFunc_L_string_string [.tmp 4] F.slices_IndexFunc_L_string_string :=
  cs Tryz.func109 (by kernel_rfl) (by kernel_rfl)
noncomputable def k_replace_signals : KC :=
(.seq (.reg false <| oR 1 (.box 32 (t 0))<| oR 2 (.move (.const (.bool false)))<| .nil) (.seq (.reg false <| oF 3 1 1<| oL 4 3<| oR 5 (.call 54 [(t 4), (.func 144)])<|
 oM 2 5<| .nil) .ret))
theorem s_replace_signals : CS 6 k_replace_signals [.tmp 2] F.replace_signals :=
  cs Tryz.func110 (by kernel_rfl) (by kernel_rfl)
noncomputable def k_replace_replaceable_1 : KC :=
(.seq (.reg false <| oR 3 (.move (.const (.bool false)))<| .nil) (.seq (.reg false <| oL 7 1<| oM 8 0<| oR 9 (ob 35 7 8)<| oM 6 9<| oX 10 0 6<| oX 11 1 6<|
 oR 4 (.alloc 57 [(.int .u32 0), (.slice none 0 0), (.slice none 0 0), (.int .u32 0), (.string ⟨#[]⟩), (.int .i64 0), (.int .i64 0)])<| oU 7 4 10<| oM 5 11<| .nil)
 (.seq (.reg false <| oF 12 0 4<| oK 13 4 12<| oR 14 (oa 110 13)<| oM 3 14<| .nil) .ret)))
theorem s_replace_replaceable_1 : CS 15 k_replace_replaceable_1 [.tmp 3] F.replace_replaceable_1 :=
  cs Tryz.func111 (by kernel_rfl) (by kernel_rfl)
noncomputable def k_graph_Graph_Spender : KC :=
(.seq (.reg false <| oR 3 (.box 60 (t 1))<| oR 4 (.move (.const (.string ⟨#[]⟩)))<| oR 5 (.move (.const (.bool false)))<| .nil) (.seq (.seq (.reg false <| oM 8 0<|
 oR 9 (.eqNil false .pointer (t 8) (.const (.pointer none)))<| .nil) (.cond (t 9) (.seq (.reg false <| oR 4 (.move (.const (.string ⟨#[]⟩)))<|
 oR 5 (.move (.const (.bool false)))<| .nil) .ret) .skip)) (.seq (.reg true <| .join (oM 11 0<| oR 12 (.nilCheck (t 11))<| oF 13 2 12<| oL 14 13<|
 oK 15 2 3<| .nil) <|oR 16 (.lookup true [.s, .i] (.string ⟨#[]⟩) true (t 14) (t 15))<| oM 10 16<| oX 17 0 10<| oX 18 1 10<| oM 6 17<| oM 7 18<| .nil) (.seq (.reg false <|
 oM 19 6<| oM 20 7<| oM 4 19<| oM 5 20<| .nil) .ret))))
theorem s_graph_Graph_Spender : CS 21 k_graph_Graph_Spender [.tmp 4, .tmp 5] F.graph_Graph_Spender :=
  cs Tryz.func112 (by kernel_rfl) (by kernel_rfl)
noncomputable def k_kedgeref16_signals : KC :=
(.seq (.reg false <| oR 1 (.box 32 (t 0))<| oR 2 (.move (.const (.bool false)))<| .nil) (.seq (.seq (.reg false <| oO 3 0<| .nil)
 (.block 0 (.loop (.seq (.seq (.reg false <| oM 4 3<| oF 5 1 1<| oL 6 5<| oD 7 6<| oB 8 .lss 4 7<| .nil) (.cond (t 8) .skip (.exit 0))) (.seq (.block 1 (.seq (.reg false <|
 oF 11 1 1<| oL 12 11<| oM 13 3<| oI 14 4 12 13<| oF 15 2 14<| oL 16 15<| oR 17 (.bin .lss (t 16) (.const (.int .u32 4294967294)))<| .nil)
 (.cond (t 17) (.seq (.reg false <| oR 2 (.move (.const (.bool true)))<| .nil) .ret) .skip))) (.reg false <| oM 9 3<| oC 10 .add 9 1<| oM 3 10<| .nil))))))
 (.seq (.reg false <| oR 2 (.move (.const (.bool false)))<| .nil) .ret)))
theorem s_kedgeref16_signals : CS 18 k_kedgeref16_signals [.tmp 2] F.kedgeref16_signals :=
  cs Tryz.func113 (by kernel_rfl) (by kernel_rfl)
end Go.Proofs.YtbnhinpegbcbeaaGreat
end
