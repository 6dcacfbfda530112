/- The resolved code of functions, printed by program. -/
import Derived.Test.YtbnhinpegbcbeaaGreatG12
set_option linter.unusedVariables false
set_option linter.unusedSimpArgs false
section
namespace Go.Proofs.YtbnhinpegbcbeaaGreat
open Go Go.K
noncomputable def k_kedgeref14_Above : KC :=
(.seq (.reg false <| oR 3 (.box 32 (t 1))<| oR 4 (.move (.const (.slice none 0 0)))<| .nil) (.seq (.reg false <| oM 10 0<| oD 11 10<|
 oR 12 (.makeSlice 4 1 1 [(.bool false)] (t 11) (t 11))<| oM 5 12<| .nil) (.seq (.seq (.reg false <| oO 6 0<| .nil) (.block 0 (.loop (.seq (.seq (.reg false <| oM 13 6<|
 oM 14 0<| oD 15 14<| oB 16 .leq 13 15<| .nil) (.cond (t 16) .skip (.exit 0))) (.seq (.block 1 (.seq (.reg false <| oO 7 0<| .nil)
 (.block 2 (.loop (.seq (.seq (.reg false <| oM 19 7<| oM 20 0<| oD 21 20<| oB 22 .lss 19 21<| .nil) (.cond (t 22) .skip (.exit 2)))
 (.seq (.block 3 (.seq (.reg true <| .join (oK 25 4 3<| oM 26 0<| oM 27 7<| oI 28 7 26 27<| oK 29 7 28<| .nil) <|oR 30 (ob 107 25 29)<| oM 8 30<| .nil) (.seq (.reg false <|
 oM 31 5<| oM 32 7<| oM 33 5<| oM 34 7<| oI 35 1 33 34<| oL 36 35<| oM 37 36<| oG 38 37 false (.move (t 8))<| oR 39 (.pick (t 37) (.const (.bool true)) (t 38))<|
 oI 40 1 31 32<| oS 40 39<| .nil) (.seq (.reg false <| oO 9 0<| .nil) (.block 4 (.loop (.seq (.seq (.reg false <| oM 41 9<| oM 42 0<| oD 43 42<| oB 44 .lss 41 43<| .nil)
 (.cond (t 44) .skip (.exit 4))) (.seq (.block 5 (.seq (.reg true <| .join (oM 47 0<| oM 48 9<| oI 49 7 47 48<| oF 50 0 49<| oK 51 4 50<| oM 52 0<| oM 53 7<|
 oI 54 7 52 53<| oK 55 7 54<| .nil) <|oR 56 (ob 107 51 55)<| oM 8 56<| .nil) (.reg false <| oM 57 5<| oM 58 7<| oM 59 5<| oM 60 7<| oI 61 1 59 60<| oL 62 61<| oM 63 62<|
 oG 64 63 false (.move (t 5))<| oG 65 63 false (.move (t 9))<| oG 66 63 false (.indexAddr 1 (t 64) (t 65))<| oG 67 63 false (.load (t 66))<| oG 68 63 false (.move (t 67))<|
 oG 69 68 true (.move (t 8))<| oG 70 63 false (.pick (t 68) (t 69) (.const (.bool false)))<| oR 71 (.pick (t 63) (.const (.bool true)) (t 70))<| oI 72 1 57 58<|
 oS 72 71<| .nil))) (.reg false <| oM 45 9<| oC 46 .add 45 1<| oM 9 46<| .nil))))))))) (.reg false <| oM 23 7<| oC 24 .add 23 1<| oM 7 24<| .nil))))))) (.reg false <|
 oM 17 6<| oC 18 .add 17 1<| oM 6 18<| .nil)))))) (.seq (.reg false <| oM 73 5<| oM 4 73<| .nil) .ret))))
theorem s_kedgeref14_Above : CS 74 k_kedgeref14_Above [.tmp 4] F.kedgeref14_Above :=
  cs Tryz.func114 (by kernel_rfl) (by kernel_rfl)
noncomputable def k_kedgeref14_Sum : KC :=
(.seq (.reg false <| oO 4 0<| oO 5 0<| .nil) (.seq (.reg false <| oO 6 0<| .nil) (.seq (.reg false <| oO 7 0<| .nil) (.seq (.seq (.reg false <| oO 8 0<| .nil)
 (.block 0 (.loop (.seq (.seq (.reg false <| oM 9 8<| oM 10 0<| oD 11 10<| oB 12 .lss 9 11<| .nil) (.cond (t 12) .skip (.exit 0))) (.seq (.block 1 (.seq (.reg false <|
 oM 15 1<| oM 16 8<| oI 17 1 15 16<| oL 18 17<| .nil) (.cond (t 18) (.seq (.reg false <| oM 19 6<| oM 20 0<| oM 21 8<| oI 22 7 20 21<| oF 23 5 22<| oL 24 23<|
 oB 25 .add 19 24<| oM 6 25<| .nil) (.reg false <| oM 26 7<| oM 27 0<| oM 28 8<| oI 29 7 27 28<| oF 30 6 29<| oL 31 30<| oB 32 .add 26 31<| oM 7 32<| .nil)) .skip)))
 (.reg false <| oM 13 8<| oC 14 .add 13 1<| oM 8 14<| .nil)))))) (.seq (.reg false <| oM 33 6<| oM 34 7<| oM 4 33<| oM 5 34<| .nil) .ret)))))
theorem s_kedgeref14_Sum : CS 35 k_kedgeref14_Sum [.tmp 4, .tmp 5] F.kedgeref14_Sum :=
  cs Tryz.func115 (by kernel_rfl) (by kernel_rfl)
noncomputable def k_kedgeref01_Fee : KC :=
(.seq (.reg false <| oO 4 0<| oO 5 0<| .nil) (.seq (.seq (.reg false <| oM 8 0<| oC 9 .lss 8 0<| oM 10 9<| oG 11 10 false (.move (t 0))<|
 oG 12 10 false (.bin .gtr (t 11) (oi 100000000))<| oR 13 (.pick (t 10) (.const (.bool true)) (t 12))<| oM 14 13<| oG 15 14 false (.move (t 1))<|
 oG 16 14 false (.bin .lss (t 15) (oi 0))<| oR 17 (.pick (t 14) (.const (.bool true)) (t 16))<| oM 18 17<| oG 19 18 false (.move (t 1))<|
 oG 20 18 false (.bin .gtr (t 19) (oi 1000000))<| oR 21 (.pick (t 18) (.const (.bool true)) (t 20))<| .nil) (.cond (t 21) (.seq (.reg false <| oO 4 0<|
 oO 5 3<| .nil) .ret) .skip)) (.seq (.reg false <| oM 22 0<| oM 23 1<| oB 24 .mul 22 23<| oM 6 24<| .nil) (.seq (.reg false <| oM 25 6<| oC 26 .quo 25 1000<|
 oM 7 26<| .nil) (.seq (.seq (.reg false <| oM 27 7<| oC 28 .mul 27 1000<| oM 29 6<| oB 30 .lss 28 29<| .nil) (.cond (t 30) (.reg false <| oM 31 7<| oC 32 .add 31 1<|
 oM 7 32<| .nil) .skip)) (.seq (.reg false <| oM 33 7<| oM 4 33<| oO 5 0<| .nil) .ret))))))
theorem s_kedgeref01_Fee : CS 34 k_kedgeref01_Fee [.tmp 4, .tmp 5] F.kedgeref01_Fee :=
  cs Tryz.func116 (by kernel_rfl) (by kernel_rfl)
noncomputable def k_kedgeref01_Compare : KC :=
(.seq (.reg false <| oO 8 0<| .nil) (.seq (.reg false <| oM 15 0<| oR 16 (.pcall 64 Go.Proofs.YtbnhinpegbcbeaaGreat.qGood [(t 15)])<| oM 9 16<| .nil) (.seq (.reg false <|
 oM 17 2<| oR 18 (.pcall 64 Go.Proofs.YtbnhinpegbcbeaaGreat.qGood [(t 17)])<| oM 10 18<| .nil) (.seq (.seq (.reg false <| oM 19 9<| oT 20 19<| oM 21 20<|
 oG 22 21 false (.move (t 10))<| oG 23 21 false (.not (t 22))<| oR 24 (.pick (t 21) (.const (.bool true)) (t 23))<| oM 25 24<| oG 26 25 false (.move (t 1))<|
 oG 27 25 false (.bin .lss (t 26) (oi 1))<| oR 28 (.pick (t 25) (.const (.bool true)) (t 27))<| oM 29 28<| oG 30 29 false (.move (t 3))<|
 oG 31 29 false (.bin .lss (t 30) (oi 1))<| oR 32 (.pick (t 29) (.const (.bool true)) (t 31))<| oM 33 32<| oG 34 33 false (.move (t 1))<|
 oG 35 33 false (.bin .gtr (t 34) (oi 1000000))<| oR 36 (.pick (t 33) (.const (.bool true)) (t 35))<| oM 37 36<| oG 38 37 false (.move (t 3))<|
 oG 39 37 false (.bin .gtr (t 38) (oi 1000000))<| oR 40 (.pick (t 37) (.const (.bool true)) (t 39))<| .nil) (.cond (t 40) (.seq (.reg false <| oO 8 0<| .nil) .ret) .skip))
 (.seq (.reg false <| oM 42 0<| oM 43 3<| oR 44 (ob 145 42 43)<| oM 41 44<| oX 45 0 41<| oX 46 1 41<| oM 11 45<| oM 12 46<| .nil) (.seq (.reg false <| oM 48 2<| oM 49 1<|
 oR 50 (ob 145 48 49)<| oM 47 50<| oX 51 0 47<| oX 52 1 47<| oM 13 51<| oM 14 52<| .nil) (.seq (.seq (.reg false <| oM 53 11<| oM 54 13<| oB 55 .lss 53 54<| oM 56 55<|
 oG 57 56 false (.move (t 11))<| oG 58 56 false (.move (t 13))<| oG 59 56 false (.bin .eql (t 57) (t 58))<| oG 60 56 false (.move (t 59))<| oG 61 60 true (.move (t 12))<|
 oG 62 60 true (.move (t 14))<| oG 63 60 true (.bin .lss (t 61) (t 62))<| oG 64 56 false (.pick (t 60) (t 63) (.const (.bool false)))<|
 oR 65 (.pick (t 56) (.const (.bool true)) (t 64))<| .nil) (.cond (t 65) (.seq (.reg false <| oO 8 (-1)<| .nil) .ret) .skip)) (.seq (.seq (.reg false <| oM 66 11<|
 oM 67 13<| oB 68 .gtr 66 67<| oM 69 68<| oG 70 69 false (.move (t 12))<| oG 71 69 false (.move (t 14))<| oG 72 69 false (.bin .gtr (t 70) (t 71))<|
 oR 73 (.pick (t 69) (.const (.bool true)) (t 72))<| .nil) (.cond (t 73) (.seq (.reg false <| oO 8 1<| .nil) .ret) .skip)) (.seq (.reg false <| oO 8 0<| .nil) .ret)))))))))
theorem s_kedgeref01_Compare : CS 74 k_kedgeref01_Compare [.tmp 8] F.kedgeref01_Compare :=
  cs Tryz.func117 (by kernel_rfl) (by kernel_rfl)
noncomputable def k_kedgeref01_Sum : KC :=
(.seq (.reg false <| oO 2 0<| oO 3 0<| .nil) (.seq (.reg false <| oO 4 0<| .nil) (.seq (.seq (.reg false <| oO 5 0<| .nil) (.block 0 (.loop (.seq (.seq (.reg false <|
 oM 7 5<| oM 8 0<| oD 9 8<| oB 10 .lss 7 9<| .nil) (.cond (t 10) .skip (.exit 0))) (.seq (.block 1 (.seq (.reg false <| oM 13 0<| oM 14 5<| oI 15 1 13 14<| oL 16 15<|
 oR 17 (.pcall 64 Go.Proofs.YtbnhinpegbcbeaaGreat.qGood [(t 16)])<| oM 6 17<| .nil) (.seq (.seq (.reg false <| oM 18 6<| oT 19 18<| .nil) (.cond (t 19) (.seq (.reg false <|
 oO 2 0<| oO 3 3<| .nil) .ret) .skip)) (.seq (.reg false <| oM 20 4<| oM 21 0<| oM 22 5<| oI 23 1 21 22<| oL 24 23<| oB 25 .add 20 24<| oM 4 25<| .nil) (.seq (.reg false <|
 oM 26 4<| oR 27 (.pcall 64 Go.Proofs.YtbnhinpegbcbeaaGreat.qGood [(t 26)])<| oM 6 27<| .nil) (.seq (.reg false <| oM 28 6<| oT 29 28<| .nil)
 (.cond (t 29) (.seq (.reg false <| oO 2 0<| oO 3 3<| .nil) .ret) .skip))))))) (.reg false <| oM 11 5<| oC 12 .add 11 1<| oM 5 12<| .nil)))))) (.seq (.reg false <|
 oM 30 4<| oM 2 30<| oO 3 0<| .nil) .ret))))
theorem s_kedgeref01_Sum : CS 31 k_kedgeref01_Sum [.tmp 2, .tmp 3] F.kedgeref01_Sum :=
  cs Tryz.func118 (by kernel_rfl) (by kernel_rfl)
noncomputable def k_math_bits_Div64 : KC :=
(.seq (.reg false <| oR 6 (.move (.const (.int .u64 0)))<| oR 7 (.move (.const (.int .u64 0)))<| .nil) (.seq (.seq (.reg false <| oM 19 2<|
 oR 20 (.bin .eql (t 19) (.const (.int .u64 0)))<| .nil) (.cond (t 20) (.reg false <| oR 21 (.load (.global 0))<| oQ (.dead)<| .nil) .skip)) (.seq (.seq (.reg false <|
 oM 22 2<| oM 23 0<| oB 24 .leq 22 23<| .nil) (.cond (t 24) (.reg false <| oR 25 (.load (.global 1))<| oQ (.dead)<| .nil) .skip)) (.seq (.seq (.reg false <| oM 26 0<|
 oR 27 (.bin .eql (t 26) (.const (.int .u64 0)))<| .nil) (.cond (t 27) (.seq (.reg true <| oM 28 1<| oM 29 2<| oB 30 .quo 28 29<| oM 31 1<| oM 32 2<| oB 33 .rem 31 32<|
 oM 6 30<| oM 7 33<| .nil) .ret) .skip)) (.seq (.reg false <| oM 34 2<| oR 35 (oa 146 34)<| oV 36 .u64 35<| oM 8 36<| .nil) (.seq (.reg false <| oM 37 2<| oM 38 8<|
 oB 39 .shl 37 38<| oM 2 39<| .nil) (.seq (.reg false <| oM 40 2<| oR 41 (.bin .shr (t 40) (.const (.int .u64 32)))<| oM 9 41<| .nil) (.seq (.reg false <| oM 42 2<|
 oR 43 (.bin .and (t 42) (.const (.int .u64 4294967295)))<| oM 10 43<| .nil) (.seq (.reg false <| oM 44 0<| oM 45 8<| oB 46 .shl 44 45<| oM 47 1<| oM 48 8<|
 oR 49 (.bin .sub (.const (.int .u64 64)) (t 48))<| oB 50 .shr 47 49<| oB 51 .or 46 50<| oM 11 51<| .nil) (.seq (.reg false <| oM 52 1<| oM 53 8<| oB 54 .shl 52 53<|
 oM 12 54<| .nil) (.seq (.reg false <| oM 55 12<| oR 56 (.bin .shr (t 55) (.const (.int .u64 32)))<| oM 13 56<| .nil) (.seq (.reg false <| oM 57 12<|
 oR 58 (.bin .and (t 57) (.const (.int .u64 4294967295)))<| oM 14 58<| .nil) (.seq (.reg false <| oM 59 11<| oM 60 9<| oB 61 .quo 59 60<| oM 15 61<| .nil)
 (.seq (.reg false <| oM 62 11<| oM 63 15<| oM 64 9<| oB 65 .mul 63 64<| oB 66 .sub 62 65<| oM 16 66<| .nil) (.seq (.block 0 (.loop (.seq (.seq (.reg false <| oM 67 15<|
 oR 68 (.bin .geq (t 67) (.const (.int .u64 4294967296)))<| oM 69 68<| oG 70 69 false (.move (t 15))<| oG 71 69 false (.move (t 10))<|
 oG 72 69 false (.bin .mul (t 70) (t 71))<| oG 73 69 false (.move (t 16))<| oG 74 69 false (.bin .mul (.const (.int .u64 4294967296)) (t 73))<|
 oG 75 69 false (.move (t 13))<| oG 76 69 false (.bin .add (t 74) (t 75))<| oG 77 69 false (.bin .gtr (t 72) (t 76))<|
 oR 78 (.pick (t 69) (.const (.bool true)) (t 77))<| .nil) (.cond (t 78) .skip (.exit 0))) (.block 1 (.seq (.reg false <| oM 79 15<|
 oR 80 (.bin .sub (t 79) (.const (.int .u64 1)))<| oM 15 80<| .nil) (.seq (.reg false <| oM 81 16<| oM 82 9<| oB 83 .add 81 82<| oM 16 83<| .nil) (.seq (.reg false <|
 oM 84 16<| oR 85 (.bin .geq (t 84) (.const (.int .u64 4294967296)))<| .nil) (.cond (t 85) (.exit 0) .skip)))))))) (.seq (.reg false <| oM 86 11<|
 oR 87 (.bin .mul (t 86) (.const (.int .u64 4294967296)))<| oM 88 13<| oB 89 .add 87 88<| oM 90 15<| oM 91 2<| oB 92 .mul 90 91<| oB 93 .sub 89 92<| oM 17 93<| .nil)
 (.seq (.reg false <| oM 94 17<| oM 95 9<| oB 96 .quo 94 95<| oM 18 96<| .nil) (.seq (.reg false <| oM 97 17<| oM 98 18<| oM 99 9<| oB 100 .mul 98 99<| oB 101 .sub 97 100<|
 oM 16 101<| .nil) (.seq (.block 2 (.loop (.seq (.seq (.reg false <| oM 102 18<| oR 103 (.bin .geq (t 102) (.const (.int .u64 4294967296)))<| oM 104 103<|
 oG 105 104 false (.move (t 18))<| oG 106 104 false (.move (t 10))<| oG 107 104 false (.bin .mul (t 105) (t 106))<| oG 108 104 false (.move (t 16))<|
 oG 109 104 false (.bin .mul (.const (.int .u64 4294967296)) (t 108))<| oG 110 104 false (.move (t 14))<| oG 111 104 false (.bin .add (t 109) (t 110))<|
 oG 112 104 false (.bin .gtr (t 107) (t 111))<| oR 113 (.pick (t 104) (.const (.bool true)) (t 112))<| .nil) (.cond (t 113) .skip (.exit 2))) (.block 3 (.seq (.reg false <|
 oM 114 18<| oR 115 (.bin .sub (t 114) (.const (.int .u64 1)))<| oM 18 115<| .nil) (.seq (.reg false <| oM 116 16<| oM 117 9<| oB 118 .add 116 117<| oM 16 118<| .nil)
 (.seq (.reg false <| oM 119 16<| oR 120 (.bin .geq (t 119) (.const (.int .u64 4294967296)))<| .nil) (.cond (t 120) (.exit 2) .skip)))))))) (.seq (.reg false <| oM 121 15<|
 oR 122 (.bin .mul (t 121) (.const (.int .u64 4294967296)))<| oM 123 18<| oB 124 .add 122 123<| oM 125 17<| oR 126 (.bin .mul (t 125) (.const (.int .u64 4294967296)))<|
 oM 127 14<| oB 128 .add 126 127<| oM 129 18<| oM 130 2<| oB 131 .mul 129 130<| oB 132 .sub 128 131<| oM 133 8<| oB 134 .shr 132 133<| oM 6 124<|
 oM 7 134<| .nil) .ret))))))))))))))))))))
theorem s_math_bits_Div64 : CS 135 k_math_bits_Div64 [.tmp 6, .tmp 7] F.math_bits_Div64 :=
  cs Tryz.func120 (by kernel_rfl) (by kernel_rfl)
noncomputable def k_slices_Concat_L_string_string : KC :=
(.seq (.reg false <| oR 2 (.move (.const (.slice none 0 0)))<| .nil) (.seq (.reg false <| oO 3 0<| .nil) (.seq (.seq (.reg false <| oM 9 0<| oD 10 9<| oO 11 0<| .nil)
 (.block 0 (.loop (.seq (.reg false <| oB 12 .lss 11 10<| .nil) (.seq (.cond (t 12) .skip (.exit 0)) (.seq (.block 1 (.seq (.reg false <| oI 13 1 9 11<| oL 14 13<|
 oM 5 14<| .nil) (.seq (.reg false <| oM 15 3<| oM 16 5<| oD 17 16<| oB 18 .add 15 17<| oM 3 18<| .nil) (.seq (.reg false <| oM 19 3<| oC 20 .lss 19 0<| .nil)
 (.cond (t 20) (.reg false <| oR 21 (.iface 9 (.const (.string ⟨#[108, 101, 110, 32, 111, 117, 116, 32, 111, 102, 32, 114, 97, 110, 103, 101]⟩)))<|
 oQ (.dead)<| .nil) .skip))))) (.reg false <| oC 22 .add 11 1<| oM 11 22<| .nil))))))) (.seq (.reg false <| oM 23 3<|
 oR 24 (.call 147 [(.const (.slice none 0 0)), (t 23)])<| oM 6 24<| .nil) (.seq (.seq (.reg false <| oM 25 0<| oD 26 25<| oO 27 0<| .nil)
 (.block 2 (.loop (.seq (.reg false <| oB 28 .lss 27 26<| .nil) (.seq (.cond (t 28) .skip (.exit 2)) (.seq (.block 3 (.seq (.reg false <| oI 29 1 25 27<| oL 30 29<|
 oM 8 30<| .nil) (.reg false <| oM 31 6<| oM 32 8<| oR 33 (.append 9 1 16 [(.string ⟨#[]⟩)] (t 31) (t 32))<| oM 6 33<| .nil))) (.reg false <| oC 34 .add 27 1<|
 oM 27 34<| .nil))))))) (.seq (.reg false <| oM 35 6<| oM 2 35<| .nil) .ret))))))
theorem s_slices_Concat_L_string_string : CS 36 k_slices_Concat_L_string_string [.tmp 2] F.slices_Concat_L_string_string :=
  cs Tryz.func121 (by kernel_rfl) (by kernel_rfl)
noncomputable def k_graph_Graph_reach_1 : KC :=
(.seq (.reg false <| oR 3 (.move (.const (.bool false)))<| .nil) (.seq (.reg false <| oL 4 1<| oM 5 0<| oR 6 (.lookup false [.s] (.int .i64 0) false (t 4) (t 5))<|
 oC 7 .eql 6 0<| oM 3 7<| .nil) .ret))
theorem s_graph_Graph_reach_1 : CS 8 k_graph_Graph_reach_1 [.tmp 3] F.graph_Graph_reach_1 :=
  cs Tryz.func123 (by kernel_rfl) (by kernel_rfl)
noncomputable def k_amount_Add : KC :=
(.seq (.reg false <| oO 4 0<| oO 5 0<| .nil) (.seq (.seq (.reg false <| oM 6 0<| oR 7 (.pcall 59 Go.Proofs.YtbnhinpegbcbeaaGreat.qGood [(t 6)])<| oT 8 7<| oM 9 8<|
 oG 10 9 false (.move (t 1))<| oG 11 9 false (.pcall 59 Go.Proofs.YtbnhinpegbcbeaaGreat.qGood [(t 10)])<| oG 12 9 false (.not (t 11))<|
 oR 13 (.pick (t 9) (.const (.bool true)) (t 12))<| oM 14 13<| oG 15 14 false (.move (t 0))<| oG 16 14 false (.move (t 1))<| oG 17 14 false (.bin .add (t 15) (t 16))<|
 oG 18 14 false (.pcall 59 Go.Proofs.YtbnhinpegbcbeaaGreat.qGood [(t 17)])<| oG 19 14 false (.not (t 18))<| oR 20 (.pick (t 14) (.const (.bool true)) (t 19))<| .nil)
 (.cond (t 20) (.seq (.reg false <| oO 4 0<| oO 5 3<| .nil) .ret) .skip)) (.seq (.reg false <| oM 21 0<| oM 22 1<| oB 23 .add 21 22<| oM 4 23<| oO 5 0<| .nil) .ret)))
theorem s_amount_Add : CS 24 k_amount_Add [.tmp 4, .tmp 5] F.amount_Add :=
  cs Tryz.func127 (by kernel_rfl) (by kernel_rfl)
noncomputable def k_slices_Clone_L_api_In_api_In : KC :=
(.seq (.reg false <| oR 2 (.move (.const (.slice none 0 0)))<| .nil) (.seq (.seq (.reg false <| oM 3 0<|
 oR 4 (.eqNil false .slice (t 3) (.const (.slice none 0 0)))<| .nil) (.cond (t 4) (.seq (.reg false <| oR 2 (.move (.const (.slice none 0 0)))<| .nil) .ret) .skip))
 (.seq (.reg false <| oR 5 (.buildSlice 62 0 [] [])<| oM 6 0<| oR 7 (.append 62 4 56 [(.string ⟨#[]⟩), (.int .u32 0), (.int .u32 0), (.slice none 0 0)] (t 5) (t 6))<|
 oM 2 7<| .nil) .ret)))
theorem s_slices_Clone_L_api_In_api_In : CS 8 k_slices_Clone_L_api_In_api_In [.tmp 2] F.slices_Clone_L_api_In_api_In :=
  cs Tryz.func133 (by kernel_rfl) (by kernel_rfl)
noncomputable def k_slices_Clone_L_api_Out_api_Out : KC :=
(.seq (.reg false <| oR 2 (.move (.const (.slice none 0 0)))<| .nil) (.seq (.seq (.reg false <| oM 3 0<|
 oR 4 (.eqNil false .slice (t 3) (.const (.slice none 0 0)))<| .nil) (.cond (t 4) (.seq (.reg false <| oR 2 (.move (.const (.slice none 0 0)))<| .nil) .ret) .skip))
 (.seq (.reg false <| oR 5 (.buildSlice 87 0 [] [])<| oM 6 0<| oR 7 (.append 87 2 24 [(.int .i64 0), (.string ⟨#[]⟩)] (t 5) (t 6))<| oM 2 7<| .nil) .ret)))
theorem s_slices_Clone_L_api_Out_api_Out : CS 8 k_slices_Clone_L_api_Out_api_Out [.tmp 2] F.slices_Clone_L_api_Out_api_Out :=
  cs Tryz.func134 (by kernel_rfl) (by kernel_rfl)
noncomputable def k_tx_Check : KC :=
(.seq (.reg false <| oR 1 (.box 32 (t 0))<| oO 2 0<| .nil) (.seq (.reg false <| oK 6 4 1<| oR 7 (oa 151 6)<| oM 5 7<| oX 8 0 5<| oX 9 1 5<| oM 3 8<| oM 4 9<| .nil)
 (.seq (.block 0 (.seq (.reg false <| oK 11 4 1<| oR 12 (oa 156 11)<| oT 13 12<| oM 10 13<| .nil) (.cond (t 10) (.seq (.reg false <|
 oO 2 6<| .nil) .ret) (.seq (.reg false <| oK 15 4 1<| oR 16 (oa 157 15)<| oM 14 16<| .nil) (.cond (t 14) (.seq (.reg false <| oO 2 20<| .nil) .ret) (.seq (.reg false <|
 oK 18 4 1<| oR 19 (oa 158 18)<| oT 20 19<| oM 17 20<| .nil) (.cond (t 17) (.seq (.reg false <| oO 2 4<| .nil) .ret) (.seq (.reg false <| oK 22 4 1<| oR 23 (oa 159 22)<|
 oM 21 23<| .nil) (.cond (t 21) (.seq (.reg false <| oO 2 7<| .nil) .ret) .skip))))))))) (.seq (.reg false <| oM 24 4<| oM 2 24<| .nil) .ret))))
theorem s_tx_Check : CS 25 k_tx_Check [.tmp 2] F.tx_Check :=
  cs Tryz.func136 (by kernel_rfl) (by kernel_rfl)
noncomputable def k_wire_encode : KC :=
(.seq (.reg false <| oR 2 (.box 32 (t 0))<| oR 4 (.move (.const (.string ⟨#[]⟩)))<| .nil) (.seq (.reg false <|
 oR 5 (.alloc 235 [(.pointer none), (.slice none 0 0)])<| .nil) (.seq (.reg false <| oR 15 (.makeFunc (.func 160) [] [(t 5)])<| oM 6 15<| .nil) (.seq (.reg false <|
 oM 16 6<| oF 17 0 2<| oL 18 17<| oV 19 .u64 18<| oR 20 (.callV (t 16) [(t 19), (oi 4)])<| .nil) (.seq (.seq (.reg false <| oM 21 1<| .nil)
 (.cond (t 21) (.seq (.reg false <| oM 22 6<| oR 23 (.callV (t 22) [(.const (.int .u64 0)), (oi 1)])<| .nil) (.reg false <| oM 24 6<|
 oR 25 (.callV (t 24) [(.const (.int .u64 1)), (oi 1)])<| .nil)) .skip)) (.seq (.reg false <| oF 26 1 2<| oL 27 26<| oD 28 27<| oR 29 (oa 163 28)<|
 oR 30 (ob 161 5 29)<| .nil) (.seq (.seq (.reg false <| oF 31 1 2<| oL 32 31<| oD 33 32<| oO 34 0<| .nil) (.block 0 (.loop (.seq (.reg false <| oB 35 .lss 34 33<| .nil)
 (.seq (.cond (t 35) .skip (.exit 0)) (.seq (.block 1 (.seq (.reg false <| oI 36 4 32 34<| oK 37 4 36<|
 oR 8 (.alloc 62 [(.string ⟨#[]⟩), (.int .u32 0), (.int .u32 0), (.slice none 0 0)])<| oU 4 8 37<| .nil) (.seq (.reg false <| oF 38 0 8<| oF 39 0 38<| oL 40 39<|
 oR 41 (ob 161 5 40)<| .nil) (.seq (.reg false <| oM 42 6<| oF 43 0 8<| oF 44 1 43<| oL 45 44<| oV 46 .u64 45<| oR 47 (.callV (t 42) [(t 46), (oi 4)])<| .nil)
 (.seq (.reg false <| oR 48 (.call 163 [(oi 0)])<| oR 49 (ob 161 5 48)<| .nil) (.reg false <| oM 50 6<| oF 51 2 8<| oL 52 51<| oV 53 .u64 52<|
 oR 54 (.callV (t 50) [(t 53), (oi 4)])<| .nil)))))) (.reg false <| oC 55 .add 34 1<| oM 34 55<| .nil))))))) (.seq (.reg false <| oF 56 2 2<| oL 57 56<| oD 58 57<|
 oR 59 (oa 163 58)<| oR 60 (ob 161 5 59)<| .nil) (.seq (.seq (.reg false <| oF 61 2 2<| oL 62 61<| oD 63 62<| oO 64 0<| .nil) (.block 2 (.loop (.seq (.reg false <|
 oB 65 .lss 64 63<| .nil) (.seq (.cond (t 65) .skip (.exit 2)) (.seq (.block 3 (.seq (.reg false <| oI 66 2 62 64<| oK 67 2 66<|
 oR 10 (.alloc 87 [(.int .i64 0), (.string ⟨#[]⟩)])<| oU 2 10 67<| .nil) (.seq (.reg false <| oM 68 6<| oF 69 0 10<| oL 70 69<| oV 71 .u64 70<|
 oR 72 (.callV (t 68) [(t 71), (oi 8)])<| .nil) (.reg false <| oF 73 1 10<| oL 74 73<| oR 75 (oa 164 74)<| oR 76 (ob 161 5 75)<| .nil)))) (.reg false <| oC 77 .add 64 1<|
 oM 64 77<| .nil))))))) (.seq (.seq (.reg false <| oM 78 1<| .nil) (.cond (t 78) (.seq (.reg false <| oF 79 1 2<| oL 80 79<| oD 81 80<| oO 82 0<| .nil)
 (.block 4 (.loop (.seq (.reg false <| oB 83 .lss 82 81<| .nil) (.seq (.cond (t 83) .skip (.exit 4)) (.seq (.block 5 (.seq (.reg false <| oI 84 4 80 82<| oK 85 4 84<|
 oR 12 (.alloc 62 [(.string ⟨#[]⟩), (.int .u32 0), (.int .u32 0), (.slice none 0 0)])<| oU 4 12 85<| .nil) (.seq (.reg false <| oF 86 3 12<| oL 87 86<| oD 88 87<|
 oR 89 (oa 163 88)<| oR 90 (ob 161 5 89)<| .nil) (.seq (.reg false <| oF 91 3 12<| oL 92 91<| oD 93 92<| oO 94 0<| .nil) (.block 6 (.loop (.seq (.reg false <|
 oB 95 .lss 94 93<| .nil) (.seq (.cond (t 95) .skip (.exit 6)) (.seq (.block 7 (.seq (.reg false <| oI 96 1 92 94<| oL 97 96<| oM 14 97<| .nil) (.reg false <| oM 98 14<|
 oR 99 (oa 164 98)<| oR 100 (ob 161 5 99)<| .nil))) (.reg false <| oC 101 .add 94 1<| oM 94 101<| .nil)))))))))) (.reg false <| oC 102 .add 82 1<|
 oM 82 102<| .nil))))))) .skip)) (.seq (.reg false <| oM 103 6<| oF 104 3 2<| oL 105 104<| oV 106 .u64 105<| oR 107 (.callV (t 103) [(t 106), (oi 4)])<| .nil)
 (.seq (.reg false <| oR 108 (oa 165 5)<| oM 4 108<| .nil) .ret))))))))))))
theorem s_wire_encode : CS 109 k_wire_encode [.tmp 4] F.wire_encode :=
  cs Tryz.func137 (by kernel_rfl) (by kernel_rfl)
noncomputable def k_sha_Sum : KC :=
(.seq (.reg false <| oR 2 (.move (.const (.string ⟨#[]⟩)))<| .nil) (.seq (.reg false <| oR 12 (.call 166 [])<| oR 13 (.call 167 [])<|
 oR 3 (.alloc 240 [(.int .u32 0), (.int .u32 0), (.int .u32 0), (.int .u32 0), (.int .u32 0), (.int .u32 0), (.int .u32 0), (.int .u32 0)])<|
 oR 4 (.alloc 242 [(.int .u32 0), (.int .u32 0), (.int .u32 0), (.int .u32 0), (.int .u32 0), (.int .u32 0), (.int .u32 0), (.int .u32 0), (.int .u32 0), (.int .u32 0), (.int .u32 0), (.int .u32 0), (.int .u32 0), (.int .u32 0), (.int .u32 0), (.int .u32 0), (.int .u32 0), (.int .u32 0), (.int .u32 0), (.int .u32 0), (.int .u32 0), (.int .u32 0), (.int .u32 0), (.int .u32 0), (.int .u32 0), (.int .u32 0), (.int .u32 0), (.int .u32 0), (.int .u32 0), (.int .u32 0), (.int .u32 0), (.int .u32 0), (.int .u32 0), (.int .u32 0), (.int .u32 0), (.int .u32 0), (.int .u32 0), (.int .u32 0), (.int .u32 0), (.int .u32 0), (.int .u32 0), (.int .u32 0), (.int .u32 0), (.int .u32 0), (.int .u32 0), (.int .u32 0), (.int .u32 0), (.int .u32 0), (.int .u32 0), (.int .u32 0), (.int .u32 0), (.int .u32 0), (.int .u32 0), (.int .u32 0), (.int .u32 0), (.int .u32 0), (.int .u32 0), (.int .u32 0), (.int .u32 0), (.int .u32 0), (.int .u32 0), (.int .u32 0), (.int .u32 0), (.int .u32 0)])<|
 oU 8 3 12<| oU 64 4 13<| .nil) (.seq (.seq (.reg false <| oM 14 0<| oR 15 (oa 168 14)<| oM 0 15<| .nil) (.block 0 (.loop (.seq (.seq (.reg false <| oM 16 0<|
 oR 17 (.bin .neq (t 16) (.const (.string ⟨#[]⟩)))<| .nil) (.cond (t 17) .skip (.exit 0)))
 (.seq (.block 1 (.seq (.reg true <| .join (oM 20 0<| .both (oR 21 (oa 169 20)<| .both (oK 22 8 3<| .both (oR 5 (.alloc 242 [(.int .u32 0), (.int .u32 0), (.int .u32 0), (.int .u32 0), (.int .u32 0), (.int .u32 0), (.int .u32 0), (.int .u32 0), (.int .u32 0), (.int .u32 0), (.int .u32 0), (.int .u32 0), (.int .u32 0), (.int .u32 0), (.int .u32 0), (.int .u32 0), (.int .u32 0), (.int .u32 0), (.int .u32 0), (.int .u32 0), (.int .u32 0), (.int .u32 0), (.int .u32 0), (.int .u32 0), (.int .u32 0), (.int .u32 0), (.int .u32 0), (.int .u32 0), (.int .u32 0), (.int .u32 0), (.int .u32 0), (.int .u32 0), (.int .u32 0), (.int .u32 0), (.int .u32 0), (.int .u32 0), (.int .u32 0), (.int .u32 0), (.int .u32 0), (.int .u32 0), (.int .u32 0), (.int .u32 0), (.int .u32 0), (.int .u32 0), (.int .u32 0), (.int .u32 0), (.int .u32 0), (.int .u32 0), (.int .u32 0), (.int .u32 0), (.int .u32 0), (.int .u32 0), (.int .u32 0), (.int .u32 0), (.int .u32 0), (.int .u32 0), (.int .u32 0), (.int .u32 0), (.int .u32 0), (.int .u32 0), (.int .u32 0), (.int .u32 0), (.int .u32 0), (.int .u32 0)])<|
 oR 6 (.alloc 240 [(.int .u32 0), (.int .u32 0), (.int .u32 0), (.int .u32 0), (.int .u32 0), (.int .u32 0), (.int .u32 0), (.int .u32 0)])<| oU 64 5 21<| .nil)
 (oR 6 (.alloc 240 [(.int .u32 0), (.int .u32 0), (.int .u32 0), (.int .u32 0), (.int .u32 0), (.int .u32 0), (.int .u32 0), (.int .u32 0)])<|
 oR 5 (.alloc 242 [(.int .u32 0), (.int .u32 0), (.int .u32 0), (.int .u32 0), (.int .u32 0), (.int .u32 0), (.int .u32 0), (.int .u32 0), (.int .u32 0), (.int .u32 0), (.int .u32 0), (.int .u32 0), (.int .u32 0), (.int .u32 0), (.int .u32 0), (.int .u32 0), (.int .u32 0), (.int .u32 0), (.int .u32 0), (.int .u32 0), (.int .u32 0), (.int .u32 0), (.int .u32 0), (.int .u32 0), (.int .u32 0), (.int .u32 0), (.int .u32 0), (.int .u32 0), (.int .u32 0), (.int .u32 0), (.int .u32 0), (.int .u32 0), (.int .u32 0), (.int .u32 0), (.int .u32 0), (.int .u32 0), (.int .u32 0), (.int .u32 0), (.int .u32 0), (.int .u32 0), (.int .u32 0), (.int .u32 0), (.int .u32 0), (.int .u32 0), (.int .u32 0), (.int .u32 0), (.int .u32 0), (.int .u32 0), (.int .u32 0), (.int .u32 0), (.int .u32 0), (.int .u32 0), (.int .u32 0), (.int .u32 0), (.int .u32 0), (.int .u32 0), (.int .u32 0), (.int .u32 0), (.int .u32 0), (.int .u32 0), (.int .u32 0), (.int .u32 0), (.int .u32 0), (.int .u32 0)])<|
 oU 64 5 21<| .nil))
 (.both (oR 5 (.alloc 242 [(.int .u32 0), (.int .u32 0), (.int .u32 0), (.int .u32 0), (.int .u32 0), (.int .u32 0), (.int .u32 0), (.int .u32 0), (.int .u32 0), (.int .u32 0), (.int .u32 0), (.int .u32 0), (.int .u32 0), (.int .u32 0), (.int .u32 0), (.int .u32 0), (.int .u32 0), (.int .u32 0), (.int .u32 0), (.int .u32 0), (.int .u32 0), (.int .u32 0), (.int .u32 0), (.int .u32 0), (.int .u32 0), (.int .u32 0), (.int .u32 0), (.int .u32 0), (.int .u32 0), (.int .u32 0), (.int .u32 0), (.int .u32 0), (.int .u32 0), (.int .u32 0), (.int .u32 0), (.int .u32 0), (.int .u32 0), (.int .u32 0), (.int .u32 0), (.int .u32 0), (.int .u32 0), (.int .u32 0), (.int .u32 0), (.int .u32 0), (.int .u32 0), (.int .u32 0), (.int .u32 0), (.int .u32 0), (.int .u32 0), (.int .u32 0), (.int .u32 0), (.int .u32 0), (.int .u32 0), (.int .u32 0), (.int .u32 0), (.int .u32 0), (.int .u32 0), (.int .u32 0), (.int .u32 0), (.int .u32 0), (.int .u32 0), (.int .u32 0), (.int .u32 0), (.int .u32 0)])<| .both (oK 22 8 3<|
 oR 6 (.alloc 240 [(.int .u32 0), (.int .u32 0), (.int .u32 0), (.int .u32 0), (.int .u32 0), (.int .u32 0), (.int .u32 0), (.int .u32 0)])<| oU 64 5 21<| .nil)
 (oR 6 (.alloc 240 [(.int .u32 0), (.int .u32 0), (.int .u32 0), (.int .u32 0), (.int .u32 0), (.int .u32 0), (.int .u32 0), (.int .u32 0)])<| .both (oK 22 8 3<|
 oU 64 5 21<| .nil) (oU 64 5 21<| oK 22 8 3<| .nil)))
 (oR 6 (.alloc 240 [(.int .u32 0), (.int .u32 0), (.int .u32 0), (.int .u32 0), (.int .u32 0), (.int .u32 0), (.int .u32 0), (.int .u32 0)])<| .both (oK 22 8 3<|
 oR 5 (.alloc 242 [(.int .u32 0), (.int .u32 0), (.int .u32 0), (.int .u32 0), (.int .u32 0), (.int .u32 0), (.int .u32 0), (.int .u32 0), (.int .u32 0), (.int .u32 0), (.int .u32 0), (.int .u32 0), (.int .u32 0), (.int .u32 0), (.int .u32 0), (.int .u32 0), (.int .u32 0), (.int .u32 0), (.int .u32 0), (.int .u32 0), (.int .u32 0), (.int .u32 0), (.int .u32 0), (.int .u32 0), (.int .u32 0), (.int .u32 0), (.int .u32 0), (.int .u32 0), (.int .u32 0), (.int .u32 0), (.int .u32 0), (.int .u32 0), (.int .u32 0), (.int .u32 0), (.int .u32 0), (.int .u32 0), (.int .u32 0), (.int .u32 0), (.int .u32 0), (.int .u32 0), (.int .u32 0), (.int .u32 0), (.int .u32 0), (.int .u32 0), (.int .u32 0), (.int .u32 0), (.int .u32 0), (.int .u32 0), (.int .u32 0), (.int .u32 0), (.int .u32 0), (.int .u32 0), (.int .u32 0), (.int .u32 0), (.int .u32 0), (.int .u32 0), (.int .u32 0), (.int .u32 0), (.int .u32 0), (.int .u32 0), (.int .u32 0), (.int .u32 0), (.int .u32 0), (.int .u32 0)])<|
 oU 64 5 21<| .nil)
 (oR 5 (.alloc 242 [(.int .u32 0), (.int .u32 0), (.int .u32 0), (.int .u32 0), (.int .u32 0), (.int .u32 0), (.int .u32 0), (.int .u32 0), (.int .u32 0), (.int .u32 0), (.int .u32 0), (.int .u32 0), (.int .u32 0), (.int .u32 0), (.int .u32 0), (.int .u32 0), (.int .u32 0), (.int .u32 0), (.int .u32 0), (.int .u32 0), (.int .u32 0), (.int .u32 0), (.int .u32 0), (.int .u32 0), (.int .u32 0), (.int .u32 0), (.int .u32 0), (.int .u32 0), (.int .u32 0), (.int .u32 0), (.int .u32 0), (.int .u32 0), (.int .u32 0), (.int .u32 0), (.int .u32 0), (.int .u32 0), (.int .u32 0), (.int .u32 0), (.int .u32 0), (.int .u32 0), (.int .u32 0), (.int .u32 0), (.int .u32 0), (.int .u32 0), (.int .u32 0), (.int .u32 0), (.int .u32 0), (.int .u32 0), (.int .u32 0), (.int .u32 0), (.int .u32 0), (.int .u32 0), (.int .u32 0), (.int .u32 0), (.int .u32 0), (.int .u32 0), (.int .u32 0), (.int .u32 0), (.int .u32 0), (.int .u32 0), (.int .u32 0), (.int .u32 0), (.int .u32 0), (.int .u32 0)])<| .both (oK 22 8 3<|
 oU 64 5 21<| .nil) (oU 64 5 21<| oK 22 8 3<| .nil)))))
 (.both (oK 22 8 3<| .both (oR 21 (oa 169 20)<| .both (oR 5 (.alloc 242 [(.int .u32 0), (.int .u32 0), (.int .u32 0), (.int .u32 0), (.int .u32 0), (.int .u32 0), (.int .u32 0), (.int .u32 0), (.int .u32 0), (.int .u32 0), (.int .u32 0), (.int .u32 0), (.int .u32 0), (.int .u32 0), (.int .u32 0), (.int .u32 0), (.int .u32 0), (.int .u32 0), (.int .u32 0), (.int .u32 0), (.int .u32 0), (.int .u32 0), (.int .u32 0), (.int .u32 0), (.int .u32 0), (.int .u32 0), (.int .u32 0), (.int .u32 0), (.int .u32 0), (.int .u32 0), (.int .u32 0), (.int .u32 0), (.int .u32 0), (.int .u32 0), (.int .u32 0), (.int .u32 0), (.int .u32 0), (.int .u32 0), (.int .u32 0), (.int .u32 0), (.int .u32 0), (.int .u32 0), (.int .u32 0), (.int .u32 0), (.int .u32 0), (.int .u32 0), (.int .u32 0), (.int .u32 0), (.int .u32 0), (.int .u32 0), (.int .u32 0), (.int .u32 0), (.int .u32 0), (.int .u32 0), (.int .u32 0), (.int .u32 0), (.int .u32 0), (.int .u32 0), (.int .u32 0), (.int .u32 0), (.int .u32 0), (.int .u32 0), (.int .u32 0), (.int .u32 0)])<|
 oR 6 (.alloc 240 [(.int .u32 0), (.int .u32 0), (.int .u32 0), (.int .u32 0), (.int .u32 0), (.int .u32 0), (.int .u32 0), (.int .u32 0)])<| oU 64 5 21<| .nil)
 (oR 6 (.alloc 240 [(.int .u32 0), (.int .u32 0), (.int .u32 0), (.int .u32 0), (.int .u32 0), (.int .u32 0), (.int .u32 0), (.int .u32 0)])<|
 oR 5 (.alloc 242 [(.int .u32 0), (.int .u32 0), (.int .u32 0), (.int .u32 0), (.int .u32 0), (.int .u32 0), (.int .u32 0), (.int .u32 0), (.int .u32 0), (.int .u32 0), (.int .u32 0), (.int .u32 0), (.int .u32 0), (.int .u32 0), (.int .u32 0), (.int .u32 0), (.int .u32 0), (.int .u32 0), (.int .u32 0), (.int .u32 0), (.int .u32 0), (.int .u32 0), (.int .u32 0), (.int .u32 0), (.int .u32 0), (.int .u32 0), (.int .u32 0), (.int .u32 0), (.int .u32 0), (.int .u32 0), (.int .u32 0), (.int .u32 0), (.int .u32 0), (.int .u32 0), (.int .u32 0), (.int .u32 0), (.int .u32 0), (.int .u32 0), (.int .u32 0), (.int .u32 0), (.int .u32 0), (.int .u32 0), (.int .u32 0), (.int .u32 0), (.int .u32 0), (.int .u32 0), (.int .u32 0), (.int .u32 0), (.int .u32 0), (.int .u32 0), (.int .u32 0), (.int .u32 0), (.int .u32 0), (.int .u32 0), (.int .u32 0), (.int .u32 0), (.int .u32 0), (.int .u32 0), (.int .u32 0), (.int .u32 0), (.int .u32 0), (.int .u32 0), (.int .u32 0), (.int .u32 0)])<|
 oU 64 5 21<| .nil))
 (.both (oR 5 (.alloc 242 [(.int .u32 0), (.int .u32 0), (.int .u32 0), (.int .u32 0), (.int .u32 0), (.int .u32 0), (.int .u32 0), (.int .u32 0), (.int .u32 0), (.int .u32 0), (.int .u32 0), (.int .u32 0), (.int .u32 0), (.int .u32 0), (.int .u32 0), (.int .u32 0), (.int .u32 0), (.int .u32 0), (.int .u32 0), (.int .u32 0), (.int .u32 0), (.int .u32 0), (.int .u32 0), (.int .u32 0), (.int .u32 0), (.int .u32 0), (.int .u32 0), (.int .u32 0), (.int .u32 0), (.int .u32 0), (.int .u32 0), (.int .u32 0), (.int .u32 0), (.int .u32 0), (.int .u32 0), (.int .u32 0), (.int .u32 0), (.int .u32 0), (.int .u32 0), (.int .u32 0), (.int .u32 0), (.int .u32 0), (.int .u32 0), (.int .u32 0), (.int .u32 0), (.int .u32 0), (.int .u32 0), (.int .u32 0), (.int .u32 0), (.int .u32 0), (.int .u32 0), (.int .u32 0), (.int .u32 0), (.int .u32 0), (.int .u32 0), (.int .u32 0), (.int .u32 0), (.int .u32 0), (.int .u32 0), (.int .u32 0), (.int .u32 0), (.int .u32 0), (.int .u32 0), (.int .u32 0)])<| .both (oR 21 (oa 169 20)<|
 oR 6 (.alloc 240 [(.int .u32 0), (.int .u32 0), (.int .u32 0), (.int .u32 0), (.int .u32 0), (.int .u32 0), (.int .u32 0), (.int .u32 0)])<| oU 64 5 21<| .nil)
 (oR 6 (.alloc 240 [(.int .u32 0), (.int .u32 0), (.int .u32 0), (.int .u32 0), (.int .u32 0), (.int .u32 0), (.int .u32 0), (.int .u32 0)])<| oR 21 (oa 169 20)<|
 oU 64 5 21<| .nil))
 (oR 6 (.alloc 240 [(.int .u32 0), (.int .u32 0), (.int .u32 0), (.int .u32 0), (.int .u32 0), (.int .u32 0), (.int .u32 0), (.int .u32 0)])<| .both (oR 21 (oa 169 20)<|
 oR 5 (.alloc 242 [(.int .u32 0), (.int .u32 0), (.int .u32 0), (.int .u32 0), (.int .u32 0), (.int .u32 0), (.int .u32 0), (.int .u32 0), (.int .u32 0), (.int .u32 0), (.int .u32 0), (.int .u32 0), (.int .u32 0), (.int .u32 0), (.int .u32 0), (.int .u32 0), (.int .u32 0), (.int .u32 0), (.int .u32 0), (.int .u32 0), (.int .u32 0), (.int .u32 0), (.int .u32 0), (.int .u32 0), (.int .u32 0), (.int .u32 0), (.int .u32 0), (.int .u32 0), (.int .u32 0), (.int .u32 0), (.int .u32 0), (.int .u32 0), (.int .u32 0), (.int .u32 0), (.int .u32 0), (.int .u32 0), (.int .u32 0), (.int .u32 0), (.int .u32 0), (.int .u32 0), (.int .u32 0), (.int .u32 0), (.int .u32 0), (.int .u32 0), (.int .u32 0), (.int .u32 0), (.int .u32 0), (.int .u32 0), (.int .u32 0), (.int .u32 0), (.int .u32 0), (.int .u32 0), (.int .u32 0), (.int .u32 0), (.int .u32 0), (.int .u32 0), (.int .u32 0), (.int .u32 0), (.int .u32 0), (.int .u32 0), (.int .u32 0), (.int .u32 0), (.int .u32 0), (.int .u32 0)])<|
 oU 64 5 21<| .nil)
 (oR 5 (.alloc 242 [(.int .u32 0), (.int .u32 0), (.int .u32 0), (.int .u32 0), (.int .u32 0), (.int .u32 0), (.int .u32 0), (.int .u32 0), (.int .u32 0), (.int .u32 0), (.int .u32 0), (.int .u32 0), (.int .u32 0), (.int .u32 0), (.int .u32 0), (.int .u32 0), (.int .u32 0), (.int .u32 0), (.int .u32 0), (.int .u32 0), (.int .u32 0), (.int .u32 0), (.int .u32 0), (.int .u32 0), (.int .u32 0), (.int .u32 0), (.int .u32 0), (.int .u32 0), (.int .u32 0), (.int .u32 0), (.int .u32 0), (.int .u32 0), (.int .u32 0), (.int .u32 0), (.int .u32 0), (.int .u32 0), (.int .u32 0), (.int .u32 0), (.int .u32 0), (.int .u32 0), (.int .u32 0), (.int .u32 0), (.int .u32 0), (.int .u32 0), (.int .u32 0), (.int .u32 0), (.int .u32 0), (.int .u32 0), (.int .u32 0), (.int .u32 0), (.int .u32 0), (.int .u32 0), (.int .u32 0), (.int .u32 0), (.int .u32 0), (.int .u32 0), (.int .u32 0), (.int .u32 0), (.int .u32 0), (.int .u32 0), (.int .u32 0), (.int .u32 0), (.int .u32 0), (.int .u32 0)])<|
 oR 21 (oa 169 20)<| oU 64 5 21<| .nil))))
 (.both (oR 5 (.alloc 242 [(.int .u32 0), (.int .u32 0), (.int .u32 0), (.int .u32 0), (.int .u32 0), (.int .u32 0), (.int .u32 0), (.int .u32 0), (.int .u32 0), (.int .u32 0), (.int .u32 0), (.int .u32 0), (.int .u32 0), (.int .u32 0), (.int .u32 0), (.int .u32 0), (.int .u32 0), (.int .u32 0), (.int .u32 0), (.int .u32 0), (.int .u32 0), (.int .u32 0), (.int .u32 0), (.int .u32 0), (.int .u32 0), (.int .u32 0), (.int .u32 0), (.int .u32 0), (.int .u32 0), (.int .u32 0), (.int .u32 0), (.int .u32 0), (.int .u32 0), (.int .u32 0), (.int .u32 0), (.int .u32 0), (.int .u32 0), (.int .u32 0), (.int .u32 0), (.int .u32 0), (.int .u32 0), (.int .u32 0), (.int .u32 0), (.int .u32 0), (.int .u32 0), (.int .u32 0), (.int .u32 0), (.int .u32 0), (.int .u32 0), (.int .u32 0), (.int .u32 0), (.int .u32 0), (.int .u32 0), (.int .u32 0), (.int .u32 0), (.int .u32 0), (.int .u32 0), (.int .u32 0), (.int .u32 0), (.int .u32 0), (.int .u32 0), (.int .u32 0), (.int .u32 0), (.int .u32 0)])<| .both (oR 21 (oa 169 20)<| .both (oK 22 8 3<|
 oR 6 (.alloc 240 [(.int .u32 0), (.int .u32 0), (.int .u32 0), (.int .u32 0), (.int .u32 0), (.int .u32 0), (.int .u32 0), (.int .u32 0)])<| oU 64 5 21<| .nil)
 (oR 6 (.alloc 240 [(.int .u32 0), (.int .u32 0), (.int .u32 0), (.int .u32 0), (.int .u32 0), (.int .u32 0), (.int .u32 0), (.int .u32 0)])<| .both (oK 22 8 3<|
 oU 64 5 21<| .nil) (oU 64 5 21<| oK 22 8 3<| .nil))) (.both (oK 22 8 3<| .both (oR 21 (oa 169 20)<|
 oR 6 (.alloc 240 [(.int .u32 0), (.int .u32 0), (.int .u32 0), (.int .u32 0), (.int .u32 0), (.int .u32 0), (.int .u32 0), (.int .u32 0)])<| oU 64 5 21<| .nil)
 (oR 6 (.alloc 240 [(.int .u32 0), (.int .u32 0), (.int .u32 0), (.int .u32 0), (.int .u32 0), (.int .u32 0), (.int .u32 0), (.int .u32 0)])<| oR 21 (oa 169 20)<|
 oU 64 5 21<| .nil))
 (oR 6 (.alloc 240 [(.int .u32 0), (.int .u32 0), (.int .u32 0), (.int .u32 0), (.int .u32 0), (.int .u32 0), (.int .u32 0), (.int .u32 0)])<| .both (oR 21 (oa 169 20)<| .both (oK 22 8 3<|
 oU 64 5 21<| .nil) (oU 64 5 21<| oK 22 8 3<| .nil)) (oK 22 8 3<| oR 21 (oa 169 20)<| oU 64 5 21<| .nil))))
 (oR 6 (.alloc 240 [(.int .u32 0), (.int .u32 0), (.int .u32 0), (.int .u32 0), (.int .u32 0), (.int .u32 0), (.int .u32 0), (.int .u32 0)])<| .both (oR 21 (oa 169 20)<| .both (oK 22 8 3<|
 oR 5 (.alloc 242 [(.int .u32 0), (.int .u32 0), (.int .u32 0), (.int .u32 0), (.int .u32 0), (.int .u32 0), (.int .u32 0), (.int .u32 0), (.int .u32 0), (.int .u32 0), (.int .u32 0), (.int .u32 0), (.int .u32 0), (.int .u32 0), (.int .u32 0), (.int .u32 0), (.int .u32 0), (.int .u32 0), (.int .u32 0), (.int .u32 0), (.int .u32 0), (.int .u32 0), (.int .u32 0), (.int .u32 0), (.int .u32 0), (.int .u32 0), (.int .u32 0), (.int .u32 0), (.int .u32 0), (.int .u32 0), (.int .u32 0), (.int .u32 0), (.int .u32 0), (.int .u32 0), (.int .u32 0), (.int .u32 0), (.int .u32 0), (.int .u32 0), (.int .u32 0), (.int .u32 0), (.int .u32 0), (.int .u32 0), (.int .u32 0), (.int .u32 0), (.int .u32 0), (.int .u32 0), (.int .u32 0), (.int .u32 0), (.int .u32 0), (.int .u32 0), (.int .u32 0), (.int .u32 0), (.int .u32 0), (.int .u32 0), (.int .u32 0), (.int .u32 0), (.int .u32 0), (.int .u32 0), (.int .u32 0), (.int .u32 0), (.int .u32 0), (.int .u32 0), (.int .u32 0), (.int .u32 0)])<|
 oU 64 5 21<| .nil)
 (oR 5 (.alloc 242 [(.int .u32 0), (.int .u32 0), (.int .u32 0), (.int .u32 0), (.int .u32 0), (.int .u32 0), (.int .u32 0), (.int .u32 0), (.int .u32 0), (.int .u32 0), (.int .u32 0), (.int .u32 0), (.int .u32 0), (.int .u32 0), (.int .u32 0), (.int .u32 0), (.int .u32 0), (.int .u32 0), (.int .u32 0), (.int .u32 0), (.int .u32 0), (.int .u32 0), (.int .u32 0), (.int .u32 0), (.int .u32 0), (.int .u32 0), (.int .u32 0), (.int .u32 0), (.int .u32 0), (.int .u32 0), (.int .u32 0), (.int .u32 0), (.int .u32 0), (.int .u32 0), (.int .u32 0), (.int .u32 0), (.int .u32 0), (.int .u32 0), (.int .u32 0), (.int .u32 0), (.int .u32 0), (.int .u32 0), (.int .u32 0), (.int .u32 0), (.int .u32 0), (.int .u32 0), (.int .u32 0), (.int .u32 0), (.int .u32 0), (.int .u32 0), (.int .u32 0), (.int .u32 0), (.int .u32 0), (.int .u32 0), (.int .u32 0), (.int .u32 0), (.int .u32 0), (.int .u32 0), (.int .u32 0), (.int .u32 0), (.int .u32 0), (.int .u32 0), (.int .u32 0), (.int .u32 0)])<| .both (oK 22 8 3<|
 oU 64 5 21<| .nil) (oU 64 5 21<| oK 22 8 3<| .nil))) (.both (oK 22 8 3<| .both (oR 21 (oa 169 20)<|
 oR 5 (.alloc 242 [(.int .u32 0), (.int .u32 0), (.int .u32 0), (.int .u32 0), (.int .u32 0), (.int .u32 0), (.int .u32 0), (.int .u32 0), (.int .u32 0), (.int .u32 0), (.int .u32 0), (.int .u32 0), (.int .u32 0), (.int .u32 0), (.int .u32 0), (.int .u32 0), (.int .u32 0), (.int .u32 0), (.int .u32 0), (.int .u32 0), (.int .u32 0), (.int .u32 0), (.int .u32 0), (.int .u32 0), (.int .u32 0), (.int .u32 0), (.int .u32 0), (.int .u32 0), (.int .u32 0), (.int .u32 0), (.int .u32 0), (.int .u32 0), (.int .u32 0), (.int .u32 0), (.int .u32 0), (.int .u32 0), (.int .u32 0), (.int .u32 0), (.int .u32 0), (.int .u32 0), (.int .u32 0), (.int .u32 0), (.int .u32 0), (.int .u32 0), (.int .u32 0), (.int .u32 0), (.int .u32 0), (.int .u32 0), (.int .u32 0), (.int .u32 0), (.int .u32 0), (.int .u32 0), (.int .u32 0), (.int .u32 0), (.int .u32 0), (.int .u32 0), (.int .u32 0), (.int .u32 0), (.int .u32 0), (.int .u32 0), (.int .u32 0), (.int .u32 0), (.int .u32 0), (.int .u32 0)])<|
 oU 64 5 21<| .nil)
 (oR 5 (.alloc 242 [(.int .u32 0), (.int .u32 0), (.int .u32 0), (.int .u32 0), (.int .u32 0), (.int .u32 0), (.int .u32 0), (.int .u32 0), (.int .u32 0), (.int .u32 0), (.int .u32 0), (.int .u32 0), (.int .u32 0), (.int .u32 0), (.int .u32 0), (.int .u32 0), (.int .u32 0), (.int .u32 0), (.int .u32 0), (.int .u32 0), (.int .u32 0), (.int .u32 0), (.int .u32 0), (.int .u32 0), (.int .u32 0), (.int .u32 0), (.int .u32 0), (.int .u32 0), (.int .u32 0), (.int .u32 0), (.int .u32 0), (.int .u32 0), (.int .u32 0), (.int .u32 0), (.int .u32 0), (.int .u32 0), (.int .u32 0), (.int .u32 0), (.int .u32 0), (.int .u32 0), (.int .u32 0), (.int .u32 0), (.int .u32 0), (.int .u32 0), (.int .u32 0), (.int .u32 0), (.int .u32 0), (.int .u32 0), (.int .u32 0), (.int .u32 0), (.int .u32 0), (.int .u32 0), (.int .u32 0), (.int .u32 0), (.int .u32 0), (.int .u32 0), (.int .u32 0), (.int .u32 0), (.int .u32 0), (.int .u32 0), (.int .u32 0), (.int .u32 0), (.int .u32 0), (.int .u32 0)])<|
 oR 21 (oa 169 20)<| oU 64 5 21<| .nil))
 (oR 5 (.alloc 242 [(.int .u32 0), (.int .u32 0), (.int .u32 0), (.int .u32 0), (.int .u32 0), (.int .u32 0), (.int .u32 0), (.int .u32 0), (.int .u32 0), (.int .u32 0), (.int .u32 0), (.int .u32 0), (.int .u32 0), (.int .u32 0), (.int .u32 0), (.int .u32 0), (.int .u32 0), (.int .u32 0), (.int .u32 0), (.int .u32 0), (.int .u32 0), (.int .u32 0), (.int .u32 0), (.int .u32 0), (.int .u32 0), (.int .u32 0), (.int .u32 0), (.int .u32 0), (.int .u32 0), (.int .u32 0), (.int .u32 0), (.int .u32 0), (.int .u32 0), (.int .u32 0), (.int .u32 0), (.int .u32 0), (.int .u32 0), (.int .u32 0), (.int .u32 0), (.int .u32 0), (.int .u32 0), (.int .u32 0), (.int .u32 0), (.int .u32 0), (.int .u32 0), (.int .u32 0), (.int .u32 0), (.int .u32 0), (.int .u32 0), (.int .u32 0), (.int .u32 0), (.int .u32 0), (.int .u32 0), (.int .u32 0), (.int .u32 0), (.int .u32 0), (.int .u32 0), (.int .u32 0), (.int .u32 0), (.int .u32 0), (.int .u32 0), (.int .u32 0), (.int .u32 0), (.int .u32 0)])<| .both (oR 21 (oa 169 20)<| .both (oK 22 8 3<|
 oU 64 5 21<| .nil) (oU 64 5 21<| oK 22 8 3<| .nil)) (oK 22 8 3<| oR 21 (oa 169 20)<| oU 64 5 21<| .nil))))))) <|oU 8 6 22<| .nil) (.seq (.seq (.reg false <|
 oO 23 0<| .nil) (.block 2 (.loop (.seq (.reg false <| oC 24 .lss 23 64<| .nil) (.seq (.cond (t 24) .skip (.exit 2)) (.seq (.block 3 (.seq (.reg false <| oM 25 23<|
 oM 7 25<| .nil) (.reg true <| .join (oK 26 8 6<| oM 27 7<| oR 28 (.indexArr 1 64 (t 4) (t 27))<| oL 29 28<| oM 30 7<| oR 31 (.indexArr 1 64 (t 5) (t 30))<|
 oL 32 31<| .nil) <|oR 33 (oc 170 26 29 32)<| oU 8 6 33<| .nil))) (.reg false <| oC 34 .add 23 1<| oM 23 34<| .nil))))))) (.seq (.reg false <| oO 35 0<| .nil)
 (.block 4 (.loop (.seq (.reg false <| oC 36 .lss 35 8<| .nil) (.seq (.cond (t 36) .skip (.exit 4)) (.seq (.block 5 (.seq (.reg false <| oM 37 35<| oM 8 37<| .nil)
 (.reg true <| .join (oM 38 8<| oR 39 (.indexArr 1 8 (t 3) (t 38))<| oL 40 39<| oM 41 8<| oR 42 (.indexArr 1 8 (t 6) (t 41))<| oL 43 42<| oB 44 .add 40 43<|
 oR 45 (.indexArr 1 8 (t 3) (t 38))<| .nil) <|oS 45 44<| .nil))) (.reg false <| oC 46 .add 35 1<| oM 35 46<| .nil)))))))))) (.reg false <| oM 18 0<|
 oR 19 (.sliceStr (t 18) (some (oi 64)) none)<| oM 0 19<| .nil)))))) (.seq (.reg false <| oR 9 (.alloc 235 [(.pointer none), (.slice none 0 0)])<| .nil)
 (.seq (.seq (.reg false <| oK 47 8 3<| oO 48 0<| .nil) (.block 6 (.loop (.seq (.reg false <| oC 49 .lss 48 8<| .nil) (.seq (.cond (t 49) .skip (.exit 6))
 (.seq (.block 7 (.seq (.reg false <| oR 50 (.indexAgg 8 (t 47) (t 48))<| oM 11 50<| .nil) (.reg false <| oM 51 11<| oV 52 .u64 51<| oR 53 (.call 171 [(t 52), (oi 4)])<|
 oR 54 (ob 161 9 53)<| .nil))) (.reg false <| oC 55 .add 48 1<| oM 48 55<| .nil))))))) (.seq (.reg false <| oR 56 (oa 165 9)<| oM 2 56<| .nil) .ret))))))
theorem s_sha_Sum : CS 57 k_sha_Sum [.tmp 2] F.sha_Sum :=
  cs Tryz.func138 (by kernel_rfl) (by kernel_rfl)
noncomputable def k_tx_Base : KC :=
(.seq (.reg false <| oR 1 (.box 32 (t 0))<| oR 2 (.move (.const (.bool false)))<| .nil) (.seq (.reg true <| .join (oF 3 1 1<| oL 4 3<| oD 5 4<| oC 6 .eql 5 1<| oM 7 6<|
 oG 8 7 true (.fieldAddr 1 (t 1))<| .nil) <|.both (oG 9 7 true (.load (t 8))<| oG 10 7 true (.indexAddr 4 (t 9) (oi 0))<|
 oG 11 7 true (.fieldAddr 0 (t 10))<| .both (oG 12 7 true (.loadN 2 (t 11))<| oG 13 7 true (.call 172 [])<| oG 14 7 true (.eqAgg false [.s, .i] (t 12) (t 13))<|
 oR 15 (.pick (t 7) (t 14) (.const (.bool false)))<| oM 2 15<| .nil) (oG 13 7 true (.call 172 [])<| oG 12 7 true (.loadN 2 (t 11))<|
 oG 14 7 true (.eqAgg false [.s, .i] (t 12) (t 13))<| oR 15 (.pick (t 7) (t 14) (.const (.bool false)))<| oM 2 15<| .nil)) (oG 13 7 true (.call 172 [])<|
 oG 9 7 true (.load (t 8))<| oG 10 7 true (.indexAddr 4 (t 9) (oi 0))<| oG 11 7 true (.fieldAddr 0 (t 10))<| oG 12 7 true (.loadN 2 (t 11))<|
 oG 14 7 true (.eqAgg false [.s, .i] (t 12) (t 13))<| oR 15 (.pick (t 7) (t 14) (.const (.bool false)))<| oM 2 15<| .nil)) .ret))
theorem s_tx_Base : CS 16 k_tx_Base [.tmp 2] F.tx_Base :=
  cs Tryz.func139 (by kernel_rfl) (by kernel_rfl)
noncomputable def k_kedgeref06_Bytes : KC :=
(.seq (.reg false <| oR 2 (.box 32 (t 0))<| oR 4 (.move (.const (.string ⟨#[]⟩)))<| .nil) (.seq (.reg false <| oR 5 (.move (.const (.bool false)))<| .nil)
 (.seq (.seq (.reg false <| oO 6 0<| .nil) (.block 0 (.loop (.seq (.seq (.reg false <| oM 16 6<| oF 17 1 2<| oL 18 17<| oD 19 18<| oB 20 .lss 16 19<| .nil)
 (.cond (t 20) .skip (.exit 0))) (.seq (.block 1 (.reg false <| oM 23 5<| oM 24 23<| oG 25 24 false (.move (t 1))<| oG 26 24 false (.not (t 25))<|
 oG 27 24 false (.move (t 26))<| oG 28 27 true (.fieldAddr 1 (t 2))<| oG 29 27 true (.load (t 28))<| oG 30 27 true (.move (t 6))<|
 oG 31 27 true (.indexAddr 4 (t 29) (t 30))<| oG 32 27 true (.fieldAddr 3 (t 31))<| oG 33 27 true (.load (t 32))<| oG 34 27 true (.len false (t 33))<|
 oG 35 27 true (.bin .gtr (t 34) (oi 0))<| oG 36 24 false (.pick (t 27) (t 35) (.const (.bool false)))<| oR 37 (.pick (t 24) (.const (.bool true)) (t 36))<|
 oM 5 37<| .nil)) (.reg false <| oM 21 6<| oC 22 .add 21 1<| oM 6 22<| .nil)))))) (.seq (.reg false <| oF 38 0 2<| oL 39 38<| oV 40 .u64 39<|
 oR 41 (.call 173 [(t 40), (oi 4)])<| oM 7 41<| .nil) (.seq (.seq (.reg false <| oM 42 5<| .nil) (.cond (t 42) (.reg false <| oM 43 7<|
 oR 44 (.bin .add (t 43) (.const (.string ⟨#[0, 1]⟩)))<| oM 7 44<| .nil) .skip)) (.seq (.reg false <| oF 45 1 2<| oL 46 45<| oD 47 46<| oR 48 (oa 174 47)<| oM 8 48<| .nil)
 (.seq (.reg false <| oM 49 7<| oM 50 8<| oB 51 .add 49 50<| oM 7 51<| .nil) (.seq (.seq (.reg false <| oO 9 0<| .nil) (.block 2 (.loop (.seq (.seq (.reg false <| oM 52 9<|
 oF 53 1 2<| oL 54 53<| oD 55 54<| oB 56 .lss 52 55<| .nil) (.cond (t 56) .skip (.exit 2))) (.seq (.block 3 (.seq (.reg false <| oF 59 1 2<| oL 60 59<| oM 61 9<|
 oI 62 4 60 61<| oF 63 0 62<| oF 64 1 63<| oL 65 64<| oV 66 .u64 65<| oR 67 (.call 173 [(t 66), (oi 4)])<| oM 10 67<| .nil) (.seq (.reg false <| oF 68 1 2<| oL 69 68<|
 oM 70 9<| oI 71 4 69 70<| oF 72 2 71<| oL 73 72<| oV 74 .u64 73<| oR 75 (.call 173 [(t 74), (oi 4)])<| oM 11 75<| .nil) (.reg false <| oM 76 7<| oF 77 1 2<| oL 78 77<|
 oM 79 9<| oI 80 4 78 79<| oF 81 0 80<| oF 82 0 81<| oL 83 82<| oB 84 .add 76 83<| oM 85 10<| oB 86 .add 84 85<| oR 87 (.bin .add (t 86) (.const (.string ⟨#[0]⟩)))<|
 oM 88 11<| oB 89 .add 87 88<| oM 7 89<| .nil)))) (.reg false <| oM 57 9<| oC 58 .add 57 1<| oM 9 58<| .nil)))))) (.seq (.reg false <| oF 90 2 2<| oL 91 90<| oD 92 91<|
 oR 93 (oa 174 92)<| oM 8 93<| .nil) (.seq (.reg false <| oM 94 7<| oM 95 8<| oB 96 .add 94 95<| oM 7 96<| .nil) (.seq (.seq (.reg false <| oO 12 0<| .nil)
 (.block 4 (.loop (.seq (.seq (.reg false <| oM 97 12<| oF 98 2 2<| oL 99 98<| oD 100 99<| oB 101 .lss 97 100<| .nil) (.cond (t 101) .skip (.exit 4)))
 (.seq (.block 5 (.seq (.reg false <| oF 104 2 2<| oL 105 104<| oM 106 12<| oI 107 2 105 106<| oF 108 0 107<| oL 109 108<| oV 110 .u64 109<|
 oR 111 (.call 173 [(t 110), (oi 8)])<| oM 13 111<| .nil) (.seq (.reg false <| oF 112 2 2<| oL 113 112<| oM 114 12<| oI 115 2 113 114<| oF 116 1 115<| oL 117 116<|
 oR 118 (.len true (t 117))<| oR 119 (oa 174 118)<| oM 8 119<| .nil) (.reg false <| oM 120 7<| oM 121 13<| oB 122 .add 120 121<| oM 123 8<| oB 124 .add 122 123<|
 oF 125 2 2<| oL 126 125<| oM 127 12<| oI 128 2 126 127<| oF 129 1 128<| oL 130 129<| oB 131 .add 124 130<| oM 7 131<| .nil)))) (.reg false <| oM 102 12<|
 oC 103 .add 102 1<| oM 12 103<| .nil)))))) (.seq (.seq (.reg false <| oO 14 0<| .nil) (.block 6 (.loop (.seq (.seq (.reg false <| oM 132 5<| oM 133 132<|
 oG 134 133 true (.move (t 14))<| oG 135 133 true (.fieldAddr 1 (t 2))<| oG 136 133 true (.load (t 135))<| oG 137 133 true (.len false (t 136))<|
 oG 138 133 true (.bin .lss (t 134) (t 137))<| oR 139 (.pick (t 133) (t 138) (.const (.bool false)))<| .nil) (.cond (t 139) .skip (.exit 6)))
 (.seq (.block 7 (.seq (.reg false <| oF 142 1 2<| oL 143 142<| oM 144 14<| oI 145 4 143 144<| oF 146 3 145<| oL 147 146<| oD 148 147<| oR 149 (oa 174 148)<|
 oM 8 149<| .nil) (.seq (.reg false <| oM 150 7<| oM 151 8<| oB 152 .add 150 151<| oM 7 152<| .nil) (.seq (.reg false <| oO 15 0<| .nil)
 (.block 8 (.loop (.seq (.seq (.reg false <| oM 153 15<| oF 154 1 2<| oL 155 154<| oM 156 14<| oI 157 4 155 156<| oF 158 3 157<| oL 159 158<| oD 160 159<|
 oB 161 .lss 153 160<| .nil) (.cond (t 161) .skip (.exit 8))) (.seq (.block 9 (.seq (.reg false <| oF 164 1 2<| oL 165 164<| oM 166 14<| oI 167 4 165 166<| oF 168 3 167<|
 oL 169 168<| oM 170 15<| oI 171 1 169 170<| oL 172 171<| oR 173 (.len true (t 172))<| oR 174 (oa 174 173)<| oM 8 174<| .nil) (.reg false <| oM 175 7<| oM 176 8<|
 oB 177 .add 175 176<| oF 178 1 2<| oL 179 178<| oM 180 14<| oI 181 4 179 180<| oF 182 3 181<| oL 183 182<| oM 184 15<| oI 185 1 183 184<| oL 186 185<|
 oB 187 .add 177 186<| oM 7 187<| .nil))) (.reg false <| oM 162 15<| oC 163 .add 162 1<| oM 15 163<| .nil))))))))) (.reg false <| oM 140 14<| oC 141 .add 140 1<|
 oM 14 141<| .nil)))))) (.seq (.reg false <| oF 188 3 2<| oL 189 188<| oV 190 .u64 189<| oR 191 (.call 173 [(t 190), (oi 4)])<| oM 8 191<| .nil) (.seq (.reg false <|
 oM 192 7<| oM 193 8<| oB 194 .add 192 193<| oM 4 194<| .nil) .ret))))))))))))))
theorem s_kedgeref06_Bytes : CS 195 k_kedgeref06_Bytes [.tmp 4] F.kedgeref06_Bytes :=
  cs Tryz.func140 (by kernel_rfl) (by kernel_rfl)
noncomputable def k_kedgeref04_Twice : KC :=
(.seq (.reg false <| oR 2 (.move (.const (.string ⟨#[]⟩)))<| .nil) (.seq (.reg false <| oM 4 0<| oR 5 (oa 175 4)<| oM 3 5<| .nil) (.seq (.reg false <| oM 6 3<|
 oR 7 (oa 175 6)<| oM 2 7<| .nil) .ret)))
theorem s_kedgeref04_Twice : CS 8 k_kedgeref04_Twice [.tmp 2] F.kedgeref04_Twice :=
  cs Tryz.func141 (by kernel_rfl) (by kernel_rfl)
noncomputable def k_kedgeref07_Weight : KC :=
(.seq (.reg false <| oR 1 (.box 32 (t 0))<| oO 2 0<| .nil) (.seq (.reg false <| oK 5 4 1<| oR 6 (.call 140 [(t 5), (.const (.bool true))])<| oM 3 6<| .nil)
 (.seq (.reg false <| oK 7 4 1<| oR 8 (.call 140 [(t 7), (.const (.bool false))])<| oM 4 8<| .nil) (.seq (.reg false <| oM 9 3<| oR 10 (.len true (t 9))<|
 oR 11 (.bin .mul (oi 3) (t 10))<| oM 12 4<| oR 13 (.len true (t 12))<| oB 14 .add 11 13<| oM 2 14<| .nil) .ret))))
theorem s_kedgeref07_Weight : CS 15 k_kedgeref07_Weight [.tmp 2] F.kedgeref07_Weight :=
  cs Tryz.func142 (by kernel_rfl) (by kernel_rfl)
noncomputable def k_wire_Encode : KC :=
(.seq (.reg false <| oR 1 (.box 32 (t 0))<| oR 2 (.move (.const (.string ⟨#[]⟩)))<| oO 3 0<| .nil) (.seq (.seq (.reg false <| oK 5 4 1<| oR 6 (oa 136 5)<| oM 4 6<| .nil)
 (.seq (.reg false <| oM 7 4<| oC 8 .neq 7 0<| .nil) (.cond (t 8) (.seq (.reg false <| oM 9 4<| oR 2 (.move (.const (.string ⟨#[]⟩)))<| oM 3 9<| .nil) .ret) .skip)))
 (.seq (.reg true <| .join (oK 11 4 1<| .both (oK 10 4 1<| oR 12 (oa 176 11)<| .nil) (oR 12 (oa 176 11)<| oK 10 4 1<| .nil)) <|oR 13 (ob 137 10 12)<| oM 2 13<|
 oO 3 0<| .nil) .ret)))
theorem s_wire_Encode : CS 14 k_wire_Encode [.tmp 2, .tmp 3] F.wire_Encode :=
  cs Tryz.func143 (by kernel_rfl) (by kernel_rfl)
noncomputable def k_replace_signals_1 : KC :=
(.seq (.reg false <| oR 1 (.box 62 (t 0))<| oR 2 (.move (.const (.bool false)))<| .nil) (.seq (.reg false <| oF 3 2 1<| oL 4 3<|
 oR 5 (.bin .lss (t 4) (.const (.int .u32 4294967294)))<| oM 2 5<| .nil) .ret)) -- f149 FAILS fn method
theorem s_replace_signals_1 : CS 6 k_replace_signals_1 [.tmp 2] F.replace_signals_1 :=
  cs Tryz.func144 (by kernel_rfl) (by kernel_rfl)
noncomputable def k_kedgeref01_parts : KC :=
(.seq (.reg false <| oO 4 0<| oO 5 0<| .nil) (.seq (.reg false <| oM 9 0<| oC 10 .quo 9 1000000<| oM 6 10<| .nil) (.seq (.reg false <| oM 11 0<| oC 12 .rem 11 1000000<|
 oM 7 12<| .nil) (.seq (.reg false <| oM 13 7<| oM 14 1<| oB 15 .mul 13 14<| oM 8 15<| .nil) (.seq (.reg false <| oM 16 6<| oM 17 1<| oB 18 .mul 16 17<| oM 19 8<|
 oC 20 .quo 19 1000000<| oB 21 .add 18 20<| oM 22 8<| oC 23 .rem 22 1000000<| oM 4 21<| oM 5 23<| .nil) .ret)))))
theorem s_kedgeref01_parts : CS 24 k_kedgeref01_parts [.tmp 4, .tmp 5] F.kedgeref01_parts :=
  cs Tryz.func145 (by kernel_rfl) (by kernel_rfl)
noncomputable def k_amount_Sum : KC :=
(.seq (.reg false <| oO 2 0<| oO 3 0<| .nil) (.seq (.reg false <| oO 4 0<| .nil) (.seq (.seq (.reg false <| oM 8 0<| oD 9 8<| oO 10 0<| .nil)
 (.block 0 (.loop (.seq (.reg false <| oB 11 .lss 10 9<| .nil) (.seq (.cond (t 11) .skip (.exit 0)) (.seq (.block 1 (.seq (.reg false <| oI 12 1 8 10<| oL 13 12<|
 oM 6 13<| .nil) (.seq (.reg false <| oO 7 0<| .nil) (.seq (.reg false <| oM 15 4<| oM 16 6<| oR 17 (ob 127 15 16)<| oM 14 17<| oX 18 0 14<| oX 19 1 14<| oM 4 18<|
 oM 7 19<| .nil) (.seq (.reg false <| oM 20 7<| oC 21 .neq 20 0<| .nil) (.cond (t 21) (.seq (.reg false <| oM 22 7<| oO 2 0<| oM 3 22<| .nil) .ret) .skip))))))
 (.reg false <| oC 23 .add 10 1<| oM 10 23<| .nil))))))) (.seq (.reg false <| oM 24 4<| oM 2 24<| oO 3 0<| .nil) .ret))))
theorem s_amount_Sum : CS 25 k_amount_Sum [.tmp 2, .tmp 3] F.amount_Sum :=
  cs Tryz.func150 (by kernel_rfl) (by kernel_rfl)
noncomputable def k_tx_Total : KC :=
(.seq (.reg false <| oR 1 (.box 32 (t 0))<| oO 2 0<| oO 3 0<| .nil) (.seq (.reg false <| oR 4 (.move (.const (.slice none 0 0)))<| .nil) (.seq (.seq (.reg false <|
 oF 7 2 1<| oL 8 7<| oD 9 8<| oO 10 0<| .nil) (.block 0 (.loop (.seq (.reg false <| oB 11 .lss 10 9<| .nil) (.seq (.cond (t 11) .skip (.exit 0))
 (.seq (.block 1 (.seq (.reg false <| oI 12 2 8 10<| oK 13 2 12<| oR 6 (.alloc 87 [(.int .i64 0), (.string ⟨#[]⟩)])<| oU 2 6 13<| .nil) (.reg false <| oM 14 4<| oF 15 0 6<|
 oL 16 15<| oR 17 (.buildSlice 3 1 [(.int .i64 0)] [(0, 1, (t 16))])<| oR 18 (.append 3 1 8 [(.int .i64 0)] (t 14) (t 17))<| oM 4 18<| .nil))) (.reg false <|
 oC 19 .add 10 1<| oM 10 19<| .nil))))))) (.seq (.reg false <| oM 20 4<| oR 21 (oa 150 20)<| oX 22 0 21<| oX 23 1 21<| oM 2 22<| oM 3 23<| .nil) .ret))))
theorem s_tx_Total : CS 24 k_tx_Total [.tmp 2, .tmp 3] F.tx_Total :=
  cs Tryz.func151 (by kernel_rfl) (by kernel_rfl)
noncomputable def k_slices_IndexFunc_L_api_Out_api_Out : KC :=
(.seq (.reg false <| oO 4 0<| .nil) (.seq (.seq (.reg false <| oM 6 0<| oD 7 6<| oO 8 0<| .nil) (.block 0 (.loop (.seq (.reg false <| oB 9 .lss 8 7<| .nil)
 (.seq (.cond (t 9) .skip (.exit 0)) (.seq (.block 1 (.seq (.reg false <| oM 10 8<| oM 5 10<| .nil) (.seq (.reg false <| oM 11 1<| oM 12 0<| oM 13 5<| oI 14 2 12 13<|
 oK 15 2 14<| oR 16 (.callV (t 11) [(t 15)])<| .nil) (.cond (t 16) (.seq (.reg false <| oM 17 5<| oM 4 17<| .nil) .ret) .skip)))) (.reg false <| oC 18 .add 8 1<|
 oM 8 18<| .nil))))))) (.seq (.reg false <| oO 4 (-1)<| .nil) .ret)))
theorem s_slices_IndexFunc_L_api_Out_api_Out : CS 19 k_slices_IndexFunc_L_api_Out_api_Out [.tmp 4] F.slices_IndexFunc_L_api_Out_api_Out :=
  cs Tryz.func154 (by kernel_rfl) (by kernel_rfl)
noncomputable def k_tx_counts : KC :=
(.seq (.reg false <| oR 1 (.box 32 (t 0))<| oR 2 (.move (.const (.bool false)))<| .nil) (.seq (.reg false <| oF 3 1 1<| oL 4 3<| oD 5 4<|
 oR 6 (.pcall 181 Go.Proofs.YtbnhinpegbcbeaaGreat.qFrom1 [(t 5), (oi 256)])<| oM 7 6<| oG 8 7 true (.fieldAddr 2 (t 1))<| oG 9 7 true (.load (t 8))<|
 oG 10 7 true (.len false (t 9))<| oG 11 7 true (.pcall 181 Go.Proofs.YtbnhinpegbcbeaaGreat.qFrom1 [(t 10), (oi 256)])<| oR 12 (.pick (t 7) (t 11) (.const (.bool false)))<|
 oM 13 12<| oG 14 13 true (.fieldAddr 1 (t 1))<| oG 15 13 true (.load (t 14))<| oG 16 13 true (.call 54 [(t 15), (.func 182)])<| oG 17 13 true (.not (t 16))<|
 oR 18 (.pick (t 13) (t 17) (.const (.bool false)))<| oM 2 18<| .nil) .ret))
theorem s_tx_counts : CS 19 k_tx_counts [.tmp 2] F.tx_counts :=
  cs Tryz.func156 (by kernel_rfl) (by kernel_rfl)
noncomputable def k_tx_long : KC :=
(.seq (.reg false <| oR 1 (.box 32 (t 0))<| oR 2 (.move (.const (.bool false)))<| .nil) (.seq (.reg false <| oR 3 (.alloc 130 [.nilFunc])<|
 oQ (.store (t 3) (.func 183))<| .nil) (.seq (.reg false <| oF 4 2 1<| oL 5 4<| oR 6 (.call 184 [(t 5), (.func 185)])<| oM 7 6<| oG 8 7 false (.fieldAddr 1 (t 1))<|
 oG 9 7 false (.load (t 8))<| oG 10 7 false (.makeFunc (.func 186) [] [(t 3)])<| oG 11 7 false (ob 54 9 10)<| oR 12 (.pick (t 7) (.const (.bool true)) (t 11))<|
 oM 2 12<| .nil) .ret)))
theorem s_tx_long : CS 13 k_tx_long [.tmp 2] F.tx_long :=
  cs Tryz.func157 (by kernel_rfl) (by kernel_rfl)
noncomputable def k_tx_formed : KC :=
(.seq (.reg false <| oR 1 (.box 32 (t 0))<| oR 2 (.move (.const (.bool false)))<| .nil) (.seq (.seq (.reg false <| oF 5 1 1<| oL 6 5<| oD 7 6<| oO 8 0<| .nil)
 (.block 0 (.loop (.seq (.reg false <| oB 9 .lss 8 7<| .nil) (.seq (.cond (t 9) .skip (.exit 0)) (.seq (.block 1 (.seq (.reg false <| oI 10 4 6 8<| oK 11 4 10<|
 oR 4 (.alloc 62 [(.string ⟨#[]⟩), (.int .u32 0), (.int .u32 0), (.slice none 0 0)])<| oU 4 4 11<| .nil) (.seq (.reg true <| .join (oF 12 0 4<| oF 13 0 12<| oL 14 13<|
 oR 15 (.len true (t 14))<| oC 16 .neq 15 32<| oM 17 16<| oG 18 17 false (.fieldAddr 0 (t 4))<| .nil) <|.join (.both (oG 19 17 false (.loadN 2 (t 18))<|
 oG 20 17 false (.call 172 [])<| oG 21 17 false (.eqAgg false [.s, .i] (t 19) (t 20))<| oG 22 17 false (.move (t 21))<| oG 23 22 true (.fieldAddr 1 (t 1))<| .nil)
 (oG 20 17 false (.call 172 [])<| oG 19 17 false (.loadN 2 (t 18))<| oG 21 17 false (.eqAgg false [.s, .i] (t 19) (t 20))<| oG 22 17 false (.move (t 21))<|
 oG 23 22 true (.fieldAddr 1 (t 1))<| .nil)) <|oG 24 22 true (.load (t 23))<| oG 25 22 true (.len false (t 24))<| oG 26 22 true (.bin .gtr (t 25) (oi 1))<|
 oG 27 17 false (.pick (t 22) (t 26) (.const (.bool false)))<| oR 28 (.pick (t 17) (.const (.bool true)) (t 27))<| .nil) (.cond (t 28) (.seq (.reg false <|
 oR 2 (.move (.const (.bool false)))<| .nil) .ret) .skip)))) (.reg false <| oC 29 .add 8 1<| oM 8 29<| .nil))))))) (.seq (.reg false <|
 oR 2 (.move (.const (.bool true)))<| .nil) .ret)))
theorem s_tx_formed : CS 30 k_tx_formed [.tmp 2] F.tx_formed :=
  cs Tryz.func158 (by kernel_rfl) (by kernel_rfl)
noncomputable def k_tx_twice : KC :=
(.seq (.reg false <| oR 1 (.box 32 (t 0))<| oR 2 (.move (.const (.bool false)))<| .nil) (.seq (.reg false <| oR 6 (.makeMap)<| oM 3 6<| .nil) (.seq (.seq (.reg false <|
 oF 7 1 1<| oL 8 7<| oD 9 8<| oO 10 0<| .nil) (.block 0 (.loop (.seq (.reg false <| oB 11 .lss 10 9<| .nil) (.seq (.cond (t 11) .skip (.exit 0))
 (.seq (.block 1 (.seq (.reg false <| oI 12 4 8 10<| oK 13 4 12<| oR 5 (.alloc 62 [(.string ⟨#[]⟩), (.int .u32 0), (.int .u32 0), (.slice none 0 0)])<| oU 4 5 13<| .nil)
 (.seq (.reg true <| .join (oM 14 3<| oF 15 0 5<| oK 16 2 15<| .nil) <|.join (.both (oR 17 (.lookup true [.s, .i] (.int .i64 0) false (t 14) (t 16))<| oC 18 .add 17 1<|
 oR 19 (.mapEntry true [.s, .i] (.int .i64 0) (t 14) (t 16))<| oX 20 1 19<| .nil) (oR 19 (.mapEntry true [.s, .i] (.int .i64 0) (t 14) (t 16))<|
 oR 17 (.lookup true [.s, .i] (.int .i64 0) false (t 14) (t 16))<| oC 18 .add 17 1<| oX 20 1 19<| .nil)) <|oQ (.entryStore (t 14) (t 20) (t 18))<| .nil)
 (.seq (.reg false <| oM 21 3<| oF 22 0 5<| oK 23 2 22<| oR 24 (.lookup true [.s, .i] (.int .i64 0) false (t 21) (t 23))<| oC 25 .gtr 24 1<| .nil)
 (.cond (t 25) (.seq (.reg false <| oR 2 (.move (.const (.bool true)))<| .nil) .ret) .skip))))) (.reg false <| oC 26 .add 10 1<| oM 10 26<| .nil))))))) (.seq (.reg false <|
 oR 2 (.move (.const (.bool false)))<| .nil) .ret))))
theorem s_tx_twice : CS 27 k_tx_twice [.tmp 2] F.tx_twice :=
  cs Tryz.func159 (by kernel_rfl) (by kernel_rfl)
noncomputable def k_wire_encode_1 : KC :=
(.reg false <| oM 5 0<| oM 6 1<| oR 7 (ob 162 5 6)<| oR 8 (ob 161 2 7)<| .nil)
theorem s_wire_encode_1 : CS 9 k_wire_encode_1 [] F.wire_encode_1 :=
  cs Tryz.func160 (by kernel_rfl) (by kernel_rfl)
noncomputable def k_octet_Put : KC :=
(.seq (.reg false <| oR 4 (.move (.const (.string ⟨#[]⟩)))<| .nil) (.seq (.seq (.reg false <| oM 6 1<| oR 7 (oa 188 6)<| oT 8 7<| .nil) (.cond (t 8) (.seq (.reg false <|
 oR 4 (.move (.const (.string ⟨#[]⟩)))<| .nil) .ret) .skip)) (.seq (.reg false <| oR 5 (.move (.const (.slice none 0 0)))<| .nil) (.seq (.seq (.reg false <| oM 9 1<|
 oO 10 0<| .nil) (.block 0 (.loop (.seq (.reg false <| oB 11 .lss 10 9<| .nil) (.seq (.cond (t 11) .skip (.exit 0)) (.seq (.block 1 (.seq (.reg false <| oM 12 5<| oM 13 0<|
 oV 14 .u8 13<| oR 15 (.buildSlice 5 1 [(.int .u8 0)] [(0, 1, (t 14))])<| oR 16 (.append 5 1 1 [(.int .u8 0)] (t 12) (t 15))<| oM 5 16<| .nil) (.reg false <| oM 17 0<|
 oR 18 (.bin .shr (t 17) (.const (.int .u64 8)))<| oM 0 18<| .nil))) (.reg false <| oC 19 .add 10 1<| oM 10 19<| .nil))))))) (.seq (.reg false <| oM 20 5<|
 oR 21 (.strOf (t 20))<| oM 4 21<| .nil) .ret)))))
theorem s_octet_Put : CS 22 k_octet_Put [.tmp 4] F.octet_Put :=
  cs Tryz.func162 (by kernel_rfl) (by kernel_rfl)
noncomputable def k_wire_counted : KC :=
(.seq (.reg false <| oR 2 (.move (.const (.string ⟨#[]⟩)))<| .nil) (.seq (.reg false <| oM 3 0<| oV 4 .u64 3<| oR 5 (oa 189 4)<| oM 2 5<| .nil) .ret))
theorem s_wire_counted : CS 6 k_wire_counted [.tmp 2] F.wire_counted :=
  cs Tryz.func163 (by kernel_rfl) (by kernel_rfl)
noncomputable def k_wire_sized : KC :=
(.seq (.reg false <| oR 2 (.move (.const (.string ⟨#[]⟩)))<| .nil) (.seq (.reg false <| oM 3 0<| oR 4 (.len true (t 3))<| oR 5 (oa 163 4)<| oM 6 0<| oB 7 .add 5 6<|
 oM 2 7<| .nil) .ret))
theorem s_wire_sized : CS 8 k_wire_sized [.tmp 2] F.wire_sized :=
  cs Tryz.func164 (by kernel_rfl) (by kernel_rfl)
noncomputable def k_sha_begin : KC :=
(.seq (.reg false <| oR 0 (.alloc 240 [(.int .u32 0), (.int .u32 0), (.int .u32 0), (.int .u32 0), (.int .u32 0), (.int .u32 0), (.int .u32 0), (.int .u32 0)])<| .nil)
 (.seq (.reg false <|
 oR 1 (.build [(.int .u32 0), (.int .u32 0), (.int .u32 0), (.int .u32 0), (.int .u32 0), (.int .u32 0), (.int .u32 0), (.int .u32 0)] [(0, 1, (.const (.int .u32 1779033703))), (1, 1, (.const (.int .u32 3144134277))), (2, 1, (.const (.int .u32 1013904242))), (3, 1, (.const (.int .u32 2773480762))), (4, 1, (.const (.int .u32 1359893119))), (5, 1, (.const (.int .u32 2600822924))), (6, 1, (.const (.int .u32 528734635))), (7, 1, (.const (.int .u32 1541459225)))])<|
 oU 8 0 1<| .nil) .ret))
theorem s_sha_begin : CS 2 k_sha_begin [.cellN 8 0] F.sha_begin :=
  cs Tryz.func166 (by kernel_rfl) (by kernel_rfl)
noncomputable def k_sha_keys : KC :=
(.seq (.reg false <|
 oR 0 (.alloc 242 [(.int .u32 0), (.int .u32 0), (.int .u32 0), (.int .u32 0), (.int .u32 0), (.int .u32 0), (.int .u32 0), (.int .u32 0), (.int .u32 0), (.int .u32 0), (.int .u32 0), (.int .u32 0), (.int .u32 0), (.int .u32 0), (.int .u32 0), (.int .u32 0), (.int .u32 0), (.int .u32 0), (.int .u32 0), (.int .u32 0), (.int .u32 0), (.int .u32 0), (.int .u32 0), (.int .u32 0), (.int .u32 0), (.int .u32 0), (.int .u32 0), (.int .u32 0), (.int .u32 0), (.int .u32 0), (.int .u32 0), (.int .u32 0), (.int .u32 0), (.int .u32 0), (.int .u32 0), (.int .u32 0), (.int .u32 0), (.int .u32 0), (.int .u32 0), (.int .u32 0), (.int .u32 0), (.int .u32 0), (.int .u32 0), (.int .u32 0), (.int .u32 0), (.int .u32 0), (.int .u32 0), (.int .u32 0), (.int .u32 0), (.int .u32 0), (.int .u32 0), (.int .u32 0), (.int .u32 0), (.int .u32 0), (.int .u32 0), (.int .u32 0), (.int .u32 0), (.int .u32 0), (.int .u32 0), (.int .u32 0), (.int .u32 0), (.int .u32 0), (.int .u32 0), (.int .u32 0)])<| .nil)
 (.seq (.reg false <|
 oR 1 (.build [(.int .u32 0), (.int .u32 0), (.int .u32 0), (.int .u32 0), (.int .u32 0), (.int .u32 0), (.int .u32 0), (.int .u32 0), (.int .u32 0), (.int .u32 0), (.int .u32 0), (.int .u32 0), (.int .u32 0), (.int .u32 0), (.int .u32 0), (.int .u32 0), (.int .u32 0), (.int .u32 0), (.int .u32 0), (.int .u32 0), (.int .u32 0), (.int .u32 0), (.int .u32 0), (.int .u32 0), (.int .u32 0), (.int .u32 0), (.int .u32 0), (.int .u32 0), (.int .u32 0), (.int .u32 0), (.int .u32 0), (.int .u32 0), (.int .u32 0), (.int .u32 0), (.int .u32 0), (.int .u32 0), (.int .u32 0), (.int .u32 0), (.int .u32 0), (.int .u32 0), (.int .u32 0), (.int .u32 0), (.int .u32 0), (.int .u32 0), (.int .u32 0), (.int .u32 0), (.int .u32 0), (.int .u32 0), (.int .u32 0), (.int .u32 0), (.int .u32 0), (.int .u32 0), (.int .u32 0), (.int .u32 0), (.int .u32 0), (.int .u32 0), (.int .u32 0), (.int .u32 0), (.int .u32 0), (.int .u32 0), (.int .u32 0), (.int .u32 0), (.int .u32 0), (.int .u32 0)] [(0, 1, (.const (.int .u32 1116352408))), (1, 1, (.const (.int .u32 1899447441))), (2, 1, (.const (.int .u32 3049323471))), (3, 1, (.const (.int .u32 3921009573))), (4, 1, (.const (.int .u32 961987163))), (5, 1, (.const (.int .u32 1508970993))), (6, 1, (.const (.int .u32 2453635748))), (7, 1, (.const (.int .u32 2870763221))), (8, 1, (.const (.int .u32 3624381080))), (9, 1, (.const (.int .u32 310598401))), (10, 1, (.const (.int .u32 607225278))), (11, 1, (.const (.int .u32 1426881987))), (12, 1, (.const (.int .u32 1925078388))), (13, 1, (.const (.int .u32 2162078206))), (14, 1, (.const (.int .u32 2614888103))), (15, 1, (.const (.int .u32 3248222580))), (16, 1, (.const (.int .u32 3835390401))), (17, 1, (.const (.int .u32 4022224774))), (18, 1, (.const (.int .u32 264347078))), (19, 1, (.const (.int .u32 604807628))), (20, 1, (.const (.int .u32 770255983))), (21, 1, (.const (.int .u32 1249150122))), (22, 1, (.const (.int .u32 1555081692))), (23, 1, (.const (.int .u32 1996064986))), (24, 1, (.const (.int .u32 2554220882))), (25, 1, (.const (.int .u32 2821834349))), (26, 1, (.const (.int .u32 2952996808))), (27, 1, (.const (.int .u32 3210313671))), (28, 1, (.const (.int .u32 3336571891))), (29, 1, (.const (.int .u32 3584528711))), (30, 1, (.const (.int .u32 113926993))), (31, 1, (.const (.int .u32 338241895))), (32, 1, (.const (.int .u32 666307205))), (33, 1, (.const (.int .u32 773529912))), (34, 1, (.const (.int .u32 1294757372))), (35, 1, (.const (.int .u32 1396182291))), (36, 1, (.const (.int .u32 1695183700))), (37, 1, (.const (.int .u32 1986661051))), (38, 1, (.const (.int .u32 2177026350))), (39, 1, (.const (.int .u32 2456956037))), (40, 1, (.const (.int .u32 2730485921))), (41, 1, (.const (.int .u32 2820302411))), (42, 1, (.const (.int .u32 3259730800))), (43, 1, (.const (.int .u32 3345764771))), (44, 1, (.const (.int .u32 3516065817))), (45, 1, (.const (.int .u32 3600352804))), (46, 1, (.const (.int .u32 4094571909))), (47, 1, (.const (.int .u32 275423344))), (48, 1, (.const (.int .u32 430227734))), (49, 1, (.const (.int .u32 506948616))), (50, 1, (.const (.int .u32 659060556))), (51, 1, (.const (.int .u32 883997877))), (52, 1, (.const (.int .u32 958139571))), (53, 1, (.const (.int .u32 1322822218))), (54, 1, (.const (.int .u32 1537002063))), (55, 1, (.const (.int .u32 1747873779))), (56, 1, (.const (.int .u32 1955562222))), (57, 1, (.const (.int .u32 2024104815))), (58, 1, (.const (.int .u32 2227730452))), (59, 1, (.const (.int .u32 2361852424))), (60, 1, (.const (.int .u32 2428436474))), (61, 1, (.const (.int .u32 2756734187))), (62, 1, (.const (.int .u32 3204031479))), (63, 1, (.const (.int .u32 3329325298)))])<|
 oU 64 0 1<| .nil) .ret))
theorem s_sha_keys : CS 2 k_sha_keys [.cellN 64 0] F.sha_keys :=
  cs Tryz.func167 (by kernel_rfl) (by kernel_rfl)
noncomputable def k_sha_padded : KC :=
(.seq (.reg false <| oR 2 (.move (.const (.string ⟨#[]⟩)))<| .nil) (.seq (.reg false <| oM 4 0<| oR 5 (.len true (t 4))<| oC 6 .rem 5 64<|
 oR 7 (.bin .sub (oi 119) (t 6))<| oC 8 .rem 7 64<| oM 3 8<| .nil) (.seq (.reg false <| oM 9 0<| oR 10 (.bin .add (t 9) (.const (.string ⟨#[128]⟩)))<| oM 11 3<|
 oR 12 (.call 190 [(.const (.string ⟨#[0]⟩)), (t 11)])<| oB 13 .add 10 12<| oM 14 0<| oR 15 (.len true (t 14))<| oV 16 .u64 15<|
 oR 17 (.bin .mul (t 16) (.const (.int .u64 8)))<| oR 18 (.call 171 [(t 17), (oi 8)])<| oB 19 .add 13 18<| oM 2 19<| .nil) .ret)))
theorem s_sha_padded : CS 20 k_sha_padded [.tmp 2] F.sha_padded :=
  cs Tryz.func168 (by kernel_rfl) (by kernel_rfl)
noncomputable def k_sha_schedule : KC :=
(.seq (.reg false <|
 oR 2 (.alloc 242 [(.int .u32 0), (.int .u32 0), (.int .u32 0), (.int .u32 0), (.int .u32 0), (.int .u32 0), (.int .u32 0), (.int .u32 0), (.int .u32 0), (.int .u32 0), (.int .u32 0), (.int .u32 0), (.int .u32 0), (.int .u32 0), (.int .u32 0), (.int .u32 0), (.int .u32 0), (.int .u32 0), (.int .u32 0), (.int .u32 0), (.int .u32 0), (.int .u32 0), (.int .u32 0), (.int .u32 0), (.int .u32 0), (.int .u32 0), (.int .u32 0), (.int .u32 0), (.int .u32 0), (.int .u32 0), (.int .u32 0), (.int .u32 0), (.int .u32 0), (.int .u32 0), (.int .u32 0), (.int .u32 0), (.int .u32 0), (.int .u32 0), (.int .u32 0), (.int .u32 0), (.int .u32 0), (.int .u32 0), (.int .u32 0), (.int .u32 0), (.int .u32 0), (.int .u32 0), (.int .u32 0), (.int .u32 0), (.int .u32 0), (.int .u32 0), (.int .u32 0), (.int .u32 0), (.int .u32 0), (.int .u32 0), (.int .u32 0), (.int .u32 0), (.int .u32 0), (.int .u32 0), (.int .u32 0), (.int .u32 0), (.int .u32 0), (.int .u32 0), (.int .u32 0), (.int .u32 0)])<| .nil)
 (.seq (.reg false <|
 oR 3 (.alloc 242 [(.int .u32 0), (.int .u32 0), (.int .u32 0), (.int .u32 0), (.int .u32 0), (.int .u32 0), (.int .u32 0), (.int .u32 0), (.int .u32 0), (.int .u32 0), (.int .u32 0), (.int .u32 0), (.int .u32 0), (.int .u32 0), (.int .u32 0), (.int .u32 0), (.int .u32 0), (.int .u32 0), (.int .u32 0), (.int .u32 0), (.int .u32 0), (.int .u32 0), (.int .u32 0), (.int .u32 0), (.int .u32 0), (.int .u32 0), (.int .u32 0), (.int .u32 0), (.int .u32 0), (.int .u32 0), (.int .u32 0), (.int .u32 0), (.int .u32 0), (.int .u32 0), (.int .u32 0), (.int .u32 0), (.int .u32 0), (.int .u32 0), (.int .u32 0), (.int .u32 0), (.int .u32 0), (.int .u32 0), (.int .u32 0), (.int .u32 0), (.int .u32 0), (.int .u32 0), (.int .u32 0), (.int .u32 0), (.int .u32 0), (.int .u32 0), (.int .u32 0), (.int .u32 0), (.int .u32 0), (.int .u32 0), (.int .u32 0), (.int .u32 0), (.int .u32 0), (.int .u32 0), (.int .u32 0), (.int .u32 0), (.int .u32 0), (.int .u32 0), (.int .u32 0), (.int .u32 0)])<| .nil)
 (.seq (.seq (.reg false <| oO 9 0<| .nil) (.block 0 (.loop (.seq (.reg false <| oC 10 .lss 9 64<| .nil) (.seq (.cond (t 10) .skip (.exit 0))
 (.seq (.block 1 (.seq (.reg false <| oM 11 9<| oM 4 11<| .nil) (.seq (.seq (.reg false <| oM 12 4<| oC 13 .lss 12 16<| .nil) (.cond (t 13) (.seq (.seq (.reg false <|
 oM 14 0<| oM 15 4<| oR 16 (.bin .mul (oi 4) (t 15))<| oM 17 4<| oR 18 (.bin .mul (oi 4) (t 17))<| oC 19 .add 18 4<| oR 20 (.sliceStr (t 14) (some (t 16)) (some (t 19)))<|
 oR 21 (.bytesOf 5 (t 20))<| oD 22 21<| oO 23 0<| .nil) (.block 2 (.loop (.seq (.reg false <| oB 24 .lss 23 22<| .nil) (.seq (.cond (t 24) .skip (.exit 2))
 (.seq (.block 3 (.seq (.reg false <| oI 25 1 21 23<| oL 26 25<| oM 6 26<| .nil) (.reg false <| oM 27 4<| oM 28 4<| oR 29 (.indexArr 1 64 (t 3) (t 28))<| oL 30 29<|
 oR 31 (.bin .shl (t 30) (.const (.int .u64 8)))<| oM 32 6<| oV 33 .u32 32<| oB 34 .or 31 33<| oR 35 (.indexArr 1 64 (t 3) (t 27))<| oS 35 34<| .nil))) (.reg false <|
 oC 36 .add 23 1<| oM 23 36<| .nil))))))) (.exit 1)) .skip)) (.seq (.reg true <| oM 37 4<| oC 38 .sub 37 15<| oR 39 (.indexArr 1 64 (t 3) (t 38))<| oL 40 39<| oM 41 4<|
 oC 42 .sub 41 2<| oR 43 (.indexArr 1 64 (t 3) (t 42))<| oL 44 43<| oM 7 40<| oM 8 44<| .nil) (.reg true <| .join (oM 45 4<| oM 46 4<| oC 47 .sub 46 16<|
 oR 48 (.indexArr 1 64 (t 3) (t 47))<| oL 49 48<| oM 50 7<| oR 51 (.pcall 191 Go.Proofs.YtbnhinpegbcbeaaGreat.qRotI [(t 50), (oi 7)])<| oM 52 7<|
 oR 53 (.pcall 191 Go.Proofs.YtbnhinpegbcbeaaGreat.qRotI [(t 52), (oi 18)])<| oB 54 .xor 51 53<| oM 55 7<| oR 56 (.bin .shr (t 55) (.const (.int .u64 3)))<|
 oB 57 .xor 54 56<| oB 58 .add 49 57<| oM 59 4<| oC 60 .sub 59 7<| oR 61 (.indexArr 1 64 (t 3) (t 60))<| oL 62 61<| oB 63 .add 58 62<| oM 64 8<|
 oR 65 (.pcall 191 Go.Proofs.YtbnhinpegbcbeaaGreat.qRotI [(t 64), (oi 17)])<| oM 66 8<| oR 67 (.pcall 191 Go.Proofs.YtbnhinpegbcbeaaGreat.qRotI [(t 66), (oi 19)])<|
 oB 68 .xor 65 67<| oM 69 8<| oR 70 (.bin .shr (t 69) (.const (.int .u64 10)))<| oB 71 .xor 68 70<| oB 72 .add 63 71<|
 oR 73 (.indexArr 1 64 (t 3) (t 45))<| .nil) <|oS 73 72<| .nil))))) (.reg false <| oC 74 .add 9 1<| oM 9 74<| .nil))))))) (.seq (.reg false <| oK 75 64 3<|
 oU 64 2 75<| .nil) .ret))))
theorem s_sha_schedule : CS 76 k_sha_schedule [.cellN 64 2] F.sha_schedule :=
  cs Tryz.func169 (by kernel_rfl) (by kernel_rfl)
noncomputable def k_sha_round : KC :=
(.seq (.reg false <| oR 3 (.box 240 (t 0))<|
 oR 6 (.alloc 240 [(.int .u32 0), (.int .u32 0), (.int .u32 0), (.int .u32 0), (.int .u32 0), (.int .u32 0), (.int .u32 0), (.int .u32 0)])<| .nil) (.seq (.reg true <|
 oR 11 (.indexArr 1 8 (t 3) (oi 0))<| oL 12 11<| oR 13 (.indexArr 1 8 (t 3) (oi 4))<| oL 14 13<| oM 7 12<| oM 8 14<| .nil) (.seq (.reg true <|
 oR 15 (.indexArr 1 8 (t 3) (oi 7))<| oL 16 15<| oM 17 8<| oR 18 (.pcall 191 Go.Proofs.YtbnhinpegbcbeaaGreat.qRotI [(t 17), (oi 6)])<| oM 19 8<|
 oR 20 (.pcall 191 Go.Proofs.YtbnhinpegbcbeaaGreat.qRotI [(t 19), (oi 11)])<| oB 21 .xor 18 20<| oM 22 8<|
 oR 23 (.pcall 191 Go.Proofs.YtbnhinpegbcbeaaGreat.qRotI [(t 22), (oi 25)])<| oB 24 .xor 21 23<| oB 25 .add 16 24<| oM 26 8<| oR 27 (.indexArr 1 8 (t 3) (oi 5))<|
 oL 28 27<| oB 29 .and 26 28<| oM 30 8<| oR 31 (.unNeg true (t 30))<| oR 32 (.indexArr 1 8 (t 3) (oi 6))<| oL 33 32<| oB 34 .and 31 33<| oB 35 .xor 29 34<|
 oB 36 .add 25 35<| oM 37 1<| oB 38 .add 36 37<| oM 39 2<| oB 40 .add 38 39<| oM 9 40<| .nil) (.seq (.reg true <| oM 41 7<|
 oR 42 (.pcall 191 Go.Proofs.YtbnhinpegbcbeaaGreat.qRotI [(t 41), (oi 2)])<| oM 43 7<| oR 44 (.pcall 191 Go.Proofs.YtbnhinpegbcbeaaGreat.qRotI [(t 43), (oi 13)])<|
 oB 45 .xor 42 44<| oM 46 7<| oR 47 (.pcall 191 Go.Proofs.YtbnhinpegbcbeaaGreat.qRotI [(t 46), (oi 22)])<| oB 48 .xor 45 47<| oM 49 7<| oR 50 (.indexArr 1 8 (t 3) (oi 1))<|
 oL 51 50<| oB 52 .and 49 51<| oM 53 7<| oR 54 (.indexArr 1 8 (t 3) (oi 2))<| oL 55 54<| oB 56 .and 53 55<| oB 57 .xor 52 56<| oR 58 (.indexArr 1 8 (t 3) (oi 1))<|
 oL 59 58<| oR 60 (.indexArr 1 8 (t 3) (oi 2))<| oL 61 60<| oB 62 .and 59 61<| oB 63 .xor 57 62<| oB 64 .add 48 63<| oM 10 64<| .nil) (.seq (.reg false <| oM 65 9<|
 oM 66 10<| oB 67 .add 65 66<| oM 68 7<| oR 69 (.indexArr 1 8 (t 3) (oi 1))<| oL 70 69<| oR 71 (.indexArr 1 8 (t 3) (oi 2))<| oL 72 71<|
 oR 73 (.indexArr 1 8 (t 3) (oi 3))<| oL 74 73<| oM 75 9<| oB 76 .add 74 75<| oM 77 8<| oR 78 (.indexArr 1 8 (t 3) (oi 5))<| oL 79 78<| oR 80 (.indexArr 1 8 (t 3) (oi 6))<|
 oL 81 80<|
 oR 82 (.build [(.int .u32 0), (.int .u32 0), (.int .u32 0), (.int .u32 0), (.int .u32 0), (.int .u32 0), (.int .u32 0), (.int .u32 0)] [(0, 1, (t 67)), (1, 1, (t 68)), (2, 1, (t 70)), (3, 1, (t 72)), (4, 1, (t 76)), (5, 1, (t 77)), (6, 1, (t 79)), (7, 1, (t 81))])<|
 oU 8 6 82<| .nil) .ret)))))
theorem s_sha_round : CS 83 k_sha_round [.cellN 8 6] F.sha_round :=
  cs Tryz.func170 (by kernel_rfl) (by kernel_rfl)
noncomputable def k_sha_high : KC :=
(.seq (.reg false <| oR 4 (.move (.const (.string ⟨#[]⟩)))<| .nil) (.seq (.reg false <| oM 7 1<| oR 8 (.makeSlice 5 1 1 [(.int .u8 0)] (t 7) (t 7))<| oM 5 8<| .nil)
 (.seq (.seq (.reg false <| oM 9 5<| oD 10 9<| oO 11 0<| .nil) (.block 0 (.loop (.seq (.reg false <| oB 12 .lss 11 10<| .nil) (.seq (.cond (t 12) .skip (.exit 0))
 (.seq (.block 1 (.seq (.reg false <| oM 13 11<| oM 6 13<| .nil) (.seq (.reg false <| oM 14 5<| oM 15 1<| oC 16 .sub 15 1<| oM 17 6<| oB 18 .sub 16 17<| oM 19 0<|
 oV 20 .u8 19<| oI 21 1 14 18<| oS 21 20<| .nil) (.reg false <| oM 22 0<| oR 23 (.bin .shr (t 22) (.const (.int .u64 8)))<| oM 0 23<| .nil)))) (.reg false <|
 oC 24 .add 11 1<| oM 11 24<| .nil))))))) (.seq (.reg false <| oM 25 5<| oR 26 (.strOf (t 25))<| oM 4 26<| .nil) .ret))))
theorem s_sha_high : CS 27 k_sha_high [.tmp 4] F.sha_high :=
  cs Tryz.func171 (by kernel_rfl) (by kernel_rfl)
noncomputable def k_tx_base : KC :=
(.seq (.reg false <| oR 0 (.alloc 60 [(.string ⟨#[]⟩), (.int .u32 0)])<| .nil) (.seq (.reg false <| oR 1 (.call 190 [(.const (.string ⟨#[0]⟩)), (oi 32)])<|
 oR 2 (.build [(.string ⟨#[]⟩), (.int .u32 0)] [(0, 1, (t 1)), (1, 1, (.const (.int .u32 4294967295)))])<| oU 2 0 2<| .nil) .ret))
theorem s_tx_base : CS 3 k_tx_base [.cellN 2 0] F.tx_base :=
  cs Tryz.func172 (by kernel_rfl) (by kernel_rfl)
noncomputable def k_kedgeref02_Put : KC :=
(.seq (.reg false <| oR 4 (.move (.const (.string ⟨#[]⟩)))<| .nil) (.seq (.reg false <| oR 5 (.move (.const (.string ⟨#[]⟩)))<| .nil) (.seq (.seq (.reg false <| oM 7 1<|
 oC 8 .neq 7 1<| oM 9 8<| oG 10 9 true (.move (t 1))<| oG 11 9 true (.bin .neq (t 10) (oi 2))<| oR 12 (.pick (t 9) (t 11) (.const (.bool false)))<| oM 13 12<|
 oG 14 13 true (.move (t 1))<| oG 15 13 true (.bin .neq (t 14) (oi 4))<| oR 16 (.pick (t 13) (t 15) (.const (.bool false)))<| oM 17 16<| oG 18 17 true (.move (t 1))<|
 oG 19 17 true (.bin .neq (t 18) (oi 8))<| oR 20 (.pick (t 17) (t 19) (.const (.bool false)))<| .nil) (.cond (t 20) (.seq (.reg false <| oM 21 5<|
 oM 4 21<| .nil) .ret) .skip)) (.seq (.seq (.reg false <| oO 6 0<| .nil) (.block 0 (.loop (.seq (.seq (.reg false <| oM 22 6<| oM 23 1<| oB 24 .lss 22 23<| .nil)
 (.cond (t 24) .skip (.exit 0))) (.seq (.block 1 (.seq (.reg false <| oM 27 5<| oM 28 0<| oR 29 (.bin .rem (t 28) (.const (.int .u64 256)))<| oV 30 .u8 29<|
 oR 31 (.buildSlice 5 1 [(.int .u8 0)] [(0, 1, (t 30))])<| oR 32 (.strOf (t 31))<| oB 33 .add 27 32<| oM 5 33<| .nil) (.reg false <| oM 34 0<|
 oR 35 (.bin .quo (t 34) (.const (.int .u64 256)))<| oM 0 35<| .nil))) (.reg false <| oM 25 6<| oC 26 .add 25 1<| oM 6 26<| .nil)))))) (.seq (.reg false <| oM 36 5<|
 oM 4 36<| .nil) .ret)))))
theorem s_kedgeref02_Put : CS 37 k_kedgeref02_Put [.tmp 4] F.kedgeref02_Put :=
  cs Tryz.func173 (by kernel_rfl) (by kernel_rfl)
noncomputable def k_kedgeref06_length : KC :=
(.seq (.reg false <| oR 2 (.move (.const (.string ⟨#[]⟩)))<| .nil) (.seq (.reg false <| oM 3 0<| oV 4 .u64 3<| oR 5 (oa 192 4)<| oM 2 5<| .nil) .ret))
theorem s_kedgeref06_length : CS 6 k_kedgeref06_length [.tmp 2] F.kedgeref06_length :=
  cs Tryz.func174 (by kernel_rfl) (by kernel_rfl)
end Go.Proofs.YtbnhinpegbcbeaaGreat
end
