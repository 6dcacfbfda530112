/- The resolved code of functions, printed by program. -/
import Derived.Test.YtbnhinpegbcbeaaGreatG12
set_option linter.unusedVariables false
set_option linter.unusedSimpArgs false
section
namespace Go.Proofs.YtbnhinpegbcbeaaGreat
open Go Go.K
noncomputable def k_kedgeref04_Sum : KC :=
(.seq (.reg false <| oR 2 (.move (.const (.string ⟨#[]⟩)))<| .nil) (.seq (.reg false <|
 oR 8 (.build [(.int .u32 0), (.int .u32 0), (.int .u32 0), (.int .u32 0), (.int .u32 0), (.int .u32 0), (.int .u32 0), (.int .u32 0)] [(0, 1, (.const (.int .u32 1779033703))), (1, 1, (.const (.int .u32 3144134277))), (2, 1, (.const (.int .u32 1013904242))), (3, 1, (.const (.int .u32 2773480762))), (4, 1, (.const (.int .u32 1359893119))), (5, 1, (.const (.int .u32 2600822924))), (6, 1, (.const (.int .u32 528734635))), (7, 1, (.const (.int .u32 1541459225)))])<|
 oR 3 (.alloc 240 [(.int .u32 0), (.int .u32 0), (.int .u32 0), (.int .u32 0), (.int .u32 0), (.int .u32 0), (.int .u32 0), (.int .u32 0)])<| oU 8 3 8<| .nil)
 (.seq (.reg false <| oM 9 0<| oR 10 (oa 193 9)<| oM 4 10<| .nil) (.seq (.seq (.reg false <| oO 5 0<| .nil) (.block 0 (.loop (.seq (.seq (.reg false <| oM 11 5<| oM 12 4<|
 oD 13 12<| oB 14 .lss 11 13<| .nil) (.cond (t 14) .skip (.exit 0))) (.seq (.block 1 (.reg true <| oK 17 8 3<| oM 18 4<| oM 19 5<| oM 20 5<| oC 21 .add 20 64<|
 oR 22 (.sliceSl 1 (t 18) (some (t 19)) (some (t 21)))<| oR 23 (ob 194 17 22)<| oU 8 3 23<| .nil)) (.reg false <| oM 15 5<| oC 16 .add 15 64<| oM 5 16<| .nil))))))
 (.seq (.reg false <| oR 6 (.move (.const (.string ⟨#[]⟩)))<| .nil) (.seq (.seq (.reg false <| oO 7 0<| .nil) (.block 2 (.loop (.seq (.seq (.reg false <| oM 24 7<|
 oC 25 .lss 24 8<| .nil) (.cond (t 25) .skip (.exit 2))) (.seq (.block 3 (.reg true <| .join (oM 28 6<| oM 29 7<| oR 30 (.indexArr 1 8 (t 3) (t 29))<| oL 31 30<|
 oR 32 (.bin .shr (t 31) (.const (.int .u64 24)))<| oV 33 .u8 32<| oM 34 7<| oR 35 (.indexArr 1 8 (t 3) (t 34))<| oL 36 35<|
 oR 37 (.bin .shr (t 36) (.const (.int .u64 16)))<| oV 38 .u8 37<| oM 39 7<| oR 40 (.indexArr 1 8 (t 3) (t 39))<| oL 41 40<|
 oR 42 (.bin .shr (t 41) (.const (.int .u64 8)))<| oV 43 .u8 42<| oM 44 7<| oR 45 (.indexArr 1 8 (t 3) (t 44))<| oL 46 45<|
 oV 47 .u8 46<| .nil) <|oR 48 (.buildSlice 5 4 [(.int .u8 0), (.int .u8 0), (.int .u8 0), (.int .u8 0)] [(0, 1, (t 33)), (1, 1, (t 38)), (2, 1, (t 43)), (3, 1, (t 47))])<|
 oR 49 (.strOf (t 48))<| oB 50 .add 28 49<| oM 6 50<| .nil)) (.reg false <| oM 26 7<| oC 27 .add 26 1<| oM 7 27<| .nil)))))) (.seq (.reg false <| oM 51 6<|
 oM 2 51<| .nil) .ret)))))))
theorem s_kedgeref04_Sum : CS 52 k_kedgeref04_Sum [.tmp 2] F.kedgeref04_Sum :=
  cs Tryz.func175 (by kernel_rfl) (by kernel_rfl)
noncomputable def k_wire_witnessed : KC :=
(.seq (.reg false <| oR 1 (.box 32 (t 0))<| oR 2 (.move (.const (.bool false)))<| .nil) (.seq (.reg false <| oF 3 1 1<| oL 4 3<| oR 5 (.call 54 [(t 4), (.func 195)])<|
 oM 2 5<| .nil) .ret))
theorem s_wire_witnessed : CS 6 k_wire_witnessed [.tmp 2] F.wire_witnessed :=
  cs Tryz.func176 (by kernel_rfl) (by kernel_rfl)
noncomputable def k_tx_counts_1 : KC :=
(.seq (.reg false <| oR 1 (.box 62 (t 0))<| oR 2 (.move (.const (.bool false)))<| .nil) (.seq (.reg false <| oF 3 3 1<| oL 4 3<| oD 5 4<| oC 6 .gtr 5 4<|
 oM 2 6<| .nil) .ret))
theorem s_tx_counts_1 : CS 7 k_tx_counts_1 [.tmp 2] F.tx_counts_1 :=
  cs Tryz.func182 (by kernel_rfl) (by kernel_rfl)
noncomputable def k_tx_long_1 : KC :=
(.seq (.reg false <| oR 2 (.move (.const (.bool false)))<| .nil) (.seq (.reg false <| oM 3 0<| oR 4 (.len true (t 3))<| oC 5 .gtr 4 80<| oM 2 5<| .nil) .ret))
theorem s_tx_long_1 : CS 6 k_tx_long_1 [.tmp 2] F.tx_long_1 :=
  cs Tryz.func183 (by kernel_rfl) (by kernel_rfl)
noncomputable def k_slices_ContainsFunc_L_api_Out_api_Out : KC :=
(.seq (.reg false <| oR 4 (.move (.const (.bool false)))<| .nil) (.seq (.reg false <| oM 5 0<| oM 6 1<| oR 7 (ob 154 5 6)<| oC 8 .geq 7 0<| oM 4 8<| .nil) .ret))
theorem s_slices_ContainsFunc_L_api_Out_api_Out : CS 9 k_slices_ContainsFunc_L_api_Out_api_Out [.tmp 4] F.slices_ContainsFunc_L_api_Out_api_Out :=
  cs Tryz.func184 (by kernel_rfl) (by kernel_rfl)
noncomputable def k_tx_long_2 : KC :=
(.seq (.reg false <| oR 1 (.box 87 (t 0))<| oR 2 (.move (.const (.bool false)))<| .nil) (.seq (.reg false <| oF 3 1 1<| oL 4 3<| oR 5 (.len true (t 4))<| oC 6 .gtr 5 40<|
 oM 2 6<| .nil) .ret))
theorem s_tx_long_2 : CS 7 k_tx_long_2 [.tmp 2] F.tx_long_2 :=
  cs Tryz.func185 (by kernel_rfl) (by kernel_rfl)
noncomputable def k_tx_long_3 : KC :=
(.seq (.reg false <| oR 2 (.box 62 (t 0))<| oR 3 (.move (.const (.bool false)))<| .nil) (.seq (.reg false <| oF 4 3 2<| oL 5 4<| oL 6 1<| oR 7 (ob 60 5 6)<|
 oM 3 7<| .nil) .ret))
theorem s_tx_long_3 : CS 8 k_tx_long_3 [.tmp 3] F.tx_long_3 :=
  cs Tryz.func186 (by kernel_rfl) (by kernel_rfl)
noncomputable def k_octet_known : KC :=
(.seq (.reg false <| oR 2 (.move (.const (.bool false)))<| .nil) (.seq (.reg false <|
 oR 3 (.buildSlice 3 4 [(.int .i64 0), (.int .i64 0), (.int .i64 0), (.int .i64 0)] [(0, 1, (oi 1)), (1, 1, (oi 2)), (2, 1, (oi 4)), (3, 1, (oi 8))])<| oM 4 0<|
 oR 5 (ob 203 3 4)<| oM 2 5<| .nil) .ret))
theorem s_octet_known : CS 6 k_octet_known [.tmp 2] F.octet_known :=
  cs Tryz.func188 (by kernel_rfl) (by kernel_rfl)
noncomputable def k_vint_Put : KC :=
(.seq (.reg false <| oR 2 (.move (.const (.string ⟨#[]⟩)))<| .nil) (.seq (.block 0 (.seq (.reg false <| oM 4 0<| oR 5 (.bin .lss (t 4) (.const (.int .u64 253)))<|
 oM 3 5<| .nil) (.cond (t 3) (.seq (.reg false <| oM 6 0<| oR 7 (.call 162 [(t 6), (oi 1)])<| oM 2 7<| .nil) .ret) (.seq (.reg false <| oM 9 0<|
 oR 10 (.bin .lss (t 9) (.const (.int .u64 65536)))<| oM 8 10<| .nil) (.cond (t 8) (.seq (.reg false <| oR 11 (.call 162 [(.const (.int .u64 253)), (oi 1)])<| oM 12 0<|
 oR 13 (.call 162 [(t 12), (oi 2)])<| oB 14 .add 11 13<| oM 2 14<| .nil) .ret) (.seq (.reg false <| oM 16 0<| oR 17 (.bin .lss (t 16) (.const (.int .u64 4294967296)))<|
 oM 15 17<| .nil) (.cond (t 15) (.seq (.reg false <| oR 18 (.call 162 [(.const (.int .u64 254)), (oi 1)])<| oM 19 0<| oR 20 (.call 162 [(t 19), (oi 4)])<|
 oB 21 .add 18 20<| oM 2 21<| .nil) .ret) .skip))))))) (.seq (.reg false <| oR 22 (.call 162 [(.const (.int .u64 255)), (oi 1)])<| oM 23 0<|
 oR 24 (.call 162 [(t 23), (oi 8)])<| oB 25 .add 22 24<| oM 2 25<| .nil) .ret)))
theorem s_vint_Put : CS 26 k_vint_Put [.tmp 2] F.vint_Put :=
  cs Tryz.func189 (by kernel_rfl) (by kernel_rfl)
noncomputable def k_kedgeref03_Put : KC :=
(.seq (.reg false <| oR 2 (.move (.const (.string ⟨#[]⟩)))<| .nil) (.seq (.seq (.reg false <| oM 3 0<| oR 4 (.bin .lss (t 3) (.const (.int .u64 253)))<| .nil)
 (.cond (t 4) (.seq (.reg false <| oM 5 0<| oR 6 (.call 173 [(t 5), (oi 1)])<| oM 2 6<| .nil) .ret) .skip)) (.seq (.seq (.reg false <| oM 7 0<|
 oR 8 (.bin .lss (t 7) (.const (.int .u64 65536)))<| .nil) (.cond (t 8) (.seq (.reg false <| oM 9 0<| oR 10 (.call 173 [(t 9), (oi 2)])<|
 oR 11 (.bin .add (.const (.string ⟨#[253]⟩)) (t 10))<| oM 2 11<| .nil) .ret) .skip)) (.seq (.seq (.reg false <| oM 12 0<|
 oR 13 (.bin .lss (t 12) (.const (.int .u64 4294967296)))<| .nil) (.cond (t 13) (.seq (.reg false <| oM 14 0<| oR 15 (.call 173 [(t 14), (oi 4)])<|
 oR 16 (.bin .add (.const (.string ⟨#[254]⟩)) (t 15))<| oM 2 16<| .nil) .ret) .skip)) (.seq (.reg false <| oM 17 0<| oR 18 (.call 173 [(t 17), (oi 8)])<|
 oR 19 (.bin .add (.const (.string ⟨#[255]⟩)) (t 18))<| oM 2 19<| .nil) .ret)))))
theorem s_kedgeref03_Put : CS 20 k_kedgeref03_Put [.tmp 2] F.kedgeref03_Put :=
  cs Tryz.func192 (by kernel_rfl) (by kernel_rfl)
noncomputable def k_kedgeref04_pad : KC :=
(.seq (.reg false <| oR 2 (.move (.const (.slice none 0 0)))<| .nil) (.seq (.reg false <| oR 3 (.move (.const (.slice none 0 0)))<| .nil) (.seq (.seq (.reg false <|
 oO 4 0<| .nil) (.block 0 (.loop (.seq (.seq (.reg false <| oM 7 4<| oM 8 0<| oR 9 (.len true (t 8))<| oB 10 .lss 7 9<| .nil) (.cond (t 10) .skip (.exit 0)))
 (.seq (.block 1 (.reg false <| oM 13 3<| oM 14 0<| oM 15 4<| oR 16 (.indexStr (t 14) (t 15))<| oR 17 (.buildSlice 5 1 [(.int .u8 0)] [(0, 1, (t 16))])<|
 oR 18 (.append 5 1 1 [(.int .u8 0)] (t 13) (t 17))<| oM 3 18<| .nil)) (.reg false <| oM 11 4<| oC 12 .add 11 1<| oM 4 12<| .nil)))))) (.seq (.reg false <| oM 19 3<|
 oR 20 (.buildSlice 5 1 [(.int .u8 0)] [(0, 1, (.const (.int .u8 128)))])<| oR 21 (.append 5 1 1 [(.int .u8 0)] (t 19) (t 20))<| oM 3 21<| .nil)
 (.seq (.block 2 (.loop (.seq (.seq (.reg false <| oM 22 3<| oD 23 22<| oC 24 .rem 23 64<| oC 25 .neq 24 56<| .nil) (.cond (t 25) .skip (.exit 2))) (.block 3 (.reg false <|
 oM 26 3<| oR 27 (.buildSlice 5 1 [(.int .u8 0)] [(0, 1, (.const (.int .u8 0)))])<| oR 28 (.append 5 1 1 [(.int .u8 0)] (t 26) (t 27))<| oM 3 28<| .nil)))))
 (.seq (.reg false <| oM 29 0<| oR 30 (.len true (t 29))<| oV 31 .u64 30<| oR 32 (.bin .mul (t 31) (.const (.int .u64 8)))<| oM 5 32<| .nil) (.seq (.seq (.reg false <|
 oO 6 7<| .nil) (.block 4 (.loop (.seq (.seq (.reg false <| oM 33 6<| oC 34 .geq 33 0<| .nil) (.cond (t 34) .skip (.exit 4))) (.seq (.block 5 (.reg false <| oM 37 3<|
 oM 38 5<| oM 39 6<| oV 40 .u64 39<| oR 41 (.bin .mul (.const (.int .u64 8)) (t 40))<| oB 42 .shr 38 41<| oV 43 .u8 42<|
 oR 44 (.buildSlice 5 1 [(.int .u8 0)] [(0, 1, (t 43))])<| oR 45 (.append 5 1 1 [(.int .u8 0)] (t 37) (t 44))<| oM 3 45<| .nil)) (.reg false <| oM 35 6<| oC 36 .sub 35 1<|
 oM 6 36<| .nil)))))) (.seq (.reg false <| oM 46 3<| oM 2 46<| .nil) .ret))))))))
theorem s_kedgeref04_pad : CS 47 k_kedgeref04_pad [.tmp 2] F.kedgeref04_pad :=
  cs Tryz.func193 (by kernel_rfl) (by kernel_rfl)
noncomputable def k_kedgeref04_block : KC :=
(.seq (.reg false <| oR 2 (.box 240 (t 0))<|
 oR 4 (.alloc 240 [(.int .u32 0), (.int .u32 0), (.int .u32 0), (.int .u32 0), (.int .u32 0), (.int .u32 0), (.int .u32 0), (.int .u32 0)])<| .nil) (.seq (.reg false <|
 oR 5 (.alloc 242 [(.int .u32 0), (.int .u32 0), (.int .u32 0), (.int .u32 0), (.int .u32 0), (.int .u32 0), (.int .u32 0), (.int .u32 0), (.int .u32 0), (.int .u32 0), (.int .u32 0), (.int .u32 0), (.int .u32 0), (.int .u32 0), (.int .u32 0), (.int .u32 0), (.int .u32 0), (.int .u32 0), (.int .u32 0), (.int .u32 0), (.int .u32 0), (.int .u32 0), (.int .u32 0), (.int .u32 0), (.int .u32 0), (.int .u32 0), (.int .u32 0), (.int .u32 0), (.int .u32 0), (.int .u32 0), (.int .u32 0), (.int .u32 0), (.int .u32 0), (.int .u32 0), (.int .u32 0), (.int .u32 0), (.int .u32 0), (.int .u32 0), (.int .u32 0), (.int .u32 0), (.int .u32 0), (.int .u32 0), (.int .u32 0), (.int .u32 0), (.int .u32 0), (.int .u32 0), (.int .u32 0), (.int .u32 0), (.int .u32 0), (.int .u32 0), (.int .u32 0), (.int .u32 0), (.int .u32 0), (.int .u32 0), (.int .u32 0), (.int .u32 0), (.int .u32 0), (.int .u32 0), (.int .u32 0), (.int .u32 0), (.int .u32 0), (.int .u32 0), (.int .u32 0), (.int .u32 0)])<| .nil)
 (.seq (.reg false <| oR 22 (.call 209 [])<|
 oR 6 (.alloc 242 [(.int .u32 0), (.int .u32 0), (.int .u32 0), (.int .u32 0), (.int .u32 0), (.int .u32 0), (.int .u32 0), (.int .u32 0), (.int .u32 0), (.int .u32 0), (.int .u32 0), (.int .u32 0), (.int .u32 0), (.int .u32 0), (.int .u32 0), (.int .u32 0), (.int .u32 0), (.int .u32 0), (.int .u32 0), (.int .u32 0), (.int .u32 0), (.int .u32 0), (.int .u32 0), (.int .u32 0), (.int .u32 0), (.int .u32 0), (.int .u32 0), (.int .u32 0), (.int .u32 0), (.int .u32 0), (.int .u32 0), (.int .u32 0), (.int .u32 0), (.int .u32 0), (.int .u32 0), (.int .u32 0), (.int .u32 0), (.int .u32 0), (.int .u32 0), (.int .u32 0), (.int .u32 0), (.int .u32 0), (.int .u32 0), (.int .u32 0), (.int .u32 0), (.int .u32 0), (.int .u32 0), (.int .u32 0), (.int .u32 0), (.int .u32 0), (.int .u32 0), (.int .u32 0), (.int .u32 0), (.int .u32 0), (.int .u32 0), (.int .u32 0), (.int .u32 0), (.int .u32 0), (.int .u32 0), (.int .u32 0), (.int .u32 0), (.int .u32 0), (.int .u32 0), (.int .u32 0)])<|
 oU 64 6 22<| .nil) (.seq (.seq (.reg false <| oO 7 0<| .nil) (.block 0 (.loop (.seq (.seq (.reg false <| oM 23 7<| oC 24 .lss 23 16<| .nil) (.cond (t 24) .skip (.exit 0)))
 (.seq (.block 1 (.reg true <| .join (oM 27 7<| oM 28 1<| oM 29 7<| oR 30 (.bin .mul (oi 4) (t 29))<| oI 31 1 28 30<| oL 32 31<| oV 33 .u32 32<|
 oR 34 (.bin .mul (t 33) (.const (.int .u32 16777216)))<| oM 35 1<| oM 36 7<| oR 37 (.bin .mul (oi 4) (t 36))<| oC 38 .add 37 1<| oI 39 1 35 38<| oL 40 39<| oV 41 .u32 40<|
 oR 42 (.bin .mul (t 41) (.const (.int .u32 65536)))<| oB 43 .add 34 42<| oM 44 1<| oM 45 7<| oR 46 (.bin .mul (oi 4) (t 45))<| oC 47 .add 46 2<| oI 48 1 44 47<| oL 49 48<|
 oV 50 .u32 49<| oR 51 (.bin .mul (t 50) (.const (.int .u32 256)))<| oB 52 .add 43 51<| oM 53 1<| oM 54 7<| oR 55 (.bin .mul (oi 4) (t 54))<| oC 56 .add 55 3<|
 oI 57 1 53 56<| oL 58 57<| oV 59 .u32 58<| oB 60 .add 52 59<| oR 61 (.indexArr 1 64 (t 5) (t 27))<| .nil) <|oS 61 60<| .nil)) (.reg false <| oM 25 7<| oC 26 .add 25 1<|
 oM 7 26<| .nil)))))) (.seq (.seq (.reg false <| oO 8 16<| .nil) (.block 2 (.loop (.seq (.seq (.reg false <| oM 62 8<| oC 63 .lss 62 64<| .nil)
 (.cond (t 63) .skip (.exit 2))) (.seq (.block 3 (.seq (.reg false <| oM 66 8<| oC 67 .sub 66 15<| oR 68 (.indexArr 1 64 (t 5) (t 67))<| oL 69 68<|
 oR 70 (.pcall 210 Go.Proofs.YtbnhinpegbcbeaaGreat.qRotU [(t 69), (.const (.int .u64 7))])<| oM 9 70<| .nil) (.seq (.reg false <| oM 71 8<| oC 72 .sub 71 15<|
 oR 73 (.indexArr 1 64 (t 5) (t 72))<| oL 74 73<| oR 75 (.pcall 210 Go.Proofs.YtbnhinpegbcbeaaGreat.qRotU [(t 74), (.const (.int .u64 18))])<| oM 10 75<| .nil)
 (.seq (.reg false <| oM 76 8<| oC 77 .sub 76 2<| oR 78 (.indexArr 1 64 (t 5) (t 77))<| oL 79 78<|
 oR 80 (.pcall 210 Go.Proofs.YtbnhinpegbcbeaaGreat.qRotU [(t 79), (.const (.int .u64 17))])<| oM 11 80<| .nil) (.seq (.reg false <| oM 81 8<| oC 82 .sub 81 2<|
 oR 83 (.indexArr 1 64 (t 5) (t 82))<| oL 84 83<| oR 85 (.pcall 210 Go.Proofs.YtbnhinpegbcbeaaGreat.qRotU [(t 84), (.const (.int .u64 19))])<| oM 12 85<| .nil)
 (.reg true <| .join (oM 86 8<| oM 87 8<| oC 88 .sub 87 16<| oR 89 (.indexArr 1 64 (t 5) (t 88))<| oL 90 89<| oM 91 9<| oM 92 10<| oB 93 .xor 91 92<| oM 94 8<|
 oC 95 .sub 94 15<| oR 96 (.indexArr 1 64 (t 5) (t 95))<| oL 97 96<| oR 98 (.bin .shr (t 97) (.const (.int .u64 3)))<| oB 99 .xor 93 98<| oB 100 .add 90 99<| oM 101 8<|
 oC 102 .sub 101 7<| oR 103 (.indexArr 1 64 (t 5) (t 102))<| oL 104 103<| oB 105 .add 100 104<| oM 106 11<| oM 107 12<| oB 108 .xor 106 107<| oM 109 8<| oC 110 .sub 109 2<|
 oR 111 (.indexArr 1 64 (t 5) (t 110))<| oL 112 111<| oR 113 (.bin .shr (t 112) (.const (.int .u64 10)))<| oB 114 .xor 108 113<| oB 115 .add 105 114<|
 oR 116 (.indexArr 1 64 (t 5) (t 86))<| .nil) <|oS 116 115<| .nil)))))) (.reg false <| oM 64 8<| oC 65 .add 64 1<| oM 8 65<| .nil)))))) (.seq (.reg false <| oK 117 8 2<|
 oR 13 (.alloc 240 [(.int .u32 0), (.int .u32 0), (.int .u32 0), (.int .u32 0), (.int .u32 0), (.int .u32 0), (.int .u32 0), (.int .u32 0)])<| oU 8 13 117<| .nil)
 (.seq (.seq (.reg false <| oO 14 0<| .nil) (.block 4 (.loop (.seq (.seq (.reg false <| oM 118 14<| oC 119 .lss 118 64<| .nil) (.cond (t 119) .skip (.exit 4)))
 (.seq (.block 5 (.seq (.reg false <| oR 122 (.indexArr 1 8 (t 13) (oi 4))<| oL 123 122<|
 oR 124 (.pcall 210 Go.Proofs.YtbnhinpegbcbeaaGreat.qRotU [(t 123), (.const (.int .u64 6))])<| oM 15 124<| .nil) (.seq (.reg false <| oR 125 (.indexArr 1 8 (t 13) (oi 4))<|
 oL 126 125<| oR 127 (.pcall 210 Go.Proofs.YtbnhinpegbcbeaaGreat.qRotU [(t 126), (.const (.int .u64 11))])<| oM 16 127<| .nil) (.seq (.reg false <|
 oR 128 (.indexArr 1 8 (t 13) (oi 4))<| oL 129 128<| oR 130 (.pcall 210 Go.Proofs.YtbnhinpegbcbeaaGreat.qRotU [(t 129), (.const (.int .u64 25))])<| oM 17 130<| .nil)
 (.seq (.reg true <| oR 131 (.indexArr 1 8 (t 13) (oi 7))<| oL 132 131<| oM 133 15<| oM 134 16<| oB 135 .xor 133 134<| oM 136 17<| oB 137 .xor 135 136<|
 oB 138 .add 132 137<| oR 139 (.indexArr 1 8 (t 13) (oi 4))<| oL 140 139<| oR 141 (.indexArr 1 8 (t 13) (oi 5))<| oL 142 141<| oB 143 .and 140 142<|
 oR 144 (.indexArr 1 8 (t 13) (oi 4))<| oL 145 144<| oR 146 (.unNeg true (t 145))<| oR 147 (.indexArr 1 8 (t 13) (oi 6))<| oL 148 147<| oB 149 .and 146 148<|
 oB 150 .xor 143 149<| oB 151 .add 138 150<| oM 152 14<| oR 153 (.indexArr 1 64 (t 6) (t 152))<| oL 154 153<| oB 155 .add 151 154<| oM 156 14<|
 oR 157 (.indexArr 1 64 (t 5) (t 156))<| oL 158 157<| oB 159 .add 155 158<| oM 18 159<| .nil) (.seq (.reg false <| oR 160 (.indexArr 1 8 (t 13) (oi 0))<| oL 161 160<|
 oR 162 (.pcall 210 Go.Proofs.YtbnhinpegbcbeaaGreat.qRotU [(t 161), (.const (.int .u64 2))])<| oM 15 162<| .nil) (.seq (.reg false <| oR 163 (.indexArr 1 8 (t 13) (oi 0))<|
 oL 164 163<| oR 165 (.pcall 210 Go.Proofs.YtbnhinpegbcbeaaGreat.qRotU [(t 164), (.const (.int .u64 13))])<| oM 16 165<| .nil) (.seq (.reg false <|
 oR 166 (.indexArr 1 8 (t 13) (oi 0))<| oL 167 166<| oR 168 (.pcall 210 Go.Proofs.YtbnhinpegbcbeaaGreat.qRotU [(t 167), (.const (.int .u64 22))])<| oM 17 168<| .nil)
 (.seq (.reg false <| oM 169 15<| oM 170 16<| oB 171 .xor 169 170<| oM 172 17<| oB 173 .xor 171 172<| oR 174 (.indexArr 1 8 (t 13) (oi 0))<| oL 175 174<|
 oR 176 (.indexArr 1 8 (t 13) (oi 1))<| oL 177 176<| oB 178 .and 175 177<| oR 179 (.indexArr 1 8 (t 13) (oi 0))<| oL 180 179<| oR 181 (.indexArr 1 8 (t 13) (oi 2))<|
 oL 182 181<| oB 183 .and 180 182<| oB 184 .xor 178 183<| oR 185 (.indexArr 1 8 (t 13) (oi 1))<| oL 186 185<| oR 187 (.indexArr 1 8 (t 13) (oi 2))<| oL 188 187<|
 oB 189 .and 186 188<| oB 190 .xor 184 189<| oB 191 .add 173 190<| oM 19 191<| .nil) (.seq (.seq (.reg false <| oO 20 7<| .nil) (.block 6 (.loop (.seq (.seq (.reg false <|
 oM 192 20<| oC 193 .gtr 192 0<| .nil) (.cond (t 193) .skip (.exit 6))) (.seq (.block 7 (.reg false <| oM 196 20<| oM 197 20<| oC 198 .sub 197 1<|
 oR 199 (.indexArr 1 8 (t 13) (t 198))<| oL 200 199<| oR 201 (.indexArr 1 8 (t 13) (t 196))<| oS 201 200<| .nil)) (.reg false <| oM 194 20<| oC 195 .sub 194 1<|
 oM 20 195<| .nil)))))) (.seq (.reg false <| oR 202 (.indexArr 1 8 (t 13) (oi 4))<| oL 203 202<| oM 204 18<| oB 205 .add 203 204<| oR 206 (.indexArr 1 8 (t 13) (oi 4))<|
 oS 206 205<| .nil) (.reg false <| oM 207 18<| oM 208 19<| oB 209 .add 207 208<| oR 210 (.indexArr 1 8 (t 13) (oi 0))<| oS 210 209<| .nil)))))))))))) (.reg false <|
 oM 120 14<| oC 121 .add 120 1<| oM 14 121<| .nil)))))) (.seq (.seq (.reg false <| oO 21 0<| .nil) (.block 8 (.loop (.seq (.seq (.reg false <| oM 211 21<|
 oC 212 .lss 211 8<| .nil) (.cond (t 212) .skip (.exit 8))) (.seq (.block 9 (.reg true <| .join (oM 215 21<| oM 216 21<| oR 217 (.indexArr 1 8 (t 13) (t 216))<|
 oL 218 217<| oM 219 21<| oR 220 (.indexArr 1 8 (t 2) (t 219))<| oL 221 220<| oB 222 .add 218 221<| oR 223 (.indexArr 1 8 (t 13) (t 215))<| .nil) <|oS 223 222<| .nil))
 (.reg false <| oM 213 21<| oC 214 .add 213 1<| oM 21 214<| .nil)))))) (.seq (.reg false <| oK 224 8 13<| oU 8 4 224<| .nil) .ret)))))))))
theorem s_kedgeref04_block : CS 225 k_kedgeref04_block [.cellN 8 4] F.kedgeref04_block :=
  cs Tryz.func194 (by kernel_rfl) (by kernel_rfl)
noncomputable def k_wire_witnessed_1 : KC :=
(.seq (.reg false <| oR 1 (.box 62 (t 0))<| oR 2 (.move (.const (.bool false)))<| .nil) (.seq (.reg false <| oF 3 3 1<| oL 4 3<| oD 5 4<| oC 6 .gtr 5 0<|
 oM 2 6<| .nil) .ret))
theorem s_wire_witnessed_1 : CS 7 k_wire_witnessed_1 [.tmp 2] F.wire_witnessed_1 :=
  cs Tryz.func195 (by kernel_rfl) (by kernel_rfl)
noncomputable def k_slices_Contains_L_int_int : KC :=
(.seq (.reg false <| oR 4 (.move (.const (.bool false)))<| .nil) (.seq (.reg false <| oM 5 0<| oM 6 1<| oR 7 (ob 213 5 6)<| oC 8 .geq 7 0<| oM 4 8<| .nil) .ret))
theorem s_slices_Contains_L_int_int : CS 9 k_slices_Contains_L_int_int [.tmp 4] F.slices_Contains_L_int_int :=
  cs Tryz.func203 (by kernel_rfl) (by kernel_rfl)
noncomputable def k_kedgeref04_k : KC :=
(.seq (.reg false <|
 oR 0 (.alloc 242 [(.int .u32 0), (.int .u32 0), (.int .u32 0), (.int .u32 0), (.int .u32 0), (.int .u32 0), (.int .u32 0), (.int .u32 0), (.int .u32 0), (.int .u32 0), (.int .u32 0), (.int .u32 0), (.int .u32 0), (.int .u32 0), (.int .u32 0), (.int .u32 0), (.int .u32 0), (.int .u32 0), (.int .u32 0), (.int .u32 0), (.int .u32 0), (.int .u32 0), (.int .u32 0), (.int .u32 0), (.int .u32 0), (.int .u32 0), (.int .u32 0), (.int .u32 0), (.int .u32 0), (.int .u32 0), (.int .u32 0), (.int .u32 0), (.int .u32 0), (.int .u32 0), (.int .u32 0), (.int .u32 0), (.int .u32 0), (.int .u32 0), (.int .u32 0), (.int .u32 0), (.int .u32 0), (.int .u32 0), (.int .u32 0), (.int .u32 0), (.int .u32 0), (.int .u32 0), (.int .u32 0), (.int .u32 0), (.int .u32 0), (.int .u32 0), (.int .u32 0), (.int .u32 0), (.int .u32 0), (.int .u32 0), (.int .u32 0), (.int .u32 0), (.int .u32 0), (.int .u32 0), (.int .u32 0), (.int .u32 0), (.int .u32 0), (.int .u32 0), (.int .u32 0), (.int .u32 0)])<| .nil)
 (.seq (.reg false <|
 oR 1 (.build [(.int .u32 0), (.int .u32 0), (.int .u32 0), (.int .u32 0), (.int .u32 0), (.int .u32 0), (.int .u32 0), (.int .u32 0), (.int .u32 0), (.int .u32 0), (.int .u32 0), (.int .u32 0), (.int .u32 0), (.int .u32 0), (.int .u32 0), (.int .u32 0), (.int .u32 0), (.int .u32 0), (.int .u32 0), (.int .u32 0), (.int .u32 0), (.int .u32 0), (.int .u32 0), (.int .u32 0), (.int .u32 0), (.int .u32 0), (.int .u32 0), (.int .u32 0), (.int .u32 0), (.int .u32 0), (.int .u32 0), (.int .u32 0), (.int .u32 0), (.int .u32 0), (.int .u32 0), (.int .u32 0), (.int .u32 0), (.int .u32 0), (.int .u32 0), (.int .u32 0), (.int .u32 0), (.int .u32 0), (.int .u32 0), (.int .u32 0), (.int .u32 0), (.int .u32 0), (.int .u32 0), (.int .u32 0), (.int .u32 0), (.int .u32 0), (.int .u32 0), (.int .u32 0), (.int .u32 0), (.int .u32 0), (.int .u32 0), (.int .u32 0), (.int .u32 0), (.int .u32 0), (.int .u32 0), (.int .u32 0), (.int .u32 0), (.int .u32 0), (.int .u32 0), (.int .u32 0)] [(0, 1, (.const (.int .u32 1116352408))), (1, 1, (.const (.int .u32 1899447441))), (2, 1, (.const (.int .u32 3049323471))), (3, 1, (.const (.int .u32 3921009573))), (4, 1, (.const (.int .u32 961987163))), (5, 1, (.const (.int .u32 1508970993))), (6, 1, (.const (.int .u32 2453635748))), (7, 1, (.const (.int .u32 2870763221))), (8, 1, (.const (.int .u32 3624381080))), (9, 1, (.const (.int .u32 310598401))), (10, 1, (.const (.int .u32 607225278))), (11, 1, (.const (.int .u32 1426881987))), (12, 1, (.const (.int .u32 1925078388))), (13, 1, (.const (.int .u32 2162078206))), (14, 1, (.const (.int .u32 2614888103))), (15, 1, (.const (.int .u32 3248222580))), (16, 1, (.const (.int .u32 3835390401))), (17, 1, (.const (.int .u32 4022224774))), (18, 1, (.const (.int .u32 264347078))), (19, 1, (.const (.int .u32 604807628))), (20, 1, (.const (.int .u32 770255983))), (21, 1, (.const (.int .u32 1249150122))), (22, 1, (.const (.int .u32 1555081692))), (23, 1, (.const (.int .u32 1996064986))), (24, 1, (.const (.int .u32 2554220882))), (25, 1, (.const (.int .u32 2821834349))), (26, 1, (.const (.int .u32 2952996808))), (27, 1, (.const (.int .u32 3210313671))), (28, 1, (.const (.int .u32 3336571891))), (29, 1, (.const (.int .u32 3584528711))), (30, 1, (.const (.int .u32 113926993))), (31, 1, (.const (.int .u32 338241895))), (32, 1, (.const (.int .u32 666307205))), (33, 1, (.const (.int .u32 773529912))), (34, 1, (.const (.int .u32 1294757372))), (35, 1, (.const (.int .u32 1396182291))), (36, 1, (.const (.int .u32 1695183700))), (37, 1, (.const (.int .u32 1986661051))), (38, 1, (.const (.int .u32 2177026350))), (39, 1, (.const (.int .u32 2456956037))), (40, 1, (.const (.int .u32 2730485921))), (41, 1, (.const (.int .u32 2820302411))), (42, 1, (.const (.int .u32 3259730800))), (43, 1, (.const (.int .u32 3345764771))), (44, 1, (.const (.int .u32 3516065817))), (45, 1, (.const (.int .u32 3600352804))), (46, 1, (.const (.int .u32 4094571909))), (47, 1, (.const (.int .u32 275423344))), (48, 1, (.const (.int .u32 430227734))), (49, 1, (.const (.int .u32 506948616))), (50, 1, (.const (.int .u32 659060556))), (51, 1, (.const (.int .u32 883997877))), (52, 1, (.const (.int .u32 958139571))), (53, 1, (.const (.int .u32 1322822218))), (54, 1, (.const (.int .u32 1537002063))), (55, 1, (.const (.int .u32 1747873779))), (56, 1, (.const (.int .u32 1955562222))), (57, 1, (.const (.int .u32 2024104815))), (58, 1, (.const (.int .u32 2227730452))), (59, 1, (.const (.int .u32 2361852424))), (60, 1, (.const (.int .u32 2428436474))), (61, 1, (.const (.int .u32 2756734187))), (62, 1, (.const (.int .u32 3204031479))), (63, 1, (.const (.int .u32 3329325298)))])<|
 oU 64 0 1<| .nil) .ret))
theorem s_kedgeref04_k : CS 2 k_kedgeref04_k [.cellN 64 0] F.kedgeref04_k :=
  cs Tryz.func209 (by kernel_rfl) (by kernel_rfl)
noncomputable def k_slices_Index_L_int_int : KC :=
(.seq (.reg false <| oO 4 0<| .nil) (.seq (.seq (.reg false <| oM 6 0<| oD 7 6<| oO 8 0<| .nil) (.block 0 (.loop (.seq (.reg false <| oB 9 .lss 8 7<| .nil)
 (.seq (.cond (t 9) .skip (.exit 0)) (.seq (.block 1 (.seq (.reg false <| oM 10 8<| oM 5 10<| .nil) (.seq (.reg false <| oM 11 1<| oM 12 0<| oM 13 5<| oI 14 1 12 13<|
 oL 15 14<| oB 16 .eql 11 15<| .nil) (.cond (t 16) (.seq (.reg false <| oM 17 5<| oM 4 17<| .nil) .ret) .skip)))) (.reg false <| oC 18 .add 8 1<| oM 8 18<| .nil)))))))
 (.seq (.reg false <| oO 4 (-1)<| .nil) .ret)))
theorem s_slices_Index_L_int_int : CS 19 k_slices_Index_L_int_int [.tmp 4] F.slices_Index_L_int_int :=
  cs Tryz.func213 (by kernel_rfl) (by kernel_rfl)
end Go.Proofs.YtbnhinpegbcbeaaGreat
end
