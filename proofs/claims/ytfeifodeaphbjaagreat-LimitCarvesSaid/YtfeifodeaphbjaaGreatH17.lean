/- The resolved code of functions, printed by program. -/
import Derived.Test.YtfeifodeaphbjaaGreatH15
set_option linter.unusedVariables false
set_option linter.unusedSimpArgs false
section
namespace Go.Proofs.YtfeifodeaphbjaaGreat
open Go Go.K
noncomputable def k_kedgeref05_Cut : KC :=
(.seq (.reg false <| oR 2 (.box 35 (t 0))<| oR 4 (.alloc 35 [(.int .u32 0), (.slice none 0 0), (.slice none 0 0), (.int .u32 0)])<| .nil) (.seq (.reg false <| oF 12 0 2<|
 oL 13 12<| oF 14 3 2<| oL 15 14<| oR 16 (.build [(.int .u32 0), (.slice none 0 0), (.slice none 0 0), (.int .u32 0)] [(0, 1, (t 13)), (3, 1, (t 15))])<|
 oR 5 (.alloc 35 [(.int .u32 0), (.slice none 0 0), (.slice none 0 0), (.int .u32 0)])<| oU 4 5 16<| .nil) (.seq (.seq (.reg false <| oO 6 0<| .nil)
 (.block 0 (.loop (.seq (.seq (.reg false <| oM 17 6<| oF 18 1 2<| oL 19 18<| oD 20 19<| oB 21 .lss 17 20<| oM 22 21<| oG 23 22 true (.move (t 6))<|
 oG 24 22 true (.move (t 1))<| oG 25 22 true (.bin .lss (t 23) (t 24))<| oR 26 (.pick (t 22) (t 25) (.const (.bool false)))<| .nil) (.cond (t 26) .skip (.exit 0)))
 (.seq (.block 1 (.seq (.reg true <| .join (oF 29 1 2<| oL 30 29<| oM 31 6<| oI 32 4 30 31<| oF 33 0 32<| oK 34 2 33<| oF 35 1 2<| oL 36 35<| oM 37 6<| oI 38 4 36 37<|
 oF 39 2 38<| oL 40 39<| oR 41 (.build [(.string ⟨#[]⟩), (.int .u32 0), (.int .u32 0), (.slice none 0 0)] [(0, 2, (t 34)), (2, 1, (t 40))])<|
 oR 7 (.alloc 50 [(.string ⟨#[]⟩), (.int .u32 0), (.int .u32 0), (.slice none 0 0)])<| .nil) <|oU 4 7 41<| .nil) (.seq (.seq (.reg false <| oF 42 0 7<| oF 43 0 42<|
 oL 44 43<| oR 45 (.len true (t 44))<| oC 46 .gtr 45 40<| .nil) (.cond (t 46) (.reg false <| oF 47 0 7<| oF 48 0 47<| oL 49 48<|
 oR 50 (.sliceStr (t 49) none (some (oi 40)))<| oF 51 0 7<| oF 52 0 51<| oS 52 50<| .nil) .skip)) (.seq (.seq (.reg false <| oO 8 0<| .nil)
 (.block 2 (.loop (.seq (.seq (.reg false <| oM 53 8<| oF 54 1 2<| oL 55 54<| oM 56 6<| oI 57 4 55 56<| oF 58 3 57<| oL 59 58<| oD 60 59<| oB 61 .lss 53 60<| oM 62 61<|
 oG 63 62 true (.move (t 8))<| oG 64 62 true (.bin .lss (t 63) (oi 6))<| oR 65 (.pick (t 62) (t 64) (.const (.bool false)))<| .nil) (.cond (t 65) .skip (.exit 2)))
 (.seq (.block 3 (.seq (.reg false <| oF 68 1 2<| oL 69 68<| oM 70 6<| oI 71 4 69 70<| oF 72 3 71<| oL 73 72<| oM 74 8<| oI 75 1 73 74<| oL 76 75<| oM 9 76<| .nil)
 (.seq (.seq (.reg false <| oM 77 9<| oR 78 (.len true (t 77))<| oC 79 .gtr 78 90<| .nil) (.cond (t 79) (.reg false <| oM 80 9<|
 oR 81 (.sliceStr (t 80) none (some (oi 90)))<| oM 9 81<| .nil) .skip)) (.reg false <| oF 82 3 7<| oL 83 82<| oM 84 9<|
 oR 85 (.buildSlice 9 1 [(.string ⟨#[]⟩)] [(0, 1, (t 84))])<| oR 86 (.append 9 1 16 [(.string ⟨#[]⟩)] (t 83) (t 85))<| oF 87 3 7<| oS 87 86<| .nil)))) (.reg false <|
 oM 66 8<| oC 67 .add 66 1<| oM 8 67<| .nil)))))) (.reg false <| oF 88 1 5<| oL 89 88<| oK 90 4 7<|
 oR 91 (.buildSlice 50 1 [(.string ⟨#[]⟩), (.int .u32 0), (.int .u32 0), (.slice none 0 0)] [(0, 4, (t 90))])<|
 oR 92 (.append 50 4 56 [(.string ⟨#[]⟩), (.int .u32 0), (.int .u32 0), (.slice none 0 0)] (t 89) (t 91))<| oF 93 1 5<| oS 93 92<| .nil))))) (.reg false <| oM 27 6<|
 oC 28 .add 27 1<| oM 6 28<| .nil)))))) (.seq (.seq (.reg false <| oO 10 0<| .nil) (.block 4 (.loop (.seq (.seq (.reg false <| oM 94 10<| oF 95 2 2<| oL 96 95<| oD 97 96<|
 oB 98 .lss 94 97<| oM 99 98<| oG 100 99 true (.move (t 10))<| oG 101 99 true (.move (t 1))<| oG 102 99 true (.bin .lss (t 100) (t 101))<|
 oR 103 (.pick (t 99) (t 102) (.const (.bool false)))<| .nil) (.cond (t 103) .skip (.exit 4))) (.seq (.block 5 (.seq (.reg false <| oF 106 2 2<| oL 107 106<| oM 108 10<|
 oI 109 2 107 108<| oK 110 2 109<| oR 11 (.alloc 58 [(.int .i64 0), (.string ⟨#[]⟩)])<| oU 2 11 110<| .nil) (.seq (.seq (.reg false <| oF 111 1 11<| oL 112 111<|
 oR 113 (.len true (t 112))<| oC 114 .gtr 113 50<| .nil) (.cond (t 114) (.reg false <| oF 115 1 11<| oL 116 115<| oR 117 (.sliceStr (t 116) none (some (oi 50)))<|
 oF 118 1 11<| oS 118 117<| .nil) .skip)) (.reg false <| oF 119 2 5<| oL 120 119<| oK 121 2 11<|
 oR 122 (.buildSlice 58 1 [(.int .i64 0), (.string ⟨#[]⟩)] [(0, 2, (t 121))])<| oR 123 (.append 58 2 24 [(.int .i64 0), (.string ⟨#[]⟩)] (t 120) (t 122))<| oF 124 2 5<|
 oS 124 123<| .nil)))) (.reg false <| oM 104 10<| oC 105 .add 104 1<| oM 10 105<| .nil)))))) (.seq (.reg false <| oK 125 4 5<| oU 4 4 125<| .nil) .ret)))))
theorem s_kedgeref05_Cut : CS 126 k_kedgeref05_Cut [.cellN 4 4] F.kedgeref05_Cut :=
  cs Tryz.func36 (by kernel_rfl) (by kernel_rfl)
noncomputable def k_kedgeref05_ID : KC :=
(.seq (.reg false <| oR 2 (.move (.const (.string ⟨#[]⟩)))<| .nil) (.seq (.reg false <| oR 3 (.move (.const (.string ⟨#[]⟩)))<| .nil) (.seq (.seq (.reg false <|
 oO 4 0<| .nil) (.block 0 (.loop (.seq (.seq (.reg false <| oM 5 4<| oC 6 .lss 5 32<| .nil) (.cond (t 6) .skip (.exit 0))) (.seq (.block 1 (.reg false <| oM 9 3<| oM 10 0<|
 oM 11 4<| oC 12 .rem 11 8<| oB 13 .shr 10 12<| oV 14 .u8 13<| oM 15 4<| oV 16 .u8 15<| oB 17 .xor 14 16<| oR 18 (.buildSlice 5 1 [(.int .u8 0)] [(0, 1, (t 17))])<|
 oR 19 (.strOf (t 18))<| oB 20 .add 9 19<| oM 3 20<| .nil)) (.reg false <| oM 7 4<| oC 8 .add 7 1<| oM 4 8<| .nil)))))) (.seq (.reg false <| oM 21 3<|
 oM 2 21<| .nil) .ret))))
theorem s_kedgeref05_ID : CS 22 k_kedgeref05_ID [.tmp 2] F.kedgeref05_ID :=
  cs Tryz.func37 (by kernel_rfl) (by kernel_rfl)
noncomputable def k_kedgeref07_ID : KC :=
(.seq (.reg false <| oR 1 (.box 35 (t 0))<| oR 2 (.move (.const (.string ⟨#[]⟩)))<| .nil) (.seq (.reg false <| oK 4 4 1<| oR 5 (.call 67 [(t 4), (.const (.bool true))])<|
 oM 3 5<| .nil) (.seq (.reg false <| oM 6 3<| oR 7 (oa 68 6)<| oM 2 7<| .nil) .ret)))
theorem s_kedgeref07_ID : CS 8 k_kedgeref07_ID [.tmp 2] F.kedgeref07_ID :=
  cs Tryz.func38 (by kernel_rfl) (by kernel_rfl)
noncomputable def k_kedgelaw15_next : KC :=
(.seq (.reg false <| oR 6 (.alloc 35 [(.int .u32 0), (.slice none 0 0), (.slice none 0 0), (.int .u32 0)])<| .nil) (.seq (.reg false <| oM 7 0<| oM 8 1<| oV 9 .u32 8<|
 oR 10 (.build [(.string ⟨#[]⟩), (.int .u32 0)] [(0, 1, (t 7)), (1, 1, (t 9))])<|
 oR 11 (.build [(.string ⟨#[]⟩), (.int .u32 0), (.int .u32 0), (.slice none 0 0)] [(0, 2, (t 10)), (2, 1, (.const (.int .u32 4294967293)))])<|
 oR 12 (.buildSlice 50 1 [(.string ⟨#[]⟩), (.int .u32 0), (.int .u32 0), (.slice none 0 0)] [(0, 4, (t 11))])<|
 oR 13 (.makeSlice 58 2 24 [(.int .i64 0), (.string ⟨#[]⟩)] (oi 3) (oi 3))<| oM 14 2<| oV 15 .u32 14<|
 oR 16 (.build [(.int .u32 0), (.slice none 0 0), (.slice none 0 0), (.int .u32 0)] [(0, 1, (.const (.int .u32 2))), (1, 1, (t 12)), (2, 1, (t 13)), (3, 1, (t 15))])<|
 oU 4 6 16<| .nil) .ret))
theorem s_kedgelaw15_next : CS 17 k_kedgelaw15_next [.cellN 4 6] F.kedgelaw15_next :=
  cs Tryz.func39 (by kernel_rfl) (by kernel_rfl)
noncomputable def k_graph_Graph_Sum : KC :=
(.seq (.reg false <| oO 4 0<| oO 5 0<| .nil) (.seq (.reg false <| oO 6 0<| oO 7 0<| .nil) (.seq (.reg false <| oR 13 (.makeMap)<| oM 8 13<| .nil)
 (.seq (.seq (.reg false <| oM 14 1<| oD 15 14<| oO 16 0<| .nil) (.block 0 (.loop (.seq (.reg false <| oB 17 .lss 16 15<| .nil) (.seq (.cond (t 17) .skip (.exit 0))
 (.seq (.block 1 (.seq (.reg false <| oI 18 1 14 16<| oL 19 18<| oM 10 19<| .nil) (.seq (.seq (.reg false <| oM 20 8<| oM 21 10<|
 oR 22 (.lookup false [.s] (.int .i64 0) false (t 20) (t 21))<| oC 23 .add 22 1<| oQ (.mapUpdate false [.s] (t 20) (t 21) (t 23))<| .nil) (.seq (.reg false <| oM 24 8<|
 oM 25 10<| oR 26 (.lookup false [.s] (.int .i64 0) false (t 24) (t 25))<| oC 27 .gtr 26 1<| .nil) (.cond (t 27) (.exit 1) .skip))) (.seq (.reg false <| oM 29 0<|
 oM 30 10<| oR 31 (ob 21 29 30)<| oM 28 31<| oX 32 0 28<| oX 33 1 28<|
 oR 11 (.alloc 39 [(.int .u32 0), (.slice none 0 0), (.slice none 0 0), (.int .u32 0), (.string ⟨#[]⟩), (.int .i64 0), (.int .i64 0)])<| oU 7 11 32<| oM 12 33<| .nil)
 (.reg true <| oM 34 6<| oF 35 5 11<| oL 36 35<| oB 37 .add 34 36<| oM 38 7<| oF 39 6 11<| oL 40 39<| oB 41 .add 38 40<| oM 6 37<| oM 7 41<| .nil))))) (.reg false <|
 oC 42 .add 16 1<| oM 16 42<| .nil))))))) (.seq (.reg false <| oM 43 6<| oM 44 7<| oM 4 43<| oM 5 44<| .nil) .ret)))))
theorem s_graph_Graph_Sum : CS 45 k_graph_Graph_Sum [.tmp 4, .tmp 5] F.graph_Graph_Sum :=
  cs Tryz.func40 (by kernel_rfl) (by kernel_rfl)
noncomputable def k_kedgeref14_Above : KC :=
(.seq (.reg false <| oR 3 (.box 35 (t 1))<| oR 4 (.move (.const (.slice none 0 0)))<| .nil) (.seq (.reg false <| oM 10 0<| oD 11 10<|
 oR 12 (.makeSlice 4 1 1 [(.bool false)] (t 11) (t 11))<| oM 5 12<| .nil) (.seq (.seq (.reg false <| oO 6 0<| .nil) (.block 0 (.loop (.seq (.seq (.reg false <| oM 13 6<|
 oM 14 0<| oD 15 14<| oB 16 .leq 13 15<| .nil) (.cond (t 16) .skip (.exit 0))) (.seq (.block 1 (.seq (.reg false <| oO 7 0<| .nil)
 (.block 2 (.loop (.seq (.seq (.reg false <| oM 19 7<| oM 20 0<| oD 21 20<| oB 22 .lss 19 21<| .nil) (.cond (t 22) .skip (.exit 2)))
 (.seq (.block 3 (.seq (.reg true <| .join (oK 25 4 3<| oM 26 0<| oM 27 7<| oI 28 7 26 27<| oK 29 7 28<| .nil) <|oR 30 (ob 46 25 29)<| oM 8 30<| .nil) (.seq (.reg false <|
 oM 31 5<| oM 32 7<| oM 33 5<| oM 34 7<| oI 35 1 33 34<| oL 36 35<| oM 37 36<| oG 38 37 false (.move (t 8))<| oR 39 (.pick (t 37) (.const (.bool true)) (t 38))<|
 oI 40 1 31 32<| oS 40 39<| .nil) (.seq (.reg false <| oO 9 0<| .nil) (.block 4 (.loop (.seq (.seq (.reg false <| oM 41 9<| oM 42 0<| oD 43 42<| oB 44 .lss 41 43<| .nil)
 (.cond (t 44) .skip (.exit 4))) (.seq (.block 5 (.seq (.reg true <| .join (oM 47 0<| oM 48 9<| oI 49 7 47 48<| oF 50 0 49<| oK 51 4 50<| oM 52 0<| oM 53 7<|
 oI 54 7 52 53<| oK 55 7 54<| .nil) <|oR 56 (ob 46 51 55)<| oM 8 56<| .nil) (.reg false <| oM 57 5<| oM 58 7<| oM 59 5<| oM 60 7<| oI 61 1 59 60<| oL 62 61<| oM 63 62<|
 oG 64 63 false (.move (t 5))<| oG 65 63 false (.move (t 9))<| oG 66 63 false (.indexAddr 1 (t 64) (t 65))<| oG 67 63 false (.load (t 66))<| oG 68 63 false (.move (t 67))<|
 oG 69 68 true (.move (t 8))<| oG 70 63 false (.pick (t 68) (t 69) (.const (.bool false)))<| oR 71 (.pick (t 63) (.const (.bool true)) (t 70))<| oI 72 1 57 58<|
 oS 72 71<| .nil))) (.reg false <| oM 45 9<| oC 46 .add 45 1<| oM 9 46<| .nil))))))))) (.reg false <| oM 23 7<| oC 24 .add 23 1<| oM 7 24<| .nil))))))) (.reg false <|
 oM 17 6<| oC 18 .add 17 1<| oM 6 18<| .nil)))))) (.seq (.reg false <| oM 73 5<| oM 4 73<| .nil) .ret))))
theorem s_kedgeref14_Above : CS 74 k_kedgeref14_Above [.tmp 4] F.kedgeref14_Above :=
  cs Tryz.func41 (by kernel_rfl) (by kernel_rfl)
noncomputable def k_kedgeref14_Sum : KC :=
(.seq (.reg false <| oO 4 0<| oO 5 0<| .nil) (.seq (.reg false <| oO 6 0<| .nil) (.seq (.reg false <| oO 7 0<| .nil) (.seq (.seq (.reg false <| oO 8 0<| .nil)
 (.block 0 (.loop (.seq (.seq (.reg false <| oM 9 8<| oM 10 0<| oD 11 10<| oB 12 .lss 9 11<| .nil) (.cond (t 12) .skip (.exit 0))) (.seq (.block 1 (.seq (.reg false <|
 oM 15 1<| oM 16 8<| oI 17 1 15 16<| oL 18 17<| .nil) (.cond (t 18) (.seq (.reg false <| oM 19 6<| oM 20 0<| oM 21 8<| oI 22 7 20 21<| oF 23 5 22<| oL 24 23<|
 oB 25 .add 19 24<| oM 6 25<| .nil) (.reg false <| oM 26 7<| oM 27 0<| oM 28 8<| oI 29 7 27 28<| oF 30 6 29<| oL 31 30<| oB 32 .add 26 31<| oM 7 32<| .nil)) .skip)))
 (.reg false <| oM 13 8<| oC 14 .add 13 1<| oM 8 14<| .nil)))))) (.seq (.reg false <| oM 33 6<| oM 34 7<| oM 4 33<| oM 5 34<| .nil) .ret)))))
theorem s_kedgeref14_Sum : CS 35 k_kedgeref14_Sum [.tmp 4, .tmp 5] F.kedgeref14_Sum :=
  cs Tryz.func42 (by kernel_rfl) (by kernel_rfl)
noncomputable def k_slices_Equal_L_string_string : KC :=
(.seq (.reg false <| oR 4 (.move (.const (.bool false)))<| .nil) (.seq (.seq (.reg false <| oM 6 0<| oD 7 6<| oM 8 1<| oD 9 8<| oB 10 .neq 7 9<| .nil)
 (.cond (t 10) (.seq (.reg false <| oR 4 (.move (.const (.bool false)))<| .nil) .ret) .skip)) (.seq (.seq (.reg false <| oM 11 0<| oD 12 11<| oO 13 0<| .nil)
 (.block 0 (.loop (.seq (.reg false <| oB 14 .lss 13 12<| .nil) (.seq (.cond (t 14) .skip (.exit 0)) (.seq (.block 1 (.seq (.reg false <| oM 15 13<| oM 5 15<| .nil)
 (.seq (.reg true <| oM 16 0<| oM 17 5<| oI 18 1 16 17<| oL 19 18<| oM 20 1<| oM 21 5<| oI 22 1 20 21<| oL 23 22<| oB 24 .neq 19 23<| .nil)
 (.cond (t 24) (.seq (.reg false <| oR 4 (.move (.const (.bool false)))<| .nil) .ret) .skip)))) (.reg false <| oC 25 .add 13 1<| oM 13 25<| .nil))))))) (.seq (.reg false <|
 oR 4 (.move (.const (.bool true)))<| .nil) .ret))))
theorem s_slices_Equal_L_string_string : CS 26 k_slices_Equal_L_string_string [.tmp 4] F.slices_Equal_L_string_string :=
  cs Tryz.func43 (by kernel_rfl) (by kernel_rfl)
noncomputable def k_kedgeref14_IDs : KC :=
(.seq (.reg false <| oR 4 (.move (.const (.slice none 0 0)))<| .nil) (.seq (.reg false <| oR 5 (.move (.const (.slice none 0 0)))<| .nil) (.seq (.seq (.reg false <|
 oO 6 0<| .nil) (.block 0 (.loop (.seq (.seq (.reg false <| oM 7 6<| oM 8 0<| oD 9 8<| oB 10 .lss 7 9<| .nil) (.cond (t 10) .skip (.exit 0)))
 (.seq (.block 1 (.seq (.reg false <| oM 13 1<| oM 14 6<| oI 15 1 13 14<| oL 16 15<| .nil) (.cond (t 16) (.reg false <| oM 17 5<| oM 18 0<| oM 19 6<| oI 20 7 18 19<|
 oF 21 4 20<| oL 22 21<| oR 23 (.buildSlice 9 1 [(.string ⟨#[]⟩)] [(0, 1, (t 22))])<| oR 24 (.append 9 1 16 [(.string ⟨#[]⟩)] (t 17) (t 23))<| oM 5 24<| .nil) .skip)))
 (.reg false <| oM 11 6<| oC 12 .add 11 1<| oM 6 12<| .nil)))))) (.seq (.reg false <| oM 25 5<| oM 4 25<| .nil) .ret))))
theorem s_kedgeref14_IDs : CS 26 k_kedgeref14_IDs [.tmp 4] F.kedgeref14_IDs :=
  cs Tryz.func44 (by kernel_rfl) (by kernel_rfl)
noncomputable def k_kedgeref14_Below : KC :=
(.seq (.reg false <| oR 4 (.move (.const (.slice none 0 0)))<| .nil) (.seq (.reg false <| oM 11 0<| oD 12 11<| oR 13 (.makeSlice 4 1 1 [(.bool false)] (t 12) (t 12))<|
 oM 5 13<| .nil) (.seq (.reg false <| oM 14 0<| oM 15 1<| oR 16 (ob 20 14 15)<| oM 6 16<| .nil) (.seq (.seq (.reg false <| oM 17 6<| oC 18 .lss 17 0<| .nil)
 (.cond (t 18) (.seq (.reg false <| oM 19 5<| oM 4 19<| .nil) .ret) .skip)) (.seq (.reg false <| oM 20 5<| oM 21 6<| oI 22 1 20 21<|
 oQ (.store (t 22) (.const (.bool true)))<| .nil) (.seq (.seq (.reg false <| oO 7 0<| .nil) (.block 0 (.loop (.seq (.seq (.reg false <| oM 23 7<| oM 24 0<| oD 25 24<|
 oB 26 .leq 23 25<| .nil) (.cond (t 26) .skip (.exit 0))) (.seq (.block 1 (.seq (.reg false <| oO 8 0<| .nil) (.block 2 (.loop (.seq (.seq (.reg false <| oM 29 8<|
 oM 30 0<| oD 31 30<| oB 32 .lss 29 31<| .nil) (.cond (t 32) .skip (.exit 2))) (.seq (.block 3 (.seq (.reg false <| oO 9 0<| .nil)
 (.block 4 (.loop (.seq (.seq (.reg false <| oM 35 9<| oM 36 0<| oD 37 36<| oB 38 .lss 35 37<| .nil) (.cond (t 38) .skip (.exit 4)))
 (.seq (.block 5 (.seq (.reg true <| .join (oM 41 0<| oM 42 8<| oI 43 7 41 42<| oF 44 0 43<| oK 45 4 44<| oM 46 0<| oM 47 9<| oI 48 7 46 47<|
 oK 49 7 48<| .nil) <|oR 50 (ob 46 45 49)<| oM 10 50<| .nil) (.reg false <| oM 51 5<| oM 52 8<| oM 53 5<| oM 54 8<| oI 55 1 53 54<| oL 56 55<| oM 57 56<|
 oG 58 57 false (.move (t 5))<| oG 59 57 false (.move (t 9))<| oG 60 57 false (.indexAddr 1 (t 58) (t 59))<| oG 61 57 false (.load (t 60))<| oG 62 57 false (.move (t 61))<|
 oG 63 62 true (.move (t 10))<| oG 64 57 false (.pick (t 62) (t 63) (.const (.bool false)))<| oR 65 (.pick (t 57) (.const (.bool true)) (t 64))<| oI 66 1 51 52<|
 oS 66 65<| .nil))) (.reg false <| oM 39 9<| oC 40 .add 39 1<| oM 9 40<| .nil))))))) (.reg false <| oM 33 8<| oC 34 .add 33 1<| oM 8 34<| .nil))))))) (.reg false <|
 oM 27 7<| oC 28 .add 27 1<| oM 7 28<| .nil)))))) (.seq (.reg false <| oM 67 5<| oM 4 67<| .nil) .ret)))))))
theorem s_kedgeref14_Below : CS 68 k_kedgeref14_Below [.tmp 4] F.kedgeref14_Below :=
  cs Tryz.func45 (by kernel_rfl) (by kernel_rfl)
noncomputable def k_kedgeref14_Hangs : KC :=
(.seq (.reg false <| oR 2 (.box 35 (t 0))<| oR 3 (.box 39 (t 1))<| oR 4 (.move (.const (.bool false)))<| .nil) (.seq (.seq (.reg false <| oO 5 0<| .nil)
 (.block 0 (.loop (.seq (.seq (.reg false <| oM 6 5<| oF 7 1 2<| oL 8 7<| oD 9 8<| oB 10 .lss 6 9<| .nil) (.cond (t 10) .skip (.exit 0)))
 (.seq (.block 1 (.seq (.reg true <| .join (oF 13 1 2<| oL 14 13<| oM 15 5<| oI 16 4 14 15<| oF 17 0 16<| oF 18 0 17<| oL 19 18<| oF 20 4 3<| oL 21 20<| oB 22 .eql 19 21<|
 oM 23 22<| oG 24 23 true (.fieldAddr 1 (t 2))<| oG 26 23 true (.move (t 5))<| oG 32 23 true (.fieldAddr 0 (t 3))<|
 oG 33 23 true (.fieldAddr 2 (t 32))<| .nil) <|oG 25 23 true (.load (t 24))<| oG 27 23 true (.indexAddr 4 (t 25) (t 26))<| oG 28 23 true (.fieldAddr 0 (t 27))<|
 oG 29 23 true (.fieldAddr 1 (t 28))<| oG 30 23 true (.load (t 29))<| oG 31 23 true (.conv .i64 (t 30))<| oG 34 23 true (.load (t 33))<| oG 35 23 true (.len false (t 34))<|
 oG 36 23 true (.bin .lss (t 31) (t 35))<| oR 37 (.pick (t 23) (t 36) (.const (.bool false)))<| .nil) (.cond (t 37) (.seq (.reg false <|
 oR 4 (.move (.const (.bool true)))<| .nil) .ret) .skip))) (.reg false <| oM 11 5<| oC 12 .add 11 1<| oM 5 12<| .nil)))))) (.seq (.reg false <|
 oR 4 (.move (.const (.bool false)))<| .nil) .ret)))
theorem s_kedgeref14_Hangs : CS 38 k_kedgeref14_Hangs [.tmp 4] F.kedgeref14_Hangs :=
  cs Tryz.func46 (by kernel_rfl) (by kernel_rfl)
noncomputable def k_graph_Graph_Copy : KC :=
(.seq (.reg false <| oR 2 (.move (.const (.pointer none)))<| .nil) (.seq (.seq (.reg false <| oM 3 0<| oR 4 (.eqNil false .pointer (t 3) (.const (.pointer none)))<| .nil)
 (.cond (t 4) (.seq (.reg false <| oR 2 (.move (.const (.pointer none)))<| .nil) .ret) .skip)) (.seq (.reg true <| .join (oM 5 0<| oR 6 (.nilCheck (t 5))<| oF 7 0 6<|
 oL 8 7<| oM 10 0<| oR 11 (.nilCheck (t 10))<| oF 12 1 11<| oM 15 0<| oR 16 (.nilCheck (t 15))<| oF 17 2 16<| .both (oR 9 (oa 69 8)<| oL 13 12<| .both (oR 14 (oa 70 13)<|
 oL 18 17<| .nil) (oL 18 17<| oR 14 (oa 70 13)<| .nil)) (.both (oL 13 12<| .both (oR 9 (oa 69 8)<| .both (oR 14 (oa 70 13)<| oL 18 17<| .nil) (oL 18 17<|
 oR 14 (oa 70 13)<| .nil)) (oL 18 17<| oR 9 (oa 69 8)<| oR 14 (oa 70 13)<| .nil)) (oL 18 17<| .both (oR 9 (oa 69 8)<| oL 13 12<| oR 14 (oa 70 13)<| .nil) (oL 13 12<|
 oR 9 (oa 69 8)<| oR 14 (oa 70 13)<| .nil)))) <|oR 19 (oa 71 18)<|
 oR 20 (.build [(.map none), (.slice none 0 0), (.map none)] [(0, 1, (t 9)), (1, 1, (t 14)), (2, 1, (t 19))])<| oR 21 (.box 101 (t 20))<| oM 2 21<| .nil) .ret)))
theorem s_graph_Graph_Copy : CS 22 k_graph_Graph_Copy [.tmp 2] F.graph_Graph_Copy :=
  cs Tryz.func47 (by kernel_rfl) (by kernel_rfl)
noncomputable def k_graph_Graph_Drop_1 : KC :=
(.seq (.reg false <| oR 3 (.move (.const (.bool false)))<| .nil) (.seq (.reg false <| oM 4 0<| oL 5 1<| oB 6 .eql 4 5<| oM 3 6<| .nil) .ret))
theorem s_graph_Graph_Drop_1 : CS 7 k_graph_Graph_Drop_1 [.tmp 3] F.graph_Graph_Drop_1 :=
  cs Tryz.func49 (by kernel_rfl) (by kernel_rfl)
noncomputable def k_graph_entry : KC :=
(.seq (.reg false <| oR 2 (.box 35 (t 0))<|
 oR 4 (.alloc 39 [(.int .u32 0), (.slice none 0 0), (.slice none 0 0), (.int .u32 0), (.string ⟨#[]⟩), (.int .i64 0), (.int .i64 0)])<| oO 5 0<| .nil) (.seq (.reg false <|
 oK 11 4 2<| oR 12 (oa 73 11)<| oM 10 12<| oX 13 0 10<| oX 14 1 10<| oM 6 13<| oM 7 14<| .nil) (.seq (.block 0 (.seq (.reg false <| oM 16 7<| oC 17 .neq 16 0<|
 oM 15 17<| .nil) (.cond (t 15) (.seq (.reg false <|
 oR 18 (.build [(.int .u32 0), (.slice none 0 0), (.slice none 0 0), (.int .u32 0), (.string ⟨#[]⟩), (.int .i64 0), (.int .i64 0)] [])<| oM 19 7<| oU 7 4 18<|
 oM 5 19<| .nil) .ret) (.seq (.reg false <| oK 21 4 2<| oR 22 (oa 74 21)<| oM 20 22<| .nil) (.cond (t 20) (.seq (.reg false <|
 oR 23 (.build [(.int .u32 0), (.slice none 0 0), (.slice none 0 0), (.int .u32 0), (.string ⟨#[]⟩), (.int .i64 0), (.int .i64 0)] [])<| oU 7 4 23<|
 oO 5 4<| .nil) .ret) (.seq (.reg false <| oM 25 1<| oR 26 (.pcall 75 Go.Proofs.YtfeifodeaphbjaaGreat.qGood [(t 25)])<| oT 27 26<| oM 24 27<| .nil)
 (.cond (t 24) (.seq (.reg false <| oR 28 (.build [(.int .u32 0), (.slice none 0 0), (.slice none 0 0), (.int .u32 0), (.string ⟨#[]⟩), (.int .i64 0), (.int .i64 0)] [])<|
 oU 7 4 28<| oO 5 3<| .nil) .ret) .skip))))))) (.seq (.reg false <| oK 30 4 2<| oR 31 (oa 63 30)<| oM 29 31<| oX 32 0 29<| oX 33 1 29<| oM 8 32<| oM 9 33<| .nil)
 (.seq (.reg false <| oK 34 4 2<| oR 35 (oa 56 34)<| oM 36 6<| oM 37 1<| oM 38 8<|
 oR 39 (.build [(.int .u32 0), (.slice none 0 0), (.slice none 0 0), (.int .u32 0), (.string ⟨#[]⟩), (.int .i64 0), (.int .i64 0)] [(0, 4, (t 35)), (4, 1, (t 36)), (5, 1, (t 37)), (6, 1, (t 38))])<|
 oU 7 4 39<| oO 5 0<| .nil) .ret)))))
theorem s_graph_entry : CS 40 k_graph_entry [.cellN 7 4, .tmp 5] F.graph_entry :=
  cs Tryz.func50 (by kernel_rfl) (by kernel_rfl)
noncomputable def k_kedgeref05_Check : KC :=
(.seq (.reg false <| oR 1 (.box 35 (t 0))<| oO 2 0<| .nil) (.seq (.seq (.reg false <| oF 11 1 1<| oL 12 11<| oD 13 12<| oC 14 .lss 13 1<| oM 15 14<|
 oG 16 15 false (.fieldAddr 1 (t 1))<| oG 17 15 false (.load (t 16))<| oG 18 15 false (.len false (t 17))<| oG 19 15 false (.bin .gtr (t 18) (oi 256))<|
 oR 20 (.pick (t 15) (.const (.bool true)) (t 19))<| oM 21 20<| oG 22 21 false (.fieldAddr 2 (t 1))<| oG 23 21 false (.load (t 22))<| oG 24 21 false (.len false (t 23))<|
 oG 25 21 false (.bin .lss (t 24) (oi 1))<| oR 26 (.pick (t 21) (.const (.bool true)) (t 25))<| oM 27 26<| oG 28 27 false (.fieldAddr 2 (t 1))<|
 oG 29 27 false (.load (t 28))<| oG 30 27 false (.len false (t 29))<| oG 31 27 false (.bin .gtr (t 30) (oi 256))<| oR 32 (.pick (t 27) (.const (.bool true)) (t 31))<| .nil)
 (.cond (t 32) (.seq (.reg false <| oO 2 6<| .nil) .ret) .skip)) (.seq (.seq (.reg false <| oO 3 0<| .nil) (.block 0 (.loop (.seq (.seq (.reg false <| oM 33 3<| oF 34 1 1<|
 oL 35 34<| oD 36 35<| oB 37 .lss 33 36<| .nil) (.cond (t 37) .skip (.exit 0))) (.seq (.block 1 (.seq (.reg false <| oF 40 1 1<| oL 41 40<| oM 42 3<| oI 43 4 41 42<|
 oF 44 3 43<| oL 45 44<| oD 46 45<| oC 47 .gtr 46 4<| .nil) (.cond (t 47) (.seq (.reg false <| oO 2 6<| .nil) .ret) .skip))) (.reg false <| oM 38 3<| oC 39 .add 38 1<|
 oM 3 39<| .nil)))))) (.seq (.reg false <| oK 48 4 1<| oR 49 (oa 76 48)<| oM 4 49<| .nil) (.seq (.seq (.reg false <| oM 50 4<| .nil) (.cond (t 50) (.seq (.reg false <|
 oO 2 20<| .nil) .ret) .skip)) (.seq (.seq (.reg false <| oO 5 0<| .nil) (.block 2 (.loop (.seq (.seq (.reg false <| oM 51 5<| oF 52 1 1<| oL 53 52<| oD 54 53<|
 oB 55 .lss 51 54<| .nil) (.cond (t 55) .skip (.exit 2))) (.seq (.block 3 (.seq (.reg false <| oF 58 1 1<| oL 59 58<| oM 60 5<| oI 61 4 59 60<| oF 62 0 61<| oK 63 2 62<|
 oR 64 (oa 52 63)<| oM 6 64<| .nil) (.seq (.reg false <| oF 65 1 1<| oL 66 65<| oM 67 5<| oI 68 4 66 67<| oF 69 0 68<| oF 70 0 69<| oL 71 70<| oR 72 (.len true (t 71))<|
 oC 73 .neq 72 32<| oM 74 73<| oG 75 74 false (.move (t 6))<| oG 76 74 false (.move (t 75))<| oG 77 76 true (.fieldAddr 1 (t 1))<| oG 78 76 true (.load (t 77))<|
 oG 79 76 true (.len false (t 78))<| oG 80 76 true (.bin .gtr (t 79) (oi 1))<| oG 81 74 false (.pick (t 76) (t 80) (.const (.bool false)))<|
 oR 82 (.pick (t 74) (.const (.bool true)) (t 81))<| .nil) (.cond (t 82) (.seq (.reg false <| oO 2 4<| .nil) .ret) .skip)))) (.reg false <| oM 56 5<| oC 57 .add 56 1<|
 oM 5 57<| .nil)))))) (.seq (.seq (.reg false <| oO 7 0<| .nil) (.block 4 (.loop (.seq (.seq (.reg false <| oM 83 7<| oF 84 1 1<| oL 85 84<| oD 86 85<|
 oB 87 .lss 83 86<| .nil) (.cond (t 87) .skip (.exit 4))) (.seq (.block 5 (.seq (.reg false <| oO 8 0<| .nil) (.block 6 (.loop (.seq (.seq (.reg false <| oM 90 8<|
 oM 91 7<| oB 92 .lss 90 91<| .nil) (.cond (t 92) .skip (.exit 6))) (.seq (.block 7 (.seq (.reg true <| .join (oF 95 1 1<| oL 96 95<| oM 97 7<| oI 98 4 96 97<| oF 99 0 98<|
 oF 100 0 99<| oL 101 100<| oF 102 1 1<| oL 103 102<| oM 104 8<| oI 105 4 103 104<| oF 106 0 105<| oF 107 0 106<| oL 108 107<| oB 109 .eql 101 108<| oM 110 109<|
 oG 111 110 true (.fieldAddr 1 (t 1))<| oG 113 110 true (.move (t 7))<| oG 118 110 true (.fieldAddr 1 (t 1))<|
 oG 120 110 true (.move (t 8))<| .nil) <|oG 112 110 true (.load (t 111))<| oG 114 110 true (.indexAddr 4 (t 112) (t 113))<| oG 115 110 true (.fieldAddr 0 (t 114))<|
 oG 116 110 true (.fieldAddr 1 (t 115))<| oG 117 110 true (.load (t 116))<| oG 119 110 true (.load (t 118))<| oG 121 110 true (.indexAddr 4 (t 119) (t 120))<|
 oG 122 110 true (.fieldAddr 0 (t 121))<| oG 123 110 true (.fieldAddr 1 (t 122))<| oG 124 110 true (.load (t 123))<| oG 125 110 true (.bin .eql (t 117) (t 124))<|
 oR 126 (.pick (t 110) (t 125) (.const (.bool false)))<| .nil) (.cond (t 126) (.seq (.reg false <| oO 2 7<| .nil) .ret) .skip))) (.reg false <| oM 93 8<| oC 94 .add 93 1<|
 oM 8 94<| .nil))))))) (.reg false <| oM 88 7<| oC 89 .add 88 1<| oM 7 89<| .nil)))))) (.seq (.reg false <| oK 128 4 1<| oR 129 (oa 77 128)<| oM 127 129<| oX 130 0 127<|
 oX 131 1 127<| oM 9 130<| oM 10 131<| .nil) (.seq (.reg false <| oM 132 10<| oM 2 132<| .nil) .ret)))))))))
theorem s_kedgeref05_Check : CS 133 k_kedgeref05_Check [.tmp 2] F.kedgeref05_Check :=
  cs Tryz.func51 (by kernel_rfl) (by kernel_rfl)
noncomputable def k_kedgeref05_Base : KC :=
(.seq (.reg false <| oR 1 (.box 25 (t 0))<| oR 2 (.move (.const (.bool false)))<| .nil) (.seq (.seq (.reg false <| oF 4 0 1<| oL 5 4<| oR 6 (.len true (t 5))<|
 oC 7 .neq 6 32<| oM 8 7<| oG 9 8 false (.fieldAddr 1 (t 1))<| oG 10 8 false (.load (t 9))<| oG 11 8 false (.bin .neq (t 10) (.const (.int .u32 4294967295)))<|
 oR 12 (.pick (t 8) (.const (.bool true)) (t 11))<| .nil) (.cond (t 12) (.seq (.reg false <| oR 2 (.move (.const (.bool false)))<| .nil) .ret) .skip))
 (.seq (.seq (.reg false <| oO 3 0<| .nil) (.block 0 (.loop (.seq (.seq (.reg false <| oM 13 3<| oC 14 .lss 13 32<| .nil) (.cond (t 14) .skip (.exit 0)))
 (.seq (.block 1 (.seq (.reg false <| oF 17 0 1<| oL 18 17<| oM 19 3<| oR 20 (.indexStr (t 18) (t 19))<| oR 21 (.bin .neq (t 20) (.const (.int .u8 0)))<| .nil)
 (.cond (t 21) (.seq (.reg false <| oR 2 (.move (.const (.bool false)))<| .nil) .ret) .skip))) (.reg false <| oM 15 3<| oC 16 .add 15 1<| oM 3 16<| .nil))))))
 (.seq (.reg false <| oR 2 (.move (.const (.bool true)))<| .nil) .ret))))
theorem s_kedgeref05_Base : CS 22 k_kedgeref05_Base [.tmp 2] F.kedgeref05_Base :=
  cs Tryz.func52 (by kernel_rfl) (by kernel_rfl)
noncomputable def k_kedgeref07_Size : KC :=
(.seq (.reg false <| oR 1 (.box 35 (t 0))<| oO 2 0<| .nil) (.seq (.reg false <| oK 4 4 1<| oR 5 (oa 78 4)<| oM 3 5<| .nil) (.seq (.seq (.reg false <| oM 6 3<|
 oC 7 .rem 6 4<| oC 8 .eql 7 0<| .nil) (.cond (t 8) (.seq (.reg false <| oM 9 3<| oC 10 .quo 9 4<| oM 2 10<| .nil) .ret) .skip)) (.seq (.reg false <| oM 11 3<|
 oC 12 .quo 11 4<| oC 13 .add 12 1<| oM 2 13<| .nil) .ret))))
theorem s_kedgeref07_Size : CS 14 k_kedgeref07_Size [.tmp 2] F.kedgeref07_Size :=
  cs Tryz.func54 (by kernel_rfl) (by kernel_rfl)
noncomputable def k_kedgeref05_Same : KC :=
(.seq (.reg false <| oR 2 (.box 35 (t 0))<| oR 3 (.box 35 (t 1))<| oR 4 (.move (.const (.bool false)))<| .nil) (.seq (.seq (.reg false <| oF 10 0 2<| oL 11 10<|
 oF 12 0 3<| oL 13 12<| oB 14 .neq 11 13<| oM 15 14<| oG 16 15 false (.fieldAddr 3 (t 2))<| oG 17 15 false (.load (t 16))<| oG 18 15 false (.fieldAddr 3 (t 3))<|
 oG 19 15 false (.load (t 18))<| oG 20 15 false (.bin .neq (t 17) (t 19))<| oR 21 (.pick (t 15) (.const (.bool true)) (t 20))<| oM 22 21<|
 oG 23 22 false (.fieldAddr 1 (t 2))<| oG 24 22 false (.load (t 23))<| oG 25 22 false (.len false (t 24))<| oG 26 22 false (.fieldAddr 1 (t 3))<|
 oG 27 22 false (.load (t 26))<| oG 28 22 false (.len false (t 27))<| oG 29 22 false (.bin .neq (t 25) (t 28))<| oR 30 (.pick (t 22) (.const (.bool true)) (t 29))<|
 oM 31 30<| oG 32 31 false (.fieldAddr 2 (t 2))<| oG 33 31 false (.load (t 32))<| oG 34 31 false (.len false (t 33))<| oG 35 31 false (.fieldAddr 2 (t 3))<|
 oG 36 31 false (.load (t 35))<| oG 37 31 false (.len false (t 36))<| oG 38 31 false (.bin .neq (t 34) (t 37))<| oR 39 (.pick (t 31) (.const (.bool true)) (t 38))<| .nil)
 (.cond (t 39) (.seq (.reg false <| oR 4 (.move (.const (.bool false)))<| .nil) .ret) .skip)) (.seq (.seq (.reg false <| oO 5 0<| .nil)
 (.block 0 (.loop (.seq (.seq (.reg false <| oM 40 5<| oF 41 1 2<| oL 42 41<| oD 43 42<| oB 44 .lss 40 43<| .nil) (.cond (t 44) .skip (.exit 0)))
 (.seq (.block 1 (.seq (.reg false <| oF 47 1 2<| oL 48 47<| oM 49 5<| oI 50 4 48 49<| oK 51 4 50<|
 oR 6 (.alloc 50 [(.string ⟨#[]⟩), (.int .u32 0), (.int .u32 0), (.slice none 0 0)])<| oU 4 6 51<| .nil) (.seq (.reg false <| oF 52 1 3<| oL 53 52<| oM 54 5<|
 oI 55 4 53 54<| oK 56 4 55<| oR 7 (.alloc 50 [(.string ⟨#[]⟩), (.int .u32 0), (.int .u32 0), (.slice none 0 0)])<| oU 4 7 56<| .nil) (.seq (.seq (.reg false <| oF 57 0 6<|
 oF 58 0 57<| oL 59 58<| oF 60 0 7<| oF 61 0 60<| oL 62 61<| oB 63 .neq 59 62<| oM 64 63<| oG 65 64 false (.fieldAddr 0 (t 6))<| oG 66 64 false (.fieldAddr 1 (t 65))<|
 oG 67 64 false (.load (t 66))<| oG 68 64 false (.fieldAddr 0 (t 7))<| oG 69 64 false (.fieldAddr 1 (t 68))<| oG 70 64 false (.load (t 69))<|
 oG 71 64 false (.bin .neq (t 67) (t 70))<| oR 72 (.pick (t 64) (.const (.bool true)) (t 71))<| oM 73 72<| oG 74 73 false (.fieldAddr 2 (t 6))<|
 oG 75 73 false (.load (t 74))<| oG 76 73 false (.fieldAddr 2 (t 7))<| oG 77 73 false (.load (t 76))<| oG 78 73 false (.bin .neq (t 75) (t 77))<|
 oR 79 (.pick (t 73) (.const (.bool true)) (t 78))<| oM 80 79<| oG 81 80 false (.fieldAddr 3 (t 6))<| oG 82 80 false (.load (t 81))<| oG 83 80 false (.len false (t 82))<|
 oG 84 80 false (.fieldAddr 3 (t 7))<| oG 85 80 false (.load (t 84))<| oG 86 80 false (.len false (t 85))<| oG 87 80 false (.bin .neq (t 83) (t 86))<|
 oR 88 (.pick (t 80) (.const (.bool true)) (t 87))<| .nil) (.cond (t 88) (.seq (.reg false <| oR 4 (.move (.const (.bool false)))<| .nil) .ret) .skip)) (.seq (.reg false <|
 oO 8 0<| .nil) (.block 2 (.loop (.seq (.seq (.reg false <| oM 89 8<| oF 90 3 6<| oL 91 90<| oD 92 91<| oB 93 .lss 89 92<| .nil) (.cond (t 93) .skip (.exit 2)))
 (.seq (.block 3 (.seq (.reg true <| oF 96 3 6<| oL 97 96<| oM 98 8<| oI 99 1 97 98<| oL 100 99<| oF 101 3 7<| oL 102 101<| oM 103 8<| oI 104 1 102 103<| oL 105 104<|
 oB 106 .neq 100 105<| .nil) (.cond (t 106) (.seq (.reg false <| oR 4 (.move (.const (.bool false)))<| .nil) .ret) .skip))) (.reg false <| oM 94 8<| oC 95 .add 94 1<|
 oM 8 95<| .nil)))))))))) (.reg false <| oM 45 5<| oC 46 .add 45 1<| oM 5 46<| .nil)))))) (.seq (.seq (.reg false <| oO 9 0<| .nil)
 (.block 4 (.loop (.seq (.seq (.reg false <| oM 107 9<| oF 108 2 2<| oL 109 108<| oD 110 109<| oB 111 .lss 107 110<| .nil) (.cond (t 111) .skip (.exit 4)))
 (.seq (.block 5 (.seq (.reg true <| .join (oF 114 2 2<| oL 115 114<| oM 116 9<| oI 117 2 115 116<| oF 118 0 117<| oL 119 118<| oF 120 2 3<| oL 121 120<| oM 122 9<|
 oI 123 2 121 122<| oF 124 0 123<| oL 125 124<| oB 126 .neq 119 125<| oM 127 126<| oG 128 127 false (.fieldAddr 2 (t 2))<| oG 130 127 false (.move (t 9))<|
 oG 134 127 false (.fieldAddr 2 (t 3))<| oG 136 127 false (.move (t 9))<| .nil) <|oG 129 127 false (.load (t 128))<| oG 131 127 false (.indexAddr 2 (t 129) (t 130))<|
 oG 132 127 false (.fieldAddr 1 (t 131))<| oG 133 127 false (.load (t 132))<| oG 135 127 false (.load (t 134))<| oG 137 127 false (.indexAddr 2 (t 135) (t 136))<|
 oG 138 127 false (.fieldAddr 1 (t 137))<| oG 139 127 false (.load (t 138))<| oG 140 127 false (.bin .neq (t 133) (t 139))<|
 oR 141 (.pick (t 127) (.const (.bool true)) (t 140))<| .nil) (.cond (t 141) (.seq (.reg false <| oR 4 (.move (.const (.bool false)))<| .nil) .ret) .skip))) (.reg false <|
 oM 112 9<| oC 113 .add 112 1<| oM 9 113<| .nil)))))) (.seq (.reg false <| oR 4 (.move (.const (.bool true)))<| .nil) .ret)))))
theorem s_kedgeref05_Same : CS 142 k_kedgeref05_Same [.tmp 4] F.kedgeref05_Same :=
  cs Tryz.func55 (by kernel_rfl) (by kernel_rfl)
noncomputable def k_tx_Copy : KC :=
(.seq (.reg false <| oR 1 (.box 35 (t 0))<| oR 2 (.alloc 35 [(.int .u32 0), (.slice none 0 0), (.slice none 0 0), (.int .u32 0)])<| .nil)
 (.seq (.reg true <| .join (oF 4 1 1<| oL 5 4<| oF 7 2 1<| .both (oR 6 (oa 79 5)<| oL 8 7<| oF 10 1 1<| .nil) (oL 8 7<| oR 6 (oa 79 5)<|
 oF 10 1 1<| .nil)) <|oR 9 (oa 80 8)<| oS 10 6<| oF 11 2 1<| oS 11 9<| .nil) (.seq (.seq (.reg false <| oF 12 1 1<| oL 13 12<| oD 14 13<| oO 15 0<| .nil)
 (.block 0 (.loop (.seq (.reg false <| oB 16 .lss 15 14<| .nil) (.seq (.cond (t 16) .skip (.exit 0)) (.seq (.block 1 (.seq (.reg false <| oM 17 15<| oM 3 17<| .nil)
 (.reg true <| .join (oF 18 1 1<| oM 20 3<| oF 21 1 1<| oL 22 21<| oM 23 3<| oI 24 4 22 23<| oF 25 3 24<| oL 26 25<| .both (oL 19 18<| oR 27 (oa 70 26)<| oI 28 4 19 20<|
 oF 29 3 28<| .nil) (oR 27 (oa 70 26)<| oL 19 18<| oI 28 4 19 20<| oF 29 3 28<| .nil)) <|oS 29 27<| .nil))) (.reg false <| oC 30 .add 15 1<| oM 15 30<| .nil)))))))
 (.seq (.reg false <| oK 31 4 1<| oU 4 2 31<| .nil) .ret))))
theorem s_tx_Copy : CS 32 k_tx_Copy [.cellN 4 2] F.tx_Copy :=
  cs Tryz.func56 (by kernel_rfl) (by kernel_rfl)
noncomputable def k_graph_Graph_reach : KC :=
(.seq (.reg false <| oR 6 (.move (.const (.slice none 0 0)))<| .nil) (.seq (.reg false <| oR 9 (.makeMap)<| oR 7 (.alloc 121 [(.map none)])<| oS 7 9<| .nil)
 (.seq (.seq (.reg false <| oM 10 1<| oM 8 10<| .nil) (.block 0 (.loop (.seq (.seq (.reg false <| oM 11 8<| oD 12 11<| oC 13 .gtr 12 0<| .nil)
 (.cond (t 13) .skip (.exit 0))) (.seq (.block 1 (.seq (.reg true <| .join (oL 16 7<| oM 17 8<| oR 18 (.indexAddr 1 (t 17) (oi 0))<|
 oL 19 18<| .nil) <|oR 20 (.lookup false [.s] (.int .i64 0) false (t 16) (t 19))<| oC 21 .add 20 1<| oQ (.mapUpdate false [.s] (t 16) (t 19) (t 21))<| .nil)
 (.seq (.reg true <| .join (oL 22 7<| oM 23 8<| oR 24 (.indexAddr 1 (t 23) (oi 0))<| oL 25 24<| .nil) <|oR 26 (.lookup false [.s] (.int .i64 0) false (t 22) (t 25))<|
 oC 27 .eql 26 1<| .nil) (.cond (t 27) (.reg true <| .join (oM 28 8<| oM 29 2<| oM 30 0<| oR 31 (.nilCheck (t 30))<| oF 32 0 31<| oL 33 32<| oM 34 8<|
 oR 35 (.indexAddr 1 (t 34) (oi 0))<|
 oL 36 35<| .nil) <|oR 37 (.lookup false [.s] (.agg #[(.int .u32 0), (.slice none 0 0), (.slice none 0 0), (.int .u32 0), (.string ⟨#[]⟩), (.int .i64 0), (.int .i64 0)]) false (t 33) (t 36))<|
 oR 38 (.callV (t 29) [(t 37)])<| oR 39 (.buildSlice 48 2 [(.slice none 0 0), (.slice none 0 0)] [(0, 1, (t 28)), (1, 1, (t 38))])<| oR 40 (oa 81 39)<|
 oM 8 40<| .nil) .skip)))) (.reg false <| oM 14 8<| oR 15 (.sliceSl 1 (t 14) (some (oi 1)) none)<| oM 8 15<| .nil)))))) (.seq (.reg false <| oM 41 0<|
 oR 42 (.nilCheck (t 41))<| oF 43 1 42<| oL 44 43<| oR 45 (oa 70 44)<| oR 46 (.makeFunc (.func 82) [] [(t 7)])<| oR 47 (ob 48 45 46)<| oM 6 47<| .nil) .ret))))
theorem s_graph_Graph_reach : CS 48 k_graph_Graph_reach [.tmp 6] F.graph_Graph_reach :=
  cs Tryz.func57 (by kernel_rfl) (by kernel_rfl)
noncomputable def k_graph_Graph_parents : KC :=
(.seq (.reg false <| oR 3 (.box 35 (t 1))<| oR 4 (.move (.const (.slice none 0 0)))<| .nil) (.seq (.reg false <| oR 5 (.move (.const (.slice none 0 0)))<| .nil)
 (.seq (.seq (.reg false <| oF 10 1 3<| oL 11 10<| oD 12 11<| oO 13 0<| .nil) (.block 0 (.loop (.seq (.reg false <| oB 14 .lss 13 12<| .nil)
 (.seq (.cond (t 14) .skip (.exit 0)) (.seq (.block 1 (.seq (.reg false <| oI 15 4 11 13<| oK 16 4 15<|
 oR 7 (.alloc 50 [(.string ⟨#[]⟩), (.int .u32 0), (.int .u32 0), (.slice none 0 0)])<| oU 4 7 16<| .nil) (.seq (.reg false <| oM 18 0<| oF 19 0 7<| oK 20 2 19<|
 oR 21 (ob 24 18 20)<| oM 17 21<| oX 22 0 17<| oX 23 1 17<| oR 8 (.alloc 58 [(.int .i64 0), (.string ⟨#[]⟩)])<| oU 2 8 22<| oM 9 23<| .nil) (.seq (.reg false <|
 oM 24 9<| .nil) (.cond (t 24) (.reg false <| oM 25 5<| oF 26 0 7<| oF 27 0 26<| oL 28 27<| oR 29 (.buildSlice 9 1 [(.string ⟨#[]⟩)] [(0, 1, (t 28))])<|
 oR 30 (.append 9 1 16 [(.string ⟨#[]⟩)] (t 25) (t 29))<| oM 5 30<| .nil) .skip))))) (.reg false <| oC 31 .add 13 1<| oM 13 31<| .nil))))))) (.seq (.reg false <| oM 32 5<|
 oM 4 32<| .nil) .ret))))
theorem s_graph_Graph_parents : CS 33 k_graph_Graph_parents [.tmp 4] F.graph_Graph_parents :=
  cs Tryz.func58 (by kernel_rfl) (by kernel_rfl)
noncomputable def k_graph_Graph_Above_1 : KC :=
(.seq (.reg false <| oR 2 (.box 39 (t 0))<| oR 3 (.move (.const (.slice none 0 0)))<| .nil) (.seq (.reg false <| oL 4 1<| oF 5 0 2<| oK 6 4 5<| oR 7 (ob 58 4 6)<|
 oM 3 7<| .nil) .ret))
theorem s_graph_Graph_Above_1 : CS 8 k_graph_Graph_Above_1 [.tmp 3] F.graph_Graph_Above_1 :=
  cs Tryz.func59 (by kernel_rfl) (by kernel_rfl)
noncomputable def k_slices_Index_L_string_string : KC :=
(.seq (.reg false <| oO 4 0<| .nil) (.seq (.seq (.reg false <| oM 6 0<| oD 7 6<| oO 8 0<| .nil) (.block 0 (.loop (.seq (.reg false <| oB 9 .lss 8 7<| .nil)
 (.seq (.cond (t 9) .skip (.exit 0)) (.seq (.block 1 (.seq (.reg false <| oM 10 8<| oM 5 10<| .nil) (.seq (.reg false <| oM 11 1<| oM 12 0<| oM 13 5<| oI 14 1 12 13<|
 oL 15 14<| oB 16 .eql 11 15<| .nil) (.cond (t 16) (.seq (.reg false <| oM 17 5<| oM 4 17<| .nil) .ret) .skip)))) (.reg false <| oC 18 .add 8 1<| oM 8 18<| .nil)))))))
 (.seq (.reg false <| oO 4 (-1)<| .nil) .ret)))
theorem s_slices_Index_L_string_string : CS 19 k_slices_Index_L_string_string [.tmp 4] F.slices_Index_L_string_string :=
  cs Tryz.func60 (by kernel_rfl) (by kernel_rfl)
noncomputable def k_graph_Graph_children : KC :=
(.seq (.reg false <| oR 3 (.box 39 (t 1))<| oR 4 (.move (.const (.slice none 0 0)))<| .nil) (.seq (.reg false <| oR 5 (.move (.const (.slice none 0 0)))<| .nil)
 (.seq (.seq (.reg false <| oF 9 0 3<| oF 10 2 9<| oL 11 10<| oD 12 11<| oO 13 0<| .nil) (.block 0 (.loop (.seq (.reg false <| oB 14 .lss 13 12<| .nil)
 (.seq (.cond (t 14) .skip (.exit 0)) (.seq (.block 1 (.seq (.reg false <| oM 15 13<| oM 6 15<| .nil) (.seq (.reg false <| oM 17 0<| oF 18 4 3<| oL 19 18<| oM 20 6<|
 oV 21 .u32 20<| oR 22 (.build [(.string ⟨#[]⟩), (.int .u32 0)] [(0, 1, (t 19)), (1, 1, (t 21))])<| oR 23 (ob 22 17 22)<| oM 16 23<| oX 24 0 16<| oX 25 1 16<| oM 7 24<|
 oM 8 25<| .nil) (.seq (.reg false <| oM 26 8<| .nil) (.cond (t 26) (.reg false <| oM 27 5<| oM 28 7<| oR 29 (.buildSlice 9 1 [(.string ⟨#[]⟩)] [(0, 1, (t 28))])<|
 oR 30 (.append 9 1 16 [(.string ⟨#[]⟩)] (t 27) (t 29))<| oM 5 30<| .nil) .skip))))) (.reg false <| oC 31 .add 13 1<| oM 13 31<| .nil))))))) (.seq (.reg false <| oM 32 5<|
 oM 4 32<| .nil) .ret))))
theorem s_graph_Graph_children : CS 33 k_graph_Graph_children [.tmp 4] F.graph_Graph_children :=
  cs Tryz.func61 (by kernel_rfl) (by kernel_rfl)
noncomputable def k_kedgelaw15_made : KC :=
(.seq (.reg false <| oR 5 (.box 72 (t 1))<| oR 8 (.alloc 35 [(.int .u32 0), (.slice none 0 0), (.slice none 0 0), (.int .u32 0)])<| .nil) (.seq (.reg false <| oM 11 3<|
 oR 12 (.buildSlice 5 1 [(.int .u8 0)] [(0, 1, (t 11))])<| oM 13 2<| oV 14 .u8 13<| oM 15 3<| oR 16 (.bin .shr (t 15) (.const (.int .u64 5)))<|
 oR 17 (.build [(.slice none 0 0), (.int .u8 0), (.int .u8 0), (.int .i64 0), (.int .u8 0), (.int .u8 0)] [(0, 1, (t 12)), (2, 1, (.const (.int .u8 2))), (4, 1, (t 14)), (1, 1, (t 16))])<|
 oR 9 (.alloc 31 [(.slice none 0 0), (.int .u8 0), (.int .u8 0), (.int .i64 0), (.int .u8 0), (.int .u8 0)])<| oU 6 9 17<| .nil) (.seq (.seq (.reg false <| oM 18 2<|
 oF 19 1 5<| oL 20 19<| oD 21 20<| oB 22 .lss 18 21<| oM 23 22<| oG 24 23 true (.fieldAddr 1 (t 5))<| oG 25 23 true (.load (t 24))<| oG 26 23 true (.move (t 2))<|
 oG 27 23 true (.indexAddr 1 (t 25) (t 26))<| oG 28 23 true (.load (t 27))<| oG 29 23 true (.bin .lss (t 28) (.const (.int .u8 128)))<|
 oR 30 (.pick (t 23) (t 29) (.const (.bool false)))<| .nil) (.cond (t 30) (.seq (.reg true <| .join (oF 31 0 9<| oF 33 1 5<| oL 34 33<| oM 35 2<| oI 36 1 34 35<|
 oL 37 36<| .both (oL 32 31<| oR 38 (.buildSlice 5 1 [(.int .u8 0)] [(0, 1, (t 37))])<| .nil) (oR 38 (.buildSlice 5 1 [(.int .u8 0)] [(0, 1, (t 37))])<|
 oL 32 31<| .nil)) <|oR 39 (.append 5 1 1 [(.int .u8 0)] (t 32) (t 38))<| oF 40 0 9<| oS 40 39<| .nil) (.reg false <| oF 41 1 9<| oL 42 41<|
 oR 43 (.bin .or (t 42) (.const (.int .u8 4)))<| oF 44 1 9<| oS 44 43<| .nil)) .skip)) (.seq (.seq (.reg false <| oM 45 2<| oF 46 2 5<| oL 47 46<| oD 48 47<|
 oB 49 .lss 45 48<| oM 50 49<| oG 51 50 true (.fieldAddr 3 (t 5))<| oG 52 50 true (.load (t 51))<| oG 53 50 true (.not (t 52))<|
 oR 54 (.pick (t 50) (t 53) (.const (.bool false)))<| .nil) (.cond (t 54) (.reg false <| oF 55 2 5<| oL 56 55<| oM 57 2<| oI 58 1 56 57<| oL 59 58<| oF 60 5 9<|
 oS 60 59<| .nil) .skip)) (.seq (.reg false <| oM 61 0<| oK 62 6 9<| oR 63 (ob 32 61 62)<|
 oR 10 (.alloc 35 [(.int .u32 0), (.slice none 0 0), (.slice none 0 0), (.int .u32 0)])<| oU 4 10 63<| .nil) (.seq (.reg false <| oF 64 1 10<| oL 65 64<|
 oR 66 (.indexAddr 4 (t 65) (oi 0))<| oF 67 0 66<| oF 68 1 67<| oL 69 68<| oR 70 (.bin .rem (t 69) (.const (.int .u32 3)))<| oR 71 (.indexAddr 4 (t 65) (oi 0))<|
 oF 72 0 71<| oF 73 1 72<| oS 73 70<| .nil) (.seq (.reg false <| oK 74 4 10<| oU 4 8 74<| .nil) .ret)))))))
theorem s_kedgelaw15_made : CS 75 k_kedgelaw15_made [.cellN 4 8] F.kedgelaw15_made :=
  cs Tryz.func62 (by kernel_rfl) (by kernel_rfl)
noncomputable def k_ident_Size : KC :=
(.seq (.reg false <| oR 1 (.box 35 (t 0))<| oO 2 0<| oO 3 0<| .nil) (.seq (.reg false <| oK 7 4 1<| oR 8 (oa 83 7)<| oM 6 8<| oX 9 0 6<| oX 10 1 6<| oM 4 9<|
 oM 5 10<| .nil) (.seq (.reg false <| oM 11 4<| oC 12 .add 11 4<| oC 13 .sub 12 1<| oC 14 .quo 13 4<| oM 15 5<| oM 2 14<| oM 3 15<| .nil) .ret)))
theorem s_ident_Size : CS 16 k_ident_Size [.tmp 2, .tmp 3] F.ident_Size :=
  cs Tryz.func63 (by kernel_rfl) (by kernel_rfl)
noncomputable def k_limit_within : KC :=
(.seq (.reg false <| oR 10 (.move (.const (.bool false)))<| .nil) (.seq (.reg false <| oM 14 0<| oM 15 1<| oR 16 (ob 40 14 15)<| oM 13 16<| oX 17 0 13<| oX 18 1 13<|
 oM 11 17<| oM 12 18<| .nil) (.seq (.reg false <| oM 19 1<| oD 20 19<| oC 21 .add 20 1<| oM 22 3<| oB 23 .leq 21 22<| oM 24 23<| oG 25 24 true (.move (t 12))<|
 oG 26 24 true (.move (t 2))<| oG 27 24 true (.bin .add (t 25) (t 26))<| oG 28 24 true (.move (t 4))<| oG 29 24 true (.bin .leq (t 27) (t 28))<|
 oR 30 (.pick (t 24) (t 29) (.const (.bool false)))<| oM 10 30<| .nil) .ret)))
theorem s_limit_within : CS 31 k_limit_within [.tmp 10] F.limit_within :=
  cs Tryz.func64 (by kernel_rfl) (by kernel_rfl)
noncomputable def k_limit_housed : KC :=
(.seq (.reg false <| oR 10 (.move (.const (.bool false)))<| .nil) (.seq (.seq (.reg false <| oM 13 1<| oD 14 13<| oO 15 0<| .nil) (.block 0 (.loop (.seq (.reg false <|
 oB 16 .lss 15 14<| .nil) (.seq (.cond (t 16) .skip (.exit 0)) (.seq (.block 1 (.seq (.reg false <| oI 17 1 13 15<| oL 18 17<| oM 12 18<| .nil) (.seq (.reg false <|
 oM 19 0<| oM 20 0<| oM 21 12<| oR 22 (ob 30 20 21)<| oM 23 2<| oM 24 3<| oM 25 4<| oR 26 (.call 64 [(t 19), (t 22), (t 23), (t 24), (t 25)])<| oT 27 26<| .nil)
 (.cond (t 27) (.seq (.reg false <| oR 10 (.move (.const (.bool false)))<| .nil) .ret) .skip)))) (.reg false <| oC 28 .add 15 1<| oM 15 28<| .nil)))))))
 (.seq (.reg false <| oR 10 (.move (.const (.bool true)))<| .nil) .ret)))
theorem s_limit_housed : CS 29 k_limit_housed [.tmp 10] F.limit_housed :=
  cs Tryz.func65 (by kernel_rfl) (by kernel_rfl)
noncomputable def k_kedgeref15_count : KC :=
(.seq (.reg false <| oO 2 0<| .nil) (.seq (.reg false <| oO 3 0<| .nil) (.seq (.seq (.reg false <| oO 4 0<| .nil) (.block 0 (.loop (.seq (.seq (.reg false <| oM 5 4<|
 oM 6 0<| oD 7 6<| oB 8 .lss 5 7<| .nil) (.cond (t 8) .skip (.exit 0))) (.seq (.block 1 (.seq (.reg false <| oM 11 0<| oM 12 4<| oI 13 1 11 12<| oL 14 13<| .nil)
 (.cond (t 14) (.reg false <| oM 15 3<| oC 16 .add 15 1<| oM 3 16<| .nil) .skip))) (.reg false <| oM 9 4<| oC 10 .add 9 1<| oM 4 10<| .nil)))))) (.seq (.reg false <|
 oM 17 3<| oM 2 17<| .nil) .ret))))
theorem s_kedgeref15_count : CS 18 k_kedgeref15_count [.tmp 2] F.kedgeref15_count :=
  cs Tryz.func66 (by kernel_rfl) (by kernel_rfl)
noncomputable def k_kedgeref06_Bytes : KC :=
(.seq (.reg false <| oR 2 (.box 35 (t 0))<| oR 4 (.move (.const (.string ⟨#[]⟩)))<| .nil) (.seq (.reg false <| oR 5 (.move (.const (.bool false)))<| .nil)
 (.seq (.seq (.reg false <| oO 6 0<| .nil) (.block 0 (.loop (.seq (.seq (.reg false <| oM 16 6<| oF 17 1 2<| oL 18 17<| oD 19 18<| oB 20 .lss 16 19<| .nil)
 (.cond (t 20) .skip (.exit 0))) (.seq (.block 1 (.reg false <| oM 23 5<| oM 24 23<| oG 25 24 false (.move (t 1))<| oG 26 24 false (.not (t 25))<|
 oG 27 24 false (.move (t 26))<| oG 28 27 true (.fieldAddr 1 (t 2))<| oG 29 27 true (.load (t 28))<| oG 30 27 true (.move (t 6))<|
 oG 31 27 true (.indexAddr 4 (t 29) (t 30))<| oG 32 27 true (.fieldAddr 3 (t 31))<| oG 33 27 true (.load (t 32))<| oG 34 27 true (.len false (t 33))<|
 oG 35 27 true (.bin .gtr (t 34) (oi 0))<| oG 36 24 false (.pick (t 27) (t 35) (.const (.bool false)))<| oR 37 (.pick (t 24) (.const (.bool true)) (t 36))<|
 oM 5 37<| .nil)) (.reg false <| oM 21 6<| oC 22 .add 21 1<| oM 6 22<| .nil)))))) (.seq (.reg false <| oF 38 0 2<| oL 39 38<| oV 40 .u64 39<|
 oR 41 (.call 84 [(t 40), (oi 4)])<| oM 7 41<| .nil) (.seq (.seq (.reg false <| oM 42 5<| .nil) (.cond (t 42) (.reg false <| oM 43 7<|
 oR 44 (.bin .add (t 43) (.const (.string ⟨#[0, 1]⟩)))<| oM 7 44<| .nil) .skip)) (.seq (.reg false <| oF 45 1 2<| oL 46 45<| oD 47 46<| oR 48 (oa 85 47)<| oM 8 48<| .nil)
 (.seq (.reg false <| oM 49 7<| oM 50 8<| oB 51 .add 49 50<| oM 7 51<| .nil) (.seq (.seq (.reg false <| oO 9 0<| .nil) (.block 2 (.loop (.seq (.seq (.reg false <| oM 52 9<|
 oF 53 1 2<| oL 54 53<| oD 55 54<| oB 56 .lss 52 55<| .nil) (.cond (t 56) .skip (.exit 2))) (.seq (.block 3 (.seq (.reg false <| oF 59 1 2<| oL 60 59<| oM 61 9<|
 oI 62 4 60 61<| oF 63 0 62<| oF 64 1 63<| oL 65 64<| oV 66 .u64 65<| oR 67 (.call 84 [(t 66), (oi 4)])<| oM 10 67<| .nil) (.seq (.reg false <| oF 68 1 2<| oL 69 68<|
 oM 70 9<| oI 71 4 69 70<| oF 72 2 71<| oL 73 72<| oV 74 .u64 73<| oR 75 (.call 84 [(t 74), (oi 4)])<| oM 11 75<| .nil) (.reg false <| oM 76 7<| oF 77 1 2<| oL 78 77<|
 oM 79 9<| oI 80 4 78 79<| oF 81 0 80<| oF 82 0 81<| oL 83 82<| oB 84 .add 76 83<| oM 85 10<| oB 86 .add 84 85<| oR 87 (.bin .add (t 86) (.const (.string ⟨#[0]⟩)))<|
 oM 88 11<| oB 89 .add 87 88<| oM 7 89<| .nil)))) (.reg false <| oM 57 9<| oC 58 .add 57 1<| oM 9 58<| .nil)))))) (.seq (.reg false <| oF 90 2 2<| oL 91 90<| oD 92 91<|
 oR 93 (oa 85 92)<| oM 8 93<| .nil) (.seq (.reg false <| oM 94 7<| oM 95 8<| oB 96 .add 94 95<| oM 7 96<| .nil) (.seq (.seq (.reg false <| oO 12 0<| .nil)
 (.block 4 (.loop (.seq (.seq (.reg false <| oM 97 12<| oF 98 2 2<| oL 99 98<| oD 100 99<| oB 101 .lss 97 100<| .nil) (.cond (t 101) .skip (.exit 4)))
 (.seq (.block 5 (.seq (.reg false <| oF 104 2 2<| oL 105 104<| oM 106 12<| oI 107 2 105 106<| oF 108 0 107<| oL 109 108<| oV 110 .u64 109<|
 oR 111 (.call 84 [(t 110), (oi 8)])<| oM 13 111<| .nil) (.seq (.reg false <| oF 112 2 2<| oL 113 112<| oM 114 12<| oI 115 2 113 114<| oF 116 1 115<| oL 117 116<|
 oR 118 (.len true (t 117))<| oR 119 (oa 85 118)<| oM 8 119<| .nil) (.reg false <| oM 120 7<| oM 121 13<| oB 122 .add 120 121<| oM 123 8<| oB 124 .add 122 123<|
 oF 125 2 2<| oL 126 125<| oM 127 12<| oI 128 2 126 127<| oF 129 1 128<| oL 130 129<| oB 131 .add 124 130<| oM 7 131<| .nil)))) (.reg false <| oM 102 12<|
 oC 103 .add 102 1<| oM 12 103<| .nil)))))) (.seq (.seq (.reg false <| oO 14 0<| .nil) (.block 6 (.loop (.seq (.seq (.reg false <| oM 132 5<| oM 133 132<|
 oG 134 133 true (.move (t 14))<| oG 135 133 true (.fieldAddr 1 (t 2))<| oG 136 133 true (.load (t 135))<| oG 137 133 true (.len false (t 136))<|
 oG 138 133 true (.bin .lss (t 134) (t 137))<| oR 139 (.pick (t 133) (t 138) (.const (.bool false)))<| .nil) (.cond (t 139) .skip (.exit 6)))
 (.seq (.block 7 (.seq (.reg false <| oF 142 1 2<| oL 143 142<| oM 144 14<| oI 145 4 143 144<| oF 146 3 145<| oL 147 146<| oD 148 147<| oR 149 (oa 85 148)<|
 oM 8 149<| .nil) (.seq (.reg false <| oM 150 7<| oM 151 8<| oB 152 .add 150 151<| oM 7 152<| .nil) (.seq (.reg false <| oO 15 0<| .nil)
 (.block 8 (.loop (.seq (.seq (.reg false <| oM 153 15<| oF 154 1 2<| oL 155 154<| oM 156 14<| oI 157 4 155 156<| oF 158 3 157<| oL 159 158<| oD 160 159<|
 oB 161 .lss 153 160<| .nil) (.cond (t 161) .skip (.exit 8))) (.seq (.block 9 (.seq (.reg false <| oF 164 1 2<| oL 165 164<| oM 166 14<| oI 167 4 165 166<| oF 168 3 167<|
 oL 169 168<| oM 170 15<| oI 171 1 169 170<| oL 172 171<| oR 173 (.len true (t 172))<| oR 174 (oa 85 173)<| oM 8 174<| .nil) (.reg false <| oM 175 7<| oM 176 8<|
 oB 177 .add 175 176<| oF 178 1 2<| oL 179 178<| oM 180 14<| oI 181 4 179 180<| oF 182 3 181<| oL 183 182<| oM 184 15<| oI 185 1 183 184<| oL 186 185<|
 oB 187 .add 177 186<| oM 7 187<| .nil))) (.reg false <| oM 162 15<| oC 163 .add 162 1<| oM 15 163<| .nil))))))))) (.reg false <| oM 140 14<| oC 141 .add 140 1<|
 oM 14 141<| .nil)))))) (.seq (.reg false <| oF 188 3 2<| oL 189 188<| oV 190 .u64 189<| oR 191 (.call 84 [(t 190), (oi 4)])<| oM 8 191<| .nil) (.seq (.reg false <|
 oM 192 7<| oM 193 8<| oB 194 .add 192 193<| oM 4 194<| .nil) .ret))))))))))))))
theorem s_kedgeref06_Bytes : CS 195 k_kedgeref06_Bytes [.tmp 4] F.kedgeref06_Bytes :=
  cs Tryz.func67 (by kernel_rfl) (by kernel_rfl)
noncomputable def k_kedgeref04_Twice : KC :=
(.seq (.reg false <| oR 2 (.move (.const (.string ⟨#[]⟩)))<| .nil) (.seq (.reg false <| oM 4 0<| oR 5 (oa 86 4)<| oM 3 5<| .nil) (.seq (.reg false <| oM 6 3<|
 oR 7 (oa 86 6)<| oM 2 7<| .nil) .ret)))
theorem s_kedgeref04_Twice : CS 8 k_kedgeref04_Twice [.tmp 2] F.kedgeref04_Twice :=
  cs Tryz.func68 (by kernel_rfl) (by kernel_rfl)
noncomputable def k_slices_Clone_L_string_string : KC :=
(.seq (.reg false <| oR 2 (.move (.const (.slice none 0 0)))<| .nil) (.seq (.seq (.reg false <| oM 3 0<|
 oR 4 (.eqNil false .slice (t 3) (.const (.slice none 0 0)))<| .nil) (.cond (t 4) (.seq (.reg false <| oR 2 (.move (.const (.slice none 0 0)))<| .nil) .ret) .skip))
 (.seq (.reg false <| oR 5 (.buildSlice 9 0 [] [])<| oM 6 0<| oR 7 (.append 9 1 16 [(.string ⟨#[]⟩)] (t 5) (t 6))<| oM 2 7<| .nil) .ret)))
theorem s_slices_Clone_L_string_string : CS 8 k_slices_Clone_L_string_string [.tmp 2] F.slices_Clone_L_string_string :=
  cs Tryz.func70 (by kernel_rfl) (by kernel_rfl)
noncomputable def k_slices_IndexFunc_L_string_string : KC :=
(.seq (.reg false <| oO 4 0<| .nil) (.seq (.seq (.reg false <| oM 6 0<| oD 7 6<| oO 8 0<| .nil) (.block 0 (.loop (.seq (.reg false <| oB 9 .lss 8 7<| .nil)
 (.seq (.cond (t 9) .skip (.exit 0)) (.seq (.block 1 (.seq (.reg false <| oM 10 8<| oM 5 10<| .nil) (.seq (.reg false <| oM 11 1<| oM 12 0<| oM 13 5<| oI 14 1 12 13<|
 oL 15 14<| oR 16 (.callV (t 11) [(t 15)])<| .nil) (.cond (t 16) (.seq (.reg false <| oM 17 5<| oM 4 17<| .nil) .ret) .skip)))) (.reg false <| oC 18 .add 8 1<|
 oM 8 18<| .nil))))))) (.seq (.reg false <| oO 4 (-1)<| .nil) .ret)))
theorem s_slices_IndexFunc_L_string_string : CS 19 k_slices_IndexFunc_L_string_string [.tmp 4] F.slices_IndexFunc_L_string_string :=
  cs Tryz.func72 (by kernel_rfl) (by kernel_rfl)
noncomputable def k_ident_ID : KC :=
(.seq (.reg false <| oR 1 (.box 35 (t 0))<| oR 2 (.move (.const (.string ⟨#[]⟩)))<| oO 3 0<| .nil) (.seq (.reg false <| oK 7 4 1<| oR 8 (oa 88 7)<| oM 6 8<| oX 9 0 6<|
 oX 10 1 6<| oM 4 9<| oM 5 10<| .nil) (.seq (.seq (.reg false <| oM 11 5<| oC 12 .neq 11 0<| .nil) (.cond (t 12) (.seq (.reg false <| oM 13 5<|
 oR 2 (.move (.const (.string ⟨#[]⟩)))<| oM 3 13<| .nil) .ret) .skip)) (.seq (.reg false <| oM 14 4<| oR 15 (oa 89 14)<| oM 2 15<| oO 3 0<| .nil) .ret))))
theorem s_ident_ID : CS 16 k_ident_ID [.tmp 2, .tmp 3] F.ident_ID :=
  cs Tryz.func73 (by kernel_rfl) (by kernel_rfl)
noncomputable def k_tx_Base : KC :=
(.seq (.reg false <| oR 1 (.box 35 (t 0))<| oR 2 (.move (.const (.bool false)))<| .nil) (.seq (.reg true <| .join (oF 3 1 1<| oL 4 3<| oD 5 4<| oC 6 .eql 5 1<| oM 7 6<|
 oG 8 7 true (.fieldAddr 1 (t 1))<| .nil) <|.both (oG 9 7 true (.load (t 8))<| oG 10 7 true (.indexAddr 4 (t 9) (oi 0))<|
 oG 11 7 true (.fieldAddr 0 (t 10))<| .both (oG 12 7 true (.loadN 2 (t 11))<| oG 13 7 true (.call 90 [])<| oG 14 7 true (.eqAgg false [.s, .i] (t 12) (t 13))<|
 oR 15 (.pick (t 7) (t 14) (.const (.bool false)))<| oM 2 15<| .nil) (oG 13 7 true (.call 90 [])<| oG 12 7 true (.loadN 2 (t 11))<|
 oG 14 7 true (.eqAgg false [.s, .i] (t 12) (t 13))<| oR 15 (.pick (t 7) (t 14) (.const (.bool false)))<| oM 2 15<| .nil)) (oG 13 7 true (.call 90 [])<|
 oG 9 7 true (.load (t 8))<| oG 10 7 true (.indexAddr 4 (t 9) (oi 0))<| oG 11 7 true (.fieldAddr 0 (t 10))<| oG 12 7 true (.loadN 2 (t 11))<|
 oG 14 7 true (.eqAgg false [.s, .i] (t 12) (t 13))<| oR 15 (.pick (t 7) (t 14) (.const (.bool false)))<| oM 2 15<| .nil)) .ret))
theorem s_tx_Base : CS 16 k_tx_Base [.tmp 2] F.tx_Base :=
  cs Tryz.func74 (by kernel_rfl) (by kernel_rfl)
noncomputable def k_kedgeref05_long : KC :=
(.seq (.reg false <| oR 1 (.box 35 (t 0))<| oR 2 (.move (.const (.bool false)))<| .nil) (.seq (.seq (.reg false <| oO 3 0<| .nil)
 (.block 0 (.loop (.seq (.seq (.reg false <| oM 6 3<| oF 7 2 1<| oL 8 7<| oD 9 8<| oB 10 .lss 6 9<| .nil) (.cond (t 10) .skip (.exit 0)))
 (.seq (.block 1 (.seq (.reg false <| oF 13 2 1<| oL 14 13<| oM 15 3<| oI 16 2 14 15<| oF 17 1 16<| oL 18 17<| oR 19 (.len true (t 18))<| oC 20 .gtr 19 40<| .nil)
 (.cond (t 20) (.seq (.reg false <| oR 2 (.move (.const (.bool true)))<| .nil) .ret) .skip))) (.reg false <| oM 11 3<| oC 12 .add 11 1<| oM 3 12<| .nil))))))
 (.seq (.seq (.reg false <| oO 4 0<| .nil) (.block 2 (.loop (.seq (.seq (.reg false <| oM 21 4<| oF 22 1 1<| oL 23 22<| oD 24 23<| oB 25 .lss 21 24<| .nil)
 (.cond (t 25) .skip (.exit 2))) (.seq (.block 3 (.seq (.reg false <| oO 5 0<| .nil) (.block 4 (.loop (.seq (.seq (.reg false <| oM 28 5<| oF 29 1 1<| oL 30 29<| oM 31 4<|
 oI 32 4 30 31<| oF 33 3 32<| oL 34 33<| oD 35 34<| oB 36 .lss 28 35<| .nil) (.cond (t 36) .skip (.exit 4))) (.seq (.block 5 (.seq (.reg false <| oF 39 1 1<| oL 40 39<|
 oM 41 4<| oI 42 4 40 41<| oF 43 3 42<| oL 44 43<| oM 45 5<| oI 46 1 44 45<| oL 47 46<| oR 48 (.len true (t 47))<| oC 49 .gtr 48 80<| .nil)
 (.cond (t 49) (.seq (.reg false <| oR 2 (.move (.const (.bool true)))<| .nil) .ret) .skip))) (.reg false <| oM 37 5<| oC 38 .add 37 1<| oM 5 38<| .nil)))))))
 (.reg false <| oM 26 4<| oC 27 .add 26 1<| oM 4 27<| .nil)))))) (.seq (.reg false <| oR 2 (.move (.const (.bool false)))<| .nil) .ret))))
theorem s_kedgeref05_long : CS 50 k_kedgeref05_long [.tmp 2] F.kedgeref05_long :=
  cs Tryz.func76 (by kernel_rfl) (by kernel_rfl)
noncomputable def k_kedgeref05_Total : KC :=
(.seq (.reg false <| oR 1 (.box 35 (t 0))<| oO 2 0<| oO 3 0<| .nil) (.seq (.reg false <| oR 4 (.move (.const (.slice none 0 0)))<| .nil) (.seq (.seq (.reg false <|
 oO 5 0<| .nil) (.block 0 (.loop (.seq (.seq (.reg false <| oM 6 5<| oF 7 2 1<| oL 8 7<| oD 9 8<| oB 10 .lss 6 9<| .nil) (.cond (t 10) .skip (.exit 0)))
 (.seq (.block 1 (.reg false <| oM 13 4<| oF 14 2 1<| oL 15 14<| oM 16 5<| oI 17 2 15 16<| oF 18 0 17<| oL 19 18<|
 oR 20 (.buildSlice 3 1 [(.int .i64 0)] [(0, 1, (t 19))])<| oR 21 (.append 3 1 8 [(.int .i64 0)] (t 13) (t 20))<| oM 4 21<| .nil)) (.reg false <| oM 11 5<|
 oC 12 .add 11 1<| oM 5 12<| .nil)))))) (.seq (.reg false <| oM 22 4<| oR 23 (oa 92 22)<| oX 24 0 23<| oX 25 1 23<| oM 2 24<| oM 3 25<| .nil) .ret))))
theorem s_kedgeref05_Total : CS 26 k_kedgeref05_Total [.tmp 2, .tmp 3] F.kedgeref05_Total :=
  cs Tryz.func77 (by kernel_rfl) (by kernel_rfl)
noncomputable def k_kedgeref07_Weight : KC :=
(.seq (.reg false <| oR 1 (.box 35 (t 0))<| oO 2 0<| .nil) (.seq (.reg false <| oK 5 4 1<| oR 6 (.call 67 [(t 5), (.const (.bool true))])<| oM 3 6<| .nil)
 (.seq (.reg false <| oK 7 4 1<| oR 8 (.call 67 [(t 7), (.const (.bool false))])<| oM 4 8<| .nil) (.seq (.reg false <| oM 9 3<| oR 10 (.len true (t 9))<|
 oR 11 (.bin .mul (oi 3) (t 10))<| oM 12 4<| oR 13 (.len true (t 12))<| oB 14 .add 11 13<| oM 2 14<| .nil) .ret))))
theorem s_kedgeref07_Weight : CS 15 k_kedgeref07_Weight [.tmp 2] F.kedgeref07_Weight :=
  cs Tryz.func78 (by kernel_rfl) (by kernel_rfl)
noncomputable def k_slices_Clone_L_api_In_api_In : KC :=
(.seq (.reg false <| oR 2 (.move (.const (.slice none 0 0)))<| .nil) (.seq (.seq (.reg false <| oM 3 0<|
 oR 4 (.eqNil false .slice (t 3) (.const (.slice none 0 0)))<| .nil) (.cond (t 4) (.seq (.reg false <| oR 2 (.move (.const (.slice none 0 0)))<| .nil) .ret) .skip))
 (.seq (.reg false <| oR 5 (.buildSlice 50 0 [] [])<| oM 6 0<| oR 7 (.append 50 4 56 [(.string ⟨#[]⟩), (.int .u32 0), (.int .u32 0), (.slice none 0 0)] (t 5) (t 6))<|
 oM 2 7<| .nil) .ret)))
theorem s_slices_Clone_L_api_In_api_In : CS 8 k_slices_Clone_L_api_In_api_In [.tmp 2] F.slices_Clone_L_api_In_api_In :=
  cs Tryz.func79 (by kernel_rfl) (by kernel_rfl)
noncomputable def k_slices_Clone_L_api_Out_api_Out : KC :=
(.seq (.reg false <| oR 2 (.move (.const (.slice none 0 0)))<| .nil) (.seq (.seq (.reg false <| oM 3 0<|
 oR 4 (.eqNil false .slice (t 3) (.const (.slice none 0 0)))<| .nil) (.cond (t 4) (.seq (.reg false <| oR 2 (.move (.const (.slice none 0 0)))<| .nil) .ret) .skip))
 (.seq (.reg false <| oR 5 (.buildSlice 58 0 [] [])<| oM 6 0<| oR 7 (.append 58 2 24 [(.int .i64 0), (.string ⟨#[]⟩)] (t 5) (t 6))<| oM 2 7<| .nil) .ret)))
theorem s_slices_Clone_L_api_Out_api_Out : CS 8 k_slices_Clone_L_api_Out_api_Out [.tmp 2] F.slices_Clone_L_api_Out_api_Out :=
  cs Tryz.func80 (by kernel_rfl) (by kernel_rfl)
noncomputable def k_slices_Concat_L_string_string : KC :=
(.seq (.reg false <| oR 2 (.move (.const (.slice none 0 0)))<| .nil) (.seq (.reg false <| oO 3 0<| .nil) (.seq (.seq (.reg false <| oM 9 0<| oD 10 9<| oO 11 0<| .nil)
 (.block 0 (.loop (.seq (.reg false <| oB 12 .lss 11 10<| .nil) (.seq (.cond (t 12) .skip (.exit 0)) (.seq (.block 1 (.seq (.reg false <| oI 13 1 9 11<| oL 14 13<|
 oM 5 14<| .nil) (.seq (.reg false <| oM 15 3<| oM 16 5<| oD 17 16<| oB 18 .add 15 17<| oM 3 18<| .nil) (.seq (.reg false <| oM 19 3<| oC 20 .lss 19 0<| .nil)
 (.cond (t 20) (.reg false <| oR 21 (.iface 9 (.const (.string ⟨#[108, 101, 110, 32, 111, 117, 116, 32, 111, 102, 32, 114, 97, 110, 103, 101]⟩)))<|
 oQ (.dead)<| .nil) .skip))))) (.reg false <| oC 22 .add 11 1<| oM 11 22<| .nil))))))) (.seq (.reg false <| oM 23 3<|
 oR 24 (.call 93 [(.const (.slice none 0 0)), (t 23)])<| oM 6 24<| .nil) (.seq (.seq (.reg false <| oM 25 0<| oD 26 25<| oO 27 0<| .nil)
 (.block 2 (.loop (.seq (.reg false <| oB 28 .lss 27 26<| .nil) (.seq (.cond (t 28) .skip (.exit 2)) (.seq (.block 3 (.seq (.reg false <| oI 29 1 25 27<| oL 30 29<|
 oM 8 30<| .nil) (.reg false <| oM 31 6<| oM 32 8<| oR 33 (.append 9 1 16 [(.string ⟨#[]⟩)] (t 31) (t 32))<| oM 6 33<| .nil))) (.reg false <| oC 34 .add 27 1<|
 oM 27 34<| .nil))))))) (.seq (.reg false <| oM 35 6<| oM 2 35<| .nil) .ret))))))
theorem s_slices_Concat_L_string_string : CS 36 k_slices_Concat_L_string_string [.tmp 2] F.slices_Concat_L_string_string :=
  cs Tryz.func81 (by kernel_rfl) (by kernel_rfl)
noncomputable def k_graph_Graph_reach_1 : KC :=
(.seq (.reg false <| oR 3 (.move (.const (.bool false)))<| .nil) (.seq (.reg false <| oL 4 1<| oM 5 0<| oR 6 (.lookup false [.s] (.int .i64 0) false (t 4) (t 5))<|
 oC 7 .eql 6 0<| oM 3 7<| .nil) .ret))
theorem s_graph_Graph_reach_1 : CS 8 k_graph_Graph_reach_1 [.tmp 3] F.graph_Graph_reach_1 :=
  cs Tryz.func82 (by kernel_rfl) (by kernel_rfl)
noncomputable def k_ident_Weight : KC :=
(.seq (.reg false <| oR 1 (.box 35 (t 0))<| oO 2 0<| oO 3 0<| .nil) (.seq (.reg false <| oK 8 4 1<| oR 9 (oa 88 8)<| oM 7 9<| oX 10 0 7<| oX 11 1 7<| oM 4 10<|
 oM 5 11<| .nil) (.seq (.seq (.reg false <| oM 12 5<| oC 13 .neq 12 0<| .nil) (.cond (t 13) (.seq (.reg false <| oM 14 5<| oO 2 0<| oM 3 14<| .nil) .ret) .skip))
 (.seq (.reg false <| oK 16 4 1<| oR 17 (oa 94 16)<| oM 15 17<| oX 18 0 15<| oX 19 1 15<| oM 6 18<| oM 5 19<| .nil) (.seq (.reg false <| oM 20 4<|
 oR 21 (.len true (t 20))<| oR 22 (.bin .mul (oi 3) (t 21))<| oM 23 6<| oR 24 (.len true (t 23))<| oB 25 .add 22 24<| oM 26 5<| oM 2 25<| oM 3 26<| .nil) .ret)))))
theorem s_ident_Weight : CS 27 k_ident_Weight [.tmp 2, .tmp 3] F.ident_Weight :=
  cs Tryz.func83 (by kernel_rfl) (by kernel_rfl)
noncomputable def k_kedgeref02_Put : KC :=
(.seq (.reg false <| oR 4 (.move (.const (.string ⟨#[]⟩)))<| .nil) (.seq (.reg false <| oR 5 (.move (.const (.string ⟨#[]⟩)))<| .nil) (.seq (.seq (.reg false <| oM 7 1<|
 oC 8 .neq 7 1<| oM 9 8<| oG 10 9 true (.move (t 1))<| oG 11 9 true (.bin .neq (t 10) (oi 2))<| oR 12 (.pick (t 9) (t 11) (.const (.bool false)))<| oM 13 12<|
 oG 14 13 true (.move (t 1))<| oG 15 13 true (.bin .neq (t 14) (oi 4))<| oR 16 (.pick (t 13) (t 15) (.const (.bool false)))<| oM 17 16<| oG 18 17 true (.move (t 1))<|
 oG 19 17 true (.bin .neq (t 18) (oi 8))<| oR 20 (.pick (t 17) (t 19) (.const (.bool false)))<| .nil) (.cond (t 20) (.seq (.reg false <| oM 21 5<|
 oM 4 21<| .nil) .ret) .skip)) (.seq (.seq (.reg false <| oO 6 0<| .nil) (.block 0 (.loop (.seq (.seq (.reg false <| oM 22 6<| oM 23 1<| oB 24 .lss 22 23<| .nil)
 (.cond (t 24) .skip (.exit 0))) (.seq (.block 1 (.seq (.reg false <| oM 27 5<| oM 28 0<| oR 29 (.bin .rem (t 28) (.const (.int .u64 256)))<| oV 30 .u8 29<|
 oR 31 (.buildSlice 5 1 [(.int .u8 0)] [(0, 1, (t 30))])<| oR 32 (.strOf (t 31))<| oB 33 .add 27 32<| oM 5 33<| .nil) (.reg false <| oM 34 0<|
 oR 35 (.bin .quo (t 34) (.const (.int .u64 256)))<| oM 0 35<| .nil))) (.reg false <| oM 25 6<| oC 26 .add 25 1<| oM 6 26<| .nil)))))) (.seq (.reg false <| oM 36 5<|
 oM 4 36<| .nil) .ret)))))
theorem s_kedgeref02_Put : CS 37 k_kedgeref02_Put [.tmp 4] F.kedgeref02_Put :=
  cs Tryz.func84 (by kernel_rfl) (by kernel_rfl)
noncomputable def k_kedgeref06_length : KC :=
(.seq (.reg false <| oR 2 (.move (.const (.string ⟨#[]⟩)))<| .nil) (.seq (.reg false <| oM 3 0<| oV 4 .u64 3<| oR 5 (oa 95 4)<| oM 2 5<| .nil) .ret))
theorem s_kedgeref06_length : CS 6 k_kedgeref06_length [.tmp 2] F.kedgeref06_length :=
  cs Tryz.func85 (by kernel_rfl) (by kernel_rfl)
noncomputable def k_kedgeref04_Sum : KC :=
(.seq (.reg false <| oR 2 (.move (.const (.string ⟨#[]⟩)))<| .nil) (.seq (.reg false <|
 oR 8 (.build [(.int .u32 0), (.int .u32 0), (.int .u32 0), (.int .u32 0), (.int .u32 0), (.int .u32 0), (.int .u32 0), (.int .u32 0)] [(0, 1, (.const (.int .u32 1779033703))), (1, 1, (.const (.int .u32 3144134277))), (2, 1, (.const (.int .u32 1013904242))), (3, 1, (.const (.int .u32 2773480762))), (4, 1, (.const (.int .u32 1359893119))), (5, 1, (.const (.int .u32 2600822924))), (6, 1, (.const (.int .u32 528734635))), (7, 1, (.const (.int .u32 1541459225)))])<|
 oR 3 (.alloc 144 [(.int .u32 0), (.int .u32 0), (.int .u32 0), (.int .u32 0), (.int .u32 0), (.int .u32 0), (.int .u32 0), (.int .u32 0)])<| oU 8 3 8<| .nil)
 (.seq (.reg false <| oM 9 0<| oR 10 (oa 96 9)<| oM 4 10<| .nil) (.seq (.seq (.reg false <| oO 5 0<| .nil) (.block 0 (.loop (.seq (.seq (.reg false <| oM 11 5<| oM 12 4<|
 oD 13 12<| oB 14 .lss 11 13<| .nil) (.cond (t 14) .skip (.exit 0))) (.seq (.block 1 (.reg true <| oK 17 8 3<| oM 18 4<| oM 19 5<| oM 20 5<| oC 21 .add 20 64<|
 oR 22 (.sliceSl 1 (t 18) (some (t 19)) (some (t 21)))<| oR 23 (ob 97 17 22)<| oU 8 3 23<| .nil)) (.reg false <| oM 15 5<| oC 16 .add 15 64<| oM 5 16<| .nil))))))
 (.seq (.reg false <| oR 6 (.move (.const (.string ⟨#[]⟩)))<| .nil) (.seq (.seq (.reg false <| oO 7 0<| .nil) (.block 2 (.loop (.seq (.seq (.reg false <| oM 24 7<|
 oC 25 .lss 24 8<| .nil) (.cond (t 25) .skip (.exit 2))) (.seq (.block 3 (.reg true <| .join (oM 28 6<| oM 29 7<| oR 30 (.indexArr 1 8 (t 3) (t 29))<| oL 31 30<|
 oR 32 (.bin .shr (t 31) (.const (.int .u64 24)))<| oV 33 .u8 32<| oM 34 7<| oR 35 (.indexArr 1 8 (t 3) (t 34))<| oL 36 35<|
 oR 37 (.bin .shr (t 36) (.const (.int .u64 16)))<| oV 38 .u8 37<| oM 39 7<| oR 40 (.indexArr 1 8 (t 3) (t 39))<| oL 41 40<|
 oR 42 (.bin .shr (t 41) (.const (.int .u64 8)))<| oV 43 .u8 42<| oM 44 7<| oR 45 (.indexArr 1 8 (t 3) (t 44))<| oL 46 45<|
 oV 47 .u8 46<| .nil) <|oR 48 (.buildSlice 5 4 [(.int .u8 0), (.int .u8 0), (.int .u8 0), (.int .u8 0)] [(0, 1, (t 33)), (1, 1, (t 38)), (2, 1, (t 43)), (3, 1, (t 47))])<|
 oR 49 (.strOf (t 48))<| oB 50 .add 28 49<| oM 6 50<| .nil)) (.reg false <| oM 26 7<| oC 27 .add 26 1<| oM 7 27<| .nil)))))) (.seq (.reg false <| oM 51 6<|
 oM 2 51<| .nil) .ret)))))))
theorem s_kedgeref04_Sum : CS 52 k_kedgeref04_Sum [.tmp 2] F.kedgeref04_Sum :=
  cs Tryz.func86 (by kernel_rfl) (by kernel_rfl)
noncomputable def k_wire_Bare : KC :=
(.seq (.reg false <| oR 1 (.box 35 (t 0))<| oR 2 (.move (.const (.string ⟨#[]⟩)))<| oO 3 0<| .nil) (.seq (.seq (.reg false <| oK 5 4 1<| oR 6 (oa 98 5)<| oM 4 6<| .nil)
 (.seq (.reg false <| oM 7 4<| oC 8 .neq 7 0<| .nil) (.cond (t 8) (.seq (.reg false <| oM 9 4<| oR 2 (.move (.const (.string ⟨#[]⟩)))<| oM 3 9<| .nil) .ret) .skip)))
 (.seq (.reg false <| oK 10 4 1<| oR 11 (.call 99 [(t 10), (.const (.bool false))])<| oM 2 11<| oO 3 0<| .nil) .ret)))
theorem s_wire_Bare : CS 12 k_wire_Bare [.tmp 2, .tmp 3] F.wire_Bare :=
  cs Tryz.func88 (by kernel_rfl) (by kernel_rfl)
noncomputable def k_sha_Twice : KC :=
(.seq (.reg false <| oR 2 (.move (.const (.string ⟨#[]⟩)))<| .nil) (.seq (.reg false <| oM 3 0<| oR 4 (oa 100 3)<| oR 5 (oa 100 4)<| oM 2 5<| .nil) .ret))
theorem s_sha_Twice : CS 6 k_sha_Twice [.tmp 2] F.sha_Twice :=
  cs Tryz.func89 (by kernel_rfl) (by kernel_rfl)
noncomputable def k_tx_base : KC :=
(.seq (.reg false <| oR 0 (.alloc 25 [(.string ⟨#[]⟩), (.int .u32 0)])<| .nil) (.seq (.reg false <| oR 1 (.call 101 [(.const (.string ⟨#[0]⟩)), (oi 32)])<|
 oR 2 (.build [(.string ⟨#[]⟩), (.int .u32 0)] [(0, 1, (t 1)), (1, 1, (.const (.int .u32 4294967295)))])<| oU 2 0 2<| .nil) .ret))
theorem s_tx_base : CS 3 k_tx_base [.cellN 2 0] F.tx_base :=
  cs Tryz.func90 (by kernel_rfl) (by kernel_rfl)
noncomputable def k_kedgeref01_Sum : KC :=
(.seq (.reg false <| oO 2 0<| oO 3 0<| .nil) (.seq (.reg false <| oO 4 0<| .nil) (.seq (.seq (.reg false <| oO 5 0<| .nil) (.block 0 (.loop (.seq (.seq (.reg false <|
 oM 7 5<| oM 8 0<| oD 9 8<| oB 10 .lss 7 9<| .nil) (.cond (t 10) .skip (.exit 0))) (.seq (.block 1 (.seq (.reg false <| oM 13 0<| oM 14 5<| oI 15 1 13 14<| oL 16 15<|
 oR 17 (.pcall 53 Go.Proofs.YtfeifodeaphbjaaGreat.qGood [(t 16)])<| oM 6 17<| .nil) (.seq (.seq (.reg false <| oM 18 6<| oT 19 18<| .nil) (.cond (t 19) (.seq (.reg false <|
 oO 2 0<| oO 3 3<| .nil) .ret) .skip)) (.seq (.reg false <| oM 20 4<| oM 21 0<| oM 22 5<| oI 23 1 21 22<| oL 24 23<| oB 25 .add 20 24<| oM 4 25<| .nil) (.seq (.reg false <|
 oM 26 4<| oR 27 (.pcall 53 Go.Proofs.YtfeifodeaphbjaaGreat.qGood [(t 26)])<| oM 6 27<| .nil) (.seq (.reg false <| oM 28 6<| oT 29 28<| .nil)
 (.cond (t 29) (.seq (.reg false <| oO 2 0<| oO 3 3<| .nil) .ret) .skip))))))) (.reg false <| oM 11 5<| oC 12 .add 11 1<| oM 5 12<| .nil)))))) (.seq (.reg false <|
 oM 30 4<| oM 2 30<| oO 3 0<| .nil) .ret))))
theorem s_kedgeref01_Sum : CS 31 k_kedgeref01_Sum [.tmp 2, .tmp 3] F.kedgeref01_Sum :=
  cs Tryz.func92 (by kernel_rfl) (by kernel_rfl)
noncomputable def k_wire_Encode : KC :=
(.seq (.reg false <| oR 1 (.box 35 (t 0))<| oR 2 (.move (.const (.string ⟨#[]⟩)))<| oO 3 0<| .nil) (.seq (.seq (.reg false <| oK 5 4 1<| oR 6 (oa 98 5)<| oM 4 6<| .nil)
 (.seq (.reg false <| oM 7 4<| oC 8 .neq 7 0<| .nil) (.cond (t 8) (.seq (.reg false <| oM 9 4<| oR 2 (.move (.const (.string ⟨#[]⟩)))<| oM 3 9<| .nil) .ret) .skip)))
 (.seq (.reg true <| .join (oK 11 4 1<| .both (oK 10 4 1<| oR 12 (oa 102 11)<| .nil) (oR 12 (oa 102 11)<| oK 10 4 1<| .nil)) <|oR 13 (ob 99 10 12)<| oM 2 13<|
 oO 3 0<| .nil) .ret)))
theorem s_wire_Encode : CS 14 k_wire_Encode [.tmp 2, .tmp 3] F.wire_Encode :=
  cs Tryz.func94 (by kernel_rfl) (by kernel_rfl)
noncomputable def k_kedgeref03_Put : KC :=
(.seq (.reg false <| oR 2 (.move (.const (.string ⟨#[]⟩)))<| .nil) (.seq (.seq (.reg false <| oM 3 0<| oR 4 (.bin .lss (t 3) (.const (.int .u64 253)))<| .nil)
 (.cond (t 4) (.seq (.reg false <| oM 5 0<| oR 6 (.call 84 [(t 5), (oi 1)])<| oM 2 6<| .nil) .ret) .skip)) (.seq (.seq (.reg false <| oM 7 0<|
 oR 8 (.bin .lss (t 7) (.const (.int .u64 65536)))<| .nil) (.cond (t 8) (.seq (.reg false <| oM 9 0<| oR 10 (.call 84 [(t 9), (oi 2)])<|
 oR 11 (.bin .add (.const (.string ⟨#[253]⟩)) (t 10))<| oM 2 11<| .nil) .ret) .skip)) (.seq (.seq (.reg false <| oM 12 0<|
 oR 13 (.bin .lss (t 12) (.const (.int .u64 4294967296)))<| .nil) (.cond (t 13) (.seq (.reg false <| oM 14 0<| oR 15 (.call 84 [(t 14), (oi 4)])<|
 oR 16 (.bin .add (.const (.string ⟨#[254]⟩)) (t 15))<| oM 2 16<| .nil) .ret) .skip)) (.seq (.reg false <| oM 17 0<| oR 18 (.call 84 [(t 17), (oi 8)])<|
 oR 19 (.bin .add (.const (.string ⟨#[255]⟩)) (t 18))<| oM 2 19<| .nil) .ret)))))
theorem s_kedgeref03_Put : CS 20 k_kedgeref03_Put [.tmp 2] F.kedgeref03_Put :=
  cs Tryz.func95 (by kernel_rfl) (by kernel_rfl)
noncomputable def k_kedgeref04_pad : KC :=
(.seq (.reg false <| oR 2 (.move (.const (.slice none 0 0)))<| .nil) (.seq (.reg false <| oR 3 (.move (.const (.slice none 0 0)))<| .nil) (.seq (.seq (.reg false <|
 oO 4 0<| .nil) (.block 0 (.loop (.seq (.seq (.reg false <| oM 7 4<| oM 8 0<| oR 9 (.len true (t 8))<| oB 10 .lss 7 9<| .nil) (.cond (t 10) .skip (.exit 0)))
 (.seq (.block 1 (.reg false <| oM 13 3<| oM 14 0<| oM 15 4<| oR 16 (.indexStr (t 14) (t 15))<| oR 17 (.buildSlice 5 1 [(.int .u8 0)] [(0, 1, (t 16))])<|
 oR 18 (.append 5 1 1 [(.int .u8 0)] (t 13) (t 17))<| oM 3 18<| .nil)) (.reg false <| oM 11 4<| oC 12 .add 11 1<| oM 4 12<| .nil)))))) (.seq (.reg false <| oM 19 3<|
 oR 20 (.buildSlice 5 1 [(.int .u8 0)] [(0, 1, (.const (.int .u8 128)))])<| oR 21 (.append 5 1 1 [(.int .u8 0)] (t 19) (t 20))<| oM 3 21<| .nil)
 (.seq (.block 2 (.loop (.seq (.seq (.reg false <| oM 22 3<| oD 23 22<| oC 24 .rem 23 64<| oC 25 .neq 24 56<| .nil) (.cond (t 25) .skip (.exit 2))) (.block 3 (.reg false <|
 oM 26 3<| oR 27 (.buildSlice 5 1 [(.int .u8 0)] [(0, 1, (.const (.int .u8 0)))])<| oR 28 (.append 5 1 1 [(.int .u8 0)] (t 26) (t 27))<| oM 3 28<| .nil)))))
 (.seq (.reg false <| oM 29 0<| oR 30 (.len true (t 29))<| oV 31 .u64 30<| oR 32 (.bin .mul (t 31) (.const (.int .u64 8)))<| oM 5 32<| .nil) (.seq (.seq (.reg false <|
 oO 6 7<| .nil) (.block 4 (.loop (.seq (.seq (.reg false <| oM 33 6<| oC 34 .geq 33 0<| .nil) (.cond (t 34) .skip (.exit 4))) (.seq (.block 5 (.reg false <| oM 37 3<|
 oM 38 5<| oM 39 6<| oV 40 .u64 39<| oR 41 (.bin .mul (.const (.int .u64 8)) (t 40))<| oB 42 .shr 38 41<| oV 43 .u8 42<|
 oR 44 (.buildSlice 5 1 [(.int .u8 0)] [(0, 1, (t 43))])<| oR 45 (.append 5 1 1 [(.int .u8 0)] (t 37) (t 44))<| oM 3 45<| .nil)) (.reg false <| oM 35 6<| oC 36 .sub 35 1<|
 oM 6 36<| .nil)))))) (.seq (.reg false <| oM 46 3<| oM 2 46<| .nil) .ret))))))))
theorem s_kedgeref04_pad : CS 47 k_kedgeref04_pad [.tmp 2] F.kedgeref04_pad :=
  cs Tryz.func96 (by kernel_rfl) (by kernel_rfl)
noncomputable def k_kedgeref04_block : KC :=
(.seq (.reg false <| oR 2 (.box 144 (t 0))<|
 oR 4 (.alloc 144 [(.int .u32 0), (.int .u32 0), (.int .u32 0), (.int .u32 0), (.int .u32 0), (.int .u32 0), (.int .u32 0), (.int .u32 0)])<| .nil) (.seq (.reg false <|
 oR 5 (.alloc 149 [(.int .u32 0), (.int .u32 0), (.int .u32 0), (.int .u32 0), (.int .u32 0), (.int .u32 0), (.int .u32 0), (.int .u32 0), (.int .u32 0), (.int .u32 0), (.int .u32 0), (.int .u32 0), (.int .u32 0), (.int .u32 0), (.int .u32 0), (.int .u32 0), (.int .u32 0), (.int .u32 0), (.int .u32 0), (.int .u32 0), (.int .u32 0), (.int .u32 0), (.int .u32 0), (.int .u32 0), (.int .u32 0), (.int .u32 0), (.int .u32 0), (.int .u32 0), (.int .u32 0), (.int .u32 0), (.int .u32 0), (.int .u32 0), (.int .u32 0), (.int .u32 0), (.int .u32 0), (.int .u32 0), (.int .u32 0), (.int .u32 0), (.int .u32 0), (.int .u32 0), (.int .u32 0), (.int .u32 0), (.int .u32 0), (.int .u32 0), (.int .u32 0), (.int .u32 0), (.int .u32 0), (.int .u32 0), (.int .u32 0), (.int .u32 0), (.int .u32 0), (.int .u32 0), (.int .u32 0), (.int .u32 0), (.int .u32 0), (.int .u32 0), (.int .u32 0), (.int .u32 0), (.int .u32 0), (.int .u32 0), (.int .u32 0), (.int .u32 0), (.int .u32 0), (.int .u32 0)])<| .nil)
 (.seq (.reg false <| oR 22 (.call 103 [])<|
 oR 6 (.alloc 149 [(.int .u32 0), (.int .u32 0), (.int .u32 0), (.int .u32 0), (.int .u32 0), (.int .u32 0), (.int .u32 0), (.int .u32 0), (.int .u32 0), (.int .u32 0), (.int .u32 0), (.int .u32 0), (.int .u32 0), (.int .u32 0), (.int .u32 0), (.int .u32 0), (.int .u32 0), (.int .u32 0), (.int .u32 0), (.int .u32 0), (.int .u32 0), (.int .u32 0), (.int .u32 0), (.int .u32 0), (.int .u32 0), (.int .u32 0), (.int .u32 0), (.int .u32 0), (.int .u32 0), (.int .u32 0), (.int .u32 0), (.int .u32 0), (.int .u32 0), (.int .u32 0), (.int .u32 0), (.int .u32 0), (.int .u32 0), (.int .u32 0), (.int .u32 0), (.int .u32 0), (.int .u32 0), (.int .u32 0), (.int .u32 0), (.int .u32 0), (.int .u32 0), (.int .u32 0), (.int .u32 0), (.int .u32 0), (.int .u32 0), (.int .u32 0), (.int .u32 0), (.int .u32 0), (.int .u32 0), (.int .u32 0), (.int .u32 0), (.int .u32 0), (.int .u32 0), (.int .u32 0), (.int .u32 0), (.int .u32 0), (.int .u32 0), (.int .u32 0), (.int .u32 0), (.int .u32 0)])<|
 oU 64 6 22<| .nil) (.seq (.seq (.reg false <| oO 7 0<| .nil) (.block 0 (.loop (.seq (.seq (.reg false <| oM 23 7<| oC 24 .lss 23 16<| .nil) (.cond (t 24) .skip (.exit 0)))
 (.seq (.block 1 (.reg true <| .join (oM 27 7<| oM 28 1<| oM 29 7<| oR 30 (.bin .mul (oi 4) (t 29))<| oI 31 1 28 30<| oL 32 31<| oV 33 .u32 32<|
 oR 34 (.bin .mul (t 33) (.const (.int .u32 16777216)))<| oM 35 1<| oM 36 7<| oR 37 (.bin .mul (oi 4) (t 36))<| oC 38 .add 37 1<| oI 39 1 35 38<| oL 40 39<| oV 41 .u32 40<|
 oR 42 (.bin .mul (t 41) (.const (.int .u32 65536)))<| oB 43 .add 34 42<| oM 44 1<| oM 45 7<| oR 46 (.bin .mul (oi 4) (t 45))<| oC 47 .add 46 2<| oI 48 1 44 47<| oL 49 48<|
 oV 50 .u32 49<| oR 51 (.bin .mul (t 50) (.const (.int .u32 256)))<| oB 52 .add 43 51<| oM 53 1<| oM 54 7<| oR 55 (.bin .mul (oi 4) (t 54))<| oC 56 .add 55 3<|
 oI 57 1 53 56<| oL 58 57<| oV 59 .u32 58<| oB 60 .add 52 59<| oR 61 (.indexArr 1 64 (t 5) (t 27))<| .nil) <|oS 61 60<| .nil)) (.reg false <| oM 25 7<| oC 26 .add 25 1<|
 oM 7 26<| .nil)))))) (.seq (.seq (.reg false <| oO 8 16<| .nil) (.block 2 (.loop (.seq (.seq (.reg false <| oM 62 8<| oC 63 .lss 62 64<| .nil)
 (.cond (t 63) .skip (.exit 2))) (.seq (.block 3 (.seq (.reg false <| oM 66 8<| oC 67 .sub 66 15<| oR 68 (.indexArr 1 64 (t 5) (t 67))<| oL 69 68<|
 oR 70 (.pcall 104 Go.Proofs.YtfeifodeaphbjaaGreat.qRotU [(t 69), (.const (.int .u64 7))])<| oM 9 70<| .nil) (.seq (.reg false <| oM 71 8<| oC 72 .sub 71 15<|
 oR 73 (.indexArr 1 64 (t 5) (t 72))<| oL 74 73<| oR 75 (.pcall 104 Go.Proofs.YtfeifodeaphbjaaGreat.qRotU [(t 74), (.const (.int .u64 18))])<| oM 10 75<| .nil)
 (.seq (.reg false <| oM 76 8<| oC 77 .sub 76 2<| oR 78 (.indexArr 1 64 (t 5) (t 77))<| oL 79 78<|
 oR 80 (.pcall 104 Go.Proofs.YtfeifodeaphbjaaGreat.qRotU [(t 79), (.const (.int .u64 17))])<| oM 11 80<| .nil) (.seq (.reg false <| oM 81 8<| oC 82 .sub 81 2<|
 oR 83 (.indexArr 1 64 (t 5) (t 82))<| oL 84 83<| oR 85 (.pcall 104 Go.Proofs.YtfeifodeaphbjaaGreat.qRotU [(t 84), (.const (.int .u64 19))])<| oM 12 85<| .nil)
 (.reg true <| .join (oM 86 8<| oM 87 8<| oC 88 .sub 87 16<| oR 89 (.indexArr 1 64 (t 5) (t 88))<| oL 90 89<| oM 91 9<| oM 92 10<| oB 93 .xor 91 92<| oM 94 8<|
 oC 95 .sub 94 15<| oR 96 (.indexArr 1 64 (t 5) (t 95))<| oL 97 96<| oR 98 (.bin .shr (t 97) (.const (.int .u64 3)))<| oB 99 .xor 93 98<| oB 100 .add 90 99<| oM 101 8<|
 oC 102 .sub 101 7<| oR 103 (.indexArr 1 64 (t 5) (t 102))<| oL 104 103<| oB 105 .add 100 104<| oM 106 11<| oM 107 12<| oB 108 .xor 106 107<| oM 109 8<| oC 110 .sub 109 2<|
 oR 111 (.indexArr 1 64 (t 5) (t 110))<| oL 112 111<| oR 113 (.bin .shr (t 112) (.const (.int .u64 10)))<| oB 114 .xor 108 113<| oB 115 .add 105 114<|
 oR 116 (.indexArr 1 64 (t 5) (t 86))<| .nil) <|oS 116 115<| .nil)))))) (.reg false <| oM 64 8<| oC 65 .add 64 1<| oM 8 65<| .nil)))))) (.seq (.reg false <| oK 117 8 2<|
 oR 13 (.alloc 144 [(.int .u32 0), (.int .u32 0), (.int .u32 0), (.int .u32 0), (.int .u32 0), (.int .u32 0), (.int .u32 0), (.int .u32 0)])<| oU 8 13 117<| .nil)
 (.seq (.seq (.reg false <| oO 14 0<| .nil) (.block 4 (.loop (.seq (.seq (.reg false <| oM 118 14<| oC 119 .lss 118 64<| .nil) (.cond (t 119) .skip (.exit 4)))
 (.seq (.block 5 (.seq (.reg false <| oR 122 (.indexArr 1 8 (t 13) (oi 4))<| oL 123 122<|
 oR 124 (.pcall 104 Go.Proofs.YtfeifodeaphbjaaGreat.qRotU [(t 123), (.const (.int .u64 6))])<| oM 15 124<| .nil) (.seq (.reg false <| oR 125 (.indexArr 1 8 (t 13) (oi 4))<|
 oL 126 125<| oR 127 (.pcall 104 Go.Proofs.YtfeifodeaphbjaaGreat.qRotU [(t 126), (.const (.int .u64 11))])<| oM 16 127<| .nil) (.seq (.reg false <|
 oR 128 (.indexArr 1 8 (t 13) (oi 4))<| oL 129 128<| oR 130 (.pcall 104 Go.Proofs.YtfeifodeaphbjaaGreat.qRotU [(t 129), (.const (.int .u64 25))])<| oM 17 130<| .nil)
 (.seq (.reg true <| oR 131 (.indexArr 1 8 (t 13) (oi 7))<| oL 132 131<| oM 133 15<| oM 134 16<| oB 135 .xor 133 134<| oM 136 17<| oB 137 .xor 135 136<|
 oB 138 .add 132 137<| oR 139 (.indexArr 1 8 (t 13) (oi 4))<| oL 140 139<| oR 141 (.indexArr 1 8 (t 13) (oi 5))<| oL 142 141<| oB 143 .and 140 142<|
 oR 144 (.indexArr 1 8 (t 13) (oi 4))<| oL 145 144<| oR 146 (.unNeg true (t 145))<| oR 147 (.indexArr 1 8 (t 13) (oi 6))<| oL 148 147<| oB 149 .and 146 148<|
 oB 150 .xor 143 149<| oB 151 .add 138 150<| oM 152 14<| oR 153 (.indexArr 1 64 (t 6) (t 152))<| oL 154 153<| oB 155 .add 151 154<| oM 156 14<|
 oR 157 (.indexArr 1 64 (t 5) (t 156))<| oL 158 157<| oB 159 .add 155 158<| oM 18 159<| .nil) (.seq (.reg false <| oR 160 (.indexArr 1 8 (t 13) (oi 0))<| oL 161 160<|
 oR 162 (.pcall 104 Go.Proofs.YtfeifodeaphbjaaGreat.qRotU [(t 161), (.const (.int .u64 2))])<| oM 15 162<| .nil) (.seq (.reg false <| oR 163 (.indexArr 1 8 (t 13) (oi 0))<|
 oL 164 163<| oR 165 (.pcall 104 Go.Proofs.YtfeifodeaphbjaaGreat.qRotU [(t 164), (.const (.int .u64 13))])<| oM 16 165<| .nil) (.seq (.reg false <|
 oR 166 (.indexArr 1 8 (t 13) (oi 0))<| oL 167 166<| oR 168 (.pcall 104 Go.Proofs.YtfeifodeaphbjaaGreat.qRotU [(t 167), (.const (.int .u64 22))])<| oM 17 168<| .nil)
 (.seq (.reg false <| oM 169 15<| oM 170 16<| oB 171 .xor 169 170<| oM 172 17<| oB 173 .xor 171 172<| oR 174 (.indexArr 1 8 (t 13) (oi 0))<| oL 175 174<|
 oR 176 (.indexArr 1 8 (t 13) (oi 1))<| oL 177 176<| oB 178 .and 175 177<| oR 179 (.indexArr 1 8 (t 13) (oi 0))<| oL 180 179<| oR 181 (.indexArr 1 8 (t 13) (oi 2))<|
 oL 182 181<| oB 183 .and 180 182<| oB 184 .xor 178 183<| oR 185 (.indexArr 1 8 (t 13) (oi 1))<| oL 186 185<| oR 187 (.indexArr 1 8 (t 13) (oi 2))<| oL 188 187<|
 oB 189 .and 186 188<| oB 190 .xor 184 189<| oB 191 .add 173 190<| oM 19 191<| .nil) (.seq (.seq (.reg false <| oO 20 7<| .nil) (.block 6 (.loop (.seq (.seq (.reg false <|
 oM 192 20<| oC 193 .gtr 192 0<| .nil) (.cond (t 193) .skip (.exit 6))) (.seq (.block 7 (.reg false <| oM 196 20<| oM 197 20<| oC 198 .sub 197 1<|
 oR 199 (.indexArr 1 8 (t 13) (t 198))<| oL 200 199<| oR 201 (.indexArr 1 8 (t 13) (t 196))<| oS 201 200<| .nil)) (.reg false <| oM 194 20<| oC 195 .sub 194 1<|
 oM 20 195<| .nil)))))) (.seq (.reg false <| oR 202 (.indexArr 1 8 (t 13) (oi 4))<| oL 203 202<| oM 204 18<| oB 205 .add 203 204<| oR 206 (.indexArr 1 8 (t 13) (oi 4))<|
 oS 206 205<| .nil) (.reg false <| oM 207 18<| oM 208 19<| oB 209 .add 207 208<| oR 210 (.indexArr 1 8 (t 13) (oi 0))<| oS 210 209<| .nil)))))))))))) (.reg false <|
 oM 120 14<| oC 121 .add 120 1<| oM 14 121<| .nil)))))) (.seq (.seq (.reg false <| oO 21 0<| .nil) (.block 8 (.loop (.seq (.seq (.reg false <| oM 211 21<|
 oC 212 .lss 211 8<| .nil) (.cond (t 212) .skip (.exit 8))) (.seq (.block 9 (.reg true <| .join (oM 215 21<| oM 216 21<| oR 217 (.indexArr 1 8 (t 13) (t 216))<|
 oL 218 217<| oM 219 21<| oR 220 (.indexArr 1 8 (t 2) (t 219))<| oL 221 220<| oB 222 .add 218 221<| oR 223 (.indexArr 1 8 (t 13) (t 215))<| .nil) <|oS 223 222<| .nil))
 (.reg false <| oM 213 21<| oC 214 .add 213 1<| oM 21 214<| .nil)))))) (.seq (.reg false <| oK 224 8 13<| oU 8 4 224<| .nil) .ret)))))))))
theorem s_kedgeref04_block : CS 225 k_kedgeref04_block [.cellN 8 4] F.kedgeref04_block :=
  cs Tryz.func97 (by kernel_rfl) (by kernel_rfl)
noncomputable def k_tx_Check : KC :=
(.seq (.reg false <| oR 1 (.box 35 (t 0))<| oO 2 0<| .nil) (.seq (.reg false <| oK 6 4 1<| oR 7 (oa 105 6)<| oM 5 7<| oX 8 0 5<| oX 9 1 5<| oM 3 8<| oM 4 9<| .nil)
 (.seq (.block 0 (.seq (.reg false <| oK 11 4 1<| oR 12 (oa 106 11)<| oT 13 12<| oM 10 13<| .nil) (.cond (t 10) (.seq (.reg false <|
 oO 2 6<| .nil) .ret) (.seq (.reg false <| oK 15 4 1<| oR 16 (oa 107 15)<| oM 14 16<| .nil) (.cond (t 14) (.seq (.reg false <| oO 2 20<| .nil) .ret) (.seq (.reg false <|
 oK 18 4 1<| oR 19 (oa 108 18)<| oT 20 19<| oM 17 20<| .nil) (.cond (t 17) (.seq (.reg false <| oO 2 4<| .nil) .ret) (.seq (.reg false <| oK 22 4 1<| oR 23 (oa 109 22)<|
 oM 21 23<| .nil) (.cond (t 21) (.seq (.reg false <| oO 2 7<| .nil) .ret) .skip))))))))) (.seq (.reg false <| oM 24 4<| oM 2 24<| .nil) .ret))))
theorem s_tx_Check : CS 25 k_tx_Check [.tmp 2] F.tx_Check :=
  cs Tryz.func98 (by kernel_rfl) (by kernel_rfl)
noncomputable def k_wire_encode : KC :=
(.seq (.reg false <| oR 2 (.box 35 (t 0))<| oR 4 (.move (.const (.string ⟨#[]⟩)))<| .nil) (.seq (.reg false <|
 oR 5 (.alloc 154 [(.pointer none), (.slice none 0 0)])<| .nil) (.seq (.reg false <| oR 15 (.makeFunc (.func 110) [] [(t 5)])<| oM 6 15<| .nil) (.seq (.reg false <|
 oM 16 6<| oF 17 0 2<| oL 18 17<| oV 19 .u64 18<| oR 20 (.callV (t 16) [(t 19), (oi 4)])<| .nil) (.seq (.seq (.reg false <| oM 21 1<| .nil)
 (.cond (t 21) (.seq (.reg false <| oM 22 6<| oR 23 (.callV (t 22) [(.const (.int .u64 0)), (oi 1)])<| .nil) (.reg false <| oM 24 6<|
 oR 25 (.callV (t 24) [(.const (.int .u64 1)), (oi 1)])<| .nil)) .skip)) (.seq (.reg false <| oF 26 1 2<| oL 27 26<| oD 28 27<| oR 29 (oa 113 28)<|
 oR 30 (ob 111 5 29)<| .nil) (.seq (.seq (.reg false <| oF 31 1 2<| oL 32 31<| oD 33 32<| oO 34 0<| .nil) (.block 0 (.loop (.seq (.reg false <| oB 35 .lss 34 33<| .nil)
 (.seq (.cond (t 35) .skip (.exit 0)) (.seq (.block 1 (.seq (.reg false <| oI 36 4 32 34<| oK 37 4 36<|
 oR 8 (.alloc 50 [(.string ⟨#[]⟩), (.int .u32 0), (.int .u32 0), (.slice none 0 0)])<| oU 4 8 37<| .nil) (.seq (.reg false <| oF 38 0 8<| oF 39 0 38<| oL 40 39<|
 oR 41 (ob 111 5 40)<| .nil) (.seq (.reg false <| oM 42 6<| oF 43 0 8<| oF 44 1 43<| oL 45 44<| oV 46 .u64 45<| oR 47 (.callV (t 42) [(t 46), (oi 4)])<| .nil)
 (.seq (.reg false <| oR 48 (.call 113 [(oi 0)])<| oR 49 (ob 111 5 48)<| .nil) (.reg false <| oM 50 6<| oF 51 2 8<| oL 52 51<| oV 53 .u64 52<|
 oR 54 (.callV (t 50) [(t 53), (oi 4)])<| .nil)))))) (.reg false <| oC 55 .add 34 1<| oM 34 55<| .nil))))))) (.seq (.reg false <| oF 56 2 2<| oL 57 56<| oD 58 57<|
 oR 59 (oa 113 58)<| oR 60 (ob 111 5 59)<| .nil) (.seq (.seq (.reg false <| oF 61 2 2<| oL 62 61<| oD 63 62<| oO 64 0<| .nil) (.block 2 (.loop (.seq (.reg false <|
 oB 65 .lss 64 63<| .nil) (.seq (.cond (t 65) .skip (.exit 2)) (.seq (.block 3 (.seq (.reg false <| oI 66 2 62 64<| oK 67 2 66<|
 oR 10 (.alloc 58 [(.int .i64 0), (.string ⟨#[]⟩)])<| oU 2 10 67<| .nil) (.seq (.reg false <| oM 68 6<| oF 69 0 10<| oL 70 69<| oV 71 .u64 70<|
 oR 72 (.callV (t 68) [(t 71), (oi 8)])<| .nil) (.reg false <| oF 73 1 10<| oL 74 73<| oR 75 (oa 114 74)<| oR 76 (ob 111 5 75)<| .nil)))) (.reg false <| oC 77 .add 64 1<|
 oM 64 77<| .nil))))))) (.seq (.seq (.reg false <| oM 78 1<| .nil) (.cond (t 78) (.seq (.reg false <| oF 79 1 2<| oL 80 79<| oD 81 80<| oO 82 0<| .nil)
 (.block 4 (.loop (.seq (.reg false <| oB 83 .lss 82 81<| .nil) (.seq (.cond (t 83) .skip (.exit 4)) (.seq (.block 5 (.seq (.reg false <| oI 84 4 80 82<| oK 85 4 84<|
 oR 12 (.alloc 50 [(.string ⟨#[]⟩), (.int .u32 0), (.int .u32 0), (.slice none 0 0)])<| oU 4 12 85<| .nil) (.seq (.reg false <| oF 86 3 12<| oL 87 86<| oD 88 87<|
 oR 89 (oa 113 88)<| oR 90 (ob 111 5 89)<| .nil) (.seq (.reg false <| oF 91 3 12<| oL 92 91<| oD 93 92<| oO 94 0<| .nil) (.block 6 (.loop (.seq (.reg false <|
 oB 95 .lss 94 93<| .nil) (.seq (.cond (t 95) .skip (.exit 6)) (.seq (.block 7 (.seq (.reg false <| oI 96 1 92 94<| oL 97 96<| oM 14 97<| .nil) (.reg false <| oM 98 14<|
 oR 99 (oa 114 98)<| oR 100 (ob 111 5 99)<| .nil))) (.reg false <| oC 101 .add 94 1<| oM 94 101<| .nil)))))))))) (.reg false <| oC 102 .add 82 1<|
 oM 82 102<| .nil))))))) .skip)) (.seq (.reg false <| oM 103 6<| oF 104 3 2<| oL 105 104<| oV 106 .u64 105<| oR 107 (.callV (t 103) [(t 106), (oi 4)])<| .nil)
 (.seq (.reg false <| oR 108 (oa 115 5)<| oM 4 108<| .nil) .ret))))))))))))
theorem s_wire_encode : CS 109 k_wire_encode [.tmp 4] F.wire_encode :=
  cs Tryz.func99 (by kernel_rfl) (by kernel_rfl)
end Go.Proofs.YtfeifodeaphbjaaGreat
end
