/- The resolved code of functions, printed by program. -/
import Derived.Test.YtfeifodeaphbjaaGreatG15
section
namespace Go.Proofs.YtfeifodeaphbjaaGreat
open Go Go.K
noncomputable def k_kedgelaw14_GraphPlays : KC :=
(.seq (.reg false <| oR 3 (.box 25 (t 1))<| oR 4 (.move (.const (.bool false)))<| .nil) (.seq (.reg false <| oR 30 (.call 13 [])<| oM 5 30<| .nil) (.seq (.reg false <|
 oR 6 (.move (.const (.slice none 0 0)))<| .nil) (.seq (.seq (.reg false <| oM 31 0<| oM 32 0<| oD 33 32<| oR 34 (.minmax false (t 33) [(oi 25)])<|
 oR 35 (.sliceSl 13 (t 31) none (some (t 34)))<| oD 36 35<| oO 37 0<| .nil) (.block 0 (.loop (.seq (.reg false <| oB 38 .lss 37 36<| .nil)
 (.seq (.cond (t 38) .skip (.exit 0)) (.seq (.block 1 (.seq (.reg false <| oI 39 13 35 37<| oK 40 13 39<|
 oR 8 (.alloc 37 [(.int .u8 0), (.int .u8 0), (.slice none 0 0), (.int .u8 0), (.int .u8 0), (.int .i64 0), (.int .u8 0), (.int .u8 0), (.int .u32 0), (.slice none 0 0), (.slice none 0 0), (.int .u32 0), (.bool false)])<|
 oU 13 8 40<| .nil) (.seq (.seq (.reg false <| oF 41 0 8<| oL 42 41<| oR 43 (.bin .rem (t 42) (.const (.int .u8 4)))<|
 oR 44 (.bin .eql (t 43) (.const (.int .u8 3)))<| .nil) (.cond (t 44) (.seq (.reg false <| oF 45 0 3<| oL 46 45<| oM 9 46<| .nil) (.seq (.seq (.reg false <| oM 47 6<|
 oD 48 47<| oC 49 .gtr 48 0<| .nil) (.cond (t 49) (.reg false <| oM 50 6<| oF 51 1 8<| oL 52 51<| oV 53 .i64 52<| oM 54 6<| oD 55 54<| oB 56 .rem 53 55<| oI 57 7 50 56<|
 oF 58 4 57<| oL 59 58<| oM 9 59<| .nil) .skip)) (.seq (.reg false <| oM 60 5<| oM 61 9<| oR 62 (ob 14 60 61)<| oM 10 62<| .nil) (.seq (.reg false <| oM 64 6<| oM 65 9<|
 oR 66 (ob 15 64 65)<| oM 63 66<| oX 67 0 63<| oX 68 1 63<| oM 11 67<| oM 12 68<| .nil) (.seq (.seq (.reg false <| oM 69 10<| oM 70 12<| oB 71 .neq 69 70<| .nil)
 (.cond (t 71) (.seq (.reg false <| oR 4 (.move (.const (.bool false)))<| .nil) .ret) .skip)) (.reg false <| oM 72 11<| oM 6 72<| .nil)))))) (.seq (.reg false <| oM 73 6<|
 oK 74 13 8<| oR 75 (ob 16 73 74)<| oR 13 (.alloc 35 [(.int .u32 0), (.slice none 0 0), (.slice none 0 0), (.int .u32 0)])<| oU 4 13 75<| .nil) (.seq (.reg false <|
 oM 76 5<| oK 77 4 13<| oF 78 2 8<| oF 79 3 78<| oL 80 79<| oR 81 (oc 17 76 77 80)<| oM 14 81<| .nil) (.seq (.reg false <| oM 83 6<| oK 84 4 13<| oF 85 2 8<| oF 86 3 85<|
 oL 87 86<| oR 88 (oc 18 83 84 87)<| oM 82 88<| oX 89 0 82<| oX 90 1 82<| oM 15 89<| oM 16 90<| .nil) (.seq (.seq (.reg false <| oM 91 14<| oM 92 16<|
 oB 93 .neq 91 92<| .nil) (.cond (t 93) (.seq (.reg false <| oR 4 (.move (.const (.bool false)))<| .nil) .ret) .skip)) (.reg false <| oM 94 15<| oM 6 94<| .nil)))))))
 (.seq (.reg false <| oM 95 5<| oM 96 6<| oR 97 (ob 19 95 96)<| oT 98 97<| .nil) (.cond (t 98) (.seq (.reg false <|
 oR 4 (.move (.const (.bool false)))<| .nil) .ret) .skip))))) (.reg false <| oC 99 .add 37 1<| oM 37 99<| .nil))))))) (.seq (.seq (.reg false <| oM 100 6<| oF 101 0 3<|
 oL 102 101<| oK 103 2 3<| oR 104 (.build [(.string ⟨#[]⟩), (.int .u32 0), (.int .u32 0), (.slice none 0 0)] [(0, 2, (t 103))])<|
 oR 105 (.buildSlice 50 1 [(.string ⟨#[]⟩), (.int .u32 0), (.int .u32 0), (.slice none 0 0)] [(0, 4, (t 104))])<|
 oR 106 (.build [(.int .u32 0), (.slice none 0 0), (.slice none 0 0), (.int .u32 0)] [(1, 1, (t 105))])<|
 oR 107 (.build [(.int .u32 0), (.slice none 0 0), (.slice none 0 0), (.int .u32 0), (.string ⟨#[]⟩), (.int .i64 0), (.int .i64 0)] [(4, 1, (t 102)), (0, 4, (t 106))])<|
 oR 108 (.buildSlice 39 1 [(.int .u32 0), (.slice none 0 0), (.slice none 0 0), (.int .u32 0), (.string ⟨#[]⟩), (.int .i64 0), (.int .i64 0)] [(0, 7, (t 107))])<|
 oR 109 (.append 39 7 96 [(.int .u32 0), (.slice none 0 0), (.slice none 0 0), (.int .u32 0), (.string ⟨#[]⟩), (.int .i64 0), (.int .i64 0)] (t 100) (t 108))<| oD 110 109<|
 oO 111 0<| .nil) (.block 2 (.loop (.seq (.reg false <| oB 112 .lss 111 110<| .nil) (.seq (.cond (t 112) .skip (.exit 2)) (.seq (.block 3 (.seq (.reg false <|
 oI 113 7 109 111<| oK 114 7 113<| oR 18 (.alloc 39 [(.int .u32 0), (.slice none 0 0), (.slice none 0 0), (.int .u32 0), (.string ⟨#[]⟩), (.int .i64 0), (.int .i64 0)])<|
 oU 7 18 114<| .nil) (.seq (.reg false <| oM 115 6<| oF 116 4 18<| oL 117 116<| oR 118 (ob 20 115 117)<| oM 19 118<| .nil) (.seq (.reg false <| oM 120 5<| oF 121 4 18<|
 oL 122 121<| oR 123 (ob 21 120 122)<| oM 119 123<| oX 124 0 119<| oX 125 1 119<|
 oR 20 (.alloc 39 [(.int .u32 0), (.slice none 0 0), (.slice none 0 0), (.int .u32 0), (.string ⟨#[]⟩), (.int .i64 0), (.int .i64 0)])<| oU 7 20 124<| oM 21 125<| .nil)
 (.seq (.seq (.reg true <| .join (oM 126 21<| oM 127 19<| oC 128 .geq 127 0<| oR 129 (.eqNil true .bool (t 126) (t 128))<| oM 130 129<| oG 131 130 false (.move (t 21))<|
 oG 132 130 false (.move (t 131))<| oG 133 132 true (.fieldAddr 5 (t 20))<| oG 134 132 true (.load (t 133))<| oG 135 132 true (.move (t 6))<|
 oG 136 132 true (.move (t 19))<| oG 137 132 true (.indexAddr 7 (t 135) (t 136))<| oG 138 132 true (.fieldAddr 5 (t 137))<| oG 139 132 true (.load (t 138))<|
 oG 140 132 true (.bin .neq (t 134) (t 139))<| oG 141 130 false (.pick (t 132) (t 140) (.const (.bool false)))<| oR 142 (.pick (t 130) (.const (.bool true)) (t 141))<|
 oM 143 142<| oG 144 143 false (.move (t 21))<| oG 145 143 false (.not (t 144))<| oG 146 143 false (.move (t 145))<|
 oG 147 146 true (.fieldAddr 4 (t 20))<| .nil) <|oG 148 146 true (.load (t 147))<| oG 149 146 true (.bin .neq (t 148) (.const (.string ⟨#[]⟩)))<|
 oG 150 143 false (.pick (t 146) (t 149) (.const (.bool false)))<| oR 151 (.pick (t 143) (.const (.bool true)) (t 150))<| .nil) (.cond (t 151) (.seq (.reg false <|
 oR 4 (.move (.const (.bool false)))<| .nil) .ret) .skip)) (.seq (.reg false <| oF 152 0 18<| oF 153 1 152<| oL 154 153<| oD 155 154<| oO 156 0<| .nil)
 (.block 4 (.loop (.seq (.reg false <| oB 157 .lss 156 155<| .nil) (.seq (.cond (t 157) .skip (.exit 4)) (.seq (.block 5 (.seq (.reg false <| oI 158 4 154 156<|
 oK 159 4 158<| oR 23 (.alloc 50 [(.string ⟨#[]⟩), (.int .u32 0), (.int .u32 0), (.slice none 0 0)])<| oU 4 23 159<| .nil) (.seq (.reg false <| oM 161 5<| oF 162 0 23<|
 oK 163 2 162<| oR 164 (ob 22 161 163)<| oM 160 164<| oX 165 0 160<| oX 166 1 160<| oM 24 165<| oM 25 166<| .nil) (.seq (.reg false <| oM 167 6<| oF 168 0 23<|
 oK 169 2 168<| oR 170 (ob 23 167 169)<| oM 26 170<| .nil) (.seq (.seq (.reg false <| oM 171 25<| oM 172 26<| oC 173 .geq 172 0<|
 oR 174 (.eqNil true .bool (t 171) (t 173))<| oM 175 174<| oG 176 175 false (.move (t 25))<| oG 177 175 false (.move (t 176))<| oG 178 177 true (.move (t 24))<|
 oG 179 177 true (.move (t 6))<| oG 180 177 true (.move (t 26))<| oG 181 177 true (.indexAddr 7 (t 179) (t 180))<| oG 182 177 true (.fieldAddr 4 (t 181))<|
 oG 183 177 true (.load (t 182))<| oG 184 177 true (.bin .neq (t 178) (t 183))<| oG 185 175 false (.pick (t 177) (t 184) (.const (.bool false)))<|
 oR 186 (.pick (t 175) (.const (.bool true)) (t 185))<| oM 187 186<| oG 188 187 false (.move (t 25))<| oG 189 187 false (.not (t 188))<| oG 190 187 false (.move (t 189))<|
 oG 191 190 true (.move (t 24))<| oG 192 190 true (.bin .neq (t 191) (.const (.string ⟨#[]⟩)))<| oG 193 187 false (.pick (t 190) (t 192) (.const (.bool false)))<|
 oR 194 (.pick (t 187) (.const (.bool true)) (t 193))<| .nil) (.cond (t 194) (.seq (.reg false <| oR 4 (.move (.const (.bool false)))<| .nil) .ret) .skip))
 (.seq (.reg false <| oM 196 5<| oF 197 0 23<| oK 198 2 197<| oR 199 (ob 24 196 198)<| oM 195 199<| oX 200 0 195<| oX 201 1 195<|
 oR 27 (.alloc 58 [(.int .i64 0), (.string ⟨#[]⟩)])<| oU 2 27 200<| oM 28 201<| .nil) (.seq (.reg false <| oM 202 6<| oF 203 0 23<| oF 204 0 203<| oL 205 204<|
 oR 206 (ob 20 202 205)<| oM 26 206<| .nil) (.seq (.reg true <| oM 207 26<| oC 208 .geq 207 0<| oM 209 208<| oG 210 209 true (.fieldAddr 0 (t 23))<|
 oG 211 209 true (.fieldAddr 1 (t 210))<| oG 212 209 true (.load (t 211))<| oG 213 209 true (.conv .i64 (t 212))<| oG 214 209 true (.move (t 6))<|
 oG 215 209 true (.move (t 26))<| oG 216 209 true (.minmax true (t 215) [(oi 0)])<| oG 217 209 true (.indexAddr 7 (t 214) (t 216))<|
 oG 218 209 true (.fieldAddr 0 (t 217))<| oG 219 209 true (.fieldAddr 2 (t 218))<| oG 220 209 true (.load (t 219))<| oG 221 209 true (.len false (t 220))<|
 oG 222 209 true (.bin .lss (t 213) (t 221))<| oR 223 (.pick (t 209) (t 222) (.const (.bool false)))<| oM 29 223<| .nil) (.seq (.reg true <| oM 224 28<| oM 225 29<|
 oR 226 (.eqNil true .bool (t 224) (t 225))<| oM 227 226<| oG 228 227 false (.move (t 28))<| oG 229 227 false (.move (t 228))<| oG 230 229 true (.loadN 2 (t 27))<|
 oG 231 229 true (.move (t 6))<| oG 232 229 true (.move (t 26))<| oG 233 229 true (.indexAddr 7 (t 231) (t 232))<| oG 234 229 true (.fieldAddr 0 (t 233))<|
 oG 235 229 true (.fieldAddr 2 (t 234))<| oG 236 229 true (.load (t 235))<| oG 237 229 true (.fieldAddr 0 (t 23))<| oG 238 229 true (.fieldAddr 1 (t 237))<|
 oG 239 229 true (.load (t 238))<| oG 240 229 true (.indexAddr 2 (t 236) (t 239))<| oG 241 229 true (.loadN 2 (t 240))<|
 oG 242 229 true (.eqAgg true [.i, .s] (t 230) (t 241))<| oG 243 227 false (.pick (t 229) (t 242) (.const (.bool false)))<|
 oR 244 (.pick (t 227) (.const (.bool true)) (t 243))<| .nil) (.cond (t 244) (.seq (.reg false <| oR 4 (.move (.const (.bool false)))<| .nil) .ret) .skip))))))))))
 (.reg false <| oC 245 .add 156 1<| oM 156 245<| .nil)))))))))))) (.reg false <| oC 246 .add 111 1<| oM 111 246<| .nil))))))) (.seq (.reg false <| oR 247 (.call 25 [])<|
 oM 4 247<| .nil) .ret))))))
theorem s_kedgelaw14_GraphPlays : CS 248 k_kedgelaw14_GraphPlays [.tmp 4] F.kedgelaw14_GraphPlays :=
  cs Tryz.func3 (by kernel_rfl) (by kernel_rfl)
noncomputable def k_kedgelaw14_GraphCopy : KC :=
(.seq (.reg false <| oR 4 (.move (.const (.bool false)))<| .nil) (.seq (.reg false <| oM 24 0<| oR 25 (.call 26 [(t 24), (oi 8)])<| oM 23 25<| oX 26 0 23<| oX 27 1 23<|
 oM 5 26<| oM 6 27<| .nil) (.seq (.reg false <| oM 28 5<| oR 29 (oa 47 28)<| oM 7 29<| .nil) (.seq (.seq (.reg false <| oM 30 1<| oM 31 1<| oD 32 31<|
 oR 33 (.minmax false (t 32) [(oi 6)])<| oR 34 (.sliceSl 13 (t 30) none (some (t 33)))<| oD 35 34<| oO 36 0<| .nil) (.block 0 (.loop (.seq (.reg false <|
 oB 37 .lss 36 35<| .nil) (.seq (.cond (t 37) .skip (.exit 0)) (.seq (.block 1 (.seq (.reg false <| oI 38 13 34 36<| oK 39 13 38<|
 oR 9 (.alloc 37 [(.int .u8 0), (.int .u8 0), (.slice none 0 0), (.int .u8 0), (.int .u8 0), (.int .i64 0), (.int .u8 0), (.int .u8 0), (.int .u32 0), (.slice none 0 0), (.slice none 0 0), (.int .u32 0), (.bool false)])<|
 oU 13 9 39<| .nil) (.seq (.reg false <| oM 40 7<| oK 41 13 9<| oR 42 (.call 16 [(.const (.slice none 0 0)), (t 41)])<| oR 43 (.call 17 [(t 40), (t 42), (oi 1)])<| .nil)
 (.seq (.reg false <| oM 44 6<| oD 45 44<| oC 46 .gtr 45 0<| .nil) (.cond (t 46) (.reg false <| oM 47 7<| oM 48 6<| oF 49 1 9<| oL 50 49<| oV 51 .i64 50<| oM 52 6<|
 oD 53 52<| oB 54 .rem 51 53<| oI 55 7 48 54<| oF 56 4 55<| oL 57 56<| oR 58 (ob 14 47 57)<| .nil) .skip))))) (.reg false <| oC 59 .add 36 1<| oM 36 59<| .nil)))))))
 (.seq (.seq (.reg false <| oM 60 5<| oR 61 (oa 27 60)<| oD 62 61<| oO 63 0<| .nil) (.block 2 (.loop (.seq (.reg false <| oB 64 .lss 63 62<| .nil)
 (.seq (.cond (t 64) .skip (.exit 2)) (.seq (.block 3 (.seq (.reg false <| oI 65 7 61 63<| oK 66 7 65<|
 oR 11 (.alloc 39 [(.int .u32 0), (.slice none 0 0), (.slice none 0 0), (.int .u32 0), (.string ⟨#[]⟩), (.int .i64 0), (.int .i64 0)])<| oU 7 11 66<| .nil)
 (.seq (.seq (.reg false <| oF 67 0 11<| oF 68 1 67<| oL 69 68<| oD 70 69<| oO 71 0<| .nil) (.block 4 (.loop (.seq (.reg false <| oB 72 .lss 71 70<| .nil)
 (.seq (.cond (t 72) .skip (.exit 4)) (.seq (.block 5 (.seq (.reg false <| oM 73 71<| oM 12 73<| .nil) (.reg false <| oF 74 0 11<| oF 75 1 74<| oL 76 75<| oM 77 12<|
 oI 78 4 76 77<| oF 79 2 78<| oQ (.store (t 79) (.const (.int .u32 1)))<| .nil))) (.reg false <| oC 80 .add 71 1<| oM 71 80<| .nil))))))) (.seq (.reg false <| oF 81 0 11<|
 oF 82 2 81<| oL 83 82<| oD 84 83<| oO 85 0<| .nil) (.block 6 (.loop (.seq (.reg false <| oB 86 .lss 85 84<| .nil) (.seq (.cond (t 86) .skip (.exit 6))
 (.seq (.block 7 (.seq (.reg false <| oM 87 85<| oM 13 87<| .nil) (.reg false <| oF 88 0 11<| oF 89 2 88<| oL 90 89<| oM 91 13<| oI 92 2 90 91<| oF 93 0 92<|
 oQ (.store (t 93) (oi 1))<| .nil))) (.reg false <| oC 94 .add 85 1<| oM 85 94<| .nil)))))))))) (.reg false <| oC 95 .add 63 1<| oM 63 95<| .nil))))))) (.seq (.reg false <|
 oR 14 (.move (.const (.pointer none)))<| .nil) (.seq (.reg false <| oM 97 14<| oR 98 (.call 21 [(t 97), (.const (.string ⟨#[]⟩))])<| oM 96 98<| oX 99 0 96<| oX 100 1 96<|
 oR 15 (.alloc 39 [(.int .u32 0), (.slice none 0 0), (.slice none 0 0), (.int .u32 0), (.string ⟨#[]⟩), (.int .i64 0), (.int .i64 0)])<| oU 7 15 99<| oM 16 100<| .nil)
 (.seq (.reg false <| oM 102 14<| oR 103 (.build [(.string ⟨#[]⟩), (.int .u32 0)] [])<| oR 104 (ob 22 102 103)<| oM 101 104<| oX 105 0 101<| oX 106 1 101<| oM 17 105<|
 oM 18 106<| .nil) (.seq (.reg false <| oM 108 14<| oR 109 (.build [(.string ⟨#[]⟩), (.int .u32 0)] [])<| oR 110 (ob 24 108 109)<| oM 107 110<| oX 111 0 107<|
 oX 112 1 107<| oR 19 (.alloc 58 [(.int .i64 0), (.string ⟨#[]⟩)])<| oU 2 19 111<| oM 20 112<| .nil) (.seq (.reg false <| oM 114 14<|
 oR 115 (.buildSlice 9 1 [(.string ⟨#[]⟩)] [(0, 1, (.const (.string ⟨#[]⟩)))])<| oR 116 (ob 40 114 115)<| oM 113 116<| oX 117 0 113<| oX 118 1 113<| oM 21 117<|
 oM 22 118<| .nil) (.seq (.reg false <| oR 119 (.call 25 [])<| oM 120 119<| oG 121 120 true (.move (t 5))<| oG 122 120 true (.move (t 6))<|
 oG 123 120 true (ob 19 121 122)<| oR 124 (.pick (t 120) (t 123) (.const (.bool false)))<| oM 125 124<| oG 126 125 true (.move (t 16))<| oG 127 125 true (.not (t 126))<|
 oR 128 (.pick (t 125) (t 127) (.const (.bool false)))<| oM 129 128<| oG 130 129 true (.move (t 18))<| oG 131 129 true (.not (t 130))<|
 oR 132 (.pick (t 129) (t 131) (.const (.bool false)))<| oM 133 132<| oG 134 133 true (.move (t 20))<| oG 135 133 true (.not (t 134))<|
 oR 136 (.pick (t 133) (t 135) (.const (.bool false)))<| oM 137 136<| oG 138 137 true (.move (t 21))<| oG 139 137 true (.bin .eql (t 138) (oi 0))<|
 oR 140 (.pick (t 137) (t 139) (.const (.bool false)))<| oM 141 140<| oG 142 141 true (.move (t 22))<| oG 143 141 true (.bin .eql (t 142) (oi 0))<|
 oR 144 (.pick (t 141) (t 143) (.const (.bool false)))<| oM 145 144<| oG 146 145 true (.move (t 14))<|
 oG 147 145 true (.build [(.int .u32 0), (.slice none 0 0), (.slice none 0 0), (.int .u32 0)] [])<| oG 148 145 true (.call 17 [(t 146), (t 147), (oi 0)])<|
 oG 149 145 true (.bin .eql (t 148) (oi 1))<| oR 150 (.pick (t 145) (t 149) (.const (.bool false)))<| oM 151 150<| oG 152 151 true (.move (t 14))<|
 oG 153 151 true (.call 14 [(t 152), (.const (.string ⟨#[]⟩))])<| oG 154 151 true (.bin .eql (t 153) (oi 1))<| oR 155 (.pick (t 151) (t 154) (.const (.bool false)))<|
 oM 156 155<| oG 157 156 true (.move (t 14))<| oG 158 156 true (oa 27 157)<| oG 159 156 true (.len false (t 158))<| oG 160 156 true (.bin .eql (t 159) (oi 0))<|
 oR 161 (.pick (t 156) (t 160) (.const (.bool false)))<| oM 162 161<| oG 163 162 true (.move (t 14))<|
 oG 164 162 true (.build [(.int .u32 0), (.slice none 0 0), (.slice none 0 0), (.int .u32 0)] [])<| oG 165 162 true (ob 28 163 164)<| oG 166 162 true (.len false (t 165))<|
 oG 167 162 true (.bin .eql (t 166) (oi 0))<| oR 168 (.pick (t 162) (t 167) (.const (.bool false)))<| oM 169 168<| oG 170 169 true (.move (t 14))<|
 oG 171 169 true (.call 30 [(t 170), (.const (.string ⟨#[]⟩))])<| oG 172 169 true (.len false (t 171))<| oG 173 169 true (.bin .eql (t 172) (oi 0))<|
 oR 174 (.pick (t 169) (t 173) (.const (.bool false)))<| oM 175 174<| oG 176 175 true (.move (t 14))<| oG 177 175 true (oa 47 176)<|
 oG 178 175 true (.eqNil false .pointer (t 177) (.const (.pointer none)))<| oR 179 (.pick (t 175) (t 178) (.const (.bool false)))<| oM 4 179<| .nil) .ret)))))))))))
theorem s_kedgelaw14_GraphCopy : CS 180 k_kedgelaw14_GraphCopy [.tmp 4] F.kedgelaw14_GraphCopy :=
  cs Tryz.func12 (by kernel_rfl) (by kernel_rfl)
noncomputable def k_graph_New : KC :=
(.seq (.reg false <| oR 0 (.move (.const (.pointer none)))<| .nil) (.seq (.reg false <| oR 1 (.makeMap)<| oR 2 (.makeMap)<|
 oR 3 (.build [(.map none), (.slice none 0 0), (.map none)] [(0, 1, (t 1)), (2, 1, (t 2))])<| oR 4 (.box 101 (t 3))<| oM 0 4<| .nil) .ret))
theorem s_graph_New : CS 5 k_graph_New [.tmp 0] F.graph_New :=
  cs Tryz.func13 (by kernel_rfl) (by kernel_rfl)
noncomputable def k_graph_Graph_Drop : KC :=
(.seq (.reg false <| oR 3 (.box 9 (t 1))<| oO 4 0<| .nil) (.seq (.seq (.reg false <| oM 9 0<| oR 10 (.eqNil false .pointer (t 9) (.const (.pointer none)))<| .nil)
 (.cond (t 10) (.seq (.reg false <| oO 4 1<| .nil) .ret) .skip)) (.seq (.reg true <| .join (oM 12 0<| oR 13 (.nilCheck (t 12))<| oF 14 0 13<| oL 15 14<| oL 16 3<|
 oR 17 (.lookup false [.s] (.agg #[(.int .u32 0), (.slice none 0 0), (.slice none 0 0), (.int .u32 0), (.string ⟨#[]⟩), (.int .i64 0), (.int .i64 0)]) true (t 15) (t 16))<|
 oM 11 17<| oX 18 0 11<| oX 19 1 11<|
 oR 5 (.alloc 39 [(.int .u32 0), (.slice none 0 0), (.slice none 0 0), (.int .u32 0), (.string ⟨#[]⟩), (.int .i64 0), (.int .i64 0)])<| .nil) <|oU 7 5 18<| oM 6 19<| .nil)
 (.seq (.seq (.reg false <| oM 20 6<| oT 21 20<| .nil) (.cond (t 21) (.seq (.reg false <| oO 4 8<| .nil) .ret) .skip)) (.seq (.reg true <| .join (oM 22 0<|
 oR 23 (.nilCheck (t 22))<| oF 24 0 23<| oL 25 24<| oL 26 3<| .nil) <|oQ (.delete false [.s] (t 25) (t 26))<| .nil) (.seq (.seq (.reg false <| oF 27 0 5<| oF 28 1 27<|
 oL 29 28<| oD 30 29<| oO 31 0<| .nil) (.block 0 (.loop (.seq (.reg false <| oB 32 .lss 31 30<| .nil) (.seq (.cond (t 32) .skip (.exit 0))
 (.seq (.block 1 (.seq (.reg false <| oI 33 4 29 31<| oK 34 4 33<| oR 8 (.alloc 50 [(.string ⟨#[]⟩), (.int .u32 0), (.int .u32 0), (.slice none 0 0)])<| oU 4 8 34<| .nil)
 (.reg true <| .join (oM 35 0<| oR 36 (.nilCheck (t 35))<| oF 37 2 36<| oL 38 37<| oF 39 0 8<| oK 40 2 39<| .nil) <|oQ (.delete true [.s, .i] (t 38) (t 40))<| .nil)))
 (.reg false <| oC 41 .add 31 1<| oM 31 41<| .nil))))))) (.seq (.reg false <| oM 42 0<| oM 43 0<| oR 44 (.nilCheck (t 43))<| oF 45 1 44<| oL 46 45<|
 oR 47 (.makeFunc (.func 49) [] [(t 3)])<| oR 48 (ob 48 46 47)<| oR 49 (.nilCheck (t 42))<| oF 50 1 49<| oS 50 48<| .nil) (.seq (.reg false <| oO 4 0<| .nil) .ret))))))))
theorem s_graph_Graph_Drop : CS 51 k_graph_Graph_Drop [.tmp 4] F.graph_Graph_Drop :=
  cs Tryz.func14 (by kernel_rfl) (by kernel_rfl)
noncomputable def k_kedgeref14_Drop : KC :=
(.seq (.reg false <| oR 4 (.move (.const (.slice none 0 0)))<| oO 5 0<| .nil) (.seq (.reg false <| oM 9 0<| oM 10 1<| oR 11 (ob 20 9 10)<| oM 6 11<| .nil)
 (.seq (.seq (.reg false <| oM 12 6<| oC 13 .lss 12 0<| .nil) (.cond (t 13) (.seq (.reg false <| oM 14 0<| oM 4 14<| oO 5 8<| .nil) .ret) .skip)) (.seq (.reg false <|
 oR 7 (.move (.const (.slice none 0 0)))<| .nil) (.seq (.seq (.reg false <| oO 8 0<| .nil) (.block 0 (.loop (.seq (.seq (.reg false <| oM 15 8<| oM 16 0<| oD 17 16<|
 oB 18 .lss 15 17<| .nil) (.cond (t 18) .skip (.exit 0))) (.seq (.block 1 (.seq (.reg false <| oM 21 8<| oM 22 6<| oB 23 .neq 21 22<| .nil) (.cond (t 23) (.reg false <|
 oM 24 7<| oM 25 0<| oM 26 8<| oI 27 7 25 26<| oK 28 7 27<|
 oR 29 (.buildSlice 39 1 [(.int .u32 0), (.slice none 0 0), (.slice none 0 0), (.int .u32 0), (.string ⟨#[]⟩), (.int .i64 0), (.int .i64 0)] [(0, 7, (t 28))])<|
 oR 30 (.append 39 7 96 [(.int .u32 0), (.slice none 0 0), (.slice none 0 0), (.int .u32 0), (.string ⟨#[]⟩), (.int .i64 0), (.int .i64 0)] (t 24) (t 29))<|
 oM 7 30<| .nil) .skip))) (.reg false <| oM 19 8<| oC 20 .add 19 1<| oM 8 20<| .nil)))))) (.seq (.reg false <| oM 31 7<| oM 4 31<| oO 5 0<| .nil) .ret))))))
theorem s_kedgeref14_Drop : CS 32 k_kedgeref14_Drop [.tmp 4, .tmp 5] F.kedgeref14_Drop :=
  cs Tryz.func15 (by kernel_rfl) (by kernel_rfl)
noncomputable def k_kedgelaw14_of : KC :=
(.seq (.reg false <| oR 3 (.box 37 (t 1))<| oR 4 (.alloc 35 [(.int .u32 0), (.slice none 0 0), (.slice none 0 0), (.int .u32 0)])<| .nil) (.seq (.seq (.reg false <|
 oF 6 12 3<| oL 7 6<| .nil) (.cond (t 7) (.seq (.reg false <| oF 8 8 3<| oK 9 4 8<| oR 10 (.call 36 [(t 9), (oi 4)])<| oU 4 4 10<| .nil) .ret) .skip)) (.seq (.reg false <|
 oF 11 2 3<| oK 12 6 11<| oR 5 (.alloc 31 [(.slice none 0 0), (.int .u8 0), (.int .u8 0), (.int .i64 0), (.int .u8 0), (.int .u8 0)])<| oU 6 5 12<| .nil)
 (.seq (.reg false <| oF 13 5 5<| oL 14 13<| oR 15 (.bin .rem (t 14) (.const (.int .u8 4)))<| oF 16 5 5<| oS 16 15<| .nil) (.seq (.reg false <| oM 17 0<| oK 18 6 5<|
 oR 19 (ob 32 17 18)<| oU 4 4 19<| .nil) .ret)))))
theorem s_kedgelaw14_of : CS 20 k_kedgelaw14_of [.cellN 4 4] F.kedgelaw14_of :=
  cs Tryz.func16 (by kernel_rfl) (by kernel_rfl)
noncomputable def k_graph_Graph_Add : KC :=
(.seq (.reg false <| oR 4 (.box 35 (t 1))<| oO 6 0<| .nil) (.seq (.seq (.reg false <| oM 17 0<| oR 18 (.eqNil false .pointer (t 17) (.const (.pointer none)))<| .nil)
 (.cond (t 18) (.seq (.reg false <| oO 6 1<| .nil) .ret) .skip)) (.seq (.reg false <| oK 20 4 4<| oM 21 2<| oR 22 (ob 50 20 21)<| oM 19 22<| oX 23 0 19<| oX 24 1 19<|
 oR 7 (.alloc 39 [(.int .u32 0), (.slice none 0 0), (.slice none 0 0), (.int .u32 0), (.string ⟨#[]⟩), (.int .i64 0), (.int .i64 0)])<| oU 7 7 23<| oM 8 24<| .nil)
 (.seq (.seq (.reg false <| oM 25 8<| oC 26 .neq 25 0<| .nil) (.cond (t 26) (.seq (.reg false <| oM 27 8<| oM 6 27<| .nil) .ret) .skip))
 (.seq (.seq (.reg true <| .join (oM 29 0<| oR 30 (.nilCheck (t 29))<| oF 31 0 30<| oL 32 31<| oF 33 4 7<| oL 34 33<|
 oR 35 (.lookup false [.s] (.agg #[(.int .u32 0), (.slice none 0 0), (.slice none 0 0), (.int .u32 0), (.string ⟨#[]⟩), (.int .i64 0), (.int .i64 0)]) true (t 32) (t 34))<|
 oM 28 35<| oX 36 0 28<| oX 37 1 28<|
 oR 9 (.alloc 39 [(.int .u32 0), (.slice none 0 0), (.slice none 0 0), (.int .u32 0), (.string ⟨#[]⟩), (.int .i64 0), (.int .i64 0)])<| .nil) <|oU 7 9 36<| oM 10 37<| .nil)
 (.seq (.reg false <| oM 38 10<| .nil) (.cond (t 38) (.seq (.reg false <| oO 6 7<| .nil) .ret) .skip))) (.seq (.seq (.reg false <| oF 39 1 4<| oL 40 39<| oD 41 40<|
 oO 42 0<| .nil) (.block 0 (.loop (.seq (.reg false <| oB 43 .lss 42 41<| .nil) (.seq (.cond (t 43) .skip (.exit 0)) (.seq (.block 1 (.seq (.reg false <| oI 44 4 40 42<|
 oK 45 4 44<| oR 12 (.alloc 50 [(.string ⟨#[]⟩), (.int .u32 0), (.int .u32 0), (.slice none 0 0)])<| oU 4 12 45<| .nil) (.seq (.reg true <| .join (oM 47 0<|
 oR 48 (.nilCheck (t 47))<| oF 49 2 48<| oL 50 49<| oF 51 0 12<| oK 52 2 51<| .nil) <|oR 53 (.lookup true [.s, .i] (.string ⟨#[]⟩) true (t 50) (t 52))<| oM 46 53<|
 oX 54 0 46<| oX 55 1 46<| oM 13 54<| oM 14 55<| .nil) (.seq (.reg false <| oM 56 14<| .nil) (.cond (t 56) (.seq (.reg false <| oO 6 15<| .nil) .ret) .skip)))))
 (.reg false <| oC 57 .add 42 1<| oM 42 57<| .nil))))))) (.seq (.reg true <| .join (oM 58 0<| oR 59 (.nilCheck (t 58))<| oF 60 0 59<| oL 61 60<| oF 62 4 7<| oL 63 62<|
 oK 64 7 7<| .nil) <|oQ (.mapUpdate false [.s] (t 61) (t 63) (t 64))<| .nil) (.seq (.reg true <| .join (oM 65 0<| oM 66 0<| oR 67 (.nilCheck (t 66))<| oF 68 1 67<|
 oF 70 4 7<| oL 71 70<| .both (oL 69 68<| oR 72 (.buildSlice 9 1 [(.string ⟨#[]⟩)] [(0, 1, (t 71))])<| .nil) (oR 72 (.buildSlice 9 1 [(.string ⟨#[]⟩)] [(0, 1, (t 71))])<|
 oL 69 68<| .nil)) <|oR 73 (.append 9 1 16 [(.string ⟨#[]⟩)] (t 69) (t 72))<| oR 74 (.nilCheck (t 65))<| oF 75 1 74<| oS 75 73<| .nil) (.seq (.seq (.reg false <|
 oF 76 1 4<| oL 77 76<| oD 78 77<| oO 79 0<| .nil) (.block 2 (.loop (.seq (.reg false <| oB 80 .lss 79 78<| .nil) (.seq (.cond (t 80) .skip (.exit 2))
 (.seq (.block 3 (.seq (.reg false <| oI 81 4 77 79<| oK 82 4 81<| oR 16 (.alloc 50 [(.string ⟨#[]⟩), (.int .u32 0), (.int .u32 0), (.slice none 0 0)])<| oU 4 16 82<| .nil)
 (.reg true <| .join (oM 83 0<| oR 84 (.nilCheck (t 83))<| oF 85 2 84<| oL 86 85<| oF 87 0 16<| oK 88 2 87<| oF 89 4 7<|
 oL 90 89<| .nil) <|oQ (.mapUpdate true [.s, .i] (t 86) (t 88) (t 90))<| .nil))) (.reg false <| oC 91 .add 79 1<| oM 79 91<| .nil))))))) (.seq (.reg false <|
 oO 6 0<| .nil) .ret))))))))))
theorem s_graph_Graph_Add : CS 92 k_graph_Graph_Add [.tmp 6] F.graph_Graph_Add :=
  cs Tryz.func17 (by kernel_rfl) (by kernel_rfl)
noncomputable def k_kedgeref14_Add : KC :=
(.seq (.reg false <| oR 4 (.box 35 (t 1))<| oR 6 (.move (.const (.slice none 0 0)))<| oO 7 0<| .nil) (.seq (.reg false <| oK 17 4 4<| oR 18 (oa 51 17)<| oM 8 18<| .nil)
 (.seq (.seq (.reg false <| oM 19 8<| oC 20 .neq 19 0<| .nil) (.cond (t 20) (.seq (.reg false <| oM 21 0<| oM 22 8<| oM 6 21<| oM 7 22<| .nil) .ret) .skip))
 (.seq (.reg false <| oF 23 1 4<| oL 24 23<| oR 25 (.indexAddr 4 (t 24) (oi 0))<| oF 26 0 25<| oK 27 2 26<| oR 28 (oa 52 27)<| oM 9 28<| .nil) (.seq (.seq (.reg false <|
 oM 29 9<| .nil) (.cond (t 29) (.seq (.reg false <| oM 30 0<| oM 6 30<| oO 7 4<| .nil) .ret) .skip)) (.seq (.reg false <| oM 31 2<|
 oR 32 (.pcall 53 Go.Proofs.YtfeifodeaphbjaaGreat.qGood [(t 31)])<| oM 10 32<| .nil) (.seq (.seq (.reg false <| oM 33 10<| oT 34 33<| .nil)
 (.cond (t 34) (.seq (.reg false <| oM 35 0<| oM 6 35<| oO 7 3<| .nil) .ret) .skip)) (.seq (.reg false <| oK 36 4 4<| oR 37 (oa 38 36)<| oM 11 37<| .nil)
 (.seq (.reg false <| oM 38 0<| oM 39 11<| oR 40 (ob 20 38 39)<| oM 12 40<| .nil) (.seq (.seq (.reg false <| oM 41 12<| oC 42 .geq 41 0<| .nil)
 (.cond (t 42) (.seq (.reg false <| oM 43 0<| oM 6 43<| oO 7 7<| .nil) .ret) .skip)) (.seq (.seq (.reg false <| oO 13 0<| .nil) (.block 0 (.loop (.seq (.seq (.reg false <|
 oM 44 13<| oF 45 1 4<| oL 46 45<| oD 47 46<| oB 48 .lss 44 47<| .nil) (.cond (t 48) .skip (.exit 0))) (.seq (.block 1 (.seq (.reg false <| oM 51 0<| oF 52 1 4<| oL 53 52<|
 oM 54 13<| oI 55 4 53 54<| oF 56 0 55<| oK 57 2 56<| oR 58 (ob 23 51 57)<| oM 12 58<| .nil) (.seq (.reg false <| oM 59 12<| oC 60 .geq 59 0<| .nil)
 (.cond (t 60) (.seq (.reg false <| oM 61 0<| oM 6 61<| oO 7 15<| .nil) .ret) .skip)))) (.reg false <| oM 49 13<| oC 50 .add 49 1<| oM 13 50<| .nil))))))
 (.seq (.reg false <| oK 62 4 4<| oR 63 (oa 54 62)<| oM 14 63<| .nil) (.seq (.reg false <| oR 15 (.move (.const (.slice none 0 0)))<| .nil) (.seq (.seq (.reg false <|
 oO 16 0<| .nil) (.block 2 (.loop (.seq (.seq (.reg false <| oM 64 16<| oM 65 0<| oD 66 65<| oB 67 .lss 64 66<| .nil) (.cond (t 67) .skip (.exit 2)))
 (.seq (.block 3 (.reg false <| oM 70 15<| oM 71 0<| oM 72 16<| oI 73 7 71 72<| oK 74 7 73<|
 oR 75 (.buildSlice 39 1 [(.int .u32 0), (.slice none 0 0), (.slice none 0 0), (.int .u32 0), (.string ⟨#[]⟩), (.int .i64 0), (.int .i64 0)] [(0, 7, (t 74))])<|
 oR 76 (.append 39 7 96 [(.int .u32 0), (.slice none 0 0), (.slice none 0 0), (.int .u32 0), (.string ⟨#[]⟩), (.int .i64 0), (.int .i64 0)] (t 70) (t 75))<|
 oM 15 76<| .nil)) (.reg false <| oM 68 16<| oC 69 .add 68 1<| oM 16 69<| .nil)))))) (.seq (.reg false <| oM 77 15<| oK 78 4 4<| oM 79 11<| oM 80 2<| oM 81 14<|
 oR 82 (.build [(.int .u32 0), (.slice none 0 0), (.slice none 0 0), (.int .u32 0), (.string ⟨#[]⟩), (.int .i64 0), (.int .i64 0)] [(0, 4, (t 78)), (4, 1, (t 79)), (5, 1, (t 80)), (6, 1, (t 81))])<|
 oR 83 (.buildSlice 39 1 [(.int .u32 0), (.slice none 0 0), (.slice none 0 0), (.int .u32 0), (.string ⟨#[]⟩), (.int .i64 0), (.int .i64 0)] [(0, 7, (t 82))])<|
 oR 84 (.append 39 7 96 [(.int .u32 0), (.slice none 0 0), (.slice none 0 0), (.int .u32 0), (.string ⟨#[]⟩), (.int .i64 0), (.int .i64 0)] (t 77) (t 83))<| oM 6 84<|
 oO 7 0<| .nil) .ret)))))))))))))))
theorem s_kedgeref14_Add : CS 85 k_kedgeref14_Add [.tmp 6, .tmp 7] F.kedgeref14_Add :=
  cs Tryz.func18 (by kernel_rfl) (by kernel_rfl)
noncomputable def k_kedgelaw14_same : KC :=
(.seq (.reg false <| oR 4 (.move (.const (.bool false)))<| .nil) (.seq (.reg false <| oM 8 0<| oR 9 (oa 27 8)<| oM 5 9<| .nil) (.seq (.seq (.reg false <| oM 10 5<|
 oD 11 10<| oM 12 1<| oD 13 12<| oB 14 .neq 11 13<| .nil) (.cond (t 14) (.seq (.reg false <| oR 4 (.move (.const (.bool false)))<| .nil) .ret) .skip))
 (.seq (.seq (.reg false <| oM 15 5<| oD 16 15<| oO 17 0<| .nil) (.block 0 (.loop (.seq (.reg false <| oB 18 .lss 17 16<| .nil) (.seq (.cond (t 18) .skip (.exit 0))
 (.seq (.block 1 (.seq (.reg false <| oM 19 17<| oI 20 7 15 17<| oK 21 7 20<|
 oR 7 (.alloc 39 [(.int .u32 0), (.slice none 0 0), (.slice none 0 0), (.int .u32 0), (.string ⟨#[]⟩), (.int .i64 0), (.int .i64 0)])<| oM 6 19<| oU 7 7 21<| .nil)
 (.seq (.reg true <| .join (oF 22 4 7<| oL 23 22<| oM 24 1<| oM 25 6<| oI 26 7 24 25<| oF 27 4 26<| oL 28 27<| oB 29 .neq 23 28<| oM 30 29<|
 oG 31 30 false (.fieldAddr 5 (t 7))<| oG 33 30 false (.move (t 1))<| oG 34 30 false (.move (t 6))<| oG 35 30 false (.indexAddr 7 (t 33) (t 34))<|
 oG 36 30 false (.fieldAddr 5 (t 35))<| .nil) <|.join (oG 32 30 false (.load (t 31))<| oG 37 30 false (.load (t 36))<| oG 38 30 false (.bin .neq (t 32) (t 37))<|
 oR 39 (.pick (t 30) (.const (.bool true)) (t 38))<| oM 40 39<| oG 41 40 false (.fieldAddr 6 (t 7))<| oG 43 40 false (.move (t 1))<| oG 44 40 false (.move (t 6))<|
 oG 45 40 false (.indexAddr 7 (t 43) (t 44))<| oG 46 40 false (.fieldAddr 6 (t 45))<| .nil) <|.join (oG 42 40 false (.load (t 41))<| oG 47 40 false (.load (t 46))<|
 oG 48 40 false (.bin .neq (t 42) (t 47))<| oR 49 (.pick (t 40) (.const (.bool true)) (t 48))<| oM 50 49<| oG 51 50 false (.fieldAddr 0 (t 7))<|
 oG 53 50 false (.move (t 1))<| oG 54 50 false (.move (t 6))<| oG 55 50 false (.indexAddr 7 (t 53) (t 54))<|
 oG 56 50 false (.fieldAddr 0 (t 55))<| .nil) <|.join (oG 52 50 false (.loadN 4 (t 51))<| oG 57 50 false (.loadN 4 (t 56))<| .nil) <|oG 58 50 false (ob 55 52 57)<|
 oG 59 50 false (.not (t 58))<| oR 60 (.pick (t 50) (.const (.bool true)) (t 59))<| .nil) (.cond (t 60) (.seq (.reg false <|
 oR 4 (.move (.const (.bool false)))<| .nil) .ret) .skip)))) (.reg false <| oC 61 .add 17 1<| oM 17 61<| .nil))))))) (.seq (.reg false <|
 oR 4 (.move (.const (.bool true)))<| .nil) .ret)))))
theorem s_kedgelaw14_same : CS 62 k_kedgelaw14_same [.tmp 4] F.kedgelaw14_same :=
  cs Tryz.func19 (by kernel_rfl) (by kernel_rfl)
noncomputable def k_kedgeref14_Find : KC :=
(.seq (.reg false <| oO 4 0<| .nil) (.seq (.seq (.reg false <| oO 5 0<| .nil) (.block 0 (.loop (.seq (.seq (.reg false <| oM 6 5<| oM 7 0<| oD 8 7<| oB 9 .lss 6 8<| .nil)
 (.cond (t 9) .skip (.exit 0))) (.seq (.block 1 (.seq (.reg false <| oM 12 0<| oM 13 5<| oI 14 7 12 13<| oF 15 4 14<| oL 16 15<| oM 17 1<| oB 18 .eql 16 17<| .nil)
 (.cond (t 18) (.seq (.reg false <| oM 19 5<| oM 4 19<| .nil) .ret) .skip))) (.reg false <| oM 10 5<| oC 11 .add 10 1<| oM 5 11<| .nil)))))) (.seq (.reg false <|
 oO 4 (-1)<| .nil) .ret)))
theorem s_kedgeref14_Find : CS 20 k_kedgeref14_Find [.tmp 4] F.kedgeref14_Find :=
  cs Tryz.func20 (by kernel_rfl) (by kernel_rfl)
noncomputable def k_graph_Graph_Get : KC :=
(.seq (.reg false <| oR 4 (.alloc 39 [(.int .u32 0), (.slice none 0 0), (.slice none 0 0), (.int .u32 0), (.string ⟨#[]⟩), (.int .i64 0), (.int .i64 0)])<|
 oR 5 (.move (.const (.bool false)))<| .nil) (.seq (.seq (.reg false <| oM 8 0<| oR 9 (.eqNil false .pointer (t 8) (.const (.pointer none)))<| .nil)
 (.cond (t 9) (.seq (.reg false <| oR 10 (.build [(.int .u32 0), (.slice none 0 0), (.slice none 0 0), (.int .u32 0), (.string ⟨#[]⟩), (.int .i64 0), (.int .i64 0)] [])<|
 oU 7 4 10<| oR 5 (.move (.const (.bool false)))<| .nil) .ret) .skip)) (.seq (.reg false <| oM 12 0<| oR 13 (.nilCheck (t 12))<| oF 14 0 13<| oL 15 14<| oM 16 1<|
 oR 17 (.lookup false [.s] (.agg #[(.int .u32 0), (.slice none 0 0), (.slice none 0 0), (.int .u32 0), (.string ⟨#[]⟩), (.int .i64 0), (.int .i64 0)]) true (t 15) (t 16))<|
 oM 11 17<| oX 18 0 11<| oX 19 1 11<| oR 6 (.alloc 39 [(.int .u32 0), (.slice none 0 0), (.slice none 0 0), (.int .u32 0), (.string ⟨#[]⟩), (.int .i64 0), (.int .i64 0)])<|
 oU 7 6 18<| oM 7 19<| .nil) (.seq (.reg false <| oF 20 0 6<| oK 21 4 20<| oR 22 (oa 56 21)<| oF 23 0 6<| oU 4 23 22<| .nil) (.seq (.reg false <| oK 24 7 6<| oM 25 7<|
 oU 7 4 24<| oM 5 25<| .nil) .ret)))))
theorem s_graph_Graph_Get : CS 26 k_graph_Graph_Get [.cellN 7 4, .tmp 5] F.graph_Graph_Get :=
  cs Tryz.func21 (by kernel_rfl) (by kernel_rfl)
noncomputable def k_graph_Graph_Spender : KC :=
(.seq (.reg false <| oR 3 (.box 25 (t 1))<| oR 4 (.move (.const (.string ⟨#[]⟩)))<| oR 5 (.move (.const (.bool false)))<| .nil) (.seq (.seq (.reg false <| oM 8 0<|
 oR 9 (.eqNil false .pointer (t 8) (.const (.pointer none)))<| .nil) (.cond (t 9) (.seq (.reg false <| oR 4 (.move (.const (.string ⟨#[]⟩)))<|
 oR 5 (.move (.const (.bool false)))<| .nil) .ret) .skip)) (.seq (.reg true <| .join (oM 11 0<| oR 12 (.nilCheck (t 11))<| oF 13 2 12<| oL 14 13<|
 oK 15 2 3<| .nil) <|oR 16 (.lookup true [.s, .i] (.string ⟨#[]⟩) true (t 14) (t 15))<| oM 10 16<| oX 17 0 10<| oX 18 1 10<| oM 6 17<| oM 7 18<| .nil) (.seq (.reg false <|
 oM 19 6<| oM 20 7<| oM 4 19<| oM 5 20<| .nil) .ret))))
theorem s_graph_Graph_Spender : CS 21 k_graph_Graph_Spender [.tmp 4, .tmp 5] F.graph_Graph_Spender :=
  cs Tryz.func22 (by kernel_rfl) (by kernel_rfl)
noncomputable def k_kedgeref14_Spender : KC :=
(.seq (.reg false <| oR 3 (.box 25 (t 1))<| oO 4 0<| .nil) (.seq (.seq (.reg false <| oO 5 0<| .nil) (.block 0 (.loop (.seq (.seq (.reg false <| oM 7 5<| oM 8 0<| oD 9 8<|
 oB 10 .lss 7 9<| .nil) (.cond (t 10) .skip (.exit 0))) (.seq (.block 1 (.seq (.reg false <| oO 6 0<| .nil) (.block 2 (.loop (.seq (.seq (.reg false <| oM 13 6<| oM 14 0<|
 oM 15 5<| oI 16 7 14 15<| oF 17 0 16<| oF 18 1 17<| oL 19 18<| oD 20 19<| oB 21 .lss 13 20<| .nil) (.cond (t 21) .skip (.exit 2)))
 (.seq (.block 3 (.seq (.reg true <| .join (oM 24 0<| oM 25 5<| oI 26 7 24 25<| oF 27 0 26<| oF 28 1 27<| oL 29 28<| oM 30 6<| oI 31 4 29 30<| oF 32 0 31<| oF 33 0 32<|
 oL 34 33<| oF 35 0 3<| oL 36 35<| oB 37 .eql 34 36<| oM 38 37<| oG 39 38 true (.move (t 0))<| oG 40 38 true (.move (t 5))<| oG 41 38 true (.indexAddr 7 (t 39) (t 40))<|
 oG 42 38 true (.fieldAddr 0 (t 41))<| oG 43 38 true (.fieldAddr 1 (t 42))<| oG 45 38 true (.move (t 6))<|
 oG 50 38 true (.fieldAddr 1 (t 3))<| .nil) <|oG 44 38 true (.load (t 43))<| oG 46 38 true (.indexAddr 4 (t 44) (t 45))<| oG 47 38 true (.fieldAddr 0 (t 46))<|
 oG 48 38 true (.fieldAddr 1 (t 47))<| oG 49 38 true (.load (t 48))<| oG 51 38 true (.load (t 50))<| oG 52 38 true (.bin .eql (t 49) (t 51))<|
 oR 53 (.pick (t 38) (t 52) (.const (.bool false)))<| .nil) (.cond (t 53) (.seq (.reg false <| oM 54 5<| oM 4 54<| .nil) .ret) .skip))) (.reg false <| oM 22 6<|
 oC 23 .add 22 1<| oM 6 23<| .nil))))))) (.reg false <| oM 11 5<| oC 12 .add 11 1<| oM 5 12<| .nil)))))) (.seq (.reg false <| oO 4 (-1)<| .nil) .ret)))
theorem s_kedgeref14_Spender : CS 55 k_kedgeref14_Spender [.tmp 4] F.kedgeref14_Spender :=
  cs Tryz.func23 (by kernel_rfl) (by kernel_rfl)
noncomputable def k_graph_Graph_Out : KC :=
(.seq (.reg false <| oR 3 (.box 25 (t 1))<| oR 4 (.alloc 58 [(.int .i64 0), (.string ⟨#[]⟩)])<| oR 5 (.move (.const (.bool false)))<| .nil) (.seq (.reg false <| oM 9 0<|
 oF 10 0 3<| oL 11 10<| oR 12 (ob 21 9 11)<| oM 8 12<| oX 13 0 8<| oX 14 1 8<|
 oR 6 (.alloc 39 [(.int .u32 0), (.slice none 0 0), (.slice none 0 0), (.int .u32 0), (.string ⟨#[]⟩), (.int .i64 0), (.int .i64 0)])<| oU 7 6 13<| oM 7 14<| .nil)
 (.seq (.seq (.reg false <| oM 15 7<| oT 16 15<| oM 17 16<| oG 18 17 false (.fieldAddr 1 (t 3))<| oG 19 17 false (.load (t 18))<| oG 20 17 false (.conv .i64 (t 19))<|
 oG 21 17 false (.fieldAddr 0 (t 6))<| oG 22 17 false (.fieldAddr 2 (t 21))<| oG 23 17 false (.load (t 22))<| oG 24 17 false (.len false (t 23))<|
 oG 25 17 false (.bin .geq (t 20) (t 24))<| oR 26 (.pick (t 17) (.const (.bool true)) (t 25))<| .nil) (.cond (t 26) (.seq (.reg false <|
 oR 27 (.build [(.int .i64 0), (.string ⟨#[]⟩)] [])<| oU 2 4 27<| oR 5 (.move (.const (.bool false)))<| .nil) .ret) .skip)) (.seq (.reg false <| oF 28 0 6<| oF 29 2 28<|
 oL 30 29<| oF 31 1 3<| oL 32 31<| oI 33 2 30 32<| oK 34 2 33<| oU 2 4 34<| oR 5 (.move (.const (.bool true)))<| .nil) .ret))))
theorem s_graph_Graph_Out : CS 35 k_graph_Graph_Out [.cellN 2 4, .tmp 5] F.graph_Graph_Out :=
  cs Tryz.func24 (by kernel_rfl) (by kernel_rfl)
noncomputable def k_kedgelaw14_wakes : KC :=
(.seq (.reg false <| oR 0 (.move (.const (.bool false)))<| .nil) (.seq (.reg false <| oR 8 (.call 13 [])<| oM 1 8<| .nil) (.seq (.reg false <|
 oR 9 (.buildSlice 5 1 [(.int .u8 0)] [(0, 1, (.const (.int .u8 200)))])<|
 oR 10 (.build [(.slice none 0 0), (.int .u8 0), (.int .u8 0), (.int .i64 0), (.int .u8 0), (.int .u8 0)] [(0, 1, (t 9))])<|
 oR 11 (.call 32 [(.const (.slice none 0 0)), (t 10)])<| oR 2 (.alloc 35 [(.int .u32 0), (.slice none 0 0), (.slice none 0 0), (.int .u32 0)])<| oU 4 2 11<| .nil)
 (.seq (.reg false <| oM 12 1<| oK 13 4 2<| oR 14 (.call 17 [(t 12), (t 13), (oi 5)])<| oM 3 14<| .nil) (.seq (.reg false <| oM 15 1<| oK 16 4 2<|
 oR 17 (.call 17 [(t 15), (t 16), (oi 5)])<| oM 4 17<| .nil) (.seq (.reg false <| oM 19 1<| oK 20 4 2<| oR 21 (oa 38 20)<| oR 22 (ob 21 19 21)<| oM 18 22<| oX 23 0 18<|
 oX 24 1 18<| oR 5 (.alloc 39 [(.int .u32 0), (.slice none 0 0), (.slice none 0 0), (.int .u32 0), (.string ⟨#[]⟩), (.int .i64 0), (.int .i64 0)])<| oU 7 5 23<|
 oM 6 24<| .nil) (.seq (.reg false <| oF 25 4 5<| oL 26 25<| oR 27 (.build [(.string ⟨#[]⟩), (.int .u32 0)] [(0, 1, (t 26))])<|
 oR 28 (.build [(.string ⟨#[]⟩), (.int .u32 0), (.int .u32 0), (.slice none 0 0)] [(0, 2, (t 27))])<|
 oR 29 (.buildSlice 50 1 [(.string ⟨#[]⟩), (.int .u32 0), (.int .u32 0), (.slice none 0 0)] [(0, 4, (t 28))])<|
 oR 30 (.build [(.int .u32 0), (.slice none 0 0), (.slice none 0 0), (.int .u32 0)] [(1, 1, (t 29))])<|
 oR 7 (.alloc 35 [(.int .u32 0), (.slice none 0 0), (.slice none 0 0), (.int .u32 0)])<| oU 4 7 30<| .nil) (.seq (.reg true <| .join (oM 31 3<| oC 32 .eql 31 0<| oM 33 32<|
 oG 34 33 true (.move (t 4))<| oG 35 33 true (.bin .eql (t 34) (oi 7))<| oR 36 (.pick (t 33) (t 35) (.const (.bool false)))<| oM 37 36<| oG 38 37 true (.move (t 6))<|
 oR 39 (.pick (t 37) (t 38) (.const (.bool false)))<| oM 40 39<| oG 41 40 true (.fieldAddr 5 (t 5))<| oG 42 40 true (.load (t 41))<|
 oG 43 40 true (.bin .eql (t 42) (oi 5))<| oR 44 (.pick (t 40) (t 43) (.const (.bool false)))<| oM 45 44<| oG 46 45 true (.move (t 1))<|
 oG 49 45 true (.fieldAddr 4 (t 5))<| .nil) <|.join (.both (oG 47 45 true (.loadN 4 (t 7))<| .both (oG 48 45 true (ob 28 46 47)<| oG 50 45 true (.load (t 49))<|
 oG 51 45 true (.buildSlice 9 1 [(.string ⟨#[]⟩)] [(0, 1, (t 50))])<| .nil) (oG 50 45 true (.load (t 49))<| .both (oG 48 45 true (ob 28 46 47)<|
 oG 51 45 true (.buildSlice 9 1 [(.string ⟨#[]⟩)] [(0, 1, (t 50))])<| .nil) (oG 51 45 true (.buildSlice 9 1 [(.string ⟨#[]⟩)] [(0, 1, (t 50))])<|
 oG 48 45 true (ob 28 46 47)<| .nil))) (oG 50 45 true (.load (t 49))<| .both (oG 47 45 true (.loadN 4 (t 7))<| .both (oG 48 45 true (ob 28 46 47)<|
 oG 51 45 true (.buildSlice 9 1 [(.string ⟨#[]⟩)] [(0, 1, (t 50))])<| .nil) (oG 51 45 true (.buildSlice 9 1 [(.string ⟨#[]⟩)] [(0, 1, (t 50))])<|
 oG 48 45 true (ob 28 46 47)<| .nil)) (oG 51 45 true (.buildSlice 9 1 [(.string ⟨#[]⟩)] [(0, 1, (t 50))])<| oG 47 45 true (.loadN 4 (t 7))<|
 oG 48 45 true (ob 28 46 47)<| .nil))) <|.join (oG 52 45 true (ob 43 48 51)<| oR 53 (.pick (t 45) (t 52) (.const (.bool false)))<| oM 54 53<| oG 55 54 true (.move (t 1))<|
 oG 56 54 true (.fieldAddr 4 (t 5))<| oG 59 54 true (.fieldAddr 4 (t 5))<| .nil) <|.join (.both (oG 57 54 true (.load (t 56))<| .both (oG 58 54 true (ob 30 55 57)<|
 oG 60 54 true (.load (t 59))<| oG 61 54 true (.buildSlice 9 1 [(.string ⟨#[]⟩)] [(0, 1, (t 60))])<| .nil)
 (oG 60 54 true (.load (t 59))<| .both (oG 58 54 true (ob 30 55 57)<| oG 61 54 true (.buildSlice 9 1 [(.string ⟨#[]⟩)] [(0, 1, (t 60))])<| .nil)
 (oG 61 54 true (.buildSlice 9 1 [(.string ⟨#[]⟩)] [(0, 1, (t 60))])<| oG 58 54 true (ob 30 55 57)<| .nil)))
 (oG 60 54 true (.load (t 59))<| .both (oG 57 54 true (.load (t 56))<| .both (oG 58 54 true (ob 30 55 57)<|
 oG 61 54 true (.buildSlice 9 1 [(.string ⟨#[]⟩)] [(0, 1, (t 60))])<| .nil) (oG 61 54 true (.buildSlice 9 1 [(.string ⟨#[]⟩)] [(0, 1, (t 60))])<|
 oG 58 54 true (ob 30 55 57)<| .nil)) (oG 61 54 true (.buildSlice 9 1 [(.string ⟨#[]⟩)] [(0, 1, (t 60))])<| oG 57 54 true (.load (t 56))<|
 oG 58 54 true (ob 30 55 57)<| .nil))) <|oG 62 54 true (ob 43 58 61)<| oR 63 (.pick (t 54) (t 62) (.const (.bool false)))<| oM 64 63<| oG 65 64 true (.move (t 1))<|
 oG 66 64 true (.call 14 [(t 65), (.const (.string ⟨#[]⟩))])<| oG 67 64 true (.bin .eql (t 66) (oi 8))<| oR 68 (.pick (t 64) (t 67) (.const (.bool false)))<|
 oM 0 68<| .nil) .ret))))))))
theorem s_kedgelaw14_wakes : CS 69 k_kedgelaw14_wakes [.tmp 0] F.kedgelaw14_wakes :=
  cs Tryz.func25 (by kernel_rfl) (by kernel_rfl)
noncomputable def k_kedgelaw14_filled : KC :=
(.seq (.reg false <| oR 4 (.move (.const (.pointer none)))<| oR 5 (.move (.const (.slice none 0 0)))<| .nil) (.seq (.reg false <| oR 12 (.call 13 [])<| oM 6 12<| .nil)
 (.seq (.reg false <| oR 7 (.move (.const (.slice none 0 0)))<| .nil) (.seq (.seq (.reg false <| oM 13 0<| oM 14 0<| oD 15 14<| oM 16 1<|
 oR 17 (.minmax false (t 15) [(t 16)])<| oR 18 (.sliceSl 13 (t 13) none (some (t 17)))<| oD 19 18<| oO 20 0<| .nil) (.block 0 (.loop (.seq (.reg false <|
 oB 21 .lss 20 19<| .nil) (.seq (.cond (t 21) .skip (.exit 0)) (.seq (.block 1 (.seq (.reg false <| oI 22 13 18 20<| oK 23 13 22<|
 oR 9 (.alloc 37 [(.int .u8 0), (.int .u8 0), (.slice none 0 0), (.int .u8 0), (.int .u8 0), (.int .i64 0), (.int .u8 0), (.int .u8 0), (.int .u32 0), (.slice none 0 0), (.slice none 0 0), (.int .u32 0), (.bool false)])<|
 oU 13 9 23<| .nil) (.seq (.reg false <| oM 24 7<| oK 25 13 9<| oR 26 (ob 16 24 25)<|
 oR 10 (.alloc 35 [(.int .u32 0), (.slice none 0 0), (.slice none 0 0), (.int .u32 0)])<| oU 4 10 26<| .nil) (.seq (.reg false <| oM 27 6<| oK 28 4 10<| oF 29 2 9<|
 oF 30 3 29<| oL 31 30<| oC 32 .and 31 65535<| oR 33 (oc 17 27 28 32)<| .nil) (.seq (.reg false <| oM 35 7<| oK 36 4 10<| oF 37 2 9<| oF 38 3 37<| oL 39 38<|
 oC 40 .and 39 65535<| oR 41 (oc 18 35 36 40)<| oM 34 41<| oX 42 0 34<| oX 43 1 34<| oM 7 42<| .nil) (.seq (.reg false <| oF 44 0 9<| oL 45 44<|
 oR 46 (.bin .rem (t 45) (.const (.int .u8 8)))<| oR 47 (.bin .eql (t 46) (.const (.int .u8 7)))<| oM 48 47<| oG 49 48 true (.move (t 7))<|
 oG 50 48 true (.len false (t 49))<| oG 51 48 true (.bin .gtr (t 50) (oi 0))<| oR 52 (.pick (t 48) (t 51) (.const (.bool false)))<| .nil) (.cond (t 52) (.seq (.reg false <|
 oM 53 7<| oF 54 1 9<| oL 55 54<| oV 56 .i64 55<| oM 57 7<| oD 58 57<| oB 59 .rem 56 58<| oI 60 7 53 59<| oF 61 4 60<| oL 62 61<| oM 11 62<| .nil) (.seq (.reg false <|
 oM 63 6<| oM 64 11<| oR 65 (ob 14 63 64)<| .nil) (.reg false <| oM 67 7<| oM 68 11<| oR 69 (ob 15 67 68)<| oM 66 69<| oX 70 0 66<| oX 71 1 66<|
 oM 7 70<| .nil))) .skip))))))) (.reg false <| oC 72 .add 20 1<| oM 20 72<| .nil))))))) (.seq (.reg false <| oM 73 6<| oM 74 7<| oM 4 73<| oM 5 74<| .nil) .ret)))))
theorem s_kedgelaw14_filled : CS 75 k_kedgelaw14_filled [.tmp 4, .tmp 5] F.kedgelaw14_filled :=
  cs Tryz.func26 (by kernel_rfl) (by kernel_rfl)
noncomputable def k_graph_Graph_All : KC :=
(.seq (.reg false <| oR 2 (.move (.const (.slice none 0 0)))<| .nil) (.seq (.seq (.reg false <| oM 8 0<|
 oR 9 (.eqNil false .pointer (t 8) (.const (.pointer none)))<| .nil) (.cond (t 9) (.seq (.reg false <| oR 2 (.move (.const (.slice none 0 0)))<| .nil) .ret) .skip))
 (.seq (.reg false <| oR 3 (.move (.const (.slice none 0 0)))<| .nil) (.seq (.seq (.reg false <| oM 10 0<| oR 11 (.nilCheck (t 10))<| oF 12 1 11<| oL 13 12<| oD 14 13<|
 oO 15 0<| .nil) (.block 0 (.loop (.seq (.reg false <| oB 16 .lss 15 14<| .nil) (.seq (.cond (t 16) .skip (.exit 0)) (.seq (.block 1 (.seq (.reg false <| oI 17 1 13 15<|
 oL 18 17<| oM 5 18<| .nil) (.seq (.reg false <| oM 20 0<| oM 21 5<| oR 22 (ob 21 20 21)<| oM 19 22<| oX 23 0 19<| oX 24 1 19<|
 oR 6 (.alloc 39 [(.int .u32 0), (.slice none 0 0), (.slice none 0 0), (.int .u32 0), (.string ⟨#[]⟩), (.int .i64 0), (.int .i64 0)])<| oU 7 6 23<| oM 7 24<| .nil)
 (.reg false <| oM 25 3<| oK 26 7 6<|
 oR 27 (.buildSlice 39 1 [(.int .u32 0), (.slice none 0 0), (.slice none 0 0), (.int .u32 0), (.string ⟨#[]⟩), (.int .i64 0), (.int .i64 0)] [(0, 7, (t 26))])<|
 oR 28 (.append 39 7 96 [(.int .u32 0), (.slice none 0 0), (.slice none 0 0), (.int .u32 0), (.string ⟨#[]⟩), (.int .i64 0), (.int .i64 0)] (t 25) (t 27))<|
 oM 3 28<| .nil)))) (.reg false <| oC 29 .add 15 1<| oM 15 29<| .nil))))))) (.seq (.reg false <| oM 30 3<| oM 2 30<| .nil) .ret)))))
theorem s_graph_Graph_All : CS 31 k_graph_Graph_All [.tmp 2] F.graph_Graph_All :=
  cs Tryz.func27 (by kernel_rfl) (by kernel_rfl)
noncomputable def k_graph_Graph_Above : KC :=
(.seq (.reg false <| oR 2 (.box 26 (t 0))<| oR 3 (.box 35 (t 1))<| oR 4 (.move (.const (.slice none 0 0)))<| .nil) (.seq (.seq (.reg false <| oL 5 2<|
 oR 6 (.eqNil false .pointer (t 5) (.const (.pointer none)))<| .nil) (.cond (t 6) (.seq (.reg false <| oR 4 (.move (.const (.slice none 0 0)))<| .nil) .ret) .skip))
 (.seq (.reg true <| .join (oL 8 2<| oK 9 4 3<| oR 11 (.makeFunc (.func 59) [] [(t 2)])<| .both (oL 7 2<| oR 10 (ob 58 8 9)<| .nil) (oR 10 (ob 58 8 9)<|
 oL 7 2<| .nil)) <|oR 12 (oc 57 7 10 11)<| oM 4 12<| .nil) .ret)))
theorem s_graph_Graph_Above : CS 13 k_graph_Graph_Above [.tmp 4] F.graph_Graph_Above :=
  cs Tryz.func28 (by kernel_rfl) (by kernel_rfl)
noncomputable def k_slices_Contains_L_string_string : KC :=
(.seq (.reg false <| oR 4 (.move (.const (.bool false)))<| .nil) (.seq (.reg false <| oM 5 0<| oM 6 1<| oR 7 (ob 60 5 6)<| oC 8 .geq 7 0<| oM 4 8<| .nil) .ret))
theorem s_slices_Contains_L_string_string : CS 9 k_slices_Contains_L_string_string [.tmp 4] F.slices_Contains_L_string_string :=
  cs Tryz.func29 (by kernel_rfl) (by kernel_rfl)
noncomputable def k_graph_Graph_Below : KC :=
(.seq (.reg false <| oR 4 (.move (.const (.slice none 0 0)))<| .nil) (.seq (.seq (.reg false <| oM 8 0<| oM 9 1<| oR 10 (ob 21 8 9)<| oM 7 10<| oX 11 0 7<| oX 12 1 7<|
 oR 5 (.alloc 39 [(.int .u32 0), (.slice none 0 0), (.slice none 0 0), (.int .u32 0), (.string ⟨#[]⟩), (.int .i64 0), (.int .i64 0)])<| oU 7 5 11<| oM 6 12<| .nil)
 (.seq (.reg false <| oM 13 6<| oT 14 13<| .nil) (.cond (t 14) (.seq (.reg false <| oR 4 (.move (.const (.slice none 0 0)))<| .nil) .ret) .skip))) (.seq (.reg false <|
 oM 15 0<| oM 16 1<| oR 17 (.buildSlice 9 1 [(.string ⟨#[]⟩)] [(0, 1, (t 16))])<| oM 18 0<| oR 19 (.makeFunc (.func 61) [(t 18)] [])<| oR 20 (oc 57 15 17 19)<|
 oM 4 20<| .nil) .ret)))
theorem s_graph_Graph_Below : CS 21 k_graph_Graph_Below [.tmp 4] F.graph_Graph_Below :=
  cs Tryz.func30 (by kernel_rfl) (by kernel_rfl)
noncomputable def k_kedgeref14_Make : KC :=
(.seq (.reg false <| oR 3 (.box 31 (t 1))<| oR 4 (.alloc 35 [(.int .u32 0), (.slice none 0 0), (.slice none 0 0), (.int .u32 0)])<| .nil) (.seq (.reg false <| oF 11 4 3<|
 oL 12 11<| oV 13 .u32 12<| oR 14 (.build [(.int .u32 0), (.slice none 0 0), (.slice none 0 0), (.int .u32 0)] [(0, 1, (.const (.int .u32 2))), (3, 1, (t 13))])<|
 oR 5 (.alloc 35 [(.int .u32 0), (.slice none 0 0), (.slice none 0 0), (.int .u32 0)])<| oU 4 5 14<| .nil) (.seq (.seq (.reg false <| oO 6 0<| .nil)
 (.block 0 (.loop (.seq (.seq (.reg false <| oM 15 6<| oF 16 0 3<| oL 17 16<| oD 18 17<| oB 19 .lss 15 18<| oM 20 19<| oG 21 20 true (.move (t 6))<|
 oG 22 20 true (.bin .lss (t 21) (oi 4))<| oR 23 (.pick (t 20) (t 22) (.const (.bool false)))<| .nil) (.cond (t 23) .skip (.exit 0))) (.seq (.block 1 (.seq (.reg false <|
 oF 26 0 3<| oL 27 26<| oM 28 6<| oI 29 1 27 28<| oL 30 29<| oV 31 .i64 30<| oM 7 31<| .nil) (.seq (.reg false <| oM 32 7<| oC 33 .rem 32 16<| oR 34 (oa 37 33)<|
 oM 8 34<| .nil) (.seq (.seq (.reg false <| oM 35 7<| oC 36 .lss 35 128<| oM 37 36<| oG 38 37 true (.move (t 0))<| oG 39 37 true (.len false (t 38))<|
 oG 40 37 true (.bin .gtr (t 39) (oi 0))<| oR 41 (.pick (t 37) (t 40) (.const (.bool false)))<| .nil) (.cond (t 41) (.reg false <| oM 42 0<| oM 43 7<| oM 44 0<| oD 45 44<|
 oB 46 .rem 43 45<| oI 47 7 42 46<| oF 48 4 47<| oL 49 48<| oM 8 49<| .nil) .skip)) (.reg true <| .join (oF 50 1 5<| oM 52 8<| oF 53 1 3<| oL 54 53<| oV 55 .i64 54<|
 oM 56 6<| oR 57 (.bin .mul (oi 2) (t 56))<| oB 58 .shr 55 57<| oV 59 .u32 58<| oR 60 (.bin .rem (t 59) (.const (.int .u32 4)))<|
 oR 61 (.build [(.string ⟨#[]⟩), (.int .u32 0)] [(0, 1, (t 52)), (1, 1, (t 60))])<|
 oR 62 (.build [(.string ⟨#[]⟩), (.int .u32 0), (.int .u32 0), (.slice none 0 0)] [(0, 2, (t 61)), (2, 1, (.const (.int .u32 4294967293)))])<| .both (oL 51 50<|
 oR 63 (.buildSlice 50 1 [(.string ⟨#[]⟩), (.int .u32 0), (.int .u32 0), (.slice none 0 0)] [(0, 4, (t 62))])<| .nil)
 (oR 63 (.buildSlice 50 1 [(.string ⟨#[]⟩), (.int .u32 0), (.int .u32 0), (.slice none 0 0)] [(0, 4, (t 62))])<|
 oL 51 50<| .nil)) <|oR 64 (.append 50 4 56 [(.string ⟨#[]⟩), (.int .u32 0), (.int .u32 0), (.slice none 0 0)] (t 51) (t 63))<| oF 65 1 5<| oS 65 64<| .nil)))))
 (.reg false <| oM 24 6<| oC 25 .add 24 1<| oM 6 25<| .nil)))))) (.seq (.seq (.reg false <| oO 9 0<| .nil) (.block 2 (.loop (.seq (.seq (.reg false <| oM 66 9<| oF 67 2 3<|
 oL 68 67<| oR 69 (.bin .rem (t 68) (.const (.int .u8 3)))<| oV 70 .i64 69<| oB 71 .leq 66 70<| .nil) (.cond (t 71) .skip (.exit 2))) (.seq (.block 3 (.reg false <|
 oF 74 2 5<| oL 75 74<| oM 76 9<| oR 77 (.bin .add (oi 1000) (t 76))<|
 oR 78 (.build [(.int .i64 0), (.string ⟨#[]⟩)] [(0, 1, (t 77)), (1, 1, (.const (.string ⟨#[1, 1, 0, 0, 0, 0, 0, 0, 0]⟩)))])<|
 oR 79 (.buildSlice 58 1 [(.int .i64 0), (.string ⟨#[]⟩)] [(0, 2, (t 78))])<| oR 80 (.append 58 2 24 [(.int .i64 0), (.string ⟨#[]⟩)] (t 75) (t 79))<| oF 81 2 5<|
 oS 81 80<| .nil)) (.reg false <| oM 72 9<| oC 73 .add 72 1<| oM 9 73<| .nil)))))) (.seq (.seq (.reg false <| oO 10 0<| .nil) (.block 4 (.loop (.seq (.seq (.reg false <|
 oM 82 10<| oF 83 5 3<| oL 84 83<| oV 85 .i64 84<| oB 86 .lss 82 85<| .nil) (.cond (t 86) .skip (.exit 4))) (.seq (.block 5 (.reg false <| oF 89 2 5<| oL 90 89<|
 oR 91 (.build [(.int .i64 0), (.string ⟨#[]⟩)] [(0, 1, (oi 1000)), (1, 1, (.const (.string ⟨#[48, 49, 50, 51, 52, 53, 54, 55, 56, 57, 48, 49, 50, 51, 52, 53, 54, 55, 56, 57, 48, 49, 50, 51, 52, 53, 54, 55, 56, 57, 48, 49, 50, 51, 52, 53, 54, 55, 56, 57]⟩)))])<|
 oR 92 (.buildSlice 58 1 [(.int .i64 0), (.string ⟨#[]⟩)] [(0, 2, (t 91))])<| oR 93 (.append 58 2 24 [(.int .i64 0), (.string ⟨#[]⟩)] (t 90) (t 92))<| oF 94 2 5<|
 oS 94 93<| .nil)) (.reg false <| oM 87 10<| oC 88 .add 87 1<| oM 10 88<| .nil)))))) (.seq (.reg false <| oK 95 4 5<| oU 4 4 95<| .nil) .ret))))))
theorem s_kedgeref14_Make : CS 96 k_kedgeref14_Make [.cellN 4 4] F.kedgeref14_Make :=
  cs Tryz.func32 (by kernel_rfl) (by kernel_rfl)
end Go.Proofs.YtfeifodeaphbjaaGreat
end
