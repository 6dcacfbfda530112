/- Names of functions and types; what the resolved codes lean o -/
import Derived.Test.YtgloknkcfchnlaaGreatProg
import Derived.KernelRfl
import Derived.Test.YtgloknkcfchnlaaGreatZ4
set_option linter.unusedVariables false
set_option linter.unusedSimpArgs false
namespace Go.Proofs.YtgloknkcfchnlaaGreat
section
open Go Go.K
theorem mixed:Tryz.prog.follows .mixedOrders=true:=by kernel_rfl
@[reducible] def t (n:Nat):Operand:=.tmp n
def aG (f:Func):Code:=f.body.getD .skip
namespace F
abbrev kedgelaw17_PoolOver:Nat:=3
abbrev kedgelaw17_PoolKeeps:Nat:=4
abbrev kedgelaw17_PoolLower:Nat:=5
abbrev kedgelaw18_PackAlone:Nat:=6
abbrev kedgelaw13_ChainBack:Nat:=7
abbrev kedgelaw13_ChainMoney:Nat:=8
abbrev kedgelaw13_ChainNil:Nat:=9
abbrev kedgeref17_Coins:Nat:=10
abbrev graph_New:Nat:=11
abbrev kedgelaw17_set:Nat:=12
abbrev pool_Accept:Nat:=13
abbrev kedgeref17_Make:Nat:=14
abbrev kedgeref17_Over:Nat:=15
abbrev graph_Graph_All:Nat:=16
abbrev pool_Over:Nat:=17
abbrev kedgeref10_Find:Nat:=18
abbrev graph_Graph_Get:Nat:=19
abbrev kedgelaw17_wakes:Nat:=20
abbrev amount_Fee:Nat:=21
abbrev coins_Set_Get:Nat:=22
abbrev graph_Graph_Out:Nat:=23
abbrev graph_Graph_Copy:Nat:=24
abbrev slices_Equal_L_string_string:Nat:=25
abbrev kedgelaw17_same:Nat:=26
abbrev kedgelaw18_set:Nat:=28
abbrev kedgelaw18_two:Nat:=29
abbrev ident_ID:Nat:=30
abbrev graph_Graph_Above:Nat:=31
abbrev kedgelaw18_wakes:Nat:=32
abbrev pack_Pair:Nat:=33
abbrev kedgelaw18_same:Nat:=34
abbrev chain_New:Nat:=35
abbrev kedgelaw13_made:Nat:=36
abbrev kedgeref13_Coins:Nat:=37
abbrev chain_Chain_Connect:Nat:=38
abbrev kedgeref13_Connect:Nat:=39
abbrev chain_Chain_Coins:Nat:=40
abbrev chain_Chain_Height:Nat:=41
abbrev chain_Chain_Disconnect:Nat:=42
abbrev kedgelaw13_wakes:Nat:=43
abbrev kedgeref13_Disconnect:Nat:=44
abbrev tx_Total:Nat:=45
abbrev tx_Base:Nat:=46
abbrev kedgeref11_Fee:Nat:=47
abbrev kedgeref12_One:Nat:=48
abbrev chain_Chain_Get:Nat:=49
abbrev chain_Chain_Confirmed:Nat:=50
abbrev chain_Chain_Spender:Nat:=51
abbrev kedgeref10_Put:Nat:=52
abbrev kedgeref05_ID:Nat:=53
abbrev coins_New:Nat:=54
abbrev coins_Set_Put:Nat:=55
abbrev pool_Plain:Nat:=56
abbrev ident_Size:Nat:=57
abbrev pool_Terms_asked:Nat:=58
abbrev replace_Rules:Nat:=59
abbrev replace_Evicted:Nat:=60
abbrev limit_Fits:Nat:=61
abbrev pool_without:Nat:=62
abbrev graph_Graph_Drop:Nat:=63
abbrev graph_Graph_Add:Nat:=64
abbrev kedgeref10_same:Nat:=65
abbrev tx_Copy:Nat:=66
abbrev amount_within:Nat:=67
abbrev maps_Clone_map_string_api_Entry_string_api_Entry:Nat:=68
abbrev slices_Clone_L_string_string:Nat:=69
abbrev maps_Clone_map_api_Point_string_api_Point_string:Nat:=70
abbrev kedgeref05_Same:Nat:=71
abbrev wire_Bare:Nat:=74
abbrev sha_Twice:Nat:=75
abbrev graph_Graph_reach:Nat:=76
abbrev graph_Graph_parents:Nat:=77
abbrev graph_Graph_Above_1:Nat:=78
abbrev pack_later:Nat:=79
abbrev pack_alone:Nat:=80
abbrev pack_fault:Nat:=81
abbrev pack_formed:Nat:=82
abbrev pack_enough:Nat:=83
abbrev kedgeref12_Make:Nat:=84
abbrev kedgeref12_Apply:Nat:=85
abbrev block_Apply:Nat:=86
abbrev chain_linked:Nat:=87
abbrev coins_Set_All:Nat:=88
abbrev block_Revert:Nat:=89
abbrev tx_Grant:Nat:=90
abbrev amount_Sum:Nat:=91
abbrev tx_base:Nat:=92
abbrev kedgeref05_Check:Nat:=93
abbrev kedgeref05_Base:Nat:=94
abbrev kedgeref08_Open:Nat:=95
abbrev kedgeref08_Ripe:Nat:=96
abbrev kedgeref01_Sum:Nat:=97
abbrev kedgeref05_Total:Nat:=98
abbrev kedgeref10_Take:Nat:=99
abbrev kedgeref07_ID:Nat:=100
abbrev kedgeref01_Good:Nat:=101
abbrev kedgeref10_Total:Nat:=102
abbrev kedgeref05_Less:Nat:=103
abbrev coins_formed:Nat:=104
abbrev amount_Add:Nat:=105
abbrev check_Fee:Nat:=106
abbrev dust_First:Nat:=107
abbrev ident_Weight:Nat:=108
abbrev replace_Need:Nat:=109
abbrev amount_Good:Nat:=110
abbrev replace_Conflicts:Nat:=111
abbrev slices_ContainsFunc_L_string_string:Nat:=112
abbrev replace_Rules_1:Nat:=113
abbrev replace_replaceable:Nat:=114
abbrev replace_fresh:Nat:=115
abbrev graph_Graph_Below:Nat:=116
abbrev limit_within:Nat:=117
abbrev limit_housed:Nat:=118
abbrev slices_DeleteFunc_L_string_string:Nat:=119
abbrev graph_Graph_Drop_1:Nat:=120
abbrev graph_entry:Nat:=121
abbrev slices_Clone_L_api_In_api_In:Nat:=122
abbrev slices_Clone_L_api_Out_api_Out:Nat:=123
abbrev tx_Check:Nat:=125
abbrev wire_encode:Nat:=126
abbrev sha_Sum:Nat:=127
abbrev slices_Concat_L_string_string:Nat:=128
abbrev graph_Graph_reach_1:Nat:=129
abbrev coins_Set_Copy:Nat:=130
abbrev block_apply:Nat:=131
abbrev block_missing:Nat:=132
abbrev block_swap:Nat:=133
abbrev chain_copies:Nat:=134
abbrev slices_SortFunc_L_coins_Entry_coins_Entry:Nat:=135
abbrev coins_order:Nat:=136
abbrev strings_Repeat:Nat:=137
abbrev kedgeref05_long:Nat:=138
abbrev kedgeref08_Get:Nat:=139
abbrev kedgeref08_Signed:Nat:=140
abbrev kedgeref08_Waits:Nat:=141
abbrev kedgeref06_Bytes:Nat:=142
abbrev kedgeref04_Twice:Nat:=143
abbrev check_formed:Nat:=144
abbrev check_spent:Nat:=145
abbrev amount_Sub:Nat:=146
abbrev check_told:Nat:=147
abbrev slices_IndexFunc_L_api_Out_api_Out:Nat:=148
abbrev dust_Dust:Nat:=149
abbrev wire_Encode:Nat:=150
abbrev graph_Graph_Sum:Nat:=151
abbrev replace_above:Nat:=152
abbrev slices_ContainsFunc_L_api_In_api_In:Nat:=153
abbrev replace_Conflicts_1:Nat:=154
abbrev replace_Conflicts_1_1:Nat:=155
abbrev slices_IndexFunc_L_string_string:Nat:=156
abbrev replace_signals:Nat:=157
abbrev replace_replaceable_1:Nat:=158
abbrev graph_Graph_Spender:Nat:=159
abbrev slices_Contains_L_string_string:Nat:=160
abbrev graph_Graph_children:Nat:=161
abbrev tx_counts:Nat:=162
abbrev tx_long:Nat:=163
abbrev tx_formed:Nat:=164
abbrev tx_twice:Nat:=165
abbrev wire_encode_1:Nat:=166
abbrev strings_Builder_WriteString:Nat:=167
abbrev octet_Put:Nat:=168
abbrev wire_counted:Nat:=169
abbrev wire_sized:Nat:=170
abbrev strings_Builder_String:Nat:=171
abbrev sha_begin:Nat:=172
abbrev sha_keys:Nat:=173
abbrev sha_padded:Nat:=174
abbrev sha_schedule:Nat:=175
abbrev sha_round:Nat:=176
abbrev sha_high:Nat:=177
abbrev slices_Grow_L_string_string:Nat:=178
abbrev maps_Clone_map_api_Point_api_Coin_api_Point_api_Coin:Nat:=179
abbrev block_may:Nat:=180
abbrev coins_Set_Take:Nat:=181
abbrev block_pay:Nat:=182
abbrev tx_Less:Nat:=185
abbrev kedgeref02_Get:Nat:=190
abbrev kedgeref02_Put:Nat:=191
abbrev kedgeref06_length:Nat:=192
abbrev kedgeref04_Sum:Nat:=193
abbrev lock_Open:Nat:=194
abbrev lock_Ripe:Nat:=195
abbrev dust_Least:Nat:=196
abbrev wire_witnessed:Nat:=197
abbrev math_bits_Mul64:Nat:=198
abbrev math_bits_Div64:Nat:=199
abbrev slices_IndexFunc_L_api_In_api_In:Nat:=200
abbrev replace_signals_1:Nat:=201
abbrev slices_Index_L_string_string:Nat:=202
abbrev tx_within:Nat:=203
abbrev tx_counts_1:Nat:=204
abbrev tx_long_1:Nat:=205
abbrev slices_ContainsFunc_L_api_Out_api_Out:Nat:=206
abbrev tx_long_2:Nat:=207
abbrev tx_long_3:Nat:=208
abbrev octet_known:Nat:=210
abbrev vint_Put:Nat:=211
abbrev sha_right:Nat:=212
abbrev cmp_Or_int:Nat:=223
abbrev strings_Compare:Nat:=224
abbrev cmp_Compare_uint32:Nat:=225
abbrev kedgeref03_Put:Nat:=229
abbrev kedgeref04_pad:Nat:=230
abbrev kedgeref04_block:Nat:=231
abbrev lock_is:Nat:=232
abbrev lock_chosen:Nat:=233
abbrev lock_waits:Nat:=234
abbrev lock_height:Nat:=235
abbrev lock_Ripe_1:Nat:=236
abbrev dust_Size:Nat:=237
abbrev wire_witnessed_1:Nat:=238
abbrev slices_Contains_L_int_int:Nat:=241
abbrev math_bits_RotateLeft32:Nat:=242
abbrev cmp_isNaN_uint32:Nat:=249
abbrev kedgeref04_k:Nat:=251
abbrev kedgeref04_right:Nat:=252
abbrev lock_Get:Nat:=253
abbrev lock_Signed:Nat:=254
abbrev slices_Index_L_int_int:Nat:=255
abbrev lock_number:Nat:=258
abbrev lock_Put:Nat:=259
abbrev octet_Get:Nat:=260
abbrev pool_over_Get:Nat:=278
end F
namespace T
abbrev func:Nat:=1
abbrev int:Nat:=3
abbrev bool:Nat:=4
abbrev uint8:Nat:=5
abbrev string:Nat:=9
abbrev interface:Nat:=20
abbrev P_graph_Graph:Nat:=29
abbrev P_coins_Set:Nat:=31
abbrev kedgeref17_Small:Nat:=40
abbrev L_string:Nat:=41
abbrev api_Tx:Nat:=49
abbrev api_Out:Nat:=56
abbrev kedgeref10_Entry:Nat:=60
abbrev api_Entry:Nat:=65
abbrev api_Errno:Nat:=71
abbrev api_In:Nat:=75
abbrev kedgeref13_Chain:Nat:=99
abbrev L_api_Tx:Nat:=103
abbrev coins_Entry:Nat:=114
abbrev graph_Graph:Nat:=137
abbrev pool_over:Nat:=150
abbrev coins_Set:Nat:=156
abbrev chain_Chain:Nat:=173
abbrev kedgeref12_Small:Nat:=175
abbrev block_Undo:Nat:=180
abbrev chain_link:Nat:=184
abbrev P_api_Fault:Nat:=206
abbrev api_Fault:Nat:=208
abbrev map_string_int:Nat:=214
abbrev api_Branch:Nat:=248
abbrev strings_Builder:Nat:=264
abbrev n_8_uint32:Nat:=270
abbrev n_64_uint32:Nat:=272
end T
@[reducible] def oM (d:Nat) (a:Nat) (k:KR):KR:=.cons ⟨some d,.move (t a),none⟩ k
@[reducible] def oF (d:Nat) (i a:Nat) (k:KR):KR:=.cons ⟨some d,.fieldAddr i (t a),none⟩ k
@[reducible] def oI (d:Nat) (i a b:Nat) (k:KR):KR:=.cons ⟨some d,.indexAddr i (t a) (t b),none⟩ k
@[reducible] def oE (d:Nat) (i a:Nat) (k:KR):KR:=.cons ⟨some d,.field i (t a),none⟩ k
@[reducible] def oN (d:Nat) (i n a:Nat) (k:KR):KR:=.cons ⟨some d,.fieldN i n (t a),none⟩ k
@[reducible] def oX (d:Nat) (i a:Nat) (k:KR):KR:=.cons ⟨some d,.extract i (t a),none⟩ k
@[reducible] def oL (d:Nat) (a:Nat) (k:KR):KR:=.cons ⟨some d,.load (t a),none⟩ k
@[reducible] def oK (d:Nat) (n a:Nat) (k:KR):KR:=.cons ⟨some d,.loadN n (t a),none⟩ k
@[reducible] def oZ (a:Nat) (k:KR):KR:=.cons ⟨none,.nilCheck (t a),none⟩ k
@[reducible] def oS (a b:Nat) (k:KR):KR:=.cons ⟨none,.store (t a) (t b),none⟩ k
@[reducible] def oU (n a b:Nat) (k:KR):KR:=.cons ⟨none,.storeN n (t a) (t b),none⟩ k
@[reducible] def oD (d:Nat) (a:Nat) (k:KR):KR:=.cons ⟨some d,.len false (t a),none⟩ k
@[reducible] def oT (d:Nat) (a:Nat) (k:KR):KR:=.cons ⟨some d,.not (t a),none⟩ k
@[reducible] def oB (d:Nat) (o:BinOp) (a b:Nat) (k:KR):KR:=.cons ⟨some d,.bin o (t a) (t b),none⟩ k
@[reducible] def oC (d:Nat) (o:BinOp) (a:Nat) (c:Int) (k:KR):KR:=.cons ⟨some d,.bin o (t a) (.const (.int .i64 c)),none⟩ k
@[reducible] def oV (d:Nat) (c:IntKind) (a:Nat) (k:KR):KR:=.cons ⟨some d,.conv c (t a),none⟩ k
@[reducible] def oO (d:Nat) (c:Int) (k:KR):KR:=.cons ⟨some d,.move (.const (.int .i64 c)),none⟩ k
@[reducible] def oR (d:Nat) (o:KOp) (k:KR):KR:=.cons ⟨some d,o,none⟩ k
@[reducible] def oQ (o:KOp) (k:KR):KR:=.cons ⟨none,o,none⟩ k
@[reducible] def oG (d:Nat) (n:Nat) (b:Bool) (o:KOp) (k:KR):KR:=.cons ⟨some d,o,some (n,b)⟩ k
@[reducible] def oH (n:Nat) (b:Bool) (o:KOp) (k:KR):KR:=.cons ⟨none,o,some (n,b)⟩ k
@[reducible] def oi (c:Int):Operand:=.const (.int .i64 c)
@[reducible] def oa (f a:Nat):KOp:=.call f [t a]
@[reducible] def ob (f a b:Nat):KOp:=.call f [t a,t b]
@[reducible] def oc (f a b c:Nat):KOp:=.call f [t a,t b,t c]
@[reducible] def od (c:Bool) (k:KR):KC:=.reg c k
structure HeldC (b:Prop):Prop where
 out:b
theorem ox {a b:Prop} (k:b) (h:HeldC b→a:=by intro hheld;dsimp -failIfUnchanged only [oM,oF,oI,oE,oN,oX,oL,oK,oZ,oS,oU,oD,oT,oB,oC,oV,oO,oR,oQ,oG,oH,oi,oa,ob,oc,od];exact hheld.out):a:=h ⟨k⟩
@[reducible] def q0:Quiet Tryz.prog:=⟨fun _=>none,fun _ _ _ _ _ h=>(by cases h)⟩
end
section
open Go Go.K
noncomputable def tG:KC:=
(.seq (.reg false <| oR 4 (.move (.const (.bool false)))<| .nil) (.seq (.reg false <| oM 5 0<| oC 6 .geq 5 0<| oM 7 6<| oG 8 7 true (.move (t 0))<|
 oG 9 7 true (.move (t 1))<| oG 10 7 true (.bin .leq (t 8) (t 9))<| oR 11 (.pick (t 7) (t 10) (.const (.bool false)))<| oM 4 11<| .nil) .ret))
theorem aOe:@eE Tryz.prog q0 12 (aG Tryz.f67)=tG:=by kernel_rfl
theorem aOo {args:List Value} {w:World} {R:Value→World→Prop} (ha:Nat.ble args.length 12=true) (h:aP Tryz.prog tG (bG [.tmp 4] R) (jZ args) w):K.Spec Tryz.prog F.amount_within args w R:=
 letI:=q0;jP mixed Tryz.func67 rfl rfl (by kernel_rfl) aOe (Nat.le_of_ble_eq_true ha) h
noncomputable def qD:KC:=
(.seq (.reg false <| oR 2 (.move (.const (.bool false)))<| .nil) (.seq (.reg false <| oM 3 0<| oC 4 .geq 3 0<| oM 5 4<| oG 6 5 true (.move (t 0))<|
 oG 7 5 true (.bin .leq (t 6) (oi 2100000000000000))<| oR 8 (.pick (t 5) (t 7) (.const (.bool false)))<| oM 2 8<| .nil) .ret))
theorem aKj:@eE Tryz.prog q0 9 (aG Tryz.f101)=qD:=by kernel_rfl
theorem aJj {args:List Value} {w:World} {R:Value→World→Prop} (ha:Nat.ble args.length 9=true) (h:aP Tryz.prog qD (bG [.tmp 2] R) (jZ args) w):K.Spec Tryz.prog F.kedgeref01_Good args w R:=
 letI:=q0;jP mixed Tryz.func101 rfl rfl (by kernel_rfl) aKj (Nat.le_of_ble_eq_true ha) h
noncomputable def yH:KC:=
(.seq (.reg false <| oR 2 (.move (.const (.bool false)))<| .nil) (.seq (.reg false <| oM 3 0<| oR 4 (.call 67 [(t 3),(oi 2100000000000000)])<| oM 2 4<| .nil) .ret))
theorem aTc:@eE Tryz.prog q0 5 (aG Tryz.f110)=yH:=by kernel_rfl
theorem aTg {args:List Value} {w:World} {R:Value→World→Prop} (ha:Nat.ble args.length 5=true) (h:aP Tryz.prog yH (bG [.tmp 2] R) (jZ args) w):K.Spec Tryz.prog F.amount_Good args w R:=
 letI:=q0;jP mixed Tryz.func110 rfl rfl (by kernel_rfl) aTc (Nat.le_of_ble_eq_true ha) h
noncomputable def aEq:KC:=
(.seq (.reg false <| oR 4 (.move (.const (.bool false)))<| .nil) (.seq (.reg false <| oM 5 0<| oC 6 .geq 5 1<| oM 7 6<| oG 8 7 true (.move (t 0))<|
 oG 9 7 true (.move (t 1))<| oG 10 7 true (.bin .leq (t 8) (t 9))<| oR 11 (.pick (t 7) (t 10) (.const (.bool false)))<| oM 4 11<| .nil) .ret))
theorem bBf:@eE Tryz.prog q0 12 (aG Tryz.f203)=aEq:=by kernel_rfl
theorem aX0 {args:List Value} {w:World} {R:Value→World→Prop} (ha:Nat.ble args.length 12=true) (h:aP Tryz.prog aEq (bG [.tmp 4] R) (jZ args) w):K.Spec Tryz.prog F.tx_within args w R:=
 letI:=q0;jP mixed Tryz.func203 rfl rfl (by kernel_rfl) bBf (Nat.le_of_ble_eq_true ha) h
noncomputable def aDh:KC:=
(.seq (.reg false <| oR 4 (.move (.const (.int .u32 0)))<| .nil) (.seq (.reg false <| oM 5 0<| oM 6 1<| oR 7 (.unNeg false (t 6))<| oR 8 (ob 242 5 7)<|
 oM 4 8<| .nil) .ret))
theorem bAe:@eE Tryz.prog q0 9 (aG Tryz.f212)=aDh:=by kernel_rfl
theorem bAk {args:List Value} {w:World} {R:Value→World→Prop} (ha:Nat.ble args.length 9=true) (h:aP Tryz.prog aDh (bG [.tmp 4] R) (jZ args) w):K.Spec Tryz.prog F.sha_right args w R:=
 letI:=q0;jP mixed Tryz.func212 rfl rfl (by kernel_rfl) bAe (Nat.le_of_ble_eq_true ha) h
noncomputable def iP:KC:=
(.seq (.reg false <| oR 4 (.move (.const (.int .u32 0)))<| .nil) (.seq (.reg false <| oM 6 1<| oV 7 .u64 6<| oR 8 (.bin .and (t 7) (.const (.int .u64 31)))<|
 oM 5 8<| .nil) (.seq (.reg false <| oM 9 0<| oM 10 5<| oB 11 .shl 9 10<| oM 12 0<| oM 13 5<| oR 14 (.bin .sub (.const (.int .u64 32)) (t 13))<| oB 15 .shr 12 14<|
 oB 16 .or 11 15<| oM 4 16<| .nil) .ret)))
theorem yQ:@eE Tryz.prog q0 17 (aG Tryz.f242)=iP:=by kernel_rfl
theorem yN {args:List Value} {w:World} {R:Value→World→Prop} (ha:Nat.ble args.length 17=true) (h:aP Tryz.prog iP (bG [.tmp 4] R) (jZ args) w):K.Spec Tryz.prog F.math_bits_RotateLeft32 args w R:=
 letI:=q0;jP mixed Tryz.func242 rfl rfl (by kernel_rfl) yQ (Nat.le_of_ble_eq_true ha) h
noncomputable def nQ:KC:=
(.seq (.reg false <| oR 4 (.move (.const (.int .u32 0)))<| .nil) (.seq (.reg false <| oM 5 0<| oM 6 1<| oB 7 .shr 5 6<| oM 8 0<| oM 9 1<|
 oR 10 (.bin .sub (.const (.int .u64 32)) (t 9))<| oB 11 .shl 8 10<| oB 12 .or 7 11<| oM 4 12<| .nil) .ret))
theorem aG9:@eE Tryz.prog q0 13 (aG Tryz.f252)=nQ:=by kernel_rfl
theorem aH7 {args:List Value} {w:World} {R:Value→World→Prop} (ha:Nat.ble args.length 13=true) (h:aP Tryz.prog nQ (bG [.tmp 4] R) (jZ args) w):K.Spec Tryz.prog F.kedgeref04_right args w R:=
 letI:=q0;jP mixed Tryz.func252 rfl rfl (by kernel_rfl) aG9 (Nat.le_of_ble_eq_true ha) h
end
end Go.Proofs.YtgloknkcfchnlaaGreat
