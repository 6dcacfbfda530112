/- Names of functions and types; what the resolved codes lean o -/
import Derived.Test.YtfebcajheojodaaGreatDoorProg
import Derived.KernelRfl
import Derived.Test.YtfebcajheojodaaGreatDoorZ9
set_option linter.unusedVariables false
set_option linter.unusedSimpArgs false
namespace Go.Proofs.YtfebcajheojodaaGreatDoor
section
open Go Go.K
theorem mixed:Tryz.prog.follows .mixedOrders=true:=by kernel_rfl
@[reducible] def t (n:Nat):Operand:=.tmp n
def aI (f:Func):Code:=f.body.getD .skip
namespace F
abbrev kedgelaw18_PackPlays:Nat:=5
abbrev kedgelaw18_PackRaw:Nat:=6
abbrev kedgeref05_Cut:Nat:=7
abbrev kedgeref17_Coins:Nat:=8
abbrev kedgeref17_Make:Nat:=9
abbrev graph_New:Nat:=10
abbrev pool_Accept:Nat:=11
abbrev kedgeref17_Accept:Nat:=13
abbrev api_Code:Nat:=14
abbrev api_Place:Nat:=15
abbrev kedgeref17_Over:Nat:=19
abbrev pool_Plain:Nat:=20
abbrev kedgeref17_Plain:Nat:=21
abbrev slices_Equal_L_string_string:Nat:=22
abbrev kedgelaw18_set:Nat:=23
abbrev kedgelaw18_two:Nat:=24
abbrev pack_Pair:Nat:=25
abbrev kedgeref18_Pair:Nat:=26
abbrev kedgelaw18_same:Nat:=27
abbrev kedgelaw18_wakes:Nat:=28
abbrev kedgeref10_Put:Nat:=29
abbrev kedgeref05_ID:Nat:=30
abbrev ident_Size:Nat:=31
abbrev pool_Terms_asked:Nat:=32
abbrev replace_Rules:Nat:=33
abbrev replace_Evicted:Nat:=34
abbrev limit_Fits:Nat:=35
abbrev pool_without:Nat:=36
abbrev graph_Graph_Drop:Nat:=37
abbrev graph_Graph_Add:Nat:=38
abbrev coins_New:Nat:=39
abbrev coins_Set_Put:Nat:=40
abbrev kedgeref07_Size:Nat:=41
abbrev kedgeref17_Asked:Nat:=42
abbrev kedgeref16_Rules:Nat:=43
abbrev kedgeref16_Evicted:Nat:=44
abbrev kedgeref17_Without:Nat:=45
abbrev kedgeref15_Fits:Nat:=46
abbrev kedgeref14_IDs:Nat:=47
abbrev kedgeref14_Add:Nat:=48
abbrev errors_As:Nat:=49
abbrev graph_Graph_All:Nat:=50
abbrev kedgeref05_Same:Nat:=51
abbrev kedgeref10_Find:Nat:=54
abbrev ident_ID:Nat:=55
abbrev graph_Graph_Get:Nat:=56
abbrev check_Fee:Nat:=57
abbrev pool_Over:Nat:=58
abbrev dust_First:Nat:=59
abbrev kedgeref05_Check:Nat:=60
abbrev kedgeref07_ID:Nat:=61
abbrev kedgeref14_Find:Nat:=62
abbrev kedgeref11_Fee:Nat:=63
abbrev kedgeref09_First:Nat:=64
abbrev pack_later:Nat:=65
abbrev pack_alone:Nat:=66
abbrev pack_fault:Nat:=67
abbrev graph_Graph_Copy:Nat:=68
abbrev pack_formed:Nat:=69
abbrev pack_enough:Nat:=70
abbrev kedgeref18_Alone:Nat:=71
abbrev kedgeref14_Above:Nat:=72
abbrev kedgeref01_Good:Nat:=73
abbrev kedgeref10_Total:Nat:=74
abbrev kedgeref05_Less:Nat:=75
abbrev ident_Weight:Nat:=76
abbrev amount_Fee:Nat:=77
abbrev replace_Need:Nat:=78
abbrev amount_Good:Nat:=79
abbrev replace_Conflicts:Nat:=80
abbrev slices_ContainsFunc_L_string_string:Nat:=81
abbrev replace_Rules_1:Nat:=82
abbrev replace_replaceable:Nat:=83
abbrev replace_fresh:Nat:=84
abbrev graph_Graph_Below:Nat:=85
abbrev graph_Graph_Above:Nat:=86
abbrev limit_within:Nat:=87
abbrev limit_housed:Nat:=88
abbrev slices_DeleteFunc_L_string_string:Nat:=89
abbrev graph_Graph_Drop_1:Nat:=90
abbrev graph_entry:Nat:=91
abbrev coins_formed:Nat:=92
abbrev amount_Add:Nat:=93
abbrev kedgeref07_Weight:Nat:=94
abbrev kedgeref01_Fee:Nat:=95
abbrev kedgeref16_Conflicts:Nat:=96
abbrev kedgeref16_May:Nat:=97
abbrev kedgeref14_Spender:Nat:=98
abbrev kedgeref16_Enough:Nat:=99
abbrev kedgeref14_Below:Nat:=100
abbrev kedgeref15_count:Nat:=101
abbrev kedgeref14_Sum:Nat:=102
abbrev kedgeref05_Base:Nat:=103
abbrev kedgeref10_same:Nat:=108
abbrev wire_Bare:Nat:=109
abbrev sha_Twice:Nat:=110
abbrev tx_Copy:Nat:=111
abbrev check_formed:Nat:=112
abbrev check_spent:Nat:=113
abbrev amount_Sum:Nat:=114
abbrev tx_Total:Nat:=115
abbrev amount_Sub:Nat:=116
abbrev check_told:Nat:=117
abbrev slices_IndexFunc_L_api_Out_api_Out:Nat:=118
abbrev dust_Dust:Nat:=119
abbrev kedgeref05_long:Nat:=120
abbrev kedgeref05_Total:Nat:=121
abbrev kedgeref06_Bytes:Nat:=122
abbrev kedgeref04_Twice:Nat:=123
abbrev kedgeref08_Open:Nat:=124
abbrev kedgeref08_Ripe:Nat:=125
abbrev kedgeref01_Sum:Nat:=126
abbrev kedgeref09_Least:Nat:=127
abbrev maps_Clone_map_string_api_Entry_string_api_Entry:Nat:=128
abbrev slices_Clone_L_string_string:Nat:=129
abbrev maps_Clone_map_api_Point_string_api_Point_string:Nat:=130
abbrev kedgeref14_Hangs:Nat:=131
abbrev wire_Encode:Nat:=132
abbrev amount_within:Nat:=133
abbrev graph_Graph_Sum:Nat:=134
abbrev replace_above:Nat:=135
abbrev slices_ContainsFunc_L_api_In_api_In:Nat:=136
abbrev replace_Conflicts_1:Nat:=137
abbrev replace_Conflicts_1_1:Nat:=138
abbrev slices_IndexFunc_L_string_string:Nat:=139
abbrev replace_signals:Nat:=140
abbrev replace_replaceable_1:Nat:=141
abbrev graph_Graph_Out:Nat:=142
abbrev graph_Graph_Spender:Nat:=143
abbrev slices_Contains_L_string_string:Nat:=144
abbrev graph_Graph_reach:Nat:=145
abbrev graph_Graph_children:Nat:=146
abbrev graph_Graph_parents:Nat:=147
abbrev graph_Graph_Above_1:Nat:=148
abbrev tx_Base:Nat:=149
abbrev kedgeref16_signals:Nat:=150
abbrev kedgeref01_Compare:Nat:=151
abbrev tx_Check:Nat:=154
abbrev wire_encode:Nat:=155
abbrev sha_Sum:Nat:=156
abbrev slices_Clone_L_api_In_api_In:Nat:=157
abbrev slices_Clone_L_api_Out_api_Out:Nat:=158
abbrev lock_Open:Nat:=159
abbrev lock_Ripe:Nat:=160
abbrev dust_Least:Nat:=161
abbrev kedgeref02_Put:Nat:=162
abbrev kedgeref06_length:Nat:=163
abbrev kedgeref04_Sum:Nat:=164
abbrev kedgeref08_Get:Nat:=165
abbrev kedgeref08_Signed:Nat:=166
abbrev kedgeref08_Waits:Nat:=167
abbrev kedgeref09_Size:Nat:=168
abbrev wire_witnessed:Nat:=170
abbrev math_bits_Mul64:Nat:=171
abbrev math_bits_Div64:Nat:=172
abbrev slices_IndexFunc_L_api_In_api_In:Nat:=173
abbrev replace_signals_1:Nat:=174
abbrev slices_Index_L_string_string:Nat:=175
abbrev slices_Concat_L_string_string:Nat:=176
abbrev graph_Graph_reach_1:Nat:=177
abbrev tx_base:Nat:=178
abbrev kedgeref01_parts:Nat:=179
abbrev tx_counts:Nat:=180
abbrev tx_long:Nat:=181
abbrev tx_formed:Nat:=182
abbrev tx_twice:Nat:=183
abbrev wire_encode_1:Nat:=184
abbrev strings_Builder_WriteString:Nat:=185
abbrev octet_Put:Nat:=186
abbrev wire_counted:Nat:=187
abbrev wire_sized:Nat:=188
abbrev strings_Builder_String:Nat:=189
abbrev sha_begin:Nat:=190
abbrev sha_keys:Nat:=191
abbrev sha_padded:Nat:=192
abbrev sha_schedule:Nat:=193
abbrev sha_round:Nat:=194
abbrev sha_high:Nat:=195
abbrev lock_is:Nat:=196
abbrev lock_chosen:Nat:=197
abbrev lock_waits:Nat:=198
abbrev lock_height:Nat:=199
abbrev lock_Ripe_1:Nat:=200
abbrev dust_Size:Nat:=201
abbrev kedgeref03_Put:Nat:=202
abbrev kedgeref04_pad:Nat:=203
abbrev kedgeref04_block:Nat:=204
abbrev kedgeref02_Get:Nat:=205
abbrev wire_witnessed_1:Nat:=206
abbrev slices_Grow_L_string_string:Nat:=208
abbrev strings_Repeat:Nat:=209
abbrev tx_within:Nat:=210
abbrev tx_counts_1:Nat:=211
abbrev tx_long_1:Nat:=212
abbrev slices_ContainsFunc_L_api_Out_api_Out:Nat:=213
abbrev tx_long_2:Nat:=214
abbrev tx_long_3:Nat:=215
abbrev octet_known:Nat:=217
abbrev vint_Put:Nat:=218
abbrev sha_right:Nat:=219
abbrev lock_Get:Nat:=220
abbrev lock_Signed:Nat:=221
abbrev kedgeref04_k:Nat:=222
abbrev kedgeref04_right:Nat:=223
abbrev slices_Contains_L_int_int:Nat:=230
abbrev math_bits_RotateLeft32:Nat:=231
abbrev lock_number:Nat:=232
abbrev lock_Put:Nat:=233
abbrev slices_Index_L_int_int:Nat:=237
abbrev octet_Get:Nat:=238
abbrev coins_Set_Get:Nat:=257
abbrev pool_over_Get:Nat:=276
end F
namespace T
abbrev func:Nat:=1
abbrev int:Nat:=3
abbrev bool:Nat:=4
abbrev uint8:Nat:=5
abbrev string:Nat:=9
abbrev interface:Nat:=20
abbrev api_Tx:Nat:=26
abbrev kedgeref17_Small:Nat:=35
abbrev P_graph_Graph:Nat:=37
abbrev L_string:Nat:=39
abbrev P_coins_Set:Nat:=44
abbrev api_Errno:Nat:=53
abbrev api_Entry:Nat:=75
abbrev api_In:Nat:=85
abbrev api_Out:Nat:=87
abbrev kedgeref10_Entry:Nat:=94
abbrev graph_Graph:Nat:=98
abbrev P_api_Errno:Nat:=121
abbrev P_api_Fault:Nat:=122
abbrev api_Fault:Nat:=125
abbrev map_string_int:Nat:=158
abbrev coins_Set:Nat:=168
abbrev pool_over:Nat:=209
abbrev api_Branch:Nat:=252
abbrev strings_Builder:Nat:=264
abbrev n_8_uint32:Nat:=268
abbrev n_64_uint32:Nat:=270
end T
@[reducible] def oM (d:Nat) (a:Nat) (k:KR):KR:=.cons ⟨some d,.move (t a),none⟩ k
@[reducible] def oF (d:Nat) (i a:Nat) (k:KR):KR:=.cons ⟨some d,.fieldAddr i (t a),none⟩ k
@[reducible] def oI (d:Nat) (i a b:Nat) (k:KR):KR:=.cons ⟨some d,.indexAddr i (t a) (t b),none⟩ k
@[reducible] def oE (d:Nat) (i a:Nat) (k:KR):KR:=.cons ⟨some d,.field i (t a),none⟩ k
@[reducible] def oN (d:Nat) (i n a:Nat) (k:KR):KR:=.cons ⟨some d,.fieldN i n (t a),none⟩ k
@[reducible] def oX (d:Nat) (i a:Nat) (k:KR):KR:=.cons ⟨some d,.extract i (t a),none⟩ k
@[reducible] def oL (d:Nat) (a:Nat) (k:KR):KR:=.cons ⟨some d,.load (t a),none⟩ k
@[reducible] def oK (d:Nat) (n a:Nat) (k:KR):KR:=.cons ⟨some d,.loadN n (t a),none⟩ k
@[reducible] def oZ (a:Nat) (k:KR):KR:=.cons ⟨none,.nilCheck (t a),none⟩ k
@[reducible] def oS (a b:Nat) (k:KR):KR:=.cons ⟨none,.store (t a) (t b),none⟩ k
@[reducible] def oU (n a b:Nat) (k:KR):KR:=.cons ⟨none,.storeN n (t a) (t b),none⟩ k
@[reducible] def oD (d:Nat) (a:Nat) (k:KR):KR:=.cons ⟨some d,.len false (t a),none⟩ k
@[reducible] def oT (d:Nat) (a:Nat) (k:KR):KR:=.cons ⟨some d,.not (t a),none⟩ k
@[reducible] def oB (d:Nat) (o:BinOp) (a b:Nat) (k:KR):KR:=.cons ⟨some d,.bin o (t a) (t b),none⟩ k
@[reducible] def oC (d:Nat) (o:BinOp) (a:Nat) (c:Int) (k:KR):KR:=.cons ⟨some d,.bin o (t a) (.const (.int .i64 c)),none⟩ k
@[reducible] def oV (d:Nat) (c:IntKind) (a:Nat) (k:KR):KR:=.cons ⟨some d,.conv c (t a),none⟩ k
@[reducible] def oO (d:Nat) (c:Int) (k:KR):KR:=.cons ⟨some d,.move (.const (.int .i64 c)),none⟩ k
@[reducible] def oR (d:Nat) (o:KOp) (k:KR):KR:=.cons ⟨some d,o,none⟩ k
@[reducible] def oQ (o:KOp) (k:KR):KR:=.cons ⟨none,o,none⟩ k
@[reducible] def oG (d:Nat) (n:Nat) (b:Bool) (o:KOp) (k:KR):KR:=.cons ⟨some d,o,some (n,b)⟩ k
@[reducible] def oH (n:Nat) (b:Bool) (o:KOp) (k:KR):KR:=.cons ⟨none,o,some (n,b)⟩ k
@[reducible] def oi (c:Int):Operand:=.const (.int .i64 c)
@[reducible] def oa (f a:Nat):KOp:=.call f [t a]
@[reducible] def ob (f a b:Nat):KOp:=.call f [t a,t b]
@[reducible] def oc (f a b c:Nat):KOp:=.call f [t a,t b,t c]
@[reducible] def od (c:Bool) (k:KR):KC:=.reg c k
structure HeldC (b:Prop):Prop where
 out:b
theorem ox {a b:Prop} (k:b) (h:HeldC b→a:=by intro hheld;dsimp -failIfUnchanged only [oM,oF,oI,oE,oN,oX,oL,oK,oZ,oS,oU,oD,oT,oB,oC,oV,oO,oR,oQ,oG,oH,oi,oa,ob,oc,od];exact hheld.out):a:=h ⟨k⟩
@[reducible] def q0:Quiet Tryz.prog:=⟨fun _=>none,fun _ _ _ _ _ h=>(by cases h)⟩
end
section
open Go Go.K
noncomputable def nP:KC:=
(.seq (.reg false <| oR 2 (.move (.const (.bool false)))<| .nil) (.seq (.reg false <| oM 3 0<| oC 4 .geq 3 0<| oM 5 4<| oG 6 5 true (.move (t 0))<|
 oG 7 5 true (.bin .leq (t 6) (oi 2100000000000000))<| oR 8 (.pick (t 5) (t 7) (.const (.bool false)))<| oM 2 8<| .nil) .ret))
theorem aHi:@dU Tryz.prog q0 9 (aI Tryz.f73)=nP:=by kernel_rfl
theorem aH1 {args:List Value} {w:World} {R:Value→World→Prop} (ha:Nat.ble args.length 9=true) (h:aU Tryz.prog nP (bQ [.tmp 2] R) (iZ args) w):K.Spec Tryz.prog F.kedgeref01_Good args w R:=
 letI:=q0;iS mixed Tryz.func73 rfl rfl (by kernel_rfl) aHi (Nat.le_of_ble_eq_true ha) h
noncomputable def wR:KC:=
(.seq (.reg false <| oR 2 (.move (.const (.bool false)))<| .nil) (.seq (.reg false <| oM 3 0<| oR 4 (.call 133 [(t 3),(oi 2100000000000000)])<| oM 2 4<| .nil) .ret))
theorem aRk:@dU Tryz.prog q0 5 (aI Tryz.f79)=wR:=by kernel_rfl
theorem aQ1 {args:List Value} {w:World} {R:Value→World→Prop} (ha:Nat.ble args.length 5=true) (h:aU Tryz.prog wR (bQ [.tmp 2] R) (iZ args) w):K.Spec Tryz.prog F.amount_Good args w R:=
 letI:=q0;iS mixed Tryz.func79 rfl rfl (by kernel_rfl) aRk (Nat.le_of_ble_eq_true ha) h
noncomputable def rL:KC:=
(.seq (.reg false <| oR 4 (.move (.const (.bool false)))<| .nil) (.seq (.reg false <| oM 5 0<| oC 6 .geq 5 0<| oM 7 6<| oG 8 7 true (.move (t 0))<|
 oG 9 7 true (.move (t 1))<| oG 10 7 true (.bin .leq (t 8) (t 9))<| oR 11 (.pick (t 7) (t 10) (.const (.bool false)))<| oM 4 11<| .nil) .ret))
theorem aNd:@dU Tryz.prog q0 12 (aI Tryz.f133)=rL:=by kernel_rfl
theorem aM5 {args:List Value} {w:World} {R:Value→World→Prop} (ha:Nat.ble args.length 12=true) (h:aU Tryz.prog rL (bQ [.tmp 4] R) (iZ args) w):K.Spec Tryz.prog F.amount_within args w R:=
 letI:=q0;iS mixed Tryz.func133 rfl rfl (by kernel_rfl) aNd (Nat.le_of_ble_eq_true ha) h
noncomputable def aBs:KC:=
(.seq (.reg false <| oR 4 (.move (.const (.bool false)))<| .nil) (.seq (.reg false <| oM 5 0<| oC 6 .geq 5 1<| oM 7 6<| oG 8 7 true (.move (t 0))<|
 oG 9 7 true (.move (t 1))<| oG 10 7 true (.bin .leq (t 8) (t 9))<| oR 11 (.pick (t 7) (t 10) (.const (.bool false)))<| oM 4 11<| .nil) .ret))
theorem aYk:@dU Tryz.prog q0 12 (aI Tryz.f210)=aBs:=by kernel_rfl
theorem aW1 {args:List Value} {w:World} {R:Value→World→Prop} (ha:Nat.ble args.length 12=true) (h:aU Tryz.prog aBs (bQ [.tmp 4] R) (iZ args) w):K.Spec Tryz.prog F.tx_within args w R:=
 letI:=q0;iS mixed Tryz.func210 rfl rfl (by kernel_rfl) aYk (Nat.le_of_ble_eq_true ha) h
noncomputable def aBo:KC:=
(.seq (.reg false <| oR 4 (.move (.const (.int .u32 0)))<| .nil) (.seq (.reg false <| oM 5 0<| oM 6 1<| oR 7 (.unNeg false (t 6))<| oR 8 (ob 231 5 7)<|
 oM 4 8<| .nil) .ret))
theorem aWp:@dU Tryz.prog q0 9 (aI Tryz.f219)=aBo:=by kernel_rfl
theorem aY2 {args:List Value} {w:World} {R:Value→World→Prop} (ha:Nat.ble args.length 9=true) (h:aU Tryz.prog aBo (bQ [.tmp 4] R) (iZ args) w):K.Spec Tryz.prog F.sha_right args w R:=
 letI:=q0;iS mixed Tryz.func219 rfl rfl (by kernel_rfl) aWp (Nat.le_of_ble_eq_true ha) h
noncomputable def mJ:KC:=
(.seq (.reg false <| oR 4 (.move (.const (.int .u32 0)))<| .nil) (.seq (.reg false <| oM 5 0<| oM 6 1<| oB 7 .shr 5 6<| oM 8 0<| oM 9 1<|
 oR 10 (.bin .sub (.const (.int .u64 32)) (t 9))<| oB 11 .shl 8 10<| oB 12 .or 7 11<| oM 4 12<| .nil) .ret))
theorem aGx:@dU Tryz.prog q0 13 (aI Tryz.f223)=mJ:=by kernel_rfl
theorem aFu {args:List Value} {w:World} {R:Value→World→Prop} (ha:Nat.ble args.length 13=true) (h:aU Tryz.prog mJ (bQ [.tmp 4] R) (iZ args) w):K.Spec Tryz.prog F.kedgeref04_right args w R:=
 letI:=q0;iS mixed Tryz.func223 rfl rfl (by kernel_rfl) aGx (Nat.le_of_ble_eq_true ha) h
noncomputable def hZ:KC:=
(.seq (.reg false <| oR 4 (.move (.const (.int .u32 0)))<| .nil) (.seq (.reg false <| oM 6 1<| oV 7 .u64 6<| oR 8 (.bin .and (t 7) (.const (.int .u64 31)))<|
 oM 5 8<| .nil) (.seq (.reg false <| oM 9 0<| oM 10 5<| oB 11 .shl 9 10<| oM 12 0<| oM 13 5<| oR 14 (.bin .sub (.const (.int .u64 32)) (t 13))<| oB 15 .shr 12 14<|
 oB 16 .or 11 15<| oM 4 16<| .nil) .ret)))
theorem wN:@dU Tryz.prog q0 17 (aI Tryz.f231)=hZ:=by kernel_rfl
theorem wU {args:List Value} {w:World} {R:Value→World→Prop} (ha:Nat.ble args.length 17=true) (h:aU Tryz.prog hZ (bQ [.tmp 4] R) (iZ args) w):K.Spec Tryz.prog F.math_bits_RotateLeft32 args w R:=
 letI:=q0;iS mixed Tryz.func231 rfl rfl (by kernel_rfl) wN (Nat.le_of_ble_eq_true ha) h
end
end Go.Proofs.YtfebcajheojodaaGreatDoor
namespace Go.K
section
open Go
theorem fx {p:Prop} (h:p:=by focus(repeat(first|assumption|exact Ext.refl _|((first|apply Bld.x|apply dW.ext|apply qD.ext|apply Row.ext|apply SlR.x|apply R.x|apply cJ.x|apply nG.x|apply SlE.x|apply Ext.c|apply bPy);assumption)|exact Nat.le_refl _))):p:=h
structure Held (b:Prop):Prop where
 out:b
theorem go {a b:Prop} (k:b) (h:Held b→a:=by intro hheld;(first|(apply z0;conv=>arg 4;arg 3;whnf)|apply z1|(apply zO;focus((conv=>lhs;whnf)<;>(first|with_reducible exact rfl|(refine congrArg Value.bool ?_;decide))))|(apply zP;(focus((conv=>lhs;whnf)<;>with_reducible exact rfl));(focus decide))|(apply zQ;focus((conv=>lhs;whnf)<;>exact rfl))|refine z4 rfl rfl ?_|refine z5 rfl rfl (by omega) ?_|refine z6 rfl rfl (by omega) ?_|(refine z7 rfl rfl ?_;conv=>arg 4;arg 3;whnf)|refine zF (qG _) ?_|refine zF (qF _ _ _) ?_|((first|apply zb rfl|apply za rfl|apply z9 rfl|apply z8 rfl|apply ze rfl|apply zd rfl|apply zc rfl);(focus(repeat(first|assumption|(apply Row.ext;assumption))));(first|exact Nat.le_of_ble_eq_true rfl|rfl);(try rfl))|apply zf|apply zh|apply zj|apply zk|apply zl|apply zm|apply zn|apply zo|apply zp|apply zq|apply zr|apply zs|apply zt|refine zu (by decide) ?_|apply zv|apply zw|apply zx|(apply zy;focus((conv=>lhs;whnf)<;>(first|with_reducible exact rfl|(refine congrArg Value.bool ?_;decide))))|(apply zz;focus((conv=>lhs;whnf)<;>(first|with_reducible exact rfl|(refine congrArg Value.bool ?_;decide))))|apply zA|fail);(repeat (first|(apply z0;conv=>arg 4;arg 3;whnf)|apply z1|(apply zO;focus((conv=>lhs;whnf)<;>(first|with_reducible exact rfl|(refine congrArg Value.bool ?_;decide))))|(apply zP;(focus((conv=>lhs;whnf)<;>with_reducible exact rfl));(focus decide))|(apply zQ;focus((conv=>lhs;whnf)<;>exact rfl))|refine z4 rfl rfl ?_|refine z5 rfl rfl (by omega) ?_|refine z6 rfl rfl (by omega) ?_|(refine z7 rfl rfl ?_;conv=>arg 4;arg 3;whnf)|refine zF (qG _) ?_|refine zF (qF _ _ _) ?_|((first|apply zb rfl|apply za rfl|apply z9 rfl|apply z8 rfl|apply ze rfl|apply zd rfl|apply zc rfl);(focus(repeat(first|assumption|(apply Row.ext;assumption))));(first|exact Nat.le_of_ble_eq_true rfl|rfl);(try rfl))|apply zf|apply zh|apply zj|apply zk|apply zl|apply zm|apply zn|apply zo|apply zp|apply zq|apply zr|apply zs|apply zt|refine zu (by decide) ?_|apply zv|apply zw|apply zx|(apply zy;focus((conv=>lhs;whnf)<;>(first|with_reducible exact rfl|(refine congrArg Value.bool ?_;decide))))|(apply zz;focus((conv=>lhs;whnf)<;>(first|with_reducible exact rfl|(refine congrArg Value.bool ?_;decide))))|apply zA|fail));exact hheld.out):a:=h ⟨k⟩
theorem go1 {a b:Prop} (k:b) (h:Held b→a:=by intro hheld;(first|(apply z0;conv=>arg 4;arg 3;whnf)|apply z1|(apply zO;focus((conv=>lhs;whnf)<;>(first|with_reducible exact rfl|(refine congrArg Value.bool ?_;decide))))|(apply zP;(focus((conv=>lhs;whnf)<;>with_reducible exact rfl));(focus decide))|(apply zQ;focus((conv=>lhs;whnf)<;>exact rfl))|refine z4 rfl rfl ?_|refine z5 rfl rfl (by omega) ?_|refine z6 rfl rfl (by omega) ?_|(refine z7 rfl rfl ?_;conv=>arg 4;arg 3;whnf)|refine zF (qG _) ?_|refine zF (qF _ _ _) ?_|((first|apply zb rfl|apply za rfl|apply z9 rfl|apply z8 rfl|apply ze rfl|apply zd rfl|apply zc rfl);(focus(repeat(first|assumption|(apply Row.ext;assumption))));(first|exact Nat.le_of_ble_eq_true rfl|rfl);(try rfl))|apply zf|apply zh|apply zj|apply zk|apply zl|apply zm|apply zn|apply zo|apply zp|apply zq|apply zr|apply zs|apply zt|refine zu (by decide) ?_|apply zv|apply zw|apply zx|(apply zy;focus((conv=>lhs;whnf)<;>(first|with_reducible exact rfl|(refine congrArg Value.bool ?_;decide))))|(apply zz;focus((conv=>lhs;whnf)<;>(first|with_reducible exact rfl|(refine congrArg Value.bool ?_;decide))))|apply zA|fail);exact hheld.out):a:=h ⟨k⟩
end
end Go.K
namespace Go.Proofs.YtfebcajheojodaaGreatDoor
section
open Go Go.K
attribute [local irreducible] aO aU bQ KOp.wp
theorem aS6 {k:IntKind} {args:List Value} {v:Value} (h:bAb k args=some v):∃(x:W32) (n:Nat),args= [u32 x,.int k (n:Nat)]∧0<n∧n<32∧v=u32 (rot x n):=by
 unfold bAb at h
 split at h
 ·rename_i a k n
  split at h
  ·rename_i hc
   refine ⟨BitVec.ofInt 32 a,n.toNat,?_,by omega,by omega,by simpa using h.symm⟩
   have e1:((BitVec.ofInt 32 a).toNat:Int)=a:=by rw [BitVec.toNat_ofInt];omega
   have e2:((n.toNat:Nat):Int)=n:=by omega
   rw [u32,e1,e2,hc.1]
  ·cases h
 ·cases h
attribute [local irreducible] u32
theorem aR3 (a b:Int) (w:World):K.Spec Tryz.prog F.amount_within [.int .i64 a,.int .i64 b] w fun v w'=>v=.bool (decide (0≤a∧a≤b))∧w'=w:=by
 refine aM5 rfl ?_
 unfold rL
 repeat (first|refine go ?_|refine zg λ_ _=>?_|refine zi λ_ _=>?_)
 refine qE rfl (fun h=>?_) (fun h=>?_)
 ·repeat (first|refine go ?_|refine zg λ_ _=>?_|refine zi λ_ _=>?_)
  refine aC rfl ⟨congrArg Value.bool ?_,rfl⟩
  have h:0≤a:=h
  simp [h]
 ·repeat (first|refine go ?_|refine zg λ_ _=>?_|refine zi λ_ _=>?_)
  refine aC rfl ⟨congrArg Value.bool ?_,rfl⟩
  have h:¬0≤a:=h
  simp [h]
theorem bDr (a b:Int) (w:World):K.Spec Tryz.prog F.tx_within [.int .i64 a,.int .i64 b] w fun v w'=>v=.bool (decide (1≤a∧a≤b))∧w'=w:=by
 refine aW1 rfl ?_
 unfold aBs
 repeat (first|refine go ?_|refine zg λ_ _=>?_|refine zi λ_ _=>?_)
 refine qE rfl (fun h=>?_) (fun h=>?_)
 ·repeat (first|refine go ?_|refine zg λ_ _=>?_|refine zi λ_ _=>?_)
  refine aC rfl ⟨congrArg Value.bool ?_,rfl⟩
  have h:1≤a:=h
  simp [h]
 ·repeat (first|refine go ?_|refine zg λ_ _=>?_|refine zi λ_ _=>?_)
  refine aC rfl ⟨congrArg Value.bool ?_,rfl⟩
  have h:¬1≤a:=h
  simp [h]
theorem bM4 (a:Int) (w:World):K.Spec Tryz.prog F.amount_Good [.int .i64 a] w fun v w'=>v=.bool (bX a)∧w'=w:=by
 refine aQ1 rfl ?_
 unfold wR
 repeat (first|refine go ?_|refine zg λ_ _=>?_|refine zi λ_ _=>?_)
 refine aAy rfl (aR3 _ _ _) ?_
 rintro _ w1 ⟨rfl,rfl⟩
 repeat (first|refine go ?_|refine zg λ_ _=>?_|refine zi λ_ _=>?_)
 exact aC rfl ⟨rfl,rfl⟩
theorem bK5 (a:Int) (w:World):K.Spec Tryz.prog F.kedgeref01_Good [.int .i64 a] w fun v w'=>v=.bool (bX a)∧w'=w:=by
 refine aH1 rfl ?_
 unfold nP
 repeat (first|refine go ?_|refine zg λ_ _=>?_|refine zi λ_ _=>?_)
 refine qE rfl (fun h=>?_) (fun h=>?_)
 ·repeat (first|refine go ?_|refine zg λ_ _=>?_|refine zi λ_ _=>?_)
  refine aC rfl ⟨congrArg Value.bool ?_,rfl⟩
  have h:0≤a:=h
  simp [bX,h]
 ·repeat (first|refine go ?_|refine zg λ_ _=>?_|refine zi λ_ _=>?_)
  refine aC rfl ⟨congrArg Value.bool ?_,rfl⟩
  have h:¬0≤a:=h
  simp [bX,h]
theorem bHu (x:W32) (n:Nat) (h0:0<n) (hn:n<32) (w:World):K.Spec Tryz.prog F.kedgeref04_right [u32 x,.int .u64 (n:Nat)] w fun v w'=>v=u32 (rot x n)∧w'=w:=by
 refine aFu rfl ?_
 unfold mJ
 repeat (first|(apply z0;conv=>arg 4;arg 3;whnf)|apply z1|apply zf|apply zh|apply zj|apply zl|apply zm|apply zo|apply zp)
 refine dS rfl rfl (aVc x .u64 n hn) ?_
 repeat (first|(apply z0;conv=>arg 4;arg 3;whnf)|apply z1|apply zf|apply zh|apply zj|apply zl|apply zm|apply zo|apply zp)
 refine dS (v:=.int .u64 ((32 - n:Nat):Int)) rfl rfl (by
  have:IntKind.u64.wrap (32 - (n:Int))=((32 - n:Nat):Int):=by
   have e:∀m:Int,IntKind.u64.wrap m=m%18446744073709551616:=fun _=>rfl
   rw [e];omega
  show dL .sub .u64 32 (n:Nat)=_
  simp [dL,this]) ?_
 repeat (first|(apply z0;conv=>arg 4;arg 3;whnf)|apply z1|apply zf|apply zh|apply zj|apply zl|apply zm|apply zo|apply zp)
 refine dS rfl rfl (aTn x .u64 (32 - n) (by omega)) ?_
 repeat (first|(apply z0;conv=>arg 4;arg 3;whnf)|apply z1|apply zf|apply zh|apply zj|apply zl|apply zm|apply zo|apply zp)
 refine dS rfl rfl (bBw _ _) ?_
 repeat (first|(apply z0;conv=>arg 4;arg 3;whnf)|apply z1|apply zf|apply zh|apply zj|apply zl|apply zm|apply zo|apply zp)
 exact aC rfl ⟨rfl,rfl⟩
theorem bNj (x:W32) (n:Nat) (h0:0<n) (hn:n<32) (w:World):K.Spec Tryz.prog F.math_bits_RotateLeft32 [u32 x,.int .i64 (-(n:Int))] w fun v w'=>v=u32 (rot x n)∧w'=w:=by
 refine wU rfl ?_
 unfold hZ
 repeat (first|(apply z0;conv=>arg 4;arg 3;whnf)|apply z1|apply zf|apply zh|apply zj|apply zl|apply zm|apply zo|apply zp)
 refine dK rfl rfl ?_
 repeat (first|(apply z0;conv=>arg 4;arg 3;whnf)|apply z1|apply zf|apply zh|apply zj|apply zl|apply zm|apply zo|apply zp)
 refine dS rfl rfl (bKi n h0 hn) ?_
 repeat (first|(apply z0;conv=>arg 4;arg 3;whnf)|apply z1|apply zf|apply zh|apply zj|apply zl|apply zm|apply zo|apply zp)
 refine dS rfl rfl (aTn x .u64 (32 - n) (by omega)) ?_
 repeat (first|(apply z0;conv=>arg 4;arg 3;whnf)|apply z1|apply zf|apply zh|apply zj|apply zl|apply zm|apply zo|apply zp)
 refine dS (v:=.int .u64 (n:Nat)) rfl rfl (by
  have:IntKind.u64.wrap (32 - ((32 - n:Nat):Int))=(n:Int):=by
   have e:∀m:Int,IntKind.u64.wrap m=m%18446744073709551616:=fun _=>rfl
   rw [e];omega
  show dL .sub .u64 32 ((32 - n:Nat):Int)=_
  simp [dL,this]) ?_
 repeat (first|(apply z0;conv=>arg 4;arg 3;whnf)|apply z1|apply zf|apply zh|apply zj|apply zl|apply zm|apply zo|apply zp)
 refine dS rfl rfl (aVc x .u64 n hn) ?_
 repeat (first|(apply z0;conv=>arg 4;arg 3;whnf)|apply z1|apply zf|apply zh|apply zj|apply zl|apply zm|apply zo|apply zp)
 refine dS rfl rfl (bBw _ _) ?_
 repeat (first|(apply z0;conv=>arg 4;arg 3;whnf)|apply z1|apply zf|apply zh|apply zj|apply zl|apply zm|apply zo|apply zp)
 refine aC rfl ⟨?_,rfl⟩
 show u32 _=u32 _
 rw [rot,BitVec.or_comm]
theorem bK7 (x:W32) (n:Nat) (h0:0<n) (hn:n<32) (w:World):K.Spec Tryz.prog F.sha_right [u32 x,.int .i64 (n:Nat)] w fun v w'=>v=u32 (rot x n)∧w'=w:=by
 refine aY2 rfl ?_
 unfold aBo
 repeat (first|(apply z0;conv=>arg 4;arg 3;whnf)|apply z1|apply zf|apply zh|apply zj|apply zl|apply zm|apply zo|apply zp)
 refine dK (v:=.int .i64 (-(n:Int))) rfl (by
  have:IntKind.i64.wrap (0 - (n:Int))= -(n:Int):=by rw [IntWalk.i64_in _ (by omega)];omega
  simp only [KOp.fix]
  show dL .sub .i64 0 (n:Nat)=_
  simp only [dL,this]) ?_
 repeat (first|(apply z0;conv=>arg 4;arg 3;whnf)|apply z1|apply zf|apply zh|apply zj|apply zl|apply zm|apply zo|apply zp)
 refine aAy rfl (bNj x n h0 hn _) ?_
 rintro _ w1 ⟨rfl,rfl⟩
 repeat (first|(apply z0;conv=>arg 4;arg 3;whnf)|apply z1|apply zf|apply zh|apply zj|apply zl|apply zm|apply zo|apply zp)
 exact aC rfl ⟨rfl,rfl⟩
def bOl:FuncId→Option (List Value→Option Value):=fun f=>
 if Nat.beq f F.amount_within=true then some bNo else if Nat.beq f F.tx_within=true then some bNr else if Nat.beq f F.amount_Good=true then some aTk else if Nat.beq f F.kedgeref01_Good=true then some aTk
 else if Nat.beq f F.sha_right=true then some bOe else if Nat.beq f F.kedgeref04_right=true then some bOy else none
theorem aD5 {f:FuncId} {args:List Value} {w:World} {u v:Value} (h:K.Spec Tryz.prog f args w fun v w'=>v=u∧w'=w) (e:u=v):Calls Tryz.prog f args.toArray w fun e w'=>e=.returned v∧w'=w:=
 h.mono fun _ _ ⟨_,h1,h2,h3⟩=>⟨by rw [h1,h2,e],h3⟩
theorem aO4 {m:Int} {args:List Value} {v:Value} (h:aSo m args=some v):∃a b,args= [.int .i64 a,.int .i64 b]∧Value.bool (decide (m≤a∧a≤b))=v:=by
 unfold aSo at h;split at h
 ·exact ⟨_,_,rfl,by simpa using h⟩
 ·cases h
theorem aPr {args:List Value} {v:Value} (h:aTk args=some v):∃a,args= [.int .i64 a]∧Value.bool (bX a)=v:=by
 unfold aTk at h;split at h
 ·exact ⟨_,rfl,by simpa using h⟩
 ·cases h
instance quiet:Quiet Tryz.prog where
 tab:=bOl
 ok:=by
  intro f G args v w h hv
  unfold bOl at h
  split at h
  ·rename_i e;obtain rfl:=Nat.eq_of_beq_eq_true e;cases h
   obtain ⟨a,b,rfl,e⟩:=aO4 hv
   exact aD5 (aR3 a b w) e
  split at h
  ·rename_i e;obtain rfl:=Nat.eq_of_beq_eq_true e;cases h
   obtain ⟨a,b,rfl,e⟩:=aO4 hv
   exact aD5 (bDr a b w) e
  split at h
  ·rename_i e;obtain rfl:=Nat.eq_of_beq_eq_true e;cases h
   obtain ⟨a,rfl,e⟩:=aPr hv
   exact aD5 (bM4 a w) e
  split at h
  ·rename_i e;obtain rfl:=Nat.eq_of_beq_eq_true e;cases h
   obtain ⟨a,rfl,e⟩:=aPr hv
   exact aD5 (bK5 a w) e
  split at h
  ·rename_i e;obtain rfl:=Nat.eq_of_beq_eq_true e;cases h
   obtain ⟨x,n,rfl,h0,h1,rfl⟩:=aS6 hv
   exact aD5 (bK7 x n h0 h1 w) rfl
  split at h
  ·rename_i e;obtain rfl:=Nat.eq_of_beq_eq_true e;cases h
   obtain ⟨x,n,rfl,h0,h1,rfl⟩:=aS6 hv
   exact aD5 (bHu x n h0 h1 w) rfl
  ·cases h
end
section
open Go Go.K
abbrev CS (n:Nat) (k:KC) (rs:List RV) (f:Nat):Prop:=∀{args:List Value} {w:World} {R:Value→World→Prop},Nat.ble args.length n=true→aU Tryz.prog k (bQ rs R) (iZ args) w→K.Spec Tryz.prog f args w R
theorem cs {n f:Nat} {k:KC} {rs:List RV} {fn:Func} (hf:Tryz.prog.funcs[f]? =some fn) (hrs:aDq Tryz.prog fn n=some rs) (hk:dU Tryz.prog n (aI fn)=k) (hb:fn.body=some (aI fn):=by exact rfl) (hn:fn.ntmps=n:=by exact rfl):CS n k rs f:=
 fun ha h=>iS mixed hf hb hn hrs hk (Nat.le_of_ble_eq_true ha) h
@[irreducible] noncomputable def mo:TypeId→Value→String→Bool:=aWb Tryz.prog
end
end Go.Proofs.YtfebcajheojodaaGreatDoor
namespace Go.K
section
open Go
inductive Sh where
 |l (is:List Nat)
 |j (x y:Sh)
 |b (is:List Nat) (x y:Sh)
 |a
def bOc:List (Nat × KOp)→Nat→Option KOp
 | [],_=>none
 |(k,o)::l,i=>if Nat.beq k i then some o else bOc l i
def bNv (P:Program) [Quiet P] (ov:List (Nat × KOp)) (id:Nat) (ops:Array Oper) (i:Nat) (o:Oper):KI:=⟨o.dst,match bOc ov (id*1000+i) with
 |some k=>k
 |none=>aH P o,match o.guard with
 |none=>none
 |some (g,b)=>((ops[g]?).bind (·.dst)).map (·,b)⟩
def bPo (P:Program) [Quiet P] (ov:List (Nat × KOp)) (id:Nat) (ops:Array Oper) (i:Nat):KI:=match ops[i]? with
 |some o=>bNv P ov id ops i o
 |none=>⟨none,.dead,none⟩
def bCa (P:Program) [Quiet P] (ov:List (Nat × KOp)) (id:Nat) (ops:Array Oper):List Nat→KR→KR
 | [],r=>r
 |i::is,r=>.cons (bPo P ov id ops i) (bCa P ov id ops is r)
def bMu (P:Program) [Quiet P] (ov:List (Nat × KOp)) (id:Nat) (ops:Array Oper):Nat→List Oper→KR
 |_, []=>.nil
 |i,o::l=>.cons (bNv P ov id ops i o) (bMu P ov id ops (i+1) l)
def Sh.kr (P:Program) [Quiet P] (ov:List (Nat × KOp)) (id:Nat) (ops:Array Oper):Sh→KR
 |.l is=>bCa P ov id ops is .nil
 |.j x y=>.join (Sh.kr P ov id ops x) (Sh.kr P ov id ops y)
 |.b is x y=>bCa P ov id ops is (.both (Sh.kr P ov id ops x) (Sh.kr P ov id ops y))
 |.a=>.nil
def bI0 (P:Program) [Quiet P] (ov:List (Nat × KOp)) (id:Nat) (ops:Array Oper):Nat→List Oper→List (KI × List Nat)
 |_, []=> []
 |i,o::l=>(bNv P ov id ops i o,aLa o)::bI0 P ov id ops (i+1) l
def Sh.isA:Sh→Bool
 |.a=>true
 |_=>false
def bNx:List (Nat × Sh)→Nat→Sh
 | [],_=>.l []
 |(k,s)::l,i=>if Nat.beq k i then s else bNx l i
def kS (P:Program) [Quiet P] (ss:List (Nat × Sh)) (ov:List (Nat × KOp)):Code→KC
 |.skip=>.skip
 |.region id ops true=>match (bNx ss id).isA with
  |true=>.anyR (bI0 P ov id ops 0 ops.toList)
  |false=>.reg true (Sh.kr P ov id ops (bNx ss id))
 |.region id ops false=>.reg false (bMu P ov id ops 0 ops.toList)
 |.seq a b=>.seq (kS P ss ov a) (kS P ss ov b)
 |.cond x a b=>.cond x (kS P ss ov a) (kS P ss ov b)
 |.block id c=>.block id (kS P ss ov c)
 |.loop c=>.loop (kS P ss ov c)
 |.exit id=>.exit id
 |_=>.ret
theorem bPw (n:Nat):Int.ofNat (no_index (@OfNat.ofNat Nat n (instOfNatNat n)))=@OfNat.ofNat Int n (@instOfNat n):=rfl
theorem bPv:Int.negSucc (no_index (@OfNat.ofNat Nat 0 (instOfNatNat 0)))= -1:=rfl
theorem bP4 (n:Nat) (h:n<2^8):UInt8.ofBitVec (BitVec.ofFin ⟨no_index (@OfNat.ofNat Nat n (instOfNatNat n)),h⟩)=@OfNat.ofNat UInt8 n UInt8.instOfNat:=by
 apply UInt8.toNat_inj.1
 show n=n%2^8
 omega
theorem mkA {α:Type} (l:List α):Array.mk l=l.toArray:=rfl
structure HeldS (b:Prop):Prop where
 out:b
theorem oy {a b:Prop} (k:b) (h:HeldS b→a:=by (intro hheld;set_option maxRecDepth 100000 in (conv=>(arg 2;reduce;(try (dsimp only [bPw,bPv,mkA]));(try (simp only [bP4]))));exact hheld.out)):a:=h ⟨k⟩
end
end Go.K
