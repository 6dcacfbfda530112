/- Names of functions and types; what the resolved codes lean on. Printed by program. The resolved code of functions, printed by program. The engine, part 19: steps and facts carried on, as arguments that are found. Functions whose calls leave the world as it was, and what they return. What is said of a function's code, from its resolved form. The engine, part 20: code by its shapes: read off the pro -/
import Derived.Test.YtbidkcjendncaaaGreatProg
import Derived.KernelRfl
import Derived.Test.YtbidkcjendncaaaGreatCa10
set_option linter.unusedVariables false
set_option linter.unusedSimpArgs false
section
namespace Go.Proofs.YtbidkcjendncaaaGreat
open Go Go.K
theorem mixed:Tryz.prog.follows .mixedOrders=true:=by kernel_rfl
@[reducible] def t (n:Nat):Operand:=.tmp n
def bodyOf (f:Func):Code:=f.body.getD .skip
namespace F
abbrev kedgelaw13_ChainBack:Nat:=3
abbrev kedgelaw13_ChainMoney:Nat:=4
abbrev kedgelaw13_ChainNil:Nat:=5
abbrev chain_New:Nat:=6
abbrev kedgelaw13_made:Nat:=7
abbrev kedgeref13_Coins:Nat:=8
abbrev chain_Chain_Connect:Nat:=9
abbrev kedgeref13_Connect:Nat:=10
abbrev chain_Chain_Coins:Nat:=11
abbrev chain_Chain_Height:Nat:=12
abbrev chain_Chain_Disconnect:Nat:=13
abbrev kedgelaw13_wakes:Nat:=14
abbrev kedgeref13_Disconnect:Nat:=15
abbrev tx_Total:Nat:=16
abbrev tx_Base:Nat:=17
abbrev kedgeref11_Fee:Nat:=18
abbrev kedgeref12_One:Nat:=19
abbrev chain_Chain_Get:Nat:=20
abbrev chain_Chain_Confirmed:Nat:=21
abbrev chain_Chain_Spender:Nat:=22
abbrev coins_New:Nat:=24
abbrev kedgeref12_Make:Nat:=25
abbrev kedgeref12_Apply:Nat:=26
abbrev block_Apply:Nat:=27
abbrev chain_linked:Nat:=28
abbrev coins_Set_All:Nat:=29
abbrev block_Revert:Nat:=30
abbrev tx_Grant:Nat:=31
abbrev amount_Sum:Nat:=32
abbrev tx_base:Nat:=33
abbrev kedgeref05_Check:Nat:=34
abbrev kedgeref05_Base:Nat:=35
abbrev kedgeref10_Find:Nat:=36
abbrev kedgeref08_Open:Nat:=37
abbrev kedgeref08_Ripe:Nat:=38
abbrev kedgeref01_Sum:Nat:=39
abbrev kedgeref05_Total:Nat:=40
abbrev kedgeref10_Take:Nat:=41
abbrev kedgeref07_ID:Nat:=42
abbrev kedgeref10_Put:Nat:=43
abbrev coins_Set_Get:Nat:=44
abbrev coins_Set_Copy:Nat:=47
abbrev block_apply:Nat:=48
abbrev block_missing:Nat:=49
abbrev block_swap:Nat:=50
abbrev chain_copies:Nat:=51
abbrev ident_ID:Nat:=52
abbrev slices_SortFunc_L_coins_Entry_coins_Entry:Nat:=53
abbrev coins_order:Nat:=54
abbrev slices_Clone_L_api_Out_api_Out:Nat:=55
abbrev amount_Add:Nat:=56
abbrev strings_Repeat:Nat:=57
abbrev kedgeref05_long:Nat:=58
abbrev kedgeref10_same:Nat:=59
abbrev kedgeref08_Get:Nat:=60
abbrev kedgeref08_Signed:Nat:=61
abbrev kedgeref08_Waits:Nat:=62
abbrev kedgeref01_Good:Nat:=63
abbrev kedgeref06_Bytes:Nat:=64
abbrev kedgeref04_Twice:Nat:=65
abbrev kedgeref10_Total:Nat:=66
abbrev kedgeref05_Less:Nat:=67
abbrev maps_Clone_map_api_Point_api_Coin_api_Point_api_Coin:Nat:=68
abbrev block_may:Nat:=69
abbrev coins_Set_Take:Nat:=70
abbrev block_pay:Nat:=71
abbrev coins_Set_Put:Nat:=72
abbrev tx_Copy:Nat:=73
abbrev wire_Bare:Nat:=74
abbrev sha_Twice:Nat:=75
abbrev tx_Less:Nat:=78
abbrev amount_Good:Nat:=79
abbrev strings_Builder_WriteString:Nat:=83
abbrev strings_Builder_String:Nat:=85
abbrev kedgeref02_Get:Nat:=86
abbrev kedgeref02_Put:Nat:=87
abbrev kedgeref06_length:Nat:=88
abbrev kedgeref04_Sum:Nat:=89
abbrev check_Fee:Nat:=91
abbrev tx_Check:Nat:=92
abbrev coins_formed:Nat:=93
abbrev slices_Clone_L_api_In_api_In:Nat:=94
abbrev slices_Clone_L_string_string:Nat:=95
abbrev wire_encode:Nat:=96
abbrev sha_Sum:Nat:=97
abbrev cmp_Or_int:Nat:=108
abbrev strings_Compare:Nat:=109
abbrev cmp_Compare_uint32:Nat:=110
abbrev amount_within:Nat:=111
abbrev kedgeref03_Put:Nat:=117
abbrev kedgeref04_pad:Nat:=118
abbrev kedgeref04_block:Nat:=119
abbrev check_formed:Nat:=120
abbrev check_spent:Nat:=121
abbrev amount_Sub:Nat:=122
abbrev check_told:Nat:=123
abbrev tx_counts:Nat:=124
abbrev tx_long:Nat:=125
abbrev tx_formed:Nat:=126
abbrev tx_twice:Nat:=127
abbrev wire_encode_1:Nat:=128
abbrev octet_Put:Nat:=129
abbrev wire_counted:Nat:=130
abbrev wire_sized:Nat:=131
abbrev sha_begin:Nat:=132
abbrev sha_keys:Nat:=133
abbrev sha_padded:Nat:=134
abbrev sha_schedule:Nat:=135
abbrev sha_round:Nat:=136
abbrev sha_high:Nat:=137
abbrev cmp_isNaN_uint32:Nat:=144
abbrev kedgeref04_k:Nat:=147
abbrev kedgeref04_right:Nat:=148
abbrev lock_Open:Nat:=149
abbrev lock_Ripe:Nat:=150
abbrev tx_within:Nat:=151
abbrev slices_ContainsFunc_L_api_In_api_In:Nat:=152
abbrev tx_counts_1:Nat:=153
abbrev tx_long_1:Nat:=154
abbrev slices_ContainsFunc_L_api_Out_api_Out:Nat:=155
abbrev tx_long_2:Nat:=156
abbrev tx_long_3:Nat:=157
abbrev slices_ContainsFunc_L_string_string:Nat:=158
abbrev octet_known:Nat:=159
abbrev vint_Put:Nat:=160
abbrev sha_right:Nat:=161
abbrev lock_is:Nat:=164
abbrev lock_chosen:Nat:=165
abbrev lock_waits:Nat:=166
abbrev lock_height:Nat:=167
abbrev lock_Ripe_1:Nat:=168
abbrev slices_IndexFunc_L_api_In_api_In:Nat:=169
abbrev slices_IndexFunc_L_api_Out_api_Out:Nat:=170
abbrev slices_IndexFunc_L_string_string:Nat:=171
abbrev slices_Contains_L_int_int:Nat:=172
abbrev math_bits_RotateLeft32:Nat:=173
abbrev lock_Get:Nat:=174
abbrev lock_Signed:Nat:=175
abbrev slices_Index_L_int_int:Nat:=176
abbrev lock_number:Nat:=177
abbrev lock_Put:Nat:=178
abbrev octet_Get:Nat:=179
end F
namespace T
abbrev func:Nat:=1
abbrev int:Nat:=3
abbrev bool:Nat:=4
abbrev uint8:Nat:=5
abbrev string:Nat:=9
abbrev interface:Nat:=20
abbrev kedgeref13_Chain:Nat:=27
abbrev L_api_Tx:Nat:=31
abbrev api_Errno:Nat:=43
abbrev api_Out:Nat:=51
abbrev coins_Entry:Nat:=55
abbrev api_Tx:Nat:=63
abbrev P_coins_Set:Nat:=80
abbrev chain_Chain:Nat:=84
abbrev kedgeref12_Small:Nat:=88
abbrev block_Undo:Nat:=93
abbrev chain_link:Nat:=99
abbrev api_In:Nat:=105
abbrev kedgeref10_Entry:Nat:=110
abbrev coins_Set:Nat:=128
abbrev P_api_Fault:Nat:=130
abbrev api_Fault:Nat:=132
abbrev api_Branch:Nat:=148
abbrev strings_Builder:Nat:=179
abbrev n_8_uint32:Nat:=214
abbrev n_64_uint32:Nat:=224
end T
@[reducible] def oM (d:Nat) (a:Nat) (k:KR):KR:=.cons ⟨some d,.move (t a),none⟩ k
@[reducible] def oT (d:Nat) (a:Nat) (k:KR):KR:=.cons ⟨some d,.not (t a),none⟩ k
@[reducible] def oB (d:Nat) (o:BinOp) (a b:Nat) (k:KR):KR:=.cons ⟨some d,.bin o (t a) (t b),none⟩ k
@[reducible] def oC (d:Nat) (o:BinOp) (a:Nat) (c:Int) (k:KR):KR:=.cons ⟨some d,.bin o (t a) (.const (.int .i64 c)),none⟩ k
@[reducible] def oV (d:Nat) (c:IntKind) (a:Nat) (k:KR):KR:=.cons ⟨some d,.conv c (t a),none⟩ k
@[reducible] def oR (d:Nat) (o:KOp) (k:KR):KR:=.cons ⟨some d,o,none⟩ k
@[reducible] def oG (d:Nat) (n:Nat) (b:Bool) (o:KOp) (k:KR):KR:=.cons ⟨some d,o,some (n,b)⟩ k
@[reducible] def oi (c:Int):Operand:=.const (.int .i64 c)
@[reducible] def ob (f a b:Nat):KOp:=.call f [t a,t b]
@[reducible] def q0:Quiet Tryz.prog:=⟨fun _=>none,fun _ _ _ _ _ h=>(nomatch h)⟩
end Go.Proofs.YtbidkcjendncaaaGreat
end
section
namespace Go.Proofs.YtbidkcjendncaaaGreat
open Go Go.K
noncomputable def k_kedgeref01_Good:KC:=
(.seq (.reg false <| oR 2 (.move (.const (.bool false)))<| .nil) (.seq (.reg false <| oM 3 0<| oC 4 .geq 3 0<| oM 5 4<| oG 6 5 true (.move (t 0))<|
 oG 7 5 true (.bin .leq (t 6) (oi 2100000000000000))<| oR 8 (.pick (t 5) (t 7) (.const (.bool false)))<| oM 2 8<| .nil) .ret))
theorem c_kedgeref01_Good:@compileC Tryz.prog q0 9 (bodyOf Tryz.f63)=k_kedgeref01_Good:=by kernel_rfl
theorem s_kedgeref01_Good {args:List Value} {w:World} {R:Value→World→Prop} (ha:Nat.ble args.length 9=true) (h:codeK Tryz.prog k_kedgeref01_Good (retK [.tmp 2] R) (startEnv args) w):K.Spec Tryz.prog F.kedgeref01_Good args w R:=
 letI:=q0;calls_sound mixed Tryz.func63 rfl rfl (by kernel_rfl) c_kedgeref01_Good (Nat.le_of_ble_eq_true ha) h
noncomputable def k_amount_Good:KC:=
(.seq (.reg false <| oR 2 (.move (.const (.bool false)))<| .nil) (.seq (.reg false <| oM 3 0<| oR 4 (.call 111 [(t 3),(oi 2100000000000000)])<| oM 2 4<| .nil) .ret))
theorem c_amount_Good:@compileC Tryz.prog q0 5 (bodyOf Tryz.f79)=k_amount_Good:=by kernel_rfl
theorem s_amount_Good {args:List Value} {w:World} {R:Value→World→Prop} (ha:Nat.ble args.length 5=true) (h:codeK Tryz.prog k_amount_Good (retK [.tmp 2] R) (startEnv args) w):K.Spec Tryz.prog F.amount_Good args w R:=
 letI:=q0;calls_sound mixed Tryz.func79 rfl rfl (by kernel_rfl) c_amount_Good (Nat.le_of_ble_eq_true ha) h
noncomputable def k_amount_within:KC:=
(.seq (.reg false <| oR 4 (.move (.const (.bool false)))<| .nil) (.seq (.reg false <| oM 5 0<| oC 6 .geq 5 0<| oM 7 6<| oG 8 7 true (.move (t 0))<|
 oG 9 7 true (.move (t 1))<| oG 10 7 true (.bin .leq (t 8) (t 9))<| oR 11 (.pick (t 7) (t 10) (.const (.bool false)))<| oM 4 11<| .nil) .ret))
theorem c_amount_within:@compileC Tryz.prog q0 12 (bodyOf Tryz.f111)=k_amount_within:=by kernel_rfl
theorem s_amount_within {args:List Value} {w:World} {R:Value→World→Prop} (ha:Nat.ble args.length 12=true) (h:codeK Tryz.prog k_amount_within (retK [.tmp 4] R) (startEnv args) w):K.Spec Tryz.prog F.amount_within args w R:=
 letI:=q0;calls_sound mixed Tryz.func111 rfl rfl (by kernel_rfl) c_amount_within (Nat.le_of_ble_eq_true ha) h
noncomputable def k_kedgeref04_right:KC:=
(.seq (.reg false <| oR 4 (.move (.const (.int .u32 0)))<| .nil) (.seq (.reg false <| oM 5 0<| oM 6 1<| oB 7 .shr 5 6<| oM 8 0<| oM 9 1<|
 oR 10 (.bin .sub (.const (.int .u64 32)) (t 9))<| oB 11 .shl 8 10<| oB 12 .or 7 11<| oM 4 12<| .nil) .ret))
theorem c_kedgeref04_right:@compileC Tryz.prog q0 13 (bodyOf Tryz.f148)=k_kedgeref04_right:=by kernel_rfl
theorem s_kedgeref04_right {args:List Value} {w:World} {R:Value→World→Prop} (ha:Nat.ble args.length 13=true) (h:codeK Tryz.prog k_kedgeref04_right (retK [.tmp 4] R) (startEnv args) w):K.Spec Tryz.prog F.kedgeref04_right args w R:=
 letI:=q0;calls_sound mixed Tryz.func148 rfl rfl (by kernel_rfl) c_kedgeref04_right (Nat.le_of_ble_eq_true ha) h
noncomputable def k_tx_within:KC:=
(.seq (.reg false <| oR 4 (.move (.const (.bool false)))<| .nil) (.seq (.reg false <| oM 5 0<| oC 6 .geq 5 1<| oM 7 6<| oG 8 7 true (.move (t 0))<|
 oG 9 7 true (.move (t 1))<| oG 10 7 true (.bin .leq (t 8) (t 9))<| oR 11 (.pick (t 7) (t 10) (.const (.bool false)))<| oM 4 11<| .nil) .ret))
theorem c_tx_within:@compileC Tryz.prog q0 12 (bodyOf Tryz.f151)=k_tx_within:=by kernel_rfl
theorem s_tx_within {args:List Value} {w:World} {R:Value→World→Prop} (ha:Nat.ble args.length 12=true) (h:codeK Tryz.prog k_tx_within (retK [.tmp 4] R) (startEnv args) w):K.Spec Tryz.prog F.tx_within args w R:=
 letI:=q0;calls_sound mixed Tryz.func151 rfl rfl (by kernel_rfl) c_tx_within (Nat.le_of_ble_eq_true ha) h
noncomputable def k_sha_right:KC:=
(.seq (.reg false <| oR 4 (.move (.const (.int .u32 0)))<| .nil) (.seq (.reg false <| oM 5 0<| oM 6 1<| oR 7 (.unNeg false (t 6))<| oR 8 (ob 173 5 7)<|
 oM 4 8<| .nil) .ret))
theorem c_sha_right:@compileC Tryz.prog q0 9 (bodyOf Tryz.f161)=k_sha_right:=by kernel_rfl
theorem s_sha_right {args:List Value} {w:World} {R:Value→World→Prop} (ha:Nat.ble args.length 9=true) (h:codeK Tryz.prog k_sha_right (retK [.tmp 4] R) (startEnv args) w):K.Spec Tryz.prog F.sha_right args w R:=
 letI:=q0;calls_sound mixed Tryz.func161 rfl rfl (by kernel_rfl) c_sha_right (Nat.le_of_ble_eq_true ha) h
noncomputable def k_math_bits_RotateLeft32:KC:=
(.seq (.reg false <| oR 4 (.move (.const (.int .u32 0)))<| .nil) (.seq (.reg false <| oM 6 1<| oV 7 .u64 6<| oR 8 (.bin .and (t 7) (.const (.int .u64 31)))<|
 oM 5 8<| .nil) (.seq (.reg false <| oM 9 0<| oM 10 5<| oB 11 .shl 9 10<| oM 12 0<| oM 13 5<| oR 14 (.bin .sub (.const (.int .u64 32)) (t 13))<| oB 15 .shr 12 14<|
 oB 16 .or 11 15<| oM 4 16<| .nil) .ret)))
theorem c_math_bits_RotateLeft32:@compileC Tryz.prog q0 17 (bodyOf Tryz.f173)=k_math_bits_RotateLeft32:=by kernel_rfl
theorem s_math_bits_RotateLeft32 {args:List Value} {w:World} {R:Value→World→Prop} (ha:Nat.ble args.length 17=true) (h:codeK Tryz.prog k_math_bits_RotateLeft32 (retK [.tmp 4] R) (startEnv args) w):K.Spec Tryz.prog F.math_bits_RotateLeft32 args w R:=
 letI:=q0;calls_sound mixed Tryz.func173 rfl rfl (by kernel_rfl) c_math_bits_RotateLeft32 (Nat.le_of_ble_eq_true ha) h
end Go.Proofs.YtbidkcjendncaaaGreat
end
section
namespace Go.K
open Go
theorem fx {p:Prop} (h:p:=by focus(repeat(first|assumption|exact Ext.refl _|((first|apply Bld.x|apply MapE.ext|apply MapPend.ext|apply Row.ext|apply SlR.x|apply R.x|apply OwnR.x|apply MapR.x|apply SlE.x|apply Ext.c|apply le_x);assumption)|exact Nat.le_refl _))):p:=h
structure Held (b:Prop):Prop where
 out:b
theorem go {a b:Prop} (k:b) (h:Held b→a:=by intro hheld;(first|(apply z0;conv=>arg 4;arg 3;whnf)|apply z1|(apply zO;focus((conv=>lhs;whnf)<;>(first|with_reducible exact rfl|(refine congrArg Value.bool ?_;decide))))|(apply zP;(focus((conv=>lhs;whnf)<;>with_reducible exact rfl));(focus decide))|(apply zQ;focus((conv=>lhs;whnf)<;>exact rfl))|refine z4 rfl rfl ?_|refine z5 rfl rfl (by omega) ?_|refine z6 rfl rfl (by omega) ?_|(refine z7 rfl rfl ?_;conv=>arg 4;arg 3;whnf)|refine zF (qG _) ?_|refine zF (qF _ _ _) ?_|((first|apply zb rfl|apply za rfl|apply z9 rfl|apply z8 rfl|apply ze rfl|apply zd rfl|apply zc rfl);(focus(repeat(first|assumption|(apply Row.ext;assumption))));(first|exact Nat.le_of_ble_eq_true rfl|rfl);(try rfl))|apply zf|apply zh|apply zj|apply zk|apply zl|apply zm|apply zn|apply zo|apply zp|apply zq|apply zr|apply zs|apply zt|refine zu (by decide) ?_|apply zv|apply zw|apply zx|(apply zy;focus((conv=>lhs;whnf)<;>(first|with_reducible exact rfl|(refine congrArg Value.bool ?_;decide))))|(apply zz;focus((conv=>lhs;whnf)<;>(first|with_reducible exact rfl|(refine congrArg Value.bool ?_;decide))))|apply zA|fail);(repeat (first|(apply z0;conv=>arg 4;arg 3;whnf)|apply z1|(apply zO;focus((conv=>lhs;whnf)<;>(first|with_reducible exact rfl|(refine congrArg Value.bool ?_;decide))))|(apply zP;(focus((conv=>lhs;whnf)<;>with_reducible exact rfl));(focus decide))|(apply zQ;focus((conv=>lhs;whnf)<;>exact rfl))|refine z4 rfl rfl ?_|refine z5 rfl rfl (by omega) ?_|refine z6 rfl rfl (by omega) ?_|(refine z7 rfl rfl ?_;conv=>arg 4;arg 3;whnf)|refine zF (qG _) ?_|refine zF (qF _ _ _) ?_|((first|apply zb rfl|apply za rfl|apply z9 rfl|apply z8 rfl|apply ze rfl|apply zd rfl|apply zc rfl);(focus(repeat(first|assumption|(apply Row.ext;assumption))));(first|exact Nat.le_of_ble_eq_true rfl|rfl);(try rfl))|apply zf|apply zh|apply zj|apply zk|apply zl|apply zm|apply zn|apply zo|apply zp|apply zq|apply zr|apply zs|apply zt|refine zu (by decide) ?_|apply zv|apply zw|apply zx|(apply zy;focus((conv=>lhs;whnf)<;>(first|with_reducible exact rfl|(refine congrArg Value.bool ?_;decide))))|(apply zz;focus((conv=>lhs;whnf)<;>(first|with_reducible exact rfl|(refine congrArg Value.bool ?_;decide))))|apply zA|fail));exact hheld.out):a:=h ⟨k⟩
theorem go1 {a b:Prop} (k:b) (h:Held b→a:=by intro hheld;(first|(apply z0;conv=>arg 4;arg 3;whnf)|apply z1|(apply zO;focus((conv=>lhs;whnf)<;>(first|with_reducible exact rfl|(refine congrArg Value.bool ?_;decide))))|(apply zP;(focus((conv=>lhs;whnf)<;>with_reducible exact rfl));(focus decide))|(apply zQ;focus((conv=>lhs;whnf)<;>exact rfl))|refine z4 rfl rfl ?_|refine z5 rfl rfl (by omega) ?_|refine z6 rfl rfl (by omega) ?_|(refine z7 rfl rfl ?_;conv=>arg 4;arg 3;whnf)|refine zF (qG _) ?_|refine zF (qF _ _ _) ?_|((first|apply zb rfl|apply za rfl|apply z9 rfl|apply z8 rfl|apply ze rfl|apply zd rfl|apply zc rfl);(focus(repeat(first|assumption|(apply Row.ext;assumption))));(first|exact Nat.le_of_ble_eq_true rfl|rfl);(try rfl))|apply zf|apply zh|apply zj|apply zk|apply zl|apply zm|apply zn|apply zo|apply zp|apply zq|apply zr|apply zs|apply zt|refine zu (by decide) ?_|apply zv|apply zw|apply zx|(apply zy;focus((conv=>lhs;whnf)<;>(first|with_reducible exact rfl|(refine congrArg Value.bool ?_;decide))))|(apply zz;focus((conv=>lhs;whnf)<;>(first|with_reducible exact rfl|(refine congrArg Value.bool ?_;decide))))|apply zA|fail);exact hheld.out):a:=h ⟨k⟩
end Go.K
end
section
namespace Go.Proofs.YtbidkcjendncaaaGreat
open Go Go.K
attribute [local irreducible] regK codeK retK KOp.wp
theorem qRot_some {k:IntKind} {args:List Value} {v:Value} (h:qRot k args=some v):∃(x:W32) (n:Nat),args= [u32 x,.int k (n:Nat)]∧0<n∧n<32∧v=u32 (rot x n):=by
 unfold qRot at h
 split at h
 ·rename_i a k n
  split at h
  ·rename_i hc
   refine ⟨BitVec.ofInt 32 a,n.toNat,?_,by omega,by omega,by simpa using h.symm⟩
   have e1:((BitVec.ofInt 32 a).toNat:Int)=a:=by rw [BitVec.toNat_ofInt];omega
   have e2:((n.toNat:Nat):Int)=n:=by omega
   rw [u32,e1,e2,hc.1]
  ·cases h
 ·cases h
attribute [local irreducible] u32
theorem within0_q (a b:Int) (w:World):K.Spec Tryz.prog F.amount_within [.int .i64 a,.int .i64 b] w fun v w'=>v=.bool (decide (0≤a∧a≤b))∧w'=w:=by
 refine s_amount_within rfl ?_
 unfold k_amount_within
 repeat (first|refine go ?_|refine zg (fun _ _=>?_)|refine zi (fun _ _=>?_))
 refine g_split rfl (fun h=>?_) (fun h=>?_)
 ·repeat (first|refine go ?_|refine zg (fun _ _=>?_)|refine zi (fun _ _=>?_))
  refine x_ret rfl ⟨congrArg Value.bool ?_,rfl⟩
  have h:0≤a:=h
  simp [h]
 ·repeat (first|refine go ?_|refine zg (fun _ _=>?_)|refine zi (fun _ _=>?_))
  refine x_ret rfl ⟨congrArg Value.bool ?_,rfl⟩
  have h:¬0≤a:=h
  simp [h]
theorem within1_q (a b:Int) (w:World):K.Spec Tryz.prog F.tx_within [.int .i64 a,.int .i64 b] w fun v w'=>v=.bool (decide (1≤a∧a≤b))∧w'=w:=by
 refine s_tx_within rfl ?_
 unfold k_tx_within
 repeat (first|refine go ?_|refine zg (fun _ _=>?_)|refine zi (fun _ _=>?_))
 refine g_split rfl (fun h=>?_) (fun h=>?_)
 ·repeat (first|refine go ?_|refine zg (fun _ _=>?_)|refine zi (fun _ _=>?_))
  refine x_ret rfl ⟨congrArg Value.bool ?_,rfl⟩
  have h:1≤a:=h
  simp [h]
 ·repeat (first|refine go ?_|refine zg (fun _ _=>?_)|refine zi (fun _ _=>?_))
  refine x_ret rfl ⟨congrArg Value.bool ?_,rfl⟩
  have h:¬1≤a:=h
  simp [h]
theorem good_q (a:Int) (w:World):K.Spec Tryz.prog F.amount_Good [.int .i64 a] w fun v w'=>v=.bool (goodB a)∧w'=w:=by
 refine s_amount_Good rfl ?_
 unfold k_amount_Good
 repeat (first|refine go ?_|refine zg (fun _ _=>?_)|refine zi (fun _ _=>?_))
 refine st_call rfl (within0_q _ _ _) ?_
 rintro _ w1 ⟨rfl,rfl⟩
 repeat (first|refine go ?_|refine zg (fun _ _=>?_)|refine zi (fun _ _=>?_))
 exact x_ret rfl ⟨rfl,rfl⟩
theorem rgood_q (a:Int) (w:World):K.Spec Tryz.prog F.kedgeref01_Good [.int .i64 a] w fun v w'=>v=.bool (goodB a)∧w'=w:=by
 refine s_kedgeref01_Good rfl ?_
 unfold k_kedgeref01_Good
 repeat (first|refine go ?_|refine zg (fun _ _=>?_)|refine zi (fun _ _=>?_))
 refine g_split rfl (fun h=>?_) (fun h=>?_)
 ·repeat (first|refine go ?_|refine zg (fun _ _=>?_)|refine zi (fun _ _=>?_))
  refine x_ret rfl ⟨congrArg Value.bool ?_,rfl⟩
  have h:0≤a:=h
  simp [goodB,h]
 ·repeat (first|refine go ?_|refine zg (fun _ _=>?_)|refine zi (fun _ _=>?_))
  refine x_ret rfl ⟨congrArg Value.bool ?_,rfl⟩
  have h:¬0≤a:=h
  simp [goodB,h]
theorem rright_q (x:W32) (n:Nat) (h0:0<n) (hn:n<32) (w:World):K.Spec Tryz.prog F.kedgeref04_right [u32 x,.int .u64 (n:Nat)] w fun v w'=>v=u32 (rot x n)∧w'=w:=by
 refine s_kedgeref04_right rfl ?_
 unfold k_kedgeref04_right
 repeat (first|(apply z0;conv=>arg 4;arg 3;whnf)|apply z1|apply zf|apply zh|apply zj|apply zl|apply zm|apply zo|apply zp)
 refine st_bin rfl rfl (w32_shr x .u64 n hn) ?_
 repeat (first|(apply z0;conv=>arg 4;arg 3;whnf)|apply z1|apply zf|apply zh|apply zj|apply zl|apply zm|apply zo|apply zp)
 refine st_bin (v:=.int .u64 ((32 - n:Nat):Int)) rfl rfl (by
  have:IntKind.u64.wrap (32 - (n:Int))=((32 - n:Nat):Int):=by
   have e:∀m:Int,IntKind.u64.wrap m=m%18446744073709551616:=fun _=>rfl
   rw [e];omega
  show intBin .sub .u64 32 (n:Nat)=_
  simp [intBin,this]) ?_
 repeat (first|(apply z0;conv=>arg 4;arg 3;whnf)|apply z1|apply zf|apply zh|apply zj|apply zl|apply zm|apply zo|apply zp)
 refine st_bin rfl rfl (w32_shl x .u64 (32 - n) (by omega)) ?_
 repeat (first|(apply z0;conv=>arg 4;arg 3;whnf)|apply z1|apply zf|apply zh|apply zj|apply zl|apply zm|apply zo|apply zp)
 refine st_bin rfl rfl (w32_or _ _) ?_
 repeat (first|(apply z0;conv=>arg 4;arg 3;whnf)|apply z1|apply zf|apply zh|apply zj|apply zl|apply zm|apply zo|apply zp)
 exact x_ret rfl ⟨rfl,rfl⟩
theorem left_q (x:W32) (n:Nat) (h0:0<n) (hn:n<32) (w:World):K.Spec Tryz.prog F.math_bits_RotateLeft32 [u32 x,.int .i64 (-(n:Int))] w fun v w'=>v=u32 (rot x n)∧w'=w:=by
 refine s_math_bits_RotateLeft32 rfl ?_
 unfold k_math_bits_RotateLeft32
 repeat (first|(apply z0;conv=>arg 4;arg 3;whnf)|apply z1|apply zf|apply zh|apply zj|apply zl|apply zm|apply zo|apply zp)
 refine st_fix rfl rfl ?_
 repeat (first|(apply z0;conv=>arg 4;arg 3;whnf)|apply z1|apply zf|apply zh|apply zj|apply zl|apply zm|apply zo|apply zp)
 refine st_bin rfl rfl (neg_and n h0 hn) ?_
 repeat (first|(apply z0;conv=>arg 4;arg 3;whnf)|apply z1|apply zf|apply zh|apply zj|apply zl|apply zm|apply zo|apply zp)
 refine st_bin rfl rfl (w32_shl x .u64 (32 - n) (by omega)) ?_
 repeat (first|(apply z0;conv=>arg 4;arg 3;whnf)|apply z1|apply zf|apply zh|apply zj|apply zl|apply zm|apply zo|apply zp)
 refine st_bin (v:=.int .u64 (n:Nat)) rfl rfl (by
  have:IntKind.u64.wrap (32 - ((32 - n:Nat):Int))=(n:Int):=by
   have e:∀m:Int,IntKind.u64.wrap m=m%18446744073709551616:=fun _=>rfl
   rw [e];omega
  show intBin .sub .u64 32 ((32 - n:Nat):Int)=_
  simp [intBin,this]) ?_
 repeat (first|(apply z0;conv=>arg 4;arg 3;whnf)|apply z1|apply zf|apply zh|apply zj|apply zl|apply zm|apply zo|apply zp)
 refine st_bin rfl rfl (w32_shr x .u64 n hn) ?_
 repeat (first|(apply z0;conv=>arg 4;arg 3;whnf)|apply z1|apply zf|apply zh|apply zj|apply zl|apply zm|apply zo|apply zp)
 refine st_bin rfl rfl (w32_or _ _) ?_
 repeat (first|(apply z0;conv=>arg 4;arg 3;whnf)|apply z1|apply zf|apply zh|apply zj|apply zl|apply zm|apply zo|apply zp)
 refine x_ret rfl ⟨?_,rfl⟩
 show u32 _=u32 _
 rw [rot,BitVec.or_comm]
theorem right_q (x:W32) (n:Nat) (h0:0<n) (hn:n<32) (w:World):K.Spec Tryz.prog F.sha_right [u32 x,.int .i64 (n:Nat)] w fun v w'=>v=u32 (rot x n)∧w'=w:=by
 refine s_sha_right rfl ?_
 unfold k_sha_right
 repeat (first|(apply z0;conv=>arg 4;arg 3;whnf)|apply z1|apply zf|apply zh|apply zj|apply zl|apply zm|apply zo|apply zp)
 refine st_fix (v:=.int .i64 (-(n:Int))) rfl (by
  have:IntKind.i64.wrap (0 - (n:Int))= -(n:Int):=by rw [IntWalk.i64_in _ (by omega)];omega
  simp only [KOp.fix]
  show intBin .sub .i64 0 (n:Nat)=_
  simp only [intBin,this]) ?_
 repeat (first|(apply z0;conv=>arg 4;arg 3;whnf)|apply z1|apply zf|apply zh|apply zj|apply zl|apply zm|apply zo|apply zp)
 refine st_call rfl (left_q x n h0 hn _) ?_
 rintro _ w1 ⟨rfl,rfl⟩
 repeat (first|(apply z0;conv=>arg 4;arg 3;whnf)|apply z1|apply zf|apply zh|apply zj|apply zl|apply zm|apply zo|apply zp)
 exact x_ret rfl ⟨rfl,rfl⟩
def qTab:FuncId→Option (List Value→Option Value):=fun f=>
 if Nat.beq f F.amount_within=true then some qFrom0 else if Nat.beq f F.tx_within=true then some qFrom1 else if Nat.beq f F.amount_Good=true then some qGood else if Nat.beq f F.kedgeref01_Good=true then some qGood
 else if Nat.beq f F.sha_right=true then some qRotI else if Nat.beq f F.kedgeref04_right=true then some qRotU else none
theorem calls_q {f:FuncId} {args:List Value} {w:World} {u v:Value} (h:K.Spec Tryz.prog f args w fun v w'=>v=u∧w'=w) (e:u=v):Calls Tryz.prog f args.toArray w fun e w'=>e=.returned v∧w'=w:=
 h.mono fun _ _ ⟨_,h1,h2,h3⟩=>⟨by rw [h1,h2,e],h3⟩
theorem qFrom_some {m:Int} {args:List Value} {v:Value} (h:qFrom m args=some v):∃a b,args= [.int .i64 a,.int .i64 b]∧Value.bool (decide (m≤a∧a≤b))=v:=by
 unfold qFrom at h;split at h
 ·exact ⟨_,_,rfl,by simpa using h⟩
 ·cases h
theorem qGood_some {args:List Value} {v:Value} (h:qGood args=some v):∃a,args= [.int .i64 a]∧Value.bool (goodB a)=v:=by
 unfold qGood at h;split at h
 ·exact ⟨_,rfl,by simpa using h⟩
 ·cases h
instance quiet:Quiet Tryz.prog where
 tab:=qTab
 ok:=by
  intro f G args v w h hv
  unfold qTab at h
  split at h
  ·rename_i e;obtain rfl:=Nat.eq_of_beq_eq_true e;cases h
   obtain ⟨a,b,rfl,e⟩:=qFrom_some hv
   exact calls_q (within0_q a b w) e
  split at h
  ·rename_i e;obtain rfl:=Nat.eq_of_beq_eq_true e;cases h
   obtain ⟨a,b,rfl,e⟩:=qFrom_some hv
   exact calls_q (within1_q a b w) e
  split at h
  ·rename_i e;obtain rfl:=Nat.eq_of_beq_eq_true e;cases h
   obtain ⟨a,rfl,e⟩:=qGood_some hv
   exact calls_q (good_q a w) e
  split at h
  ·rename_i e;obtain rfl:=Nat.eq_of_beq_eq_true e;cases h
   obtain ⟨a,rfl,e⟩:=qGood_some hv
   exact calls_q (rgood_q a w) e
  split at h
  ·rename_i e;obtain rfl:=Nat.eq_of_beq_eq_true e;cases h
   obtain ⟨x,n,rfl,h0,h1,rfl⟩:=qRot_some hv
   exact calls_q (right_q x n h0 h1 w) rfl
  split at h
  ·rename_i e;obtain rfl:=Nat.eq_of_beq_eq_true e;cases h
   obtain ⟨x,n,rfl,h0,h1,rfl⟩:=qRot_some hv
   exact calls_q (rright_q x n h0 h1 w) rfl
  ·cases h
end Go.Proofs.YtbidkcjendncaaaGreat
end
section
namespace Go.Proofs.YtbidkcjendncaaaGreat
open Go Go.K
abbrev CS (n:Nat) (k:KC) (rs:List RV) (f:Nat):Prop:=∀{args:List Value} {w:World} {R:Value→World→Prop},Nat.ble args.length n=true→codeK Tryz.prog k (retK rs R) (startEnv args) w→K.Spec Tryz.prog f args w R
theorem cs {n f:Nat} {k:KC} {rs:List RV} {fn:Func} (hf:Tryz.prog.funcs[f]? =some fn) (hrs:resultsOf Tryz.prog fn n=some rs) (hk:compileC Tryz.prog n (bodyOf fn)=k) (hb:fn.body=some (bodyOf fn):=by exact rfl) (hn:fn.ntmps=n:=by exact rfl):CS n k rs f:=
 fun ha h=>calls_sound mixed hf hb hn hrs hk (Nat.le_of_ble_eq_true ha) h
@[irreducible] noncomputable def mo:TypeId→Value→String→Bool:=metOk Tryz.prog
end Go.Proofs.YtbidkcjendncaaaGreat
end
section
namespace Go.K
open Go
inductive Sh where
 |l (is:List Nat)
 |j (x y:Sh)
 |b (is:List Nat) (x y:Sh)
 |a
def ovAt:List (Nat × KOp)→Nat→Option KOp
 | [],_=>none
 |(k,o)::l,i=>if Nat.beq k i then some o else ovAt l i
def kiOf (P:Program) [Quiet P] (ov:List (Nat × KOp)) (id:Nat) (ops:Array Oper) (i:Nat) (o:Oper):KI:=⟨o.dst,match ovAt ov (id*1000+i) with
 |some k=>k
 |none=>compileOp P o,match o.guard with
 |none=>none
 |some (g,b)=>((ops[g]?).bind (·.dst)).map (·,b)⟩
def kiAt (P:Program) [Quiet P] (ov:List (Nat × KOp)) (id:Nat) (ops:Array Oper) (i:Nat):KI:=match ops[i]? with
 |some o=>kiOf P ov id ops i o
 |none=>⟨none,.dead,none⟩
def kiCons (P:Program) [Quiet P] (ov:List (Nat × KOp)) (id:Nat) (ops:Array Oper):List Nat→KR→KR
 | [],r=>r
 |i::is,r=>.cons (kiAt P ov id ops i) (kiCons P ov id ops is r)
def kiAll (P:Program) [Quiet P] (ov:List (Nat × KOp)) (id:Nat) (ops:Array Oper):Nat→List Oper→KR
 |_, []=>.nil
 |i,o::l=>.cons (kiOf P ov id ops i o) (kiAll P ov id ops (i+1) l)
def Sh.kr (P:Program) [Quiet P] (ov:List (Nat × KOp)) (id:Nat) (ops:Array Oper):Sh→KR
 |.l is=>kiCons P ov id ops is .nil
 |.j x y=>.join (Sh.kr P ov id ops x) (Sh.kr P ov id ops y)
 |.b is x y=>kiCons P ov id ops is (.both (Sh.kr P ov id ops x) (Sh.kr P ov id ops y))
 |.a=>.nil
def itemsK (P:Program) [Quiet P] (ov:List (Nat × KOp)) (id:Nat) (ops:Array Oper):Nat→List Oper→List (KI × List Nat)
 |_, []=> []
 |i,o::l=>(kiOf P ov id ops i o,depsOf o)::itemsK P ov id ops (i+1) l
def Sh.isA:Sh→Bool
 |.a=>true
 |_=>false
def shAt:List (Nat × Sh)→Nat→Sh
 | [],_=>.l []
 |(k,s)::l,i=>if Nat.beq k i then s else shAt l i
def kS (P:Program) [Quiet P] (ss:List (Nat × Sh)) (ov:List (Nat × KOp)):Code→KC
 |.skip=>.skip
 |.region id ops true=>match (shAt ss id).isA with
  |true=>.anyR (itemsK P ov id ops 0 ops.toList)
  |false=>.reg true (Sh.kr P ov id ops (shAt ss id))
 |.region id ops false=>.reg false (kiAll P ov id ops 0 ops.toList)
 |.seq a b=>.seq (kS P ss ov a) (kS P ss ov b)
 |.cond x a b=>.cond x (kS P ss ov a) (kS P ss ov b)
 |.block id c=>.block id (kS P ss ov c)
 |.loop c=>.loop (kS P ss ov c)
 |.exit id=>.exit id
 |_=>.ret
theorem fixN (n:Nat):Int.ofNat (no_index (@OfNat.ofNat Nat n (instOfNatNat n)))=@OfNat.ofNat Int n (@instOfNat n):=rfl
theorem fixM:Int.negSucc (no_index (@OfNat.ofNat Nat 0 (instOfNatNat 0)))= -1:=rfl
theorem fixB (n:Nat) (h:n<2^8):UInt8.ofBitVec (BitVec.ofFin ⟨no_index (@OfNat.ofNat Nat n (instOfNatNat n)),h⟩)=@OfNat.ofNat UInt8 n UInt8.instOfNat:=by
 apply UInt8.toNat_inj.1
 show n=n%2^8
 omega
theorem mkA {α:Type} (l:List α):Array.mk l=l.toArray:=rfl
structure HeldS (b:Prop):Prop where
 out:b
theorem oy {a b:Prop} (k:b) (h:HeldS b→a:=by (intro hheld;set_option maxRecDepth 100000 in (conv=>(arg 2;reduce;(try (dsimp only [fixN,fixM,mkA]));(try (simp only [fixB]))));exact hheld.out)):a:=h ⟨k⟩
end Go.K
end
section
namespace Go.Proofs.YtbidkcjendncaaaGreat
open Go Go.K
noncomputable def k_kedgelaw13_ChainBack:KC:=kS Tryz.prog [(6,.j (.b [0,2,4] (.l [1,3,5,6,7]) (.b [] (.b [3] (.l [1,5,6,7]) (.l [5,6,7,1])) (.b [5,6,7] (.l [1,3]) (.l [3,1])))) (.l [8,9])),(14,.j (.b [0,2,4] (.l [1,3,5,6,7]) (.b [] (.b [3] (.l [1,5,6,7]) (.l [5,6,7,1])) (.b [5,6,7] (.l [1,3]) (.l [3,1])))) (.l [8,9])),(31,.l [0,1,2,3,4,5,6,7,8]),(45,.l [0,1,2,3,4,5,6,7,8])] [(31008,.eqAgg true [.s,.i,.i,.s,.i] (t 136) (t 140)),(45008,.eqAgg true [.s,.i,.i,.s,.i] (t 172) (t 176))] (bodyOf Tryz.f3)
theorem s_kedgelaw13_ChainBack:CS 179 k_kedgelaw13_ChainBack [.tmp 4] F.kedgelaw13_ChainBack:=cs Tryz.func3 (by kernel_rfl) (by kernel_rfl)
noncomputable def k_kedgelaw13_ChainMoney:KC:=kS Tryz.prog [] [] (bodyOf Tryz.f4)
theorem s_kedgelaw13_ChainMoney:CS 156 k_kedgelaw13_ChainMoney [.tmp 2] F.kedgelaw13_ChainMoney:=cs Tryz.func4 (by kernel_rfl) (by kernel_rfl)
noncomputable def k_kedgelaw13_ChainNil:KC:=kS Tryz.prog [] [] (bodyOf Tryz.f5)
theorem s_kedgelaw13_ChainNil:CS 128 k_kedgelaw13_ChainNil [.tmp 4] F.kedgelaw13_ChainNil:=cs Tryz.func5 (by kernel_rfl) (by kernel_rfl)
noncomputable def k_chain_New:KC:=kS Tryz.prog [] [] (bodyOf Tryz.f6)
theorem s_chain_New:CS 4 k_chain_New [.tmp 0] F.chain_New:=cs Tryz.func6 (by kernel_rfl) (by kernel_rfl)
noncomputable def k_kedgelaw13_made:KC:=kS Tryz.prog [] [] (bodyOf Tryz.f7)
theorem s_kedgelaw13_made:CS 43 k_kedgelaw13_made [.tmp 6] F.kedgelaw13_made:=cs Tryz.func7 (by kernel_rfl) (by kernel_rfl)
noncomputable def k_kedgeref13_Coins:KC:=kS Tryz.prog [] [] (bodyOf Tryz.f8)
theorem s_kedgeref13_Coins:CS 27 k_kedgeref13_Coins [.tmp 2] F.kedgeref13_Coins:=cs Tryz.func8 (by kernel_rfl) (by kernel_rfl)
noncomputable def k_chain_Chain_Connect:KC:=kS Tryz.prog [(5,.j (.b [0,1,2,3,4,5,6,7,8,9,10] (.l [11,12,13,14,15]) (.l [15,11,12,13,14])) (.l [16,17])),(8,.j (.b [0,1,2,3,5,6] (.l [4,7,8]) (.b [7] (.l [4,8]) (.l [8,4]))) (.l [9,10,11,12])),(9,.j (.l [0,1,2,3,4,5,6,7,8,9,10,11,12]) (.l [13]))] [] (bodyOf Tryz.f9)
theorem s_chain_Chain_Connect:CS 62 k_chain_Chain_Connect [.tmp 4] F.chain_Chain_Connect:=cs Tryz.func9 (by kernel_rfl) (by kernel_rfl)
noncomputable def k_kedgeref13_Connect:KC:=kS Tryz.prog [(9,.j (.b [0,2,3,4,5,6] (.l [1,7]) (.l [7,1])) (.l [8,9,10]))] [] (bodyOf Tryz.f10)
theorem s_kedgeref13_Connect:CS 70 k_kedgeref13_Connect [.cellN 2 4,.tmp 5,.tmp 6] F.kedgeref13_Connect:=cs Tryz.func10 (by kernel_rfl) (by kernel_rfl)
noncomputable def k_chain_Chain_Coins:KC:=kS Tryz.prog [] [] (bodyOf Tryz.f11)
theorem s_chain_Chain_Coins:CS 10 k_chain_Chain_Coins [.tmp 2] F.chain_Chain_Coins:=cs Tryz.func11 (by kernel_rfl) (by kernel_rfl)
noncomputable def k_chain_Chain_Height:KC:=kS Tryz.prog [] [] (bodyOf Tryz.f12)
theorem s_chain_Chain_Height:CS 10 k_chain_Chain_Height [.tmp 2] F.chain_Chain_Height:=cs Tryz.func12 (by kernel_rfl) (by kernel_rfl)
noncomputable def k_chain_Chain_Disconnect:KC:=kS Tryz.prog [(5,.l [0,1,2,3,4,5,6,7,8,9,10,11]),(7,.j (.l [0,1,2,3,4,5,6,7,8,9,10,11,12]) (.l [13])),(8,.j (.l [0,1,2,3,4,5]) (.l [6,7])),(11,.j (.l [0,1,2,3,4,5,6,7,8,9,10,11,12,13]) (.l [14]))] [] (bodyOf Tryz.f13)
theorem s_chain_Chain_Disconnect:CS 66 k_chain_Chain_Disconnect [.tmp 2,.tmp 3] F.chain_Chain_Disconnect:=cs Tryz.func13 (by kernel_rfl) (by kernel_rfl)
noncomputable def k_kedgelaw13_wakes:KC:=kS Tryz.prog [] [] (bodyOf Tryz.f14)
theorem s_kedgelaw13_wakes:CS 61 k_kedgelaw13_wakes [.tmp 0] F.kedgelaw13_wakes:=cs Tryz.func14 (by kernel_rfl) (by kernel_rfl)
noncomputable def k_kedgeref13_Disconnect:KC:=kS Tryz.prog [(10,.j (.b [0,2,3,4,5,6] (.l [1,7]) (.l [7,1])) (.l [8,9,10])),(12,.b [0,1,3,4] (.b [2,5] (.l [6,7,8,9]) (.l [7,6,8,9])) (.l [7,2,5,6,8,9]))] [] (bodyOf Tryz.f15)
theorem s_kedgeref13_Disconnect:CS 46 k_kedgeref13_Disconnect [.cellN 2 2,.tmp 3,.tmp 4] F.kedgeref13_Disconnect:=cs Tryz.func15 (by kernel_rfl) (by kernel_rfl)
noncomputable def k_tx_Total:KC:=kS Tryz.prog [] [] (bodyOf Tryz.f16)
theorem s_tx_Total:CS 24 k_tx_Total [.tmp 2,.tmp 3] F.tx_Total:=cs Tryz.func16 (by kernel_rfl) (by kernel_rfl)
noncomputable def k_tx_Base:KC:=kS Tryz.prog [(1,.j (.l [0,1,2,3,4,5]) (.b [] (.b [6,7,8] (.l [9,10,11,12,13]) (.l [10,9,11,12,13])) (.l [10,6,7,8,9,11,12,13])))] [(1011,.eqAgg false [.s,.i] (t 12) (t 13))] (bodyOf Tryz.f17)
theorem s_tx_Base:CS 16 k_tx_Base [.tmp 2] F.tx_Base:=cs Tryz.func17 (by kernel_rfl) (by kernel_rfl)
noncomputable def k_kedgeref11_Fee:KC:=kS Tryz.prog [] [] (bodyOf Tryz.f18)
theorem s_kedgeref11_Fee:CS 99 k_kedgeref11_Fee [.tmp 6,.tmp 7,.tmp 8] F.kedgeref11_Fee:=cs Tryz.func18 (by kernel_rfl) (by kernel_rfl)
noncomputable def k_kedgeref12_One:KC:=kS Tryz.prog [] [] (bodyOf Tryz.f19)
theorem s_kedgeref12_One:CS 115 k_kedgeref12_One [.tmp 8,.tmp 9,.tmp 10] F.kedgeref12_One:=cs Tryz.func19 (by kernel_rfl) (by kernel_rfl)
noncomputable def k_chain_Chain_Get:KC:=kS Tryz.prog [(3,.j (.l [0,1,2,3,4]) (.l [5,6,7,8,9]))] [] (bodyOf Tryz.f20)
theorem s_chain_Chain_Get:CS 17 k_chain_Chain_Get [.cellN 3 4,.tmp 5] F.chain_Chain_Get:=cs Tryz.func20 (by kernel_rfl) (by kernel_rfl)
noncomputable def k_chain_Chain_Confirmed:KC:=kS Tryz.prog [] [] (bodyOf Tryz.f21)
theorem s_chain_Chain_Confirmed:CS 34 k_chain_Chain_Confirmed [.tmp 4,.tmp 5] F.chain_Chain_Confirmed:=cs Tryz.func21 (by kernel_rfl) (by kernel_rfl)
noncomputable def k_chain_Chain_Spender:KC:=kS Tryz.prog [(4,.j (.l [0,1,2,3,4,5,6,7,8,9]) (.l [10,11,12,13,14,15]))] [(4010,.lookup true [.s,.i] (.string ⟨#[]⟩) true (t 25) (t 26))] (bodyOf Tryz.f22)
theorem s_chain_Chain_Spender:CS 33 k_chain_Chain_Spender [.tmp 4,.tmp 5,.tmp 6] F.chain_Chain_Spender:=cs Tryz.func22 (by kernel_rfl) (by kernel_rfl)
noncomputable def k_coins_New:KC:=kS Tryz.prog [] [] (bodyOf Tryz.f24)
theorem s_coins_New:CS 4 k_coins_New [.tmp 0] F.coins_New:=cs Tryz.func24 (by kernel_rfl) (by kernel_rfl)
noncomputable def k_kedgeref12_Make:KC:=kS Tryz.prog [(28,.j (.l [0,1,2,3,4,5,6,7,8,9,10]) (.l [11,12,13,14]))] [] (bodyOf Tryz.f25)
theorem s_kedgeref12_Make:CS 147 k_kedgeref12_Make [.cellN 4 6] F.kedgeref12_Make:=cs Tryz.func25 (by kernel_rfl) (by kernel_rfl)
noncomputable def k_kedgeref12_Apply:KC:=kS Tryz.prog [] [] (bodyOf Tryz.f26)
theorem s_kedgeref12_Apply:CS 47 k_kedgeref12_Apply [.tmp 6,.tmp 7,.tmp 8,.tmp 9] F.kedgeref12_Apply:=cs Tryz.func26 (by kernel_rfl) (by kernel_rfl)
noncomputable def k_block_Apply:KC:=kS Tryz.prog [] [] (bodyOf Tryz.f27)
theorem s_block_Apply:CS 64 k_block_Apply [.cellN 2 6,.tmp 7] F.block_Apply:=cs Tryz.func27 (by kernel_rfl) (by kernel_rfl)
noncomputable def k_chain_linked:KC:=kS Tryz.prog [(1,.j (.b [0] (.b [1] (.b [2] (.l [3,4,5]) (.l [5,3,4])) (.b [] (.l [3,2,4,5]) (.b [5] (.l [2,3,4]) (.l [3,2,4])))) (.b [] (.b [2] (.b [1] (.l [3,4,5]) (.l [5,3,4])) (.b [] (.b [3] (.l [1,4,5]) (.l [5,1,4])) (.b [5] (.l [1,3,4]) (.l [3,1,4])))) (.b [] (.b [3] (.l [1,2,4,5]) (.b [] (.b [2] (.l [1,4,5]) (.l [5,1,4])) (.b [5] (.l [1,2,4]) (.l [2,1,4])))) (.b [5] (.b [1] (.l [2,3,4]) (.l [3,2,4])) (.b [] (.b [2] (.l [1,3,4]) (.l [3,1,4])) (.b [3] (.l [1,2,4]) (.l [2,1,4]))))))) (.l [6]))] [(10005,.mapUpdate true [.s,.i] (t 42) (t 44) (t 45))] (bodyOf Tryz.f28)
theorem s_chain_linked:CS 49 k_chain_linked [.cellN 5 4] F.chain_linked:=cs Tryz.func28 (by kernel_rfl) (by kernel_rfl)
noncomputable def k_coins_Set_All:KC:=kS Tryz.prog [] [] (bodyOf Tryz.f29)
theorem s_coins_Set_All:CS 27 k_coins_Set_All [.tmp 2] F.coins_Set_All:=cs Tryz.func29 (by kernel_rfl) (by kernel_rfl)
noncomputable def k_block_Revert:KC:=kS Tryz.prog [(3,.j (.b [0,2,4] (.l [1,3,5]) (.b [] (.b [3] (.l [1,5]) (.l [5,1])) (.b [5] (.l [1,3]) (.l [3,1])))) (.l [6,7]))] [] (bodyOf Tryz.f30)
theorem s_block_Revert:CS 21 k_block_Revert [.tmp 4] F.block_Revert:=cs Tryz.func30 (by kernel_rfl) (by kernel_rfl)
noncomputable def k_tx_Grant:KC:=kS Tryz.prog [] [] (bodyOf Tryz.f31)
theorem s_tx_Grant:CS 13 k_tx_Grant [.cellN 4 4] F.tx_Grant:=cs Tryz.func31 (by kernel_rfl) (by kernel_rfl)
noncomputable def k_amount_Sum:KC:=kS Tryz.prog [] [] (bodyOf Tryz.f32)
theorem s_amount_Sum:CS 25 k_amount_Sum [.tmp 2,.tmp 3] F.amount_Sum:=cs Tryz.func32 (by kernel_rfl) (by kernel_rfl)
noncomputable def k_tx_base:KC:=kS Tryz.prog [] [] (bodyOf Tryz.f33)
theorem s_tx_base:CS 3 k_tx_base [.cellN 2 0] F.tx_base:=cs Tryz.func33 (by kernel_rfl) (by kernel_rfl)
noncomputable def k_kedgeref05_Check:KC:=kS Tryz.prog [(23,.j (.l [0,1,2,3,4,5,6,7,8,9,10,11,12,13,14,15,16,18,23,25]) (.l [17,19,20,21,22,24,26,27,28,29,30,31]))] [] (bodyOf Tryz.f34)
theorem s_kedgeref05_Check:CS 133 k_kedgeref05_Check [.tmp 2] F.kedgeref05_Check:=cs Tryz.func34 (by kernel_rfl) (by kernel_rfl)
noncomputable def k_kedgeref05_Base:KC:=kS Tryz.prog [] [] (bodyOf Tryz.f35)
theorem s_kedgeref05_Base:CS 22 k_kedgeref05_Base [.tmp 2] F.kedgeref05_Base:=cs Tryz.func35 (by kernel_rfl) (by kernel_rfl)
noncomputable def k_kedgeref10_Find:KC:=kS Tryz.prog [(4,.j (.l [0,1,2,3,4,5]) (.l [6,7]))] [] (bodyOf Tryz.f36)
theorem s_kedgeref10_Find:CS 22 k_kedgeref10_Find [.tmp 4] F.kedgeref10_Find:=cs Tryz.func36 (by kernel_rfl) (by kernel_rfl)
noncomputable def k_kedgeref08_Open:KC:=kS Tryz.prog [] [] (bodyOf Tryz.f37)
theorem s_kedgeref08_Open:CS 82 k_kedgeref08_Open [.tmp 6] F.kedgeref08_Open:=cs Tryz.func37 (by kernel_rfl) (by kernel_rfl)
noncomputable def k_kedgeref08_Ripe:KC:=kS Tryz.prog [] [] (bodyOf Tryz.f38)
theorem s_kedgeref08_Ripe:CS 63 k_kedgeref08_Ripe [.tmp 8] F.kedgeref08_Ripe:=cs Tryz.func38 (by kernel_rfl) (by kernel_rfl)
noncomputable def k_kedgeref01_Sum:KC:=kS Tryz.prog [] [] (bodyOf Tryz.f39)
theorem s_kedgeref01_Sum:CS 31 k_kedgeref01_Sum [.tmp 2,.tmp 3] F.kedgeref01_Sum:=cs Tryz.func39 (by kernel_rfl) (by kernel_rfl)
noncomputable def k_kedgeref05_Total:KC:=kS Tryz.prog [] [] (bodyOf Tryz.f40)
theorem s_kedgeref05_Total:CS 26 k_kedgeref05_Total [.tmp 2,.tmp 3] F.kedgeref05_Total:=cs Tryz.func40 (by kernel_rfl) (by kernel_rfl)
noncomputable def k_kedgeref10_Take:KC:=kS Tryz.prog [(10,.l [0,1,2,3,4,5,6,7,8])] [] (bodyOf Tryz.f41)
theorem s_kedgeref10_Take:CS 39 k_kedgeref10_Take [.tmp 4,.cellN 3 5,.tmp 6] F.kedgeref10_Take:=cs Tryz.func41 (by kernel_rfl) (by kernel_rfl)
noncomputable def k_kedgeref07_ID:KC:=kS Tryz.prog [] [] (bodyOf Tryz.f42)
theorem s_kedgeref07_ID:CS 8 k_kedgeref07_ID [.tmp 2] F.kedgeref07_ID:=cs Tryz.func42 (by kernel_rfl) (by kernel_rfl)
noncomputable def k_kedgeref10_Put:KC:=kS Tryz.prog [(16,.j (.l [0,1,2,3,4,5]) (.l [6,7]))] [] (bodyOf Tryz.f43)
theorem s_kedgeref10_Put:CS 95 k_kedgeref10_Put [.tmp 6,.tmp 7] F.kedgeref10_Put:=cs Tryz.func43 (by kernel_rfl) (by kernel_rfl)
noncomputable def k_coins_Set_Get:KC:=kS Tryz.prog [(3,.j (.l [0,1,2,3,4,5,6,7,8,9]) (.l [10,11]))] [(3005,.lookup true [.s,.i] (.agg #[(.int .i64 0),(.string ⟨#[]⟩),(.int .i64 0)]) true (t 15) (t 16))] (bodyOf Tryz.f44)
theorem s_coins_Set_Get:CS 22 k_coins_Set_Get [.cellN 3 4,.tmp 5] F.coins_Set_Get:=cs Tryz.func44 (by kernel_rfl) (by kernel_rfl)
noncomputable def k_coins_Set_Copy:KC:=kS Tryz.prog [(3,.j (.b [0,1,2,3,5,6,7] (.l [4,8,9]) (.l [8,4,9])) (.l [10,11]))] [] (bodyOf Tryz.f47)
theorem s_coins_Set_Copy:CS 16 k_coins_Set_Copy [.tmp 2] F.coins_Set_Copy:=cs Tryz.func47 (by kernel_rfl) (by kernel_rfl)
noncomputable def k_block_apply:KC:=kS Tryz.prog [] [] (bodyOf Tryz.f48)
theorem s_block_apply:CS 39 k_block_apply [.tmp 8] F.block_apply:=cs Tryz.func48 (by kernel_rfl) (by kernel_rfl)
noncomputable def k_block_missing:KC:=kS Tryz.prog [] [(6006,.eqAgg true [.i,.s,.i] (t 27) (t 29))] (bodyOf Tryz.f49)
theorem s_block_missing:CS 38 k_block_missing [.tmp 4] F.block_missing:=cs Tryz.func49 (by kernel_rfl) (by kernel_rfl)
noncomputable def k_block_swap:KC:=kS Tryz.prog [] [(5006,.eqAgg true [.i,.s,.i] (t 29) (t 31))] (bodyOf Tryz.f50)
theorem s_block_swap:CS 49 k_block_swap [.tmp 6] F.block_swap:=cs Tryz.func50 (by kernel_rfl) (by kernel_rfl)
noncomputable def k_chain_copies:KC:=kS Tryz.prog [] [] (bodyOf Tryz.f51)
theorem s_chain_copies:CS 19 k_chain_copies [.tmp 2] F.chain_copies:=cs Tryz.func51 (by kernel_rfl) (by kernel_rfl)
noncomputable def k_ident_ID:KC:=kS Tryz.prog [] [] (bodyOf Tryz.f52)
theorem s_ident_ID:CS 16 k_ident_ID [.tmp 2,.tmp 3] F.ident_ID:=cs Tryz.func52 (by kernel_rfl) (by kernel_rfl)
noncomputable def k_coins_order:KC:=kS Tryz.prog [] [] (bodyOf Tryz.f54)
theorem s_coins_order:CS 17 k_coins_order [.tmp 4] F.coins_order:=cs Tryz.func54 (by kernel_rfl) (by kernel_rfl)
noncomputable def k_slices_Clone_L_api_Out_api_Out:KC:=kS Tryz.prog [] [] (bodyOf Tryz.f55)
theorem s_slices_Clone_L_api_Out_api_Out:CS 8 k_slices_Clone_L_api_Out_api_Out [.tmp 2] F.slices_Clone_L_api_Out_api_Out:=cs Tryz.func55 (by kernel_rfl) (by kernel_rfl)
noncomputable def k_amount_Add:KC:=kS Tryz.prog [] [] (bodyOf Tryz.f56)
theorem s_amount_Add:CS 24 k_amount_Add [.tmp 4,.tmp 5] F.amount_Add:=cs Tryz.func56 (by kernel_rfl) (by kernel_rfl)
noncomputable def k_kedgeref05_long:KC:=kS Tryz.prog [] [] (bodyOf Tryz.f58)
theorem s_kedgeref05_long:CS 50 k_kedgeref05_long [.tmp 2] F.kedgeref05_long:=cs Tryz.func58 (by kernel_rfl) (by kernel_rfl)
noncomputable def k_kedgeref10_same:KC:=kS Tryz.prog [] [] (bodyOf Tryz.f59)
theorem s_kedgeref10_same:CS 17 k_kedgeref10_same [.tmp 4] F.kedgeref10_same:=cs Tryz.func59 (by kernel_rfl) (by kernel_rfl)
noncomputable def k_kedgeref08_Get:KC:=kS Tryz.prog [] [] (bodyOf Tryz.f60)
theorem s_kedgeref08_Get:CS 76 k_kedgeref08_Get [.tmp 2] F.kedgeref08_Get:=cs Tryz.func60 (by kernel_rfl) (by kernel_rfl)
noncomputable def k_kedgeref08_Signed:KC:=kS Tryz.prog [(3,.l [0,1,2,3,4,5,6,7,8,9,10,11,12,13,14,15,16,17,18])] [] (bodyOf Tryz.f61)
theorem s_kedgeref08_Signed:CS 38 k_kedgeref08_Signed [.tmp 2,.tmp 3] F.kedgeref08_Signed:=cs Tryz.func61 (by kernel_rfl) (by kernel_rfl)
noncomputable def k_kedgeref08_Waits:KC:=kS Tryz.prog [] [] (bodyOf Tryz.f62)
theorem s_kedgeref08_Waits:CS 22 k_kedgeref08_Waits [.tmp 4] F.kedgeref08_Waits:=cs Tryz.func62 (by kernel_rfl) (by kernel_rfl)
noncomputable def k_kedgeref06_Bytes:KC:=kS Tryz.prog [] [] (bodyOf Tryz.f64)
theorem s_kedgeref06_Bytes:CS 195 k_kedgeref06_Bytes [.tmp 4] F.kedgeref06_Bytes:=cs Tryz.func64 (by kernel_rfl) (by kernel_rfl)
noncomputable def k_kedgeref04_Twice:KC:=kS Tryz.prog [] [] (bodyOf Tryz.f65)
theorem s_kedgeref04_Twice:CS 8 k_kedgeref04_Twice [.tmp 2] F.kedgeref04_Twice:=cs Tryz.func65 (by kernel_rfl) (by kernel_rfl)
noncomputable def k_kedgeref10_Total:KC:=kS Tryz.prog [] [] (bodyOf Tryz.f66)
theorem s_kedgeref10_Total:CS 21 k_kedgeref10_Total [.tmp 2] F.kedgeref10_Total:=cs Tryz.func66 (by kernel_rfl) (by kernel_rfl)
noncomputable def k_kedgeref05_Less:KC:=kS Tryz.prog [] [] (bodyOf Tryz.f67)
theorem s_kedgeref05_Less:CS 20 k_kedgeref05_Less [.tmp 4] F.kedgeref05_Less:=cs Tryz.func67 (by kernel_rfl) (by kernel_rfl)
noncomputable def k_block_may:KC:=kS Tryz.prog [] [] (bodyOf Tryz.f69)
theorem s_block_may:CS 40 k_block_may [.tmp 8] F.block_may:=cs Tryz.func69 (by kernel_rfl) (by kernel_rfl)
noncomputable def k_coins_Set_Take:KC:=kS Tryz.prog [(3,.j (.l [0,1,2,3,4,5,6,7,8,9]) (.l [10,11])),(6,.j (.l [0,1,2,3,4]) (.l [5])),(7,.j (.l [0,1,2,3,4,5,6,7,8,9]) (.l [10]))] [(3005,.lookup true [.s,.i] (.agg #[(.int .i64 0),(.string ⟨#[]⟩),(.int .i64 0)]) true (t 15) (t 16)),(6005,.delete true [.s,.i] (t 26) (t 27))] (bodyOf Tryz.f70)
theorem s_coins_Set_Take:CS 39 k_coins_Set_Take [.cellN 3 4,.tmp 5] F.coins_Set_Take:=cs Tryz.func70 (by kernel_rfl) (by kernel_rfl)
noncomputable def k_block_pay:KC:=kS Tryz.prog [] [] (bodyOf Tryz.f71)
theorem s_block_pay:CS 39 k_block_pay [.tmp 6] F.block_pay:=cs Tryz.func71 (by kernel_rfl) (by kernel_rfl)
noncomputable def k_coins_Set_Put:KC:=kS Tryz.prog [(5,.j (.l [0,1,2,3,4,5,6,7,8,9]) (.l [10,11])),(8,.j (.l [0,1,2,3,4,5,6]) (.l [7,8,9,10,11,12])),(11,.j (.b [0,1,2,3,4,5,7] (.l [6,8,9]) (.l [8,6,9])) (.l [10,11,12,13]))] [(5005,.lookup true [.s,.i] (.agg #[(.int .i64 0),(.string ⟨#[]⟩),(.int .i64 0)]) true (t 23) (t 24)),(11008,.mapEntry true [.s,.i] (.agg #[(.int .i64 0),(.string ⟨#[]⟩),(.int .i64 0)]) (t 46) (t 47))] (bodyOf Tryz.f72)
theorem s_coins_Set_Put:CS 55 k_coins_Set_Put [.tmp 6] F.coins_Set_Put:=cs Tryz.func72 (by kernel_rfl) (by kernel_rfl)
noncomputable def k_tx_Copy:KC:=kS Tryz.prog [(1,.j (.b [0,1,3] (.l [2,4,6]) (.l [4,2,6])) (.l [5,7,8,9])),(5,.j (.b [0,2,3,4,5,6,7,8] (.l [1,9,10,11]) (.l [9,1,10,11])) (.l [12]))] [] (bodyOf Tryz.f73)
theorem s_tx_Copy:CS 32 k_tx_Copy [.cellN 4 2] F.tx_Copy:=cs Tryz.func73 (by kernel_rfl) (by kernel_rfl)
noncomputable def k_wire_Bare:KC:=kS Tryz.prog [] [] (bodyOf Tryz.f74)
theorem s_wire_Bare:CS 12 k_wire_Bare [.tmp 2,.tmp 3] F.wire_Bare:=cs Tryz.func74 (by kernel_rfl) (by kernel_rfl)
noncomputable def k_sha_Twice:KC:=kS Tryz.prog [] [] (bodyOf Tryz.f75)
theorem s_sha_Twice:CS 6 k_sha_Twice [.tmp 2] F.sha_Twice:=cs Tryz.func75 (by kernel_rfl) (by kernel_rfl)
noncomputable def k_tx_Less:KC:=kS Tryz.prog [(1,.j (.b [0,1,2,3,5,7] (.l [4,6,8]) (.b [] (.b [6] (.l [4,8]) (.l [8,4])) (.b [8] (.l [4,6]) (.l [6,4])))) (.l [9,10,11,12,13]))] [] (bodyOf Tryz.f78)
theorem s_tx_Less:CS 18 k_tx_Less [.tmp 4] F.tx_Less:=cs Tryz.func78 (by kernel_rfl) (by kernel_rfl)
noncomputable def k_kedgeref02_Get:KC:=kS Tryz.prog [] [] (bodyOf Tryz.f86)
theorem s_kedgeref02_Get:CS 55 k_kedgeref02_Get [.tmp 6,.tmp 7] F.kedgeref02_Get:=cs Tryz.func86 (by kernel_rfl) (by kernel_rfl)
noncomputable def k_kedgeref02_Put:KC:=kS Tryz.prog [] [] (bodyOf Tryz.f87)
theorem s_kedgeref02_Put:CS 37 k_kedgeref02_Put [.tmp 4] F.kedgeref02_Put:=cs Tryz.func87 (by kernel_rfl) (by kernel_rfl)
noncomputable def k_kedgeref06_length:KC:=kS Tryz.prog [] [] (bodyOf Tryz.f88)
theorem s_kedgeref06_length:CS 6 k_kedgeref06_length [.tmp 2] F.kedgeref06_length:=cs Tryz.func88 (by kernel_rfl) (by kernel_rfl)
noncomputable def k_kedgeref04_Sum:KC:=kS Tryz.prog [(6,.l [0,1,2,3,4,5,6,7]),(11,.j (.l [0,1,2,3,4,5,6,7,8,9,10,11,12,13,14,15,16,17,18,19]) (.l [20,21,22,23]))] [] (bodyOf Tryz.f89)
theorem s_kedgeref04_Sum:CS 52 k_kedgeref04_Sum [.tmp 2] F.kedgeref04_Sum:=cs Tryz.func89 (by kernel_rfl) (by kernel_rfl)
noncomputable def k_check_Fee:KC:=kS Tryz.prog [] [] (bodyOf Tryz.f91)
theorem s_check_Fee:CS 81 k_check_Fee [.tmp 6,.tmp 7] F.check_Fee:=cs Tryz.func91 (by kernel_rfl) (by kernel_rfl)
noncomputable def k_tx_Check:KC:=kS Tryz.prog [] [] (bodyOf Tryz.f92)
theorem s_tx_Check:CS 25 k_tx_Check [.tmp 2] F.tx_Check:=cs Tryz.func92 (by kernel_rfl) (by kernel_rfl)
noncomputable def k_coins_formed:KC:=kS Tryz.prog [] [] (bodyOf Tryz.f93)
theorem s_coins_formed:CS 25 k_coins_formed [.tmp 4] F.coins_formed:=cs Tryz.func93 (by kernel_rfl) (by kernel_rfl)
noncomputable def k_slices_Clone_L_api_In_api_In:KC:=kS Tryz.prog [] [] (bodyOf Tryz.f94)
theorem s_slices_Clone_L_api_In_api_In:CS 8 k_slices_Clone_L_api_In_api_In [.tmp 2] F.slices_Clone_L_api_In_api_In:=cs Tryz.func94 (by kernel_rfl) (by kernel_rfl)
noncomputable def k_slices_Clone_L_string_string:KC:=kS Tryz.prog [] [] (bodyOf Tryz.f95)
theorem s_slices_Clone_L_string_string:CS 8 k_slices_Clone_L_string_string [.tmp 2] F.slices_Clone_L_string_string:=cs Tryz.func95 (by kernel_rfl) (by kernel_rfl)
noncomputable def k_wire_encode:KC:=kS Tryz.prog [] [] (bodyOf Tryz.f96)
theorem s_wire_encode:CS 109 k_wire_encode [.tmp 4] F.wire_encode:=cs Tryz.func96 (by kernel_rfl) (by kernel_rfl)
noncomputable def k_sha_Sum:KC:=kS Tryz.prog [(5,.j (.b [0] (.b [1] (.b [2] (.l [3,4,5]) (.l [4,3,5])) (.b [] (.b [3] (.l [2,4,5]) (.b [4] (.l [2,5]) (.l [5,2]))) (.b [4] (.l [2,3,5]) (.b [3] (.l [2,5]) (.l [5,2]))))) (.b [] (.b [2] (.b [1] (.l [3,4,5]) (.l [4,3,5])) (.b [] (.b [3] (.l [1,4,5]) (.l [4,1,5])) (.b [4] (.l [1,3,5]) (.l [3,1,5])))) (.b [] (.b [3] (.b [1] (.l [2,4,5]) (.b [4] (.l [2,5]) (.l [5,2]))) (.b [] (.b [2] (.l [1,4,5]) (.l [4,1,5])) (.b [4] (.b [1] (.l [2,5]) (.l [5,2])) (.l [2,1,5])))) (.b [4] (.b [1] (.l [2,3,5]) (.b [3] (.l [2,5]) (.l [5,2]))) (.b [] (.b [2] (.l [1,3,5]) (.l [3,1,5])) (.b [3] (.b [1] (.l [2,5]) (.l [5,2])) (.l [2,1,5]))))))) (.l [6])),(9,.j (.l [0,1,2,3,4,5,6]) (.l [7,8])),(14,.j (.l [0,1,2,3,4,5,6,7]) (.l [8]))] [] (bodyOf Tryz.f97)
theorem s_sha_Sum:CS 57 k_sha_Sum [.tmp 2] F.sha_Sum:=cs Tryz.func97 (by kernel_rfl) (by kernel_rfl)
noncomputable def k_cmp_Or_int:KC:=kS Tryz.prog [] [] (bodyOf Tryz.f108)
theorem s_cmp_Or_int:CS 18 k_cmp_Or_int [.tmp 2] F.cmp_Or_int:=cs Tryz.func108 (by kernel_rfl) (by kernel_rfl)
noncomputable def k_cmp_Compare_uint32:KC:=kS Tryz.prog [] [] (bodyOf Tryz.f110)
theorem s_cmp_Compare_uint32:CS 20 k_cmp_Compare_uint32 [.tmp 4] F.cmp_Compare_uint32:=cs Tryz.func110 (by kernel_rfl) (by kernel_rfl)
noncomputable def k_kedgeref03_Put:KC:=kS Tryz.prog [] [] (bodyOf Tryz.f117)
theorem s_kedgeref03_Put:CS 20 k_kedgeref03_Put [.tmp 2] F.kedgeref03_Put:=cs Tryz.func117 (by kernel_rfl) (by kernel_rfl)
noncomputable def k_kedgeref04_pad:KC:=kS Tryz.prog [] [] (bodyOf Tryz.f118)
theorem s_kedgeref04_pad:CS 47 k_kedgeref04_pad [.tmp 2] F.kedgeref04_pad:=cs Tryz.func118 (by kernel_rfl) (by kernel_rfl)
noncomputable def k_kedgeref04_block:KC:=kS Tryz.prog [(6,.j (.l [0,1,2,3,4,5,6,7,8,9,10,11,12,13,14,15,16,17,18,19,20,21,22,23,24,25,26,27,28,29,30,31,32,33,34]) (.l [35])),(14,.j (.l [0,1,2,3,4,5,6,7,8,9,10,11,12,13,14,15,16,17,18,19,20,21,22,23,24,25,26,27,28,29,30]) (.l [31])),(22,.l [0,1,2,3,4,5,6,7,8,9,10,11,12,13,14,15,16,17,18,19,20,21,22,23,24,25,26,27,28,29]),(36,.j (.l [0,1,2,3,4,5,6,7,8]) (.l [9]))] [] (bodyOf Tryz.f119)
theorem s_kedgeref04_block:CS 225 k_kedgeref04_block [.cellN 8 4] F.kedgeref04_block:=cs Tryz.func119 (by kernel_rfl) (by kernel_rfl)
noncomputable def k_check_formed:KC:=kS Tryz.prog [] [] (bodyOf Tryz.f120)
theorem s_check_formed:CS 15 k_check_formed [.tmp 4] F.check_formed:=cs Tryz.func120 (by kernel_rfl) (by kernel_rfl)
noncomputable def k_check_spent:KC:=kS Tryz.prog [(1,.j (.b [0,1,2,3,4,5,6,7,8,9] (.l [10,11,12,13,14]) (.l [14,10,11,12,13])) (.l [15,16]))] [(1008,.nilM mo (t 21)),(1010,.invoke (t 23) "Get" [(t 20)])] (bodyOf Tryz.f121)
theorem s_check_spent:CS 49 k_check_spent [.cellN 3 8,.tmp 9] F.check_spent:=cs Tryz.func121 (by kernel_rfl) (by kernel_rfl)
noncomputable def k_amount_Sub:KC:=kS Tryz.prog [] [] (bodyOf Tryz.f122)
theorem s_amount_Sub:CS 22 k_amount_Sub [.tmp 4,.tmp 5] F.amount_Sub:=cs Tryz.func122 (by kernel_rfl) (by kernel_rfl)
noncomputable def k_check_told:KC:=kS Tryz.prog [] [] (bodyOf Tryz.f123)
theorem s_check_told:CS 7 k_check_told [.tmp 2] F.check_told:=cs Tryz.func123 (by kernel_rfl) (by kernel_rfl)
noncomputable def k_tx_counts:KC:=kS Tryz.prog [] [] (bodyOf Tryz.f124)
theorem s_tx_counts:CS 19 k_tx_counts [.tmp 2] F.tx_counts:=cs Tryz.func124 (by kernel_rfl) (by kernel_rfl)
noncomputable def k_tx_long:KC:=kS Tryz.prog [] [] (bodyOf Tryz.f125)
theorem s_tx_long:CS 13 k_tx_long [.tmp 2] F.tx_long:=cs Tryz.func125 (by kernel_rfl) (by kernel_rfl)
noncomputable def k_tx_formed:KC:=kS Tryz.prog [(4,.j (.l [0,1,2,3,4,5,6]) (.j (.b [] (.l [7,8,9,10,11]) (.l [8,7,9,10,11])) (.l [12,13,14,15,16])))] [(4009,.eqAgg false [.s,.i] (t 19) (t 20))] (bodyOf Tryz.f126)
theorem s_tx_formed:CS 30 k_tx_formed [.tmp 2] F.tx_formed:=cs Tryz.func126 (by kernel_rfl) (by kernel_rfl)
noncomputable def k_tx_twice:KC:=kS Tryz.prog [(5,.j (.l [0,1,2]) (.j (.b [] (.l [3,4,5,6]) (.l [5,3,4,6])) (.l [7])))] [(5003,.lookup true [.s,.i] (.int .i64 0) false (t 14) (t 16)),(5005,.mapEntry true [.s,.i] (.int .i64 0) (t 14) (t 16)),(6003,.lookup true [.s,.i] (.int .i64 0) false (t 21) (t 23))] (bodyOf Tryz.f127)
theorem s_tx_twice:CS 27 k_tx_twice [.tmp 2] F.tx_twice:=cs Tryz.func127 (by kernel_rfl) (by kernel_rfl)
noncomputable def k_wire_encode_1:KC:=kS Tryz.prog [] [] (bodyOf Tryz.f128)
theorem s_wire_encode_1:CS 9 k_wire_encode_1 [] F.wire_encode_1:=cs Tryz.func128 (by kernel_rfl) (by kernel_rfl)
noncomputable def k_octet_Put:KC:=kS Tryz.prog [] [] (bodyOf Tryz.f129)
theorem s_octet_Put:CS 22 k_octet_Put [.tmp 4] F.octet_Put:=cs Tryz.func129 (by kernel_rfl) (by kernel_rfl)
noncomputable def k_wire_counted:KC:=kS Tryz.prog [] [] (bodyOf Tryz.f130)
theorem s_wire_counted:CS 6 k_wire_counted [.tmp 2] F.wire_counted:=cs Tryz.func130 (by kernel_rfl) (by kernel_rfl)
noncomputable def k_wire_sized:KC:=kS Tryz.prog [] [] (bodyOf Tryz.f131)
theorem s_wire_sized:CS 8 k_wire_sized [.tmp 2] F.wire_sized:=cs Tryz.func131 (by kernel_rfl) (by kernel_rfl)
noncomputable def k_sha_begin:KC:=kS Tryz.prog [] [] (bodyOf Tryz.f132)
theorem s_sha_begin:CS 2 k_sha_begin [.cellN 8 0] F.sha_begin:=cs Tryz.func132 (by kernel_rfl) (by kernel_rfl)
noncomputable def k_sha_keys:KC:=kS Tryz.prog [] [] (bodyOf Tryz.f133)
theorem s_sha_keys:CS 2 k_sha_keys [.cellN 64 0] F.sha_keys:=cs Tryz.func133 (by kernel_rfl) (by kernel_rfl)
noncomputable def k_sha_padded:KC:=kS Tryz.prog [] [] (bodyOf Tryz.f134)
theorem s_sha_padded:CS 20 k_sha_padded [.tmp 2] F.sha_padded:=cs Tryz.func134 (by kernel_rfl) (by kernel_rfl)
noncomputable def k_sha_schedule:KC:=kS Tryz.prog [(11,.l [0,1,2,3,4,5,6,7,8,9]),(12,.j (.l [0,1,2,3,4,5,6,7,8,9,10,11,12,13,14,15,16,17,18,19,20,21,22,23,24,25,26,27,28]) (.l [29]))] [] (bodyOf Tryz.f135)
theorem s_sha_schedule:CS 76 k_sha_schedule [.cellN 64 2] F.sha_schedule:=cs Tryz.func135 (by kernel_rfl) (by kernel_rfl)
noncomputable def k_sha_round:KC:=kS Tryz.prog [(1,.l [0,1,2,3,4,5]),(2,.l [0,1,2,3,4,5,6,7,8,9,10,11,12,13,14,15,16,17,18,19,20,21,22,23,24,25,26]),(3,.l [0,1,2,3,4,5,6,7,8,9,10,11,12,13,14,15,16,17,18,19,20,21,22,23,24])] [] (bodyOf Tryz.f136)
theorem s_sha_round:CS 83 k_sha_round [.cellN 8 6] F.sha_round:=cs Tryz.func136 (by kernel_rfl) (by kernel_rfl)
noncomputable def k_sha_high:KC:=kS Tryz.prog [] [] (bodyOf Tryz.f137)
theorem s_sha_high:CS 27 k_sha_high [.tmp 4] F.sha_high:=cs Tryz.func137 (by kernel_rfl) (by kernel_rfl)
noncomputable def k_cmp_isNaN_uint32:KC:=kS Tryz.prog [] [] (bodyOf Tryz.f144)
theorem s_cmp_isNaN_uint32:CS 6 k_cmp_isNaN_uint32 [.tmp 2] F.cmp_isNaN_uint32:=cs Tryz.func144 (by kernel_rfl) (by kernel_rfl)
noncomputable def k_kedgeref04_k:KC:=kS Tryz.prog [] [] (bodyOf Tryz.f147)
theorem s_kedgeref04_k:CS 2 k_kedgeref04_k [.cellN 64 0] F.kedgeref04_k:=cs Tryz.func147 (by kernel_rfl) (by kernel_rfl)
noncomputable def k_lock_Open:KC:=kS Tryz.prog [(6,.b [0,1,3] (.l [2,4,5,6,7]) (.l [4,5,2,6,7]))] [] (bodyOf Tryz.f149)
theorem s_lock_Open:CS 55 k_lock_Open [.tmp 6] F.lock_Open:=cs Tryz.func149 (by kernel_rfl) (by kernel_rfl)
noncomputable def k_lock_Ripe:KC:=kS Tryz.prog [] [] (bodyOf Tryz.f150)
theorem s_lock_Ripe:CS 43 k_lock_Ripe [.tmp 8] F.lock_Ripe:=cs Tryz.func150 (by kernel_rfl) (by kernel_rfl)
noncomputable def k_slices_ContainsFunc_L_api_In_api_In:KC:=kS Tryz.prog [] [] (bodyOf Tryz.f152)
theorem s_slices_ContainsFunc_L_api_In_api_In:CS 9 k_slices_ContainsFunc_L_api_In_api_In [.tmp 4] F.slices_ContainsFunc_L_api_In_api_In:=cs Tryz.func152 (by kernel_rfl) (by kernel_rfl)
noncomputable def k_tx_counts_1:KC:=kS Tryz.prog [] [] (bodyOf Tryz.f153)
theorem s_tx_counts_1:CS 7 k_tx_counts_1 [.tmp 2] F.tx_counts_1:=cs Tryz.func153 (by kernel_rfl) (by kernel_rfl)
noncomputable def k_tx_long_1:KC:=kS Tryz.prog [] [] (bodyOf Tryz.f154)
theorem s_tx_long_1:CS 6 k_tx_long_1 [.tmp 2] F.tx_long_1:=cs Tryz.func154 (by kernel_rfl) (by kernel_rfl)
noncomputable def k_slices_ContainsFunc_L_api_Out_api_Out:KC:=kS Tryz.prog [] [] (bodyOf Tryz.f155)
theorem s_slices_ContainsFunc_L_api_Out_api_Out:CS 9 k_slices_ContainsFunc_L_api_Out_api_Out [.tmp 4] F.slices_ContainsFunc_L_api_Out_api_Out:=cs Tryz.func155 (by kernel_rfl) (by kernel_rfl)
noncomputable def k_tx_long_2:KC:=kS Tryz.prog [] [] (bodyOf Tryz.f156)
theorem s_tx_long_2:CS 7 k_tx_long_2 [.tmp 2] F.tx_long_2:=cs Tryz.func156 (by kernel_rfl) (by kernel_rfl)
noncomputable def k_tx_long_3:KC:=kS Tryz.prog [] [] (bodyOf Tryz.f157)
theorem s_tx_long_3:CS 8 k_tx_long_3 [.tmp 3] F.tx_long_3:=cs Tryz.func157 (by kernel_rfl) (by kernel_rfl)
noncomputable def k_slices_ContainsFunc_L_string_string:KC:=kS Tryz.prog [] [] (bodyOf Tryz.f158)
theorem s_slices_ContainsFunc_L_string_string:CS 9 k_slices_ContainsFunc_L_string_string [.tmp 4] F.slices_ContainsFunc_L_string_string:=cs Tryz.func158 (by kernel_rfl) (by kernel_rfl)
noncomputable def k_octet_known:KC:=kS Tryz.prog [] [] (bodyOf Tryz.f159)
theorem s_octet_known:CS 6 k_octet_known [.tmp 2] F.octet_known:=cs Tryz.func159 (by kernel_rfl) (by kernel_rfl)
noncomputable def k_vint_Put:KC:=kS Tryz.prog [] [] (bodyOf Tryz.f160)
theorem s_vint_Put:CS 26 k_vint_Put [.tmp 2] F.vint_Put:=cs Tryz.func160 (by kernel_rfl) (by kernel_rfl)
noncomputable def k_lock_is:KC:=kS Tryz.prog [] [] (bodyOf Tryz.f164)
theorem s_lock_is:CS 14 k_lock_is [.tmp 4] F.lock_is:=cs Tryz.func164 (by kernel_rfl) (by kernel_rfl)
noncomputable def k_lock_chosen:KC:=kS Tryz.prog [(5,.b [0,1,2,3,4,5,6,7,8,9,10,11,12,13,14,16] (.l [15,17,18,19,20]) (.l [19,15,17,18,20]))] [] (bodyOf Tryz.f165)
theorem s_lock_chosen:CS 54 k_lock_chosen [.cellN 3 4,.tmp 5] F.lock_chosen:=cs Tryz.func165 (by kernel_rfl) (by kernel_rfl)
noncomputable def k_lock_waits:KC:=kS Tryz.prog [] [] (bodyOf Tryz.f166)
theorem s_lock_waits:CS 22 k_lock_waits [.tmp 4] F.lock_waits:=cs Tryz.func166 (by kernel_rfl) (by kernel_rfl)
noncomputable def k_lock_height:KC:=kS Tryz.prog [] [] (bodyOf Tryz.f167)
theorem s_lock_height:CS 9 k_lock_height [.tmp 2] F.lock_height:=cs Tryz.func167 (by kernel_rfl) (by kernel_rfl)
noncomputable def k_lock_Ripe_1:KC:=kS Tryz.prog [] [] (bodyOf Tryz.f168)
theorem s_lock_Ripe_1:CS 6 k_lock_Ripe_1 [.tmp 2] F.lock_Ripe_1:=cs Tryz.func168 (by kernel_rfl) (by kernel_rfl)
noncomputable def k_slices_IndexFunc_L_api_In_api_In:KC:=kS Tryz.prog [] [] (bodyOf Tryz.f169)
theorem s_slices_IndexFunc_L_api_In_api_In:CS 19 k_slices_IndexFunc_L_api_In_api_In [.tmp 4] F.slices_IndexFunc_L_api_In_api_In:=cs Tryz.func169 (by kernel_rfl) (by kernel_rfl)
noncomputable def k_slices_IndexFunc_L_api_Out_api_Out:KC:=kS Tryz.prog [] [] (bodyOf Tryz.f170)
theorem s_slices_IndexFunc_L_api_Out_api_Out:CS 19 k_slices_IndexFunc_L_api_Out_api_Out [.tmp 4] F.slices_IndexFunc_L_api_Out_api_Out:=cs Tryz.func170 (by kernel_rfl) (by kernel_rfl)
noncomputable def k_slices_IndexFunc_L_string_string:KC:=kS Tryz.prog [] [] (bodyOf Tryz.f171)
theorem s_slices_IndexFunc_L_string_string:CS 19 k_slices_IndexFunc_L_string_string [.tmp 4] F.slices_IndexFunc_L_string_string:=cs Tryz.func171 (by kernel_rfl) (by kernel_rfl)
noncomputable def k_slices_Contains_L_int_int:KC:=kS Tryz.prog [] [] (bodyOf Tryz.f172)
theorem s_slices_Contains_L_int_int:CS 9 k_slices_Contains_L_int_int [.tmp 4] F.slices_Contains_L_int_int:=cs Tryz.func172 (by kernel_rfl) (by kernel_rfl)
noncomputable def k_lock_Get:KC:=kS Tryz.prog [] [] (bodyOf Tryz.f174)
theorem s_lock_Get:CS 58 k_lock_Get [.tmp 2,.tmp 3] F.lock_Get:=cs Tryz.func174 (by kernel_rfl) (by kernel_rfl)
noncomputable def k_lock_Signed:KC:=kS Tryz.prog [(3,.b [0,1,5,6,7] (.l [2,3,4,8,9,10,11,12]) (.l [8,2,3,4,9,10,11,12]))] [] (bodyOf Tryz.f175)
theorem s_lock_Signed:CS 32 k_lock_Signed [.tmp 2,.tmp 3,.tmp 4] F.lock_Signed:=cs Tryz.func175 (by kernel_rfl) (by kernel_rfl)
noncomputable def k_slices_Index_L_int_int:KC:=kS Tryz.prog [] [] (bodyOf Tryz.f176)
theorem s_slices_Index_L_int_int:CS 19 k_slices_Index_L_int_int [.tmp 4] F.slices_Index_L_int_int:=cs Tryz.func176 (by kernel_rfl) (by kernel_rfl)
noncomputable def k_lock_number:KC:=kS Tryz.prog [] [] (bodyOf Tryz.f177)
theorem s_lock_number:CS 17 k_lock_number [.tmp 6] F.lock_number:=cs Tryz.func177 (by kernel_rfl) (by kernel_rfl)
noncomputable def k_lock_Put:KC:=kS Tryz.prog [(10,.j (.b [0,1,2,4,9] (.b [3,5,6] (.l [7,8,10,11]) (.l [10,11,7,8])) (.b [] (.b [5,6] (.b [3] (.l [7,8,10,11]) (.l [10,11,7,8])) (.l [10,11,3,7,8])) (.b [10,11] (.l [3,5,6,7,8]) (.l [5,6,3,7,8])))) (.l [12,13,14]))] [] (bodyOf Tryz.f178)
theorem s_lock_Put:CS 46 k_lock_Put [.tmp 2,.tmp 3] F.lock_Put:=cs Tryz.func178 (by kernel_rfl) (by kernel_rfl)
noncomputable def k_octet_Get:KC:=kS Tryz.prog [] [] (bodyOf Tryz.f179)
theorem s_octet_Get:CS 42 k_octet_Get [.tmp 6,.tmp 7] F.octet_Get:=cs Tryz.func179 (by kernel_rfl) (by kernel_rfl)
end Go.Proofs.YtbidkcjendncaaaGreat
end
