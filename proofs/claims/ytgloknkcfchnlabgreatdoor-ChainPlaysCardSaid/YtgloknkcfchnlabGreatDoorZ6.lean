/- The resolved code of functions, printed by program. -/
import Derived.Test.YtgloknkcfchnlabGreatDoorZ4
set_option linter.unusedVariables false
set_option linter.unusedSimpArgs false
namespace Go.Proofs.YtgloknkcfchnlabGreatDoor
section
open Go Go.K
noncomputable def iY:KC:=
(.seq (.reg false <| oR 2 (.move (.const (.bool false)))<| .nil) (.seq (.reg false <| oM 3 0<| oC 4 .geq 3 0<| oM 5 4<| oG 6 5 true (.move (t 0))<|
 oG 7 5 true (.bin .leq (t 6) (oi 2100000000000000))<| oR 8 (.pick (t 5) (t 7) (.const (.bool false)))<| oM 2 8<| .nil) .ret))
theorem aAl:@cK Tryz.prog q0 9 (aI Tryz.f78)=iY:=by kernel_rfl
theorem yC {args:List Value} {w:World} {R:Value→World→Prop} (ha:Nat.ble args.length 9=true) (h:aK Tryz.prog iY (aU [.tmp 2] R) (fS args) w):K.Spec Tryz.prog F.kedgeref01_Good args w R:=
 letI:=q0;fF mixed Tryz.func78 rfl rfl (by kernel_rfl) aAl (Nat.le_of_ble_eq_true ha) h
noncomputable def oQ:KC:=
(.seq (.reg false <| oR 2 (.move (.const (.bool false)))<| .nil) (.seq (.reg false <| oM 3 0<| oR 4 (.call 157 [(t 3),(oi 2100000000000000)])<| oM 2 4<| .nil) .ret))
theorem aG4:@cK Tryz.prog q0 5 (aI Tryz.f126)=oQ:=by kernel_rfl
theorem aGq {args:List Value} {w:World} {R:Value→World→Prop} (ha:Nat.ble args.length 5=true) (h:aK Tryz.prog oQ (aU [.tmp 2] R) (fS args) w):K.Spec Tryz.prog F.amount_Good args w R:=
 letI:=q0;fF mixed Tryz.func126 rfl rfl (by kernel_rfl) aG4 (Nat.le_of_ble_eq_true ha) h
noncomputable def sQ:KC:=
(.seq (.reg false <| oR 4 (.move (.const (.bool false)))<| .nil) (.seq (.reg false <| oM 5 0<| oC 6 .geq 5 1<| oM 7 6<| oG 8 7 true (.move (t 0))<|
 oG 9 7 true (.move (t 1))<| oG 10 7 true (.bin .leq (t 8) (t 9))<| oR 11 (.pick (t 7) (t 10) (.const (.bool false)))<| oM 4 11<| .nil) .ret))
theorem aMl:@cK Tryz.prog q0 12 (aI Tryz.f149)=sQ:=by kernel_rfl
theorem aKp {args:List Value} {w:World} {R:Value→World→Prop} (ha:Nat.ble args.length 12=true) (h:aK Tryz.prog sQ (aU [.tmp 4] R) (fS args) w):K.Spec Tryz.prog F.tx_within args w R:=
 letI:=q0;fF mixed Tryz.func149 rfl rfl (by kernel_rfl) aMl (Nat.le_of_ble_eq_true ha) h
noncomputable def kR:KC:=
(.seq (.reg false <| oR 4 (.move (.const (.bool false)))<| .nil) (.seq (.reg false <| oM 5 0<| oC 6 .geq 5 0<| oM 7 6<| oG 8 7 true (.move (t 0))<|
 oG 9 7 true (.move (t 1))<| oG 10 7 true (.bin .leq (t 8) (t 9))<| oR 11 (.pick (t 7) (t 10) (.const (.bool false)))<| oM 4 11<| .nil) .ret))
theorem aDl:@cK Tryz.prog q0 12 (aI Tryz.f157)=kR:=by kernel_rfl
theorem aDq {args:List Value} {w:World} {R:Value→World→Prop} (ha:Nat.ble args.length 12=true) (h:aK Tryz.prog kR (aU [.tmp 4] R) (fS args) w):K.Spec Tryz.prog F.amount_within args w R:=
 letI:=q0;fF mixed Tryz.func157 rfl rfl (by kernel_rfl) aDl (Nat.le_of_ble_eq_true ha) h
noncomputable def iI:KC:=
(.seq (.reg false <| oR 4 (.move (.const (.int .u32 0)))<| .nil) (.seq (.reg false <| oM 5 0<| oM 6 1<| oB 7 .shr 5 6<| oM 8 0<| oM 9 1<|
 oR 10 (.bin .sub (.const (.int .u64 32)) (t 9))<| oB 11 .shl 8 10<| oB 12 .or 7 11<| oM 4 12<| .nil) .ret))
theorem wS:@cK Tryz.prog q0 13 (aI Tryz.f173)=iI:=by kernel_rfl
theorem xN {args:List Value} {w:World} {R:Value→World→Prop} (ha:Nat.ble args.length 13=true) (h:aK Tryz.prog iI (aU [.tmp 4] R) (fS args) w):K.Spec Tryz.prog F.kedgeref04_right args w R:=
 letI:=q0;fF mixed Tryz.func173 rfl rfl (by kernel_rfl) wS (Nat.le_of_ble_eq_true ha) h
noncomputable def sF:KC:=
(.seq (.reg false <| oR 4 (.move (.const (.int .u32 0)))<| .nil) (.seq (.reg false <| oM 5 0<| oM 6 1<| oR 7 (.unNeg false (t 6))<| oR 8 (ob 188 5 7)<|
 oM 4 8<| .nil) .ret))
theorem aKr:@cK Tryz.prog q0 9 (aI Tryz.f184)=sF:=by kernel_rfl
theorem aKx {args:List Value} {w:World} {R:Value→World→Prop} (ha:Nat.ble args.length 9=true) (h:aK Tryz.prog sF (aU [.tmp 4] R) (fS args) w):K.Spec Tryz.prog F.sha_right args w R:=
 letI:=q0;fF mixed Tryz.func184 rfl rfl (by kernel_rfl) aKr (Nat.le_of_ble_eq_true ha) h
noncomputable def eQ:KC:=
(.seq (.reg false <| oR 4 (.move (.const (.int .u32 0)))<| .nil) (.seq (.reg false <| oM 6 1<| oV 7 .u64 6<| oR 8 (.bin .and (t 7) (.const (.int .u64 31)))<|
 oM 5 8<| .nil) (.seq (.reg false <| oM 9 0<| oM 10 5<| oB 11 .shl 9 10<| oM 12 0<| oM 13 5<| oR 14 (.bin .sub (.const (.int .u64 32)) (t 13))<| oB 15 .shr 12 14<|
 oB 16 .or 11 15<| oM 4 16<| .nil) .ret)))
theorem oL:@cK Tryz.prog q0 17 (aI Tryz.f188)=eQ:=by kernel_rfl
theorem oH {args:List Value} {w:World} {R:Value→World→Prop} (ha:Nat.ble args.length 17=true) (h:aK Tryz.prog eQ (aU [.tmp 4] R) (fS args) w):K.Spec Tryz.prog F.math_bits_RotateLeft32 args w R:=
 letI:=q0;fF mixed Tryz.func188 rfl rfl (by kernel_rfl) oL (Nat.le_of_ble_eq_true ha) h
end
end Go.Proofs.YtgloknkcfchnlabGreatDoor
