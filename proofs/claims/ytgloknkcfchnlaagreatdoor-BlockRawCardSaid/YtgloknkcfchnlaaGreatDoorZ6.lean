/- The resolved code of functions, printed by program. -/
import Derived.Test.YtgloknkcfchnlaaGreatDoorZ4
set_option linter.unusedVariables false
set_option linter.unusedSimpArgs false
namespace Go.Proofs.YtgloknkcfchnlaaGreatDoor
section
open Go Go.K
noncomputable def oJ:KC:=
(.seq (.reg false <| oR 2 (.move (.const (.bool false)))<| .nil) (.seq (.reg false <| oM 3 0<| oR 4 (.call 94 [(t 3),(oi 2100000000000000)])<| oM 2 4<| .nil) .ret))
theorem aGd:@cG Tryz.prog q0 5 (aJ Tryz.f61)=oJ:=by kernel_rfl
theorem aF0 {args:List Value} {w:World} {R:Value→World→Prop} (ha:Nat.ble args.length 5=true) (h:aK Tryz.prog oJ (aV [.tmp 2] R) (fJ args) w):K.Spec Tryz.prog F.amount_Good args w R:=
 letI:=q0;eV mixed Tryz.func61 rfl rfl (by kernel_rfl) aGd (Nat.le_of_ble_eq_true ha) h
noncomputable def iQ:KC:=
(.seq (.reg false <| oR 2 (.move (.const (.bool false)))<| .nil) (.seq (.reg false <| oM 3 0<| oC 4 .geq 3 0<| oM 5 4<| oG 6 5 true (.move (t 0))<|
 oG 7 5 true (.bin .leq (t 6) (oi 2100000000000000))<| oR 8 (.pick (t 5) (t 7) (.const (.bool false)))<| oM 2 8<| .nil) .ret))
theorem zV:@cG Tryz.prog q0 9 (aJ Tryz.f75)=iQ:=by kernel_rfl
theorem xM {args:List Value} {w:World} {R:Value→World→Prop} (ha:Nat.ble args.length 9=true) (h:aK Tryz.prog iQ (aV [.tmp 2] R) (fJ args) w):K.Spec Tryz.prog F.kedgeref01_Good args w R:=
 letI:=q0;eV mixed Tryz.func75 rfl rfl (by kernel_rfl) zV (Nat.le_of_ble_eq_true ha) h
noncomputable def kJ:KC:=
(.seq (.reg false <| oR 4 (.move (.const (.bool false)))<| .nil) (.seq (.reg false <| oM 5 0<| oC 6 .geq 5 0<| oM 7 6<| oG 8 7 true (.move (t 0))<|
 oG 9 7 true (.move (t 1))<| oG 10 7 true (.bin .leq (t 8) (t 9))<| oR 11 (.pick (t 7) (t 10) (.const (.bool false)))<| oM 4 11<| .nil) .ret))
theorem aCz:@cG Tryz.prog q0 12 (aJ Tryz.f94)=kJ:=by kernel_rfl
theorem aC4 {args:List Value} {w:World} {R:Value→World→Prop} (ha:Nat.ble args.length 12=true) (h:aK Tryz.prog kJ (aV [.tmp 4] R) (fJ args) w):K.Spec Tryz.prog F.amount_within args w R:=
 letI:=q0;eV mixed Tryz.func94 rfl rfl (by kernel_rfl) aCz (Nat.le_of_ble_eq_true ha) h
noncomputable def sK:KC:=
(.seq (.reg false <| oR 4 (.move (.const (.bool false)))<| .nil) (.seq (.reg false <| oM 5 0<| oC 6 .geq 5 1<| oM 7 6<| oG 8 7 true (.move (t 0))<|
 oG 9 7 true (.move (t 1))<| oG 10 7 true (.bin .leq (t 8) (t 9))<| oR 11 (.pick (t 7) (t 10) (.const (.bool false)))<| oM 4 11<| .nil) .ret))
theorem aLm:@cG Tryz.prog q0 12 (aJ Tryz.f137)=sK:=by kernel_rfl
theorem aJx {args:List Value} {w:World} {R:Value→World→Prop} (ha:Nat.ble args.length 12=true) (h:aK Tryz.prog sK (aV [.tmp 4] R) (fJ args) w):K.Spec Tryz.prog F.tx_within args w R:=
 letI:=q0;eV mixed Tryz.func137 rfl rfl (by kernel_rfl) aLm (Nat.le_of_ble_eq_true ha) h
noncomputable def iC:KC:=
(.seq (.reg false <| oR 4 (.move (.const (.int .u32 0)))<| .nil) (.seq (.reg false <| oM 5 0<| oM 6 1<| oB 7 .shr 5 6<| oM 8 0<| oM 9 1<|
 oR 10 (.bin .sub (.const (.int .u64 32)) (t 9))<| oB 11 .shl 8 10<| oB 12 .or 7 11<| oM 4 12<| .nil) .ret))
theorem wN:@cG Tryz.prog q0 13 (aJ Tryz.f152)=iC:=by kernel_rfl
theorem wZ {args:List Value} {w:World} {R:Value→World→Prop} (ha:Nat.ble args.length 13=true) (h:aK Tryz.prog iC (aV [.tmp 4] R) (fJ args) w):K.Spec Tryz.prog F.kedgeref04_right args w R:=
 letI:=q0;eV mixed Tryz.func152 rfl rfl (by kernel_rfl) wN (Nat.le_of_ble_eq_true ha) h
noncomputable def rZ:KC:=
(.seq (.reg false <| oR 4 (.move (.const (.int .u32 0)))<| .nil) (.seq (.reg false <| oM 5 0<| oM 6 1<| oR 7 (.unNeg false (t 6))<| oR 8 (ob 179 5 7)<|
 oM 4 8<| .nil) .ret))
theorem aJ0:@cG Tryz.prog q0 9 (aJ Tryz.f175)=rZ:=by kernel_rfl
theorem aJ6 {args:List Value} {w:World} {R:Value→World→Prop} (ha:Nat.ble args.length 9=true) (h:aK Tryz.prog rZ (aV [.tmp 4] R) (fJ args) w):K.Spec Tryz.prog F.sha_right args w R:=
 letI:=q0;eV mixed Tryz.func175 rfl rfl (by kernel_rfl) aJ0 (Nat.le_of_ble_eq_true ha) h
noncomputable def eG:KC:=
(.seq (.reg false <| oR 4 (.move (.const (.int .u32 0)))<| .nil) (.seq (.reg false <| oM 6 1<| oV 7 .u64 6<| oR 8 (.bin .and (t 7) (.const (.int .u64 31)))<|
 oM 5 8<| .nil) (.seq (.reg false <| oM 9 0<| oM 10 5<| oB 11 .shl 9 10<| oM 12 0<| oM 13 5<| oR 14 (.bin .sub (.const (.int .u64 32)) (t 13))<| oB 15 .shr 12 14<|
 oB 16 .or 11 15<| oM 4 16<| .nil) .ret)))
theorem oE:@cG Tryz.prog q0 17 (aJ Tryz.f179)=eG:=by kernel_rfl
theorem nX {args:List Value} {w:World} {R:Value→World→Prop} (ha:Nat.ble args.length 17=true) (h:aK Tryz.prog eG (aV [.tmp 4] R) (fJ args) w):K.Spec Tryz.prog F.math_bits_RotateLeft32 args w R:=
 letI:=q0;eV mixed Tryz.func179 rfl rfl (by kernel_rfl) oE (Nat.le_of_ble_eq_true ha) h
end
end Go.Proofs.YtgloknkcfchnlaaGreatDoor
