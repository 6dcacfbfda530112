/- The resolved code of functions, printed by program. -/
import Derived.Test.YteceapipdhnhdaaGreatDoorNa4
set_option linter.unusedVariables false
set_option linter.unusedSimpArgs false
namespace Go.Proofs.YteceapipdhnhdaaGreatDoor
section
open Go Go.K
noncomputable def wL:KC:=
(.seq (.reg false <| oR 2 (.move (.const (.bool false)))<| .nil) (.seq (.reg false <| oM 3 0<| oR 4 (.call 133 [(t 3),(oi 2100000000000000)])<| oM 2 4<| .nil) .ret))
theorem aRf:@dJ Tryz.prog q0 5 (aD Tryz.f83)=wL:=by kernel_rfl
theorem aRl {args:List Value} {w:World} {R:Value→World→Prop} (ha:Nat.ble args.length 5=true) (h:aM Tryz.prog wL (aY [.tmp 2] R) (jB args) w):K.Spec Tryz.prog F.amount_Good args w R:=
 letI:=q0;iQ mixed Tryz.func83 rfl rfl (by kernel_rfl) aRf (Nat.le_of_ble_eq_true ha) h
noncomputable def rJ:KC:=
(.seq (.reg false <| oR 4 (.move (.const (.bool false)))<| .nil) (.seq (.reg false <| oM 5 0<| oC 6 .geq 5 0<| oM 7 6<| oG 8 7 true (.move (t 0))<|
 oG 9 7 true (.move (t 1))<| oG 10 7 true (.bin .leq (t 8) (t 9))<| oR 11 (.pick (t 7) (t 10) (.const (.bool false)))<| oM 4 11<| .nil) .ret))
theorem aMv:@dJ Tryz.prog q0 12 (aD Tryz.f133)=rJ:=by kernel_rfl
theorem aM7 {args:List Value} {w:World} {R:Value→World→Prop} (ha:Nat.ble args.length 12=true) (h:aM Tryz.prog rJ (aY [.tmp 4] R) (jB args) w):K.Spec Tryz.prog F.amount_within args w R:=
 letI:=q0;iQ mixed Tryz.func133 rfl rfl (by kernel_rfl) aMv (Nat.le_of_ble_eq_true ha) h
noncomputable def nL:KC:=
(.seq (.reg false <| oR 2 (.move (.const (.bool false)))<| .nil) (.seq (.reg false <| oM 3 0<| oC 4 .geq 3 0<| oM 5 4<| oG 6 5 true (.move (t 0))<|
 oG 7 5 true (.bin .leq (t 6) (oi 2100000000000000))<| oR 8 (.pick (t 5) (t 7) (.const (.bool false)))<| oM 2 8<| .nil) .ret))
theorem aIz:@dJ Tryz.prog q0 9 (aD Tryz.f222)=nL:=by kernel_rfl
theorem aH2 {args:List Value} {w:World} {R:Value→World→Prop} (ha:Nat.ble args.length 9=true) (h:aM Tryz.prog nL (aY [.tmp 2] R) (jB args) w):K.Spec Tryz.prog F.kedgeref01_Good args w R:=
 letI:=q0;iQ mixed Tryz.func222 rfl rfl (by kernel_rfl) aIz (Nat.le_of_ble_eq_true ha) h
noncomputable def aC0:KC:=
(.seq (.reg false <| oR 4 (.move (.const (.bool false)))<| .nil) (.seq (.reg false <| oM 5 0<| oC 6 .geq 5 1<| oM 7 6<| oG 8 7 true (.move (t 0))<|
 oG 9 7 true (.move (t 1))<| oG 10 7 true (.bin .leq (t 8) (t 9))<| oR 11 (.pick (t 7) (t 10) (.const (.bool false)))<| oM 4 11<| .nil) .ret))
theorem aZx:@dJ Tryz.prog q0 12 (aD Tryz.f245)=aC0:=by kernel_rfl
theorem aWm {args:List Value} {w:World} {R:Value→World→Prop} (ha:Nat.ble args.length 12=true) (h:aM Tryz.prog aC0 (aY [.tmp 4] R) (jB args) w):K.Spec Tryz.prog F.tx_within args w R:=
 letI:=q0;iQ mixed Tryz.func245 rfl rfl (by kernel_rfl) aZx (Nat.le_of_ble_eq_true ha) h
noncomputable def aBz:KC:=
(.seq (.reg false <| oR 4 (.move (.const (.int .u32 0)))<| .nil) (.seq (.reg false <| oM 5 0<| oM 6 1<| oR 7 (.unNeg false (t 6))<| oR 8 (ob 284 5 7)<|
 oM 4 8<| .nil) .ret))
theorem aYy:@dJ Tryz.prog q0 9 (aD Tryz.f254)=aBz:=by kernel_rfl
theorem aY5 {args:List Value} {w:World} {R:Value→World→Prop} (ha:Nat.ble args.length 9=true) (h:aM Tryz.prog aBz (aY [.tmp 4] R) (jB args) w):K.Spec Tryz.prog F.sha_right args w R:=
 letI:=q0;iQ mixed Tryz.func254 rfl rfl (by kernel_rfl) aYy (Nat.le_of_ble_eq_true ha) h
noncomputable def gS:KC:=
(.seq (.reg false <| oR 4 (.move (.const (.int .u32 0)))<| .nil) (.seq (.reg false <| oM 6 1<| oV 7 .u64 6<| oR 8 (.bin .and (t 7) (.const (.int .u64 31)))<|
 oM 5 8<| .nil) (.seq (.reg false <| oM 9 0<| oM 10 5<| oB 11 .shl 9 10<| oM 12 0<| oM 13 5<| oR 14 (.bin .sub (.const (.int .u64 32)) (t 13))<| oB 15 .shr 12 14<|
 oB 16 .or 11 15<| oM 4 16<| .nil) .ret)))
theorem wW:@dJ Tryz.prog q0 17 (aD Tryz.f284)=gS:=by kernel_rfl
theorem wR {args:List Value} {w:World} {R:Value→World→Prop} (ha:Nat.ble args.length 17=true) (h:aM Tryz.prog gS (aY [.tmp 4] R) (jB args) w):K.Spec Tryz.prog F.math_bits_RotateLeft32 args w R:=
 letI:=q0;iQ mixed Tryz.func284 rfl rfl (by kernel_rfl) wW (Nat.le_of_ble_eq_true ha) h
noncomputable def lO:KC:=
(.seq (.reg false <| oR 4 (.move (.const (.int .u32 0)))<| .nil) (.seq (.reg false <| oM 5 0<| oM 6 1<| oB 7 .shr 5 6<| oM 8 0<| oM 9 1<|
 oR 10 (.bin .sub (.const (.int .u64 32)) (t 9))<| oB 11 .shl 8 10<| oB 12 .or 7 11<| oM 4 12<| .nil) .ret))
theorem aFq:@dJ Tryz.prog q0 13 (aD Tryz.f300)=lO:=by kernel_rfl
theorem aGj {args:List Value} {w:World} {R:Value→World→Prop} (ha:Nat.ble args.length 13=true) (h:aM Tryz.prog lO (aY [.tmp 4] R) (jB args) w):K.Spec Tryz.prog F.kedgeref04_right args w R:=
 letI:=q0;iQ mixed Tryz.func300 rfl rfl (by kernel_rfl) aFq (Nat.le_of_ble_eq_true ha) h
end
end Go.Proofs.YteceapipdhnhdaaGreatDoor
