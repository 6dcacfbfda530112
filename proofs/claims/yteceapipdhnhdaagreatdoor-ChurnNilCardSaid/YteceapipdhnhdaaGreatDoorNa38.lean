/- Contracts: errors.As at a variable of a number: faults that  -/
import Derived.Test.YteceapipdhnhdaaGreatDoorNa35
set_option linter.unusedVariables false
set_option linter.unusedSimpArgs false
namespace Go.Proofs.YteceapipdhnhdaaGreatDoor
section
open Go Go.RowKit Go.Extern.Stop Go.Stop Go.Extern
set_option maxHeartbeats 8000000 in
set_option maxRecDepth 20000 in
theorem bLa (n:Int) (b1 b2:Nat) (t:Addr) (old:Value) (w:World) (hg:w.cell? ⟨0,0,none⟩=some (.iface 176 (.agg #[.pointer (some ⟨4,53,none⟩)]))) (hc1:w.cell? ⟨b1,1,none⟩=some (.iface 202 (.pointer (some ⟨b2,0,none⟩)))) (hc2:w.cell? ⟨b2,1,none⟩=some (.iface 41 (.int .i64 n))) (ht0:w.cell? t=some old) (hf0:w.frozen? t=false):
  Calls Tryz.prog 102 #[.iface 202 (.pointer (some ⟨b1,0,none⟩)),.iface 201 (.pointer (some t))] w fun ev w'=>ev=.returned (.bool true)∧Go.K.Chg [t.block] w w'∧w'.cell? t=some (.int .i64 n):=by
 have h6:=@run_callFunc_extern Tryz.prog 157 _ (fun args=>ReflectliteValue.unpack (args.getD 0 (.tuple #[]))) Tryz.func157 (by kernel_rfl) (by kernel_rfl) (by kernel_rfl) (by kernel_rfl)
 have h7:=@run_callFunc_extern Tryz.prog 158 _ (ReflectliteValue.methodAny (ReflectliteValue.valueError "reflectlite.Value.Type" 0) (fun t _ _ _=>ReflectliteType.toType t)) Tryz.func158 (by kernel_rfl) (by kernel_rfl) (by kernel_rfl) (by kernel_rfl)
 have h8:=@run_callFunc_extern Tryz.prog 159 _ (ReflectliteValue.method (ReflectliteValue.valueError "reflectlite.Value.IsNil" 0) ReflectliteValue.isNil) Tryz.func159 (by kernel_rfl) (by kernel_rfl) (by kernel_rfl) (by kernel_rfl)
 have h27:=@run_callFunc_extern Tryz.prog 343 _ (ReflectliteType.abiMethod fun t=>do pure (.int .u8 (←Rtype.kind t))) Tryz.func343 (by kernel_rfl) (by kernel_rfl) (by kernel_rfl) (by kernel_rfl)
 have h37:=@run_callFunc_extern Tryz.prog 352 _ (ReflectliteType.method ReflectliteType.elem) Tryz.func352 (by kernel_rfl) (by kernel_rfl) (by kernel_rfl) (by kernel_rfl)
 have h38:=@run_callFunc_extern Tryz.prog 353 _ (ReflectliteType.relation "Implements" ReflectliteType.implements_) Tryz.func353 (by kernel_rfl) (by kernel_rfl) (by kernel_rfl) (by kernel_rfl)
 have h10:=@run_callFunc_extern Tryz.prog 44 _ ReflectliteType.typeOf Tryz.func44 (by kernel_rfl) (by kernel_rfl) (by kernel_rfl) (by kernel_rfl)
 have h35:=@run_callFunc_extern Tryz.prog 350 _ (ReflectliteType.relation "AssignableTo" ReflectliteType.assignableTo) Tryz.func350 (by kernel_rfl) (by kernel_rfl) (by kernel_rfl) (by kernel_rfl)
 have h11:=@run_callFunc_extern Tryz.prog 234 _ (ReflectliteValue.method (ReflectliteValue.valueError "reflectlite.Value.Elem" 0) ReflectliteValue.elem) Tryz.func234 (by kernel_rfl) (by kernel_rfl) (by kernel_rfl) (by kernel_rfl)
 have h12:=@run_callFunc_extern Tryz.prog 235 _ ReflectliteValue.set Tryz.func235 (by kernel_rfl) (by kernel_rfl) (by kernel_rfl) (by kernel_rfl)
 have tO:=aJt
 have tF:=aSv
 have mA:=wJ
 have aE:=aV2
 have aF:=bE8
 have nF:=bOy
 have uF:=bEl
 have mU:=aTf
 have vE:=aKc
 have f6:=aGe
 have f7:=aO0
 have mK:=aVj
 have mE:=aU2
 have mI:=wX
 have kP:=aOp
 have kE:=aUu
 have eP:=aP1
 have iE:=aVm
 have n8:=aJ7 ⟨w.heap.size,0,none⟩ t (pN w t) (by simp [pN])
 have hg2:(pN w t).cell? ⟨0,0,none⟩=_:=bJ (bJ hg)
 have el:=aKp ⟨w.heap.size,0,none⟩ t (aBn w t) (bJ (by simp [pN]))
 have hu4:(aBn w t).cell? ⟨b2,1,none⟩=_:=bJ (bJ (bJ hc2))
 have hu3:(aBn w t).cell? ⟨b1,1,none⟩=_:=bJ (bJ (bJ hc1))
 have st:=bBz t ⟨w.heap.size+1+1+1,0,none⟩ n old ((aBn w t).alloc (.cells #[.int .i64 n] 41))
  (by rw [World.cell?_alloc_at _ _ _ _ (by simp [aBn,pN])];rfl) (bJ (bJ (bJ (bJ ht0)))) (vA (bJ (bJ (bJ ht0))) (vA (bJ (bJ ht0)) (vA (bJ ht0) (vA ht0 hf0))))
 unfold aBn pN at el st hu3 hu4
 unfold pN at n8 hg2
 go_enter Tryz.func102,Tryz.ntmps102
 go_wp2
 refine wp_loop_rounds 3 ?_
 rw [rounds_succ]
 go_wp2
 rw [rounds_succ]
 go_wp2
 rw [rounds_succ]
 go_wp2
 go_ret
 refine ⟨rfl,((((Go.K.Ext.alloc _ _).trans (Go.K.Ext.alloc _ _)).trans (Go.K.Ext.alloc _ _)).trans (Go.K.Ext.alloc _ _)).chg (Go.K.Chg.setCell _ t _),World.cell?_setCell_same _ _ _ (u:=old) (bJ (bJ (bJ (bJ ht0))))⟩
end
end Go.Proofs.YteceapipdhnhdaaGreatDoor
