/- Contracts: errors.As at a variable of a number: faults that  -/
import Derived.Test.YtgloknkcfchnlaaGreatDoorZ35
set_option linter.unusedVariables false
set_option linter.unusedSimpArgs false
namespace Go.Proofs.YtgloknkcfchnlaaGreatDoor
section
open Go Go.RowKit Go.Extern.Stop Go.Stop Go.Extern
set_option maxHeartbeats 8000000 in
set_option maxRecDepth 20000 in
theorem aTx (n:Int) (b1 b2:Nat) (t:Addr) (old:Value) (w:World) (hg:w.cell? ⟨0,0,none⟩=some (.iface 143 (.agg #[.pointer (some ⟨2,35,none⟩)]))) (hc1:w.cell? ⟨b1,1,none⟩=some (.iface 87 (.pointer (some ⟨b2,0,none⟩)))) (hc2:w.cell? ⟨b2,1,none⟩=some (.iface 40 (.int .i64 n))) (ht0:w.cell? t=some old) (hf0:w.frozen? t=false):
  Calls Tryz.prog 43 #[.iface 87 (.pointer (some ⟨b1,0,none⟩)),.iface 105 (.pointer (some t))] w fun ev w'=>ev=.returned (.bool true)∧Go.K.Chg [t.block] w w'∧w'.cell? t=some (.int .i64 n):=by
 have h6:=@run_callFunc_extern Tryz.prog 63 _ (fun args=>ReflectliteValue.unpack (args.getD 0 (.tuple #[]))) Tryz.func63 (by kernel_rfl) (by kernel_rfl) (by kernel_rfl) (by kernel_rfl)
 have h7:=@run_callFunc_extern Tryz.prog 64 _ (ReflectliteValue.methodAny (ReflectliteValue.valueError "reflectlite.Value.Type" 0) (fun t _ _ _=>ReflectliteType.toType t)) Tryz.func64 (by kernel_rfl) (by kernel_rfl) (by kernel_rfl) (by kernel_rfl)
 have h8:=@run_callFunc_extern Tryz.prog 65 _ (ReflectliteValue.method (ReflectliteValue.valueError "reflectlite.Value.IsNil" 0) ReflectliteValue.isNil) Tryz.func65 (by kernel_rfl) (by kernel_rfl) (by kernel_rfl) (by kernel_rfl)
 have h27:=@run_callFunc_extern Tryz.prog 196 _ (ReflectliteType.abiMethod fun t=>do pure (.int .u8 (←Rtype.kind t))) Tryz.func196 (by kernel_rfl) (by kernel_rfl) (by kernel_rfl) (by kernel_rfl)
 have h37:=@run_callFunc_extern Tryz.prog 208 _ (ReflectliteType.method ReflectliteType.elem) Tryz.func208 (by kernel_rfl) (by kernel_rfl) (by kernel_rfl) (by kernel_rfl)
 have h38:=@run_callFunc_extern Tryz.prog 209 _ (ReflectliteType.relation "Implements" ReflectliteType.implements_) Tryz.func209 (by kernel_rfl) (by kernel_rfl) (by kernel_rfl) (by kernel_rfl)
 have h10:=@run_callFunc_extern Tryz.prog 45 _ ReflectliteType.typeOf Tryz.func45 (by kernel_rfl) (by kernel_rfl) (by kernel_rfl) (by kernel_rfl)
 have h35:=@run_callFunc_extern Tryz.prog 206 _ (ReflectliteType.relation "AssignableTo" ReflectliteType.assignableTo) Tryz.func206 (by kernel_rfl) (by kernel_rfl) (by kernel_rfl) (by kernel_rfl)
 have h11:=@run_callFunc_extern Tryz.prog 101 _ (ReflectliteValue.method (ReflectliteValue.valueError "reflectlite.Value.Elem" 0) ReflectliteValue.elem) Tryz.func101 (by kernel_rfl) (by kernel_rfl) (by kernel_rfl) (by kernel_rfl)
 have h12:=@run_callFunc_extern Tryz.prog 102 _ ReflectliteValue.set Tryz.func102 (by kernel_rfl) (by kernel_rfl) (by kernel_rfl) (by kernel_rfl)
 have tO:=uB
 have tF:=aAo
 have mA:=gV
 have aE:=aIu
 have aF:=aPi
 have nF:=aWt
 have uF:=aIm
 have mU:=aA3
 have vE:=aBq
 have f6:=wS
 have f7:=aDk
 have mK:=yB
 have mE:=aAi
 have mI:=gW
 have kP:=aFd
 have kE:=aI6
 have eP:=aEo
 have iE:=aIb
 have n8:=aBk ⟨w.heap.size,0,none⟩ t (jK w t) (by simp [jK])
 have hg2:(jK w t).cell? ⟨0,0,none⟩=_:=aS (aS hg)
 have el:=aBc ⟨w.heap.size,0,none⟩ t (rP w t) (aS (by simp [jK]))
 have hu4:(rP w t).cell? ⟨b2,1,none⟩=_:=aS (aS (aS hc2))
 have hu3:(rP w t).cell? ⟨b1,1,none⟩=_:=aS (aS (aS hc1))
 have st:=aN5 t ⟨w.heap.size+1+1+1,0,none⟩ n old ((rP w t).alloc (.cells #[.int .i64 n] 40))
  (by rw [World.cell?_alloc_at _ _ _ _ (by simp [rP,jK])];rfl) (aS (aS (aS (aS ht0)))) (hX (aS (aS (aS ht0))) (hX (aS (aS ht0)) (hX (aS ht0) (hX ht0 hf0))))
 unfold rP jK at el st hu3 hu4
 unfold jK at n8 hg2
 go_enter Tryz.func43,Tryz.ntmps43
 go_wp2
 refine wp_loop_rounds 3 ?_
 rw [rounds_succ]
 go_wp2
 rw [rounds_succ]
 go_wp2
 rw [rounds_succ]
 go_wp2
 go_ret
 refine ⟨rfl,((((Go.K.Ext.alloc _ _).trans (Go.K.Ext.alloc _ _)).trans (Go.K.Ext.alloc _ _)).trans (Go.K.Ext.alloc _ _)).chg (Go.K.Chg.setCell _ t _),World.cell?_setCell_same _ _ _ (u:=old) (aS (aS (aS (aS ht0))))⟩
end
end Go.Proofs.YtgloknkcfchnlaaGreatDoor
