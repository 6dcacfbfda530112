/- Contracts: what the document fixes of replacing. The walk of -/
import Derived.Test.YtgloknkcfchnlabGreatDoorZ34
import Derived.Test.YtgloknkcfchnlabGreatDoorZ35
set_option linter.unusedVariables false
set_option linter.unusedSimpArgs false
namespace Go.Proofs.YtgloknkcfchnlabGreatDoor
section
open Go Go.K
attribute [local irreducible] aG aK aU KOp.wp K.Spec u32 leS vnS str aN cV bH idT aV aJ aO aZi idL
attribute [local irreducible] eA
end
section
open Go Go.K
attribute [local irreducible] aG aK aU KOp.wp K.Spec u32 leS vnS str aN cV bH idT aV aJ aO
end
section
open Go Go.RowKit Go.Extern.Stop Go.Stop Go.Extern
set_option maxHeartbeats 8000000 in
set_option maxRecDepth 20000 in
theorem aUw (n:Int) (b1 b2:Nat) (t:Addr) (old:Value) (w:World) (hg:w.cell? ⟨0,0,none⟩=some (.iface 138 (.agg #[.pointer (some ⟨2,31,none⟩)]))) (hc1:w.cell? ⟨b1,1,none⟩=some (.iface 89 (.pointer (some ⟨b2,0,none⟩)))) (hc2:w.cell? ⟨b2,1,none⟩=some (.iface 45 (.int .i64 n))) (ht0:w.cell? t=some old) (hf0:w.frozen? t=false):
  Calls Tryz.prog 40 #[.iface 89 (.pointer (some ⟨b1,0,none⟩)),.iface 106 (.pointer (some t))] w fun ev w'=>ev=.returned (.bool true)∧Go.K.Chg [t.block] w w'∧w'.cell? t=some (.int .i64 n):=by
 have h6:=@run_callFunc_extern Tryz.prog 61 _ (fun args=>ReflectliteValue.unpack (args.getD 0 (.tuple #[]))) Tryz.func61 (by kernel_rfl) (by kernel_rfl) (by kernel_rfl) (by kernel_rfl)
 have h7:=@run_callFunc_extern Tryz.prog 62 _ (ReflectliteValue.methodAny (ReflectliteValue.valueError "reflectlite.Value.Type" 0) (fun t _ _ _=>ReflectliteType.toType t)) Tryz.func62 (by kernel_rfl) (by kernel_rfl) (by kernel_rfl) (by kernel_rfl)
 have h8:=@run_callFunc_extern Tryz.prog 63 _ (ReflectliteValue.method (ReflectliteValue.valueError "reflectlite.Value.IsNil" 0) ReflectliteValue.isNil) Tryz.func63 (by kernel_rfl) (by kernel_rfl) (by kernel_rfl) (by kernel_rfl)
 have h27:=@run_callFunc_extern Tryz.prog 207 _ (ReflectliteType.abiMethod fun t=>do pure (.int .u8 (←Rtype.kind t))) Tryz.func207 (by kernel_rfl) (by kernel_rfl) (by kernel_rfl) (by kernel_rfl)
 have h37:=@run_callFunc_extern Tryz.prog 216 _ (ReflectliteType.method ReflectliteType.elem) Tryz.func216 (by kernel_rfl) (by kernel_rfl) (by kernel_rfl) (by kernel_rfl)
 have h38:=@run_callFunc_extern Tryz.prog 217 _ (ReflectliteType.relation "Implements" ReflectliteType.implements_) Tryz.func217 (by kernel_rfl) (by kernel_rfl) (by kernel_rfl) (by kernel_rfl)
 have h10:=@run_callFunc_extern Tryz.prog 38 _ ReflectliteType.typeOf Tryz.func38 (by kernel_rfl) (by kernel_rfl) (by kernel_rfl) (by kernel_rfl)
 have h35:=@run_callFunc_extern Tryz.prog 214 _ (ReflectliteType.relation "AssignableTo" ReflectliteType.assignableTo) Tryz.func214 (by kernel_rfl) (by kernel_rfl) (by kernel_rfl) (by kernel_rfl)
 have h11:=@run_callFunc_extern Tryz.prog 91 _ (ReflectliteValue.method (ReflectliteValue.valueError "reflectlite.Value.Elem" 0) ReflectliteValue.elem) Tryz.func91 (by kernel_rfl) (by kernel_rfl) (by kernel_rfl) (by kernel_rfl)
 have h12:=@run_callFunc_extern Tryz.prog 92 _ ReflectliteValue.set Tryz.func92 (by kernel_rfl) (by kernel_rfl) (by kernel_rfl) (by kernel_rfl)
 have tO:=uQ
 have tF:=aA6
 have mA:=hY
 have aE:=aJn
 have aF:=aQf
 have nF:=aX0
 have uF:=aDy
 have mU:=uT
 have vE:=aB9
 have f6:=xA
 have f7:=aD7
 have mK:=yS
 have mE:=aAy
 have mI:=hZ
 have kP:=aF0
 have kE:=aJz
 have eP:=aFb
 have iE:=aI4
 have n8:=aB3 ⟨w.heap.size,0,none⟩ t (jR w t) (by simp [jR])
 have hg2:(jR w t).cell? ⟨0,0,none⟩=_:=aR (aR hg)
 have el:=aBt ⟨w.heap.size,0,none⟩ t (rU w t) (aR (by simp [jR]))
 have hu4:(rU w t).cell? ⟨b2,1,none⟩=_:=aR (aR (aR hc2))
 have hu3:(rU w t).cell? ⟨b1,1,none⟩=_:=aR (aR (aR hc1))
 have st:=aO1 t ⟨w.heap.size+1+1+1,0,none⟩ n old ((rU w t).alloc (.cells #[.int .i64 n] 45))
  (by rw [World.cell?_alloc_at _ _ _ _ (by simp [rU,jR])];rfl) (aR (aR (aR (aR ht0)))) (iF (aR (aR (aR ht0))) (iF (aR (aR ht0)) (iF (aR ht0) (iF ht0 hf0))))
 unfold rU jR at el st hu3 hu4
 unfold jR at n8 hg2
 go_enter Tryz.func40,Tryz.ntmps40
 go_wp2
 refine wp_loop_rounds 3 ?_
 rw [rounds_succ]
 go_wp2
 rw [rounds_succ]
 go_wp2
 rw [rounds_succ]
 go_wp2
 go_ret
 refine ⟨rfl,((((Go.K.Ext.alloc _ _).trans (Go.K.Ext.alloc _ _)).trans (Go.K.Ext.alloc _ _)).trans (Go.K.Ext.alloc _ _)).chg (Go.K.Chg.setCell _ t _),World.cell?_setCell_same _ _ _ (u:=old) (aR (aR (aR (aR ht0))))⟩
end
end Go.Proofs.YtgloknkcfchnlabGreatDoor
