/- Contracts: errors.As at a variable of a fault. -/
import Derived.Test.YtgloknkcfchnlabGreatDoorZ35
set_option linter.unusedVariables false
set_option linter.unusedSimpArgs false
namespace Go.Proofs.YtgloknkcfchnlabGreatDoor
section
open Go Go.RowKit Go.Extern.Stop Go.Stop Go.Extern
theorem aC4 (t:Addr) (w:World):(ReflectliteValue.unpack (.iface 117 (.pointer (some t)))).run Tryz.prog w=.ok (.agg #[.pointer (some ⟨2,117,none⟩),.pointer (some ⟨w.heap.size,0,none⟩),.int .u64 150]) (w.alloc (.cells #[.pointer (some t)] 117)):=by kernel_rfl
theorem aHm (a:Addr) (w:World):(ReflectliteValue.methodAny (ReflectliteValue.valueError "reflectlite.Value.Type" 0) (fun t _ _ _=>ReflectliteType.toType t) #[.agg #[.pointer (some ⟨2,117,none⟩),.pointer (some a),.int .u64 150]]).run Tryz.prog w=.ok (.iface 138 (.agg #[.pointer (some ⟨2,117,none⟩)])) w:=by kernel_rfl
theorem aIn (w:World):((ReflectliteType.abiMethod fun t=>Functor.map (fun a:Nat=>Value.int IntKind.u8 (a:Int)) (Rtype.kind t)) #[.pointer (some ⟨2,117,none⟩)]).run Tryz.prog w=.ok (.int .u8 22) w:=by kernel_rfl
theorem aMa (w:World):((ReflectliteType.abiMethod fun t=>Functor.map (fun a:Nat=>Value.int IntKind.u8 (a:Int)) (Rtype.kind t)) #[.pointer (some ⟨2,89,none⟩)]).run Tryz.prog w=.ok (.int .u8 22) w:=by kernel_rfl
theorem aIj (w:World):(ReflectliteType.method ReflectliteType.elem #[.agg #[.pointer (some ⟨2,117,none⟩)]]).run Tryz.prog w=.ok (.iface 138 (.agg #[.pointer (some ⟨2,89,none⟩)])) w:=by kernel_rfl
theorem aQm (w:World):(ReflectliteType.relation "Implements" ReflectliteType.implements_ #[.agg #[.pointer (some ⟨2,89,none⟩)],.iface 138 (.agg #[.pointer (some ⟨2,31,none⟩)])]).run Tryz.prog w=.ok (.bool true) w:=by kernel_rfl
theorem aV3 (w:World):(ReflectliteType.relation "AssignableTo" ReflectliteType.assignableTo #[.agg #[.pointer (some ⟨2,89,none⟩)],.iface 138 (.agg #[.pointer (some ⟨2,89,none⟩)])]).run Tryz.prog w=.ok (.bool true) w:=by kernel_rfl
theorem aW1 (w:World):(ReflectliteType.relation "AssignableTo" ReflectliteType.assignableTo #[.agg #[.pointer (some ⟨2,45,none⟩)],.iface 138 (.agg #[.pointer (some ⟨2,89,none⟩)])]).run Tryz.prog w=.ok (.bool false) w:=by kernel_rfl
theorem aSd (e:Addr) (w:World):(ReflectliteValue.unpack (.iface 89 (.pointer (some e)))).run Tryz.prog w=.ok (.agg #[.pointer (some ⟨2,89,none⟩),.pointer (some ⟨w.heap.size,0,none⟩),.int .u64 150]) (w.alloc (.cells #[.pointer (some e)] 89)):=by kernel_rfl
theorem aFi (a:Addr) (w:World):(ReflectliteValue.parts (.agg #[.pointer (some ⟨2,117,none⟩),.pointer (some a),.int .u64 150])).run Tryz.prog w=.ok (some (117,a,150)) w:=by kernel_rfl
theorem aD8 (a p:Addr) (W:World) (ha:W.cell? a=some (.pointer (some p))):
  (ReflectliteValue.method (ReflectliteValue.valueError "reflectlite.Value.IsNil" 0) ReflectliteValue.isNil #[.agg #[.pointer (some ⟨2,117,none⟩),.pointer (some a),.int .u64 150]]).run Tryz.prog W=.ok (.bool false) W:=by
 rw [aXo]
 simp only [Sem.run_bind,aFi,Result.andThen]
 simp [ReflectliteValue.isNil,loadVar,isAgg,underlying,Tryz.underlying117,ha,Result.andThen]
theorem aL5 (w:World):(Rtype.elem? 117).run Tryz.prog w=.ok (some 89) w:=by kernel_rfl
theorem aZ5 (p:Addr) (w:World):(ReflectliteValue.mk 89 p ReflectliteValue.flagAddr).run Tryz.prog w=.ok (.agg #[.pointer (some ⟨2,89,none⟩),.pointer (some p),.int .u64 406]) w:=by kernel_rfl
theorem aOb (a p:Addr) (W:World) (ha:W.cell? a=some (.pointer (some p))):
  (ReflectliteValue.method (ReflectliteValue.valueError "reflectlite.Value.Elem" 0) ReflectliteValue.elem #[.agg #[.pointer (some ⟨2,117,none⟩),.pointer (some a),.int .u64 150]]).run Tryz.prog W
   =.ok (.agg #[.pointer (some ⟨2,89,none⟩),.pointer (some p),.int .u64 406]) W:=by
 rw [aXo]
 simp only [Sem.run_bind,aFi,Result.andThen]
 simp [ReflectliteValue.elem,loadVar,isAgg,underlying,Tryz.underlying117,ha,Result.andThen,aL5,aZ5]
theorem aR2 (a:Addr) (w:World):(ReflectliteValue.parts (.agg #[.pointer (some ⟨2,89,none⟩),.pointer (some a),.int .u64 406])).run Tryz.prog w=.ok (some (89,a,406)) w:=by kernel_rfl
theorem aVl (a:Addr) (w:World):(ReflectliteValue.parts (.agg #[.pointer (some ⟨2,89,none⟩),.pointer (some a),.int .u64 150])).run Tryz.prog w=.ok (some (89,a,150)) w:=by kernel_rfl
theorem aRf (w:World):(Rtype.directlyAssignable 89 89).run Tryz.prog w=.ok true w:=by kernel_rfl
theorem aYx (ta b e:Addr) (old:Value) (W:World) (hb:W.cell? b=some (.pointer (some e))) (ht:W.cell? ta=some old) (hf:W.frozen? ta=false):
  (ReflectliteValue.set #[.agg #[.pointer (some ⟨2,89,none⟩),.pointer (some ta),.int .u64 406],.agg #[.pointer (some ⟨2,89,none⟩),.pointer (some b),.int .u64 150]]).run Tryz.prog W
   =.ok (.tuple #[]) (W.setCell ta (.pointer (some e))):=by
 rw [aZ7]
 simp only [Sem.run_bind,aR2,aVl,Result.andThen]
 simp [ReflectliteValue.flagAddr,loadVar,isAgg,underlying,Tryz.underlying89,hb,Result.andThen,aRf,storeVar,Value.cells,storeCells,Addr.add]
 rw [run_store Tryz.prog W ta _ _ (by rfl)]
 simp [ht,hf]
theorem bAf (v:Value) (xT:TypeId) (w:World):(Instr.typeAssert (.iface 45 v) xT 193 true).run Tryz.prog w=.ok (.tuple #[.nilIface,.bool false]) w:=run_typeAssert_lacksB Tryz.underlying193 (by kernel_rfl) (by kernel_rfl) v xT w
def aDr (w:World) (t:Addr):World:=(w.alloc (.cells #[.pointer (some t)] 117)).alloc (.cells #[.pointer (some ⟨2,117,none⟩),.pointer (some ⟨w.heap.size,0,none⟩),.int .u64 150] 151)
def aXl (w:World) (t:Addr):World:=(aDr w t).alloc (.cells #[.pointer (some ⟨2,117,none⟩),.pointer (some ⟨w.heap.size,0,none⟩),.int .u64 150] 151)
set_option maxHeartbeats 8000000 in
set_option maxRecDepth 20000 in
theorem aW3 (b1:Nat) (t:Addr) (old:Value) (w:World) (hg:w.cell? ⟨0,0,none⟩=some (.iface 138 (.agg #[.pointer (some ⟨2,31,none⟩)]))) (ht0:w.cell? t=some old) (hf0:w.frozen? t=false):
  Calls Tryz.prog 40 #[.iface 89 (.pointer (some ⟨b1,0,none⟩)),.iface 117 (.pointer (some t))] w fun ev w'=>ev=.returned (.bool true)∧Go.K.Chg [t.block] w w'∧w'.cell? t=some (.pointer (some ⟨b1,0,none⟩)):=by
 have h6:=@run_callFunc_extern Tryz.prog 61 _ (fun args=>ReflectliteValue.unpack (args.getD 0 (.tuple #[]))) Tryz.func61 (by kernel_rfl) (by kernel_rfl) (by kernel_rfl) (by kernel_rfl)
 have h7:=@run_callFunc_extern Tryz.prog 62 _ (ReflectliteValue.methodAny (ReflectliteValue.valueError "reflectlite.Value.Type" 0) (fun t _ _ _=>ReflectliteType.toType t)) Tryz.func62 (by kernel_rfl) (by kernel_rfl) (by kernel_rfl) (by kernel_rfl)
 have h8:=@run_callFunc_extern Tryz.prog 63 _ (ReflectliteValue.method (ReflectliteValue.valueError "reflectlite.Value.IsNil" 0) ReflectliteValue.isNil) Tryz.func63 (by kernel_rfl) (by kernel_rfl) (by kernel_rfl) (by kernel_rfl)
 have h27:=@run_callFunc_extern Tryz.prog 207 _ (ReflectliteType.abiMethod fun t=>do pure (.int .u8 (←Rtype.kind t))) Tryz.func207 (by kernel_rfl) (by kernel_rfl) (by kernel_rfl) (by kernel_rfl)
 have h37:=@run_callFunc_extern Tryz.prog 216 _ (ReflectliteType.method ReflectliteType.elem) Tryz.func216 (by kernel_rfl) (by kernel_rfl) (by kernel_rfl) (by kernel_rfl)
 have h38:=@run_callFunc_extern Tryz.prog 217 _ (ReflectliteType.relation "Implements" ReflectliteType.implements_) Tryz.func217 (by kernel_rfl) (by kernel_rfl) (by kernel_rfl) (by kernel_rfl)
 have h10:=@run_callFunc_extern Tryz.prog 38 _ ReflectliteType.typeOf Tryz.func38 (by kernel_rfl) (by kernel_rfl) (by kernel_rfl) (by kernel_rfl)
 have h35:=@run_callFunc_extern Tryz.prog 214 _ (ReflectliteType.relation "AssignableTo" ReflectliteType.assignableTo) Tryz.func214 (by kernel_rfl) (by kernel_rfl) (by kernel_rfl) (by kernel_rfl)
 have h11:=@run_callFunc_extern Tryz.prog 91 _ (ReflectliteValue.method (ReflectliteValue.valueError "reflectlite.Value.Elem" 0) ReflectliteValue.elem) Tryz.func91 (by kernel_rfl) (by kernel_rfl) (by kernel_rfl) (by kernel_rfl)
 have h12:=@run_callFunc_extern Tryz.prog 92 _ ReflectliteValue.set Tryz.func92 (by kernel_rfl) (by kernel_rfl) (by kernel_rfl) (by kernel_rfl)
 have tF:=aA6
 have mA:=hY
 have aF:=aV3
 have vF:=aSd
 have f6:=aC4
 have f7:=aHm
 have mK:=yS
 have mE:=aAy
 have mI:=hZ
 have kP:=aIn
 have kE:=aMa
 have eP:=aIj
 have iE:=aQm
 have n8:=aD8 ⟨w.heap.size,0,none⟩ t (aDr w t) (by simp [aDr])
 have hg2:(aDr w t).cell? ⟨0,0,none⟩=_:=aR (aR hg)
 have el:=aOb ⟨w.heap.size,0,none⟩ t (aXl w t) (aR (by simp [aDr]))
 have st:=aYx t ⟨w.heap.size+1+1+1,0,none⟩ ⟨b1,0,none⟩ old ((aXl w t).alloc (.cells #[.pointer (some ⟨b1,0,none⟩)] 89))
  (by rw [World.cell?_alloc_at _ _ _ _ (by simp [aXl,aDr])];rfl) (aR (aR (aR (aR ht0)))) (iF (aR (aR (aR ht0))) (iF (aR (aR ht0)) (iF (aR ht0) (iF ht0 hf0))))
 unfold aXl aDr at el st
 unfold aDr at n8 hg2
 go_enter Tryz.func40,Tryz.ntmps40
 go_wp2
 refine wp_loop_rounds 1 ?_
 rw [rounds_succ]
 go_wp2
 go_ret
 refine ⟨rfl,((((Go.K.Ext.alloc _ _).trans (Go.K.Ext.alloc _ _)).trans (Go.K.Ext.alloc _ _)).trans (Go.K.Ext.alloc _ _)).chg (Go.K.Chg.setCell _ t _),World.cell?_setCell_same _ _ _ (u:=old) (aR (aR (aR (aR ht0))))⟩
set_option maxHeartbeats 8000000 in
set_option maxRecDepth 20000 in
theorem aUn (n:Int) (t:Addr) (w:World) (hg:w.cell? ⟨0,0,none⟩=some (.iface 138 (.agg #[.pointer (some ⟨2,31,none⟩)]))):
  Calls Tryz.prog 40 #[.iface 45 (.int .i64 n),.iface 117 (.pointer (some t))] w fun ev w'=>ev=.returned (.bool false)∧Go.K.Ext w w':=by
 have h6:=@run_callFunc_extern Tryz.prog 61 _ (fun args=>ReflectliteValue.unpack (args.getD 0 (.tuple #[]))) Tryz.func61 (by kernel_rfl) (by kernel_rfl) (by kernel_rfl) (by kernel_rfl)
 have h7:=@run_callFunc_extern Tryz.prog 62 _ (ReflectliteValue.methodAny (ReflectliteValue.valueError "reflectlite.Value.Type" 0) (fun t _ _ _=>ReflectliteType.toType t)) Tryz.func62 (by kernel_rfl) (by kernel_rfl) (by kernel_rfl) (by kernel_rfl)
 have h8:=@run_callFunc_extern Tryz.prog 63 _ (ReflectliteValue.method (ReflectliteValue.valueError "reflectlite.Value.IsNil" 0) ReflectliteValue.isNil) Tryz.func63 (by kernel_rfl) (by kernel_rfl) (by kernel_rfl) (by kernel_rfl)
 have h27:=@run_callFunc_extern Tryz.prog 207 _ (ReflectliteType.abiMethod fun t=>do pure (.int .u8 (←Rtype.kind t))) Tryz.func207 (by kernel_rfl) (by kernel_rfl) (by kernel_rfl) (by kernel_rfl)
 have h37:=@run_callFunc_extern Tryz.prog 216 _ (ReflectliteType.method ReflectliteType.elem) Tryz.func216 (by kernel_rfl) (by kernel_rfl) (by kernel_rfl) (by kernel_rfl)
 have h38:=@run_callFunc_extern Tryz.prog 217 _ (ReflectliteType.relation "Implements" ReflectliteType.implements_) Tryz.func217 (by kernel_rfl) (by kernel_rfl) (by kernel_rfl) (by kernel_rfl)
 have h10:=@run_callFunc_extern Tryz.prog 38 _ ReflectliteType.typeOf Tryz.func38 (by kernel_rfl) (by kernel_rfl) (by kernel_rfl) (by kernel_rfl)
 have h35:=@run_callFunc_extern Tryz.prog 214 _ (ReflectliteType.relation "AssignableTo" ReflectliteType.assignableTo) Tryz.func214 (by kernel_rfl) (by kernel_rfl) (by kernel_rfl) (by kernel_rfl)
 have h11:=@run_callFunc_extern Tryz.prog 91 _ (ReflectliteValue.method (ReflectliteValue.valueError "reflectlite.Value.Elem" 0) ReflectliteValue.elem) Tryz.func91 (by kernel_rfl) (by kernel_rfl) (by kernel_rfl) (by kernel_rfl)
 have h12:=@run_callFunc_extern Tryz.prog 92 _ ReflectliteValue.set Tryz.func92 (by kernel_rfl) (by kernel_rfl) (by kernel_rfl) (by kernel_rfl)
 have tO:=uQ
 have mA:=hY
 have aE:=aW1
 have nA:=bAf
 have uE:=aR6
 have uS:=aN3
 have f6:=aC4
 have f7:=aHm
 have mK:=yS
 have mE:=aAy
 have mI:=hZ
 have kP:=aIn
 have kE:=aMa
 have eP:=aIj
 have iE:=aQm
 have n8:=aD8 ⟨w.heap.size,0,none⟩ t (aDr w t) (by simp [aDr])
 have hg2:(aDr w t).cell? ⟨0,0,none⟩=_:=aR (aR hg)
 unfold aDr at n8 hg2
 go_enter Tryz.func40,Tryz.ntmps40
 go_wp2
 refine wp_loop_rounds 1 ?_
 rw [rounds_succ]
 go_wp2
 go_ret
 exact ⟨rfl,((Go.K.Ext.alloc _ _).trans (Go.K.Ext.alloc _ _)).trans (Go.K.Ext.alloc _ _)⟩
end
end Go.Proofs.YtgloknkcfchnlabGreatDoor
