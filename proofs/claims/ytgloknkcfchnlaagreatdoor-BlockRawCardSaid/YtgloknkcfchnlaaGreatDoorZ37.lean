/- Contracts: errors.As at a variable of a fault. -/
import Derived.Test.YtgloknkcfchnlaaGreatDoorZ35
set_option linter.unusedVariables false
set_option linter.unusedSimpArgs false
namespace Go.Proofs.YtgloknkcfchnlaaGreatDoor
section
open Go Go.RowKit Go.Extern.Stop Go.Stop Go.Extern
theorem aCj (t:Addr) (w:World):(ReflectliteValue.unpack (.iface 106 (.pointer (some t)))).run Tryz.prog w=.ok (.agg #[.pointer (some ⟨2,106,none⟩),.pointer (some ⟨w.heap.size,0,none⟩),.int .u64 150]) (w.alloc (.cells #[.pointer (some t)] 106)):=by kernel_rfl
theorem aGx (a:Addr) (w:World):(ReflectliteValue.methodAny (ReflectliteValue.valueError "reflectlite.Value.Type" 0) (fun t _ _ _=>ReflectliteType.toType t) #[.agg #[.pointer (some ⟨2,106,none⟩),.pointer (some a),.int .u64 150]]).run Tryz.prog w=.ok (.iface 143 (.agg #[.pointer (some ⟨2,106,none⟩)])) w:=by kernel_rfl
theorem aHw (w:World):((ReflectliteType.abiMethod fun t=>Functor.map (fun a:Nat=>Value.int IntKind.u8 (a:Int)) (Rtype.kind t)) #[.pointer (some ⟨2,106,none⟩)]).run Tryz.prog w=.ok (.int .u8 22) w:=by kernel_rfl
theorem aLd (w:World):((ReflectliteType.abiMethod fun t=>Functor.map (fun a:Nat=>Value.int IntKind.u8 (a:Int)) (Rtype.kind t)) #[.pointer (some ⟨2,87,none⟩)]).run Tryz.prog w=.ok (.int .u8 22) w:=by kernel_rfl
theorem aHs (w:World):(ReflectliteType.method ReflectliteType.elem #[.agg #[.pointer (some ⟨2,106,none⟩)]]).run Tryz.prog w=.ok (.iface 143 (.agg #[.pointer (some ⟨2,87,none⟩)])) w:=by kernel_rfl
theorem aPq (w:World):(ReflectliteType.relation "Implements" ReflectliteType.implements_ #[.agg #[.pointer (some ⟨2,87,none⟩)],.iface 143 (.agg #[.pointer (some ⟨2,35,none⟩)])]).run Tryz.prog w=.ok (.bool true) w:=by kernel_rfl
theorem aUz (w:World):(ReflectliteType.relation "AssignableTo" ReflectliteType.assignableTo #[.agg #[.pointer (some ⟨2,87,none⟩)],.iface 143 (.agg #[.pointer (some ⟨2,87,none⟩)])]).run Tryz.prog w=.ok (.bool true) w:=by kernel_rfl
theorem aVy (w:World):(ReflectliteType.relation "AssignableTo" ReflectliteType.assignableTo #[.agg #[.pointer (some ⟨2,40,none⟩)],.iface 143 (.agg #[.pointer (some ⟨2,87,none⟩)])]).run Tryz.prog w=.ok (.bool false) w:=by kernel_rfl
theorem aRk (e:Addr) (w:World):(ReflectliteValue.unpack (.iface 87 (.pointer (some e)))).run Tryz.prog w=.ok (.agg #[.pointer (some ⟨2,87,none⟩),.pointer (some ⟨w.heap.size,0,none⟩),.int .u64 150]) (w.alloc (.cells #[.pointer (some e)] 87)):=by kernel_rfl
theorem aEu (a:Addr) (w:World):(ReflectliteValue.parts (.agg #[.pointer (some ⟨2,106,none⟩),.pointer (some a),.int .u64 150])).run Tryz.prog w=.ok (some (106,a,150)) w:=by kernel_rfl
theorem aDl (a p:Addr) (W:World) (ha:W.cell? a=some (.pointer (some p))):
  (ReflectliteValue.method (ReflectliteValue.valueError "reflectlite.Value.IsNil" 0) ReflectliteValue.isNil #[.agg #[.pointer (some ⟨2,106,none⟩),.pointer (some a),.int .u64 150]]).run Tryz.prog W=.ok (.bool false) W:=by
 rw [aWg]
 simp only [Sem.run_bind,aEu,Result.andThen]
 simp [ReflectliteValue.isNil,loadVar,isAgg,underlying,Tryz.underlying106,ha,Result.andThen]
theorem aK8 (w:World):(Rtype.elem? 106).run Tryz.prog w=.ok (some 87) w:=by kernel_rfl
theorem aYz (p:Addr) (w:World):(ReflectliteValue.mk 87 p ReflectliteValue.flagAddr).run Tryz.prog w=.ok (.agg #[.pointer (some ⟨2,87,none⟩),.pointer (some p),.int .u64 406]) w:=by kernel_rfl
theorem aNf (a p:Addr) (W:World) (ha:W.cell? a=some (.pointer (some p))):
  (ReflectliteValue.method (ReflectliteValue.valueError "reflectlite.Value.Elem" 0) ReflectliteValue.elem #[.agg #[.pointer (some ⟨2,106,none⟩),.pointer (some a),.int .u64 150]]).run Tryz.prog W
   =.ok (.agg #[.pointer (some ⟨2,87,none⟩),.pointer (some p),.int .u64 406]) W:=by
 rw [aWg]
 simp only [Sem.run_bind,aEu,Result.andThen]
 simp [ReflectliteValue.elem,loadVar,isAgg,underlying,Tryz.underlying106,ha,Result.andThen,aK8,aYz]
theorem aQ7 (a:Addr) (w:World):(ReflectliteValue.parts (.agg #[.pointer (some ⟨2,87,none⟩),.pointer (some a),.int .u64 406])).run Tryz.prog w=.ok (some (87,a,406)) w:=by kernel_rfl
theorem aUl (a:Addr) (w:World):(ReflectliteValue.parts (.agg #[.pointer (some ⟨2,87,none⟩),.pointer (some a),.int .u64 150])).run Tryz.prog w=.ok (some (87,a,150)) w:=by kernel_rfl
theorem aQi (w:World):(Rtype.directlyAssignable 87 87).run Tryz.prog w=.ok true w:=by kernel_rfl
theorem aXq (ta b e:Addr) (old:Value) (W:World) (hb:W.cell? b=some (.pointer (some e))) (ht:W.cell? ta=some old) (hf:W.frozen? ta=false):
  (ReflectliteValue.set #[.agg #[.pointer (some ⟨2,87,none⟩),.pointer (some ta),.int .u64 406],.agg #[.pointer (some ⟨2,87,none⟩),.pointer (some b),.int .u64 150]]).run Tryz.prog W
   =.ok (.tuple #[]) (W.setCell ta (.pointer (some e))):=by
 rw [aY2]
 simp only [Sem.run_bind,aQ7,aUl,Result.andThen]
 simp [ReflectliteValue.flagAddr,loadVar,isAgg,underlying,Tryz.underlying87,hb,Result.andThen,aQi,storeVar,Value.cells,storeCells,Addr.add]
 rw [run_store Tryz.prog W ta _ _ (by rfl)]
 simp [ht,hf]
theorem aZd (v:Value) (xT:TypeId) (w:World):(Instr.typeAssert (.iface 40 v) xT 192 true).run Tryz.prog w=.ok (.tuple #[.nilIface,.bool false]) w:=run_typeAssert_lacksB Tryz.underlying192 (by kernel_rfl) (by kernel_rfl) v xT w
def aC6 (w:World) (t:Addr):World:=(w.alloc (.cells #[.pointer (some t)] 106)).alloc (.cells #[.pointer (some ⟨2,106,none⟩),.pointer (some ⟨w.heap.size,0,none⟩),.int .u64 150] 135)
def aWf (w:World) (t:Addr):World:=(aC6 w t).alloc (.cells #[.pointer (some ⟨2,106,none⟩),.pointer (some ⟨w.heap.size,0,none⟩),.int .u64 150] 135)
set_option maxHeartbeats 8000000 in
set_option maxRecDepth 20000 in
theorem aV0 (b1:Nat) (t:Addr) (old:Value) (w:World) (hg:w.cell? ⟨0,0,none⟩=some (.iface 143 (.agg #[.pointer (some ⟨2,35,none⟩)]))) (ht0:w.cell? t=some old) (hf0:w.frozen? t=false):
  Calls Tryz.prog 43 #[.iface 87 (.pointer (some ⟨b1,0,none⟩)),.iface 106 (.pointer (some t))] w fun ev w'=>ev=.returned (.bool true)∧Go.K.Chg [t.block] w w'∧w'.cell? t=some (.pointer (some ⟨b1,0,none⟩)):=by
 have h6:=@run_callFunc_extern Tryz.prog 63 _ (fun args=>ReflectliteValue.unpack (args.getD 0 (.tuple #[]))) Tryz.func63 (by kernel_rfl) (by kernel_rfl) (by kernel_rfl) (by kernel_rfl)
 have h7:=@run_callFunc_extern Tryz.prog 64 _ (ReflectliteValue.methodAny (ReflectliteValue.valueError "reflectlite.Value.Type" 0) (fun t _ _ _=>ReflectliteType.toType t)) Tryz.func64 (by kernel_rfl) (by kernel_rfl) (by kernel_rfl) (by kernel_rfl)
 have h8:=@run_callFunc_extern Tryz.prog 65 _ (ReflectliteValue.method (ReflectliteValue.valueError "reflectlite.Value.IsNil" 0) ReflectliteValue.isNil) Tryz.func65 (by kernel_rfl) (by kernel_rfl) (by kernel_rfl) (by kernel_rfl)
 have h27:=@run_callFunc_extern Tryz.prog 196 _ (ReflectliteType.abiMethod fun t=>do pure (.int .u8 (←Rtype.kind t))) Tryz.func196 (by kernel_rfl) (by kernel_rfl) (by kernel_rfl) (by kernel_rfl)
 have h37:=@run_callFunc_extern Tryz.prog 208 _ (ReflectliteType.method ReflectliteType.elem) Tryz.func208 (by kernel_rfl) (by kernel_rfl) (by kernel_rfl) (by kernel_rfl)
 have h38:=@run_callFunc_extern Tryz.prog 209 _ (ReflectliteType.relation "Implements" ReflectliteType.implements_) Tryz.func209 (by kernel_rfl) (by kernel_rfl) (by kernel_rfl) (by kernel_rfl)
 have h10:=@run_callFunc_extern Tryz.prog 45 _ ReflectliteType.typeOf Tryz.func45 (by kernel_rfl) (by kernel_rfl) (by kernel_rfl) (by kernel_rfl)
 have h35:=@run_callFunc_extern Tryz.prog 206 _ (ReflectliteType.relation "AssignableTo" ReflectliteType.assignableTo) Tryz.func206 (by kernel_rfl) (by kernel_rfl) (by kernel_rfl) (by kernel_rfl)
 have h11:=@run_callFunc_extern Tryz.prog 101 _ (ReflectliteValue.method (ReflectliteValue.valueError "reflectlite.Value.Elem" 0) ReflectliteValue.elem) Tryz.func101 (by kernel_rfl) (by kernel_rfl) (by kernel_rfl) (by kernel_rfl)
 have h12:=@run_callFunc_extern Tryz.prog 102 _ ReflectliteValue.set Tryz.func102 (by kernel_rfl) (by kernel_rfl) (by kernel_rfl) (by kernel_rfl)
 have tF:=aAo
 have mA:=gV
 have aF:=aUz
 have vF:=aRk
 have f6:=aCj
 have f7:=aGx
 have mK:=yB
 have mE:=aAi
 have mI:=gW
 have kP:=aHw
 have kE:=aLd
 have eP:=aHs
 have iE:=aPq
 have n8:=aDl ⟨w.heap.size,0,none⟩ t (aC6 w t) (by simp [aC6])
 have hg2:(aC6 w t).cell? ⟨0,0,none⟩=_:=aS (aS hg)
 have el:=aNf ⟨w.heap.size,0,none⟩ t (aWf w t) (aS (by simp [aC6]))
 have st:=aXq t ⟨w.heap.size+1+1+1,0,none⟩ ⟨b1,0,none⟩ old ((aWf w t).alloc (.cells #[.pointer (some ⟨b1,0,none⟩)] 87))
  (by rw [World.cell?_alloc_at _ _ _ _ (by simp [aWf,aC6])];rfl) (aS (aS (aS (aS ht0)))) (hX (aS (aS (aS ht0))) (hX (aS (aS ht0)) (hX (aS ht0) (hX ht0 hf0))))
 unfold aWf aC6 at el st
 unfold aC6 at n8 hg2
 go_enter Tryz.func43,Tryz.ntmps43
 go_wp2
 refine wp_loop_rounds 1 ?_
 rw [rounds_succ]
 go_wp2
 go_ret
 refine ⟨rfl,((((Go.K.Ext.alloc _ _).trans (Go.K.Ext.alloc _ _)).trans (Go.K.Ext.alloc _ _)).trans (Go.K.Ext.alloc _ _)).chg (Go.K.Chg.setCell _ t _),World.cell?_setCell_same _ _ _ (u:=old) (aS (aS (aS (aS ht0))))⟩
set_option maxHeartbeats 8000000 in
set_option maxRecDepth 20000 in
theorem aTq (n:Int) (t:Addr) (w:World) (hg:w.cell? ⟨0,0,none⟩=some (.iface 143 (.agg #[.pointer (some ⟨2,35,none⟩)]))):
  Calls Tryz.prog 43 #[.iface 40 (.int .i64 n),.iface 106 (.pointer (some t))] w fun ev w'=>ev=.returned (.bool false)∧Go.K.Ext w w':=by
 have h6:=@run_callFunc_extern Tryz.prog 63 _ (fun args=>ReflectliteValue.unpack (args.getD 0 (.tuple #[]))) Tryz.func63 (by kernel_rfl) (by kernel_rfl) (by kernel_rfl) (by kernel_rfl)
 have h7:=@run_callFunc_extern Tryz.prog 64 _ (ReflectliteValue.methodAny (ReflectliteValue.valueError "reflectlite.Value.Type" 0) (fun t _ _ _=>ReflectliteType.toType t)) Tryz.func64 (by kernel_rfl) (by kernel_rfl) (by kernel_rfl) (by kernel_rfl)
 have h8:=@run_callFunc_extern Tryz.prog 65 _ (ReflectliteValue.method (ReflectliteValue.valueError "reflectlite.Value.IsNil" 0) ReflectliteValue.isNil) Tryz.func65 (by kernel_rfl) (by kernel_rfl) (by kernel_rfl) (by kernel_rfl)
 have h27:=@run_callFunc_extern Tryz.prog 196 _ (ReflectliteType.abiMethod fun t=>do pure (.int .u8 (←Rtype.kind t))) Tryz.func196 (by kernel_rfl) (by kernel_rfl) (by kernel_rfl) (by kernel_rfl)
 have h37:=@run_callFunc_extern Tryz.prog 208 _ (ReflectliteType.method ReflectliteType.elem) Tryz.func208 (by kernel_rfl) (by kernel_rfl) (by kernel_rfl) (by kernel_rfl)
 have h38:=@run_callFunc_extern Tryz.prog 209 _ (ReflectliteType.relation "Implements" ReflectliteType.implements_) Tryz.func209 (by kernel_rfl) (by kernel_rfl) (by kernel_rfl) (by kernel_rfl)
 have h10:=@run_callFunc_extern Tryz.prog 45 _ ReflectliteType.typeOf Tryz.func45 (by kernel_rfl) (by kernel_rfl) (by kernel_rfl) (by kernel_rfl)
 have h35:=@run_callFunc_extern Tryz.prog 206 _ (ReflectliteType.relation "AssignableTo" ReflectliteType.assignableTo) Tryz.func206 (by kernel_rfl) (by kernel_rfl) (by kernel_rfl) (by kernel_rfl)
 have h11:=@run_callFunc_extern Tryz.prog 101 _ (ReflectliteValue.method (ReflectliteValue.valueError "reflectlite.Value.Elem" 0) ReflectliteValue.elem) Tryz.func101 (by kernel_rfl) (by kernel_rfl) (by kernel_rfl) (by kernel_rfl)
 have h12:=@run_callFunc_extern Tryz.prog 102 _ ReflectliteValue.set Tryz.func102 (by kernel_rfl) (by kernel_rfl) (by kernel_rfl) (by kernel_rfl)
 have tO:=uB
 have mA:=gV
 have aE:=aVy
 have nA:=aZd
 have uE:=aRb
 have uS:=aM6
 have f6:=aCj
 have f7:=aGx
 have mK:=yB
 have mE:=aAi
 have mI:=gW
 have kP:=aHw
 have kE:=aLd
 have eP:=aHs
 have iE:=aPq
 have n8:=aDl ⟨w.heap.size,0,none⟩ t (aC6 w t) (by simp [aC6])
 have hg2:(aC6 w t).cell? ⟨0,0,none⟩=_:=aS (aS hg)
 unfold aC6 at n8 hg2
 go_enter Tryz.func43,Tryz.ntmps43
 go_wp2
 refine wp_loop_rounds 1 ?_
 rw [rounds_succ]
 go_wp2
 go_ret
 exact ⟨rfl,((Go.K.Ext.alloc _ _).trans (Go.K.Ext.alloc _ _)).trans (Go.K.Ext.alloc _ _)⟩
end
end Go.Proofs.YtgloknkcfchnlaaGreatDoor
