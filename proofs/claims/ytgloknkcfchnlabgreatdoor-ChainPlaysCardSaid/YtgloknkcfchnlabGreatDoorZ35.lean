/- Plain: what the document fixes of replacing. Contracts: what -/
import Derived.Test.YtgloknkcfchnlabGreatDoorZ30
import Derived.Test.YtgloknkcfchnlabGreatDoorZ32
set_option linter.unusedVariables false
set_option linter.unusedSimpArgs false
namespace Go.K
section
open Go Go.Proofs.YtgloknkcfchnlabGreatDoor
end
end Go.K
namespace Go.Proofs.YtgloknkcfchnlabGreatDoor
section
open Go Go.K
attribute [local irreducible] aG aK aU KOp.wp K.Spec u32 leS vnS str aN cV bH idT aV aJ aO aZi idL
attribute [local irreducible] eA
end
section
open Go Go.RowKit Go.Extern.Stop Go.Stop Go.Extern
theorem aPs (w:World):(Rtype.elem? 106).run Tryz.prog w=.ok (some 45) w:=by kernel_rfl
theorem aZt (p:Addr) (w:World):(ReflectliteValue.mk 45 p ReflectliteValue.flagAddr).run Tryz.prog w=.ok (.agg #[.pointer (some ⟨2,45,none⟩),.pointer (some p),.int .u64 386]) w:=by kernel_rfl
theorem aBt (a p:Addr) (W:World) (ha:W.cell? a=some (.pointer (some p))):
  (ReflectliteValue.method (ReflectliteValue.valueError "reflectlite.Value.Elem" 0) ReflectliteValue.elem #[.agg #[.pointer (some ⟨2,106,none⟩),.pointer (some a),.int .u64 150]]).run Tryz.prog W
   =.ok (.agg #[.pointer (some ⟨2,45,none⟩),.pointer (some p),.int .u64 386]) W:=by
 rw [aXo]
 simp only [Sem.run_bind,aId,Result.andThen]
 simp [ReflectliteValue.elem,loadVar,isAgg,underlying,Tryz.underlying106,ha,Result.andThen,aPs,aZt]
theorem aZ7 (v x:Value):ReflectliteValue.set #[v,x]=(do
  let (some (dst,a,fl),some (src,b,_)):=(←ReflectliteValue.parts v,←ReflectliteValue.parts x)
   |unsupported (.noEntry "extern/(internal/reflectlite.Value).Set.zeroValue")
  if fl / ReflectliteValue.flagAddr%2==0 then unsupported (.noEntry "extern/(internal/reflectlite.Value).Set.unaddressable")
  let val ←loadVar src b
  if ←Rtype.directlyAssignable dst src then storeVar dst a val
  else if ←Rtype.implements dst src then
   if (←Rtype.kind src)==20 then
    match val with
    |.nilIface=>unsupported (.noEntry "extern/reflectlite: a nil value of one interface type handed on as a value of another")
    |_=>storeVar dst a val
   else storeVar dst a (.iface src val)
  else panicString ("reflectlite.Set: value of type " ++(←Rtype.spelt src)++ " is not assignable to type " ++(←Rtype.spelt dst))
  pure (.tuple #[])):=rfl
theorem aR5 (a:Addr) (w:World):(ReflectliteValue.parts (.agg #[.pointer (some ⟨2,45,none⟩),.pointer (some a),.int .u64 386])).run Tryz.prog w=.ok (some (45,a,386)) w:=by kernel_rfl
theorem aUa (a:Addr) (w:World):(ReflectliteValue.parts (.agg #[.pointer (some ⟨2,45,none⟩),.pointer (some a),.int .u64 130])).run Tryz.prog w=.ok (some (45,a,130)) w:=by kernel_rfl
theorem aQ7 (w:World):(Rtype.directlyAssignable 45 45).run Tryz.prog w=.ok true w:=by kernel_rfl
theorem aO1 (ta b:Addr) (n:Int) (old:Value) (W:World) (hb:W.cell? b=some (.int .i64 n)) (ht:W.cell? ta=some old) (hf:W.frozen? ta=false):
  (ReflectliteValue.set #[.agg #[.pointer (some ⟨2,45,none⟩),.pointer (some ta),.int .u64 386],.agg #[.pointer (some ⟨2,45,none⟩),.pointer (some b),.int .u64 130]]).run Tryz.prog W
   =.ok (.tuple #[]) (W.setCell ta (.int .i64 n)):=by
 rw [aZ7]
 simp only [Sem.run_bind,aR5,aUa,Result.andThen]
 simp [ReflectliteValue.flagAddr,loadVar,isAgg,underlying,Tryz.underlying45,hb,Result.andThen,aQ7,storeVar,Value.cells,storeCells,Addr.add]
 rw [run_store Tryz.prog W ta _ _ (by rfl)]
 simp [ht,hf]
def jR (w:World) (t:Addr):World:=(w.alloc (.cells #[.pointer (some t)] 106)).alloc (.cells #[.pointer (some ⟨2,106,none⟩),.pointer (some ⟨w.heap.size,0,none⟩),.int .u64 150] 151)
def rU (w:World) (t:Addr):World:=(jR w t).alloc (.cells #[.pointer (some ⟨2,106,none⟩),.pointer (some ⟨w.heap.size,0,none⟩),.int .u64 150] 151)
set_option maxHeartbeats 4000000 in
theorem aXk (n:Int) (t:Addr) (old:Value) (w:World) (hg:w.cell? ⟨0,0,none⟩=some (.iface 138 (.agg #[.pointer (some ⟨2,31,none⟩)]))) (ht0:w.cell? t=some old) (hf0:w.frozen? t=false):
  Calls Tryz.prog 40 #[.iface 45 (.int .i64 n),.iface 106 (.pointer (some t))] w fun ev w'=>ev=.returned (.bool true)∧Go.K.Chg [t.block] w w'∧w'.cell? t=some (.int .i64 n):=by
 have h6:=@run_callFunc_extern Tryz.prog 61 _ (fun args=>ReflectliteValue.unpack (args.getD 0 (.tuple #[]))) Tryz.func61 (by kernel_rfl) (by kernel_rfl) (by kernel_rfl) (by kernel_rfl)
 have h7:=@run_callFunc_extern Tryz.prog 62 _ (ReflectliteValue.methodAny (ReflectliteValue.valueError "reflectlite.Value.Type" 0) (fun t _ _ _=>ReflectliteType.toType t)) Tryz.func62 (by kernel_rfl) (by kernel_rfl) (by kernel_rfl) (by kernel_rfl)
 have h8:=@run_callFunc_extern Tryz.prog 63 _ (ReflectliteValue.method (ReflectliteValue.valueError "reflectlite.Value.IsNil" 0) ReflectliteValue.isNil) Tryz.func63 (by kernel_rfl) (by kernel_rfl) (by kernel_rfl) (by kernel_rfl)
 have h27:=@run_callFunc_extern Tryz.prog 207 _ (ReflectliteType.abiMethod fun t=>do pure (.int .u8 (←Rtype.kind t))) Tryz.func207 (by kernel_rfl) (by kernel_rfl) (by kernel_rfl) (by kernel_rfl)
 have h37:=@run_callFunc_extern Tryz.prog 216 _ (ReflectliteType.method ReflectliteType.elem) Tryz.func216 (by kernel_rfl) (by kernel_rfl) (by kernel_rfl) (by kernel_rfl)
 have h38:=@run_callFunc_extern Tryz.prog 217 _ (ReflectliteType.relation "Implements" ReflectliteType.implements_) Tryz.func217 (by kernel_rfl) (by kernel_rfl) (by kernel_rfl) (by kernel_rfl)
 have h10:=@run_callFunc_extern Tryz.prog 38 _ ReflectliteType.typeOf Tryz.func38 (by kernel_rfl) (by kernel_rfl) (by kernel_rfl) (by kernel_rfl)
 have h35:=@run_callFunc_extern Tryz.prog 214 _ (ReflectliteType.relation "AssignableTo" ReflectliteType.assignableTo) Tryz.func214 (by kernel_rfl) (by kernel_rfl) (by kernel_rfl) (by kernel_rfl)
 have h11:=@run_callFunc_extern Tryz.prog 91 _ (ReflectliteValue.method (ReflectliteValue.valueError "reflectlite.Value.Elem" 0) ReflectliteValue.elem) Tryz.func91 (by kernel_rfl) (by kernel_rfl) (by kernel_rfl) (by kernel_rfl)
 have h12:=@run_callFunc_extern Tryz.prog 92 _ ReflectliteValue.set Tryz.func92 (by kernel_rfl) (by kernel_rfl) (by kernel_rfl) (by kernel_rfl)
 have tO:=uQ
 have mA:=hY
 have aE:=aJn
 have vE:=aB9
 have f6:=xA
 have f7:=aD7
 have mK:=yS
 have mE:=aAy
 have mI:=hZ
 have kP:=aF0
 have kE:=aJz
 have eP:=aFb
 have iE:=aI4
 have hlt:0<w.heap.size:=by
  rcases Nat.lt_or_ge 0 w.heap.size with h|h
  ·exact h
  ·simp [World.cell?,Array.getElem?_eq_none h] at hg
 have htl:t.block<w.heap.size:=by
  rcases Nat.lt_or_ge t.block w.heap.size with h|h
  ·exact h
  ·simp [World.cell?,Array.getElem?_eq_none h] at ht0
 have n8:=aB3 ⟨w.heap.size,0,none⟩ t (jR w t) (by simp [jR])
 have hg2:(jR w t).cell? ⟨0,0,none⟩=some (.iface 138 (.agg #[.pointer (some ⟨2,31,none⟩)])):=by
  unfold jR
  rw [World.cell?_alloc_lt _ _ ⟨0,0,none⟩ (by first|(simp;done)|(simp;omega)),World.cell?_alloc_lt _ _ ⟨0,0,none⟩ hlt];exact hg
 have el:=aBt ⟨w.heap.size,0,none⟩ t (rU w t) (by unfold rU;rw [World.cell?_alloc_lt _ _ ⟨w.heap.size,0,none⟩ (by first|(simp [jR];done)|(simp [jR];omega))];simp [jR])
 have st:=aO1 t ⟨w.heap.size+1+1+1,0,none⟩ n old ((rU w t).alloc (.cells #[.int .i64 n] 45))
  (by rw [World.cell?_alloc_at _ _ _ _ (by simp [rU,jR])];rfl)
  (by unfold rU jR;rw [World.cell?_alloc_lt _ _ t (by simp;omega),World.cell?_alloc_lt _ _ t (by simp;omega),World.cell?_alloc_lt _ _ t (by simp;omega),World.cell?_alloc_lt _ _ t htl];exact ht0)
  (by unfold rU jR;rw [World.frozen?_alloc_old _ _ t (by simp;omega),World.frozen?_alloc_old _ _ t (by simp;omega),World.frozen?_alloc_old _ _ t (by simp;omega),World.frozen?_alloc_old _ _ t (Nat.ne_of_lt htl)];exact hf0)
 unfold rU jR at el st
 unfold jR at n8 hg2
 go_enter Tryz.func40,Tryz.ntmps40
 go_wp2
 refine wp_loop_rounds 1 ?_
 rw [rounds_succ]
 go_wp2
 go_ret
 refine ⟨rfl,((((Go.K.Ext.alloc _ _).trans (Go.K.Ext.alloc _ _)).trans (Go.K.Ext.alloc _ _)).trans (Go.K.Ext.alloc _ _)).chg (Go.K.Chg.setCell _ t _),World.cell?_setCell_same _ _ _ (u:=old) ?_⟩
 rw [World.cell?_alloc_lt _ _ t (by simp;omega),World.cell?_alloc_lt _ _ t (by simp;omega),World.cell?_alloc_lt _ _ t (by simp;omega),World.cell?_alloc_lt _ _ t htl];exact ht0
end
section
open Go Go.RowKit Go.Extern.Stop Go.Stop Go.Extern
theorem aX0 (v:Value) (xT:TypeId) (w:World):(Instr.typeAssert (.iface 89 v) xT 193 true).run Tryz.prog w=.ok (.tuple #[.nilIface,.bool false]) w:=run_typeAssert_lacksB Tryz.underlying193 (by kernel_rfl) (by kernel_rfl) v xT w
theorem aDy (v:Value) (xT:TypeId) (w:World):(Instr.typeAssert (.iface 89 v) xT 143 true).run Tryz.prog w=.ok (.tuple #[.iface 89 v,.bool true]) w:=run_typeAssert_hasB Tryz.underlying143 (by kernel_rfl) v xT w
theorem uT (v:Value) (w:World):(Go.method 406 89 v "Unwrap").run Tryz.prog w=.ok (212,v) w:=by kernel_rfl
theorem aR {w:World} {o:Obj} {a:Addr} {v:Value} (h:w.cell? a=some v):(w.alloc o).cell? a=some v:=by
 have hlt:a.block<w.heap.size:=Go.K.cell_lt h
 rw [World.cell?_alloc_lt _ _ a hlt];exact h
theorem iF {w:World} {o:Obj} {a:Addr} {v:Value} (h:w.cell? a=some v) (hf:w.frozen? a=false):(w.alloc o).frozen? a=false:=by
 have hlt:a.block<w.heap.size:=Go.K.cell_lt h
 rw [World.frozen?_alloc_old _ _ a (Nat.ne_of_lt hlt)];exact hf
set_option maxHeartbeats 8000000 in
set_option maxRecDepth 20000 in
theorem aUl (n:Int) (b1:Nat) (t:Addr) (old:Value) (w:World) (hg:w.cell? ⟨0,0,none⟩=some (.iface 138 (.agg #[.pointer (some ⟨2,31,none⟩)]))) (hc1:w.cell? ⟨b1,1,none⟩=some (.iface 45 (.int .i64 n))) (ht0:w.cell? t=some old) (hf0:w.frozen? t=false):
  Calls Tryz.prog 40 #[.iface 89 (.pointer (some ⟨b1,0,none⟩)),.iface 106 (.pointer (some t))] w fun ev w'=>ev=.returned (.bool true)∧Go.K.Chg [t.block] w w'∧w'.cell? t=some (.int .i64 n):=by
 have h6:=@run_callFunc_extern Tryz.prog 61 _ (fun args=>ReflectliteValue.unpack (args.getD 0 (.tuple #[]))) Tryz.func61 (by kernel_rfl) (by kernel_rfl) (by kernel_rfl) (by kernel_rfl)
 have h7:=@run_callFunc_extern Tryz.prog 62 _ (ReflectliteValue.methodAny (ReflectliteValue.valueError "reflectlite.Value.Type" 0) (fun t _ _ _=>ReflectliteType.toType t)) Tryz.func62 (by kernel_rfl) (by kernel_rfl) (by kernel_rfl) (by kernel_rfl)
 have h8:=@run_callFunc_extern Tryz.prog 63 _ (ReflectliteValue.method (ReflectliteValue.valueError "reflectlite.Value.IsNil" 0) ReflectliteValue.isNil) Tryz.func63 (by kernel_rfl) (by kernel_rfl) (by kernel_rfl) (by kernel_rfl)
 have h27:=@run_callFunc_extern Tryz.prog 207 _ (ReflectliteType.abiMethod fun t=>do pure (.int .u8 (←Rtype.kind t))) Tryz.func207 (by kernel_rfl) (by kernel_rfl) (by kernel_rfl) (by kernel_rfl)
 have h37:=@run_callFunc_extern Tryz.prog 216 _ (ReflectliteType.method ReflectliteType.elem) Tryz.func216 (by kernel_rfl) (by kernel_rfl) (by kernel_rfl) (by kernel_rfl)
 have h38:=@run_callFunc_extern Tryz.prog 217 _ (ReflectliteType.relation "Implements" ReflectliteType.implements_) Tryz.func217 (by kernel_rfl) (by kernel_rfl) (by kernel_rfl) (by kernel_rfl)
 have h10:=@run_callFunc_extern Tryz.prog 38 _ ReflectliteType.typeOf Tryz.func38 (by kernel_rfl) (by kernel_rfl) (by kernel_rfl) (by kernel_rfl)
 have h35:=@run_callFunc_extern Tryz.prog 214 _ (ReflectliteType.relation "AssignableTo" ReflectliteType.assignableTo) Tryz.func214 (by kernel_rfl) (by kernel_rfl) (by kernel_rfl) (by kernel_rfl)
 have h11:=@run_callFunc_extern Tryz.prog 91 _ (ReflectliteValue.method (ReflectliteValue.valueError "reflectlite.Value.Elem" 0) ReflectliteValue.elem) Tryz.func91 (by kernel_rfl) (by kernel_rfl) (by kernel_rfl) (by kernel_rfl)
 have h12:=@run_callFunc_extern Tryz.prog 92 _ ReflectliteValue.set Tryz.func92 (by kernel_rfl) (by kernel_rfl) (by kernel_rfl) (by kernel_rfl)
 have tO:=uQ
 have tF:=aA6
 have mA:=hY
 have aE:=aJn
 have aF:=aQf
 have nF:=aX0
 have uF:=aDy
 have mU:=uT
 have vE:=aB9
 have f6:=xA
 have f7:=aD7
 have mK:=yS
 have mE:=aAy
 have mI:=hZ
 have kP:=aF0
 have kE:=aJz
 have eP:=aFb
 have iE:=aI4
 have n8:=aB3 ⟨w.heap.size,0,none⟩ t (jR w t) (by simp [jR])
 have hg2:(jR w t).cell? ⟨0,0,none⟩=_:=aR (aR hg)
 have el:=aBt ⟨w.heap.size,0,none⟩ t (rU w t) (aR (by simp [jR]))
 have hu3:(rU w t).cell? ⟨b1,1,none⟩=_:=aR (aR (aR hc1))
 have st:=aO1 t ⟨w.heap.size+1+1+1,0,none⟩ n old ((rU w t).alloc (.cells #[.int .i64 n] 45))
  (by rw [World.cell?_alloc_at _ _ _ _ (by simp [rU,jR])];rfl) (aR (aR (aR (aR ht0)))) (iF (aR (aR (aR ht0))) (iF (aR (aR ht0)) (iF (aR ht0) (iF ht0 hf0))))
 unfold rU jR at el st hu3
 unfold jR at n8 hg2
 go_enter Tryz.func40,Tryz.ntmps40
 go_wp2
 refine wp_loop_rounds 2 ?_
 rw [rounds_succ]
 go_wp2
 rw [rounds_succ]
 go_wp2
 go_ret
 refine ⟨rfl,((((Go.K.Ext.alloc _ _).trans (Go.K.Ext.alloc _ _)).trans (Go.K.Ext.alloc _ _)).trans (Go.K.Ext.alloc _ _)).chg (Go.K.Chg.setCell _ t _),World.cell?_setCell_same _ _ _ (u:=old) (aR (aR (aR (aR ht0))))⟩
end
end Go.Proofs.YtgloknkcfchnlabGreatDoor
