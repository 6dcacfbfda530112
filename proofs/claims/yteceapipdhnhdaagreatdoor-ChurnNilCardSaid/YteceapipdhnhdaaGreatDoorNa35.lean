/- Contracts: errors.As at a variable of a number: the number i -/
import Derived.Test.YteceapipdhnhdaaGreatDoorNa32
set_option linter.unusedVariables false
set_option linter.unusedSimpArgs false
namespace Go.Proofs.YteceapipdhnhdaaGreatDoor
section
open Go Go.RowKit Go.Extern.Stop Go.Stop Go.Extern
theorem bCk (w:World):(Rtype.elem? 201).run Tryz.prog w=.ok (some 41) w:=by kernel_rfl
theorem bRl (p:Addr) (w:World):(ReflectliteValue.mk 41 p ReflectliteValue.flagAddr).run Tryz.prog w=.ok (.agg #[.pointer (some ⟨4,41,none⟩),.pointer (some p),.int .u64 386]) w:=by kernel_rfl
theorem aKp (a p:Addr) (W:World) (ha:W.cell? a=some (.pointer (some p))):
  (ReflectliteValue.method (ReflectliteValue.valueError "reflectlite.Value.Elem" 0) ReflectliteValue.elem #[.agg #[.pointer (some ⟨4,201,none⟩),.pointer (some a),.int .u64 150]]).run Tryz.prog W
   =.ok (.agg #[.pointer (some ⟨4,41,none⟩),.pointer (some p),.int .u64 386]) W:=by
 rw [bRe]
 simp only [Sem.run_bind,aTr,Result.andThen]
 simp [ReflectliteValue.elem,loadVar,isAgg,underlying,Tryz.underlying201,ha,Result.andThen,bCk,bRl]
theorem bSi (v x:Value):ReflectliteValue.set #[v,x]=(do
  let (some (dst,a,fl),some (src,b,_)):=(←ReflectliteValue.parts v,←ReflectliteValue.parts x)
   |unsupported (.noEntry "extern/(internal/reflectlite.Value).Set.zeroValue")
  if fl / ReflectliteValue.flagAddr%2==0 then unsupported (.noEntry "extern/(internal/reflectlite.Value).Set.unaddressable")
  let val ←loadVar src b
  if ←Rtype.directlyAssignable dst src then storeVar dst a val
  else if ←Rtype.implements dst src then
   if (←Rtype.kind src)==20 then
    match val with
    |.nilIface=>unsupported (.noEntry "extern/reflectlite: a nil value of one interface type handed on as a value of another")
    |_=>storeVar dst a val
   else storeVar dst a (.iface src val)
  else panicString ("reflectlite.Set: value of type " ++(←Rtype.spelt src)++ " is not assignable to type " ++(←Rtype.spelt dst))
  pure (.tuple #[])):=rfl
theorem bHl (a:Addr) (w:World):(ReflectliteValue.parts (.agg #[.pointer (some ⟨4,41,none⟩),.pointer (some a),.int .u64 386])).run Tryz.prog w=.ok (some (41,a,386)) w:=by kernel_rfl
theorem bI6 (a:Addr) (w:World):(ReflectliteValue.parts (.agg #[.pointer (some ⟨4,41,none⟩),.pointer (some a),.int .u64 130])).run Tryz.prog w=.ok (some (41,a,130)) w:=by kernel_rfl
theorem bFp (w:World):(Rtype.directlyAssignable 41 41).run Tryz.prog w=.ok true w:=by kernel_rfl
theorem bBz (ta b:Addr) (n:Int) (old:Value) (W:World) (hb:W.cell? b=some (.int .i64 n)) (ht:W.cell? ta=some old) (hf:W.frozen? ta=false):
  (ReflectliteValue.set #[.agg #[.pointer (some ⟨4,41,none⟩),.pointer (some ta),.int .u64 386],.agg #[.pointer (some ⟨4,41,none⟩),.pointer (some b),.int .u64 130]]).run Tryz.prog W
   =.ok (.tuple #[]) (W.setCell ta (.int .i64 n)):=by
 rw [bSi]
 simp only [Sem.run_bind,bHl,bI6,Result.andThen]
 simp [ReflectliteValue.flagAddr,loadVar,isAgg,underlying,Tryz.underlying41,hb,Result.andThen,bFp,storeVar,Value.cells,storeCells,Addr.add]
 rw [run_store Tryz.prog W ta _ _ (by rfl)]
 simp [ht,hf]
def pN (w:World) (t:Addr):World:=(w.alloc (.cells #[.pointer (some t)] 201)).alloc (.cells #[.pointer (some ⟨4,201,none⟩),.pointer (some ⟨w.heap.size,0,none⟩),.int .u64 150] 260)
def aBn (w:World) (t:Addr):World:=(pN w t).alloc (.cells #[.pointer (some ⟨4,201,none⟩),.pointer (some ⟨w.heap.size,0,none⟩),.int .u64 150] 260)
set_option maxHeartbeats 4000000 in
theorem bNb (n:Int) (t:Addr) (old:Value) (w:World) (hg:w.cell? ⟨0,0,none⟩=some (.iface 176 (.agg #[.pointer (some ⟨4,53,none⟩)]))) (ht0:w.cell? t=some old) (hf0:w.frozen? t=false):
  Calls Tryz.prog 102 #[.iface 41 (.int .i64 n),.iface 201 (.pointer (some t))] w fun ev w'=>ev=.returned (.bool true)∧Go.K.Chg [t.block] w w'∧w'.cell? t=some (.int .i64 n):=by
 have h6:=@run_callFunc_extern Tryz.prog 157 _ (fun args=>ReflectliteValue.unpack (args.getD 0 (.tuple #[]))) Tryz.func157 (by kernel_rfl) (by kernel_rfl) (by kernel_rfl) (by kernel_rfl)
 have h7:=@run_callFunc_extern Tryz.prog 158 _ (ReflectliteValue.methodAny (ReflectliteValue.valueError "reflectlite.Value.Type" 0) (fun t _ _ _=>ReflectliteType.toType t)) Tryz.func158 (by kernel_rfl) (by kernel_rfl) (by kernel_rfl) (by kernel_rfl)
 have h8:=@run_callFunc_extern Tryz.prog 159 _ (ReflectliteValue.method (ReflectliteValue.valueError "reflectlite.Value.IsNil" 0) ReflectliteValue.isNil) Tryz.func159 (by kernel_rfl) (by kernel_rfl) (by kernel_rfl) (by kernel_rfl)
 have h27:=@run_callFunc_extern Tryz.prog 343 _ (ReflectliteType.abiMethod fun t=>do pure (.int .u8 (←Rtype.kind t))) Tryz.func343 (by kernel_rfl) (by kernel_rfl) (by kernel_rfl) (by kernel_rfl)
 have h37:=@run_callFunc_extern Tryz.prog 352 _ (ReflectliteType.method ReflectliteType.elem) Tryz.func352 (by kernel_rfl) (by kernel_rfl) (by kernel_rfl) (by kernel_rfl)
 have h38:=@run_callFunc_extern Tryz.prog 353 _ (ReflectliteType.relation "Implements" ReflectliteType.implements_) Tryz.func353 (by kernel_rfl) (by kernel_rfl) (by kernel_rfl) (by kernel_rfl)
 have h10:=@run_callFunc_extern Tryz.prog 44 _ ReflectliteType.typeOf Tryz.func44 (by kernel_rfl) (by kernel_rfl) (by kernel_rfl) (by kernel_rfl)
 have h35:=@run_callFunc_extern Tryz.prog 350 _ (ReflectliteType.relation "AssignableTo" ReflectliteType.assignableTo) Tryz.func350 (by kernel_rfl) (by kernel_rfl) (by kernel_rfl) (by kernel_rfl)
 have h11:=@run_callFunc_extern Tryz.prog 234 _ (ReflectliteValue.method (ReflectliteValue.valueError "reflectlite.Value.Elem" 0) ReflectliteValue.elem) Tryz.func234 (by kernel_rfl) (by kernel_rfl) (by kernel_rfl) (by kernel_rfl)
 have h12:=@run_callFunc_extern Tryz.prog 235 _ ReflectliteValue.set Tryz.func235 (by kernel_rfl) (by kernel_rfl) (by kernel_rfl) (by kernel_rfl)
 have tO:=aJt
 have mA:=wJ
 have aE:=aV2
 have vE:=aKc
 have f6:=aGe
 have f7:=aO0
 have mK:=aVj
 have mE:=aU2
 have mI:=wX
 have kP:=aOp
 have kE:=aUu
 have eP:=aP1
 have iE:=aVm
 have hlt:0<w.heap.size:=by
  rcases Nat.lt_or_ge 0 w.heap.size with h|h
  ·exact h
  ·simp [World.cell?,Array.getElem?_eq_none h] at hg
 have htl:t.block<w.heap.size:=by
  rcases Nat.lt_or_ge t.block w.heap.size with h|h
  ·exact h
  ·simp [World.cell?,Array.getElem?_eq_none h] at ht0
 have n8:=aJ7 ⟨w.heap.size,0,none⟩ t (pN w t) (by simp [pN])
 have hg2:(pN w t).cell? ⟨0,0,none⟩=some (.iface 176 (.agg #[.pointer (some ⟨4,53,none⟩)])):=by
  unfold pN
  rw [World.cell?_alloc_lt _ _ ⟨0,0,none⟩ (by first|(simp;done)|(simp;omega)),World.cell?_alloc_lt _ _ ⟨0,0,none⟩ hlt];exact hg
 have el:=aKp ⟨w.heap.size,0,none⟩ t (aBn w t) (by unfold aBn;rw [World.cell?_alloc_lt _ _ ⟨w.heap.size,0,none⟩ (by first|(simp [pN];done)|(simp [pN];omega))];simp [pN])
 have st:=bBz t ⟨w.heap.size+1+1+1,0,none⟩ n old ((aBn w t).alloc (.cells #[.int .i64 n] 41))
  (by rw [World.cell?_alloc_at _ _ _ _ (by simp [aBn,pN])];rfl)
  (by unfold aBn pN;rw [World.cell?_alloc_lt _ _ t (by simp;omega),World.cell?_alloc_lt _ _ t (by simp;omega),World.cell?_alloc_lt _ _ t (by simp;omega),World.cell?_alloc_lt _ _ t htl];exact ht0)
  (by unfold aBn pN;rw [World.frozen?_alloc_old _ _ t (by simp;omega),World.frozen?_alloc_old _ _ t (by simp;omega),World.frozen?_alloc_old _ _ t (by simp;omega),World.frozen?_alloc_old _ _ t (Nat.ne_of_lt htl)];exact hf0)
 unfold aBn pN at el st
 unfold pN at n8 hg2
 go_enter Tryz.func102,Tryz.ntmps102
 go_wp2
 refine wp_loop_rounds 1 ?_
 rw [rounds_succ]
 go_wp2
 go_ret
 refine ⟨rfl,((((Go.K.Ext.alloc _ _).trans (Go.K.Ext.alloc _ _)).trans (Go.K.Ext.alloc _ _)).trans (Go.K.Ext.alloc _ _)).chg (Go.K.Chg.setCell _ t _),World.cell?_setCell_same _ _ _ (u:=old) ?_⟩
 rw [World.cell?_alloc_lt _ _ t (by simp;omega),World.cell?_alloc_lt _ _ t (by simp;omega),World.cell?_alloc_lt _ _ t (by simp;omega),World.cell?_alloc_lt _ _ t htl];exact ht0
end
section
open Go Go.RowKit Go.Extern.Stop Go.Stop Go.Extern
theorem bOy (v:Value) (xT:TypeId) (w:World):(Instr.typeAssert (.iface 202 v) xT 332 true).run Tryz.prog w=.ok (.tuple #[.nilIface,.bool false]) w:=run_typeAssert_lacksB Tryz.underlying332 (by kernel_rfl) (by kernel_rfl) v xT w
theorem bEl (v:Value) (xT:TypeId) (w:World):(Instr.typeAssert (.iface 202 v) xT 181 true).run Tryz.prog w=.ok (.tuple #[.iface 202 v,.bool true]) w:=run_typeAssert_hasB Tryz.underlying181 (by kernel_rfl) v xT w
theorem aTf (v:Value) (w:World):(Go.method 534 202 v "Unwrap").run Tryz.prog w=.ok (361,v) w:=by kernel_rfl
theorem bJ {w:World} {o:Obj} {a:Addr} {v:Value} (h:w.cell? a=some v):(w.alloc o).cell? a=some v:=by
 have hlt:a.block<w.heap.size:=Go.K.cell_lt h
 rw [World.cell?_alloc_lt _ _ a hlt];exact h
theorem vA {w:World} {o:Obj} {a:Addr} {v:Value} (h:w.cell? a=some v) (hf:w.frozen? a=false):(w.alloc o).frozen? a=false:=by
 have hlt:a.block<w.heap.size:=Go.K.cell_lt h
 rw [World.frozen?_alloc_old _ _ a (Nat.ne_of_lt hlt)];exact hf
set_option maxHeartbeats 8000000 in
set_option maxRecDepth 20000 in
theorem bJg (n:Int) (b1:Nat) (t:Addr) (old:Value) (w:World) (hg:w.cell? ⟨0,0,none⟩=some (.iface 176 (.agg #[.pointer (some ⟨4,53,none⟩)]))) (hc1:w.cell? ⟨b1,1,none⟩=some (.iface 41 (.int .i64 n))) (ht0:w.cell? t=some old) (hf0:w.frozen? t=false):
  Calls Tryz.prog 102 #[.iface 202 (.pointer (some ⟨b1,0,none⟩)),.iface 201 (.pointer (some t))] w fun ev w'=>ev=.returned (.bool true)∧Go.K.Chg [t.block] w w'∧w'.cell? t=some (.int .i64 n):=by
 have h6:=@run_callFunc_extern Tryz.prog 157 _ (fun args=>ReflectliteValue.unpack (args.getD 0 (.tuple #[]))) Tryz.func157 (by kernel_rfl) (by kernel_rfl) (by kernel_rfl) (by kernel_rfl)
 have h7:=@run_callFunc_extern Tryz.prog 158 _ (ReflectliteValue.methodAny (ReflectliteValue.valueError "reflectlite.Value.Type" 0) (fun t _ _ _=>ReflectliteType.toType t)) Tryz.func158 (by kernel_rfl) (by kernel_rfl) (by kernel_rfl) (by kernel_rfl)
 have h8:=@run_callFunc_extern Tryz.prog 159 _ (ReflectliteValue.method (ReflectliteValue.valueError "reflectlite.Value.IsNil" 0) ReflectliteValue.isNil) Tryz.func159 (by kernel_rfl) (by kernel_rfl) (by kernel_rfl) (by kernel_rfl)
 have h27:=@run_callFunc_extern Tryz.prog 343 _ (ReflectliteType.abiMethod fun t=>do pure (.int .u8 (←Rtype.kind t))) Tryz.func343 (by kernel_rfl) (by kernel_rfl) (by kernel_rfl) (by kernel_rfl)
 have h37:=@run_callFunc_extern Tryz.prog 352 _ (ReflectliteType.method ReflectliteType.elem) Tryz.func352 (by kernel_rfl) (by kernel_rfl) (by kernel_rfl) (by kernel_rfl)
 have h38:=@run_callFunc_extern Tryz.prog 353 _ (ReflectliteType.relation "Implements" ReflectliteType.implements_) Tryz.func353 (by kernel_rfl) (by kernel_rfl) (by kernel_rfl) (by kernel_rfl)
 have h10:=@run_callFunc_extern Tryz.prog 44 _ ReflectliteType.typeOf Tryz.func44 (by kernel_rfl) (by kernel_rfl) (by kernel_rfl) (by kernel_rfl)
 have h35:=@run_callFunc_extern Tryz.prog 350 _ (ReflectliteType.relation "AssignableTo" ReflectliteType.assignableTo) Tryz.func350 (by kernel_rfl) (by kernel_rfl) (by kernel_rfl) (by kernel_rfl)
 have h11:=@run_callFunc_extern Tryz.prog 234 _ (ReflectliteValue.method (ReflectliteValue.valueError "reflectlite.Value.Elem" 0) ReflectliteValue.elem) Tryz.func234 (by kernel_rfl) (by kernel_rfl) (by kernel_rfl) (by kernel_rfl)
 have h12:=@run_callFunc_extern Tryz.prog 235 _ ReflectliteValue.set Tryz.func235 (by kernel_rfl) (by kernel_rfl) (by kernel_rfl) (by kernel_rfl)
 have tO:=aJt
 have tF:=aSv
 have mA:=wJ
 have aE:=aV2
 have aF:=bE8
 have nF:=bOy
 have uF:=bEl
 have mU:=aTf
 have vE:=aKc
 have f6:=aGe
 have f7:=aO0
 have mK:=aVj
 have mE:=aU2
 have mI:=wX
 have kP:=aOp
 have kE:=aUu
 have eP:=aP1
 have iE:=aVm
 have n8:=aJ7 ⟨w.heap.size,0,none⟩ t (pN w t) (by simp [pN])
 have hg2:(pN w t).cell? ⟨0,0,none⟩=_:=bJ (bJ hg)
 have el:=aKp ⟨w.heap.size,0,none⟩ t (aBn w t) (bJ (by simp [pN]))
 have hu3:(aBn w t).cell? ⟨b1,1,none⟩=_:=bJ (bJ (bJ hc1))
 have st:=bBz t ⟨w.heap.size+1+1+1,0,none⟩ n old ((aBn w t).alloc (.cells #[.int .i64 n] 41))
  (by rw [World.cell?_alloc_at _ _ _ _ (by simp [aBn,pN])];rfl) (bJ (bJ (bJ (bJ ht0)))) (vA (bJ (bJ (bJ ht0))) (vA (bJ (bJ ht0)) (vA (bJ ht0) (vA ht0 hf0))))
 unfold aBn pN at el st hu3
 unfold pN at n8 hg2
 go_enter Tryz.func102,Tryz.ntmps102
 go_wp2
 refine wp_loop_rounds 2 ?_
 rw [rounds_succ]
 go_wp2
 rw [rounds_succ]
 go_wp2
 go_ret
 refine ⟨rfl,((((Go.K.Ext.alloc _ _).trans (Go.K.Ext.alloc _ _)).trans (Go.K.Ext.alloc _ _)).trans (Go.K.Ext.alloc _ _)).chg (Go.K.Chg.setCell _ t _),World.cell?_setCell_same _ _ _ (u:=old) (bJ (bJ (bJ (bJ ht0))))⟩
end
end Go.Proofs.YteceapipdhnhdaaGreatDoor
