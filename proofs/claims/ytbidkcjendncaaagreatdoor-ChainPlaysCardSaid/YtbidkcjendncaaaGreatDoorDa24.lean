/- Contracts: errors.As at a variable of a number: the number itself. Contracts: errors.As at a variable of a number: faults that wrap a number. Contracts: errors.Is of faults that wrap equal numbers. Contracts: errors.As at a variable of a number: faults that wrap faults. Contracts: errors.As at a variable of a fault. Contracts: an error's number and place. Contracts: how many coins a set has. Contr -/
import Derived.Test.YtbidkcjendncaaaGreatDoorDa23
set_option linter.unusedVariables false
set_option linter.unusedSimpArgs false
section
namespace Go.Proofs.YtbidkcjendncaaaGreatDoor
open Go Go.RowKit Go.Extern.Stop Go.Stop Go.Extern
theorem asElemOfPE (w:World):(Rtype.elem? 153).run Tryz.prog w=.ok (some 40) w:=by kernel_rfl
theorem asMkE (p:Addr) (w:World):(ReflectliteValue.mk 40 p ReflectliteValue.flagAddr).run Tryz.prog w=.ok (.agg #[.pointer (some ⟨4,40,none⟩),.pointer (some p),.int .u64 386]) w:=by kernel_rfl
theorem asElemVPE (a p:Addr) (W:World) (ha:W.cell? a=some (.pointer (some p))):
  (ReflectliteValue.method (ReflectliteValue.valueError "reflectlite.Value.Elem" 0) ReflectliteValue.elem #[.agg #[.pointer (some ⟨4,153,none⟩),.pointer (some a),.int .u64 150]]).run Tryz.prog W
   =.ok (.agg #[.pointer (some ⟨4,40,none⟩),.pointer (some p),.int .u64 386]) W:=by
 rw [rlmA]
 simp only [Sem.run_bind,asPartsPE,Result.andThen]
 simp [ReflectliteValue.elem,loadVar,isAgg,underlying,Tryz.underlying153,ha,Result.andThen,asElemOfPE,asMkE]
theorem rlsA (v x:Value):ReflectliteValue.set #[v,x]=(do
  let (some (dst,a,fl),some (src,b,_)):=(←ReflectliteValue.parts v,←ReflectliteValue.parts x)
   |unsupported (.noEntry "extern/(internal/reflectlite.Value).Set.zeroValue")
  if fl / ReflectliteValue.flagAddr%2==0 then unsupported (.noEntry "extern/(internal/reflectlite.Value).Set.unaddressable")
  let val ←loadVar src b
  if ←Rtype.directlyAssignable dst src then storeVar dst a val
  else if ←Rtype.implements dst src then
   if (←Rtype.kind src)==20 then
    match val with
    |.nilIface=>unsupported (.noEntry "extern/reflectlite: a nil value of one interface type handed on as a value of another")
    |_=>storeVar dst a val
   else storeVar dst a (.iface src val)
  else panicString ("reflectlite.Set: value of type " ++(←Rtype.spelt src)++ " is not assignable to type " ++(←Rtype.spelt dst))
  pure (.tuple #[])):=rfl
theorem asPartsEa (a:Addr) (w:World):(ReflectliteValue.parts (.agg #[.pointer (some ⟨4,40,none⟩),.pointer (some a),.int .u64 386])).run Tryz.prog w=.ok (some (40,a,386)) w:=by kernel_rfl
theorem asPartsE (a:Addr) (w:World):(ReflectliteValue.parts (.agg #[.pointer (some ⟨4,40,none⟩),.pointer (some a),.int .u64 130])).run Tryz.prog w=.ok (some (40,a,130)) w:=by kernel_rfl
theorem asDirectE (w:World):(Rtype.directlyAssignable 40 40).run Tryz.prog w=.ok true w:=by kernel_rfl
theorem asSetE (ta b:Addr) (n:Int) (old:Value) (W:World) (hb:W.cell? b=some (.int .i64 n)) (ht:W.cell? ta=some old) (hf:W.frozen? ta=false):
  (ReflectliteValue.set #[.agg #[.pointer (some ⟨4,40,none⟩),.pointer (some ta),.int .u64 386],.agg #[.pointer (some ⟨4,40,none⟩),.pointer (some b),.int .u64 130]]).run Tryz.prog W
   =.ok (.tuple #[]) (W.setCell ta (.int .i64 n)):=by
 rw [rlsA]
 simp only [Sem.run_bind,asPartsEa,asPartsE,Result.andThen]
 simp [ReflectliteValue.flagAddr,loadVar,isAgg,underlying,Tryz.underlying40,hb,Result.andThen,asDirectE,storeVar,Value.cells,storeCells,Addr.add]
 rw [run_store Tryz.prog W ta _ _ (by rfl)]
 simp [ht,hf]
def asW2 (w:World) (t:Addr):World:=(w.alloc (.cells #[.pointer (some t)] 153)).alloc (.cells #[.pointer (some ⟨4,153,none⟩),.pointer (some ⟨w.heap.size,0,none⟩),.int .u64 150] 222)
def asW3 (w:World) (t:Addr):World:=(asW2 w t).alloc (.cells #[.pointer (some ⟨4,153,none⟩),.pointer (some ⟨w.heap.size,0,none⟩),.int .u64 150] 222)
set_option maxHeartbeats 4000000 in
theorem as_hitE (n:Int) (t:Addr) (old:Value) (w:World) (hg:w.cell? ⟨0,0,none⟩=some (.iface 230 (.agg #[.pointer (some ⟨4,35,none⟩)]))) (ht0:w.cell? t=some old) (hf0:w.frozen? t=false):
  Calls Tryz.prog 70 #[.iface 40 (.int .i64 n),.iface 153 (.pointer (some t))] w fun ev w'=>ev=.returned (.bool true)∧Go.K.Chg [t.block] w w'∧w'.cell? t=some (.int .i64 n):=by
 have h6:=@run_callFunc_extern Tryz.prog 119 _ (fun args=>ReflectliteValue.unpack (args.getD 0 (.tuple #[]))) Tryz.func119 (by kernel_rfl) (by kernel_rfl) (by kernel_rfl) (by kernel_rfl)
 have h7:=@run_callFunc_extern Tryz.prog 120 _ (ReflectliteValue.methodAny (ReflectliteValue.valueError "reflectlite.Value.Type" 0) (fun t _ _ _=>ReflectliteType.toType t)) Tryz.func120 (by kernel_rfl) (by kernel_rfl) (by kernel_rfl) (by kernel_rfl)
 have h8:=@run_callFunc_extern Tryz.prog 121 _ (ReflectliteValue.method (ReflectliteValue.valueError "reflectlite.Value.IsNil" 0) ReflectliteValue.isNil) Tryz.func121 (by kernel_rfl) (by kernel_rfl) (by kernel_rfl) (by kernel_rfl)
 have h27:=@run_callFunc_extern Tryz.prog 313 _ (ReflectliteType.abiMethod fun t=>do pure (.int .u8 (←Rtype.kind t))) Tryz.func313 (by kernel_rfl) (by kernel_rfl) (by kernel_rfl) (by kernel_rfl)
 have h37:=@run_callFunc_extern Tryz.prog 325 _ (ReflectliteType.method ReflectliteType.elem) Tryz.func325 (by kernel_rfl) (by kernel_rfl) (by kernel_rfl) (by kernel_rfl)
 have h38:=@run_callFunc_extern Tryz.prog 326 _ (ReflectliteType.relation "Implements" ReflectliteType.implements_) Tryz.func326 (by kernel_rfl) (by kernel_rfl) (by kernel_rfl) (by kernel_rfl)
 have h10:=@run_callFunc_extern Tryz.prog 72 _ ReflectliteType.typeOf Tryz.func72 (by kernel_rfl) (by kernel_rfl) (by kernel_rfl) (by kernel_rfl)
 have h35:=@run_callFunc_extern Tryz.prog 323 _ (ReflectliteType.relation "AssignableTo" ReflectliteType.assignableTo) Tryz.func323 (by kernel_rfl) (by kernel_rfl) (by kernel_rfl) (by kernel_rfl)
 have h11:=@run_callFunc_extern Tryz.prog 192 _ (ReflectliteValue.method (ReflectliteValue.valueError "reflectlite.Value.Elem" 0) ReflectliteValue.elem) Tryz.func192 (by kernel_rfl) (by kernel_rfl) (by kernel_rfl) (by kernel_rfl)
 have h12:=@run_callFunc_extern Tryz.prog 193 _ ReflectliteValue.set Tryz.func193 (by kernel_rfl) (by kernel_rfl) (by kernel_rfl) (by kernel_rfl)
 have tO:=asTypeOfE
 have mA:=asMAssignable
 have aE:=asAssEE
 have vE:=asUnpackE
 have f6:=asUnpackPE
 have f7:=asTypePE
 have mK:=asMKind
 have mE:=asMElem
 have mI:=asMImplements
 have kP:=asKindPE
 have kE:=asKindE
 have eP:=asElemPE
 have iE:=asImplE
 have hlt:0<w.heap.size:=by
  rcases Nat.lt_or_ge 0 w.heap.size with h|h
  ·exact h
  ·simp [World.cell?,Array.getElem?_eq_none h] at hg
 have htl:t.block<w.heap.size:=by
  rcases Nat.lt_or_ge t.block w.heap.size with h|h
  ·exact h
  ·simp [World.cell?,Array.getElem?_eq_none h] at ht0
 have n8:=asIsNilPE ⟨w.heap.size,0,none⟩ t (asW2 w t) (by simp [asW2])
 have hg2:(asW2 w t).cell? ⟨0,0,none⟩=some (.iface 230 (.agg #[.pointer (some ⟨4,35,none⟩)])):=by
  unfold asW2
  rw [World.cell?_alloc_lt _ _ ⟨0,0,none⟩ (by first|(simp;done)|(simp;omega)),World.cell?_alloc_lt _ _ ⟨0,0,none⟩ hlt];exact hg
 have el:=asElemVPE ⟨w.heap.size,0,none⟩ t (asW3 w t) (by unfold asW3;rw [World.cell?_alloc_lt _ _ ⟨w.heap.size,0,none⟩ (by first|(simp [asW2];done)|(simp [asW2];omega))];simp [asW2])
 have st:=asSetE t ⟨w.heap.size+1+1+1,0,none⟩ n old ((asW3 w t).alloc (.cells #[.int .i64 n] 40))
  (by rw [World.cell?_alloc_at _ _ _ _ (by simp [asW3,asW2])];rfl)
  (by unfold asW3 asW2;rw [World.cell?_alloc_lt _ _ t (by simp;omega),World.cell?_alloc_lt _ _ t (by simp;omega),World.cell?_alloc_lt _ _ t (by simp;omega),World.cell?_alloc_lt _ _ t htl];exact ht0)
  (by unfold asW3 asW2;rw [World.frozen?_alloc_old _ _ t (by simp;omega),World.frozen?_alloc_old _ _ t (by simp;omega),World.frozen?_alloc_old _ _ t (by simp;omega),World.frozen?_alloc_old _ _ t (Nat.ne_of_lt htl)];exact hf0)
 unfold asW3 asW2 at el st
 unfold asW2 at n8 hg2
 go_enter Tryz.func70,Tryz.ntmps70
 go_wp2
 refine wp_loop_rounds 1 ?_
 rw [rounds_succ]
 go_wp2
 go_ret
 refine ⟨rfl,((((Go.K.Ext.alloc _ _).trans (Go.K.Ext.alloc _ _)).trans (Go.K.Ext.alloc _ _)).trans (Go.K.Ext.alloc _ _)).chg (Go.K.Chg.setCell _ t _),World.cell?_setCell_same _ _ _ (u:=old) ?_⟩
 rw [World.cell?_alloc_lt _ _ t (by simp;omega),World.cell?_alloc_lt _ _ t (by simp;omega),World.cell?_alloc_lt _ _ t (by simp;omega),World.cell?_alloc_lt _ _ t htl];exact ht0
end Go.Proofs.YtbidkcjendncaaaGreatDoor
end
section
namespace Go.Proofs.YtbidkcjendncaaaGreatDoor
open Go Go.RowKit Go.Extern.Stop Go.Stop Go.Extern
theorem noAsF (v:Value) (xT:TypeId) (w:World):(Instr.typeAssert (.iface 136 v) xT 304 true).run Tryz.prog w=.ok (.tuple #[.nilIface,.bool false]) w:=run_typeAssert_lacksB Tryz.underlying304 (by kernel_rfl) (by kernel_rfl) v xT w
theorem unwrapF (v:Value) (xT:TypeId) (w:World):(Instr.typeAssert (.iface 136 v) xT 235 true).run Tryz.prog w=.ok (.tuple #[.iface 136 v,.bool true]) w:=run_typeAssert_hasB Tryz.underlying235 (by kernel_rfl) v xT w
theorem asMUnwrap (v:Value) (w:World):(Go.method 509 136 v "Unwrap").run Tryz.prog w=.ok (318,v) w:=by kernel_rfl
theorem cell_al {w:World} {o:Obj} {a:Addr} {v:Value} (h:w.cell? a=some v):(w.alloc o).cell? a=some v:=by
 have hlt:a.block<w.heap.size:=Go.K.cell_lt h
 rw [World.cell?_alloc_lt _ _ a hlt];exact h
theorem froz_al {w:World} {o:Obj} {a:Addr} {v:Value} (h:w.cell? a=some v) (hf:w.frozen? a=false):(w.alloc o).frozen? a=false:=by
 have hlt:a.block<w.heap.size:=Go.K.cell_lt h
 rw [World.frozen?_alloc_old _ _ a (Nat.ne_of_lt hlt)];exact hf
set_option maxHeartbeats 8000000 in
set_option maxRecDepth 20000 in
theorem as_hitE1 (n:Int) (b1:Nat) (t:Addr) (old:Value) (w:World) (hg:w.cell? ⟨0,0,none⟩=some (.iface 230 (.agg #[.pointer (some ⟨4,35,none⟩)]))) (hc1:w.cell? ⟨b1,1,none⟩=some (.iface 40 (.int .i64 n))) (ht0:w.cell? t=some old) (hf0:w.frozen? t=false):
  Calls Tryz.prog 70 #[.iface 136 (.pointer (some ⟨b1,0,none⟩)),.iface 153 (.pointer (some t))] w fun ev w'=>ev=.returned (.bool true)∧Go.K.Chg [t.block] w w'∧w'.cell? t=some (.int .i64 n):=by
 have h6:=@run_callFunc_extern Tryz.prog 119 _ (fun args=>ReflectliteValue.unpack (args.getD 0 (.tuple #[]))) Tryz.func119 (by kernel_rfl) (by kernel_rfl) (by kernel_rfl) (by kernel_rfl)
 have h7:=@run_callFunc_extern Tryz.prog 120 _ (ReflectliteValue.methodAny (ReflectliteValue.valueError "reflectlite.Value.Type" 0) (fun t _ _ _=>ReflectliteType.toType t)) Tryz.func120 (by kernel_rfl) (by kernel_rfl) (by kernel_rfl) (by kernel_rfl)
 have h8:=@run_callFunc_extern Tryz.prog 121 _ (ReflectliteValue.method (ReflectliteValue.valueError "reflectlite.Value.IsNil" 0) ReflectliteValue.isNil) Tryz.func121 (by kernel_rfl) (by kernel_rfl) (by kernel_rfl) (by kernel_rfl)
 have h27:=@run_callFunc_extern Tryz.prog 313 _ (ReflectliteType.abiMethod fun t=>do pure (.int .u8 (←Rtype.kind t))) Tryz.func313 (by kernel_rfl) (by kernel_rfl) (by kernel_rfl) (by kernel_rfl)
 have h37:=@run_callFunc_extern Tryz.prog 325 _ (ReflectliteType.method ReflectliteType.elem) Tryz.func325 (by kernel_rfl) (by kernel_rfl) (by kernel_rfl) (by kernel_rfl)
 have h38:=@run_callFunc_extern Tryz.prog 326 _ (ReflectliteType.relation "Implements" ReflectliteType.implements_) Tryz.func326 (by kernel_rfl) (by kernel_rfl) (by kernel_rfl) (by kernel_rfl)
 have h10:=@run_callFunc_extern Tryz.prog 72 _ ReflectliteType.typeOf Tryz.func72 (by kernel_rfl) (by kernel_rfl) (by kernel_rfl) (by kernel_rfl)
 have h35:=@run_callFunc_extern Tryz.prog 323 _ (ReflectliteType.relation "AssignableTo" ReflectliteType.assignableTo) Tryz.func323 (by kernel_rfl) (by kernel_rfl) (by kernel_rfl) (by kernel_rfl)
 have h11:=@run_callFunc_extern Tryz.prog 192 _ (ReflectliteValue.method (ReflectliteValue.valueError "reflectlite.Value.Elem" 0) ReflectliteValue.elem) Tryz.func192 (by kernel_rfl) (by kernel_rfl) (by kernel_rfl) (by kernel_rfl)
 have h12:=@run_callFunc_extern Tryz.prog 193 _ ReflectliteValue.set Tryz.func193 (by kernel_rfl) (by kernel_rfl) (by kernel_rfl) (by kernel_rfl)
 have tO:=asTypeOfE
 have tF:=asTypeOfF
 have mA:=asMAssignable
 have aE:=asAssEE
 have aF:=asAssFE
 have nF:=noAsF
 have uF:=unwrapF
 have mU:=asMUnwrap
 have vE:=asUnpackE
 have f6:=asUnpackPE
 have f7:=asTypePE
 have mK:=asMKind
 have mE:=asMElem
 have mI:=asMImplements
 have kP:=asKindPE
 have kE:=asKindE
 have eP:=asElemPE
 have iE:=asImplE
 have n8:=asIsNilPE ⟨w.heap.size,0,none⟩ t (asW2 w t) (by simp [asW2])
 have hg2:(asW2 w t).cell? ⟨0,0,none⟩=_:=cell_al (cell_al hg)
 have el:=asElemVPE ⟨w.heap.size,0,none⟩ t (asW3 w t) (cell_al (by simp [asW2]))
 have hu3:(asW3 w t).cell? ⟨b1,1,none⟩=_:=cell_al (cell_al (cell_al hc1))
 have st:=asSetE t ⟨w.heap.size+1+1+1,0,none⟩ n old ((asW3 w t).alloc (.cells #[.int .i64 n] 40))
  (by rw [World.cell?_alloc_at _ _ _ _ (by simp [asW3,asW2])];rfl) (cell_al (cell_al (cell_al (cell_al ht0)))) (froz_al (cell_al (cell_al (cell_al ht0))) (froz_al (cell_al (cell_al ht0)) (froz_al (cell_al ht0) (froz_al ht0 hf0))))
 unfold asW3 asW2 at el st hu3
 unfold asW2 at n8 hg2
 go_enter Tryz.func70,Tryz.ntmps70
 go_wp2
 refine wp_loop_rounds 2 ?_
 rw [rounds_succ]
 go_wp2
 rw [rounds_succ]
 go_wp2
 go_ret
 refine ⟨rfl,((((Go.K.Ext.alloc _ _).trans (Go.K.Ext.alloc _ _)).trans (Go.K.Ext.alloc _ _)).trans (Go.K.Ext.alloc _ _)).chg (Go.K.Chg.setCell _ t _),World.cell?_setCell_same _ _ _ (u:=old) (cell_al (cell_al (cell_al (cell_al ht0))))⟩
end Go.Proofs.YtbidkcjendncaaaGreatDoor
end
section
namespace Go.Proofs.YtbidkcjendncaaaGreatDoor
open Go Go.RowKit Go.Extern.Stop Go.Stop Go.Extern
theorem noIsF (v:Value) (xT:TypeId) (w:World):(Instr.typeAssert (.iface 136 v) xT 232 true).run Tryz.prog w=.ok (.tuple #[.nilIface,.bool false]) w:=run_typeAssert_lacksB Tryz.underlying232 (by kernel_rfl) (by kernel_rfl) v xT w
set_option maxRecDepth 20000 in
theorem is_fault1 (a:Int) (b1:Nat) (w:World) (hc1:w.cell? ⟨b1,1,none⟩=some (.iface 40 (.int .i64 a))):
  Calls Tryz.prog 32 #[.iface 136 (.pointer (some ⟨b1,0,none⟩)),.iface 40 (.int .i64 a)] w fun e w'=>e=.returned (.bool true)∧w'=w:=by
 have h8:=@run_callFunc_extern Tryz.prog 72 _ Extern.ReflectliteType.typeOf Tryz.func72 (by kernel_rfl) (by kernel_rfl) (by kernel_rfl) (by kernel_rfl)
 have h32:=@run_callFunc_extern Tryz.prog 324 _ (Extern.ReflectliteType.method fun t=>do Extern.Rtype.noPackHeld "Comparable" t;pure (.bool (←typeInfo t).comparable)) Tryz.func324 (by kernel_rfl) (by kernel_rfl) (by kernel_rfl) (by kernel_rfl)
 have tT:=isTypeOf
 have cT:=isComparable
 have mR:=isMethodComparable
 have heq:=Go.Lib.run_eql_iface_int (P:=Tryz.prog) w (t:=35) (tx:=40) (k:=.i64) (q:=.i64) a a Tryz.underlying35 (by kernel_rfl) Tryz.underlying40
 have hne:=run_eql_iface_types (P:=Tryz.prog) (ti:=35) 136 40 (.pointer (some ⟨b1,0,none⟩)) (.int .i64 a) Tryz.underlying35 (by decide) w
 have nF:=noIsF
 have uF:=unwrapF
 have mU:=asMUnwrap
 go_enter Tryz.func32,Tryz.ntmps32
 go_wp2
 refine wp_loop_rounds 2 ?_
 rw [rounds_succ]
 go_wp2
 rw [rounds_succ]
 go_wp2
 go_ret
 exact ⟨rfl,rfl⟩
theorem errIs_fault1 (a:Int) (b1:Nat) (w:World) (hc1:w.cell? ⟨b1,1,none⟩=some (.iface 40 (.int .i64 a))):K.Spec Tryz.prog 32 [.iface 136 (.pointer (some ⟨b1,0,none⟩)),.iface 40 (.int .i64 a)] w fun v w'=>v=.bool true∧w'=w:=
 Calls.mono (is_fault1 a b1 w hc1) fun _ _ h=>⟨_,h.1,rfl,h.2⟩
end Go.Proofs.YtbidkcjendncaaaGreatDoor
end
section
namespace Go.Proofs.YtbidkcjendncaaaGreatDoor
open Go Go.RowKit Go.Extern.Stop Go.Stop Go.Extern
set_option maxHeartbeats 8000000 in
set_option maxRecDepth 20000 in
theorem as_hitE2 (n:Int) (b1 b2:Nat) (t:Addr) (old:Value) (w:World) (hg:w.cell? ⟨0,0,none⟩=some (.iface 230 (.agg #[.pointer (some ⟨4,35,none⟩)]))) (hc1:w.cell? ⟨b1,1,none⟩=some (.iface 136 (.pointer (some ⟨b2,0,none⟩)))) (hc2:w.cell? ⟨b2,1,none⟩=some (.iface 40 (.int .i64 n))) (ht0:w.cell? t=some old) (hf0:w.frozen? t=false):
  Calls Tryz.prog 70 #[.iface 136 (.pointer (some ⟨b1,0,none⟩)),.iface 153 (.pointer (some t))] w fun ev w'=>ev=.returned (.bool true)∧Go.K.Chg [t.block] w w'∧w'.cell? t=some (.int .i64 n):=by
 have h6:=@run_callFunc_extern Tryz.prog 119 _ (fun args=>ReflectliteValue.unpack (args.getD 0 (.tuple #[]))) Tryz.func119 (by kernel_rfl) (by kernel_rfl) (by kernel_rfl) (by kernel_rfl)
 have h7:=@run_callFunc_extern Tryz.prog 120 _ (ReflectliteValue.methodAny (ReflectliteValue.valueError "reflectlite.Value.Type" 0) (fun t _ _ _=>ReflectliteType.toType t)) Tryz.func120 (by kernel_rfl) (by kernel_rfl) (by kernel_rfl) (by kernel_rfl)
 have h8:=@run_callFunc_extern Tryz.prog 121 _ (ReflectliteValue.method (ReflectliteValue.valueError "reflectlite.Value.IsNil" 0) ReflectliteValue.isNil) Tryz.func121 (by kernel_rfl) (by kernel_rfl) (by kernel_rfl) (by kernel_rfl)
 have h27:=@run_callFunc_extern Tryz.prog 313 _ (ReflectliteType.abiMethod fun t=>do pure (.int .u8 (←Rtype.kind t))) Tryz.func313 (by kernel_rfl) (by kernel_rfl) (by kernel_rfl) (by kernel_rfl)
 have h37:=@run_callFunc_extern Tryz.prog 325 _ (ReflectliteType.method ReflectliteType.elem) Tryz.func325 (by kernel_rfl) (by kernel_rfl) (by kernel_rfl) (by kernel_rfl)
 have h38:=@run_callFunc_extern Tryz.prog 326 _ (ReflectliteType.relation "Implements" ReflectliteType.implements_) Tryz.func326 (by kernel_rfl) (by kernel_rfl) (by kernel_rfl) (by kernel_rfl)
 have h10:=@run_callFunc_extern Tryz.prog 72 _ ReflectliteType.typeOf Tryz.func72 (by kernel_rfl) (by kernel_rfl) (by kernel_rfl) (by kernel_rfl)
 have h35:=@run_callFunc_extern Tryz.prog 323 _ (ReflectliteType.relation "AssignableTo" ReflectliteType.assignableTo) Tryz.func323 (by kernel_rfl) (by kernel_rfl) (by kernel_rfl) (by kernel_rfl)
 have h11:=@run_callFunc_extern Tryz.prog 192 _ (ReflectliteValue.method (ReflectliteValue.valueError "reflectlite.Value.Elem" 0) ReflectliteValue.elem) Tryz.func192 (by kernel_rfl) (by kernel_rfl) (by kernel_rfl) (by kernel_rfl)
 have h12:=@run_callFunc_extern Tryz.prog 193 _ ReflectliteValue.set Tryz.func193 (by kernel_rfl) (by kernel_rfl) (by kernel_rfl) (by kernel_rfl)
 have tO:=asTypeOfE
 have tF:=asTypeOfF
 have mA:=asMAssignable
 have aE:=asAssEE
 have aF:=asAssFE
 have nF:=noAsF
 have uF:=unwrapF
 have mU:=asMUnwrap
 have vE:=asUnpackE
 have f6:=asUnpackPE
 have f7:=asTypePE
 have mK:=asMKind
 have mE:=asMElem
 have mI:=asMImplements
 have kP:=asKindPE
 have kE:=asKindE
 have eP:=asElemPE
 have iE:=asImplE
 have n8:=asIsNilPE ⟨w.heap.size,0,none⟩ t (asW2 w t) (by simp [asW2])
 have hg2:(asW2 w t).cell? ⟨0,0,none⟩=_:=cell_al (cell_al hg)
 have el:=asElemVPE ⟨w.heap.size,0,none⟩ t (asW3 w t) (cell_al (by simp [asW2]))
 have hu4:(asW3 w t).cell? ⟨b2,1,none⟩=_:=cell_al (cell_al (cell_al hc2))
 have hu3:(asW3 w t).cell? ⟨b1,1,none⟩=_:=cell_al (cell_al (cell_al hc1))
 have st:=asSetE t ⟨w.heap.size+1+1+1,0,none⟩ n old ((asW3 w t).alloc (.cells #[.int .i64 n] 40))
  (by rw [World.cell?_alloc_at _ _ _ _ (by simp [asW3,asW2])];rfl) (cell_al (cell_al (cell_al (cell_al ht0)))) (froz_al (cell_al (cell_al (cell_al ht0))) (froz_al (cell_al (cell_al ht0)) (froz_al (cell_al ht0) (froz_al ht0 hf0))))
 unfold asW3 asW2 at el st hu3 hu4
 unfold asW2 at n8 hg2
 go_enter Tryz.func70,Tryz.ntmps70
 go_wp2
 refine wp_loop_rounds 3 ?_
 rw [rounds_succ]
 go_wp2
 rw [rounds_succ]
 go_wp2
 rw [rounds_succ]
 go_wp2
 go_ret
 refine ⟨rfl,((((Go.K.Ext.alloc _ _).trans (Go.K.Ext.alloc _ _)).trans (Go.K.Ext.alloc _ _)).trans (Go.K.Ext.alloc _ _)).chg (Go.K.Chg.setCell _ t _),World.cell?_setCell_same _ _ _ (u:=old) (cell_al (cell_al (cell_al (cell_al ht0))))⟩
end Go.Proofs.YtbidkcjendncaaaGreatDoor
end
section
namespace Go.Proofs.YtbidkcjendncaaaGreatDoor
open Go Go.RowKit Go.Extern.Stop Go.Stop Go.Extern
theorem asUnpackPPF (t:Addr) (w:World):(ReflectliteValue.unpack (.iface 154 (.pointer (some t)))).run Tryz.prog w=.ok (.agg #[.pointer (some ⟨4,154,none⟩),.pointer (some ⟨w.heap.size,0,none⟩),.int .u64 150]) (w.alloc (.cells #[.pointer (some t)] 154)):=by kernel_rfl
theorem asTypePPF (a:Addr) (w:World):(ReflectliteValue.methodAny (ReflectliteValue.valueError "reflectlite.Value.Type" 0) (fun t _ _ _=>ReflectliteType.toType t) #[.agg #[.pointer (some ⟨4,154,none⟩),.pointer (some a),.int .u64 150]]).run Tryz.prog w=.ok (.iface 230 (.agg #[.pointer (some ⟨4,154,none⟩)])) w:=by kernel_rfl
theorem asKindPPF (w:World):((ReflectliteType.abiMethod fun t=>(fun a:Nat=>Value.int IntKind.u8 (a:Int))<$>Rtype.kind t) #[.pointer (some ⟨4,154,none⟩)]).run Tryz.prog w=.ok (.int .u8 22) w:=by kernel_rfl
theorem asKindPF (w:World):((ReflectliteType.abiMethod fun t=>(fun a:Nat=>Value.int IntKind.u8 (a:Int))<$>Rtype.kind t) #[.pointer (some ⟨4,136,none⟩)]).run Tryz.prog w=.ok (.int .u8 22) w:=by kernel_rfl
theorem asElemPPF (w:World):(ReflectliteType.method ReflectliteType.elem #[.agg #[.pointer (some ⟨4,154,none⟩)]]).run Tryz.prog w=.ok (.iface 230 (.agg #[.pointer (some ⟨4,136,none⟩)])) w:=by kernel_rfl
theorem asImplF (w:World):(ReflectliteType.relation "Implements" ReflectliteType.implements_ #[.agg #[.pointer (some ⟨4,136,none⟩)],.iface 230 (.agg #[.pointer (some ⟨4,35,none⟩)])]).run Tryz.prog w=.ok (.bool true) w:=by kernel_rfl
theorem asAssFF (w:World):(ReflectliteType.relation "AssignableTo" ReflectliteType.assignableTo #[.agg #[.pointer (some ⟨4,136,none⟩)],.iface 230 (.agg #[.pointer (some ⟨4,136,none⟩)])]).run Tryz.prog w=.ok (.bool true) w:=by kernel_rfl
theorem asAssEF (w:World):(ReflectliteType.relation "AssignableTo" ReflectliteType.assignableTo #[.agg #[.pointer (some ⟨4,40,none⟩)],.iface 230 (.agg #[.pointer (some ⟨4,136,none⟩)])]).run Tryz.prog w=.ok (.bool false) w:=by kernel_rfl
theorem asUnpackF (e:Addr) (w:World):(ReflectliteValue.unpack (.iface 136 (.pointer (some e)))).run Tryz.prog w=.ok (.agg #[.pointer (some ⟨4,136,none⟩),.pointer (some ⟨w.heap.size,0,none⟩),.int .u64 150]) (w.alloc (.cells #[.pointer (some e)] 136)):=by kernel_rfl
theorem asPartsPPF (a:Addr) (w:World):(ReflectliteValue.parts (.agg #[.pointer (some ⟨4,154,none⟩),.pointer (some a),.int .u64 150])).run Tryz.prog w=.ok (some (154,a,150)) w:=by kernel_rfl
theorem asIsNilPPF (a p:Addr) (W:World) (ha:W.cell? a=some (.pointer (some p))):
  (ReflectliteValue.method (ReflectliteValue.valueError "reflectlite.Value.IsNil" 0) ReflectliteValue.isNil #[.agg #[.pointer (some ⟨4,154,none⟩),.pointer (some a),.int .u64 150]]).run Tryz.prog W=.ok (.bool false) W:=by
 rw [rlmA]
 simp only [Sem.run_bind,asPartsPPF,Result.andThen]
 simp [ReflectliteValue.isNil,loadVar,isAgg,underlying,Tryz.underlying154,ha,Result.andThen]
theorem asElemOfPPF (w:World):(Rtype.elem? 154).run Tryz.prog w=.ok (some 136) w:=by kernel_rfl
theorem asMkF (p:Addr) (w:World):(ReflectliteValue.mk 136 p ReflectliteValue.flagAddr).run Tryz.prog w=.ok (.agg #[.pointer (some ⟨4,136,none⟩),.pointer (some p),.int .u64 406]) w:=by kernel_rfl
theorem asElemVPPF (a p:Addr) (W:World) (ha:W.cell? a=some (.pointer (some p))):
  (ReflectliteValue.method (ReflectliteValue.valueError "reflectlite.Value.Elem" 0) ReflectliteValue.elem #[.agg #[.pointer (some ⟨4,154,none⟩),.pointer (some a),.int .u64 150]]).run Tryz.prog W
   =.ok (.agg #[.pointer (some ⟨4,136,none⟩),.pointer (some p),.int .u64 406]) W:=by
 rw [rlmA]
 simp only [Sem.run_bind,asPartsPPF,Result.andThen]
 simp [ReflectliteValue.elem,loadVar,isAgg,underlying,Tryz.underlying154,ha,Result.andThen,asElemOfPPF,asMkF]
theorem asPartsFa (a:Addr) (w:World):(ReflectliteValue.parts (.agg #[.pointer (some ⟨4,136,none⟩),.pointer (some a),.int .u64 406])).run Tryz.prog w=.ok (some (136,a,406)) w:=by kernel_rfl
theorem asPartsF (a:Addr) (w:World):(ReflectliteValue.parts (.agg #[.pointer (some ⟨4,136,none⟩),.pointer (some a),.int .u64 150])).run Tryz.prog w=.ok (some (136,a,150)) w:=by kernel_rfl
theorem asDirectF (w:World):(Rtype.directlyAssignable 136 136).run Tryz.prog w=.ok true w:=by kernel_rfl
theorem asSetF (ta b e:Addr) (old:Value) (W:World) (hb:W.cell? b=some (.pointer (some e))) (ht:W.cell? ta=some old) (hf:W.frozen? ta=false):
  (ReflectliteValue.set #[.agg #[.pointer (some ⟨4,136,none⟩),.pointer (some ta),.int .u64 406],.agg #[.pointer (some ⟨4,136,none⟩),.pointer (some b),.int .u64 150]]).run Tryz.prog W
   =.ok (.tuple #[]) (W.setCell ta (.pointer (some e))):=by
 rw [rlsA]
 simp only [Sem.run_bind,asPartsFa,asPartsF,Result.andThen]
 simp [ReflectliteValue.flagAddr,loadVar,isAgg,underlying,Tryz.underlying136,hb,Result.andThen,asDirectF,storeVar,Value.cells,storeCells,Addr.add]
 rw [run_store Tryz.prog W ta _ _ (by rfl)]
 simp [ht,hf]
theorem noAsE (v:Value) (xT:TypeId) (w:World):(Instr.typeAssert (.iface 40 v) xT 304 true).run Tryz.prog w=.ok (.tuple #[.nilIface,.bool false]) w:=run_typeAssert_lacksB Tryz.underlying304 (by kernel_rfl) (by kernel_rfl) v xT w
def asX2 (w:World) (t:Addr):World:=(w.alloc (.cells #[.pointer (some t)] 154)).alloc (.cells #[.pointer (some ⟨4,154,none⟩),.pointer (some ⟨w.heap.size,0,none⟩),.int .u64 150] 222)
def asX3 (w:World) (t:Addr):World:=(asX2 w t).alloc (.cells #[.pointer (some ⟨4,154,none⟩),.pointer (some ⟨w.heap.size,0,none⟩),.int .u64 150] 222)
set_option maxHeartbeats 8000000 in
set_option maxRecDepth 20000 in
theorem as_hitF (b1:Nat) (t:Addr) (old:Value) (w:World) (hg:w.cell? ⟨0,0,none⟩=some (.iface 230 (.agg #[.pointer (some ⟨4,35,none⟩)]))) (ht0:w.cell? t=some old) (hf0:w.frozen? t=false):
  Calls Tryz.prog 70 #[.iface 136 (.pointer (some ⟨b1,0,none⟩)),.iface 154 (.pointer (some t))] w fun ev w'=>ev=.returned (.bool true)∧Go.K.Chg [t.block] w w'∧w'.cell? t=some (.pointer (some ⟨b1,0,none⟩)):=by
 have h6:=@run_callFunc_extern Tryz.prog 119 _ (fun args=>ReflectliteValue.unpack (args.getD 0 (.tuple #[]))) Tryz.func119 (by kernel_rfl) (by kernel_rfl) (by kernel_rfl) (by kernel_rfl)
 have h7:=@run_callFunc_extern Tryz.prog 120 _ (ReflectliteValue.methodAny (ReflectliteValue.valueError "reflectlite.Value.Type" 0) (fun t _ _ _=>ReflectliteType.toType t)) Tryz.func120 (by kernel_rfl) (by kernel_rfl) (by kernel_rfl) (by kernel_rfl)
 have h8:=@run_callFunc_extern Tryz.prog 121 _ (ReflectliteValue.method (ReflectliteValue.valueError "reflectlite.Value.IsNil" 0) ReflectliteValue.isNil) Tryz.func121 (by kernel_rfl) (by kernel_rfl) (by kernel_rfl) (by kernel_rfl)
 have h27:=@run_callFunc_extern Tryz.prog 313 _ (ReflectliteType.abiMethod fun t=>do pure (.int .u8 (←Rtype.kind t))) Tryz.func313 (by kernel_rfl) (by kernel_rfl) (by kernel_rfl) (by kernel_rfl)
 have h37:=@run_callFunc_extern Tryz.prog 325 _ (ReflectliteType.method ReflectliteType.elem) Tryz.func325 (by kernel_rfl) (by kernel_rfl) (by kernel_rfl) (by kernel_rfl)
 have h38:=@run_callFunc_extern Tryz.prog 326 _ (ReflectliteType.relation "Implements" ReflectliteType.implements_) Tryz.func326 (by kernel_rfl) (by kernel_rfl) (by kernel_rfl) (by kernel_rfl)
 have h10:=@run_callFunc_extern Tryz.prog 72 _ ReflectliteType.typeOf Tryz.func72 (by kernel_rfl) (by kernel_rfl) (by kernel_rfl) (by kernel_rfl)
 have h35:=@run_callFunc_extern Tryz.prog 323 _ (ReflectliteType.relation "AssignableTo" ReflectliteType.assignableTo) Tryz.func323 (by kernel_rfl) (by kernel_rfl) (by kernel_rfl) (by kernel_rfl)
 have h11:=@run_callFunc_extern Tryz.prog 192 _ (ReflectliteValue.method (ReflectliteValue.valueError "reflectlite.Value.Elem" 0) ReflectliteValue.elem) Tryz.func192 (by kernel_rfl) (by kernel_rfl) (by kernel_rfl) (by kernel_rfl)
 have h12:=@run_callFunc_extern Tryz.prog 193 _ ReflectliteValue.set Tryz.func193 (by kernel_rfl) (by kernel_rfl) (by kernel_rfl) (by kernel_rfl)
 have tF:=asTypeOfF
 have mA:=asMAssignable
 have aF:=asAssFF
 have vF:=asUnpackF
 have f6:=asUnpackPPF
 have f7:=asTypePPF
 have mK:=asMKind
 have mE:=asMElem
 have mI:=asMImplements
 have kP:=asKindPPF
 have kE:=asKindPF
 have eP:=asElemPPF
 have iE:=asImplF
 have n8:=asIsNilPPF ⟨w.heap.size,0,none⟩ t (asX2 w t) (by simp [asX2])
 have hg2:(asX2 w t).cell? ⟨0,0,none⟩=_:=cell_al (cell_al hg)
 have el:=asElemVPPF ⟨w.heap.size,0,none⟩ t (asX3 w t) (cell_al (by simp [asX2]))
 have st:=asSetF t ⟨w.heap.size+1+1+1,0,none⟩ ⟨b1,0,none⟩ old ((asX3 w t).alloc (.cells #[.pointer (some ⟨b1,0,none⟩)] 136))
  (by rw [World.cell?_alloc_at _ _ _ _ (by simp [asX3,asX2])];rfl) (cell_al (cell_al (cell_al (cell_al ht0)))) (froz_al (cell_al (cell_al (cell_al ht0))) (froz_al (cell_al (cell_al ht0)) (froz_al (cell_al ht0) (froz_al ht0 hf0))))
 unfold asX3 asX2 at el st
 unfold asX2 at n8 hg2
 go_enter Tryz.func70,Tryz.ntmps70
 go_wp2
 refine wp_loop_rounds 1 ?_
 rw [rounds_succ]
 go_wp2
 go_ret
 refine ⟨rfl,((((Go.K.Ext.alloc _ _).trans (Go.K.Ext.alloc _ _)).trans (Go.K.Ext.alloc _ _)).trans (Go.K.Ext.alloc _ _)).chg (Go.K.Chg.setCell _ t _),World.cell?_setCell_same _ _ _ (u:=old) (cell_al (cell_al (cell_al (cell_al ht0))))⟩
set_option maxHeartbeats 8000000 in
set_option maxRecDepth 20000 in
theorem as_missF (n:Int) (t:Addr) (w:World) (hg:w.cell? ⟨0,0,none⟩=some (.iface 230 (.agg #[.pointer (some ⟨4,35,none⟩)]))):
  Calls Tryz.prog 70 #[.iface 40 (.int .i64 n),.iface 154 (.pointer (some t))] w fun ev w'=>ev=.returned (.bool false)∧Go.K.Ext w w':=by
 have h6:=@run_callFunc_extern Tryz.prog 119 _ (fun args=>ReflectliteValue.unpack (args.getD 0 (.tuple #[]))) Tryz.func119 (by kernel_rfl) (by kernel_rfl) (by kernel_rfl) (by kernel_rfl)
 have h7:=@run_callFunc_extern Tryz.prog 120 _ (ReflectliteValue.methodAny (ReflectliteValue.valueError "reflectlite.Value.Type" 0) (fun t _ _ _=>ReflectliteType.toType t)) Tryz.func120 (by kernel_rfl) (by kernel_rfl) (by kernel_rfl) (by kernel_rfl)
 have h8:=@run_callFunc_extern Tryz.prog 121 _ (ReflectliteValue.method (ReflectliteValue.valueError "reflectlite.Value.IsNil" 0) ReflectliteValue.isNil) Tryz.func121 (by kernel_rfl) (by kernel_rfl) (by kernel_rfl) (by kernel_rfl)
 have h27:=@run_callFunc_extern Tryz.prog 313 _ (ReflectliteType.abiMethod fun t=>do pure (.int .u8 (←Rtype.kind t))) Tryz.func313 (by kernel_rfl) (by kernel_rfl) (by kernel_rfl) (by kernel_rfl)
 have h37:=@run_callFunc_extern Tryz.prog 325 _ (ReflectliteType.method ReflectliteType.elem) Tryz.func325 (by kernel_rfl) (by kernel_rfl) (by kernel_rfl) (by kernel_rfl)
 have h38:=@run_callFunc_extern Tryz.prog 326 _ (ReflectliteType.relation "Implements" ReflectliteType.implements_) Tryz.func326 (by kernel_rfl) (by kernel_rfl) (by kernel_rfl) (by kernel_rfl)
 have h10:=@run_callFunc_extern Tryz.prog 72 _ ReflectliteType.typeOf Tryz.func72 (by kernel_rfl) (by kernel_rfl) (by kernel_rfl) (by kernel_rfl)
 have h35:=@run_callFunc_extern Tryz.prog 323 _ (ReflectliteType.relation "AssignableTo" ReflectliteType.assignableTo) Tryz.func323 (by kernel_rfl) (by kernel_rfl) (by kernel_rfl) (by kernel_rfl)
 have h11:=@run_callFunc_extern Tryz.prog 192 _ (ReflectliteValue.method (ReflectliteValue.valueError "reflectlite.Value.Elem" 0) ReflectliteValue.elem) Tryz.func192 (by kernel_rfl) (by kernel_rfl) (by kernel_rfl) (by kernel_rfl)
 have h12:=@run_callFunc_extern Tryz.prog 193 _ ReflectliteValue.set Tryz.func193 (by kernel_rfl) (by kernel_rfl) (by kernel_rfl) (by kernel_rfl)
 have tO:=asTypeOfE
 have mA:=asMAssignable
 have aE:=asAssEF
 have nA:=noAsE
 have uE:=noUnwrapE
 have uS:=noUnwrapsE
 have f6:=asUnpackPPF
 have f7:=asTypePPF
 have mK:=asMKind
 have mE:=asMElem
 have mI:=asMImplements
 have kP:=asKindPPF
 have kE:=asKindPF
 have eP:=asElemPPF
 have iE:=asImplF
 have n8:=asIsNilPPF ⟨w.heap.size,0,none⟩ t (asX2 w t) (by simp [asX2])
 have hg2:(asX2 w t).cell? ⟨0,0,none⟩=_:=cell_al (cell_al hg)
 unfold asX2 at n8 hg2
 go_enter Tryz.func70,Tryz.ntmps70
 go_wp2
 refine wp_loop_rounds 1 ?_
 rw [rounds_succ]
 go_wp2
 go_ret
 exact ⟨rfl,((Go.K.Ext.alloc _ _).trans (Go.K.Ext.alloc _ _)).trans (Go.K.Ext.alloc _ _)⟩
end Go.Proofs.YtbidkcjendncaaaGreatDoor
end
section
namespace Go.Proofs.YtbidkcjendncaaaGreatDoor
open Go Go.K
def EtR (w:World):Prop:=w.cell? ⟨0,0,none⟩=some (.iface 230 (.agg #[.pointer (some ⟨4,35,none⟩)]))
theorem EtR.lt {w:World} (h:EtR w):0<w.heap.size:=cell_lt h
theorem EtR.chg {L:List Nat} {w w':World} (h:EtR w) (x:Chg L w w') (hL:∀y∈L,0<y):EtR w':=by
 unfold EtR at h ⊢
 rw [cell_of_heap (x.block _ (EtR.lt h) (fun hm=>Nat.lt_irrefl _ (hL _ hm)))];exact h
theorem EtR.ext {w w':World} (h:EtR w) (x:Ext w w'):EtR w':=h.chg x (by simp)
theorem at_cell {w:World} {b o:Nat} {cs:List Value} {t:TypeId} {f:Nat × Nat} {v:Value} (h:At w b (.cells cs.toArray t f)) (hv:cs[o]? =some v):w.cell? ⟨b,o,none⟩=some v:=by
 unfold At at h
 simp [World.cell?,h,hv]
theorem at_froz {w:World} {b:Nat} {cs:Array Value} {t:TypeId} (h:At w b (.cells cs t (0,0))) (hp:0<cs.size):w.frozen? ⟨b,0,none⟩=false:=by
 unfold At at h
 simp [World.frozen?,h]
theorem asE_spec (n:Int) (t:Nat) (old:Value) (w:World) (hg:EtR w) (ht0:w.cell? ⟨t,0,none⟩=some old) (hf0:w.frozen? ⟨t,0,none⟩=false):K.Spec Tryz.prog 70 [.iface 40 (.int .i64 n),.iface 153 (.pointer (some ⟨t,0,none⟩))] w fun r w'=>r=.bool true∧Chg [t] w w'∧w'.cell? ⟨t,0,none⟩=some (.int .i64 n):=
 Calls.mono (as_hitE n ⟨t,0,none⟩ old w hg ht0 hf0) fun _ _ h=>⟨_,h.1,rfl,h.2⟩
theorem asE1_spec (n:Int) (b1 t:Nat) (old:Value) (w:World) (hg:EtR w) (hc1:w.cell? ⟨b1,1,none⟩=some (.iface 40 (.int .i64 n))) (ht0:w.cell? ⟨t,0,none⟩=some old) (hf0:w.frozen? ⟨t,0,none⟩=false):K.Spec Tryz.prog 70 [.iface 136 (.pointer (some ⟨b1,0,none⟩)),.iface 153 (.pointer (some ⟨t,0,none⟩))] w fun r w'=>r=.bool true∧Chg [t] w w'∧w'.cell? ⟨t,0,none⟩=some (.int .i64 n):=
 Calls.mono (as_hitE1 n b1 ⟨t,0,none⟩ old w hg hc1 ht0 hf0) fun _ _ h=>⟨_,h.1,rfl,h.2⟩
theorem asE2_spec (n:Int) (b1 b2 t:Nat) (old:Value) (w:World) (hg:EtR w) (hc1:w.cell? ⟨b1,1,none⟩=some (.iface 136 (.pointer (some ⟨b2,0,none⟩)))) (hc2:w.cell? ⟨b2,1,none⟩=some (.iface 40 (.int .i64 n))) (ht0:w.cell? ⟨t,0,none⟩=some old) (hf0:w.frozen? ⟨t,0,none⟩=false):K.Spec Tryz.prog 70 [.iface 136 (.pointer (some ⟨b1,0,none⟩)),.iface 153 (.pointer (some ⟨t,0,none⟩))] w fun r w'=>r=.bool true∧Chg [t] w w'∧w'.cell? ⟨t,0,none⟩=some (.int .i64 n):=
 Calls.mono (as_hitE2 n b1 b2 ⟨t,0,none⟩ old w hg hc1 hc2 ht0 hf0) fun _ _ h=>⟨_,h.1,rfl,h.2⟩
theorem asF_spec (b1 t:Nat) (old:Value) (w:World) (hg:EtR w) (ht0:w.cell? ⟨t,0,none⟩=some old) (hf0:w.frozen? ⟨t,0,none⟩=false):K.Spec Tryz.prog 70 [.iface 136 (.pointer (some ⟨b1,0,none⟩)),.iface 154 (.pointer (some ⟨t,0,none⟩))] w fun r w'=>r=.bool true∧Chg [t] w w'∧w'.cell? ⟨t,0,none⟩=some (.pointer (some ⟨b1,0,none⟩)):=
 Calls.mono (as_hitF b1 ⟨t,0,none⟩ old w hg ht0 hf0) fun _ _ h=>⟨_,h.1,rfl,h.2⟩
theorem asFm_spec (n:Int) (t:Nat) (w:World) (hg:EtR w):K.Spec Tryz.prog 70 [.iface 40 (.int .i64 n),.iface 154 (.pointer (some ⟨t,0,none⟩))] w fun r w'=>r=.bool false∧Ext w w':=
 Calls.mono (as_missF n ⟨t,0,none⟩ w hg) fun _ _ h=>⟨_,h.1,rfl,h.2⟩
theorem asNil_spec (t:Value) (w:World):K.Spec Tryz.prog 70 [.nilIface,t] w fun r w'=>r=.bool false∧w'=w:=
 Calls.mono (as_nil t w) fun _ _ h=>⟨_,h.1,rfl,h.2⟩
attribute [local irreducible] regK codeK retK KOp.wp K.Spec EtR
theorem err_num {w:World} {v:Value} {c a:Int} (h:ErrR w 0 v c a) (hc:c≠0):v=errno c:=by
 rcases h with ⟨-,⟨h, -⟩|⟨-,h⟩⟩
 ·exact absurd h hc
 ·exact h
theorem asCode {w:World} {v:Value} {c a:Int} {t:Nat} (hg:EtR w) (h:ErrR w 2 v c a) (h0:c≠0) (at1:At w t (.cells [Value.int .i64 0].toArray T.api_Errno (0,0))):K.Spec Tryz.prog F.errors_As [v,.iface T.P_api_Errno (.pointer (some ⟨t,0,none⟩))] w fun r w'=>r=.bool true∧Chg [t] w w'∧w'.cell? ⟨t,0,none⟩=some (.int .i64 c):=by
 have hc:=at_cell (o:=0) at1 rfl
 have hf:=at_froz at1 (by simp)
 rcases h with (h1|⟨hc1, -,b1,u1,a1,rfl,hb1,h1⟩)|⟨hc1, -,b1,u1,a1,rfl,hb1,(h1|⟨hc2, -,b2,u2,a2,rfl,hb2,h2⟩)⟩
 ·obtain rfl:=err_num h1 h0
  exact asE_spec c t _ w hg hc hf
 ·obtain rfl:=err_num h1 h0
  exact asE1_spec c b1 t _ w hg (at_cell hb1 rfl) hc hf
 ·obtain rfl:=err_num h1 h0
  exact asE1_spec c b1 t _ w hg (at_cell hb1 rfl) hc hf
 ·obtain rfl:=err_num h2 h0
  exact asE2_spec c b1 b2 t _ w hg (at_cell hb1 rfl) (at_cell hb2 rfl) hc hf
theorem code_spec {w:World} {v:Value} {c a:Int} (hg:EtR w) (h:ErrR w 2 v c a):K.Spec Tryz.prog F.api_Code [v] w fun r w'=>r=.int .i64 c∧Ext w w':=by
 obtain ⟨n1,n2⟩:=h.nil_iff
 by_cases h0:c=0
 ·obtain ⟨rfl, -⟩:=n1 h0
  subst h0
  refine s_api_Code rfl ?_
  unfold k_api_Code
  refine oy ?_
  repeat (first|(refine zH (d:=some 3) (fun b3 w1 x1 a3 hb3=>?_))|(first|refine go1 ?_|refine zg (fun _ _=>?_)|refine zi (fun _ _=>?_)))
  exact x_ret rfl ⟨rfl,x1⟩
 ·obtain ⟨et,eu,rfl⟩:=n2 h0
  refine s_api_Code rfl ?_
  unfold k_api_Code
  refine oy ?_
  repeat (first|(refine zH (d:=some 3) (fun b3 w1 x1 a3 hb3=>?_))|(first|refine go1 ?_|refine zg (fun _ _=>?_)|refine zi (fun _ _=>?_)))
  refine zC (d:=some 9) rfl (asCode (hg.ext x1) (ErrR.ext x1 h) h0 a3) ?_
  rintro _ w2 ⟨rfl,c2,e2⟩
  repeat (first|(refine st_load (d:=some 11) rfl e2 ?_)|(first|refine go1 ?_|refine zg (fun _ _=>?_)|refine zi (fun _ _=>?_)))
  exact x_ret rfl ⟨rfl,(Ext.chg x1 c2).mono (fun y hy=>.inr (by simp at hy;omega))⟩
theorem place_spec {w:World} {v:Value} {c a:Int} (hg:EtR w) (h:ErrR w 2 v c a):K.Spec Tryz.prog F.api_Place [v] w fun r w'=>r=.int .i64 a∧Ext w w':=by
 obtain ⟨n1,n2⟩:=h.nil_iff
 by_cases h0:c=0
 ·obtain ⟨rfl,rfl⟩:=n1 h0
  refine s_api_Place rfl ?_
  unfold k_api_Place
  refine oy ?_
  repeat (first|(refine zH (d:=some 3) (fun b3 w1 x1 a3 hb3=>?_))|(first|refine go1 ?_|refine zg (fun _ _=>?_)|refine zi (fun _ _=>?_)))
  exact x_ret rfl ⟨rfl,x1⟩
 ·have hs:(v=errno c∧a= -1)∨∃b u,v=.iface T.P_api_Fault (.pointer (some ⟨b,0,none⟩))∧At w b (.cells [.int .i64 a,u].toArray T.api_Fault (0,0)):=by
   rcases h with (h1|⟨hc1, -,b1,u1,a1,rfl,hb1,h1⟩)|⟨hc1, -,b1,u1,a1,rfl,hb1, -⟩
   ·exact .inl ⟨err_num h1 h0,h1.1⟩
   ·exact .inr ⟨b1,u1,rfl,hb1⟩
   ·exact .inr ⟨b1,u1,rfl,hb1⟩
  rcases hs with ⟨rfl,rfl⟩|⟨b1,u1,rfl,hb1⟩
  ·refine s_api_Place rfl ?_
   unfold k_api_Place
   refine oy ?_
   repeat (first|(refine zH (d:=some 3) (fun b3 w1 x1 a3 hb3=>?_))|(first|refine go1 ?_|refine zg (fun _ _=>?_)|refine zi (fun _ _=>?_)))
   refine zC (d:=some 9) rfl (asFm_spec c b3 w1 (hg.ext x1)) ?_
   rintro _ w2 ⟨rfl,x2⟩
   repeat (first|refine go1 ?_|refine zg (fun _ _=>?_)|refine zi (fun _ _=>?_))
   exact x_ret rfl ⟨rfl,x1.trans x2⟩
  ·refine s_api_Place rfl ?_
   unfold k_api_Place
   refine oy ?_
   repeat (first|(refine zH (d:=some 3) (fun b3 w1 x1 a3 hb3=>?_))|(first|refine go1 ?_|refine zg (fun _ _=>?_)|refine zi (fun _ _=>?_)))
   refine zC (d:=some 9) rfl (asF_spec b1 b3 _ w1 (hg.ext x1) (at_cell (o:=0) a3 rfl) (at_froz a3 (by simp))) ?_
   rintro _ w2 ⟨rfl,c2,e2⟩
   have hb2:=(At.ext x1 hb1).chg c2 (by have:=hb1.lt;simp;omega)
   have r2:=Row.of_at hb2
   repeat (first|(refine st_load (d:=some 11) rfl e2 ?_)|(first|refine go1 ?_|refine zg (fun _ _=>?_)|refine zi (fun _ _=>?_)))
   exact x_ret rfl ⟨rfl,(Ext.chg x1 c2).mono (fun y hy=>.inr (by simp at hy;omega))⟩
end Go.Proofs.YtbidkcjendncaaaGreatDoor
end
section
namespace Go.Proofs.YtbidkcjendncaaaGreatDoor
open Go Go.K
attribute [local irreducible] regK codeK retK KOp.wp K.Spec
theorem clen_spec {t:TypeId} {b mb:Nat} {m:List En} (w:World) (h:SetE t w b mb m):K.Spec Tryz.prog F.coins_Set_Len [.pointer (some ⟨b,0,none⟩)] w fun v w'=>v=.int .i64 (m.length:Nat)∧Ext w w':=by
 refine s_coins_Set_Len rfl ?_
 unfold k_coins_Set_Len
 refine oy ?_
 have r:=h.row
 repeat (first|refine go ?_|refine zg (fun _ _=>?_)|refine zi (fun _ _=>?_))
 refine st_lenMap rfl h.2.1 ?_
 repeat (first|refine go ?_|refine zg (fun _ _=>?_)|refine zi (fun _ _=>?_))
 exact x_ret rfl ⟨rfl,Ext.refl _⟩
theorem plen_spec {b mb:Nat} {l:List En} (w:World) (h:SetP T.coins_Set w b mb l):K.Spec Tryz.prog F.coins_Set_Len [.pointer (some ⟨b,0,none⟩)] w fun v w'=>v=.int .i64 (l.length:Nat)∧Ext w w':=by
 obtain ⟨hs,m,hp,h⟩:=h
 refine spec_mono (clen_spec w h) fun v w' ⟨e,x⟩=>⟨?_,x⟩
 rw [e,hp.length_eq]
end Go.Proofs.YtbidkcjendncaaaGreatDoor
end
section
namespace Go.Proofs.YtbidkcjendncaaaGreatDoor
open Go Go.K
attribute [local irreducible] regK codeK retK KOp.wp K.Spec u32 leS vnS str zero32 checkT applyL encT idT sizeT EtR
theorem ErrA.errR {w:World} {v:Value} {c a i:Int} (h:ErrA w v c a i) (h0:c=0→a= -1):ErrR w 2 v c a:=by
 rcases h with ⟨h1,h2⟩|⟨h1,⟨h2,h3, -⟩|⟨h2,b,u,h3,h4,h5⟩⟩
 ·subst h1;subst h2;rw [h0 rfl];exact ErrR.none_ _ _
 ·subst h2;rw [h3];exact ErrR.num _ _ h1
 ·exact .inr ⟨h1,h2,b,u,i,h3,h4,h5⟩
theorem ErrA.nilD {w:World} {v:Value} {c a i:Int} (h:ErrA w v c a i):(c=0→v=.nilIface)∧(c≠0→∃t u,v=.iface t u):=by
 rcases h with ⟨h1,h2⟩|⟨h1,⟨h2, -⟩|⟨-,_,_,h2, -⟩⟩
 ·exact ⟨fun _=>h2,fun h=>absurd h1 h⟩
 ·exact ⟨fun h=>absurd h h1,fun _=>⟨_,_,h2⟩⟩
 ·exact ⟨fun h=>absurd h h1,fun _=>⟨_,_,h2⟩⟩
theorem inner12_spec {w:World} {v:Value} {c a i:Int} (hg:EtR w) (h:ErrA w v c a i) (h0:c=0→i= -1):K.Spec Tryz.prog F.kedgelaw12_inner [v] w fun r w'=>r=.int .i64 i∧Ext w w':=by
 refine s_kedgelaw12_inner rfl ?_
 unfold k_kedgelaw12_inner
 refine oy ?_
 repeat (first|(refine zH (d:=some 3) (fun b3 w1 x1 a3 hb3=>?_))|(first|refine go1 ?_|refine zg (fun _ _=>?_)|refine zi (fun _ _=>?_)))
 rcases h with ⟨h1,rfl⟩|⟨h1,⟨rfl,h3,rfl⟩|⟨h2,b,u,rfl,h4,h5⟩⟩
 ·rw [h0 h1]
  refine zC (d:=some 6) rfl (asNil_spec _ w1) ?_
  rintro _ w2 ⟨rfl,rfl⟩
  repeat (first|refine go1 ?_|refine zg (fun _ _=>?_)|refine zi (fun _ _=>?_))
  exact x_ret rfl ⟨rfl,x1⟩
 ·refine zC (d:=some 6) rfl (asFm_spec c b3 w1 (hg.ext x1)) ?_
  rintro _ w2 ⟨rfl,x2⟩
  repeat (first|refine go1 ?_|refine zg (fun _ _=>?_)|refine zi (fun _ _=>?_))
  exact x_ret rfl ⟨rfl,x1.trans x2⟩
 ·refine zC (d:=some 6) rfl (asF_spec b b3 _ w1 (hg.ext x1) (at_cell (o:=0) a3 rfl) (at_froz a3 (by simp))) ?_
  rintro _ w2 ⟨rfl,c2,e2⟩
  have hb2:=(At.ext x1 h4).chg c2 (by have:=h4.lt;simp;omega)
  have r2:=Row.of_at hb2
  have x02:Ext w w2:=(Ext.chg x1 c2).mono (fun y hy=>.inr (by simp at hy;omega))
  repeat (first|(refine st_load (d:=some 8) rfl e2 ?_)|(first|refine go1 ?_|refine zg (fun _ _=>?_)|refine zi (fun _ _=>?_)))
  refine zC (d:=some 12) rfl (place_spec (hg.ext x02) (.inl (ErrR.ext x02 h5))) ?_
  rintro _ w3 ⟨rfl,x3⟩
  repeat (first|refine go1 ?_|refine zg (fun _ _=>?_)|refine zi (fun _ _=>?_))
  exact x_ret rfl ⟨rfl,x02.trans x3⟩
theorem pt_ne (p:Pt):(Option.map (fun b=>Value.bool (if true then !b else b)) (cellsEq [.s,.i] p.cs p.cs))=some (.bool false):=by
 simp [cellsEq,cellEq,Pt.cs]
theorem cn_ne (c:Cn):(Option.map (fun b=>Value.bool (if true then !b else b)) (cellsEq [.i,.s,.i] c.cs c.cs))=some (.bool false):=by
 simp [cellsEq,cellEq,Cn.cs]
set_option maxHeartbeats 2000000 in
theorem same12_spec {b mb:Nat} {lv:Value} {l:List En} (w:World) (hS:SetP T.coins_Set w b mb l) (hl:SlE entE w lv l) (hn:l.length≤100000):K.Spec Tryz.prog F.kedgelaw12_same [.pointer (some ⟨b,0,none⟩),lv] w fun r w'=>r=.bool true∧Ext w w':=by
 refine s_kedgelaw12_same rfl ?_
 unfold k_kedgelaw12_same
 refine oy ?_
 repeat (first|(refine zC (d:=some 9) rfl (pall_spec _ hS hn) ?_;rintro av w1 ⟨hav,hab,x1⟩)|(refine st_len (d:=some 11) rfl hav ?_)|(refine st_len (d:=some 13) rfl (hl.ext x1) ?_)|(refine st_fixV (d:=some 14) (.bool false) rfl (congrArg (fun b=>some (Value.bool (!b))) (decide_eq_true rfl)) ?_)|(refine st_len (d:=some 16) rfl hav ?_)|(first|refine go1 ?_|refine zg (fun _ _=>?_)|refine zi (fun _ _=>?_)))
 refine c_loopV (fun (p:Nat) w'=>Ext w1 w'∧p≤l.length) (fun p=> [(1,lv),(15,av),(16,.int .i64 (l.length:Nat)),(17,.int .i64 (p:Nat))]) (fun p=>l.length - p) 0 ⟨rfl,rfl,rfl,rfl,trivial⟩ ⟨Ext.refl _,by simp⟩ ?_
 rintro k ρ w2 ⟨x2,hk⟩
 repeat (first|refine go1 ?_|refine zg (fun _ _=>?_)|refine zi (fun _ _=>?_))
 refine zL (x:=.tmp 18) (p:=((k:Nat):Int)<((l.length:Nat):Int)) rfl (fun h7=>?_) (fun h7=>?_)
 ·have hkl:k<l.length:=by omega
  have hl2:=hl.ext (x1.trans x2)
  repeat (first|(refine st_elemE (d:=some 20) (E:=entE) rfl rfl (n:=k) (l:=l) (hav.ext x2) rfl hkl (fun ad1 ra=>?_))|(refine st_local2 (d':=7) (e:=6) (fun _=>rfl) (fun _=>rfl) rfl rfl rfl rfl (fun b7 w3 x3 a7 (r7:Row w3 ⟨b7,0,none⟩ (entE.f l[k])) hb7=>?_))|(refine st_elemE (d:=some 26) (E:=entE) rfl rfl (n:=k) (l:=l) (SlE.ext (w:=w2) (by exact fx) hl2) rfl hkl (fun ad2 rb=>?_))|(refine st_elemE (d:=some 35) (E:=entE) rfl rfl (n:=k) (l:=l) (SlE.ext (w:=w2) (by exact fx) hl2) rfl hkl (fun ad3 rc=>?_))|(refine st_fixV (d:=some 29) (.bool false) rfl (pt_ne l[k].1) ?_)|(refine st_fixV (d:=some 38) (.bool false) rfl (cn_ne l[k].2) ?_)|(first|refine go1 ?_|refine zg (fun _ _=>?_)|refine zi (fun _ _=>?_)))
  exact ⟨k+1,⟨rfl,rfl,rfl,rfl,trivial⟩,⟨by exact fx,by omega⟩,by omega⟩
 ·repeat (first|refine go1 ?_|refine zg (fun _ _=>?_)|refine zi (fun _ _=>?_))
  exact x_ret rfl ⟨rfl,x1.trans x2⟩
set_option maxHeartbeats 2000000 in
theorem listed12_spec {av lv:Value} {l:List En} (w:World) (hav:SlE entE w av l) (hl:SlE entE w lv l) (hn:l.length≤100000):K.Spec Tryz.prog F.kedgelaw12_listed [av,lv] w fun r w'=>r=.bool true∧Ext w w':=by
 refine s_kedgelaw12_listed rfl ?_
 unfold k_kedgelaw12_listed
 refine oy ?_
 repeat (first|(refine st_len (d:=some 8) rfl hav ?_)|(refine st_len (d:=some 10) rfl hl ?_)|(refine st_fixV (d:=some 11) (.bool false) rfl (congrArg (fun b=>some (Value.bool (!b))) (decide_eq_true rfl)) ?_)|(refine st_len (d:=some 13) rfl hav ?_)|(first|refine go1 ?_|refine zg (fun _ _=>?_)|refine zi (fun _ _=>?_)))
 refine c_loopV (fun (p:Nat) w'=>Ext w w'∧p≤l.length) (fun p=> [(1,lv),(12,av),(13,.int .i64 (l.length:Nat)),(14,.int .i64 (p:Nat))]) (fun p=>l.length - p) 0 ⟨rfl,rfl,rfl,rfl,trivial⟩ ⟨Ext.refl _,by simp⟩ ?_
 rintro k ρ w2 ⟨x2,hk⟩
 repeat (first|refine go1 ?_|refine zg (fun _ _=>?_)|refine zi (fun _ _=>?_))
 refine zL (x:=.tmp 15) (p:=((k:Nat):Int)<((l.length:Nat):Int)) rfl (fun h7=>?_) (fun h7=>?_)
 ·have hkl:k<l.length:=by omega
  have hl2:=hl.ext x2
  repeat (first|(refine st_elemE (d:=some 17) (E:=entE) rfl rfl (n:=k) (l:=l) (hav.ext x2) rfl hkl (fun ad1 ra=>?_))|(refine st_local2 (d':=6) (e:=5) (fun _=>rfl) (fun _=>rfl) rfl rfl rfl rfl (fun b7 w3 x3 a7 (r7:Row w3 ⟨b7,0,none⟩ (entE.f l[k])) hb7=>?_))|(refine st_elemE (d:=some 23) (E:=entE) rfl rfl (n:=k) (l:=l) (SlE.ext (w:=w2) (by exact fx) hl2) rfl hkl (fun ad2 rb=>?_))|(refine st_elemE (d:=some 32) (E:=entE) rfl rfl (n:=k) (l:=l) (SlE.ext (w:=w2) (by exact fx) hl2) rfl hkl (fun ad3 rc=>?_))|(refine st_fixV (d:=some 26) (.bool false) rfl (pt_ne l[k].1) ?_)|(refine st_fixV (d:=some 35) (.bool false) rfl (cn_ne l[k].2) ?_)|(first|refine go1 ?_|refine zg (fun _ _=>?_)|refine zi (fun _ _=>?_)))
  exact ⟨k+1,⟨rfl,rfl,rfl,rfl,trivial⟩,⟨by exact fx,by omega⟩,by omega⟩
 ·repeat (first|refine go1 ?_|refine zg (fun _ _=>?_)|refine zi (fun _ _=>?_))
  exact x_ret rfl ⟨rfl,x2⟩
end Go.Proofs.YtbidkcjendncaaaGreatDoor
end
