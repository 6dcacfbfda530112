/- Contracts: what the document fixes of trimming. Contracts: e -/
import Derived.Test.YtgloknkcfchnlaaGreatDoorZ30
import Derived.Test.YtgloknkcfchnlaaGreatDoorZ32
set_option linter.unusedVariables false
set_option linter.unusedSimpArgs false
namespace Go.Proofs.YtgloknkcfchnlaaGreatDoor
section
open Go Go.K
attribute [local irreducible] aD aK aV KOp.wp K.Spec u32 leS vnS str aN cR bI idT aY aI aO aYc idL
attribute [local irreducible] eA
end
section
open Go Go.RowKit Go.Extern.Stop Go.Stop Go.Extern
theorem aOx (w:World):(Rtype.elem? 105).run Tryz.prog w=.ok (some 40) w:=by kernel_rfl
theorem aYn (p:Addr) (w:World):(ReflectliteValue.mk 40 p ReflectliteValue.flagAddr).run Tryz.prog w=.ok (.agg #[.pointer (some ⟨2,40,none⟩),.pointer (some p),.int .u64 386]) w:=by kernel_rfl
theorem aBc (a p:Addr) (W:World) (ha:W.cell? a=some (.pointer (some p))):
  (ReflectliteValue.method (ReflectliteValue.valueError "reflectlite.Value.Elem" 0) ReflectliteValue.elem #[.agg #[.pointer (some ⟨2,105,none⟩),.pointer (some a),.int .u64 150]]).run Tryz.prog W
   =.ok (.agg #[.pointer (some ⟨2,40,none⟩),.pointer (some p),.int .u64 386]) W:=by
 rw [aWg]
 simp only [Sem.run_bind,aHl,Result.andThen]
 simp [ReflectliteValue.elem,loadVar,isAgg,underlying,Tryz.underlying105,ha,Result.andThen,aOx,aYn]
theorem aY2 (v x:Value):ReflectliteValue.set #[v,x]=(do
  let (some (dst,a,fl),some (src,b,_)):=(←ReflectliteValue.parts v,←ReflectliteValue.parts x)
   |unsupported (.noEntry "extern/(internal/reflectlite.Value).Set.zeroValue")
  if fl / ReflectliteValue.flagAddr%2==0 then unsupported (.noEntry "extern/(internal/reflectlite.Value).Set.unaddressable")
  let val ←loadVar src b
  if ←Rtype.directlyAssignable dst src then storeVar dst a val
  else if ←Rtype.implements dst src then
   if (←Rtype.kind src)==20 then
    match val with
    |.nilIface=>unsupported (.noEntry "extern/reflectlite: a nil value of one interface type handed on as a value of another")
    |_=>storeVar dst a val
   else storeVar dst a (.iface src val)
  else panicString ("reflectlite.Set: value of type " ++(←Rtype.spelt src)++ " is not assignable to type " ++(←Rtype.spelt dst))
  pure (.tuple #[])):=rfl
theorem aRa (a:Addr) (w:World):(ReflectliteValue.parts (.agg #[.pointer (some ⟨2,40,none⟩),.pointer (some a),.int .u64 386])).run Tryz.prog w=.ok (some (40,a,386)) w:=by kernel_rfl
theorem aTh (a:Addr) (w:World):(ReflectliteValue.parts (.agg #[.pointer (some ⟨2,40,none⟩),.pointer (some a),.int .u64 130])).run Tryz.prog w=.ok (some (40,a,130)) w:=by kernel_rfl
theorem aQk (w:World):(Rtype.directlyAssignable 40 40).run Tryz.prog w=.ok true w:=by kernel_rfl
theorem aN5 (ta b:Addr) (n:Int) (old:Value) (W:World) (hb:W.cell? b=some (.int .i64 n)) (ht:W.cell? ta=some old) (hf:W.frozen? ta=false):
  (ReflectliteValue.set #[.agg #[.pointer (some ⟨2,40,none⟩),.pointer (some ta),.int .u64 386],.agg #[.pointer (some ⟨2,40,none⟩),.pointer (some b),.int .u64 130]]).run Tryz.prog W
   =.ok (.tuple #[]) (W.setCell ta (.int .i64 n)):=by
 rw [aY2]
 simp only [Sem.run_bind,aRa,aTh,Result.andThen]
 simp [ReflectliteValue.flagAddr,loadVar,isAgg,underlying,Tryz.underlying40,hb,Result.andThen,aQk,storeVar,Value.cells,storeCells,Addr.add]
 rw [run_store Tryz.prog W ta _ _ (by rfl)]
 simp [ht,hf]
def jK (w:World) (t:Addr):World:=(w.alloc (.cells #[.pointer (some t)] 105)).alloc (.cells #[.pointer (some ⟨2,105,none⟩),.pointer (some ⟨w.heap.size,0,none⟩),.int .u64 150] 135)
def rP (w:World) (t:Addr):World:=(jK w t).alloc (.cells #[.pointer (some ⟨2,105,none⟩),.pointer (some ⟨w.heap.size,0,none⟩),.int .u64 150] 135)
set_option maxHeartbeats 4000000 in
theorem aWe (n:Int) (t:Addr) (old:Value) (w:World) (hg:w.cell? ⟨0,0,none⟩=some (.iface 143 (.agg #[.pointer (some ⟨2,35,none⟩)]))) (ht0:w.cell? t=some old) (hf0:w.frozen? t=false):
  Calls Tryz.prog 43 #[.iface 40 (.int .i64 n),.iface 105 (.pointer (some t))] w fun ev w'=>ev=.returned (.bool true)∧Go.K.Chg [t.block] w w'∧w'.cell? t=some (.int .i64 n):=by
 have h6:=@run_callFunc_extern Tryz.prog 63 _ (fun args=>ReflectliteValue.unpack (args.getD 0 (.tuple #[]))) Tryz.func63 (by kernel_rfl) (by kernel_rfl) (by kernel_rfl) (by kernel_rfl)
 have h7:=@run_callFunc_extern Tryz.prog 64 _ (ReflectliteValue.methodAny (ReflectliteValue.valueError "reflectlite.Value.Type" 0) (fun t _ _ _=>ReflectliteType.toType t)) Tryz.func64 (by kernel_rfl) (by kernel_rfl) (by kernel_rfl) (by kernel_rfl)
 have h8:=@run_callFunc_extern Tryz.prog 65 _ (ReflectliteValue.method (ReflectliteValue.valueError "reflectlite.Value.IsNil" 0) ReflectliteValue.isNil) Tryz.func65 (by kernel_rfl) (by kernel_rfl) (by kernel_rfl) (by kernel_rfl)
 have h27:=@run_callFunc_extern Tryz.prog 196 _ (ReflectliteType.abiMethod fun t=>do pure (.int .u8 (←Rtype.kind t))) Tryz.func196 (by kernel_rfl) (by kernel_rfl) (by kernel_rfl) (by kernel_rfl)
 have h37:=@run_callFunc_extern Tryz.prog 208 _ (ReflectliteType.method ReflectliteType.elem) Tryz.func208 (by kernel_rfl) (by kernel_rfl) (by kernel_rfl) (by kernel_rfl)
 have h38:=@run_callFunc_extern Tryz.prog 209 _ (ReflectliteType.relation "Implements" ReflectliteType.implements_) Tryz.func209 (by kernel_rfl) (by kernel_rfl) (by kernel_rfl) (by kernel_rfl)
 have h10:=@run_callFunc_extern Tryz.prog 45 _ ReflectliteType.typeOf Tryz.func45 (by kernel_rfl) (by kernel_rfl) (by kernel_rfl) (by kernel_rfl)
 have h35:=@run_callFunc_extern Tryz.prog 206 _ (ReflectliteType.relation "AssignableTo" ReflectliteType.assignableTo) Tryz.func206 (by kernel_rfl) (by kernel_rfl) (by kernel_rfl) (by kernel_rfl)
 have h11:=@run_callFunc_extern Tryz.prog 101 _ (ReflectliteValue.method (ReflectliteValue.valueError "reflectlite.Value.Elem" 0) ReflectliteValue.elem) Tryz.func101 (by kernel_rfl) (by kernel_rfl) (by kernel_rfl) (by kernel_rfl)
 have h12:=@run_callFunc_extern Tryz.prog 102 _ ReflectliteValue.set Tryz.func102 (by kernel_rfl) (by kernel_rfl) (by kernel_rfl) (by kernel_rfl)
 have tO:=uB
 have mA:=gV
 have aE:=aIu
 have vE:=aBq
 have f6:=wS
 have f7:=aDk
 have mK:=yB
 have mE:=aAi
 have mI:=gW
 have kP:=aFd
 have kE:=aI6
 have eP:=aEo
 have iE:=aIb
 have hlt:0<w.heap.size:=by
  rcases Nat.lt_or_ge 0 w.heap.size with h|h
  ·exact h
  ·simp [World.cell?,Array.getElem?_eq_none h] at hg
 have htl:t.block<w.heap.size:=by
  rcases Nat.lt_or_ge t.block w.heap.size with h|h
  ·exact h
  ·simp [World.cell?,Array.getElem?_eq_none h] at ht0
 have n8:=aBk ⟨w.heap.size,0,none⟩ t (jK w t) (by simp [jK])
 have hg2:(jK w t).cell? ⟨0,0,none⟩=some (.iface 143 (.agg #[.pointer (some ⟨2,35,none⟩)])):=by
  unfold jK
  rw [World.cell?_alloc_lt _ _ ⟨0,0,none⟩ (by first|(simp;done)|(simp;omega)),World.cell?_alloc_lt _ _ ⟨0,0,none⟩ hlt];exact hg
 have el:=aBc ⟨w.heap.size,0,none⟩ t (rP w t) (by unfold rP;rw [World.cell?_alloc_lt _ _ ⟨w.heap.size,0,none⟩ (by first|(simp [jK];done)|(simp [jK];omega))];simp [jK])
 have st:=aN5 t ⟨w.heap.size+1+1+1,0,none⟩ n old ((rP w t).alloc (.cells #[.int .i64 n] 40))
  (by rw [World.cell?_alloc_at _ _ _ _ (by simp [rP,jK])];rfl)
  (by unfold rP jK;rw [World.cell?_alloc_lt _ _ t (by simp;omega),World.cell?_alloc_lt _ _ t (by simp;omega),World.cell?_alloc_lt _ _ t (by simp;omega),World.cell?_alloc_lt _ _ t htl];exact ht0)
  (by unfold rP jK;rw [World.frozen?_alloc_old _ _ t (by simp;omega),World.frozen?_alloc_old _ _ t (by simp;omega),World.frozen?_alloc_old _ _ t (by simp;omega),World.frozen?_alloc_old _ _ t (Nat.ne_of_lt htl)];exact hf0)
 unfold rP jK at el st
 unfold jK at n8 hg2
 go_enter Tryz.func43,Tryz.ntmps43
 go_wp2
 refine wp_loop_rounds 1 ?_
 rw [rounds_succ]
 go_wp2
 go_ret
 refine ⟨rfl,((((Go.K.Ext.alloc _ _).trans (Go.K.Ext.alloc _ _)).trans (Go.K.Ext.alloc _ _)).trans (Go.K.Ext.alloc _ _)).chg (Go.K.Chg.setCell _ t _),World.cell?_setCell_same _ _ _ (u:=old) ?_⟩
 rw [World.cell?_alloc_lt _ _ t (by simp;omega),World.cell?_alloc_lt _ _ t (by simp;omega),World.cell?_alloc_lt _ _ t (by simp;omega),World.cell?_alloc_lt _ _ t htl];exact ht0
end
section
open Go Go.RowKit Go.Extern.Stop Go.Stop Go.Extern
theorem aWt (v:Value) (xT:TypeId) (w:World):(Instr.typeAssert (.iface 87 v) xT 192 true).run Tryz.prog w=.ok (.tuple #[.nilIface,.bool false]) w:=run_typeAssert_lacksB Tryz.underlying192 (by kernel_rfl) (by kernel_rfl) v xT w
theorem aIm (v:Value) (xT:TypeId) (w:World):(Instr.typeAssert (.iface 87 v) xT 148 true).run Tryz.prog w=.ok (.tuple #[.iface 87 v,.bool true]) w:=run_typeAssert_hasB Tryz.underlying148 (by kernel_rfl) v xT w
theorem aA3 (v:Value) (w:World):(Go.method 385 87 v "Unwrap").run Tryz.prog w=.ok (201,v) w:=by kernel_rfl
theorem aS {w:World} {o:Obj} {a:Addr} {v:Value} (h:w.cell? a=some v):(w.alloc o).cell? a=some v:=by
 have hlt:a.block<w.heap.size:=Go.K.cell_lt h
 rw [World.cell?_alloc_lt _ _ a hlt];exact h
theorem hX {w:World} {o:Obj} {a:Addr} {v:Value} (h:w.cell? a=some v) (hf:w.frozen? a=false):(w.alloc o).frozen? a=false:=by
 have hlt:a.block<w.heap.size:=Go.K.cell_lt h
 rw [World.frozen?_alloc_old _ _ a (Nat.ne_of_lt hlt)];exact hf
set_option maxHeartbeats 8000000 in
set_option maxRecDepth 20000 in
theorem aTp (n:Int) (b1:Nat) (t:Addr) (old:Value) (w:World) (hg:w.cell? ⟨0,0,none⟩=some (.iface 143 (.agg #[.pointer (some ⟨2,35,none⟩)]))) (hc1:w.cell? ⟨b1,1,none⟩=some (.iface 40 (.int .i64 n))) (ht0:w.cell? t=some old) (hf0:w.frozen? t=false):
  Calls Tryz.prog 43 #[.iface 87 (.pointer (some ⟨b1,0,none⟩)),.iface 105 (.pointer (some t))] w fun ev w'=>ev=.returned (.bool true)∧Go.K.Chg [t.block] w w'∧w'.cell? t=some (.int .i64 n):=by
 have h6:=@run_callFunc_extern Tryz.prog 63 _ (fun args=>ReflectliteValue.unpack (args.getD 0 (.tuple #[]))) Tryz.func63 (by kernel_rfl) (by kernel_rfl) (by kernel_rfl) (by kernel_rfl)
 have h7:=@run_callFunc_extern Tryz.prog 64 _ (ReflectliteValue.methodAny (ReflectliteValue.valueError "reflectlite.Value.Type" 0) (fun t _ _ _=>ReflectliteType.toType t)) Tryz.func64 (by kernel_rfl) (by kernel_rfl) (by kernel_rfl) (by kernel_rfl)
 have h8:=@run_callFunc_extern Tryz.prog 65 _ (ReflectliteValue.method (ReflectliteValue.valueError "reflectlite.Value.IsNil" 0) ReflectliteValue.isNil) Tryz.func65 (by kernel_rfl) (by kernel_rfl) (by kernel_rfl) (by kernel_rfl)
 have h27:=@run_callFunc_extern Tryz.prog 196 _ (ReflectliteType.abiMethod fun t=>do pure (.int .u8 (←Rtype.kind t))) Tryz.func196 (by kernel_rfl) (by kernel_rfl) (by kernel_rfl) (by kernel_rfl)
 have h37:=@run_callFunc_extern Tryz.prog 208 _ (ReflectliteType.method ReflectliteType.elem) Tryz.func208 (by kernel_rfl) (by kernel_rfl) (by kernel_rfl) (by kernel_rfl)
 have h38:=@run_callFunc_extern Tryz.prog 209 _ (ReflectliteType.relation "Implements" ReflectliteType.implements_) Tryz.func209 (by kernel_rfl) (by kernel_rfl) (by kernel_rfl) (by kernel_rfl)
 have h10:=@run_callFunc_extern Tryz.prog 45 _ ReflectliteType.typeOf Tryz.func45 (by kernel_rfl) (by kernel_rfl) (by kernel_rfl) (by kernel_rfl)
 have h35:=@run_callFunc_extern Tryz.prog 206 _ (ReflectliteType.relation "AssignableTo" ReflectliteType.assignableTo) Tryz.func206 (by kernel_rfl) (by kernel_rfl) (by kernel_rfl) (by kernel_rfl)
 have h11:=@run_callFunc_extern Tryz.prog 101 _ (ReflectliteValue.method (ReflectliteValue.valueError "reflectlite.Value.Elem" 0) ReflectliteValue.elem) Tryz.func101 (by kernel_rfl) (by kernel_rfl) (by kernel_rfl) (by kernel_rfl)
 have h12:=@run_callFunc_extern Tryz.prog 102 _ ReflectliteValue.set Tryz.func102 (by kernel_rfl) (by kernel_rfl) (by kernel_rfl) (by kernel_rfl)
 have tO:=uB
 have tF:=aAo
 have mA:=gV
 have aE:=aIu
 have aF:=aPi
 have nF:=aWt
 have uF:=aIm
 have mU:=aA3
 have vE:=aBq
 have f6:=wS
 have f7:=aDk
 have mK:=yB
 have mE:=aAi
 have mI:=gW
 have kP:=aFd
 have kE:=aI6
 have eP:=aEo
 have iE:=aIb
 have n8:=aBk ⟨w.heap.size,0,none⟩ t (jK w t) (by simp [jK])
 have hg2:(jK w t).cell? ⟨0,0,none⟩=_:=aS (aS hg)
 have el:=aBc ⟨w.heap.size,0,none⟩ t (rP w t) (aS (by simp [jK]))
 have hu3:(rP w t).cell? ⟨b1,1,none⟩=_:=aS (aS (aS hc1))
 have st:=aN5 t ⟨w.heap.size+1+1+1,0,none⟩ n old ((rP w t).alloc (.cells #[.int .i64 n] 40))
  (by rw [World.cell?_alloc_at _ _ _ _ (by simp [rP,jK])];rfl) (aS (aS (aS (aS ht0)))) (hX (aS (aS (aS ht0))) (hX (aS (aS ht0)) (hX (aS ht0) (hX ht0 hf0))))
 unfold rP jK at el st hu3
 unfold jK at n8 hg2
 go_enter Tryz.func43,Tryz.ntmps43
 go_wp2
 refine wp_loop_rounds 2 ?_
 rw [rounds_succ]
 go_wp2
 rw [rounds_succ]
 go_wp2
 go_ret
 refine ⟨rfl,((((Go.K.Ext.alloc _ _).trans (Go.K.Ext.alloc _ _)).trans (Go.K.Ext.alloc _ _)).trans (Go.K.Ext.alloc _ _)).chg (Go.K.Chg.setCell _ t _),World.cell?_setCell_same _ _ _ (u:=old) (aS (aS (aS (aS ht0))))⟩
end
section
open Go Go.RowKit Go.Extern.Stop Go.Stop Go.Extern
theorem aY0 (v:Value) (xT:TypeId) (w:World):(Instr.typeAssert (.iface 87 v) xT 145 true).run Tryz.prog w=.ok (.tuple #[.nilIface,.bool false]) w:=run_typeAssert_lacksB Tryz.underlying145 (by kernel_rfl) (by kernel_rfl) v xT w
set_option maxRecDepth 20000 in
theorem aQn (a:Int) (b1:Nat) (w:World) (hc1:w.cell? ⟨b1,1,none⟩=some (.iface 40 (.int .i64 a))):
  Calls Tryz.prog 28 #[.iface 87 (.pointer (some ⟨b1,0,none⟩)),.iface 40 (.int .i64 a)] w fun e w'=>e=.returned (.bool true)∧w'=w:=by
 have h8:=@run_callFunc_extern Tryz.prog 45 _ Extern.ReflectliteType.typeOf Tryz.func45 (by kernel_rfl) (by kernel_rfl) (by kernel_rfl) (by kernel_rfl)
 have h32:=@run_callFunc_extern Tryz.prog 207 _ (Extern.ReflectliteType.method fun t=>do Extern.Rtype.noPackHeld "Comparable" t;pure (.bool (←typeInfo t).comparable)) Tryz.func207 (by kernel_rfl) (by kernel_rfl) (by kernel_rfl) (by kernel_rfl)
 have tT:=aJm
 have cT:=aAj
 have mR:=lS
 have heq:=Go.Lib.run_eql_iface_int (P:=Tryz.prog) w (t:=35) (tx:=40) (k:=.i64) (q:=.i64) a a Tryz.underlying35 (by kernel_rfl) Tryz.underlying40
 have hne:=run_eql_iface_types (P:=Tryz.prog) (ti:=35) 87 40 (.pointer (some ⟨b1,0,none⟩)) (.int .i64 a) Tryz.underlying35 (by decide) w
 have nF:=aY0
 have uF:=aIm
 have mU:=aA3
 go_enter Tryz.func28,Tryz.ntmps28
 go_wp2
 refine wp_loop_rounds 2 ?_
 rw [rounds_succ]
 go_wp2
 rw [rounds_succ]
 go_wp2
 go_ret
 exact ⟨rfl,rfl⟩
theorem aIj (a:Int) (b1:Nat) (w:World) (hc1:w.cell? ⟨b1,1,none⟩=some (.iface 40 (.int .i64 a))):K.Spec Tryz.prog 28 [.iface 87 (.pointer (some ⟨b1,0,none⟩)),.iface 40 (.int .i64 a)] w fun v w'=>v=.bool true∧w'=w:=
 Calls.mono (aQn a b1 w hc1) fun _ _ h=>⟨_,h.1,rfl,h.2⟩
end
end Go.Proofs.YtgloknkcfchnlaaGreatDoor
