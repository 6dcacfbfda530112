/- Errors, and views of coins, as they lie. Contracts: a view o -/
import Derived.KernelRfl
import Derived.Test.YtgloknkcfchnlabGreatDoorChecked
import Derived.WalkKit
import Derived.LaidEql
import Derived.Lib.IfaceEq
import Derived.Stop.Asserts
import Derived.RowKitTokens
import Derived.Test.YtgloknkcfchnlabGreatDoorZ29
set_option linter.unusedVariables false
set_option linter.unusedSimpArgs false
namespace Go.Proofs.YtgloknkcfchnlabGreatDoor
section
open Go Go.K
section
variable {P:Program} {d:Option Tmp} {r:KR} {K:Env→World→Prop} {ρ:Env} {w:World}
theorem aS5 {x:Operand} {name:String} {args:List Operand} {t:TypeId} {u rv:Value} {fn:FuncId} {vs:List Value} {R:Value→World→Prop} (hx:ev ρ x=.iface t u) (hm:mF P t u name=some (fn,rv)) (hb:dB P fn=true) (ha:rv::args.map (ev ρ)=vs)
  (h:Go.K.Spec P fn vs w R) (k:∀v w',R v w'→aG P r K (put ρ d v) w'):aG P (.cons ⟨d,.invoke x name args,none⟩ r) K ρ w:=
 dX ⟨t,u,fn,rv,hx,hm,hb,by subst ha;exact h.mono fun e w' ⟨v,hv,hR⟩=>⟨v,hv,k v w' hR⟩⟩
theorem aVy {f:TypeId→Value→String→Bool} {x:Operand} {name:String} {t:TypeId} {u:Value} (hx:ev ρ x=.func (.method name) #[.iface t u] #[]) (hm:f t u name=true) (k:aG P r K (put ρ d (.func (.method name) #[.iface t u] #[])) w):aG P (.cons ⟨d,.nilM f x,none⟩ r) K ρ w:=
 cJ rfl (by simp [KOp.fix,hx,hm]) k
end
theorem aZ2 {t:TypeId} {u:Value} {s:String} (h:aM2 Tryz.prog t u s=true):mo t u s=true:=by unfold mo;exact h
abbrev yW (c:Int):Value:=.iface T.api_Errno (.int .i64 c)
def dA (w:World):Nat→Value→Int→Int→Prop
 |0,v,c,a=>a= -1∧(c=0∧v=.nilIface∨c≠0∧v=yW c)
 |d+1,v,c,a=>dA w d v c a∨c≠0∧0≤a∧∃b u a',v=.iface T.P_api_Fault (.pointer (some ⟨b,0,none⟩))∧At w b (.cells [.int .i64 a,u].toArray T.api_Fault (0,0))∧dA w d u c a'
theorem dA.ext {w w':World} (x:Ext w w'):∀{d:Nat} {v:Value} {c a:Int},dA w d v c a→dA w' d v c a
 |0,_,_,_,h=>h
 |_+1,_,_,_,.inl h=>.inl (dA.ext x h)
 |_+1,_,_,_,.inr ⟨h1,h2,b,u,a',h3,h4,h5⟩=>.inr ⟨h1,h2,b,u,a',h3,h4.ext x,dA.ext x h5⟩
theorem dA.none_ (w:World) (d:Nat):dA w d .nilIface 0 (-1):=by
 induction d with
 |zero=>exact ⟨rfl,.inl ⟨rfl,rfl⟩⟩
 |succ d ih=>exact .inl ih
theorem dA.num (w:World) (d:Nat) {c:Int} (h:c≠0):dA w d (yW c) c (-1):=by
 induction d with
 |zero=>exact ⟨rfl,.inr ⟨h,rfl⟩⟩
 |succ d ih=>exact .inl ih
theorem dA.nil_iff {w:World}:∀{d:Nat} {v:Value} {c a:Int},dA w d v c a→(c=0→v=.nilIface∧a= -1)∧(c≠0→∃t u,v=.iface t u)
 |0,_,_,_,⟨h1,h2⟩=>by
  rcases h2 with ⟨h2,h3⟩|⟨h2,h3⟩
  ·exact ⟨fun _=>⟨h3,h1⟩,fun h=>absurd h2 h⟩
  ·exact ⟨fun h=>absurd h h2,fun _=>⟨_,_,h3⟩⟩
 |_+1,_,_,_,.inl h=>dA.nil_iff h
 |_+1,_,_,_,.inr ⟨h1,_,_,_,_,h3,_⟩=>⟨fun h=>absurd h h1,fun _=>⟨_,_,h3⟩⟩
def rS (w:World) (v:Value) (f:Pt→Option Cn):Prop:=(∃t u,v=.iface t u∧∀p:Pt,jM p.i→∀w1,Ext w w1→∃fn rv,aM2 Tryz.prog t u "Get" =true∧mF Tryz.prog t u "Get" =some (fn,rv)∧dB Tryz.prog fn=true∧
  K.Spec Tryz.prog fn [rv,.agg p.cs.toArray] w1 fun r w2=>∃c:Cn,r=.tuple #[.agg c.cs.toArray,.bool (f p).isSome]∧(f p).getD cn0=c∧Ext w1 w2)∧∀p c,f p=some c→c.s.size≤1000000
theorem rS.ext {w w':World} {v:Value} {f:Pt→Option Cn} (h:rS w v f) (x:Ext w w'):rS w' v f:=by
 obtain ⟨⟨t,u,e,h⟩,h2⟩:=h
 exact ⟨⟨t,u,e,fun p hp w1 x1=>h p hp w1 (x.trans x1)⟩,h2⟩
theorem rS.of_set {w:World} {b mb:Nat} {m:List En} (h:jW T.coins_Set w b mb m) (hs:∀e∈m,e.2.s.size≤1000000):rS w (.iface T.P_coins_Set (.pointer (some ⟨b,0,none⟩))) (aX m):=by
 refine ⟨⟨_,_,rfl,fun p hp w1 x1=>⟨F.coins_Set_Get,.pointer (some ⟨b,0,none⟩),by kernel_rfl,by kernel_rfl,by kernel_rfl,?_⟩⟩,fun p c hc=>hs _ (kM hc)⟩
 have:=aH2 p w1 (h.ext x1)
 unfold K.Spec at this ⊢
 exact this.mono fun e w2 ⟨v,e1,e2,x2⟩=>⟨v,e1,iA m p,e2,rfl,x2⟩
end
section
open Go Go.K
attribute [local irreducible] aG aK aU KOp.wp K.Spec u32 leS vnS str aN cV bH idT aV aJ aO
end
end Go.Proofs.YtgloknkcfchnlabGreatDoor
namespace Go.K
section
open Go
def eA (f:Int):Ent:=⟨aZi (idL 8) 0,str r80,f,69⟩
end
end Go.K
namespace Go.Proofs.YtgloknkcfchnlabGreatDoor
section
open Go Go.K
attribute [local irreducible] aG aK aU KOp.wp K.Spec u32 leS vnS str aN cV bH idT aV aJ aO
end
section
open Go Go.K
attribute [local irreducible] aG aK aU KOp.wp K.Spec u32 leS vnS str aN cV bH idT aV aJ aO
theorem bD.outs {t:TypeId} {B:Nat} {M M':List Nat} {w:World} {v:Value} {l:List TOut} (h:bD cZ t B M w v l):bD cZ t B M' w v l:=by
 obtain ⟨css,h1,h2⟩:=h
 exact ⟨css,h1,h2.mono fun _ _ hr=>hr⟩
end
section
open Go Go.K
attribute [local irreducible] aG aK aU KOp.wp K.Spec u32 leS vnS str aN cV bH idT aV aJ aO
end
end Go.Proofs.YtgloknkcfchnlabGreatDoor
namespace Go.K
section
open Go Go.Proofs.YtgloknkcfchnlabGreatDoor
end
end Go.K
namespace Go.Proofs.YtgloknkcfchnlabGreatDoor
section
open Go Go.RowKit Go.Extern.Stop Go.Stop Go.Extern
theorem aKf (v:Value) (w:World):(Extern.ReflectliteType.typeOf #[.iface 45 v]).run Tryz.prog w=.ok (.iface 138 (.agg #[.pointer (some ⟨2,45,none⟩)])) w:=by kernel_rfl
theorem mB (v:Value) (w:World):(Go.method 406 138 v "Comparable").run Tryz.prog w=.ok (215,v) w:=by kernel_rfl
theorem aAz (w:World):((Extern.ReflectliteType.method fun t=>do Extern.Rtype.noPackHeld "Comparable" t;Functor.map (fun a=>Value.bool a.comparable) (typeInfo t)) #[.agg #[.pointer (some ⟨2,45,none⟩)]]).run Tryz.prog w=.ok (.bool true) w:=by kernel_rfl
theorem aR6 (v:Value) (xT:TypeId) (w:World):(Instr.typeAssert (.iface 45 v) xT 143 true).run Tryz.prog w=.ok (.tuple #[.nilIface,.bool false]) w:=run_typeAssert_lacksB Tryz.underlying143 (by kernel_rfl) (by kernel_rfl) v xT w
theorem aN3 (v:Value) (xT:TypeId) (w:World):(Instr.typeAssert (.iface 45 v) xT 145 true).run Tryz.prog w=.ok (.tuple #[.nilIface,.bool false]) w:=run_typeAssert_lacksB Tryz.underlying145 (by kernel_rfl) (by kernel_rfl) v xT w
set_option maxRecDepth 20000 in
theorem aY7 (b:Int) (w:World):
  Calls Tryz.prog 12 #[.nilIface,.iface 45 (.int .i64 b)] w fun e w'=>e=.returned (.bool false)∧w'=w:=by
 have hn:=run_eql_iface_nil_left (P:=Tryz.prog) w 45 (.int .i64 b) Tryz.underlying31
 go_enter Tryz.func12,Tryz.ntmps12
 go_wp2
 go_ret
 exact ⟨rfl,rfl⟩
theorem aSh (b:Int) (w:World):K.Spec Tryz.prog 12 [.nilIface,.iface 45 (.int .i64 b)] w fun v w'=>v=.bool false∧w'=w:=
 Calls.mono (aY7 b w) fun _ _ h=>⟨_,h.1,rfl,h.2⟩
end
section
open Go Go.RowKit Go.Extern.Stop Go.Stop Go.Extern
abbrev hB:Nat:=2
theorem xA (t:Addr) (w:World):(ReflectliteValue.unpack (.iface 106 (.pointer (some t)))).run Tryz.prog w=.ok (.agg #[.pointer (some ⟨2,106,none⟩),.pointer (some ⟨w.heap.size,0,none⟩),.int .u64 150]) (w.alloc (.cells #[.pointer (some t)] 106)):=by kernel_rfl
theorem aD7 (a:Addr) (w:World):(ReflectliteValue.methodAny (ReflectliteValue.valueError "reflectlite.Value.Type" 0) (fun t _ _ _=>ReflectliteType.toType t) #[.agg #[.pointer (some ⟨2,106,none⟩),.pointer (some a),.int .u64 150]]).run Tryz.prog w=.ok (.iface 138 (.agg #[.pointer (some ⟨2,106,none⟩)])) w:=by kernel_rfl
theorem yS (h:Value) (w:World):(Go.method 406 138 (.agg #[h]) "Kind").run Tryz.prog w=.ok (207,h) w:=by kernel_rfl
theorem aAy (h:Value) (w:World):(Go.method 406 138 (.agg #[h]) "Elem").run Tryz.prog w=.ok (216,.agg #[h]) w:=by kernel_rfl
theorem hZ (h:Value) (w:World):(Go.method 406 138 (.agg #[h]) "Implements").run Tryz.prog w=.ok (217,.agg #[h]) w:=by kernel_rfl
theorem hY (h:Value) (w:World):(Go.method 406 138 (.agg #[h]) "AssignableTo").run Tryz.prog w=.ok (214,.agg #[h]) w:=by kernel_rfl
theorem aF0 (w:World):((ReflectliteType.abiMethod fun t=>Functor.map (fun a:Nat=>Value.int IntKind.u8 (a:Int)) (Rtype.kind t)) #[.pointer (some ⟨2,106,none⟩)]).run Tryz.prog w=.ok (.int .u8 22) w:=by kernel_rfl
theorem aJz (w:World):((ReflectliteType.abiMethod fun t=>Functor.map (fun a:Nat=>Value.int IntKind.u8 (a:Int)) (Rtype.kind t)) #[.pointer (some ⟨2,45,none⟩)]).run Tryz.prog w=.ok (.int .u8 2) w:=by kernel_rfl
theorem aFb (w:World):(ReflectliteType.method ReflectliteType.elem #[.agg #[.pointer (some ⟨2,106,none⟩)]]).run Tryz.prog w=.ok (.iface 138 (.agg #[.pointer (some ⟨2,45,none⟩)])) w:=by kernel_rfl
theorem aI4 (w:World):(ReflectliteType.relation "Implements" ReflectliteType.implements_ #[.agg #[.pointer (some ⟨2,45,none⟩)],.iface 138 (.agg #[.pointer (some ⟨2,31,none⟩)])]).run Tryz.prog w=.ok (.bool true) w:=by kernel_rfl
theorem uQ (v:Value) (w:World):(ReflectliteType.typeOf #[.iface 45 v]).run Tryz.prog w=.ok (.iface 138 (.agg #[.pointer (some ⟨2,45,none⟩)])) w:=by kernel_rfl
theorem aA6 (v:Value) (w:World):(ReflectliteType.typeOf #[.iface 89 v]).run Tryz.prog w=.ok (.iface 138 (.agg #[.pointer (some ⟨2,89,none⟩)])) w:=by kernel_rfl
theorem aJn (w:World):(ReflectliteType.relation "AssignableTo" ReflectliteType.assignableTo #[.agg #[.pointer (some ⟨2,45,none⟩)],.iface 138 (.agg #[.pointer (some ⟨2,45,none⟩)])]).run Tryz.prog w=.ok (.bool true) w:=by kernel_rfl
theorem aQf (w:World):(ReflectliteType.relation "AssignableTo" ReflectliteType.assignableTo #[.agg #[.pointer (some ⟨2,89,none⟩)],.iface 138 (.agg #[.pointer (some ⟨2,45,none⟩)])]).run Tryz.prog w=.ok (.bool false) w:=by kernel_rfl
theorem aB9 (n:Int) (w:World):(ReflectliteValue.unpack (.iface 45 (.int .i64 n))).run Tryz.prog w=.ok (.agg #[.pointer (some ⟨2,45,none⟩),.pointer (some ⟨w.heap.size,0,none⟩),.int .u64 130]) (w.alloc (.cells #[.int .i64 n] 45)):=by kernel_rfl
theorem aXo (z:Sem Value) (f:TypeId→Addr→Nat→Nat→Sem Value) (v:Value):ReflectliteValue.method z f #[v]=(do match ←ReflectliteValue.parts v with|none=>z|some (t,a,fl)=>f t a fl (fl%32)):=rfl
theorem aId (a:Addr) (w:World):(ReflectliteValue.parts (.agg #[.pointer (some ⟨2,106,none⟩),.pointer (some a),.int .u64 150])).run Tryz.prog w=.ok (some (106,a,150)) w:=by kernel_rfl
theorem aB3 (a p:Addr) (W:World) (ha:W.cell? a=some (.pointer (some p))):
  (ReflectliteValue.method (ReflectliteValue.valueError "reflectlite.Value.IsNil" 0) ReflectliteValue.isNil #[.agg #[.pointer (some ⟨2,106,none⟩),.pointer (some a),.int .u64 150]]).run Tryz.prog W=.ok (.bool false) W:=by
 rw [aXo]
 simp only [Sem.run_bind,aId,Result.andThen]
 simp [ReflectliteValue.isNil,loadVar,isAgg,underlying,Tryz.underlying106,ha,Result.andThen]
end
end Go.Proofs.YtgloknkcfchnlabGreatDoor
