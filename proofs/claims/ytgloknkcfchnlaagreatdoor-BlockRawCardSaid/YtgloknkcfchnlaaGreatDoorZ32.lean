/- Plain: counts of ids; which entries go. Errors, and views of -/
import Derived.KernelRfl
import Derived.Test.YtgloknkcfchnlaaGreatDoorChecked
import Derived.WalkKit
import Derived.LaidEql
import Derived.Lib.IfaceEq
import Derived.Stop.Asserts
import Derived.RowKitTokens
import Derived.Test.YtgloknkcfchnlaaGreatDoorZ29
set_option linter.unusedVariables false
set_option linter.unusedSimpArgs false
namespace Go.K
section
open Go Go.Proofs.YtgloknkcfchnlaaGreatDoor
end
end Go.K
namespace Go.Proofs.YtgloknkcfchnlaaGreatDoor
section
open Go Go.K
section
variable {P:Program} {d:Option Tmp} {r:KR} {K:Env→World→Prop} {ρ:Env} {w:World}
theorem aSc {x:Operand} {name:String} {args:List Operand} {t:TypeId} {u rv:Value} {fn:FuncId} {vs:List Value} {R:Value→World→Prop} (hx:ev ρ x=.iface t u) (hm:lV P t u name=some (fn,rv)) (hb:cV P fn=true) (ha:rv::args.map (ev ρ)=vs)
  (h:Go.K.Spec P fn vs w R) (k:∀v w',R v w'→aD P r K (put ρ d v) w'):aD P (.cons ⟨d,.invoke x name args,none⟩ r) K ρ w:=
 dW ⟨t,u,fn,rv,hx,hm,hb,by subst ha;exact h.mono fun e w' ⟨v,hv,hR⟩=>⟨v,hv,k v w' hR⟩⟩
theorem aUu {f:TypeId→Value→String→Bool} {x:Operand} {name:String} {t:TypeId} {u:Value} (hx:ev ρ x=.func (.method name) #[.iface t u] #[]) (hm:f t u name=true) (k:aD P r K (put ρ d (.func (.method name) #[.iface t u] #[])) w):aD P (.cons ⟨d,.nilM f x,none⟩ r) K ρ w:=
 cN rfl (by simp [KOp.fix,hx,hm]) k
end
theorem aYw {t:TypeId} {u:Value} {s:String} (h:aL3 Tryz.prog t u s=true):mo t u s=true:=by unfold mo;exact h
abbrev sI (c:Int):Value:=.iface T.api_Errno (.int .i64 c)
def dM (w:World):Nat→Value→Int→Int→Prop
 |0,v,c,a=>a= -1∧(c=0∧v=.nilIface∨c≠0∧v=sI c)
 |d+1,v,c,a=>dM w d v c a∨c≠0∧0≤a∧∃b u a',v=.iface T.P_api_Fault (.pointer (some ⟨b,0,none⟩))∧At w b (.cells [.int .i64 a,u].toArray T.api_Fault (0,0))∧dM w d u c a'
theorem dM.ext {w w':World} (x:Ext w w'):∀{d:Nat} {v:Value} {c a:Int},dM w d v c a→dM w' d v c a
 |0,_,_,_,h=>h
 |_+1,_,_,_,.inl h=>.inl (dM.ext x h)
 |_+1,_,_,_,.inr ⟨h1,h2,b,u,a',h3,h4,h5⟩=>.inr ⟨h1,h2,b,u,a',h3,h4.ext x,dM.ext x h5⟩
theorem dM.none_ (w:World) (d:Nat):dM w d .nilIface 0 (-1):=by
 induction d with
 |zero=>exact ⟨rfl,.inl ⟨rfl,rfl⟩⟩
 |succ d ih=>exact .inl ih
theorem dM.num (w:World) (d:Nat) {c:Int} (h:c≠0):dM w d (sI c) c (-1):=by
 induction d with
 |zero=>exact ⟨rfl,.inr ⟨h,rfl⟩⟩
 |succ d ih=>exact .inl ih
theorem dM.nil_iff {w:World}:∀{d:Nat} {v:Value} {c a:Int},dM w d v c a→(c=0→v=.nilIface∧a= -1)∧(c≠0→∃t u,v=.iface t u)
 |0,_,_,_,⟨h1,h2⟩=>by
  rcases h2 with ⟨h2,h3⟩|⟨h2,h3⟩
  ·exact ⟨fun _=>⟨h3,h1⟩,fun h=>absurd h2 h⟩
  ·exact ⟨fun h=>absurd h h2,fun _=>⟨_,_,h3⟩⟩
 |_+1,_,_,_,.inl h=>dM.nil_iff h
 |_+1,_,_,_,.inr ⟨h1,_,_,_,_,h3,_⟩=>⟨fun h=>absurd h h1,fun _=>⟨_,_,h3⟩⟩
def rO (w:World) (v:Value) (f:Pt→Option Cn):Prop:=(∃t u,v=.iface t u∧∀p:Pt,iA p.i→∀w1,Ext w w1→∃fn rv,aL3 Tryz.prog t u "Get" =true∧lV Tryz.prog t u "Get" =some (fn,rv)∧cV Tryz.prog fn=true∧
  K.Spec Tryz.prog fn [rv,.agg p.cs.toArray] w1 fun r w2=>∃c:Cn,r=.tuple #[.agg c.cs.toArray,.bool (f p).isSome]∧(f p).getD cn0=c∧Ext w1 w2)∧∀p c,f p=some c→c.s.size≤1000000
theorem rO.ext {w w':World} {v:Value} {f:Pt→Option Cn} (h:rO w v f) (x:Ext w w'):rO w' v f:=by
 obtain ⟨⟨t,u,e,h⟩,h2⟩:=h
 exact ⟨⟨t,u,e,fun p hp w1 x1=>h p hp w1 (x.trans x1)⟩,h2⟩
theorem rO.of_set {w:World} {b mb:Nat} {m:List En} (h:jT T.coins_Set w b mb m) (hs:∀e∈m,e.2.s.size≤1000000):rO w (.iface T.P_coins_Set (.pointer (some ⟨b,0,none⟩))) (aT m):=by
 refine ⟨⟨_,_,rfl,fun p hp w1 x1=>⟨F.coins_Set_Get,.pointer (some ⟨b,0,none⟩),by kernel_rfl,by kernel_rfl,by kernel_rfl,?_⟩⟩,fun p c hc=>hs _ (gB hc)⟩
 have:=aHb p w1 (h.ext x1)
 unfold K.Spec at this ⊢
 exact this.mono fun e w2 ⟨v,e1,e2,x2⟩=>⟨v,e1,fZ m p,e2,rfl,x2⟩
end
section
open Go Go.K
attribute [local irreducible] aD aK aV KOp.wp K.Spec u32 leS vnS str aN cR bI idT aY aI aO
end
end Go.Proofs.YtgloknkcfchnlaaGreatDoor
namespace Go.K
section
open Go
def eA (f:Int):Ent:=⟨aYc (idL 8) 0,str r80,f,69⟩
end
end Go.K
namespace Go.Proofs.YtgloknkcfchnlaaGreatDoor
section
open Go Go.K
attribute [local irreducible] aD aK aV KOp.wp K.Spec u32 leS vnS str aN cR bI idT aY aI aO
end
section
open Go Go.K
attribute [local irreducible] aD aK aV KOp.wp K.Spec u32 leS vnS str aN cR bI idT aY aI aO
theorem bH.outs {t:TypeId} {B:Nat} {M M':List Nat} {w:World} {v:Value} {l:List TOut} (h:bH fT t B M w v l):bH fT t B M' w v l:=by
 obtain ⟨css,h1,h2⟩:=h
 exact ⟨css,h1,h2.mono fun _ _ hr=>hr⟩
end
section
open Go Go.K
attribute [local irreducible] aD aK aV KOp.wp K.Spec u32 leS vnS str aN cR bI idT aY aI aO
end
end Go.Proofs.YtgloknkcfchnlaaGreatDoor
namespace Go.K
section
open Go Go.Proofs.YtgloknkcfchnlaaGreatDoor
end
end Go.K
namespace Go.Proofs.YtgloknkcfchnlaaGreatDoor
section
open Go Go.RowKit Go.Extern.Stop Go.Stop Go.Extern
theorem aJm (v:Value) (w:World):(Extern.ReflectliteType.typeOf #[.iface 40 v]).run Tryz.prog w=.ok (.iface 143 (.agg #[.pointer (some ⟨2,40,none⟩)])) w:=by kernel_rfl
theorem lS (v:Value) (w:World):(Go.method 385 143 v "Comparable").run Tryz.prog w=.ok (207,v) w:=by kernel_rfl
theorem aAj (w:World):((Extern.ReflectliteType.method fun t=>do Extern.Rtype.noPackHeld "Comparable" t;Functor.map (fun a=>Value.bool a.comparable) (typeInfo t)) #[.agg #[.pointer (some ⟨2,40,none⟩)]]).run Tryz.prog w=.ok (.bool true) w:=by kernel_rfl
theorem aRb (v:Value) (xT:TypeId) (w:World):(Instr.typeAssert (.iface 40 v) xT 148 true).run Tryz.prog w=.ok (.tuple #[.nilIface,.bool false]) w:=run_typeAssert_lacksB Tryz.underlying148 (by kernel_rfl) (by kernel_rfl) v xT w
theorem aM6 (v:Value) (xT:TypeId) (w:World):(Instr.typeAssert (.iface 40 v) xT 150 true).run Tryz.prog w=.ok (.tuple #[.nilIface,.bool false]) w:=run_typeAssert_lacksB Tryz.underlying150 (by kernel_rfl) (by kernel_rfl) v xT w
set_option maxRecDepth 20000 in
theorem aVb (a:Int) (w:World):
  Calls Tryz.prog 28 #[.iface 40 (.int .i64 a),.iface 40 (.int .i64 a)] w fun e w'=>e=.returned (.bool true)∧w'=w:=by
 have h8:=@run_callFunc_extern Tryz.prog 45 _ Extern.ReflectliteType.typeOf Tryz.func45 (by kernel_rfl) (by kernel_rfl) (by kernel_rfl) (by kernel_rfl)
 have h32:=@run_callFunc_extern Tryz.prog 207 _ (Extern.ReflectliteType.method fun t=>do Extern.Rtype.noPackHeld "Comparable" t;pure (.bool (←typeInfo t).comparable)) Tryz.func207 (by kernel_rfl) (by kernel_rfl) (by kernel_rfl) (by kernel_rfl)
 have tT:=aJm
 have cT:=aAj
 have mR:=lS
 have heq:=Go.Lib.run_eql_iface_int (P:=Tryz.prog) w (t:=35) (tx:=40) (k:=.i64) (q:=.i64) a a Tryz.underlying35 (by kernel_rfl) Tryz.underlying40
 go_enter Tryz.func28,Tryz.ntmps28
 go_wp2
 refine wp_loop_rounds 1 ?_
 rw [rounds_succ]
 go_wp2
 go_ret
 exact ⟨rfl,rfl⟩
theorem lZ (a:Int) (w:World):K.Spec Tryz.prog 28 [.iface 40 (.int .i64 a),.iface 40 (.int .i64 a)] w fun v w'=>v=.bool true∧w'=w:=
 Calls.mono (aVb a w) fun _ _ h=>⟨_,h.1,rfl,h.2⟩
end
section
open Go Go.RowKit Go.Extern.Stop Go.Stop Go.Extern
abbrev hB:Nat:=2
theorem aW5 (t:Value) (w:World):Calls Tryz.prog 43 #[.nilIface,t] w fun e w'=>e=.returned (.bool false)∧w'=w:=by
 go_enter Tryz.func43,Tryz.ntmps43
 go_wp2
 go_ret
 exact ⟨rfl,rfl⟩
theorem wS (t:Addr) (w:World):(ReflectliteValue.unpack (.iface 105 (.pointer (some t)))).run Tryz.prog w=.ok (.agg #[.pointer (some ⟨2,105,none⟩),.pointer (some ⟨w.heap.size,0,none⟩),.int .u64 150]) (w.alloc (.cells #[.pointer (some t)] 105)):=by kernel_rfl
theorem aDk (a:Addr) (w:World):(ReflectliteValue.methodAny (ReflectliteValue.valueError "reflectlite.Value.Type" 0) (fun t _ _ _=>ReflectliteType.toType t) #[.agg #[.pointer (some ⟨2,105,none⟩),.pointer (some a),.int .u64 150]]).run Tryz.prog w=.ok (.iface 143 (.agg #[.pointer (some ⟨2,105,none⟩)])) w:=by kernel_rfl
theorem yB (h:Value) (w:World):(Go.method 385 143 (.agg #[h]) "Kind").run Tryz.prog w=.ok (196,h) w:=by kernel_rfl
theorem aAi (h:Value) (w:World):(Go.method 385 143 (.agg #[h]) "Elem").run Tryz.prog w=.ok (208,.agg #[h]) w:=by kernel_rfl
theorem gW (h:Value) (w:World):(Go.method 385 143 (.agg #[h]) "Implements").run Tryz.prog w=.ok (209,.agg #[h]) w:=by kernel_rfl
theorem gV (h:Value) (w:World):(Go.method 385 143 (.agg #[h]) "AssignableTo").run Tryz.prog w=.ok (206,.agg #[h]) w:=by kernel_rfl
theorem aFd (w:World):((ReflectliteType.abiMethod fun t=>Functor.map (fun a:Nat=>Value.int IntKind.u8 (a:Int)) (Rtype.kind t)) #[.pointer (some ⟨2,105,none⟩)]).run Tryz.prog w=.ok (.int .u8 22) w:=by kernel_rfl
theorem aI6 (w:World):((ReflectliteType.abiMethod fun t=>Functor.map (fun a:Nat=>Value.int IntKind.u8 (a:Int)) (Rtype.kind t)) #[.pointer (some ⟨2,40,none⟩)]).run Tryz.prog w=.ok (.int .u8 2) w:=by kernel_rfl
theorem aEo (w:World):(ReflectliteType.method ReflectliteType.elem #[.agg #[.pointer (some ⟨2,105,none⟩)]]).run Tryz.prog w=.ok (.iface 143 (.agg #[.pointer (some ⟨2,40,none⟩)])) w:=by kernel_rfl
theorem aIb (w:World):(ReflectliteType.relation "Implements" ReflectliteType.implements_ #[.agg #[.pointer (some ⟨2,40,none⟩)],.iface 143 (.agg #[.pointer (some ⟨2,35,none⟩)])]).run Tryz.prog w=.ok (.bool true) w:=by kernel_rfl
theorem uB (v:Value) (w:World):(ReflectliteType.typeOf #[.iface 40 v]).run Tryz.prog w=.ok (.iface 143 (.agg #[.pointer (some ⟨2,40,none⟩)])) w:=by kernel_rfl
theorem aAo (v:Value) (w:World):(ReflectliteType.typeOf #[.iface 87 v]).run Tryz.prog w=.ok (.iface 143 (.agg #[.pointer (some ⟨2,87,none⟩)])) w:=by kernel_rfl
theorem aIu (w:World):(ReflectliteType.relation "AssignableTo" ReflectliteType.assignableTo #[.agg #[.pointer (some ⟨2,40,none⟩)],.iface 143 (.agg #[.pointer (some ⟨2,40,none⟩)])]).run Tryz.prog w=.ok (.bool true) w:=by kernel_rfl
theorem aPi (w:World):(ReflectliteType.relation "AssignableTo" ReflectliteType.assignableTo #[.agg #[.pointer (some ⟨2,87,none⟩)],.iface 143 (.agg #[.pointer (some ⟨2,40,none⟩)])]).run Tryz.prog w=.ok (.bool false) w:=by kernel_rfl
theorem aBq (n:Int) (w:World):(ReflectliteValue.unpack (.iface 40 (.int .i64 n))).run Tryz.prog w=.ok (.agg #[.pointer (some ⟨2,40,none⟩),.pointer (some ⟨w.heap.size,0,none⟩),.int .u64 130]) (w.alloc (.cells #[.int .i64 n] 40)):=by kernel_rfl
theorem aWg (z:Sem Value) (f:TypeId→Addr→Nat→Nat→Sem Value) (v:Value):ReflectliteValue.method z f #[v]=(do match ←ReflectliteValue.parts v with|none=>z|some (t,a,fl)=>f t a fl (fl%32)):=rfl
theorem aHl (a:Addr) (w:World):(ReflectliteValue.parts (.agg #[.pointer (some ⟨2,105,none⟩),.pointer (some a),.int .u64 150])).run Tryz.prog w=.ok (some (105,a,150)) w:=by kernel_rfl
theorem aBk (a p:Addr) (W:World) (ha:W.cell? a=some (.pointer (some p))):
  (ReflectliteValue.method (ReflectliteValue.valueError "reflectlite.Value.IsNil" 0) ReflectliteValue.isNil #[.agg #[.pointer (some ⟨2,105,none⟩),.pointer (some a),.int .u64 150]]).run Tryz.prog W=.ok (.bool false) W:=by
 rw [aWg]
 simp only [Sem.run_bind,aHl,Result.andThen]
 simp [ReflectliteValue.isNil,loadVar,isAgg,underlying,Tryz.underlying105,ha,Result.andThen]
end
end Go.Proofs.YtgloknkcfchnlaaGreatDoor
