/- Contracts: a view over a graph. Contracts: a graph of any en -/
import Derived.Test.YteceapipdhnhdaaGreatDoorChecked
import Derived.WalkKit
import Derived.LaidEql
import Derived.Lib.IfaceEq
import Derived.Stop.Asserts
import Derived.RowKitTokens
import Derived.Test.YteceapipdhnhdaaGreatDoorNa29
set_option linter.unusedVariables false
set_option linter.unusedSimpArgs false
namespace Go.Proofs.YteceapipdhnhdaaGreatDoor
section
open Go Go.K
attribute [local irreducible] aH aM aY KOp.wp K.Spec u32 leS vnS str aP cM bK idT aQ aG aN
abbrev bE1 (v g:Value) (h:Int):Value:=.iface T.pool_over (.agg #[v,g,.int .i64 h])
theorem bA2 (vt:TypeId) (vu:Value) (o:Option Addr) (h:Int) (w:World):K.Spec Tryz.prog F.pool_Over [.pointer o,.iface vt vu,.int .i64 h] w fun r w'=>r=bE1 (.iface vt vu) (.pointer o) h∧Ext w w':=by
 refine aZk rfl ?_
 unfold aLh
 refine oy ?_
 repeat' (first|refine aZ (d:=some 10) (cs:= [.iface vt vu,.pointer o,.int .i64 h]) rfl ?_|(first|refine go2 ?_|fail))
 exact aA rfl ⟨rfl,Ext.refl _⟩
theorem bLg {l:List Ent} (hE:∀x∈l,EntOk x) {h:Int} {p:Pt} {c:Cn} (hc:aZ5 l h p=some c):c.s.size≤1000000:=by
 unfold aZ5 at hc
 split at hc
 ·rename_i hh
  obtain ⟨o,ho,rfl⟩:=Option.map_eq_some_iff.1 hc
  have h1:iM l p.s=true:=by
   have:=hh
   simp only [fH,Bool.and_eq_true] at this
   exact this.1
  obtain ⟨y,hy,e⟩:=List.any_eq_true.1 h1
  cases hf:l.find? fun x=>decide (x.id=p.s) with
  |none=>exact absurd e (List.find?_eq_none.1 hf y hy)
  |some z=>
   obtain ⟨_,e2,e3,_⟩:=aI4 hf
   have hck:=(hE z e3).check
   have hz:=cI (nD hck) hck
   rw [e2] at ho
   have:=hz.scr o (List.mem_of_getElem? ho)
   show o.s.size≤1000000
   omega
 ·cases hc
abbrev cZ:List Value:= [.int .i64 0,.string ⟨#[]⟩,.int .i64 0]
set_option maxHeartbeats 1000000 in
theorem bGw {w:World} {v:Value} {f:Pt→Option Cn} {g:Nat} {M:List Nat} {l:List Ent} (h:Int) (hV:gV w v f) (hG:GrR w g M l) (hM:∀b∈M,b<w.heap.size):gV w (bE1 v (.pointer (some ⟨g,0,none⟩)) h) (mF f l h):=by
 have hE:=hG.ok
 obtain ⟨⟨t,u,rfl,hv⟩,hz⟩:=hV
 refine ⟨⟨_,_,rfl,fun p hp w1 x1=>⟨F.pool_over_Get,.agg #[.iface t u,.pointer (some ⟨g,0,none⟩),.int .i64 h],by kernel_rfl,by kernel_rfl,by kernel_rfl,?_⟩⟩,fun p c hc=>?_⟩
 ·replace hG:=hG.ext x1
  replace hM:∀b∈M,b<w1.heap.size:=fun b hb=>nLt (hM b hb) x1.size
  refine aM5 rfl ?_
  unfold aBd
  refine oy ?_
  repeat (first|refine zD (d:=some 2) (cs:= [.iface t u,.pointer (some ⟨g,0,none⟩),.int .i64 h]) rfl rfl (fun b2 w2 x2 a2 (r2:Row w2 ⟨b2,0,none⟩ [.iface t u,.pointer (some ⟨g,0,none⟩),.int .i64 h]) hb2=>?_)|refine zD (d:=some 3) (cs:=p.cs) rfl rfl (fun b3 w3 x3 a3 (r3:Row w3 ⟨b3,0,none⟩ p.cs) hb3=>?_)|(refine zH (d:=some 4) (fun b4 w4 x4 a4 hb4=>?_);have x14:Unit→Ext w1 w4:=(fun _=>by exact fx);have h14:w1.heap.size≤b4:=nTr (Ext.size (show Ext w1 w3 by exact fx)) hb4)|(first|refine go2 ?_|fail))
  obtain ⟨fn,rv,_,hm,hb,hS⟩:=hv p hp w4 (x1.trans (x14 ()))
  refine aSn (d:=some 17) rfl hm hb rfl hS ?_
  rintro _ w6 ⟨c,rfl,hc,x6⟩
  obtain ⟨bb,hbb⟩:∃bb,(f p).isSome=bb:=⟨_,rfl⟩
  rw [hbb]
  cases bb with
  |true=>
   obtain ⟨d,hf⟩:=Option.isSome_iff_exists.1 hbb
   have e:mF f l h p=some d:=by unfold mF;rw [hf];rfl
   have ec:d=c:=by rw [hf] at hc;exact hc
   subst ec
   rw [e]
   repeat (first|refine go2 ?_|fail)
   refine zE (d':=6) (fun _=>rfl) rfl rfl rfl (fun b7 w7 x7 a7 (r7:Row w7 ⟨b7,0,none⟩ d.cs) hb7=>?_)
   repeat (first|refine go2 ?_|fail)
   have a7':At w7 b4 _:=At.ext x7 (At.ext x6 a4)
   have x17:Ext w1 w7:=(x14 ()).trans (x6.trans x7)
   refine aW (w0:=w1) (vs:=d.cs) x17 h14 a7' rfl rfl rfl rfl rfl (fun w9 x9 c9 a9 r9=>?_)
   repeat (first|refine go2 ?_|fail)
   exact aA (iY (bA r9 rfl rfl) bI) ⟨_,rfl,rfl,x9⟩
  |false=>
   have hf:f p=none:=by simpa using hbb
   cases ho:fH l p with
   |false=>
    have e:mF f l h p=none:=by unfold mF aZ5;rw [ho,hf];rfl
    rw [e]
    repeat' (first|(refine zC (d:=some 26) rfl (aIy (M:=M) (l:=l) p hp _ (hG.ext (by exact fx)) (fun b hb=>nLt (hM b hb) (Ext.size (by exact fx)))) ?_;rintro _ w5 ⟨o,rfl,ho5,x5⟩;rw [ho])|refine zE (d':=6) (fun _=>rfl) rfl rfl rfl (fun b7 w7 x7 a7 (r7:Row w7 ⟨b7,0,none⟩ c.cs) hb7=>?_)|refine zE (d':=8) (fun _=>rfl) rfl rfl rfl (fun b8 w8 x8 a8 (r8:Row w8 ⟨b8,0,none⟩ (gI o)) hb8=>?_)|refine aZ (d:=some 31) (cs:=cZ) rfl ?_|(first|refine go2 ?_|fail))
    refine aW (w0:=w1) (vs:=cZ) ((x14 ()).trans (x6.trans (x7.trans (x5.trans x8)))) h14 (At.ext x8 (At.ext x5 (At.ext x7 (At.ext x6 a4)))) rfl rfl rfl rfl rfl (fun w9 x9 c9 a9 r9=>?_)
    repeat (first|refine go2 ?_|fail)
    exact aA (iY (bA r9 rfl rfl) bI) ⟨cn0,rfl,rfl,x9⟩
   |true=>
    repeat' (first|(refine zC (d:=some 26) rfl (aIy (M:=M) (l:=l) p hp _ (hG.ext (by exact fx)) (fun b hb=>nLt (hM b hb) (Ext.size (by exact fx)))) ?_;rintro _ w5 ⟨o,rfl,ho5,x5⟩;rw [ho];have ho6:=ho5 ho)|refine zE (d':=6) (fun _=>rfl) rfl rfl rfl (fun b7 w7 x7 a7 (r7:Row w7 ⟨b7,0,none⟩ c.cs) hb7=>?_)|refine zE (d':=8) (fun _=>rfl) rfl rfl rfl (fun b8 w8 x8 a8 (r8:Row w8 ⟨b8,0,none⟩ (gI o)) hb8=>?_)|refine aZ (d:=some 35) (cs:=Cn.cs ⟨o.v,o.s,h⟩) rfl ?_|(first|refine go2 ?_|fail))
    refine aW (w0:=w1) (vs:=Cn.cs ⟨o.v,o.s,h⟩) ((x14 ()).trans (x6.trans (x7.trans (x5.trans x8)))) h14 (At.ext x8 (At.ext x5 (At.ext x7 (At.ext x6 a4)))) rfl rfl rfl rfl rfl (fun w9 x9 c9 a9 r9=>?_)
    repeat (first|refine go2 ?_|fail)
    have e:mF f l h p=some ⟨o.v,o.s,h⟩:=by
     unfold mF aZ5
     rw [hf,if_pos ho]
     show Option.map _ _=_
     rw [show (dI l p.s).tx.outs[p.i.toNat]? =some o from ho6];rfl
    rw [e]
    exact aA (iY (bA r9 rfl rfl) bI) ⟨_,rfl,rfl,x9⟩
 ·unfold mF at hc
  cases hf:f p with
  |some d2=>rw [hf] at hc;cases hc;exact hz p _ hf
  |none=>rw [hf] at hc;exact bLg hE hc
end
section
open Go Go.K
attribute [local irreducible] aH aM aY KOp.wp K.Spec u32 leS vnS str aP cM bK idT aQ aG aN idN bG cL cB bQ cF fM
end
section
open Go Go.K
attribute [local irreducible] aH aM aY KOp.wp K.Spec u32 leS vnS str aP cM bK idT aQ aG aN idN bG cL cB bQ cF fM
theorem bH.outs {t:TypeId} {B:Nat} {M M':List Nat} {w:World} {v:Value} {l:List TOut} (h:bH gF t B M w v l):bH gF t B M' w v l:=by
 obtain ⟨css,h1,h2⟩:=h
 exact ⟨css,h1,h2.mono fun _ _ hr=>hr⟩
end
section
open Go Go.K
attribute [local irreducible] aH aM aY KOp.wp K.Spec u32 leS vnS str aP cM bK idT aQ aG aN idN bG cL cB bQ cF fM
end
end Go.Proofs.YteceapipdhnhdaaGreatDoor
namespace Go.K
section
open Go Go.Proofs.YteceapipdhnhdaaGreatDoor
end
end Go.K
namespace Go.Proofs.YteceapipdhnhdaaGreatDoor
section
open Go Go.RowKit Go.Extern.Stop Go.Stop Go.Extern
theorem bKf (v:Value) (w:World):(Extern.ReflectliteType.typeOf #[.iface 41 v]).run Tryz.prog w=.ok (.iface 176 (.agg #[.pointer (some ⟨4,41,none⟩)])) w:=by kernel_rfl
theorem aFs (v:Value) (w:World):(Go.method 534 176 v "Comparable").run Tryz.prog w=.ok (351,v) w:=by kernel_rfl
theorem aU4 (w:World):((Extern.ReflectliteType.method fun t=>do Extern.Rtype.noPackHeld "Comparable" t;Functor.map (fun a=>Value.bool a.comparable) (typeInfo t)) #[.agg #[.pointer (some ⟨4,41,none⟩)]]).run Tryz.prog w=.ok (.bool true) w:=by kernel_rfl
set_option maxRecDepth 20000 in
theorem bL9 (a:Int) (w:World):
  Calls Tryz.prog 18 #[.iface 41 (.int .i64 a),.iface 41 (.int .i64 a)] w fun e w'=>e=.returned (.bool true)∧w'=w:=by
 have h8:=@run_callFunc_extern Tryz.prog 44 _ Extern.ReflectliteType.typeOf Tryz.func44 (by kernel_rfl) (by kernel_rfl) (by kernel_rfl) (by kernel_rfl)
 have h32:=@run_callFunc_extern Tryz.prog 351 _ (Extern.ReflectliteType.method fun t=>do Extern.Rtype.noPackHeld "Comparable" t;pure (.bool (←typeInfo t).comparable)) Tryz.func351 (by kernel_rfl) (by kernel_rfl) (by kernel_rfl) (by kernel_rfl)
 have tT:=bKf
 have cT:=aU4
 have mR:=aFs
 have heq:=Go.Lib.run_eql_iface_int (P:=Tryz.prog) w (t:=53) (tx:=41) (k:=.i64) (q:=.i64) a a Tryz.underlying53 (by kernel_rfl) Tryz.underlying41
 go_enter Tryz.func18,Tryz.ntmps18
 go_wp2
 refine wp_loop_rounds 1 ?_
 rw [rounds_succ]
 go_wp2
 go_ret
 exact ⟨rfl,rfl⟩
theorem aGi (a:Int) (w:World):K.Spec Tryz.prog 18 [.iface 41 (.int .i64 a),.iface 41 (.int .i64 a)] w fun v w'=>v=.bool true∧w'=w:=
 Calls.mono (bL9 a w) fun _ _ h=>⟨_,h.1,rfl,h.2⟩
end
section
open Go Go.RowKit Go.Extern.Stop Go.Stop Go.Extern
abbrev hB:Nat:=4
theorem aGe (t:Addr) (w:World):(ReflectliteValue.unpack (.iface 201 (.pointer (some t)))).run Tryz.prog w=.ok (.agg #[.pointer (some ⟨4,201,none⟩),.pointer (some ⟨w.heap.size,0,none⟩),.int .u64 150]) (w.alloc (.cells #[.pointer (some t)] 201)):=by kernel_rfl
theorem aO0 (a:Addr) (w:World):(ReflectliteValue.methodAny (ReflectliteValue.valueError "reflectlite.Value.Type" 0) (fun t _ _ _=>ReflectliteType.toType t) #[.agg #[.pointer (some ⟨4,201,none⟩),.pointer (some a),.int .u64 150]]).run Tryz.prog w=.ok (.iface 176 (.agg #[.pointer (some ⟨4,201,none⟩)])) w:=by kernel_rfl
theorem aVj (h:Value) (w:World):(Go.method 534 176 (.agg #[h]) "Kind").run Tryz.prog w=.ok (343,h) w:=by kernel_rfl
theorem aU2 (h:Value) (w:World):(Go.method 534 176 (.agg #[h]) "Elem").run Tryz.prog w=.ok (352,.agg #[h]) w:=by kernel_rfl
theorem wX (h:Value) (w:World):(Go.method 534 176 (.agg #[h]) "Implements").run Tryz.prog w=.ok (353,.agg #[h]) w:=by kernel_rfl
theorem wJ (h:Value) (w:World):(Go.method 534 176 (.agg #[h]) "AssignableTo").run Tryz.prog w=.ok (350,.agg #[h]) w:=by kernel_rfl
theorem aOp (w:World):((ReflectliteType.abiMethod fun t=>Functor.map (fun a:Nat=>Value.int IntKind.u8 (a:Int)) (Rtype.kind t)) #[.pointer (some ⟨4,201,none⟩)]).run Tryz.prog w=.ok (.int .u8 22) w:=by kernel_rfl
theorem aUu (w:World):((ReflectliteType.abiMethod fun t=>Functor.map (fun a:Nat=>Value.int IntKind.u8 (a:Int)) (Rtype.kind t)) #[.pointer (some ⟨4,41,none⟩)]).run Tryz.prog w=.ok (.int .u8 2) w:=by kernel_rfl
theorem aP1 (w:World):(ReflectliteType.method ReflectliteType.elem #[.agg #[.pointer (some ⟨4,201,none⟩)]]).run Tryz.prog w=.ok (.iface 176 (.agg #[.pointer (some ⟨4,41,none⟩)])) w:=by kernel_rfl
theorem aVm (w:World):(ReflectliteType.relation "Implements" ReflectliteType.implements_ #[.agg #[.pointer (some ⟨4,41,none⟩)],.iface 176 (.agg #[.pointer (some ⟨4,53,none⟩)])]).run Tryz.prog w=.ok (.bool true) w:=by kernel_rfl
theorem aJt (v:Value) (w:World):(ReflectliteType.typeOf #[.iface 41 v]).run Tryz.prog w=.ok (.iface 176 (.agg #[.pointer (some ⟨4,41,none⟩)])) w:=by kernel_rfl
theorem aSv (v:Value) (w:World):(ReflectliteType.typeOf #[.iface 202 v]).run Tryz.prog w=.ok (.iface 176 (.agg #[.pointer (some ⟨4,202,none⟩)])) w:=by kernel_rfl
theorem aV2 (w:World):(ReflectliteType.relation "AssignableTo" ReflectliteType.assignableTo #[.agg #[.pointer (some ⟨4,41,none⟩)],.iface 176 (.agg #[.pointer (some ⟨4,41,none⟩)])]).run Tryz.prog w=.ok (.bool true) w:=by kernel_rfl
theorem bE8 (w:World):(ReflectliteType.relation "AssignableTo" ReflectliteType.assignableTo #[.agg #[.pointer (some ⟨4,202,none⟩)],.iface 176 (.agg #[.pointer (some ⟨4,41,none⟩)])]).run Tryz.prog w=.ok (.bool false) w:=by kernel_rfl
theorem aKc (n:Int) (w:World):(ReflectliteValue.unpack (.iface 41 (.int .i64 n))).run Tryz.prog w=.ok (.agg #[.pointer (some ⟨4,41,none⟩),.pointer (some ⟨w.heap.size,0,none⟩),.int .u64 130]) (w.alloc (.cells #[.int .i64 n] 41)):=by kernel_rfl
theorem bRe (z:Sem Value) (f:TypeId→Addr→Nat→Nat→Sem Value) (v:Value):ReflectliteValue.method z f #[v]=(do match ←ReflectliteValue.parts v with|none=>z|some (t,a,fl)=>f t a fl (fl%32)):=rfl
theorem aTr (a:Addr) (w:World):(ReflectliteValue.parts (.agg #[.pointer (some ⟨4,201,none⟩),.pointer (some a),.int .u64 150])).run Tryz.prog w=.ok (some (201,a,150)) w:=by kernel_rfl
theorem aJ7 (a p:Addr) (W:World) (ha:W.cell? a=some (.pointer (some p))):
  (ReflectliteValue.method (ReflectliteValue.valueError "reflectlite.Value.IsNil" 0) ReflectliteValue.isNil #[.agg #[.pointer (some ⟨4,201,none⟩),.pointer (some a),.int .u64 150]]).run Tryz.prog W=.ok (.bool false) W:=by
 rw [bRe]
 simp only [Sem.run_bind,aTr,Result.andThen]
 simp [ReflectliteValue.isNil,loadVar,isAgg,underlying,Tryz.underlying201,ha,Result.andThen]
end
end Go.Proofs.YteceapipdhnhdaaGreatDoor
namespace Go.K
section
open Go Go.Proofs.YteceapipdhnhdaaGreatDoor
end
section
open Go Go.Proofs.YteceapipdhnhdaaGreatDoor
end
end Go.K
