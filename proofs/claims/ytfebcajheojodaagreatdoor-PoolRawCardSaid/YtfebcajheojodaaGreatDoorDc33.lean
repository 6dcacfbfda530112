/- Contracts: errors.As at a variable of a fault. Contracts: accepting a transaction, the walk. -/
import Derived.Test.YtfebcajheojodaaGreatDoorDc32
set_option linter.unusedVariables false
set_option linter.unusedSimpArgs false
section
namespace Go.Proofs.YtfebcajheojodaaGreatDoor
open Go Go.RowKit Go.Extern.Stop Go.Stop Go.Extern
theorem asUnpackPPF (t:Addr) (w:World):(ReflectliteValue.unpack (.iface 123 (.pointer (some t)))).run Tryz.prog w=.ok (.agg #[.pointer (some ⟨4,123,none⟩),.pointer (some ⟨w.heap.size,0,none⟩),.int .u64 150]) (w.alloc (.cells #[.pointer (some t)] 123)):=by kernel_rfl
theorem asTypePPF (a:Addr) (w:World):(ReflectliteValue.methodAny (ReflectliteValue.valueError "reflectlite.Value.Type" 0) (fun t _ _ _=>ReflectliteType.toType t) #[.agg #[.pointer (some ⟨4,123,none⟩),.pointer (some a),.int .u64 150]]).run Tryz.prog w=.ok (.iface 190 (.agg #[.pointer (some ⟨4,123,none⟩)])) w:=by kernel_rfl
theorem asKindPPF (w:World):((ReflectliteType.abiMethod fun t=>Functor.map (fun a:Nat=>Value.int IntKind.u8 (a:Int)) (Rtype.kind t)) #[.pointer (some ⟨4,123,none⟩)]).run Tryz.prog w=.ok (.int .u8 22) w:=by kernel_rfl
theorem asKindPF (w:World):((ReflectliteType.abiMethod fun t=>Functor.map (fun a:Nat=>Value.int IntKind.u8 (a:Int)) (Rtype.kind t)) #[.pointer (some ⟨4,122,none⟩)]).run Tryz.prog w=.ok (.int .u8 22) w:=by kernel_rfl
theorem asElemPPF (w:World):(ReflectliteType.method ReflectliteType.elem #[.agg #[.pointer (some ⟨4,123,none⟩)]]).run Tryz.prog w=.ok (.iface 190 (.agg #[.pointer (some ⟨4,122,none⟩)])) w:=by kernel_rfl
theorem asImplF (w:World):(ReflectliteType.relation "Implements" ReflectliteType.implements_ #[.agg #[.pointer (some ⟨4,122,none⟩)],.iface 190 (.agg #[.pointer (some ⟨4,41,none⟩)])]).run Tryz.prog w=.ok (.bool true) w:=by kernel_rfl
theorem asAssFF (w:World):(ReflectliteType.relation "AssignableTo" ReflectliteType.assignableTo #[.agg #[.pointer (some ⟨4,122,none⟩)],.iface 190 (.agg #[.pointer (some ⟨4,122,none⟩)])]).run Tryz.prog w=.ok (.bool true) w:=by kernel_rfl
theorem asAssEF (w:World):(ReflectliteType.relation "AssignableTo" ReflectliteType.assignableTo #[.agg #[.pointer (some ⟨4,53,none⟩)],.iface 190 (.agg #[.pointer (some ⟨4,122,none⟩)])]).run Tryz.prog w=.ok (.bool false) w:=by kernel_rfl
theorem asUnpackF (e:Addr) (w:World):(ReflectliteValue.unpack (.iface 122 (.pointer (some e)))).run Tryz.prog w=.ok (.agg #[.pointer (some ⟨4,122,none⟩),.pointer (some ⟨w.heap.size,0,none⟩),.int .u64 150]) (w.alloc (.cells #[.pointer (some e)] 122)):=by kernel_rfl
theorem asPartsPPF (a:Addr) (w:World):(ReflectliteValue.parts (.agg #[.pointer (some ⟨4,123,none⟩),.pointer (some a),.int .u64 150])).run Tryz.prog w=.ok (some (123,a,150)) w:=by kernel_rfl
theorem asIsNilPPF (a p:Addr) (W:World) (ha:W.cell? a=some (.pointer (some p))):
  (ReflectliteValue.method (ReflectliteValue.valueError "reflectlite.Value.IsNil" 0) ReflectliteValue.isNil #[.agg #[.pointer (some ⟨4,123,none⟩),.pointer (some a),.int .u64 150]]).run Tryz.prog W=.ok (.bool false) W:=by
 rw [rlmA]
 simp only [Sem.run_bind,asPartsPPF,Result.andThen]
 simp [ReflectliteValue.isNil,loadVar,isAgg,underlying,Tryz.underlying123,ha,Result.andThen]
theorem asElemOfPPF (w:World):(Rtype.elem? 123).run Tryz.prog w=.ok (some 122) w:=by kernel_rfl
theorem asMkF (p:Addr) (w:World):(ReflectliteValue.mk 122 p ReflectliteValue.flagAddr).run Tryz.prog w=.ok (.agg #[.pointer (some ⟨4,122,none⟩),.pointer (some p),.int .u64 406]) w:=by kernel_rfl
theorem asElemVPPF (a p:Addr) (W:World) (ha:W.cell? a=some (.pointer (some p))):
  (ReflectliteValue.method (ReflectliteValue.valueError "reflectlite.Value.Elem" 0) ReflectliteValue.elem #[.agg #[.pointer (some ⟨4,123,none⟩),.pointer (some a),.int .u64 150]]).run Tryz.prog W
   =.ok (.agg #[.pointer (some ⟨4,122,none⟩),.pointer (some p),.int .u64 406]) W:=by
 rw [rlmA]
 simp only [Sem.run_bind,asPartsPPF,Result.andThen]
 simp [ReflectliteValue.elem,loadVar,isAgg,underlying,Tryz.underlying123,ha,Result.andThen,asElemOfPPF,asMkF]
theorem asPartsFa (a:Addr) (w:World):(ReflectliteValue.parts (.agg #[.pointer (some ⟨4,122,none⟩),.pointer (some a),.int .u64 406])).run Tryz.prog w=.ok (some (122,a,406)) w:=by kernel_rfl
theorem asPartsF (a:Addr) (w:World):(ReflectliteValue.parts (.agg #[.pointer (some ⟨4,122,none⟩),.pointer (some a),.int .u64 150])).run Tryz.prog w=.ok (some (122,a,150)) w:=by kernel_rfl
theorem asDirectF (w:World):(Rtype.directlyAssignable 122 122).run Tryz.prog w=.ok true w:=by kernel_rfl
theorem asSetF (ta b e:Addr) (old:Value) (W:World) (hb:W.cell? b=some (.pointer (some e))) (ht:W.cell? ta=some old) (hf:W.frozen? ta=false):
  (ReflectliteValue.set #[.agg #[.pointer (some ⟨4,122,none⟩),.pointer (some ta),.int .u64 406],.agg #[.pointer (some ⟨4,122,none⟩),.pointer (some b),.int .u64 150]]).run Tryz.prog W
   =.ok (.tuple #[]) (W.setCell ta (.pointer (some e))):=by
 rw [rlsA]
 simp only [Sem.run_bind,asPartsFa,asPartsF,Result.andThen]
 simp [ReflectliteValue.flagAddr,loadVar,isAgg,underlying,Tryz.underlying122,hb,Result.andThen,asDirectF,storeVar,Value.cells,storeCells,Addr.add]
 rw [run_store Tryz.prog W ta _ _ (by rfl)]
 simp [ht,hf]
theorem noAsE (v:Value) (xT:TypeId) (w:World):(Instr.typeAssert (.iface 53 v) xT 238 true).run Tryz.prog w=.ok (.tuple #[.nilIface,.bool false]) w:=run_typeAssert_lacksB Tryz.underlying238 (by kernel_rfl) (by kernel_rfl) v xT w
def asX2 (w:World) (t:Addr):World:=(w.alloc (.cells #[.pointer (some t)] 123)).alloc (.cells #[.pointer (some ⟨4,123,none⟩),.pointer (some ⟨w.heap.size,0,none⟩),.int .u64 150] 182)
def asX3 (w:World) (t:Addr):World:=(asX2 w t).alloc (.cells #[.pointer (some ⟨4,123,none⟩),.pointer (some ⟨w.heap.size,0,none⟩),.int .u64 150] 182)
set_option maxHeartbeats 8000000 in
set_option maxRecDepth 20000 in
theorem as_hitF (b1:Nat) (t:Addr) (old:Value) (w:World) (hg:w.cell? ⟨0,0,none⟩=some (.iface 190 (.agg #[.pointer (some ⟨4,41,none⟩)]))) (ht0:w.cell? t=some old) (hf0:w.frozen? t=false):
  Calls Tryz.prog 49 #[.iface 122 (.pointer (some ⟨b1,0,none⟩)),.iface 123 (.pointer (some t))] w fun ev w'=>ev=.returned (.bool true)∧Go.K.Chg [t.block] w w'∧w'.cell? t=some (.pointer (some ⟨b1,0,none⟩)):=by
 have h6:=@run_callFunc_extern Tryz.prog 104 _ (fun args=>ReflectliteValue.unpack (args.getD 0 (.tuple #[]))) Tryz.func104 (by kernel_rfl) (by kernel_rfl) (by kernel_rfl) (by kernel_rfl)
 have h7:=@run_callFunc_extern Tryz.prog 105 _ (ReflectliteValue.methodAny (ReflectliteValue.valueError "reflectlite.Value.Type" 0) (fun t _ _ _=>ReflectliteType.toType t)) Tryz.func105 (by kernel_rfl) (by kernel_rfl) (by kernel_rfl) (by kernel_rfl)
 have h8:=@run_callFunc_extern Tryz.prog 106 _ (ReflectliteValue.method (ReflectliteValue.valueError "reflectlite.Value.IsNil" 0) ReflectliteValue.isNil) Tryz.func106 (by kernel_rfl) (by kernel_rfl) (by kernel_rfl) (by kernel_rfl)
 have h27:=@run_callFunc_extern Tryz.prog 254 _ (ReflectliteType.abiMethod fun t=>do pure (.int .u8 (←Rtype.kind t))) Tryz.func254 (by kernel_rfl) (by kernel_rfl) (by kernel_rfl) (by kernel_rfl)
 have h37:=@run_callFunc_extern Tryz.prog 268 _ (ReflectliteType.method ReflectliteType.elem) Tryz.func268 (by kernel_rfl) (by kernel_rfl) (by kernel_rfl) (by kernel_rfl)
 have h38:=@run_callFunc_extern Tryz.prog 269 _ (ReflectliteType.relation "Implements" ReflectliteType.implements_) Tryz.func269 (by kernel_rfl) (by kernel_rfl) (by kernel_rfl) (by kernel_rfl)
 have h10:=@run_callFunc_extern Tryz.prog 52 _ ReflectliteType.typeOf Tryz.func52 (by kernel_rfl) (by kernel_rfl) (by kernel_rfl) (by kernel_rfl)
 have h35:=@run_callFunc_extern Tryz.prog 266 _ (ReflectliteType.relation "AssignableTo" ReflectliteType.assignableTo) Tryz.func266 (by kernel_rfl) (by kernel_rfl) (by kernel_rfl) (by kernel_rfl)
 have h11:=@run_callFunc_extern Tryz.prog 152 _ (ReflectliteValue.method (ReflectliteValue.valueError "reflectlite.Value.Elem" 0) ReflectliteValue.elem) Tryz.func152 (by kernel_rfl) (by kernel_rfl) (by kernel_rfl) (by kernel_rfl)
 have h12:=@run_callFunc_extern Tryz.prog 153 _ ReflectliteValue.set Tryz.func153 (by kernel_rfl) (by kernel_rfl) (by kernel_rfl) (by kernel_rfl)
 have tF:=asTypeOfF
 have mA:=asMAssignable
 have aF:=asAssFF
 have vF:=asUnpackF
 have f6:=asUnpackPPF
 have f7:=asTypePPF
 have mK:=asMKind
 have mE:=asMElem
 have mI:=asMImplements
 have kP:=asKindPPF
 have kE:=asKindPF
 have eP:=asElemPPF
 have iE:=asImplF
 have n8:=asIsNilPPF ⟨w.heap.size,0,none⟩ t (asX2 w t) (by simp [asX2])
 have hg2:(asX2 w t).cell? ⟨0,0,none⟩=_:=cell_al (cell_al hg)
 have el:=asElemVPPF ⟨w.heap.size,0,none⟩ t (asX3 w t) (cell_al (by simp [asX2]))
 have st:=asSetF t ⟨w.heap.size+1+1+1,0,none⟩ ⟨b1,0,none⟩ old ((asX3 w t).alloc (.cells #[.pointer (some ⟨b1,0,none⟩)] 122))
  (by rw [World.cell?_alloc_at _ _ _ _ (by simp [asX3,asX2])];rfl) (cell_al (cell_al (cell_al (cell_al ht0)))) (froz_al (cell_al (cell_al (cell_al ht0))) (froz_al (cell_al (cell_al ht0)) (froz_al (cell_al ht0) (froz_al ht0 hf0))))
 unfold asX3 asX2 at el st
 unfold asX2 at n8 hg2
 go_enter Tryz.func49,Tryz.ntmps49
 go_wp2
 refine wp_loop_rounds 1 ?_
 rw [rounds_succ]
 go_wp2
 go_ret
 refine ⟨rfl,((((Go.K.Ext.alloc _ _).trans (Go.K.Ext.alloc _ _)).trans (Go.K.Ext.alloc _ _)).trans (Go.K.Ext.alloc _ _)).chg (Go.K.Chg.setCell _ t _),World.cell?_setCell_same _ _ _ (u:=old) (cell_al (cell_al (cell_al (cell_al ht0))))⟩
set_option maxHeartbeats 8000000 in
set_option maxRecDepth 20000 in
theorem as_missF (n:Int) (t:Addr) (w:World) (hg:w.cell? ⟨0,0,none⟩=some (.iface 190 (.agg #[.pointer (some ⟨4,41,none⟩)]))):
  Calls Tryz.prog 49 #[.iface 53 (.int .i64 n),.iface 123 (.pointer (some t))] w fun ev w'=>ev=.returned (.bool false)∧Go.K.Ext w w':=by
 have h6:=@run_callFunc_extern Tryz.prog 104 _ (fun args=>ReflectliteValue.unpack (args.getD 0 (.tuple #[]))) Tryz.func104 (by kernel_rfl) (by kernel_rfl) (by kernel_rfl) (by kernel_rfl)
 have h7:=@run_callFunc_extern Tryz.prog 105 _ (ReflectliteValue.methodAny (ReflectliteValue.valueError "reflectlite.Value.Type" 0) (fun t _ _ _=>ReflectliteType.toType t)) Tryz.func105 (by kernel_rfl) (by kernel_rfl) (by kernel_rfl) (by kernel_rfl)
 have h8:=@run_callFunc_extern Tryz.prog 106 _ (ReflectliteValue.method (ReflectliteValue.valueError "reflectlite.Value.IsNil" 0) ReflectliteValue.isNil) Tryz.func106 (by kernel_rfl) (by kernel_rfl) (by kernel_rfl) (by kernel_rfl)
 have h27:=@run_callFunc_extern Tryz.prog 254 _ (ReflectliteType.abiMethod fun t=>do pure (.int .u8 (←Rtype.kind t))) Tryz.func254 (by kernel_rfl) (by kernel_rfl) (by kernel_rfl) (by kernel_rfl)
 have h37:=@run_callFunc_extern Tryz.prog 268 _ (ReflectliteType.method ReflectliteType.elem) Tryz.func268 (by kernel_rfl) (by kernel_rfl) (by kernel_rfl) (by kernel_rfl)
 have h38:=@run_callFunc_extern Tryz.prog 269 _ (ReflectliteType.relation "Implements" ReflectliteType.implements_) Tryz.func269 (by kernel_rfl) (by kernel_rfl) (by kernel_rfl) (by kernel_rfl)
 have h10:=@run_callFunc_extern Tryz.prog 52 _ ReflectliteType.typeOf Tryz.func52 (by kernel_rfl) (by kernel_rfl) (by kernel_rfl) (by kernel_rfl)
 have h35:=@run_callFunc_extern Tryz.prog 266 _ (ReflectliteType.relation "AssignableTo" ReflectliteType.assignableTo) Tryz.func266 (by kernel_rfl) (by kernel_rfl) (by kernel_rfl) (by kernel_rfl)
 have h11:=@run_callFunc_extern Tryz.prog 152 _ (ReflectliteValue.method (ReflectliteValue.valueError "reflectlite.Value.Elem" 0) ReflectliteValue.elem) Tryz.func152 (by kernel_rfl) (by kernel_rfl) (by kernel_rfl) (by kernel_rfl)
 have h12:=@run_callFunc_extern Tryz.prog 153 _ ReflectliteValue.set Tryz.func153 (by kernel_rfl) (by kernel_rfl) (by kernel_rfl) (by kernel_rfl)
 have tO:=asTypeOfE
 have mA:=asMAssignable
 have aE:=asAssEF
 have nA:=noAsE
 have uE:=noUnwrapE
 have uS:=noUnwrapsE
 have f6:=asUnpackPPF
 have f7:=asTypePPF
 have mK:=asMKind
 have mE:=asMElem
 have mI:=asMImplements
 have kP:=asKindPPF
 have kE:=asKindPF
 have eP:=asElemPPF
 have iE:=asImplF
 have n8:=asIsNilPPF ⟨w.heap.size,0,none⟩ t (asX2 w t) (by simp [asX2])
 have hg2:(asX2 w t).cell? ⟨0,0,none⟩=_:=cell_al (cell_al hg)
 unfold asX2 at n8 hg2
 go_enter Tryz.func49,Tryz.ntmps49
 go_wp2
 refine wp_loop_rounds 1 ?_
 rw [rounds_succ]
 go_wp2
 go_ret
 exact ⟨rfl,((Go.K.Ext.alloc _ _).trans (Go.K.Ext.alloc _ _)).trans (Go.K.Ext.alloc _ _)⟩
end Go.Proofs.YtfebcajheojodaaGreatDoor
end
section
namespace Go.Proofs.YtfebcajheojodaaGreatDoor
open Go Go.K
attribute [local irreducible] regK codeK retK KOp.wp K.Spec u32 leS vnS str zero32 sha2 encT idT sizeT checkT grantB idN stepR workL reachE findI dropG addG aboveL belowL idsOf feeD sizeD cntS metL confL evL inS inB needI needL feeOf needN needE mayE freshP rulesL fitsL feeP dustI numAt byteAt plainP dropAll accE accIds accL askedF
theorem Gr.low {w:World} {B B' g:Nat} {M:List Nat} {l:List Ent} (h:Gr w B g M l) (hb:B'≤B):Gr w B' g M l:=by
 obtain ⟨b1,vo,b2,m,sp,hP,e⟩:=h
 have:=hP.lo
 exact ⟨b1,vo,b2,m,sp,⟨hP.at_,hP.ents,hP.pts,hP.ord.lower hb,hP.inv,hP.nd,by omega,by omega,by omega⟩,e⟩
set_option maxHeartbeats 4000000 in
theorem accept_spec {B g:Nat} {M N:List Nat} {l:List Ent} {cs:List Value} {t:Tx} {v:Value} {f:Pt→Option Cn} (h rate:Int) (w:World) (hG:Gr w B g M l) (hV:ViewR w v f) (ht:txR.rel N w cs t) (hs:t.Sm) (hN:∀b∈N,b<w.heap.size) (hMN:∀b∈M,b∈N) (hl:l.length≤1000) (hf:∀x∈l,x.fee≤1000000000000):
  K.Spec Tryz.prog F.pool_Accept [.pointer (some ⟨g,0,none⟩),.agg cs.toArray,termV v h rate] w fun r w'=>∃u e M',r=.tuple #[u,e]∧Own strE T.string w.heap.size w' u (accIds f l t h rate)∧ErrR w' 1 e (accE f l t h rate).1 (accE f l t h rate).2∧Gr w' B g M' (accL f l t h rate)∧Chg M w w'∧(∀b∈M',b∈M∨w.heap.size≤b)∧(∀b∈blkOf u,b∉M'):=by
 have ht0:=ht
 have hM:∀b∈M,b<w.heap.size:=fun b hb=>hN b (hMN b hb)
 obtain ⟨iv,ov,rfl,hi,ho,hv⟩:=ht
 obtain ⟨vt,vu,rfl⟩:∃vt vu,v=.iface vt vu:=by obtain ⟨⟨a,b,e,_⟩,_⟩:=hV;exact ⟨a,b,e⟩
 have fail:∀{w':World} {e:Value} {c a:Int},Ext w w'→accE f l t h rate=(c,a)→accIds f l t h rate= []→accL f l t h rate=l→ErrR w' 1 e c a→∃u e' M',Value.tuple #[.slice none 0 0,e]=.tuple #[u,e']∧Own strE T.string w.heap.size w' u (accIds f l t h rate)∧ErrR w' 1 e' (accE f l t h rate).1 (accE f l t h rate).2∧Gr w' B g M' (accL f l t h rate)∧Chg M w w'∧(∀b∈M',b∈M∨w.heap.size≤b)∧(∀b∈blkOf u,b∉M'):=fun x e1 e2 e3 he=>
  ⟨_,_,M,rfl,by rw [e2];exact Own.nil _ _ _,by rw [e1];exact he,by rw [e3];exact hG.ext x,x.mono (by simp),fun b hb=>.inl hb,fun b hb=>by simp [blkOf] at hb⟩
 by_cases h0:(plainP f l t h).2.1=0
 ·obtain ⟨hc,hg,hh,hgood⟩:=plain_good h0
  have hgf:=(goodB_iff _).1 hgood
  have hz:=(sz_of_check hs hc).sizeM
  have e0:sizeV t=.tuple #[.int .i64 (sizeT t:Nat),.int .i64 0]:=by rw [sizeV,if_pos hc]
  generalize hfee:(plainP f l t h).1=fee at*
  refine s_pool_Accept rfl ?_
  unfold k_pool_Accept
  refine oy ?_
  repeat (first|(refine zD (d:=some 4) rfl rfl (fun bt wt xt bt' (rt:Row wt ⟨bt,0,none⟩ (txCs t iv ov)) hbt0=>?_))|(refine zD (d:=some 5) (cs:= [.iface vt vu,.int .i64 h,.int .i64 rate]) rfl rfl (fun bs ws xs bs' (rs:Row ws ⟨bs,0,none⟩ [.iface vt vu,.int .i64 h,.int .i64 rate]) hbs0=>?_))|(refine zC (d:=some 21) rfl (plain_spec (M:=M) (N:=N) (l:=l) (f:=f) (cs:=txCs t iv ov) (t:=t) h rate _ (hG.r.ext (by exact fx)) (fun b hb=>Nat.lt_of_lt_of_le (hM b hb) (Ext.size (by exact fx))) (hV.ext (by exact fx)) (R.ext ht0 (by exact fx)) hs) ?_;rintro _ w3 ⟨e,rfl,he,x3⟩;obtain ⟨hn1,hn2⟩:=he.nil_iff)|(first|refine go1 ?_|refine zg (fun _ _=>?_)|refine zi (fun _ _=>?_)))
  obtain ⟨rfl, -⟩:=hn1 h0
  rw [hfee]
  clear he hn1 hn2
  repeat (first|(refine zC (d:=some 29) rfl (size_spec (M:=N) (cs:=txCs t iv ov) (t:=t) _ (R.ext ht0 (by exact fx)) hs) ?_;rintro _ w4 ⟨rfl,x4⟩;rw [e0])|(refine zC (d:=some 35) rfl (asked_spec (.iface vt vu) rfl h rate (sizeT t) (by omega) _) ?_;rintro _ w5 ⟨rfl,x5⟩)|(first|refine go1 ?_|refine zg (fun _ _=>?_)|refine zi (fun _ _=>?_)))
  refine zL (p:=fee<askedF rate (sizeT t)) rfl (fun h1=>?_) (fun h1=>?_)
  ·have e:=acc_fee (rate:=rate) h0 (by rw [hfee];exact h1)
   obtain ⟨e2,e3⟩:=acc_err (by decide) e
   repeat (first|refine go1 ?_|refine zg (fun _ _=>?_)|refine zi (fun _ _=>?_))
   exact x_ret rfl (fail (by exact fx) e e2 e3 (ErrR.num _ _ (by decide)))
  repeat (first|(refine zC (d:=some 41) rfl (rules_spec (M:=M) (N:=N) (l:=l) (cs:=txCs t iv ov) (t:=t) fee _ (hG.r.ext (by exact fx)) (fun b hb=>Nat.lt_of_lt_of_le (hM b hb) (Ext.size (by exact fx))) (R.ext ht0 (by exact fx)) hs hl hf) ?_;rintro _ w6 ⟨rfl,x6⟩)|(first|refine go1 ?_|refine zg (fun _ _=>?_)|refine zi (fun _ _=>?_)))
  refine zN (p:=rulesL l t fee=0) rfl (fun h2=>?_) (fun h2=>?_)
  ·have e:=acc_rules (rate:=rate) h0 (by rw [hfee];exact h1) (by rw [hfee];exact h2)
   obtain ⟨e2,e3⟩:=acc_err (by rw [hfee];exact h2) e
   rw [hfee] at e
   repeat (first|refine go1 ?_|refine zg (fun _ _=>?_)|refine zi (fun _ _=>?_))
   exact x_ret rfl (fail (by exact fx) e e2 e3 (ErrR.num _ _ h2))
  repeat (first|refine go1 ?_|refine zg (fun _ _=>?_)|refine zi (fun _ _=>?_))
  refine zC (d:=some 48) rfl (evicted_spec (M:=M) (N:=N) (l:=l) (cs:=txCs t iv ov) (t:=t) _ (hG.r.ext (by exact fx)) (fun b hb=>Nat.lt_of_lt_of_le (hM b hb) (Ext.size (by exact fx))) (R.ext ht0 (by exact fx)) hs.ins hl) ?_
  rintro u w8 ⟨ou8,x7⟩
  have rt8:Row w8 ⟨bt,0,none⟩ (txCs t iv ov):=rt.ext (by exact fx)
  have t8:=R.ext ht0 (show Ext w w8 by exact fx)
  have G8:Gr w8 B g M l:=hG.ext (show Ext w w8 by exact fx)
  have hbu:∀b∈blkOf u,w.heap.size≤b:=fun b hb=>Nat.le_trans (Ext.size (show Ext w w6 by exact fx)) (ou8.base b hb)
  have hbl:∀b∈blkOf u,b<w8.heap.size:=fun b hb=>Own.blk_lt ou8 b hb
  have s06:w.heap.size≤w6.heap.size:=Ext.size (show Ext w w6 by exact fx)
  have s8:bt<w8.heap.size:=Nat.lt_of_lt_of_le bt'.lt (Ext.size (show Ext wt w8 by exact fx))
  have x08:Unit→Ext w w8:=fun _=>by exact fx
  have s08:=(x08 ()).size
  clear x3 x4 x5 x6 x7 xs xt rt rs bt' bs'
  have su:=ou8.sl
  have hM8:∀b∈M,b<w8.heap.size:=fun b hb=>Nat.lt_of_lt_of_le (hM b hb) s08
  have hid:(idsOf l (evL l t)).length≤1000:=Nat.le_trans (idsOf_length l (evL l t)) hl
  obtain ⟨ids,hids⟩:∃ids,idsOf l (evL l t)=ids:=⟨_,rfl⟩
  rw [hids] at ou8 su hid
  repeat' (first|(refine zg (fun w9 x9=>?_))|(refine st_both ?_ ?_)|(refine zC (d:=some 51) rfl (without_spec (M:=M) (l:=l) (ids:=ids) _ (G8.ext (by exact fx)).r (fun b hb=>Nat.lt_of_lt_of_le (hM8 b hb) (Ext.size (by exact fx))) hl (su.ext (by exact fx)) hid) ?_;rintro _ w10 ⟨g1,M1,rfl,g10,x10⟩)|(refine st_joinV (b:=.cons ⟨some 53,_,_⟩ _) (fun (p:Nat × List Nat) w'=>Ext w8 w'∧Gr w' w8.heap.size p.1 p.2 (dropAll l ids)) (fun p=> [(0,.pointer (some ⟨g,0,none⟩)),(4,.pointer (some ⟨bt,0,none⟩)),(8,.int .i64 fee),(13,u),(51,.pointer (some ⟨p.1,0,none⟩)),(52,.agg (txCs t iv ov).toArray)]) ?_ ?_)|(rintro ⟨g1,M1⟩ ρ7 w10 ⟨x10,g10⟩;try dsimp only)|(exact ⟨(g1,M1),⟨rfl,rfl,rfl,rfl,rfl,rfl,trivial⟩,by exact fx,Gr.low g10 (Ext.size x9)⟩)|(first|refine go1 ?_|refine zg (fun _ _=>?_)|refine zi (fun _ _=>?_)))
  have hrest:restL l t=dropAll l ids:=by unfold restL;rw [hids]
  dsimp only at g10
  refine zC (d:=some 53) rfl (fits_spec (M:=M1) (N:=N) (l:=dropAll l ids) (cs:=txCs t iv ov) (t:=t) _ g10.r (Gr.lt g10) (R.ext t8 x10) hs (Nat.le_trans (dropAll_len ids l) hl)) ?_
  rintro _ w11 ⟨rfl,x11⟩
  repeat (first|refine go1 ?_|refine zg (fun _ _=>?_)|refine zi (fun _ _=>?_))
  have rt11:Row w11 ⟨bt,0,none⟩ (txCs t iv ov):=rt8.ext (by exact fx)
  have x811:Ext w8 w11:=x10.trans x11
  have t11:=R.ext t8 x811
  have G11:=G8.ext x811
  have ou11:=ou8.ext x811
  have s811:=x811.size
  have x011:Unit→Ext w w11:=fun _=>(x08 ()).trans x811
  clear x10 x11 x811 g10 rt8 ou8 su
  refine zN (p:=fitsL (dropAll l ids) t=0) rfl (fun h3=>?_) (fun h3=>?_)
  ·have e:=acc_fits (rate:=rate) h0 (by rw [hfee];exact h1) (by rw [hfee];exact h2) (by rw [hrest];exact h3)
   rw [hrest] at e
   obtain ⟨e2,e3⟩:=acc_err h3 e
   repeat (first|refine go1 ?_|refine zg (fun _ _=>?_)|refine zi (fun _ _=>?_))
   exact x_ret rfl (fail (x011 ()) e e2 e3 (ErrR.num _ _ h3))
  obtain ⟨e1,e2,e3⟩:=acc_ok (rate:=rate) h0 (by rw [hfee];exact h1) (by rw [hfee];exact h2) (by rw [hrest];exact h3)
  rw [hids] at e2
  rw [hrest,hfee] at e3
  have d0:dropAll l (ids.take 0)=l:=by unfold dropAll;rfl
  have huM:∀a m c,u=.slice (some a) m c→a.block∉M:=fun a m c e hb=>by
   have h5:=hbu a.block (by rw [e];simp [blkOf])
   have h6:=hM _ hb
   omega
  repeat (first|(refine st_len (d:=some 59) (E:=strE) (l:=ids) rfl ou11.sl ?_)|(refine c_loopV (fun (p:Nat × List Nat) w'=>Chg M w11 w'∧p.1≤ids.length∧Gr w' B g p.2 (dropAll l (ids.take p.1))∧(∀b∈p.2,b∈M∨w11.heap.size≤b)) (fun p=> [(0,.pointer (some ⟨g,0,none⟩)),(4,.pointer (some ⟨bt,0,none⟩)),(8,.int .i64 fee),(13,u),(58,u),(59,.int .i64 (ids.length:Nat)),(60,.int .i64 (p.1:Nat))]) (fun p=>ids.length - p.1) (0,M) ⟨rfl,rfl,rfl,rfl,rfl,rfl,rfl,trivial⟩ ⟨Chg.refl _ _,by simp,by rw [d0];exact G11,fun b hb=>.inl hb⟩ ?_;rintro ⟨i,Mi⟩ ρ w12 ⟨c12,hil,g12,m12⟩;simp only at hil g12 m12;dsimp only)|(first|refine go1 ?_|refine zg (fun _ _=>?_)|refine zi (fun _ _=>?_)))
  have hlen:(dropAll l (ids.take i)).length≤1000:=Nat.le_trans (dropAll_len _ l) hl
  have s12:=c12.size
  refine zL (p:=((i:Nat):Int)<((ids.length:Nat):Int)) rfl (fun h=>?_) (fun h=>?_)
  ·have hii:i<ids.length:=by omega
   have su12:=SlE.chg c12 ou11.sl huM
   repeat' (first|(refine st_elemE (d:=some 62) (E:=strE) rfl rfl (n:=i) (l:=ids) su12 rfl hii (fun ad r5=>?_);have r5:Row w12 ad [Value.string ids[i]]:=r5)|(refine zC (d:=some 66) rfl (gdrop_spec (l:=dropAll l (ids.take i)) ids[i] _ g12 hlen) ?_;rintro _ w13 ⟨M4,rfl,g13,c13,m13⟩)|(first|refine go1 ?_|refine zg (fun _ _=>?_)|refine zi (fun _ _=>?_)))
   refine ⟨(i+1,M4),⟨rfl,rfl,rfl,rfl,rfl,rfl,rfl,trivial⟩,⟨(c12.trans c13).mono (fun b hb=>?_),hii,by show Gr w13 B g M4 (dropAll l (ids.take (i+1)));rw [dropAll_succ hii];exact g13,fun b hb=>?_⟩,by show ids.length - (i+1)<ids.length - i;omega⟩
   ·rcases List.mem_append.1 hb with h5|h5
    ·exact .inl h5
    ·exact m12 b h5
   ·rcases m13 b hb with h5|h5
    ·exact m12 b h5
    ·exact .inr (Nat.le_trans s12 h5)
  ·have hei:ids.take i=ids:=List.take_of_length_le (by omega)
   rw [hei] at g12 hlen
   have rt12:Row w12 ⟨bt,0,none⟩ (txCs t iv ov):=rt11.chg c12 (fun hb=>by have:bt<w.heap.size:=hM bt hb;omega)
   have t12:txR.rel (N++Mi) w12 (txCs t iv ov) t:=R.step txR t11 c12 (fun b hb=>.inl (hMN b hb)) (fun b hb=>by
    rcases List.mem_append.1 hb with h5|h5
    ·exact .inl h5
    ·exact (m12 b h5).imp (hMN b) id)
   have hN12:∀b∈N++Mi,b<w12.heap.size:=fun b hb=>by
    rcases List.mem_append.1 hb with h5|h5
    ·have:=hN b h5;omega
    ·exact Gr.lt g12 b h5
   repeat' (first|(refine zC (d:=some 71) rfl (gadd_spec (N:=N++Mi) (cs:=txCs t iv ov) fee _ g12 t12 hs (by unfold is64;omega) hN12 (fun b hb=>List.mem_append_right _ hb) hlen) ?_;rintro _ w14 ⟨M7,rfl,g14,c14,m14⟩)|(first|refine go1 ?_|refine zg (fun _ _=>?_)|refine zi (fun _ _=>?_)))
   have hdis:∀b∈blkOf u,b∉Mi:=fun b hb hm=>by
    rcases m12 b hm with h5|h5
    ·have:=hM b h5;have:=hbu b hb;omega
    ·have:=hbl b hb;omega
   have hdis0:∀b∈blkOf u,b∉M:=fun b hb hm=>by have:=hM b hm;have:=hbu b hb;omega
   refine x_ret rfl ⟨u,.nilIface,M7,rfl,?_,by rw [e1];exact ErrR.none_ _ _,by rw [e3];exact g14,?_,fun b hb=>?_,fun b hb hm=>?_⟩
   ·rw [e2]
    exact ((ou11.chg c12 hdis0).chg c14 hdis).lower (by omega)
   ·refine (Ext.chg (x011 ()) (c12.trans c14)).mono (fun b hb=>?_)
    rcases List.mem_append.1 hb with h5|h5
    ·exact .inl h5
    ·rcases m12 b h5 with h6|h6
     ·exact .inl h6
     ·exact .inr (by omega)
   ·rcases m14 b hb with h5|h5
    ·rcases m12 b h5 with h6|h6
     ·exact .inl h6
     ·exact .inr (by omega)
    ·exact .inr (by omega)
   ·rcases m14 b hm with h5|h5
    ·exact hdis b hb h5
    ·have:=hbl b hb;omega
 ·obtain ⟨e1,e2,e3⟩:=acc_plain (rate:=rate) h0
  refine s_pool_Accept rfl ?_
  unfold k_pool_Accept
  refine oy ?_
  repeat (first|(refine zD (d:=some 4) rfl rfl (fun bt wt xt bt' (rt:Row wt ⟨bt,0,none⟩ (txCs t iv ov)) hbt0=>?_))|(refine zD (d:=some 5) (cs:= [.iface vt vu,.int .i64 h,.int .i64 rate]) rfl rfl (fun bs ws xs bs' (rs:Row ws ⟨bs,0,none⟩ [.iface vt vu,.int .i64 h,.int .i64 rate]) hbs0=>?_))|(refine zC (d:=some 21) rfl (plain_spec (M:=M) (N:=N) (l:=l) (f:=f) (cs:=txCs t iv ov) (t:=t) h rate _ (hG.r.ext (by exact fx)) (fun b hb=>Nat.lt_of_lt_of_le (hM b hb) (Ext.size (by exact fx))) (hV.ext (by exact fx)) (R.ext ht0 (by exact fx)) hs) ?_;rintro _ w3 ⟨e,rfl,he,x3⟩;obtain ⟨hn1,hn2⟩:=he.nil_iff)|(first|refine go1 ?_|refine zg (fun _ _=>?_)|refine zi (fun _ _=>?_)))
  obtain ⟨et,eu,rfl⟩:=hn2 h0
  repeat (first|refine go1 ?_|refine zg (fun _ _=>?_)|refine zi (fun _ _=>?_))
  exact x_ret rfl (fail (by exact fx) e1 e2 e3 (he.ext (by exact fx)))
end Go.Proofs.YtfebcajheojodaaGreatDoor
end
