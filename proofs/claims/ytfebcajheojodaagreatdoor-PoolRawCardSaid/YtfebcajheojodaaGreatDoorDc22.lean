/- Plain: whether one more may hang on entries. Contracts: nil graphs. Plain: an id that no entry has. Plain: where an entry is, and what it is. Plain: what fits, fits also once an entry is gone on which nothing hangs. Plain: scores of entries, the worst one, and what goes. DERIVED: THE SHELF's CONTRACTS AT THIS DUMP, IN PLAIN WORDS (tools/lay-plain.mjs out of 'YtfebcajheojodaaGreatDoorShelf2.lean',  -/
import Derived.Shelf.Spec.SlicesGrow
import Derived.Test.YtfebcajheojodaaGreatDoorProg
import Derived.Shelf.SlicesE.DeleteFunc
import Derived.Test.YtfebcajheojodaaGreatDoorDc21
set_option linter.unusedVariables false
set_option linter.unusedSimpArgs false
section
namespace Go.K
open Go
def cntB:List Bool→Int
 | []=>0
 |b::m=>(if b then 1 else 0)+cntB m
theorem cntB_le:∀(m:List Bool),0≤cntB m∧cntB m≤m.length
 | []=>by simp [cntB]
 |b::m=>by have:=cntB_le m;rw [cntB,List.length_cons];cases b<;>simp<;>omega
theorem cntB_snoc:∀(m:List Bool) (b:Bool),cntB (m++ [b])=cntB m+if b then 1 else 0
 | [],b=>by cases b<;>rfl
 |c::m,b=>by rw [List.cons_append,cntB,cntB,cntB_snoc m b];omega
theorem idsOf_len:∀(l:List Ent) (m:List Bool),l.length=m.length→((idsOf l m).length:Int)=cntB m
 | [], [],_=>rfl
 |x::l,b::m,h=>by
  have ih:=idsOf_len l m (by simpa using h)
  cases b<;>simp only [idsOf,cntB,Bool.false_eq_true,if_false,if_true,List.length_cons]<;>omega
theorem sums_once {l:List Ent} (h:(l.map (·.id)).Nodup) (m:List Bool):sizeD l (idsOf l m)=szOf l m:=by
 unfold sizeD
 rw [dist_nodup ((idsOf_sub l m).nodup h)]
 exact (sums_mask h m).2
def wiP (l:List Ent) (ids:List ByteArray) (more count size:Int):Bool:=decide ((ids.length:Int)+1≤count)&&decide (sizeD l ids+more≤size)
def hoP (l:List Ent) (line:List ByteArray) (more count size:Int):Bool:=line.all fun s=>wiP l (idsOf l (belowL l s)) more count size
def fitsL (l:List Ent) (t:Tx):Int:=
 if checkT t≠0 then checkT t
 else if wiP l (idsOf l (aboveL l t)) (sizeT t:Nat) 25 101000=false then 14
 else if hoP l (idsOf l (aboveL l t)) (sizeT t:Nat) 25 101000 then 0
 else if ((idsOf l (aboveL l t)).length:Int)=1∧((sizeT t:Nat):Int)≤10000∧hoP l (idsOf l (aboveL l t)) (sizeT t:Nat) 26 111000=true then 0 else 14
theorem idsOf_mem:∀{l:List Ent} {m:List Bool} {i:Nat} (h:i<l.length) (h2:i<m.length),m[i]=true→l[i].id∈idsOf l m
 |x::l,b::m,0,_,_,hb=>by simp only [List.getElem_cons_zero] at hb;subst hb;simp [idsOf]
 |x::l,b::m,i+1,h,h2,hb=>by
  have:=idsOf_mem (l:=l) (m:=m) (i:=i) (by simpa using h) (by simpa using h2) (by simpa using hb)
  simp only [idsOf,List.getElem_cons_succ]
  cases b<;>simp [this]
theorem mem_idsOf:∀{l:List Ent} {m:List Bool} {s:ByteArray},s∈idsOf l m→∃i,∃(h:i<l.length) (h2:i<m.length),m[i]=true∧l[i].id=s
 | [],m,s,h=>by cases m<;>simp [idsOf] at h
 |x::l, [],s,h=>by simp [idsOf] at h
 |x::l,b::m,s,h=>by
  have step:s∈idsOf l m→_:=fun h=>mem_idsOf h
  cases b
  ·obtain ⟨i,h1,h2,h3,h4⟩:=step (by simpa [idsOf] using h)
   exact ⟨i+1,by simpa using h1,by simpa using h2,by simpa using h3,by simpa using h4⟩
  ·simp only [idsOf,if_true,List.mem_cons] at h
   rcases h with rfl|h
   ·exact ⟨0,by simp,by simp,rfl,rfl⟩
   ·obtain ⟨i,h1,h2,h3,h4⟩:=step h
    exact ⟨i+1,by simpa using h1,by simpa using h2,by simpa using h3,by simpa using h4⟩
theorem one_all {α:Type} {l:List α} {a:α} {p:α→Bool} (h:l.length=1) (ha:a∈l):l.all p=p a:=by
 match l,h with
 | [b],_=>
  simp only [List.mem_singleton] at ha
  subst ha;simp
theorem wiP_mask {l:List Ent} {m:List Bool} (hn:(l.map (·.id)).Nodup) (hl:l.length=m.length) (z c s:Int):wiP l (idsOf l m) z c s=(decide (cntB m+1≤c)&&decide (szOf l m+z≤s)):=by
 unfold wiP
 rw [sums_once hn,idsOf_len l m hl]
end Go.K
end
section
namespace Go.Proofs.YtfebcajheojodaaGreatDoor
open Go Go.K
attribute [local irreducible] regK codeK retK KOp.wp K.Spec u32 leS vnS str zero32 sha2 encT idT sizeT checkT grantB idN stepR workL reachE
theorem get_nil (id:ByteArray) (w:World):K.Spec Tryz.prog F.graph_Graph_Get [.pointer none,.string id] w fun r w'=>r=.tuple #[.agg zEnt.toArray,.bool false]∧Ext w w':=by
 refine s_graph_Graph_Get rfl ?_
 unfold k_graph_Graph_Get
 refine oy ?_
 repeat' (first|(first|refine go1 ?_|refine zg (fun _ _=>?_)|refine zi (fun _ _=>?_))|(refine zH (fun b4 w4 x4 a4 hb4=>?_))|(refine st_build (cs:=zEnt) rfl ?_)|(refine st_setN (w0:=w) (vs:=zEnt) (by exact fx) (by omega) (by focus (repeat (first|assumption|(apply At.ext;assumption)))) rfl rfl rfl rfl rfl (fun w9 x9 c9 a9 r9=>?_)))
 exact x_ret (ret2 (rv_cell r9 rfl rfl) rv_tmp) ⟨rfl,x9⟩
theorem all_nil (w:World):K.Spec Tryz.prog F.graph_Graph_All [.pointer none] w fun r w'=>r=.slice none 0 0∧Ext w w':=by
 refine s_graph_Graph_All rfl ?_
 unfold k_graph_Graph_All
 refine oy ?_
 repeat' (first|(first|refine go1 ?_|refine zg (fun _ _=>?_)|refine zi (fun _ _=>?_))|(first|refine zD rfl rfl (fun bp wp xp ap rp hp0=>?_)|refine zE (fun _=>rfl) rfl rfl rfl (fun bq wq xq aq rq hq0=>?_)))
 exact x_ret rfl ⟨rfl,by exact fx⟩
theorem sum_nil {v:Value} {ids:List ByteArray} (w:World) (hi:SlE strE w v ids) (hn:ids.length≤1):K.Spec Tryz.prog F.graph_Graph_Sum [.pointer none,v] w fun r w'=>r=.tuple #[.int .i64 0,.int .i64 0]∧Ext w w':=by
 refine s_graph_Graph_Sum rfl ?_
 unfold k_graph_Graph_Sum
 refine oy ?_
 repeat' (first|(first|refine go1 ?_|refine zg (fun _ _=>?_)|refine zi (fun _ _=>?_))|refine zL rfl (fun h=>?_) (fun h=>?_)|(refine st_makeMap (E:=sK) (fv:=fun n:Nat=>Value.int .i64 (n:Nat)) (fun bm w1 x1 m1 hb1=>?_);have lm:=m1.lt)|(refine st_len rfl (SlE.ext (w:=w) (by exact fx) hi) ?_)|(refine c_loopV (fun (p:Nat) w'=>Ext w w'∧p≤ids.length∧(p=0→MapE sK (fun n:Nat=>Value.int .i64 (n:Nat)) w' bm [])) (fun p=> [(0,.pointer none),(6,.int .i64 0),(7,.int .i64 0),(8,.map (some bm)),(14,v),(15,.int .i64 (ids.length:Nat)),(16,.int .i64 (p:Nat))]) (fun p=>ids.length - p) 0 ⟨rfl,rfl,rfl,rfl,rfl,rfl,rfl,trivial⟩ ⟨x1,by simp,fun _=>m1⟩ ?_;rintro i ρ w3 ⟨x3,hi3,hm⟩))
 ·have hi0:i=0:=by omega
  subst hi0
  have hil:0<ids.length:=by omega
  have hm:=hm rfl
  refine st_elemE rfl rfl (n:=0) (l:=ids) (hi.ext x3) rfl hil (fun ad r5=>?_)
  have r5:Row w3 ad [Value.string ids[0]]:=r5
  repeat' (first|(first|refine go1 ?_|refine zg (fun _ _=>?_)|refine zi (fun _ _=>?_))|(refine st_lookup (d:=some 22) (E:=sK) (fv:=fun n:Nat=>Value.int .i64 (n:Nat)) (k:=ids[0]) rfl rfl hm rfl rfl (fun c hcc=>by simp [aget] at hcc) (fun hcn=>?_))|(refine st_mapUpdate (E:=sK) (fv:=fun n:Nat=>Value.int .i64 (n:Nat)) (k:=ids[0]) (v:=1) rfl rfl rfl hm rfl rfl (fun w4 c4 m4=>?_);have x4:Ext w w4:=(Ext.chg x3 c4).mono (by intro y hy;simp at hy;right;omega);clear x3)|(refine st_lookup (d:=some 26) (E:=sK) (fv:=fun n:Nat=>Value.int .i64 (n:Nat)) (k:=ids[0]) rfl rfl m4 rfl rfl (fun c hcc=>?_) (fun hcn=>by rw [aget_set',if_pos rfl] at hcn;cases hcn);rw [aget_set',if_pos rfl] at hcc;injection hcc with hcc;subst hcc)|(refine zL rfl (fun h9=>absurd h9 (by decide)) (fun h9=>?_))|(refine zC rfl (get_nil ids[0] _) ?_;rintro _ w5 ⟨rfl,x5⟩)|(refine zE (d':=11) (fun _=>rfl) rfl rfl rfl (fun b6 w6 x6 a6 (r6:Row w6 ⟨b6,0,none⟩ zEnt) hb6=>?_)))
  exact ⟨1,⟨rfl,rfl,rfl,rfl,rfl,rfl,rfl,trivial⟩,⟨by exact fx,by omega,fun h=>by omega⟩,by omega⟩
 ·exact x_ret rfl ⟨rfl,x3⟩
end Go.Proofs.YtfebcajheojodaaGreatDoor
end
section
namespace Go.K
open Go
variable {l:List Ent} {s:ByteArray}
theorem aboveL_len (l:List Ent) (t:Tx):l.length=(aboveL l t).length:=(reachL_length _ _ _).symm
theorem belowL_len (l:List Ent) (s:ByteArray):l.length=(belowL l s).length:=(reachL_length _ _ _).symm
theorem ids_no:∀{l:List Ent} {m:List Bool},(∀b∈m,b=false)→idsOf l m= []
 | [],m,_=>by cases m<;>rfl
 |_::_, [],_=>rfl
 |x::l,b::m,h=>by
  have hb:=h b (by simp)
  subst hb
  exact ids_no (l:=l) (m:=m) fun b hb=>h b (by simp [hb])
end Go.K
end
section
namespace Go.K
open Go
end Go.K
end
section
namespace Go.K
open Go
end Go.K
end
section
namespace Go.K
open Go
def pricedB (f s:Int):Bool:=goodB f&&decide (1≤s∧s≤1000000)
def cmpR (f s o i:Int):Int:=if pricedB f s&&pricedB o i then (if f*i<o*s then -1 else if o*s<f*i then 1 else 0) else 0
def leftL:List Ent→List Bool→List Ent
 |x::l,b::m=>if b then leftL l m else x::leftL l m
 |l,_=>l
theorem leftL_sub:∀(l:List Ent) (m:List Bool),(leftL l m).Sublist l
 | [], []=>List.Sublist.slnil
 | [],_::_=>List.Sublist.slnil
 |_::_, []=>List.Sublist.refl _
 |x::l,b::m=>by
  rw [leftL]
  cases b
  ·exact (leftL_sub l m).cons_cons _
  ·exact (leftL_sub l m).cons _
theorem leftL_len:∀(l:List Ent) (m:List Bool),(leftL l m).length+(idsOf l m).length=l.length
 | [], []=>rfl
 | [],_::_=>rfl
 |_::_, []=>rfl
 |x::l,b::m=>by
  have:=leftL_len l m
  rw [leftL,idsOf,List.length_cons]
  cases b
  ·simp only [Bool.false_eq_true,if_false,List.length_cons];omega
  ·simp only [if_true,List.length_cons];omega
theorem leftL_not:∀(l:List Ent) (m:List Bool) {x:Ent},(l.map (·.id)).Nodup→x∈leftL l m→x.id∉idsOf l m
 | [],m,_,_,h=>by cases m<;>cases h
 |_::_, [],_,_,_=>by simp [idsOf]
 |y::l,b::m,x,hn,h=>by
  rw [List.map_cons,List.nodup_cons] at hn
  rw [leftL] at h
  rw [idsOf]
  cases b
  ·simp only [Bool.false_eq_true,if_false] at h ⊢
   rcases List.mem_cons.1 h with rfl|h
   ·exact fun e=>hn.1 ((idsOf_sub l m).subset e)
   ·exact leftL_not l m hn.2 h
  ·simp only [if_true] at h ⊢
   intro e
   rcases List.mem_cons.1 e with e|e
   ·exact hn.1 (by rw [←e];exact List.mem_map_of_mem ((leftL_sub l m).subset h))
   ·exact leftL_not l m hn.2 h e
theorem findI_cons_eq {x:Ent} {l:List Ent}:findI (x::l) x.id=0:=by
 unfold findI
 exact idxOf_hit (i:=0) (by simp) (decide_eq_true rfl) (fun j hj=>by omega)
theorem findI_cons_ne {x:Ent} {l:List Ent} {s:ByteArray} (h:x.id≠s):findI (x::l) s=if findI l s<0 then -1 else findI l s+1:=by
 unfold findI idxOf
 rw [List.findIdx?_cons,if_neg (by simpa using h)]
 cases l.findIdx? fun x=>decide (x.id=s) with
 |none=>rfl
 |some i=>simp;omega
theorem dropG_cons_eq {x:Ent} {l:List Ent}:(dropG (x::l) x.id).1=l:=by
 unfold dropG
 rw [findI_cons_eq,if_neg (by omega)];rfl
theorem dropG_cons_ne {x:Ent} {l:List Ent} {s:ByteArray} (h:x.id≠s):(dropG (x::l) s).1=x::(dropG l s).1:=by
 unfold dropG
 rw [findI_cons_ne h]
 by_cases h1:findI l s<0
 ·rw [if_pos h1,if_pos h1,if_pos (by omega)]
 ·rw [if_neg h1,if_neg h1,if_neg (by omega)]
  have:(findI l s+1).toNat=(findI l s).toNat+1:=by omega
  rw [this];rfl
def dropAll (l:List Ent) (ids:List ByteArray):List Ent:=ids.foldl (fun l s=>(dropG l s).1) l
theorem dropAll_succ {l:List Ent} {ids:List ByteArray} {i:Nat} (h:i<ids.length):dropAll l (ids.take (i+1))=(dropG (dropAll l (ids.take i)) ids[i]).1:=by
 unfold dropAll
 rw [List.take_succ_eq_append_getElem h,List.foldl_append];rfl
theorem dropAll_cons:∀(ids:List ByteArray) {x:Ent} {l:List Ent},x.id∉ids→dropAll (x::l) ids=x::dropAll l ids
 | [],_,_,_=>rfl
 |s::ids,x,l,h=>by
  simp only [List.mem_cons,not_or] at h
  show dropAll (dropG (x::l) s).1 ids=x::dropAll (dropG l s).1 ids
  rw [dropG_cons_ne h.1,dropAll_cons ids h.2]
theorem dropAll_left:∀(l:List Ent) (m:List Bool),(l.map (·.id)).Nodup→dropAll l (idsOf l m)=leftL l m
 | [], [],_=>rfl
 | [],_::_,_=>rfl
 |_::_, [],_=>rfl
 |x::l,b::m,hn=>by
  rw [List.map_cons,List.nodup_cons] at hn
  have ih:=dropAll_left l m hn.2
  rw [idsOf,leftL]
  cases b
  ·simp only [Bool.false_eq_true,if_false]
   rw [dropAll_cons _ (fun e=>hn.1 ((idsOf_sub l m).subset e)),ih]
  ·simp only [if_true]
   show dropAll (dropG (x::l) x.id).1 (idsOf l m)=_
   rw [dropG_cons_eq,ih]
end Go.K
end
section
namespace Go.Proofs
open Go.Shelf
def Tryz.growS_ren:Go.Shelf.Ren:=⟨fun|4=>208|n=>n,fun|22=>39|25=>9|3=>3|4=>4|9=>9|20=>20|0=>0|n=>n,fun|n=>n⟩
theorem Tryz.growS : Go.Proofs.Lays8.n4 Tryz.prog Tryz.growS_ren := {
  mixed := by kernel_rfl
  f4 := ⟨Tryz.f208.name, by decide, Tryz.func208.trans (congrArg some (by kernel_rfl))⟩
  t0 := Tryz.underlying0
  a0 := Tryz.isAgg0
  z0 := Tryz.sizeOf0
  v0 := Tryz.zeroValue0
  t3 := Tryz.underlying3
  a3 := Tryz.isAgg3
  z3 := Tryz.sizeOf3
  v3 := Tryz.zeroValue3
  t4 := Tryz.underlying4
  a4 := Tryz.isAgg4
  z4 := Tryz.sizeOf4
  v4 := Tryz.zeroValue4
  t9 := Tryz.underlying9
  a9 := Tryz.isAgg9
  z9 := Tryz.sizeOf9
  v9 := Tryz.zeroValue9
  t20 := Tryz.underlying20
  a20 := Tryz.isAgg20
  z20 := Tryz.sizeOf20
  v20 := Tryz.zeroValue20
  t22 := Tryz.underlying39
  a22 := Tryz.isAgg39
  z22 := Tryz.sizeOf39
  v22 := Tryz.zeroValue39 }
end Go.Proofs
end
section
namespace Go.Proofs
open Go.Shelf Go.RowKit Go.Lib Go.Sort
variable {P:Program} {ρ:Ren} {α:Type} [Inhabited α]
set_option maxHeartbeats 2000000 in
set_option maxRecDepth 100000 in
theorem YtfebcajheojodaaGreatDoor.del_empty (L:SlLaysH.n10 P ρ) (a:Option Addr) (c:Nat) (fv:Value) (w:World):Calls P (ρ.f 10) #[.slice a 0 c,fv] w fun e w'=>e=.returned (.slice a 0 c)∧w'=w:=by
 have mixed:=L.mixed;have t0:=L.t0;have a0:=L.a0;have z0:=L.z0;have v0:=L.v0;have t3:=L.t3;have a3:=L.a3;have z3:=L.z3;have v3:=L.v3;have t4:=L.t4;have a4:=L.a4;have z4:=L.z4;have v4:=L.v4;have t22:=L.t22;have a22:=L.a22;have z22:=L.z22;have v22:=L.v22;have a23:=L.a23;have z23:=L.z23;have t25:=L.t25;have a25:=L.a25;have z25:=L.z25;have v25:=L.v25
 have e6:∀args w,(callFunc (ρ.f 6) args).run P w=.ok (.enter (ρ.f 6) args) w:=L.f6.enters rfl
 have hIF:=AnyE.slices_IndexFunc_empty (P:=P) (ρ:=ρ) {L with} a c fv w
 obtain ⟨_,_,FG⟩:=L.f10
 go_enter FG,SlBodyH.n10_ntmps ρ
 go_wp2_with (go_at_fn (ρ.f 6);refine hIF.mono ?_;rintro e w' ⟨rfl,rfl⟩)
 go_ret
 exact ⟨rfl,rfl⟩
end Go.Proofs
namespace Go.Proofs.YtfebcajheojodaaGreatDoor
open Go Go.K
theorem info9:∃i0,Tryz.prog.info? 9=some i0∧i0.zero=some (.string ⟨#[]⟩)∧i0.size=1∧i0.bytes=16:=by
 have h:(Tryz.prog.info? 9).map (fun i=>(i.zero,i.size,i.bytes))=some (some (.string ⟨#[]⟩),1,16):=by kernel_rfl
 obtain ⟨i0,h1,h2⟩:=Option.map_eq_some_iff.1 h
 simp only [Prod.mk.injEq] at h2
 exact ⟨i0,h1,h2⟩
theorem grow_spec (n:Nat) (hn:n≤100000000) (w:World):K.Spec Tryz.prog F.slices_Grow_L_string_string [.slice none 0 0,.int .i64 (n:Nat)] w fun r w'=>Own strE T.string w.heap.size w' r []∧Ext w w':=by
 rcases Nat.eq_zero_or_pos n with h|h
 ·subst h
  exact (Any8.slices_Grow_room Tryz.growS none 0 0 0 w (by omega) (by omega) (by omega) (by omega)).mono fun e w' ⟨he,hw⟩=>⟨_,he,Own.nil _ _ _,hw▸Ext.refl _⟩
 ·obtain ⟨i0,h1,h2,h3,h4⟩:=info9
  exact (Any8.slices_Grow_grow Tryz.growS i0 (.string ⟨#[]⟩) h1 h2 (by omega) none 0 0 n [] w (by omega) (by omega) (by rw [h4];omega) (by omega) (by simp) (by simp) (by simp)).mono fun e w' ⟨he,hw⟩=>⟨_,he,by
   have hg:=grownCap_ge w (0+n) 0 9
   have hc:grownCap w (0+n) 0 (Tryz.growS_ren.t 25)=grownCap w (0+n) 0 9:=rfl
   subst hw
   rw [hc]
   refine ⟨.inr ⟨w.heap.size,_,(Builtin.zeroCells (Value.string ⟨#[]⟩).cells (0+n - 0)++Builtin.zeroCells (Value.string ⟨#[]⟩).cells (grownCap w (0+n) 0 9 - (0+n))).toList,rfl,Nat.le_refl _,?_,?_⟩,(Ext.drew w).trans (Ext.alloc _ _)⟩
   ·have e:∀X Y:Array Value,(#[]:Array Value)++X++Y=(strE.flat []++(X++Y).toList).toArray:=fun X Y=>by simp [Enc.flat]
    rw [show ([]:List Value).toArray=#[] from rfl,e]
    exact At.new w.drew _
   ·have e:(Value.string ⟨#[]⟩).cells.size=1:=rfl
    simp only [Enc.flat,List.flatMap_nil,List.nil_append,Array.length_toList,Array.size_append,size_zeroCells,e]
    show _=_*1
    omega⟩
theorem modify_at {w:World} {b:Nat} {cs:Array Value} {t:TypeId} {f:Nat × Nat} (h:At w b (.cells cs t f)) (g:Array Value→Array Value):At (Sort.mapBlock w b g) b (.cells (g cs) t f):=by
 unfold At at h ⊢
 simp [Sort.mapBlock,Array.getElem?_modify,h,Sort.onCells]
theorem mapBlock_chg (w:World) (b:Nat) (g:Array Value→Array Value):Chg [b] w (Sort.mapBlock w b g):=
 ⟨rfl,rfl,rfl,by simp [Sort.mapBlock],fun c _ hn=>by
  show (w.heap.modify b _)[c]? =_
  rw [Array.getElem?_modify,if_neg (by simp at hn;omega)]⟩
theorem ahead_ext (w:World) (q:Nat):Ext w (Sort.ahead w q):=⟨rfl,rfl,rfl,Nat.le_refl _,fun _ _ _=>rfl⟩
theorem put_row (D l:List ByteArray) (junk:List Value) (h:D.length=l.length):Sort.putCells Value.string 0 D.toArray (l.map Value.string++junk).toArray=(D.map Value.string++junk).toArray:=by
 apply Array.ext
 ·simp [Sort.putCells,h]
 ·intro k h1 h2
  simp only [Sort.putCells,Array.getElem_mapIdx,List.getElem_toArray,Nat.zero_add,Nat.sub_zero,List.size_toArray]
  by_cases hk:k<D.length
  ·rw [if_pos ⟨Nat.zero_le _,hk⟩,List.getElem_append_left (by simpa using hk)]
   simp [getElem!_pos,hk]
  ·rw [if_neg (by omega),List.getElem_append_right (by simp;omega),List.getElem_append_right (by simp;omega)]
   simp [h]
theorem del_spec {g:FuncId} {capl:List Value} {v:Value} {l:List ByteArray} {B:Nat} (w:World) (p:ByteArray→Bool) (hb:hasBody Tryz.prog g=true) (ho:Own strE T.string B w v l) (hn:l.length≤100000000)
  (hp:∀(W:World) (x:ByteArray),Chg (blkOf v) w W→K.Spec Tryz.prog g (Value.string x::capl) W fun r w'=>r=.bool (p x)∧w'=W):
  K.Spec Tryz.prog F.slices_DeleteFunc_L_string_string [v,.func (.func g) #[] capl.toArray] w fun r w'=>Own strE T.string B w' r (l.filter fun x=>!p x)∧Chg (blkOf v) w w'∧∀b∈blkOf r,b∈blkOf v:=by
 have ho0:=ho
 rcases ho with ⟨rfl,rfl⟩|⟨b,cap,junk,rfl,hB,hat,hlen⟩
 ·exact (YtfebcajheojodaaGreatDoor.del_empty Tryz.deleteFunc none 0 (.func (.func g) #[] capl.toArray) w).mono fun e w' ⟨he,hw⟩=>⟨_,he,.inl ⟨rfl,by simp⟩,hw▸Chg.refl _ _,by simp⟩
 ·have hcap:l.length≤cap:=by
   rw [List.length_append,Enc.flat_length] at hlen
   have e:strE.k=1:=rfl
   rw [e] at hlen;omega
  have hflat:∀m:List ByteArray,strE.flat m=m.map Value.string:=fun m=>by
   induction m with
   |nil=>rfl
   |cons x m ih=>simp only [Enc.flat,List.flatMap_cons,List.map_cons] at ih ⊢;rw [ih];rfl
  rw [hflat] at hat hlen
  have hcall:∀(W:World) (x:ByteArray),Chg [b] w W→FnGives Tryz.prog g capl.toArray #[Value.string x] (.bool (p x)) W:=fun W x hc=>by
   unfold FnGives
   have:=hp W x (by simpa [blkOf] using hc)
   have e:(#[Value.string x]++capl.toArray:Array Value)=(Value.string x::capl).toArray:=by simp
   rw [e]
   exact Calls.mono this fun e w' ⟨r,he,hr,hw⟩=>⟨by rw [he,hr],0,by rw [hw];rfl⟩
  have hH:Sort.Holds Value.string w b 0 l.toArray:=fun j hj=>by
   have hj':j<l.length:=by simpa using hj
   have hat':w.heap[b]? =some (.cells (l.map Value.string++junk).toArray T.string (0,0)):=hat
   refine ⟨?_,?_⟩
   ·simp only [World.cell?,hat',Nat.zero_add]
    simp [hj',List.getElem?_append_left,getElem!_pos]
   ·simp [World.frozen?,hat']
  have key:=AnyE.slices_DeleteFunc Tryz.deleteFunc Value.string (fun _=>rfl) p g capl.toArray (fun args W=>run_enter hb) ⟨#[]⟩ Tryz.zeroValue9 b 0 cap l.toArray w (fun W x hb=>hcall W x (by
    exact ⟨hb.os,hb.tape,hb.output,hb.size,fun c hc _=>hb.block c hc⟩)) (fun n os dk x hd=>hcall _ x ?_) hH (by simp;omega) (by simpa using hcap)
  ·simp only [List.size_toArray] at key
   refine Calls.mono (show Calls Tryz.prog F.slices_DeleteFunc_L_string_string #[.slice (some ⟨b,0,none⟩) l.length cap,.func (.func g) #[] capl.toArray] w _ from key) ?_
   rintro e w' ⟨he,q,rfl⟩
   have hfl:(l.filter fun x=>!p x).length≤l.length:=List.length_filter_le _ _
   have hm:=modify_at (At.ext (ahead_ext w q) hat) (Sort.putCells Value.string 0 ((l.filter fun x=>!p x)++List.replicate (l.length - (l.filter fun x=>!p x).length) (⟨#[]⟩:ByteArray)).toArray)
   rw [put_row _ _ _ (by simp;omega),List.map_append,List.append_assoc] at hm
   refine ⟨_,he,.inr ⟨b,cap,_,rfl,hB,by rw [hflat];exact hm,?_⟩,?_,fun c hc=>by simpa [blkOf] using hc⟩
   ·rw [hflat]
    simp only [List.length_append,List.length_map,List.length_replicate] at hlen ⊢
    rw [←hlen];omega
   ·exact (Ext.chg (ahead_ext w q) (mapBlock_chg _ _ _)).mono (fun c hc=>.inl (by simpa [blkOf] using hc))
  ·have c1:Chg [b] w (Sort.putRow Value.string (Sort.ahead w n) b 0 dk):=Ext.chg (ahead_ext w n) (mapBlock_chg _ _ _)
   refine Chg.ext c1 ⟨rfl,rfl,rfl,by simp only [sortWorld,Sort.grow,Array.size_append];omega,fun c hc _=>?_⟩
   show ((Sort.putRow Value.string (Sort.ahead w n) b 0 dk).heap++os)[c]? =_
   rw [Array.getElem?_append_left hc]
attribute [local irreducible] regK codeK retK KOp.wp K.Spec u32 leS vnS str zero32 sha2 encT idT
theorem take_eq {α:Type} {l m:List α} {i:Nat} (h:l.take i=m.take i) (h1:i<l.length) (h2:i<m.length) (e:l[i]=m[i]):l.take (i+1)=m.take (i+1):=by
 rw [List.take_succ_eq_append_getElem h1,List.take_succ_eq_append_getElem h2,h,e]
theorem equal_spec {v u:Value} {l m:List ByteArray} (w:World) (hl:SlE strE w v l) (hm:SlE strE w u m) (hn:l.length≤100000000):K.Spec Tryz.prog F.slices_Equal_L_string_string [v,u] w fun r w'=>r=.bool (decide (l=m))∧Ext w w':=by
 refine s_slices_Equal_L_string_string rfl ?_
 unfold k_slices_Equal_L_string_string
 refine oy ?_
 repeat' (first|(first|refine go1 ?_|refine zg (fun _ _=>?_)|refine zi (fun _ _=>?_))|refine zL rfl (fun h=>?_) (fun h=>?_)|refine zN rfl (fun h=>?_) (fun h=>?_)|(refine st_len rfl hl ?_)|(refine st_len rfl hm ?_)|(refine c_loopV (fun (i:Nat) w'=>Ext w w'∧i≤l.length∧l.take i=m.take i) (fun i=> [(0,v),(1,u),(12,.int .i64 (l.length:Nat)),(13,.int .i64 i)]) (fun i=>l.length - i) 0 ⟨rfl,rfl,rfl,rfl,trivial⟩ ⟨Ext.refl _,by omega,rfl⟩ ?_;rintro i ρ w1 ⟨x1,hi,hk⟩)|(refine st_elemE (d:=some 18) rfl rfl (SlE.ext (w:=w) (by exact fx) hl) rfl (by omega) (fun ad r1=>?_))|(refine st_elemE (d:=some 22) rfl rfl (SlE.ext (w:=w) (by exact fx) hm) rfl (by omega) (fun ad r1=>?_)))
 all_goals first
  |(refine x_ret rfl ⟨congrArg Value.bool (decide_eq_false fun e=>?_).symm,by exact fx⟩;subst e;first|exact h rfl|exact absurd rfl (by assumption))
  |exact ⟨i+1,⟨rfl,rfl,rfl,rfl,trivial⟩,⟨by exact fx,by omega,take_eq hk (by omega) (by omega) (by first|assumption|(simp_all;done))⟩,by omega⟩
  |(refine x_ret rfl ⟨congrArg Value.bool (decide_eq_true ?_).symm,by exact fx⟩;rwa [List.take_of_length_le (by omega),List.take_of_length_le (by omega)] at hk)
  |trace_state
theorem indexS_spec {v:Value} {l:List ByteArray} (a:ByteArray) (w:World) (hs:SlE strE w v l) (hn:l.length≤1000000000000):K.Spec Tryz.prog F.slices_Index_L_string_string [v,.string a] w fun r w'=>r=.int .i64 (idxOf (fun x=>decide (a=x)) l)∧w'=w:=by
 refine s_slices_Index_L_string_string rfl ?_
 unfold k_slices_Index_L_string_string
 refine oy ?_
 repeat (first|refine go ?_|refine zg (fun _ _=>?_)|refine zi (fun _ _=>?_))
 refine st_len rfl hs ?_
 repeat (first|refine go ?_|refine zg (fun _ _=>?_)|refine zi (fun _ _=>?_))
 refine c_loopV (fun (i:Nat) w'=>w'=w∧i≤l.length∧∀j,j<i→∀h:j<l.length,a≠l[j]) (fun i=> [(0,v),(1,.string a),(6,v),(7,.int .i64 (l.length:Nat)),(8,.int .i64 i)]) (fun i=>l.length - i) 0 ⟨rfl,rfl,rfl,rfl,rfl,trivial⟩ ⟨rfl,by omega,by omega⟩ ?_
 rintro i ρ w1 ⟨rfl,hi,hk⟩
 repeat (first|refine go ?_|refine zg (fun _ _=>?_)|refine zi (fun _ _=>?_))
 refine zL rfl (fun h=>?_) (fun h=>?_)
 ·have hil:i<l.length:=by omega
  repeat (first|refine go ?_|refine zg (fun _ _=>?_)|refine zi (fun _ _=>?_))
  refine st_elemE rfl rfl hs rfl hil (fun ad r1=>?_)
  repeat (first|refine go ?_|refine zg (fun _ _=>?_)|refine zi (fun _ _=>?_))
  refine zL rfl (fun h2=>?_) (fun h2=>?_)
  ·repeat (first|refine go ?_|refine zg (fun _ _=>?_)|refine zi (fun _ _=>?_))
   exact x_ret rfl ⟨congrArg (Value.int .i64) (idxOf_hit hil (by simpa using h2) (fun j hj=>by simpa using hk j hj (by omega))).symm,rfl⟩
  ·repeat (first|refine go ?_|refine zg (fun _ _=>?_)|refine zi (fun _ _=>?_))
   refine ⟨i+1,⟨rfl,rfl,rfl,rfl,rfl,trivial⟩,⟨rfl,by omega,fun j hj hl=>?_⟩,by omega⟩
   by_cases hji:j=i
   ·subst hji;exact h2
   ·exact hk j (by omega) hl
 ·repeat (first|refine go ?_|refine zg (fun _ _=>?_)|refine zi (fun _ _=>?_))
  exact x_ret rfl ⟨congrArg (Value.int .i64) (idxOf_miss (fun j hj=>by simpa using hk j (by omega) hj)).symm,rfl⟩
theorem containsS_spec {v:Value} {l:List ByteArray} (a:ByteArray) (w:World) (hs:SlE strE w v l) (hn:l.length≤1000000000000):K.Spec Tryz.prog F.slices_Contains_L_string_string [v,.string a] w fun r w'=>r=.bool (l.any fun x=>decide (a=x))∧w'=w:=by
 refine s_slices_Contains_L_string_string rfl ?_
 unfold k_slices_Contains_L_string_string
 refine oy ?_
 repeat (first|refine go ?_|refine zg (fun _ _=>?_)|refine zi (fun _ _=>?_))
 refine zC rfl (indexS_spec a _ hs hn) ?_
 rintro _ _ ⟨rfl,rfl⟩
 repeat (first|refine go ?_|refine zg (fun _ _=>?_)|refine zi (fun _ _=>?_))
 exact x_ret rfl ⟨congrArg Value.bool idxOf_any,rfl⟩
theorem OwnR.toOwn {α:Type} {F:Enc α} {ag:Bool} {t:TypeId} {B:Nat} {M:List Nat} {w:World} {v:Value} {l:List α} (h:OwnR (R.flat F ag) t B M w v l):Own F t B w v l:=by
 obtain ⟨css,h1,h2⟩:=h
 have hlen:=h2.length
 have e:css=l.map F.vec:=by
  clear h1 hlen
  induction h2 with
  |nil=>rfl
  |cons hx _ ih=>rw [ih,List.map_cons];congr 1;exact Subtype.ext hx
 subst e
 rcases h1 with ⟨rfl,h⟩|⟨b,cap,junk,rfl,hB,hat,hl⟩
 ·exact .inl ⟨rfl,List.map_eq_nil_iff.1 h⟩
 ·refine .inr ⟨b,cap,junk,congrArg (fun n=>Value.slice (some ⟨b,0,none⟩) n cap) hlen,hB,?_,?_⟩
  ·rw [←flat_vecs];exact hat
  ·rw [←flat_vecs];exact hl
def cat2 (l1 l2:List ByteArray):Nat→List ByteArray
 |0=> []
 |1=>l1
 |_=>l1++l2
theorem cat2_len (l1 l2:List ByteArray) (i:Nat):(cat2 l1 l2 i).length≤l1.length+l2.length:=by
 match i with
 |0=>simp [cat2]
 |1=>simp [cat2]
 |_+2=>simp [cat2]
theorem lt2 {n:Nat} (h:(n:Int)<2):n=0∨n=1:=by omega
theorem concat_spec {bq : Nat} {v1 v2 : Value} {l1 l2 : List ByteArray} (w : World) (h : At w bq (.cells [v1, v2].toArray T.L_string (0, 0))) (h1 : SlE strE w v1 l1) (h2 : SlE strE w v2 l2) (hn : l1.length + l2.length ≤ 100000000) : K.Spec Tryz.prog F.slices_Concat_L_string_string [.slice (some ⟨bq, 0, none⟩) 2 2] w fun r w' => Own strE T.string w.heap.size w' r (l1 ++ l2) ∧ Ext w w' := by
  have hr : Row w ⟨bq, 0, none⟩ [v1, v2] := Row.of_at h
  have hq := h.lt
  refine s_slices_Concat_L_string_string rfl ?_
  unfold k_slices_Concat_L_string_string
  refine oy ?_
  repeat' (first|(first|refine go1 ?_|refine zg (fun _ _=>?_)|refine zi (fun _ _=>?_))|refine zL rfl (fun h => ?_) (fun h => ?_)|(refine (lt2 (n := i) h).elim (fun e => ?_) (fun e => ?_) <;> subst e)|(refine (lt2 (n := j) h).elim (fun e => ?_) (fun e => ?_) <;> subst e)|(refine st_index rfl rfl (by omega) ?_)|(refine st_len rfl (SlE.ext (w := w) (by exact fx) h1) ?_)|(refine st_len rfl (SlE.ext (w := w) (by exact fx) h2) ?_)|(refine st_append (E := strE) (v := vo) (l2 := l1) rfl (ho4.ext (by exact fx)) (Ext.size (w := w) (by exact fx)) rfl rfl (SlE.cells (SlE.ext (w := w) (by exact fx) h1)) rfl rfl (by have := cat2_len l1 l2 0; omega) (fun v5 w5 ho5 c5 => ?_))|(refine st_append (E := strE) (v := vo) (l2 := l2) rfl (ho4.ext (by exact fx)) (Ext.size (w := w) (by exact fx)) rfl rfl (SlE.cells (SlE.ext (w := w) (by exact fx) h2)) rfl rfl (by have := cat2_len l1 l2 1; omega) (fun v6 w6 ho6 c6 => ?_))|(refine c_loopV (fun (i : Nat) w' => Ext w w' ∧ i ≤ 2) (fun i => [(0, .slice (some ⟨bq, 0, none⟩) 2 2), (3, .int .i64 ((cat2 l1 l2 i).length : Nat)), (9, .slice (some ⟨bq, 0, none⟩) 2 2), (10, .int .i64 2), (11, .int .i64 i)]) (fun i => 2 - i) 0 ⟨rfl, rfl, rfl, rfl, rfl, trivial⟩ ⟨Ext.refl _, by omega⟩ ?_; rintro i ρ w2 ⟨x2, hi⟩; have hcl := cat2_len l1 l2 i)|(refine zC rfl (grow_spec (cat2 l1 l2 i).length (by omega) _) ?_; rintro v3 w3 ⟨ho3, x3⟩)|(refine c_loopV (fun (p : Nat × Value) w' => Ext w w' ∧ p.1 ≤ 2 ∧ Own strE T.string w.heap.size w' p.2 (cat2 l1 l2 p.1)) (fun p => [(6, p.2), (25, .slice (some ⟨bq, 0, none⟩) 2 2), (26, .int .i64 2), (27, .int .i64 p.1)]) (fun p => 2 - p.1) (0, v3) ⟨rfl, rfl, rfl, rfl, trivial⟩ ⟨by exact fx, by simp, ho3.lower x2.size⟩ ?_; rintro ⟨j, vo⟩ ρ4 w4 ⟨x4, hj, ho4⟩; simp only at hj ho4; dsimp only))
  all_goals first
    | exact absurd (by assumption : _ < (0 : Int)) (by omega)
    | exact ⟨1, ⟨rfl, congrArg (Value.int .i64) (by show _ = ((l1.length : Nat) : Int); simp [cat2]), rfl, rfl, rfl, trivial⟩, ⟨by exact fx, by omega⟩, by omega⟩
    | exact ⟨2, ⟨rfl, congrArg (Value.int .i64) (by show _ = (((l1 ++ l2).length : Nat) : Int); simp [cat2]), rfl, rfl, rfl, trivial⟩, ⟨by exact fx, by omega⟩, by omega⟩
    | exact ⟨(1, v5), ⟨rfl, rfl, rfl, rfl, trivial⟩, ⟨(Ext.chg (w := w) (by exact fx) c5).mono (fun b hb => .inr (ho4.base b (by simpa using hb))), by simp, by simpa [cat2] using ho5⟩, by simp⟩
    | exact ⟨(2, v6), ⟨rfl, rfl, rfl, rfl, trivial⟩, ⟨(Ext.chg (w := w) (by exact fx) c6).mono (fun b hb => .inr (ho4.base b (by simpa using hb))), by simp, by simpa [cat2] using ho6⟩, by simp⟩
    | (obtain rfl : j = 2 := by omega
       exact x_ret rfl ⟨ho4, by exact fx⟩)
    | trace_state
end Go.Proofs.YtfebcajheojodaaGreatDoor
end
