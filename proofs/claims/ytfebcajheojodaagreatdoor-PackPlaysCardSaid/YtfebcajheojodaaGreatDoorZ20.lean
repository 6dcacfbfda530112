/- Plain: whether one more may hang on entries. Contracts: nil  -/
import Derived.Shelf.Spec.SlicesGrow
import Derived.Test.YtfebcajheojodaaGreatDoorProg
import Derived.Shelf.SlicesE.DeleteFunc
import Derived.Test.YtfebcajheojodaaGreatDoorZ19
set_option linter.unusedVariables false
set_option linter.unusedSimpArgs false
namespace Go.K
section
open Go
def rY:List Bool→Int
 | []=>0
 |b::m=>(if b then 1 else 0)+rY m
theorem aNj:∀(m:List Bool),0≤rY m∧rY m≤m.length
 | []=>by simp [rY]
 |b::m=>by have:=aNj m;rw [rY,List.length_cons];cases b<;>simp<;>omega
theorem aK5:∀(m:List Bool) (b:Bool),rY (m++ [b])=rY m+if b then 1 else 0
 | [],b=>by cases b<;>rfl
 |c::m,b=>by rw [List.cons_append,rY,rY,aK5 m b];omega
theorem yD:∀(l:List Ent) (m:List Bool),l.length=m.length→((aM l m).length:Int)=rY m
 | [], [],_=>rfl
 |x::l,b::m,h=>by
  have ih:=yD l m (by simpa using h)
  cases b<;>simp only [aM,rY,Bool.false_eq_true,if_false,if_true,List.length_cons]<;>omega
theorem bF7 {l:List Ent} (h:(l.map (·.id)).Nodup) (m:List Bool):dT l (aM l m)=jW l m:=by
 unfold dT
 rw [aQx ((jJ l m).nodup h)]
 exact (aKx h m).2
def wiP (l:List Ent) (ids:List ByteArray) (more count size:Int):Bool:=decide ((ids.length:Int)+1≤count)&&decide (dT l ids+more≤size)
def hoP (l:List Ent) (line:List ByteArray) (more count size:Int):Bool:=line.all fun s=>wiP l (aM l (bA l s)) more count size
def dF (l:List Ent) (t:Tx):Int:=
 if aG t≠0 then aG t
 else if wiP l (aM l (aZ l t)) (aR t:Nat) 25 101000=false then 14
 else if hoP l (aM l (aZ l t)) (aR t:Nat) 25 101000 then 0
 else if ((aM l (aZ l t)).length:Int)=1∧((aR t:Nat):Int)≤10000∧hoP l (aM l (aZ l t)) (aR t:Nat) 26 111000=true then 0 else 14
theorem yE:∀{l:List Ent} {m:List Bool} {i:Nat} (h:i<l.length) (h2:i<m.length),m[i]=true→l[i].id∈aM l m
 |x::l,b::m,0,_,_,hb=>by simp only [List.getElem_cons_zero] at hb;subst hb;simp [aM]
 |x::l,b::m,i+1,h,h2,hb=>by
  have:=yE (l:=l) (m:=m) (i:=i) (by simpa using h) (by simpa using h2) (by simpa using hb)
  simp only [aM,List.getElem_cons_succ]
  cases b<;>simp [this]
theorem aEl:∀{l:List Ent} {m:List Bool} {s:ByteArray},s∈aM l m→∃i,∃(h:i<l.length) (h2:i<m.length),m[i]=true∧l[i].id=s
 | [],m,s,h=>by cases m<;>simp [aM] at h
 |x::l, [],s,h=>by simp [aM] at h
 |x::l,b::m,s,h=>by
  have step:s∈aM l m→_:=fun h=>aEl h
  cases b
  ·obtain ⟨i,h1,h2,h3,h4⟩:=step (by simpa [aM] using h)
   exact ⟨i+1,by simpa using h1,by simpa using h2,by simpa using h3,by simpa using h4⟩
  ·simp only [aM,if_true,List.mem_cons] at h
   rcases h with rfl|h
   ·exact ⟨0,by simp,by simp,rfl,rfl⟩
   ·obtain ⟨i,h1,h2,h3,h4⟩:=step h
    exact ⟨i+1,by simpa using h1,by simpa using h2,by simpa using h3,by simpa using h4⟩
theorem bKl {α:Type} {l:List α} {a:α} {p:α→Bool} (h:l.length=1) (ha:a∈l):l.all p=p a:=by
 match l,h with
 | [b],_=>
  simp only [List.mem_singleton] at ha
  subst ha;simp
theorem aO0 {l:List Ent} {m:List Bool} (hn:(l.map (·.id)).Nodup) (hl:l.length=m.length) (z c s:Int):wiP l (aM l m) z c s=(decide (rY m+1≤c)&&decide (jW l m+z≤s)):=by
 unfold wiP
 rw [bF7 hn,yD l m hl]
end
end Go.K
namespace Go.Proofs.YtfebcajheojodaaGreatDoor
section
open Go Go.K
attribute [local irreducible] aO aU bQ KOp.wp K.Spec u32 leS vnS str aV cU cD idT aR aG aX idN bD cF bT
theorem bLw (id:ByteArray) (w:World):K.Spec Tryz.prog F.graph_Graph_Get [.pointer none,.string id] w fun r w'=>r=.tuple #[.agg aBu.toArray,.bool false]∧Ext w w':=by
 refine vM rfl ?_
 unfold nY
 refine oy ?_
 repeat' (first|refine go1 ?_|refine zg λ_ _=>?_|refine zi λ_ _=>?_|refine zH (fun b4 w4 x4 a4 hb4=>?_)|refine bL (cs:=aBu) rfl ?_|refine bP (w0:=w) (vs:=aBu) (by exact fx) (by omega) (by focus (repeat (first|assumption|(apply At.ext;assumption)))) rfl rfl rfl rfl rfl (fun w9 x9 c9 a9 r9=>?_))
 exact aC (lQ (cL r9 rfl rfl) cX) ⟨rfl,x9⟩
theorem all_nil (w:World):K.Spec Tryz.prog F.graph_Graph_All [.pointer none] w fun r w'=>r=.slice none 0 0∧Ext w w':=by
 refine vP rfl ?_
 unfold oJ
 refine oy ?_
 repeat' (first|refine go1 ?_|refine zg λ_ _=>?_|refine zi λ_ _=>?_|(first|refine zD rfl rfl (fun bp wp xp ap rp hp0=>?_)|refine zE (fun _=>rfl) rfl rfl rfl (fun bq wq xq aq rq hq0=>?_)))
 exact aC rfl ⟨rfl,by exact fx⟩
theorem sum_nil {v:Value} {ids:List ByteArray} (w:World) (hi:SlE bO w v ids) (hn:ids.length≤1):K.Spec Tryz.prog F.graph_Graph_Sum [.pointer none,v] w fun r w'=>r=.tuple #[.int .i64 0,.int .i64 0]∧Ext w w':=by
 refine vS rfl ?_
 unfold nV
 refine oy ?_
 repeat' (first|refine go1 ?_|refine zg λ_ _=>?_|refine zi λ_ _=>?_|refine zL rfl (fun h=>?_) (fun h=>?_)|(refine kI (E:=sK) (fv:=fun n:Nat=>Value.int .i64 (n:Nat)) (fun bm w1 x1 m1 hb1=>?_);have lm:=m1.lt)|refine bY rfl (SlE.ext (w:=w) (by exact fx) hi) ?_|(refine aQ (fun (p:Nat) w'=>Ext w w'∧p≤ids.length∧(p=0→dW sK (fun n:Nat=>Value.int .i64 (n:Nat)) w' bm [])) (fun p=> [(0,.pointer none),(6,.int .i64 0),(7,.int .i64 0),(8,.map (some bm)),(14,v),(15,.int .i64 (ids.length:Nat)),(16,.int .i64 (p:Nat))]) (fun p=>ids.length - p) 0 ⟨rfl,rfl,rfl,rfl,rfl,rfl,rfl,trivial⟩ ⟨x1,by simp,fun _=>m1⟩ ?_;rintro i ρ w3 ⟨x3,hi3,hm⟩))
 ·have hi0:i=0:=by omega
  subst hi0
  have hil:0<ids.length:=by omega
  have hm:=hm rfl
  refine aT rfl rfl (n:=0) (l:=ids) (hi.ext x3) rfl hil (fun ad r5=>?_)
  have r5:Row w3 ad [Value.string ids[0]]:=r5
  repeat' (first|refine go1 ?_|refine zg λ_ _=>?_|refine zi λ_ _=>?_|refine eR (d:=some 22) (E:=sK) (fv:=fun n:Nat=>Value.int .i64 (n:Nat)) (k:=ids[0]) rfl rfl hm rfl rfl (fun c hcc=>by simp [aS] at hcc) (fun hcn=>?_)|(refine fA (E:=sK) (fv:=fun n:Nat=>Value.int .i64 (n:Nat)) (k:=ids[0]) (v:=1) rfl rfl rfl hm rfl rfl (fun w4 c4 m4=>?_);have x4:Ext w w4:=(Ext.chg x3 c4).mono (by intro y hy;simp at hy;right;omega);clear x3)|(refine eR (d:=some 26) (E:=sK) (fv:=fun n:Nat=>Value.int .i64 (n:Nat)) (k:=ids[0]) rfl rfl m4 rfl rfl (fun c hcc=>?_) (fun hcn=>by rw [dB,if_pos rfl] at hcn;cases hcn);rw [dB,if_pos rfl] at hcc;injection hcc with hcc;subst hcc)|refine zL rfl (fun h9=>absurd h9 (by decide)) (fun h9=>?_)|(refine zC rfl (bLw ids[0] _) ?_;rintro _ w5 ⟨rfl,x5⟩)|refine zE (d':=11) (fun _=>rfl) rfl rfl rfl (fun b6 w6 x6 a6 (r6:Row w6 ⟨b6,0,none⟩ aBu) hb6=>?_))
  exact ⟨1,⟨rfl,rfl,rfl,rfl,rfl,rfl,rfl,trivial⟩,⟨by exact fx,by omega,fun h=>by omega⟩,by omega⟩
 ·exact aC rfl ⟨rfl,x3⟩
end
end Go.Proofs.YtfebcajheojodaaGreatDoor
namespace Go.K
section
open Go
variable {l:List Ent} {s:ByteArray}
theorem bEh:decide (bH l s≥0)=l.any fun x=>decide (x.id=s):=jI
theorem aGu (l:List Ent) (t:Tx):l.length=(aZ l t).length:=(lO _ _ _).symm
theorem aAi (l:List Ent) (s:ByteArray):l.length=(bA l s).length:=(lO _ _ _).symm
theorem bAv:∀{l:List Ent} {m:List Bool},(∀b∈m,b=false)→aM l m= []
 | [],m,_=>by cases m<;>rfl
 |_::_, [],_=>rfl
 |x::l,b::m,h=>by
  have hb:=h b (by simp)
  subst hb
  exact bAv (l:=l) (m:=m) fun b hb=>h b (by simp [hb])
end
section
open Go
end
section
open Go
end
section
open Go
def dZ (f s:Int):Bool:=bX f&&decide (1≤s∧s≤1000000)
def aCp (f s o i:Int):Int:=if dZ f s&&dZ o i then (if f*i<o*s then -1 else if o*s<f*i then 1 else 0) else 0
def dC:List Ent→List Bool→List Ent
 |x::l,b::m=>if b then dC l m else x::dC l m
 |l,_=>l
theorem gR:∀(l:List Ent) (m:List Bool),(dC l m).Sublist l
 | [], []=>List.Sublist.slnil
 | [],_::_=>List.Sublist.slnil
 |_::_, []=>List.Sublist.refl _
 |x::l,b::m=>by
  rw [dC]
  cases b
  ·exact (gR l m).cons_cons _
  ·exact (gR l m).cons _
theorem aTd:∀(l:List Ent) (m:List Bool),(dC l m).length+(aM l m).length=l.length
 | [], []=>rfl
 | [],_::_=>rfl
 |_::_, []=>rfl
 |x::l,b::m=>by
  have:=aTd l m
  rw [dC,aM,List.length_cons]
  cases b
  ·simp only [Bool.false_eq_true,if_false,List.length_cons];omega
  ·simp only [if_true,List.length_cons];omega
theorem aOv:∀(l:List Ent) (m:List Bool) {x:Ent},x∈l→x∈dC l m∨x.id∈aM l m
 | [],_,_,h=>by cases h
 |_::_, [],_,h=>.inl h
 |y::l,b::m,x,h=>by
  rw [dC,aM]
  rcases List.mem_cons.1 h with rfl|h
  ·cases b<;>simp
  ·rcases aOv l m h with h|h<;>cases b<;>simp [h]
theorem aD3:∀(l:List Ent) (m:List Bool) {x:Ent},(l.map (·.id)).Nodup→x∈dC l m→x.id∉aM l m
 | [],m,_,_,h=>by cases m<;>cases h
 |_::_, [],_,_,_=>by simp [aM]
 |y::l,b::m,x,hn,h=>by
  rw [List.map_cons,List.nodup_cons] at hn
  rw [dC] at h
  rw [aM]
  cases b
  ·simp only [Bool.false_eq_true,if_false] at h ⊢
   rcases List.mem_cons.1 h with rfl|h
   ·exact fun e=>hn.1 ((jJ l m).subset e)
   ·exact aD3 l m hn.2 h
  ·simp only [if_true] at h ⊢
   intro e
   rcases List.mem_cons.1 e with e|e
   ·exact hn.1 (by rw [←e];exact List.mem_map_of_mem ((gR l m).subset h))
   ·exact aD3 l m hn.2 h e
theorem aRm {x:Ent} {l:List Ent}:bH (x::l) x.id=0:=by
 unfold bH
 exact idxOf_hit (i:=0) (by simp) (dTr rfl) (fun j hj=>by omega)
theorem aRd {x:Ent} {l:List Ent} {s:ByteArray} (h:x.id≠s):bH (x::l) s=if bH l s<0 then -1 else bH l s+1:=by
 unfold bH idxOf
 rw [List.findIdx?_cons,if_neg (by simpa using h)]
 cases l.findIdx? fun x=>decide (x.id=s) with
 |none=>rfl
 |some i=>simp;omega
theorem aRe {x:Ent} {l:List Ent}:(cA (x::l) x.id).1=l:=by
 unfold cA
 rw [aRm,if_neg (by omega)];rfl
theorem aQy {x:Ent} {l:List Ent} {s:ByteArray} (h:x.id≠s):(cA (x::l) s).1=x::(cA l s).1:=by
 unfold cA
 rw [aRd h]
 by_cases h1:bH l s<0
 ·rw [if_pos h1,if_pos h1,if_pos (by omega)]
 ·rw [if_neg h1,if_neg h1,if_neg (by omega)]
  have:(bH l s+1).toNat=(bH l s).toNat+1:=by omega
  rw [this];rfl
def bU (l:List Ent) (ids:List ByteArray):List Ent:=ids.foldl (fun l s=>(cA l s).1) l
theorem aAh {l:List Ent} {ids:List ByteArray} {i:Nat} (h:i<ids.length):bU l (ids.take (i+1))=(cA (bU l (ids.take i)) ids[i]).1:=by
 unfold bU
 rw [List.take_succ_eq_append_getElem h,List.foldl_append];rfl
theorem aIs:∀(ids:List ByteArray) {x:Ent} {l:List Ent},x.id∉ids→bU (x::l) ids=x::bU l ids
 | [],_,_,_=>rfl
 |s::ids,x,l,h=>by
  simp only [List.mem_cons,not_or] at h
  show bU (cA (x::l) s).1 ids=x::bU (cA l s).1 ids
  rw [aQy h.1,aIs ids h.2]
theorem aAr:∀(l:List Ent) (m:List Bool),(l.map (·.id)).Nodup→bU l (aM l m)=dC l m
 | [], [],_=>rfl
 | [],_::_,_=>rfl
 |_::_, [],_=>rfl
 |x::l,b::m,hn=>by
  rw [List.map_cons,List.nodup_cons] at hn
  have ih:=aAr l m hn.2
  rw [aM,dC]
  cases b
  ·simp only [Bool.false_eq_true,if_false]
   rw [aIs _ (fun e=>hn.1 ((jJ l m).subset e)),ih]
  ·simp only [if_true]
   show bU (cA (x::l) x.id).1 (aM l m)=_
   rw [aRe,ih]
theorem bA6 {l:List Ent} (hn:(l.map (·.id)).Nodup) (m:List Bool):((dC l m).map (·.id)).Nodup:=((gR l m).map _).nodup hn
end
end Go.K
namespace Go.Proofs
section
open Go.Shelf
def Tryz.growS_ren:Go.Shelf.Ren:=⟨fun|4=>208|n=>n,fun|22=>39|25=>9|3=>3|4=>4|9=>9|20=>20|0=>0|n=>n,fun|n=>n⟩
theorem Tryz.growS : Go.Proofs.Lays8.n4 Tryz.prog Tryz.growS_ren := {
  mixed := by kernel_rfl
  f4 := ⟨Tryz.f208.name, by decide, Tryz.func208.trans (congrArg some (by kernel_rfl))⟩
  t0 := Tryz.underlying0
  a0 := Tryz.isAgg0
  z0 := Tryz.sizeOf0
  v0 := Tryz.zeroValue0
  t3 := Tryz.underlying3
  a3 := Tryz.isAgg3
  z3 := Tryz.sizeOf3
  v3 := Tryz.zeroValue3
  t4 := Tryz.underlying4
  a4 := Tryz.isAgg4
  z4 := Tryz.sizeOf4
  v4 := Tryz.zeroValue4
  t9 := Tryz.underlying9
  a9 := Tryz.isAgg9
  z9 := Tryz.sizeOf9
  v9 := Tryz.zeroValue9
  t20 := Tryz.underlying20
  a20 := Tryz.isAgg20
  z20 := Tryz.sizeOf20
  v20 := Tryz.zeroValue20
  t22 := Tryz.underlying39
  a22 := Tryz.isAgg39
  z22 := Tryz.sizeOf39
  v22 := Tryz.zeroValue39 }
end
end Go.Proofs
section
namespace Go.Proofs
open Go.Shelf Go.RowKit Go.Lib Go.Sort
variable {P:Program} {ρ:Ren} {α:Type} [Inhabited α]
set_option maxHeartbeats 2000000 in
set_option maxRecDepth 100000 in
theorem YtfebcajheojodaaGreatDoor.del_empty (L:SlLaysH.n10 P ρ) (a:Option Addr) (c:Nat) (fv:Value) (w:World):Calls P (ρ.f 10) #[.slice a 0 c,fv] w fun e w'=>e=.returned (.slice a 0 c)∧w'=w:=by
 have mixed:=L.mixed;have t0:=L.t0;have a0:=L.a0;have z0:=L.z0;have v0:=L.v0;have t3:=L.t3;have a3:=L.a3;have z3:=L.z3;have v3:=L.v3;have t4:=L.t4;have a4:=L.a4;have z4:=L.z4;have v4:=L.v4;have t22:=L.t22;have a22:=L.a22;have z22:=L.z22;have v22:=L.v22;have a23:=L.a23;have z23:=L.z23;have t25:=L.t25;have a25:=L.a25;have z25:=L.z25;have v25:=L.v25
 have e6:∀args w,(callFunc (ρ.f 6) args).run P w=.ok (.enter (ρ.f 6) args) w:=L.f6.enters rfl
 have hIF:=AnyE.slices_IndexFunc_empty (P:=P) (ρ:=ρ) {L with} a c fv w
 obtain ⟨_,_,FG⟩:=L.f10
 go_enter FG,SlBodyH.n10_ntmps ρ
 go_wp2_with (go_at_fn (ρ.f 6);refine hIF.mono ?_;rintro e w' ⟨rfl,rfl⟩)
 go_ret
 exact ⟨rfl,rfl⟩
end Go.Proofs
namespace Go.Proofs.YtfebcajheojodaaGreatDoor
open Go Go.K
theorem bO6:∃i0,Tryz.prog.info? 9=some i0∧i0.zero=some (.string ⟨#[]⟩)∧i0.size=1∧i0.bytes=16:=by
 have h:(Tryz.prog.info? 9).map (fun i=>(i.zero,i.size,i.bytes))=some (some (.string ⟨#[]⟩),1,16):=by kernel_rfl
 obtain ⟨i0,h1,h2⟩:=Option.map_eq_some_iff.1 h
 simp only [Prod.mk.injEq] at h2
 exact ⟨i0,h1,h2⟩
theorem bDo (n:Nat) (hn:n≤100000000) (w:World):K.Spec Tryz.prog F.slices_Grow_L_string_string [.slice none 0 0,.int .i64 (n:Nat)] w fun r w'=>Own bO T.string w.heap.size w' r []∧Ext w w':=by
 rcases Nat.eq_zero_or_pos n with h|h
 ·subst h
  exact (Any8.slices_Grow_room Tryz.growS none 0 0 0 w (by omega) (by omega) (by omega) (by omega)).mono fun e w' ⟨he,hw⟩=>⟨_,he,Own.nil _ _ _,hw▸Ext.refl _⟩
 ·obtain ⟨i0,h1,h2,h3,h4⟩:=bO6
  exact (Any8.slices_Grow_grow Tryz.growS i0 (.string ⟨#[]⟩) h1 h2 (by omega) none 0 0 n [] w (by omega) (by omega) (by rw [h4];omega) (by omega) (by simp) (by simp) (by simp)).mono fun e w' ⟨he,hw⟩=>⟨_,he,by
   have hg:=grownCap_ge w (0+n) 0 9
   have hc:grownCap w (0+n) 0 (Tryz.growS_ren.t 25)=grownCap w (0+n) 0 9:=rfl
   subst hw
   rw [hc]
   refine ⟨.inr ⟨w.heap.size,_,(Builtin.zeroCells (Value.string ⟨#[]⟩).cells (0+n - 0)++Builtin.zeroCells (Value.string ⟨#[]⟩).cells (grownCap w (0+n) 0 9 - (0+n))).toList,rfl,Nat.le_refl _,?_,?_⟩,(Ext.drew w).trans (Ext.alloc _ _)⟩
   ·have e:∀X Y:Array Value,(#[]:Array Value)++X++Y=(bO.flat []++(X++Y).toList).toArray:=fun X Y=>by simp [Enc.flat]
    rw [show ([]:List Value).toArray=#[] from rfl,e]
    exact At.new w.drew _
   ·have e:(Value.string ⟨#[]⟩).cells.size=1:=rfl
    simp only [Enc.flat,List.flatMap_nil,List.nil_append,Array.length_toList,Array.size_append,size_zeroCells,e]
    show _=_*1
    omega⟩
theorem bFz {w:World} {b:Nat} {cs:Array Value} {t:TypeId} {f:Nat × Nat} (h:At w b (.cells cs t f)) (g:Array Value→Array Value):At (Sort.mapBlock w b g) b (.cells (g cs) t f):=by
 unfold At at h ⊢
 simp [Sort.mapBlock,Array.getElem?_modify,h,Sort.onCells]
theorem aIw (w:World) (b:Nat) (g:Array Value→Array Value):Chg [b] w (Sort.mapBlock w b g):=
 ⟨rfl,rfl,rfl,by simp [Sort.mapBlock],fun c _ hn=>by
  show (w.heap.modify b _)[c]? =_
  rw [Array.getElem?_modify,if_neg (by simp at hn;omega)]⟩
theorem aKq (w:World) (q:Nat):Ext w (Sort.ahead w q):=⟨rfl,rfl,rfl,Nat.le_refl _,fun _ _ _=>rfl⟩
theorem bL1 (D l:List ByteArray) (junk:List Value) (h:D.length=l.length):Sort.putCells Value.string 0 D.toArray (l.map Value.string++junk).toArray=(D.map Value.string++junk).toArray:=by
 apply Array.ext
 ·simp [Sort.putCells,h]
 ·intro k h1 h2
  simp only [Sort.putCells,Array.getElem_mapIdx,List.getElem_toArray,Nat.zero_add,Nat.sub_zero,List.size_toArray]
  by_cases hk:k<D.length
  ·rw [if_pos ⟨Nat.zero_le _,hk⟩,List.getElem_append_left (by simpa using hk)]
   simp [getElem!_pos,hk]
  ·rw [if_neg (by omega),List.getElem_append_right (by simp;omega),List.getElem_append_right (by simp;omega)]
   simp [h]
theorem aNt {g:FuncId} {capl:List Value} {v:Value} {l:List ByteArray} {B:Nat} (w:World) (p:ByteArray→Bool) (hb:cM Tryz.prog g=true) (ho:Own bO T.string B w v l) (hn:l.length≤100000000)
  (hp:∀(W:World) (x:ByteArray),Chg (aP v) w W→K.Spec Tryz.prog g (Value.string x::capl) W fun r w'=>r=.bool (p x)∧w'=W):
  K.Spec Tryz.prog F.slices_DeleteFunc_L_string_string [v,.func (.func g) #[] capl.toArray] w fun r w'=>Own bO T.string B w' r (l.filter fun x=>!p x)∧Chg (aP v) w w'∧∀b∈aP r,b∈aP v:=by
 have ho0:=ho
 rcases ho with ⟨rfl,rfl⟩|⟨b,cap,junk,rfl,hB,hat,hlen⟩
 ·exact (YtfebcajheojodaaGreatDoor.del_empty Tryz.deleteFunc none 0 (.func (.func g) #[] capl.toArray) w).mono fun e w' ⟨he,hw⟩=>⟨_,he,.inl ⟨rfl,by simp⟩,hw▸Chg.refl _ _,by simp⟩
 ·have hcap:l.length≤cap:=by
   rw [List.length_append,Enc.flat_length] at hlen
   have e:bO.k=1:=rfl
   rw [e] at hlen;omega
  have hflat:∀m:List ByteArray,bO.flat m=m.map Value.string:=fun m=>by
   induction m with
   |nil=>rfl
   |cons x m ih=>simp only [Enc.flat,List.flatMap_cons,List.map_cons] at ih ⊢;rw [ih];rfl
  rw [hflat] at hat hlen
  have hcall:∀(W:World) (x:ByteArray),Chg [b] w W→FnGives Tryz.prog g capl.toArray #[Value.string x] (.bool (p x)) W:=fun W x hc=>by
   unfold FnGives
   have:=hp W x (by simpa [aP] using hc)
   have e:(#[Value.string x]++capl.toArray:Array Value)=(Value.string x::capl).toArray:=by simp
   rw [e]
   exact Calls.mono this fun e w' ⟨r,he,hr,hw⟩=>⟨by rw [he,hr],0,by rw [hw];rfl⟩
  have hH:Sort.Holds Value.string w b 0 l.toArray:=fun j hj=>by
   have hj':j<l.length:=by simpa using hj
   have hat':w.heap[b]? =some (.cells (l.map Value.string++junk).toArray T.string (0,0)):=hat
   refine ⟨?_,?_⟩
   ·simp only [World.cell?,hat',Nat.zero_add]
    simp [hj',List.getElem?_append_left,getElem!_pos]
   ·simp [World.frozen?,hat']
  have key:=AnyE.slices_DeleteFunc Tryz.deleteFunc Value.string (fun _=>rfl) p g capl.toArray (fun args W=>aSv hb) ⟨#[]⟩ Tryz.zeroValue9 b 0 cap l.toArray w (fun W x hb=>hcall W x (by
    exact ⟨hb.os,hb.tape,hb.output,hb.size,fun c hc _=>hb.block c hc⟩)) (fun n os dk x hd=>hcall _ x ?_) hH (by simp;omega) (by simpa using hcap)
  ·simp only [List.size_toArray] at key
   refine Calls.mono (show Calls Tryz.prog F.slices_DeleteFunc_L_string_string #[.slice (some ⟨b,0,none⟩) l.length cap,.func (.func g) #[] capl.toArray] w _ from key) ?_
   rintro e w' ⟨he,q,rfl⟩
   have hfl:(l.filter fun x=>!p x).length≤l.length:=List.length_filter_le _ _
   have hm:=bFz (At.ext (aKq w q) hat) (Sort.putCells Value.string 0 ((l.filter fun x=>!p x)++List.replicate (l.length - (l.filter fun x=>!p x).length) (⟨#[]⟩:ByteArray)).toArray)
   rw [bL1 _ _ _ (by simp;omega),List.map_append,List.append_assoc] at hm
   refine ⟨_,he,.inr ⟨b,cap,_,rfl,hB,by rw [hflat];exact hm,?_⟩,?_,fun c hc=>by simpa [aP] using hc⟩
   ·rw [hflat]
    simp only [List.length_append,List.length_map,List.length_replicate] at hlen ⊢
    rw [←hlen];omega
   ·exact (Ext.chg (aKq w q) (aIw _ _ _)).mono (fun c hc=>.inl (by simpa [aP] using hc))
  ·have c1:Chg [b] w (Sort.putRow Value.string (Sort.ahead w n) b 0 dk):=Ext.chg (aKq w n) (aIw _ _ _)
   refine Chg.ext c1 ⟨rfl,rfl,rfl,by simp only [sortWorld,Sort.grow,Array.size_append];omega,fun c hc _=>?_⟩
   show ((Sort.putRow Value.string (Sort.ahead w n) b 0 dk).heap++os)[c]? =_
   rw [Array.getElem?_append_left hc]
attribute [local irreducible] aO aU bQ KOp.wp K.Spec u32 leS vnS str aV cU cD idT
theorem bDf {α:Type} {l m:List α} {i:Nat} (h:l.take i=m.take i) (h1:i<l.length) (h2:i<m.length) (e:l[i]=m[i]):l.take (i+1)=m.take (i+1):=by
 rw [List.take_succ_eq_append_getElem h1,List.take_succ_eq_append_getElem h2,h,e]
theorem aNz {v u:Value} {l m:List ByteArray} (w:World) (hl:SlE bO w v l) (hm:SlE bO w u m) (hn:l.length≤100000000):K.Spec Tryz.prog F.slices_Equal_L_string_string [v,u] w fun r w'=>r=.bool (decide (l=m))∧Ext w w':=by
 refine pU rfl ?_
 unfold iO
 refine oy ?_
 repeat' (first|refine go1 ?_|refine zg λ_ _=>?_|refine zi λ_ _=>?_|refine zL rfl (fun h=>?_) (fun h=>?_)|refine zN rfl (fun h=>?_) (fun h=>?_)|refine bY rfl hl ?_|refine bY rfl hm ?_|(refine aQ (fun (i:Nat) w'=>Ext w w'∧i≤l.length∧l.take i=m.take i) (fun i=> [(0,v),(1,u),(12,.int .i64 (l.length:Nat)),(13,.int .i64 i)]) (fun i=>l.length - i) 0 ⟨rfl,rfl,rfl,rfl,trivial⟩ ⟨Ext.refl _,by omega,rfl⟩ ?_;rintro i ρ w1 ⟨x1,hi,hk⟩)|refine aT (d:=some 18) rfl rfl (SlE.ext (w:=w) (by exact fx) hl) rfl (by omega) (fun ad r1=>?_)|refine aT (d:=some 22) rfl rfl (SlE.ext (w:=w) (by exact fx) hm) rfl (by omega) (fun ad r1=>?_))
 all_goals first
  |(refine aC rfl ⟨congrArg Value.bool (dFa fun e=>?_).symm,by exact fx⟩;subst e;first|exact h rfl|exact absurd rfl (by assumption))
  |exact ⟨i+1,⟨rfl,rfl,rfl,rfl,trivial⟩,⟨by exact fx,by omega,bDf hk (by omega) (by omega) (by first|assumption|(simp_all;done))⟩,by omega⟩
  |(refine aC rfl ⟨congrArg Value.bool (dTr ?_).symm,by exact fx⟩;rwa [tLe (by omega),tLe (by omega)] at hk)
  |trace_state
theorem aXu {v:Value} {l:List ByteArray} (a:ByteArray) (w:World) (hs:SlE bO w v l) (hn:l.length≤1000000000000):K.Spec Tryz.prog F.slices_Index_L_string_string [v,.string a] w fun r w'=>r=.int .i64 (idxOf (fun x=>decide (a=x)) l)∧w'=w:=by
 refine pP rfl ?_
 unfold iP
 refine oy ?_
 repeat (first|refine go ?_|refine zg λ_ _=>?_|refine zi λ_ _=>?_)
 refine bY rfl hs ?_
 repeat (first|refine go ?_|refine zg λ_ _=>?_|refine zi λ_ _=>?_)
 refine aQ (fun (i:Nat) w'=>w'=w∧i≤l.length∧∀j,j<i→∀h:j<l.length,a≠l[j]) (fun i=> [(0,v),(1,.string a),(6,v),(7,.int .i64 (l.length:Nat)),(8,.int .i64 i)]) (fun i=>l.length - i) 0 ⟨rfl,rfl,rfl,rfl,rfl,trivial⟩ ⟨rfl,by omega,by omega⟩ ?_
 rintro i ρ w1 ⟨rfl,hi,hk⟩
 repeat (first|refine go ?_|refine zg λ_ _=>?_|refine zi λ_ _=>?_)
 refine zL rfl (fun h=>?_) (fun h=>?_)
 ·have hil:i<l.length:=by omega
  repeat (first|refine go ?_|refine zg λ_ _=>?_|refine zi λ_ _=>?_)
  refine aT rfl rfl hs rfl hil (fun ad r1=>?_)
  repeat (first|refine go ?_|refine zg λ_ _=>?_|refine zi λ_ _=>?_)
  refine zL rfl (fun h2=>?_) (fun h2=>?_)
  ·repeat (first|refine go ?_|refine zg λ_ _=>?_|refine zi λ_ _=>?_)
   exact aC rfl ⟨congrArg (Value.int .i64) (idxOf_hit hil (by simpa using h2) (fun j hj=>by simpa using hk j hj (by omega))).symm,rfl⟩
  ·repeat (first|refine go ?_|refine zg λ_ _=>?_|refine zi λ_ _=>?_)
   refine ⟨i+1,⟨rfl,rfl,rfl,rfl,rfl,trivial⟩,⟨rfl,by omega,fun j hj hl=>?_⟩,by omega⟩
   by_cases hji:j=i
   ·subst hji;exact h2
   ·exact hk j (by omega) hl
 ·repeat (first|refine go ?_|refine zg λ_ _=>?_|refine zi λ_ _=>?_)
  exact aC rfl ⟨congrArg (Value.int .i64) (idxOf_miss (fun j hj=>by simpa using hk j (by omega) hj)).symm,rfl⟩
theorem aN3 {v:Value} {l:List ByteArray} (a:ByteArray) (w:World) (hs:SlE bO w v l) (hn:l.length≤1000000000000):K.Spec Tryz.prog F.slices_Contains_L_string_string [v,.string a] w fun r w'=>r=.bool (l.any fun x=>decide (a=x))∧w'=w:=by
 refine nI rfl ?_
 unfold gK
 refine oy ?_
 repeat (first|refine go ?_|refine zg λ_ _=>?_|refine zi λ_ _=>?_)
 refine zC rfl (aXu a _ hs hn) ?_
 rintro _ _ ⟨rfl,rfl⟩
 repeat (first|refine go ?_|refine zg λ_ _=>?_|refine zi λ_ _=>?_)
 exact aC rfl ⟨congrArg Value.bool jI,rfl⟩
theorem cJ.toOwn {α:Type} {F:Enc α} {ag:Bool} {t:TypeId} {B:Nat} {M:List Nat} {w:World} {v:Value} {l:List α} (h:cJ (R.flat F ag) t B M w v l):Own F t B w v l:=by
 obtain ⟨css,h1,h2⟩:=h
 have hlen:=h2.length
 have e:css=l.map F.vec:=by
  clear h1 hlen
  induction h2 with
  |nil=>rfl
  |cons hx _ ih=>rw [ih,List.map_cons];congr 1;exact Subtype.ext hx
 subst e
 rcases h1 with ⟨rfl,h⟩|⟨b,cap,junk,rfl,hB,hat,hl⟩
 ·exact .inl ⟨rfl,List.map_eq_nil_iff.1 h⟩
 ·refine .inr ⟨b,cap,junk,congrArg (fun n=>Value.slice (some ⟨b,0,none⟩) n cap) hlen,hB,?_,?_⟩
  ·rw [←yQ];exact hat
  ·rw [←yQ];exact hl
def aQr (l1 l2:List ByteArray):Nat→List ByteArray
 |0=> []
 |1=>l1
 |_=>l1++l2
theorem aOg (l1 l2:List ByteArray) (i:Nat):(aQr l1 l2 i).length≤l1.length+l2.length:=by
 match i with
 |0=>simp [aQr]
 |1=>simp [aQr]
 |_+2=>simp [aQr]
theorem lt2 {n:Nat} (h:(n:Int)<2):n=0∨n=1:=by omega
theorem aW6 {bq : Nat} {v1 v2 : Value} {l1 l2 : List ByteArray} (w : World) (h : At w bq (.cells [v1, v2].toArray T.L_string (0, 0))) (h1 : SlE bO w v1 l1) (h2 : SlE bO w v2 l2) (hn : l1.length + l2.length ≤ 100000000) : K.Spec Tryz.prog F.slices_Concat_L_string_string [.slice (some ⟨bq, 0, none⟩) 2 2] w fun r w' => Own bO T.string w.heap.size w' r (l1 ++ l2) ∧ Ext w w' := by
  have hr : Row w ⟨bq, 0, none⟩ [v1, v2] := Row.of_at h
  have hq := h.lt
  refine pC rfl ?_
  unfold iB
  refine oy ?_
  repeat' (first|refine go1 ?_|refine zg λ_ _=>?_|refine zi λ_ _=>?_|refine zL rfl (fun h => ?_) (fun h => ?_)|(refine (lt2 (n := i) h).elim (fun e => ?_) (fun e => ?_) <;> subst e)|(refine (lt2 (n := j) h).elim (fun e => ?_) (fun e => ?_) <;> subst e)|refine lR rfl rfl (by omega) ?_|refine bY rfl (SlE.ext (w := w) (by exact fx) h1) ?_|refine bY rfl (SlE.ext (w := w) (by exact fx) h2) ?_|refine cK (E := bO) (v := vo) (l2 := l1) rfl (ho4.ext (by exact fx)) (Ext.size (w := w) (by exact fx)) rfl rfl (SlE.cells (SlE.ext (w := w) (by exact fx) h1)) rfl rfl (by have := aOg l1 l2 0; omega) (fun v5 w5 ho5 c5 => ?_)|refine cK (E := bO) (v := vo) (l2 := l2) rfl (ho4.ext (by exact fx)) (Ext.size (w := w) (by exact fx)) rfl rfl (SlE.cells (SlE.ext (w := w) (by exact fx) h2)) rfl rfl (by have := aOg l1 l2 1; omega) (fun v6 w6 ho6 c6 => ?_)|(refine aQ (fun (i : Nat) w' => Ext w w' ∧ i ≤ 2) (fun i => [(0, .slice (some ⟨bq, 0, none⟩) 2 2), (3, .int .i64 ((aQr l1 l2 i).length : Nat)), (9, .slice (some ⟨bq, 0, none⟩) 2 2), (10, .int .i64 2), (11, .int .i64 i)]) (fun i => 2 - i) 0 ⟨rfl, rfl, rfl, rfl, rfl, trivial⟩ ⟨Ext.refl _, by omega⟩ ?_; rintro i ρ w2 ⟨x2, hi⟩; have hcl := aOg l1 l2 i)|(refine zC rfl (bDo (aQr l1 l2 i).length (by omega) _) ?_; rintro v3 w3 ⟨ho3, x3⟩)|(refine aQ (fun (p : Nat × Value) w' => Ext w w' ∧ p.1 ≤ 2 ∧ Own bO T.string w.heap.size w' p.2 (aQr l1 l2 p.1)) (fun p => [(6, p.2), (25, .slice (some ⟨bq, 0, none⟩) 2 2), (26, .int .i64 2), (27, .int .i64 p.1)]) (fun p => 2 - p.1) (0, v3) ⟨rfl, rfl, rfl, rfl, trivial⟩ ⟨by exact fx, by simp, ho3.lower x2.size⟩ ?_; rintro ⟨j, vo⟩ ρ4 w4 ⟨x4, hj, ho4⟩; simp only at hj ho4; dsimp only))
  all_goals first
    | exact absurd (by assumption : _ < (0 : Int)) (by omega)
    | exact ⟨1, ⟨rfl, congrArg (Value.int .i64) (by show _ = ((l1.length : Nat) : Int); simp [aQr]), rfl, rfl, rfl, trivial⟩, ⟨by exact fx, by omega⟩, by omega⟩
    | exact ⟨2, ⟨rfl, congrArg (Value.int .i64) (by show _ = (((l1 ++ l2).length : Nat) : Int); simp [aQr]), rfl, rfl, rfl, trivial⟩, ⟨by exact fx, by omega⟩, by omega⟩
    | exact ⟨(1, v5), ⟨rfl, rfl, rfl, rfl, trivial⟩, ⟨(Ext.chg (w := w) (by exact fx) c5).mono (fun b hb => .inr (ho4.base b (by simpa using hb))), by simp, by simpa [aQr] using ho5⟩, by simp⟩
    | exact ⟨(2, v6), ⟨rfl, rfl, rfl, rfl, trivial⟩, ⟨(Ext.chg (w := w) (by exact fx) c6).mono (fun b hb => .inr (ho4.base b (by simpa using hb))), by simp, by simpa [aQr] using ho6⟩, by simp⟩
    | (obtain rfl : j = 2 := by omega
       exact aC rfl ⟨ho4, by exact fx⟩)
    | trace_state
end Go.Proofs.YtfebcajheojodaaGreatDoor
end
namespace Go.Proofs.YtfebcajheojodaaGreatDoor
section
open Go Go.K
attribute [local irreducible] aO aU bQ KOp.wp K.Spec u32 leS vnS str aV cU cD idT aR aG aX idN bD cF bT
theorem vL (v:Value):(aP v).Nodup:=by
 unfold aP
 split<;>simp
theorem aXh {l:List Ent} {t:Tx} {fee:Int} (h:kH t fee≠0):cO l t fee=(l,kH t fee):=by
 unfold cO kH at*
 by_cases h1:aG t≠0
 ·rw [if_pos h1,if_pos h1]
 ·rw [if_neg h1] at*
  rw [if_neg h1]
  by_cases h2:aX t=true
  ·rw [if_pos h2,if_pos h2]
  ·rw [if_neg h2] at*
   rw [if_neg h2]
   by_cases h3:(!bX fee)=true
   ·rw [if_pos h3,if_pos h3]
   ·rw [if_neg h3] at h;exact absurd rfl h
theorem vZ {l:List Ent} {t:Tx} {fee:Int} (h:kH t fee=0) (hw:aG t=0→aX t=false→bX fee=true→True):cO l t fee=if l.any (fun x=>decide (x.id=idT t)) then (l,7) else if t.ins.any (fun i=>l.any fun x=>spends x i.p) then (l,15) else (l++ [⟨t,idT t,fee,(aR t:Nat)⟩],0):=by
 unfold cO kH at*
 by_cases h1:aG t≠0
 ·rw [if_pos h1] at h;exact absurd h h1
 ·rw [if_neg h1] at*
  by_cases h2:aX t=true
  ·rw [if_pos h2] at h;cases h
  ·rw [if_neg h2] at*
   by_cases h3:(!bX fee)=true
   ·rw [if_pos h3] at h;cases h
   ·rw [if_neg h3]
set_option maxHeartbeats 2000000 in
theorem bJw {B g:Nat} {M N:List Nat} {l:List Ent} {cs:List Value} {t:Tx} (fee:Int) (w:World) (hG:Gr w B g M l) (ht:txR.rel N w cs t) (hs:t.Sm) (hf:lJ fee) (hN:∀b∈N,b<w.heap.size) (hMN:∀b∈M,b∈N) (hn:l.length≤1000):K.Spec Tryz.prog F.graph_Graph_Add [.pointer (some ⟨g,0,none⟩),.agg cs.toArray,.int .i64 fee] w fun r w'=>
  ∃M',r=.int .i64 (cO l t fee).2∧Gr w' B g M' (cO l t fee).1∧Chg M w w'∧(∀b∈M',b∈M∨w.heap.size≤b)∧((cO l t fee).2≠0→Ext w w'):=by
 have hG0:=hG
 obtain ⟨b1,vo,b2,m,sp,hP,rfl⟩:=hG
 have rg:Row w ⟨g,0,none⟩ [.map (some b1),vo,.map (some b2)]:=Row.of_at hP.at_
 have hq1:=hP.ents
 have hq2:=hP.pts
 have ht0:=ht
 obtain ⟨iv,ov,rfl,h1,h2,h3⟩:=ht
 by_cases he0:kH t fee=0
 ·refine jQ rfl ?_
  unfold gT
  refine oy ?_
  repeat' (first|refine go1 ?_|refine zg λ_ _=>?_|refine zi λ_ _=>?_|refine zL rfl (fun h=>absurd h (by decide)) (fun h=>?_)|refine zD rfl rfl (fun bp wp xp ap (rp:Row wp ⟨bp,0,none⟩ (aK t iv ov)) hp0=>?_)|(refine zC rfl (aAq (M:=N) (cs:=aK t iv ov) (t:=t) fee _ (by exact fx) hs hf (fun b hb=>nLt (hN b hb) (Ext.size (by exact fx)))) ?_;rintro _ w5 ⟨ds,rfl,d1,d2,d3,x5⟩;obtain ⟨hok,he5⟩:=d3 he0;rw [he0];clear d3;generalize hxe:(⟨t,idT t,fee,(aR t:Nat)⟩:Ent)=x at hok he5 d1 d2 ⊢;have htx:x.tx=t:=(by rw [←hxe]);have hid:x.id=idT t:=(by rw [←hxe]);have he5':=he5;obtain ⟨iv5,ov5,rfl,o1,o2,o3⟩:=he5)|refine zE (d':=7) (fun _=>rfl) rfl rfl d2 (fun b7 w7 x7 a7 (r7:Row w7 ⟨b7,0,none⟩ (bN x iv5 ov5)) hb7=>?_)|refine sP (d:=some 35) (KE:=sK) (F:=bF) (M:=dQ g b1 b2 vo) (k:=x.id) rfl rfl (by exact fx) rfl rfl (fun y cs hy hr=>?_) (fun hno=>?_)|(refine zH (d:=some 9) (fun b9 w9 x9 a9 hb9=>?_);have s9:w.heap.size≤b9:=nTr (Ext.size (w:=w) (by exact fx)) hb9;have s79:w7.heap.size≤b9:=nTr (Ext.size (w:=w7) (by exact fx)) hb9)|(obtain ⟨iv9,ov9,rfl,q1,q2,q3⟩:=hr;have i1:=q1.one;have i2:=q2.one;refine bP (w0:=w) (vs:=bN y iv9 ov9) (by exact fx) s9 (by focus (repeat (first|assumption|(apply At.ext;assumption)))) rfl rfl rfl rfl (by simp [bN,i1,i2];exact ⟨rfl,rfl,rfl,rfl,rfl⟩) (fun w10 x10 c10 a10 r10=>?_);clear q1 q2)|refine bP (w0:=w) (vs:=aBu) (by exact fx) s9 (by focus (repeat (first|assumption|(apply At.ext;assumption)))) rfl rfl rfl rfl rfl (fun w10 x10 c10 a10 r10=>?_)|refine zG (E:=inR) (M:=N) (l:=t.ins) rfl (SlR.ext h1 (by exact fx)) ?_)
  ·rw [hP.inv.ent] at hy
   have hany:l.any (fun x=>decide (x.id=idT t))=true:=by
    rw [List.any_eq_true]
    exact ⟨y,List.mem_of_find?_eq_some hy,by have:=List.find?_some hy;rw [←hid];exact this⟩
   rw [vZ he0 (fun _ _ _=>trivial),if_pos hany]
   exact aC rfl ⟨_,rfl,hG0.ext x10,x10.mono (by simp),fun b hb=>.inl hb,fun _=>x10⟩
  ·have l7:=a7.lt
   have lp:=ap.lt
   have s5:=x5.size
   have s7:=x7.size
   have sp:=xp.size
   have ap0:=At.chg c10 (At.ext (show Ext wp w9 by exact fx) ap) (by simp;omega)
   have a70:=At.chg c10 (At.ext (show Ext w7 w9 by exact fx) a7) (by simp;omega)
   have x59:Ext w5 w9:=by exact fx
   have k1:=o1.lt
   have k2:=o2.lt
   have e10:bF.rel N w10 (bN x iv5 ov5) x:=by
    have n1:b9∉aP iv5:=fun h=>by have:=k1 _ h;omega
    have n2:b9∉aP ov5:=fun h=>by have:=k2 _ h;omega
    have p1:=(o1.step (M':=b9::N) x59 (by simp) (fun b hb=>by rcases List.mem_cons.1 hb with h|h;(right;omega);exact .inl h)).step (M':=N) c10 (by intro y hy;simp at hy;subst hy;exact ⟨n1,.inl (by simp)⟩) (fun _ h=>.inl (by simp [h]))
    have p2:=(o2.step (M':=b9::N) x59 (by simp) (fun b hb=>by rcases List.mem_cons.1 hb with h|h;(right;omega);exact .inl h)).step (M':=N) c10 (by intro y hy;simp at hy;subst hy;exact ⟨n2,.inl (by simp)⟩) (fun _ h=>.inl (by simp [h]))
    exact aNb.rel (B:=w.heap.size) ⟨iv5,ov5,rfl,p1.lower sp,p2.lower sp,o3⟩ hN
   have rp0:Row w10 ⟨bp,0,none⟩ (aK t iv ov):=Row.of_at ap0
   have r70:Row w10 ⟨b7,0,none⟩ (bN x iv5 ov5):=Row.of_at a70
   have hb7:w.heap.size≤b7:=by omega
   have hbp:=hp0
   have hl1:=Gr.lt hG0
   have hins:=hs.ins
   clear ‹Ext w7 _›
   clear x59 k1 k2 o1 o2 he5' c10 a10 r10 x9 a9 hb9 s9 s79 x7 a7 r7 x5 xp ap rp l7 lp s5 s7 sp hp0
   repeat' (first|refine go1 ?_|refine zg λ_ _=>?_|refine zi λ_ _=>?_|refine zL rfl (fun h=>?_) (fun h=>?_)|refine zG (E:=inR) (M:=N) (l:=t.ins) rfl (SlR.ext h1 (by exact fx)) ?_|(refine aQ (fun (i:Nat) w'=>Ext w10 w'∧i≤t.ins.length∧∀j (hj:j<t.ins.length),j<i→aS sp t.ins[j].p=none) (fun i=> [(0,.pointer (some ⟨g,0,none⟩)),(4,.pointer (some ⟨bp,0,none⟩)),(7,.pointer (some ⟨b7,0,none⟩)),(40,iv),(41,.int .i64 (t.ins.length:Nat)),(42,.int .i64 i)]) (fun i=>t.ins.length - i) 0 ⟨rfl,rfl,rfl,rfl,rfl,rfl,trivial⟩ ⟨by exact fx,by simp,fun j hj h=>by omega⟩ ?_;rintro i ρ w3 ⟨x3,hi,hfr⟩)|(refine aL (d:=some 44) (E:=inR) (M:=N) rfl rfl (n:=i) (l:=t.ins) (SlR.ext h1 (x10.trans x3)) rfl (by omega) (fun ad cs r4 he=>?_);obtain ⟨wv,rfl,hw,hp5,hp6⟩:=he;obtain ⟨bs1,cp1,rfl⟩:=hw.form;have hil:i<t.ins.length:=(by omega))|refine zE (d':=12) (fun _=>rfl) rfl rfl rfl (fun b8 w8 x8 a8 (r8:Row w8 ⟨b8,0,none⟩ (gO t.ins[i] (.slice bs1 t.ins[i].wit.length cp1))) hb8=>?_)|refine mZ (d:=some 53) (E:=ptK) (fv:=Value.string) (k:=t.ins[i].p) rfl rfl (dW.ext (w:=w) (by exact fx) hq2) rfl rfl (fun y hy=>?_) (fun hn2=>?_))
   ·rw [hP.inv.spt,Option.map_eq_some_iff] at hy
    obtain ⟨z,hz, -⟩:=hy
    have hany:¬l.any (fun x=>decide (x.id=idT t))=true:=by
     rw [hP.inv.ent] at hno
     rw [List.any_eq_true]
     rintro ⟨y,h1,h2⟩
     exact (List.find?_eq_none.1 hno y h1) (by rw [hid];exact h2)
    have hany2:t.ins.any (fun i=>l.any fun x=>spends x i.p)=true:=List.any_eq_true.2 ⟨_,gMe hil,List.any_eq_true.2 ⟨z,List.mem_of_find?_eq_some hz,(by have:=List.find?_some hz;exact this)⟩⟩
    rw [vZ he0 (fun _ _ _=>trivial),if_neg hany,if_pos hany2]
    have xx:Ext w _:=Ext.trans (x10.trans (x3.trans x8)) (by assumption)
    exact aC rfl ⟨_,rfl,hG0.ext xx,xx.mono (by simp),fun b hb=>.inl hb,fun _=>xx⟩
   ·exact ⟨i+1,⟨rfl,rfl,rfl,rfl,rfl,rfl,trivial⟩,⟨by exact fx,by omega,fun j hj h=>by
     rcases Nat.lt_succ_iff_lt_or_eq.1 h with h5|rfl
     ·exact hfr j hj h5
     ·exact hn2⟩,by omega⟩
   ·rename_i wB xB
    have hfree:∀j (hj:j<t.ins.length),aS sp t.ins[j].p=none:=fun j hj=>hfr j hj (by omega)
    have x0B:=x3.trans xB
    have xwB:Ext w wB:=x10.trans x0B
    have eB:bF.rel (dQ g b1 b2 vo) wB (bN x iv5 ov5) x:=bF.step e10 x0B (by simp) (fun b hb=>.inl (hMN b hb))
    have apB:=ap0.ext x0B
    have a7B:=a70.ext x0B
    have agB:=hP.at_.ext xwB
    have mB:=hq1.ext xwB
    have pB:=hq2.ext xwB
    have oB:=hP.ord.ext xwB
    have sB:=xwB.size
    have nd:=hP.nd
    simp only [List.nodup_cons,List.mem_cons,not_or] at nd
    obtain ⟨⟨n1,n2,n3⟩,⟨n4,n5⟩,n6,n7⟩:=nd
    have l1:b1<w.heap.size:=hl1 _ (by simp)
    have l2:b2<w.heap.size:=hl1 _ (by simp)
    have lg:g<w.heap.size:=hl1 _ (by simp)
    have lo:∀b∈aP vo,b<w.heap.size:=fun b hb=>hl1 b (by simp [hb])
    clear x3 xB x0B hi x10 ap0 a70 rp0 r70 e10 rg hfr h
    refine aFh (KE:=sK) (F:=bF) (M:=dQ g b1 b2 vo) (k:=x.id) (v:=x) (cs:=bN x iv5 ov5) rfl rfl rfl mB eB (by simp) rfl rfl (fun w11 c11 m11=>?_)
    have ag11:=agB.chg c11 (by simp;omega)
    have a711:=a7B.chg c11 (by simp;omega)
    have ap11:=apB.chg c11 (by simp;omega)
    have p11:=pB.chg c11 (by simp;omega)
    have o11:=oB.chg c11 (fun b hb h=>by simp at h;subst h;exact n5 hb)
    have rg11:Row w11 ⟨g,0,none⟩ [.map (some b1),vo,.map (some b2)]:=Row.of_at ag11
    have r711:Row w11 ⟨b7,0,none⟩ (bN x iv5 ov5):=Row.of_at a711
    have C11:Chg (dQ g b1 b2 vo) w w11:=(xwB.chg c11).mono (fun b hb=>by simp at hb;subst hb;exact .inl (by simp))
    have s11:=c11.size
    have sB11:w.heap.size≤w11.heap.size:=nTr sB s11
    have hBw:B≤w.heap.size:=(by have:=hP.lo;omega)
    clear agB a7B apB pB oB mB eB c11 xwB
    repeat' (first|refine go1 ?_|refine zg λ_ _=>?_|refine zi λ_ _=>?_|refine fR ?_ ?_|refine zI (d:=some 72) (cs:= [.string x.id]) rfl (fun bz wz xz az hbz=>?_))
    all_goals
     refine pX (d:=some 73) (E:=bO) (B:=B) (l:=l.map (fun x:Ent=>x.id)) (l2:= [x.id]) (n:=1) (new:= [.string x.id]) rfl (o11.ext (by exact fx)) (nTr (nTr hBw sB11) (Ext.size (w:=w11) (by exact fx))) rfl rfl (eS (by focus (repeat (first|assumption|(apply At.ext;assumption)))) rfl) rfl rfl (by simp only [List.length_map,List.length_cons,List.length_nil];omega) (fun v13 w13 o13 _ c13 hb13=>?_)
     have c1:Chg (aP vo) w11 w13:=Ext.chg (by exact fx) c13
     have hb1:∀b∈aP v13,b∈aP vo∨w11.heap.size≤b:=fun b hb=>(hb13 b hb).imp id (nTr (Ext.size (by exact fx)))
     clear c13 hb13 az hbz xz
     clear ‹Ext w11 _›
     have s13:=c1.size
     have ag13:=ag11.chg c1 n3
     have ap13:=ap11.chg c1 (fun h=>by have:=lo _ h;omega)
     have a713:=a711.chg c1 (fun h=>by have:=lo _ h;omega)
     have p13:=p11.chg c1 n6
     have rg13:Row w13 ⟨g,0,none⟩ [.map (some b1),vo,.map (some b2)]:=Row.of_at ag13
     repeat (first|refine go1 ?_|refine zg λ_ _=>?_|refine zi λ_ _=>?_)
     have hv1:v13.oneCell'=true:=by obtain ⟨_,_,e⟩:=o13.sl.form;rw [e];rfl
     refine cN (b:=g) (o:=1) (v:=v13) rfl rfl hv1 ag13 (by simp) (fun w14 c14 ag14=>?_)
     have ag14:At w14 g (.cells [.map (some b1),v13,.map (some b2)].toArray T.graph_Graph (0,0)):=ag14
     have rg14:Row w14 ⟨g,0,none⟩ [.map (some b1),v13,.map (some b2)]:=Row.of_at ag14
     have a714:=a713.chg c14 (by simp;omega)
     have ap14:=ap13.chg c14 (by simp;omega)
     have r714:Row w14 ⟨b7,0,none⟩ (bN x iv5 ov5):=Row.of_at a714
     have rp14:Row w14 ⟨bp,0,none⟩ (aK t iv ov):=Row.of_at ap14
     have hv3:∀b,b<w.heap.size→b∉aP vo→b∉aP v13:=fun b hb hn h=>by
      rcases hb1 b h with h1|h1
      ·exact hn h1
      ·omega
     have o14:=o13.chg c14 (fun b hb h=>by simp at h;subst h;exact hv3 _ lg n3 hb)
     have p14:=p13.chg c14 (by simp;omega)
     have hM':∀b∈dQ g b1 b2 v13,b∈dQ g b1 b2 vo∨w11.heap.size≤b:=fun b hb=>by
      simp only [List.mem_cons] at hb ⊢
      rcases hb with rfl|rfl|rfl|hb
      ·exact .inl (.inl rfl)
      ·exact .inl (.inr (.inl rfl))
      ·exact .inl (.inr (.inr (.inl rfl)))
      ·exact (hb1 b hb).imp (fun h=>.inr (.inr (.inr h))) id
     have m13:nG sK bF (dQ g b1 b2 v13) w13 b1 (fN m x.id x):=m11.step c1 n5 (fun b hb=>.inl (by simp [hb])) hM'
     have m14:=m13.step (M':=dQ g b1 b2 v13) c14 (by simp;omega) (fun b hb=>by simp at hb;subst hb;exact .inl (by simp)) (fun _ h=>.inl h)
     have C14:Chg (dQ g b1 b2 vo) w w14:=((C11.trans c1).trans c14).mono (fun b hb=>by simp at hb ⊢;grind)
     have s14:=c14.size
     have hi14:SlR inR N w14 iv t.ins:=h1.step C14 (fun b hb=>.inl (hMN b hb)) (fun _ h=>.inl h)
     clear ag13 rg13 a713 ap13 o13 p13 m13 c14 c1 m11 ag11 a711 ap11 p11 o11 rg11 r711 C11
     clear ap14
     repeat' (first|refine go1 ?_|refine zg λ_ _=>?_|refine zi λ_ _=>?_|refine zL rfl (fun h=>?_) (fun h=>?_)|refine zG (E:=inR) (M:=N) (l:=t.ins) rfl (SlR.ext hi14 (by exact fx)) ?_|(refine aQ (fun (i:Nat) w'=>Chg [b2] w14 w'∧i≤t.ins.length∧dW ptK Value.string w' b2 (mL sp (t.ins.take i) x.id)) (fun i=> [(0,.pointer (some ⟨g,0,none⟩)),(7,.pointer (some ⟨b7,0,none⟩)),(77,iv),(78,.int .i64 (t.ins.length:Nat)),(79,.int .i64 i)]) (fun i=>t.ins.length - i) 0 ⟨rfl,rfl,rfl,rfl,rfl,trivial⟩ ⟨(show Ext w14 _ by exact fx).mono (by simp),by simp,dW.ext (by exact fx) p14⟩ ?_;rintro i ρ w3 ⟨x3,hi,hmp⟩))
     ·have hi3:SlR inR N w3 iv t.ins:=hi14.step x3 (fun b hb=>.inl (hMN b (by simp at hb;simp [hb]))) (fun _ h=>.inl h)
      have rg3:Row w3 ⟨g,0,none⟩ [.map (some b1),v13,.map (some b2)]:=Row.of_at (ag14.chg x3 (by simp;omega))
      have r73:Row w3 ⟨b7,0,none⟩ (bN x iv5 ov5):=Row.of_at (a714.chg x3 (by simp;omega))
      clear r714 rp14 rg14
      repeat' (first|refine go1 ?_|refine zg λ_ _=>?_|refine zi λ_ _=>?_|(refine aL (d:=some 81) (E:=inR) (M:=N) rfl rfl (n:=i) (l:=t.ins) (SlR.ext hi3 (by exact fx)) rfl (by omega) (fun ad cs r4 he=>?_);obtain ⟨wv,rfl,hw,hp5,hp6⟩:=he;obtain ⟨bs1,cp1,rfl⟩:=hw.form;have hil:i<t.ins.length:=(by omega))|refine zE (d':=16) (fun _=>rfl) rfl rfl rfl (fun b8 w8 x8 a8 (r8:Row w8 ⟨b8,0,none⟩ (gO t.ins[i] (.slice bs1 t.ins[i].wit.length cp1))) hb8=>?_)|(refine fA (E:=ptK) (fv:=Value.string) (k:=t.ins[i].p) (v:=x.id) rfl rfl rfl (dW.ext (w:=w3) (by exact fx) hmp) rfl rfl (fun w5 c5 m5=>?_);have x35:Chg [b2] w3 w5:=Ext.chg (by exact fx) c5))
      exact ⟨i+1,⟨rfl,rfl,rfl,rfl,rfl,trivial⟩,⟨(x3.trans x35).mono (by simp),by omega,by rw [aMw hil];exact m5⟩,by omega⟩
     ·have ei:i=t.ins.length:=by omega
      subst ei
      rw [tLe (Nat.le_refl _)] at hmp
      have hany:¬l.any (fun x=>decide (x.id=idT t))=true:=by
       rw [hP.inv.ent] at hno
       rw [List.any_eq_true]
       rintro ⟨y,h1,h2⟩
       exact (List.find?_eq_none.1 hno y h1) (by rw [hid];exact h2)
      have hnone:∀i∈t.ins,∀y∈l,spends y i.p=false:=fun i hi y hy=>by
       obtain ⟨j,hj,rfl⟩:=List.getElem_of_mem hi
       have h5:=hfree j hj
       rw [hP.inv.spt,Option.map_eq_none_iff] at h5
       have h6:=List.find?_eq_none.1 h5 y hy
       simpa using h6
      have hany2:¬t.ins.any (fun i=>l.any fun x=>spends x i.p)=true:=by
       rw [List.any_eq_true]
       rintro ⟨i,hi,h⟩
       obtain ⟨y,hy,h⟩:=List.any_eq_true.1 h
       rw [hnone i hi y hy] at h;cases h
      rw [vZ he0 (fun _ _ _=>trivial),if_neg hany,if_neg hany2,hxe]
      have hno':∀y∈l,y.id≠x.id:=fun y hy e=>hany (List.any_eq_true.2 ⟨y,hy,dTr (by rw [e,hid])⟩)
      have hinv:GI (fN m x.id x) (mL sp x.tx.ins x.id) (l++ [x]):=GI.add hP.inv hok hno' (fun y hy p hp=>by
       unfold spends at hp
       obtain ⟨i,hi,h⟩:=List.any_eq_true.1 hp
       rw [htx] at hi
       rw [←of_decide_eq_true h]
       exact hnone i hi y hy)
      rw [htx] at hinv
      have nb2:b2∉aP v13:=hv3 _ l2 n6
      have nb1:b1∉aP v13:=hv3 _ l1 n5
      have nbg:g∉aP v13:=hv3 _ lg n3
      have n13:(aP v13).Nodup:=vL v13
      have hC:Chg (dQ g b1 b2 vo) w w3:=(C14.trans x3).mono (fun b hb=>by simp at hb ⊢;grind)
      have e13:(l++ [x]).map (·.id)=l.map (·.id)++ [x.id]:=by simp
      refine aC rfl ⟨_,rfl,⟨b1,v13,b2,fN m x.id x,mL sp t.ins x.id,⟨ag14.chg x3 (by simp;omega),m14.step x3 (by simp;omega) (fun b hb=>.inl (by simp at hb;simp [hb])) (fun _ h=>.inl h),hmp,?_,hinv,?_,hP.lo⟩,rfl⟩,hC,fun b hb=>(hM' b hb).imp id (nTr sB11),fun h=>absurd rfl h⟩
      ·rw [e13];exact o14.chg x3 (fun b hb h=>by simp at h;subst h;exact nb2 hb)
      ·simp only [List.nodup_cons,List.mem_cons,not_or]
       exact ⟨⟨n1,n2,nbg⟩,⟨n4,nb1⟩,nb2,n13⟩
 ·refine jQ rfl ?_
  unfold gT
  refine oy ?_
  repeat' (first|refine go1 ?_|refine zg λ_ _=>?_|refine zi λ_ _=>?_|refine zL rfl (fun h=>?_) (fun h=>absurd h (by simpa using he0))|refine zN rfl (fun h=>?_) (fun h=>absurd h he0)|refine zD rfl rfl (fun bp wp xp ap (rp:Row wp ⟨bp,0,none⟩ (aK t iv ov)) hp0=>?_)|(refine zC rfl (aAq (M:=N) (cs:=aK t iv ov) (t:=t) fee _ (by exact fx) hs hf (fun b hb=>nLt (hN b hb) (Ext.size (by exact fx)))) ?_;rintro _ w5 ⟨ds,rfl,d1,d2, -,x5⟩)|refine zE (d':=7) (fun _=>rfl) d1 rfl d2 (fun b7 w7 x7 a7 r7 hb7=>?_))
  have xx:Ext w w7:=by exact fx
  rw [aXh he0]
  exact aC rfl ⟨_,rfl,hG0.ext xx,xx.mono (by simp),fun b hb=>.inl hb,fun _=>xx⟩
theorem bFw {B g:Nat} {M N:List Nat} {l:List Ent} {cs:List Value} {t:Tx} (fee:Int) (w:World) (hG:Gr w B g M l) (ht:txR.rel N w cs t) (hs:t.Sm) (hf:lJ fee) (hN:∀b∈N,b<w.heap.size) (hMN:∀b∈M,b∈N) (hn:l.length≤1000):K.Spec Tryz.prog F.graph_Graph_Add [.pointer (some ⟨g,0,none⟩),.agg cs.toArray,.int .i64 fee] w fun r w'=>
  ∃M',r=.int .i64 (cO l t fee).2∧Gr w' B g M' (cO l t fee).1∧Chg M w w'∧∀b∈M',b∈M∨w.heap.size≤b:=
 jH (bJw fee w hG ht hs hf hN hMN hn) fun _ _ ⟨M',h1,h2,h3,h4,_⟩=>⟨M',h1,h2,h3,h4⟩
end
section
open Go Go.K
attribute [local irreducible] aO aU bQ KOp.wp K.Spec u32 leS vnS str aV cU cD idT aR aG aX idN bD cF bT bH
theorem aV2:cM Tryz.prog F.graph_Graph_Drop_1=true:=by kernel_rfl
theorem aQj {b3:Nat} {t:TypeId} {id:ByteArray} (s:ByteArray) (w:World) (h3:At w b3 (.cells [.string id].toArray t (0,0))):K.Spec Tryz.prog F.graph_Graph_Drop_1 [.string s,.pointer (some ⟨b3,0,none⟩)] w fun r w'=>r=.bool (decide (s=id))∧w'=w:=by
 have r3:Row w ⟨b3,0,none⟩ [.string id]:=Row.of_at h3
 refine aCz rfl ?_
 unfold qL
 refine oy ?_
 repeat' (first|refine go1 ?_|refine zg λ_ _=>?_|refine zi λ_ _=>?_)
 exact aC rfl ⟨rfl,rfl⟩
set_option maxHeartbeats 2000000 in
theorem bFc {B g:Nat} {M:List Nat} {l:List Ent} (id:ByteArray) (w:World) (hG:Gr w B g M l) (hn:l.length≤1000):K.Spec Tryz.prog F.graph_Graph_Drop [.pointer (some ⟨g,0,none⟩),.string id] w fun r w'=>
  ∃M',r=.int .i64 (cA l id).2∧Gr w' B g M' (cA l id).1∧Chg M w w'∧(∀b∈M',b∈M∨w.heap.size≤b)∧((cA l id).2≠0→Ext w w'):=by
 have hG0:=hG
 obtain ⟨b1,vo,b2,m,sp,hP,rfl⟩:=hG
 have rg:Row w ⟨g,0,none⟩ [.map (some b1),vo,.map (some b2)]:=Row.of_at hP.at_
 have hq1:=hP.ents
 have hl1:=Gr.lt hG0
 refine tQ rfl ?_
 unfold mQ
 refine oy ?_
 repeat' (first|refine go1 ?_|refine zg λ_ _=>?_|refine zi λ_ _=>?_|refine zM rfl (fun h=>?_) (fun h=>?_)|refine zD rfl rfl (fun b3 wp xp a3 (r3:Row wp ⟨b3,0,none⟩ [.string id]) hp0=>?_)|refine sP (d:=some 17) (KE:=sK) (F:=bF) (M:=dQ g b1 b2 vo) (k:=id) rfl rfl (by exact fx) rfl rfl (fun y cs hy hr=>?_) (fun hno=>?_)|(refine zH (d:=some 5) (fun b9 w9 x9 a9 hb9=>?_);have s9:w.heap.size≤b9:=nTr (Ext.size (w:=w) (by exact fx)) hb9;have s39:wp.heap.size≤b9:=nTr (Ext.size (w:=wp) (by exact fx)) hb9)|(obtain ⟨iv,ov,rfl,q1,q2,q3⟩:=hr;have i1:=q1.one;have i2:=q2.one;refine bP (w0:=w) (vs:=bN y iv ov) (by exact fx) s9 (by focus (repeat (first|assumption|(apply At.ext;assumption)))) rfl rfl rfl rfl (by simp [bN,i1,i2];exact ⟨rfl,rfl,rfl,rfl,rfl⟩) (fun w10 x10 c10 a10 r10=>?_);have l3:=a3.lt;have a30:At w10 b3 (.cells [.string id].toArray T.string (0,0)):=At.chg c10 (At.ext (show Ext wp w9 by exact fx) a3) (by simp;omega);have r30:Row w10 ⟨b3,0,none⟩ [.string id]:=Row.of_at a30;have q10:SlR inR (dQ g b1 b2 vo) w10 iv y.tx.ins:=(q1.step (M':=b9::dQ g b1 b2 vo) x9 (by simp) (fun b hb=>by rcases List.mem_cons.1 hb with h|h;(subst h;exact .inr hb9);exact .inl h)).step c10 (by intro q hq;simp at hq;subst hq;exact .inl (by simp)) (fun _ h=>.inl (by simp [h]));clear c10 q1 q2 a9 x9 hb9 s39 xp a3 r3)|refine bP (w0:=w) (vs:=aBu) (by exact fx) s9 (by focus (repeat (first|assumption|(apply At.ext;assumption)))) rfl rfl rfl rfl rfl (fun w10 x10 c10 a10 r10=>?_))
 ·clear ‹Ext wp _›
  rename_i wB xB
  have xwB:Ext w wB:=x10.trans xB
  have a3B:=a30.ext xB
  have a9B:=a10.ext xB
  have agB:=hP.at_.ext xwB
  have mB:=hq1.ext xwB
  have pB:=hP.pts.ext xwB
  have oB:=hP.ord.ext xwB
  have qB:=q10.ext xB
  have sB:=xwB.size
  have nd:=hP.nd
  simp only [List.nodup_cons,List.mem_cons,not_or] at nd
  obtain ⟨⟨n1,n2,n3⟩,⟨n4,n5⟩,n6,n7⟩:=nd
  have l1:b1<w.heap.size:=hl1 _ (by simp)
  have l2:b2<w.heap.size:=hl1 _ (by simp)
  have lg:g<w.heap.size:=hl1 _ (by simp)
  have lo:∀b∈aP vo,b<w.heap.size:=fun b hb=>hl1 b (by simp [hb])
  have hym:y∈l∧y.id=id:=by
   rw [hP.inv.ent] at hy
   exact ⟨List.mem_of_find?_eq_some hy,by have:=List.find?_some hy;exact of_decide_eq_true this⟩
  have hins:=(fE (hG0.ok y hym.1).check).ins
  clear xB x10 a30 a10 r10 r30 q10 rg
  refine aOk (KE:=sK) (F:=bF) (M:=dQ g b1 b2 vo) (k:=id) rfl rfl mB (by simp) rfl rfl (fun w11 c11 m11=>?_)
  have ag11:=agB.chg c11 (by simp;omega)
  have a311:=a3B.chg c11 (by simp;omega)
  have a911:=a9B.chg c11 (by simp;omega)
  have p11:=pB.chg c11 (by simp;omega)
  have o11:=oB.chg c11 (fun b hb h=>by simp at h;subst h;exact n5 hb)
  have q11:=qB.step (M':=dQ g b1 b2 vo) c11 (fun b hb=>by simp at hb;subst hb;exact .inl (by simp)) (fun _ h=>.inl h)
  have r911:Row w11 ⟨b9,0,none⟩ (bN y iv ov):=Row.of_at a911
  have C11:Chg (dQ g b1 b2 vo) w w11:=(xwB.chg c11).mono (fun b hb=>by simp at hb;subst hb;exact .inl (by simp))
  have sB11:w.heap.size≤w11.heap.size:=nTr sB c11.size
  clear agB a3B a9B pB oB mB qB c11 xwB
  repeat' (first|refine go1 ?_|refine zg λ_ _=>?_|refine zi λ_ _=>?_|refine zL rfl (fun h=>?_) (fun h=>?_)|refine zG (E:=inR) (M:=dQ g b1 b2 vo) (l:=y.tx.ins) rfl (SlR.ext q11 (by exact fx)) ?_|(refine aQ (fun (i:Nat) w'=>Chg [b2] w11 w'∧i≤y.tx.ins.length∧dW ptK Value.string w' b2 (wS sp (y.tx.ins.take i))) (fun i=> [(0,.pointer (some ⟨g,0,none⟩)),(3,.pointer (some ⟨b3,0,none⟩)),(29,iv),(30,.int .i64 (y.tx.ins.length:Nat)),(31,.int .i64 i)]) (fun i=>y.tx.ins.length - i) 0 ⟨rfl,rfl,rfl,rfl,rfl,trivial⟩ ⟨(show Ext w11 _ by exact fx).mono (by simp),by simp,dW.ext (by exact fx) p11⟩ ?_;rintro i ρ w3 ⟨x3,hi,hmp⟩))
  ·have hi3:SlR inR (dQ g b1 b2 vo) w3 iv y.tx.ins:=q11.step x3 (fun b hb=>.inl (by simp at hb;simp [hb])) (fun _ h=>.inl h)
   have rg3:Row w3 ⟨g,0,none⟩ [.map (some b1),vo,.map (some b2)]:=Row.of_at (ag11.chg x3 (by simp;omega))
   clear r911
   repeat' (first|refine go1 ?_|refine zg λ_ _=>?_|refine zi λ_ _=>?_|(refine aL (d:=some 33) (E:=inR) (M:=dQ g b1 b2 vo) rfl rfl (n:=i) (l:=y.tx.ins) (SlR.ext hi3 (by exact fx)) rfl (by omega) (fun ad cs r4 he=>?_);obtain ⟨wv,rfl,hw,hp5,hp6⟩:=he;obtain ⟨bs1,cp1,rfl⟩:=hw.form;have hil:i<y.tx.ins.length:=(by omega))|refine zE (d':=8) (fun _=>rfl) rfl rfl rfl (fun b8 w8 x8 a8 (r8:Row w8 ⟨b8,0,none⟩ (gO y.tx.ins[i] (.slice bs1 y.tx.ins[i].wit.length cp1))) hb8=>?_)|(refine aLk (E:=ptK) (fv:=Value.string) (k:=y.tx.ins[i].p) rfl rfl (dW.ext (w:=w3) (by exact fx) hmp) rfl rfl (fun w5 c5 m5=>?_);have x35:Chg [b2] w3 w5:=Ext.chg (by exact fx) c5))
   exact ⟨i+1,⟨rfl,rfl,rfl,rfl,rfl,trivial⟩,⟨(x3.trans x35).mono (by simp),by omega,by rw [aLt hil];exact m5⟩,by omega⟩
  ·have ei:i=y.tx.ins.length:=by omega
   subst ei
   rw [tLe (Nat.le_refl _)] at hmp
   have ag3:=ag11.chg x3 (by simp;omega)
   have rg3:Row w3 ⟨g,0,none⟩ [.map (some b1),vo,.map (some b2)]:=Row.of_at ag3
   have a33:=a311.chg x3 (by simp;omega)
   have o3:=o11.chg x3 (fun b hb h=>by simp at h;subst h;exact n6 hb)
   have m3:=m11.step (M':=dQ g b1 b2 vo) x3 (by simp;omega) (fun b hb=>.inl (by simp at hb;simp [hb])) (fun _ h=>.inl h)
   have C3:Chg (dQ g b1 b2 vo) w w3:=(C11.trans x3).mono (fun b hb=>by simp at hb ⊢;grind)
   have s3:=x3.size
   clear q11 r911 ag11 a311 a911 p11 o11 m11 C11
   repeat' (first|refine go1 ?_|refine zg λ_ _=>?_|refine zi λ_ _=>?_|(refine zC rfl (aNt (g:=F.graph_Graph_Drop_1) (capl:= [.pointer (some ⟨b3,0,none⟩)]) (l:=l.map (fun x:Ent=>x.id)) (B:=B) _ (fun s=>decide (s=id)) aV2 (Own.ext (w:=w3) (by exact fx) o3) (by simp;omega) (fun W s hW=>aQj s W (At.chg hW (At.ext (w:=w3) (by exact fx) a33) (fun h=>by have:=lo _ h;omega)))) ?_;rintro v6 w6 ⟨o6,c6,hb6⟩;have c36:Chg (aP vo) w3 w6:=Ext.chg (by exact fx) c6;have hv1:v6.oneCell'=true:=(by obtain ⟨_,_,e⟩:=o6.sl.form;rw [e];rfl)))
   refine cN (b:=g) (o:=1) (v:=v6) rfl rfl hv1 (ag3.chg c36 n3) (by simp) (fun w14 c14 ag14=>?_)
   have ag14:At w14 g (.cells [.map (some b1),v6,.map (some b2)].toArray T.graph_Graph (0,0)):=ag14
   repeat (first|refine go1 ?_|refine zg λ_ _=>?_|refine zi λ_ _=>?_)
   have nb2:b2∉aP v6:=fun h=>n6 (hb6 _ h)
   have nb1:b1∉aP v6:=fun h=>n5 (hb6 _ h)
   have nbg:g∉aP v6:=fun h=>n3 (hb6 _ h)
   have hM':∀b∈dQ g b1 b2 v6,b∈dQ g b1 b2 vo:=fun b hb=>by
    simp only [List.mem_cons] at hb ⊢
    rcases hb with rfl|rfl|rfl|hb
    ·exact .inl rfl
    ·exact .inr (.inl rfl)
    ·exact .inr (.inr (.inl rfl))
    ·exact .inr (.inr (.inr (hb6 b hb)))
   have m6:=m3.step (M':=dQ g b1 b2 v6) c36 n5 (fun b hb=>.inl (by simp [hb])) (fun b hb=>.inl (hM' b hb))
   have m14:=m6.step (M':=dQ g b1 b2 v6) c14 (by simp;omega) (fun b hb=>by simp at hb;subst hb;exact .inl (by simp)) (fun _ h=>.inl h)
   have p14:=(hmp.chg c36 n6).chg c14 (by simp;omega)
   have hC:Chg (dQ g b1 b2 vo) w w14:=((C3.trans c36).trans c14).mono (fun b hb=>by simp at hb ⊢;grind)
   obtain ⟨hym,rfl⟩:=hym
   obtain ⟨n,hnl,rfl⟩:=List.getElem_of_mem hym
   have hfi:bH l l[n].id=n:=by
    unfold bH
    exact idxOf_hit hnl (dTr rfl) (fun j hj=>dFa fun e=>by
     have:=kJ hG0.nodup (show j<l.length by omega) hnl (by rw [bJ (by omega),bJ hnl];exact e)
     omega)
   have ed:cA l l[n].id=(l.filter fun z=>!decide (z.id=l[n].id),0):=by
    rw [cA,if_neg (by rw [hfi];omega),hfi,Int.toNat_natCast,aJn hG0.nodup hnl rfl]
   rw [ed]
   have e6:(l.map (·.id)).filter (fun s=>!decide (s=l[n].id))=(l.filter fun z=>!decide (z.id=l[n].id)).map (·.id):=by
    rw [List.filter_map];rfl
   rw [e6] at o6
   refine aC rfl ⟨_,rfl,⟨b1,v6,b2,_,_,⟨ag14,m14,p14,?_,hP.inv.del hym,?_,hP.lo⟩,rfl⟩,hC,fun b hb=>.inl (hM' b hb),fun h=>absurd rfl h⟩
   ·exact o6.chg c14 (fun b hb h=>by simp at h;subst h;exact nbg hb)
   ·simp only [List.nodup_cons,List.mem_cons,not_or]
    exact ⟨⟨n1,n2,nbg⟩,⟨n4,nb1⟩,nb2,vL v6⟩
 ·have hf:bH l id<0:=by
   rw [hP.inv.ent] at hno
   rcases Int.lt_or_le (bH l id) 0 with h1|h1
   ·exact h1
   ·have h2:=jI (p:=fun x:Ent=>decide (x.id=id)) (l:=l)
    have h3:l.any (fun x=>decide (x.id=id))=true:=by rw [←h2];unfold bH at h1;exact dTr h1
    obtain ⟨z,hz,h4⟩:=List.any_eq_true.1 h3
    exact absurd h4 (List.find?_eq_none.1 hno z hz)
  rw [cA,if_pos hf]
  exact aC rfl ⟨_,rfl,hG0.ext x10,x10.mono (by simp),fun b hb=>.inl hb,fun _=>x10⟩
theorem aZx {B g:Nat} {M:List Nat} {l:List Ent} (id:ByteArray) (w:World) (hG:Gr w B g M l) (hn:l.length≤1000):K.Spec Tryz.prog F.graph_Graph_Drop [.pointer (some ⟨g,0,none⟩),.string id] w fun r w'=>
  ∃M',r=.int .i64 (cA l id).2∧Gr w' B g M' (cA l id).1∧Chg M w w'∧∀b∈M',b∈M∨w.heap.size≤b:=
 jH (bFc id w hG hn) fun _ _ ⟨M',h1,h2,h3,h4,_⟩=>⟨M',h1,h2,h3,h4⟩
end
end Go.Proofs.YtfebcajheojodaaGreatDoor
