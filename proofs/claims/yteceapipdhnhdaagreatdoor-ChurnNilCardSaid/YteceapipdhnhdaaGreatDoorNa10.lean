/- The engine, part 15: a builder of text. The engine, part 13: -/
import Derived.Lib.OthersKept
import Derived.RowKit
import Derived.OpenShut
import Derived.Deep.Slices
import Derived.ChangeSame
import Derived.Shelf.SlSortCmp.WholeK
import Derived.Test.YteceapipdhnhdaaGreatDoorNa5
set_option linter.unusedVariables false
set_option linter.unusedSimpArgs false
namespace Go.K
section
open Go
theorem Ext.of_below {w w':World} (h:RowKit.Below w.heap.size w w'):Ext w w':=⟨h.os,h.tape,h.output,h.size,fun b hb _=>h.block b hb⟩
structure Wr (e:TypeId) (B b:Nat) (w w':World):Prop where
 low:RowKit.Below B w w'
 oth:Lib.OthersKept e (some b) w w'
theorem Wr.refl (e:TypeId) (B b:Nat) (w:World):Wr e B b w w:=⟨RowKit.Below.refl _ _,Lib.OthersKept.refl _ _ _⟩
theorem Wr.trans {e:TypeId} {B b:Nat} {w w1 w2:World} (h:Wr e B b w w1) (h':Wr e B b w1 w2):Wr e B b w w2:=⟨h.low.trans h'.low,h.oth.trans h'.oth⟩
theorem Wr.of_ext {e:TypeId} {B b:Nat} {w w':World} (h:Ext w w') (hB:B≤w.heap.size):Wr e B b w w':=
 ⟨⟨Chg.os h,Chg.tape h,Chg.output h,Chg.size h,fun k hk=>Chg.block h k (by omega) (by simp)⟩,fun k o hk _ _=>by
  have hlt:k<w.heap.size:=(Array.getElem?_eq_some_iff.1 hk).1
  exact (Chg.block h k hlt (by simp)).trans hk⟩
theorem Wr.size {e:TypeId} {B b:Nat} {w w':World} (h:Wr e B b w w'):w.heap.size≤w'.heap.size:=h.low.size
theorem Wr.ext {e:TypeId} {B b:Nat} {w0 w w':World} (h:Wr e B b w w') (x:Ext w0 w) (hB:w0.heap.size≤B):Ext w0 w':=
 ⟨h.low.os.trans (Chg.os x),h.low.tape.trans (Chg.tape x),h.low.output.trans (Chg.output x),nTr (Chg.size x) h.low.size,fun k hk hn=>(h.low.block k (by omega)).trans (Chg.block x k hk hn)⟩
theorem At.wr {e t:TypeId} {B b k:Nat} {w w':World} {cs:Array Value} {f:Nat × Nat} (h:Wr e B b w w') (ha:At w k (.cells cs t f)) (hk:k≠b) (ht:t≠e):At w' k (.cells cs t f):=
 h.oth k _ ha (by simp [*]) (by simp [*])
def Bld (T e:TypeId) (B b:Nat) (s:ByteArray) (w:World):Prop:=B≤w.heap.size∧Lib.IsBuilderF T e B b (Lib.byteCells s.data.toList) w
theorem Bld.new {T e:TypeId} {B b:Nat} {w:World} (hB:B≤b) (h:At w b (.cells [Value.pointer none,Value.slice none 0 0].toArray T (0,0))):Bld T e B b ⟨#[]⟩ w:=by
 refine ⟨by have:=h.lt;omega,.inl ⟨hB,_,h,World.ownsRowF_nil w B e 1,by simp [Value.ownBlock]⟩⟩
theorem Bld.ext {T e:TypeId} {B b:Nat} {s:ByteArray} {w w':World} (h:Bld T e B b s w) (x:Ext w w'):Bld T e B b s w':=by
 have key:∀p,Lib.BuilderAtF T e B b p (Lib.byteCells s.data.toList) w→Lib.BuilderAtF T e B b p (Lib.byteCells s.data.toList) w':=by
  rintro p ⟨hB,v,hb,ho,hn⟩
  refine ⟨hB,v,At.ext x hb,?_,hn⟩
  obtain ⟨h1,h2⟩:=ho
  refine ⟨h1,?_⟩
  rcases h2 with h2|⟨g,cap,cur,fz,hv,hg,hh,r⟩
  ·simp_all
  ·exact .inr ⟨g,cap,cur,fz,hv,hg,At.ext x hh,r⟩
 refine ⟨nTr h.1 x.size,?_⟩
 rcases h.2 with h|h
 ·exact .inl (key _ h)
 ·exact .inr (key _ h)
theorem Bld.lt {T e:TypeId} {B b:Nat} {s:ByteArray} {w:World} (h:Bld T e B b s w):b<w.heap.size:=by
 rcases h.2 with ⟨_,v,hb,_⟩|⟨_,v,hb,_⟩
 ·grind
 grind
theorem Bld.x {T e:TypeId} {B b:Nat} {s:ByteArray} {w w':World} (c:Ext w w') (h:Bld T e B b s w):Bld T e B b s w':=h.ext c
theorem byteCells_append (a b:ByteArray):Lib.byteCells a.data.toList++Lib.strCells b=Lib.byteCells (a++b).data.toList:=by
 simp [Lib.byteCells,Lib.strCells,ByteArray.data_append]
section
variable {κ β:Type} [DecidableEq κ] {E:KEnc κ} {fv:β→Value} {P:Program} {d:Option Tmp} {r:KR} {K:Env→World→Prop} {ρ:Env} {w:World}
theorem aZl {b i clock:Nat} {es:Array MapEntry} {l:List (κ × β)} {k:κ} {v0:β} (h:At w b (.map es clock)) (hwf:Wf es clock) (hi:i<es.size) (hv:es[i].val=fv v0)
  (hall:∀v:β,(es.modify i fun e=>{e with val:=fv v}).toList.map (fun e=>(e.key,e.val))=(fV l k v).map (fun p=>(E.f p.1,fv p.2))) (hn:(l.map (·.1)).Nodup):dB E fv w b (fV l k v0):=by
 refine ⟨es,clock,h,hwf,?_,aEd hn⟩
 rw [←hall v0]
 congr 2
 apply Array.ext
 ·simp
 ·intro j h1 h2
  rw [Array.getElem_modify]
  split
  ·rename_i e;subst e
   generalize es[i]=q at hv
   cases q;simp_all
  ·rfl
theorem aVg {s:Bool} {ks:List CK} {z:Value} {m x:Operand} {b:Nat} {l:List (κ × β)} {k:κ} (z0:β) (hz:z=fv z0) (hm:ev ρ m=.map (some b)) (hx:ev ρ x=E.f k) (hM:dB E fv w b l) (hs:s=E.s) (hks:ks=E.ks)
  (kk:∀(st:Nat) w',Chg [b] w w'→qH E fv w' b l k st→dB E fv w' b (fV l k ((aS l k).getD z0))→aH P r K (put ρ d (.tuple #[fv ((aS l k).getD z0),.int .i64 (st:Int)])) w'):aH P (.cons ⟨d,.mapEntry s ks z m x,none⟩ r) K ρ w:=by
 subst hs hks hz
 obtain ⟨es,clock,hat,hwf,heq,hn⟩:=hM
 have hf:=sI (E:=E) (fv:=fv) k es.toList l 0 heq
 have hlen:es.size=l.length:=by have:=congrArg List.length heq;simpa using this
 refine fX ⟨b,es,clock,_,hm,hat,by rw [hx];exact E.ok k,by rw [hx];exact hf,?_⟩
 cases h:(l.findIdx? fun p=>decide (p.1=k)) with
 |none=>
  have hg:aS l k=none:=by rw [tQ,h];rfl
  rw [hg] at kk
  simp only [Option.bind_none]
  rw [hx]
  have P1:=hat.setObj (o':=.map (es.push {key:=E.f k,val:=fv z0,born:=clock}) (clock+1))
  have P2:=aV9 hwf (E.f k) (fv z0)
  have P3:∀v:β,((es.push {key:=E.f k,val:=fv z0,born:=clock}).modify es.size fun e=>{e with val:=fv v}).toList.map (fun e=>(e.key,e.val))=(fV l k v).map (fun p=>(E.f p.1,fv p.2)):=by
   intro v
   rw [qW h,List.map_append,←heq]
   apply List.ext_getElem
   ·simp
   ·grind
  exact kk clock _ (Chg.setObj _ _ _) ⟨_,_,es.size,P1,P2,⟨by simp,by simp⟩,P3,hn⟩ (aZl P1 P2 (by simp) (by simp) P3 hn)
 |some j=>
  obtain ⟨hj,hk,_⟩:=List.findIdx?_eq_some_iff_getElem.1 h
  have hjs:j<es.size:=by omega
  have hg:aS l k=some l[j].2:=by rw [tQ,h];simp [List.getElem?_eq_getElem hj]
  rw [hg] at kk
  simp only [Option.bind_some,List.getElem?_eq_getElem hj,Option.map_some,Nat.zero_add]
  rw [hx]
  have e1:(((es[j]?).map (·.born)).getD 0)=es[j].born:=by simp [Array.getElem?_eq_getElem hjs]
  rw [e1]
  have P1:=hat.setObj (o':=.map (es.modify j fun e=>{e with key:=E.f k}) clock)
  have P2:=aD4 hwf j (fun e=>{e with key:=E.f k}) (fun _=>rfl)
  have h6:(es.toList.map (fun e=>(e.key,e.val)))[j]'(by simp [*])=(l.map (fun p=>(E.f p.1,fv p.2)))[j]'(by simp [*]):=by simp only [heq]
  simp only [List.getElem_map,Array.getElem_toList,Prod.mk.injEq] at h6
  have P3:∀v:β,((es.modify j fun e=>{e with key:=E.f k}).modify j fun e=>{e with val:=fv v}).toList.map (fun e=>(e.key,e.val))=(fV l k v).map (fun p=>(E.f p.1,fv p.2)):=by
   intro v
   rw [sC h]
   apply List.ext_getElem
   ·simpa using hlen
   ·intro i h1 h2
    have h3:i<es.toList.length:=by simpa using h1
    have h4:i<l.length:=by simpa using h2
    have h5:(es.toList.map (fun e=>(e.key,e.val)))[i]'(by simpa using h3)=(l.map (fun p=>(E.f p.1,fv p.2)))[i]'(by simpa using h4):=by simp only [heq]
    simp only [List.getElem_map] at h5
    simp only [List.getElem_map,Array.getElem_toList,Array.getElem_modify,List.getElem_set] at h5 ⊢
    split
    ·rfl
    omega
  exact kk es[j].born _ (Chg.setObj _ _ _) ⟨_,_,j,P1,P2,⟨by simpa using hjs,by rw [Array.getElem_modify,if_pos rfl]⟩,P3,hn⟩ (aZl P1 P2 (by simpa using hjs) (by rw [Array.getElem_modify,if_pos rfl];exact h6.2) P3 hn)
theorem aC9 (l:List (κ × β)) (k:κ) (v:β) (k':κ):aS (fV l k v) k'=if k=k' then some v else aS l k':=by
 induction l with
 |nil=>grind [fV,aS]
 |cons p l ih=>
  unfold fV
  by_cases h:p.1=k
  ·rw [if_pos h]
   have e:∀q:κ × β,aS (q::l) k'=if q.1=k' then some q.2 else aS l k':=by intro q;unfold aS;rw [List.find?_cons];by_cases h:q.1=k'<;>simp [h]
   simp_all
  ·rw [if_neg h]
   have e:∀(q:κ × β) (m:List (κ × β)),aS (q::m) k'=if q.1=k' then some q.2 else aS m k':=by intro q m;unfold aS;rw [List.find?_cons];by_cases h:q.1=k'<;>simp [h]
   grind
end
end
section
open Go
def Reads (P:Program) (W:World) (t:TypeId) (cs:List Value):Prop:=
 ∃(H:Type) (enc:TypeId × Value→H) (base:Nat) (spare:Nat→Bool) (held:Bool) (fuel:Nat) (x:DataW H × List MemPlace),DataW.trod enc P W base spare held fuel t cs=some x
variable {P:Program} {W:World} {t:TypeId} {cs:List Value}
theorem aTs {k:IntKind} (hu:P.underlying t=some (.int k)) (h:Reads P W t cs):∃n,cs= [.int k n]∧k.min≤n∧n≤k.max:=by
 obtain ⟨H,enc,base,spare,held,fuel,x,h⟩:=h
 grind [DataW.trod_int,Lit.wf]
theorem zS (hu:P.underlying t=some .string) (h:Reads P W t cs):∃s,cs= [.string s]∧s.size≤maxLen:=by
 obtain ⟨H,enc,base,spare,held,fuel,x,h⟩:=h
 grind [DataW.trod_string]
theorem sE {fs:Array Field} (hu:P.underlying t=some (.struct fs)) (h:Reads P W t cs):cs.length=P.cellsOf t∧∀f∈fs.toList,Reads P W f.type ((cs.drop f.offset).take (P.cellsOf f.type)):=by
 obtain ⟨H,enc,base,spare,held,fuel,x,h⟩:=h
 obtain ⟨xs,n,_,rfl,hl,hlen,hf⟩:=DataW.trod_struct hu h
 refine ⟨hl,fun f hm=>?_⟩
 obtain ⟨i,hi,rfl⟩:=List.getElem_of_mem hm
 have h1:=hf i fs.toList[i] (by simp)
 cases hx:xs[i]? with
 |none=>grind
 |some y=>rw [hx] at h1;exact ⟨H,enc,base,spare,held,n,y,h1⟩
theorem bFm {base n:Nat} {a:Addr} {l:List Value} (h:W.cells? base a n=some l):l.length=n∧Row W a l:=by
 obtain ⟨_,h1,h2⟩:=World.cells?_some h
 refine ⟨h1,fun j v hj=>?_⟩
 grind
theorem aXb {e:TypeId} (hu:P.underlying t=some (.slice e)) (h:Reads P W t cs):
  cs= [.slice none 0 0]∨∃(a:Addr) (len cap:Nat),cs= [.slice (some a) len cap]∧len≤cap∧cap≤maxLen∧∀i,i<len→∃c,c.length=P.cellsOf e∧Row W (a.add (i*P.cellsOf e)) c∧Reads P W e c:=by
 obtain ⟨H,enc,base,spare,held,fuel,x,h⟩:=h
 rcases Go.Deep.open_slice hu h with ⟨h1,_⟩|⟨a,len,cap,m,n,D,Pl,h1,_,hl,hm,rfl,_,hi⟩
 ·simp [*]
 ·refine .inr ⟨a,len,cap,h1,hl,hm,fun i hil=>?_⟩
  obtain ⟨c,h2,h3⟩:=hi i (by split<;>omega)
  have h4:=bFm h2
  exact ⟨c,h4.1,h4.2,H,enc,base,spare,held,n,_,h3⟩
theorem bDo {a:Addr} {l l':List Value} (h:Row W a l) (h':Row W (a.add l.length) l'):Row W a (l++l'):=by
 intro j v hj
 by_cases hl:j<l.length
 ·rw [List.getElem?_append_left hl] at hj;exact h j v hj
 ·rw [List.getElem?_append_right (by omega)] at hj
  have:=h' _ v hj
  grind [add_add]
end
section
open Go
section
variable {P:Program} {d:Option Tmp} {r:KR} {K:Env→World→Prop} {ρ:Env} {w:World}
theorem aNe {t:TypeId} {x:Operand} {v:Value} {cs:List Value} (hx:ev ρ x=v) (hc:v.cells=cs.toArray) (k:∀b w',Ext w w'→w'.drawn=w.drawn→Row w' ⟨b,0,none⟩ cs→aH P r K (put ρ d (.pointer (some ⟨b,0,none⟩))) w'):aH P (.cons ⟨d,.box t x,none⟩ r) K ρ w:=
 fX (by subst hx;have h:=At.new w (.cells cs.toArray t);rw [←hc] at h;exact k _ _ (Ext.alloc w _) rfl (Row.of_at (by rw [←hc];exact h)))
theorem aO5 {t:TypeId} {ln:Nat} {zs cs:List Value} {ps:List (Nat × Nat × Operand)} (hf:qI (ev ρ) zs ps=some cs) (k:∀b w',Ext w w'→w'.drawn=w.drawn→At w' b (.cells cs.toArray t (0,0))→aH P r K (put ρ d (.slice (some ⟨b,0,none⟩) ln ln)) w'):aH P (.cons ⟨d,.buildSlice t ln zs ps,none⟩ r) K ρ w:=
 fX ⟨cs,hf,k _ _ (Ext.alloc w _) rfl (At.new w _)⟩
theorem bIn {b:KC} {K:Exit→Env→World→Prop} (h:∀w',Ext w w'→w.drawn≤w'.drawn→aH P r (aM P b K) ρ w'):aM P (.seq (.reg true r) b) K ρ w:=h _ (Ext.drew w) (Nat.le_succ w.drawn)
end
theorem bO {P:Program} {r:KR} {K:Env→World→Prop} {ρ:Env} {w:World} {d:Option Tmp} {o:KOp} {t:Tmp} {b:Bool} {p:Prop} [Decidable p] (h:ρ t=.bool (!decide p)) (h1:¬p→aH P (.cons ⟨d,o,some (t,b)⟩ r) K (upd ρ t (.bool true)) w) (h2:p→aH P (.cons ⟨d,o,some (t,b)⟩ r) K (upd ρ t (.bool false)) w):aH P (.cons ⟨d,o,some (t,b)⟩ r) K ρ w:=by
 by_cases hp:p
 ·have:=h2 hp;rwa [aFo (by rw [h];simp [hp])] at this
 ·have:=h1 hp;rwa [aFo (by rw [h];simp [hp])] at this
end
section
open Go Go.Proofs Go.Sort
variable {α:Type} {E:Enc α}
theorem Enc.flat_get (E:Enc α) (l:List α) (i c:Nat) (hi:i<l.length) (hc:c<E.k):(E.flat l)[i*E.k+c]? =(E.f l[i])[c]? :=by
 have:=E.flat_at l i hi
 rw [←this,List.getElem?_take,if_pos hc,List.getElem?_drop]
theorem aWj [Inhabited α] (E:Enc α) (d:Array α) (t:Nat) (h:t<d.size*E.k):(E.flat d.toList)[t]? =some ((flatK E.f E.k d)[t]!):=by
 have hk:=E.pos
 have hi:t / E.k<d.size:=Nat.div_lt_of_lt_mul (by rw [Nat.mul_comm];exact h)
 have hc:t%E.k<E.k:=Nat.mod_lt _ hk
 rw [get_flatK _ _ _ _ h]
 have e:t=t / E.k*E.k+t%E.k:=by rw [Nat.mul_comm];exact (Nat.div_add_mod t E.k).symm
 conv=>lhs;rw [e]
 rw [E.flat_get d.toList _ _ (by simpa using hi) hc]
 have hl:t%E.k<(E.f d[t / E.k]).length:=by rw [E.len];exact hc
 rw [show d[t / E.k]! =d[t / E.k] from getElem!_pos d _ hi,List.getElem!_eq_getElem?_getD]
 simp [List.getElem?_eq_getElem hl]
theorem aZo [Inhabited α] {w:World} {b:Nat} {t:TypeId} {l:List α} {junk:List Value} (h:At w b (.cells (E.flat l++junk).toArray t (0,0))):HoldsK E.f E.k w b 0 l.toArray:=by
 intro j hj
 rw [size_flatK] at hj
 have hf:=aWj E l.toArray j hj
 have hlt:j<(E.flat l).length:=by rw [E.flat_length];simpa using hj
 unfold At at h
 constructor
 ·simp only [World.cell?,h,Nat.zero_add]
  simp only [List.getElem?_toArray]
  rw [List.getElem?_append_left hlt]
  simpa using hf
 ·simp [World.frozen?,h]
theorem aUc [Inhabited α] {w:World} {b:Nat} {d:Array α} (h:HoldsK E.f E.k w b 0 d):Row w ⟨b,0,none⟩ (E.flat d.toList):=by
 intro j v hj
 have hlt:j<d.size*E.k:=by
  have:=(List.getElem?_eq_some_iff.1 hj).1
  rw [E.flat_length] at this;simpa using this
 have h1:=(h j (by rw [size_flatK];exact hlt)).1
 rw [aWj E d j hlt] at hj
 have e:(Addr.add ⟨b,0,none⟩ j)=⟨b,0+j,none⟩:=by unfold Addr.add;split<;>simp_all
 rw [e,h1];exact hj
theorem bDg [Inhabited α] (E:Enc α) (w:World) (b n:Nat) (d:Array α) (os:Array Obj):Chg [b] w (sortWorldK E.f E.k w b 0 n d os):=by
 refine ⟨rfl,rfl,rfl,?_,fun i hi hn=>?_⟩
 ·simp [sortWorldK,putRowK]
 ·have hne:b≠i:=by simp at hn;omega
  unfold sortWorldK
  rw [heap_grow_old _ _ (by rw [putRowK,Go.Sort.size_putRow];exact hi)]
  show (Array.modify _ b _)[i]? =_
  rw [Array.getElem?_modify,if_neg hne];rfl
theorem bIp [Inhabited α] {d d':Array α} (h:PermIn 0 d.size d d'):d'.toList.Perm d.toList:=by
 obtain ⟨h1,_,h3⟩:=h
 have e1:d.extract 0 d.size=d:=by simp
 have e2:d'.extract 0 d.size=d':=by rw [←h1];simp
 rwa [e1,e2] at h3
theorem bC6 [Inhabited α] {lt:α→α→Bool} {d:Array α} {n:Nat} (hn:d.size=n) (h:SortedIn lt 0 n d):d.toList.Pairwise fun a b=>lt b a=false:=by
 subst hn
 rw [List.pairwise_iff_getElem]
 intro i j hi hj hij
 have:=h i j (Nat.zero_le _) hij (by simpa using hj)
 simp only [Array.length_toList] at hi hj
 rw [getElem!_pos d j hj,getElem!_pos d i hi] at this
 simpa using this
theorem Own.free {t:TypeId} {B:Nat} {w:World} {v:Value} {l:List α} {x:Nat} {o:Obj} (h:Own E t B w v l) (ha:At w x o) (hn:∀cs t,o≠.cells cs t (0,0)):x∉aC v:=by
 rcases h with ⟨rfl,rfl⟩|⟨b,cap,junk,rfl,hB,hat,hlen⟩
 ·simp [aC]
 ·simp only [aC,List.mem_singleton]
  rintro rfl
  exact hn _ _ (ha.inj hat)
theorem bM4 {P:Program} [Inhabited α] {v:Value} {l:List α} {t:TypeId} {B:Nat} {w:World} {f g:FuncId} {lt:α→α→Bool} (ho:Own E t B w v l)
  (hnil:∀cap,K.Spec P f [.slice none 0 cap,.func (.func g) #[] #[]] w fun r w'=>r=.tuple #[]∧w'=w)
  (hc:∀b cap,v=.slice (some ⟨b,0,none⟩) l.length cap→HoldsK E.f E.k w b 0 l.toArray→b<w.heap.size→Calls P f #[.slice (some ⟨b,0,none⟩) l.toArray.size cap,.func (.func g) #[] #[]] w fun e w'=>
   e=.returned (.tuple #[])∧∃d' n os,PermIn 0 l.toArray.size l.toArray d'∧SortedIn lt 0 l.toArray.size d'∧w'=sortWorldK E.f E.k w b 0 n d' os):
  K.Spec P f [v,.func (.func g) #[] #[]] w fun r w'=>r=.tuple #[]∧∃l':List α,l'.Perm l∧l'.Pairwise (fun a b=>lt b a=false)∧SlE E w' v l'∧Chg (aC v) w w':=by
 rcases ho with ⟨rfl,rfl⟩|⟨b,cap,junk,rfl,hB,hat,hlen⟩
 ·refine (hnil 0).mono fun e w' ⟨r,he,hr,hw⟩=>⟨r,he,hr, [],List.Perm.refl _,List.Pairwise.nil,SlE.nil _,by rw [hw];exact Chg.refl _ _⟩
 ·have hH:=aZo hat
  have h:=hc b cap rfl hH hat.lt
  have es:l.toArray.size=l.length:=by simp
  rw [es] at h
  refine h.mono fun e w' ⟨he,d',n,os,hp,hs,hw⟩=>?_
  have hp':PermIn 0 l.toArray.size l.toArray d':=by rw [es];exact hp
  have hpl:d'.toList.Perm l:=by have:=bIp hp';simpa using this
  have hsz:d'.size=l.length:=by have:=hpl.length_eq;simpa using this
  subst hw
  refine ⟨_,he,rfl,d'.toList,hpl,bC6 hsz hs,?_,bDg E w b n d' os⟩
  have hr:=aUc (holdsK_sortWorldK E.f E.k w b 0 n l.toArray d' os hat.lt hH (by simp [hsz]))
  have hle:l.length≤cap:=by
   rw [List.length_append,E.flat_length] at hlen
   exact Nat.le_of_mul_le_mul_right (show l.length*E.k≤cap*E.k by omega) E.pos
  exact ⟨E.flat_length _,some ⟨b,0,none⟩,cap,by simp [hsz],by simp [hsz,hle],fun _=>⟨_,rfl,hr⟩⟩
end
end Go.K
