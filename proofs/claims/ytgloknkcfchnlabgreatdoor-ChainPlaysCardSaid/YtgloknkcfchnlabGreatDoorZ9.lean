/- The engine, part 15: a builder of text. The engine, part 23: -/
import Derived.Lib.OthersKept
import Derived.Test.YtgloknkcfchnlabGreatDoorZ5
set_option linter.unusedVariables false
set_option linter.unusedSimpArgs false
namespace Go.K
section
open Go
theorem Ext.of_below {w w':World} (h:RowKit.Below w.heap.size w w'):Ext w w':=⟨h.os,h.tape,h.output,h.size,fun b hb _=>h.block b hb⟩
structure Wr (e:TypeId) (B b:Nat) (w w':World):Prop where
 low:RowKit.Below B w w'
 oth:Lib.OthersKept e (some b) w w'
theorem Wr.refl (e:TypeId) (B b:Nat) (w:World):Wr e B b w w:=⟨RowKit.Below.refl _ _,Lib.OthersKept.refl _ _ _⟩
theorem Wr.trans {e:TypeId} {B b:Nat} {w w1 w2:World} (h:Wr e B b w w1) (h':Wr e B b w1 w2):Wr e B b w w2:=⟨h.low.trans h'.low,h.oth.trans h'.oth⟩
theorem Wr.of_ext {e:TypeId} {B b:Nat} {w w':World} (h:Ext w w') (hB:B≤w.heap.size):Wr e B b w w':=
 ⟨⟨Chg.os h,Chg.tape h,Chg.output h,Chg.size h,fun k hk=>Chg.block h k (by omega) (by simp)⟩,fun k o hk _ _=>by
  have hlt:k<w.heap.size:=(Array.getElem?_eq_some_iff.1 hk).1
  exact (Chg.block h k hlt (by simp)).trans hk⟩
theorem Wr.size {e:TypeId} {B b:Nat} {w w':World} (h:Wr e B b w w'):w.heap.size≤w'.heap.size:=h.low.size
theorem Wr.ext {e:TypeId} {B b:Nat} {w0 w w':World} (h:Wr e B b w w') (x:Ext w0 w) (hB:w0.heap.size≤B):Ext w0 w':=
 ⟨h.low.os.trans (Chg.os x),h.low.tape.trans (Chg.tape x),h.low.output.trans (Chg.output x),nTr (Chg.size x) h.low.size,fun k hk hn=>(h.low.block k (by omega)).trans (Chg.block x k hk hn)⟩
theorem At.wr {e t:TypeId} {B b k:Nat} {w w':World} {cs:Array Value} {f:Nat × Nat} (h:Wr e B b w w') (ha:At w k (.cells cs t f)) (hk:k≠b) (ht:t≠e):At w' k (.cells cs t f):=
 h.oth k _ ha (by simpa using hk) (by intro c fz hc;injection hc with _ h2 _;exact ht h2)
def Bld (T e:TypeId) (B b:Nat) (s:ByteArray) (w:World):Prop:=B≤w.heap.size∧Lib.IsBuilderF T e B b (Lib.byteCells s.data.toList) w
theorem Bld.new {T e:TypeId} {B b:Nat} {w:World} (hB:B≤b) (h:At w b (.cells [Value.pointer none,Value.slice none 0 0].toArray T (0,0))):Bld T e B b ⟨#[]⟩ w:=by
 refine ⟨by have:=h.lt;omega,.inl ⟨hB,_,h,World.ownsRowF_nil w B e 1,by simp [Value.ownBlock]⟩⟩
theorem Bld.ext {T e:TypeId} {B b:Nat} {s:ByteArray} {w w':World} (h:Bld T e B b s w) (x:Ext w w'):Bld T e B b s w':=by
 have key:∀p,Lib.BuilderAtF T e B b p (Lib.byteCells s.data.toList) w→Lib.BuilderAtF T e B b p (Lib.byteCells s.data.toList) w':=by
  rintro p ⟨hB,v,hb,ho,hn⟩
  refine ⟨hB,v,At.ext x hb,?_,hn⟩
  obtain ⟨h1,h2⟩:=ho
  refine ⟨h1,?_⟩
  rcases h2 with h2|⟨g,cap,cur,fz,hv,hg,hh,r⟩
  ·exact .inl h2
  ·exact .inr ⟨g,cap,cur,fz,hv,hg,At.ext x hh,r⟩
 refine ⟨nTr h.1 x.size,?_⟩
 rcases h.2 with h|h
 ·exact .inl (key _ h)
 ·exact .inr (key _ h)
theorem Bld.lt {T e:TypeId} {B b:Nat} {s:ByteArray} {w:World} (h:Bld T e B b s w):b<w.heap.size:=by
 rcases h.2 with ⟨_,v,hb,_⟩|⟨_,v,hb,_⟩
 ·exact At.lt hb
 ·exact At.lt hb
theorem Bld.x {T e:TypeId} {B b:Nat} {s:ByteArray} {w w':World} (c:Ext w w') (h:Bld T e B b s w):Bld T e B b s w':=h.ext c
theorem byteCells_append (a b:ByteArray):Lib.byteCells a.data.toList++Lib.strCells b=Lib.byteCells (a++b).data.toList:=by
 simp [Lib.byteCells,Lib.strCells,ByteArray.data_append]
section
variable {κ β:Type} [DecidableEq κ] {E:KEnc κ} {fv:β→Value} {P:Program} {d:Option Tmp} {r:KR} {K:Env→World→Prop} {ρ:Env} {w:World}
theorem aLu {b i clock:Nat} {es:Array MapEntry} {l:List (κ × β)} {k:κ} {v0:β} (h:At w b (.map es clock)) (hwf:Wf es clock) (hi:i<es.size) (hv:es[i].val=fv v0)
  (hall:∀v:β,(es.modify i fun e=>{e with val:=fv v}).toList.map (fun e=>(e.key,e.val))=(mH l k v).map (fun p=>(E.f p.1,fv p.2))) (hn:(l.map (·.1)).Nodup):dW E fv w b (mH l k v0):=by
 refine ⟨es,clock,h,hwf,?_,vB hn⟩
 rw [←hall v0]
 congr 2
 apply Array.ext
 ·simp
 ·intro j h1 h2
  rw [Array.getElem_modify]
  split
  ·rename_i e;subst e
   generalize es[i]=q at hv
   cases q;simp only at hv;simp [hv]
  ·rfl
theorem aIz {s:Bool} {ks:List CK} {z:Value} {m x:Operand} {b:Nat} {l:List (κ × β)} {k:κ} (z0:β) (hz:z=fv z0) (hm:ev ρ m=.map (some b)) (hx:ev ρ x=E.f k) (hM:dW E fv w b l) (hs:s=E.s) (hks:ks=E.ks)
  (kk:∀(st:Nat) w',Chg [b] w w'→jZ E fv w' b l k st→dW E fv w' b (mH l k ((aX l k).getD z0))→aG P r K (put ρ d (.tuple #[fv ((aX l k).getD z0),.int .i64 (st:Int)])) w'):aG P (.cons ⟨d,.mapEntry s ks z m x,none⟩ r) K ρ w:=by
 subst hs hks hz
 obtain ⟨es,clock,hat,hwf,heq,hn⟩:=hM
 have hf:=lJ (E:=E) (fv:=fv) k es.toList l 0 heq
 have hlen:es.size=l.length:=by have:=congrArg List.length heq;simpa using this
 refine dX ⟨b,es,clock,_,hm,hat,by rw [hx];exact E.ok k,by rw [hx];exact hf,?_⟩
 cases h:(l.findIdx? fun p=>decide (p.1=k)) with
 |none=>
  have hg:aX l k=none:=by rw [lV,h];rfl
  rw [hg] at kk
  simp only [Option.bind_none]
  rw [hx]
  have P1:=hat.setObj (o':=.map (es.push {key:=E.f k,val:=fv z0,born:=clock}) (clock+1))
  have P2:=aJ6 hwf (E.f k) (fv z0)
  have P3:∀v:β,((es.push {key:=E.f k,val:=fv z0,born:=clock}).modify es.size fun e=>{e with val:=fv v}).toList.map (fun e=>(e.key,e.val))=(mH l k v).map (fun p=>(E.f p.1,fv p.2)):=by
   intro v
   rw [kN h,List.map_append,←heq]
   apply List.ext_getElem
   ·simp
   ·intro i h1 h2
    have h3:i<es.size+1:=by simpa using h1
    simp only [List.getElem_map,Array.getElem_toList,Array.getElem_modify,List.getElem_append,List.length_map,Array.length_toList]
    by_cases hi:i<es.size
    ·rw [dif_pos hi]
     have hne:¬(es.size=i):=by omega
     simp [hne,Array.getElem_push_lt hi]
    ·have:i=es.size:=by omega
     subst this
     simp
  exact kk clock _ (Chg.setObj _ _ _) ⟨_,_,es.size,P1,P2,⟨by simp,by simp⟩,P3,hn⟩ (aLu P1 P2 (by simp) (by simp) P3 hn)
 |some j=>
  obtain ⟨hj,hk,_⟩:=List.findIdx?_eq_some_iff_getElem.1 h
  have hjs:j<es.size:=by omega
  have hg:aX l k=some l[j].2:=by rw [lV,h];simp [List.getElem?_eq_getElem hj]
  rw [hg] at kk
  simp only [Option.bind_some,List.getElem?_eq_getElem hj,Option.map_some,Nat.zero_add]
  rw [hx]
  have e1:(((es[j]?).map (·.born)).getD 0)=es[j].born:=by simp [Array.getElem?_eq_getElem hjs]
  rw [e1]
  have P1:=hat.setObj (o':=.map (es.modify j fun e=>{e with key:=E.f k}) clock)
  have P2:=uD hwf j (fun e=>{e with key:=E.f k}) (fun _=>rfl)
  have h6:(es.toList.map (fun e=>(e.key,e.val)))[j]'(by simpa using hjs)=(l.map (fun p=>(E.f p.1,fv p.2)))[j]'(by simpa using hj):=by simp only [heq]
  simp only [List.getElem_map,Array.getElem_toList,Prod.mk.injEq] at h6
  have P3:∀v:β,((es.modify j fun e=>{e with key:=E.f k}).modify j fun e=>{e with val:=fv v}).toList.map (fun e=>(e.key,e.val))=(mH l k v).map (fun p=>(E.f p.1,fv p.2)):=by
   intro v
   rw [lB h]
   apply List.ext_getElem
   ·simpa using hlen
   ·intro i h1 h2
    have h3:i<es.toList.length:=by simpa using h1
    have h4:i<l.length:=by simpa using h2
    have h5:(es.toList.map (fun e=>(e.key,e.val)))[i]'(by simpa using h3)=(l.map (fun p=>(E.f p.1,fv p.2)))[i]'(by simpa using h4):=by simp only [heq]
    simp only [List.getElem_map] at h5
    simp only [List.getElem_map,Array.getElem_toList,Array.getElem_modify,List.getElem_set] at h5 ⊢
    split
    ·rfl
    ·exact h5
  exact kk es[j].born _ (Chg.setObj _ _ _) ⟨_,_,j,P1,P2,⟨by simpa using hjs,by rw [Array.getElem_modify,if_pos rfl]⟩,P3,hn⟩ (aLu P1 P2 (by simpa using hjs) (by rw [Array.getElem_modify,if_pos rfl];exact h6.2) P3 hn)
theorem sZ (l:List (κ × β)) (k:κ) (v:β) (k':κ):aX (mH l k v) k'=if k=k' then some v else aX l k':=by
 induction l with
 |nil=>unfold mH aX;by_cases h:k=k'<;>simp [h]
 |cons p l ih=>
  unfold mH
  by_cases h:p.1=k
  ·rw [if_pos h]
   have e:∀q:κ × β,aX (q::l) k'=if q.1=k' then some q.2 else aX l k':=by intro q;unfold aX;rw [List.find?_cons];by_cases h:q.1=k'<;>simp [h]
   rw [e,e]
   by_cases h2:k=k'
   ·simp [h2]
   ·rw [if_neg h2,if_neg h2,if_neg (by rw [h];exact h2)]
  ·rw [if_neg h]
   have e:∀(q:κ × β) (m:List (κ × β)),aX (q::m) k'=if q.1=k' then some q.2 else aX m k':=by intro q m;unfold aX;rw [List.find?_cons];by_cases h:q.1=k'<;>simp [h]
   rw [e,e,ih]
   by_cases h2:p.1=k'
   ·rw [if_pos h2,if_pos h2,if_neg (by rw [←h2];exact fun e=>h e.symm)]
   ·rw [if_neg h2,if_neg h2]
end
end
section
open Go
section
variable {P:Program} {d:Option Tmp} {r:KR} {K:Env→World→Prop} {ρ:Env} {w:World}
theorem aDu {t:TypeId} {x:Operand} {v:Value} {cs:List Value} (hx:ev ρ x=v) (hc:v.cells=cs.toArray) (k:∀b w',Ext w w'→w'.drawn=w.drawn→Row w' ⟨b,0,none⟩ cs→aG P r K (put ρ d (.pointer (some ⟨b,0,none⟩))) w'):aG P (.cons ⟨d,.box t x,none⟩ r) K ρ w:=
 dX (by subst hx;have h:=At.new w (.cells cs.toArray t);rw [←hc] at h;exact k _ _ (Ext.alloc w _) rfl (Row.of_at (by rw [←hc];exact h)))
theorem aEg {t:TypeId} {ln:Nat} {zs cs:List Value} {ps:List (Nat × Nat × Operand)} (hf:kB (ev ρ) zs ps=some cs) (k:∀b w',Ext w w'→w'.drawn=w.drawn→At w' b (.cells cs.toArray t (0,0))→aG P r K (put ρ d (.slice (some ⟨b,0,none⟩) ln ln)) w'):aG P (.cons ⟨d,.buildSlice t ln zs ps,none⟩ r) K ρ w:=
 dX ⟨cs,hf,k _ _ (Ext.alloc w _) rfl (At.new w _)⟩
theorem aTi {b:KC} {K:Exit→Env→World→Prop} (h:∀w',Ext w w'→w.drawn≤w'.drawn→aG P r (aK P b K) ρ w'):aK P (.seq (.reg true r) b) K ρ w:=h _ (Ext.drew w) (Nat.le_succ w.drawn)
end
theorem aZ {P:Program} {r:KR} {K:Env→World→Prop} {ρ:Env} {w:World} {d:Option Tmp} {o:KOp} {t:Tmp} {b:Bool} {p:Prop} [Decidable p] (h:ρ t=.bool (!decide p)) (h1:¬p→aG P (.cons ⟨d,o,some (t,b)⟩ r) K (upd ρ t (.bool true)) w) (h2:p→aG P (.cons ⟨d,o,some (t,b)⟩ r) K (upd ρ t (.bool false)) w):aG P (.cons ⟨d,o,some (t,b)⟩ r) K ρ w:=by
 by_cases hp:p
 ·have:=h2 hp;rwa [wQ (by rw [h];simp [hp])] at this
 ·have:=h1 hp;rwa [wQ (by rw [h];simp [hp])] at this
end
end Go.K
