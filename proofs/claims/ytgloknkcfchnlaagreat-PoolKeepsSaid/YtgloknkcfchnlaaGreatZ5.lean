/- The engine, part 9: maps that read as lists of pairs. The en -/
import Derived.Lib.Bytealg
import Derived.Test.YtgloknkcfchnlaaGreatZ4
set_option linter.unusedVariables false
set_option linter.unusedSimpArgs false
namespace Go.K
section
open Go
variable {P:Program}
structure KEnc (κ:Type) [DecidableEq κ] where
 f:κ→Value
 s:Bool
 ks:List CK
 eq_:∀a b,aCv s ks (f a) (f b)=some (decide (a=b))
 ok:∀a,aKz s ks (f a)=true
variable {κ β:Type} [DecidableEq κ] {E:KEnc κ} {fv:β→Value}
def aL (m:List (κ × β)) (k:κ):Option β:=(m.find? fun p=>decide (p.1=k)).map (·.2)
def fQ (m:List (κ × β)) (k:κ) (v:β):List (κ × β):=
 match m with
 | []=> [(k,v)]
 |p::r=>if p.1=k then (k,v)::r else p::fQ r k v
def jL (m:List (κ × β)) (k:κ):List (κ × β):=m.filter fun p=>decide (p.1≠k)
structure Wf (es:Array MapEntry) (clock:Nat):Prop where
 births:es.toList.Pairwise fun a b=>a.born<b.born
 lt:∀e∈es.toList,e.born<clock
def dI (E:KEnc κ) (fv:β→Value) (w:World) (r:Nat) (m:List (κ × β)):Prop:=
 ∃es clock,At w r (.map es clock)∧Wf es clock∧es.toList.map (fun e=>(e.key,e.val))=m.map (fun p=>(E.f p.1,fv p.2))∧(m.map (·.1)).Nodup
theorem dI.chg {l:List Nat} {w w':World} {r:Nat} {m:List (κ × β)} (hc:Chg l w w') (h:dI E fv w r m) (hr:r∉l):dI E fv w' r m:=by
 obtain ⟨es,clock,h1,h2⟩:=h;exact ⟨es,clock,h1.chg hc hr,h2⟩
theorem dI.ext {w w':World} {r:Nat} {m:List (κ × β)} (hc:Ext w w') (h:dI E fv w r m):dI E fv w' r m:=h.chg hc (by simp)
theorem dI.lt {w:World} {r:Nat} {m:List (κ × β)} (h:dI E fv w r m):r<w.heap.size:=by obtain ⟨es,clock,h1,_⟩:=h;exact h1.lt
theorem dI.nodup {w:World} {r:Nat} {m:List (κ × β)} (h:dI E fv w r m):(m.map (·.1)).Nodup:=by obtain ⟨es,clock,_,_,_,h1⟩:=h;exact h1
theorem dI.new (w:World):dI E fv (w.alloc (.map #[] 0)) w.heap.size []:=⟨#[],0,At.new w _,⟨by simp,by simp⟩,rfl,by simp⟩
theorem uP (k:κ):∀(es:List MapEntry) (m:List (κ × β)) (i:Nat),es.map (fun e=>(e.key,e.val))=m.map (fun p=>(E.f p.1,fv p.2))→
  lN E.s E.ks (E.f k) es i=some ((m.findIdx? fun p=>decide (p.1=k)).bind fun j=>(m[j]?).map fun p=>(i+j,fv p.2))
 | [], [],i,_=>rfl
 |e::es,p::m,i,h=>by
  simp only [List.map_cons,List.cons.injEq,Prod.mk.injEq] at h
  obtain ⟨⟨hk,hv⟩,h⟩:=h
  simp only [lN,hk,E.eq_]
  by_cases hp:p.1=k
  ·subst hp
   simp [List.findIdx?_cons,hv]
  ·have hp':¬(k=p.1):=fun e=>hp e.symm
   simp only [hp',decide_false]
   rw [uP k es m (i+1) h]
   simp only [List.findIdx?_cons,hp,decide_false,Bool.false_eq_true,if_false]
   cases m.findIdx? (fun p=>decide (p.1=k)) with
   |none=>rfl
   |some j=>simp only [Option.bind_some,Option.map_some,List.getElem?_cons_succ];congr 2;funext p;rw [show i+1+j=i+(j+1) by omega]
 | [],_::_,_,h=>by simp at h
 |_::_, [],_,h=>by simp at h
theorem vU (m:List (κ × β)) (k:κ):aL m k=(m.findIdx? fun p=>decide (p.1=k)).bind fun j=>(m[j]?).map (·.2):=by
 unfold aL
 induction m with
 |nil=>rfl
 |cons p m ih=>
  by_cases hp:p.1=k
  ·simp [List.find?_cons,List.findIdx?_cons,hp]
  ·simp only [List.find?_cons,hp,decide_false,List.findIdx?_cons,Bool.false_eq_true,if_false]
   rw [ih]
   cases m.findIdx? (fun p=>decide (p.1=k))<;>simp
section
variable {d:Option Tmp} {r:KR} {K:Env→World→Prop} {ρ:Env} {w:World}
theorem aTv {s:Bool} {ks:List CK} {z:Value} {ok:Bool} {m x:Operand} {b:Nat} {l:List (κ × β)} {k:κ} (hm:ev ρ m=.map (some b)) (hx:ev ρ x=E.f k) (hM:dI E fv w b l) (hs:s=E.s) (hks:ks=E.ks):
  (KOp.lookup s ks z ok m x).rd ρ w=some (match aL l k with
   |some v=>if ok then .tuple #[fv v,.bool true] else fv v
   |none=>if ok then .tuple #[z,.bool false] else z):=by
 subst hs hks
 obtain ⟨es,clock,hat,_,heq,_⟩:=hM
 have hf:=uP (E:=E) (fv:=fv) k es.toList l 0 heq
 unfold At at hat
 simp only [KOp.rd,hx,E.ok,if_true,hm,hat,hf,Option.map_some,vU]
 cases hi:l.findIdx? (fun p=>decide (p.1=k)) with
 |none=>rfl
 |some j=>
  have hj:j<l.length:=(List.findIdx?_eq_some_iff_getElem.1 hi).1
  simp [List.getElem?_eq_getElem hj]
theorem eY {s:Bool} {ks:List CK} {z:Value} {m x:Operand} {b:Nat} {l:List (κ × β)} {k:κ} (hm:ev ρ m=.map (some b)) (hx:ev ρ x=E.f k) (hM:dI E fv w b l) (hs:s=E.s) (hks:ks=E.ks)
  (k1:∀v,aL l k=some v→aF P r K (put ρ d (fv v)) w) (k2:aL l k=none→aF P r K (put ρ d z) w):aF P (.cons ⟨d,.lookup s ks z false m x,none⟩ r) K ρ w:=by
 have h:=aTv (z:=z) (ok:=false) hm hx hM hs hks
 cases ha:aL l k with
 |none=>rw [ha] at h;exact gV (qE rfl h (k2 ha))
 |some v=>rw [ha] at h;exact gV (qE rfl h (k1 v ha))
theorem lU {s:Bool} {ks:List CK} {z:Value} {m x:Operand} {b:Nat} {l:List (κ × β)} {k:κ} (hm:ev ρ m=.map (some b)) (hx:ev ρ x=E.f k) (hM:dI E fv w b l) (hs:s=E.s) (hks:ks=E.ks)
  (k1:∀v,aL l k=some v→aF P r K (put ρ d (.tuple #[fv v,.bool true])) w) (k2:aL l k=none→aF P r K (put ρ d (.tuple #[z,.bool false])) w):aF P (.cons ⟨d,.lookup s ks z true m x,none⟩ r) K ρ w:=by
 have h:=aTv (z:=z) (ok:=true) hm hx hM hs hks
 cases ha:aL l k with
 |none=>rw [ha] at h;exact gV (qE rfl h (k2 ha))
 |some v=>rw [ha] at h;exact gV (qE rfl h (k1 v ha))
theorem iQ (k:∀b w',Ext w w'→dI E fv w' b []→w.heap.size≤b→aF P r K (put ρ d (.map (some b))) w'):aF P (.cons ⟨d,.makeMap,none⟩ r) K ρ w:=
 gV (k _ _ (Ext.alloc w _) (dI.new w) (Nat.le_refl _))
end
theorem aK8 {α γ:Type} (f:α→γ):∀(l:List α) (i:Nat),(l.eraseIdx i).map f=(l.map f).eraseIdx i
 | [],_=>rfl
 |_::_,0=>rfl
 |x::l,i+1=>by simp [aK8 f l i]
theorem sQ {m:List (κ × β)} {k:κ} {v:β} (h:(m.findIdx? fun p=>decide (p.1=k))=none):fQ m k v=m++ [(k,v)]:=by
 induction m with
 |nil=>rfl
 |cons p m ih=>
  rw [List.findIdx?_cons] at h
  by_cases hp:p.1=k
  ·simp [hp] at h
  ·simp only [hp,decide_false,Bool.false_eq_true,if_false,Option.map_eq_none_iff] at h
   simp [fQ,hp,ih h]
theorem uH {m:List (κ × β)} {k:κ} {v:β} {j:Nat} (h:(m.findIdx? fun p=>decide (p.1=k))=some j):fQ m k v=m.set j (k,v):=by
 induction m generalizing j with
 |nil=>simp at h
 |cons p m ih=>
  rw [List.findIdx?_cons] at h
  by_cases hp:p.1=k
  ·simp [hp] at h;subst h;simp [fQ,hp]
  ·simp only [hp,decide_false,Bool.false_eq_true,if_false,Option.map_eq_some_iff] at h
   obtain ⟨i,hi,rfl⟩:=h
   simp [fQ,hp,ih hi]
theorem aNz {m:List (κ × β)} {k:κ} (h:(m.findIdx? fun p=>decide (p.1=k))=none):jL m k=m:=by
 rw [List.findIdx?_eq_none_iff] at h
 exact List.filter_eq_self.2 fun p hp=>by have:=h p hp;simpa using this
theorem aIz {m:List (κ × β)} {k:κ} {j:Nat} (hn:(m.map (·.1)).Nodup) (h:(m.findIdx? fun p=>decide (p.1=k))=some j):jL m k=m.eraseIdx j:=by
 induction m generalizing j with
 |nil=>simp at h
 |cons p m ih=>
  rw [List.findIdx?_cons] at h
  simp only [List.map_cons,List.nodup_cons] at hn
  by_cases hp:p.1=k
  ·simp [hp] at h;subst h
   simp only [jL,List.filter_cons,hp,ne_eq,not_true_eq_false,decide_false,Bool.false_eq_true,if_false,List.eraseIdx_cons_zero]
   exact List.filter_eq_self.2 fun q hq=>by
    have:q.1≠p.1:=fun e=>hn.1 (List.mem_map.2 ⟨q,hq,e⟩)
    rw [hp] at this;simpa using this
  ·simp only [hp,decide_false,Bool.false_eq_true,if_false,Option.map_eq_some_iff] at h
   obtain ⟨i,hi,rfl⟩:=h
   have:=ih hn.2 hi
   unfold jL at this ⊢
   simp [List.filter_cons,hp]
   simpa using this
theorem aFu {m:List (κ × β)} {k:κ} {v:β} (hn:(m.map (·.1)).Nodup):((fQ m k v).map (·.1)).Nodup:=by
 cases h:(m.findIdx? fun p=>decide (p.1=k)) with
 |none=>
  rw [sQ h,List.map_append,List.nodup_append]
  refine ⟨hn,by simp,?_⟩
  intro a ha b hb
  simp at hb;subst hb
  rw [List.findIdx?_eq_none_iff] at h
  obtain ⟨p,hp,rfl⟩:=List.mem_map.1 ha
  have:=h p hp
  simpa using this
 |some j=>
  rw [uH h]
  obtain ⟨hj,hk,_⟩:=List.findIdx?_eq_some_iff_getElem.1 h
  have:(m.set j (k,v)).map (·.1)=m.map (·.1):=by
   apply List.ext_getElem
   ·simp
   ·intro i h1 h2
    simp only [List.getElem_map,List.getElem_set]
    split
    ·rename_i e;subst e;simpa using (of_decide_eq_true hk).symm
    ·rfl
  rw [this];exact hn
theorem aXp {es:Array MapEntry} {clock:Nat} (h:Wf es clock) (k v:Value):Wf (es.push {key:=k,val:=v,born:=clock}) (clock+1):=by
 refine ⟨?_,?_⟩
 ·rw [Array.toList_push,List.pairwise_append]
  exact ⟨h.births,by simp,fun a ha b hb=>by simp at hb;subst hb;exact h.lt a ha⟩
 ·intro e he
  rw [Array.toList_push,List.mem_append] at he
  rcases he with he|he
  ·have:=h.lt e he;omega
  ·simp at he;subst he;simp
theorem aFp {es:Array MapEntry} {clock:Nat} (h:Wf es clock) (i:Nat) (g:MapEntry→MapEntry) (hg:∀e,(g e).born=e.born):Wf (es.modify i g) clock:=by
 have hb:(es.modify i g).toList.map (·.born)=es.toList.map (·.born):=by
  apply List.ext_getElem
  ·simp
  ·intro j h1 h2
   simp only [List.getElem_map,Array.getElem_toList,Array.getElem_modify]
   split<;>simp [hg]
 refine ⟨?_,fun e he=>?_⟩
 ·have h1:(es.toList.map (·.born)).Pairwise (·<·):=List.pairwise_map.2 h.births
  rw [←hb] at h1
  exact List.pairwise_map.1 h1
 ·have:e.born∈(es.modify i g).toList.map (·.born):=List.mem_map.2 ⟨e,he,rfl⟩
  rw [hb] at this
  obtain ⟨e',he',h2⟩:=List.mem_map.1 this
  have:=h.lt e' he'
  omega
theorem dI.put_ {w:World} {b:Nat} {l:List (κ × β)} (hM:dI E fv w b l) (k:κ) (v:β):∃es clock f,At w b (.map es clock)∧lN E.s E.ks (E.f k) es.toList 0=some f∧
  dI E fv (eG w b (.map (kE es clock (E.f k) (fv v) f).1 (kE es clock (E.f k) (fv v) f).2)) b (fQ l k v):=by
 obtain ⟨es,clock,hat,hwf,heq,hn⟩:=hM
 refine ⟨es,clock,_,hat,uP (E:=E) (fv:=fv) k es.toList l 0 heq,?_⟩
 cases h:(l.findIdx? fun p=>decide (p.1=k)) with
 |none=>
  simp only [Option.bind_none,kE]
  refine ⟨_,_,hat.setObj,aXp hwf _ _,?_,aFu hn⟩
  rw [sQ h,Array.toList_push,List.map_append,List.map_append,heq]
  rfl
 |some j=>
  obtain ⟨hj,hk,_⟩:=List.findIdx?_eq_some_iff_getElem.1 h
  simp only [Option.bind_some,List.getElem?_eq_getElem hj,Option.map_some,kE,Nat.zero_add]
  refine ⟨_,_,hat.setObj,aFp hwf _ _ (fun _=>rfl),?_,aFu hn⟩
  rw [uH h]
  apply List.ext_getElem
  ·have:=congrArg List.length heq;simpa using this
  ·intro i h1 h2
   have h3:i<es.toList.length:=by simpa using h1
   have h4:i<l.length:=by simpa using h2
   have h5:(es.toList.map (fun e=>(e.key,e.val)))[i]'(by simpa using h3)=(l.map (fun p=>(E.f p.1,fv p.2)))[i]'(by simpa using h4):=by simp only [heq]
   simp only [List.getElem_map] at h5
   simp only [List.getElem_map,Array.getElem_toList,Array.getElem_modify,List.getElem_set] at h5 ⊢
   split
   ·rfl
   ·exact h5
theorem dI.del_ {w:World} {b:Nat} {l:List (κ × β)} (hM:dI E fv w b l) (k:κ):∃es clock f,At w b (.map es clock)∧lN E.s E.ks (E.f k) es.toList 0=some f∧
  dI E fv (eG w b (.map (match f with|some (i,_)=>es.eraseIdxIfInBounds i|none=>es) clock)) b (jL l k):=by
 obtain ⟨es,clock,hat,hwf,heq,hn⟩:=hM
 refine ⟨es,clock,_,hat,uP (E:=E) (fv:=fv) k es.toList l 0 heq,?_⟩
 have hnd:((jL l k).map (·.1)).Nodup:=(List.Sublist.map Prod.fst List.filter_sublist).nodup hn
 cases h:(l.findIdx? fun p=>decide (p.1=k)) with
 |none=>
  simp only [Option.bind_none]
  exact ⟨_,_,hat.setObj,hwf,by rw [aNz h];exact heq,hnd⟩
 |some j=>
  obtain ⟨hj,hk,_⟩:=List.findIdx?_eq_some_iff_getElem.1 h
  simp only [Option.bind_some,List.getElem?_eq_getElem hj,Option.map_some,Nat.zero_add]
  have hjs:j<es.size:=by have:=congrArg List.length heq;simp at this;omega
  have he:(es.eraseIdxIfInBounds j).toList=es.toList.eraseIdx j:=by simp [Array.eraseIdxIfInBounds,hjs]
  refine ⟨_,_,hat.setObj,⟨?_,?_⟩,?_,hnd⟩
  ·rw [he];exact hwf.births.sublist (List.eraseIdx_sublist _ _)
  ·intro e hm;rw [he] at hm;exact hwf.lt e (List.mem_of_mem_eraseIdx hm)
  ·rw [he,aIz hn h,aK8,heq,aK8]
section
variable {d:Option Tmp} {r:KR} {K:Env→World→Prop} {ρ:Env} {w:World}
theorem eQ {s:Bool} {ks:List CK} {m x y:Operand} {b:Nat} {l:List (κ × β)} {k:κ} {v:β} (hm:ev ρ m=.map (some b)) (hx:ev ρ x=E.f k) (hy:ev ρ y=fv v) (hM:dI E fv w b l) (hs:s=E.s) (hks:ks=E.ks)
  (kk:∀w',Chg [b] w w'→dI E fv w' b (fQ l k v)→aF P r K (put ρ d undef) w'):aF P (.cons ⟨d,.mapUpdate s ks m x y,none⟩ r) K ρ w:=by
 subst hs hks
 obtain ⟨es,clock,f,hat,hf,hM'⟩:=hM.put_ k v
 refine gV ⟨b,es,clock,f,hm,hat,by rw [hx];exact E.ok k,by rw [hx];exact hf,?_⟩
 rw [hx,hy]
 exact kk _ (Chg.setObj _ _ _) hM'
theorem aFf {s:Bool} {ks:List CK} {m x:Operand} {b:Nat} {l:List (κ × β)} {k:κ} (hm:ev ρ m=.map (some b)) (hx:ev ρ x=E.f k) (hM:dI E fv w b l) (hs:s=E.s) (hks:ks=E.ks)
  (kk:∀w',Chg [b] w w'→dI E fv w' b (jL l k)→aF P r K (put ρ d (.tuple #[])) w'):aF P (.cons ⟨d,.delete s ks m x,none⟩ r) K ρ w:=by
 subst hs hks
 obtain ⟨es,clock,f,hat,hf,hM'⟩:=hM.del_ k
 refine gV ⟨b,es,clock,f,hm,hat,by rw [hx];exact E.ok k,by rw [hx];exact hf,kk _ (Chg.setObj _ _ _) hM'⟩
end
def sD (E:KEnc κ) (fv:β→Value) (w:World) (b:Nat) (l:List (κ × β)) (k:κ) (st:Nat):Prop:=
 ∃es clock i,At w b (.map es clock)∧Wf es clock∧(∃h:i<es.size,es[i].born=st)∧(∀v:β,(es.modify i fun e=>{e with val:=fv v}).toList.map (fun e=>(e.key,e.val))=(fQ l k v).map (fun p=>(E.f p.1,fv p.2)))∧(l.map (·.1)).Nodup
theorem sD.chg {s:List Nat} {w w':World} {b:Nat} {l:List (κ × β)} {k:κ} {st:Nat} (hc:Chg s w w') (h:sD E fv w b l k st) (hb:b∉s):sD E fv w' b l k st:=by
 obtain ⟨es,clock,i,h1,h2⟩:=h;exact ⟨es,clock,i,h1.chg hc hb,h2⟩
theorem sD.ext {w w':World} {b:Nat} {l:List (κ × β)} {k:κ} {st:Nat} (hc:Ext w w') (h:sD E fv w b l k st):sD E fv w' b l k st:=h.chg hc (by simp)
section
variable {d:Option Tmp} {r:KR} {K:Env→World→Prop} {ρ:Env} {w:World}
theorem aZa {s:Bool} {ks:List CK} {z:Value} {m x:Operand} {b:Nat} {l:List (κ × β)} {k:κ} (hm:ev ρ m=.map (some b)) (hx:ev ρ x=E.f k) (hM:dI E fv w b l) (hs:s=E.s) (hks:ks=E.ks)
  (kk:∀(st:Nat) w',Chg [b] w w'→sD E fv w' b l k st→aF P r K (put ρ d (.tuple #[match aL l k with|some v=>fv v|none=>z,.int .i64 (st:Int)])) w'):aF P (.cons ⟨d,.mapEntry s ks z m x,none⟩ r) K ρ w:=by
 subst hs hks
 obtain ⟨es,clock,hat,hwf,heq,hn⟩:=hM
 have hf:=uP (E:=E) (fv:=fv) k es.toList l 0 heq
 have hlen:es.size=l.length:=by have:=congrArg List.length heq;simpa using this
 refine gV ⟨b,es,clock,_,hm,hat,by rw [hx];exact E.ok k,by rw [hx];exact hf,?_⟩
 cases h:(l.findIdx? fun p=>decide (p.1=k)) with
 |none=>
  have hg:aL l k=none:=by rw [vU,h];rfl
  rw [hg] at kk
  simp only [Option.bind_none]
  rw [hx]
  refine kk clock _ (Chg.setObj _ _ _) ⟨_,_,es.size,hat.setObj,aXp hwf _ _,⟨by simp,by simp⟩,fun v=>?_,hn⟩
  rw [sQ h,List.map_append,←heq]
  apply List.ext_getElem
  ·simp
  ·intro i h1 h2
   have h3:i<es.size+1:=by simpa using h1
   simp only [List.getElem_map,Array.getElem_toList,Array.getElem_modify,List.getElem_append,List.length_map,Array.length_toList]
   by_cases hi:i<es.size
   ·rw [dif_pos hi]
    have hne:¬(es.size=i):=by omega
    simp [hne,Array.getElem_push_lt hi]
   ·have:i=es.size:=by omega
    subst this
    simp
 |some j=>
  obtain ⟨hj,hk,_⟩:=List.findIdx?_eq_some_iff_getElem.1 h
  have hjs:j<es.size:=by omega
  have hg:aL l k=some l[j].2:=by rw [vU,h];simp [List.getElem?_eq_getElem hj]
  rw [hg] at kk
  simp only [Option.bind_some,List.getElem?_eq_getElem hj,Option.map_some,Nat.zero_add]
  rw [hx]
  have e1:(((es[j]?).map (·.born)).getD 0)=es[j].born:=by simp [Array.getElem?_eq_getElem hjs]
  rw [e1]
  refine kk es[j].born _ (Chg.setObj _ _ _) ⟨_,_,j,hat.setObj,aFp hwf _ _ (fun _=>rfl),⟨by simpa using hjs,by rw [Array.getElem_modify,if_pos rfl]⟩,fun v=>?_,hn⟩
  rw [uH h]
  apply List.ext_getElem
  ·simpa using hlen
  ·intro i h1 h2
   have h3:i<es.toList.length:=by simpa using h1
   have h4:i<l.length:=by simpa using h2
   have h5:(es.toList.map (fun e=>(e.key,e.val)))[i]'(by simpa using h3)=(l.map (fun p=>(E.f p.1,fv p.2)))[i]'(by simpa using h4):=by simp only [heq]
   simp only [List.getElem_map] at h5
   simp only [List.getElem_map,Array.getElem_toList,Array.getElem_modify,List.getElem_set] at h5 ⊢
   split
   ·rfl
   ·exact h5
theorem find_born {es:Array MapEntry} {clock i:Nat} (hw:Wf es clock) (hi:i<es.size) {n:Int} (hn:n=(es[i].born:Int)):es.findIdx? (fun e=>(e.born:Int)==n)=some i:=by
 subst hn
 rw [Array.findIdx?_eq_some_iff_getElem]
 refine ⟨hi,by simp,fun j hj=>?_⟩
 have:=List.pairwise_iff_getElem.1 hw.births j i (by simp;omega) (by simpa using hi) hj
 simp only [Array.getElem_toList] at this
 simp;omega
theorem yK {m x y:Operand} {b:Nat} {l:List (κ × β)} {k:κ} {v:β} {st:Nat} {kd:IntKind} (hm:ev ρ m=.map (some b)) (hx:ev ρ x=.int kd (st:Int)) (hy:ev ρ y=fv v) (hM:sD E fv w b l k st)
  (kk:∀w',Chg [b] w w'→dI E fv w' b (fQ l k v)→aF P r K (put ρ d undef) w'):aF P (.cons ⟨d,.entryStore m x y,none⟩ r) K ρ w:=by
 obtain ⟨es,clock,i,hat,hwf,⟨hi,hst⟩,hall,hn⟩:=hM
 refine gV ⟨b,es,clock,kd,st,i,hm,hat,hx,find_born hwf hi (by rw [hst]),?_⟩
 rw [hy]
 exact kk _ (Chg.setObj _ _ _) ⟨_,_,hat.setObj,aFp hwf _ _ (fun _=>rfl),hall v,aFu hn⟩
end
def aE5 (E:KEnc κ) (fv:β→Value) (w:World) (it b:Nat) (left:List (κ × β)):Prop:=
 ∃es clock seen,At w it (.mapIter (some b) clock seen clock)∧At w b (.map es clock)∧Wf es clock∧(es.toList.filter fun e=>!seen.contains e.born).map (fun e=>(e.key,e.val))=left.map (fun p=>(E.f p.1,fv p.2))
def aQy (E:KEnc κ) (fv:β→Value) (w:World) (it b:Nat) (p:κ × β):Prop:=
 ∃es clock seen st e,At w it (.mapIter (some b) clock seen clock)∧At w b (.map es clock)∧seen.back? =some st∧es.find? (·.born==st)=some e∧e.key=E.f p.1∧e.val=fv p.2
theorem aE5.chg {s:List Nat} {w w':World} {it b:Nat} {l:List (κ × β)} (hc:Chg s w w') (h:aE5 E fv w it b l) (h1:it∉s) (h2:b∉s):aE5 E fv w' it b l:=by
 obtain ⟨es,clock,seen,a1,a2,r⟩:=h;exact ⟨es,clock,seen,a1.chg hc h1,a2.chg hc h2,r⟩
theorem aE5.ext {w w':World} {it b:Nat} {l:List (κ × β)} (hc:Ext w w') (h:aE5 E fv w it b l):aE5 E fv w' it b l:=h.chg hc (by simp) (by simp)
theorem aQy.ext {w w':World} {it b:Nat} {p:κ × β} (hc:Ext w w') (h:aQy E fv w it b p):aQy E fv w' it b p:=by
 obtain ⟨es,clock,seen,st,e,a1,a2,r⟩:=h;exact ⟨es,clock,seen,st,e,a1.ext hc,a2.ext hc,r⟩
section
variable {d:Option Tmp} {r:KR} {K:Env→World→Prop} {ρ:Env} {w:World}
theorem bL3 {x:Operand} {b:Nat} {l:List (κ × β)} (hx:ev ρ x=.map (some b)) (hM:dI E fv w b l)
  (k:∀it w',Ext w w'→aE5 E fv w' it b l→w.heap.size≤it→aF P r K (put ρ d (.pointer (some ⟨it,0,none⟩))) w'):aF P (.cons ⟨d,.rangeMap x,none⟩ r) K ρ w:=by
 obtain ⟨es,clock,hat,hwf,heq,hn⟩:=hM
 refine gV ⟨b,es,clock,hx,hat,k _ _ (Ext.alloc w _) ⟨es,clock,#[],At.new w _,hat.ext (Ext.alloc w _),hwf,?_⟩ (Nat.le_refl _)⟩
 rw [List.filter_eq_self.2 (by simp)];exact heq
theorem bOf {x:Operand} {it b:Nat} {left:List (κ × β)} (hx:ev ρ x=.pointer (some ⟨it,0,none⟩)) (h:aE5 E fv w it b left)
  (k1:left= []→∀w',Ext w w'→aF P r K (put ρ d (.tuple #[.bool false])) w')
  (k2:∀a p c,left=a++p::c→∀w',Chg [it] w w'→aE5 E fv w' it b (a++c)→aQy E fv w' it b p→aF P r K (put ρ d (.tuple #[.bool true,E.f p.1,fv p.2])) w'):aF P (.cons ⟨d,.nextMap x,none⟩ r) K ρ w:=by
 obtain ⟨es,clock,seen,a1,a2,hwf,heq⟩:=h
 have hne:it≠b:=a1.ne a2 (by simp)
 refine gV ⟨it,b,clock,seen,clock,es,clock,hx,a1,a2,fun e he=>hwf.lt e (by simpa using he),rfl,?_,fun he w' hw'=>?_,fun e he w' hw'=>?_⟩
 ·by_cases h0:es.isEmpty=true
  ·exact .inr (.inl h0)
  ·have:0<es.size:=by
    rcases Nat.eq_zero_or_pos es.size with h|h
    ·exact absurd (by simpa using h) h0
    ·exact h
   exact .inr (.inr ⟨es[0],Array.getElem_mem this,hwf.lt _ (by simp)⟩)
 ·have hl:left= []:=by
   have h1:(es.toList.filter fun e=>!seen.contains e.born)= []:=by
    have:(es.filter fun e=>!seen.contains e.born)=#[]:=by simpa using he
    rw [←Array.toList_filter,this]
   rw [h1] at heq
   simpa using heq.symm
  refine k1 hl w' ?_
  rcases hw' with rfl|rfl
  ·exact Ext.refl _
  ·exact Ext.drew w
 ·have hx':Ext w w':=by
   rcases hw' with rfl|rfl
   ·exact Ext.refl _
   ·exact Ext.drew w
  have he':e∈es.toList.filter fun e=>!seen.contains e.born:=by rw [←Array.toList_filter];simpa using he
  obtain ⟨fa,fc,hfac⟩:=List.append_of_mem he'
  rw [hfac,List.map_append,List.map_cons] at heq
  obtain ⟨a,c',hleft,ha,hc'⟩:=List.map_eq_append_iff.1 heq.symm
  obtain ⟨p,c,rfl,hp,hc⟩:=List.map_eq_cons_iff.1 hc'
  simp only [Prod.mk.injEq] at hp
  have hnot:e.born∉seen:=by
   have:=(List.mem_filter.1 he').2
   simpa using this
  have hmem:e∈es.toList:=(List.mem_filter.1 he').1
  rw [←hp.1,←hp.2]
  have hnd:(es.toList.map (·.born)).Nodup:=by
   rw [List.nodup_iff_pairwise_ne,List.pairwise_map]
   exact hwf.births.imp fun h=>by omega
  have hfilter:(es.toList.filter fun e'=>!(seen.push e.born).contains e'.born)=fa++fc:=by
   have h1:(es.toList.filter fun e'=>!(seen.push e.born).contains e'.born)=(es.toList.filter fun e=>!seen.contains e.born).filter fun e'=>decide (e'.born≠e.born):=by
    rw [List.filter_filter]
    congr 1
    funext e'
    by_cases h2:e'.born=e.born<;>simp [h2,Bool.and_comm]
   rw [h1,hfac]
   have hnd2:((fa++e::fc).map (·.born)).Nodup:=by rw [←hfac];exact (List.Sublist.map _ List.filter_sublist).nodup hnd
   rw [List.map_append,List.map_cons,List.nodup_append] at hnd2
   obtain ⟨_,n2,n3⟩:=hnd2
   rw [List.nodup_cons] at n2
   rw [List.filter_append,List.filter_cons]
   simp only [ne_eq,not_true_eq_false,decide_false,Bool.false_eq_true,if_false]
   congr 1
   ·exact List.filter_eq_self.2 fun q hq=>by
     have:=n3 q.born (List.mem_map.2 ⟨q,hq,rfl⟩) e.born (by simp)
     simpa using this
   ·exact List.filter_eq_self.2 fun q hq=>by
     have:q.born≠e.born:=fun h=>n2.1 (List.mem_map.2 ⟨q,hq,h⟩)
     simpa using this
  have a1':At w' it (.mapIter (some b) clock seen clock):=a1.ext hx'
  have hc1:Chg [it] w (eG w' it (.mapIter (some b) clock (seen.push e.born) clock)):=hx'.chg (Chg.setObj w' it _)
  have b1:At (eG w' it (.mapIter (some b) clock (seen.push e.born) clock)) it (.mapIter (some b) clock (seen.push e.born) clock):=a1'.setObj
  have b2:At (eG w' it (.mapIter (some b) clock (seen.push e.born) clock)) b (.map es clock):=a2.chg hc1 (by simpa using hne.symm)
  refine k2 a p c hleft _ hc1 ⟨es,clock,seen.push e.born,b1,b2,hwf,?_⟩ ⟨es,clock,seen.push e.born,e.born,e,b1,b2,by simp,?_,hp.1.symm,hp.2.symm⟩
  ·rw [hfilter,List.map_append,←ha,←hc,List.map_append]
  ·rw [←Array.find?_toList,List.find?_eq_some_iff_append]
   refine ⟨by simp,?_⟩
   obtain ⟨p1,p2,hpp⟩:=List.append_of_mem hmem
   refine ⟨p1,p2,hpp,fun q hq=>?_⟩
   have hb:=hwf.births
   rw [hpp,List.pairwise_append] at hb
   have:=hb.2.2 q hq e (by simp)
   simp;omega
theorem bMo {x:Operand} {it b:Nat} {p:κ × β} (hx:ev ρ x=.pointer (some ⟨it,0,none⟩)) (h:aQy E fv w it b p) (k:aF P r K (put ρ d (.tuple #[E.f p.1,fv p.2])) w):aF P (.cons ⟨d,.entry x,none⟩ r) K ρ w:=by
 obtain ⟨es,clock,seen,st,e,a1,a2,hs,hf,h1,h2⟩:=h
 exact gV ⟨it,b,clock,seen,clock,st,es,e,hx,a1,hs,a2,hf,by rw [h1,h2];exact k⟩
end
end
section
open Go
variable {P:Program}
def tV (ρ:Env):List (Tmp × Value)→Env
 | []=>ρ
 |(t,v)::l=>upd (tV ρ l) t v
def Has (ρ:Env):List (Tmp × Value)→Prop
 | []=>True
 |(t,v)::l=>ρ t=v∧Has ρ l
theorem aFh {ρ:Env}:∀{l:List (Tmp × Value)},Has ρ l→tV ρ l=ρ
 | [],_=>rfl
 |(t,v)::l,h=>by
  simp only [tV]
  rw [aFh h.2];exact aDu h.1
theorem least {p:Nat→Prop}:∀n,p n→∃m,p m∧∀k,p k→m≤k
 |n,h=>by
  by_cases hx:∃k,k<n∧p k
  ·obtain ⟨k,hk,hp⟩:=hx
   exact least k hp
  ·exact ⟨n,h,fun k hk=>Nat.le_of_not_lt fun hl=>hx ⟨k,hl,hk⟩⟩
theorem aI {K:Exit→Env→World→Prop} {ρ:Env} {w:World} {a:KC} {σ:Type} (I:σ→World→Prop) (E:σ→List (Tmp × Value)) (μ:σ→Nat) (s0:σ) (h0:Has ρ (E s0)) (hI:I s0 w)
  (h:∀s ρ w,I s w→aP P a (aGq (fun ρ' w'=>∃s',Has ρ' (E s')∧I s' w'∧μ s'<μ s) K) (tV ρ (E s)) w):aP P (.loop a) K ρ w:=by
 have key:∀ρ w,∃m:Nat,(∃s,Has ρ (E s)∧I s w)→(∃s,Has ρ (E s)∧I s w∧μ s=m)∧∀s,Has ρ (E s)→I s w→m≤μ s:=by
  intro ρ w
  by_cases hx:∃s,Has ρ (E s)∧I s w
  ·obtain ⟨s,h1,h2⟩:=hx
   obtain ⟨m,hm,hl⟩:=least (p:=fun n=>∃s,Has ρ (E s)∧I s w∧μ s=n) _ ⟨s,h1,h2,rfl⟩
   exact ⟨m,fun _=>⟨hm,fun s h1 h2=>hl _ ⟨s,h1,h2,rfl⟩⟩⟩
  ·exact ⟨0,fun h=>absurd h hx⟩
 refine bRs (fun ρ w=>∃s,Has ρ (E s)∧I s w) (fun ρ w=>Classical.choose (key ρ w)) ⟨s0,h0,hI⟩ ?_
 intro ρ w hs
 obtain ⟨⟨s,h1,h2,h3⟩,_⟩:=Classical.choose_spec (key ρ w) hs
 have:=h s ρ w h2
 rw [aFh h1] at this
 refine hZ a (fun e ρ' w' he=>?_) this
 cases e with
 |normal=>
  simp only [aGq] at he ⊢
  obtain ⟨s',g1,g2,g3⟩:=he
  refine ⟨⟨s',g1,g2⟩,?_⟩
  have:=(Classical.choose_spec (key ρ' w') ⟨s',g1,g2⟩).2 s' g1 g2
  omega
 |_=>simpa only [aGq] using he
theorem lD {K:Exit→Env→World→Prop} {ρ:Env} {w:World} {a b:KC} {σ:Type} (J:σ→World→Prop) (E:σ→List (Tmp × Value))
  (h:aP P a (aGq (fun ρ' w'=>∃s,Has ρ' (E s)∧J s w') K) ρ w) (h2:∀s ρ w,J s w→aP P b K (tV ρ (E s)) w):aP P (.seq a b) K ρ w:=
 bR5 (fun ρ w=>∃s,Has ρ (E s)∧J s w) h fun ρ w ⟨s,h1,h3⟩=>by have:=h2 s ρ w h3;rwa [aFh h1] at this
theorem bD {ρ:Env} {w:World} {n c:Nat} {ad:Addr} {cs:List Value} (r:Row w ad cs) (hc:ρ c=.pointer (some ad)) (hn:cs.length=n):aHd ρ w (.cellN n c)=some (.agg cs.toArray):=by
 simp only [aHd,hc]
 rw [r.r0 (n:=n) (l:=cs) (by omega) (by rw [←hn,List.take_length])];rfl
theorem bJ {ρ:Env} {w:World} {t:Nat}:aHd ρ w (.tmp t)=some (ρ t):=rfl
theorem aOp {ρ:Env} {w:World} {x:RV} {a:Value} (h:aHd ρ w x=some a):aCu ρ w [x]=some a:=h
theorem iR {ρ:Env} {w:World} {x y:RV} {a b:Value} (h1:aHd ρ w x=some a) (h2:aHd ρ w y=some b):aCu ρ w [x,y]=some (.tuple #[a,b]):=by simp [aCu,aEa,h1,h2]
theorem aYv {ρ:Env} {w:World} {x y z:RV} {a b c:Value} (h1:aHd ρ w x=some a) (h2:aHd ρ w y=some b) (h3:aHd ρ w z=some c):aCu ρ w [x,y,z]=some (.tuple #[a,b,c]):=by simp [aCu,aEa,h1,h2,h3]
section
variable {d:Option Tmp} {r:KR} {K:Env→World→Prop} {ρ:Env} {w:World}
theorem cR {op:BinOp} {x y:Operand} {a b v:Value} (hx:ev ρ x=a) (hy:ev ρ y=b) (h:bZ op a b=some v) (k:aF P r K (put ρ d v) w):aF P (.cons ⟨d,.bin op x y,none⟩ r) K ρ w:=
 dH rfl (by simp [KOp.fix,hx,hy,h]) k
theorem bRa {x y:Operand} {kd kd':IntKind} {a b:Int} (hx:ev ρ x=.int kd a) (hy:ev ρ y=.int kd' b) (h:0≤b) (k:aF P r K (put ρ d (.int kd (a.fdiv (2^(min b.toNat kd.bits))))) w):aF P (.cons ⟨d,.bin .shr x y,none⟩ r) K ρ w:=
 cR hx hy (by simp only [bZ,dY,if_true];rw [if_neg (by omega)]) k
theorem bRz {x y:Operand} {a b:ByteArray} (hx:ev ρ x=.string a) (hy:ev ρ y=.string b) (h:a.size+b.size≤9223372036854775807) (k:aF P r K (put ρ d (.string (a++b))) w):aF P (.cons ⟨d,.bin .add x y,none⟩ r) K ρ w:=
 cR hx hy (by simp only [bZ,bDq];rw [if_neg (by have:IntKind.i64.max=9223372036854775807:=rfl;rw [this];omega)]) k
theorem aH3 {x y:Operand} {a b:Int} (hx:ev ρ x=.int .i64 a) (hy:ev ρ y=.int .i64 b) (k:aF P r K (put ρ d (.int .i64 (min a b))) w):aF P (.cons ⟨d,.minmax false x [y],none⟩ r) K ρ w:=
 dH rfl (by
  have e:(if b<a then b else a)=min a b:=by split<;>omega
  simp only [KOp.fix,List.foldl_cons,List.foldl_nil,hx,hy,Option.bind_some,sE,Bool.false_eq_true,if_false,e]) k
theorem bJ6 {α:Type} {E:Enc α} {size:Nat} {x h:Operand} {v:Value} {l:List α} {kd:IntKind} {n:Nat} {w1:World} (hx:ev ρ x=v) (hh:ev ρ h=.int kd (n:Nat)) (hs:SlE E w1 v l) (hn:n≤l.length) (hk:size=E.k)
  (k:∀v',SlE E w1 v' (l.take n)→(∀b∈aB v',b∈aB v)→aF P r K (put ρ d v') w):aF P (.cons ⟨d,.sliceSl size x none (some h),none⟩ r) K ρ w:=by
 subst hk
 obtain ⟨hl,base,cap,rfl,hc,hr⟩:=hs
 have h2:=SlE.cut (E:=E) (lo:=0) (hi:=n) ⟨hl,base,cap,rfl,hc,hr⟩ (Nat.zero_le _) hn (cap - 0) (by omega)
 refine dH rfl (v:=.slice (if cap=0 then base else base.map fun ad:Addr=>ad.add (0*E.k)) (n - 0) (cap - 0)) ?_ (k _ (by simpa using h2) ?_)
 ·simp only [KOp.fix,hx,hh,Option.bind_some,Option.map_some]
  rw [if_pos (by omega)];simp
 ·intro b hb
  cases base with
  |none=>simp [aB] at hb
  |some a=>split at hb<;>simpa [aB,add_zero] using hb
theorem bRp (m:Int):∃b:UInt8,IntKind.u8.wrap m=(b.toNat:Int):=by
 have h:IntKind.u8.wrap m=m%256:=rfl
 refine ⟨UInt8.ofNat (m%256).toNat,?_⟩
 rw [h]
 have h1:(m%256).toNat<256:=by omega
 simp only [UInt8.toNat_ofNat']
 rw [Nat.mod_eq_of_lt (by simpa using h1)];omega
theorem bKj {x:Operand} {v:Value} {a:Option Addr} {n c:Nat} {bs:List UInt8} (hx:ev ρ x=v) (hv:v=.slice a n c) (h:dK w 1 v=some (n,bs.map fun b:UInt8=>Value.int .u8 b.toNat)) (k:aF P r K (put ρ d (.string ⟨bs.toArray⟩)) w):aF P (.cons ⟨d,.strOf x,none⟩ r) K ρ w:=
 gV ⟨a,n,c,bs,by rw [hx,hv],by rw [hx];exact h,k⟩
theorem dX {b n k:Nat} {cs:List Value} {t:TypeId} (h:At w b (.cells cs.toArray t (0,0))) (hl:cs.length=n*k):dK w k (.slice (some ⟨b,0,none⟩) n n)=some (n,cs):=
 Sl.cells ⟨hl,_,_,rfl,Nat.le_refl _,fun _=>⟨_,rfl,Row.of_at h⟩⟩
theorem iK {vs:List Value} (h:vs.all (fun v=>v.oneCell')=true):∀v∈vs,v.oneCell'=true:=fun v hv=>List.all_eq_true.1 h v hv
theorem bKz {t:TypeId} {z vs:List Value} {d':Tmp} {n:Nat} {y:Operand} (hy:∀p,ev (upd ρ d' p) y=.agg vs.toArray) (hn:vs.length=n) (hz:z.length=n) (h1:vs.all (fun v=>v.oneCell')=true)
  (k:∀b w',Ext w w'→At w' b (.cells vs.toArray t (0,0))→Row w' ⟨b,0,none⟩ vs→w.heap.size≤b→aF P r K (put ρ (some d') (.pointer (some ⟨b,0,none⟩))) w'):
  aF P (.cons ⟨some d',.alloc t z,none⟩ (.cons ⟨none,.storeN n (.tmp d') y,none⟩ r)) K ρ w:=
 aBb fun b w1 x1 a1 hb=>bX (by simp [ev,put,upd]) (hy _) hn (iK h1) a1 hz fun w2 c2 a2=>
  k b w2 ((x1.chg c2).mono (by simp;omega)) a2 (Row.of_at a2) hb
theorem aT2 {t:TypeId} {z vs:List Value} {d' e:Tmp} {n:Nat} {x y:Operand} {v:Value} (hx:∀p,ev (upd ρ d' p) x=v) (hy:∀p,ev (upd (upd ρ d' p) e v) y=.agg vs.toArray) (he:Nat.beq d' e=false) (hn:vs.length=n) (hz:z.length=n) (h1:vs.all (fun v=>v.oneCell')=true)
  (k:∀b w',Ext w w'→At w' b (.cells vs.toArray t (0,0))→Row w' ⟨b,0,none⟩ vs→w.heap.size≤b→aF P r K (put (put ρ (some d') (.pointer (some ⟨b,0,none⟩))) (some e) v) w'):
  aF P (.cons ⟨some d',.alloc t z,none⟩ (.cons ⟨some e,.move x,none⟩ (.cons ⟨none,.storeN n (.tmp d') y,none⟩ r))) K ρ w:=
 aBb fun b w1 x1 a1 hb=>bFp (by
  have hxx:=hx (.pointer (some ⟨b,0,none⟩))
  simp only [put] at hxx ⊢
  rw [hxx]
  have hne:d'≠e:=fun h=>by rw [h] at he;simp at he
  refine bX (by simp [ev,upd,hne]) (hy _) hn (iK h1) a1 hz fun w2 c2 a2=>?_
  exact k b w2 ((x1.chg c2).mono (by simp;omega)) a2 (Row.of_at a2) hb)
theorem bDc {t1 t2:TypeId} {z1 z2 vs1 vs2:List Value} {d1 d2:Tmp} {n1 n2:Nat} {y1 y2:Operand} (hne:Nat.beq d1 d2=false) (hy1:∀p q,ev (upd (upd ρ d1 p) d2 q) y1=.agg vs1.toArray) (hy2:∀p q,ev (upd (upd ρ d1 p) d2 q) y2=.agg vs2.toArray)
  (hn1:vs1.length=n1) (hn2:vs2.length=n2) (hz1:z1.length=n1) (hz2:z2.length=n2) (h1:vs1.all (fun v=>v.oneCell')=true) (h2:vs2.all (fun v=>v.oneCell')=true)
  (k:∀b1 b2 w',Ext w w'→Row w' ⟨b1,0,none⟩ vs1→Row w' ⟨b2,0,none⟩ vs2→w.heap.size≤b1→w.heap.size≤b2→aF P r K (put (put ρ (some d1) (.pointer (some ⟨b1,0,none⟩))) (some d2) (.pointer (some ⟨b2,0,none⟩))) w'):
  aF P (.cons ⟨some d1,.alloc t1 z1,none⟩ (.cons ⟨some d2,.alloc t2 z2,none⟩ (.cons ⟨none,.storeN n1 (.tmp d1) y1,none⟩ (.cons ⟨none,.storeN n2 (.tmp d2) y2,none⟩ r)))) K ρ w:=
 aBb fun b1 w1 x1 a1 hb1=>aBb fun b2 w2 x2 a2 hb2=>by
  have hd:d1≠d2:=fun h=>by rw [h] at hne;simp at hne
  have hlt:=a1.lt
  have hs:=x1.size
  refine bX (by simp [ev,put,upd,hd]) (hy1 _ _) hn1 (iK h1) (a1.ext x2) hz1 fun w3 c3 a3=>?_
  refine bX (by simp [ev,put,upd]) (hy2 _ _) hn2 (iK h2) (a2.chg c3 (by simp;omega)) hz2 fun w4 c4 a4=>?_
  exact k b1 b2 w4 (((x1.trans x2).chg (c3.trans c4)).mono (by intro b hb;simp at hb ⊢;omega)) (Row.of_at (a3.chg c4 (by simp;omega))) (Row.of_at a4) hb1 (by omega)
theorem aU {w0:World} {n:Nat} {x y:Operand} {b:Nat} {t:TypeId} {cur vs:List Value} (x0:Ext w0 w) (hb:w0.heap.size≤b) (h:At w b (.cells cur.toArray t (0,0))) (hx:ev ρ x=.pointer (some ⟨b,0,none⟩)) (hy:ev ρ y=.agg vs.toArray) (hn:vs.length=n) (hl:cur.length=n) (h1:vs.all (fun v=>v.oneCell')=true)
  (k:∀w',Ext w0 w'→Chg [b] w w'→At w' b (.cells vs.toArray t (0,0))→Row w' ⟨b,0,none⟩ vs→aF P r K (put ρ d undef) w'):aF P (.cons ⟨d,.storeN n x y,none⟩ r) K ρ w:=
 bX hx hy hn (iK h1) h hl fun w2 c2 a2=>k w2 ((x0.chg c2).mono (by simp;omega)) c2 a2 (Row.of_at a2)
theorem SlE.new {α:Type} {E:Enc α} {b n c:Nat} {l:List α} {t:TypeId} (h:At w b (.cells (E.flat l).toArray t (0,0))) (hl:n=l.length) (hc:n≤c):SlE E w (.slice (some ⟨b,0,none⟩) n c) l:=by
 subst hl
 exact ⟨E.flat_length l,_,_,rfl,hc,fun _=>⟨_,rfl,Row.of_at h⟩⟩
end
end
section
open Go
variable {P:Program}
inductive All2 {α β:Type} (r:α→β→Prop):List α→List β→Prop
 |nil:All2 r [] []
 |cons {a b as bs}:r a b→All2 r as bs→All2 r (a::as) (b::bs)
section
variable {α β:Type} {r:α→β→Prop}
theorem All2.length:∀{l:List α} {m:List β},All2 r l m→l.length=m.length
 |_,_,.nil=>rfl
 |_,_,.cons _ h=>by simp [h.length]
theorem All2.mono {r':α→β→Prop} (hr:∀a b,r a b→r' a b):∀{l:List α} {m:List β},All2 r l m→All2 r' l m
 |_,_,.nil=>.nil
 |_,_,.cons h t=>.cons (hr _ _ h) (t.mono hr)
theorem All2.append:∀{l l':List α} {m m':List β},All2 r l m→All2 r l' m'→All2 r (l++l') (m++m')
 |_,_,_,_,.nil,h=>h
 |_,_,_,_,.cons h t,h'=>.cons h (t.append h')
theorem All2.get:∀{l:List α} {m:List β},All2 r l m→∀(i:Nat) (h:i<l.length) (h':i<m.length),r l[i] m[i]
 |_,_,.cons h _,0,_,_=>h
 |_,_,.cons _ t,i+1,h,h'=>t.get i (by simpa using h) (by simpa using h')
theorem All2.take:∀{l:List α} {m:List β} (n:Nat),All2 r l m→All2 r (l.take n) (m.take n)
 |_,_,0,_=>by simpa using All2.nil
 |_,_,_+1,.nil=>by simpa using All2.nil
 |_,_,n+1,.cons h t=>by simpa using All2.cons h (t.take n)
theorem All2.drop:∀{l:List α} {m:List β} (n:Nat),All2 r l m→All2 r (l.drop n) (m.drop n)
 |_,_,0,h=>by simpa using h
 |_,_,_+1,.nil=>by simpa using All2.nil
 |_,_,n+1,.cons _ t=>by simpa using t.drop n
theorem All2.left_nil {m:List β} (h:All2 r [] m):m= []:=by cases h;rfl
theorem All2.right_nil {l:List α} (h:All2 r l []):l= []:=by cases h;rfl
theorem All2.split:∀{l l':List α} {m:List β},All2 r (l++l') m→∃m1 m2,m=m1++m2∧All2 r l m1∧All2 r l' m2
 | [],_,m,h=>⟨[],m,rfl,.nil,h⟩
 |_::_,_,_,.cons h t=>by
  obtain ⟨m1,m2,rfl,h1,h2⟩:=t.split
  exact ⟨_::m1,m2,rfl,.cons h h1,h2⟩
end
structure R (α:Type) where
 k:Nat
 pos:0<k
 ag:Bool
 rel:List Nat→World→List Value→α→Prop
 len:∀{M w cs x},rel M w cs x→cs.length=k
 one:∀{M w cs x},rel M w cs x→∀v∈cs,v.oneCell'=true
 step:∀{M M' L w w' cs x},rel M w cs x→Chg L w w'→(∀b∈L,b∈M∨w.heap.size≤b)→(∀b∈M',b∈M∨w.heap.size≤b)→rel M' w' cs x
def R.val {α:Type} (E:R α) (cs:List Value):Value:=if E.ag then .agg cs.toArray else cs.headD undef
def Vec (k:Nat):={cs:List Value // cs.length=k∧∀v∈cs,v.oneCell'=true}
def kA (k:Nat) (hk:0<k):Enc (Vec k):=⟨fun c=>c.1,k,fun c=>c.2.1,hk,fun c=>c.2.2⟩
variable {α:Type} {E:R α} {M M' L:List Nat} {w w':World}
theorem R.ext {cs:List Value} {x:α} (h:E.rel M w cs x) (c:Ext w w'):E.rel M w' cs x:=E.step h c (by simp) (fun _ h=>.inl h)
def R.vec {cs:List Value} {x:α} (h:E.rel M w cs x):Vec E.k:=⟨cs,E.len h,E.one h⟩
def R.flat (E:Enc α) (ag:Bool):R α where
 k:=E.k
 pos:=E.pos
 ag:=ag
 rel:=fun _ _ cs x=>cs=E.f x
 len:=fun h=>by rw [h];exact E.len _
 one:=fun h=>by rw [h];exact E.one _
 step:=fun h _ _ _=>h
def R.all (E:R α) (M:List Nat) (w:World) (css:List (Vec E.k)) (l:List α):Prop:=All2 (fun c x=>E.rel M w c.1 x) css l
def SlR (E:R α) (M:List Nat) (w:World) (v:Value) (l:List α):Prop:=
 ∃css,SlE (kA E.k E.pos) w v css∧E.all M w css l∧(0<l.length→∀b∈aB v,b∉M)
section
variable {v:Value} {l:List α}
theorem SlR.form (h:SlR E M w v l):∃base cap,v=.slice base l.length cap:=by
 obtain ⟨css,h1,h2,_⟩:=h
 obtain ⟨base,cap,rfl⟩:=h1.form
 exact ⟨base,cap,by rw [h2.length]⟩
theorem SlE.anyw {F:Enc α} (h:SlE F w v []):SlE F w' v []:=by
 obtain ⟨h1,base,cap,hv,hc,_⟩:=h
 exact ⟨h1,base,cap,hv,hc,fun hp=>by simp [Enc.flat] at hp⟩
theorem SlE.blk_lt {F:Enc α} (h:SlE F w v l) (hp:0<l.length):∀b∈aB v,b<w.heap.size:=by
 obtain ⟨h1,base,cap,rfl,hc,h2⟩:=h
 have hk:=F.pos
 have hpos:0<(F.flat l).length:=by rw [F.flat_length];exact Nat.mul_pos hp hk
 obtain ⟨a,rfl,hr⟩:=h2 hpos
 intro b hb
 simp only [aB,List.mem_singleton] at hb
 subst hb
 have:=bGs (hr 0 _ (List.getElem?_eq_getElem hpos))
 rwa [add_block] at this
theorem SlR.blk_lt (h:SlR E M w v l) (hp:0<l.length):∀b∈aB v,b<w.heap.size:=by
 obtain ⟨css,h1,h2,_⟩:=h
 exact h1.blk_lt (by rw [h2.length];exact hp)
theorem SlR.step (h:SlR E M w v l) (c:Chg L w w') (hL:∀b∈L,b∈M∨w.heap.size≤b) (hM:∀b∈M',b∈M∨w.heap.size≤b):SlR E M' w' v l:=by
 have hlt:=h.blk_lt
 obtain ⟨css,h1,h2,h3⟩:=h
 refine ⟨css,?_,h2.mono fun _ _ hr=>E.step hr c hL hM,fun hp b hb hm=>?_⟩
 ·by_cases hp:0<l.length
  ·refine h1.chg c fun a m k hv hm=>?_
   have hb:a.block∈aB v:=by rw [hv];simp [aB]
   rcases hL _ hm with h4|h4
   ·exact h3 hp _ hb h4
   ·have:=hlt hp _ hb;omega
  ·have hl:l= []:=List.length_eq_zero_iff.1 (by omega)
   subst hl
   have:=h2.right_nil
   subst this
   exact h1.anyw
 ·rcases hM b hm with h4|h4
  ·exact h3 hp b hb h4
  ·have:=hlt hp b hb;omega
theorem SlR.ext (h:SlR E M w v l) (c:Ext w w'):SlR E M w' v l:=h.step c (by simp) (fun _ h=>.inl h)
theorem SlR.sub (h:SlR E M w v l) (hm:∀b∈M',b∈M∨w.heap.size≤b):SlR E M' w v l:=h.step (Chg.refl [] w) (by simp) hm
theorem SlR.nil (M:List Nat) (w:World):SlR E M w (.slice none 0 0) []:=⟨[],SlE.nil w,.nil,fun h=>by simp at h⟩
def Enc.vec (F:Enc α) (x:α):Vec F.k:=⟨F.f x,F.len x,F.one x⟩
theorem aAi (F:Enc α):∀l:List α,(kA F.k F.pos).flat (l.map F.vec)=F.flat l
 | []=>rfl
 |x::l=>by
  have:=aAi F l
  simp only [Enc.flat,List.map_cons,List.flatMap_cons] at this ⊢
  rw [this];rfl
theorem SlE.toR {F:Enc α} {ag:Bool} (h:SlE F w v l) (hb:∀b∈aB v,b∉M):SlR (R.flat F ag) M w v l:=by
 refine ⟨l.map F.vec,?_,?_,fun _=>hb⟩
 ·show Sl w F.k v (l.map F.vec).length ((kA F.k F.pos).flat (l.map F.vec))
  rw [aAi,List.length_map];exact h
 ·clear h
  induction l with
  |nil=>exact .nil
  |cons x l ih=>exact .cons rfl ih
theorem SlR.toE {F:Enc α} {ag:Bool} (h:SlR (R.flat F ag) M w v l):SlE F w v l:=by
 obtain ⟨css,h1,h2, -⟩:=h
 have e:css=l.map F.vec:=by
  clear h1
  induction h2 with
  |nil=>rfl
  |cons hx _ ih=>rw [ih,List.map_cons];congr 1;exact Subtype.ext hx
 subst e
 have h3:Sl w F.k v (l.map F.vec).length ((kA F.k F.pos).flat (l.map F.vec)):=h1
 rw [aAi,List.length_map] at h3
 exact h3
theorem SlR.cells (h:SlR E M w v l):∃css,dK w E.k v=some (l.length,(kA E.k E.pos).flat css)∧E.all M w css l:=by
 obtain ⟨css,h1,h2,_⟩:=h
 exact ⟨css,by have:=h1.cells;rw [h2.length] at this;exact this,h2⟩
theorem SlR.cut {base:Option Addr} {n cap:Nat} (h:SlR E M w (.slice base n cap) l) {lo hi:Nat} (h1:lo≤hi) (h2:hi≤l.length) (c2:Nat) (hc2:hi - lo≤c2):
  SlR E M w (.slice (if cap=lo then base else base.map fun ad:Addr=>ad.add (lo*E.k)) (hi - lo) c2) ((l.drop lo).take (hi - lo)):=by
 obtain ⟨css,g1,g2,g3⟩:=h
 refine ⟨_,g1.cut h1 (by rw [g2.length];exact h2) c2 hc2,(g2.drop lo).take _,fun hp b hb=>?_⟩
 simp only [List.length_take,List.length_drop] at hp
 refine g3 (by omega) b ?_
 cases base with
 |none=>simp [aB] at hb
 |some a=>split at hb<;>simpa [aB,add_block] using hb
end
section
variable {d:Option Tmp} {r:KR} {K:Env→World→Prop} {ρ:Env} {v:Value} {l:List α}
theorem aFn {x:Operand} (hx:ev ρ x=v) (hs:SlR E M w v l) (k:aF P r K (put ρ d (.int .i64 (l.length:Nat))) w):aF P (.cons ⟨d,.len false x,none⟩ r) K ρ w:=by
 obtain ⟨base,cap,rfl⟩:=hs.form
 exact dH rfl (by simp [KOp.fix,hx]) k
theorem aM {size:Nat} {x i:Operand} {kd:IntKind} {n:Nat} (hx:ev ρ x=v) (hi:ev ρ i=.int kd (n:Nat)) (hs:SlR E M w v l) (hk:size=E.k) (hr:n<l.length)
  (k:∀ad cs,Row w ad cs→E.rel M w cs l[n]→aF P r K (put ρ d (.pointer (some ad))) w):aF P (.cons ⟨d,.indexAddr size x i,none⟩ r) K ρ w:=by
 obtain ⟨css,h1,h2,_⟩:=hs
 have hr':n<css.length:=by rw [h2.length];exact hr
 exact aS (E:=kA E.k E.pos) hx hi h1 hk hr' fun ad hrow=>k ad _ hrow (h2.get n hr' hr)
end
def bR (E:R α) (t:TypeId) (B:Nat) (M:List Nat) (w:World) (v:Value) (l:List α):Prop:=
 ∃css,Own (kA E.k E.pos) t B w v css∧E.all (aB v++M) w css l
section
variable {t:TypeId} {B:Nat} {v:Value} {l:List α}
theorem bR.nil (t:TypeId) (B:Nat) (M:List Nat) (w:World):bR E t B M w (.slice none 0 0) []:=⟨[],Own.nil t B w,.nil⟩
theorem bR.base (h:bR E t B M w v l):∀b∈aB v,B≤b:=by obtain ⟨_,h1,_⟩:=h;exact h1.base
theorem bR.lt (h:bR E t B M w v l):∀b∈aB v,b<w.heap.size:=by
 obtain ⟨_,h1,_⟩:=h
 rcases h1 with ⟨rfl,rfl⟩|⟨b,cap,junk,rfl,hB,hat,hl⟩<;>simp [aB]
 exact hat.lt
theorem bR.sl (h:bR E t B M w v l) (hM:∀b∈M,b∉aB v):SlR E M w v l:=by
 obtain ⟨css,h1,h2⟩:=h
 exact ⟨css,h1.sl,h2.mono fun _ _ hr=>E.step hr (Chg.refl [] w) (by simp) (fun b hb=>.inl (by simp [hb])),fun _ b hb hm=>hM b hm hb⟩
theorem bR.slB (h:bR E t B M w v l) (hM:∀b∈M,b<B):SlR E M w v l:=h.sl fun b hb hv=>by have:=hM b hb;have:=h.base b hv;omega
theorem bR.step (h:bR E t B M w v l) (c:Chg L w w') (hL:∀b∈L,b∉aB v∧(b∈M∨w.heap.size≤b)) (hM:∀b∈M',b∈M∨w.heap.size≤b):bR E t B M' w' v l:=by
 obtain ⟨css,h1,h2⟩:=h
 refine ⟨css,h1.chg c fun b hb hl=>(hL b hl).1 hb,h2.mono fun _ _ hr=>E.step hr c (fun b hb=>?_) fun b hb=>?_⟩
 ·rcases (hL b hb).2 with h|h
  ·exact .inl (by simp [h])
  ·exact .inr h
 ·rcases List.mem_append.1 hb with h|h
  ·exact .inl (by simp [h])
  ·rcases hM b h with h|h
   ·exact .inl (by simp [h])
   ·exact .inr h
theorem bR.ext (h:bR E t B M w v l) (c:Ext w w'):bR E t B M w' v l:=h.step c (by simp) (fun _ h=>.inl h)
theorem bR.lower {B':Nat} (h:bR E t B M w v l) (hb:B'≤B):bR E t B' M w v l:=by
 obtain ⟨css,h1,h2⟩:=h;exact ⟨css,h1.lower hb,h2⟩
end
section
variable {d:Option Tmp} {r:KR} {K:Env→World→Prop} {ρ:Env} {v:Value} {l l2:List α} {t:TypeId} {B:Nat}
theorem aMo {size bytes:Nat} {zero:List Value} {x y:Operand} {n:Nat} {new:List Value} {css:List (Vec E.k)} (hx:ev ρ x=v) (ho:bR E t B M w v l) (hB:B≤w.heap.size) (hk:size=E.k) (hz:zero.length=E.k)
  (hy:dK w E.k (ev ρ y)=some (n,new)) (hnew:new=(kA E.k E.pos).flat css) (ha:E.all (aB v++M) w css l2) (hn:n=l2.length) (hroom:(l.length+l2.length)*bytes≤2^47)
  (k:∀v' w',bR E t B M w' v' (l++l2)→((∀b∈M,b∉aB v)→SlR E M w' v l)→Chg (aB v) w w'→(∀b∈aB v',b∈aB v∨w.heap.size≤b)→aF P r K (put ρ d v') w'):aF P (.cons ⟨d,.append t size bytes zero x y,none⟩ r) K ρ w:=by
 subst hk
 obtain ⟨cs0,h1,h2⟩:=ho
 refine kX (E:=kA E.k E.pos) hx h1 hB rfl hz hy hnew (by rw [hn,ha.length]) (by rw [h2.length,ha.length];exact hroom) fun v' w' h3 h0 c hb=>?_
 refine k v' w' ⟨cs0++css,h3,?_⟩ (fun hM=>⟨cs0,h0,h2.mono fun _ _ hr=>E.step hr c (fun b hb=>.inl (by simp [hb])) (fun b hb=>.inl (by simp [hb])),fun _ b hb hm=>hM b hm hb⟩) c hb
 refine (h2.append ha).mono fun _ _ hr=>E.step hr c (fun b hb=>.inl (by simp [hb])) fun b h4=>?_
 rcases List.mem_append.1 h4 with h5|h5
 ·rcases hb b h5 with h6|h6
  ·exact .inl (by simp [h6])
  ·exact .inr h6
 ·exact .inl (by simp [h5])
theorem aHs {size bytes:Nat} {zero:List Value} {x y:Operand} {n:Nat} {new:List Value} {css:List (Vec E.k)} (hx:ev ρ x=v) (ho:bR E t B M w v l) (hB:B≤w.heap.size) (hk:size=E.k) (hz:zero.length=E.k)
  (hy:dK w E.k (ev ρ y)=some (n,new)) (hnew:new=(kA E.k E.pos).flat css) (ha:E.all (aB v++M) w css l2) (hn:n=l2.length) (hroom:(l.length+l2.length)*bytes≤2^47)
  (k:∀v' w',bR E t B M w' v' (l++l2)→Chg (aB v) w w'→(∀b∈aB v',b∈aB v∨w.heap.size≤b)→aF P r K (put ρ d v') w'):aF P (.cons ⟨d,.append t size bytes zero x y,none⟩ r) K ρ w:=
 aMo hx ho hB hk hz hy hnew ha hn hroom fun v' w' h1 _ h3 h4=>k v' w' h1 h3 h4
theorem bA6 {size bytes:Nat} {zero:List Value} {x y:Operand} {b:Nat} {ty:TypeId} {cs:List Value} {a:α} (hx:ev ρ x=v) (hy:ev ρ y=.slice (some ⟨b,0,none⟩) 1 1) (ho:bR E t B M w v l) (hB:B≤w.heap.size) (hk:size=E.k) (hz:zero.length=E.k)
  (hb:At w b (.cells cs.toArray ty (0,0))) (ha:E.rel (aB v++M) w cs a) (hroom:(l.length+1)*bytes≤2^47)
  (k:∀v' w',bR E t B M w' v' (l++ [a])→((∀b∈M,b∉aB v)→SlR E M w' v l)→Chg (aB v) w w'→(∀b∈aB v',b∈aB v∨w.heap.size≤b)→aF P r K (put ρ d v') w'):aF P (.cons ⟨d,.append t size bytes zero x y,none⟩ r) K ρ w:=by
 have hl:=E.len ha
 refine aMo (css:= [R.vec ha]) (l2:= [a]) hx ho hB hk hz (by rw [hy];exact dX hb (by rw [hl];simp)) (by simp only [Enc.flat,List.flatMap_cons,List.flatMap_nil,List.append_nil];rfl) (.cons ha .nil) rfl hroom k
theorem gB {size bytes:Nat} {zero:List Value} {x y:Operand} {b:Nat} {ty:TypeId} {cs:List Value} {a:α} (hx:ev ρ x=v) (hy:ev ρ y=.slice (some ⟨b,0,none⟩) 1 1) (ho:bR E t B M w v l) (hB:B≤w.heap.size) (hk:size=E.k) (hz:zero.length=E.k)
  (hb:At w b (.cells cs.toArray ty (0,0))) (ha:E.rel (aB v++M) w cs a) (hroom:(l.length+1)*bytes≤2^47)
  (k:∀v' w',bR E t B M w' v' (l++ [a])→Chg (aB v) w w'→(∀b∈aB v',b∈aB v∨w.heap.size≤b)→aF P r K (put ρ d v') w'):aF P (.cons ⟨d,.append t size bytes zero x y,none⟩ r) K ρ w:=
 bA6 hx hy ho hB hk hz hb ha hroom fun v' w' h1 _ h3 h4=>k v' w' h1 h3 h4
end
section
variable {κ β:Type} [DecidableEq κ] {KE:KEnc κ} {F:R β}
def pO (KE:KEnc κ) (F:R β) (M:List Nat) (w:World) (b:Nat) (m:List (κ × β)):Prop:=
 ∃mv:List (κ × Value),dI KE id w b mv∧All2 (fun p q=>p.1=q.1∧∃cs,p.2=F.val cs∧F.rel M w cs q.2) mv m
theorem pO.lt {b:Nat} {m:List (κ × β)} (h:pO KE F M w b m):b<w.heap.size:=by obtain ⟨mv,h1,_⟩:=h;exact h1.lt
theorem pO.step {b:Nat} {m:List (κ × β)} (h:pO KE F M w b m) (c:Chg L w w') (hb:b∉L) (hL:∀b∈L,b∈M∨w.heap.size≤b) (hM:∀b∈M',b∈M∨w.heap.size≤b):pO KE F M' w' b m:=by
 obtain ⟨mv,h1,h2⟩:=h
 exact ⟨mv,h1.chg c hb,h2.mono fun _ _ ⟨e,cs,e2,hr⟩=>⟨e,cs,e2,F.step hr c hL hM⟩⟩
theorem pO.ext {b:Nat} {m:List (κ × β)} (h:pO KE F M w b m) (c:Ext w w'):pO KE F M w' b m:=h.step c (by simp) (by simp) (fun _ h=>.inl h)
theorem aJr {r:Value→β→Prop} {k:κ}:∀{mv:List (κ × Value)} {m:List (κ × β)},All2 (fun p q=>p.1=q.1∧r p.2 q.2) mv m→
  (∀x,aL m k=some x→∃v,aL mv k=some v∧r v x)∧(aL m k=none→aL mv k=none)
 |_,_,.nil=>⟨fun x h=>by simp [aL] at h,fun _=>rfl⟩
 |(a,v)::mv,(a',x)::m,.cons ⟨h1,h2⟩ t=>by
  simp only at h1 h2
  subst h1
  have ih:=aJr (k:=k) t
  have e1:aL ((a,v)::mv) k=if a=k then some v else aL mv k:=by unfold aL;rw [List.find?_cons];by_cases h:a=k<;>simp [h]
  have e2:aL ((a,x)::m) k=if a=k then some x else aL m k:=by unfold aL;rw [List.find?_cons];by_cases h:a=k<;>simp [h]
  rw [e1,e2]
  by_cases h:a=k
  ·rw [if_pos h,if_pos h]
   exact ⟨fun y hy=>⟨v,rfl,by simp at hy;subst hy;exact h2⟩,fun h=>by cases h⟩
  ·rw [if_neg h,if_neg h];exact ih
theorem bBa {r:Value→β→Prop} {k:κ} {v:Value} {x:β} (hv:r v x):∀{mv:List (κ × Value)} {m:List (κ × β)},All2 (fun p q=>p.1=q.1∧r p.2 q.2) mv m→
  All2 (fun p q=>p.1=q.1∧r p.2 q.2) (fQ mv k v) (fQ m k x)
 |_,_,.nil=>.cons ⟨rfl,hv⟩ .nil
 |p::mv,q::m,.cons hx t=>by
  have ih:=bBa (k:=k) hv t
  unfold fQ
  by_cases h:q.1=k
  ·rw [if_pos h,if_pos (hx.1.trans h)];exact .cons ⟨rfl,hv⟩ t
  ·rw [if_neg h,if_neg (fun e=>h (hx.1.symm.trans e))];exact .cons hx ih
theorem bMh {r:Value→β→Prop} {k:κ} {mv:List (κ × Value)} {m:List (κ × β)} (h:All2 (fun p q=>p.1=q.1∧r p.2 q.2) mv m):All2 (fun p q=>p.1=q.1∧r p.2 q.2) (jL mv k) (jL m k):=by
 unfold jL
 induction h with
 |nil=>exact .nil
 |cons hx t ih=>
  rw [List.filter_cons,List.filter_cons,hx.1]
  split
  ·exact .cons hx ih
  ·exact ih
end
end
section
open Go
def cD (a:Int):Bool:=decide (0≤a∧a≤2100000000000000)
theorem bN (a:Int):cD a=true↔0≤a∧a≤2100000000000000:=by simp [cD]
def jO (a b:Int):Bool:=cD a&&cD b&&cD (a+b)
abbrev W32:=BitVec 32
def u32 (x:W32):Value:=.int .u32 (x.toNat:Nat)
theorem wrap32 (m:Int):IntKind.u32.wrap m=m%4294967296:=rfl
theorem mO (x:W32):BitVec.ofInt 32 (x.toNat:Nat)=x:=by
 apply BitVec.eq_of_toNat_eq
 simp [BitVec.toNat_ofInt]
theorem aKt {op:BinOp} {a b:W32} {c:W32} (h:dS op .u32 (a.toNat:Nat) (b.toNat:Nat)=some (.int .u32 (c.toNat:Nat))) (hs:dY op=false):bZ op (u32 a) (u32 b)=some (u32 c):=by
 simp only [u32,bZ,hs,Bool.false_eq_true,if_false,if_true];exact h
theorem aK1 (c:W32):IntKind.u32.wrap (c.toNat:Nat)=(c.toNat:Nat):=by
 rw [wrap32];exact Int.emod_eq_of_lt (by omega) (by have:=c.isLt;omega)
theorem bPs (a b:W32):bZ .add (u32 a) (u32 b)=some (u32 (a+b)):=aKt (by
 simp only [dS,wrap32,BitVec.toNat_add]
 exact congrArg some (congrArg (Value.int .u32) (by omega))) rfl
theorem bN6 (a b:W32):bZ .and (u32 a) (u32 b)=some (u32 (a&&& b)):=aKt (by
 simp only [dS,IntKind.bits];rw [mO,mO]
 exact congrArg some (congrArg (Value.int .u32) (aK1 (a&&& b)))) rfl
theorem bE4 (a b:W32):bZ .or (u32 a) (u32 b)=some (u32 (a|||b)):=aKt (by
 simp only [dS,IntKind.bits];rw [mO,mO]
 exact congrArg some (congrArg (Value.int .u32) (aK1 (a|||b)))) rfl
theorem bO4 (a b:W32):bZ .xor (u32 a) (u32 b)=some (u32 (a^^^b)):=aKt (by
 simp only [dS,IntKind.bits];rw [mO,mO]
 exact congrArg some (congrArg (Value.int .u32) (aK1 (a^^^b)))) rfl
theorem aWq (a:W32) (k:IntKind) (n:Nat) (h:n<32):bZ .shr (u32 a) (.int k (n:Nat))=some (u32 (a>>>n)):=by
 simp only [u32,bZ,dY,if_true]
 rw [if_neg (by omega)]
 have e:min ((n:Int).toNat) IntKind.u32.bits=n:=by simp [IntKind.bits];omega
 simp only [e,BitVec.toNat_ushiftRight,Nat.shiftRight_eq_div_pow]
 congr 2
 rw [Int.fdiv_eq_ediv_of_nonneg _ (by exact_mod_cast Nat.zero_le _)]
 norm_cast
theorem aWe (a:W32) (k:IntKind) (n:Nat) (h:n<32):bZ .shl (u32 a) (.int k (n:Nat))=some (u32 (a<<<n)):=by
 simp only [u32,bZ,dY,if_true]
 rw [if_neg (by omega)]
 have e:min ((n:Int).toNat) IntKind.u32.bits=n:=by simp [IntKind.bits];omega
 simp only [e,BitVec.toNat_shiftLeft,Nat.shiftLeft_eq,wrap32]
 congr 2
def rot (x:W32) (n:Nat):W32:=x>>>n|||x<<<(32 - n)
theorem bPp (n:Nat) (h0:0<n) (h:n<32):bZ .and (.int .u64 (IntKind.u64.wrap (-(n:Int)))) (.int .u64 31)=some (.int .u64 ((32 - n:Nat):Int)):=by
 have key:∀n:Nat,n<32→0<n→IntKind.u64.wrap (BitVec.ofInt 64 (IntKind.u64.wrap (-(n:Int)))&&& BitVec.ofInt 64 31).toNat=((32 - n:Nat):Int):=by decide+kernel
 simp only [bZ,dY,Bool.false_eq_true,if_false,if_true,dS,IntKind.bits]
 exact congrArg some (congrArg (Value.int .u64) (key n h h0))
def aU8:List Value→Option Value
 | [.int .i64 a]=>some (.bool (cD a))
 |_=>none
def aUc (m:Int):List Value→Option Value
 | [.int .i64 a,.int .i64 b]=>some (.bool (decide (m≤a∧a≤b)))
 |_=>none
def bRv:=aUc 0
def bQ5:=aUc 1
def bEf (k:IntKind):List Value→Option Value
 | [.int .u32 a,.int k' n]=>if k'=k∧0≤a∧a<4294967296∧0<n∧n<32 then some (u32 (rot (BitVec.ofInt 32 a) n.toNat)) else none
 |_=>none
def bSp:=bEf .i64
def bSc:=bEf .u64
theorem fW (x:W32) (k:IntKind) (n:Nat) (h0:0<n) (h:n<32):bEf k [u32 x,.int k (n:Nat)]=some (u32 (rot x n)):=by
 have:=x.isLt
 simp only [bEf,u32]
 rw [if_pos (by simp;omega),mO];rfl
theorem qG (a:Int):aU8 [.int .i64 a]=some (.bool (cD a)):=rfl
theorem qF (m a b:Int):aUc m [.int .i64 a,.int .i64 b]=some (.bool (decide (m≤a∧a≤b))):=rfl
attribute [irreducible] aU8 aUc bEf
end
section
open Go
theorem SlE.x {α:Type} {E:Enc α} {w w':World} {v:Value} {l:List α} (c:Ext w w') (h:SlE E w v l):SlE E w' v l:=h.ext c
theorem SlR.x {α:Type} {E:R α} {M:List Nat} {w w':World} {v:Value} {l:List α} (c:Ext w w') (h:SlR E M w v l):SlR E M w' v l:=h.ext c
theorem bR.x {α:Type} {E:R α} {t:TypeId} {B:Nat} {M:List Nat} {w w':World} {v:Value} {l:List α} (c:Ext w w') (h:bR E t B M w v l):bR E t B M w' v l:=h.ext c
theorem R.x {α:Type} {E:R α} {M:List Nat} {w w':World} {cs:List Value} {x:α} (c:Ext w w') (h:E.rel M w cs x):E.rel M w' cs x:=E.step h c (by simp) (fun _ h=>.inl h)
theorem pO.x {κ β:Type} [DecidableEq κ] {KE:KEnc κ} {F:R β} {M:List Nat} {w w':World} {b:Nat} {m:List (κ × β)} (c:Ext w w') (h:pO KE F M w b m):pO KE F M w' b m:=h.ext c
theorem Ext.c {w w' w'':World} (c:Ext w' w'') (h:Ext w w'):Ext w w'':=h.trans c
theorem bTr {w w':World} {n:Nat} (c:Ext w w') (h:n≤w.heap.size):n≤w'.heap.size:=nTr h c.size
section
variable {P:Program} {d:Option Tmp} {r:KR} {K:Env→World→Prop} {ρ:Env} {w:World}
theorem bS5 {o:KOp} {t:Tmp} {b:Bool} (h:ρ t=.bool b) (k:aF P (.cons ⟨d,o,none⟩ r) K ρ w):aF P (.cons ⟨d,o,some (t,b)⟩ r) K ρ w:=bSv (by simp [kT,h]) k
theorem bQe {o:KOp} {t:Tmp} {b c:Bool} (h:ρ t=.bool c) (hc:(c==b)=false) (k:aF P r K (put ρ d undef) w):aF P (.cons ⟨d,o,some (t,b)⟩ r) K ρ w:=bLo (by simp [kT,h,hc]) k
theorem bQ4 {o:KOp} {t:Tmp} {b:Bool} (h:ρ t=undef) (k:aF P r K (put ρ d undef) w):aF P (.cons ⟨d,o,some (t,b)⟩ r) K ρ w:=bLo (by simp [kT,h,undef]) k
end
abbrev z0:=@bFp
abbrev z1:=@aLu
abbrev z2:=@bSv
abbrev z3:=@bLo
abbrev z4:=@aH3
abbrev z5:=@bRn
abbrev z6:=@bLg
abbrev z7:=@dH
abbrev z8:=@bRc
abbrev z9:=@bLb
abbrev za:=@bQz
abbrev zb:=@bRl
abbrev zc:=@vR
abbrev zd:=@bRf
abbrev ze:=@bRw
abbrev zf:=@bQk
abbrev zg:=@bOc
abbrev zh:=@bSe
abbrev zi:=@bQw
abbrev zj:=@bP9
abbrev zk:=@bPt
abbrev zl:=@bRy
abbrev zm:=@bSi
abbrev zn:=@bQ2
abbrev zo:=@bQs
abbrev zp:=@bCv
abbrev zq:=@aYi
abbrev zr:=@bNt
abbrev zs:=@aY2
abbrev zt:=@aXe
abbrev zu:=@aTd
abbrev zv:=@bR1
abbrev zw:=@bD0
abbrev zx:=@bAn
abbrev zy:=@bK7
abbrev zz:=@wK
abbrev zA:=@bGh
abbrev zB:=@fD
abbrev zC:=@iB
abbrev zD:=@qN
abbrev zE:=@bKz
abbrev zF:=@bSn
abbrev zG:=@aFn
abbrev zH:=@aBb
abbrev zI:=@gP
abbrev zJ:=@sA
abbrev zK:=@aW0
abbrev zL:=@tI
abbrev zM:=@tZ
abbrev zN:=@aO3
abbrev zO:=@bS5
abbrev zP:=@bQe
abbrev zQ:=@bQ4
end
section
open Go
theorem fx {p:Prop} (h:p:=by focus(repeat(first|assumption|exact Ext.refl _|((first|apply Bld.x|apply dI.ext|apply sD.ext|apply Row.ext|apply SlR.x|apply R.x|apply bR.x|apply pO.x|apply SlE.x|apply Ext.c|apply bTr);assumption)|exact Nat.le_refl _))):p:=h
structure Held (b:Prop):Prop where
 out:b
theorem go {a b:Prop} (k:b) (h:Held b→a:=by intro hheld;(first|(apply z0;conv=>arg 4;arg 3;whnf)|apply z1|(apply zO;focus((conv=>lhs;whnf)<;>(first|with_reducible exact rfl|(refine congrArg Value.bool ?_;decide))))|(apply zP;(focus((conv=>lhs;whnf)<;>with_reducible exact rfl));(focus decide))|(apply zQ;focus((conv=>lhs;whnf)<;>exact rfl))|refine z4 rfl rfl ?_|refine z5 rfl rfl (by omega) ?_|refine z6 rfl rfl (by omega) ?_|(refine z7 rfl rfl ?_;conv=>arg 4;arg 3;whnf)|refine zF (qG _) ?_|refine zF (qF _ _ _) ?_|((first|apply zb rfl|apply za rfl|apply z9 rfl|apply z8 rfl|apply ze rfl|apply zd rfl|apply zc rfl);(focus(repeat(first|assumption|(apply Row.ext;assumption))));(first|exact Nat.le_of_ble_eq_true rfl|rfl);(try rfl))|apply zf|apply zh|apply zj|apply zk|apply zl|apply zm|apply zn|apply zo|apply zp|apply zq|apply zr|apply zs|apply zt|refine zu (by decide) ?_|apply zv|apply zw|apply zx|(apply zy;focus((conv=>lhs;whnf)<;>(first|with_reducible exact rfl|(refine congrArg Value.bool ?_;decide))))|(apply zz;focus((conv=>lhs;whnf)<;>(first|with_reducible exact rfl|(refine congrArg Value.bool ?_;decide))))|apply zA|fail);(repeat (first|(apply z0;conv=>arg 4;arg 3;whnf)|apply z1|(apply zO;focus((conv=>lhs;whnf)<;>(first|with_reducible exact rfl|(refine congrArg Value.bool ?_;decide))))|(apply zP;(focus((conv=>lhs;whnf)<;>with_reducible exact rfl));(focus decide))|(apply zQ;focus((conv=>lhs;whnf)<;>exact rfl))|refine z4 rfl rfl ?_|refine z5 rfl rfl (by omega) ?_|refine z6 rfl rfl (by omega) ?_|(refine z7 rfl rfl ?_;conv=>arg 4;arg 3;whnf)|refine zF (qG _) ?_|refine zF (qF _ _ _) ?_|((first|apply zb rfl|apply za rfl|apply z9 rfl|apply z8 rfl|apply ze rfl|apply zd rfl|apply zc rfl);(focus(repeat(first|assumption|(apply Row.ext;assumption))));(first|exact Nat.le_of_ble_eq_true rfl|rfl);(try rfl))|apply zf|apply zh|apply zj|apply zk|apply zl|apply zm|apply zn|apply zo|apply zp|apply zq|apply zr|apply zs|apply zt|refine zu (by decide) ?_|apply zv|apply zw|apply zx|(apply zy;focus((conv=>lhs;whnf)<;>(first|with_reducible exact rfl|(refine congrArg Value.bool ?_;decide))))|(apply zz;focus((conv=>lhs;whnf)<;>(first|with_reducible exact rfl|(refine congrArg Value.bool ?_;decide))))|apply zA|fail));exact hheld.out):a:=h ⟨k⟩
theorem go1 {a b:Prop} (k:b) (h:Held b→a:=by intro hheld;(first|(apply z0;conv=>arg 4;arg 3;whnf)|apply z1|(apply zO;focus((conv=>lhs;whnf)<;>(first|with_reducible exact rfl|(refine congrArg Value.bool ?_;decide))))|(apply zP;(focus((conv=>lhs;whnf)<;>with_reducible exact rfl));(focus decide))|(apply zQ;focus((conv=>lhs;whnf)<;>exact rfl))|refine z4 rfl rfl ?_|refine z5 rfl rfl (by omega) ?_|refine z6 rfl rfl (by omega) ?_|(refine z7 rfl rfl ?_;conv=>arg 4;arg 3;whnf)|refine zF (qG _) ?_|refine zF (qF _ _ _) ?_|((first|apply zb rfl|apply za rfl|apply z9 rfl|apply z8 rfl|apply ze rfl|apply zd rfl|apply zc rfl);(focus(repeat(first|assumption|(apply Row.ext;assumption))));(first|exact Nat.le_of_ble_eq_true rfl|rfl);(try rfl))|apply zf|apply zh|apply zj|apply zk|apply zl|apply zm|apply zn|apply zo|apply zp|apply zq|apply zr|apply zs|apply zt|refine zu (by decide) ?_|apply zv|apply zw|apply zx|(apply zy;focus((conv=>lhs;whnf)<;>(first|with_reducible exact rfl|(refine congrArg Value.bool ?_;decide))))|(apply zz;focus((conv=>lhs;whnf)<;>(first|with_reducible exact rfl|(refine congrArg Value.bool ?_;decide))))|apply zA|fail);exact hheld.out):a:=h ⟨k⟩
end
section
open Go
structure Pt where
 s:ByteArray
 i:Int
deriving DecidableEq
structure Cn where
 v:Int
 s:ByteArray
 h:Int
deriving DecidableEq
instance:Inhabited Pt:=⟨⟨⟨#[]⟩,0⟩⟩
instance:Inhabited Cn:=⟨⟨0,⟨#[]⟩,0⟩⟩
def Pt.cs (p:Pt):List Value:= [.string p.s,.int .u32 p.i]
def Pt.val (p:Pt):Value:=.agg #[.string p.s,.int .u32 p.i]
def Cn.cs (c:Cn):List Value:= [.int .i64 c.v,.string c.s,.int .i64 c.h]
def Cn.val (c:Cn):Value:=.agg #[.int .i64 c.v,.string c.s,.int .i64 c.h]
def dR (p:Pt) (c:Cn):Bool:=decide (p.s.size=32)&&decide (0≤c.h)&&decide (c.h≤1000000)&&cD c.v
theorem aUt:∀a:List UInt8,Op.bytesLess a a=false
 | []=>rfl
 |a::l=>by simp [Op.bytesLess,aUt l]
theorem aYp:∀a b c:List UInt8,Op.bytesLess a b=true→Op.bytesLess b c=true→Op.bytesLess a c=true
 |_, [],_,h,_=>by cases ‹List UInt8›<;>simp [Op.bytesLess] at h
 |_,_::_, [],_,h=>by simp [Op.bytesLess] at h
 | [],_::_,_::_,_,_=>by simp [Op.bytesLess]
 |a::x,b::y,c::z,h,h'=>by
  simp only [Op.bytesLess,Bool.or_eq_true,decide_eq_true_eq,Bool.and_eq_true,beq_iff_eq] at h h' ⊢
  rcases h with h|⟨rfl,h⟩
  ·rcases h' with h'|⟨rfl,h'⟩
   ·exact .inl (UInt8.lt_trans h h')
   ·exact .inl h
  ·rcases h' with h'|⟨rfl,h'⟩
   ·exact .inl h'
   ·exact .inr ⟨rfl,aYp x y z h h'⟩
theorem bLf:∀a b:List UInt8,Op.bytesLess a b=false→Op.bytesLess b a=false→a=b
 | [], [],_,_=>rfl
 | [],_::_,h,_=>by simp [Op.bytesLess] at h
 |_::_, [],_,h=>by simp [Op.bytesLess] at h
 |a::x,b::y,h,h'=>by
  simp only [Op.bytesLess,Bool.or_eq_false_iff,decide_eq_false_iff_not,Bool.and_eq_false_iff,beq_eq_false_iff_ne] at h h'
  have e:a=b:=by
   have h1:=h.1;have h2:=h'.1
   rw [UInt8.lt_iff_toNat_lt] at h1 h2
   exact UInt8.toNat_inj.1 (by omega)
  subst e
  rcases h.2 with h1|h1
  ·exact absurd rfl h1
  rcases h'.2 with h2|h2
  ·exact absurd rfl h2
  rw [bLf x y h1 h2]
theorem bFq:∀a b:List UInt8,Lib.compareBytes a b<0↔Op.bytesLess a b=true
 | [], []=>by simp [Lib.compareBytes,Op.bytesLess]
 | [],_::_=>by simp [Lib.compareBytes,Op.bytesLess]
 |_::_, []=>by simp [Lib.compareBytes,Op.bytesLess]
 |a::x,b::y=>by
  simp only [Lib.compareBytes,Op.bytesLess]
  by_cases h1:a<b
  ·simp [h1]
  ·by_cases h2:b<a
   ·have h3:¬a=b:=fun e=>by subst e;exact h1 h2
    simp [h1,h2,h3]
   ·have e:a=b:=by
     rw [UInt8.lt_iff_toNat_lt] at h1 h2
     exact UInt8.toNat_inj.1 (by omega)
    subst e
    simp [bFq x y,UInt8.lt_irrefl]
theorem aVv:∀a b:List UInt8,Lib.compareBytes a b=0↔a=b
 | [], []=>by simp [Lib.compareBytes]
 | [],_::_=>by simp [Lib.compareBytes]
 |_::_, []=>by simp [Lib.compareBytes]
 |a::x,b::y=>by
  simp only [Lib.compareBytes]
  by_cases h1:a<b
  ·have h3:¬a=b:=fun e=>by subst e;exact UInt8.lt_irrefl _ h1
   simp [h1,h3]
  ·by_cases h2:b<a
   ·have h3:¬a=b:=fun e=>by subst e;exact h1 h2
    simp [h1,h2,h3]
   ·have e:a=b:=by
     rw [UInt8.lt_iff_toNat_lt] at h1 h2
     exact UInt8.toNat_inj.1 (by omega)
    subst e
    simp [aVv x y,UInt8.lt_irrefl]
theorem xR (a:ByteArray):a.data.toList=a.toList:=(Lib.toList_data a).symm
theorem toList_inj {a b:ByteArray} (h:a.toList=b.toList):a=b:=by
 rw [←xR,←xR] at h
 exact ByteArray.ext (Array.toList_inj.1 h)
def lK (p q:Pt):Bool:=if p.s=q.s then decide (p.i<q.i) else Op.bytesLess p.s.toList q.s.toList
theorem aDb (p:Pt):lK p p=false:=by simp [lK]
theorem aBv {p q r:Pt} (h:lK p q=true) (h':lK q r=true):lK p r=true:=by
 unfold lK at*
 by_cases h1:p.s=q.s
 ·rw [if_pos h1] at h
  by_cases h2:q.s=r.s
  ·rw [if_pos h2] at h'
   rw [if_pos (h1.trans h2)]
   simp at h h' ⊢;omega
  ·rw [if_neg h2] at h'
   rw [if_neg (by rw [h1];exact h2),h1];exact h'
 ·rw [if_neg h1] at h
  by_cases h2:q.s=r.s
  ·rw [if_neg (by rw [←h2];exact h1),←h2];exact h
  ·rw [if_neg h2] at h'
   have h3:=aYp _ _ _ h h'
   by_cases h4:p.s=r.s
   ·rw [h4,aUt] at h3;cases h3
   ·rw [if_neg h4];exact h3
theorem bAh {p q:Pt} (h:lK p q=false) (h':lK q p=false):p=q:=by
 unfold lK at*
 by_cases h1:p.s=q.s
 ·rw [if_pos h1] at h;rw [if_pos h1.symm] at h'
  simp at h h'
  cases p;cases q;simp only [Pt.mk.injEq] at*;exact ⟨h1,by omega⟩
 ·rw [if_neg h1] at h;rw [if_neg (fun e=>h1 e.symm)] at h'
  exact absurd (toList_inj (bLf _ _ h h')) h1
def bC3 (a b:Int):Int:=if a<b then -1 else if b<a then 1 else 0
def orI (a b:Int):Int:=if a=0 then b else a
theorem bSw (p q:Pt):decide (orI (Lib.compareBytes p.s.data.toList q.s.data.toList) (bC3 p.i q.i)<0)=lK p q:=by
 unfold orI lK
 rw [xR,xR]
 by_cases h:p.s=q.s
 ·rw [if_pos h,if_pos ((aVv _ _).2 (by rw [h]))]
  unfold bC3
  by_cases h1:p.i<q.i
  ·simp [h1]
  ·by_cases h2:q.i<p.i<;>simp [h1,h2]
 ·rw [if_neg h,if_neg (fun e=>h (toList_inj ((aVv _ _).1 e)))]
  apply Bool.eq_iff_iff.2
  simp only [decide_eq_true_eq]
  exact bFq _ _
end
section
open Go
abbrev En:=Pt × Cn
def bM:Enc En:=⟨fun e=>e.1.cs++e.2.cs,5,fun _=>rfl,by decide,by
 intro x v hv
 simp [Pt.cs,Cn.cs] at hv
 rcases hv with rfl|rfl|rfl|rfl|rfl<;>rfl⟩
def En.val (e:En):Value:=.agg #[.string e.1.s,.int .u32 e.1.i,.int .i64 e.2.v,.string e.2.s,.int .i64 e.2.h]
def ptK:KEnc Pt:=⟨Pt.val,true, [.s,.i],by
 intro a b
 cases a;cases b
 simp [Pt.val,aCv,cO,kH,Pt.mk.injEq]
 ,fun a=>rfl⟩
def tot (m:List En):Int:=(m.map (·.2.v)).sum
@[simp] theorem bS8:tot []=0:=rfl
@[simp] theorem yY (e:En) (m:List En):tot (e::m)=e.2.v+tot m:=by simp [tot]
@[simp] theorem iM (l m:List En):tot (l++m)=tot l+tot m:=by simp [tot]
theorem zW {l m:List En} (h:l.Perm m):tot l=tot m:=by
 induction h with
 |nil=>rfl
 |cons x _ ih=>simp [ih]
 |swap x y l=>simp;omega
 |trans _ _ h1 h2=>exact h1.trans h2
def Mon (m:List En):Prop:=(∀e∈m,0≤e.2.v)∧tot m≤2100000000000000
theorem Mon.nil:Mon []:=⟨by simp,by simp⟩
theorem Mon.pos:∀{m:List En},(∀e∈m,0≤e.2.v)→0≤tot m
 | [],_=>by simp
 |e::m,h=>by
  have h1:=h e (by simp)
  have h2:=Mon.pos (m:=m) (fun x hx=>h x (by simp [hx]))
  simp;omega
theorem Mon.le:∀{m:List En},(∀e∈m,0≤e.2.v)→∀e∈m,e.2.v≤tot m
 |e'::m,h,e,he=>by
  have h2:=Mon.pos (m:=m) (fun x hx=>h x (by simp [hx]))
  simp only [List.mem_cons] at he
  rcases he with rfl|he
  ·simp;omega
  ·have:=Mon.le (m:=m) (fun x hx=>h x (by simp [hx])) e he
   have h1:=h e' (by simp)
   simp;omega
theorem Mon.good {m:List En} (h:Mon m):cD (tot m)=true:=(bN _).2 ⟨Mon.pos h.1,h.2⟩
theorem lF {κ β:Type} [DecidableEq κ] {m:List (κ × β)} {k:κ} {v:β} (h:aL m k=some v):(k,v)∈m:=by
 unfold aL at h
 obtain ⟨p,hp,rfl⟩:=Option.map_eq_some_iff.1 h
 have h1:=List.mem_of_find?_eq_some hp
 have h2:=List.find?_some hp
 simp only [decide_eq_true_eq] at h2
 subst h2;exact h1
def mD (t:TypeId) (w:World) (b mb:Nat) (m:List En):Prop:=
 At w b (.cells [Value.map (some mb),.int .i64 (tot m)].toArray t (0,0))∧dI ptK Cn.val w mb m∧Mon m
section
variable {t:TypeId} {w w':World} {b mb:Nat} {m:List En}
theorem mD.at_ (h:mD t w b mb m):At w b (.cells [Value.map (some mb),.int .i64 (tot m)].toArray t (0,0)):=h.1
theorem mD.row (h:mD t w b mb m):Row w ⟨b,0,none⟩ [Value.map (some mb),.int .i64 (tot m)]:=Row.of_at h.1
theorem mD.ne (h:mD t w b mb m):b≠mb:=by
 obtain ⟨h1,⟨es,clock,h2,_⟩,_⟩:=h
 exact h1.ne h2 (by simp)
theorem mD.chg {l:List Nat} (hc:Chg l w w') (h:mD t w b mb m) (h1:b∉l) (h2:mb∉l):mD t w' b mb m:=⟨h.1.chg hc h1,h.2.1.chg hc h2,h.2.2⟩
theorem mD.ext (hc:Ext w w') (h:mD t w b mb m):mD t w' b mb m:=h.chg hc (by simp) (by simp)
end
def gK (m:List En) (p:Pt) (c:Cn):Int:=if dR p c then (if (aL m p).isSome then 7 else if cD (tot m+c.v) then 0 else 3) else 2
def vQ (m:List En) (p:Pt) (c:Cn):List En:=if gK m p c=0 then m++ [(p,c)] else m
def cn0:Cn:=⟨0,⟨#[]⟩,0⟩
def aBd (m:List En) (p:Pt):Int:=if (aL m p).isSome then 0 else 8
def lR (m:List En) (p:Pt):Cn:=(aL m p).getD cn0
def aI8 (m:List En) (p:Pt):List En:=jL m p
theorem aUe {κ β:Type} [DecidableEq κ] (e:κ × β) (m:List (κ × β)) (k:κ):jL (e::m) k=if e.1=k then jL m k else e::jL m k:=by
 unfold jL;rw [List.filter_cons];by_cases h:e.1=k<;>simp [h]
theorem aZj {κ β:Type} [DecidableEq κ] {m:List (κ × β)} {k:κ} (h:k∉m.map (·.1)):jL m k=m:=by
 unfold jL
 rw [List.filter_eq_self]
 intro a ha
 simp only [decide_eq_true_eq]
 rintro rfl
 exact h (List.mem_map_of_mem ha)
theorem aU2 {κ β:Type} [DecidableEq κ] (e:κ × β) (m:List (κ × β)) (k:κ):aL (e::m) k=if e.1=k then some e.2 else aL m k:=by
 unfold aL;rw [List.find?_cons];by_cases h:e.1=k<;>simp [h]
theorem aOv:∀{m:List En} {p:Pt} {c:Cn},(m.map (·.1)).Nodup→aL m p=some c→tot (jL m p)=tot m - c.v
 |(q,d)::m,p,c,hn,h=>by
  simp only [List.map_cons,List.nodup_cons] at hn
  rw [aU2] at h
  rw [aUe]
  by_cases e:q=p
  ·subst e
   simp at h
   subst h
   rw [if_pos rfl,aZj hn.1];simp;omega
  ·rw [if_neg e] at h ⊢
   have ih:=aOv hn.2 h
   simp [ih];omega
theorem Mon.del {m:List En} (h:Mon m) (p:Pt):Mon (jL m p):=by
 have hs:∀e∈jL m p,0≤e.2.v:=fun e he=>h.1 e (List.mem_filter.1 he).1
 refine ⟨hs,?_⟩
 have key:∀l:List En,(∀e∈l,0≤e.2.v)→tot (jL l p)≤tot l:=by
  intro l
  induction l with
  |nil=>intro _;simp [jL]
  |cons e l ih=>
   intro hl
   have h1:=hl e (by simp)
   have h2:=ih (fun x hx=>hl x (by simp [hx]))
   rw [aUe]
   split<;>simp<;>omega
 have:=key m h.1;have:=h.2;omega
theorem Mon.put {m:List En} (h:Mon m) {p:Pt} {c:Cn} (hc:gK m p c=0):Mon (m++ [(p,c)]):=by
 unfold gK at hc
 split at hc
 ·rename_i hf
  split at hc
  ·cases hc
  ·split at hc
   ·rename_i hg
    have h1:=(bN _).1 hg
    have h2:cD c.v=true:=by simp only [dR,Bool.and_eq_true] at hf;exact hf.2
    have h3:=(bN _).1 h2
    exact ⟨fun e he=>by
     rcases List.mem_append.1 he with he|he
     ·exact h.1 e he
     ·simp at he;subst he;exact h3.1,by simp;omega⟩
   ·cases hc
 ·cases hc
theorem bG0 {κ β:Type} [DecidableEq κ] {m:List (κ × β)} {k:κ} {v:β} (h:aL m k=none):fQ m k v=m++ [(k,v)]:=by
 apply sQ
 unfold aL at h
 simp only [Option.map_eq_none_iff,List.find?_eq_none] at h
 rw [List.findIdx?_eq_none_iff]
 intro x hx
 simpa using h x hx
theorem bHh {κ β:Type} [DecidableEq κ] {m:List (κ × β)} {k:κ} (h:aL m k=none):jL m k=m:=by
 apply aZj
 intro hm
 obtain ⟨p,hp,rfl⟩:=List.mem_map.1 hm
 unfold aL at h
 simp only [Option.map_eq_none_iff,List.find?_eq_none] at h
 simpa using h p hp
theorem bKy {m:List En} {p:Pt} {c:Cn} (h:dR p c=false):gK m p c=2:=by rw [gK,h];rfl
theorem bLi {m:List En} {p:Pt} {c d:Cn} (h:dR p c=true) (hd:aL m p=some d):gK m p c=7:=by rw [gK,h,hd];rfl
theorem aY0 {m:List En} {p:Pt} {c:Cn} (h:dR p c=true) (hd:aL m p=none) (hm:Mon m):gK m p c=if jO (tot m) c.v then 0 else 3:=by
 have h2:cD c.v=true:=by simp only [dR,Bool.and_eq_true] at h;exact h.2
 rw [gK,h,hd];simp only [jO,hm.good,h2,Bool.true_and];rfl
end
end Go.K
section
namespace Go.K
open Go
def leL (n:Nat):Nat→List UInt8
 |0=> []
 |k+1=>leL n k++ [UInt8.ofNat (n / 256^k)]
theorem cY (n:Nat):∀k,(leL n k).length=k
 |0=>rfl
 |k+1=>by simp [leL,cY n k]
def str (l:List UInt8):ByteArray:=⟨l.toArray⟩
theorem iA (l:List UInt8):(str l).size=l.length:=by simp [str,ByteArray.size]
theorem rL (l m:List UInt8):str l++str m=str (l++m):=by
 apply ByteArray.ext;simp [str,ByteArray.data_append]
theorem bF0:str []=⟨#[]⟩:=rfl
def leS (n k:Nat):ByteArray:=str (leL n k)
theorem bMc (n:Nat):leS n 0=⟨#[]⟩:=rfl
theorem tm (m n:Nat):Int.tmod (m:Int) (n:Int)=((m%n:Nat):Int):=by rw [Int.tmod_eq_emod_of_nonneg (by omega)];rfl
theorem td (m n:Nat):Int.tdiv (m:Int) (n:Int)=((m / n:Nat):Int):=by rw [Int.tdiv_eq_ediv_of_nonneg (by omega)];rfl
theorem bMq (n i:Nat):leS n (i+1)=leS n i++str [UInt8.ofNat (n / 256^i)]:=by rw [leS,leS,rL];rfl
theorem bRh:leS 253 1=⟨#[253]⟩:=rfl
theorem bQ6:leS 254 1=⟨#[254]⟩:=rfl
theorem bQ8:leS 255 1=⟨#[255]⟩:=rfl
theorem cQ (n k:Nat):(leS n k).size=k:=by rw [leS,iA,cY]
def vnS (n:Nat):ByteArray:=
 if n<253 then leS n 1 else if n<65536 then leS 253 1++leS n 2 else if n<4294967296 then leS 254 1++leS n 4 else leS 255 1++leS n 8
theorem fH (n:Nat):(vnS n).size≤9:=by
 unfold vnS
 repeat' split
 all_goals simp [ByteArray.size_append,cQ]
def u8E:Enc UInt8:=⟨fun b=> [.int .u8 (b.toNat:Nat)],1,fun _=>rfl,by decide,by intro x v hv;simp at hv;subst hv;rfl⟩
def bL:Enc ByteArray:=⟨fun s=> [.string s],1,fun _=>rfl,by decide,by intro x v hv;simp at hv;subst hv;rfl⟩
def aAj:Enc Int:=⟨fun n=> [.int .i64 n],1,fun _=>rfl,by decide,by intro x v hv;simp at hv;subst hv;rfl⟩
theorem aVy (l:List UInt8):u8E.flat l=l.map fun b:UInt8=>Value.int .u8 b.toNat:=by
 induction l with
 |nil=>rfl
 |cons x l ih=>simp only [Enc.flat,List.flatMap_cons] at ih ⊢;rw [ih];rfl
theorem aFg (n:Nat):IntKind.u8.wrap (n:Int)=((UInt8.ofNat n).toNat:Int):=by
 have h:IntKind.u8.wrap (n:Int)=(n:Int)%256:=rfl
 rw [h];simp
theorem fT {n:Int} (h0:0≤n) (h:n<18446744073709551616):IntKind.u64.wrap n=n:=Int.emod_eq_of_lt h0 h
variable {P:Program} {d:Option Tmp} {r:KR} {K:Env→World→Prop} {ρ:Env} {w:World}
theorem tY {x:Operand} {v:Value} {l:List UInt8} (hx:ev ρ x=v) (h:SlE u8E w v l) (k:aF P r K (put ρ d (.string (str l))) w):aF P (.cons ⟨d,.strOf x,none⟩ r) K ρ w:=by
 obtain ⟨base,cap,rfl⟩:=h.form
 have hc:=h.cells
 rw [aVy] at hc
 exact bKj hx rfl hc k
theorem bNi {x:Operand} {b:Nat} {t:TypeId} {n:Nat} (hx:ev ρ x=.slice (some ⟨b,0,none⟩) 1 1) (ha:At w b (.cells [Value.int .u8 (IntKind.u8.wrap (n:Int))].toArray t (0,0))) (k:aF P r K (put ρ d (.string (str [UInt8.ofNat n]))) w):aF P (.cons ⟨d,.strOf x,none⟩ r) K ρ w:=by
 rw [aFg] at ha
 exact tY (l:= [UInt8.ofNat n]) hx (SlE.new (E:=u8E) ha rfl (Nat.le_refl _)) k
theorem mE {x y:Operand} {a b:ByteArray} (hx:ev ρ x=.string a) (hy:ev ρ y=.string b) (h:a.size+b.size≤9223372036854775807) (k:aF P r K (put ρ d (.string (a++b))) w):aF P (.cons ⟨d,.bin .add x y,none⟩ r) K ρ w:=bRz hx hy h k
end Go.K
namespace Go.K
open Go
section
variable {α:Type}
def idxOf (p:α→Bool) (l:List α):Int:=match l.findIdx? p with
 |some i=>i
 |none=> -1
theorem idxOf_hit {p:α→Bool} {l:List α} {i:Nat} (h:i<l.length) (hp:p l[i]=true) (hn:∀j (_:j<i),p l[j]=false):idxOf p l=i:=by
 have:l.findIdx? p=some i:=List.findIdx?_eq_some_iff_getElem.2 ⟨h,hp,fun j hj=>by simpa using hn j hj⟩
 rw [idxOf,this]
theorem idxOf_miss {p:α→Bool} {l:List α} (hn:∀j (h:j<l.length),p l[j]=false):idxOf p l= -1:=by
 have:l.findIdx? p=none:=List.findIdx?_eq_none_iff.2 fun x hx=>by
  obtain ⟨j,hj,rfl⟩:=List.getElem_of_mem hx
  exact hn j hj
 rw [idxOf,this]
theorem pK {p:α→Bool} {l:List α}:decide (idxOf p l≥0)=l.any p:=by
 unfold idxOf
 cases h:l.findIdx? p with
 |none=>
  have:=List.findIdx?_eq_none_iff.1 h
  symm;simpa using this
 |some i=>
  obtain ⟨h1,h2,_⟩:=List.findIdx?_eq_some_iff_getElem.1 h
  have:l.any p=true:=List.any_eq_true.2 ⟨_,gMe h1,h2⟩
  rw [this];simp
end
def kC:Int→List Int→Option Int
 |s, []=>some s
 |s,a::l=>if cD a&&cD (s+a) then kC (s+a) l else none
def fG (l:List Int):Int:=(kC 0 l).getD 0
def lM (l:List Int):Int:=if (kC 0 l).isSome then 0 else 3
theorem aJf (l m:List Int):∀s,kC s (l++m)=(kC s l).bind fun s'=>kC s' m:=by
 induction l with
 |nil=>intro s;rfl
 |cons a l ih=>intro s;simp only [List.cons_append,kC];split<;>simp [ih]
theorem vH:∀(l:List Int) (s t:Int),cD s=true→kC s l=some t→cD t=true
 | [],s,t,hs,h=>by simp [kC] at h;subst h;exact hs
 |a::l,s,t,hs,h=>by
  simp only [kC] at h
  split at h
  ·rename_i hc
   simp only [Bool.and_eq_true] at hc
   exact vH l _ t hc.2 h
  ·cases h
theorem aSe {l:List Int} {i:Nat} (h:i<l.length):kC 0 (l.take (i+1))=(kC 0 (l.take i)).bind fun s=>if cD l[i]&&cD (s+l[i]) then some (s+l[i]) else none:=by
 rw [List.take_succ_eq_append_getElem h,aJf];congr 1
theorem aHi {l:List Int} {i:Nat} (h:kC 0 (l.take i)=none):kC 0 l=none:=by
 rw [←List.take_append_drop i l,aJf,h];rfl
end Go.K
end
