/- The engine, part 9: maps that read as lists of pairs. The engine, part 10: loops and joins over a state; more steps. The engine, part 12: data that hang together: elements that lead to slices of their own. -/
import Derived.Test.YtbidkcjendncaaaGreatDoorDa7
set_option linter.unusedVariables false
set_option linter.unusedSimpArgs false
section
namespace Go.K
open Go
variable {P:Program}
structure KEnc (κ:Type) [DecidableEq κ] where
 f:κ→Value
 s:Bool
 ks:List CK
 eq_:∀a b,keyEq s ks (f a) (f b)=some (decide (a=b))
 ok:∀a,keyOK s ks (f a)=true
variable {κ β:Type} [DecidableEq κ] {E:KEnc κ} {fv:β→Value}
def aget (m:List (κ × β)) (k:κ):Option β:=(m.find? fun p=>decide (p.1=k)).map (·.2)
def aset (m:List (κ × β)) (k:κ) (v:β):List (κ × β):=
 match m with
 | []=> [(k,v)]
 |p::r=>if p.1=k then (k,v)::r else p::aset r k v
def adel (m:List (κ × β)) (k:κ):List (κ × β):=m.filter fun p=>decide (p.1≠k)
structure Wf (es:Array MapEntry) (clock:Nat):Prop where
 births:es.toList.Pairwise fun a b=>a.born<b.born
 lt:∀e∈es.toList,e.born<clock
def MapE (E:KEnc κ) (fv:β→Value) (w:World) (r:Nat) (m:List (κ × β)):Prop:=
 ∃es clock,At w r (.map es clock)∧Wf es clock∧es.toList.map (fun e=>(e.key,e.val))=m.map (fun p=>(E.f p.1,fv p.2))∧(m.map (·.1)).Nodup
theorem MapE.chg {l:List Nat} {w w':World} {r:Nat} {m:List (κ × β)} (hc:Chg l w w') (h:MapE E fv w r m) (hr:r∉l):MapE E fv w' r m:=by
 obtain ⟨es,clock,h1,h2⟩:=h;exact ⟨es,clock,h1.chg hc hr,h2⟩
theorem MapE.ext {w w':World} {r:Nat} {m:List (κ × β)} (hc:Ext w w') (h:MapE E fv w r m):MapE E fv w' r m:=h.chg hc (by simp)
theorem MapE.lt {w:World} {r:Nat} {m:List (κ × β)} (h:MapE E fv w r m):r<w.heap.size:=by obtain ⟨es,clock,h1,_⟩:=h;exact h1.lt
theorem MapE.nodup {w:World} {r:Nat} {m:List (κ × β)} (h:MapE E fv w r m):(m.map (·.1)).Nodup:=by obtain ⟨es,clock,_,_,_,h1⟩:=h;exact h1
theorem MapE.new (w:World):MapE E fv (w.alloc (.map #[] 0)) w.heap.size []:=⟨#[],0,At.new w _,⟨by simp,by simp⟩,rfl,by simp⟩
theorem findK_enc (k:κ):∀(es:List MapEntry) (m:List (κ × β)) (i:Nat),es.map (fun e=>(e.key,e.val))=m.map (fun p=>(E.f p.1,fv p.2))→
  findK E.s E.ks (E.f k) es i=some ((m.findIdx? fun p=>decide (p.1=k)).bind fun j=>(m[j]?).map fun p=>(i+j,fv p.2))
 | [], [],i,_=>rfl
 |e::es,p::m,i,h=>by
  simp only [List.map_cons,List.cons.injEq,Prod.mk.injEq] at h
  obtain ⟨⟨hk,hv⟩,h⟩:=h
  simp only [findK,hk,E.eq_]
  by_cases hp:p.1=k
  ·subst hp
   simp [List.findIdx?_cons,hv]
  ·have hp':¬(k=p.1):=fun e=>hp e.symm
   simp only [hp',decide_false]
   rw [findK_enc k es m (i+1) h]
   simp only [List.findIdx?_cons,hp,decide_false,Bool.false_eq_true,if_false]
   cases m.findIdx? (fun p=>decide (p.1=k)) with
   |none=>rfl
   |some j=>simp only [Option.bind_some,Option.map_some,List.getElem?_cons_succ];congr 2;funext p;rw [show i+1+j=i+(j+1) by omega]
 | [],_::_,_,h=>by simp at h
 |_::_, [],_,h=>by simp at h
theorem aget_idx (m:List (κ × β)) (k:κ):aget m k=(m.findIdx? fun p=>decide (p.1=k)).bind fun j=>(m[j]?).map (·.2):=by
 unfold aget
 induction m with
 |nil=>rfl
 |cons p m ih=>
  by_cases hp:p.1=k
  ·simp [List.find?_cons,List.findIdx?_cons,hp]
  ·simp only [List.find?_cons,hp,decide_false,List.findIdx?_cons,Bool.false_eq_true,if_false]
   rw [ih]
   cases m.findIdx? (fun p=>decide (p.1=k))<;>simp
section
variable {d:Option Tmp} {r:KR} {K:Env→World→Prop} {ρ:Env} {w:World}
theorem lookup_rd {s:Bool} {ks:List CK} {z:Value} {ok:Bool} {m x:Operand} {b:Nat} {l:List (κ × β)} {k:κ} (hm:ev ρ m=.map (some b)) (hx:ev ρ x=E.f k) (hM:MapE E fv w b l) (hs:s=E.s) (hks:ks=E.ks):
  (KOp.lookup s ks z ok m x).rd ρ w=some (match aget l k with
   |some v=>if ok then .tuple #[fv v,.bool true] else fv v
   |none=>if ok then .tuple #[z,.bool false] else z):=by
 subst hs hks
 obtain ⟨es,clock,hat,_,heq,_⟩:=hM
 have hf:=findK_enc (E:=E) (fv:=fv) k es.toList l 0 heq
 unfold At at hat
 simp only [KOp.rd,hx,E.ok,if_true,hm,hat,hf,Option.map_some,aget_idx]
 cases hi:l.findIdx? (fun p=>decide (p.1=k)) with
 |none=>rfl
 |some j=>
  have hj:j<l.length:=(List.findIdx?_eq_some_iff_getElem.1 hi).1
  simp [List.getElem?_eq_getElem hj]
theorem st_lookup {s:Bool} {ks:List CK} {z:Value} {m x:Operand} {b:Nat} {l:List (κ × β)} {k:κ} (hm:ev ρ m=.map (some b)) (hx:ev ρ x=E.f k) (hM:MapE E fv w b l) (hs:s=E.s) (hks:ks=E.ks)
  (k1:∀v,aget l k=some v→regK P r K (put ρ d (fv v)) w) (k2:aget l k=none→regK P r K (put ρ d z) w):regK P (.cons ⟨d,.lookup s ks z false m x,none⟩ r) K ρ w:=by
 have h:=lookup_rd (z:=z) (ok:=false) hm hx hM hs hks
 cases ha:aget l k with
 |none=>rw [ha] at h;exact st_wp (still_wp rfl h (k2 ha))
 |some v=>rw [ha] at h;exact st_wp (still_wp rfl h (k1 v ha))
theorem st_lookupOk {s:Bool} {ks:List CK} {z:Value} {m x:Operand} {b:Nat} {l:List (κ × β)} {k:κ} (hm:ev ρ m=.map (some b)) (hx:ev ρ x=E.f k) (hM:MapE E fv w b l) (hs:s=E.s) (hks:ks=E.ks)
  (k1:∀v,aget l k=some v→regK P r K (put ρ d (.tuple #[fv v,.bool true])) w) (k2:aget l k=none→regK P r K (put ρ d (.tuple #[z,.bool false])) w):regK P (.cons ⟨d,.lookup s ks z true m x,none⟩ r) K ρ w:=by
 have h:=lookup_rd (z:=z) (ok:=true) hm hx hM hs hks
 cases ha:aget l k with
 |none=>rw [ha] at h;exact st_wp (still_wp rfl h (k2 ha))
 |some v=>rw [ha] at h;exact st_wp (still_wp rfl h (k1 v ha))
theorem st_lenMap {x:Operand} {b:Nat} {l:List (κ × β)} (hm:ev ρ x=.map (some b)) (hM:MapE E fv w b l) (k:regK P r K (put ρ d (.int .i64 (l.length:Nat))) w):regK P (.cons ⟨d,.lenMap x,none⟩ r) K ρ w:=by
 obtain ⟨es,clock,hat,_,heq,_⟩:=hM
 unfold At at hat
 have hl:es.size=l.length:=by have:=congrArg List.length heq;simpa using this
 exact st_wp (still_wp rfl (by simp [KOp.rd,hm,hat];rfl) (by rw [hl];exact k))
theorem st_makeMap (k:∀b w',Ext w w'→MapE E fv w' b []→w.heap.size≤b→regK P r K (put ρ d (.map (some b))) w'):regK P (.cons ⟨d,.makeMap,none⟩ r) K ρ w:=
 st_wp (k _ _ (Ext.alloc w _) (MapE.new w) (Nat.le_refl _))
end
theorem map_erase {α γ:Type} (f:α→γ):∀(l:List α) (i:Nat),(l.eraseIdx i).map f=(l.map f).eraseIdx i
 | [],_=>rfl
 |_::_,0=>rfl
 |x::l,i+1=>by simp [map_erase f l i]
theorem aset_absent {m:List (κ × β)} {k:κ} {v:β} (h:(m.findIdx? fun p=>decide (p.1=k))=none):aset m k v=m++ [(k,v)]:=by
 induction m with
 |nil=>rfl
 |cons p m ih=>
  rw [List.findIdx?_cons] at h
  by_cases hp:p.1=k
  ·simp [hp] at h
  ·simp only [hp,decide_false,Bool.false_eq_true,if_false,Option.map_eq_none_iff] at h
   simp [aset,hp,ih h]
theorem aset_present {m:List (κ × β)} {k:κ} {v:β} {j:Nat} (h:(m.findIdx? fun p=>decide (p.1=k))=some j):aset m k v=m.set j (k,v):=by
 induction m generalizing j with
 |nil=>simp at h
 |cons p m ih=>
  rw [List.findIdx?_cons] at h
  by_cases hp:p.1=k
  ·simp [hp] at h;subst h;simp [aset,hp]
  ·simp only [hp,decide_false,Bool.false_eq_true,if_false,Option.map_eq_some_iff] at h
   obtain ⟨i,hi,rfl⟩:=h
   simp [aset,hp,ih hi]
theorem adel_absent {m:List (κ × β)} {k:κ} (h:(m.findIdx? fun p=>decide (p.1=k))=none):adel m k=m:=by
 rw [List.findIdx?_eq_none_iff] at h
 exact List.filter_eq_self.2 fun p hp=>by have:=h p hp;simpa using this
theorem adel_present {m:List (κ × β)} {k:κ} {j:Nat} (hn:(m.map (·.1)).Nodup) (h:(m.findIdx? fun p=>decide (p.1=k))=some j):adel m k=m.eraseIdx j:=by
 induction m generalizing j with
 |nil=>simp at h
 |cons p m ih=>
  rw [List.findIdx?_cons] at h
  simp only [List.map_cons,List.nodup_cons] at hn
  by_cases hp:p.1=k
  ·simp [hp] at h;subst h
   simp only [adel,List.filter_cons,hp,ne_eq,not_true_eq_false,decide_false,Bool.false_eq_true,if_false,List.eraseIdx_cons_zero]
   exact List.filter_eq_self.2 fun q hq=>by
    have:q.1≠p.1:=fun e=>hn.1 (List.mem_map.2 ⟨q,hq,e⟩)
    rw [hp] at this;simpa using this
  ·simp only [hp,decide_false,Bool.false_eq_true,if_false,Option.map_eq_some_iff] at h
   obtain ⟨i,hi,rfl⟩:=h
   have:=ih hn.2 hi
   unfold adel at this ⊢
   simp [List.filter_cons,hp]
   simpa using this
theorem aset_keys {m:List (κ × β)} {k:κ} {v:β} (hn:(m.map (·.1)).Nodup):((aset m k v).map (·.1)).Nodup:=by
 cases h:(m.findIdx? fun p=>decide (p.1=k)) with
 |none=>
  rw [aset_absent h,List.map_append,List.nodup_append]
  refine ⟨hn,by simp,?_⟩
  intro a ha b hb
  simp at hb;subst hb
  rw [List.findIdx?_eq_none_iff] at h
  obtain ⟨p,hp,rfl⟩:=List.mem_map.1 ha
  have:=h p hp
  simpa using this
 |some j=>
  rw [aset_present h]
  obtain ⟨hj,hk,_⟩:=List.findIdx?_eq_some_iff_getElem.1 h
  have:(m.set j (k,v)).map (·.1)=m.map (·.1):=by
   apply List.ext_getElem
   ·simp
   ·intro i h1 h2
    simp only [List.getElem_map,List.getElem_set]
    split
    ·rename_i e;subst e;simpa using (of_decide_eq_true hk).symm
    ·rfl
  rw [this];exact hn
theorem wf_push {es:Array MapEntry} {clock:Nat} (h:Wf es clock) (k v:Value):Wf (es.push {key:=k,val:=v,born:=clock}) (clock+1):=by
 refine ⟨?_,?_⟩
 ·rw [Array.toList_push,List.pairwise_append]
  exact ⟨h.births,by simp,fun a ha b hb=>by simp at hb;subst hb;exact h.lt a ha⟩
 ·intro e he
  rw [Array.toList_push,List.mem_append] at he
  rcases he with he|he
  ·have:=h.lt e he;omega
  ·simp at he;subst he;simp
theorem wf_modify {es:Array MapEntry} {clock:Nat} (h:Wf es clock) (i:Nat) (g:MapEntry→MapEntry) (hg:∀e,(g e).born=e.born):Wf (es.modify i g) clock:=by
 have hb:(es.modify i g).toList.map (·.born)=es.toList.map (·.born):=by
  apply List.ext_getElem
  ·simp
  ·intro j h1 h2
   simp only [List.getElem_map,Array.getElem_toList,Array.getElem_modify]
   split<;>simp [hg]
 refine ⟨?_,fun e he=>?_⟩
 ·have h1:(es.toList.map (·.born)).Pairwise (·<·):=List.pairwise_map.2 h.births
  rw [←hb] at h1
  exact List.pairwise_map.1 h1
 ·have:e.born∈(es.modify i g).toList.map (·.born):=List.mem_map.2 ⟨e,he,rfl⟩
  rw [hb] at this
  obtain ⟨e',he',h2⟩:=List.mem_map.1 this
  have:=h.lt e' he'
  omega
theorem MapE.put_ {w:World} {b:Nat} {l:List (κ × β)} (hM:MapE E fv w b l) (k:κ) (v:β):∃es clock f,At w b (.map es clock)∧findK E.s E.ks (E.f k) es.toList 0=some f∧
  MapE E fv (setObjW w b (.map (putEntry es clock (E.f k) (fv v) f).1 (putEntry es clock (E.f k) (fv v) f).2)) b (aset l k v):=by
 obtain ⟨es,clock,hat,hwf,heq,hn⟩:=hM
 refine ⟨es,clock,_,hat,findK_enc (E:=E) (fv:=fv) k es.toList l 0 heq,?_⟩
 cases h:(l.findIdx? fun p=>decide (p.1=k)) with
 |none=>
  simp only [Option.bind_none,putEntry]
  refine ⟨_,_,hat.setObj,wf_push hwf _ _,?_,aset_keys hn⟩
  rw [aset_absent h,Array.toList_push,List.map_append,List.map_append,heq]
  rfl
 |some j=>
  obtain ⟨hj,hk,_⟩:=List.findIdx?_eq_some_iff_getElem.1 h
  simp only [Option.bind_some,List.getElem?_eq_getElem hj,Option.map_some,putEntry,Nat.zero_add]
  refine ⟨_,_,hat.setObj,wf_modify hwf _ _ (fun _=>rfl),?_,aset_keys hn⟩
  rw [aset_present h]
  apply List.ext_getElem
  ·have:=congrArg List.length heq;simpa using this
  ·intro i h1 h2
   have h3:i<es.toList.length:=by simpa using h1
   have h4:i<l.length:=by simpa using h2
   have h5:(es.toList.map (fun e=>(e.key,e.val)))[i]'(by simpa using h3)=(l.map (fun p=>(E.f p.1,fv p.2)))[i]'(by simpa using h4):=by simp only [heq]
   simp only [List.getElem_map] at h5
   simp only [List.getElem_map,Array.getElem_toList,Array.getElem_modify,List.getElem_set] at h5 ⊢
   split
   ·rfl
   ·exact h5
theorem MapE.del_ {w:World} {b:Nat} {l:List (κ × β)} (hM:MapE E fv w b l) (k:κ):∃es clock f,At w b (.map es clock)∧findK E.s E.ks (E.f k) es.toList 0=some f∧
  MapE E fv (setObjW w b (.map (match f with|some (i,_)=>es.eraseIdxIfInBounds i|none=>es) clock)) b (adel l k):=by
 obtain ⟨es,clock,hat,hwf,heq,hn⟩:=hM
 refine ⟨es,clock,_,hat,findK_enc (E:=E) (fv:=fv) k es.toList l 0 heq,?_⟩
 have hnd:((adel l k).map (·.1)).Nodup:=(List.Sublist.map Prod.fst List.filter_sublist).nodup hn
 cases h:(l.findIdx? fun p=>decide (p.1=k)) with
 |none=>
  simp only [Option.bind_none]
  exact ⟨_,_,hat.setObj,hwf,by rw [adel_absent h];exact heq,hnd⟩
 |some j=>
  obtain ⟨hj,hk,_⟩:=List.findIdx?_eq_some_iff_getElem.1 h
  simp only [Option.bind_some,List.getElem?_eq_getElem hj,Option.map_some,Nat.zero_add]
  have hjs:j<es.size:=by have:=congrArg List.length heq;simp at this;omega
  have he:(es.eraseIdxIfInBounds j).toList=es.toList.eraseIdx j:=by simp [Array.eraseIdxIfInBounds,hjs]
  refine ⟨_,_,hat.setObj,⟨?_,?_⟩,?_,hnd⟩
  ·rw [he];exact hwf.births.sublist (List.eraseIdx_sublist _ _)
  ·intro e hm;rw [he] at hm;exact hwf.lt e (List.mem_of_mem_eraseIdx hm)
  ·rw [he,adel_present hn h,map_erase,heq,map_erase]
section
variable {d:Option Tmp} {r:KR} {K:Env→World→Prop} {ρ:Env} {w:World}
theorem st_mapUpdate {s:Bool} {ks:List CK} {m x y:Operand} {b:Nat} {l:List (κ × β)} {k:κ} {v:β} (hm:ev ρ m=.map (some b)) (hx:ev ρ x=E.f k) (hy:ev ρ y=fv v) (hM:MapE E fv w b l) (hs:s=E.s) (hks:ks=E.ks)
  (kk:∀w',Chg [b] w w'→MapE E fv w' b (aset l k v)→regK P r K (put ρ d undef) w'):regK P (.cons ⟨d,.mapUpdate s ks m x y,none⟩ r) K ρ w:=by
 subst hs hks
 obtain ⟨es,clock,f,hat,hf,hM'⟩:=hM.put_ k v
 refine st_wp ⟨b,es,clock,f,hm,hat,by rw [hx];exact E.ok k,by rw [hx];exact hf,?_⟩
 rw [hx,hy]
 exact kk _ (Chg.setObj _ _ _) hM'
theorem st_delete {s:Bool} {ks:List CK} {m x:Operand} {b:Nat} {l:List (κ × β)} {k:κ} (hm:ev ρ m=.map (some b)) (hx:ev ρ x=E.f k) (hM:MapE E fv w b l) (hs:s=E.s) (hks:ks=E.ks)
  (kk:∀w',Chg [b] w w'→MapE E fv w' b (adel l k)→regK P r K (put ρ d (.tuple #[])) w'):regK P (.cons ⟨d,.delete s ks m x,none⟩ r) K ρ w:=by
 subst hs hks
 obtain ⟨es,clock,f,hat,hf,hM'⟩:=hM.del_ k
 refine st_wp ⟨b,es,clock,f,hm,hat,by rw [hx];exact E.ok k,by rw [hx];exact hf,kk _ (Chg.setObj _ _ _) hM'⟩
end
def MapPend (E:KEnc κ) (fv:β→Value) (w:World) (b:Nat) (l:List (κ × β)) (k:κ) (st:Nat):Prop:=
 ∃es clock i,At w b (.map es clock)∧Wf es clock∧(∃h:i<es.size,es[i].born=st)∧(∀v:β,(es.modify i fun e=>{e with val:=fv v}).toList.map (fun e=>(e.key,e.val))=(aset l k v).map (fun p=>(E.f p.1,fv p.2)))∧(l.map (·.1)).Nodup
theorem MapPend.chg {s:List Nat} {w w':World} {b:Nat} {l:List (κ × β)} {k:κ} {st:Nat} (hc:Chg s w w') (h:MapPend E fv w b l k st) (hb:b∉s):MapPend E fv w' b l k st:=by
 obtain ⟨es,clock,i,h1,h2⟩:=h;exact ⟨es,clock,i,h1.chg hc hb,h2⟩
theorem MapPend.ext {w w':World} {b:Nat} {l:List (κ × β)} {k:κ} {st:Nat} (hc:Ext w w') (h:MapPend E fv w b l k st):MapPend E fv w' b l k st:=h.chg hc (by simp)
section
variable {d:Option Tmp} {r:KR} {K:Env→World→Prop} {ρ:Env} {w:World}
theorem st_mapEntry {s:Bool} {ks:List CK} {z:Value} {m x:Operand} {b:Nat} {l:List (κ × β)} {k:κ} (hm:ev ρ m=.map (some b)) (hx:ev ρ x=E.f k) (hM:MapE E fv w b l) (hs:s=E.s) (hks:ks=E.ks)
  (kk:∀(st:Nat) w',Chg [b] w w'→MapPend E fv w' b l k st→regK P r K (put ρ d (.tuple #[match aget l k with|some v=>fv v|none=>z,.int .i64 (st:Int)])) w'):regK P (.cons ⟨d,.mapEntry s ks z m x,none⟩ r) K ρ w:=by
 subst hs hks
 obtain ⟨es,clock,hat,hwf,heq,hn⟩:=hM
 have hf:=findK_enc (E:=E) (fv:=fv) k es.toList l 0 heq
 have hlen:es.size=l.length:=by have:=congrArg List.length heq;simpa using this
 refine st_wp ⟨b,es,clock,_,hm,hat,by rw [hx];exact E.ok k,by rw [hx];exact hf,?_⟩
 cases h:(l.findIdx? fun p=>decide (p.1=k)) with
 |none=>
  have hg:aget l k=none:=by rw [aget_idx,h];rfl
  rw [hg] at kk
  simp only [Option.bind_none]
  rw [hx]
  refine kk clock _ (Chg.setObj _ _ _) ⟨_,_,es.size,hat.setObj,wf_push hwf _ _,⟨by simp,by simp⟩,fun v=>?_,hn⟩
  rw [aset_absent h,List.map_append,←heq]
  apply List.ext_getElem
  ·simp
  ·intro i h1 h2
   have h3:i<es.size+1:=by simpa using h1
   simp only [List.getElem_map,Array.getElem_toList,Array.getElem_modify,List.getElem_append,List.length_map,Array.length_toList]
   by_cases hi:i<es.size
   ·rw [dif_pos hi]
    have hne:¬(es.size=i):=by omega
    simp [hne,Array.getElem_push_lt hi]
   ·have:i=es.size:=by omega
    subst this
    simp
 |some j=>
  obtain ⟨hj,hk,_⟩:=List.findIdx?_eq_some_iff_getElem.1 h
  have hjs:j<es.size:=by omega
  have hg:aget l k=some l[j].2:=by rw [aget_idx,h];simp [List.getElem?_eq_getElem hj]
  rw [hg] at kk
  simp only [Option.bind_some,List.getElem?_eq_getElem hj,Option.map_some,Nat.zero_add]
  rw [hx]
  have e1:(((es[j]?).map (·.born)).getD 0)=es[j].born:=by simp [Array.getElem?_eq_getElem hjs]
  rw [e1]
  refine kk es[j].born _ (Chg.setObj _ _ _) ⟨_,_,j,hat.setObj,wf_modify hwf _ _ (fun _=>rfl),⟨by simpa using hjs,by rw [Array.getElem_modify,if_pos rfl]⟩,fun v=>?_,hn⟩
  rw [aset_present h]
  apply List.ext_getElem
  ·simpa using hlen
  ·intro i h1 h2
   have h3:i<es.toList.length:=by simpa using h1
   have h4:i<l.length:=by simpa using h2
   have h5:(es.toList.map (fun e=>(e.key,e.val)))[i]'(by simpa using h3)=(l.map (fun p=>(E.f p.1,fv p.2)))[i]'(by simpa using h4):=by simp only [heq]
   simp only [List.getElem_map] at h5
   simp only [List.getElem_map,Array.getElem_toList,Array.getElem_modify,List.getElem_set] at h5 ⊢
   split
   ·rfl
   ·exact h5
theorem find_born {es:Array MapEntry} {clock i:Nat} (hw:Wf es clock) (hi:i<es.size) {n:Int} (hn:n=(es[i].born:Int)):es.findIdx? (fun e=>(e.born:Int)==n)=some i:=by
 subst hn
 rw [Array.findIdx?_eq_some_iff_getElem]
 refine ⟨hi,by simp,fun j hj=>?_⟩
 have:=List.pairwise_iff_getElem.1 hw.births j i (by simp;omega) (by simpa using hi) hj
 simp only [Array.getElem_toList] at this
 simp;omega
theorem st_entryStore {m x y:Operand} {b:Nat} {l:List (κ × β)} {k:κ} {v:β} {st:Nat} {kd:IntKind} (hm:ev ρ m=.map (some b)) (hx:ev ρ x=.int kd (st:Int)) (hy:ev ρ y=fv v) (hM:MapPend E fv w b l k st)
  (kk:∀w',Chg [b] w w'→MapE E fv w' b (aset l k v)→regK P r K (put ρ d undef) w'):regK P (.cons ⟨d,.entryStore m x y,none⟩ r) K ρ w:=by
 obtain ⟨es,clock,i,hat,hwf,⟨hi,hst⟩,hall,hn⟩:=hM
 refine st_wp ⟨b,es,clock,kd,st,i,hm,hat,hx,find_born hwf hi (by rw [hst]),?_⟩
 rw [hy]
 exact kk _ (Chg.setObj _ _ _) ⟨_,_,hat.setObj,wf_modify hwf _ _ (fun _=>rfl),hall v,aset_keys hn⟩
end
def IterE (E:KEnc κ) (fv:β→Value) (w:World) (it b:Nat) (left:List (κ × β)):Prop:=
 ∃es clock seen,At w it (.mapIter (some b) clock seen clock)∧At w b (.map es clock)∧Wf es clock∧(es.toList.filter fun e=>!seen.contains e.born).map (fun e=>(e.key,e.val))=left.map (fun p=>(E.f p.1,fv p.2))
def IterAt (E:KEnc κ) (fv:β→Value) (w:World) (it b:Nat) (p:κ × β):Prop:=
 ∃es clock seen st e,At w it (.mapIter (some b) clock seen clock)∧At w b (.map es clock)∧seen.back? =some st∧es.find? (·.born==st)=some e∧e.key=E.f p.1∧e.val=fv p.2
theorem IterE.chg {s:List Nat} {w w':World} {it b:Nat} {l:List (κ × β)} (hc:Chg s w w') (h:IterE E fv w it b l) (h1:it∉s) (h2:b∉s):IterE E fv w' it b l:=by
 obtain ⟨es,clock,seen,a1,a2,r⟩:=h;exact ⟨es,clock,seen,a1.chg hc h1,a2.chg hc h2,r⟩
theorem IterE.ext {w w':World} {it b:Nat} {l:List (κ × β)} (hc:Ext w w') (h:IterE E fv w it b l):IterE E fv w' it b l:=h.chg hc (by simp) (by simp)
theorem IterAt.ext {w w':World} {it b:Nat} {p:κ × β} (hc:Ext w w') (h:IterAt E fv w it b p):IterAt E fv w' it b p:=by
 obtain ⟨es,clock,seen,st,e,a1,a2,r⟩:=h;exact ⟨es,clock,seen,st,e,a1.ext hc,a2.ext hc,r⟩
section
variable {d:Option Tmp} {r:KR} {K:Env→World→Prop} {ρ:Env} {w:World}
theorem st_range {x:Operand} {b:Nat} {l:List (κ × β)} (hx:ev ρ x=.map (some b)) (hM:MapE E fv w b l)
  (k:∀it w',Ext w w'→IterE E fv w' it b l→w.heap.size≤it→regK P r K (put ρ d (.pointer (some ⟨it,0,none⟩))) w'):regK P (.cons ⟨d,.rangeMap x,none⟩ r) K ρ w:=by
 obtain ⟨es,clock,hat,hwf,heq,hn⟩:=hM
 refine st_wp ⟨b,es,clock,hx,hat,k _ _ (Ext.alloc w _) ⟨es,clock,#[],At.new w _,hat.ext (Ext.alloc w _),hwf,?_⟩ (Nat.le_refl _)⟩
 rw [List.filter_eq_self.2 (by simp)];exact heq
theorem st_next {x:Operand} {it b:Nat} {left:List (κ × β)} (hx:ev ρ x=.pointer (some ⟨it,0,none⟩)) (h:IterE E fv w it b left)
  (k1:left= []→∀w',Ext w w'→regK P r K (put ρ d (.tuple #[.bool false])) w')
  (k2:∀a p c,left=a++p::c→∀w',Chg [it] w w'→IterE E fv w' it b (a++c)→IterAt E fv w' it b p→regK P r K (put ρ d (.tuple #[.bool true,E.f p.1,fv p.2])) w'):regK P (.cons ⟨d,.nextMap x,none⟩ r) K ρ w:=by
 obtain ⟨es,clock,seen,a1,a2,hwf,heq⟩:=h
 have hne:it≠b:=a1.ne a2 (by simp)
 refine st_wp ⟨it,b,clock,seen,clock,es,clock,hx,a1,a2,fun e he=>hwf.lt e (by simpa using he),rfl,?_,fun he w' hw'=>?_,fun e he w' hw'=>?_⟩
 ·by_cases h0:es.isEmpty=true
  ·exact .inr (.inl h0)
  ·have:0<es.size:=by
    rcases Nat.eq_zero_or_pos es.size with h|h
    ·exact absurd (by simpa using h) h0
    ·exact h
   exact .inr (.inr ⟨es[0],Array.getElem_mem this,hwf.lt _ (by simp)⟩)
 ·have hl:left= []:=by
   have h1:(es.toList.filter fun e=>!seen.contains e.born)= []:=by
    have:(es.filter fun e=>!seen.contains e.born)=#[]:=by simpa using he
    rw [←Array.toList_filter,this]
   rw [h1] at heq
   simpa using heq.symm
  refine k1 hl w' ?_
  rcases hw' with rfl|rfl
  ·exact Ext.refl _
  ·exact Ext.drew w
 ·have hx':Ext w w':=by
   rcases hw' with rfl|rfl
   ·exact Ext.refl _
   ·exact Ext.drew w
  have he':e∈es.toList.filter fun e=>!seen.contains e.born:=by rw [←Array.toList_filter];simpa using he
  obtain ⟨fa,fc,hfac⟩:=List.append_of_mem he'
  rw [hfac,List.map_append,List.map_cons] at heq
  obtain ⟨a,c',hleft,ha,hc'⟩:=List.map_eq_append_iff.1 heq.symm
  obtain ⟨p,c,rfl,hp,hc⟩:=List.map_eq_cons_iff.1 hc'
  simp only [Prod.mk.injEq] at hp
  have hnot:e.born∉seen:=by
   have:=(List.mem_filter.1 he').2
   simpa using this
  have hmem:e∈es.toList:=(List.mem_filter.1 he').1
  rw [←hp.1,←hp.2]
  have hnd:(es.toList.map (·.born)).Nodup:=by
   rw [List.nodup_iff_pairwise_ne,List.pairwise_map]
   exact hwf.births.imp fun h=>by omega
  have hfilter:(es.toList.filter fun e'=>!(seen.push e.born).contains e'.born)=fa++fc:=by
   have h1:(es.toList.filter fun e'=>!(seen.push e.born).contains e'.born)=(es.toList.filter fun e=>!seen.contains e.born).filter fun e'=>decide (e'.born≠e.born):=by
    rw [List.filter_filter]
    congr 1
    funext e'
    by_cases h2:e'.born=e.born<;>simp [h2,Bool.and_comm]
   rw [h1,hfac]
   have hnd2:((fa++e::fc).map (·.born)).Nodup:=by rw [←hfac];exact (List.Sublist.map _ List.filter_sublist).nodup hnd
   rw [List.map_append,List.map_cons,List.nodup_append] at hnd2
   obtain ⟨_,n2,n3⟩:=hnd2
   rw [List.nodup_cons] at n2
   rw [List.filter_append,List.filter_cons]
   simp only [ne_eq,not_true_eq_false,decide_false,Bool.false_eq_true,if_false]
   congr 1
   ·exact List.filter_eq_self.2 fun q hq=>by
     have:=n3 q.born (List.mem_map.2 ⟨q,hq,rfl⟩) e.born (by simp)
     simpa using this
   ·exact List.filter_eq_self.2 fun q hq=>by
     have:q.born≠e.born:=fun h=>n2.1 (List.mem_map.2 ⟨q,hq,h⟩)
     simpa using this
  have a1':At w' it (.mapIter (some b) clock seen clock):=a1.ext hx'
  have hc1:Chg [it] w (setObjW w' it (.mapIter (some b) clock (seen.push e.born) clock)):=hx'.chg (Chg.setObj w' it _)
  have b1:At (setObjW w' it (.mapIter (some b) clock (seen.push e.born) clock)) it (.mapIter (some b) clock (seen.push e.born) clock):=a1'.setObj
  have b2:At (setObjW w' it (.mapIter (some b) clock (seen.push e.born) clock)) b (.map es clock):=a2.chg hc1 (by simpa using hne.symm)
  refine k2 a p c hleft _ hc1 ⟨es,clock,seen.push e.born,b1,b2,hwf,?_⟩ ⟨es,clock,seen.push e.born,e.born,e,b1,b2,by simp,?_,hp.1.symm,hp.2.symm⟩
  ·rw [hfilter,List.map_append,←ha,←hc,List.map_append]
  ·rw [←Array.find?_toList,List.find?_eq_some_iff_append]
   refine ⟨by simp,?_⟩
   obtain ⟨p1,p2,hpp⟩:=List.append_of_mem hmem
   refine ⟨p1,p2,hpp,fun q hq=>?_⟩
   have hb:=hwf.births
   rw [hpp,List.pairwise_append] at hb
   have:=hb.2.2 q hq e (by simp)
   simp;omega
theorem st_entry {x:Operand} {it b:Nat} {p:κ × β} (hx:ev ρ x=.pointer (some ⟨it,0,none⟩)) (h:IterAt E fv w it b p) (k:regK P r K (put ρ d (.tuple #[E.f p.1,fv p.2])) w):regK P (.cons ⟨d,.entry x,none⟩ r) K ρ w:=by
 obtain ⟨es,clock,seen,st,e,a1,a2,hs,hf,h1,h2⟩:=h
 exact st_wp ⟨it,b,clock,seen,clock,st,es,e,hx,a1,hs,a2,hf,by rw [h1,h2];exact k⟩
end
end Go.K
end
section
namespace Go.K
open Go
variable {P:Program}
def upds (ρ:Env):List (Tmp × Value)→Env
 | []=>ρ
 |(t,v)::l=>upd (upds ρ l) t v
def Has (ρ:Env):List (Tmp × Value)→Prop
 | []=>True
 |(t,v)::l=>ρ t=v∧Has ρ l
theorem upds_eq {ρ:Env}:∀{l:List (Tmp × Value)},Has ρ l→upds ρ l=ρ
 | [],_=>rfl
 |(t,v)::l,h=>by
  simp only [upds]
  rw [upds_eq h.2];exact upd_eq h.1
theorem least {p:Nat→Prop}:∀n,p n→∃m,p m∧∀k,p k→m≤k
 |n,h=>by
  by_cases hx:∃k,k<n∧p k
  ·obtain ⟨k,hk,hp⟩:=hx
   exact least k hp
  ·exact ⟨n,h,fun k hk=>Nat.le_of_not_lt fun hl=>hx ⟨k,hl,hk⟩⟩
theorem c_loopV {K:Exit→Env→World→Prop} {ρ:Env} {w:World} {a:KC} {σ:Type} (I:σ→World→Prop) (E:σ→List (Tmp × Value)) (μ:σ→Nat) (s0:σ) (h0:Has ρ (E s0)) (hI:I s0 w)
  (h:∀s ρ w,I s w→codeK P a (loopK (fun ρ' w'=>∃s',Has ρ' (E s')∧I s' w'∧μ s'<μ s) K) (upds ρ (E s)) w):codeK P (.loop a) K ρ w:=by
 have key:∀ρ w,∃m:Nat,(∃s,Has ρ (E s)∧I s w)→(∃s,Has ρ (E s)∧I s w∧μ s=m)∧∀s,Has ρ (E s)→I s w→m≤μ s:=by
  intro ρ w
  by_cases hx:∃s,Has ρ (E s)∧I s w
  ·obtain ⟨s,h1,h2⟩:=hx
   obtain ⟨m,hm,hl⟩:=least (p:=fun n=>∃s,Has ρ (E s)∧I s w∧μ s=n) _ ⟨s,h1,h2,rfl⟩
   exact ⟨m,fun _=>⟨hm,fun s h1 h2=>hl _ ⟨s,h1,h2,rfl⟩⟩⟩
  ·exact ⟨0,fun h=>absurd h hx⟩
 refine c_loop (fun ρ w=>∃s,Has ρ (E s)∧I s w) (fun ρ w=>Classical.choose (key ρ w)) ⟨s0,h0,hI⟩ ?_
 intro ρ w hs
 obtain ⟨⟨s,h1,h2,h3⟩,_⟩:=Classical.choose_spec (key ρ w) hs
 have:=h s ρ w h2
 rw [upds_eq h1] at this
 refine codeK_mono a (fun e ρ' w' he=>?_) this
 cases e with
 |normal=>
  simp only [loopK] at he ⊢
  obtain ⟨s',g1,g2,g3⟩:=he
  refine ⟨⟨s',g1,g2⟩,?_⟩
  have:=(Classical.choose_spec (key ρ' w') ⟨s',g1,g2⟩).2 s' g1 g2
  omega
 |_=>simpa only [loopK] using he
theorem c_cutV {K:Exit→Env→World→Prop} {ρ:Env} {w:World} {a b:KC} {σ:Type} (J:σ→World→Prop) (E:σ→List (Tmp × Value))
  (h:codeK P a (loopK (fun ρ' w'=>∃s,Has ρ' (E s)∧J s w') K) ρ w) (h2:∀s ρ w,J s w→codeK P b K (upds ρ (E s)) w):codeK P (.seq a b) K ρ w:=
 c_cut (fun ρ w=>∃s,Has ρ (E s)∧J s w) h fun ρ w ⟨s,h1,h3⟩=>by have:=h2 s ρ w h3;rwa [upds_eq h1] at this
theorem rv_cell {ρ:Env} {w:World} {n c:Nat} {ad:Addr} {cs:List Value} (r:Row w ad cs) (hc:ρ c=.pointer (some ad)) (hn:cs.length=n):rvRd ρ w (.cellN n c)=some (.agg cs.toArray):=by
 simp only [rvRd,hc]
 rw [r.r0 (n:=n) (l:=cs) (by omega) (by rw [←hn,List.take_length])];rfl
theorem rv_tmp {ρ:Env} {w:World} {t:Nat}:rvRd ρ w (.tmp t)=some (ρ t):=rfl
theorem ret1 {ρ:Env} {w:World} {x:RV} {a:Value} (h:rvRd ρ w x=some a):retRd ρ w [x]=some a:=h
theorem ret2 {ρ:Env} {w:World} {x y:RV} {a b:Value} (h1:rvRd ρ w x=some a) (h2:rvRd ρ w y=some b):retRd ρ w [x,y]=some (.tuple #[a,b]):=by simp [retRd,rvsRd,h1,h2]
theorem ret3 {ρ:Env} {w:World} {x y z:RV} {a b c:Value} (h1:rvRd ρ w x=some a) (h2:rvRd ρ w y=some b) (h3:rvRd ρ w z=some c):retRd ρ w [x,y,z]=some (.tuple #[a,b,c]):=by simp [retRd,rvsRd,h1,h2,h3]
section
variable {d:Option Tmp} {r:KR} {K:Env→World→Prop} {ρ:Env} {w:World}
theorem st_bin {op:BinOp} {x y:Operand} {a b v:Value} (hx:ev ρ x=a) (hy:ev ρ y=b) (h:binVal op a b=some v) (k:regK P r K (put ρ d v) w):regK P (.cons ⟨d,.bin op x y,none⟩ r) K ρ w:=
 st_fix rfl (by simp [KOp.fix,hx,hy,h]) k
theorem st_shr {x y:Operand} {kd kd':IntKind} {a b:Int} (hx:ev ρ x=.int kd a) (hy:ev ρ y=.int kd' b) (h:0≤b) (k:regK P r K (put ρ d (.int kd (a.fdiv (2^(min b.toNat kd.bits))))) w):regK P (.cons ⟨d,.bin .shr x y,none⟩ r) K ρ w:=
 st_bin hx hy (by simp only [binVal,isShift,if_true];rw [if_neg (by omega)]) k
theorem st_cat {x y:Operand} {a b:ByteArray} (hx:ev ρ x=.string a) (hy:ev ρ y=.string b) (h:a.size+b.size≤9223372036854775807) (k:regK P r K (put ρ d (.string (a++b))) w):regK P (.cons ⟨d,.bin .add x y,none⟩ r) K ρ w:=
 st_bin hx hy (by simp only [binVal,strBin];rw [if_neg (by have:IntKind.i64.max=9223372036854775807:=rfl;rw [this];omega)]) k
theorem st_takeStr {x h:Operand} {s:ByteArray} {kd:IntKind} {n:Int} (hx:ev ρ x=.string s) (hh:ev ρ h=.int kd n) (hr:0≤n∧n≤(s.size:Int)) (k:regK P r K (put ρ d (.string (s.extract 0 n.toNat))) w):regK P (.cons ⟨d,.sliceStr x none (some h),none⟩ r) K ρ w:=
 st_fix rfl (by simp [KOp.fix,hx,hh,hr]) k
theorem st_min {x y:Operand} {a b:Int} (hx:ev ρ x=.int .i64 a) (hy:ev ρ y=.int .i64 b) (k:regK P r K (put ρ d (.int .i64 (min a b))) w):regK P (.cons ⟨d,.minmax false x [y],none⟩ r) K ρ w:=
 st_fix rfl (by
  have e:(if b<a then b else a)=min a b:=by split<;>omega
  simp only [KOp.fix,List.foldl_cons,List.foldl_nil,hx,hy,Option.bind_some,minmax2,Bool.false_eq_true,if_false,e]) k
theorem st_takeE {α:Type} {E:Enc α} {size:Nat} {x h:Operand} {v:Value} {l:List α} {kd:IntKind} {n:Nat} {w1:World} (hx:ev ρ x=v) (hh:ev ρ h=.int kd (n:Nat)) (hs:SlE E w1 v l) (hn:n≤l.length) (hk:size=E.k)
  (k:∀v',SlE E w1 v' (l.take n)→(∀b∈blkOf v',b∈blkOf v)→regK P r K (put ρ d v') w):regK P (.cons ⟨d,.sliceSl size x none (some h),none⟩ r) K ρ w:=by
 subst hk
 obtain ⟨hl,base,cap,rfl,hc,hr⟩:=hs
 have h2:=SlE.cut (E:=E) (lo:=0) (hi:=n) ⟨hl,base,cap,rfl,hc,hr⟩ (Nat.zero_le _) hn (cap - 0) (by omega)
 refine st_fix rfl (v:=.slice (if cap=0 then base else base.map fun ad:Addr=>ad.add (0*E.k)) (n - 0) (cap - 0)) ?_ (k _ (by simpa using h2) ?_)
 ·simp only [KOp.fix,hx,hh,Option.bind_some,Option.map_some]
  rw [if_pos (by omega)];simp
 ·intro b hb
  cases base with
  |none=>simp [blkOf] at hb
  |some a=>split at hb<;>simpa [blkOf,add_zero] using hb
theorem wrapU8 (m:Int):∃b:UInt8,IntKind.u8.wrap m=(b.toNat:Int):=by
 have h:IntKind.u8.wrap m=m%256:=rfl
 refine ⟨UInt8.ofNat (m%256).toNat,?_⟩
 rw [h]
 have h1:(m%256).toNat<256:=by omega
 simp only [UInt8.toNat_ofNat']
 rw [Nat.mod_eq_of_lt (by simpa using h1)];omega
theorem st_strOf {x:Operand} {v:Value} {a:Option Addr} {n c:Nat} {bs:List UInt8} (hx:ev ρ x=v) (hv:v=.slice a n c) (h:slCells w 1 v=some (n,bs.map fun b:UInt8=>Value.int .u8 b.toNat)) (k:regK P r K (put ρ d (.string ⟨bs.toArray⟩)) w):regK P (.cons ⟨d,.strOf x,none⟩ r) K ρ w:=
 st_wp ⟨a,n,c,bs,by rw [hx,hv],by rw [hx];exact h,k⟩
theorem sl_new {b n k:Nat} {cs:List Value} {t:TypeId} (h:At w b (.cells cs.toArray t (0,0))) (hl:cs.length=n*k):slCells w k (.slice (some ⟨b,0,none⟩) n n)=some (n,cs):=
 Sl.cells ⟨hl,_,_,rfl,Nat.le_refl _,fun _=>⟨_,rfl,Row.of_at h⟩⟩
theorem all_one {vs:List Value} (h:vs.all (fun v=>v.oneCell')=true):∀v∈vs,v.oneCell'=true:=fun v hv=>List.all_eq_true.1 h v hv
theorem st_local {t:TypeId} {z vs:List Value} {d':Tmp} {n:Nat} {y:Operand} (hy:∀p,ev (upd ρ d' p) y=.agg vs.toArray) (hn:vs.length=n) (hz:z.length=n) (h1:vs.all (fun v=>v.oneCell')=true)
  (k:∀b w',Ext w w'→At w' b (.cells vs.toArray t (0,0))→Row w' ⟨b,0,none⟩ vs→w.heap.size≤b→regK P r K (put ρ (some d') (.pointer (some ⟨b,0,none⟩))) w'):
  regK P (.cons ⟨some d',.alloc t z,none⟩ (.cons ⟨none,.storeN n (.tmp d') y,none⟩ r)) K ρ w:=
 st_alloc fun b w1 x1 a1 hb=>st_storeN0 (by simp [ev,put,upd]) (hy _) hn (all_one h1) a1 hz fun w2 c2 a2=>
  k b w2 ((x1.chg c2).mono (by simp;omega)) a2 (Row.of_at a2) hb
theorem st_local2 {t:TypeId} {z vs:List Value} {d' e:Tmp} {n:Nat} {x y:Operand} {v:Value} (hx:∀p,ev (upd ρ d' p) x=v) (hy:∀p,ev (upd (upd ρ d' p) e v) y=.agg vs.toArray) (he:Nat.beq d' e=false) (hn:vs.length=n) (hz:z.length=n) (h1:vs.all (fun v=>v.oneCell')=true)
  (k:∀b w',Ext w w'→At w' b (.cells vs.toArray t (0,0))→Row w' ⟨b,0,none⟩ vs→w.heap.size≤b→regK P r K (put (put ρ (some d') (.pointer (some ⟨b,0,none⟩))) (some e) v) w'):
  regK P (.cons ⟨some d',.alloc t z,none⟩ (.cons ⟨some e,.move x,none⟩ (.cons ⟨none,.storeN n (.tmp d') y,none⟩ r))) K ρ w:=
 st_alloc fun b w1 x1 a1 hb=>st_move (by
  have hxx:=hx (.pointer (some ⟨b,0,none⟩))
  simp only [put] at hxx ⊢
  rw [hxx]
  have hne:d'≠e:=fun h=>by rw [h] at he;simp at he
  refine st_storeN0 (by simp [ev,upd,hne]) (hy _) hn (all_one h1) a1 hz fun w2 c2 a2=>?_
  exact k b w2 ((x1.chg c2).mono (by simp;omega)) a2 (Row.of_at a2) hb)
theorem st_local22 {t1 t2:TypeId} {z1 z2 vs1 vs2:List Value} {d1 d2:Tmp} {n1 n2:Nat} {y1 y2:Operand} (hne:Nat.beq d1 d2=false) (hy1:∀p q,ev (upd (upd ρ d1 p) d2 q) y1=.agg vs1.toArray) (hy2:∀p q,ev (upd (upd ρ d1 p) d2 q) y2=.agg vs2.toArray)
  (hn1:vs1.length=n1) (hn2:vs2.length=n2) (hz1:z1.length=n1) (hz2:z2.length=n2) (h1:vs1.all (fun v=>v.oneCell')=true) (h2:vs2.all (fun v=>v.oneCell')=true)
  (k:∀b1 b2 w',Ext w w'→Row w' ⟨b1,0,none⟩ vs1→Row w' ⟨b2,0,none⟩ vs2→w.heap.size≤b1→w.heap.size≤b2→regK P r K (put (put ρ (some d1) (.pointer (some ⟨b1,0,none⟩))) (some d2) (.pointer (some ⟨b2,0,none⟩))) w'):
  regK P (.cons ⟨some d1,.alloc t1 z1,none⟩ (.cons ⟨some d2,.alloc t2 z2,none⟩ (.cons ⟨none,.storeN n1 (.tmp d1) y1,none⟩ (.cons ⟨none,.storeN n2 (.tmp d2) y2,none⟩ r)))) K ρ w:=
 st_alloc fun b1 w1 x1 a1 hb1=>st_alloc fun b2 w2 x2 a2 hb2=>by
  have hd:d1≠d2:=fun h=>by rw [h] at hne;simp at hne
  have hlt:=a1.lt
  have hs:=x1.size
  refine st_storeN0 (by simp [ev,put,upd,hd]) (hy1 _ _) hn1 (all_one h1) (a1.ext x2) hz1 fun w3 c3 a3=>?_
  refine st_storeN0 (by simp [ev,put,upd]) (hy2 _ _) hn2 (all_one h2) (a2.chg c3 (by simp;omega)) hz2 fun w4 c4 a4=>?_
  exact k b1 b2 w4 (((x1.trans x2).chg (c3.trans c4)).mono (by intro b hb;simp at hb ⊢;omega)) (Row.of_at (a3.chg c4 (by simp;omega))) (Row.of_at a4) hb1 (by omega)
theorem st_setN {w0:World} {n:Nat} {x y:Operand} {b:Nat} {t:TypeId} {cur vs:List Value} (x0:Ext w0 w) (hb:w0.heap.size≤b) (h:At w b (.cells cur.toArray t (0,0))) (hx:ev ρ x=.pointer (some ⟨b,0,none⟩)) (hy:ev ρ y=.agg vs.toArray) (hn:vs.length=n) (hl:cur.length=n) (h1:vs.all (fun v=>v.oneCell')=true)
  (k:∀w',Ext w0 w'→Chg [b] w w'→At w' b (.cells vs.toArray t (0,0))→Row w' ⟨b,0,none⟩ vs→regK P r K (put ρ d undef) w'):regK P (.cons ⟨d,.storeN n x y,none⟩ r) K ρ w:=
 st_storeN0 hx hy hn (all_one h1) h hl fun w2 c2 a2=>k w2 ((x0.chg c2).mono (by simp;omega)) c2 a2 (Row.of_at a2)
theorem SlE.new {α:Type} {E:Enc α} {b n c:Nat} {l:List α} {t:TypeId} (h:At w b (.cells (E.flat l).toArray t (0,0))) (hl:n=l.length) (hc:n≤c):SlE E w (.slice (some ⟨b,0,none⟩) n c) l:=by
 subst hl
 exact ⟨E.flat_length l,_,_,rfl,hc,fun _=>⟨_,rfl,Row.of_at h⟩⟩
end
end Go.K
end
section
namespace Go.K
open Go
variable {P:Program}
inductive All2 {α β:Type} (r:α→β→Prop):List α→List β→Prop
 |nil:All2 r [] []
 |cons {a b as bs}:r a b→All2 r as bs→All2 r (a::as) (b::bs)
section
variable {α β:Type} {r:α→β→Prop}
theorem All2.length:∀{l:List α} {m:List β},All2 r l m→l.length=m.length
 |_,_,.nil=>rfl
 |_,_,.cons _ h=>by simp [h.length]
theorem All2.mono {r':α→β→Prop} (hr:∀a b,r a b→r' a b):∀{l:List α} {m:List β},All2 r l m→All2 r' l m
 |_,_,.nil=>.nil
 |_,_,.cons h t=>.cons (hr _ _ h) (t.mono hr)
theorem All2.append:∀{l l':List α} {m m':List β},All2 r l m→All2 r l' m'→All2 r (l++l') (m++m')
 |_,_,_,_,.nil,h=>h
 |_,_,_,_,.cons h t,h'=>.cons h (t.append h')
theorem All2.get:∀{l:List α} {m:List β},All2 r l m→∀(i:Nat) (h:i<l.length) (h':i<m.length),r l[i] m[i]
 |_,_,.cons h _,0,_,_=>h
 |_,_,.cons _ t,i+1,h,h'=>t.get i (by simpa using h) (by simpa using h')
theorem All2.take:∀{l:List α} {m:List β} (n:Nat),All2 r l m→All2 r (l.take n) (m.take n)
 |_,_,0,_=>by simpa using All2.nil
 |_,_,_+1,.nil=>by simpa using All2.nil
 |_,_,n+1,.cons h t=>by simpa using All2.cons h (t.take n)
theorem All2.drop:∀{l:List α} {m:List β} (n:Nat),All2 r l m→All2 r (l.drop n) (m.drop n)
 |_,_,0,h=>by simpa using h
 |_,_,_+1,.nil=>by simpa using All2.nil
 |_,_,n+1,.cons _ t=>by simpa using t.drop n
theorem All2.left_nil {m:List β} (h:All2 r [] m):m= []:=by cases h;rfl
theorem All2.right_nil {l:List α} (h:All2 r l []):l= []:=by cases h;rfl
theorem All2.split:∀{l l':List α} {m:List β},All2 r (l++l') m→∃m1 m2,m=m1++m2∧All2 r l m1∧All2 r l' m2
 | [],_,m,h=>⟨[],m,rfl,.nil,h⟩
 |_::_,_,_,.cons h t=>by
  obtain ⟨m1,m2,rfl,h1,h2⟩:=t.split
  exact ⟨_::m1,m2,rfl,.cons h h1,h2⟩
end
structure R (α:Type) where
 k:Nat
 pos:0<k
 ag:Bool
 rel:List Nat→World→List Value→α→Prop
 len:∀{M w cs x},rel M w cs x→cs.length=k
 one:∀{M w cs x},rel M w cs x→∀v∈cs,v.oneCell'=true
 step:∀{M M' L w w' cs x},rel M w cs x→Chg L w w'→(∀b∈L,b∈M∨w.heap.size≤b)→(∀b∈M',b∈M∨w.heap.size≤b)→rel M' w' cs x
def R.val {α:Type} (E:R α) (cs:List Value):Value:=if E.ag then .agg cs.toArray else cs.headD undef
def Vec (k:Nat):={cs:List Value // cs.length=k∧∀v∈cs,v.oneCell'=true}
def vecE (k:Nat) (hk:0<k):Enc (Vec k):=⟨fun c=>c.1,k,fun c=>c.2.1,hk,fun c=>c.2.2⟩
variable {α:Type} {E:R α} {M M' L:List Nat} {w w':World}
theorem R.ext {cs:List Value} {x:α} (h:E.rel M w cs x) (c:Ext w w'):E.rel M w' cs x:=E.step h c (by simp) (fun _ h=>.inl h)
def R.vec {cs:List Value} {x:α} (h:E.rel M w cs x):Vec E.k:=⟨cs,E.len h,E.one h⟩
def R.flat (E:Enc α) (ag:Bool):R α where
 k:=E.k
 pos:=E.pos
 ag:=ag
 rel:=fun _ _ cs x=>cs=E.f x
 len:=fun h=>by rw [h];exact E.len _
 one:=fun h=>by rw [h];exact E.one _
 step:=fun h _ _ _=>h
def R.all (E:R α) (M:List Nat) (w:World) (css:List (Vec E.k)) (l:List α):Prop:=All2 (fun c x=>E.rel M w c.1 x) css l
def SlR (E:R α) (M:List Nat) (w:World) (v:Value) (l:List α):Prop:=
 ∃css,SlE (vecE E.k E.pos) w v css∧E.all M w css l∧(0<l.length→∀b∈blkOf v,b∉M)
section
variable {v:Value} {l:List α}
theorem SlR.form (h:SlR E M w v l):∃base cap,v=.slice base l.length cap:=by
 obtain ⟨css,h1,h2,_⟩:=h
 obtain ⟨base,cap,rfl⟩:=h1.form
 exact ⟨base,cap,by rw [h2.length]⟩
theorem SlE.anyw {F:Enc α} (h:SlE F w v []):SlE F w' v []:=by
 obtain ⟨h1,base,cap,hv,hc,_⟩:=h
 exact ⟨h1,base,cap,hv,hc,fun hp=>by simp [Enc.flat] at hp⟩
theorem SlE.blk_lt {F:Enc α} (h:SlE F w v l) (hp:0<l.length):∀b∈blkOf v,b<w.heap.size:=by
 obtain ⟨h1,base,cap,rfl,hc,h2⟩:=h
 have hk:=F.pos
 have hpos:0<(F.flat l).length:=by rw [F.flat_length];exact Nat.mul_pos hp hk
 obtain ⟨a,rfl,hr⟩:=h2 hpos
 intro b hb
 simp only [blkOf,List.mem_singleton] at hb
 subst hb
 have:=cell_lt (hr 0 _ (List.getElem?_eq_getElem hpos))
 rwa [add_block] at this
theorem SlR.blk_lt (h:SlR E M w v l) (hp:0<l.length):∀b∈blkOf v,b<w.heap.size:=by
 obtain ⟨css,h1,h2,_⟩:=h
 exact h1.blk_lt (by rw [h2.length];exact hp)
theorem SlR.step (h:SlR E M w v l) (c:Chg L w w') (hL:∀b∈L,b∈M∨w.heap.size≤b) (hM:∀b∈M',b∈M∨w.heap.size≤b):SlR E M' w' v l:=by
 have hlt:=h.blk_lt
 obtain ⟨css,h1,h2,h3⟩:=h
 refine ⟨css,?_,h2.mono fun _ _ hr=>E.step hr c hL hM,fun hp b hb hm=>?_⟩
 ·by_cases hp:0<l.length
  ·refine h1.chg c fun a m k hv hm=>?_
   have hb:a.block∈blkOf v:=by rw [hv];simp [blkOf]
   rcases hL _ hm with h4|h4
   ·exact h3 hp _ hb h4
   ·have:=hlt hp _ hb;omega
  ·have hl:l= []:=List.length_eq_zero_iff.1 (by omega)
   subst hl
   have:=h2.right_nil
   subst this
   exact h1.anyw
 ·rcases hM b hm with h4|h4
  ·exact h3 hp b hb h4
  ·have:=hlt hp b hb;omega
theorem SlR.ext (h:SlR E M w v l) (c:Ext w w'):SlR E M w' v l:=h.step c (by simp) (fun _ h=>.inl h)
theorem SlR.sub (h:SlR E M w v l) (hm:∀b∈M',b∈M∨w.heap.size≤b):SlR E M' w v l:=h.step (Chg.refl [] w) (by simp) hm
theorem SlR.nil (M:List Nat) (w:World):SlR E M w (.slice none 0 0) []:=⟨[],SlE.nil w,.nil,fun h=>by simp at h⟩
def Enc.vec (F:Enc α) (x:α):Vec F.k:=⟨F.f x,F.len x,F.one x⟩
theorem flat_vecs (F:Enc α):∀l:List α,(vecE F.k F.pos).flat (l.map F.vec)=F.flat l
 | []=>rfl
 |x::l=>by
  have:=flat_vecs F l
  simp only [Enc.flat,List.map_cons,List.flatMap_cons] at this ⊢
  rw [this];rfl
theorem SlE.toR {F:Enc α} {ag:Bool} (h:SlE F w v l) (hb:∀b∈blkOf v,b∉M):SlR (R.flat F ag) M w v l:=by
 refine ⟨l.map F.vec,?_,?_,fun _=>hb⟩
 ·show Sl w F.k v (l.map F.vec).length ((vecE F.k F.pos).flat (l.map F.vec))
  rw [flat_vecs,List.length_map];exact h
 ·clear h
  induction l with
  |nil=>exact .nil
  |cons x l ih=>exact .cons rfl ih
theorem SlR.toE {F:Enc α} {ag:Bool} (h:SlR (R.flat F ag) M w v l):SlE F w v l:=by
 obtain ⟨css,h1,h2, -⟩:=h
 have e:css=l.map F.vec:=by
  clear h1
  induction h2 with
  |nil=>rfl
  |cons hx _ ih=>rw [ih,List.map_cons];congr 1;exact Subtype.ext hx
 subst e
 have h3:Sl w F.k v (l.map F.vec).length ((vecE F.k F.pos).flat (l.map F.vec)):=h1
 rw [flat_vecs,List.length_map] at h3
 exact h3
theorem SlR.cells (h:SlR E M w v l):∃css,slCells w E.k v=some (l.length,(vecE E.k E.pos).flat css)∧E.all M w css l:=by
 obtain ⟨css,h1,h2,_⟩:=h
 exact ⟨css,by have:=h1.cells;rw [h2.length] at this;exact this,h2⟩
theorem SlR.cut {base:Option Addr} {n cap:Nat} (h:SlR E M w (.slice base n cap) l) {lo hi:Nat} (h1:lo≤hi) (h2:hi≤l.length) (c2:Nat) (hc2:hi - lo≤c2):
  SlR E M w (.slice (if cap=lo then base else base.map fun ad:Addr=>ad.add (lo*E.k)) (hi - lo) c2) ((l.drop lo).take (hi - lo)):=by
 obtain ⟨css,g1,g2,g3⟩:=h
 refine ⟨_,g1.cut h1 (by rw [g2.length];exact h2) c2 hc2,(g2.drop lo).take _,fun hp b hb=>?_⟩
 simp only [List.length_take,List.length_drop] at hp
 refine g3 (by omega) b ?_
 cases base with
 |none=>simp [blkOf] at hb
 |some a=>split at hb<;>simpa [blkOf,add_block] using hb
end
section
variable {d:Option Tmp} {r:KR} {K:Env→World→Prop} {ρ:Env} {v:Value} {l:List α}
theorem st_lenR {x:Operand} (hx:ev ρ x=v) (hs:SlR E M w v l) (k:regK P r K (put ρ d (.int .i64 (l.length:Nat))) w):regK P (.cons ⟨d,.len false x,none⟩ r) K ρ w:=by
 obtain ⟨base,cap,rfl⟩:=hs.form
 exact st_fix rfl (by simp [KOp.fix,hx]) k
theorem st_elemR {size:Nat} {x i:Operand} {kd:IntKind} {n:Nat} (hx:ev ρ x=v) (hi:ev ρ i=.int kd (n:Nat)) (hs:SlR E M w v l) (hk:size=E.k) (hr:n<l.length)
  (k:∀ad cs,Row w ad cs→E.rel M w cs l[n]→regK P r K (put ρ d (.pointer (some ad))) w):regK P (.cons ⟨d,.indexAddr size x i,none⟩ r) K ρ w:=by
 obtain ⟨css,h1,h2,_⟩:=hs
 have hr':n<css.length:=by rw [h2.length];exact hr
 exact st_elemE (E:=vecE E.k E.pos) hx hi h1 hk hr' fun ad hrow=>k ad _ hrow (h2.get n hr' hr)
end
def OwnR (E:R α) (t:TypeId) (B:Nat) (M:List Nat) (w:World) (v:Value) (l:List α):Prop:=
 ∃css,Own (vecE E.k E.pos) t B w v css∧E.all (blkOf v++M) w css l
section
variable {t:TypeId} {B:Nat} {v:Value} {l:List α}
theorem OwnR.nil (t:TypeId) (B:Nat) (M:List Nat) (w:World):OwnR E t B M w (.slice none 0 0) []:=⟨[],Own.nil t B w,.nil⟩
theorem OwnR.base (h:OwnR E t B M w v l):∀b∈blkOf v,B≤b:=by obtain ⟨_,h1,_⟩:=h;exact h1.base
theorem OwnR.lt (h:OwnR E t B M w v l):∀b∈blkOf v,b<w.heap.size:=by
 obtain ⟨_,h1,_⟩:=h
 rcases h1 with ⟨rfl,rfl⟩|⟨b,cap,junk,rfl,hB,hat,hl⟩<;>simp [blkOf]
 exact hat.lt
theorem OwnR.sl (h:OwnR E t B M w v l) (hM:∀b∈M,b∉blkOf v):SlR E M w v l:=by
 obtain ⟨css,h1,h2⟩:=h
 exact ⟨css,h1.sl,h2.mono fun _ _ hr=>E.step hr (Chg.refl [] w) (by simp) (fun b hb=>.inl (by simp [hb])),fun _ b hb hm=>hM b hm hb⟩
theorem OwnR.slB (h:OwnR E t B M w v l) (hM:∀b∈M,b<B):SlR E M w v l:=h.sl fun b hb hv=>by have:=hM b hb;have:=h.base b hv;omega
theorem OwnR.step (h:OwnR E t B M w v l) (c:Chg L w w') (hL:∀b∈L,b∉blkOf v∧(b∈M∨w.heap.size≤b)) (hM:∀b∈M',b∈M∨w.heap.size≤b):OwnR E t B M' w' v l:=by
 obtain ⟨css,h1,h2⟩:=h
 refine ⟨css,h1.chg c fun b hb hl=>(hL b hl).1 hb,h2.mono fun _ _ hr=>E.step hr c (fun b hb=>?_) fun b hb=>?_⟩
 ·rcases (hL b hb).2 with h|h
  ·exact .inl (by simp [h])
  ·exact .inr h
 ·rcases List.mem_append.1 hb with h|h
  ·exact .inl (by simp [h])
  ·rcases hM b h with h|h
   ·exact .inl (by simp [h])
   ·exact .inr h
theorem OwnR.ext (h:OwnR E t B M w v l) (c:Ext w w'):OwnR E t B M w' v l:=h.step c (by simp) (fun _ h=>.inl h)
theorem OwnR.lower {B':Nat} (h:OwnR E t B M w v l) (hb:B'≤B):OwnR E t B' M w v l:=by
 obtain ⟨css,h1,h2⟩:=h;exact ⟨css,h1.lower hb,h2⟩
end
section
variable {d:Option Tmp} {r:KR} {K:Env→World→Prop} {ρ:Env} {v:Value} {l l2:List α} {t:TypeId} {B:Nat}
theorem st_appendRO {size bytes:Nat} {zero:List Value} {x y:Operand} {n:Nat} {new:List Value} {css:List (Vec E.k)} (hx:ev ρ x=v) (ho:OwnR E t B M w v l) (hB:B≤w.heap.size) (hk:size=E.k) (hz:zero.length=E.k)
  (hy:slCells w E.k (ev ρ y)=some (n,new)) (hnew:new=(vecE E.k E.pos).flat css) (ha:E.all (blkOf v++M) w css l2) (hn:n=l2.length) (hroom:(l.length+l2.length)*bytes≤2^47)
  (k:∀v' w',OwnR E t B M w' v' (l++l2)→((∀b∈M,b∉blkOf v)→SlR E M w' v l)→Chg (blkOf v) w w'→(∀b∈blkOf v',b∈blkOf v∨w.heap.size≤b)→regK P r K (put ρ d v') w'):regK P (.cons ⟨d,.append t size bytes zero x y,none⟩ r) K ρ w:=by
 subst hk
 obtain ⟨cs0,h1,h2⟩:=ho
 refine st_appendX (E:=vecE E.k E.pos) hx h1 hB rfl hz hy hnew (by rw [hn,ha.length]) (by rw [h2.length,ha.length];exact hroom) fun v' w' h3 h0 c hb=>?_
 refine k v' w' ⟨cs0++css,h3,?_⟩ (fun hM=>⟨cs0,h0,h2.mono fun _ _ hr=>E.step hr c (fun b hb=>.inl (by simp [hb])) (fun b hb=>.inl (by simp [hb])),fun _ b hb hm=>hM b hm hb⟩) c hb
 refine (h2.append ha).mono fun _ _ hr=>E.step hr c (fun b hb=>.inl (by simp [hb])) fun b h4=>?_
 rcases List.mem_append.1 h4 with h5|h5
 ·rcases hb b h5 with h6|h6
  ·exact .inl (by simp [h6])
  ·exact .inr h6
 ·exact .inl (by simp [h5])
theorem st_appendR {size bytes:Nat} {zero:List Value} {x y:Operand} {n:Nat} {new:List Value} {css:List (Vec E.k)} (hx:ev ρ x=v) (ho:OwnR E t B M w v l) (hB:B≤w.heap.size) (hk:size=E.k) (hz:zero.length=E.k)
  (hy:slCells w E.k (ev ρ y)=some (n,new)) (hnew:new=(vecE E.k E.pos).flat css) (ha:E.all (blkOf v++M) w css l2) (hn:n=l2.length) (hroom:(l.length+l2.length)*bytes≤2^47)
  (k:∀v' w',OwnR E t B M w' v' (l++l2)→Chg (blkOf v) w w'→(∀b∈blkOf v',b∈blkOf v∨w.heap.size≤b)→regK P r K (put ρ d v') w'):regK P (.cons ⟨d,.append t size bytes zero x y,none⟩ r) K ρ w:=
 st_appendRO hx ho hB hk hz hy hnew ha hn hroom fun v' w' h1 _ h3 h4=>k v' w' h1 h3 h4
theorem st_append1O {size bytes:Nat} {zero:List Value} {x y:Operand} {b:Nat} {ty:TypeId} {cs:List Value} {a:α} (hx:ev ρ x=v) (hy:ev ρ y=.slice (some ⟨b,0,none⟩) 1 1) (ho:OwnR E t B M w v l) (hB:B≤w.heap.size) (hk:size=E.k) (hz:zero.length=E.k)
  (hb:At w b (.cells cs.toArray ty (0,0))) (ha:E.rel (blkOf v++M) w cs a) (hroom:(l.length+1)*bytes≤2^47)
  (k:∀v' w',OwnR E t B M w' v' (l++ [a])→((∀b∈M,b∉blkOf v)→SlR E M w' v l)→Chg (blkOf v) w w'→(∀b∈blkOf v',b∈blkOf v∨w.heap.size≤b)→regK P r K (put ρ d v') w'):regK P (.cons ⟨d,.append t size bytes zero x y,none⟩ r) K ρ w:=by
 have hl:=E.len ha
 refine st_appendRO (css:= [R.vec ha]) (l2:= [a]) hx ho hB hk hz (by rw [hy];exact sl_new hb (by rw [hl];simp)) (by simp only [Enc.flat,List.flatMap_cons,List.flatMap_nil,List.append_nil];rfl) (.cons ha .nil) rfl hroom k
theorem st_append1 {size bytes:Nat} {zero:List Value} {x y:Operand} {b:Nat} {ty:TypeId} {cs:List Value} {a:α} (hx:ev ρ x=v) (hy:ev ρ y=.slice (some ⟨b,0,none⟩) 1 1) (ho:OwnR E t B M w v l) (hB:B≤w.heap.size) (hk:size=E.k) (hz:zero.length=E.k)
  (hb:At w b (.cells cs.toArray ty (0,0))) (ha:E.rel (blkOf v++M) w cs a) (hroom:(l.length+1)*bytes≤2^47)
  (k:∀v' w',OwnR E t B M w' v' (l++ [a])→Chg (blkOf v) w w'→(∀b∈blkOf v',b∈blkOf v∨w.heap.size≤b)→regK P r K (put ρ d v') w'):regK P (.cons ⟨d,.append t size bytes zero x y,none⟩ r) K ρ w:=
 st_append1O hx hy ho hB hk hz hb ha hroom fun v' w' h1 _ h3 h4=>k v' w' h1 h3 h4
end
section
variable {κ β:Type} [DecidableEq κ] {KE:KEnc κ} {F:R β}
def MapR (KE:KEnc κ) (F:R β) (M:List Nat) (w:World) (b:Nat) (m:List (κ × β)):Prop:=
 ∃mv:List (κ × Value),MapE KE id w b mv∧All2 (fun p q=>p.1=q.1∧∃cs,p.2=F.val cs∧F.rel M w cs q.2) mv m
theorem MapR.lt {b:Nat} {m:List (κ × β)} (h:MapR KE F M w b m):b<w.heap.size:=by obtain ⟨mv,h1,_⟩:=h;exact h1.lt
theorem MapR.step {b:Nat} {m:List (κ × β)} (h:MapR KE F M w b m) (c:Chg L w w') (hb:b∉L) (hL:∀b∈L,b∈M∨w.heap.size≤b) (hM:∀b∈M',b∈M∨w.heap.size≤b):MapR KE F M' w' b m:=by
 obtain ⟨mv,h1,h2⟩:=h
 exact ⟨mv,h1.chg c hb,h2.mono fun _ _ ⟨e,cs,e2,hr⟩=>⟨e,cs,e2,F.step hr c hL hM⟩⟩
theorem MapR.ext {b:Nat} {m:List (κ × β)} (h:MapR KE F M w b m) (c:Ext w w'):MapR KE F M w' b m:=h.step c (by simp) (by simp) (fun _ h=>.inl h)
end
end Go.K
end
