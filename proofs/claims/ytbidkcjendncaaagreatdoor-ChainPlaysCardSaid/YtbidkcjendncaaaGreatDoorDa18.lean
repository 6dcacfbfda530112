/- Plain: the reference's sorted list of entries. Plain: a set and the reference's sorted list, side by side. Plain: blocks over the document's lists of coins; what one list has that another one hasn't. Plain: chains of blocks. The engine, part 11: the sort's worlds. The engine, part 23: steps that tell what was drawn. Contracts: the order of points (by the library's comparisons). Contracts: sets of  -/
import Derived.Shelf.SlSortCmp.WholeK
import Derived.Shelf.SlSortCmp.NoneTotal
import Derived.Ground.SlsfProg
import Derived.Test.YtbidkcjendncaaaGreatDoorProg
import Derived.Test.YtbidkcjendncaaaGreatDoorDa17
set_option linter.unusedVariables false
set_option linter.unusedSimpArgs false
section
namespace Go.K
open Go
def refIdx (l:List En) (p:Pt):Option Nat:=l.findIdx? fun e=>decide (e.1=p)
def refFind (l:List En) (p:Pt):Int:=match refIdx l p with
 |some i=>i
 |none=> -1
theorem refIdx_none {l:List En} {p:Pt}:refIdx l p=none↔∀e∈l,e.1≠p:=by simp [refIdx,List.findIdx?_eq_none_iff]
theorem refIdx_some {l:List En} {p:Pt} {i:Nat}:refIdx l p=some i↔∃h:i<l.length,l[i].1=p∧∀j,∀hj:j<i,l[j].1≠p:=by
 rw [refIdx,List.findIdx?_eq_some_iff_getElem];simp
theorem tot_take {l:List En} {i:Nat} (h:i<l.length):tot (l.take (i+1))=tot (l.take i)+l[i].2.v:=by
 rw [List.take_succ_eq_append_getElem h,tot_append];simp
theorem tot_take_le {l:List En} (h:Mon l) (i:Nat):0≤tot (l.take i)∧tot (l.take i)≤tot l:=by
 have h1:0≤tot (l.take i):=Mon.pos fun e he=>h.1 e (List.mem_of_mem_take he)
 have h2:0≤tot (l.drop i):=Mon.pos fun e he=>h.1 e (List.mem_of_mem_drop he)
 have h3:tot l=tot (l.take i)+tot (l.drop i):=by rw [←tot_append,List.take_append_drop]
 omega
def insStep (p:Pt) (c:Cn) (s:List En × Bool) (e:En):List En × Bool:=if ptLt p e.1&&!s.2 then (s.1++ [(p,c)]++ [e],true) else (s.1++ [e],s.2)
def insRun (p:Pt) (c:Cn) (l:List En):List En × Bool:=l.foldl (insStep p c) ([],false)
def insEnd (p:Pt) (c:Cn) (l:List En):List En:=if (insRun p c l).2 then (insRun p c l).1 else (insRun p c l).1++ [(p,c)]
theorem insRun_take {p:Pt} {c:Cn} {l:List En} {i:Nat} (h:i<l.length):insRun p c (l.take (i+1))=insStep p c (insRun p c (l.take i)) l[i]:=by
 rw [List.take_succ_eq_append_getElem h,insRun,List.foldl_append];rfl
theorem insRun_len (p:Pt) (c:Cn) (l:List En):(insRun p c l).1.length≤l.length+1∧((insRun p c l).2=false→(insRun p c l).1.length=l.length):=by
 have key:∀(l:List En) (s:List En × Bool),(l.foldl (insStep p c) s).1.length+(if s.2 then 1 else 0)=s.1.length+l.length+(if (l.foldl (insStep p c) s).2 then 1 else 0):=by
  intro l
  induction l with
  |nil=>intro s;cases h:s.2<;>simp [h]
  |cons e l ih=>
   intro s
   rw [List.foldl_cons]
   have:=ih (insStep p c s e)
   rw [List.length_cons]
   unfold insStep at this ⊢
   by_cases h:ptLt p e.1=true
   ·cases hs:s.2
    ·simp [h,hs] at this ⊢;omega
    ·simp [h,hs] at this ⊢;omega
   ·simp [h] at this ⊢;omega
 have:=key l ([],false)
 simp only [List.length_nil,Nat.zero_add,Bool.false_eq_true,if_false,Nat.add_zero] at this
 unfold insRun
 constructor
 ·split at this<;>omega
 ·intro h;rw [h] at this;simpa using this
def refPutCode (l:List En) (p:Pt) (c:Cn):Int:=if formedB p c then (if (refIdx l p).isSome then 7 else if goodB (tot l+c.v) then 0 else 3) else 2
def refPut (l:List En) (p:Pt) (c:Cn):List En:=if refPutCode l p c=0 then insEnd p c l else l
def refTakeCode (l:List En) (p:Pt):Int:=if (refIdx l p).isSome then 0 else 8
def refTake (l:List En) (p:Pt):List En:=match refIdx l p with
 |some i=>l.eraseIdx i
 |none=>l
def refCoin (l:List En) (p:Pt):Cn:=match refIdx l p with
 |some i=>((l[i]?).map (·.2)).getD cn0
 |none=>cn0
theorem refCoin_some {l:List En} {p:Pt} {n:Nat} (h:refIdx l p=some n) (hn:n<l.length):refCoin l p=l[n].2:=by
 unfold refCoin;rw [h];simp [List.getElem?_eq_getElem hn]
theorem refTakeCode_some {l:List En} {p:Pt} {n:Nat} (h:refIdx l p=some n):refTakeCode l p=0:=by rw [refTakeCode,h];rfl
theorem refPutCode2 {l:List En} {p:Pt} {c:Cn} (h:formedB p c=false):refPutCode l p c=2:=by rw [refPutCode,h];rfl
theorem refPutCode7 {l:List En} {p:Pt} {c:Cn} {n:Nat} (h:formedB p c=true) (hd:refIdx l p=some n):refPutCode l p c=7:=by rw [refPutCode,h,hd];rfl
theorem refPutCode0 {l:List En} {p:Pt} {c:Cn} (h:formedB p c=true) (hd:refIdx l p=none):refPutCode l p c=if goodB (tot l+c.v) then 0 else 3:=by rw [refPutCode,h,hd];rfl
theorem insRun_put {p:Pt} {c:Cn} {l:List En} {i:Nat} (h:i<l.length) (h1:ptLt p l[i].1=true) (h2:(insRun p c (l.take i)).2=false):insRun p c (l.take (i+1))=((insRun p c (l.take i)).1++ [(p,c)]++ [l[i]],true):=by
 rw [insRun_take h,insStep,h1,h2];rfl
theorem insRun_not {p:Pt} {c:Cn} {l:List En} {i:Nat} (h:i<l.length) (h1:ptLt p l[i].1=false∨(insRun p c (l.take i)).2=true):insRun p c (l.take (i+1))=((insRun p c (l.take i)).1++ [l[i]],(insRun p c (l.take i)).2):=by
 rw [insRun_take h,insStep]
 rcases h1 with h1|h1<;>rw [h1]<;>simp
theorem erase_take {l:List En} {i n:Nat} (h:i<l.length):(l.take (i+1)).eraseIdx n=if i=n then (l.take i).eraseIdx n else (l.take i).eraseIdx n++ [l[i]]:=by
 rw [List.take_succ_eq_append_getElem h]
 by_cases e:i=n
 ·subst e
  rw [if_pos rfl,List.eraseIdx_append_of_length_le (by simp;omega)]
  have e1:i - (l.take i).length=0:=by simp;omega
  rw [e1,List.eraseIdx_of_length_le (l:=l.take i) (by simp;omega)];simp
 ·rw [if_neg e]
  by_cases hl:i<n
  ·rw [List.eraseIdx_of_length_le (by simp;omega),List.eraseIdx_of_length_le (by simp;omega)]
  ·rw [List.eraseIdx_append_of_lt_length (by simp;omega)]
def Srt (l:List En):Prop:=l.Pairwise fun a b=>ptLt a.1 b.1=true
theorem sorted_eq:∀{l' l:List En},l'.Perm l→l'.Pairwise (fun a b=>ptLt b.1 a.1=false)→Srt l→l'=l
 | [],l,hp,_,_=>by rw [List.nil_perm.1 hp]
 |y::ys, [],hp,_,_=>by have:=hp.length_eq;simp at this
 |y::ys,x::xs,hp,h1,h2=>by
  have h2':=List.pairwise_cons.1 h2
  have h1':=List.pairwise_cons.1 h1
  have e:y=x:=by
   have hy:y∈x::xs:=hp.mem_iff.1 (by simp)
   have hx:x∈y::ys:=hp.mem_iff.2 (by simp)
   rcases List.mem_cons.1 hy with h|h
   ·exact h
   ·rcases List.mem_cons.1 hx with g|g
    ·exact g.symm
    ·have a:=h2'.1 y h
     have b:=h1'.1 x g
     rw [a] at b;cases b
  subst e
  rw [sorted_eq (List.Perm.cons_inv hp) h1'.2 h2'.2]
end Go.K
end
section
namespace Go.K
open Go
theorem srt_nodup {l:List En} (h:Srt l):(l.map (·.1)).Nodup:=by
 rw [List.Nodup,List.pairwise_map]
 exact h.imp fun hab e=>by rw [e,ptLt_irrefl] at hab;cases hab
theorem mem_aget {m:List En} {p:Pt} {c:Cn} (hn:(m.map (·.1)).Nodup) (h:(p,c)∈m):aget m p=some c:=by
 induction m with
 |nil=>cases h
 |cons e m ih=>
  simp only [List.map_cons,List.nodup_cons] at hn
  rw [aget_cons]
  rcases List.mem_cons.1 h with h|h
  ·subst h;simp
  ·rw [if_neg,ih hn.2 h]
   intro e1
   exact hn.1 (e1▸List.mem_map_of_mem (f:=(·.1)) h)
theorem aget_perm {m l:List En} (hp:m.Perm l) (hs:Srt l) (p:Pt):aget m p=aget l p:=by
 have hl:=srt_nodup hs
 have hm:(m.map (·.1)).Nodup:=(hp.map _).nodup_iff.2 hl
 cases h:aget l p with
 |some c=>exact mem_aget hm (hp.mem_iff.2 (aget_mem h))
 |none=>
  cases h2:aget m p with
  |none=>rfl
  |some c=>rw [mem_aget hl (hp.mem_iff.1 (aget_mem h2))] at h;cases h
theorem aget_some_idx {l:List En} {p:Pt} {n:Nat} (h:refIdx l p=some n) (hn:n<l.length):aget l p=some l[n].2:=by
 rw [aget_idx];unfold refIdx at h;rw [h];simp [List.getElem?_eq_getElem hn]
theorem aget_none_idx {l:List En} {p:Pt} (h:refIdx l p=none):aget l p=none:=by
 rw [aget_idx];unfold refIdx at h;rw [h];rfl
theorem idx_lt {l:List En} {p:Pt} {n:Nat} (h:refIdx l p=some n):n<l.length:=(refIdx_some.1 h).1
theorem isSome_idx (l:List En) (p:Pt):(aget l p).isSome=(refIdx l p).isSome:=by
 cases h:refIdx l p with
 |none=>rw [aget_none_idx h];rfl
 |some n=>rw [aget_some_idx h (idx_lt h)];rfl
section
variable {m l:List En} (hp:m.Perm l) (hs:Srt l)
include hp hs
theorem take_code (p:Pt):takeCode m p=refTakeCode l p:=by
 rw [takeCode,refTakeCode,aget_perm hp hs,isSome_idx]
theorem take_coin (p:Pt):takeCoin m p=refCoin l p:=by
 rw [takeCoin,aget_perm hp hs]
 cases h:refIdx l p with
 |none=>rw [aget_none_idx h,refCoin,h];rfl
 |some n=>rw [aget_some_idx h (idx_lt h),refCoin_some h (idx_lt h)];rfl
theorem put_code (p:Pt) (c:Cn):putCode m p c=refPutCode l p c:=by
 rw [putCode,refPutCode,aget_perm hp hs,isSome_idx,tot_perm hp]
end
theorem refTake_adel {l:List En} (hs:Srt l) (p:Pt):refTake l p=adel l p:=by
 unfold refTake
 cases h:refIdx l p with
 |none=>exact (adel_absent (by unfold refIdx at h;exact h)).symm
 |some n=>exact (adel_present (srt_nodup hs) (by unfold refIdx at h;exact h)).symm
theorem take_sim {m l:List En} (hp:m.Perm l) (hs:Srt l) (p:Pt):(takeMap m p).Perm (refTake l p)∧Srt (refTake l p)∧(refTake l p).length≤l.length:=by
 rw [refTake_adel hs,takeMap]
 refine ⟨hp.filter _,?_,List.length_filter_le _ _⟩
 exact List.Pairwise.sublist List.filter_sublist hs
def ins (p:Pt) (c:Cn):List En→List En
 | []=> [(p,c)]
 |e::l=>if ptLt p e.1 then (p,c)::e::l else e::ins p c l
theorem run_true (p:Pt) (c:Cn):∀(l out:List En),l.foldl (insStep p c) (out,true)=(out++l,true)
 | [],out=>by simp
 |e::l,out=>by
  rw [List.foldl_cons]
  have:insStep p c (out,true) e=(out++ [e],true):=by simp [insStep]
  rw [this,run_true p c l];simp
theorem run_false (p:Pt) (c:Cn):∀(l out:List En),(let s:=l.foldl (insStep p c) (out,false);if s.2 then s.1 else s.1++ [(p,c)])=out++ins p c l
 | [],out=>by simp [ins]
 |e::l,out=>by
  rw [List.foldl_cons]
  by_cases h:ptLt p e.1=true
  ·have:insStep p c (out,false) e=(out++ [(p,c)]++ [e],true):=by simp [insStep,h]
   rw [this,run_true]
   simp [ins,h]
  ·have h:ptLt p e.1=false:=by simpa using h
   have:insStep p c (out,false) e=(out++ [e],false):=by simp [insStep,h]
   rw [this,run_false p c l]
   simp [ins,h]
theorem insEnd_eq (p:Pt) (c:Cn) (l:List En):insEnd p c l=ins p c l:=by
 have:=run_false p c l []
 rw [List.nil_append] at this
 exact this
theorem ins_perm (p:Pt) (c:Cn):∀l:List En,(ins p c l).Perm ((p,c)::l)
 | []=>List.Perm.refl _
 |e::l=>by
  unfold ins
  split
  ·exact List.Perm.refl _
  ·exact ((ins_perm p c l).cons e).trans (List.Perm.swap _ _ _)
theorem ins_srt (p:Pt) (c:Cn):∀{l:List En},Srt l→(∀e∈l,e.1≠p)→Srt (ins p c l)
 | [],_,_=>by simp [ins,Srt]
 |e::l,hs,hn=>by
  have hs':=List.pairwise_cons.1 hs
  unfold ins
  split
  ·rename_i h
   refine List.pairwise_cons.2 ⟨fun x hx=>?_,hs⟩
   rcases List.mem_cons.1 hx with h1|h1
   ·rw [h1];exact h
   ·exact ptLt_trans h (hs'.1 x h1)
  ·rename_i h
   refine List.pairwise_cons.2 ⟨fun x hx=>?_,ins_srt p c hs'.2 (fun x hx=>hn x (by simp [hx]))⟩
   rcases List.mem_cons.1 ((ins_perm p c l).mem_iff.1 hx) with h1|h1
   ·rw [h1]
    cases h2:ptLt e.1 p
    ·exact absurd (ptLt_tri h2 (by simpa using h)) (hn e (by simp))
    ·rfl
   ·exact hs'.1 x h1
theorem put_sim {m l:List En} (hp:m.Perm l) (hs:Srt l) (p:Pt) (c:Cn):(putMap m p c).Perm (refPut l p c)∧Srt (refPut l p c)∧(refPut l p c).length≤l.length+1:=by
 have hc:=put_code hp hs p c
 unfold putMap refPut
 rw [hc]
 split
 ·rename_i h0
  rw [insEnd_eq]
  have hi:refIdx l p=none:=by
   unfold refPutCode at h0
   cases h:refIdx l p with
   |none=>rfl
   |some n=>
    rw [h] at h0
    simp only [Option.isSome_some,if_true] at h0
    split at h0<;>omega
  have h1:=ins_perm p c l
  refine ⟨?_,ins_srt p c hs (refIdx_none.1 hi),by rw [h1.length_eq];simp⟩
  refine List.Perm.trans ?_ h1.symm
  exact (List.perm_append_singleton (p,c) m).trans (hp.cons _)
 ·exact ⟨hp,hs,by omega⟩
end Go.K
end
section
namespace Go.K
open Go Go.Proofs.YtbidkcjendncaaaGreatDoor
structure CG (l:List En):Prop where
 srt:Srt l
 mon:Mon l
 fm:∀e∈l,formedB e.1 e.2=true
theorem CG.nil:CG []:=⟨.nil,Mon.nil,by simp⟩
theorem CG.nodup {l:List En} (h:CG l):(l.map (·.1)).Nodup:=srt_nodup h.srt
theorem nodup_of_keys {l:List En} (h:(l.map (·.1)).Nodup):l.Nodup:=(List.pairwise_map.1 h).imp fun hne e=>hne (by rw [e])
theorem srt_swo {l:List En} (h:Srt l):l.Pairwise (fun a b=>ptLt b.1 a.1=false):=by
 refine List.Pairwise.imp (fun {a b} hab=>?_) h
 cases h2:ptLt b.1 a.1
 ·rfl
 ·have:=ptLt_trans hab h2
  rw [ptLt_irrefl] at this;cases this
theorem srt_ext {l m:List En} (hl:Srt l) (hm:Srt m) (h:∀e,e∈l↔e∈m):l=m:=
 sorted_eq ((List.perm_ext_iff_of_nodup (nodup_of_keys (srt_nodup hl)) (nodup_of_keys (srt_nodup hm))).2 h) (srt_swo hl) hm
theorem mem_iff_aget {l:List En} (h:(l.map (·.1)).Nodup) {e:En}:e∈l↔aget l e.1=some e.2:=⟨fun he=>mem_aget h (by cases e;exact he),fun he=>by have:=aget_mem he;cases e;exact this⟩
theorem srt_aget {l m:List En} (hl:Srt l) (hm:Srt m) (h:∀p,aget l p=aget m p):l=m:=
 srt_ext hl hm fun e=>by rw [mem_iff_aget (srt_nodup hl),mem_iff_aget (srt_nodup hm),h]
theorem CG.take {l:List En} (h:CG l) (p:Pt):CG (refTake l p):=by
 have e:=refTake_adel h.srt p
 refine ⟨(take_sim (List.Perm.refl l) h.srt p).2.1,by rw [e];exact h.mon.del p,fun x hx=>?_⟩
 rw [e] at hx
 exact h.fm x (List.mem_filter.1 hx).1
theorem put_perm {l:List En} (h:Srt l) {p:Pt} {c:Cn} (h0:refPutCode l p c=0):(refPut l p c).Perm (l++ [(p,c)]):=by
 have:=(put_sim (List.Perm.refl l) h p c).1
 have e:putCode l p c=0:=by rw [put_code (List.Perm.refl l) h p c];exact h0
 unfold putMap at this
 rw [if_pos e] at this
 exact this.symm
theorem put_zero {l:List En} {p:Pt} {c:Cn} (h0:refPutCode l p c=0):formedB p c=true∧aget l p=none∧goodB (tot l+c.v)=true:=by
 unfold refPutCode at h0
 split at h0
 ·rename_i hf
  split at h0
  ·cases h0
  ·rename_i hi
   split at h0
   ·rename_i hg
    refine ⟨hf,?_,hg⟩
    cases ha:aget l p
    ·rfl
    ·have:=isSome_idx l p
     rw [ha] at this;simp at this
     rw [←this] at hi;simp at hi
   ·cases h0
 ·cases h0
theorem CG.put {l:List En} (h:CG l) (p:Pt) (c:Cn):CG (refPut l p c):=by
 by_cases h0:refPutCode l p c=0
 ·have hp:=put_perm h.srt h0
  obtain ⟨z1,z2,z3⟩:=put_zero h0
  refine ⟨(put_sim (List.Perm.refl l) h.srt p c).2.1,⟨fun e he=>?_,?_⟩,fun e he=>?_⟩
  ·rcases List.mem_append.1 (hp.mem_iff.1 he) with he|he
   ·exact h.mon.1 e he
   ·simp at he;subst he
    simp only [formedB,Bool.and_eq_true] at z1
    exact ((goodB_iff _).1 z1.2).1
  ·rw [tot_perm hp]
   have:=((goodB_iff _).1 z3).2
   simp;omega
  ·rcases List.mem_append.1 (hp.mem_iff.1 he) with he|he
   ·exact h.fm e he
   ·simp at he;subst he;exact z1
 ·unfold refPut;rw [if_neg h0];exact h
theorem refPut_len (l:List En) (p:Pt) (c:Cn) (h:Srt l):(refPut l p c).length≤l.length+1:=(put_sim (List.Perm.refl l) h p c).2.2
theorem refTake_len (l:List En) (p:Pt):(refTake l p).length≤l.length:=by
 unfold refTake
 split
 ·exact List.length_eraseIdx_le _ _
 ·exact Nat.le_refl _
def takeAll (l:List En) (ins:List TIn):List En:=ins.foldl (fun m x=>refTake m x.p) l
def outC (o:TOut) (h:Int):Cn:=⟨o.v,o.s,h⟩
def payL (s:ByteArray) (h:Int):Nat→List TOut→List En→List En × Int
 |_, [],m=>(m,0)
 |i,o::os,m=>if refPutCode m ⟨s,(i:Nat)⟩ (outC o h)≠0 then (m,refPutCode m ⟨s,(i:Nat)⟩ (outC o h)) else payL s h (i+1) os (refPut m ⟨s,(i:Nat)⟩ (outC o h))
def mayL (l:List En) (t:Tx) (at_:Nat) (h:Int):Int × Int:=
 if grantB t then (if checkT t≠0 then (checkT t, -1) else if 0<at_∨t.lock≠h then (4, -1) else (0, -1)) else (feeP (aget l) t h).2
def midL (l:List En) (t:Tx):List En:=if grantB t then l else takeAll l t.ins
def oneL (l:List En) (t:Tx) (at_:Nat) (h:Int):List En × Int × Int:=
 if (mayL l t at_ h).1≠0 then (l,mayL l t at_ h) else if (payL (idT t) h 0 t.outs (midL l t)).2≠0 then (l,(payL (idT t) h 0 t.outs (midL l t)).2, -1) else ((payL (idT t) h 0 t.outs (midL l t)).1,0, -1)
def runL (l0:List En) (h:Int):Nat→List Tx→List En→List En × Int × Int × Int
 |_, [],m=>(m,0, -1, -1)
 |i,t::ts,m=>if (oneL m t i h).2.1≠0 then (l0,(oneL m t i h).2.1,(i:Nat),(oneL m t i h).2.2) else runL l0 h (i+1) ts (oneL m t i h).1
def applyL (l:List En) (txs:List Tx) (h:Int):List En × Int × Int × Int:=if h<0∨h>1000000 then (l,3, -1, -1) else runL l h 0 txs l
def lessL (a b:List En):List En:=a.filter fun e=>!decide (aget b e.1=some e.2)
theorem takeAll_cg:∀(ins:List TIn) {l:List En},CG l→CG (takeAll l ins)
 | [],_,h=>h
 |x::xs,_,h=>takeAll_cg xs (h.take x.p)
theorem takeAll_len:∀(ins:List TIn) (l:List En),(takeAll l ins).length≤l.length
 | [],_=>Nat.le_refl _
 |x::xs,l=>Nat.le_trans (takeAll_len xs _) (refTake_len l x.p)
theorem takeAll_snoc {l:List En} {ins:List TIn} {i:Nat} (h:i<ins.length):takeAll l (ins.take (i+1))=refTake (takeAll l (ins.take i)) ins[i].p:=by
 rw [List.take_succ_eq_append_getElem h]
 unfold takeAll
 rw [List.foldl_append];rfl
theorem payL_cg {s:ByteArray} {h:Int}:∀(os:List TOut) (i:Nat) {m:List En},CG m→CG (payL s h i os m).1
 | [],_,_,hm=>hm
 |o::os,i,m,hm=>by
  unfold payL
  split
  ·exact hm
  ·exact payL_cg os (i+1) (hm.put _ _)
theorem payL_len {s:ByteArray} {h:Int}:∀(os:List TOut) (i:Nat) {m:List En},CG m→(payL s h i os m).1.length≤m.length+os.length
 | [],_,_,_=>Nat.le_refl _
 |o::os,i,m,hm=>by
  unfold payL
  split
  ·simp
  ·have:=payL_len (s:=s) (h:=h) os (i+1) (hm.put ⟨s,(i:Nat)⟩ (outC o h))
   have:=refPut_len m ⟨s,(i:Nat)⟩ (outC o h) hm.srt
   simp only [List.length_cons];omega
def payOk (s:ByteArray) (h:Int) (os:List TOut) (m:List En) (k:Nat) (m':List En):Prop:=payL s h 0 os m=payL s h k (os.drop k) m'
theorem payOk_zero {s:ByteArray} {h:Int} {os:List TOut} {m:List En}:payOk s h os m 0 m:=rfl
theorem payOk_bad {s:ByteArray} {h:Int} {os:List TOut} {m m':List En} {k:Nat} (hk:k<os.length) (ho:payOk s h os m k m') (hc:refPutCode m' ⟨s,(k:Nat)⟩ (outC os[k] h)≠0):payL s h 0 os m=(m',refPutCode m' ⟨s,(k:Nat)⟩ (outC os[k] h)):=by
 unfold payOk at ho
 rw [ho,List.drop_eq_getElem_cons hk,payL,if_pos hc]
theorem payOk_next {s:ByteArray} {h:Int} {os:List TOut} {m m':List En} {k:Nat} (hk:k<os.length) (ho:payOk s h os m k m') (hc:refPutCode m' ⟨s,(k:Nat)⟩ (outC os[k] h)=0):payOk s h os m (k+1) (refPut m' ⟨s,(k:Nat)⟩ (outC os[k] h)):=by
 unfold payOk at ho ⊢
 rw [ho,List.drop_eq_getElem_cons hk,payL,if_neg (by rw [hc];decide)]
theorem payOk_end {s:ByteArray} {h:Int} {os:List TOut} {m m':List En} {k:Nat} (hk:os.length≤k) (ho:payOk s h os m k m'):payL s h 0 os m=(m',0):=by
 unfold payOk at ho
 rw [ho,List.drop_eq_nil_of_le hk];rfl
theorem midL_cg {l:List En} (h:CG l) (t:Tx):CG (midL l t):=by
 unfold midL
 split
 ·exact h
 ·exact takeAll_cg _ h
theorem midL_len (l:List En) (t:Tx):(midL l t).length≤l.length:=by
 unfold midL
 split
 ·exact Nat.le_refl _
 ·exact takeAll_len _ _
theorem oneL_cg {l:List En} (h:CG l) (t:Tx) (i:Nat) (b:Int):CG (oneL l t i b).1:=by
 unfold oneL
 split
 ·exact h
 ·split
  ·exact h
  ·exact payL_cg _ _ (midL_cg h t)
theorem oneL_len {l:List En} (h:CG l) (t:Tx) (i:Nat) (b:Int):(oneL l t i b).1.length≤l.length+t.outs.length:=by
 unfold oneL
 split
 ·simp
 ·split
  ·simp
  ·have:=payL_len (s:=idT t) (h:=b) t.outs 0 (midL_cg h t)
   have:=midL_len l t
   simp only;omega
theorem runL_cg {l0:List En} {h:Int} (h0:CG l0):∀(txs:List Tx) (i:Nat) {m:List En},CG m→CG (runL l0 h i txs m).1
 | [],_,_,hm=>hm
 |t::ts,i,m,hm=>by
  unfold runL
  split
  ·exact h0
  ·exact runL_cg h0 ts (i+1) (oneL_cg hm t i h)
theorem applyL_cg {l:List En} (h:CG l) (txs:List Tx) (b:Int):CG (applyL l txs b).1:=by
 unfold applyL
 split
 ·exact h
 ·exact runL_cg h txs 0 h
def outsB (txs:List Tx):Nat:=(txs.map fun t=>t.outs.length).sum
theorem runL_len {l0:List En} {h:Int}:∀(txs:List Tx) (i:Nat) {m:List En},CG m→l0.length≤m.length+outsB txs→(runL l0 h i txs m).1.length≤max l0.length (m.length+outsB txs)
 | [],_,m,_,_=>by unfold runL;simp only [outsB,List.map_nil,List.sum_nil];omega
 |t::ts,i,m,hm,h5=>by
  unfold runL
  split
  ·simp only;omega
  ·have h1:=oneL_len hm t i h
   have h6:outsB (t::ts)=t.outs.length+outsB ts:=by simp [outsB]
   by_cases h7:l0.length≤(oneL m t i h).1.length+outsB ts
   ·have:=runL_len (l0:=l0) (h:=h) ts (i+1) (oneL_cg hm t i h) h7
    omega
   ·have h8:=runL_len' (l0:=l0) (h:=h) ts (i+1) (oneL_cg hm t i h)
    omega
where
 runL_len' {l0:List En} {h:Int}:∀(txs:List Tx) (i:Nat) {m:List En},CG m→(runL l0 h i txs m).1.length≤max l0.length (m.length+outsB txs)
 | [],_,m,_=>by unfold runL;simp only [outsB,List.map_nil,List.sum_nil];omega
 |t::ts,i,m,hm=>by
  unfold runL
  split
  ·simp only;omega
  ·have h1:=oneL_len hm t i h
   have h6:outsB (t::ts)=t.outs.length+outsB ts:=by simp [outsB]
   have h8:=runL_len' (l0:=l0) (h:=h) ts (i+1) (oneL_cg hm t i h)
   omega
def runOk (l0:List En) (h:Int) (txs:List Tx) (k:Nat) (m:List En):Prop:=runL l0 h 0 txs l0=runL l0 h k (txs.drop k) m
theorem runOk_zero {l0:List En} {h:Int} {txs:List Tx}:runOk l0 h txs 0 l0:=rfl
theorem runOk_bad {l0 m:List En} {h:Int} {txs:List Tx} {k:Nat} (hk:k<txs.length) (ho:runOk l0 h txs k m) (hc:(oneL m txs[k] k h).2.1≠0):runL l0 h 0 txs l0=(l0,(oneL m txs[k] k h).2.1,((k:Nat):Int),(oneL m txs[k] k h).2.2):=by
 unfold runOk at ho
 rw [ho,List.drop_eq_getElem_cons hk,runL,if_pos hc]
theorem runOk_next {l0 m:List En} {h:Int} {txs:List Tx} {k:Nat} (hk:k<txs.length) (ho:runOk l0 h txs k m) (hc:(oneL m txs[k] k h).2.1=0):runOk l0 h txs (k+1) (oneL m txs[k] k h).1:=by
 unfold runOk at ho ⊢
 rw [ho,List.drop_eq_getElem_cons hk,runL,if_neg (by rw [hc];decide)]
theorem runOk_end {l0 m:List En} {h:Int} {txs:List Tx} {k:Nat} (hk:txs.length≤k) (ho:runOk l0 h txs k m):runL l0 h 0 txs l0=(m,0, -1, -1):=by
 unfold runOk at ho
 rw [ho,List.drop_eq_nil_of_le hk];rfl
def outsL:List En→List En→Bool × List En
 | [],m=>(true,m)
 |x::xs,m=>if refTakeCode m x.1=0∧refCoin m x.1=x.2 then outsL xs (refTake m x.1) else (false,refTake m x.1)
def insL:List En→List En→Bool × List En
 | [],m=>(true,m)
 |x::xs,m=>if refPutCode m x.1 x.2=0 then insL xs (refPut m x.1 x.2) else (false,m)
def swapL (m out inn:List En):Bool × List En:=if (outsL out m).1 then insL inn (outsL out m).2 else (false,(outsL out m).2)
theorem outsL_cg:∀(xs:List En) {m:List En},CG m→CG (outsL xs m).2
 | [],_,h=>h
 |x::xs,m,h=>by
  unfold outsL
  split
  ·exact outsL_cg xs (h.take x.1)
  ·exact h.take x.1
theorem insL_cg:∀(xs:List En) {m:List En},CG m→CG (insL xs m).2
 | [],_,h=>h
 |x::xs,m,h=>by
  unfold insL
  split
  ·exact insL_cg xs (h.put x.1 x.2)
  ·exact h
theorem take_at {m:List En} (h:Srt m) {x:En} (hx:x∈m):refTakeCode m x.1=0∧refCoin m x.1=x.2:=by
 have ha:=(mem_iff_aget (srt_nodup h)).1 hx
 have h1:=take_code (List.Perm.refl m) h x.1
 have h2:=take_coin (List.Perm.refl m) h x.1
 constructor
 ·rw [←h1];unfold takeCode;rw [ha];rfl
 ·rw [←h2];unfold takeCoin;rw [ha];rfl
theorem outsL_all:∀(xs:List En) {m:List En},CG m→(xs.map (·.1)).Nodup→(∀x∈xs,x∈m)→(outsL xs m).1=true∧∀e,e∈(outsL xs m).2↔e∈m∧e.1∉xs.map (·.1)
 | [],m,_,_,_=>⟨rfl,fun e=>by simp [outsL]⟩
 |x::xs,m,h,hn,hs=>by
  have hn':=List.nodup_cons.1 hn
  have hx:=hs x (by simp)
  unfold outsL
  rw [if_pos (take_at h.srt hx)]
  have hm:∀e,e∈refTake m x.1↔e∈m∧e.1≠x.1:=fun e=>by
   rw [refTake_adel h.srt]
   unfold adel
   rw [List.mem_filter];simp
  obtain ⟨h1,h2⟩:=outsL_all xs (h.take x.1) hn'.2 fun y hy=>(hm y).2 ⟨hs y (by simp [hy]),fun e=>hn'.1 (List.mem_map.2 ⟨y,hy,e⟩)⟩
  refine ⟨h1,fun e=>?_⟩
  rw [h2,hm]
  simp only [List.map_cons,List.mem_cons,not_or]
  constructor
  ·rintro ⟨⟨a,b⟩,c⟩;exact ⟨a,b,c⟩
  ·rintro ⟨a,b,c⟩;exact ⟨⟨a,b⟩,c⟩
theorem insL_all:∀(xs:List En) {m:List En},CG m→(xs.map (·.1)).Nodup→(∀x∈xs,aget m x.1=none)→(∀x∈xs,formedB x.1 x.2=true)→(∀x∈xs,0≤x.2.v)→tot m+tot xs≤2100000000000000→(insL xs m).1=true∧(insL xs m).2.Perm (m++xs)
 | [],m,_,_,_,_,_,_=>⟨rfl,by simp [insL]⟩
 |x::xs,m,h,hn,h1,h2,h3,h4=>by
  have hn':=List.nodup_cons.1 hn
  have hv:=Mon.pos (m:=xs) fun y hy=>h3 y (by simp [hy])
  have hv0:=h3 x (by simp)
  have hm0:=Mon.pos h.mon.1
  simp only [tot_cons] at h4
  have hc:refPutCode m x.1 x.2=0:=by
   rw [refPutCode0 (h2 x (by simp)) (by
    cases hi:refIdx m x.1
    ·rfl
    ·have:=isSome_idx m x.1
     rw [h1 x (by simp),hi] at this;cases this),if_pos ((goodB_iff _).2 ⟨by omega,by omega⟩)]
  have hp:=put_perm h.srt hc
  unfold insL
  rw [if_pos hc]
  have hk:∀y∈xs,aget (refPut m x.1 x.2) y.1=none:=fun y hy=>by
   cases ha:aget (refPut m x.1 x.2) y.1 with
   |none=>rfl
   |some c=>
    rcases List.mem_append.1 (hp.mem_iff.1 (aget_mem ha)) with h5|h5
    ·have:=(mem_iff_aget h.nodup).1 h5
     rw [h1 y (by simp [hy])] at this;cases this
    ·simp only [List.mem_singleton] at h5
     have e:y.1=x.1:=congrArg (·.1) h5
     exact absurd (List.mem_map.2 ⟨y,hy,e⟩) hn'.1
  obtain ⟨g1,g2⟩:=insL_all xs (h.put x.1 x.2) hn'.2 hk (fun y hy=>h2 y (by simp [hy])) (fun y hy=>h3 y (by simp [hy])) (by rw [tot_perm hp];simp;omega)
  refine ⟨g1,g2.trans ?_⟩
  have:=hp.append_right xs
  refine this.trans ?_
  rw [List.append_assoc];exact List.Perm.refl _
theorem lessL_mem {a b:List En} {e:En}:e∈lessL a b↔e∈a∧aget b e.1≠some e.2:=by
 unfold lessL
 rw [List.mem_filter];simp
theorem lessL_nodup {a b:List En} (h:(a.map (·.1)).Nodup):((lessL a b).map (·.1)).Nodup:=List.Nodup.sublist (List.Sublist.map _ List.filter_sublist) h
theorem swap_less {a b:List En} (ha:CG a) (hb:CG b):swapL a (lessL a b) (lessL b a)=(true,b):=by
 obtain ⟨h1,h2⟩:=outsL_all (lessL a b) ha (lessL_nodup ha.nodup) fun x hx=>(lessL_mem.1 hx).1
 have hg:=outsL_cg (lessL a b) ha
 generalize hq:outsL (lessL a b) a=q at h1 h2 hg
 obtain ⟨qt,m⟩:=q
 simp only at h1 h2 hg
 subst h1
 have hm:∀e,e∈m↔e∈a∧e∈b:=fun e=>by
  rw [h2]
  refine and_congr_right fun hea=>?_
  constructor
  ·intro hn
   by_cases hb2:aget b e.1=some e.2
   ·exact (mem_iff_aget hb.nodup).2 hb2
   ·exact absurd (List.mem_map_of_mem (f:=(·.1)) (lessL_mem.2 ⟨hea,hb2⟩)) hn
  ·intro heb hn
   obtain ⟨y,hy,e1⟩:=List.mem_map.1 hn
   obtain ⟨y1,y2⟩:=lessL_mem.1 hy
   have e2:=(mem_iff_aget ha.nodup).1 y1
   have e3:=(mem_iff_aget ha.nodup).1 hea
   have e4:=(mem_iff_aget hb.nodup).1 heb
   rw [e1] at e2 y2
   rw [e3] at e2
   exact y2 (e4.trans e2)
 have hpb:(m++lessL b a).Perm b:=by
  refine (List.perm_ext_iff_of_nodup ?_ (nodup_of_keys hb.nodup)).2 fun e=>?_
  ·rw [List.nodup_append]
   refine ⟨nodup_of_keys hg.nodup,nodup_of_keys (lessL_nodup hb.nodup),fun x hx y hy e=>?_⟩
   subst e
   have:=((hm _).1 hx).1
   exact (lessL_mem.1 hy).2 ((mem_iff_aget ha.nodup).1 this)
  ·rw [List.mem_append,hm,lessL_mem]
   constructor
   ·rintro (h|h)
    ·exact h.2
    ·exact h.1
   ·intro h
    by_cases h3:aget a e.1=some e.2
    ·exact .inl ⟨(mem_iff_aget ha.nodup).2 h3,h⟩
    ·exact .inr ⟨h,h3⟩
 have ht:tot m+tot (lessL b a)=tot b:=by rw [←tot_append,tot_perm hpb]
 obtain ⟨g1,g2⟩:=insL_all (lessL b a) hg (lessL_nodup hb.nodup) (fun x hx=>by
   cases hx2:aget m x.1 with
   |none=>rfl
   |some c=>
    have h5:=(hm _).1 (aget_mem hx2)
    have h6:=(mem_iff_aget hb.nodup).1 h5.2
    have h7:=(mem_iff_aget hb.nodup).1 (lessL_mem.1 hx).1
    simp only at h6
    rw [h6] at h7
    cases h7
    exact absurd ((mem_iff_aget ha.nodup).1 h5.1) (lessL_mem.1 hx).2)
  (fun x hx=>hb.fm x (lessL_mem.1 hx).1) (fun x hx=>hb.mon.1 x (lessL_mem.1 hx).1) (by rw [ht];exact hb.mon.2)
 unfold swapL
 rw [hq]
 simp only [if_true]
 have e:(insL (lessL b a) m).2=b:=srt_ext (insL_cg _ hg).srt hb.srt fun x=>(g2.trans hpb).mem_iff
 exact Prod.ext g1 e
end Go.K
end
section
namespace Go.K
open Go Go.Proofs.YtbidkcjendncaaaGreatDoor
def SC (l:List En):Prop:=∀e∈l,e.2.s.size≤40∧is32 e.1.i
theorem SC.nil:SC []:=by simp [SC]
theorem SC.take {l:List En} (h:SC l) (hs:Srt l) (p:Pt):SC (refTake l p):=fun e he=>by
 rw [refTake_adel hs] at he
 exact h e (List.mem_filter.1 he).1
theorem SC.put {l:List En} (h:SC l) (hs:Srt l) {p:Pt} {c:Cn} (hc:c.s.size≤40∧is32 p.i):SC (refPut l p c):=fun e he=>by
 by_cases h0:refPutCode l p c=0
 ·rcases List.mem_append.1 ((put_perm hs h0).mem_iff.1 he) with he|he
  ·exact h e he
  ·simp at he;subst he;exact hc
 ·unfold refPut at he;rw [if_neg h0] at he;exact h e he
theorem takeAll_sc:∀(ins:List TIn) {l:List En},CG l→SC l→SC (takeAll l ins)
 | [],_,_,h=>h
 |x::xs,_,hg,h=>takeAll_sc xs (hg.take x.p) (h.take hg.srt x.p)
theorem payL_sc {s:ByteArray} {h:Int}:∀(os:List TOut) (i:Nat) {m:List En},i+os.length≤4294967296→CG m→(∀o∈os,o.s.size≤40)→SC m→SC (payL s h i os m).1
 | [],_,_,_,_,_,hm=>hm
 |o::os,i,m,hi,hg,ho,hm=>by
  rw [List.length_cons] at hi
  unfold payL
  split
  ·exact hm
  ·exact payL_sc os (i+1) (by omega) (hg.put _ _) (fun y hy=>ho y (by simp [hy])) (hm.put hg.srt ⟨ho o (by simp),by show is32 ((i:Nat):Int);unfold is32;omega⟩)
theorem fee_check {f:Pt→Option Cn} {t:Tx} {h:Int} (h0:(feeP f t h).2.1=0):checkT t=0:=by
 unfold feeP at h0
 split at h0
 ·exact h0
 ·rename_i hc;simpa using hc
theorem may_check {l:List En} {t:Tx} {i:Nat} {h:Int} (h0:(mayL l t i h).1=0):checkT t=0:=by
 unfold mayL at h0
 split at h0
 ·split at h0
  ·exact h0
  ·rename_i hc;simpa using hc
 ·exact fee_check h0
theorem check_scr {t:Tx} (h:checkT t=0):∀o∈t.outs,o.s.size≤40:=by
 intro o ho
 unfold checkT at h
 split at h
 ·cases h
 ·split at h
  ·cases h
  ·rename_i hl
   simp only [longB,Bool.or_eq_true,not_or,List.any_eq_true,not_exists,not_and] at hl
   have:=hl.1 o ho
   simp only [longOut,decide_eq_true_eq] at this
   omega
theorem check_outs {t:Tx} (h:checkT t=0):t.outs.length≤256:=by
 unfold checkT at h
 split at h
 ·cases h
 ·rename_i hc
  simp only [Bool.not_eq_true',Bool.not_eq_false] at hc
  simp only [countsB,Bool.and_eq_true,decide_eq_true_eq] at hc
  omega
theorem midL_sc {l:List En} (hg:CG l) (h:SC l) (t:Tx):SC (midL l t):=by
 unfold midL
 split
 ·exact h
 ·exact takeAll_sc _ hg h
theorem oneL_sc {l:List En} (hg:CG l) (h:SC l) (t:Tx) (i:Nat) (b:Int):SC (oneL l t i b).1:=by
 unfold oneL
 split
 ·exact h
 ·rename_i hm
  split
  ·exact h
  ·have hc:=may_check (l:=l) (t:=t) (i:=i) (h:=b) (by simpa using hm)
   exact payL_sc _ _ (by have:=check_outs hc;omega) (midL_cg hg t) (check_scr hc) (midL_sc hg h t)
theorem runL_sc {l0:List En} {h:Int} (h0:SC l0):∀(txs:List Tx) (i:Nat) {m:List En},CG m→SC m→SC (runL l0 h i txs m).1
 | [],_,_,_,hm=>hm
 |t::ts,i,m,hg,hm=>by
  unfold runL
  split
  ·exact h0
  ·exact runL_sc h0 ts (i+1) (oneL_cg hg t i h) (oneL_sc hg hm t i h)
theorem applyL_sc {l:List En} (hg:CG l) (h:SC l) (txs:List Tx) (b:Int):SC (applyL l txs b).1:=by
 unfold applyL
 split
 ·exact h
 ·exact runL_sc h txs 0 hg h
theorem applyL_len {l:List En} (hg:CG l) (txs:List Tx) (b:Int):(applyL l txs b).1.length≤l.length+outsB txs:=by
 unfold applyL
 split
 ·simp
 ·have:=runL_len (l0:=l) (h:=b) txs 0 hg (by omega)
  omega
end Go.K
end
section
namespace Go.K
open Go Go.Proofs Go.Sort
variable {α:Type} {E:Enc α}
theorem Enc.flat_get (E:Enc α) (l:List α) (i c:Nat) (hi:i<l.length) (hc:c<E.k):(E.flat l)[i*E.k+c]? =(E.f l[i])[c]? :=by
 have:=E.flat_at l i hi
 rw [←this,List.getElem?_take,if_pos hc,List.getElem?_drop]
theorem flatK_eq [Inhabited α] (E:Enc α) (d:Array α) (t:Nat) (h:t<d.size*E.k):(E.flat d.toList)[t]? =some ((flatK E.f E.k d)[t]!):=by
 have hk:=E.pos
 have hi:t / E.k<d.size:=Nat.div_lt_of_lt_mul (by rw [Nat.mul_comm];exact h)
 have hc:t%E.k<E.k:=Nat.mod_lt _ hk
 rw [get_flatK _ _ _ _ h]
 have e:t=t / E.k*E.k+t%E.k:=by rw [Nat.mul_comm];exact (Nat.div_add_mod t E.k).symm
 conv=>lhs;rw [e]
 rw [E.flat_get d.toList _ _ (by simpa using hi) hc]
 have hl:t%E.k<(E.f d[t / E.k]).length:=by rw [E.len];exact hc
 rw [show d[t / E.k]! =d[t / E.k] from getElem!_pos d _ hi,List.getElem!_eq_getElem?_getD]
 simp [List.getElem?_eq_getElem hl]
theorem holds_of_at [Inhabited α] {w:World} {b:Nat} {t:TypeId} {l:List α} {junk:List Value} (h:At w b (.cells (E.flat l++junk).toArray t (0,0))):HoldsK E.f E.k w b 0 l.toArray:=by
 intro j hj
 rw [size_flatK] at hj
 have hf:=flatK_eq E l.toArray j hj
 have hlt:j<(E.flat l).length:=by rw [E.flat_length];simpa using hj
 unfold At at h
 constructor
 ·simp only [World.cell?,h,Nat.zero_add]
  simp only [List.getElem?_toArray]
  rw [List.getElem?_append_left hlt]
  simpa using hf
 ·simp [World.frozen?,h]
theorem row_of_holds [Inhabited α] {w:World} {b:Nat} {d:Array α} (h:HoldsK E.f E.k w b 0 d):Row w ⟨b,0,none⟩ (E.flat d.toList):=by
 intro j v hj
 have hlt:j<d.size*E.k:=by
  have:=(List.getElem?_eq_some_iff.1 hj).1
  rw [E.flat_length] at this;simpa using this
 have h1:=(h j (by rw [size_flatK];exact hlt)).1
 rw [flatK_eq E d j hlt] at hj
 have e:(Addr.add ⟨b,0,none⟩ j)=⟨b,0+j,none⟩:=by unfold Addr.add;split<;>simp_all
 rw [e,h1];exact hj
theorem sorted_chg [Inhabited α] (E:Enc α) (w:World) (b n:Nat) (d:Array α) (os:Array Obj):Chg [b] w (sortWorldK E.f E.k w b 0 n d os):=by
 refine ⟨rfl,rfl,rfl,?_,fun i hi hn=>?_⟩
 ·simp [sortWorldK,putRowK]
 ·have hne:b≠i:=by simp at hn;omega
  unfold sortWorldK
  rw [heap_grow_old _ _ (by rw [putRowK,Go.Sort.size_putRow];exact hi)]
  show (Array.modify _ b _)[i]? =_
  rw [Array.getElem?_modify,if_neg hne];rfl
theorem perm_all [Inhabited α] {d d':Array α} (h:PermIn 0 d.size d d'):d'.toList.Perm d.toList:=by
 obtain ⟨h1,_,h3⟩:=h
 have e1:d.extract 0 d.size=d:=by simp
 have e2:d'.extract 0 d.size=d':=by rw [←h1];simp
 rwa [e1,e2] at h3
theorem sorted_all [Inhabited α] {lt:α→α→Bool} {d:Array α} {n:Nat} (hn:d.size=n) (h:SortedIn lt 0 n d):d.toList.Pairwise fun a b=>lt b a=false:=by
 subst hn
 rw [List.pairwise_iff_getElem]
 intro i j hi hj hij
 have:=h i j (Nat.zero_le _) hij (by simpa using hj)
 simp only [Array.length_toList] at hi hj
 rw [getElem!_pos d j hj,getElem!_pos d i hi] at this
 simpa using this
theorem Own.free {t:TypeId} {B:Nat} {w:World} {v:Value} {l:List α} {x:Nat} {o:Obj} (h:Own E t B w v l) (ha:At w x o) (hn:∀cs t,o≠.cells cs t (0,0)):x∉blkOf v:=by
 rcases h with ⟨rfl,rfl⟩|⟨b,cap,junk,rfl,hB,hat,hlen⟩
 ·simp [blkOf]
 ·simp only [blkOf,List.mem_singleton]
  rintro rfl
  exact hn _ _ (ha.inj hat)
theorem sort_at {P:Program} [Inhabited α] {v:Value} {l:List α} {t:TypeId} {B:Nat} {w:World} {f g:FuncId} {lt:α→α→Bool} (ho:Own E t B w v l)
  (hnil:∀cap,K.Spec P f [.slice none 0 cap,.func (.func g) #[] #[]] w fun r w'=>r=.tuple #[]∧w'=w)
  (hc:∀b cap,v=.slice (some ⟨b,0,none⟩) l.length cap→HoldsK E.f E.k w b 0 l.toArray→b<w.heap.size→Calls P f #[.slice (some ⟨b,0,none⟩) l.toArray.size cap,.func (.func g) #[] #[]] w fun e w'=>
   e=.returned (.tuple #[])∧∃d' n os,PermIn 0 l.toArray.size l.toArray d'∧SortedIn lt 0 l.toArray.size d'∧w'=sortWorldK E.f E.k w b 0 n d' os):
  K.Spec P f [v,.func (.func g) #[] #[]] w fun r w'=>r=.tuple #[]∧∃l':List α,l'.Perm l∧l'.Pairwise (fun a b=>lt b a=false)∧SlE E w' v l'∧Chg (blkOf v) w w':=by
 rcases ho with ⟨rfl,rfl⟩|⟨b,cap,junk,rfl,hB,hat,hlen⟩
 ·refine (hnil 0).mono fun e w' ⟨r,he,hr,hw⟩=>⟨r,he,hr, [],List.Perm.refl _,List.Pairwise.nil,SlE.nil _,by rw [hw];exact Chg.refl _ _⟩
 ·have hH:=holds_of_at hat
  have h:=hc b cap rfl hH hat.lt
  have es:l.toArray.size=l.length:=by simp
  rw [es] at h
  refine h.mono fun e w' ⟨he,d',n,os,hp,hs,hw⟩=>?_
  have hp':PermIn 0 l.toArray.size l.toArray d':=by rw [es];exact hp
  have hpl:d'.toList.Perm l:=by have:=perm_all hp';simpa using this
  have hsz:d'.size=l.length:=by have:=hpl.length_eq;simpa using this
  subst hw
  refine ⟨_,he,rfl,d'.toList,hpl,sorted_all hsz hs,?_,sorted_chg E w b n d' os⟩
  have hr:=row_of_holds (holdsK_sortWorldK E.f E.k w b 0 n l.toArray d' os hat.lt hH (by simp [hsz]))
  have hle:l.length≤cap:=by
   rw [List.length_append,E.flat_length] at hlen
   exact Nat.le_of_mul_le_mul_right (show l.length*E.k≤cap*E.k by omega) E.pos
  exact ⟨E.flat_length _,some ⟨b,0,none⟩,cap,by simp [hsz],by simp [hsz,hle],fun _=>⟨_,rfl,hr⟩⟩
end Go.K
end
section
namespace Go.K
open Go
section
variable {P:Program} {d:Option Tmp} {r:KR} {K:Env→World→Prop} {ρ:Env} {w:World}
theorem st_boxD {t:TypeId} {x:Operand} {v:Value} {cs:List Value} (hx:ev ρ x=v) (hc:v.cells=cs.toArray) (k:∀b w',Ext w w'→w'.drawn=w.drawn→Row w' ⟨b,0,none⟩ cs→regK P r K (put ρ d (.pointer (some ⟨b,0,none⟩))) w'):regK P (.cons ⟨d,.box t x,none⟩ r) K ρ w:=
 st_wp (by subst hx;have h:=At.new w (.cells cs.toArray t);rw [←hc] at h;exact k _ _ (Ext.alloc w _) rfl (Row.of_at (by rw [←hc];exact h)))
theorem st_buildSliceD {t:TypeId} {ln:Nat} {zs cs:List Value} {ps:List (Nat × Nat × Operand)} (hf:fillK (ev ρ) zs ps=some cs) (k:∀b w',Ext w w'→w'.drawn=w.drawn→At w' b (.cells cs.toArray t (0,0))→regK P r K (put ρ d (.slice (some ⟨b,0,none⟩) ln ln)) w'):regK P (.cons ⟨d,.buildSlice t ln zs ps,none⟩ r) K ρ w:=
 st_wp ⟨cs,hf,k _ _ (Ext.alloc w _) rfl (At.new w _)⟩
theorem c_sregdD {b:KC} {K:Exit→Env→World→Prop} (h:∀w',Ext w w'→w.drawn≤w'.drawn→regK P r (codeK P b K) ρ w'):codeK P (.seq (.reg true r) b) K ρ w:=h _ (Ext.drew w) (Nat.le_succ w.drawn)
end
theorem g_splitN {P:Program} {r:KR} {K:Env→World→Prop} {ρ:Env} {w:World} {d:Option Tmp} {o:KOp} {t:Tmp} {b:Bool} {p:Prop} [Decidable p] (h:ρ t=.bool (!decide p)) (h1:¬p→regK P (.cons ⟨d,o,some (t,b)⟩ r) K (upd ρ t (.bool true)) w) (h2:p→regK P (.cons ⟨d,o,some (t,b)⟩ r) K (upd ρ t (.bool false)) w):regK P (.cons ⟨d,o,some (t,b)⟩ r) K ρ w:=by
 by_cases hp:p
 ·have:=h2 hp;rwa [upd_eq (by rw [h];simp [hp])] at this
 ·have:=h1 hp;rwa [upd_eq (by rw [h];simp [hp])] at this
end Go.K
end
section
namespace Go.Proofs.YtbidkcjendncaaaGreatDoor
open Go Go.K
attribute [local irreducible] regK codeK retK KOp.wp
theorem oisNaN_spec (n:Int) (w:World):K.Spec Tryz.prog F.cmp_isNaN_uint32 [.int .u32 n] w fun v w'=>v=.bool false∧w'=w:=by
 refine s_cmp_isNaN_uint32 rfl ?_
 unfold k_cmp_isNaN_uint32
 refine oy ?_
 repeat (first|refine go ?_|refine zg (fun _ _=>?_)|refine zi (fun _ _=>?_))
 exact x_ret rfl ⟨congrArg Value.bool (by simp),rfl⟩
theorem ocmp32_spec (n m:Int) (w:World):K.Spec Tryz.prog F.cmp_Compare_uint32 [.int .u32 n,.int .u32 m] w fun v w'=>v=.int .i64 (cmpI n m)∧w'=w:=by
 refine s_cmp_Compare_uint32 rfl ?_
 unfold k_cmp_Compare_uint32
 refine oy ?_
 repeat (first|refine go ?_|refine zg (fun _ _=>?_)|refine zi (fun _ _=>?_))
 refine st_call rfl (oisNaN_spec _ _) ?_
 rintro _ _ ⟨rfl,rfl⟩
 repeat (first|refine go ?_|refine zg (fun _ _=>?_)|refine zi (fun _ _=>?_))
 refine st_call rfl (oisNaN_spec _ _) ?_
 rintro _ _ ⟨rfl,rfl⟩
 repeat (first|refine go ?_|refine zg (fun _ _=>?_)|refine zi (fun _ _=>?_))
 refine c_cond rfl (fun h1=>?_) (fun h1=>?_)
 ·repeat (first|refine go ?_|refine zg (fun _ _=>?_)|refine zi (fun _ _=>?_))
  exact x_ret rfl ⟨congrArg (Value.int .i64) (by rw [cmpI,if_pos h1]),rfl⟩
 ·repeat (first|refine go ?_|refine zg (fun _ _=>?_)|refine zi (fun _ _=>?_))
  refine c_cond rfl (fun h2=>?_) (fun h2=>?_)
  ·repeat (first|refine go ?_|refine zg (fun _ _=>?_)|refine zi (fun _ _=>?_))
   exact x_ret rfl ⟨congrArg (Value.int .i64) (by rw [cmpI,if_neg h1,if_pos h2]),rfl⟩
  ·repeat (first|refine go ?_|refine zg (fun _ _=>?_)|refine zi (fun _ _=>?_))
   exact x_ret rfl ⟨congrArg (Value.int .i64) (by rw [cmpI,if_neg h1,if_neg h2]),rfl⟩
def intO:Enc Int:=⟨fun n=> [.int .i64 n],1,fun _=>rfl,by decide,by intro x v hv;simp at hv;subst hv;rfl⟩
theorem oor_spec (a b:Int) (v:Value) (w:World) (hs:SlE intO w v [a,b]):K.Spec Tryz.prog F.cmp_Or_int [v] w fun v w'=>v=.int .i64 (orI a b)∧w'=w:=by
 refine s_cmp_Or_int rfl ?_
 unfold k_cmp_Or_int
 refine oy ?_
 repeat (first|refine go ?_|refine zg (fun _ _=>?_)|refine zi (fun _ _=>?_))
 refine st_len rfl hs ?_
 repeat (first|refine go ?_|refine zg (fun _ _=>?_)|refine zi (fun _ _=>?_))
 refine c_loopV (fun (i:Nat) w'=>w'=w∧i≤2∧(0<i→a=0)∧(1<i→b=0)) (fun i=> [(3,.int .i64 0),(6,v),(7,.int .i64 2),(8,.int .i64 i)]) (fun i=>2 - i) 0 ⟨rfl,rfl,rfl,rfl,trivial⟩ ⟨rfl,by omega,by omega,by omega⟩ ?_
 rintro i ρ _ ⟨rfl,hi,h0,h1⟩
 repeat (first|refine go ?_|refine zg (fun _ _=>?_)|refine zi (fun _ _=>?_))
 refine c_cond rfl (fun h=>?_) (fun h=>?_)
 ·repeat (first|refine go ?_|refine zg (fun _ _=>?_)|refine zi (fun _ _=>?_))
  refine st_elemE rfl rfl hs rfl (by simp;omega) (fun ad r1=>?_)
  repeat (first|refine go ?_|refine zg (fun _ _=>?_)|refine zi (fun _ _=>?_))
  refine c_condN rfl (fun h2=>?_) (fun h2=>?_)
  ·repeat (first|refine go ?_|refine zg (fun _ _=>?_)|refine zi (fun _ _=>?_))
   refine x_ret rfl ⟨congrArg (Value.int .i64) ?_,rfl⟩
   rcases (show i=0∨i=1 by omega) with rfl|rfl
   ·have h3:¬a=0:=h2
    show a=_
    rw [orI,if_neg h3]
   ·show b=_
    rw [orI,if_pos (h0 (by omega))]
  ·repeat (first|refine go ?_|refine zg (fun _ _=>?_)|refine zi (fun _ _=>?_))
   have h3:(i=0→a=0)∧(i=1→b=0):=by
    constructor
    ·rintro rfl;exact h2
    ·rintro rfl;exact h2
   refine ⟨i+1,⟨rfl,rfl,rfl,rfl,trivial⟩,⟨rfl,by omega,fun _=>?_,fun _=>?_⟩,by omega⟩
   ·rcases (show i=0∨i=1 by omega) with e|e
    ·exact h3.1 e
    ·exact h0 (by omega)
   ·exact h3.2 (by omega)
 ·repeat (first|refine go ?_|refine zg (fun _ _=>?_)|refine zi (fun _ _=>?_))
  have:i=2:=by omega
  subst this
  exact x_ret rfl ⟨congrArg (Value.int .i64) (by rw [orI,if_pos (h0 (by omega)),h1 (by omega)]),rfl⟩
theorem ostrcmp_spec (a b:ByteArray) (w:World):K.Spec Tryz.prog F.strings_Compare [.string a,.string b] w fun v w'=>v=.int .i64 (Lib.compareBytes a.data.toList b.data.toList)∧w'=w:=
 (Tryz.strings_Compare a b w).mono fun e w' ⟨he,hw⟩=>⟨_,he,rfl,hw⟩
attribute [local irreducible] K.Spec
theorem otless_spec (p q:Pt) (w:World):K.Spec Tryz.prog F.tx_Less [p.val,q.val] w fun v w'=>v=.bool (ptLt p q)∧Ext w w'∧w.drawn≤w'.drawn:=by
 refine s_tx_Less rfl ?_
 unfold k_tx_Less
 refine oy ?_
 repeat' (first|(refine c_sregdD (fun w3 x3 d3=>?_))|(refine st_boxD (d:=some 2) (cs:=p.cs) rfl rfl (fun b1 w1 x1 d1 r1=>?_))|(refine st_boxD (d:=some 3) (cs:=q.cs) rfl rfl (fun b2 w2 x2 d2 r2=>?_))|refine st_both ?_ ?_|(refine st_call rfl (ostrcmp_spec _ _ _) ?_;rintro _ _ ⟨rfl,rfl⟩)|(refine st_call rfl (ocmp32_spec _ _ _) ?_;rintro _ _ ⟨rfl,rfl⟩)|(refine st_buildSliceD rfl (fun b4 w4 x4 d4 a4=>?_))|(refine st_call rfl (oor_spec (Lib.compareBytes p.s.data.toList q.s.data.toList) (cmpI p.i q.i) _ _ (SlE.new (by assumption) rfl (Nat.le_refl _))) ?_;rintro _ _ ⟨rfl,rfl⟩)|(first|refine go1 ?_|refine zg (fun _ _=>?_)|refine zi (fun _ _=>?_)))
 all_goals exact x_ret rfl ⟨congrArg Value.bool (or_lt p q),by repeat (first|assumption|exact Ext.refl _|refine Ext.trans ?_ (by assumption)),by omega⟩
end Go.Proofs.YtbidkcjendncaaaGreatDoor
end
section
namespace Go.Proofs.YtbidkcjendncaaaGreatDoor
open Go Go.K
attribute [local irreducible] regK codeK retK KOp.wp K.Spec
theorem cformed_spec (p:Pt) (c:Cn) (w:World):K.Spec Tryz.prog F.coins_formed [p.val,c.val] w fun v w'=>v=.bool (formedB p c)∧Ext w w':=by
 refine s_coins_formed rfl ?_
 unfold k_coins_formed
 refine oy ?_
 repeat (first|refine go ?_|refine zg (fun _ _=>?_)|refine zi (fun _ _=>?_))
 refine st_box rfl rfl (fun b1 w1 x1 _ r1 _=>?_)
 repeat (first|refine go ?_|refine zg (fun _ _=>?_)|refine zi (fun _ _=>?_))
 refine st_box rfl rfl (fun b2 w2 x2 _ r2 _=>?_)
 repeat (first|refine go ?_|refine zg (fun _ _=>?_)|refine zi (fun _ _=>?_))
 have e32:((p.s.size:Int)=32)↔p.s.size=32:=by omega
 refine g_split rfl (fun h1=>?_) (fun h1=>?_)
 ·repeat (first|refine go ?_|refine zg (fun _ _=>?_)|refine zi (fun _ _=>?_))
  refine g_split rfl (fun h2=>?_) (fun h2=>?_)
  ·repeat (first|refine go ?_|refine zg (fun _ _=>?_)|refine zi (fun _ _=>?_))
   refine g_split rfl (fun h3=>?_) (fun h3=>?_)
   ·repeat (first|refine go ?_|refine zg (fun _ _=>?_)|refine zi (fun _ _=>?_))
    refine x_ret rfl ⟨congrArg Value.bool ?_,x1.trans x2⟩
    simp [formedB,e32.1 h1,h2,h3]
   ·repeat (first|refine go ?_|refine zg (fun _ _=>?_)|refine zi (fun _ _=>?_))
    refine x_ret rfl ⟨congrArg Value.bool ?_,x1.trans x2⟩
    simp [formedB,h3]
  ·repeat (first|refine go ?_|refine zg (fun _ _=>?_)|refine zi (fun _ _=>?_))
   refine x_ret rfl ⟨congrArg Value.bool ?_,x1.trans x2⟩
   simp [formedB,h2]
 ·repeat (first|refine go ?_|refine zg (fun _ _=>?_)|refine zi (fun _ _=>?_))
  refine x_ret rfl ⟨congrArg Value.bool ?_,x1.trans x2⟩
  have h1':¬p.s.size=32:=fun h=>h1 (e32.2 h)
  simp [formedB,h1']
theorem cnew_spec (w:World):K.Spec Tryz.prog F.coins_New [] w fun v w'=>∃b mb,v=.pointer (some ⟨b,0,none⟩)∧SetE T.coins_Set w' b mb []∧w.heap.size≤b∧w.heap.size≤mb∧Ext w w':=by
 refine s_coins_New rfl ?_
 unfold k_coins_New
 refine oy ?_
 repeat (first|refine go ?_|refine zg (fun _ _=>?_)|refine zi (fun _ _=>?_))
 refine st_makeMap (E:=ptK) (fv:=Cn.val) (fun mb w1 x1 hm hmb=>?_)
 repeat (first|refine go ?_|refine zg (fun _ _=>?_)|refine zi (fun _ _=>?_))
 refine st_box rfl rfl (fun b w2 x2 a2 r2 hb=>?_)
 repeat (first|refine go ?_|refine zg (fun _ _=>?_)|refine zi (fun _ _=>?_))
 exact x_ret rfl ⟨b,mb,rfl,⟨a2,hm.ext x2,Mon.nil⟩,Nat.le_trans x1.size hb,hmb,x1.trans x2⟩
theorem cget_spec {t:TypeId} {b mb:Nat} {m:List En} (p:Pt) (w:World) (h:SetE t w b mb m):K.Spec Tryz.prog F.coins_Set_Get [.pointer (some ⟨b,0,none⟩),p.val] w fun v w'=>v=.tuple #[(takeCoin m p).val,.bool (aget m p).isSome]∧Ext w w':=by
 have r:=h.row
 have hM:=h.2.1
 refine s_coins_Set_Get rfl ?_
 unfold k_coins_Set_Get
 refine oy ?_
 repeat' (first|(refine zD (d:=some 3) rfl rfl (fun b1 w1 x1 a1 (r1:Row w1 ⟨b1,0,none⟩ p.cs) hb1=>?_))|(refine zH (d:=some 4) (fun b2 w2 x2 a2 hb2=>?_);have s2:w.heap.size≤b2:=Nat.le_trans x1.size hb2)|(refine st_lookupOk (d:=some 17) (E:=ptK) (fv:=Cn.val) (k:=p) rfl rfl (MapE.ext (w:=w) (by exact fx) hM) rfl rfl (fun c hc=>?_) (fun hc=>?_))|(refine zH (d:=some 6) (fun b6 w6 x6 a6 hb6=>?_);have s6:w.heap.size≤b6:=Nat.le_trans (Ext.size (w:=w) (by exact fx)) hb6;have s26:w2.heap.size≤b6:=Nat.le_trans (Ext.size (w:=w2) (by exact fx)) hb6)|(first|refine go1 ?_|refine zg (fun _ _=>?_)|refine zi (fun _ _=>?_)))
 ·refine st_setN (w0:=w) (vs:=c.cs) (by exact fx) s6 a6 rfl rfl rfl rfl rfl (fun w7 x7 c7 a7 r7=>?_)
  have a2':=At.chg c7 (At.ext (w:=w2) (by exact fx) a2) (by have:=a2.lt;simp;omega)
  repeat (first|refine go1 ?_|refine zg (fun _ _=>?_)|refine zi (fun _ _=>?_))
  refine st_setN (w0:=w) (vs:=c.cs) (by exact fx) s2 a2' rfl rfl rfl rfl rfl (fun w9 x9 c9 a9 r9=>?_)
  repeat (first|refine go1 ?_|refine zg (fun _ _=>?_)|refine zi (fun _ _=>?_))
  exact x_ret (ret2 (rv_cell r9 rfl rfl) rv_tmp) ⟨by rw [takeCoin,hc];rfl,x9⟩
 ·refine st_setN (w0:=w) (vs:=cn0.cs) (by exact fx) s6 a6 rfl rfl rfl rfl rfl (fun w7 x7 c7 a7 r7=>?_)
  have a2':=At.chg c7 (At.ext (w:=w2) (by exact fx) a2) (by have:=a2.lt;simp;omega)
  repeat (first|refine go1 ?_|refine zg (fun _ _=>?_)|refine zi (fun _ _=>?_))
  refine st_setN (w0:=w) (vs:=cn0.cs) (by exact fx) s2 a2' rfl rfl rfl rfl rfl (fun w9 x9 c9 a9 r9=>?_)
  repeat (first|refine go1 ?_|refine zg (fun _ _=>?_)|refine zi (fun _ _=>?_))
  exact x_ret (ret2 (rv_cell r9 rfl rfl) rv_tmp) ⟨by rw [takeCoin,hc];rfl,x9⟩
set_option maxHeartbeats 1000000 in
theorem cput_spec {t:TypeId} {b mb:Nat} {m:List En} (p:Pt) (c:Cn) (w:World) (h:SetE t w b mb m):K.Spec Tryz.prog F.coins_Set_Put [.pointer (some ⟨b,0,none⟩),p.val,c.val] w fun v w'=>
  v=.int .i64 (putCode m p c)∧SetE t w' b mb (putMap m p c)∧Chg [b,mb] w w':=by
 have r:=h.row
 have hne:=h.ne
 have hb:=h.1.lt
 have hmb:=h.2.1.lt
 have hM:=h.2.1
 have fail:∀{w':World} {n:Int},Ext w w'→n≠0→putCode m p c=n→Value.int .i64 n=.int .i64 (putCode m p c)∧SetE t w' b mb (putMap m p c)∧Chg [b,mb] w w':=by
  intro w' n x hn hc
  refine ⟨by rw [hc],?_,Chg.mono x (by simp)⟩
  rw [putMap,if_neg (by rw [hc];exact hn)];exact h.ext x
 refine s_coins_Set_Put rfl ?_
 unfold k_coins_Set_Put
 refine oy ?_
 repeat' (first|(refine zD (d:=some 4) rfl rfl (fun b1 w1 x1 a1 (r1:Row w1 ⟨b1,0,none⟩ p.cs) hb1=>?_))|(refine zD (d:=some 5) rfl rfl (fun b2 w2 x2 a2 (r2:Row w2 ⟨b2,0,none⟩ c.cs) hb2=>?_))|(refine zC (d:=some 17) rfl (cformed_spec p c _) ?_;rintro _ w3 ⟨rfl,x3⟩)|(refine c_condB (x:=.tmp 14) rfl (fun hf=>?_) (fun hf=>?_))|(refine st_lookupOk (d:=some 25) (E:=ptK) (fv:=Cn.val) (k:=p) rfl rfl (MapE.ext (w:=w) (by exact fx) hM) rfl rfl (fun d hd=>?_) (fun hd=>?_))|(refine zH (d:=some 7) (fun b6 w6 x6 a6 hb6=>?_);have s6:w.heap.size≤b6:=Nat.le_trans (Ext.size (w:=w) (by exact fx)) hb6;have s26:w2.heap.size≤b6:=Nat.le_trans (Ext.size (w:=w2) (by exact fx)) hb6)|(refine st_setN (w0:=w) (n:=3) (vs:=d.cs) (by exact fx) s6 a6 rfl rfl rfl rfl rfl (fun w7 x7 c7 a7 r7=>?_))|(refine st_setN (w0:=w) (n:=3) (vs:=cn0.cs) (by exact fx) s6 a6 rfl rfl rfl rfl rfl (fun w7 x7 c7 a7 r7=>?_);replace r1:Row w7 ⟨b1,0,none⟩ p.cs:=Row.chg c7 (Row.ext (w:=w1) (by exact fx) r1) (by have:=a1.lt;have:=x2.size;simp;omega);replace r2:Row w7 ⟨b2,0,none⟩ c.cs:=Row.chg c7 (Row.ext (w:=w2) (by exact fx) r2) (by have:=a2.lt;simp;omega);have s01:=x1.size;clear x1 x2 x3 x6 c7 a6)|(refine zC (d:=some 37) rfl (add_spec (tot m) c.v _) ?_;rintro _ w8 ⟨rfl,rfl⟩)|(refine zN (p:=(if addOk (tot m) c.v=true then (0:Int) else 3)=0) rfl (fun he=>?_) (fun he=>?_))|(refine st_both ?_ ?_)|(first|refine go1 ?_|refine zg (fun _ _=>?_)|refine zi (fun _ _=>?_)))
 ·exact x_ret rfl (fail (by exact fx) (by decide) (putCode2 (by simpa using hf)))
 ·exact x_ret rfl (fail x7 (by decide) (putCode7 (by simpa using hf) hd))
 ·have hP:=putCode0 (by simpa using hf) hd h.2.2
  have ho:addOk (tot m) c.v=false:=by
   cases hx:addOk (tot m) c.v
   ·rfl
   ·rw [hx] at he;exact absurd rfl he
  rw [ho] at hP
  refine x_ret (v:=.int .i64 3) ?_ (fail (by exact fx) (by decide) hP)
  rw [ho];rfl
 all_goals
  have ho:addOk (tot m) c.v=true:=by
   cases hx:addOk (tot m) c.v
   ·rw [hx] at he;exact absurd he (by decide)
   ·rfl
  have hP:putCode m p c=0:=by rw [putCode0 (by simpa using hf) hd h.2.2,ho];rfl
  have hn:∀{w' w'':World},At w' b (.cells ([Value.map (some mb),.int .i64 (tot m)].set 1 (.int .i64 (if addOk (tot m) c.v=true then tot m+c.v else 0))).toArray t (0,0))→MapE ptK Cn.val w' mb (aset m p c)→Ext w' w''→SetE t w'' b mb (putMap m p c):=by
   intro w' w'' ha hM x
   rw [putMap,if_pos hP]
   rw [aset_none hd] at hM
   refine ⟨?_,hM.ext x,h.2.2.put hP⟩
   have:=ha.ext x
   rw [ho] at this
   have e:tot (m++ [(p,c)])=tot m+c.v:=by simp
   rw [e];exact this
  rename_i x78 w9 x89
  have x79:Ext w7 w9:=x78.trans x89
  have x09:Ext w w9:=x7.trans x79
  have h9:=h.ext x09
  have r19:=r1.ext x79
  have r29:=r2.ext x79
  have r9:=h9.row
  clear x7 x78 x89 x79 r1 r2 r r7 a7
  repeat' (first|(refine st_mapEntry (d:=some 51) (E:=ptK) (fv:=Cn.val) (k:=p) rfl rfl h9.2.1 rfl rfl (fun st w10 c10 hM10=>?_);have r210:Row w10 ⟨b2,0,none⟩ c.cs:=r29.chg c10 (by simp;omega);have a10:=h9.1.chg c10 (by simp;omega))|(refine st_entryStore (E:=ptK) (fv:=Cn.val) (k:=p) (v:=c) rfl rfl rfl hM10 (fun w11 c11 hM11=>?_);have a11:=a10.chg c11 (by simp;omega))|(first|refine go1 ?_|refine zg (fun _ _=>?_)|refine zi (fun _ _=>?_)))
  refine st_store (b:=b) (o:=1) rfl rfl rfl a11 (by simp) (fun w12 c12 a12=>?_)
  repeat (first|refine go1 ?_|refine zg (fun _ _=>?_)|refine zi (fun _ _=>?_))
  refine x_ret rfl ⟨by rw [hP];rfl,hn a12 (hM11.chg c12 (by simp;omega)) (Ext.refl _),?_⟩
  refine (x09.chg (c10.trans (c11.trans c12))).mono ?_
  intro y hy
  simp at hy ⊢
  omega
end Go.Proofs.YtbidkcjendncaaaGreatDoor
end
section
namespace Go.Proofs
open Go.Shelf
def Tryz.sortEntry_ren:Go.Shelf.Ren:=⟨fun|6=>63|15=>114|14=>113|28=>180|29=>181|20=>172|21=>173|22=>174|23=>175|24=>176|25=>177|26=>178|27=>179|46=>233|47=>234|48=>235|49=>236|50=>237|57=>279|n=>n,fun|22=>31|24=>52|25=>142|3=>3|39=>214|0=>0|53=>44|55=>288|4=>4|46=>281|45=>280|50=>195|5=>5|9=>9|66=>332|70=>336|76=>365|77=>254|n=>n,fun|n=>n⟩
theorem Tryz.sortEntry : Go.Proofs.SlLaysF0.n6 Tryz.prog Tryz.sortEntry_ren := {
  mixed := by kernel_rfl
  f6 := ⟨Tryz.f63.name, by decide, Tryz.func63.trans (congrArg some (by kernel_rfl))⟩
  f14 := ⟨Tryz.f113.name, by decide, Tryz.func113.trans (congrArg some (by kernel_rfl))⟩
  f15 := Tryz.func114.trans (congrArg some (by kernel_rfl))
  f20 := ⟨Tryz.f172.name, by decide, Tryz.func172.trans (congrArg some (by kernel_rfl))⟩
  f21 := ⟨Tryz.f173.name, by decide, Tryz.func173.trans (congrArg some (by kernel_rfl))⟩
  f22 := ⟨Tryz.f174.name, by decide, Tryz.func174.trans (congrArg some (by kernel_rfl))⟩
  f23 := ⟨Tryz.f175.name, by decide, Tryz.func175.trans (congrArg some (by kernel_rfl))⟩
  f24 := ⟨Tryz.f176.name, by decide, Tryz.func176.trans (congrArg some (by kernel_rfl))⟩
  f25 := ⟨Tryz.f177.name, by decide, Tryz.func177.trans (congrArg some (by kernel_rfl))⟩
  f26 := ⟨Tryz.f178.name, by decide, Tryz.func178.trans (congrArg some (by kernel_rfl))⟩
  f27 := ⟨Tryz.f179.name, by decide, Tryz.func179.trans (congrArg some (by kernel_rfl))⟩
  f28 := Tryz.func180.trans (congrArg some (by kernel_rfl))
  f29 := Tryz.func181.trans (congrArg some (by kernel_rfl))
  f46 := ⟨Tryz.f233.name, by decide, Tryz.func233.trans (congrArg some (by kernel_rfl))⟩
  f47 := Tryz.func234.trans (congrArg some (by kernel_rfl))
  f48 := Tryz.func235.trans (congrArg some (by kernel_rfl))
  f49 := ⟨Tryz.f236.name, by decide, Tryz.func236.trans (congrArg some (by kernel_rfl))⟩
  f50 := ⟨Tryz.f237.name, by decide, Tryz.func237.trans (congrArg some (by kernel_rfl))⟩
  f57 := ⟨Tryz.f279.name, by decide, Tryz.func279.trans (congrArg some (by kernel_rfl))⟩
  t0 := Tryz.underlying0
  a0 := Tryz.isAgg0
  z0 := Tryz.sizeOf0
  v0 := Tryz.zeroValue0
  t3 := Tryz.underlying3
  a3 := Tryz.isAgg3
  z3 := Tryz.sizeOf3
  v3 := Tryz.zeroValue3
  t4 := Tryz.underlying4
  a4 := Tryz.isAgg4
  z4 := Tryz.sizeOf4
  v4 := Tryz.zeroValue4
  t5 := Tryz.underlying5
  a5 := Tryz.isAgg5
  z5 := Tryz.sizeOf5
  v5 := Tryz.zeroValue5
  t9 := Tryz.underlying9
  a9 := Tryz.isAgg9
  z9 := Tryz.sizeOf9
  v9 := Tryz.zeroValue9
  t22 := Tryz.underlying31
  a22 := Tryz.isAgg31
  z22 := Tryz.sizeOf31
  v22 := Tryz.zeroValue31
  t25 := Tryz.underlying142
  a25 := Tryz.isAgg142
  z25 := Tryz.sizeOf142
  v25 := Tryz.zeroValue142
  t39 := Tryz.underlying214
  a39 := Tryz.isAgg214
  z39 := Tryz.sizeOf214
  v39 := Tryz.zeroValue214
  t45 := Tryz.underlying280
  a45 := Tryz.isAgg280
  z45 := Tryz.sizeOf280
  v45 := Tryz.zeroValue280
  t46 := Tryz.underlying281
  a46 := Tryz.isAgg281
  z46 := Tryz.sizeOf281
  v46 := Tryz.zeroValue281
  t50 := Tryz.underlying195
  a50 := Tryz.isAgg195
  z50 := Tryz.sizeOf195
  v50 := Tryz.zeroValue195
  t53 := Tryz.underlying44
  a53 := Tryz.isAgg44
  z53 := Tryz.sizeOf44
  v53 := Tryz.zeroValue44
  t55 := Tryz.underlying288
  a55 := Tryz.isAgg288
  z55 := Tryz.sizeOf288
  v55 := Tryz.zeroValue288
  t66 := Tryz.underlying332
  a66 := Tryz.isAgg332
  z66 := Tryz.sizeOf332
  v66 := Tryz.zeroValue332
  t70 := Tryz.underlying336
  a70 := Tryz.isAgg336
  z70 := Tryz.sizeOf336
  v70 := Tryz.zeroValue336
  t76 := Tryz.underlying365
  a76 := Tryz.isAgg365
  z76 := Tryz.sizeOf365
  v76 := Tryz.zeroValue365
  t77 := Tryz.underlying254
  a77 := Tryz.isAgg254
  z77 := Tryz.sizeOf254
  v77 := Tryz.zeroValue254 }
end Go.Proofs
end
