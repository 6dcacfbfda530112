/- Plain: the reference's sorted list of entries. Plain: a set and the reference's sorted list, side by side. The engine, part 13: what came in, read at its type. The engine, part 18: what came in, nested. Contracts: a graph of any entries, as the laws of trimming make it; masked numbers. Contracts: the transaction of an act, of the laws of replacing. Contracts: a graph of any entries, as the laws of -/
import Derived.RowKit
import Derived.OpenShut
import Derived.Deep.Slices
import Derived.ChangeSame
import Derived.Shelf.Bits.Mul64
import Derived.Ground.SlgnProg
import Derived.Ground.SlgfProg
import Derived.Test.YtfebcajheojodaaGreatDoorProg
import Derived.Ground.NamesProg
import Derived.KernelRfl
import Derived.Test.YtfebcajheojodaaGreatDoorDc25
set_option linter.unusedVariables false
set_option linter.unusedSimpArgs false
section
namespace Go.K
open Go
def refIdx (l:List En) (p:Pt):Option Nat:=l.findIdx? fun e=>decide (e.1=p)
def refFind (l:List En) (p:Pt):Int:=match refIdx l p with
 |some i=>i
 |none=> -1
theorem refIdx_none {l:List En} {p:Pt}:refIdx l p=none↔∀e∈l,e.1≠p:=by simp [refIdx,List.findIdx?_eq_none_iff]
theorem refIdx_some {l:List En} {p:Pt} {i:Nat}:refIdx l p=some i↔∃h:i<l.length,l[i].1=p∧∀j,∀hj:j<i,l[j].1≠p:=by
 rw [refIdx,List.findIdx?_eq_some_iff_getElem];simp
theorem tot_take {l:List En} {i:Nat} (h:i<l.length):tot (l.take (i+1))=tot (l.take i)+l[i].2.v:=by
 rw [List.take_succ_eq_append_getElem h,tot_append];simp
theorem tot_take_le {l:List En} (h:Mon l) (i:Nat):0≤tot (l.take i)∧tot (l.take i)≤tot l:=by
 have h1:0≤tot (l.take i):=Mon.pos fun e he=>h.1 e (List.mem_of_mem_take he)
 have h2:0≤tot (l.drop i):=Mon.pos fun e he=>h.1 e (List.mem_of_mem_drop he)
 have h3:tot l=tot (l.take i)+tot (l.drop i):=by rw [←tot_append,List.take_append_drop]
 omega
def insStep (p:Pt) (c:Cn) (s:List En × Bool) (e:En):List En × Bool:=if ptLt p e.1&&!s.2 then (s.1++ [(p,c)]++ [e],true) else (s.1++ [e],s.2)
def insRun (p:Pt) (c:Cn) (l:List En):List En × Bool:=l.foldl (insStep p c) ([],false)
def insEnd (p:Pt) (c:Cn) (l:List En):List En:=if (insRun p c l).2 then (insRun p c l).1 else (insRun p c l).1++ [(p,c)]
theorem insRun_take {p:Pt} {c:Cn} {l:List En} {i:Nat} (h:i<l.length):insRun p c (l.take (i+1))=insStep p c (insRun p c (l.take i)) l[i]:=by
 rw [List.take_succ_eq_append_getElem h,insRun,List.foldl_append];rfl
theorem insRun_len (p:Pt) (c:Cn) (l:List En):(insRun p c l).1.length≤l.length+1∧((insRun p c l).2=false→(insRun p c l).1.length=l.length):=by
 have key:∀(l:List En) (s:List En × Bool),(l.foldl (insStep p c) s).1.length+(if s.2 then 1 else 0)=s.1.length+l.length+(if (l.foldl (insStep p c) s).2 then 1 else 0):=by
  intro l
  induction l with
  |nil=>intro s;cases h:s.2<;>simp [h]
  |cons e l ih=>
   intro s
   rw [List.foldl_cons]
   have:=ih (insStep p c s e)
   rw [List.length_cons]
   unfold insStep at this ⊢
   by_cases h:ptLt p e.1=true
   ·cases hs:s.2
    ·simp [h,hs] at this ⊢;omega
    ·simp [h,hs] at this ⊢;omega
   ·simp [h] at this ⊢;omega
 have:=key l ([],false)
 simp only [List.length_nil,Nat.zero_add,Bool.false_eq_true,if_false,Nat.add_zero] at this
 unfold insRun
 constructor
 ·split at this<;>omega
 ·intro h;rw [h] at this;simpa using this
def refPutCode (l:List En) (p:Pt) (c:Cn):Int:=if formedB p c then (if (refIdx l p).isSome then 7 else if goodB (tot l+c.v) then 0 else 3) else 2
def refPut (l:List En) (p:Pt) (c:Cn):List En:=if refPutCode l p c=0 then insEnd p c l else l
theorem refPutCode2 {l:List En} {p:Pt} {c:Cn} (h:formedB p c=false):refPutCode l p c=2:=by rw [refPutCode,h];rfl
theorem refPutCode7 {l:List En} {p:Pt} {c:Cn} {n:Nat} (h:formedB p c=true) (hd:refIdx l p=some n):refPutCode l p c=7:=by rw [refPutCode,h,hd];rfl
theorem refPutCode0 {l:List En} {p:Pt} {c:Cn} (h:formedB p c=true) (hd:refIdx l p=none):refPutCode l p c=if goodB (tot l+c.v) then 0 else 3:=by rw [refPutCode,h,hd];rfl
theorem insRun_put {p:Pt} {c:Cn} {l:List En} {i:Nat} (h:i<l.length) (h1:ptLt p l[i].1=true) (h2:(insRun p c (l.take i)).2=false):insRun p c (l.take (i+1))=((insRun p c (l.take i)).1++ [(p,c)]++ [l[i]],true):=by
 rw [insRun_take h,insStep,h1,h2];rfl
theorem insRun_not {p:Pt} {c:Cn} {l:List En} {i:Nat} (h:i<l.length) (h1:ptLt p l[i].1=false∨(insRun p c (l.take i)).2=true):insRun p c (l.take (i+1))=((insRun p c (l.take i)).1++ [l[i]],(insRun p c (l.take i)).2):=by
 rw [insRun_take h,insStep]
 rcases h1 with h1|h1<;>rw [h1]<;>simp
def Srt (l:List En):Prop:=l.Pairwise fun a b=>ptLt a.1 b.1=true
end Go.K
end
section
namespace Go.K
open Go
theorem srt_nodup {l:List En} (h:Srt l):(l.map (·.1)).Nodup:=by
 rw [List.Nodup,List.pairwise_map]
 exact h.imp fun hab e=>by rw [e,ptLt_irrefl] at hab;cases hab
theorem mem_aget {m:List En} {p:Pt} {c:Cn} (hn:(m.map (·.1)).Nodup) (h:(p,c)∈m):aget m p=some c:=by
 induction m with
 |nil=>cases h
 |cons e m ih=>
  simp only [List.map_cons,List.nodup_cons] at hn
  rw [aget_cons]
  rcases List.mem_cons.1 h with h|h
  ·subst h;simp
  ·rw [if_neg,ih hn.2 h]
   intro e1
   exact hn.1 (e1▸List.mem_map_of_mem (f:=(·.1)) h)
theorem aget_perm {m l:List En} (hp:m.Perm l) (hs:Srt l) (p:Pt):aget m p=aget l p:=by
 have hl:=srt_nodup hs
 have hm:(m.map (·.1)).Nodup:=(hp.map _).nodup_iff.2 hl
 cases h:aget l p with
 |some c=>exact mem_aget hm (hp.mem_iff.2 (aget_mem h))
 |none=>
  cases h2:aget m p with
  |none=>rfl
  |some c=>rw [mem_aget hl (hp.mem_iff.1 (aget_mem h2))] at h;cases h
theorem aget_some_idx {l:List En} {p:Pt} {n:Nat} (h:refIdx l p=some n) (hn:n<l.length):aget l p=some l[n].2:=by
 rw [aget_idx];unfold refIdx at h;rw [h];simp [List.getElem?_eq_getElem hn]
theorem aget_none_idx {l:List En} {p:Pt} (h:refIdx l p=none):aget l p=none:=by
 rw [aget_idx];unfold refIdx at h;rw [h];rfl
theorem idx_lt {l:List En} {p:Pt} {n:Nat} (h:refIdx l p=some n):n<l.length:=(refIdx_some.1 h).1
theorem isSome_idx (l:List En) (p:Pt):(aget l p).isSome=(refIdx l p).isSome:=by
 cases h:refIdx l p with
 |none=>rw [aget_none_idx h];rfl
 |some n=>rw [aget_some_idx h (idx_lt h)];rfl
section
variable {m l:List En} (hp:m.Perm l) (hs:Srt l)
include hp hs
theorem put_code (p:Pt) (c:Cn):putCode m p c=refPutCode l p c:=by
 rw [putCode,refPutCode,aget_perm hp hs,isSome_idx,tot_perm hp]
end
def ins (p:Pt) (c:Cn):List En→List En
 | []=> [(p,c)]
 |e::l=>if ptLt p e.1 then (p,c)::e::l else e::ins p c l
theorem run_true (p:Pt) (c:Cn):∀(l out:List En),l.foldl (insStep p c) (out,true)=(out++l,true)
 | [],out=>by simp
 |e::l,out=>by
  rw [List.foldl_cons]
  have:insStep p c (out,true) e=(out++ [e],true):=by simp [insStep]
  rw [this,run_true p c l];simp
theorem run_false (p:Pt) (c:Cn):∀(l out:List En),(let s:=l.foldl (insStep p c) (out,false);if s.2 then s.1 else s.1++ [(p,c)])=out++ins p c l
 | [],out=>by simp [ins]
 |e::l,out=>by
  rw [List.foldl_cons]
  by_cases h:ptLt p e.1=true
  ·have:insStep p c (out,false) e=(out++ [(p,c)]++ [e],true):=by simp [insStep,h]
   rw [this,run_true]
   simp [ins,h]
  ·have h:ptLt p e.1=false:=by simpa using h
   have:insStep p c (out,false) e=(out++ [e],false):=by simp [insStep,h]
   rw [this,run_false p c l]
   simp [ins,h]
theorem insEnd_eq (p:Pt) (c:Cn) (l:List En):insEnd p c l=ins p c l:=by
 have:=run_false p c l []
 rw [List.nil_append] at this
 exact this
theorem ins_perm (p:Pt) (c:Cn):∀l:List En,(ins p c l).Perm ((p,c)::l)
 | []=>List.Perm.refl _
 |e::l=>by
  unfold ins
  split
  ·exact List.Perm.refl _
  ·exact ((ins_perm p c l).cons e).trans (List.Perm.swap _ _ _)
theorem ins_srt (p:Pt) (c:Cn):∀{l:List En},Srt l→(∀e∈l,e.1≠p)→Srt (ins p c l)
 | [],_,_=>by simp [ins,Srt]
 |e::l,hs,hn=>by
  have hs':=List.pairwise_cons.1 hs
  unfold ins
  split
  ·rename_i h
   refine List.pairwise_cons.2 ⟨fun x hx=>?_,hs⟩
   rcases List.mem_cons.1 hx with h1|h1
   ·rw [h1];exact h
   ·exact ptLt_trans h (hs'.1 x h1)
  ·rename_i h
   refine List.pairwise_cons.2 ⟨fun x hx=>?_,ins_srt p c hs'.2 (fun x hx=>hn x (by simp [hx]))⟩
   rcases List.mem_cons.1 ((ins_perm p c l).mem_iff.1 hx) with h1|h1
   ·rw [h1]
    cases h2:ptLt e.1 p
    ·exact absurd (ptLt_tri h2 (by simpa using h)) (hn e (by simp))
    ·rfl
   ·exact hs'.1 x h1
theorem put_sim {m l:List En} (hp:m.Perm l) (hs:Srt l) (p:Pt) (c:Cn):(putMap m p c).Perm (refPut l p c)∧Srt (refPut l p c)∧(refPut l p c).length≤l.length+1:=by
 have hc:=put_code hp hs p c
 unfold putMap refPut
 rw [hc]
 split
 ·rename_i h0
  rw [insEnd_eq]
  have hi:refIdx l p=none:=by
   unfold refPutCode at h0
   cases h:refIdx l p with
   |none=>rfl
   |some n=>
    rw [h] at h0
    simp only [Option.isSome_some,if_true] at h0
    split at h0<;>omega
  have h1:=ins_perm p c l
  refine ⟨?_,ins_srt p c hs (refIdx_none.1 hi),by rw [h1.length_eq];simp⟩
  refine List.Perm.trans ?_ h1.symm
  exact (List.perm_append_singleton (p,c) m).trans (hp.cons _)
 ·exact ⟨hp,hs,by omega⟩
end Go.K
end
section
namespace Go.K
open Go
def Reads (P:Program) (W:World) (t:TypeId) (cs:List Value):Prop:=
 ∃(H:Type) (enc:TypeId × Value→H) (base:Nat) (spare:Nat→Bool) (held:Bool) (fuel:Nat) (x:DataW H × List MemPlace),DataW.trod enc P W base spare held fuel t cs=some x
variable {P:Program} {W:World} {t:TypeId} {cs:List Value}
theorem reads_int {k:IntKind} (hu:P.underlying t=some (.int k)) (h:Reads P W t cs):∃n,cs= [.int k n]∧k.min≤n∧n≤k.max:=by
 obtain ⟨H,enc,base,spare,held,fuel,x,h⟩:=h
 obtain ⟨n,h1,_,h2⟩:=DataW.trod_int hu h
 exact ⟨n,h1,by simpa [Lit.wf] using h2⟩
theorem reads_bool (hu:P.underlying t=some .bool) (h:Reads P W t cs):∃b,cs= [.bool b]:=by
 obtain ⟨H,enc,base,spare,held,fuel,x,h⟩:=h
 obtain ⟨b,h1,_⟩:=DataW.trod_bool hu h
 exact ⟨b,h1⟩
theorem reads_string (hu:P.underlying t=some .string) (h:Reads P W t cs):∃s,cs= [.string s]∧s.size≤maxLen:=by
 obtain ⟨H,enc,base,spare,held,fuel,x,h⟩:=h
 obtain ⟨b,h1,_,h2⟩:=DataW.trod_string hu h
 exact ⟨b,h1,h2⟩
theorem reads_struct {fs:Array Field} (hu:P.underlying t=some (.struct fs)) (h:Reads P W t cs):cs.length=P.cellsOf t∧∀f∈fs.toList,Reads P W f.type ((cs.drop f.offset).take (P.cellsOf f.type)):=by
 obtain ⟨H,enc,base,spare,held,fuel,x,h⟩:=h
 obtain ⟨xs,n,_,rfl,hl,hlen,hf⟩:=DataW.trod_struct hu h
 refine ⟨hl,fun f hm=>?_⟩
 obtain ⟨i,hi,rfl⟩:=List.getElem_of_mem hm
 have h1:=hf i fs.toList[i] (by simp)
 cases hx:xs[i]? with
 |none=>exact absurd (List.getElem?_eq_none_iff.1 hx) (by simp at hi;omega)
 |some y=>rw [hx] at h1;exact ⟨H,enc,base,spare,held,n,y,h1⟩
theorem cells_row {base n:Nat} {a:Addr} {l:List Value} (h:W.cells? base a n=some l):l.length=n∧Row W a l:=by
 obtain ⟨_,h1,h2⟩:=World.cells?_some h
 refine ⟨h1,fun j v hj=>?_⟩
 rw [h2 j (by have:=(List.getElem?_eq_some_iff.1 hj).1;omega)];exact hj
theorem reads_slice {e:TypeId} (hu:P.underlying t=some (.slice e)) (h:Reads P W t cs):
  cs= [.slice none 0 0]∨∃(a:Addr) (len cap:Nat),cs= [.slice (some a) len cap]∧len≤cap∧cap≤maxLen∧∀i,i<len→∃c,c.length=P.cellsOf e∧Row W (a.add (i*P.cellsOf e)) c∧Reads P W e c:=by
 obtain ⟨H,enc,base,spare,held,fuel,x,h⟩:=h
 rcases Go.Deep.open_slice hu h with ⟨h1,_⟩|⟨a,len,cap,m,n,D,Pl,h1,_,hl,hm,rfl,_,hi⟩
 ·exact .inl h1
 ·refine .inr ⟨a,len,cap,h1,hl,hm,fun i hil=>?_⟩
  obtain ⟨c,h2,h3⟩:=hi i (by split<;>omega)
  have h4:=cells_row h2
  exact ⟨c,h4.1,h4.2,H,enc,base,spare,held,n,_,h3⟩
theorem row_append {a:Addr} {l l':List Value} (h:Row W a l) (h':Row W (a.add l.length) l'):Row W a (l++l'):=by
 intro j v hj
 by_cases hl:j<l.length
 ·rw [List.getElem?_append_left hl] at hj;exact h j v hj
 ·rw [List.getElem?_append_right (by omega)] at hj
  have:=h' _ v hj
  rwa [add_add,show l.length+(j - l.length)=j by omega] at this
end Go.K
end
section
namespace Go.K
open Go
variable {P:Program} {W:World} {t:TypeId}
theorem build_rel {α:Type} (E:R α) {a:Addr}:∀(n:Nat),(∀i,i<n→∃c x,Row W (a.add (i*E.k)) c∧E.rel [] W c x)→∃(css:List (Vec E.k)) (l:List α),css.length=n∧Row W a ((vecE E.k E.pos).flat css)∧E.all [] W css l
 |0,_=>⟨[], [],rfl,fun j v hj=>by simp [Enc.flat] at hj,.nil⟩
 |n+1,h=>by
  obtain ⟨css,l,h1,h2,h3⟩:=build_rel E n fun i hi=>h i (by omega)
  obtain ⟨c,x,hc,hx⟩:=h n (by omega)
  refine ⟨css++ [R.vec hx],l++ [x],by simp [h1],?_,h3.append (.cons hx .nil)⟩
  rw [Enc.flat_append]
  refine row_append h2 ?_
  rw [Enc.flat_length,h1]
  have e:(vecE E.k E.pos).flat [R.vec hx]=c:=by show c++ []=c;exact List.append_nil _
  rw [e];exact hc
theorem reads_slR {α:Type} (E:R α) {e:TypeId} {v:Value} (hu:P.underlying t=some (.slice e)) (hk:P.cellsOf e=E.k) (he:∀c,Reads P W e c→∃x,E.rel [] W c x) (h:Reads P W t [v]):∃l,SlR E [] W v l∧l.length≤maxLen:=by
 rcases reads_slice hu h with h1|⟨a,len,cap,h1,hl,hm,hi⟩
 ·simp at h1;subst h1
  exact ⟨[],SlR.nil _ _,by simp⟩
 ·simp at h1;subst h1
  obtain ⟨css,l,h2,h3,h4⟩:=build_rel (W:=W) E (a:=a) len fun i hil=>by
   obtain ⟨c,_,h4,h5⟩:=hi i hil
   obtain ⟨x,hx⟩:=he c h5
   exact ⟨c,x,by rw [←hk];exact h4,hx⟩
  subst h2
  exact ⟨l,⟨css,⟨Enc.flat_length _ css,some a,cap,rfl,hl,fun _=>⟨a,rfl,h3⟩⟩,h4,fun _ b _ hm=>by simp at hm⟩,by rw [←h4.length];omega⟩
def R.and {α:Type} (E:R α) (p:α→Prop):R α where
 k:=E.k
 pos:=E.pos
 ag:=E.ag
 rel:=fun M w cs x=>E.rel M w cs x∧p x
 len:=fun h=>E.len h.1
 one:=fun h=>E.one h.1
 step:=fun h c hL hM=>⟨E.step h.1 c hL hM,h.2⟩
theorem All2.right {α β:Type} {r:α→β→Prop} {q:β→Prop} (h:∀a b,r a b→q b):∀{l:List α} {m:List β},All2 r l m→∀b∈m,q b
 |_,_,.nil,b,hb=>by simp at hb
 |_,_,.cons h1 t,b,hb=>by
  rcases List.mem_cons.1 hb with rfl|hb
  ·exact h _ _ h1
  ·exact All2.right h t b hb
theorem SlR.both {α:Type} {E:R α} {p:α→Prop} {M:List Nat} {w:World} {v:Value} {l:List α} (h:SlR (E.and p) M w v l):SlR E M w v l∧∀x∈l,p x:=by
 obtain ⟨css,h1,h2,h3⟩:=h
 exact ⟨⟨css,h1,h2.mono fun _ _ h=>h.1,h3⟩,All2.right (fun _ _ h=>h.2) h2⟩
end Go.K
end
section
namespace Go.Proofs.YtfebcajheojodaaGreatDoor
open Go Go.K
attribute [local irreducible] regK codeK retK KOp.wp K.Spec u32 leS vnS str zero32 sha2 encT idT sizeT checkT grantB idN stepR workL reachE findI dropG addG
end Go.Proofs.YtfebcajheojodaaGreatDoor
end
section
namespace Go.Proofs.YtfebcajheojodaaGreatDoor
open Go Go.K
attribute [local irreducible] regK codeK retK KOp.wp K.Spec u32 leS vnS str zero32 sha2 encT idT sizeT checkT grantB idN stepR workL reachE findI dropG addG
theorem OwnR.outs {t:TypeId} {B:Nat} {M M':List Nat} {w:World} {v:Value} {l:List TOut} (h:OwnR outR t B M w v l):OwnR outR t B M' w v l:=by
 obtain ⟨css,h1,h2⟩:=h
 exact ⟨css,h1,h2.mono fun _ _ hr=>hr⟩
end Go.Proofs.YtfebcajheojodaaGreatDoor
end
section
namespace Go.Proofs.YtfebcajheojodaaGreatDoor
open Go Go.K
attribute [local irreducible] regK codeK retK KOp.wp K.Spec u32 leS vnS str zero32 sha2 encT idT sizeT checkT grantB idN stepR workL reachE findI dropG addG
end Go.Proofs.YtfebcajheojodaaGreatDoor
end
section
namespace Go.Proofs.YtfebcajheojodaaGreatDoor
open Go Go.K
attribute [local irreducible] regK codeK retK KOp.wp K.Spec u32 leS vnS str zero32 sha2 encT idT sizeT checkT grantB idN stepR workL reachE findI
theorem Gr.both {w:World} {B g:Nat} {M U:List Nat} {l:List Ent} (hG:Gr w B g M l) (hU:GrR w g (U++M) l):∃b1 vo b2 m sp,GrP w B g b1 vo b2 m sp l∧M=mutG g b1 b2 vo∧MapR sK entR (U++M) w b1 m:=by
 obtain ⟨b1,vo,b2,m,sp,P,rfl⟩:=hG
 obtain ⟨b1',vo',b2',m',sp',Q⟩:=hU
 have e: [Value.map (some b1),vo,.map (some b2)]= [.map (some b1'),vo',.map (some b2')]:=by
  have h1:=P.at_
  have h2:=Q.at_
  unfold At at h1 h2
  rw [h1] at h2
  simpa using h2
 simp only [List.cons.injEq,Value.map.injEq,Option.some.injEq,and_true] at e
 obtain ⟨rfl,rfl,rfl⟩:=e
 exact ⟨b1,vo,b2,m',sp',⟨P.at_,Q.ents.step (Chg.refl [] _) (by simp) (by simp) (fun b hb=>.inl (List.mem_append_right _ hb)),Q.pts,P.ord,Q.inv,P.nd,P.lo⟩,rfl,Q.ents⟩
end Go.Proofs.YtfebcajheojodaaGreatDoor
end
section
namespace Go.Proofs
open Go.Shelf
def Tryz.lays264_ren:Go.Shelf.Ren:=⟨fun|264=>171|n=>n,fun|53=>248|46=>280|n=>n,fun|n=>n⟩
theorem Tryz.lays264 : Go.Proofs.Lays.n264 Tryz.prog Tryz.lays264_ren := {
  mixed := by kernel_rfl
  f264 := Tryz.func171.trans (congrArg some (by kernel_rfl))
  t46 := Tryz.underlying280
  a46 := Tryz.isAgg280
  z46 := Tryz.sizeOf280
  v46 := Tryz.zeroValue280
  t53 := Tryz.underlying248
  a53 := Tryz.isAgg248
  z53 := Tryz.sizeOf248
  v53 := Tryz.zeroValue248 }
open Go.RowKit Go.Lib in
theorem Tryz.bits_Mul64 (x y:Nat) (hx:x<18446744073709551616) (hy:y<18446744073709551616) (w:World):
  Calls Tryz.prog 171 #[.int .u64 x,.int .u64 y] w fun e w'=>e=.returned (.tuple #[.int .u64 ((x*y / 18446744073709551616:Nat):Int),.int .u64 ((x*y%18446744073709551616:Nat):Int)])∧w'=w:=Any.bits_Mul64 Tryz.lays264 x y hx hy w
end Go.Proofs
end
section
namespace Go.Proofs.YtfebcajheojodaaGreatDoor
open Go Go.K
theorem mul64_spec (x y:Nat) (hx:x<18446744073709551616) (hy:y<18446744073709551616) (w:World):K.Spec Tryz.prog F.math_bits_Mul64 [.int .u64 (x:Nat),.int .u64 (y:Nat)] w fun v w'=>v=.tuple #[.int .u64 ((x*y / 18446744073709551616:Nat):Int),.int .u64 ((x*y%18446744073709551616:Nat):Int)]∧Ext w w':=
 (Tryz.bits_Mul64 x y hx hy w).mono fun e w' ⟨he,hw⟩=>⟨_,he,rfl,by rw [hw];exact Ext.refl _⟩
attribute [local irreducible] regK codeK retK KOp.wp K.Spec u32 leS vnS str zero32 sha2
def intE:Enc Int:=⟨fun n=> [.int .i64 n],1,fun _=>rfl,by decide,by intro x v hv;simp at hv;subst hv;rfl⟩
theorem u64_w {n:Nat} (h:n≤2100000000000000):IntKind.u64.wrap (n:Int)=(n:Nat):=by
 have e:∀m:Int,IntKind.u64.wrap m=m%18446744073709551616:=fun _=>rfl
 rw [e];omega
theorem parts_spec (a b:Nat) (ha:a≤2100000000000000) (hb:b≤1000000) (w:World):K.Spec Tryz.prog F.kedgeref01_parts [.int .i64 (a:Nat),.int .i64 (b:Nat)] w fun r w'=>r=.tuple #[.int .i64 ((a*b / 1000000:Nat):Int),.int .i64 ((a*b%1000000:Nat):Int)]∧Ext w w':=by
 have h1:a%1000000*b≤1000000*1000000:=Nat.mul_le_mul (by omega) hb
 have h2:a / 1000000*b≤2100000000*1000000:=Nat.mul_le_mul (by omega) hb
 obtain ⟨e1,e2⟩:=parts_nat a b
 rw [←e1,←e2]
 refine s_kedgeref01_parts rfl ?_
 unfold k_kedgeref01_parts
 refine oy ?_
 repeat' (first|(refine st_quo (d:=some 10) (n:=a) (m:=1000000) rfl rfl (by omega) (by omega) ?_)|(refine st_rem (d:=some 12) (n:=a) (m:=1000000) rfl rfl (by omega) ?_)|(refine st_fixV (d:=some 15) (.int .i64 ((a%1000000*b:Nat):Int)) rfl (congrArg (fun n=>some (Value.int .i64 n)) (IntWalk.i64_in _ (by omega))) ?_)|(refine st_fixV (d:=some 18) (.int .i64 ((a / 1000000*b:Nat):Int)) rfl (congrArg (fun n=>some (Value.int .i64 n)) (IntWalk.i64_in _ (by omega))) ?_)|(refine st_quo (d:=some 20) (n:=a%1000000*b) (m:=1000000) rfl rfl (by omega) (by omega) ?_)|(refine st_rem (d:=some 23) (n:=a%1000000*b) (m:=1000000) rfl rfl (by omega) ?_)|(first|refine go1 ?_|refine zg (fun _ _=>?_)|refine zi (fun _ _=>?_)))
 exact x_ret rfl ⟨rfl,by exact fx⟩
theorem rcompare_spec (f s o i : Int) (w : World) : K.Spec Tryz.prog F.kedgeref01_Compare [.int .i64 f, .int .i64 s, .int .i64 o, .int .i64 i] w fun r w' => r = .int .i64 (cmpR f s o i) ∧ Ext w w' := by
  by_cases hp : pricedB f s = true ∧ pricedB o i = true
  · obtain ⟨h1, h2⟩ := hp
    have g1 := h1
    have g2 := h2
    obtain ⟨F', S', rfl, rfl, b1, b2, b3⟩ := pricedB_nat h1
    obtain ⟨O', I', rfl, rfl, c1, c2, c3⟩ := pricedB_nat h2
    rw [cmpR_nat h1 h2, cmpU_parts]
    have q1 : goodB (F' : Nat) = true := (goodB_iff _).2 (by omega)
    have q2 : goodB (O' : Nat) = true := (goodB_iff _).2 (by omega)
    refine s_kedgeref01_Compare rfl ?_
    unfold k_kedgeref01_Compare
    refine oy ?_
    repeat' (first|(refine zF (d := some 16) (v := .bool true) ((qG _).trans (by rw [q1])) ?_)|(refine zF (d := some 18) (v := .bool true) ((qG _).trans (by rw [q2])) ?_)|(first|refine go1 ?_|refine zg (fun _ _=>?_)|refine zi (fun _ _=>?_))|(refine zC (d := some 44) rfl (parts_spec F' I' (by omega) (by omega) _) ?_; rintro _ w3 ⟨rfl, x3⟩)|(refine zC (d := some 50) rfl (parts_spec O' S' (by omega) (by omega) _) ?_; rintro _ w4 ⟨rfl, x4⟩)|(refine zJ rfl (fun h => ?_) (fun h => ?_))|(refine zL rfl (fun h => ?_) (fun h => ?_)))
    all_goals first
      | (exfalso; omega)
      | (refine x_ret rfl ⟨congrArg (Value.int .i64) ?_, by exact fx⟩
         split <;> (try split) <;> omega)
  · have e : cmpR f s o i = 0 := cmpR_no (by cases h1 : pricedB f s <;> cases h2 : pricedB o i <;> simp_all)
    rw [e]
    have hp2 : ¬ ((goodB f = true ∧ 1 ≤ s ∧ s ≤ 1000000) ∧ goodB o = true ∧ 1 ≤ i ∧ i ≤ 1000000) := by
      intro h; apply hp; rw [pricedB_iff, pricedB_iff, ← goodB_iff, ← goodB_iff]; exact h
    refine s_kedgeref01_Compare rfl ?_
    unfold k_kedgeref01_Compare
    refine oy ?_
    repeat' (first|(first|refine go1 ?_|refine zg (fun _ _=>?_)|refine zi (fun _ _=>?_))|(refine zJ rfl (fun h => ?_) (fun h => ?_))|(refine zK rfl (fun h => ?_) (fun h => ?_))|(refine zL rfl (fun h => ?_) (fun h => ?_)))
    all_goals first
      | exact x_ret rfl ⟨rfl, by exact fx⟩
      | exact absurd ⟨⟨by simp_all, by omega, by omega⟩, by simp_all, by omega, by omega⟩ hp2
end Go.Proofs.YtfebcajheojodaaGreatDoor
end
section
namespace Go.Proofs.YtfebcajheojodaaGreatDoor
open Go Go.K
attribute [local irreducible] regK codeK retK KOp.wp K.Spec u32 leS vnS str zero32 sha2 encT idT sizeT checkT grantB idN stepR workL reachE findI dropG addG aboveL belowL idsOf feeD sizeD cmpR
theorem idsOf_le1 (l:List Ent) (m:List Bool):(idsOf l m).length≤l.length:=by
 have:=(idsOf_sub l m).length_le
 simpa using this
end Go.Proofs.YtfebcajheojodaaGreatDoor
end
section
namespace Go.Proofs.YtfebcajheojodaaGreatDoor
open Go Go.K
section
variable {P:Program} {d:Option Tmp} {r:KR} {K:Env→World→Prop} {ρ:Env} {w:World}
theorem st_max {x y:Operand} {a b:Int} (hx:ev ρ x=.int .i64 a) (hy:ev ρ y=.int .i64 b) (k:regK P r K (put ρ d (.int .i64 (max a b))) w):regK P (.cons ⟨d,.minmax true x [y],none⟩ r) K ρ w:=
 st_fix rfl (by
  have e:(if b>a then b else a)=max a b:=by split<;>omega
  simp only [KOp.fix,List.foldl_cons,List.foldl_nil,hx,hy,Option.bind_some,minmax2,if_true,e]) k
end
theorem Own.blk_lt {α:Type} {E:Enc α} {t:TypeId} {B:Nat} {w:World} {v:Value} {l:List α} (h:Own E t B w v l):∀b∈blkOf v,b<w.heap.size:=by
 rcases h with ⟨rfl,rfl⟩|⟨b,cap,junk,rfl,hB,hat,hl⟩<;>simp [blkOf]
 exact hat.lt
attribute [local irreducible] regK codeK retK KOp.wp K.Spec u32 leS vnS str zero32 sha2 encT idT sizeT checkT grantB idN stepR workL reachE findI dropG addG aboveL belowL idsOf feeD sizeD cmpR leftL dropAll
end Go.Proofs.YtfebcajheojodaaGreatDoor
end
section
namespace Go.Proofs.YtfebcajheojodaaGreatDoor
open Go Go.K
attribute [local irreducible] regK codeK retK KOp.wp K.Spec u32 leS vnS str zero32 sha2 encT idT sizeT checkT grantB idN
def s9:ByteArray:=⟨#[1,1,0,0,0,0,0,0,0]⟩
end Go.Proofs.YtfebcajheojodaaGreatDoor
end
section
namespace Go.K
open Go
end Go.K
end
section
namespace Go.K
open Go
end Go.K
end
section
namespace Go.K
open Go
end Go.K
end
section
namespace Go.K
open Go
def sc9:List UInt8:= [1,1,0,0,0,0,0,0,0]
def oneM (L:List UInt8) (m:Nat):Tx:=⟨2, [⟨⟨str L,0⟩,4294967293, []⟩], [⟨1000,str sc9⟩],(m:Nat)⟩
def idL (n:Nat):List UInt8:=(List.range 32).map fun i=>UInt8.ofNat (n / 2^(i%8))^^^UInt8.ofNat i
def r90:List UInt8:= [224,231,132,22,155,147,84,141,189,81,171,96,167,26,13,249,123,4,161,235,106,182,26,208,68,46,184,58,28,38,199,133]
end Go.K
end
section
namespace Go.K
open Go
def eB (f:Int):Ent:=⟨oneM (idL 9) 0,str r90,f,69⟩
end Go.K
end
section
namespace Go.Proofs.YtfebcajheojodaaGreatDoor
open Go Go.K
attribute [local irreducible] regK codeK retK KOp.wp K.Spec u32 leS vnS str zero32 sha2 encT idT sizeT checkT grantB idN stepR workL reachE findI dropG addG oneM idL
attribute [local irreducible] eB
end Go.Proofs.YtfebcajheojodaaGreatDoor
end
section
namespace Go.Proofs.YtfebcajheojodaaGreatDoor
open Go Go.K
attribute [local irreducible] regK codeK retK KOp.wp K.Spec u32 leS vnS str zero32 sha2 encT idT sizeT checkT grantB idN stepR workL reachE findI dropG addG aboveL belowL idsOf feeD sizeD
theorem pt_dec (p q:Pt):(decide (p.s=q.s)&&(decide (p.i=q.i)&&true))=decide (p=q):=by
 cases p;cases q
 simp only [Bool.and_true,Pt.mk.injEq]
 exact Bool.decide_and _ _ |>.symm
theorem conf2_hb:hasBody Tryz.prog F.replace_Conflicts_1_1=true:=by kernel_rfl
theorem conf1_hb:hasBody Tryz.prog F.replace_Conflicts_1=true:=by kernel_rfl
theorem conf2_spec (a b:TIn) (av bv:Value) {ba:Nat} (w:World) (hbv:bv.oneCell'=true) (ha:Row w ⟨ba,0,none⟩ (inCs a av)):K.Spec Tryz.prog F.replace_Conflicts_1_1 [.agg (inCs b bv).toArray,.pointer (some ⟨ba,0,none⟩)] w fun r w'=>r=.bool (decide (a.p=b.p))∧Ext w w':=by
 rw [←pt_dec]
 refine s_replace_Conflicts_1_1 rfl ?_
 unfold k_replace_Conflicts_1_1
 refine oy ?_
 repeat' (first|(first|refine go1 ?_|refine zg (fun _ _=>?_)|refine zi (fun _ _=>?_))|(refine zD rfl rfl (fun bp wp xp ap (rp:Row wp ⟨bp,0,none⟩ (inCs b bv)) hp0=>?_)))
 exact x_ret rfl ⟨rfl,by exact fx⟩
theorem conf1_spec {M:List Nat} (a:TIn) (av iv ov:Value) {bt:Nat} {t:Tx} (w:World) (hav:av.oneCell'=true) (ht:Row w ⟨bt,0,none⟩ (txCs t iv ov)) (hi:SlR inR M w iv t.ins) (hn:t.ins.length≤1000):K.Spec Tryz.prog F.replace_Conflicts_1 [.agg (inCs a av).toArray,.pointer (some ⟨bt,0,none⟩)] w fun r w'=>r=.bool (t.ins.any fun b=>decide (a.p=b.p))∧Ext w w':=by
 refine s_replace_Conflicts_1 rfl ?_
 unfold k_replace_Conflicts_1
 refine oy ?_
 repeat' (first|(first|refine go1 ?_|refine zg (fun _ _=>?_)|refine zi (fun _ _=>?_))|(refine zD rfl rfl (fun bp wp xp ap (rp:Row wp ⟨bp,0,none⟩ (inCs a av)) hp0=>?_))|(refine zC rfl (idxIn_any (l:=t.ins) (M:=M) (g:=F.replace_Conflicts_1_1) (capl:= [_]) (p:=fun b=>decide (a.p=b.p)) _ conf2_hb (SlR.ext hi (by exact fx)) (by omega) ?_) ?_;rotate_left;rintro _ w2 ⟨rfl,x2⟩))
 ·exact x_ret rfl ⟨rfl,by exact fx⟩
 ·intro x _ w' cs x2 hc
  obtain ⟨bv,rfl,hw,_⟩:=hc
  exact conf2_spec a x av bv w' hw.one (rp.ext x2)
theorem confL_take {l:List Ent} {t:Tx} {i:Nat} (h:i<l.length):idsOf (l.take (i+1)) ((confL l t).take (i+1))=idsOf (l.take i) ((confL l t).take i)++if hitE t l[i]=true then [l[i].id] else []:=by
 have e:(confL l t)[i]'(by rw [←confL_len];exact h)=hitE t l[i]:=by simp [confL]
 rw [idsOf_take confL_len h,e]
set_option maxHeartbeats 2000000 in
theorem conflicts_spec {g:Nat} {M N:List Nat} {l:List Ent} {cs:List Value} {t:Tx} (w:World) (hG:GrR w g M l) (hM:∀b∈M,b<w.heap.size) (ht:txR.rel N w cs t) (hs:t.ins.length≤1000) (hl:l.length≤1000):
  K.Spec Tryz.prog F.replace_Conflicts [.pointer (some ⟨g,0,none⟩),.agg cs.toArray] w fun r w'=>Own strE T.string w.heap.size w' r (idsOf l (confL l t))∧Ext w w':=by
 have hsm:∀x∈l,x.tx.Sm:=fun x hx=>chk_sm (hG.ok x hx).check
 have id0:idsOf (l.take 0) ((confL l t).take 0)= []:=by rw [List.take_zero,List.take_zero];unfold idsOf;rfl
 obtain ⟨iv,ov,rfl,hi,ho,hv⟩:=ht
 refine s_replace_Conflicts rfl ?_
 unfold k_replace_Conflicts
 refine oy ?_
 repeat' (first|(first|refine go1 ?_|refine zg (fun _ _=>?_)|refine zi (fun _ _=>?_))|(refine zD (d:=some 3) rfl rfl (fun bt wt xt bt' (rt:Row wt ⟨bt,0,none⟩ (txCs t iv ov)) ht0=>?_))|(refine zC (d:=some 9) rfl (all_spec (M:=M) (l:=l) _ (hG.ext (by exact fx)) (fun b hb=>Nat.lt_of_lt_of_le (hM b hb) (Ext.size (by exact fx))) (by omega)) ?_;rintro va w2 ⟨oa,x2⟩;have sa:SlR entR [] w2 va l:=(oa.sub (M':= []) (by simp)).sl (by simp);have x02:Unit→Ext w w2:=(fun _=>by exact fx);have s02:=(x02 ()).size;have i2:=hi.ext (x02 ());have r2:=rt.ext x2)|(refine zG (d:=some 10) (E:=entR) (M:= []) (l:=l) rfl (SlR.ext sa (by exact fx)) ?_)|(refine zL rfl (fun h=>?_) (fun h=>?_))|(refine c_loopV (fun (p:Nat × Value) w'=>Ext w2 w'∧p.1≤l.length∧Own strE T.string w2.heap.size w' p.2 (idsOf (l.take p.1) ((confL l t).take p.1))) (fun p=> [(3,.pointer (some ⟨bt,0,none⟩)),(5,p.2),(9,va),(10,.int .i64 (l.length:Nat)),(11,.int .i64 p.1)]) (fun p=>l.length - p.1) (0,.slice none 0 0) ⟨rfl,rfl,rfl,rfl,rfl,trivial⟩ ⟨Ext.refl _,by simp,by rw [id0];exact Own.nil _ _ _⟩ ?_;rintro ⟨i,v5⟩ ρ w3 ⟨x3,hi3,o3⟩;simp only at hi3 o3;dsimp only))
 ·have hil:i<l.length:=by omega
  have hxs:=(hsm _ (List.getElem_mem hil)).ins
  have s3:=x3.size
  refine st_elemR (d:=some 13) (E:=entR) (M:= []) rfl rfl (n:=i) (l:=l) (SlR.ext sa (by exact fx)) rfl hil (fun ad cs r4 he=>?_)
  obtain ⟨iv2,ov2,rfl,q1,q2,q3⟩:=he
  have i1:=q1.one
  have j2:=q2.one
  have r3:=r2.ext x3
  have i3:=i2.ext x3
  have hle:=idsOf_length (l.take i) ((confL l t).take i)
  have htl:(l.take i).length=i:=by rw [List.length_take];omega
  have x23:Unit→Ext w2 w3:=fun _=>x3
  clear x3
  have tl:∀w1,Ext w3 w1→Tells F.replace_Conflicts_1 [.pointer (some ⟨bt,0,none⟩)] inR (fun cs=>.agg cs.toArray) [] w1 l[i].tx.ins (fun a=>t.ins.any fun b=>decide (a.p=b.p)):=fun w1 x1 x _ w' cs x2 hc=>by
   obtain ⟨bv,rfl,hw,_⟩:=hc
   exact conf1_spec (M:=N) x bv iv ov w' hw.one (r3.ext (x1.trans x2)) (i3.ext (x1.trans x2)) hs
  repeat' (first|(first|refine go1 ?_|refine zg (fun _ _=>?_)|refine zi (fun _ _=>?_))|(refine zE (d':=7) (fun _=>rfl) rfl rfl (by simp [entCs,i1,j2];exact ⟨rfl,rfl,rfl,rfl,rfl⟩) (fun b6 w6 x6 a6 (r6:Row w6 ⟨b6,0,none⟩ (entCs l[i] iv2 ov2)) hb6=>?_))|(refine zC (d:=some 19) rfl (idxIn_any (l:=l[i].tx.ins) (M:= []) (g:=F.replace_Conflicts_1) (capl:= [_]) (p:=fun a=>t.ins.any fun b=>decide (a.p=b.p)) _ conf1_hb (SlR.ext q1 (by exact fx)) (by omega) (tl _ (by exact fx))) ?_;rintro _ w7 ⟨rfl,x7⟩)|(refine zM rfl (fun h=>?_) (fun h=>?_))|(refine zI (d:=some 23) (cs:= [.string l[i].id]) rfl (fun b9 w9 x9 a9 hb9=>?_)))
  ·have x39:Ext w3 w9:=by exact fx
   have s39:=x39.size
   refine st_appendX (d:=some 24) (E:=strE) (v:=v5) (l2:= [l[i].id]) rfl (o3.ext x39) (by omega) rfl rfl (sl_new a9 rfl) rfl rfl (by simp only [List.length_cons,List.length_nil];omega) (fun v10 w10 o10 _ c10 hb10=>?_)
   have hh:hitE t l[i]=true:=h
   repeat' (first|refine go1 ?_|refine zg (fun _ _=>?_)|refine zi (fun _ _=>?_))
   exact ⟨(i+1,v10),⟨rfl,rfl,rfl,rfl,rfl,trivial⟩,⟨(((x23 ()).trans x39).chg c10).mono (fun b hb=>.inr (o3.base b hb)),by simp only;omega,by simp only;rw [confL_take hil,if_pos hh];exact o10⟩,by simp only;omega⟩
  ·have hh:¬hitE t l[i]=true:=by
    have h2:hitE t l[i]=false:=h
    rw [h2];simp
   exact ⟨(i+1,v5),⟨rfl,rfl,rfl,rfl,rfl,trivial⟩,⟨Ext.trans (x23 ()) (by exact fx),by simp only;omega,by simp only;rw [confL_take hil,if_neg hh,List.append_nil];exact o3.ext (by exact fx)⟩,by simp only;omega⟩
 ·rw [List.take_of_length_le (by omega),List.take_of_length_le (by rw [←confL_len];omega)] at o3
  exact x_ret rfl ⟨o3.lower s02,Ext.trans (x02 ()) (by exact fx)⟩
end Go.Proofs.YtfebcajheojodaaGreatDoor
end
section
namespace Go.K
open Go Go.Proofs.YtfebcajheojodaaGreatDoor
def cntS (P:List ByteArray) (s:ByteArray):Nat:=(P.filter fun x=>decide (x=s)).length
theorem cntS_snoc (P:List ByteArray) (x s:ByteArray):cntS (P++ [x]) s=cntS P s+if x=s then 1 else 0:=by
 unfold cntS
 rw [List.filter_append,List.length_append]
 by_cases h:x=s
 ·rw [List.filter_cons_of_pos (by simpa using h),if_pos h];rfl
 ·rw [List.filter_cons_of_neg (by simpa using h),if_neg h];rfl
theorem cntS_pos {P:List ByteArray} {s:ByteArray}:0<cntS P s↔s∈P:=by
 unfold cntS
 rw [List.length_pos_iff_exists_mem]
 constructor
 ·rintro ⟨x,hx⟩
  obtain ⟨h1,h2⟩:=List.mem_filter.1 hx
  rw [←of_decide_eq_true h2];exact h1
 ·exact fun h=>⟨s,List.mem_filter.2 ⟨h,decide_eq_true rfl⟩⟩
theorem cntS_le (P:List ByteArray) (s:ByteArray):cntS P s≤P.length:=List.length_filter_le _ _
def Cnt (met:List (ByteArray × Nat)) (P:List ByteArray):Prop:=∀s,aget met s=if cntS P s=0 then none else some (cntS P s)
theorem Cnt.nil:Cnt [] []:=fun s=>rfl
theorem Cnt.add {met:List (ByteArray × Nat)} {P:List ByteArray} (h:Cnt met P) (s:ByteArray):Cnt (aset met s (cntS P s+1)) (P++ [s]):=fun k=>by
 rw [aget_set',cntS_snoc]
 by_cases e:s=k
 ·subst e
  rw [if_pos rfl,if_pos rfl,if_neg (by omega)]
 ·rw [if_neg e,if_neg e,h k,Nat.add_zero]
theorem Cnt.found {met:List (ByteArray × Nat)} {P:List ByteArray} (h:Cnt met P) {s:ByteArray} {c:Nat} (hc:aget met s=some c):cntS P s=c∧0<c:=by
 have:=h s
 rw [hc] at this
 split at this
 ·cases this
 ·injection this with e;omega
theorem Cnt.none_ {met:List (ByteArray × Nat)} {P:List ByteArray} (h:Cnt met P) {s:ByteArray} (hc:aget met s=none):cntS P s=0:=by
 have:=h s
 rw [hc] at this
 split at this
 ·assumption
 ·cases this
def metL (l:List Ent) (ids:List ByteArray):List ByteArray:=ids.flatMap fun s=>idsOf l (belowL l s)
theorem metL_take {l:List Ent} {ids:List ByteArray} {i:Nat} (h:i<ids.length):metL l (ids.take (i+1))=metL l (ids.take i)++idsOf l (belowL l ids[i]):=by
 unfold metL
 rw [List.take_succ_eq_append_getElem h,List.flatMap_append,List.flatMap_singleton]
theorem metL_len {l:List Ent}:∀(ids:List ByteArray),(metL l ids).length≤l.length*ids.length
 | []=>by simp [metL]
 |s::ids=>by
  have ih:=metL_len (l:=l) ids
  have h:=(idsOf_sub l (belowL l s)).length_le
  rw [List.length_map] at h
  unfold metL at ih ⊢
  rw [List.flatMap_cons,List.length_append,List.length_cons,Nat.mul_add]
  omega
theorem ev_at {l:List Ent} {t:Tx} (hn:(l.map (·.id)).Nodup) {i:Nat} (hi:i<l.length):((evL l t)[i]'(by rw [←evL_len];exact hi))=true↔0<cntS (metL l (idsOf l (confL l t))) l[i].id:=by
 rw [cntS_pos]
 have h1:=evI_iff (l:=l) (t:=t) hi (Nat.le_refl _)
 have e:(evI l t l.length)[i]? =some ((evL l t)[i]'(by rw [←evL_len];exact hi)):=List.getElem?_eq_getElem _
 rw [e] at h1
 simp only [Option.some.injEq] at h1
 rw [h1]
 unfold metL
 rw [List.mem_flatMap]
 constructor
 ·rintro ⟨j,hj,_,h2,h3⟩
  exact ⟨l[j].id,mem_conf.2 ⟨l[j],List.getElem_mem hj,h2,rfl⟩,(mem_below hn hi).2 h3⟩
 ·rintro ⟨s,hs,h2⟩
  obtain ⟨x,hx,h3,rfl⟩:=mem_conf.1 hs
  obtain ⟨j,hj,rfl⟩:=List.getElem_of_mem hx
  exact ⟨j,hj,hj,h3,(mem_below hn hi).1 h2⟩
theorem evL_take {l:List Ent} {t:Tx} {i:Nat} (h:i<l.length):idsOf (l.take (i+1)) ((evL l t).take (i+1))=idsOf (l.take i) ((evL l t).take i)++if (evL l t)[i]'(by rw [←evL_len];exact h)=true then [l[i].id] else []:=idsOf_take evL_len h
end Go.K
end
