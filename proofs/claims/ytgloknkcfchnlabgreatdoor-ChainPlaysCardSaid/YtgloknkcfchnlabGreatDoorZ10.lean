/- The engine, part 13: what came in, read at its type. The eng -/
import Derived.RowKit
import Derived.OpenShut
import Derived.Deep.Slices
import Derived.ChangeSame
import Derived.Shelf.SlSortCmp.WholeK
import Derived.Test.YtgloknkcfchnlabGreatDoorZ5
set_option linter.unusedVariables false
set_option linter.unusedSimpArgs false
namespace Go.K
section
open Go
def Reads (P:Program) (W:World) (t:TypeId) (cs:List Value):Prop:=
 ∃(H:Type) (enc:TypeId × Value→H) (base:Nat) (spare:Nat→Bool) (held:Bool) (fuel:Nat) (x:DataW H × List MemPlace),DataW.trod enc P W base spare held fuel t cs=some x
variable {P:Program} {W:World} {t:TypeId} {cs:List Value}
theorem aIe {k:IntKind} (hu:P.underlying t=some (.int k)) (h:Reads P W t cs):∃n,cs= [.int k n]∧k.min≤n∧n≤k.max:=by
 obtain ⟨H,enc,base,spare,held,fuel,x,h⟩:=h
 obtain ⟨n,h1,_,h2⟩:=DataW.trod_int hu h
 exact ⟨n,h1,by simpa [Lit.wf] using h2⟩
theorem aF5 (hu:P.underlying t=some .bool) (h:Reads P W t cs):∃b,cs= [.bool b]:=by
 obtain ⟨H,enc,base,spare,held,fuel,x,h⟩:=h
 obtain ⟨b,h1,_⟩:=DataW.trod_bool hu h
 exact ⟨b,h1⟩
theorem aAp {fs:Array Field} (hu:P.underlying t=some (.struct fs)) (h:Reads P W t cs):cs.length=P.cellsOf t∧∀f∈fs.toList,Reads P W f.type ((cs.drop f.offset).take (P.cellsOf f.type)):=by
 obtain ⟨H,enc,base,spare,held,fuel,x,h⟩:=h
 obtain ⟨xs,n,_,rfl,hl,hlen,hf⟩:=DataW.trod_struct hu h
 refine ⟨hl,fun f hm=>?_⟩
 obtain ⟨i,hi,rfl⟩:=List.getElem_of_mem hm
 have h1:=hf i fs.toList[i] (by simp)
 cases hx:xs[i]? with
 |none=>exact absurd (List.getElem?_eq_none_iff.1 hx) (by simp at hi;omega)
 |some y=>rw [hx] at h1;exact ⟨H,enc,base,spare,held,n,y,h1⟩
theorem aQ6 {base n:Nat} {a:Addr} {l:List Value} (h:W.cells? base a n=some l):l.length=n∧Row W a l:=by
 obtain ⟨_,h1,h2⟩:=World.cells?_some h
 refine ⟨h1,fun j v hj=>?_⟩
 rw [h2 j (by have:=(List.getElem?_eq_some_iff.1 hj).1;omega)];exact hj
theorem aLt {e:TypeId} (hu:P.underlying t=some (.slice e)) (h:Reads P W t cs):
  cs= [.slice none 0 0]∨∃(a:Addr) (len cap:Nat),cs= [.slice (some a) len cap]∧len≤cap∧cap≤maxLen∧∀i,i<len→∃c,c.length=P.cellsOf e∧Row W (a.add (i*P.cellsOf e)) c∧Reads P W e c:=by
 obtain ⟨H,enc,base,spare,held,fuel,x,h⟩:=h
 rcases Go.Deep.open_slice hu h with ⟨h1,_⟩|⟨a,len,cap,m,n,D,Pl,h1,_,hl,hm,rfl,_,hi⟩
 ·exact .inl h1
 ·refine .inr ⟨a,len,cap,h1,hl,hm,fun i hil=>?_⟩
  obtain ⟨c,h2,h3⟩:=hi i (by split<;>omega)
  have h4:=aQ6 h2
  exact ⟨c,h4.1,h4.2,H,enc,base,spare,held,n,_,h3⟩
theorem aOy {a:Addr} {l l':List Value} (h:Row W a l) (h':Row W (a.add l.length) l'):Row W a (l++l'):=by
 intro j v hj
 by_cases hl:j<l.length
 ·rw [List.getElem?_append_left hl] at hj;exact h j v hj
 ·rw [List.getElem?_append_right (by omega)] at hj
  have:=h' _ v hj
  rwa [add_add,show l.length+(j - l.length)=j by omega] at this
end
section
open Go Go.Proofs Go.Sort
variable {α:Type} {E:Enc α}
theorem Enc.flat_get (E:Enc α) (l:List α) (i c:Nat) (hi:i<l.length) (hc:c<E.k):(E.flat l)[i*E.k+c]? =(E.f l[i])[c]? :=by
 have:=E.flat_at l i hi
 rw [←this,List.getElem?_take,if_pos hc,List.getElem?_drop]
theorem aKl [Inhabited α] (E:Enc α) (d:Array α) (t:Nat) (h:t<d.size*E.k):(E.flat d.toList)[t]? =some ((flatK E.f E.k d)[t]!):=by
 have hk:=E.pos
 have hi:t / E.k<d.size:=Nat.div_lt_of_lt_mul (by rw [Nat.mul_comm];exact h)
 have hc:t%E.k<E.k:=Nat.mod_lt _ hk
 rw [get_flatK _ _ _ _ h]
 have e:t=t / E.k*E.k+t%E.k:=by rw [Nat.mul_comm];exact (Nat.div_add_mod t E.k).symm
 conv=>lhs;rw [e]
 rw [E.flat_get d.toList _ _ (by simpa using hi) hc]
 have hl:t%E.k<(E.f d[t / E.k]).length:=by rw [E.len];exact hc
 rw [show d[t / E.k]! =d[t / E.k] from getElem!_pos d _ hi,List.getElem!_eq_getElem?_getD]
 simp [List.getElem?_eq_getElem hl]
theorem aL4 [Inhabited α] {w:World} {b:Nat} {t:TypeId} {l:List α} {junk:List Value} (h:At w b (.cells (E.flat l++junk).toArray t (0,0))):HoldsK E.f E.k w b 0 l.toArray:=by
 intro j hj
 rw [size_flatK] at hj
 have hf:=aKl E l.toArray j hj
 have hlt:j<(E.flat l).length:=by rw [E.flat_length];simpa using hj
 unfold At at h
 constructor
 ·simp only [World.cell?,h,Nat.zero_add]
  simp only [List.getElem?_toArray]
  rw [List.getElem?_append_left hlt]
  simpa using hf
 ·simp [World.frozen?,h]
theorem aI6 [Inhabited α] {w:World} {b:Nat} {d:Array α} (h:HoldsK E.f E.k w b 0 d):Row w ⟨b,0,none⟩ (E.flat d.toList):=by
 intro j v hj
 have hlt:j<d.size*E.k:=by
  have:=(List.getElem?_eq_some_iff.1 hj).1
  rw [E.flat_length] at this;simpa using this
 have h1:=(h j (by rw [size_flatK];exact hlt)).1
 rw [aKl E d j hlt] at hj
 have e:(Addr.add ⟨b,0,none⟩ j)=⟨b,0+j,none⟩:=by unfold Addr.add;split<;>simp_all
 rw [e,h1];exact hj
theorem aOs [Inhabited α] (E:Enc α) (w:World) (b n:Nat) (d:Array α) (os:Array Obj):Chg [b] w (sortWorldK E.f E.k w b 0 n d os):=by
 refine ⟨rfl,rfl,rfl,?_,fun i hi hn=>?_⟩
 ·simp [sortWorldK,putRowK]
 ·have hne:b≠i:=by simp at hn;omega
  unfold sortWorldK
  rw [heap_grow_old _ _ (by rw [putRowK,Go.Sort.size_putRow];exact hi)]
  show (Array.modify _ b _)[i]? =_
  rw [Array.getElem?_modify,if_neg hne];rfl
theorem aTm [Inhabited α] {d d':Array α} (h:PermIn 0 d.size d d'):d'.toList.Perm d.toList:=by
 obtain ⟨h1,_,h3⟩:=h
 have e1:d.extract 0 d.size=d:=by simp
 have e2:d'.extract 0 d.size=d':=by rw [←h1];simp
 rwa [e1,e2] at h3
theorem aOa [Inhabited α] {lt:α→α→Bool} {d:Array α} {n:Nat} (hn:d.size=n) (h:SortedIn lt 0 n d):d.toList.Pairwise fun a b=>lt b a=false:=by
 subst hn
 rw [List.pairwise_iff_getElem]
 intro i j hi hj hij
 have:=h i j (Nat.zero_le _) hij (by simpa using hj)
 simp only [Array.length_toList] at hi hj
 rw [getElem!_pos d j hj,getElem!_pos d i hi] at this
 simpa using this
theorem Own.free {t:TypeId} {B:Nat} {w:World} {v:Value} {l:List α} {x:Nat} {o:Obj} (h:Own E t B w v l) (ha:At w x o) (hn:∀cs t,o≠.cells cs t (0,0)):x∉aH v:=by
 rcases h with ⟨rfl,rfl⟩|⟨b,cap,junk,rfl,hB,hat,hlen⟩
 ·simp [aH]
 ·simp only [aH,List.mem_singleton]
  rintro rfl
  exact hn _ _ (ha.inj hat)
theorem aXd {P:Program} [Inhabited α] {v:Value} {l:List α} {t:TypeId} {B:Nat} {w:World} {f g:FuncId} {lt:α→α→Bool} (ho:Own E t B w v l)
  (hnil:∀cap,K.Spec P f [.slice none 0 cap,.func (.func g) #[] #[]] w fun r w'=>r=.tuple #[]∧w'=w)
  (hc:∀b cap,v=.slice (some ⟨b,0,none⟩) l.length cap→HoldsK E.f E.k w b 0 l.toArray→b<w.heap.size→Calls P f #[.slice (some ⟨b,0,none⟩) l.toArray.size cap,.func (.func g) #[] #[]] w fun e w'=>
   e=.returned (.tuple #[])∧∃d' n os,PermIn 0 l.toArray.size l.toArray d'∧SortedIn lt 0 l.toArray.size d'∧w'=sortWorldK E.f E.k w b 0 n d' os):
  K.Spec P f [v,.func (.func g) #[] #[]] w fun r w'=>r=.tuple #[]∧∃l':List α,l'.Perm l∧l'.Pairwise (fun a b=>lt b a=false)∧SlE E w' v l'∧Chg (aH v) w w':=by
 rcases ho with ⟨rfl,rfl⟩|⟨b,cap,junk,rfl,hB,hat,hlen⟩
 ·refine (hnil 0).mono fun e w' ⟨r,he,hr,hw⟩=>⟨r,he,hr, [],List.Perm.refl _,List.Pairwise.nil,SlE.nil _,by rw [hw];exact Chg.refl _ _⟩
 ·have hH:=aL4 hat
  have h:=hc b cap rfl hH hat.lt
  have es:l.toArray.size=l.length:=by simp
  rw [es] at h
  refine h.mono fun e w' ⟨he,d',n,os,hp,hs,hw⟩=>?_
  have hp':PermIn 0 l.toArray.size l.toArray d':=by rw [es];exact hp
  have hpl:d'.toList.Perm l:=by have:=aTm hp';simpa using this
  have hsz:d'.size=l.length:=by have:=hpl.length_eq;simpa using this
  subst hw
  refine ⟨_,he,rfl,d'.toList,hpl,aOa hsz hs,?_,aOs E w b n d' os⟩
  have hr:=aI6 (holdsK_sortWorldK E.f E.k w b 0 n l.toArray d' os hat.lt hH (by simp [hsz]))
  have hle:l.length≤cap:=by
   rw [List.length_append,E.flat_length] at hlen
   exact Nat.le_of_mul_le_mul_right (show l.length*E.k≤cap*E.k by omega) E.pos
  exact ⟨E.flat_length _,some ⟨b,0,none⟩,cap,by simp [hsz],by simp [hsz,hle],fun _=>⟨_,rfl,hr⟩⟩
end
end Go.K
