/- The engine, part 11: the sort's worlds. The engine, part 22: -/
import Derived.Shelf.SlSortCmp.WholeK
import Derived.Test.YtgloknkcfchnlaaGreatZ8
set_option linter.unusedVariables false
set_option linter.unusedSimpArgs false
namespace Go.K
section
open Go Go.Proofs Go.Sort
variable {α:Type} {E:Enc α}
theorem Enc.flat_get (E:Enc α) (l:List α) (i c:Nat) (hi:i<l.length) (hc:c<E.k):(E.flat l)[i*E.k+c]? =(E.f l[i])[c]? :=by
 have:=E.flat_at l i hi
 rw [←this,List.getElem?_take,if_pos hc,List.getElem?_drop]
theorem aXx [Inhabited α] (E:Enc α) (d:Array α) (t:Nat) (h:t<d.size*E.k):(E.flat d.toList)[t]? =some ((flatK E.f E.k d)[t]!):=by
 have hk:=E.pos
 have hi:t / E.k<d.size:=Nat.div_lt_of_lt_mul (by rw [Nat.mul_comm];exact h)
 have hc:t%E.k<E.k:=Nat.mod_lt _ hk
 rw [get_flatK _ _ _ _ h]
 have e:t=t / E.k*E.k+t%E.k:=by rw [Nat.mul_comm];exact (Nat.div_add_mod t E.k).symm
 conv=>lhs;rw [e]
 rw [E.flat_get d.toList _ _ (by simpa using hi) hc]
 have hl:t%E.k<(E.f d[t / E.k]).length:=by rw [E.len];exact hc
 rw [show d[t / E.k]! =d[t / E.k] from getElem!_pos d _ hi,List.getElem!_eq_getElem?_getD]
 simp [List.getElem?_eq_getElem hl]
theorem bA2 [Inhabited α] {w:World} {b:Nat} {t:TypeId} {l:List α} {junk:List Value} (h:At w b (.cells (E.flat l++junk).toArray t (0,0))):HoldsK E.f E.k w b 0 l.toArray:=by
 intro j hj
 rw [size_flatK] at hj
 have hf:=aXx E l.toArray j hj
 have hlt:j<(E.flat l).length:=by rw [E.flat_length];simpa using hj
 unfold At at h
 constructor
 ·simp only [World.cell?,h,Nat.zero_add]
  simp only [List.getElem?_toArray]
  rw [List.getElem?_append_left hlt]
  simpa using hf
 ·simp [World.frozen?,h]
theorem aVw [Inhabited α] {w:World} {b:Nat} {d:Array α} (h:HoldsK E.f E.k w b 0 d):Row w ⟨b,0,none⟩ (E.flat d.toList):=by
 intro j v hj
 have hlt:j<d.size*E.k:=by
  have:=(List.getElem?_eq_some_iff.1 hj).1
  rw [E.flat_length] at this;simpa using this
 have h1:=(h j (by rw [size_flatK];exact hlt)).1
 rw [aXx E d j hlt] at hj
 have e:(Addr.add ⟨b,0,none⟩ j)=⟨b,0+j,none⟩:=by unfold Addr.add;split<;>simp_all
 rw [e,h1];exact hj
theorem bEt [Inhabited α] (E:Enc α) (w:World) (b n:Nat) (d:Array α) (os:Array Obj):Chg [b] w (sortWorldK E.f E.k w b 0 n d os):=by
 refine ⟨rfl,rfl,rfl,?_,fun i hi hn=>?_⟩
 ·simp [sortWorldK,putRowK]
 ·have hne:b≠i:=by simp at hn;omega
  unfold sortWorldK
  rw [heap_grow_old _ _ (by rw [putRowK,Go.Sort.size_putRow];exact hi)]
  show (Array.modify _ b _)[i]? =_
  rw [Array.getElem?_modify,if_neg hne];rfl
theorem bJ3 [Inhabited α] {d d':Array α} (h:PermIn 0 d.size d d'):d'.toList.Perm d.toList:=by
 obtain ⟨h1,_,h3⟩:=h
 have e1:d.extract 0 d.size=d:=by simp
 have e2:d'.extract 0 d.size=d':=by rw [←h1];simp
 rwa [e1,e2] at h3
theorem bEi [Inhabited α] {lt:α→α→Bool} {d:Array α} {n:Nat} (hn:d.size=n) (h:SortedIn lt 0 n d):d.toList.Pairwise fun a b=>lt b a=false:=by
 subst hn
 rw [List.pairwise_iff_getElem]
 intro i j hi hj hij
 have:=h i j (Nat.zero_le _) hij (by simpa using hj)
 simp only [Array.length_toList] at hi hj
 rw [getElem!_pos d j hj,getElem!_pos d i hi] at this
 simpa using this
theorem Own.free {t:TypeId} {B:Nat} {w:World} {v:Value} {l:List α} {x:Nat} {o:Obj} (h:Own E t B w v l) (ha:At w x o) (hn:∀cs t,o≠.cells cs t (0,0)):x∉aB v:=by
 rcases h with ⟨rfl,rfl⟩|⟨b,cap,junk,rfl,hB,hat,hlen⟩
 ·simp [aB]
 ·simp only [aB,List.mem_singleton]
  rintro rfl
  exact hn _ _ (ha.inj hat)
theorem bOm {P:Program} [Inhabited α] {v:Value} {l:List α} {t:TypeId} {B:Nat} {w:World} {f g:FuncId} {lt:α→α→Bool} (ho:Own E t B w v l)
  (hnil:∀cap,K.Spec P f [.slice none 0 cap,.func (.func g) #[] #[]] w fun r w'=>r=.tuple #[]∧w'=w)
  (hc:∀b cap,v=.slice (some ⟨b,0,none⟩) l.length cap→HoldsK E.f E.k w b 0 l.toArray→b<w.heap.size→Calls P f #[.slice (some ⟨b,0,none⟩) l.toArray.size cap,.func (.func g) #[] #[]] w fun e w'=>
   e=.returned (.tuple #[])∧∃d' n os,PermIn 0 l.toArray.size l.toArray d'∧SortedIn lt 0 l.toArray.size d'∧w'=sortWorldK E.f E.k w b 0 n d' os):
  K.Spec P f [v,.func (.func g) #[] #[]] w fun r w'=>r=.tuple #[]∧∃l':List α,l'.Perm l∧l'.Pairwise (fun a b=>lt b a=false)∧SlE E w' v l'∧Chg (aB v) w w':=by
 rcases ho with ⟨rfl,rfl⟩|⟨b,cap,junk,rfl,hB,hat,hlen⟩
 ·refine (hnil 0).mono fun e w' ⟨r,he,hr,hw⟩=>⟨r,he,hr, [],List.Perm.refl _,List.Pairwise.nil,SlE.nil _,by rw [hw];exact Chg.refl _ _⟩
 ·have hH:=bA2 hat
  have h:=hc b cap rfl hH hat.lt
  have es:l.toArray.size=l.length:=by simp
  rw [es] at h
  refine h.mono fun e w' ⟨he,d',n,os,hp,hs,hw⟩=>?_
  have hp':PermIn 0 l.toArray.size l.toArray d':=by rw [es];exact hp
  have hpl:d'.toList.Perm l:=by have:=bJ3 hp';simpa using this
  have hsz:d'.size=l.length:=by have:=hpl.length_eq;simpa using this
  subst hw
  refine ⟨_,he,rfl,d'.toList,hpl,bEi hsz hs,?_,bEt E w b n d' os⟩
  have hr:=aVw (holdsK_sortWorldK E.f E.k w b 0 n l.toArray d' os hat.lt hH (by simp [hsz]))
  have hle:l.length≤cap:=by
   rw [List.length_append,E.flat_length] at hlen
   exact Nat.le_of_mul_le_mul_right (show l.length*E.k≤cap*E.k by omega) E.pos
  exact ⟨E.flat_length _,some ⟨b,0,none⟩,cap,by simp [hsz],by simp [hsz,hle],fun _=>⟨_,rfl,hr⟩⟩
end
section
open Go
def dW {α:Type} (E:R α):R (List α) where
 k:=1
 pos:=by decide
 ag:=false
 rel:=fun M w cs x=>∃v,cs= [v]∧SlR E M w v x
 len:=fun ⟨_,h,_⟩=>by rw [h];rfl
 one:=fun ⟨v,h,hs⟩ u hu=>by
  obtain ⟨b,c,e⟩:=hs.form
  subst h;simp at hu;subst hu;rw [e];rfl
 step:=fun ⟨v,h,hs⟩ c hL hM=>⟨v,h,hs.step c hL hM⟩
def enR:R En:=R.flat bM true
theorem SlR.en {M:List Nat} {w:World} {v:Value} {l:List En} (h:SlR enR M w v l):SlE bM w v l:=SlR.toE (F:=bM) (ag:=true) h
theorem SlE.en {M:List Nat} {w:World} {v:Value} {l:List En} (h:SlE bM w v l) (hb:∀b∈aB v,b∉M):SlR enR M w v l:=SlE.toR (F:=bM) (ag:=true) h hb
section
variable {α:Type} {E:R α} {t:TypeId} {B:Nat} {M:List Nat} {w:World}
theorem aQp {k:Nat} {hk:0<k} (css:List (Vec k)) (n:Nat):(kA k hk).flat css=(kA k hk).flat (css.take n)++(kA k hk).flat (css.drop n):=by
 conv=>lhs;rw [←List.take_append_drop n css]
 unfold Enc.flat
 rw [List.flatMap_append]
theorem bR.cut {b:Nat} {len cap n:Nat} {l:List α} (h:bR E t B M w (.slice (some ⟨b,0,none⟩) len cap) l) (hn:n≤l.length):bR E t B M w (.slice (some ⟨b,0,none⟩) n cap) (l.take n):=by
 obtain ⟨css,h1,h2⟩:=h
 have hl:=h2.length
 rcases h1 with ⟨e, -⟩|⟨b',cap',junk,e,hB,hat,hln⟩
 ·cases e
 ·simp only [Value.slice.injEq,Option.some.injEq,Addr.mk.injEq,and_true] at e
  obtain ⟨rfl, -,rfl⟩:=e
  refine ⟨css.take n,.inr ⟨b,cap,(kA E.k E.pos).flat (css.drop n)++junk,?_,hB,?_,?_⟩,?_⟩
  ·rw [List.length_take,Nat.min_eq_left (by omega)]
  ·rw [←List.append_assoc,←aQp];exact hat
  ·rw [←List.append_assoc,←aQp];exact hln
  ·exact All2.take n h2
theorem bR.form {v:Value} {l:List α} (h:bR E t B M w v l):(v=.slice none 0 0∧l= [])∨∃b cap,v=.slice (some ⟨b,0,none⟩) l.length cap∧l.length≤cap:=by
 obtain ⟨css,h1,h2⟩:=h
 have hl:=h2.length
 rcases h1 with ⟨rfl,rfl⟩|⟨b,cap,junk,rfl,hB,hat,hln⟩
 ·exact .inl ⟨rfl,h2.left_nil⟩
 ·refine .inr ⟨b,cap,by rw [hl],?_⟩
  rw [List.length_append,Enc.flat_length] at hln
  have hk:=E.pos
  have h3:css.length*E.k≤cap*E.k:=by
   have e:(kA E.k E.pos).k=E.k:=rfl
   rw [e] at hln;omega
  have:=Nat.le_of_mul_le_mul_right h3 hk
  omega
end
end
end Go.K
