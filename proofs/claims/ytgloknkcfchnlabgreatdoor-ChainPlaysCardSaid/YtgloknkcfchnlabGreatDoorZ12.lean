/- The engine, part 22: lists of lists; heads of slices of one' -/
import Derived.Test.YtgloknkcfchnlabGreatDoorZ8
import Derived.Test.YtgloknkcfchnlabGreatDoorZ9
set_option linter.unusedVariables false
set_option linter.unusedSimpArgs false
namespace Go.K
section
open Go
def fD {α:Type} (E:R α):R (List α) where
 k:=1
 pos:=by decide
 ag:=false
 rel:=fun M w cs x=>∃v,cs= [v]∧SlR E M w v x
 len:=fun ⟨_,h,_⟩=>by rw [h];rfl
 one:=fun ⟨v,h,hs⟩ u hu=>by
  obtain ⟨b,c,e⟩:=hs.form
  subst h;simp at hu;subst hu;rw [e];rfl
 step:=fun ⟨v,h,hs⟩ c hL hM=>⟨v,h,hs.step c hL hM⟩
def enR:R En:=R.flat bE true
theorem SlR.en {M:List Nat} {w:World} {v:Value} {l:List En} (h:SlR enR M w v l):SlE bE w v l:=SlR.toE (F:=bE) (ag:=true) h
theorem SlE.en {M:List Nat} {w:World} {v:Value} {l:List En} (h:SlE bE w v l) (hb:∀b∈aH v,b∉M):SlR enR M w v l:=SlE.toR (F:=bE) (ag:=true) h hb
section
variable {α:Type} {E:R α} {t:TypeId} {B:Nat} {M:List Nat} {w:World}
theorem aF6 {k:Nat} {hk:0<k} (css:List (Vec k)) (n:Nat):(fY k hk).flat css=(fY k hk).flat (css.take n)++(fY k hk).flat (css.drop n):=by
 conv=>lhs;rw [←List.take_append_drop n css]
 unfold Enc.flat
 rw [List.flatMap_append]
theorem bD.cut {b:Nat} {len cap n:Nat} {l:List α} (h:bD E t B M w (.slice (some ⟨b,0,none⟩) len cap) l) (hn:n≤l.length):bD E t B M w (.slice (some ⟨b,0,none⟩) n cap) (l.take n):=by
 obtain ⟨css,h1,h2⟩:=h
 have hl:=h2.length
 rcases h1 with ⟨e, -⟩|⟨b',cap',junk,e,hB,hat,hln⟩
 ·cases e
 ·simp only [Value.slice.injEq,Option.some.injEq,Addr.mk.injEq,and_true] at e
  obtain ⟨rfl, -,rfl⟩:=e
  refine ⟨css.take n,.inr ⟨b,cap,(fY E.k E.pos).flat (css.drop n)++junk,?_,hB,?_,?_⟩,?_⟩
  ·rw [List.length_take,Nat.min_eq_left (by omega)]
  ·rw [←List.append_assoc,←aF6];exact hat
  ·rw [←List.append_assoc,←aF6];exact hln
  ·exact All2.take n h2
theorem bD.form {v:Value} {l:List α} (h:bD E t B M w v l):(v=.slice none 0 0∧l= [])∨∃b cap,v=.slice (some ⟨b,0,none⟩) l.length cap∧l.length≤cap:=by
 obtain ⟨css,h1,h2⟩:=h
 have hl:=h2.length
 rcases h1 with ⟨rfl,rfl⟩|⟨b,cap,junk,rfl,hB,hat,hln⟩
 ·exact .inl ⟨rfl,h2.left_nil⟩
 ·refine .inr ⟨b,cap,by rw [hl],?_⟩
  rw [List.length_append,Enc.flat_length] at hln
  have hk:=E.pos
  have h3:css.length*E.k≤cap*E.k:=by
   have e:(fY E.k E.pos).k=E.k:=rfl
   rw [e] at hln;omega
  have:=Nat.le_of_mul_le_mul_right h3 hk
  omega
end
end
end Go.K
