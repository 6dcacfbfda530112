/- The engine, part 22: lists of lists; heads of slices of one' -/
import Derived.Test.YteceapipdhnhdaaGreatDoorNa9
import Derived.Test.YteceapipdhnhdaaGreatDoorNa10
set_option linter.unusedVariables false
set_option linter.unusedSimpArgs false
namespace Go.K
section
open Go
def mL {α:Type} (E:R α):R (List α) where
 k:=1
 pos:=by decide
 ag:=false
 rel:=fun M w cs x=>∃v,cs= [v]∧SlR E M w v x
 len:=fun ⟨_,h,_⟩=>by grind
 one:=fun ⟨v,h,hs⟩ u hu=>by
  obtain ⟨b,c,e⟩:=hs.form
  subst h;simp at hu;subst hu;rw [e];rfl
 step:=fun ⟨v,h,hs⟩ c hL hM=>⟨v,h,hs.step c hL hM⟩
def enR:R En:=R.flat cQ true
theorem SlR.en {M:List Nat} {w:World} {v:Value} {l:List En} (h:SlR enR M w v l):SlE cQ w v l:=SlR.toE (F:=cQ) (ag:=true) h
theorem SlE.en {M:List Nat} {w:World} {v:Value} {l:List En} (h:SlE cQ w v l) (hb:∀b∈aC v,b∉M):SlR enR M w v l:=SlE.toR (F:=cQ) (ag:=true) h hb
section
variable {α:Type} {E:R α} {t:TypeId} {B:Nat} {M:List Nat} {w:World}
theorem aOr {k:Nat} {hk:0<k} (css:List (Vec k)) (n:Nat):(jM k hk).flat css=(jM k hk).flat (css.take n)++(jM k hk).flat (css.drop n):=by
 grind [List.take_append_drop,Enc.flat]
theorem bH.cut {b:Nat} {len cap n:Nat} {l:List α} (h:bH E t B M w (.slice (some ⟨b,0,none⟩) len cap) l) (hn:n≤l.length):bH E t B M w (.slice (some ⟨b,0,none⟩) n cap) (l.take n):=by
 obtain ⟨css,h1,h2⟩:=h
 have hl:=h2.length
 rcases h1 with ⟨e, -⟩|⟨b',cap',junk,e,hB,hat,hln⟩
 ·cases e
 ·simp only [Value.slice.injEq,Option.some.injEq,Addr.mk.injEq,and_true] at e
  obtain ⟨rfl, -,rfl⟩:=e
  refine ⟨css.take n,.inr ⟨b,cap,(jM E.k E.pos).flat (css.drop n)++junk,?_,hB,?_,?_⟩,?_⟩
  ·rw [List.length_take,Nat.min_eq_left (by omega)]
  ·grind [aOr]
  ·grind [aOr]
  ·exact All2.take n h2
theorem bH.form {v:Value} {l:List α} (h:bH E t B M w v l):(v=.slice none 0 0∧l= [])∨∃b cap,v=.slice (some ⟨b,0,none⟩) l.length cap∧l.length≤cap:=by
 obtain ⟨css,h1,h2⟩:=h
 have hl:=h2.length
 rcases h1 with ⟨rfl,rfl⟩|⟨b,cap,junk,rfl,hB,hat,hln⟩
 ·grind
 ·refine .inr ⟨b,cap,by rw [hl],?_⟩
  rw [List.length_append,Enc.flat_length] at hln
  have hk:=E.pos
  have h3:css.length*E.k≤cap*E.k:=by
   have e:(jM E.k E.pos).k=E.k:=rfl
   rw [e] at hln;omega
  have:=Nat.le_of_mul_le_mul_right h3 hk
  omega
end
end
end Go.K
