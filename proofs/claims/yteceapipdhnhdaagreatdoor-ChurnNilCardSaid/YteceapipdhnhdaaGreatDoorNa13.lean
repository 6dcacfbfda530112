/- The engine, part 24: what lies in a block by what it holds:  -/
import Derived.Test.YteceapipdhnhdaaGreatDoorNa9
import Derived.Test.YteceapipdhnhdaaGreatDoorNa10
set_option linter.unusedVariables false
set_option linter.unusedSimpArgs false
namespace Go.K
section
open Go
variable {α:Type} {E:R α} {M:List Nat} {w:World}
theorem bNx {b:Nat} {z:List Value} {t:TypeId} {a:Addr} {v:Value} (ha:At w b (.cells z.toArray t (0,0))) (hb:a.block=b) (h:w.cell? a=some v):v∈z:=by
 grind [World.cell?,At]
theorem SlR.off {b:Nat} {z:List Value} {t:TypeId} {v:Value} {l:List α} (h:SlR E M w v l) (ha:At w b (.cells z.toArray t (0,0))) (hE:∀cs x,E.rel M w cs x→∃u r,cs=u::r∧u∉z) (hs:∀cs x,E.rel M w cs x→E.rel (b::M) w cs x):SlR E (b::M) w v l:=by
 obtain ⟨css,h1,h2,h3⟩:=h
 refine ⟨css,h1,h2.mono fun c x hr=>hs _ _ hr,fun hp b' hb' hm=>?_⟩
 rcases List.mem_cons.1 hm with rfl|hm
 ·have hlen:=h2.length
  have hc:0<css.length:=by omega
  obtain ⟨n,base,cap,rfl, -,hrow⟩:=h1
  have hk:=E.pos
  have hfl:0<((jM E.k E.pos).flat css).length:=by
   rw [Enc.flat_length]
   exact Nat.mul_pos hc E.pos
  obtain ⟨a,rfl,hr⟩:=hrow hfl
  obtain ⟨u,r,e,hu⟩:=hE _ _ (h2.get 0 hc (by omega))
  have h0:((jM E.k E.pos).flat css)[0]? =some u:=by
   cases css with
   |nil=>grind
   |cons c css=>
    simp only [List.getElem_cons_zero] at e
    simp only [Enc.flat,List.flatMap_cons]
    show (c.1++_)[0]? =some u
    grind
  have hcell:=hr 0 u h0
  grind [bNx,add_block,aC]
 simp_all
end
end Go.K
