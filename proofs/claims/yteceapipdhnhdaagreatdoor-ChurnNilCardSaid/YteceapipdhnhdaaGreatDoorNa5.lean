/- The engine, part 8: typed slices, owned slices, typed maps,  -/
import Derived.Test.YteceapipdhnhdaaGreatDoorNa4
set_option linter.unusedVariables false
set_option linter.unusedSimpArgs false
namespace Go.K
section
open Go
variable {P:Program}
structure Enc (α:Type) where
 f:α→List Value
 k:Nat
 len:∀x,(f x).length=k
 pos:0<k
 one:∀x,∀v∈f x,v.oneCell'=true
variable {α:Type} {E:Enc α}
def Enc.flat (E:Enc α) (l:List α):List Value:=l.flatMap E.f
theorem Enc.flat_length (E:Enc α):∀(l:List α),(E.flat l).length=l.length*E.k
 | []=>by simp [Enc.flat]
 |x::l=>by
  have:=E.flat_length l
  simp only [Enc.flat,List.flatMap_cons,List.length_append,E.len,List.length_cons] at this ⊢
  grind
theorem Enc.flat_append (E:Enc α) (l l':List α):E.flat (l++l')=E.flat l++E.flat l':=by simp [Enc.flat]
theorem Enc.flat_at (E:Enc α):∀(l:List α) (i:Nat) (h:i<l.length),((E.flat l).drop (i*E.k)).take E.k=E.f l[i]
 |x::l,0,_=>by
  simp only [Enc.flat,List.flatMap_cons,Nat.zero_mul,List.drop_zero,List.getElem_cons_zero]
  rw [List.take_append_of_le_length (by rw [E.len];omega),tLe (by rw [E.len];omega)]
 |x::l,i+1,h=>by
  have hi:i<l.length:=by simpa using h
  have:=E.flat_at l i hi
  simp only [Enc.flat,List.flatMap_cons,List.getElem_cons_succ] at this ⊢
  rw [←this,List.drop_append,E.len,List.drop_eq_nil_of_le (by rw [E.len,Nat.add_mul];omega),List.nil_append]
  grind
theorem Enc.flat_one (E:Enc α) (l:List α):∀v∈E.flat l,v.oneCell'=true:=by
 intro v hv
 simp only [Enc.flat,List.mem_flatMap] at hv
 obtain ⟨x,_,hx⟩:=hv
 exact E.one x v hx
def SlE (E:Enc α) (w:World) (v:Value) (l:List α):Prop:=Sl w E.k v l.length (E.flat l)
theorem SlE.ext {w w':World} {v:Value} {l:List α} (hc:Ext w w') (h:SlE E w v l):SlE E w' v l:=Sl.ext hc h
theorem SlE.chg {s:List Nat} {w w':World} {v:Value} {l:List α} (hc:Chg s w w') (h:SlE E w v l) (hb:∀a m c,v=.slice (some a) m c→a.block∉s):SlE E w' v l:=Sl.chg hc h hb
theorem SlE.nil (w:World):SlE E w (.slice none 0 0) []:=Sl.nil w E.k
theorem SlE.form {w:World} {v:Value} {l:List α} (h:SlE E w v l):∃base cap,v=.slice base l.length cap:=by
 obtain ⟨_,base,cap,hv,_⟩:=h;simp [*]
theorem SlE.cells {w:World} {v:Value} {l:List α} (h:SlE E w v l):cV w E.k v=some (l.length,E.flat l):=Sl.cells h
theorem SlE.cut {w:World} {base:Option Addr} {n cap:Nat} {l:List α} (h:SlE E w (.slice base n cap) l) {lo hi:Nat} (h1:lo≤hi) (h2:hi≤l.length) (c2:Nat) (hc2:hi - lo≤c2):
  SlE E w (.slice (if cap=lo then base else base.map fun ad:Addr=>ad.add (lo*E.k)) (hi - lo) c2) ((l.drop lo).take (hi - lo)):=by
 obtain ⟨hl,base',cap',hv,hnc,hr⟩:=h
 simp only [Value.slice.injEq] at hv
 obtain ⟨rfl,rfl,rfl⟩:=hv
 have hlen:((l.drop lo).take (hi - lo)).length=hi - lo:=by simp;omega
 refine ⟨by rw [E.flat_length],_,c2,by rw [hlen],by omega,fun hp=>?_⟩
 rw [E.flat_length,hlen] at hp
 have hlt:lo<hi:=by
  rcases Nat.lt_or_ge lo hi with h|h
  ·exact h
  ·simp_all
 have hpos:0<(E.flat l).length:=by rw [E.flat_length];exact Nat.mul_pos (by omega) E.pos
 obtain ⟨a,rfl,hrow⟩:=hr hpos
 have key:∀c:Addr,c=a.add (lo*E.k)→Row w c (E.flat ((l.drop lo).take (hi - lo))):=by
  rintro _ rfl j v hj
  rw [add_add]
  refine hrow _ v ?_
  have e1:l=l.take lo++((l.drop lo).take (hi - lo)++l.drop hi):=by
   conv=>lhs;rw [←List.take_append_drop lo l,←List.take_append_drop (hi - lo) (l.drop lo),List.drop_drop,show lo+(hi - lo)=hi by omega]
  rw [e1,E.flat_append,E.flat_append,List.getElem?_append_right (by rw [E.flat_length];grind)]
  rw [E.flat_length]
  rw [show lo*E.k+j - (l.take lo).length*E.k=j by grind]
  rw [List.getElem?_append_left (List.getElem?_eq_some_iff.1 hj).1]
  exact hj
 grind
section
variable {d:Option Tmp} {r:KR} {K:Env→World→Prop} {ρ:Env} {w:World}
theorem aT {size:Nat} {x i:Operand} {v:Value} {l:List α} {kd:IntKind} {n:Nat} (hx:ev ρ x=v) (hi:ev ρ i=.int kd (n:Nat)) (hs:SlE E w v l) (hk:size=E.k) (hr:n<l.length) (k:∀ad,Row w ad (E.f l[n])→aH P r K (put ρ d (.pointer (some ad))) w):aH P (.cons ⟨d,.indexAddr size x i,none⟩ r) K ρ w:=by
 subst hk
 exact bNl hx hi hs E.pos hr fun ad hrow=>k ad (by rw [E.flat_at l n hr] at hrow;omega)
theorem bL {x:Operand} {v:Value} {l:List α} (hx:ev ρ x=v) (hs:SlE E w v l) (k:aH P r K (put ρ d (.int .i64 (l.length:Nat))) w):aH P (.cons ⟨d,.len false x,none⟩ r) K ρ w:=by
 obtain ⟨base,cap,rfl⟩:=hs.form
 exact cS rfl (by simp [KOp.fix,hx]) k
end
def Own (E:Enc α) (t:TypeId) (B:Nat) (w:World) (v:Value) (l:List α):Prop:=
 (v=.slice none 0 0∧l= [])∨∃b cap junk,v=.slice (some ⟨b,0,none⟩) l.length cap∧B≤b∧At w b (.cells (E.flat l++junk).toArray t (0,0))∧(E.flat l++junk).length=cap*E.k
def aC:Value→List Nat
 |.slice (some a) _ _=> [a.block]
 |_=> []
theorem Own.nil (t:TypeId) (B:Nat) (w:World):Own E t B w (.slice none 0 0) []:=.inl ⟨rfl,rfl⟩
theorem Own.sl {t:TypeId} {B:Nat} {w:World} {v:Value} {l:List α} (h:Own E t B w v l):SlE E w v l:=by
 rcases h with ⟨rfl,rfl⟩|⟨b,cap,junk,rfl,_,hat,hlen⟩
 ·exact SlE.nil w
 ·have hle:l.length≤cap:=by
   rw [List.length_append,E.flat_length] at hlen
   have h1:l.length*E.k≤cap*E.k:=by omega
   exact Nat.le_of_mul_le_mul_right h1 E.pos
  refine ⟨by rw [E.flat_length],_,_,rfl,hle,fun _=>⟨_,rfl,fun j v hj=>?_⟩⟩
  exact Row.of_at hat j v (by grind)
theorem Own.chg {t:TypeId} {B:Nat} {s:List Nat} {w w':World} {v:Value} {l:List α} (hc:Chg s w w') (h:Own E t B w v l) (hb:∀b∈aC v,b∉s):Own E t B w' v l:=by
 rcases h with ⟨rfl,rfl⟩|⟨b,cap,junk,rfl,hB,hat,hl⟩
 ·exact Own.nil t B w'
 ·exact .inr ⟨b,cap,junk,rfl,hB,hat.chg hc (hb b (by simp [aC])),hl⟩
theorem Own.ext {t:TypeId} {B:Nat} {w w':World} {v:Value} {l:List α} (hc:Ext w w') (h:Own E t B w v l):Own E t B w' v l:=h.chg hc (by simp)
theorem Own.base {t:TypeId} {B:Nat} {w:World} {v:Value} {l:List α} (h:Own E t B w v l):∀b∈aC v,B≤b:=by
 rcases h with ⟨rfl,rfl⟩|⟨b,cap,junk,rfl,hB,hat,hl⟩<;>simp [aC]
 exact hB
theorem Own.lower {t:TypeId} {B B':Nat} {w:World} {v:Value} {l:List α} (h:Own E t B w v l) (hb:B'≤B):Own E t B' w v l:=by
 rcases h with h|⟨b,cap,junk,hv,hB,r⟩
 ·exact .inl h
 ·exact .inr ⟨b,cap,junk,hv,by omega,r⟩
theorem aA1 {t:TypeId} {b:Nat}:∀(vs:List Value) (i o:Nat) (cur:List Value) (w:World),At w b (.cells cur.toArray t (0,0))→o+i+vs.length≤cur.length→
  At (jU w (Addr.add ⟨b,0,none⟩ o) i vs) b (.cells (cur.take (o+i)++vs++cur.drop (o+i+vs.length)).toArray t (0,0))∧Chg [b] w (jU w (Addr.add ⟨b,0,none⟩ o) i vs)
 | [],i,o,cur,w,h,_=>by simp only [jU,List.append_nil,List.length_nil,Nat.add_zero,List.take_append_drop];grind [Chg.refl]
 |v::vs,i,o,cur,w,h,hl=>by
  simp only [List.length_cons] at hl
  have ha:(Addr.add (Addr.add ⟨b,0,none⟩ o) i)=⟨b,o+i,none⟩:=by rw [add_add];unfold Addr.add;split<;>simp_all
  have h1:At (w.setCell (Addr.add (Addr.add ⟨b,0,none⟩ o) i) v) b (.cells (cur.set (o+i) v).toArray t (0,0)):=by
   unfold At at h ⊢
   rw [ha]
   simp [World.setCell,Array.getElem?_modify,h]
  have c1:Chg [b] w (w.setCell (Addr.add (Addr.add ⟨b,0,none⟩ o) i) v):=by have:=Chg.setCell w (Addr.add (Addr.add ⟨b,0,none⟩ o) i) v;rw [ha] at this ⊢;exact this
  obtain ⟨h2,c2⟩:=aA1 vs (i+1) o (cur.set (o+i) v) _ h1 (by grind)
  simp only [jU]
  refine ⟨?_,(c1.trans c2).mono (by simp)⟩
  have e:cur.take (o+i)++v::vs++cur.drop (o+i+(vs.length+1))=(cur.set (o+i) v).take (o+(i+1))++vs++(cur.set (o+i) v).drop (o+(i+1)+vs.length):=by
   rw [show o+i+(vs.length+1)=o+(i+1)+vs.length from by omega,List.drop_set_of_lt (by omega),show o+(i+1)=(o+i)+1 from by omega,List.take_succ_eq_append_getElem (by grind)]
   simp only [List.take_set_of_le (Nat.le_refl _),List.getElem_set_self,List.append_assoc,List.cons_append,List.nil_append]
  simp_all
theorem aNl {t:TypeId} {b o n:Nat} {cur:List Value} {w:World} (h:At w b (.cells cur.toArray t (0,0))) (hl:o+n≤cur.length):aS9 w (Addr.add ⟨b,0,none⟩ o) 0 n:=by
 intro j _ hj
 have ha:(Addr.add (Addr.add ⟨b,0,none⟩ o) j)=⟨b,o+j,none⟩:=by rw [add_add];unfold Addr.add;split<;>simp_all
 grind [At,World.frozen?,World.cell?]
section
variable {d:Option Tmp} {r:KR} {K:Env→World→Prop} {ρ:Env} {w:World}
theorem bC {x y:Operand} {b o:Nat} {t:TypeId} {cur:List Value} {v:Value} (hx:ev ρ x=.pointer (some (Addr.add ⟨b,0,none⟩ o))) (hy:ev ρ y=v) (h1:v.oneCell'=true) (h:At w b (.cells cur.toArray t (0,0))) (hl:o<cur.length)
  (k:∀w',Chg [b] w w'→At w' b (.cells (cur.set o v).toArray t (0,0))→aH P r K (put ρ d undef) w'):aH P (.cons ⟨d,.store x y,none⟩ r) K ρ w:=by
 have hc:=aNl (o:=o) (n:=1) h (by omega) 0 (Nat.le_refl _) (by omega)
 rw [add_zero] at hc
 have h2:=aA1 [v] 0 o cur w h (by grind)
 simp only [jU,add_zero,Nat.add_zero,List.length_singleton] at h2
 refine fX ⟨_,hx,by simp [*],hc.1,hc.2,?_⟩
 rw [hy]
 refine k _ h2.2 ?_
 have e:cur.take o++ [v]++cur.drop (o+1)=cur.set o v:=by rw [List.set_eq_take_append_cons_drop,if_pos hl];simp
 simp_all
theorem aD7 {x y:Operand} {b:Nat} {t:TypeId} {cur:List Value} {v:Value} (hx:ev ρ x=.pointer (some ⟨b,0,none⟩)) (hy:ev ρ y=v) (h1:v.oneCell'=true) (h:At w b (.cells cur.toArray t (0,0))) (hl:0<cur.length)
  (k:∀w',Chg [b] w w'→At w' b (.cells (cur.set 0 v).toArray t (0,0))→aH P r K (put ρ d undef) w'):aH P (.cons ⟨d,.store x y,none⟩ r) K ρ w:=
 bC (o:=0) (by grind [add_zero]) hy h1 h hl k
theorem sO {n:Nat} {x y:Operand} {b o:Nat} {t:TypeId} {cur vs:List Value} (hx:ev ρ x=.pointer (some (Addr.add ⟨b,0,none⟩ o))) (hy:ev ρ y=.agg vs.toArray) (hn:vs.length=n) (h1:∀v∈vs,v.oneCell'=true) (h:At w b (.cells cur.toArray t (0,0))) (hl:o+n≤cur.length)
  (k:∀w',Chg [b] w w'→At w' b (.cells (cur.take o++vs++cur.drop (o+n)).toArray t (0,0))→aH P r K (put ρ d undef) w'):aH P (.cons ⟨d,.storeN n x y,none⟩ r) K ρ w:=by
 subst hn
 have h2:=aA1 vs 0 o cur w h (by omega)
 simp only [Nat.add_zero] at h2
 exact fX ⟨_,_,hx,hy,by simp,by omega,aNl h hl,k _ h2.2 h2.1⟩
theorem cE {n:Nat} {x y:Operand} {b:Nat} {t:TypeId} {cur vs:List Value} (hx:ev ρ x=.pointer (some ⟨b,0,none⟩)) (hy:ev ρ y=.agg vs.toArray) (hn:vs.length=n) (h1:∀v∈vs,v.oneCell'=true) (h:At w b (.cells cur.toArray t (0,0))) (hl:cur.length=n)
  (k:∀w',Chg [b] w w'→At w' b (.cells vs.toArray t (0,0))→aH P r K (put ρ d undef) w'):aH P (.cons ⟨d,.storeN n x y,none⟩ r) K ρ w:=
 sO (o:=0) (by grind [add_zero]) hy hn h1 h (by omega) fun w' hc ha=>k w' hc (by
  grind)
theorem fU {t:TypeId} {ln:Nat} {zs cs:List Value} {ps:List (Nat × Nat × Operand)} (hf:qI (ev ρ) zs ps=some cs) (k:∀b w',Ext w w'→At w' b (.cells cs.toArray t (0,0))→w.heap.size≤b→aH P r K (put ρ d (.slice (some ⟨b,0,none⟩) ln ln)) w'):aH P (.cons ⟨d,.buildSlice t ln zs ps,none⟩ r) K ρ w:=
 fX ⟨cs,hf,k _ _ (Ext.alloc w _) (At.new w _) (Nat.le_refl _)⟩
theorem jY {t:TypeId} {size bytes B:Nat} {zero:List Value} {x y:Operand} {v:Value} {l l2:List α} {n:Nat} {new:List Value} (hx:ev ρ x=v) (ho:Own E t B w v l) (hB:B≤w.heap.size) (hk:size=E.k) (hz:zero.length=E.k) (hy:cV w size (ev ρ y)=some (n,new)) (hnew:new=E.flat l2) (hn:n=l2.length) (hroom:(l.length+l2.length)*bytes≤2^47)
  (k:∀v' w',Own E t B w' v' (l++l2)→SlE E w' v l→Chg (aC v) w w'→(∀b∈aC v',b∈aC v∨w.heap.size≤b)→aH P r K (put ρ d v') w'):aH P (.cons ⟨d,.append t size bytes zero x y,none⟩ r) K ρ w:=by
 subst hk hnew hn
 refine fX ?_
 have hcap:∀need old,old<need→Builtin.nextslicecap need old≤2*need:=by
  intro need old ho
  have hg:∀rounds c,256≤c→c≤2*need→Builtin.growBy need rounds c≤2*need:=by
   intro rounds
   induction rounds with
   |zero=>intro c _ h;exact h
   |succ n ih=>
    grind [Builtin.growBy]
  unfold Builtin.nextslicecap
  split
  ·omega
  ·grind
 rcases ho with ⟨rfl,rfl⟩|⟨b,cap,junk,rfl,hb,hat,hlen⟩
 ·refine ⟨none,0,0,l2.length,E.flat l2,hx,hy,fun hr=>?_,fun hr=>?_⟩
  ·grind [Own.nil,SlE.nil,Chg.refl]
  ·refine ⟨[],rfl,?_,fun c hc=>?_⟩
   ·grind [Builtin.nextslicecap]
   ·refine k _ _ (.inr ⟨w.heap.size,c,zeros zero (c - (0+l2.length)),?_,by omega,?_,?_⟩) (SlE.nil _) ((Ext.drew w).chg ((Ext.alloc _ _).mono (by simp))) (by simp [aC])
    ·simp
    ·simpa using At.new w.drew _
    ·simp only [List.nil_append,List.length_append,E.flat_length,zeros_length,hz,Nat.zero_add]
     rw [←Nat.add_mul];simp_all
 ·have hsl:cV w E.k (.slice (some ⟨b,0,none⟩) l.length cap)=some (l.length,E.flat l):=(Own.sl (t:=t) (B:=B) (.inr ⟨b,cap,junk,rfl,hb,hat,hlen⟩)).cells
  have hj:(E.flat l).length+junk.length=cap*E.k:=by simpa using hlen
  rw [E.flat_length] at hj
  refine ⟨some ⟨b,0,none⟩,l.length,cap,l2.length,E.flat l2,hx,hy,fun hr=>?_,fun hr=>?_⟩
  ·have hmul:(l.length+l2.length)*E.k≤cap*E.k:=Nat.mul_le_mul_right _ hr
   rw [Nat.add_mul] at hmul
   have hfit:l.length*E.k+0+(E.flat l2).length≤(E.flat l++junk).length:=by rw [List.length_append,E.flat_length,E.flat_length];omega
   obtain ⟨h2,c2⟩:=aA1 (E.flat l2) 0 (l.length*E.k) (E.flat l++junk) w hat hfit
   refine ⟨E.flat_one l2,aNl hat (by omega),k _ _ (.inr ⟨b,cap,junk.drop (E.flat l2).length,by simp,hb,?_,?_⟩) (Own.sl (t:=t) (B:=B) (.inr ⟨b,cap,E.flat l2++junk.drop (E.flat l2).length,rfl,hb,?_,?_⟩)) c2 (by simp [aC])⟩
   ·have e1:(E.flat l++junk).take (l.length*E.k+0)=E.flat l:=by rw [List.take_append_of_le_length (by grind),tLe (by grind)]
    have e2:(E.flat l++junk).drop (l.length*E.k+0+(E.flat l2).length)=junk.drop (E.flat l2).length:=by
     rw [List.drop_append,List.drop_eq_nil_of_le (by grind),List.nil_append,E.flat_length,E.flat_length,show l.length*E.k+0+l2.length*E.k - l.length*E.k=l2.length*E.k by omega]
    rw [e1,e2,←E.flat_append] at h2
    exact h2
   ·rw [E.flat_append,List.length_append,List.length_append,List.length_drop,E.flat_length,E.flat_length]
    omega
   ·have e1:(E.flat l++junk).take (l.length*E.k+0)=E.flat l:=by rw [List.take_append_of_le_length (by grind),tLe (by grind)]
    have e2:(E.flat l++junk).drop (l.length*E.k+0+(E.flat l2).length)=junk.drop (E.flat l2).length:=by
     rw [List.drop_append,List.drop_eq_nil_of_le (by grind),List.nil_append,E.flat_length,E.flat_length,show l.length*E.k+0+l2.length*E.k - l.length*E.k=l2.length*E.k by omega]
    simp_all
   grind
  ·refine ⟨E.flat l,hsl,?_,fun c hc=>?_⟩
   ·have:=hcap (l.length+l2.length) cap hr
    have h3:=Nat.mul_le_mul_right bytes this
    grind
   ·refine k _ _ (.inr ⟨w.heap.size,c,zeros zero (c - (l.length+l2.length)),by simp,by omega,?_,?_⟩) (SlE.ext ((Ext.drew w).chg ((Ext.alloc _ _).mono (by simp))) (Own.sl (t:=t) (B:=B) (.inr ⟨b,cap,junk,rfl,hb,hat,hlen⟩))) ((Ext.drew w).chg ((Ext.alloc _ _).mono (by simp))) (by simp [aC])
    ·rw [E.flat_append];exact At.new w.drew _
    ·rw [E.flat_append]
     simp only [List.length_append,E.flat_length,zeros_length,hz]
     rw [←Nat.add_mul,←Nat.add_mul];simp [*]
theorem bZ {t:TypeId} {size bytes B:Nat} {zero:List Value} {x y:Operand} {v:Value} {l l2:List α} {n:Nat} {new:List Value} (hx:ev ρ x=v) (ho:Own E t B w v l) (hB:B≤w.heap.size) (hk:size=E.k) (hz:zero.length=E.k) (hy:cV w size (ev ρ y)=some (n,new)) (hnew:new=E.flat l2) (hn:n=l2.length) (hroom:(l.length+l2.length)*bytes≤2^47)
  (k:∀v' w',Own E t B w' v' (l++l2)→Chg (aC v) w w'→aH P r K (put ρ d v') w'):aH P (.cons ⟨d,.append t size bytes zero x y,none⟩ r) K ρ w:=
 jY hx ho hB hk hz hy hnew hn hroom fun v' w' h _ c _=>k v' w' h c
end
end
section
open Go
variable {P:Program}
structure KEnc (κ:Type) [DecidableEq κ] where
 f:κ→Value
 s:Bool
 ks:List CK
 eq_:∀a b,aBf s ks (f a) (f b)=some (decide (a=b))
 ok:∀a,aJh s ks (f a)=true
variable {κ β:Type} [DecidableEq κ] {E:KEnc κ} {fv:β→Value}
def aS (m:List (κ × β)) (k:κ):Option β:=(m.find? fun p=>decide (p.1=k)).map (·.2)
def fV (m:List (κ × β)) (k:κ) (v:β):List (κ × β):=
 match m with
 | []=> [(k,v)]
 |p::r=>if p.1=k then (k,v)::r else p::fV r k v
def lE (m:List (κ × β)) (k:κ):List (κ × β):=m.filter fun p=>decide (p.1≠k)
structure Wf (es:Array MapEntry) (clock:Nat):Prop where
 births:es.toList.Pairwise fun a b=>a.born<b.born
 lt:∀e∈es.toList,e.born<clock
def dB (E:KEnc κ) (fv:β→Value) (w:World) (r:Nat) (m:List (κ × β)):Prop:=
 ∃es clock,At w r (.map es clock)∧Wf es clock∧es.toList.map (fun e=>(e.key,e.val))=m.map (fun p=>(E.f p.1,fv p.2))∧(m.map (·.1)).Nodup
theorem dB.chg {l:List Nat} {w w':World} {r:Nat} {m:List (κ × β)} (hc:Chg l w w') (h:dB E fv w r m) (hr:r∉l):dB E fv w' r m:=by
 obtain ⟨es,clock,h1,h2⟩:=h;exact ⟨es,clock,h1.chg hc hr,h2⟩
theorem dB.ext {w w':World} {r:Nat} {m:List (κ × β)} (hc:Ext w w') (h:dB E fv w r m):dB E fv w' r m:=h.chg hc (by simp)
theorem dB.lt {w:World} {r:Nat} {m:List (κ × β)} (h:dB E fv w r m):r<w.heap.size:=by obtain ⟨es,clock,h1,_⟩:=h;exact h1.lt
theorem dB.nodup {w:World} {r:Nat} {m:List (κ × β)} (h:dB E fv w r m):(m.map (·.1)).Nodup:=by obtain ⟨es,clock,_,_,_,h1⟩:=h;exact h1
theorem dB.new (w:World):dB E fv (w.alloc (.map #[] 0)) w.heap.size []:=⟨#[],0,At.new w _,⟨by simp,by simp⟩,rfl,by simp⟩
theorem sI (k:κ):∀(es:List MapEntry) (m:List (κ × β)) (i:Nat),es.map (fun e=>(e.key,e.val))=m.map (fun p=>(E.f p.1,fv p.2))→
  kC E.s E.ks (E.f k) es i=some ((m.findIdx? fun p=>decide (p.1=k)).bind fun j=>(m[j]?).map fun p=>(i+j,fv p.2))
 | [], [],i,_=>rfl
 |e::es,p::m,i,h=>by
  simp only [List.map_cons,List.cons.injEq,Prod.mk.injEq] at h
  obtain ⟨⟨hk,hv⟩,h⟩:=h
  simp only [kC,hk,E.eq_]
  by_cases hp:p.1=k
  ·grind
  ·have hp':¬(k=p.1):=fun e=>hp e.symm
   simp only [hp',decide_false]
   rw [sI k es m (i+1) h]
   simp only [List.findIdx?_cons,hp,decide_false,Bool.false_eq_true,if_false]
   cases m.findIdx? (fun p=>decide (p.1=k)) with
   |none=>rfl
   |some j=>grind
 | [],_::_,_,h=>by grind
 |_::_, [],_,h=>by grind
theorem tQ (m:List (κ × β)) (k:κ):aS m k=(m.findIdx? fun p=>decide (p.1=k)).bind fun j=>(m[j]?).map (·.2):=by
 unfold aS
 induction m with
 |nil=>rfl
 |cons p m ih=>
  by_cases hp:p.1=k
  ·grind
  ·simp only [List.find?_cons,hp,decide_false,List.findIdx?_cons,Bool.false_eq_true,if_false]
   rw [ih]
   cases m.findIdx? (fun p=>decide (p.1=k))<;>simp
section
variable {d:Option Tmp} {r:KR} {K:Env→World→Prop} {ρ:Env} {w:World}
theorem aR0 {s:Bool} {ks:List CK} {z:Value} {ok:Bool} {m x:Operand} {b:Nat} {l:List (κ × β)} {k:κ} (hm:ev ρ m=.map (some b)) (hx:ev ρ x=E.f k) (hM:dB E fv w b l) (hs:s=E.s) (hks:ks=E.ks):
  (KOp.lookup s ks z ok m x).rd ρ w=some (match aS l k with
   |some v=>if ok then .tuple #[fv v,.bool true] else fv v
   |none=>if ok then .tuple #[z,.bool false] else z):=by
 subst hs hks
 obtain ⟨es,clock,hat,_,heq,_⟩:=hM
 have hf:=sI (E:=E) (fv:=fv) k es.toList l 0 heq
 unfold At at hat
 simp only [KOp.rd,hx,E.ok,if_true,hm,hat,hf,Option.map_some,tQ]
 cases hi:l.findIdx? (fun p=>decide (p.1=k)) with
 |none=>rfl
 |some j=>
  grind
theorem eQ {s:Bool} {ks:List CK} {z:Value} {m x:Operand} {b:Nat} {l:List (κ × β)} {k:κ} (hm:ev ρ m=.map (some b)) (hx:ev ρ x=E.f k) (hM:dB E fv w b l) (hs:s=E.s) (hks:ks=E.ks)
  (k1:∀v,aS l k=some v→aH P r K (put ρ d (fv v)) w) (k2:aS l k=none→aH P r K (put ρ d z) w):aH P (.cons ⟨d,.lookup s ks z false m x,none⟩ r) K ρ w:=by
 have h:=aR0 (z:=z) (ok:=false) hm hx hM hs hks
 cases ha:aS l k with
 |none=>rw [ha] at h;exact fX (rA rfl h (k2 ha))
 |some v=>rw [ha] at h;exact fX (rA rfl h (k1 v ha))
theorem mV {s:Bool} {ks:List CK} {z:Value} {m x:Operand} {b:Nat} {l:List (κ × β)} {k:κ} (hm:ev ρ m=.map (some b)) (hx:ev ρ x=E.f k) (hM:dB E fv w b l) (hs:s=E.s) (hks:ks=E.ks)
  (k1:∀v,aS l k=some v→aH P r K (put ρ d (.tuple #[fv v,.bool true])) w) (k2:aS l k=none→aH P r K (put ρ d (.tuple #[z,.bool false])) w):aH P (.cons ⟨d,.lookup s ks z true m x,none⟩ r) K ρ w:=by
 have h:=aR0 (z:=z) (ok:=true) hm hx hM hs hks
 cases ha:aS l k with
 |none=>rw [ha] at h;exact fX (rA rfl h (k2 ha))
 |some v=>rw [ha] at h;exact fX (rA rfl h (k1 v ha))
theorem iX (k:∀b w',Ext w w'→dB E fv w' b []→w.heap.size≤b→aH P r K (put ρ d (.map (some b))) w'):aH P (.cons ⟨d,.makeMap,none⟩ r) K ρ w:=
 fX (k _ _ (Ext.alloc w _) (dB.new w) (Nat.le_refl _))
end
theorem aJq {α γ:Type} (f:α→γ):∀(l:List α) (i:Nat),(l.eraseIdx i).map f=(l.map f).eraseIdx i
 | [],_=>rfl
 |_::_,0=>rfl
 |x::l,i+1=>by simp [aJq f l i]
theorem qW {m:List (κ × β)} {k:κ} {v:β} (h:(m.findIdx? fun p=>decide (p.1=k))=none):fV m k v=m++ [(k,v)]:=by
 induction m with
 |nil=>rfl
 |cons p m ih=>
  rw [List.findIdx?_cons] at h
  by_cases hp:p.1=k
  ·simp_all
  ·simp only [hp,decide_false,Bool.false_eq_true,if_false,Option.map_eq_none_iff] at h
   grind [fV]
theorem sC {m:List (κ × β)} {k:κ} {v:β} {j:Nat} (h:(m.findIdx? fun p=>decide (p.1=k))=some j):fV m k v=m.set j (k,v):=by
 induction m generalizing j with
 |nil=>grind
 |cons p m ih=>
  rw [List.findIdx?_cons] at h
  by_cases hp:p.1=k
  ·grind [fV]
  ·simp only [hp,decide_false,Bool.false_eq_true,if_false,Option.map_eq_some_iff] at h
   obtain ⟨i,hi,rfl⟩:=h
   grind [fV]
theorem aMh {m:List (κ × β)} {k:κ} (h:(m.findIdx? fun p=>decide (p.1=k))=none):lE m k=m:=by
 rw [List.findIdx?_eq_none_iff] at h
 exact List.filter_eq_self.2 fun p hp=>by simp [*]
theorem aHf {m:List (κ × β)} {k:κ} {j:Nat} (hn:(m.map (·.1)).Nodup) (h:(m.findIdx? fun p=>decide (p.1=k))=some j):lE m k=m.eraseIdx j:=by
 induction m generalizing j with
 |nil=>grind
 |cons p m ih=>
  rw [List.findIdx?_cons] at h
  simp only [List.map_cons,List.nodup_cons] at hn
  by_cases hp:p.1=k
  ·simp [hp] at h;subst h
   simp only [lE,List.filter_cons,hp,ne_eq,not_true_eq_false,decide_false,Bool.false_eq_true,if_false,List.eraseIdx_cons_zero]
   grind [List.filter_eq_self]
  ·simp only [hp,decide_false,Bool.false_eq_true,if_false,Option.map_eq_some_iff] at h
   obtain ⟨i,hi,rfl⟩:=h
   grind [lE]
theorem aEd {m:List (κ × β)} {k:κ} {v:β} (hn:(m.map (·.1)).Nodup):((fV m k v).map (·.1)).Nodup:=by
 cases h:(m.findIdx? fun p=>decide (p.1=k)) with
 |none=>
  rw [qW h,List.map_append,List.nodup_append]
  grind
 |some j=>
  rw [sC h]
  obtain ⟨hj,hk,_⟩:=List.findIdx?_eq_some_iff_getElem.1 h
  have:(m.set j (k,v)).map (·.1)=m.map (·.1):=by
   apply List.ext_getElem
   ·simp
   ·grind
  simp [*]
theorem aV9 {es:Array MapEntry} {clock:Nat} (h:Wf es clock) (k v:Value):Wf (es.push {key:=k,val:=v,born:=clock}) (clock+1):=by
 refine ⟨?_,?_⟩
 ·rw [Array.toList_push,List.pairwise_append]
  exact ⟨h.births,by simp,fun a ha b hb=>by simp at hb;subst hb;exact h.lt a ha⟩
 ·intro e he
  rw [Array.toList_push,List.mem_append] at he
  rcases he with he|he
  ·have:=h.lt e he;omega
  simp_all
theorem aD4 {es:Array MapEntry} {clock:Nat} (h:Wf es clock) (i:Nat) (g:MapEntry→MapEntry) (hg:∀e,(g e).born=e.born):Wf (es.modify i g) clock:=by
 have hb:(es.modify i g).toList.map (·.born)=es.toList.map (·.born):=by
  apply List.ext_getElem
  ·simp
  ·grind
 refine ⟨?_,fun e he=>?_⟩
 ·have h1:(es.toList.map (·.born)).Pairwise (·<·):=List.pairwise_map.2 h.births
  grind
 ·have:e.born∈(es.modify i g).toList.map (·.born):=List.mem_map.2 ⟨e,he,rfl⟩
  rw [hb] at this
  obtain ⟨e',he',h2⟩:=List.mem_map.1 this
  have:=h.lt e' he'
  omega
theorem dB.put_ {w:World} {b:Nat} {l:List (κ × β)} (hM:dB E fv w b l) (k:κ) (v:β):∃es clock f,At w b (.map es clock)∧kC E.s E.ks (E.f k) es.toList 0=some f∧
  dB E fv (dY w b (.map (jD es clock (E.f k) (fv v) f).1 (jD es clock (E.f k) (fv v) f).2)) b (fV l k v):=by
 obtain ⟨es,clock,hat,hwf,heq,hn⟩:=hM
 refine ⟨es,clock,_,hat,sI (E:=E) (fv:=fv) k es.toList l 0 heq,?_⟩
 cases h:(l.findIdx? fun p=>decide (p.1=k)) with
 |none=>
  simp only [Option.bind_none,jD]
  refine ⟨_,_,hat.setObj,aV9 hwf _ _,?_,aEd hn⟩
  grind [qW]
 |some j=>
  obtain ⟨hj,hk,_⟩:=List.findIdx?_eq_some_iff_getElem.1 h
  simp only [Option.bind_some,List.getElem?_eq_getElem hj,Option.map_some,jD,Nat.zero_add]
  refine ⟨_,_,hat.setObj,aD4 hwf _ _ (fun _=>rfl),?_,aEd hn⟩
  rw [sC h]
  apply List.ext_getElem
  ·have:=congrArg List.length heq;grind
  ·intro i h1 h2
   have h3:i<es.toList.length:=by simpa using h1
   have h4:i<l.length:=by simpa using h2
   have h5:(es.toList.map (fun e=>(e.key,e.val)))[i]'(by simp [*])=(l.map (fun p=>(E.f p.1,fv p.2)))[i]'(by simp [*]):=by simp only [heq]
   grind
theorem dB.del_ {w:World} {b:Nat} {l:List (κ × β)} (hM:dB E fv w b l) (k:κ):∃es clock f,At w b (.map es clock)∧kC E.s E.ks (E.f k) es.toList 0=some f∧
  dB E fv (dY w b (.map (match f with|some (i,_)=>es.eraseIdxIfInBounds i|none=>es) clock)) b (lE l k):=by
 obtain ⟨es,clock,hat,hwf,heq,hn⟩:=hM
 refine ⟨es,clock,_,hat,sI (E:=E) (fv:=fv) k es.toList l 0 heq,?_⟩
 have hnd:((lE l k).map (·.1)).Nodup:=(List.Sublist.map Prod.fst List.filter_sublist).nodup hn
 cases h:(l.findIdx? fun p=>decide (p.1=k)) with
 |none=>
  simp only [Option.bind_none]
  exact ⟨_,_,hat.setObj,hwf,by grind [aMh],hnd⟩
 |some j=>
  obtain ⟨hj,hk,_⟩:=List.findIdx?_eq_some_iff_getElem.1 h
  simp only [Option.bind_some,List.getElem?_eq_getElem hj,Option.map_some,Nat.zero_add]
  have hjs:j<es.size:=by have:=congrArg List.length heq;simp at this;omega
  have he:(es.eraseIdxIfInBounds j).toList=es.toList.eraseIdx j:=by simp [Array.eraseIdxIfInBounds,hjs]
  refine ⟨_,_,hat.setObj,⟨?_,?_⟩,?_,hnd⟩
  ·rw [he];exact hwf.births.sublist (List.eraseIdx_sublist _ _)
  ·intro e hm;rw [he] at hm;exact hwf.lt e (List.mem_of_mem_eraseIdx hm)
  ·rw [he,aHf hn h,aJq,heq,aJq]
section
variable {d:Option Tmp} {r:KR} {K:Env→World→Prop} {ρ:Env} {w:World}
theorem eY {s:Bool} {ks:List CK} {m x y:Operand} {b:Nat} {l:List (κ × β)} {k:κ} {v:β} (hm:ev ρ m=.map (some b)) (hx:ev ρ x=E.f k) (hy:ev ρ y=fv v) (hM:dB E fv w b l) (hs:s=E.s) (hks:ks=E.ks)
  (kk:∀w',Chg [b] w w'→dB E fv w' b (fV l k v)→aH P r K (put ρ d undef) w'):aH P (.cons ⟨d,.mapUpdate s ks m x y,none⟩ r) K ρ w:=by
 subst hs hks
 obtain ⟨es,clock,f,hat,hf,hM'⟩:=hM.put_ k v
 refine fX ⟨b,es,clock,f,hm,hat,by rw [hx];exact E.ok k,by simp [*],?_⟩
 grind [Chg.setObj]
theorem aDv {s:Bool} {ks:List CK} {m x:Operand} {b:Nat} {l:List (κ × β)} {k:κ} (hm:ev ρ m=.map (some b)) (hx:ev ρ x=E.f k) (hM:dB E fv w b l) (hs:s=E.s) (hks:ks=E.ks)
  (kk:∀w',Chg [b] w w'→dB E fv w' b (lE l k)→aH P r K (put ρ d (.tuple #[])) w'):aH P (.cons ⟨d,.delete s ks m x,none⟩ r) K ρ w:=by
 subst hs hks
 obtain ⟨es,clock,f,hat,hf,hM'⟩:=hM.del_ k
 refine fX ⟨b,es,clock,f,hm,hat,by rw [hx];exact E.ok k,by simp [*],kk _ (Chg.setObj _ _ _) hM'⟩
end
def qH (E:KEnc κ) (fv:β→Value) (w:World) (b:Nat) (l:List (κ × β)) (k:κ) (st:Nat):Prop:=
 ∃es clock i,At w b (.map es clock)∧Wf es clock∧(∃h:i<es.size,es[i].born=st)∧(∀v:β,(es.modify i fun e=>{e with val:=fv v}).toList.map (fun e=>(e.key,e.val))=(fV l k v).map (fun p=>(E.f p.1,fv p.2)))∧(l.map (·.1)).Nodup
theorem qH.chg {s:List Nat} {w w':World} {b:Nat} {l:List (κ × β)} {k:κ} {st:Nat} (hc:Chg s w w') (h:qH E fv w b l k st) (hb:b∉s):qH E fv w' b l k st:=by
 obtain ⟨es,clock,i,h1,h2⟩:=h;exact ⟨es,clock,i,h1.chg hc hb,h2⟩
theorem qH.ext {w w':World} {b:Nat} {l:List (κ × β)} {k:κ} {st:Nat} (hc:Ext w w') (h:qH E fv w b l k st):qH E fv w' b l k st:=h.chg hc (by simp)
section
variable {d:Option Tmp} {r:KR} {K:Env→World→Prop} {ρ:Env} {w:World}
theorem aXu {s:Bool} {ks:List CK} {z:Value} {m x:Operand} {b:Nat} {l:List (κ × β)} {k:κ} (hm:ev ρ m=.map (some b)) (hx:ev ρ x=E.f k) (hM:dB E fv w b l) (hs:s=E.s) (hks:ks=E.ks)
  (kk:∀(st:Nat) w',Chg [b] w w'→qH E fv w' b l k st→aH P r K (put ρ d (.tuple #[match aS l k with|some v=>fv v|none=>z,.int .i64 (st:Int)])) w'):aH P (.cons ⟨d,.mapEntry s ks z m x,none⟩ r) K ρ w:=by
 subst hs hks
 obtain ⟨es,clock,hat,hwf,heq,hn⟩:=hM
 have hf:=sI (E:=E) (fv:=fv) k es.toList l 0 heq
 have hlen:es.size=l.length:=by have:=congrArg List.length heq;simpa using this
 refine fX ⟨b,es,clock,_,hm,hat,by rw [hx];exact E.ok k,by rw [hx];exact hf,?_⟩
 cases h:(l.findIdx? fun p=>decide (p.1=k)) with
 |none=>
  have hg:aS l k=none:=by rw [tQ,h];rfl
  rw [hg] at kk
  simp only [Option.bind_none]
  rw [hx]
  refine kk clock _ (Chg.setObj _ _ _) ⟨_,_,es.size,hat.setObj,aV9 hwf _ _,⟨by simp,by simp⟩,fun v=>?_,hn⟩
  rw [qW h,List.map_append,←heq]
  apply List.ext_getElem
  ·simp
  grind
 |some j=>
  obtain ⟨hj,hk,_⟩:=List.findIdx?_eq_some_iff_getElem.1 h
  have hjs:j<es.size:=by omega
  have hg:aS l k=some l[j].2:=by rw [tQ,h];simp [List.getElem?_eq_getElem hj]
  rw [hg] at kk
  simp only [Option.bind_some,List.getElem?_eq_getElem hj,Option.map_some,Nat.zero_add]
  rw [hx]
  have e1:(((es[j]?).map (·.born)).getD 0)=es[j].born:=by simp [Array.getElem?_eq_getElem hjs]
  rw [e1]
  refine kk es[j].born _ (Chg.setObj _ _ _) ⟨_,_,j,hat.setObj,aD4 hwf _ _ (fun _=>rfl),⟨by simp [*],by rw [Array.getElem_modify,if_pos rfl]⟩,fun v=>?_,hn⟩
  rw [sC h]
  apply List.ext_getElem
  ·simp [*]
  ·intro i h1 h2
   have h3:i<es.toList.length:=by simpa using h1
   have h4:i<l.length:=by simpa using h2
   have h5:(es.toList.map (fun e=>(e.key,e.val)))[i]'(by simpa using h3)=(l.map (fun p=>(E.f p.1,fv p.2)))[i]'(by simpa using h4):=by simp only [heq]
   simp only [List.getElem_map] at h5
   simp only [List.getElem_map,Array.getElem_toList,Array.getElem_modify,List.getElem_set] at h5 ⊢
   split
   ·rfl
   omega
theorem find_born {es:Array MapEntry} {clock i:Nat} (hw:Wf es clock) (hi:i<es.size) {n:Int} (hn:n=(es[i].born:Int)):es.findIdx? (fun e=>(e.born:Int)==n)=some i:=by
 subst hn
 rw [Array.findIdx?_eq_some_iff_getElem]
 refine ⟨hi,by simp,fun j hj=>?_⟩
 have:=List.pairwise_iff_getElem.1 hw.births j i (by grind) (by omega) hj
 grind
theorem aEz {m x y:Operand} {b:Nat} {l:List (κ × β)} {k:κ} {v:β} {st:Nat} {kd:IntKind} (hm:ev ρ m=.map (some b)) (hx:ev ρ x=.int kd (st:Int)) (hy:ev ρ y=fv v) (hM:qH E fv w b l k st)
  (kk:∀w',Chg [b] w w'→dB E fv w' b (fV l k v)→aH P r K (put ρ d undef) w'):aH P (.cons ⟨d,.entryStore m x y,none⟩ r) K ρ w:=by
 obtain ⟨es,clock,i,hat,hwf,⟨hi,hst⟩,hall,hn⟩:=hM
 refine fX ⟨b,es,clock,kd,st,i,hm,hat,hx,find_born hwf hi (by rw [hst]),?_⟩
 rw [hy]
 exact kk _ (Chg.setObj _ _ _) ⟨_,_,hat.setObj,aD4 hwf _ _ (fun _=>rfl),hall v,aEd hn⟩
end
def aDm (E:KEnc κ) (fv:β→Value) (w:World) (it b:Nat) (left:List (κ × β)):Prop:=
 ∃es clock seen,At w it (.mapIter (some b) clock seen clock)∧At w b (.map es clock)∧Wf es clock∧(es.toList.filter fun e=>!seen.contains e.born).map (fun e=>(e.key,e.val))=left.map (fun p=>(E.f p.1,fv p.2))
def aO1 (E:KEnc κ) (fv:β→Value) (w:World) (it b:Nat) (p:κ × β):Prop:=
 ∃es clock seen st e,At w it (.mapIter (some b) clock seen clock)∧At w b (.map es clock)∧seen.back? =some st∧es.find? (·.born==st)=some e∧e.key=E.f p.1∧e.val=fv p.2
theorem aDm.chg {s:List Nat} {w w':World} {it b:Nat} {l:List (κ × β)} (hc:Chg s w w') (h:aDm E fv w it b l) (h1:it∉s) (h2:b∉s):aDm E fv w' it b l:=by
 obtain ⟨es,clock,seen,a1,a2,r⟩:=h;exact ⟨es,clock,seen,a1.chg hc h1,a2.chg hc h2,r⟩
theorem aDm.ext {w w':World} {it b:Nat} {l:List (κ × β)} (hc:Ext w w') (h:aDm E fv w it b l):aDm E fv w' it b l:=h.chg hc (by simp) (by simp)
theorem aO1.ext {w w':World} {it b:Nat} {p:κ × β} (hc:Ext w w') (h:aO1 E fv w it b p):aO1 E fv w' it b p:=by
 obtain ⟨es,clock,seen,st,e,a1,a2,r⟩:=h;exact ⟨es,clock,seen,st,e,a1.ext hc,a2.ext hc,r⟩
section
variable {d:Option Tmp} {r:KR} {K:Env→World→Prop} {ρ:Env} {w:World}
theorem bKk {x:Operand} {b:Nat} {l:List (κ × β)} (hx:ev ρ x=.map (some b)) (hM:dB E fv w b l)
  (k:∀it w',Ext w w'→aDm E fv w' it b l→w.heap.size≤it→aH P r K (put ρ d (.pointer (some ⟨it,0,none⟩))) w'):aH P (.cons ⟨d,.rangeMap x,none⟩ r) K ρ w:=by
 obtain ⟨es,clock,hat,hwf,heq,hn⟩:=hM
 refine fX ⟨b,es,clock,hx,hat,k _ _ (Ext.alloc w _) ⟨es,clock,#[],At.new w _,hat.ext (Ext.alloc w _),hwf,?_⟩ (Nat.le_refl _)⟩
 grind [List.filter_eq_self]
theorem bMy {x:Operand} {it b:Nat} {left:List (κ × β)} (hx:ev ρ x=.pointer (some ⟨it,0,none⟩)) (h:aDm E fv w it b left)
  (k1:left= []→∀w',Ext w w'→aH P r K (put ρ d (.tuple #[.bool false])) w')
  (k2:∀a p c,left=a++p::c→∀w',Chg [it] w w'→aDm E fv w' it b (a++c)→aO1 E fv w' it b p→aH P r K (put ρ d (.tuple #[.bool true,E.f p.1,fv p.2])) w'):aH P (.cons ⟨d,.nextMap x,none⟩ r) K ρ w:=by
 obtain ⟨es,clock,seen,a1,a2,hwf,heq⟩:=h
 have hne:it≠b:=a1.ne a2 (by simp)
 refine fX ⟨it,b,clock,seen,clock,es,clock,hx,a1,a2,fun e he=>hwf.lt e (by simp [*]),rfl,?_,fun he w' hw'=>?_,fun e he w' hw'=>?_⟩
 ·by_cases h0:es.isEmpty=true
  ·simp [*]
  ·have:0<es.size:=by
    rcases Nat.eq_zero_or_pos es.size with h|h
    ·simp_all
    ·exact h
   exact .inr (.inr ⟨es[0],Array.getElem_mem this,hwf.lt _ (by simp)⟩)
 ·have hl:left= []:=by
   have h1:(es.toList.filter fun e=>!seen.contains e.born)= []:=by
    have:(es.filter fun e=>!seen.contains e.born)=#[]:=by simpa using he
    rw [←Array.toList_filter,this]
   rw [h1] at heq
   simpa using heq.symm
  refine k1 hl w' ?_
  rcases hw' with rfl|rfl
  ·exact Ext.refl _
  ·exact Ext.drew w
 ·have hx':Ext w w':=by
   rcases hw' with rfl|rfl
   ·exact Ext.refl _
   ·exact Ext.drew w
  have he':e∈es.toList.filter fun e=>!seen.contains e.born:=by rw [←Array.toList_filter];simpa using he
  obtain ⟨fa,fc,hfac⟩:=List.append_of_mem he'
  rw [hfac,List.map_append,List.map_cons] at heq
  obtain ⟨a,c',hleft,ha,hc'⟩:=List.map_eq_append_iff.1 heq.symm
  obtain ⟨p,c,rfl,hp,hc⟩:=List.map_eq_cons_iff.1 hc'
  simp only [Prod.mk.injEq] at hp
  have hnot:e.born∉seen:=by
   have:=(List.mem_filter.1 he').2
   simpa using this
  have hmem:e∈es.toList:=(List.mem_filter.1 he').1
  rw [←hp.1,←hp.2]
  have hnd:(es.toList.map (·.born)).Nodup:=by
   rw [List.nodup_iff_pairwise_ne,List.pairwise_map]
   exact hwf.births.imp fun h=>by omega
  have hfilter:(es.toList.filter fun e'=>!(seen.push e.born).contains e'.born)=fa++fc:=by
   have h1:(es.toList.filter fun e'=>!(seen.push e.born).contains e'.born)=(es.toList.filter fun e=>!seen.contains e.born).filter fun e'=>decide (e'.born≠e.born):=by
    rw [List.filter_filter]
    congr 1
    funext e'
    by_cases h2:e'.born=e.born<;>simp [h2,Bool.and_comm]
   rw [h1,hfac]
   have hnd2:((fa++e::fc).map (·.born)).Nodup:=by rw [←hfac];exact (List.Sublist.map _ List.filter_sublist).nodup hnd
   rw [List.map_append,List.map_cons,List.nodup_append] at hnd2
   obtain ⟨_,n2,n3⟩:=hnd2
   rw [List.nodup_cons] at n2
   rw [List.filter_append,List.filter_cons]
   simp only [ne_eq,not_true_eq_false,decide_false,Bool.false_eq_true,if_false]
   congr 1
   ·exact List.filter_eq_self.2 fun q hq=>by
     have:=n3 q.born (List.mem_map.2 ⟨q,hq,rfl⟩) e.born (by simp)
     simpa using this
   ·exact List.filter_eq_self.2 fun q hq=>by
     have:q.born≠e.born:=fun h=>n2.1 (List.mem_map.2 ⟨q,hq,h⟩)
     simpa using this
  have a1':At w' it (.mapIter (some b) clock seen clock):=a1.ext hx'
  have hc1:Chg [it] w (dY w' it (.mapIter (some b) clock (seen.push e.born) clock)):=hx'.chg (Chg.setObj w' it _)
  have b1:At (dY w' it (.mapIter (some b) clock (seen.push e.born) clock)) it (.mapIter (some b) clock (seen.push e.born) clock):=a1'.setObj
  have b2:At (dY w' it (.mapIter (some b) clock (seen.push e.born) clock)) b (.map es clock):=a2.chg hc1 (by simpa using hne.symm)
  refine k2 a p c hleft _ hc1 ⟨es,clock,seen.push e.born,b1,b2,hwf,?_⟩ ⟨es,clock,seen.push e.born,e.born,e,b1,b2,by simp,?_,hp.1.symm,hp.2.symm⟩
  ·rw [hfilter,List.map_append,←ha,←hc,List.map_append]
  ·rw [←Array.find?_toList,List.find?_eq_some_iff_append]
   refine ⟨by simp,?_⟩
   obtain ⟨p1,p2,hpp⟩:=List.append_of_mem hmem
   refine ⟨p1,p2,hpp,fun q hq=>?_⟩
   have hb:=hwf.births
   rw [hpp,List.pairwise_append] at hb
   have:=hb.2.2 q hq e (by simp)
   simp;omega
theorem bK8 {x:Operand} {it b:Nat} {p:κ × β} (hx:ev ρ x=.pointer (some ⟨it,0,none⟩)) (h:aO1 E fv w it b p) (k:aH P r K (put ρ d (.tuple #[E.f p.1,fv p.2])) w):aH P (.cons ⟨d,.entry x,none⟩ r) K ρ w:=by
 obtain ⟨es,clock,seen,st,e,a1,a2,hs,hf,h1,h2⟩:=h
 exact fX ⟨it,b,clock,seen,clock,st,es,e,hx,a1,hs,a2,hf,by simp [*]⟩
end
end
section
open Go
variable {P:Program}
def bFh (ρ:Env):List (Tmp × Value)→Env
 | []=>ρ
 |(t,v)::l=>upd (bFh ρ l) t v
def Has (ρ:Env):List (Tmp × Value)→Prop
 | []=>True
 |(t,v)::l=>ρ t=v∧Has ρ l
theorem aNb {ρ:Env}:∀{l:List (Tmp × Value)},Has ρ l→bFh ρ l=ρ
 | [],_=>rfl
 |(t,v)::l,h=>by
  simp only [bFh]
  rw [aNb h.2];exact aFo h.1
theorem least {p:Nat→Prop}:∀n,p n→∃m,p m∧∀k,p k→m≤k
 |n,h=>by
  by_cases hx:∃k,k<n∧p k
  ·obtain ⟨k,hk,hp⟩:=hx
   exact least k hp
  grind
theorem aJ {K:Exit→Env→World→Prop} {ρ:Env} {w:World} {a:KC} {σ:Type} (I:σ→World→Prop) (E:σ→List (Tmp × Value)) (μ:σ→Nat) (s0:σ) (h0:Has ρ (E s0)) (hI:I s0 w)
  (h:∀s ρ w,I s w→aM P a (aE3 (fun ρ' w'=>∃s',Has ρ' (E s')∧I s' w'∧μ s'<μ s) K) (bFh ρ (E s)) w):aM P (.loop a) K ρ w:=by
 have key:∀ρ w,∃m:Nat,(∃s,Has ρ (E s)∧I s w)→(∃s,Has ρ (E s)∧I s w∧μ s=m)∧∀s,Has ρ (E s)→I s w→m≤μ s:=by
  intro ρ w
  by_cases hx:∃s,Has ρ (E s)∧I s w
  ·obtain ⟨s,h1,h2⟩:=hx
   obtain ⟨m,hm,hl⟩:=least (p:=fun n=>∃s,Has ρ (E s)∧I s w∧μ s=n) _ ⟨s,h1,h2,rfl⟩
   exact ⟨m,fun _=>⟨hm,fun s h1 h2=>hl _ ⟨s,h1,h2,rfl⟩⟩⟩
  ·simp [*]
 refine bQi (fun ρ w=>∃s,Has ρ (E s)∧I s w) (fun ρ w=>Classical.choose (key ρ w)) ⟨s0,h0,hI⟩ ?_
 intro ρ w hs
 obtain ⟨⟨s,h1,h2,h3⟩,_⟩:=Classical.choose_spec (key ρ w) hs
 have:=h s ρ w h2
 rw [aNb h1] at this
 refine gC a (fun e ρ' w' he=>?_) this
 cases e with
 |normal=>
  simp only [aE3] at he ⊢
  obtain ⟨s',g1,g2,g3⟩:=he
  refine ⟨⟨s',g1,g2⟩,?_⟩
  have:=(Classical.choose_spec (key ρ' w') ⟨s',g1,g2⟩).2 s' g1 g2
  omega
 |_=>simpa only [aE3] using he
theorem rH {K:Exit→Env→World→Prop} {ρ:Env} {w:World} {a b:KC} {σ:Type} (J:σ→World→Prop) (E:σ→List (Tmp × Value))
  (h:aM P a (aE3 (fun ρ' w'=>∃s,Has ρ' (E s)∧J s w') K) ρ w) (h2:∀s ρ w,J s w→aM P b K (bFh ρ (E s)) w):aM P (.seq a b) K ρ w:=
 bQx (fun ρ w=>∃s,Has ρ (E s)∧J s w) h fun ρ w ⟨s,h1,h3⟩=>by have:=h2 s ρ w h3;grind [aNb]
theorem bA {ρ:Env} {w:World} {n c:Nat} {ad:Addr} {cs:List Value} (r:Row w ad cs) (hc:ρ c=.pointer (some ad)) (hn:cs.length=n):aFv ρ w (.cellN n c)=some (.agg cs.toArray):=by
 simp only [aFv,hc]
 rw [r.r0 (n:=n) (l:=cs) (by omega) (by rw [←hn,List.take_length])];rfl
theorem bI {ρ:Env} {w:World} {t:Nat}:aFv ρ w (.tmp t)=some (ρ t):=rfl
theorem aEo {ρ:Env} {w:World} {x:RV} {a:Value} (h:aFv ρ w x=some a):aBc ρ w [x]=some a:=h
theorem iY {ρ:Env} {w:World} {x y:RV} {a b:Value} (h1:aFv ρ w x=some a) (h2:aFv ρ w y=some b):aBc ρ w [x,y]=some (.tuple #[a,b]):=by simp [aBc,aCk,h1,h2]
theorem bJd {ρ:Env} {w:World} {x y z:RV} {a b c:Value} (h1:aFv ρ w x=some a) (h2:aFv ρ w y=some b) (h3:aFv ρ w z=some c):aBc ρ w [x,y,z]=some (.tuple #[a,b,c]):=by simp [aBc,aCk,h1,h2,h3]
section
variable {d:Option Tmp} {r:KR} {K:Env→World→Prop} {ρ:Env} {w:World}
theorem dF {op:BinOp} {x y:Operand} {a b v:Value} (hx:ev ρ x=a) (hy:ev ρ y=b) (h:bM op a b=some v) (k:aH P r K (put ρ d v) w):aH P (.cons ⟨d,.bin op x y,none⟩ r) K ρ w:=
 cS rfl (by grind [KOp.fix]) k
theorem bQr {x y:Operand} {a b:ByteArray} (hx:ev ρ x=.string a) (hy:ev ρ y=.string b) (h:a.size+b.size≤9223372036854775807) (k:aH P r K (put ρ d (.string (a++b))) w):aH P (.cons ⟨d,.bin .add x y,none⟩ r) K ρ w:=
 dF hx hy (by simp only [bM,bCa];rw [if_neg (by have:IntKind.i64.max=9223372036854775807:=rfl;omega)]) k
theorem aNp {x h:Operand} {s:ByteArray} {kd:IntKind} {n:Int} (hx:ev ρ x=.string s) (hh:ev ρ h=.int kd n) (hr:0≤n∧n≤(s.size:Int)) (k:aH P r K (put ρ d (.string (s.extract 0 n.toNat))) w):aH P (.cons ⟨d,.sliceStr x none (some h),none⟩ r) K ρ w:=
 cS rfl (by grind [KOp.fix]) k
theorem bLd {x y:Operand} {a b:Int} (hx:ev ρ x=.int .i64 a) (hy:ev ρ y=.int .i64 b) (k:aH P r K (put ρ d (.int .i64 (min a b))) w):aH P (.cons ⟨d,.minmax false x [y],none⟩ r) K ρ w:=
 cS rfl (by
  have e:(if b<a then b else a)=min a b:=by split<;>omega
  simp only [KOp.fix,List.foldl_cons,List.foldl_nil,hx,hy,Option.bind_some,wC,Bool.false_eq_true,if_false,e]) k
theorem bIr {α:Type} {E:Enc α} {size:Nat} {x h:Operand} {v:Value} {l:List α} {kd:IntKind} {n:Nat} {w1:World} (hx:ev ρ x=v) (hh:ev ρ h=.int kd (n:Nat)) (hs:SlE E w1 v l) (hn:n≤l.length) (hk:size=E.k)
  (k:∀v',SlE E w1 v' (l.take n)→(∀b∈aC v',b∈aC v)→aH P r K (put ρ d v') w):aH P (.cons ⟨d,.sliceSl size x none (some h),none⟩ r) K ρ w:=by
 subst hk
 obtain ⟨hl,base,cap,rfl,hc,hr⟩:=hs
 have h2:=SlE.cut (E:=E) (lo:=0) (hi:=n) ⟨hl,base,cap,rfl,hc,hr⟩ (Nat.zero_le _) hn (cap - 0) (by omega)
 refine cS rfl (v:=.slice (if cap=0 then base else base.map fun ad:Addr=>ad.add (0*E.k)) (n - 0) (cap - 0)) ?_ (k _ (by simp_all) ?_)
 ·simp only [KOp.fix,hx,hh,Option.bind_some,Option.map_some]
  grind
 ·intro b hb
  cases base with
  |none=>simp [aC] at hb
  |some a=>split at hb<;>simpa [aC,add_zero] using hb
theorem bI1 {x:Operand} {v:Value} {a:Option Addr} {n c:Nat} {bs:List UInt8} (hx:ev ρ x=v) (hv:v=.slice a n c) (h:cV w 1 v=some (n,bs.map fun b:UInt8=>Value.int .u8 b.toNat)) (k:aH P r K (put ρ d (.string ⟨bs.toArray⟩)) w):aH P (.cons ⟨d,.strOf x,none⟩ r) K ρ w:=
 fX ⟨a,n,c,bs,by rw [hx,hv],by simp_all,k⟩
theorem dR {b n k:Nat} {cs:List Value} {t:TypeId} (h:At w b (.cells cs.toArray t (0,0))) (hl:cs.length=n*k):cV w k (.slice (some ⟨b,0,none⟩) n n)=some (n,cs):=
 Sl.cells ⟨hl,_,_,rfl,Nat.le_refl _,fun _=>⟨_,rfl,Row.of_at h⟩⟩
theorem gQ {vs:List Value} (h:vs.all (fun v=>v.oneCell')=true):∀v∈vs,v.oneCell'=true:=fun v hv=>List.all_eq_true.1 h v hv
theorem bJi {t:TypeId} {z vs:List Value} {d':Tmp} {n:Nat} {y:Operand} (hy:∀p,ev (upd ρ d' p) y=.agg vs.toArray) (hn:vs.length=n) (hz:z.length=n) (h1:vs.all (fun v=>v.oneCell')=true)
  (k:∀b w',Ext w w'→At w' b (.cells vs.toArray t (0,0))→Row w' ⟨b,0,none⟩ vs→w.heap.size≤b→aH P r K (put ρ (some d') (.pointer (some ⟨b,0,none⟩))) w'):
  aH P (.cons ⟨some d',.alloc t z,none⟩ (.cons ⟨none,.storeN n (.tmp d') y,none⟩ r)) K ρ w:=
 aDj fun b w1 x1 a1 hb=>cE (by simp [ev,put,upd]) (hy _) hn (gQ h1) a1 hz fun w2 c2 a2=>
  k b w2 ((x1.chg c2).mono (by grind)) a2 (Row.of_at a2) hb
theorem bBy {t1 t2:TypeId} {z1 z2 vs1 vs2:List Value} {d1 d2:Tmp} {n1 n2:Nat} {y1 y2:Operand} (hne:Nat.beq d1 d2=false) (hy1:∀p q,ev (upd (upd ρ d1 p) d2 q) y1=.agg vs1.toArray) (hy2:∀p q,ev (upd (upd ρ d1 p) d2 q) y2=.agg vs2.toArray)
  (hn1:vs1.length=n1) (hn2:vs2.length=n2) (hz1:z1.length=n1) (hz2:z2.length=n2) (h1:vs1.all (fun v=>v.oneCell')=true) (h2:vs2.all (fun v=>v.oneCell')=true)
  (k:∀b1 b2 w',Ext w w'→Row w' ⟨b1,0,none⟩ vs1→Row w' ⟨b2,0,none⟩ vs2→w.heap.size≤b1→w.heap.size≤b2→aH P r K (put (put ρ (some d1) (.pointer (some ⟨b1,0,none⟩))) (some d2) (.pointer (some ⟨b2,0,none⟩))) w'):
  aH P (.cons ⟨some d1,.alloc t1 z1,none⟩ (.cons ⟨some d2,.alloc t2 z2,none⟩ (.cons ⟨none,.storeN n1 (.tmp d1) y1,none⟩ (.cons ⟨none,.storeN n2 (.tmp d2) y2,none⟩ r)))) K ρ w:=
 aDj fun b1 w1 x1 a1 hb1=>aDj fun b2 w2 x2 a2 hb2=>by
  have hd:d1≠d2:=fun h=>by simp_all
  have hlt:=a1.lt
  have hs:=x1.size
  refine cE (by simp [ev,put,upd,hd]) (hy1 _ _) hn1 (gQ h1) (a1.ext x2) hz1 fun w3 c3 a3=>?_
  refine cE (by simp [ev,put,upd]) (hy2 _ _) hn2 (gQ h2) (a2.chg c3 (by simp;omega)) hz2 fun w4 c4 a4=>?_
  exact k b1 b2 w4 (((x1.trans x2).chg (c3.trans c4)).mono (by intro b hb;simp at hb ⊢;omega)) (Row.of_at (a3.chg c4 (by simp;omega))) (Row.of_at a4) hb1 (by omega)
theorem aW {w0:World} {n:Nat} {x y:Operand} {b:Nat} {t:TypeId} {cur vs:List Value} (x0:Ext w0 w) (hb:w0.heap.size≤b) (h:At w b (.cells cur.toArray t (0,0))) (hx:ev ρ x=.pointer (some ⟨b,0,none⟩)) (hy:ev ρ y=.agg vs.toArray) (hn:vs.length=n) (hl:cur.length=n) (h1:vs.all (fun v=>v.oneCell')=true)
  (k:∀w',Ext w0 w'→Chg [b] w w'→At w' b (.cells vs.toArray t (0,0))→Row w' ⟨b,0,none⟩ vs→aH P r K (put ρ d undef) w'):aH P (.cons ⟨d,.storeN n x y,none⟩ r) K ρ w:=
 cE hx hy hn (gQ h1) h hl fun w2 c2 a2=>k w2 ((x0.chg c2).mono (by grind)) c2 a2 (Row.of_at a2)
theorem SlE.new {α:Type} {E:Enc α} {b n c:Nat} {l:List α} {t:TypeId} (h:At w b (.cells (E.flat l).toArray t (0,0))) (hl:n=l.length) (hc:n≤c):SlE E w (.slice (some ⟨b,0,none⟩) n c) l:=by
 subst hl
 exact ⟨E.flat_length l,_,_,rfl,hc,fun _=>⟨_,rfl,Row.of_at h⟩⟩
end
end
section
open Go
variable {P:Program}
inductive All2 {α β:Type} (r:α→β→Prop):List α→List β→Prop
 |nil:All2 r [] []
 |cons {a b az bs}:r a b→All2 r az bs→All2 r (a::az) (b::bs)
section
variable {α β:Type} {r:α→β→Prop}
theorem All2.length:∀{l:List α} {m:List β},All2 r l m→l.length=m.length
 |_,_,.nil=>rfl
 |_,_,.cons _ h=>by simp [h.length]
theorem All2.mono {r':α→β→Prop} (hr:∀a b,r a b→r' a b):∀{l:List α} {m:List β},All2 r l m→All2 r' l m
 |_,_,.nil=>.nil
 |_,_,.cons h t=>.cons (hr _ _ h) (t.mono hr)
theorem All2.append:∀{l l':List α} {m m':List β},All2 r l m→All2 r l' m'→All2 r (l++l') (m++m')
 |_,_,_,_,.nil,h=>h
 |_,_,_,_,.cons h t,h'=>.cons h (t.append h')
theorem All2.get:∀{l:List α} {m:List β},All2 r l m→∀(i:Nat) (h:i<l.length) (h':i<m.length),r l[i] m[i]
 |_,_,.cons h _,0,_,_=>h
 |_,_,.cons _ t,i+1,h,h'=>t.get i (by simp_all) (by simp_all)
theorem All2.take:∀{l:List α} {m:List β} (n:Nat),All2 r l m→All2 r (l.take n) (m.take n)
 |_,_,0,_=>by simpa using All2.nil
 |_,_,_+1,.nil=>by simpa using All2.nil
 |_,_,n+1,.cons h t=>by simpa using All2.cons h (t.take n)
theorem All2.drop:∀{l:List α} {m:List β} (n:Nat),All2 r l m→All2 r (l.drop n) (m.drop n)
 |_,_,0,h=>by simp [*]
 |_,_,_+1,.nil=>by simpa using All2.nil
 |_,_,n+1,.cons _ t=>by simpa using t.drop n
theorem All2.right_nil {l:List α} (h:All2 r l []):l= []:=by cases h;rfl
theorem All2.split:∀{l l':List α} {m:List β},All2 r (l++l') m→∃m1 m2,m=m1++m2∧All2 r l m1∧All2 r l' m2
 | [],_,m,h=>⟨[],m,rfl,.nil,h⟩
 |_::_,_,_,.cons h t=>by
  obtain ⟨m1,m2,rfl,h1,h2⟩:=t.split
  exact ⟨_::m1,m2,rfl,.cons h h1,h2⟩
end
structure R (α:Type) where
 k:Nat
 pos:0<k
 ag:Bool
 rel:List Nat→World→List Value→α→Prop
 len:∀{M w cs x},rel M w cs x→cs.length=k
 one:∀{M w cs x},rel M w cs x→∀v∈cs,v.oneCell'=true
 step:∀{M M' L w w' cs x},rel M w cs x→Chg L w w'→(∀b∈L,b∈M∨w.heap.size≤b)→(∀b∈M',b∈M∨w.heap.size≤b)→rel M' w' cs x
def R.val {α:Type} (E:R α) (cs:List Value):Value:=if E.ag then .agg cs.toArray else cs.headD undef
def Vec (k:Nat):={cs:List Value // cs.length=k∧∀v∈cs,v.oneCell'=true}
def jM (k:Nat) (hk:0<k):Enc (Vec k):=⟨fun c=>c.1,k,fun c=>c.2.1,hk,fun c=>c.2.2⟩
variable {α:Type} {E:R α} {M M' L:List Nat} {w w':World}
theorem R.ext {cs:List Value} {x:α} (h:E.rel M w cs x) (c:Ext w w'):E.rel M w' cs x:=E.step h c (by simp) (fun _ h=>.inl h)
def R.vec {cs:List Value} {x:α} (h:E.rel M w cs x):Vec E.k:=⟨cs,E.len h,E.one h⟩
def R.flat (E:Enc α) (ag:Bool):R α where
 k:=E.k
 pos:=E.pos
 ag:=ag
 rel:=fun _ _ cs x=>cs=E.f x
 len:=fun h=>by rw [h];exact E.len _
 one:=fun h=>by rw [h];exact E.one _
 step:=fun h _ _ _=>h
def R.all (E:R α) (M:List Nat) (w:World) (css:List (Vec E.k)) (l:List α):Prop:=All2 (fun c x=>E.rel M w c.1 x) css l
def SlR (E:R α) (M:List Nat) (w:World) (v:Value) (l:List α):Prop:=
 ∃css,SlE (jM E.k E.pos) w v css∧E.all M w css l∧(0<l.length→∀b∈aC v,b∉M)
section
variable {v:Value} {l:List α}
theorem SlR.form (h:SlR E M w v l):∃base cap,v=.slice base l.length cap:=by
 obtain ⟨css,h1,h2,_⟩:=h
 obtain ⟨base,cap,rfl⟩:=h1.form
 exact ⟨base,cap,by rw [h2.length]⟩
theorem SlE.anyw {F:Enc α} (h:SlE F w v []):SlE F w' v []:=by
 obtain ⟨h1,base,cap,hv,hc,_⟩:=h
 exact ⟨h1,base,cap,hv,hc,fun hp=>by simp_all⟩
theorem SlE.blk_lt {F:Enc α} (h:SlE F w v l) (hp:0<l.length):∀b∈aC v,b<w.heap.size:=by
 obtain ⟨h1,base,cap,rfl,hc,h2⟩:=h
 have hk:=F.pos
 have hpos:0<(F.flat l).length:=by rw [F.flat_length];exact Nat.mul_pos hp hk
 obtain ⟨a,rfl,hr⟩:=h2 hpos
 intro b hb
 simp only [aC,List.mem_singleton] at hb
 subst hb
 have:=cell_lt (hr 0 _ (List.getElem?_eq_getElem hpos))
 rwa [add_block] at this
theorem SlR.blk_lt (h:SlR E M w v l) (hp:0<l.length):∀b∈aC v,b<w.heap.size:=by
 obtain ⟨css,h1,h2,_⟩:=h
 exact h1.blk_lt (by rw [h2.length];exact hp)
theorem SlR.step (h:SlR E M w v l) (c:Chg L w w') (hL:∀b∈L,b∈M∨w.heap.size≤b) (hM:∀b∈M',b∈M∨w.heap.size≤b):SlR E M' w' v l:=by
 have hlt:=h.blk_lt
 obtain ⟨css,h1,h2,h3⟩:=h
 refine ⟨css,?_,h2.mono fun _ _ hr=>E.step hr c hL hM,fun hp b hb hm=>?_⟩
 ·by_cases hp:0<l.length
  ·refine h1.chg c fun a m k hv hm=>?_
   grind [aC]
  ·have hl:l= []:=List.length_eq_zero_iff.1 (by omega)
   subst hl
   have:=h2.right_nil
   subst this
   exact h1.anyw
 grind
theorem SlR.ext (h:SlR E M w v l) (c:Ext w w'):SlR E M w' v l:=h.step c (by simp) (fun _ h=>.inl h)
theorem SlR.sub (h:SlR E M w v l) (hm:∀b∈M',b∈M∨w.heap.size≤b):SlR E M' w v l:=h.step (Chg.refl [] w) (by simp) hm
theorem SlR.nil (M:List Nat) (w:World):SlR E M w (.slice none 0 0) []:=⟨[],SlE.nil w,.nil,fun h=>by grind⟩
def Enc.vec (F:Enc α) (x:α):Vec F.k:=⟨F.f x,F.len x,F.one x⟩
theorem xY (F:Enc α):∀l:List α,(jM F.k F.pos).flat (l.map F.vec)=F.flat l
 | []=>rfl
 |x::l=>by
  have:=xY F l
  simp only [Enc.flat,List.map_cons,List.flatMap_cons] at this ⊢
  rw [this];rfl
theorem SlE.toR {F:Enc α} {ag:Bool} (h:SlE F w v l) (hb:∀b∈aC v,b∉M):SlR (R.flat F ag) M w v l:=by
 refine ⟨l.map F.vec,?_,?_,fun _=>hb⟩
 ·show Sl w F.k v (l.map F.vec).length ((jM F.k F.pos).flat (l.map F.vec))
  rw [xY,List.length_map];exact h
 ·clear h
  induction l with
  |nil=>exact .nil
  |cons x l ih=>exact .cons rfl ih
theorem SlR.toE {F:Enc α} {ag:Bool} (h:SlR (R.flat F ag) M w v l):SlE F w v l:=by
 obtain ⟨css,h1,h2, -⟩:=h
 have e:css=l.map F.vec:=by
  clear h1
  induction h2 with
  |nil=>rfl
  |cons hx _ ih=>rw [ih,List.map_cons];congr 1;exact Subtype.ext hx
 subst e
 have h3:Sl w F.k v (l.map F.vec).length ((jM F.k F.pos).flat (l.map F.vec)):=h1
 rw [xY,List.length_map] at h3
 exact h3
theorem SlR.cells (h:SlR E M w v l):∃css,cV w E.k v=some (l.length,(jM E.k E.pos).flat css)∧E.all M w css l:=by
 obtain ⟨css,h1,h2,_⟩:=h
 exact ⟨css,by have:=h1.cells;rw [h2.length] at this;exact this,h2⟩
theorem SlR.cut {base:Option Addr} {n cap:Nat} (h:SlR E M w (.slice base n cap) l) {lo hi:Nat} (h1:lo≤hi) (h2:hi≤l.length) (c2:Nat) (hc2:hi - lo≤c2):
  SlR E M w (.slice (if cap=lo then base else base.map fun ad:Addr=>ad.add (lo*E.k)) (hi - lo) c2) ((l.drop lo).take (hi - lo)):=by
 obtain ⟨css,g1,g2,g3⟩:=h
 refine ⟨_,g1.cut h1 (by rw [g2.length];exact h2) c2 hc2,(g2.drop lo).take _,fun hp b hb=>?_⟩
 simp only [List.length_take,List.length_drop] at hp
 refine g3 (by omega) b ?_
 cases base with
 |none=>simp [aC] at hb
 |some a=>split at hb<;>simpa [aC,add_block] using hb
end
section
variable {d:Option Tmp} {r:KR} {K:Env→World→Prop} {ρ:Env} {v:Value} {l:List α}
theorem aU6 {x:Operand} (hx:ev ρ x=v) (hs:SlR E M w v l) (k:aH P r K (put ρ d (.int .i64 (l.length:Nat))) w):aH P (.cons ⟨d,.len false x,none⟩ r) K ρ w:=by
 obtain ⟨base,cap,rfl⟩:=hs.form
 exact cS rfl (by simp [KOp.fix,hx]) k
theorem aR {size:Nat} {x i:Operand} {kd:IntKind} {n:Nat} (hx:ev ρ x=v) (hi:ev ρ i=.int kd (n:Nat)) (hs:SlR E M w v l) (hk:size=E.k) (hr:n<l.length)
  (k:∀ad cs,Row w ad cs→E.rel M w cs l[n]→aH P r K (put ρ d (.pointer (some ad))) w):aH P (.cons ⟨d,.indexAddr size x i,none⟩ r) K ρ w:=by
 obtain ⟨css,h1,h2,_⟩:=hs
 have hr':n<css.length:=by rw [h2.length];exact hr
 exact aT (E:=jM E.k E.pos) hx hi h1 hk hr' fun ad hrow=>k ad _ hrow (h2.get n hr' hr)
end
def bH (E:R α) (t:TypeId) (B:Nat) (M:List Nat) (w:World) (v:Value) (l:List α):Prop:=
 ∃css,Own (jM E.k E.pos) t B w v css∧E.all (aC v++M) w css l
section
variable {t:TypeId} {B:Nat} {v:Value} {l:List α}
theorem bH.nil (t:TypeId) (B:Nat) (M:List Nat) (w:World):bH E t B M w (.slice none 0 0) []:=⟨[],Own.nil t B w,.nil⟩
theorem bH.base (h:bH E t B M w v l):∀b∈aC v,B≤b:=by obtain ⟨_,h1,_⟩:=h;exact h1.base
theorem bH.lt (h:bH E t B M w v l):∀b∈aC v,b<w.heap.size:=by
 obtain ⟨_,h1,_⟩:=h
 rcases h1 with ⟨rfl,rfl⟩|⟨b,cap,junk,rfl,hB,hat,hl⟩<;>simp [aC]
 exact hat.lt
theorem bH.sl (h:bH E t B M w v l) (hM:∀b∈M,b∉aC v):SlR E M w v l:=by
 obtain ⟨css,h1,h2⟩:=h
 exact ⟨css,h1.sl,h2.mono fun _ _ hr=>E.step hr (Chg.refl [] w) (by simp) (fun b hb=>.inl (by grind)),fun _ b hb hm=>hM b hm hb⟩
theorem bH.slB (h:bH E t B M w v l) (hM:∀b∈M,b<B):SlR E M w v l:=h.sl fun b hb hv=>by have:=hM b hb;have:=h.base b hv;omega
theorem bH.step (h:bH E t B M w v l) (c:Chg L w w') (hL:∀b∈L,b∉aC v∧(b∈M∨w.heap.size≤b)) (hM:∀b∈M',b∈M∨w.heap.size≤b):bH E t B M' w' v l:=by
 obtain ⟨css,h1,h2⟩:=h
 refine ⟨css,h1.chg c fun b hb hl=>(hL b hl).1 hb,h2.mono fun _ _ hr=>E.step hr c (fun b hb=>?_) fun b hb=>?_⟩
 ·simp [*]
 grind
theorem bH.ext (h:bH E t B M w v l) (c:Ext w w'):bH E t B M w' v l:=h.step c (by simp) (fun _ h=>.inl h)
theorem bH.lower {B':Nat} (h:bH E t B M w v l) (hb:B'≤B):bH E t B' M w v l:=by
 obtain ⟨css,h1,h2⟩:=h;exact ⟨css,h1.lower hb,h2⟩
end
section
variable {d:Option Tmp} {r:KR} {K:Env→World→Prop} {ρ:Env} {v:Value} {l l2:List α} {t:TypeId} {B:Nat}
theorem aK9 {size bytes:Nat} {zero:List Value} {x y:Operand} {n:Nat} {new:List Value} {css:List (Vec E.k)} (hx:ev ρ x=v) (ho:bH E t B M w v l) (hB:B≤w.heap.size) (hk:size=E.k) (hz:zero.length=E.k)
  (hy:cV w E.k (ev ρ y)=some (n,new)) (hnew:new=(jM E.k E.pos).flat css) (ha:E.all (aC v++M) w css l2) (hn:n=l2.length) (hroom:(l.length+l2.length)*bytes≤2^47)
  (k:∀v' w',bH E t B M w' v' (l++l2)→((∀b∈M,b∉aC v)→SlR E M w' v l)→Chg (aC v) w w'→(∀b∈aC v',b∈aC v∨w.heap.size≤b)→aH P r K (put ρ d v') w'):aH P (.cons ⟨d,.append t size bytes zero x y,none⟩ r) K ρ w:=by
 subst hk
 obtain ⟨cs0,h1,h2⟩:=ho
 refine jY (E:=jM E.k E.pos) hx h1 hB rfl hz hy hnew (by rw [hn,ha.length]) (by rw [h2.length,ha.length];omega) fun v' w' h3 h0 c hb=>?_
 refine k v' w' ⟨cs0++css,h3,?_⟩ (fun hM=>⟨cs0,h0,h2.mono fun _ _ hr=>E.step hr c (fun b hb=>.inl (by simp [hb])) (fun b hb=>.inl (by simp [hb])),fun _ b hb hm=>hM b hm hb⟩) c hb
 refine (h2.append ha).mono fun _ _ hr=>E.step hr c (fun b hb=>.inl (by simp [hb])) fun b h4=>?_
 rcases List.mem_append.1 h4 with h5|h5
 ·rcases hb b h5 with h6|h6
  ·exact .inl (by simp [h6])
  omega
 ·exact .inl (by simp [h5])
theorem aAo {size bytes:Nat} {zero:List Value} {x y:Operand} {n:Nat} {new:List Value} {css:List (Vec E.k)} (hx:ev ρ x=v) (ho:bH E t B M w v l) (hB:B≤w.heap.size) (hk:size=E.k) (hz:zero.length=E.k)
  (hy:cV w E.k (ev ρ y)=some (n,new)) (hnew:new=(jM E.k E.pos).flat css) (ha:E.all (aC v++M) w css l2) (hn:n=l2.length) (hroom:(l.length+l2.length)*bytes≤2^47)
  (k:∀v' w',bH E t B M w' v' (l++l2)→Chg (aC v) w w'→(∀b∈aC v',b∈aC v∨w.heap.size≤b)→aH P r K (put ρ d v') w'):aH P (.cons ⟨d,.append t size bytes zero x y,none⟩ r) K ρ w:=
 aK9 hx ho hB hk hz hy hnew ha hn hroom fun v' w' h1 _ h3 h4=>k v' w' h1 h3 h4
theorem aZr {size bytes:Nat} {zero:List Value} {x y:Operand} {b:Nat} {ty:TypeId} {cs:List Value} {a:α} (hx:ev ρ x=v) (hy:ev ρ y=.slice (some ⟨b,0,none⟩) 1 1) (ho:bH E t B M w v l) (hB:B≤w.heap.size) (hk:size=E.k) (hz:zero.length=E.k)
  (hb:At w b (.cells cs.toArray ty (0,0))) (ha:E.rel (aC v++M) w cs a) (hroom:(l.length+1)*bytes≤2^47)
  (k:∀v' w',bH E t B M w' v' (l++ [a])→((∀b∈M,b∉aC v)→SlR E M w' v l)→Chg (aC v) w w'→(∀b∈aC v',b∈aC v∨w.heap.size≤b)→aH P r K (put ρ d v') w'):aH P (.cons ⟨d,.append t size bytes zero x y,none⟩ r) K ρ w:=by
 have hl:=E.len ha
 refine aK9 (css:= [R.vec ha]) (l2:= [a]) hx ho hB hk hz (by rw [hy];exact dR hb (by omega)) (by simp only [Enc.flat,List.flatMap_cons,List.flatMap_nil,List.append_nil];rfl) (.cons ha .nil) rfl hroom k
theorem eM {size bytes:Nat} {zero:List Value} {x y:Operand} {b:Nat} {ty:TypeId} {cs:List Value} {a:α} (hx:ev ρ x=v) (hy:ev ρ y=.slice (some ⟨b,0,none⟩) 1 1) (ho:bH E t B M w v l) (hB:B≤w.heap.size) (hk:size=E.k) (hz:zero.length=E.k)
  (hb:At w b (.cells cs.toArray ty (0,0))) (ha:E.rel (aC v++M) w cs a) (hroom:(l.length+1)*bytes≤2^47)
  (k:∀v' w',bH E t B M w' v' (l++ [a])→Chg (aC v) w w'→(∀b∈aC v',b∈aC v∨w.heap.size≤b)→aH P r K (put ρ d v') w'):aH P (.cons ⟨d,.append t size bytes zero x y,none⟩ r) K ρ w:=
 aZr hx hy ho hB hk hz hb ha hroom fun v' w' h1 _ h3 h4=>k v' w' h1 h3 h4
end
section
variable {κ β:Type} [DecidableEq κ] {KE:KEnc κ} {F:R β}
def nG (KE:KEnc κ) (F:R β) (M:List Nat) (w:World) (b:Nat) (m:List (κ × β)):Prop:=
 ∃mv:List (κ × Value),dB KE id w b mv∧All2 (fun p q=>p.1=q.1∧∃cs,p.2=F.val cs∧F.rel M w cs q.2) mv m
theorem nG.lt {b:Nat} {m:List (κ × β)} (h:nG KE F M w b m):b<w.heap.size:=by obtain ⟨mv,h1,_⟩:=h;exact h1.lt
theorem nG.step {b:Nat} {m:List (κ × β)} (h:nG KE F M w b m) (c:Chg L w w') (hb:b∉L) (hL:∀b∈L,b∈M∨w.heap.size≤b) (hM:∀b∈M',b∈M∨w.heap.size≤b):nG KE F M' w' b m:=by
 obtain ⟨mv,h1,h2⟩:=h
 exact ⟨mv,h1.chg c hb,h2.mono fun _ _ ⟨e,cs,e2,hr⟩=>⟨e,cs,e2,F.step hr c hL hM⟩⟩
theorem nG.ext {b:Nat} {m:List (κ × β)} (h:nG KE F M w b m) (c:Ext w w'):nG KE F M w' b m:=h.step c (by simp) (by simp) (fun _ h=>.inl h)
theorem aH8 {r:Value→β→Prop} {k:κ}:∀{mv:List (κ × Value)} {m:List (κ × β)},All2 (fun p q=>p.1=q.1∧r p.2 q.2) mv m→
  (∀x,aS m k=some x→∃v,aS mv k=some v∧r v x)∧(aS m k=none→aS mv k=none)
 |_,_,.nil=>⟨fun x h=>by simp [aS] at h,fun _=>rfl⟩
 |(a,v)::mv,(a',x)::m,.cons ⟨h1,h2⟩ t=>by
  simp only at h1 h2
  subst h1
  have ih:=aH8 (k:=k) t
  have e1:aS ((a,v)::mv) k=if a=k then some v else aS mv k:=by unfold aS;rw [List.find?_cons];by_cases h:a=k<;>simp [h]
  have e2:aS ((a,x)::m) k=if a=k then some x else aS m k:=by unfold aS;rw [List.find?_cons];by_cases h:a=k<;>simp [h]
  grind
theorem aZu {r:Value→β→Prop} {k:κ} {v:Value} {x:β} (hv:r v x):∀{mv:List (κ × Value)} {m:List (κ × β)},All2 (fun p q=>p.1=q.1∧r p.2 q.2) mv m→
  All2 (fun p q=>p.1=q.1∧r p.2 q.2) (fV mv k v) (fV m k x)
 |_,_,.nil=>.cons ⟨rfl,hv⟩ .nil
 |p::mv,q::m,.cons hx t=>by
  have ih:=aZu (k:=k) hv t
  unfold fV
  by_cases h:q.1=k
  ·rw [if_pos h,if_pos (hx.1.trans h)];exact .cons ⟨rfl,hv⟩ t
  ·rw [if_neg h,if_neg (fun e=>h (hx.1.symm.trans e))];exact .cons hx ih
theorem bK4 {r:Value→β→Prop} {k:κ} {mv:List (κ × Value)} {m:List (κ × β)} (h:All2 (fun p q=>p.1=q.1∧r p.2 q.2) mv m):All2 (fun p q=>p.1=q.1∧r p.2 q.2) (lE mv k) (lE m k):=by
 unfold lE
 induction h with
 |nil=>exact .nil
 |cons hx t ih=>
  rw [List.filter_cons,List.filter_cons,hx.1]
  split
  ·exact .cons hx ih
  omega
end
end
section
open Go
def bT (a:Int):Bool:=decide (0≤a∧a≤2100000000000000)
theorem bR (a:Int):bT a=true↔0≤a∧a≤2100000000000000:=by simp [bT]
def iP (a b:Int):Bool:=bT a&&bT b&&bT (a+b)
abbrev W32:=BitVec 32
def u32 (x:W32):Value:=.int .u32 (x.toNat:Nat)
theorem wrap32 (m:Int):IntKind.u32.wrap m=m%4294967296:=rfl
theorem mW (x:W32):BitVec.ofInt 32 (x.toNat:Nat)=x:=by
 simp
theorem aJc {op:BinOp} {a b:W32} {c:W32} (h:dG op .u32 (a.toNat:Nat) (b.toNat:Nat)=some (.int .u32 (c.toNat:Nat))) (hs:dK op=false):bM op (u32 a) (u32 b)=some (u32 c):=by
 simp only [u32,bM,hs,Bool.false_eq_true,if_false,if_true];exact h
theorem aJj (c:W32):IntKind.u32.wrap (c.toNat:Nat)=(c.toNat:Nat):=by
 rw [wrap32];omega
theorem bOe (a b:W32):bM .add (u32 a) (u32 b)=some (u32 (a+b)):=aJc (by
 rfl) rfl
theorem bMq (a b:W32):bM .and (u32 a) (u32 b)=some (u32 (a&&& b)):=aJc (by
 simp only [dG,IntKind.bits];rw [mW,mW]
 exact congrArg some (congrArg (Value.int .u32) (aJj (a&&& b)))) rfl
theorem bDt (a b:W32):bM .or (u32 a) (u32 b)=some (u32 (a|||b)):=aJc (by
 simp only [dG,IntKind.bits];rw [mW,mW]
 exact congrArg some (congrArg (Value.int .u32) (aJj (a|||b)))) rfl
theorem bNq (a b:W32):bM .xor (u32 a) (u32 b)=some (u32 (a^^^b)):=aJc (by
 simp only [dG,IntKind.bits];rw [mW,mW]
 exact congrArg some (congrArg (Value.int .u32) (aJj (a^^^b)))) rfl
theorem aU5 (a:W32) (k:IntKind) (n:Nat) (h:n<32):bM .shr (u32 a) (.int k (n:Nat))=some (u32 (a>>>n)):=by
 simp only [u32,bM,dK,if_true]
 rw [if_neg (by omega)]
 have e:min ((n:Int).toNat) IntKind.u32.bits=n:=by simp [IntKind.bits];omega
 simp only [e,BitVec.toNat_ushiftRight,Nat.shiftRight_eq_div_pow]
 grind
theorem aUs (a:W32) (k:IntKind) (n:Nat) (h:n<32):bM .shl (u32 a) (.int k (n:Nat))=some (u32 (a<<<n)):=by
 simp only [u32,bM,dK,if_true]
 rw [if_neg (by omega)]
 grind [IntKind.bits,Nat.shiftLeft_eq,wrap32]
def rot (x:W32) (n:Nat):W32:=x>>>n|||x<<<(32 - n)
theorem bOc (n:Nat) (h0:0<n) (h:n<32):bM .and (.int .u64 (IntKind.u64.wrap (-(n:Int)))) (.int .u64 31)=some (.int .u64 ((32 - n:Nat):Int)):=by
 have key:∀n:Nat,n<32→0<n→IntKind.u64.wrap (BitVec.ofInt 64 (IntKind.u64.wrap (-(n:Int)))&&& BitVec.ofInt 64 31).toNat=((32 - n:Nat):Int):=by decide+kernel
 simp only [bM,dK,Bool.false_eq_true,if_false,if_true,dG,IntKind.bits]
 exact congrArg some (congrArg (Value.int .u64) (key n h h0))
def aTl:List Value→Option Value
 | [.int .i64 a]=>some (.bool (bT a))
 |_=>none
def aSj (m:Int):List Value→Option Value
 | [.int .i64 a,.int .i64 b]=>some (.bool (decide (m≤a∧a≤b)))
 |_=>none
def bQl:=aSj 0
def bPu:=aSj 1
def bC3 (k:IntKind):List Value→Option Value
 | [.int .u32 a,.int k' n]=>if k'=k∧0≤a∧a<4294967296∧0<n∧n<32 then some (u32 (rot (BitVec.ofInt 32 a) n.toNat)) else none
 |_=>none
def bRh:=bC3 .i64
def bQ4:=bC3 .u64
theorem fE (x:W32) (k:IntKind) (n:Nat) (h0:0<n) (h:n<32):bC3 k [u32 x,.int k (n:Nat)]=some (u32 (rot x n)):=by
 have:=x.isLt
 simp only [bC3,u32]
 grind
theorem qG (a:Int):aTl [.int .i64 a]=some (.bool (bT a)):=rfl
theorem qF (m a b:Int):aSj m [.int .i64 a,.int .i64 b]=some (.bool (decide (m≤a∧a≤b))):=rfl
attribute [irreducible] aTl aSj bC3
end
section
open Go
theorem SlE.x {α:Type} {E:Enc α} {w w':World} {v:Value} {l:List α} (c:Ext w w') (h:SlE E w v l):SlE E w' v l:=h.ext c
theorem SlR.x {α:Type} {E:R α} {M:List Nat} {w w':World} {v:Value} {l:List α} (c:Ext w w') (h:SlR E M w v l):SlR E M w' v l:=h.ext c
theorem bH.x {α:Type} {E:R α} {t:TypeId} {B:Nat} {M:List Nat} {w w':World} {v:Value} {l:List α} (c:Ext w w') (h:bH E t B M w v l):bH E t B M w' v l:=h.ext c
theorem R.x {α:Type} {E:R α} {M:List Nat} {w w':World} {cs:List Value} {x:α} (c:Ext w w') (h:E.rel M w cs x):E.rel M w' cs x:=E.step h c (by simp) (fun _ h=>.inl h)
theorem nG.x {κ β:Type} [DecidableEq κ] {KE:KEnc κ} {F:R β} {M:List Nat} {w w':World} {b:Nat} {m:List (κ × β)} (c:Ext w w') (h:nG KE F M w b m):nG KE F M w' b m:=h.ext c
theorem Ext.c {w w' w'':World} (c:Ext w' w'') (h:Ext w w'):Ext w w'':=h.trans c
theorem bSl {w w':World} {n:Nat} (c:Ext w w') (h:n≤w.heap.size):n≤w'.heap.size:=nTr h c.size
section
variable {P:Program} {d:Option Tmp} {r:KR} {K:Env→World→Prop} {ρ:Env} {w:World}
theorem bRw {o:KOp} {t:Tmp} {b:Bool} (h:ρ t=.bool b) (k:aH P (.cons ⟨d,o,none⟩ r) K ρ w):aH P (.cons ⟨d,o,some (t,b)⟩ r) K ρ w:=bRn (by simp [lG,h]) k
theorem bOz {o:KOp} {t:Tmp} {b c:Bool} (h:ρ t=.bool c) (hc:(c==b)=false) (k:aH P r K (put ρ d undef) w):aH P (.cons ⟨d,o,some (t,b)⟩ r) K ρ w:=bJ2 (by simp [lG,h,hc]) k
theorem bPs {o:KOp} {t:Tmp} {b:Bool} (h:ρ t=undef) (k:aH P r K (put ρ d undef) w):aH P (.cons ⟨d,o,some (t,b)⟩ r) K ρ w:=bJ2 (by simp [lG,h,undef]) k
end
abbrev z0:=@bL1
abbrev z1:=@aKf
abbrev z2:=@bRn
abbrev z3:=@bJ2
abbrev z4:=@bLd
abbrev z5:=@bKz
abbrev z6:=@bJu
abbrev z7:=@cS
abbrev z8:=@bP1
abbrev z9:=@bJr
abbrev za:=@bPl
abbrev zb:=@bQd
abbrev zc:=@tN
abbrev zd:=@bP6
abbrev ze:=@bQm
abbrev zf:=@bO3
abbrev zg:=@bMv
abbrev zh:=@bQ6
abbrev zi:=@bPh
abbrev zj:=@bOu
abbrev zk:=@bOf
abbrev zl:=@bQp
abbrev zm:=@bQ8
abbrev zn:=@bPq
abbrev zo:=@bPb
abbrev zp:=@bBl
abbrev zq:=@aW2
abbrev zr:=@bMc
abbrev zs:=@aXl
abbrev zt:=@aVx
abbrev zu:=@aRi
abbrev zv:=@bQu
abbrev zw:=@bCm
abbrev zx:=@aY7
abbrev zy:=@bJp
abbrev zz:=@aGs
abbrev zA:=@bE9
abbrev zB:=@fG
abbrev zC:=@gD
abbrev zD:=@nW
abbrev zE:=@bJi
abbrev zF:=@bRf
abbrev zG:=@aU6
abbrev zH:=@aDj
abbrev zI:=@fU
abbrev zJ:=@qE
abbrev zK:=@aVf
abbrev zL:=@rK
abbrev zM:=@rX
abbrev zN:=@aNj
abbrev zO:=@bRw
abbrev zP:=@bOz
abbrev zQ:=@bPs
end
end Go.K
