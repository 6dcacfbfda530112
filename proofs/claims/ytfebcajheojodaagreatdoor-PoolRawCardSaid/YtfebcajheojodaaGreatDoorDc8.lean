/- The engine, part 8: typed slices, owned slices, typed maps, stores. The engine, part 9: maps that read as lists of pairs. -/
import Derived.Test.YtfebcajheojodaaGreatDoorDc7
set_option linter.unusedVariables false
set_option linter.unusedSimpArgs false
section
namespace Go.K
open Go
variable {P:Program}
structure Enc (α:Type) where
 f:α→List Value
 k:Nat
 len:∀x,(f x).length=k
 pos:0<k
 one:∀x,∀v∈f x,v.oneCell'=true
variable {α:Type} {E:Enc α}
def Enc.flat (E:Enc α) (l:List α):List Value:=l.flatMap E.f
theorem Enc.flat_length (E:Enc α):∀(l:List α),(E.flat l).length=l.length*E.k
 | []=>by simp [Enc.flat]
 |x::l=>by
  have:=E.flat_length l
  simp only [Enc.flat,List.flatMap_cons,List.length_append,E.len,List.length_cons] at this ⊢
  rw [this,Nat.add_mul];omega
theorem Enc.flat_append (E:Enc α) (l l':List α):E.flat (l++l')=E.flat l++E.flat l':=by simp [Enc.flat]
theorem Enc.flat_at (E:Enc α):∀(l:List α) (i:Nat) (h:i<l.length),((E.flat l).drop (i*E.k)).take E.k=E.f l[i]
 |x::l,0,_=>by
  simp only [Enc.flat,List.flatMap_cons,Nat.zero_mul,List.drop_zero,List.getElem_cons_zero]
  rw [List.take_append_of_le_length (by rw [E.len];omega),List.take_of_length_le (by rw [E.len];omega)]
 |x::l,i+1,h=>by
  have hi:i<l.length:=by simpa using h
  have:=E.flat_at l i hi
  simp only [Enc.flat,List.flatMap_cons,List.getElem_cons_succ] at this ⊢
  rw [←this,List.drop_append,E.len,List.drop_eq_nil_of_le (by rw [E.len,Nat.add_mul];omega),List.nil_append]
  congr 2
  rw [Nat.add_mul];omega
theorem Enc.flat_one (E:Enc α) (l:List α):∀v∈E.flat l,v.oneCell'=true:=by
 intro v hv
 simp only [Enc.flat,List.mem_flatMap] at hv
 obtain ⟨x,_,hx⟩:=hv
 exact E.one x v hx
def SlE (E:Enc α) (w:World) (v:Value) (l:List α):Prop:=Sl w E.k v l.length (E.flat l)
theorem SlE.ext {w w':World} {v:Value} {l:List α} (hc:Ext w w') (h:SlE E w v l):SlE E w' v l:=Sl.ext hc h
theorem SlE.chg {s:List Nat} {w w':World} {v:Value} {l:List α} (hc:Chg s w w') (h:SlE E w v l) (hb:∀a m c,v=.slice (some a) m c→a.block∉s):SlE E w' v l:=Sl.chg hc h hb
theorem SlE.nil (w:World):SlE E w (.slice none 0 0) []:=Sl.nil w E.k
theorem SlE.form {w:World} {v:Value} {l:List α} (h:SlE E w v l):∃base cap,v=.slice base l.length cap:=by
 obtain ⟨_,base,cap,hv,_⟩:=h;exact ⟨base,cap,hv⟩
theorem SlE.cells {w:World} {v:Value} {l:List α} (h:SlE E w v l):slCells w E.k v=some (l.length,E.flat l):=Sl.cells h
theorem SlE.cut {w:World} {base:Option Addr} {n cap:Nat} {l:List α} (h:SlE E w (.slice base n cap) l) {lo hi:Nat} (h1:lo≤hi) (h2:hi≤l.length) (c2:Nat) (hc2:hi - lo≤c2):
  SlE E w (.slice (if cap=lo then base else base.map fun ad:Addr=>ad.add (lo*E.k)) (hi - lo) c2) ((l.drop lo).take (hi - lo)):=by
 obtain ⟨hl,base',cap',hv,hnc,hr⟩:=h
 simp only [Value.slice.injEq] at hv
 obtain ⟨rfl,rfl,rfl⟩:=hv
 have hlen:((l.drop lo).take (hi - lo)).length=hi - lo:=by simp;omega
 refine ⟨by rw [E.flat_length],_,c2,by rw [hlen],by rw [hlen];exact hc2,fun hp=>?_⟩
 rw [E.flat_length,hlen] at hp
 have hlt:lo<hi:=by
  rcases Nat.lt_or_ge lo hi with h|h
  ·exact h
  ·rw [show hi - lo=0 by omega] at hp;simp at hp
 have hpos:0<(E.flat l).length:=by rw [E.flat_length];exact Nat.mul_pos (by omega) E.pos
 obtain ⟨a,rfl,hrow⟩:=hr hpos
 have key:∀c:Addr,c=a.add (lo*E.k)→Row w c (E.flat ((l.drop lo).take (hi - lo))):=by
  rintro _ rfl j v hj
  rw [add_add]
  refine hrow _ v ?_
  have e1:l=l.take lo++((l.drop lo).take (hi - lo)++l.drop hi):=by
   conv=>lhs;rw [←List.take_append_drop lo l,←List.take_append_drop (hi - lo) (l.drop lo),List.drop_drop,show lo+(hi - lo)=hi by omega]
  rw [e1,E.flat_append,E.flat_append,List.getElem?_append_right (by rw [E.flat_length];simp;rw [Nat.min_eq_left (by omega)];omega)]
  rw [E.flat_length]
  rw [show lo*E.k+j - (l.take lo).length*E.k=j by simp;rw [Nat.min_eq_left (by omega)];omega]
  rw [List.getElem?_append_left (List.getElem?_eq_some_iff.1 hj).1]
  exact hj
 rw [if_neg (by omega)]
 exact ⟨_,rfl,key _ rfl⟩
section
variable {d:Option Tmp} {r:KR} {K:Env→World→Prop} {ρ:Env} {w:World}
theorem st_elemE {size:Nat} {x i:Operand} {v:Value} {l:List α} {kd:IntKind} {n:Nat} (hx:ev ρ x=v) (hi:ev ρ i=.int kd (n:Nat)) (hs:SlE E w v l) (hk:size=E.k) (hr:n<l.length) (k:∀ad,Row w ad (E.f l[n])→regK P r K (put ρ d (.pointer (some ad))) w):regK P (.cons ⟨d,.indexAddr size x i,none⟩ r) K ρ w:=by
 subst hk
 exact st_elem hx hi hs E.pos hr fun ad hrow=>k ad (by rw [E.flat_at l n hr] at hrow;exact hrow)
theorem st_len {x:Operand} {v:Value} {l:List α} (hx:ev ρ x=v) (hs:SlE E w v l) (k:regK P r K (put ρ d (.int .i64 (l.length:Nat))) w):regK P (.cons ⟨d,.len false x,none⟩ r) K ρ w:=by
 obtain ⟨base,cap,rfl⟩:=hs.form
 exact st_fix rfl (by simp [KOp.fix,hx]) k
end
def Own (E:Enc α) (t:TypeId) (B:Nat) (w:World) (v:Value) (l:List α):Prop:=
 (v=.slice none 0 0∧l= [])∨∃b cap junk,v=.slice (some ⟨b,0,none⟩) l.length cap∧B≤b∧At w b (.cells (E.flat l++junk).toArray t (0,0))∧(E.flat l++junk).length=cap*E.k
def blkOf:Value→List Nat
 |.slice (some a) _ _=> [a.block]
 |_=> []
theorem Own.nil (t:TypeId) (B:Nat) (w:World):Own E t B w (.slice none 0 0) []:=.inl ⟨rfl,rfl⟩
theorem Own.sl {t:TypeId} {B:Nat} {w:World} {v:Value} {l:List α} (h:Own E t B w v l):SlE E w v l:=by
 rcases h with ⟨rfl,rfl⟩|⟨b,cap,junk,rfl,_,hat,hlen⟩
 ·exact SlE.nil w
 ·have hle:l.length≤cap:=by
   rw [List.length_append,E.flat_length] at hlen
   have h1:l.length*E.k≤cap*E.k:=by omega
   exact Nat.le_of_mul_le_mul_right h1 E.pos
  refine ⟨by rw [E.flat_length],_,_,rfl,hle,fun _=>⟨_,rfl,fun j v hj=>?_⟩⟩
  exact Row.of_at hat j v (by rw [List.getElem?_append_left (List.getElem?_eq_some_iff.1 hj).1];exact hj)
theorem Own.chg {t:TypeId} {B:Nat} {s:List Nat} {w w':World} {v:Value} {l:List α} (hc:Chg s w w') (h:Own E t B w v l) (hb:∀b∈blkOf v,b∉s):Own E t B w' v l:=by
 rcases h with ⟨rfl,rfl⟩|⟨b,cap,junk,rfl,hB,hat,hl⟩
 ·exact Own.nil t B w'
 ·exact .inr ⟨b,cap,junk,rfl,hB,hat.chg hc (hb b (by simp [blkOf])),hl⟩
theorem Own.ext {t:TypeId} {B:Nat} {w w':World} {v:Value} {l:List α} (hc:Ext w w') (h:Own E t B w v l):Own E t B w' v l:=h.chg hc (by simp)
theorem Own.base {t:TypeId} {B:Nat} {w:World} {v:Value} {l:List α} (h:Own E t B w v l):∀b∈blkOf v,B≤b:=by
 rcases h with ⟨rfl,rfl⟩|⟨b,cap,junk,rfl,hB,hat,hl⟩<;>simp [blkOf]
 exact hB
theorem Own.lower {t:TypeId} {B B':Nat} {w:World} {v:Value} {l:List α} (h:Own E t B w v l) (hb:B'≤B):Own E t B' w v l:=by
 rcases h with h|⟨b,cap,junk,hv,hB,r⟩
 ·exact .inl h
 ·exact .inr ⟨b,cap,junk,hv,by omega,r⟩
theorem stCells_at {t:TypeId} {b:Nat}:∀(vs:List Value) (i o:Nat) (cur:List Value) (w:World),At w b (.cells cur.toArray t (0,0))→o+i+vs.length≤cur.length→
  At (stCells w (Addr.add ⟨b,0,none⟩ o) i vs) b (.cells (cur.take (o+i)++vs++cur.drop (o+i+vs.length)).toArray t (0,0))∧Chg [b] w (stCells w (Addr.add ⟨b,0,none⟩ o) i vs)
 | [],i,o,cur,w,h,_=>by simp only [stCells,List.append_nil,List.length_nil,Nat.add_zero,List.take_append_drop];exact ⟨h,Chg.refl _ _⟩
 |v::vs,i,o,cur,w,h,hl=>by
  simp only [List.length_cons] at hl
  have ha:(Addr.add (Addr.add ⟨b,0,none⟩ o) i)=⟨b,o+i,none⟩:=by rw [add_add];unfold Addr.add;split<;>simp_all
  have h1:At (w.setCell (Addr.add (Addr.add ⟨b,0,none⟩ o) i) v) b (.cells (cur.set (o+i) v).toArray t (0,0)):=by
   unfold At at h ⊢
   rw [ha]
   simp [World.setCell,Array.getElem?_modify,h]
  have c1:Chg [b] w (w.setCell (Addr.add (Addr.add ⟨b,0,none⟩ o) i) v):=by have:=Chg.setCell w (Addr.add (Addr.add ⟨b,0,none⟩ o) i) v;rw [ha] at this ⊢;exact this
  obtain ⟨h2,c2⟩:=stCells_at vs (i+1) o (cur.set (o+i) v) _ h1 (by simp;omega)
  simp only [stCells]
  refine ⟨?_,(c1.trans c2).mono (by simp)⟩
  have e:cur.take (o+i)++v::vs++cur.drop (o+i+(vs.length+1))=(cur.set (o+i) v).take (o+(i+1))++vs++(cur.set (o+i) v).drop (o+(i+1)+vs.length):=by
   rw [show o+i+(vs.length+1)=o+(i+1)+vs.length from by omega,List.drop_set_of_lt (by omega),show o+(i+1)=(o+i)+1 from by omega,List.take_succ_eq_append_getElem (by simp;omega)]
   simp only [List.take_set_of_le (Nat.le_refl _),List.getElem_set_self,List.append_assoc,List.cons_append,List.nil_append]
  simp only [List.length_cons]
  rw [e];exact h2
theorem canSt_at {t:TypeId} {b o n:Nat} {cur:List Value} {w:World} (h:At w b (.cells cur.toArray t (0,0))) (hl:o+n≤cur.length):canSt w (Addr.add ⟨b,0,none⟩ o) 0 n:=by
 intro j _ hj
 have ha:(Addr.add (Addr.add ⟨b,0,none⟩ o) j)=⟨b,o+j,none⟩:=by rw [add_add];unfold Addr.add;split<;>simp_all
 rw [ha]
 unfold At at h
 refine ⟨?_,by simp [World.frozen?,h]⟩
 simp [World.cell?,h];omega
section
variable {d:Option Tmp} {r:KR} {K:Env→World→Prop} {ρ:Env} {w:World}
theorem st_store {x y:Operand} {b o:Nat} {t:TypeId} {cur:List Value} {v:Value} (hx:ev ρ x=.pointer (some (Addr.add ⟨b,0,none⟩ o))) (hy:ev ρ y=v) (h1:v.oneCell'=true) (h:At w b (.cells cur.toArray t (0,0))) (hl:o<cur.length)
  (k:∀w',Chg [b] w w'→At w' b (.cells (cur.set o v).toArray t (0,0))→regK P r K (put ρ d undef) w'):regK P (.cons ⟨d,.store x y,none⟩ r) K ρ w:=by
 have hc:=canSt_at (o:=o) (n:=1) h (by omega) 0 (Nat.le_refl _) (by omega)
 rw [add_zero] at hc
 have h2:=stCells_at [v] 0 o cur w h (by simp;omega)
 simp only [stCells,add_zero,Nat.add_zero,List.length_singleton] at h2
 refine st_wp ⟨_,hx,by rw [hy];exact h1,hc.1,hc.2,?_⟩
 rw [hy]
 refine k _ h2.2 ?_
 have e:cur.take o++ [v]++cur.drop (o+1)=cur.set o v:=by rw [List.set_eq_take_append_cons_drop,if_pos hl];simp
 rw [←e];exact h2.1
theorem st_store0 {x y:Operand} {b:Nat} {t:TypeId} {cur:List Value} {v:Value} (hx:ev ρ x=.pointer (some ⟨b,0,none⟩)) (hy:ev ρ y=v) (h1:v.oneCell'=true) (h:At w b (.cells cur.toArray t (0,0))) (hl:0<cur.length)
  (k:∀w',Chg [b] w w'→At w' b (.cells (cur.set 0 v).toArray t (0,0))→regK P r K (put ρ d undef) w'):regK P (.cons ⟨d,.store x y,none⟩ r) K ρ w:=
 st_store (o:=0) (by rw [add_zero];exact hx) hy h1 h hl k
theorem st_storeN {n:Nat} {x y:Operand} {b o:Nat} {t:TypeId} {cur vs:List Value} (hx:ev ρ x=.pointer (some (Addr.add ⟨b,0,none⟩ o))) (hy:ev ρ y=.agg vs.toArray) (hn:vs.length=n) (h1:∀v∈vs,v.oneCell'=true) (h:At w b (.cells cur.toArray t (0,0))) (hl:o+n≤cur.length)
  (k:∀w',Chg [b] w w'→At w' b (.cells (cur.take o++vs++cur.drop (o+n)).toArray t (0,0))→regK P r K (put ρ d undef) w'):regK P (.cons ⟨d,.storeN n x y,none⟩ r) K ρ w:=by
 subst hn
 have h2:=stCells_at vs 0 o cur w h (by simpa using hl)
 simp only [Nat.add_zero] at h2
 exact st_wp ⟨_,_,hx,hy,by simp,by simpa using h1,canSt_at h hl,k _ h2.2 h2.1⟩
theorem st_storeN0 {n:Nat} {x y:Operand} {b:Nat} {t:TypeId} {cur vs:List Value} (hx:ev ρ x=.pointer (some ⟨b,0,none⟩)) (hy:ev ρ y=.agg vs.toArray) (hn:vs.length=n) (h1:∀v∈vs,v.oneCell'=true) (h:At w b (.cells cur.toArray t (0,0))) (hl:cur.length=n)
  (k:∀w',Chg [b] w w'→At w' b (.cells vs.toArray t (0,0))→regK P r K (put ρ d undef) w'):regK P (.cons ⟨d,.storeN n x y,none⟩ r) K ρ w:=
 st_storeN (o:=0) (by rw [add_zero];exact hx) hy hn h1 h (by omega) fun w' hc ha=>k w' hc (by
  have e:cur.take 0++vs++cur.drop (0+n)=vs:=by rw [List.drop_eq_nil_of_le (by omega)];simp
  rw [e] at ha;exact ha)
theorem st_buildSlice {t:TypeId} {ln:Nat} {zs cs:List Value} {ps:List (Nat × Nat × Operand)} (hf:fillK (ev ρ) zs ps=some cs) (k:∀b w',Ext w w'→At w' b (.cells cs.toArray t (0,0))→w.heap.size≤b→regK P r K (put ρ d (.slice (some ⟨b,0,none⟩) ln ln)) w'):regK P (.cons ⟨d,.buildSlice t ln zs ps,none⟩ r) K ρ w:=
 st_wp ⟨cs,hf,k _ _ (Ext.alloc w _) (At.new w _) (Nat.le_refl _)⟩
theorem st_appendX {t:TypeId} {size bytes B:Nat} {zero:List Value} {x y:Operand} {v:Value} {l l2:List α} {n:Nat} {new:List Value} (hx:ev ρ x=v) (ho:Own E t B w v l) (hB:B≤w.heap.size) (hk:size=E.k) (hz:zero.length=E.k) (hy:slCells w size (ev ρ y)=some (n,new)) (hnew:new=E.flat l2) (hn:n=l2.length) (hroom:(l.length+l2.length)*bytes≤2^47)
  (k:∀v' w',Own E t B w' v' (l++l2)→SlE E w' v l→Chg (blkOf v) w w'→(∀b∈blkOf v',b∈blkOf v∨w.heap.size≤b)→regK P r K (put ρ d v') w'):regK P (.cons ⟨d,.append t size bytes zero x y,none⟩ r) K ρ w:=by
 subst hk hnew hn
 refine st_wp ?_
 have hcap:∀need old,old<need→Builtin.nextslicecap need old≤2*need:=by
  intro need old ho
  have hg:∀rounds c,256≤c→c≤2*need→Builtin.growBy need rounds c≤2*need:=by
   intro rounds
   induction rounds with
   |zero=>intro c _ h;exact h
   |succ n ih=>
    intro c h1 h2
    simp only [Builtin.growBy]
    split
    ·exact h2
    ·exact ih _ (by omega) (by omega)
  unfold Builtin.nextslicecap
  split
  ·omega
  ·split
   ·omega
   ·exact hg 4 old (by omega) (by omega)
 rcases ho with ⟨rfl,rfl⟩|⟨b,cap,junk,rfl,hb,hat,hlen⟩
 ·refine ⟨none,0,0,l2.length,E.flat l2,hx,hy,fun hr=>?_,fun hr=>?_⟩
  ·have:l2= []:=List.length_eq_zero_iff.1 (by omega)
   subst this
   exact k _ _ (Own.nil t B w) (SlE.nil w) (Chg.refl _ _) (by simp [blkOf])
  ·refine ⟨[],rfl,?_,fun c hc=>?_⟩
   ·have:=hcap (0+l2.length) 0 hr
    have h3:Builtin.nextslicecap (0+l2.length) 0*bytes≤2*(0+l2.length)*bytes:=Nat.mul_le_mul_right _ this
    simp only [List.length_nil] at hroom
    rw [Nat.mul_assoc] at h3
    omega
   ·refine k _ _ (.inr ⟨w.heap.size,c,zeros zero (c - (0+l2.length)),?_,by omega,?_,?_⟩) (SlE.nil _) ((Ext.drew w).chg ((Ext.alloc _ _).mono (by simp))) (by simp [blkOf])
    ·simp
    ·simpa using At.new w.drew _
    ·simp only [List.nil_append,List.length_append,E.flat_length,zeros_length,hz,Nat.zero_add]
     rw [←Nat.add_mul];congr 1;omega
 ·have hsl:slCells w E.k (.slice (some ⟨b,0,none⟩) l.length cap)=some (l.length,E.flat l):=(Own.sl (t:=t) (B:=B) (.inr ⟨b,cap,junk,rfl,hb,hat,hlen⟩)).cells
  have hj:(E.flat l).length+junk.length=cap*E.k:=by simpa using hlen
  rw [E.flat_length] at hj
  refine ⟨some ⟨b,0,none⟩,l.length,cap,l2.length,E.flat l2,hx,hy,fun hr=>?_,fun hr=>?_⟩
  ·have hmul:(l.length+l2.length)*E.k≤cap*E.k:=Nat.mul_le_mul_right _ hr
   rw [Nat.add_mul] at hmul
   have hfit:l.length*E.k+0+(E.flat l2).length≤(E.flat l++junk).length:=by rw [List.length_append,E.flat_length,E.flat_length];omega
   obtain ⟨h2,c2⟩:=stCells_at (E.flat l2) 0 (l.length*E.k) (E.flat l++junk) w hat hfit
   refine ⟨E.flat_one l2,canSt_at hat (by simpa using hfit),k _ _ (.inr ⟨b,cap,junk.drop (E.flat l2).length,by simp,hb,?_,?_⟩) (Own.sl (t:=t) (B:=B) (.inr ⟨b,cap,E.flat l2++junk.drop (E.flat l2).length,rfl,hb,?_,?_⟩)) c2 (by simp [blkOf])⟩
   ·have e1:(E.flat l++junk).take (l.length*E.k+0)=E.flat l:=by rw [List.take_append_of_le_length (by rw [E.flat_length];omega),List.take_of_length_le (by rw [E.flat_length];omega)]
    have e2:(E.flat l++junk).drop (l.length*E.k+0+(E.flat l2).length)=junk.drop (E.flat l2).length:=by
     rw [List.drop_append,List.drop_eq_nil_of_le (by rw [E.flat_length];omega),List.nil_append,E.flat_length,E.flat_length,show l.length*E.k+0+l2.length*E.k - l.length*E.k=l2.length*E.k by omega]
    rw [e1,e2,←E.flat_append] at h2
    exact h2
   ·rw [E.flat_append,List.length_append,List.length_append,List.length_drop,E.flat_length,E.flat_length]
    omega
   ·have e1:(E.flat l++junk).take (l.length*E.k+0)=E.flat l:=by rw [List.take_append_of_le_length (by rw [E.flat_length];omega),List.take_of_length_le (by rw [E.flat_length];omega)]
    have e2:(E.flat l++junk).drop (l.length*E.k+0+(E.flat l2).length)=junk.drop (E.flat l2).length:=by
     rw [List.drop_append,List.drop_eq_nil_of_le (by rw [E.flat_length];omega),List.nil_append,E.flat_length,E.flat_length,show l.length*E.k+0+l2.length*E.k - l.length*E.k=l2.length*E.k by omega]
    rw [e1,e2,List.append_assoc] at h2
    exact h2
   ·rw [List.length_append,List.length_append,List.length_drop,E.flat_length,E.flat_length]
    omega
  ·refine ⟨E.flat l,hsl,?_,fun c hc=>?_⟩
   ·have:=hcap (l.length+l2.length) cap hr
    have h3:=Nat.mul_le_mul_right bytes this
    rw [Nat.mul_assoc] at h3
    omega
   ·refine k _ _ (.inr ⟨w.heap.size,c,zeros zero (c - (l.length+l2.length)),by simp,by omega,?_,?_⟩) (SlE.ext ((Ext.drew w).chg ((Ext.alloc _ _).mono (by simp))) (Own.sl (t:=t) (B:=B) (.inr ⟨b,cap,junk,rfl,hb,hat,hlen⟩))) ((Ext.drew w).chg ((Ext.alloc _ _).mono (by simp))) (by simp [blkOf])
    ·rw [E.flat_append];exact At.new w.drew _
    ·rw [E.flat_append]
     simp only [List.length_append,E.flat_length,zeros_length,hz]
     rw [←Nat.add_mul,←Nat.add_mul];congr 1;omega
theorem st_append {t:TypeId} {size bytes B:Nat} {zero:List Value} {x y:Operand} {v:Value} {l l2:List α} {n:Nat} {new:List Value} (hx:ev ρ x=v) (ho:Own E t B w v l) (hB:B≤w.heap.size) (hk:size=E.k) (hz:zero.length=E.k) (hy:slCells w size (ev ρ y)=some (n,new)) (hnew:new=E.flat l2) (hn:n=l2.length) (hroom:(l.length+l2.length)*bytes≤2^47)
  (k:∀v' w',Own E t B w' v' (l++l2)→Chg (blkOf v) w w'→regK P r K (put ρ d v') w'):regK P (.cons ⟨d,.append t size bytes zero x y,none⟩ r) K ρ w:=
 st_appendX hx ho hB hk hz hy hnew hn hroom fun v' w' h _ c _=>k v' w' h c
end
end Go.K
end
section
namespace Go.K
open Go
variable {P:Program}
structure KEnc (κ:Type) [DecidableEq κ] where
 f:κ→Value
 s:Bool
 ks:List CK
 eq_:∀a b,keyEq s ks (f a) (f b)=some (decide (a=b))
 ok:∀a,keyOK s ks (f a)=true
variable {κ β:Type} [DecidableEq κ] {E:KEnc κ} {fv:β→Value}
def aget (m:List (κ × β)) (k:κ):Option β:=(m.find? fun p=>decide (p.1=k)).map (·.2)
def aset (m:List (κ × β)) (k:κ) (v:β):List (κ × β):=
 match m with
 | []=> [(k,v)]
 |p::r=>if p.1=k then (k,v)::r else p::aset r k v
def adel (m:List (κ × β)) (k:κ):List (κ × β):=m.filter fun p=>decide (p.1≠k)
structure Wf (es:Array MapEntry) (clock:Nat):Prop where
 births:es.toList.Pairwise fun a b=>a.born<b.born
 lt:∀e∈es.toList,e.born<clock
def MapE (E:KEnc κ) (fv:β→Value) (w:World) (r:Nat) (m:List (κ × β)):Prop:=
 ∃es clock,At w r (.map es clock)∧Wf es clock∧es.toList.map (fun e=>(e.key,e.val))=m.map (fun p=>(E.f p.1,fv p.2))∧(m.map (·.1)).Nodup
theorem MapE.chg {l:List Nat} {w w':World} {r:Nat} {m:List (κ × β)} (hc:Chg l w w') (h:MapE E fv w r m) (hr:r∉l):MapE E fv w' r m:=by
 obtain ⟨es,clock,h1,h2⟩:=h;exact ⟨es,clock,h1.chg hc hr,h2⟩
theorem MapE.ext {w w':World} {r:Nat} {m:List (κ × β)} (hc:Ext w w') (h:MapE E fv w r m):MapE E fv w' r m:=h.chg hc (by simp)
theorem MapE.lt {w:World} {r:Nat} {m:List (κ × β)} (h:MapE E fv w r m):r<w.heap.size:=by obtain ⟨es,clock,h1,_⟩:=h;exact h1.lt
theorem MapE.nodup {w:World} {r:Nat} {m:List (κ × β)} (h:MapE E fv w r m):(m.map (·.1)).Nodup:=by obtain ⟨es,clock,_,_,_,h1⟩:=h;exact h1
theorem MapE.new (w:World):MapE E fv (w.alloc (.map #[] 0)) w.heap.size []:=⟨#[],0,At.new w _,⟨by simp,by simp⟩,rfl,by simp⟩
theorem findK_enc (k:κ):∀(es:List MapEntry) (m:List (κ × β)) (i:Nat),es.map (fun e=>(e.key,e.val))=m.map (fun p=>(E.f p.1,fv p.2))→
  findK E.s E.ks (E.f k) es i=some ((m.findIdx? fun p=>decide (p.1=k)).bind fun j=>(m[j]?).map fun p=>(i+j,fv p.2))
 | [], [],i,_=>rfl
 |e::es,p::m,i,h=>by
  simp only [List.map_cons,List.cons.injEq,Prod.mk.injEq] at h
  obtain ⟨⟨hk,hv⟩,h⟩:=h
  simp only [findK,hk,E.eq_]
  by_cases hp:p.1=k
  ·subst hp
   simp [List.findIdx?_cons,hv]
  ·have hp':¬(k=p.1):=fun e=>hp e.symm
   simp only [hp',decide_false]
   rw [findK_enc k es m (i+1) h]
   simp only [List.findIdx?_cons,hp,decide_false,Bool.false_eq_true,if_false]
   cases m.findIdx? (fun p=>decide (p.1=k)) with
   |none=>rfl
   |some j=>simp only [Option.bind_some,Option.map_some,List.getElem?_cons_succ];congr 2;funext p;rw [show i+1+j=i+(j+1) by omega]
 | [],_::_,_,h=>by simp at h
 |_::_, [],_,h=>by simp at h
theorem aget_idx (m:List (κ × β)) (k:κ):aget m k=(m.findIdx? fun p=>decide (p.1=k)).bind fun j=>(m[j]?).map (·.2):=by
 unfold aget
 induction m with
 |nil=>rfl
 |cons p m ih=>
  by_cases hp:p.1=k
  ·simp [List.find?_cons,List.findIdx?_cons,hp]
  ·simp only [List.find?_cons,hp,decide_false,List.findIdx?_cons,Bool.false_eq_true,if_false]
   rw [ih]
   cases m.findIdx? (fun p=>decide (p.1=k))<;>simp
section
variable {d:Option Tmp} {r:KR} {K:Env→World→Prop} {ρ:Env} {w:World}
theorem lookup_rd {s:Bool} {ks:List CK} {z:Value} {ok:Bool} {m x:Operand} {b:Nat} {l:List (κ × β)} {k:κ} (hm:ev ρ m=.map (some b)) (hx:ev ρ x=E.f k) (hM:MapE E fv w b l) (hs:s=E.s) (hks:ks=E.ks):
  (KOp.lookup s ks z ok m x).rd ρ w=some (match aget l k with
   |some v=>if ok then .tuple #[fv v,.bool true] else fv v
   |none=>if ok then .tuple #[z,.bool false] else z):=by
 subst hs hks
 obtain ⟨es,clock,hat,_,heq,_⟩:=hM
 have hf:=findK_enc (E:=E) (fv:=fv) k es.toList l 0 heq
 unfold At at hat
 simp only [KOp.rd,hx,E.ok,if_true,hm,hat,hf,Option.map_some,aget_idx]
 cases hi:l.findIdx? (fun p=>decide (p.1=k)) with
 |none=>rfl
 |some j=>
  have hj:j<l.length:=(List.findIdx?_eq_some_iff_getElem.1 hi).1
  simp [List.getElem?_eq_getElem hj]
theorem st_lookup {s:Bool} {ks:List CK} {z:Value} {m x:Operand} {b:Nat} {l:List (κ × β)} {k:κ} (hm:ev ρ m=.map (some b)) (hx:ev ρ x=E.f k) (hM:MapE E fv w b l) (hs:s=E.s) (hks:ks=E.ks)
  (k1:∀v,aget l k=some v→regK P r K (put ρ d (fv v)) w) (k2:aget l k=none→regK P r K (put ρ d z) w):regK P (.cons ⟨d,.lookup s ks z false m x,none⟩ r) K ρ w:=by
 have h:=lookup_rd (z:=z) (ok:=false) hm hx hM hs hks
 cases ha:aget l k with
 |none=>rw [ha] at h;exact st_wp (still_wp rfl h (k2 ha))
 |some v=>rw [ha] at h;exact st_wp (still_wp rfl h (k1 v ha))
theorem st_lookupOk {s:Bool} {ks:List CK} {z:Value} {m x:Operand} {b:Nat} {l:List (κ × β)} {k:κ} (hm:ev ρ m=.map (some b)) (hx:ev ρ x=E.f k) (hM:MapE E fv w b l) (hs:s=E.s) (hks:ks=E.ks)
  (k1:∀v,aget l k=some v→regK P r K (put ρ d (.tuple #[fv v,.bool true])) w) (k2:aget l k=none→regK P r K (put ρ d (.tuple #[z,.bool false])) w):regK P (.cons ⟨d,.lookup s ks z true m x,none⟩ r) K ρ w:=by
 have h:=lookup_rd (z:=z) (ok:=true) hm hx hM hs hks
 cases ha:aget l k with
 |none=>rw [ha] at h;exact st_wp (still_wp rfl h (k2 ha))
 |some v=>rw [ha] at h;exact st_wp (still_wp rfl h (k1 v ha))
theorem st_makeMap (k:∀b w',Ext w w'→MapE E fv w' b []→w.heap.size≤b→regK P r K (put ρ d (.map (some b))) w'):regK P (.cons ⟨d,.makeMap,none⟩ r) K ρ w:=
 st_wp (k _ _ (Ext.alloc w _) (MapE.new w) (Nat.le_refl _))
end
theorem map_erase {α γ:Type} (f:α→γ):∀(l:List α) (i:Nat),(l.eraseIdx i).map f=(l.map f).eraseIdx i
 | [],_=>rfl
 |_::_,0=>rfl
 |x::l,i+1=>by simp [map_erase f l i]
theorem aset_absent {m:List (κ × β)} {k:κ} {v:β} (h:(m.findIdx? fun p=>decide (p.1=k))=none):aset m k v=m++ [(k,v)]:=by
 induction m with
 |nil=>rfl
 |cons p m ih=>
  rw [List.findIdx?_cons] at h
  by_cases hp:p.1=k
  ·simp [hp] at h
  ·simp only [hp,decide_false,Bool.false_eq_true,if_false,Option.map_eq_none_iff] at h
   simp [aset,hp,ih h]
theorem aset_present {m:List (κ × β)} {k:κ} {v:β} {j:Nat} (h:(m.findIdx? fun p=>decide (p.1=k))=some j):aset m k v=m.set j (k,v):=by
 induction m generalizing j with
 |nil=>simp at h
 |cons p m ih=>
  rw [List.findIdx?_cons] at h
  by_cases hp:p.1=k
  ·simp [hp] at h;subst h;simp [aset,hp]
  ·simp only [hp,decide_false,Bool.false_eq_true,if_false,Option.map_eq_some_iff] at h
   obtain ⟨i,hi,rfl⟩:=h
   simp [aset,hp,ih hi]
theorem adel_absent {m:List (κ × β)} {k:κ} (h:(m.findIdx? fun p=>decide (p.1=k))=none):adel m k=m:=by
 rw [List.findIdx?_eq_none_iff] at h
 exact List.filter_eq_self.2 fun p hp=>by have:=h p hp;simpa using this
theorem adel_present {m:List (κ × β)} {k:κ} {j:Nat} (hn:(m.map (·.1)).Nodup) (h:(m.findIdx? fun p=>decide (p.1=k))=some j):adel m k=m.eraseIdx j:=by
 induction m generalizing j with
 |nil=>simp at h
 |cons p m ih=>
  rw [List.findIdx?_cons] at h
  simp only [List.map_cons,List.nodup_cons] at hn
  by_cases hp:p.1=k
  ·simp [hp] at h;subst h
   simp only [adel,List.filter_cons,hp,ne_eq,not_true_eq_false,decide_false,Bool.false_eq_true,if_false,List.eraseIdx_cons_zero]
   exact List.filter_eq_self.2 fun q hq=>by
    have:q.1≠p.1:=fun e=>hn.1 (List.mem_map.2 ⟨q,hq,e⟩)
    rw [hp] at this;simpa using this
  ·simp only [hp,decide_false,Bool.false_eq_true,if_false,Option.map_eq_some_iff] at h
   obtain ⟨i,hi,rfl⟩:=h
   have:=ih hn.2 hi
   unfold adel at this ⊢
   simp [List.filter_cons,hp]
   simpa using this
theorem aset_keys {m:List (κ × β)} {k:κ} {v:β} (hn:(m.map (·.1)).Nodup):((aset m k v).map (·.1)).Nodup:=by
 cases h:(m.findIdx? fun p=>decide (p.1=k)) with
 |none=>
  rw [aset_absent h,List.map_append,List.nodup_append]
  refine ⟨hn,by simp,?_⟩
  intro a ha b hb
  simp at hb;subst hb
  rw [List.findIdx?_eq_none_iff] at h
  obtain ⟨p,hp,rfl⟩:=List.mem_map.1 ha
  have:=h p hp
  simpa using this
 |some j=>
  rw [aset_present h]
  obtain ⟨hj,hk,_⟩:=List.findIdx?_eq_some_iff_getElem.1 h
  have:(m.set j (k,v)).map (·.1)=m.map (·.1):=by
   apply List.ext_getElem
   ·simp
   ·intro i h1 h2
    simp only [List.getElem_map,List.getElem_set]
    split
    ·rename_i e;subst e;simpa using (of_decide_eq_true hk).symm
    ·rfl
  rw [this];exact hn
theorem wf_push {es:Array MapEntry} {clock:Nat} (h:Wf es clock) (k v:Value):Wf (es.push {key:=k,val:=v,born:=clock}) (clock+1):=by
 refine ⟨?_,?_⟩
 ·rw [Array.toList_push,List.pairwise_append]
  exact ⟨h.births,by simp,fun a ha b hb=>by simp at hb;subst hb;exact h.lt a ha⟩
 ·intro e he
  rw [Array.toList_push,List.mem_append] at he
  rcases he with he|he
  ·have:=h.lt e he;omega
  ·simp at he;subst he;simp
theorem wf_modify {es:Array MapEntry} {clock:Nat} (h:Wf es clock) (i:Nat) (g:MapEntry→MapEntry) (hg:∀e,(g e).born=e.born):Wf (es.modify i g) clock:=by
 have hb:(es.modify i g).toList.map (·.born)=es.toList.map (·.born):=by
  apply List.ext_getElem
  ·simp
  ·intro j h1 h2
   simp only [List.getElem_map,Array.getElem_toList,Array.getElem_modify]
   split<;>simp [hg]
 refine ⟨?_,fun e he=>?_⟩
 ·have h1:(es.toList.map (·.born)).Pairwise (·<·):=List.pairwise_map.2 h.births
  rw [←hb] at h1
  exact List.pairwise_map.1 h1
 ·have:e.born∈(es.modify i g).toList.map (·.born):=List.mem_map.2 ⟨e,he,rfl⟩
  rw [hb] at this
  obtain ⟨e',he',h2⟩:=List.mem_map.1 this
  have:=h.lt e' he'
  omega
theorem MapE.put_ {w:World} {b:Nat} {l:List (κ × β)} (hM:MapE E fv w b l) (k:κ) (v:β):∃es clock f,At w b (.map es clock)∧findK E.s E.ks (E.f k) es.toList 0=some f∧
  MapE E fv (setObjW w b (.map (putEntry es clock (E.f k) (fv v) f).1 (putEntry es clock (E.f k) (fv v) f).2)) b (aset l k v):=by
 obtain ⟨es,clock,hat,hwf,heq,hn⟩:=hM
 refine ⟨es,clock,_,hat,findK_enc (E:=E) (fv:=fv) k es.toList l 0 heq,?_⟩
 cases h:(l.findIdx? fun p=>decide (p.1=k)) with
 |none=>
  simp only [Option.bind_none,putEntry]
  refine ⟨_,_,hat.setObj,wf_push hwf _ _,?_,aset_keys hn⟩
  rw [aset_absent h,Array.toList_push,List.map_append,List.map_append,heq]
  rfl
 |some j=>
  obtain ⟨hj,hk,_⟩:=List.findIdx?_eq_some_iff_getElem.1 h
  simp only [Option.bind_some,List.getElem?_eq_getElem hj,Option.map_some,putEntry,Nat.zero_add]
  refine ⟨_,_,hat.setObj,wf_modify hwf _ _ (fun _=>rfl),?_,aset_keys hn⟩
  rw [aset_present h]
  apply List.ext_getElem
  ·have:=congrArg List.length heq;simpa using this
  ·intro i h1 h2
   have h3:i<es.toList.length:=by simpa using h1
   have h4:i<l.length:=by simpa using h2
   have h5:(es.toList.map (fun e=>(e.key,e.val)))[i]'(by simpa using h3)=(l.map (fun p=>(E.f p.1,fv p.2)))[i]'(by simpa using h4):=by simp only [heq]
   simp only [List.getElem_map] at h5
   simp only [List.getElem_map,Array.getElem_toList,Array.getElem_modify,List.getElem_set] at h5 ⊢
   split
   ·rfl
   ·exact h5
theorem MapE.del_ {w:World} {b:Nat} {l:List (κ × β)} (hM:MapE E fv w b l) (k:κ):∃es clock f,At w b (.map es clock)∧findK E.s E.ks (E.f k) es.toList 0=some f∧
  MapE E fv (setObjW w b (.map (match f with|some (i,_)=>es.eraseIdxIfInBounds i|none=>es) clock)) b (adel l k):=by
 obtain ⟨es,clock,hat,hwf,heq,hn⟩:=hM
 refine ⟨es,clock,_,hat,findK_enc (E:=E) (fv:=fv) k es.toList l 0 heq,?_⟩
 have hnd:((adel l k).map (·.1)).Nodup:=(List.Sublist.map Prod.fst List.filter_sublist).nodup hn
 cases h:(l.findIdx? fun p=>decide (p.1=k)) with
 |none=>
  simp only [Option.bind_none]
  exact ⟨_,_,hat.setObj,hwf,by rw [adel_absent h];exact heq,hnd⟩
 |some j=>
  obtain ⟨hj,hk,_⟩:=List.findIdx?_eq_some_iff_getElem.1 h
  simp only [Option.bind_some,List.getElem?_eq_getElem hj,Option.map_some,Nat.zero_add]
  have hjs:j<es.size:=by have:=congrArg List.length heq;simp at this;omega
  have he:(es.eraseIdxIfInBounds j).toList=es.toList.eraseIdx j:=by simp [Array.eraseIdxIfInBounds,hjs]
  refine ⟨_,_,hat.setObj,⟨?_,?_⟩,?_,hnd⟩
  ·rw [he];exact hwf.births.sublist (List.eraseIdx_sublist _ _)
  ·intro e hm;rw [he] at hm;exact hwf.lt e (List.mem_of_mem_eraseIdx hm)
  ·rw [he,adel_present hn h,map_erase,heq,map_erase]
section
variable {d:Option Tmp} {r:KR} {K:Env→World→Prop} {ρ:Env} {w:World}
theorem st_mapUpdate {s:Bool} {ks:List CK} {m x y:Operand} {b:Nat} {l:List (κ × β)} {k:κ} {v:β} (hm:ev ρ m=.map (some b)) (hx:ev ρ x=E.f k) (hy:ev ρ y=fv v) (hM:MapE E fv w b l) (hs:s=E.s) (hks:ks=E.ks)
  (kk:∀w',Chg [b] w w'→MapE E fv w' b (aset l k v)→regK P r K (put ρ d undef) w'):regK P (.cons ⟨d,.mapUpdate s ks m x y,none⟩ r) K ρ w:=by
 subst hs hks
 obtain ⟨es,clock,f,hat,hf,hM'⟩:=hM.put_ k v
 refine st_wp ⟨b,es,clock,f,hm,hat,by rw [hx];exact E.ok k,by rw [hx];exact hf,?_⟩
 rw [hx,hy]
 exact kk _ (Chg.setObj _ _ _) hM'
theorem st_delete {s:Bool} {ks:List CK} {m x:Operand} {b:Nat} {l:List (κ × β)} {k:κ} (hm:ev ρ m=.map (some b)) (hx:ev ρ x=E.f k) (hM:MapE E fv w b l) (hs:s=E.s) (hks:ks=E.ks)
  (kk:∀w',Chg [b] w w'→MapE E fv w' b (adel l k)→regK P r K (put ρ d (.tuple #[])) w'):regK P (.cons ⟨d,.delete s ks m x,none⟩ r) K ρ w:=by
 subst hs hks
 obtain ⟨es,clock,f,hat,hf,hM'⟩:=hM.del_ k
 refine st_wp ⟨b,es,clock,f,hm,hat,by rw [hx];exact E.ok k,by rw [hx];exact hf,kk _ (Chg.setObj _ _ _) hM'⟩
end
def MapPend (E:KEnc κ) (fv:β→Value) (w:World) (b:Nat) (l:List (κ × β)) (k:κ) (st:Nat):Prop:=
 ∃es clock i,At w b (.map es clock)∧Wf es clock∧(∃h:i<es.size,es[i].born=st)∧(∀v:β,(es.modify i fun e=>{e with val:=fv v}).toList.map (fun e=>(e.key,e.val))=(aset l k v).map (fun p=>(E.f p.1,fv p.2)))∧(l.map (·.1)).Nodup
theorem MapPend.chg {s:List Nat} {w w':World} {b:Nat} {l:List (κ × β)} {k:κ} {st:Nat} (hc:Chg s w w') (h:MapPend E fv w b l k st) (hb:b∉s):MapPend E fv w' b l k st:=by
 obtain ⟨es,clock,i,h1,h2⟩:=h;exact ⟨es,clock,i,h1.chg hc hb,h2⟩
theorem MapPend.ext {w w':World} {b:Nat} {l:List (κ × β)} {k:κ} {st:Nat} (hc:Ext w w') (h:MapPend E fv w b l k st):MapPend E fv w' b l k st:=h.chg hc (by simp)
section
variable {d:Option Tmp} {r:KR} {K:Env→World→Prop} {ρ:Env} {w:World}
theorem st_mapEntry {s:Bool} {ks:List CK} {z:Value} {m x:Operand} {b:Nat} {l:List (κ × β)} {k:κ} (hm:ev ρ m=.map (some b)) (hx:ev ρ x=E.f k) (hM:MapE E fv w b l) (hs:s=E.s) (hks:ks=E.ks)
  (kk:∀(st:Nat) w',Chg [b] w w'→MapPend E fv w' b l k st→regK P r K (put ρ d (.tuple #[match aget l k with|some v=>fv v|none=>z,.int .i64 (st:Int)])) w'):regK P (.cons ⟨d,.mapEntry s ks z m x,none⟩ r) K ρ w:=by
 subst hs hks
 obtain ⟨es,clock,hat,hwf,heq,hn⟩:=hM
 have hf:=findK_enc (E:=E) (fv:=fv) k es.toList l 0 heq
 have hlen:es.size=l.length:=by have:=congrArg List.length heq;simpa using this
 refine st_wp ⟨b,es,clock,_,hm,hat,by rw [hx];exact E.ok k,by rw [hx];exact hf,?_⟩
 cases h:(l.findIdx? fun p=>decide (p.1=k)) with
 |none=>
  have hg:aget l k=none:=by rw [aget_idx,h];rfl
  rw [hg] at kk
  simp only [Option.bind_none]
  rw [hx]
  refine kk clock _ (Chg.setObj _ _ _) ⟨_,_,es.size,hat.setObj,wf_push hwf _ _,⟨by simp,by simp⟩,fun v=>?_,hn⟩
  rw [aset_absent h,List.map_append,←heq]
  apply List.ext_getElem
  ·simp
  ·intro i h1 h2
   have h3:i<es.size+1:=by simpa using h1
   simp only [List.getElem_map,Array.getElem_toList,Array.getElem_modify,List.getElem_append,List.length_map,Array.length_toList]
   by_cases hi:i<es.size
   ·rw [dif_pos hi]
    have hne:¬(es.size=i):=by omega
    simp [hne,Array.getElem_push_lt hi]
   ·have:i=es.size:=by omega
    subst this
    simp
 |some j=>
  obtain ⟨hj,hk,_⟩:=List.findIdx?_eq_some_iff_getElem.1 h
  have hjs:j<es.size:=by omega
  have hg:aget l k=some l[j].2:=by rw [aget_idx,h];simp [List.getElem?_eq_getElem hj]
  rw [hg] at kk
  simp only [Option.bind_some,List.getElem?_eq_getElem hj,Option.map_some,Nat.zero_add]
  rw [hx]
  have e1:(((es[j]?).map (·.born)).getD 0)=es[j].born:=by simp [Array.getElem?_eq_getElem hjs]
  rw [e1]
  refine kk es[j].born _ (Chg.setObj _ _ _) ⟨_,_,j,hat.setObj,wf_modify hwf _ _ (fun _=>rfl),⟨by simpa using hjs,by rw [Array.getElem_modify,if_pos rfl]⟩,fun v=>?_,hn⟩
  rw [aset_present h]
  apply List.ext_getElem
  ·simpa using hlen
  ·intro i h1 h2
   have h3:i<es.toList.length:=by simpa using h1
   have h4:i<l.length:=by simpa using h2
   have h5:(es.toList.map (fun e=>(e.key,e.val)))[i]'(by simpa using h3)=(l.map (fun p=>(E.f p.1,fv p.2)))[i]'(by simpa using h4):=by simp only [heq]
   simp only [List.getElem_map] at h5
   simp only [List.getElem_map,Array.getElem_toList,Array.getElem_modify,List.getElem_set] at h5 ⊢
   split
   ·rfl
   ·exact h5
theorem find_born {es:Array MapEntry} {clock i:Nat} (hw:Wf es clock) (hi:i<es.size) {n:Int} (hn:n=(es[i].born:Int)):es.findIdx? (fun e=>(e.born:Int)==n)=some i:=by
 subst hn
 rw [Array.findIdx?_eq_some_iff_getElem]
 refine ⟨hi,by simp,fun j hj=>?_⟩
 have:=List.pairwise_iff_getElem.1 hw.births j i (by simp;omega) (by simpa using hi) hj
 simp only [Array.getElem_toList] at this
 simp;omega
theorem st_entryStore {m x y:Operand} {b:Nat} {l:List (κ × β)} {k:κ} {v:β} {st:Nat} {kd:IntKind} (hm:ev ρ m=.map (some b)) (hx:ev ρ x=.int kd (st:Int)) (hy:ev ρ y=fv v) (hM:MapPend E fv w b l k st)
  (kk:∀w',Chg [b] w w'→MapE E fv w' b (aset l k v)→regK P r K (put ρ d undef) w'):regK P (.cons ⟨d,.entryStore m x y,none⟩ r) K ρ w:=by
 obtain ⟨es,clock,i,hat,hwf,⟨hi,hst⟩,hall,hn⟩:=hM
 refine st_wp ⟨b,es,clock,kd,st,i,hm,hat,hx,find_born hwf hi (by rw [hst]),?_⟩
 rw [hy]
 exact kk _ (Chg.setObj _ _ _) ⟨_,_,hat.setObj,wf_modify hwf _ _ (fun _=>rfl),hall v,aset_keys hn⟩
end
section
variable {d:Option Tmp} {r:KR} {K:Env→World→Prop} {ρ:Env} {w:World}
end
end Go.K
end
