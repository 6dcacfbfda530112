/- The engine, part 7: steps, and words on memory. The engine,  -/
import Derived.Below
import Derived.Sort.Grow
import Derived.Deep.Draws
import Derived.Test.YtfebcajheojodaaGreatDoorZ6
set_option linter.unusedVariables false
set_option linter.unusedSimpArgs false
namespace Go.K
section
open Go
variable {P:Program}
structure Chg (l:List Nat) (w w':World):Prop where
 os:w'.os=w.os
 tape:w'.tape=w.tape
 output:w'.output=w.output
 size:w.heap.size≤w'.heap.size
 block:∀b,b<w.heap.size→b∉l→w'.heap[b]? =w.heap[b]?
def Ext (w w':World):Prop:=Chg [] w w'
theorem Chg.refl (l:List Nat) (w:World):Chg l w w:=⟨rfl,rfl,rfl,Nat.le_refl _,fun _ _ _=>rfl⟩
theorem Ext.refl (w:World):Ext w w:=Chg.refl [] w
theorem Chg.trans {l l':List Nat} {w w1 w2:World} (h:Chg l w w1) (h':Chg l' w1 w2):Chg (l++l') w w2:=
 ⟨h'.os.trans h.os,h'.tape.trans h.tape,h'.output.trans h.output,nTr h.size h'.size,fun b hb hn=>by
  rw [List.mem_append,not_or] at hn
  exact (h'.block b (nLt hb h.size) hn.2).trans (h.block b hb hn.1)⟩
theorem Chg.mono {l l':List Nat} {w w':World} (h:Chg l w w') (hl:∀b∈l,b∈l'∨w.heap.size≤b):Chg l' w w':=
 ⟨h.os,h.tape,h.output,h.size,fun b hb hn=>h.block b hb fun hm=>by
  rcases hl b hm with h1|h1
  ·exact hn h1
  ·omega⟩
theorem Ext.trans {w w1 w2:World} (h:Ext w w1) (h':Ext w1 w2):Ext w w2:=Chg.trans h h'
theorem Chg.ext {l:List Nat} {w w1 w2:World} (h:Chg l w w1) (h':Ext w1 w2):Chg l w w2:=by simpa using Chg.trans h h'
theorem Ext.chg {l:List Nat} {w w1 w2:World} (h:Ext w w1) (h':Chg l w1 w2):Chg l w w2:=Chg.trans h h'
theorem Ext.drew (w:World):Ext w w.drew:=⟨rfl,rfl,rfl,Nat.le_refl _,fun _ _ _=>rfl⟩
theorem Ext.alloc (w:World) (o:Obj):Ext w (w.alloc o):=⟨rfl,rfl,rfl,by simp,fun b hb _=>by show (w.heap.push o)[b]? =_;rw [Array.getElem?_push,if_neg (by omega)]⟩
theorem Ext.size {w w':World} (h:Ext w w'):w.heap.size≤w'.heap.size:=Chg.size h
theorem Ext.below {w w':World} (h:Ext w w'):RowKit.Below w.heap.size w w':=⟨h.os,h.tape,h.output,Chg.size h,fun k hk=>Chg.block h k hk (by simp)⟩
theorem Chg.setObj (w:World) (r:Nat) (o:Obj):Chg [r] w (eL w r o):=
 ⟨rfl,rfl,rfl,by simp [eL],fun b _ hn=>by
  show (w.heap.setIfInBounds r o)[b]? =_
  rw [Array.getElem?_setIfInBounds_ne (by simp at hn;omega)]⟩
theorem Chg.setCell (w:World) (a:Addr) (v:Value):Chg [a.block] w (w.setCell a v):=
 ⟨rfl,rfl,rfl,by simp,fun b _ hn=>by
  show (w.heap.modify a.block _)[b]? =_
  rw [Array.getElem?_modify,if_neg (by simp at hn;omega)]⟩
def At (w:World) (b:Nat) (o:Obj):Prop:=w.heap[b]? =some o
theorem At.lt {w:World} {b:Nat} {o:Obj} (h:At w b o):b<w.heap.size:=(Array.getElem?_eq_some_iff.1 h).1
theorem At.chg {l:List Nat} {w w':World} {b:Nat} {o:Obj} (hc:Chg l w w') (h:At w b o) (hb:b∉l):At w' b o:=(hc.block b h.lt hb).trans h
theorem At.ext {w w':World} {b:Nat} {o:Obj} (hc:Ext w w') (h:At w b o):At w' b o:=h.chg hc (by simp)
theorem At.new (w:World) (o:Obj):At (w.alloc o) w.heap.size o:=by show (w.heap.push o)[w.heap.size]? =_;simp
theorem At.setObj {w:World} {r:Nat} {o o':Obj} (h:At w r o):At (eL w r o') r o':=by
 show (w.heap.setIfInBounds r o')[r]? =_
 rw [Array.getElem?_setIfInBounds_self_of_lt h.lt]
theorem At.inj {w:World} {b:Nat} {o o':Obj} (h:At w b o) (h':At w b o'):o=o':=by unfold At at h h';rw [h] at h';injection h'
theorem At.ne {w:World} {b b':Nat} {o o':Obj} (h:At w b o) (h':At w b' o') (hne:o≠o'):b≠b':=fun e=>by subst e;exact hne (h.inj h')
def Row (w:World) (ad:Addr) (cs:List Value):Prop:=∀j v,cs[j]? =some v→w.cell? (ad.add j)=some v
theorem add_add (a:Addr) (i j:Nat):(a.add i).add j=a.add (i+j):=by
 unfold Addr.add
 by_cases hi:i=0<;>by_cases hj:j=0<;>simp [hi,hj,Nat.add_assoc]
theorem add_block (a:Addr) (n:Nat):(a.add n).block=a.block:=by unfold Addr.add;split<;>rfl
theorem cell_of_heap {w w':World} {a:Addr} (h:w'.heap[a.block]? =w.heap[a.block]?):w'.cell? a=w.cell? a:=by unfold World.cell?;rw [h]
theorem cell_lt {w:World} {a:Addr} {v:Value} (h:w.cell? a=some v):a.block<w.heap.size:=by
 unfold World.cell? at h
 rcases Nat.lt_or_ge a.block w.heap.size with h1|h1
 ·exact h1
 ·rw [Array.getElem?_eq_none h1] at h;cases h
theorem Row.chg {l:List Nat} {w w':World} {ad:Addr} {cs:List Value} (hc:Chg l w w') (h:Row w ad cs) (hb:ad.block∉l):Row w' ad cs:=fun j v hj=>by
 have h1:=h j v hj
 have h2:=cell_lt h1
 rw [add_block] at h2
 rw [cell_of_heap (w:=w) (by rw [add_block];exact hc.block _ h2 hb)];exact h1
theorem Row.ext {w w':World} {ad:Addr} {cs:List Value} (hc:Ext w w') (h:Row w ad cs):Row w' ad cs:=h.chg hc (by simp)
theorem Row.of_at {w:World} {b:Nat} {cs:List Value} {t:TypeId} {f:Nat × Nat} (h:At w b (.cells cs.toArray t f)):Row w ⟨b,0,none⟩ cs:=fun j v hj=>by
 unfold At at h
 have:(Addr.add ⟨b,0,none⟩ j)=⟨b,j,none⟩:=by unfold Addr.add;split<;>simp_all
 rw [this]
 simp [World.cell?,h,hj]
theorem Row.c0 {w:World} {ad:Addr} {cs:List Value} {v:Value} (h:Row w ad cs) (hv:cs[0]? =some v):w.cell? ad=some v:=by have:=h 0 v hv;rwa [add_zero] at this
theorem Row.c1 {w:World} {ad:Addr} {cs:List Value} {o:Nat} {v:Value} (h:Row w ad cs) (hv:cs[o]? =some v):w.cell? (ad.add o)=some v:=h o v hv
theorem Row.c2 {w:World} {ad:Addr} {cs:List Value} {o p:Nat} {v:Value} (h:Row w ad cs) (hv:cs[o+p]? =some v):w.cell? ((ad.add o).add p)=some v:=by rw [add_add];exact h _ v hv
theorem Row.c3 {w:World} {ad:Addr} {cs:List Value} {o p q:Nat} {v:Value} (h:Row w ad cs) (hv:cs[o+(p+q)]? =some v):w.cell? (((ad.add o).add p).add q)=some v:=by rw [add_add,add_add];exact h _ v hv
theorem Row.rd {w:World} {ad:Addr} {cs:List Value} (h:Row w ad cs):∀(n i:Nat),i+n≤cs.length→rdCells w ad i n=some ((cs.drop i).take n)
 |0,i,_=>by simp [rdCells]
 |n+1,i,hn=>by
  have hlt:i<cs.length:=by omega
  have h1:=h i _ (List.getElem?_eq_getElem hlt)
  simp only [rdCells,h1,Option.bind_some,h.rd n (i+1) (by omega),Option.map_some]
  rw [List.drop_eq_getElem_cons hlt,List.take_succ_cons]
theorem aW8 {w:World} {ad:Addr} {o:Nat}:∀(n i:Nat),rdCells w (ad.add o) i n=rdCells w ad (o+i) n
 |0,i=>rfl
 |n+1,i=>by simp only [rdCells,add_add,aW8 n (i+1),Nat.add_assoc]
theorem Row.r0 {w:World} {ad:Addr} {cs l:List Value} {n:Nat} (h:Row w ad cs) (hn:n≤cs.length) (hl:cs.take n=l):rdCells w ad 0 n=some l:=by rw [h.rd n 0 (by omega),←hl];simp
theorem Row.r1 {w:World} {ad:Addr} {cs l:List Value} {o n:Nat} (h:Row w ad cs) (hn:o+n≤cs.length) (hl:(cs.drop o).take n=l):rdCells w (ad.add o) 0 n=some l:=by rw [aW8,h.rd n (o+0) (by omega),←hl];rfl
theorem Row.r2 {w:World} {ad:Addr} {cs l:List Value} {o p n:Nat} (h:Row w ad cs) (hn:o+p+n≤cs.length) (hl:(cs.drop (o+p)).take n=l):rdCells w ((ad.add o).add p) 0 n=some l:=by rw [add_add];exact h.r1 hn hl
def Sl (w:World) (k:Nat) (v:Value) (n:Nat) (cs:List Value):Prop:=
 cs.length=n*k∧∃base cap,v=.slice base n cap∧n≤cap∧(0<cs.length→∃a,base=some a∧Row w a cs)
theorem Sl.chg {l:List Nat} {w w':World} {k n:Nat} {v:Value} {cs:List Value} (hc:Chg l w w') (h:Sl w k v n cs) (hb:∀a m c,v=.slice (some a) m c→a.block∉l):Sl w' k v n cs:=by
 obtain ⟨h1,base,cap,hv,hnc,h2⟩:=h
 refine ⟨h1,base,cap,hv,hnc,fun hp=>?_⟩
 obtain ⟨a,ha,hr⟩:=h2 hp
 exact ⟨a,ha,hr.chg hc (hb a _ _ (by rw [hv,ha]))⟩
theorem Sl.ext {w w':World} {k n:Nat} {v:Value} {cs:List Value} (hc:Ext w w') (h:Sl w k v n cs):Sl w' k v n cs:=h.chg hc (by simp)
theorem Sl.nil (w:World) (k:Nat):Sl w k (.slice none 0 0) 0 []:=⟨by simp,_,_,rfl,Nat.le_refl _,fun h=>by simp at h⟩
theorem Sl.cells {w:World} {k n:Nat} {v:Value} {cs:List Value} (h:Sl w k v n cs):dD w k v=some (n,cs):=by
 obtain ⟨h1,base,cap,rfl,_,h2⟩:=h
 by_cases hp:0<cs.length
 ·obtain ⟨a,rfl,hr⟩:=h2 hp
  have:=hr.rd (n*k) 0 (by omega)
  simp only [dD,this,Option.map_some,List.drop_zero]
  rw [←h1,List.take_length]
 ·have hc:cs= []:=List.length_eq_zero_iff.1 (by omega)
  subst hc
  have h0:n*k=0:=by simpa using h1.symm
  cases base with
  |none=>rfl
  |some a=>simp [dD,h0,rdCells]
theorem Sl.at_ {w:World} {k n:Nat} {v:Value} {cs:List Value} (h:Sl w k v n cs) (hk:0<k) {i:Nat} (hi:i<n):∃a cap,v=.slice (some a) n cap∧Row w (a.add (i*k)) ((cs.drop (i*k)).take k):=by
 obtain ⟨h1,base,cap,rfl,_,h2⟩:=h
 have hik:i*k+k≤n*k:=by have:=Nat.mul_le_mul_right k (show i+1≤n from hi);rw [Nat.add_mul,Nat.one_mul] at this;exact this
 obtain ⟨a,rfl,hr⟩:=h2 (by omega)
 refine ⟨a,cap,rfl,fun j u hj=>?_⟩
 rw [add_add]
 refine hr _ u ?_
 have hjk:j<k:=by
  rcases Nat.lt_or_ge j k with h|h
  ·exact h
  ·rw [List.getElem?_eq_none (by simp;omega)] at hj;cases hj
 rw [List.getElem?_take,if_pos hjk,List.getElem?_drop] at hj
 exact hj
section
variable {d:Option Tmp} {r:KR} {K:Env→World→Prop} {ρ:Env} {w:World}
theorem bNh (h:K ρ w):aO P .nil K ρ w:=h
theorem fR {a b:KR} (h1:aO P a K ρ w) (h2:aO P b K ρ w):aO P (.both a b) K ρ w:=⟨h1,h2⟩
theorem bCy {a b:KR} (h:aO P a (aO P b K) ρ w):aO P (.join a b) K ρ w:=h
theorem bPa {o:KOp} {g:Tmp × Bool} (h:lT ρ (some g)=true) (k:aO P (.cons ⟨d,o,none⟩ r) K ρ w):aO P (.cons ⟨d,o,some g⟩ r) K ρ w:=by
 simp only [aO,h,if_true]
 simpa [aO,lT] using k
theorem bJ5 {o:KOp} {g:Tmp × Bool} (h:lT ρ (some g)=false) (k:aO P r K (put ρ d undef) w):aO P (.cons ⟨d,o,some g⟩ r) K ρ w:=by
 simp only [aO,h,Bool.false_eq_true,if_false];exact k
theorem aGv {t:Tmp} {v:Value} (h:ρ t=v):upd ρ t v=ρ:=by
 funext u;unfold upd;split
 ·subst_vars;rfl
 ·rfl
theorem qE {o:KOp} {t:Tmp} {b:Bool} {p:Prop} [Decidable p] (h:ρ t=.bool (decide p)) (h1:p→aO P (.cons ⟨d,o,some (t,b)⟩ r) K (upd ρ t (.bool true)) w) (h2:¬p→aO P (.cons ⟨d,o,some (t,b)⟩ r) K (upd ρ t (.bool false)) w):aO P (.cons ⟨d,o,some (t,b)⟩ r) K ρ w:=by
 by_cases hp:p
 ·have:=h1 hp;rwa [aGv (by rw [h];simp [hp])] at this
 ·have:=h2 hp;rwa [aGv (by rw [h];simp [hp])] at this
theorem aUq {o:KOp} {t:Tmp} {b c:Bool} (h:ρ t=.bool c) (h1:c=true→aO P (.cons ⟨d,o,some (t,b)⟩ r) K (upd ρ t (.bool true)) w) (h2:c=false→aO P (.cons ⟨d,o,some (t,b)⟩ r) K (upd ρ t (.bool false)) w):aO P (.cons ⟨d,o,some (t,b)⟩ r) K ρ w:=by
 cases hc:c
 ·have:=h2 hc;rwa [aGv (by rw [h,hc])] at this
 ·have:=h1 hc;rwa [aGv (by rw [h,hc])] at this
theorem iI {o:KOp} (h:o.wp P ρ w fun v w'=>aO P r K (put ρ d v) w'):aO P (.cons ⟨d,o,none⟩ r) K ρ w:=by simpa [aO,lT] using h
theorem qQ {o:KOp} {k:Value→World→Prop} {v:Value} (hs:o.isStill=true) (h:o.rd ρ w=some v) (hk:k v w):o.wp P ρ w k:=by
 cases o<;>first|exact ⟨v,h,hk⟩|(simp [KOp.isStill,KOp.isFix] at hs;done)
theorem bOr {f:FuncId} {F:List Value→Option Value} {as:List Operand} {v:Value} (h:F (as.map (ev ρ))=some v) (k:aO P r K (put ρ d v) w):aO P (.cons ⟨d,.pcall f F as,none⟩ r) K ρ w:=iI (qQ rfl h k)
theorem dK {o:KOp} {v:Value} (hs:o.isFix=true) (h:o.fix ρ=some v) (k:aO P r K (put ρ d v) w):aO P (.cons ⟨d,o,none⟩ r) K ρ w:=
 iI (qQ (tZ hs) (by rw [KOp.rd_fix hs];exact h) k)
theorem bLm {x:Operand} (k:aO P r K (put ρ d (ev ρ x)) w):aO P (.cons ⟨d,.move x,none⟩ r) K ρ w:=dK rfl rfl k
theorem bHz {x y:Operand} {a b:Int} (hx:ev ρ x=.int .i64 a) (hy:ev ρ y=.int .i64 b) (hr: -9223372036854775808≤a+b∧a+b≤9223372036854775807) (k:aO P r K (put ρ d (.int .i64 (a+b))) w):aO P (.cons ⟨d,.bin .add x y,none⟩ r) K ρ w:=
 dK rfl (by simp [KOp.fix,hx,hy,cC,dX,dL,IntWalk.i64_in _ hr]) k
theorem bNw {x y:Operand} {a b:Int} (hx:ev ρ x=.int .i64 a) (hy:ev ρ y=.int .i64 b) (hr: -9223372036854775808≤a - b∧a - b≤9223372036854775807) (k:aO P r K (put ρ d (.int .i64 (a - b))) w):aO P (.cons ⟨d,.bin .sub x y,none⟩ r) K ρ w:=
 dK rfl (by simp [KOp.fix,hx,hy,cC,dX,dL,IntWalk.i64_in _ hr]) k
theorem rI {x y:Operand} {a b:Int} (hx:ev ρ x=.int .i64 a) (hy:ev ρ y=.int .i64 b) (hr: -9223372036854775808≤a*b∧a*b≤9223372036854775807) (k:aO P r K (put ρ d (.int .i64 (a*b))) w):aO P (.cons ⟨d,.bin .mul x y,none⟩ r) K ρ w:=
 dK rfl (by simp [KOp.fix,hx,hy,cC,dX,dL,IntWalk.i64_in _ hr]) k
theorem lR {size:Nat} {x i:Operand} {a:Addr} {ln cap:Nat} {kd:IntKind} {n:Int} (hx:ev ρ x=.slice (some a) ln cap) (hi:ev ρ i=.int kd n) (hr:0≤n∧n<(ln:Int)) (k:aO P r K (put ρ d (.pointer (some (a.add (n.toNat*size))))) w):aO P (.cons ⟨d,.indexAddr size x i,none⟩ r) K ρ w:=
 dK rfl (by simp [KOp.fix,hx,hi,hr]) k
theorem bLt {size:Nat} {x i:Operand} {v:Value} {cs:List Value} {ln:Nat} {kd:IntKind} {n:Nat} (hx:ev ρ x=v) (hi:ev ρ i=.int kd (n:Nat)) (hs:Sl w size v ln cs) (hk:0<size) (hr:n<ln) (k:∀ad,Row w ad ((cs.drop (n*size)).take size)→aO P r K (put ρ d (.pointer (some ad))) w):aO P (.cons ⟨d,.indexAddr size x i,none⟩ r) K ρ w:=by
 obtain ⟨a,cap,rfl,hrow⟩:=hs.at_ hk hr
 exact dK rfl (by simp [KOp.fix,hx,hi,hr]) (k _ hrow)
theorem aD9 {x:Operand} {ad:Addr} {v:Value} (hx:ev ρ x=.pointer (some ad)) (h:w.cell? ad=some v) (k:aO P r K (put ρ d v) w):aO P (.cons ⟨d,.load x,none⟩ r) K ρ w:=
 iI (qQ rfl (by simp [KOp.rd,hx,h]) k)
theorem aNs {n:Nat} {x:Operand} {ad:Addr} {l:List Value} (hx:ev ρ x=.pointer (some ad)) (h:rdCells w ad 0 n=some l) (k:aO P r K (put ρ d (.agg l.toArray)) w):aO P (.cons ⟨d,.loadN n x,none⟩ r) K ρ w:=
 iI (qQ rfl (by simp [KOp.rd,hx,h]) k)
theorem bN2 {x:Operand} {ad:Addr} {cs:List Value} {v:Value} (hx:ev ρ x=.pointer (some ad)) (h:Row w ad cs) (hv:cs[0]? =some v) (k:aO P r K (put ρ d v) w):aO P (.cons ⟨d,.load x,none⟩ r) K ρ w:=aD9 hx (h.c0 hv) k
theorem bI5 {x:Operand} {ad:Addr} {o:Nat} {cs:List Value} {v:Value} (hx:ev ρ x=.pointer (some (ad.add o))) (h:Row w ad cs) (hv:cs[o]? =some v) (k:aO P r K (put ρ d v) w):aO P (.cons ⟨d,.load x,none⟩ r) K ρ w:=aD9 hx (h.c1 hv) k
theorem bM1 {x:Operand} {ad:Addr} {o p:Nat} {cs:List Value} {v:Value} (hx:ev ρ x=.pointer (some ((ad.add o).add p))) (h:Row w ad cs) (hv:cs[o+p]? =some v) (k:aO P r K (put ρ d v) w):aO P (.cons ⟨d,.load x,none⟩ r) K ρ w:=aD9 hx (h.c2 hv) k
theorem bNm {x:Operand} {ad:Addr} {o p q:Nat} {cs:List Value} {v:Value} (hx:ev ρ x=.pointer (some (((ad.add o).add p).add q))) (h:Row w ad cs) (hv:cs[o+(p+q)]? =some v) (k:aO P r K (put ρ d v) w):aO P (.cons ⟨d,.load x,none⟩ r) K ρ w:=aD9 hx (h.c3 hv) k
theorem mD {n:Nat} {x:Operand} {ad:Addr} {cs l:List Value} (hx:ev ρ x=.pointer (some ad)) (h:Row w ad cs) (hn:n≤cs.length) (hl:cs.take n=l) (k:aO P r K (put ρ d (.agg l.toArray)) w):aO P (.cons ⟨d,.loadN n x,none⟩ r) K ρ w:=aNs hx (h.r0 hn hl) k
theorem bM5 {n:Nat} {x:Operand} {ad:Addr} {o:Nat} {cs l:List Value} (hx:ev ρ x=.pointer (some (ad.add o))) (h:Row w ad cs) (hn:o+n≤cs.length) (hl:(cs.drop o).take n=l) (k:aO P r K (put ρ d (.agg l.toArray)) w):aO P (.cons ⟨d,.loadN n x,none⟩ r) K ρ w:=aNs hx (h.r1 hn hl) k
theorem bN6 {n:Nat} {x:Operand} {ad:Addr} {o p:Nat} {cs l:List Value} (hx:ev ρ x=.pointer (some ((ad.add o).add p))) (h:Row w ad cs) (hn:o+p+n≤cs.length) (hl:(cs.drop (o+p)).take n=l) (k:aO P r K (put ρ d (.agg l.toArray)) w):aO P (.cons ⟨d,.loadN n x,none⟩ r) K ρ w:=aNs hx (h.r2 hn hl) k
theorem uC {t:TypeId} {x:Operand} {v:Value} {cs:List Value} (hx:ev ρ x=v) (hc:v.cells=cs.toArray) (k:∀b w',Ext w w'→At w' b (.cells cs.toArray t)→Row w' ⟨b,0,none⟩ cs→w.heap.size≤b→aO P r K (put ρ d (.pointer (some ⟨b,0,none⟩))) w'):aO P (.cons ⟨d,.box t x,none⟩ r) K ρ w:=
 iI (by subst hx;have h:=At.new w (.cells cs.toArray t);rw [←hc] at h;exact k _ _ (Ext.alloc w _) (by rw [←hc];exact h) (Row.of_at (by rw [←hc];exact h)) (Nat.le_refl _))
theorem aXy {t:TypeId} {z:List Value} (k:∀b w',Ext w w'→At w' b (.cells z.toArray t)→w.heap.size≤b→aO P r K (put ρ d (.pointer (some ⟨b,0,none⟩))) w'):aO P (.cons ⟨d,.alloc t z,none⟩ r) K ρ w:=
 iI (k _ _ (Ext.alloc w _) (At.new w _) (Nat.le_refl _))
theorem aAy {f:FuncId} {args:List Operand} {vs:List Value} {R:Value→World→Prop} (ha:args.map (ev ρ)=vs) (h:Spec P f vs w R) (k:∀v w',R v w'→aO P r K (put ρ d v) w'):aO P (.cons ⟨d,.call f args,none⟩ r) K ρ w:=
 iI (by subst ha;exact h.mono fun e w' ⟨v,hv,hR⟩=>⟨v,hv,k v w' hR⟩)
theorem eN {x:Operand} {args:List Operand} {f:FuncId} {first cap:Array Value} {vs:List Value} {R:Value→World→Prop} (hx:ev ρ x=.func (.func f) first cap) (hb:cM P f=true) (ha:first.toList++args.map (ev ρ)++cap.toList=vs) (h:Spec P f vs w R) (k:∀v w',R v w'→aO P r K (put ρ d v) w'):aO P (.cons ⟨d,.callV x args,none⟩ r) K ρ w:=
 iI ⟨f,first,cap,hx,hb,by
  have:first++(args.map (ev ρ)).toArray++cap=vs.toArray:=by apply Array.ext';simp [←ha]
  rw [this];exact h.mono fun e w' ⟨v,hv,hR⟩=>⟨v,hv,k v w' hR⟩⟩
end
def aOy (P:Program) (b:KC) (K:Exit→Env→World→Prop):Exit→Env→World→Prop
 |.normal,ρ,w=>aU P b K ρ w
 |e,ρ,w=>K e ρ w
def wV (id:Nat) (K:Exit→Env→World→Prop):Exit→Env→World→Prop
 |.exit id',ρ,w=>if id'=id then K .normal ρ w else K (.exit id') ρ w
 |e,ρ,w=>K e ρ w
def aBa (N:Env→World→Prop) (K:Exit→Env→World→Prop):Exit→Env→World→Prop
 |.normal,ρ,w=>N ρ w
 |e,ρ,w=>K e ρ w
section
variable {K:Exit→Env→World→Prop} {ρ:Env} {w:World} {a b:KC} {r:KR} {x:Operand}
theorem kU {K K':Env→World→Prop} (hk:∀ρ w,K ρ w→K' ρ w):∀(r:KR) {ρ w},aO P r K ρ w→aO P r K' ρ w
 |.nil,_,_,h=>hk _ _ h
 |.both a b,_,_,h=>⟨kU hk a h.1,kU hk b h.2⟩
 |.join a b,_,_,h=>kU (fun _ _ hh=>kU hk b hh) a h
 |.cons i r,ρ,w,h=>by
  simp only [aO] at h ⊢
  split
  ·rename_i hw;rw [if_pos hw] at h;exact bJd (fun v w' hv=>kU hk r hv) h
  ·rename_i hw;rw [if_neg hw] at h;exact kU hk r h
theorem gF:∀(c:KC) {K K':Exit→Env→World→Prop},(∀e ρ w,K e ρ w→K' e ρ w)→∀{ρ w},aU P c K ρ w→aU P c K' ρ w
 |.skip,_,_,hk,_,_,h=>hk _ _ _ h
 |.reg false r,_,_,hk,_,_,h=>kU (hk .normal) r h
 |.reg true r,_,_,hk,_,_,h=>kU (hk .normal) r h
 |.anyR l,_,_,hk,_,_,⟨I,h0,hs,he⟩=>⟨I,h0,hs,fun S ρ w ha hI=>hk _ _ _ (he S ρ w ha hI)⟩
 |.seq a b,_,_,hk,_,_,h=>gF a (fun e ρ w he=>by cases e<;>first|exact gF b hk he|exact hk _ _ _ he) h
 |.cond x a b,_,_,hk,_,_,⟨t,ht,h1,h2⟩=>⟨t,ht,fun e=>gF a hk (h1 e),fun e=>gF b hk (h2 e)⟩
 |.block id c,_,_,hk,_,_,h=>gF c (fun e ρ w he=>by
   cases e with
   |exit id'=>
    simp only at he ⊢
    split
    ·rename_i hq;rw [if_pos hq] at he;exact hk _ _ _ he
    ·rename_i hq;rw [if_neg hq] at he;exact hk _ _ _ he
   |_=>exact hk _ _ _ he) h
 |.loop c,_,_,hk,_,_,⟨I,μ,h0,hr⟩=>⟨I,μ,h0,fun ρ w hI=>gF c (fun e ρ w he=>by cases e<;>first|exact he|exact hk _ _ _ he) (hr ρ w hI)⟩
 |.exit id,_,_,hk,_,_,h=>hk _ _ _ h
 |.ret,_,_,hk,_,_,h=>hk _ _ _ h
 |.raw n c,_,_,hk,_,_,h=>fun a hr=>Code.wp_mono (fun e a w ⟨ρ',h1,h2⟩=>⟨ρ',h1,hk _ _ _ h2⟩) (h a hr)
theorem bMt (h:aU P a (aOy P b K) ρ w):aU P (.seq a b) K ρ w:=gF a (fun e ρ w he=>by cases e<;>exact he) h
theorem bK4 {id:Nat} (h:aU P a (wV id K) ρ w):aU P (.block id a) K ρ w:=gF a (fun e ρ w he=>by cases e<;>exact he) h
theorem bM3 (I:Env→World→Prop) (μ:Env→World→Nat) (h0:I ρ w) (h:∀ρ w,I ρ w→aU P a (aBa (fun ρ' w'=>I ρ' w'∧μ ρ' w'<μ ρ w) K) ρ w):aU P (.loop a) K ρ w:=by
 exact ⟨I,μ,h0,fun ρ w hI=>gF a (fun e ρ w he=>by cases e<;>exact he) (h ρ w hI)⟩
theorem bO4 (J:Env→World→Prop) (h:aU P a (aBa J K) ρ w) (h2:∀ρ w,J ρ w→aU P b K ρ w):aU P (.seq a b) K ρ w:=
 bMt (gF a (fun e ρ w he=>by cases e<;>first|exact h2 _ _ he|exact he) h)
theorem bM7 (h:aU P b K ρ w):aOy P b K .normal ρ w:=h
theorem bAu (h:K .ret ρ w):aOy P b K .ret ρ w:=h
theorem aV6 {id:Nat} (h:K (.exit id) ρ w):aOy P b K (.exit id) ρ w:=h
theorem bKr {id:Nat} (h:K .normal ρ w):wV id K .normal ρ w:=h
theorem aV8 {id:Nat} (h:K .ret ρ w):wV id K .ret ρ w:=h
theorem aUa {id:Nat} (h:K .normal ρ w):wV id K (.exit id) ρ w:=by simp only [wV,if_true];exact h
theorem aQ7 {id id':Nat} (hne:id'≠id) (h:K (.exit id') ρ w):wV id K (.exit id') ρ w:=by simp only [wV,if_neg hne];exact h
theorem bOa {N:Env→World→Prop} (h:N ρ w):aBa N K .normal ρ w:=h
theorem bB9 {N:Env→World→Prop} (h:K .ret ρ w):aBa N K .ret ρ w:=h
theorem aXm {N:Env→World→Prop} {id:Nat} (h:K (.exit id) ρ w):aBa N K (.exit id) ρ w:=h
theorem aC {rs:List RV} {R:Value→World→Prop} {v:Value} (hv:aFb ρ w rs=some v) (h:R v w):bQ rs R .ret ρ w:=⟨v,hv,h⟩
theorem bOx {rs:List RV} {R:Value→World→Prop} {v:Value} (hv:aFb ρ w rs=some v) (h:R v w):bQ rs R .normal ρ w:=⟨v,hv,h⟩
theorem bN7 (h:K .normal ρ w):aU P .skip K ρ w:=h
theorem bOk (h:K .ret ρ w):aU P .ret K ρ w:=h
theorem bN4 {id:Nat} (h:K (.exit id) ρ w):aU P (.exit id) K ρ w:=h
theorem bOp (h:aO P r (K .normal) ρ w):aU P (.reg false r) K ρ w:=h
theorem bNc (h:∀w',Ext w w'→aO P r (K .normal) ρ w'):aU P (.reg true r) K ρ w:=h _ (Ext.drew w)
theorem bNu (h:aO P r (aU P b K) ρ w):aU P (.seq (.reg false r) b) K ρ w:=h
theorem bK0 (h:∀w',Ext w w'→aO P r (aU P b K) ρ w'):aU P (.seq (.reg true r) b) K ρ w:=h _ (Ext.drew w)
theorem aGd {p:Prop} [Decidable p] (hx:ev ρ x=.bool (decide p)) (h1:p→aU P a K ρ w) (h2:¬p→aU P b K ρ w):aU P (.cond x a b) K ρ w:=
 ⟨decide p,hx,fun h=>h1 (by simpa using h),fun h=>h2 (by simpa using h)⟩
theorem zW {t:Bool} (hx:ev ρ x=.bool t) (h1:t=true→aU P a K ρ w) (h2:t=false→aU P b K ρ w):aU P (.cond x a b) K ρ w:=⟨t,hx,h1,h2⟩
theorem bCn {p:Prop} [Decidable p] (hx:ev ρ x=.bool (!decide p)) (h1:¬p→aU P a K ρ w) (h2:p→aU P b K ρ w):aU P (.cond x a b) K ρ w:=
 ⟨_,hx,fun h=>h1 (by simpa using h),fun h=>h2 (by simpa using h)⟩
theorem bMz (hx:ev ρ x=.bool true) (h:aU P a K ρ w):aU P (.cond x a b) K ρ w:=⟨true,hx,fun _=>h,fun h=>(by cases h)⟩
theorem aI5 (hx:ev ρ x=.bool false) (h:aU P b K ρ w):aU P (.cond x a b) K ρ w:=⟨false,hx,fun h=>(by cases h),fun _=>h⟩
end
attribute [irreducible] aOy wV aBa
end
section
open Go
variable {P:Program}
structure Enc (α:Type) where
 f:α→List Value
 k:Nat
 len:∀x,(f x).length=k
 pos:0<k
 one:∀x,∀v∈f x,v.oneCell'=true
variable {α:Type} {E:Enc α}
def Enc.flat (E:Enc α) (l:List α):List Value:=l.flatMap E.f
theorem Enc.flat_length (E:Enc α):∀(l:List α),(E.flat l).length=l.length*E.k
 | []=>by simp [Enc.flat]
 |x::l=>by
  have:=E.flat_length l
  simp only [Enc.flat,List.flatMap_cons,List.length_append,E.len,List.length_cons] at this ⊢
  rw [this,Nat.add_mul];omega
theorem Enc.flat_append (E:Enc α) (l l':List α):E.flat (l++l')=E.flat l++E.flat l':=by simp [Enc.flat]
theorem Enc.flat_at (E:Enc α):∀(l:List α) (i:Nat) (h:i<l.length),((E.flat l).drop (i*E.k)).take E.k=E.f l[i]
 |x::l,0,_=>by
  simp only [Enc.flat,List.flatMap_cons,Nat.zero_mul,List.drop_zero,List.getElem_cons_zero]
  rw [List.take_append_of_le_length (by rw [E.len];omega),tLe (by rw [E.len];omega)]
 |x::l,i+1,h=>by
  have hi:i<l.length:=by simpa using h
  have:=E.flat_at l i hi
  simp only [Enc.flat,List.flatMap_cons,List.getElem_cons_succ] at this ⊢
  rw [←this,List.drop_append,E.len,List.drop_eq_nil_of_le (by rw [E.len,Nat.add_mul];omega),List.nil_append]
  congr 2
  rw [Nat.add_mul];omega
theorem Enc.flat_one (E:Enc α) (l:List α):∀v∈E.flat l,v.oneCell'=true:=by
 intro v hv
 simp only [Enc.flat,List.mem_flatMap] at hv
 obtain ⟨x,_,hx⟩:=hv
 exact E.one x v hx
def SlE (E:Enc α) (w:World) (v:Value) (l:List α):Prop:=Sl w E.k v l.length (E.flat l)
theorem SlE.ext {w w':World} {v:Value} {l:List α} (hc:Ext w w') (h:SlE E w v l):SlE E w' v l:=Sl.ext hc h
theorem SlE.chg {s:List Nat} {w w':World} {v:Value} {l:List α} (hc:Chg s w w') (h:SlE E w v l) (hb:∀a m c,v=.slice (some a) m c→a.block∉s):SlE E w' v l:=Sl.chg hc h hb
theorem SlE.nil (w:World):SlE E w (.slice none 0 0) []:=Sl.nil w E.k
theorem SlE.form {w:World} {v:Value} {l:List α} (h:SlE E w v l):∃base cap,v=.slice base l.length cap:=by
 obtain ⟨_,base,cap,hv,_⟩:=h;exact ⟨base,cap,hv⟩
theorem SlE.cells {w:World} {v:Value} {l:List α} (h:SlE E w v l):dD w E.k v=some (l.length,E.flat l):=Sl.cells h
theorem SlE.cut {w:World} {base:Option Addr} {n cap:Nat} {l:List α} (h:SlE E w (.slice base n cap) l) {lo hi:Nat} (h1:lo≤hi) (h2:hi≤l.length) (c2:Nat) (hc2:hi - lo≤c2):
  SlE E w (.slice (if cap=lo then base else base.map fun ad:Addr=>ad.add (lo*E.k)) (hi - lo) c2) ((l.drop lo).take (hi - lo)):=by
 obtain ⟨hl,base',cap',hv,hnc,hr⟩:=h
 simp only [Value.slice.injEq] at hv
 obtain ⟨rfl,rfl,rfl⟩:=hv
 have hlen:((l.drop lo).take (hi - lo)).length=hi - lo:=by simp;omega
 refine ⟨by rw [E.flat_length],_,c2,by rw [hlen],by rw [hlen];exact hc2,fun hp=>?_⟩
 rw [E.flat_length,hlen] at hp
 have hlt:lo<hi:=by
  rcases Nat.lt_or_ge lo hi with h|h
  ·exact h
  ·rw [show hi - lo=0 by omega] at hp;simp at hp
 have hpos:0<(E.flat l).length:=by rw [E.flat_length];exact Nat.mul_pos (by omega) E.pos
 obtain ⟨a,rfl,hrow⟩:=hr hpos
 have key:∀c:Addr,c=a.add (lo*E.k)→Row w c (E.flat ((l.drop lo).take (hi - lo))):=by
  rintro _ rfl j v hj
  rw [add_add]
  refine hrow _ v ?_
  have e1:l=l.take lo++((l.drop lo).take (hi - lo)++l.drop hi):=by
   conv=>lhs;rw [←List.take_append_drop lo l,←List.take_append_drop (hi - lo) (l.drop lo),List.drop_drop,show lo+(hi - lo)=hi by omega]
  rw [e1,E.flat_append,E.flat_append,List.getElem?_append_right (by rw [E.flat_length];simp;rw [Nat.min_eq_left (by omega)];omega)]
  rw [E.flat_length]
  rw [show lo*E.k+j - (l.take lo).length*E.k=j by simp;rw [Nat.min_eq_left (by omega)];omega]
  rw [List.getElem?_append_left (List.getElem?_eq_some_iff.1 hj).1]
  exact hj
 rw [if_neg (by omega)]
 exact ⟨_,rfl,key _ rfl⟩
section
variable {d:Option Tmp} {r:KR} {K:Env→World→Prop} {ρ:Env} {w:World}
theorem aT {size:Nat} {x i:Operand} {v:Value} {l:List α} {kd:IntKind} {n:Nat} (hx:ev ρ x=v) (hi:ev ρ i=.int kd (n:Nat)) (hs:SlE E w v l) (hk:size=E.k) (hr:n<l.length) (k:∀ad,Row w ad (E.f l[n])→aO P r K (put ρ d (.pointer (some ad))) w):aO P (.cons ⟨d,.indexAddr size x i,none⟩ r) K ρ w:=by
 subst hk
 exact bLt hx hi hs E.pos hr fun ad hrow=>k ad (by rw [E.flat_at l n hr] at hrow;exact hrow)
theorem bY {x:Operand} {v:Value} {l:List α} (hx:ev ρ x=v) (hs:SlE E w v l) (k:aO P r K (put ρ d (.int .i64 (l.length:Nat))) w):aO P (.cons ⟨d,.len false x,none⟩ r) K ρ w:=by
 obtain ⟨base,cap,rfl⟩:=hs.form
 exact dK rfl (by simp [KOp.fix,hx]) k
end
def Own (E:Enc α) (t:TypeId) (B:Nat) (w:World) (v:Value) (l:List α):Prop:=
 (v=.slice none 0 0∧l= [])∨∃b cap junk,v=.slice (some ⟨b,0,none⟩) l.length cap∧B≤b∧At w b (.cells (E.flat l++junk).toArray t (0,0))∧(E.flat l++junk).length=cap*E.k
def aP:Value→List Nat
 |.slice (some a) _ _=> [a.block]
 |_=> []
theorem Own.nil (t:TypeId) (B:Nat) (w:World):Own E t B w (.slice none 0 0) []:=.inl ⟨rfl,rfl⟩
theorem Own.sl {t:TypeId} {B:Nat} {w:World} {v:Value} {l:List α} (h:Own E t B w v l):SlE E w v l:=by
 rcases h with ⟨rfl,rfl⟩|⟨b,cap,junk,rfl,_,hat,hlen⟩
 ·exact SlE.nil w
 ·have hle:l.length≤cap:=by
   rw [List.length_append,E.flat_length] at hlen
   have h1:l.length*E.k≤cap*E.k:=by omega
   exact Nat.le_of_mul_le_mul_right h1 E.pos
  refine ⟨by rw [E.flat_length],_,_,rfl,hle,fun _=>⟨_,rfl,fun j v hj=>?_⟩⟩
  exact Row.of_at hat j v (by rw [List.getElem?_append_left (List.getElem?_eq_some_iff.1 hj).1];exact hj)
theorem Own.chg {t:TypeId} {B:Nat} {s:List Nat} {w w':World} {v:Value} {l:List α} (hc:Chg s w w') (h:Own E t B w v l) (hb:∀b∈aP v,b∉s):Own E t B w' v l:=by
 rcases h with ⟨rfl,rfl⟩|⟨b,cap,junk,rfl,hB,hat,hl⟩
 ·exact Own.nil t B w'
 ·exact .inr ⟨b,cap,junk,rfl,hB,hat.chg hc (hb b (by simp [aP])),hl⟩
theorem Own.ext {t:TypeId} {B:Nat} {w w':World} {v:Value} {l:List α} (hc:Ext w w') (h:Own E t B w v l):Own E t B w' v l:=h.chg hc (by simp)
theorem Own.base {t:TypeId} {B:Nat} {w:World} {v:Value} {l:List α} (h:Own E t B w v l):∀b∈aP v,B≤b:=by
 rcases h with ⟨rfl,rfl⟩|⟨b,cap,junk,rfl,hB,hat,hl⟩<;>simp [aP]
 exact hB
theorem Own.lower {t:TypeId} {B B':Nat} {w:World} {v:Value} {l:List α} (h:Own E t B w v l) (hb:B'≤B):Own E t B' w v l:=by
 rcases h with h|⟨b,cap,junk,hv,hB,r⟩
 ·exact .inl h
 ·exact .inr ⟨b,cap,junk,hv,by omega,r⟩
theorem aAd {t:TypeId} {b:Nat}:∀(vs:List Value) (i o:Nat) (cur:List Value) (w:World),At w b (.cells cur.toArray t (0,0))→o+i+vs.length≤cur.length→
  At (jL w (Addr.add ⟨b,0,none⟩ o) i vs) b (.cells (cur.take (o+i)++vs++cur.drop (o+i+vs.length)).toArray t (0,0))∧Chg [b] w (jL w (Addr.add ⟨b,0,none⟩ o) i vs)
 | [],i,o,cur,w,h,_=>by simp only [jL,List.append_nil,List.length_nil,Nat.add_zero,List.take_append_drop];exact ⟨h,Chg.refl _ _⟩
 |v::vs,i,o,cur,w,h,hl=>by
  simp only [List.length_cons] at hl
  have ha:(Addr.add (Addr.add ⟨b,0,none⟩ o) i)=⟨b,o+i,none⟩:=by rw [add_add];unfold Addr.add;split<;>simp_all
  have h1:At (w.setCell (Addr.add (Addr.add ⟨b,0,none⟩ o) i) v) b (.cells (cur.set (o+i) v).toArray t (0,0)):=by
   unfold At at h ⊢
   rw [ha]
   simp [World.setCell,Array.getElem?_modify,h]
  have c1:Chg [b] w (w.setCell (Addr.add (Addr.add ⟨b,0,none⟩ o) i) v):=by have:=Chg.setCell w (Addr.add (Addr.add ⟨b,0,none⟩ o) i) v;rw [ha] at this ⊢;exact this
  obtain ⟨h2,c2⟩:=aAd vs (i+1) o (cur.set (o+i) v) _ h1 (by simp;omega)
  simp only [jL]
  refine ⟨?_,(c1.trans c2).mono (by simp)⟩
  have e:cur.take (o+i)++v::vs++cur.drop (o+i+(vs.length+1))=(cur.set (o+i) v).take (o+(i+1))++vs++(cur.set (o+i) v).drop (o+(i+1)+vs.length):=by
   rw [show o+i+(vs.length+1)=o+(i+1)+vs.length from by omega,List.drop_set_of_lt (by omega),show o+(i+1)=(o+i)+1 from by omega,List.take_succ_eq_append_getElem (by simp;omega)]
   simp only [List.take_set_of_le (Nat.le_refl _),List.getElem_set_self,List.append_assoc,List.cons_append,List.nil_append]
  simp only [List.length_cons]
  rw [e];exact h2
theorem aP2 {t:TypeId} {b o n:Nat} {cur:List Value} {w:World} (h:At w b (.cells cur.toArray t (0,0))) (hl:o+n≤cur.length):aSt w (Addr.add ⟨b,0,none⟩ o) 0 n:=by
 intro j _ hj
 have ha:(Addr.add (Addr.add ⟨b,0,none⟩ o) j)=⟨b,o+j,none⟩:=by rw [add_add];unfold Addr.add;split<;>simp_all
 rw [ha]
 unfold At at h
 refine ⟨?_,by simp [World.frozen?,h]⟩
 simp [World.cell?,h];omega
section
variable {d:Option Tmp} {r:KR} {K:Env→World→Prop} {ρ:Env} {w:World}
theorem cN {x y:Operand} {b o:Nat} {t:TypeId} {cur:List Value} {v:Value} (hx:ev ρ x=.pointer (some (Addr.add ⟨b,0,none⟩ o))) (hy:ev ρ y=v) (h1:v.oneCell'=true) (h:At w b (.cells cur.toArray t (0,0))) (hl:o<cur.length)
  (k:∀w',Chg [b] w w'→At w' b (.cells (cur.set o v).toArray t (0,0))→aO P r K (put ρ d undef) w'):aO P (.cons ⟨d,.store x y,none⟩ r) K ρ w:=by
 have hc:=aP2 (o:=o) (n:=1) h (by omega) 0 (Nat.le_refl _) (by omega)
 rw [add_zero] at hc
 have h2:=aAd [v] 0 o cur w h (by simp;omega)
 simp only [jL,add_zero,Nat.add_zero,List.length_singleton] at h2
 refine iI ⟨_,hx,by rw [hy];exact h1,hc.1,hc.2,?_⟩
 rw [hy]
 refine k _ h2.2 ?_
 have e:cur.take o++ [v]++cur.drop (o+1)=cur.set o v:=by rw [List.set_eq_take_append_cons_drop,if_pos hl];simp
 rw [←e];exact h2.1
theorem aSf {x y:Operand} {b:Nat} {t:TypeId} {cur:List Value} {v:Value} (hx:ev ρ x=.pointer (some ⟨b,0,none⟩)) (hy:ev ρ y=v) (h1:v.oneCell'=true) (h:At w b (.cells cur.toArray t (0,0))) (hl:0<cur.length)
  (k:∀w',Chg [b] w w'→At w' b (.cells (cur.set 0 v).toArray t (0,0))→aO P r K (put ρ d undef) w'):aO P (.cons ⟨d,.store x y,none⟩ r) K ρ w:=
 cN (o:=0) (by rw [add_zero];exact hx) hy h1 h hl k
theorem aDx {n:Nat} {x y:Operand} {b o:Nat} {t:TypeId} {cur vs:List Value} (hx:ev ρ x=.pointer (some (Addr.add ⟨b,0,none⟩ o))) (hy:ev ρ y=.agg vs.toArray) (hn:vs.length=n) (h1:∀v∈vs,v.oneCell'=true) (h:At w b (.cells cur.toArray t (0,0))) (hl:o+n≤cur.length)
  (k:∀w',Chg [b] w w'→At w' b (.cells (cur.take o++vs++cur.drop (o+n)).toArray t (0,0))→aO P r K (put ρ d undef) w'):aO P (.cons ⟨d,.storeN n x y,none⟩ r) K ρ w:=by
 subst hn
 have h2:=aAd vs 0 o cur w h (by simpa using hl)
 simp only [Nat.add_zero] at h2
 exact iI ⟨_,_,hx,hy,by simp,by simpa using h1,aP2 h hl,k _ h2.2 h2.1⟩
theorem cQ {n:Nat} {x y:Operand} {b:Nat} {t:TypeId} {cur vs:List Value} (hx:ev ρ x=.pointer (some ⟨b,0,none⟩)) (hy:ev ρ y=.agg vs.toArray) (hn:vs.length=n) (h1:∀v∈vs,v.oneCell'=true) (h:At w b (.cells cur.toArray t (0,0))) (hl:cur.length=n)
  (k:∀w',Chg [b] w w'→At w' b (.cells vs.toArray t (0,0))→aO P r K (put ρ d undef) w'):aO P (.cons ⟨d,.storeN n x y,none⟩ r) K ρ w:=
 aDx (o:=0) (by rw [add_zero];exact hx) hy hn h1 h (by omega) fun w' hc ha=>k w' hc (by
  have e:cur.take 0++vs++cur.drop (0+n)=vs:=by rw [List.drop_eq_nil_of_le (by omega)];simp
  rw [e] at ha;exact ha)
theorem jG {t:TypeId} {ln:Nat} {zs cs:List Value} {ps:List (Nat × Nat × Operand)} (hf:rU (ev ρ) zs ps=some cs) (k:∀b w',Ext w w'→At w' b (.cells cs.toArray t (0,0))→w.heap.size≤b→aO P r K (put ρ d (.slice (some ⟨b,0,none⟩) ln ln)) w'):aO P (.cons ⟨d,.buildSlice t ln zs ps,none⟩ r) K ρ w:=
 iI ⟨cs,hf,k _ _ (Ext.alloc w _) (At.new w _) (Nat.le_refl _)⟩
theorem pX {t:TypeId} {size bytes B:Nat} {zero:List Value} {x y:Operand} {v:Value} {l l2:List α} {n:Nat} {new:List Value} (hx:ev ρ x=v) (ho:Own E t B w v l) (hB:B≤w.heap.size) (hk:size=E.k) (hz:zero.length=E.k) (hy:dD w size (ev ρ y)=some (n,new)) (hnew:new=E.flat l2) (hn:n=l2.length) (hroom:(l.length+l2.length)*bytes≤2^47)
  (k:∀v' w',Own E t B w' v' (l++l2)→SlE E w' v l→Chg (aP v) w w'→(∀b∈aP v',b∈aP v∨w.heap.size≤b)→aO P r K (put ρ d v') w'):aO P (.cons ⟨d,.append t size bytes zero x y,none⟩ r) K ρ w:=by
 subst hk hnew hn
 refine iI ?_
 have hcap:∀need old,old<need→Builtin.nextslicecap need old≤2*need:=by
  intro need old ho
  have hg:∀rounds c,256≤c→c≤2*need→Builtin.growBy need rounds c≤2*need:=by
   intro rounds
   induction rounds with
   |zero=>intro c _ h;exact h
   |succ n ih=>
    intro c h1 h2
    simp only [Builtin.growBy]
    split
    ·exact h2
    ·exact ih _ (by omega) (by omega)
  unfold Builtin.nextslicecap
  split
  ·omega
  ·split
   ·omega
   ·exact hg 4 old (by omega) (by omega)
 rcases ho with ⟨rfl,rfl⟩|⟨b,cap,junk,rfl,hb,hat,hlen⟩
 ·refine ⟨none,0,0,l2.length,E.flat l2,hx,hy,fun hr=>?_,fun hr=>?_⟩
  ·have:l2= []:=List.length_eq_zero_iff.1 (by omega)
   subst this
   exact k _ _ (Own.nil t B w) (SlE.nil w) (Chg.refl _ _) (by simp [aP])
  ·refine ⟨[],rfl,?_,fun c hc=>?_⟩
   ·have:=hcap (0+l2.length) 0 hr
    have h3:Builtin.nextslicecap (0+l2.length) 0*bytes≤2*(0+l2.length)*bytes:=Nat.mul_le_mul_right _ this
    simp only [List.length_nil] at hroom
    rw [Nat.mul_assoc] at h3
    omega
   ·refine k _ _ (.inr ⟨w.heap.size,c,zeros zero (c - (0+l2.length)),?_,by omega,?_,?_⟩) (SlE.nil _) ((Ext.drew w).chg ((Ext.alloc _ _).mono (by simp))) (by simp [aP])
    ·simp
    ·simpa using At.new w.drew _
    ·simp only [List.nil_append,List.length_append,E.flat_length,zeros_length,hz,Nat.zero_add]
     rw [←Nat.add_mul];congr 1;omega
 ·have hsl:dD w E.k (.slice (some ⟨b,0,none⟩) l.length cap)=some (l.length,E.flat l):=(Own.sl (t:=t) (B:=B) (.inr ⟨b,cap,junk,rfl,hb,hat,hlen⟩)).cells
  have hj:(E.flat l).length+junk.length=cap*E.k:=by simpa using hlen
  rw [E.flat_length] at hj
  refine ⟨some ⟨b,0,none⟩,l.length,cap,l2.length,E.flat l2,hx,hy,fun hr=>?_,fun hr=>?_⟩
  ·have hmul:(l.length+l2.length)*E.k≤cap*E.k:=Nat.mul_le_mul_right _ hr
   rw [Nat.add_mul] at hmul
   have hfit:l.length*E.k+0+(E.flat l2).length≤(E.flat l++junk).length:=by rw [List.length_append,E.flat_length,E.flat_length];omega
   obtain ⟨h2,c2⟩:=aAd (E.flat l2) 0 (l.length*E.k) (E.flat l++junk) w hat hfit
   refine ⟨E.flat_one l2,aP2 hat (by simpa using hfit),k _ _ (.inr ⟨b,cap,junk.drop (E.flat l2).length,by simp,hb,?_,?_⟩) (Own.sl (t:=t) (B:=B) (.inr ⟨b,cap,E.flat l2++junk.drop (E.flat l2).length,rfl,hb,?_,?_⟩)) c2 (by simp [aP])⟩
   ·have e1:(E.flat l++junk).take (l.length*E.k+0)=E.flat l:=by rw [List.take_append_of_le_length (by rw [E.flat_length];omega),tLe (by rw [E.flat_length];omega)]
    have e2:(E.flat l++junk).drop (l.length*E.k+0+(E.flat l2).length)=junk.drop (E.flat l2).length:=by
     rw [List.drop_append,List.drop_eq_nil_of_le (by rw [E.flat_length];omega),List.nil_append,E.flat_length,E.flat_length,show l.length*E.k+0+l2.length*E.k - l.length*E.k=l2.length*E.k by omega]
    rw [e1,e2,←E.flat_append] at h2
    exact h2
   ·rw [E.flat_append,List.length_append,List.length_append,List.length_drop,E.flat_length,E.flat_length]
    omega
   ·have e1:(E.flat l++junk).take (l.length*E.k+0)=E.flat l:=by rw [List.take_append_of_le_length (by rw [E.flat_length];omega),tLe (by rw [E.flat_length];omega)]
    have e2:(E.flat l++junk).drop (l.length*E.k+0+(E.flat l2).length)=junk.drop (E.flat l2).length:=by
     rw [List.drop_append,List.drop_eq_nil_of_le (by rw [E.flat_length];omega),List.nil_append,E.flat_length,E.flat_length,show l.length*E.k+0+l2.length*E.k - l.length*E.k=l2.length*E.k by omega]
    rw [e1,e2,List.append_assoc] at h2
    exact h2
   ·rw [List.length_append,List.length_append,List.length_drop,E.flat_length,E.flat_length]
    omega
  ·refine ⟨E.flat l,hsl,?_,fun c hc=>?_⟩
   ·have:=hcap (l.length+l2.length) cap hr
    have h3:=Nat.mul_le_mul_right bytes this
    rw [Nat.mul_assoc] at h3
    omega
   ·refine k _ _ (.inr ⟨w.heap.size,c,zeros zero (c - (l.length+l2.length)),by simp,by omega,?_,?_⟩) (SlE.ext ((Ext.drew w).chg ((Ext.alloc _ _).mono (by simp))) (Own.sl (t:=t) (B:=B) (.inr ⟨b,cap,junk,rfl,hb,hat,hlen⟩))) ((Ext.drew w).chg ((Ext.alloc _ _).mono (by simp))) (by simp [aP])
    ·rw [E.flat_append];exact At.new w.drew _
    ·rw [E.flat_append]
     simp only [List.length_append,E.flat_length,zeros_length,hz]
     rw [←Nat.add_mul,←Nat.add_mul];congr 1;omega
theorem cK {t:TypeId} {size bytes B:Nat} {zero:List Value} {x y:Operand} {v:Value} {l l2:List α} {n:Nat} {new:List Value} (hx:ev ρ x=v) (ho:Own E t B w v l) (hB:B≤w.heap.size) (hk:size=E.k) (hz:zero.length=E.k) (hy:dD w size (ev ρ y)=some (n,new)) (hnew:new=E.flat l2) (hn:n=l2.length) (hroom:(l.length+l2.length)*bytes≤2^47)
  (k:∀v' w',Own E t B w' v' (l++l2)→Chg (aP v) w w'→aO P r K (put ρ d v') w'):aO P (.cons ⟨d,.append t size bytes zero x y,none⟩ r) K ρ w:=
 pX hx ho hB hk hz hy hnew hn hroom fun v' w' h _ c _=>k v' w' h c
end
end
section
open Go
variable {P:Program}
structure KEnc (κ:Type) [DecidableEq κ] where
 f:κ→Value
 s:Bool
 ks:List CK
 eq_:∀a b,aBc s ks (f a) (f b)=some (decide (a=b))
 ok:∀a,aHz s ks (f a)=true
variable {κ β:Type} [DecidableEq κ] {E:KEnc κ} {fv:β→Value}
def aS (m:List (κ × β)) (k:κ):Option β:=(m.find? fun p=>decide (p.1=k)).map (·.2)
def fN (m:List (κ × β)) (k:κ) (v:β):List (κ × β):=
 match m with
 | []=> [(k,v)]
 |p::r=>if p.1=k then (k,v)::r else p::fN r k v
def kW (m:List (κ × β)) (k:κ):List (κ × β):=m.filter fun p=>decide (p.1≠k)
structure Wf (es:Array MapEntry) (clock:Nat):Prop where
 births:es.toList.Pairwise fun a b=>a.born<b.born
 lt:∀e∈es.toList,e.born<clock
def dW (E:KEnc κ) (fv:β→Value) (w:World) (r:Nat) (m:List (κ × β)):Prop:=
 ∃es clock,At w r (.map es clock)∧Wf es clock∧es.toList.map (fun e=>(e.key,e.val))=m.map (fun p=>(E.f p.1,fv p.2))∧(m.map (·.1)).Nodup
theorem dW.chg {l:List Nat} {w w':World} {r:Nat} {m:List (κ × β)} (hc:Chg l w w') (h:dW E fv w r m) (hr:r∉l):dW E fv w' r m:=by
 obtain ⟨es,clock,h1,h2⟩:=h;exact ⟨es,clock,h1.chg hc hr,h2⟩
theorem dW.ext {w w':World} {r:Nat} {m:List (κ × β)} (hc:Ext w w') (h:dW E fv w r m):dW E fv w' r m:=h.chg hc (by simp)
theorem dW.lt {w:World} {r:Nat} {m:List (κ × β)} (h:dW E fv w r m):r<w.heap.size:=by obtain ⟨es,clock,h1,_⟩:=h;exact h1.lt
theorem dW.nodup {w:World} {r:Nat} {m:List (κ × β)} (h:dW E fv w r m):(m.map (·.1)).Nodup:=by obtain ⟨es,clock,_,_,_,h1⟩:=h;exact h1
theorem dW.new (w:World):dW E fv (w.alloc (.map #[] 0)) w.heap.size []:=⟨#[],0,At.new w _,⟨by simp,by simp⟩,rfl,by simp⟩
theorem sH (k:κ):∀(es:List MapEntry) (m:List (κ × β)) (i:Nat),es.map (fun e=>(e.key,e.val))=m.map (fun p=>(E.f p.1,fv p.2))→
  kA E.s E.ks (E.f k) es i=some ((m.findIdx? fun p=>decide (p.1=k)).bind fun j=>(m[j]?).map fun p=>(i+j,fv p.2))
 | [], [],i,_=>rfl
 |e::es,p::m,i,h=>by
  simp only [List.map_cons,List.cons.injEq,Prod.mk.injEq] at h
  obtain ⟨⟨hk,hv⟩,h⟩:=h
  simp only [kA,hk,E.eq_]
  by_cases hp:p.1=k
  ·subst hp
   simp [List.findIdx?_cons,hv]
  ·have hp':¬(k=p.1):=fun e=>hp e.symm
   simp only [hp',decide_false]
   rw [sH k es m (i+1) h]
   simp only [List.findIdx?_cons,hp,decide_false,Bool.false_eq_true,if_false]
   cases m.findIdx? (fun p=>decide (p.1=k)) with
   |none=>rfl
   |some j=>simp only [Option.bind_some,Option.map_some,List.getElem?_cons_succ];congr 2;funext p;rw [show i+1+j=i+(j+1) by omega]
 | [],_::_,_,h=>by simp at h
 |_::_, [],_,h=>by simp at h
theorem tC (m:List (κ × β)) (k:κ):aS m k=(m.findIdx? fun p=>decide (p.1=k)).bind fun j=>(m[j]?).map (·.2):=by
 unfold aS
 induction m with
 |nil=>rfl
 |cons p m ih=>
  by_cases hp:p.1=k
  ·simp [List.find?_cons,List.findIdx?_cons,hp]
  ·simp only [List.find?_cons,hp,decide_false,List.findIdx?_cons,Bool.false_eq_true,if_false]
   rw [ih]
   cases m.findIdx? (fun p=>decide (p.1=k))<;>simp
section
variable {d:Option Tmp} {r:KR} {K:Env→World→Prop} {ρ:Env} {w:World}
theorem aTf {s:Bool} {ks:List CK} {z:Value} {ok:Bool} {m x:Operand} {b:Nat} {l:List (κ × β)} {k:κ} (hm:ev ρ m=.map (some b)) (hx:ev ρ x=E.f k) (hM:dW E fv w b l) (hs:s=E.s) (hks:ks=E.ks):
  (KOp.lookup s ks z ok m x).rd ρ w=some (match aS l k with
   |some v=>if ok then .tuple #[fv v,.bool true] else fv v
   |none=>if ok then .tuple #[z,.bool false] else z):=by
 subst hs hks
 obtain ⟨es,clock,hat,_,heq,_⟩:=hM
 have hf:=sH (E:=E) (fv:=fv) k es.toList l 0 heq
 unfold At at hat
 simp only [KOp.rd,hx,E.ok,if_true,hm,hat,hf,Option.map_some,tC]
 cases hi:l.findIdx? (fun p=>decide (p.1=k)) with
 |none=>rfl
 |some j=>
  have hj:j<l.length:=(List.findIdx?_eq_some_iff_getElem.1 hi).1
  simp [List.getElem?_eq_getElem hj]
theorem eR {s:Bool} {ks:List CK} {z:Value} {m x:Operand} {b:Nat} {l:List (κ × β)} {k:κ} (hm:ev ρ m=.map (some b)) (hx:ev ρ x=E.f k) (hM:dW E fv w b l) (hs:s=E.s) (hks:ks=E.ks)
  (k1:∀v,aS l k=some v→aO P r K (put ρ d (fv v)) w) (k2:aS l k=none→aO P r K (put ρ d z) w):aO P (.cons ⟨d,.lookup s ks z false m x,none⟩ r) K ρ w:=by
 have h:=aTf (z:=z) (ok:=false) hm hx hM hs hks
 cases ha:aS l k with
 |none=>rw [ha] at h;exact iI (qQ rfl h (k2 ha))
 |some v=>rw [ha] at h;exact iI (qQ rfl h (k1 v ha))
theorem mZ {s:Bool} {ks:List CK} {z:Value} {m x:Operand} {b:Nat} {l:List (κ × β)} {k:κ} (hm:ev ρ m=.map (some b)) (hx:ev ρ x=E.f k) (hM:dW E fv w b l) (hs:s=E.s) (hks:ks=E.ks)
  (k1:∀v,aS l k=some v→aO P r K (put ρ d (.tuple #[fv v,.bool true])) w) (k2:aS l k=none→aO P r K (put ρ d (.tuple #[z,.bool false])) w):aO P (.cons ⟨d,.lookup s ks z true m x,none⟩ r) K ρ w:=by
 have h:=aTf (z:=z) (ok:=true) hm hx hM hs hks
 cases ha:aS l k with
 |none=>rw [ha] at h;exact iI (qQ rfl h (k2 ha))
 |some v=>rw [ha] at h;exact iI (qQ rfl h (k1 v ha))
theorem kI (k:∀b w',Ext w w'→dW E fv w' b []→w.heap.size≤b→aO P r K (put ρ d (.map (some b))) w'):aO P (.cons ⟨d,.makeMap,none⟩ r) K ρ w:=
 iI (k _ _ (Ext.alloc w _) (dW.new w) (Nat.le_refl _))
end
theorem aJ8 {α γ:Type} (f:α→γ):∀(l:List α) (i:Nat),(l.eraseIdx i).map f=(l.map f).eraseIdx i
 | [],_=>rfl
 |_::_,0=>rfl
 |x::l,i+1=>by simp [aJ8 f l i]
theorem qZ {m:List (κ × β)} {k:κ} {v:β} (h:(m.findIdx? fun p=>decide (p.1=k))=none):fN m k v=m++ [(k,v)]:=by
 induction m with
 |nil=>rfl
 |cons p m ih=>
  rw [List.findIdx?_cons] at h
  by_cases hp:p.1=k
  ·simp [hp] at h
  ·simp only [hp,decide_false,Bool.false_eq_true,if_false,Option.map_eq_none_iff] at h
   simp [fN,hp,ih h]
theorem rX {m:List (κ × β)} {k:κ} {v:β} {j:Nat} (h:(m.findIdx? fun p=>decide (p.1=k))=some j):fN m k v=m.set j (k,v):=by
 induction m generalizing j with
 |nil=>simp at h
 |cons p m ih=>
  rw [List.findIdx?_cons] at h
  by_cases hp:p.1=k
  ·simp [hp] at h;subst h;simp [fN,hp]
  ·simp only [hp,decide_false,Bool.false_eq_true,if_false,Option.map_eq_some_iff] at h
   obtain ⟨i,hi,rfl⟩:=h
   simp [fN,hp,ih hi]
theorem aWt {m:List (κ × β)} {k:κ} (h:(m.findIdx? fun p=>decide (p.1=k))=none):kW m k=m:=by
 rw [List.findIdx?_eq_none_iff] at h
 exact List.filter_eq_self.2 fun p hp=>by have:=h p hp;simpa using this
theorem aVg {m:List (κ × β)} {k:κ} {j:Nat} (hn:(m.map (·.1)).Nodup) (h:(m.findIdx? fun p=>decide (p.1=k))=some j):kW m k=m.eraseIdx j:=by
 induction m generalizing j with
 |nil=>simp at h
 |cons p m ih=>
  rw [List.findIdx?_cons] at h
  simp only [List.map_cons,List.nodup_cons] at hn
  by_cases hp:p.1=k
  ·simp [hp] at h;subst h
   simp only [kW,List.filter_cons,hp,ne_eq,not_true_eq_false,decide_false,Bool.false_eq_true,if_false,List.eraseIdx_cons_zero]
   exact List.filter_eq_self.2 fun q hq=>by
    have:q.1≠p.1:=fun e=>hn.1 (List.mem_map.2 ⟨q,hq,e⟩)
    rw [hp] at this;simpa using this
  ·simp only [hp,decide_false,Bool.false_eq_true,if_false,Option.map_eq_some_iff] at h
   obtain ⟨i,hi,rfl⟩:=h
   have:=ih hn.2 hi
   unfold kW at this ⊢
   simp [List.filter_cons,hp]
   simpa using this
theorem aEh {m:List (κ × β)} {k:κ} {v:β} (hn:(m.map (·.1)).Nodup):((fN m k v).map (·.1)).Nodup:=by
 cases h:(m.findIdx? fun p=>decide (p.1=k)) with
 |none=>
  rw [qZ h,List.map_append,List.nodup_append]
  refine ⟨hn,by simp,?_⟩
  intro a ha b hb
  simp at hb;subst hb
  rw [List.findIdx?_eq_none_iff] at h
  obtain ⟨p,hp,rfl⟩:=List.mem_map.1 ha
  have:=h p hp
  simpa using this
 |some j=>
  rw [rX h]
  obtain ⟨hj,hk,_⟩:=List.findIdx?_eq_some_iff_getElem.1 h
  have:(m.set j (k,v)).map (·.1)=m.map (·.1):=by
   apply List.ext_getElem
   ·simp
   ·intro i h1 h2
    simp only [List.getElem_map,List.getElem_set]
    split
    ·rename_i e;subst e;simpa using (of_decide_eq_true hk).symm
    ·rfl
  rw [this];exact hn
theorem aTx {es:Array MapEntry} {clock:Nat} (h:Wf es clock) (k v:Value):Wf (es.push {key:=k,val:=v,born:=clock}) (clock+1):=by
 refine ⟨?_,?_⟩
 ·rw [Array.toList_push,List.pairwise_append]
  exact ⟨h.births,by simp,fun a ha b hb=>by simp at hb;subst hb;exact h.lt a ha⟩
 ·intro e he
  rw [Array.toList_push,List.mem_append] at he
  rcases he with he|he
  ·have:=h.lt e he;omega
  ·simp at he;subst he;simp
theorem aEj {es:Array MapEntry} {clock:Nat} (h:Wf es clock) (i:Nat) (g:MapEntry→MapEntry) (hg:∀e,(g e).born=e.born):Wf (es.modify i g) clock:=by
 have hb:(es.modify i g).toList.map (·.born)=es.toList.map (·.born):=by
  apply List.ext_getElem
  ·simp
  ·intro j h1 h2
   simp only [List.getElem_map,Array.getElem_toList,Array.getElem_modify]
   split<;>simp [hg]
 refine ⟨?_,fun e he=>?_⟩
 ·have h1:(es.toList.map (·.born)).Pairwise (·<·):=List.pairwise_map.2 h.births
  rw [←hb] at h1
  exact List.pairwise_map.1 h1
 ·have:e.born∈(es.modify i g).toList.map (·.born):=List.mem_map.2 ⟨e,he,rfl⟩
  rw [hb] at this
  obtain ⟨e',he',h2⟩:=List.mem_map.1 this
  have:=h.lt e' he'
  omega
theorem dW.put_ {w:World} {b:Nat} {l:List (κ × β)} (hM:dW E fv w b l) (k:κ) (v:β):∃es clock f,At w b (.map es clock)∧kA E.s E.ks (E.f k) es.toList 0=some f∧
  dW E fv (eL w b (.map (jB es clock (E.f k) (fv v) f).1 (jB es clock (E.f k) (fv v) f).2)) b (fN l k v):=by
 obtain ⟨es,clock,hat,hwf,heq,hn⟩:=hM
 refine ⟨es,clock,_,hat,sH (E:=E) (fv:=fv) k es.toList l 0 heq,?_⟩
 cases h:(l.findIdx? fun p=>decide (p.1=k)) with
 |none=>
  simp only [Option.bind_none,jB]
  refine ⟨_,_,hat.setObj,aTx hwf _ _,?_,aEh hn⟩
  rw [qZ h,Array.toList_push,List.map_append,List.map_append,heq]
  rfl
 |some j=>
  obtain ⟨hj,hk,_⟩:=List.findIdx?_eq_some_iff_getElem.1 h
  simp only [Option.bind_some,List.getElem?_eq_getElem hj,Option.map_some,jB,Nat.zero_add]
  refine ⟨_,_,hat.setObj,aEj hwf _ _ (fun _=>rfl),?_,aEh hn⟩
  rw [rX h]
  apply List.ext_getElem
  ·have:=congrArg List.length heq;simpa using this
  ·intro i h1 h2
   have h3:i<es.toList.length:=by simpa using h1
   have h4:i<l.length:=by simpa using h2
   have h5:(es.toList.map (fun e=>(e.key,e.val)))[i]'(by simpa using h3)=(l.map (fun p=>(E.f p.1,fv p.2)))[i]'(by simpa using h4):=by simp only [heq]
   simp only [List.getElem_map] at h5
   simp only [List.getElem_map,Array.getElem_toList,Array.getElem_modify,List.getElem_set] at h5 ⊢
   split
   ·rfl
   ·exact h5
theorem dW.del_ {w:World} {b:Nat} {l:List (κ × β)} (hM:dW E fv w b l) (k:κ):∃es clock f,At w b (.map es clock)∧kA E.s E.ks (E.f k) es.toList 0=some f∧
  dW E fv (eL w b (.map (match f with|some (i,_)=>es.eraseIdxIfInBounds i|none=>es) clock)) b (kW l k):=by
 obtain ⟨es,clock,hat,hwf,heq,hn⟩:=hM
 refine ⟨es,clock,_,hat,sH (E:=E) (fv:=fv) k es.toList l 0 heq,?_⟩
 have hnd:((kW l k).map (·.1)).Nodup:=(List.Sublist.map Prod.fst List.filter_sublist).nodup hn
 cases h:(l.findIdx? fun p=>decide (p.1=k)) with
 |none=>
  simp only [Option.bind_none]
  exact ⟨_,_,hat.setObj,hwf,by rw [aWt h];exact heq,hnd⟩
 |some j=>
  obtain ⟨hj,hk,_⟩:=List.findIdx?_eq_some_iff_getElem.1 h
  simp only [Option.bind_some,List.getElem?_eq_getElem hj,Option.map_some,Nat.zero_add]
  have hjs:j<es.size:=by have:=congrArg List.length heq;simp at this;omega
  have he:(es.eraseIdxIfInBounds j).toList=es.toList.eraseIdx j:=by simp [Array.eraseIdxIfInBounds,hjs]
  refine ⟨_,_,hat.setObj,⟨?_,?_⟩,?_,hnd⟩
  ·rw [he];exact hwf.births.sublist (List.eraseIdx_sublist _ _)
  ·intro e hm;rw [he] at hm;exact hwf.lt e (List.mem_of_mem_eraseIdx hm)
  ·rw [he,aVg hn h,aJ8,heq,aJ8]
section
variable {d:Option Tmp} {r:KR} {K:Env→World→Prop} {ρ:Env} {w:World}
theorem fA {s:Bool} {ks:List CK} {m x y:Operand} {b:Nat} {l:List (κ × β)} {k:κ} {v:β} (hm:ev ρ m=.map (some b)) (hx:ev ρ x=E.f k) (hy:ev ρ y=fv v) (hM:dW E fv w b l) (hs:s=E.s) (hks:ks=E.ks)
  (kk:∀w',Chg [b] w w'→dW E fv w' b (fN l k v)→aO P r K (put ρ d undef) w'):aO P (.cons ⟨d,.mapUpdate s ks m x y,none⟩ r) K ρ w:=by
 subst hs hks
 obtain ⟨es,clock,f,hat,hf,hM'⟩:=hM.put_ k v
 refine iI ⟨b,es,clock,f,hm,hat,by rw [hx];exact E.ok k,by rw [hx];exact hf,?_⟩
 rw [hx,hy]
 exact kk _ (Chg.setObj _ _ _) hM'
theorem aLk {s:Bool} {ks:List CK} {m x:Operand} {b:Nat} {l:List (κ × β)} {k:κ} (hm:ev ρ m=.map (some b)) (hx:ev ρ x=E.f k) (hM:dW E fv w b l) (hs:s=E.s) (hks:ks=E.ks)
  (kk:∀w',Chg [b] w w'→dW E fv w' b (kW l k)→aO P r K (put ρ d (.tuple #[])) w'):aO P (.cons ⟨d,.delete s ks m x,none⟩ r) K ρ w:=by
 subst hs hks
 obtain ⟨es,clock,f,hat,hf,hM'⟩:=hM.del_ k
 refine iI ⟨b,es,clock,f,hm,hat,by rw [hx];exact E.ok k,by rw [hx];exact hf,kk _ (Chg.setObj _ _ _) hM'⟩
end
def qD (E:KEnc κ) (fv:β→Value) (w:World) (b:Nat) (l:List (κ × β)) (k:κ) (st:Nat):Prop:=
 ∃es clock i,At w b (.map es clock)∧Wf es clock∧(∃h:i<es.size,es[i].born=st)∧(∀v:β,(es.modify i fun e=>{e with val:=fv v}).toList.map (fun e=>(e.key,e.val))=(fN l k v).map (fun p=>(E.f p.1,fv p.2)))∧(l.map (·.1)).Nodup
theorem qD.chg {s:List Nat} {w w':World} {b:Nat} {l:List (κ × β)} {k:κ} {st:Nat} (hc:Chg s w w') (h:qD E fv w b l k st) (hb:b∉s):qD E fv w' b l k st:=by
 obtain ⟨es,clock,i,h1,h2⟩:=h;exact ⟨es,clock,i,h1.chg hc hb,h2⟩
theorem qD.ext {w w':World} {b:Nat} {l:List (κ × β)} {k:κ} {st:Nat} (hc:Ext w w') (h:qD E fv w b l k st):qD E fv w' b l k st:=h.chg hc (by simp)
section
variable {d:Option Tmp} {r:KR} {K:Env→World→Prop} {ρ:Env} {w:World}
theorem aV7 {s:Bool} {ks:List CK} {z:Value} {m x:Operand} {b:Nat} {l:List (κ × β)} {k:κ} (hm:ev ρ m=.map (some b)) (hx:ev ρ x=E.f k) (hM:dW E fv w b l) (hs:s=E.s) (hks:ks=E.ks)
  (kk:∀(st:Nat) w',Chg [b] w w'→qD E fv w' b l k st→aO P r K (put ρ d (.tuple #[match aS l k with|some v=>fv v|none=>z,.int .i64 (st:Int)])) w'):aO P (.cons ⟨d,.mapEntry s ks z m x,none⟩ r) K ρ w:=by
 subst hs hks
 obtain ⟨es,clock,hat,hwf,heq,hn⟩:=hM
 have hf:=sH (E:=E) (fv:=fv) k es.toList l 0 heq
 have hlen:es.size=l.length:=by have:=congrArg List.length heq;simpa using this
 refine iI ⟨b,es,clock,_,hm,hat,by rw [hx];exact E.ok k,by rw [hx];exact hf,?_⟩
 cases h:(l.findIdx? fun p=>decide (p.1=k)) with
 |none=>
  have hg:aS l k=none:=by rw [tC,h];rfl
  rw [hg] at kk
  simp only [Option.bind_none]
  rw [hx]
  refine kk clock _ (Chg.setObj _ _ _) ⟨_,_,es.size,hat.setObj,aTx hwf _ _,⟨by simp,by simp⟩,fun v=>?_,hn⟩
  rw [qZ h,List.map_append,←heq]
  apply List.ext_getElem
  ·simp
  ·intro i h1 h2
   have h3:i<es.size+1:=by simpa using h1
   simp only [List.getElem_map,Array.getElem_toList,Array.getElem_modify,List.getElem_append,List.length_map,Array.length_toList]
   by_cases hi:i<es.size
   ·rw [dif_pos hi]
    have hne:¬(es.size=i):=by omega
    simp [hne,Array.getElem_push_lt hi]
   ·have:i=es.size:=by omega
    subst this
    simp
 |some j=>
  obtain ⟨hj,hk,_⟩:=List.findIdx?_eq_some_iff_getElem.1 h
  have hjs:j<es.size:=by omega
  have hg:aS l k=some l[j].2:=by rw [tC,h];simp [List.getElem?_eq_getElem hj]
  rw [hg] at kk
  simp only [Option.bind_some,List.getElem?_eq_getElem hj,Option.map_some,Nat.zero_add]
  rw [hx]
  have e1:(((es[j]?).map (·.born)).getD 0)=es[j].born:=by simp [Array.getElem?_eq_getElem hjs]
  rw [e1]
  refine kk es[j].born _ (Chg.setObj _ _ _) ⟨_,_,j,hat.setObj,aEj hwf _ _ (fun _=>rfl),⟨by simpa using hjs,by rw [Array.getElem_modify,if_pos rfl]⟩,fun v=>?_,hn⟩
  rw [rX h]
  apply List.ext_getElem
  ·simpa using hlen
  ·intro i h1 h2
   have h3:i<es.toList.length:=by simpa using h1
   have h4:i<l.length:=by simpa using h2
   have h5:(es.toList.map (fun e=>(e.key,e.val)))[i]'(by simpa using h3)=(l.map (fun p=>(E.f p.1,fv p.2)))[i]'(by simpa using h4):=by simp only [heq]
   simp only [List.getElem_map] at h5
   simp only [List.getElem_map,Array.getElem_toList,Array.getElem_modify,List.getElem_set] at h5 ⊢
   split
   ·rfl
   ·exact h5
theorem find_born {es:Array MapEntry} {clock i:Nat} (hw:Wf es clock) (hi:i<es.size) {n:Int} (hn:n=(es[i].born:Int)):es.findIdx? (fun e=>(e.born:Int)==n)=some i:=by
 subst hn
 rw [Array.findIdx?_eq_some_iff_getElem]
 refine ⟨hi,by simp,fun j hj=>?_⟩
 have:=List.pairwise_iff_getElem.1 hw.births j i (by simp;omega) (by simpa using hi) hj
 simp only [Array.getElem_toList] at this
 simp;omega
theorem aEy {m x y:Operand} {b:Nat} {l:List (κ × β)} {k:κ} {v:β} {st:Nat} {kd:IntKind} (hm:ev ρ m=.map (some b)) (hx:ev ρ x=.int kd (st:Int)) (hy:ev ρ y=fv v) (hM:qD E fv w b l k st)
  (kk:∀w',Chg [b] w w'→dW E fv w' b (fN l k v)→aO P r K (put ρ d undef) w'):aO P (.cons ⟨d,.entryStore m x y,none⟩ r) K ρ w:=by
 obtain ⟨es,clock,i,hat,hwf,⟨hi,hst⟩,hall,hn⟩:=hM
 refine iI ⟨b,es,clock,kd,st,i,hm,hat,hx,find_born hwf hi (by rw [hst]),?_⟩
 rw [hy]
 exact kk _ (Chg.setObj _ _ _) ⟨_,_,hat.setObj,aEj hwf _ _ (fun _=>rfl),hall v,aEh hn⟩
end
section
variable {d:Option Tmp} {r:KR} {K:Env→World→Prop} {ρ:Env} {w:World}
end
end
end Go.K
