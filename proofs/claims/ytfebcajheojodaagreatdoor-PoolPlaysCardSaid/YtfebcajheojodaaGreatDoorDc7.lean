/- The engine, part 7: steps, and words on memory. -/
import Derived.Below
import Derived.Sort.Grow
import Derived.Deep.Draws
import Derived.Test.YtfebcajheojodaaGreatDoorDc6
set_option linter.unusedVariables false
set_option linter.unusedSimpArgs false
section
namespace Go.K
open Go
variable {P:Program}
structure Chg (l:List Nat) (w w':World):Prop where
 os:w'.os=w.os
 tape:w'.tape=w.tape
 output:w'.output=w.output
 size:w.heap.size≤w'.heap.size
 block:∀b,b<w.heap.size→b∉l→w'.heap[b]? =w.heap[b]?
def Ext (w w':World):Prop:=Chg [] w w'
theorem Chg.refl (l:List Nat) (w:World):Chg l w w:=⟨rfl,rfl,rfl,Nat.le_refl _,fun _ _ _=>rfl⟩
theorem Ext.refl (w:World):Ext w w:=Chg.refl [] w
theorem Chg.trans {l l':List Nat} {w w1 w2:World} (h:Chg l w w1) (h':Chg l' w1 w2):Chg (l++l') w w2:=
 ⟨h'.os.trans h.os,h'.tape.trans h.tape,h'.output.trans h.output,Nat.le_trans h.size h'.size,fun b hb hn=>by
  rw [List.mem_append,not_or] at hn
  exact (h'.block b (Nat.lt_of_lt_of_le hb h.size) hn.2).trans (h.block b hb hn.1)⟩
theorem Chg.mono {l l':List Nat} {w w':World} (h:Chg l w w') (hl:∀b∈l,b∈l'∨w.heap.size≤b):Chg l' w w':=
 ⟨h.os,h.tape,h.output,h.size,fun b hb hn=>h.block b hb fun hm=>by
  rcases hl b hm with h1|h1
  ·exact hn h1
  ·omega⟩
theorem Ext.trans {w w1 w2:World} (h:Ext w w1) (h':Ext w1 w2):Ext w w2:=Chg.trans h h'
theorem Chg.ext {l:List Nat} {w w1 w2:World} (h:Chg l w w1) (h':Ext w1 w2):Chg l w w2:=by simpa using Chg.trans h h'
theorem Ext.chg {l:List Nat} {w w1 w2:World} (h:Ext w w1) (h':Chg l w1 w2):Chg l w w2:=Chg.trans h h'
theorem Ext.drew (w:World):Ext w w.drew:=⟨rfl,rfl,rfl,Nat.le_refl _,fun _ _ _=>rfl⟩
theorem Ext.alloc (w:World) (o:Obj):Ext w (w.alloc o):=⟨rfl,rfl,rfl,by simp,fun b hb _=>by show (w.heap.push o)[b]? =_;rw [Array.getElem?_push,if_neg (by omega)]⟩
theorem Ext.size {w w':World} (h:Ext w w'):w.heap.size≤w'.heap.size:=Chg.size h
theorem Ext.below {w w':World} (h:Ext w w'):RowKit.Below w.heap.size w w':=⟨h.os,h.tape,h.output,Chg.size h,fun k hk=>Chg.block h k hk (by simp)⟩
theorem Chg.setObj (w:World) (r:Nat) (o:Obj):Chg [r] w (setObjW w r o):=
 ⟨rfl,rfl,rfl,by simp [setObjW],fun b _ hn=>by
  show (w.heap.setIfInBounds r o)[b]? =_
  rw [Array.getElem?_setIfInBounds_ne (by simp at hn;omega)]⟩
theorem Chg.setCell (w:World) (a:Addr) (v:Value):Chg [a.block] w (w.setCell a v):=
 ⟨rfl,rfl,rfl,by simp,fun b _ hn=>by
  show (w.heap.modify a.block _)[b]? =_
  rw [Array.getElem?_modify,if_neg (by simp at hn;omega)]⟩
def At (w:World) (b:Nat) (o:Obj):Prop:=w.heap[b]? =some o
theorem At.lt {w:World} {b:Nat} {o:Obj} (h:At w b o):b<w.heap.size:=(Array.getElem?_eq_some_iff.1 h).1
theorem At.chg {l:List Nat} {w w':World} {b:Nat} {o:Obj} (hc:Chg l w w') (h:At w b o) (hb:b∉l):At w' b o:=(hc.block b h.lt hb).trans h
theorem At.ext {w w':World} {b:Nat} {o:Obj} (hc:Ext w w') (h:At w b o):At w' b o:=h.chg hc (by simp)
theorem At.new (w:World) (o:Obj):At (w.alloc o) w.heap.size o:=by show (w.heap.push o)[w.heap.size]? =_;simp
theorem At.setObj {w:World} {r:Nat} {o o':Obj} (h:At w r o):At (setObjW w r o') r o':=by
 show (w.heap.setIfInBounds r o')[r]? =_
 rw [Array.getElem?_setIfInBounds_self_of_lt h.lt]
theorem At.inj {w:World} {b:Nat} {o o':Obj} (h:At w b o) (h':At w b o'):o=o':=by unfold At at h h';rw [h] at h';injection h'
theorem At.ne {w:World} {b b':Nat} {o o':Obj} (h:At w b o) (h':At w b' o') (hne:o≠o'):b≠b':=fun e=>by subst e;exact hne (h.inj h')
def Row (w:World) (ad:Addr) (cs:List Value):Prop:=∀j v,cs[j]? =some v→w.cell? (ad.add j)=some v
theorem add_add (a:Addr) (i j:Nat):(a.add i).add j=a.add (i+j):=by
 unfold Addr.add
 by_cases hi:i=0<;>by_cases hj:j=0<;>simp [hi,hj,Nat.add_assoc]
theorem add_block (a:Addr) (n:Nat):(a.add n).block=a.block:=by unfold Addr.add;split<;>rfl
theorem cell_of_heap {w w':World} {a:Addr} (h:w'.heap[a.block]? =w.heap[a.block]?):w'.cell? a=w.cell? a:=by unfold World.cell?;rw [h]
theorem cell_lt {w:World} {a:Addr} {v:Value} (h:w.cell? a=some v):a.block<w.heap.size:=by
 unfold World.cell? at h
 rcases Nat.lt_or_ge a.block w.heap.size with h1|h1
 ·exact h1
 ·rw [Array.getElem?_eq_none h1] at h;cases h
theorem Row.chg {l:List Nat} {w w':World} {ad:Addr} {cs:List Value} (hc:Chg l w w') (h:Row w ad cs) (hb:ad.block∉l):Row w' ad cs:=fun j v hj=>by
 have h1:=h j v hj
 have h2:=cell_lt h1
 rw [add_block] at h2
 rw [cell_of_heap (w:=w) (by rw [add_block];exact hc.block _ h2 hb)];exact h1
theorem Row.ext {w w':World} {ad:Addr} {cs:List Value} (hc:Ext w w') (h:Row w ad cs):Row w' ad cs:=h.chg hc (by simp)
theorem Row.of_at {w:World} {b:Nat} {cs:List Value} {t:TypeId} {f:Nat × Nat} (h:At w b (.cells cs.toArray t f)):Row w ⟨b,0,none⟩ cs:=fun j v hj=>by
 unfold At at h
 have:(Addr.add ⟨b,0,none⟩ j)=⟨b,j,none⟩:=by unfold Addr.add;split<;>simp_all
 rw [this]
 simp [World.cell?,h,hj]
theorem Row.c0 {w:World} {ad:Addr} {cs:List Value} {v:Value} (h:Row w ad cs) (hv:cs[0]? =some v):w.cell? ad=some v:=by have:=h 0 v hv;rwa [add_zero] at this
theorem Row.c1 {w:World} {ad:Addr} {cs:List Value} {o:Nat} {v:Value} (h:Row w ad cs) (hv:cs[o]? =some v):w.cell? (ad.add o)=some v:=h o v hv
theorem Row.c2 {w:World} {ad:Addr} {cs:List Value} {o p:Nat} {v:Value} (h:Row w ad cs) (hv:cs[o+p]? =some v):w.cell? ((ad.add o).add p)=some v:=by rw [add_add];exact h _ v hv
theorem Row.c3 {w:World} {ad:Addr} {cs:List Value} {o p q:Nat} {v:Value} (h:Row w ad cs) (hv:cs[o+(p+q)]? =some v):w.cell? (((ad.add o).add p).add q)=some v:=by rw [add_add,add_add];exact h _ v hv
theorem Row.rd {w:World} {ad:Addr} {cs:List Value} (h:Row w ad cs):∀(n i:Nat),i+n≤cs.length→rdCells w ad i n=some ((cs.drop i).take n)
 |0,i,_=>by simp [rdCells]
 |n+1,i,hn=>by
  have hlt:i<cs.length:=by omega
  have h1:=h i _ (List.getElem?_eq_getElem hlt)
  simp only [rdCells,h1,Option.bind_some,h.rd n (i+1) (by omega),Option.map_some]
  rw [List.drop_eq_getElem_cons hlt,List.take_succ_cons]
theorem rd_shift {w:World} {ad:Addr} {o:Nat}:∀(n i:Nat),rdCells w (ad.add o) i n=rdCells w ad (o+i) n
 |0,i=>rfl
 |n+1,i=>by simp only [rdCells,add_add,rd_shift n (i+1),Nat.add_assoc]
theorem Row.r0 {w:World} {ad:Addr} {cs l:List Value} {n:Nat} (h:Row w ad cs) (hn:n≤cs.length) (hl:cs.take n=l):rdCells w ad 0 n=some l:=by rw [h.rd n 0 (by omega),←hl];simp
theorem Row.r1 {w:World} {ad:Addr} {cs l:List Value} {o n:Nat} (h:Row w ad cs) (hn:o+n≤cs.length) (hl:(cs.drop o).take n=l):rdCells w (ad.add o) 0 n=some l:=by rw [rd_shift,h.rd n (o+0) (by omega),←hl];rfl
theorem Row.r2 {w:World} {ad:Addr} {cs l:List Value} {o p n:Nat} (h:Row w ad cs) (hn:o+p+n≤cs.length) (hl:(cs.drop (o+p)).take n=l):rdCells w ((ad.add o).add p) 0 n=some l:=by rw [add_add];exact h.r1 hn hl
def Sl (w:World) (k:Nat) (v:Value) (n:Nat) (cs:List Value):Prop:=
 cs.length=n*k∧∃base cap,v=.slice base n cap∧n≤cap∧(0<cs.length→∃a,base=some a∧Row w a cs)
theorem Sl.chg {l:List Nat} {w w':World} {k n:Nat} {v:Value} {cs:List Value} (hc:Chg l w w') (h:Sl w k v n cs) (hb:∀a m c,v=.slice (some a) m c→a.block∉l):Sl w' k v n cs:=by
 obtain ⟨h1,base,cap,hv,hnc,h2⟩:=h
 refine ⟨h1,base,cap,hv,hnc,fun hp=>?_⟩
 obtain ⟨a,ha,hr⟩:=h2 hp
 exact ⟨a,ha,hr.chg hc (hb a _ _ (by rw [hv,ha]))⟩
theorem Sl.ext {w w':World} {k n:Nat} {v:Value} {cs:List Value} (hc:Ext w w') (h:Sl w k v n cs):Sl w' k v n cs:=h.chg hc (by simp)
theorem Sl.nil (w:World) (k:Nat):Sl w k (.slice none 0 0) 0 []:=⟨by simp,_,_,rfl,Nat.le_refl _,fun h=>by simp at h⟩
theorem Sl.cells {w:World} {k n:Nat} {v:Value} {cs:List Value} (h:Sl w k v n cs):slCells w k v=some (n,cs):=by
 obtain ⟨h1,base,cap,rfl,_,h2⟩:=h
 by_cases hp:0<cs.length
 ·obtain ⟨a,rfl,hr⟩:=h2 hp
  have:=hr.rd (n*k) 0 (by omega)
  simp only [slCells,this,Option.map_some,List.drop_zero]
  rw [←h1,List.take_length]
 ·have hc:cs= []:=List.length_eq_zero_iff.1 (by omega)
  subst hc
  have h0:n*k=0:=by simpa using h1.symm
  cases base with
  |none=>rfl
  |some a=>simp [slCells,h0,rdCells]
theorem Sl.at_ {w:World} {k n:Nat} {v:Value} {cs:List Value} (h:Sl w k v n cs) (hk:0<k) {i:Nat} (hi:i<n):∃a cap,v=.slice (some a) n cap∧Row w (a.add (i*k)) ((cs.drop (i*k)).take k):=by
 obtain ⟨h1,base,cap,rfl,_,h2⟩:=h
 have hik:i*k+k≤n*k:=by have:=Nat.mul_le_mul_right k (show i+1≤n from hi);rw [Nat.add_mul,Nat.one_mul] at this;exact this
 obtain ⟨a,rfl,hr⟩:=h2 (by omega)
 refine ⟨a,cap,rfl,fun j u hj=>?_⟩
 rw [add_add]
 refine hr _ u ?_
 have hjk:j<k:=by
  rcases Nat.lt_or_ge j k with h|h
  ·exact h
  ·rw [List.getElem?_eq_none (by simp;omega)] at hj;cases hj
 rw [List.getElem?_take,if_pos hjk,List.getElem?_drop] at hj
 exact hj
section
variable {d:Option Tmp} {r:KR} {K:Env→World→Prop} {ρ:Env} {w:World}
theorem st_end (h:K ρ w):regK P .nil K ρ w:=h
theorem st_both {a b:KR} (h1:regK P a K ρ w) (h2:regK P b K ρ w):regK P (.both a b) K ρ w:=⟨h1,h2⟩
theorem st_join {a b:KR} (h:regK P a (regK P b K) ρ w):regK P (.join a b) K ρ w:=h
theorem g_on {o:KOp} {g:Tmp × Bool} (h:wantK ρ (some g)=true) (k:regK P (.cons ⟨d,o,none⟩ r) K ρ w):regK P (.cons ⟨d,o,some g⟩ r) K ρ w:=by
 simp only [regK,h,if_true]
 simpa [regK,wantK] using k
theorem g_off {o:KOp} {g:Tmp × Bool} (h:wantK ρ (some g)=false) (k:regK P r K (put ρ d undef) w):regK P (.cons ⟨d,o,some g⟩ r) K ρ w:=by
 simp only [regK,h,Bool.false_eq_true,if_false];exact k
theorem upd_eq {t:Tmp} {v:Value} (h:ρ t=v):upd ρ t v=ρ:=by
 funext u;unfold upd;split
 ·subst_vars;rfl
 ·rfl
theorem g_split {o:KOp} {t:Tmp} {b:Bool} {p:Prop} [Decidable p] (h:ρ t=.bool (decide p)) (h1:p→regK P (.cons ⟨d,o,some (t,b)⟩ r) K (upd ρ t (.bool true)) w) (h2:¬p→regK P (.cons ⟨d,o,some (t,b)⟩ r) K (upd ρ t (.bool false)) w):regK P (.cons ⟨d,o,some (t,b)⟩ r) K ρ w:=by
 by_cases hp:p
 ·have:=h1 hp;rwa [upd_eq (by rw [h];simp [hp])] at this
 ·have:=h2 hp;rwa [upd_eq (by rw [h];simp [hp])] at this
theorem g_cases {o:KOp} {t:Tmp} {b c:Bool} (h:ρ t=.bool c) (h1:c=true→regK P (.cons ⟨d,o,some (t,b)⟩ r) K (upd ρ t (.bool true)) w) (h2:c=false→regK P (.cons ⟨d,o,some (t,b)⟩ r) K (upd ρ t (.bool false)) w):regK P (.cons ⟨d,o,some (t,b)⟩ r) K ρ w:=by
 cases hc:c
 ·have:=h2 hc;rwa [upd_eq (by rw [h,hc])] at this
 ·have:=h1 hc;rwa [upd_eq (by rw [h,hc])] at this
theorem st_wp {o:KOp} (h:o.wp P ρ w fun v w'=>regK P r K (put ρ d v) w'):regK P (.cons ⟨d,o,none⟩ r) K ρ w:=by simpa [regK,wantK] using h
theorem still_wp {o:KOp} {k:Value→World→Prop} {v:Value} (hs:o.isStill=true) (h:o.rd ρ w=some v) (hk:k v w):o.wp P ρ w k:=by
 cases o<;>first|exact ⟨v,h,hk⟩|(simp [KOp.isStill,KOp.isFix] at hs;done)
theorem st_pc {f:FuncId} {F:List Value→Option Value} {as:List Operand} {v:Value} (h:F (as.map (ev ρ))=some v) (k:regK P r K (put ρ d v) w):regK P (.cons ⟨d,.pcall f F as,none⟩ r) K ρ w:=st_wp (still_wp rfl h k)
theorem st_fix {o:KOp} {v:Value} (hs:o.isFix=true) (h:o.fix ρ=some v) (k:regK P r K (put ρ d v) w):regK P (.cons ⟨d,o,none⟩ r) K ρ w:=
 st_wp (still_wp (isStill_of_fix hs) (by rw [KOp.rd_fix hs];exact h) k)
theorem st_move {x:Operand} (k:regK P r K (put ρ d (ev ρ x)) w):regK P (.cons ⟨d,.move x,none⟩ r) K ρ w:=st_fix rfl rfl k
theorem st_add {x y:Operand} {a b:Int} (hx:ev ρ x=.int .i64 a) (hy:ev ρ y=.int .i64 b) (hr: -9223372036854775808≤a+b∧a+b≤9223372036854775807) (k:regK P r K (put ρ d (.int .i64 (a+b))) w):regK P (.cons ⟨d,.bin .add x y,none⟩ r) K ρ w:=
 st_fix rfl (by simp [KOp.fix,hx,hy,binVal,isShift,intBin,IntWalk.i64_in _ hr]) k
theorem st_sub {x y:Operand} {a b:Int} (hx:ev ρ x=.int .i64 a) (hy:ev ρ y=.int .i64 b) (hr: -9223372036854775808≤a - b∧a - b≤9223372036854775807) (k:regK P r K (put ρ d (.int .i64 (a - b))) w):regK P (.cons ⟨d,.bin .sub x y,none⟩ r) K ρ w:=
 st_fix rfl (by simp [KOp.fix,hx,hy,binVal,isShift,intBin,IntWalk.i64_in _ hr]) k
theorem st_mul {x y:Operand} {a b:Int} (hx:ev ρ x=.int .i64 a) (hy:ev ρ y=.int .i64 b) (hr: -9223372036854775808≤a*b∧a*b≤9223372036854775807) (k:regK P r K (put ρ d (.int .i64 (a*b))) w):regK P (.cons ⟨d,.bin .mul x y,none⟩ r) K ρ w:=
 st_fix rfl (by simp [KOp.fix,hx,hy,binVal,isShift,intBin,IntWalk.i64_in _ hr]) k
theorem st_index {size:Nat} {x i:Operand} {a:Addr} {ln cap:Nat} {kd:IntKind} {n:Int} (hx:ev ρ x=.slice (some a) ln cap) (hi:ev ρ i=.int kd n) (hr:0≤n∧n<(ln:Int)) (k:regK P r K (put ρ d (.pointer (some (a.add (n.toNat*size))))) w):regK P (.cons ⟨d,.indexAddr size x i,none⟩ r) K ρ w:=
 st_fix rfl (by simp [KOp.fix,hx,hi,hr]) k
theorem st_elem {size:Nat} {x i:Operand} {v:Value} {cs:List Value} {ln:Nat} {kd:IntKind} {n:Nat} (hx:ev ρ x=v) (hi:ev ρ i=.int kd (n:Nat)) (hs:Sl w size v ln cs) (hk:0<size) (hr:n<ln) (k:∀ad,Row w ad ((cs.drop (n*size)).take size)→regK P r K (put ρ d (.pointer (some ad))) w):regK P (.cons ⟨d,.indexAddr size x i,none⟩ r) K ρ w:=by
 obtain ⟨a,cap,rfl,hrow⟩:=hs.at_ hk hr
 exact st_fix rfl (by simp [KOp.fix,hx,hi,hr]) (k _ hrow)
theorem st_load {x:Operand} {ad:Addr} {v:Value} (hx:ev ρ x=.pointer (some ad)) (h:w.cell? ad=some v) (k:regK P r K (put ρ d v) w):regK P (.cons ⟨d,.load x,none⟩ r) K ρ w:=
 st_wp (still_wp rfl (by simp [KOp.rd,hx,h]) k)
theorem st_loadN {n:Nat} {x:Operand} {ad:Addr} {l:List Value} (hx:ev ρ x=.pointer (some ad)) (h:rdCells w ad 0 n=some l) (k:regK P r K (put ρ d (.agg l.toArray)) w):regK P (.cons ⟨d,.loadN n x,none⟩ r) K ρ w:=
 st_wp (still_wp rfl (by simp [KOp.rd,hx,h]) k)
theorem st_ld0 {x:Operand} {ad:Addr} {cs:List Value} {v:Value} (hx:ev ρ x=.pointer (some ad)) (h:Row w ad cs) (hv:cs[0]? =some v) (k:regK P r K (put ρ d v) w):regK P (.cons ⟨d,.load x,none⟩ r) K ρ w:=st_load hx (h.c0 hv) k
theorem st_ld1 {x:Operand} {ad:Addr} {o:Nat} {cs:List Value} {v:Value} (hx:ev ρ x=.pointer (some (ad.add o))) (h:Row w ad cs) (hv:cs[o]? =some v) (k:regK P r K (put ρ d v) w):regK P (.cons ⟨d,.load x,none⟩ r) K ρ w:=st_load hx (h.c1 hv) k
theorem st_ld2 {x:Operand} {ad:Addr} {o p:Nat} {cs:List Value} {v:Value} (hx:ev ρ x=.pointer (some ((ad.add o).add p))) (h:Row w ad cs) (hv:cs[o+p]? =some v) (k:regK P r K (put ρ d v) w):regK P (.cons ⟨d,.load x,none⟩ r) K ρ w:=st_load hx (h.c2 hv) k
theorem st_ld3 {x:Operand} {ad:Addr} {o p q:Nat} {cs:List Value} {v:Value} (hx:ev ρ x=.pointer (some (((ad.add o).add p).add q))) (h:Row w ad cs) (hv:cs[o+(p+q)]? =some v) (k:regK P r K (put ρ d v) w):regK P (.cons ⟨d,.load x,none⟩ r) K ρ w:=st_load hx (h.c3 hv) k
theorem st_lN0 {n:Nat} {x:Operand} {ad:Addr} {cs l:List Value} (hx:ev ρ x=.pointer (some ad)) (h:Row w ad cs) (hn:n≤cs.length) (hl:cs.take n=l) (k:regK P r K (put ρ d (.agg l.toArray)) w):regK P (.cons ⟨d,.loadN n x,none⟩ r) K ρ w:=st_loadN hx (h.r0 hn hl) k
theorem st_lN1 {n:Nat} {x:Operand} {ad:Addr} {o:Nat} {cs l:List Value} (hx:ev ρ x=.pointer (some (ad.add o))) (h:Row w ad cs) (hn:o+n≤cs.length) (hl:(cs.drop o).take n=l) (k:regK P r K (put ρ d (.agg l.toArray)) w):regK P (.cons ⟨d,.loadN n x,none⟩ r) K ρ w:=st_loadN hx (h.r1 hn hl) k
theorem st_lN2 {n:Nat} {x:Operand} {ad:Addr} {o p:Nat} {cs l:List Value} (hx:ev ρ x=.pointer (some ((ad.add o).add p))) (h:Row w ad cs) (hn:o+p+n≤cs.length) (hl:(cs.drop (o+p)).take n=l) (k:regK P r K (put ρ d (.agg l.toArray)) w):regK P (.cons ⟨d,.loadN n x,none⟩ r) K ρ w:=st_loadN hx (h.r2 hn hl) k
theorem st_box {t:TypeId} {x:Operand} {v:Value} {cs:List Value} (hx:ev ρ x=v) (hc:v.cells=cs.toArray) (k:∀b w',Ext w w'→At w' b (.cells cs.toArray t)→Row w' ⟨b,0,none⟩ cs→w.heap.size≤b→regK P r K (put ρ d (.pointer (some ⟨b,0,none⟩))) w'):regK P (.cons ⟨d,.box t x,none⟩ r) K ρ w:=
 st_wp (by subst hx;have h:=At.new w (.cells cs.toArray t);rw [←hc] at h;exact k _ _ (Ext.alloc w _) (by rw [←hc];exact h) (Row.of_at (by rw [←hc];exact h)) (Nat.le_refl _))
theorem st_alloc {t:TypeId} {z:List Value} (k:∀b w',Ext w w'→At w' b (.cells z.toArray t)→w.heap.size≤b→regK P r K (put ρ d (.pointer (some ⟨b,0,none⟩))) w'):regK P (.cons ⟨d,.alloc t z,none⟩ r) K ρ w:=
 st_wp (k _ _ (Ext.alloc w _) (At.new w _) (Nat.le_refl _))
theorem st_call {f:FuncId} {args:List Operand} {vs:List Value} {R:Value→World→Prop} (ha:args.map (ev ρ)=vs) (h:Spec P f vs w R) (k:∀v w',R v w'→regK P r K (put ρ d v) w'):regK P (.cons ⟨d,.call f args,none⟩ r) K ρ w:=
 st_wp (by subst ha;exact h.mono fun e w' ⟨v,hv,hR⟩=>⟨v,hv,k v w' hR⟩)
theorem st_callV {x:Operand} {args:List Operand} {f:FuncId} {first cap:Array Value} {vs:List Value} {R:Value→World→Prop} (hx:ev ρ x=.func (.func f) first cap) (hb:hasBody P f=true) (ha:first.toList++args.map (ev ρ)++cap.toList=vs) (h:Spec P f vs w R) (k:∀v w',R v w'→regK P r K (put ρ d v) w'):regK P (.cons ⟨d,.callV x args,none⟩ r) K ρ w:=
 st_wp ⟨f,first,cap,hx,hb,by
  have:first++(args.map (ev ρ)).toArray++cap=vs.toArray:=by apply Array.ext';simp [←ha]
  rw [this];exact h.mono fun e w' ⟨v,hv,hR⟩=>⟨v,hv,k v w' hR⟩⟩
end
def thenK (P:Program) (b:KC) (K:Exit→Env→World→Prop):Exit→Env→World→Prop
 |.normal,ρ,w=>codeK P b K ρ w
 |e,ρ,w=>K e ρ w
def blockK (id:Nat) (K:Exit→Env→World→Prop):Exit→Env→World→Prop
 |.exit id',ρ,w=>if id'=id then K .normal ρ w else K (.exit id') ρ w
 |e,ρ,w=>K e ρ w
def loopK (N:Env→World→Prop) (K:Exit→Env→World→Prop):Exit→Env→World→Prop
 |.normal,ρ,w=>N ρ w
 |e,ρ,w=>K e ρ w
section
variable {K:Exit→Env→World→Prop} {ρ:Env} {w:World} {a b:KC} {r:KR} {x:Operand}
theorem regK_mono {K K':Env→World→Prop} (hk:∀ρ w,K ρ w→K' ρ w):∀(r:KR) {ρ w},regK P r K ρ w→regK P r K' ρ w
 |.nil,_,_,h=>hk _ _ h
 |.both a b,_,_,h=>⟨regK_mono hk a h.1,regK_mono hk b h.2⟩
 |.join a b,_,_,h=>regK_mono (fun _ _ hh=>regK_mono hk b hh) a h
 |.cons i r,ρ,w,h=>by
  simp only [regK] at h ⊢
  split
  ·rename_i hw;rw [if_pos hw] at h;exact wp_mono' (fun v w' hv=>regK_mono hk r hv) h
  ·rename_i hw;rw [if_neg hw] at h;exact regK_mono hk r h
theorem codeK_mono:∀(c:KC) {K K':Exit→Env→World→Prop},(∀e ρ w,K e ρ w→K' e ρ w)→∀{ρ w},codeK P c K ρ w→codeK P c K' ρ w
 |.skip,_,_,hk,_,_,h=>hk _ _ _ h
 |.reg false r,_,_,hk,_,_,h=>regK_mono (hk .normal) r h
 |.reg true r,_,_,hk,_,_,h=>regK_mono (hk .normal) r h
 |.anyR l,_,_,hk,_,_,⟨I,h0,hs,he⟩=>⟨I,h0,hs,fun S ρ w ha hI=>hk _ _ _ (he S ρ w ha hI)⟩
 |.seq a b,_,_,hk,_,_,h=>codeK_mono a (fun e ρ w he=>by cases e<;>first|exact codeK_mono b hk he|exact hk _ _ _ he) h
 |.cond x a b,_,_,hk,_,_,⟨t,ht,h1,h2⟩=>⟨t,ht,fun e=>codeK_mono a hk (h1 e),fun e=>codeK_mono b hk (h2 e)⟩
 |.block id c,_,_,hk,_,_,h=>codeK_mono c (fun e ρ w he=>by
   cases e with
   |exit id'=>
    simp only at he ⊢
    split
    ·rename_i hq;rw [if_pos hq] at he;exact hk _ _ _ he
    ·rename_i hq;rw [if_neg hq] at he;exact hk _ _ _ he
   |_=>exact hk _ _ _ he) h
 |.loop c,_,_,hk,_,_,⟨I,μ,h0,hr⟩=>⟨I,μ,h0,fun ρ w hI=>codeK_mono c (fun e ρ w he=>by cases e<;>first|exact he|exact hk _ _ _ he) (hr ρ w hI)⟩
 |.exit id,_,_,hk,_,_,h=>hk _ _ _ h
 |.ret,_,_,hk,_,_,h=>hk _ _ _ h
 |.raw n c,_,_,hk,_,_,h=>fun a hr=>Code.wp_mono (fun e a w ⟨ρ',h1,h2⟩=>⟨ρ',h1,hk _ _ _ h2⟩) (h a hr)
theorem c_seq (h:codeK P a (thenK P b K) ρ w):codeK P (.seq a b) K ρ w:=codeK_mono a (fun e ρ w he=>by cases e<;>exact he) h
theorem c_block {id:Nat} (h:codeK P a (blockK id K) ρ w):codeK P (.block id a) K ρ w:=codeK_mono a (fun e ρ w he=>by cases e<;>exact he) h
theorem c_loop (I:Env→World→Prop) (μ:Env→World→Nat) (h0:I ρ w) (h:∀ρ w,I ρ w→codeK P a (loopK (fun ρ' w'=>I ρ' w'∧μ ρ' w'<μ ρ w) K) ρ w):codeK P (.loop a) K ρ w:=by
 exact ⟨I,μ,h0,fun ρ w hI=>codeK_mono a (fun e ρ w he=>by cases e<;>exact he) (h ρ w hI)⟩
theorem c_cut (J:Env→World→Prop) (h:codeK P a (loopK J K) ρ w) (h2:∀ρ w,J ρ w→codeK P b K ρ w):codeK P (.seq a b) K ρ w:=
 c_seq (codeK_mono a (fun e ρ w he=>by cases e<;>first|exact h2 _ _ he|exact he) h)
theorem x_then (h:codeK P b K ρ w):thenK P b K .normal ρ w:=h
theorem x_then_ret (h:K .ret ρ w):thenK P b K .ret ρ w:=h
theorem x_then_exit {id:Nat} (h:K (.exit id) ρ w):thenK P b K (.exit id) ρ w:=h
theorem x_block {id:Nat} (h:K .normal ρ w):blockK id K .normal ρ w:=h
theorem x_block_ret {id:Nat} (h:K .ret ρ w):blockK id K .ret ρ w:=h
theorem x_block_exit {id:Nat} (h:K .normal ρ w):blockK id K (.exit id) ρ w:=by simp only [blockK,if_true];exact h
theorem x_block_other {id id':Nat} (hne:id'≠id) (h:K (.exit id') ρ w):blockK id K (.exit id') ρ w:=by simp only [blockK,if_neg hne];exact h
theorem x_loop {N:Env→World→Prop} (h:N ρ w):loopK N K .normal ρ w:=h
theorem x_loop_ret {N:Env→World→Prop} (h:K .ret ρ w):loopK N K .ret ρ w:=h
theorem x_loop_exit {N:Env→World→Prop} {id:Nat} (h:K (.exit id) ρ w):loopK N K (.exit id) ρ w:=h
theorem x_ret {rs:List RV} {R:Value→World→Prop} {v:Value} (hv:retRd ρ w rs=some v) (h:R v w):retK rs R .ret ρ w:=⟨v,hv,h⟩
theorem x_end {rs:List RV} {R:Value→World→Prop} {v:Value} (hv:retRd ρ w rs=some v) (h:R v w):retK rs R .normal ρ w:=⟨v,hv,h⟩
theorem c_skip (h:K .normal ρ w):codeK P .skip K ρ w:=h
theorem c_ret (h:K .ret ρ w):codeK P .ret K ρ w:=h
theorem c_exit {id:Nat} (h:K (.exit id) ρ w):codeK P (.exit id) K ρ w:=h
theorem c_reg (h:regK P r (K .normal) ρ w):codeK P (.reg false r) K ρ w:=h
theorem c_regd (h:∀w',Ext w w'→regK P r (K .normal) ρ w'):codeK P (.reg true r) K ρ w:=h _ (Ext.drew w)
theorem c_sreg (h:regK P r (codeK P b K) ρ w):codeK P (.seq (.reg false r) b) K ρ w:=h
theorem c_sregd (h:∀w',Ext w w'→regK P r (codeK P b K) ρ w'):codeK P (.seq (.reg true r) b) K ρ w:=h _ (Ext.drew w)
theorem c_cond {p:Prop} [Decidable p] (hx:ev ρ x=.bool (decide p)) (h1:p→codeK P a K ρ w) (h2:¬p→codeK P b K ρ w):codeK P (.cond x a b) K ρ w:=
 ⟨decide p,hx,fun h=>h1 (by simpa using h),fun h=>h2 (by simpa using h)⟩
theorem c_condB {t:Bool} (hx:ev ρ x=.bool t) (h1:t=true→codeK P a K ρ w) (h2:t=false→codeK P b K ρ w):codeK P (.cond x a b) K ρ w:=⟨t,hx,h1,h2⟩
theorem c_condN {p:Prop} [Decidable p] (hx:ev ρ x=.bool (!decide p)) (h1:¬p→codeK P a K ρ w) (h2:p→codeK P b K ρ w):codeK P (.cond x a b) K ρ w:=
 ⟨_,hx,fun h=>h1 (by simpa using h),fun h=>h2 (by simpa using h)⟩
theorem c_true (hx:ev ρ x=.bool true) (h:codeK P a K ρ w):codeK P (.cond x a b) K ρ w:=⟨true,hx,fun _=>h,fun h=>(by cases h)⟩
theorem c_false (hx:ev ρ x=.bool false) (h:codeK P b K ρ w):codeK P (.cond x a b) K ρ w:=⟨false,hx,fun h=>(by cases h),fun _=>h⟩
end
attribute [irreducible] thenK blockK loopK
end Go.K
end
