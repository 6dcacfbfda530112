/- The engine, part 10: loops and joins over a state; more step -/
import Derived.Test.YtfebcajheojodaaGreatDoorZ7
set_option linter.unusedVariables false
set_option linter.unusedSimpArgs false
namespace Go.K
section
open Go
variable {P:Program}
def bGo (ρ:Env):List (Tmp × Value)→Env
 | []=>ρ
 |(t,v)::l=>upd (bGo ρ l) t v
def Has (ρ:Env):List (Tmp × Value)→Prop
 | []=>True
 |(t,v)::l=>ρ t=v∧Has ρ l
theorem aNl {ρ:Env}:∀{l:List (Tmp × Value)},Has ρ l→bGo ρ l=ρ
 | [],_=>rfl
 |(t,v)::l,h=>by
  simp only [bGo]
  rw [aNl h.2];exact aGv h.1
theorem least {p:Nat→Prop}:∀n,p n→∃m,p m∧∀k,p k→m≤k
 |n,h=>by
  by_cases hx:∃k,k<n∧p k
  ·obtain ⟨k,hk,hp⟩:=hx
   exact least k hp
  ·exact ⟨n,h,fun k hk=>Nat.le_of_not_lt fun hl=>hx ⟨k,hl,hk⟩⟩
theorem aQ {K:Exit→Env→World→Prop} {ρ:Env} {w:World} {a:KC} {σ:Type} (I:σ→World→Prop) (E:σ→List (Tmp × Value)) (μ:σ→Nat) (s0:σ) (h0:Has ρ (E s0)) (hI:I s0 w)
  (h:∀s ρ w,I s w→aU P a (aBa (fun ρ' w'=>∃s',Has ρ' (E s')∧I s' w'∧μ s'<μ s) K) (bGo ρ (E s)) w):aU P (.loop a) K ρ w:=by
 have key:∀ρ w,∃m:Nat,(∃s,Has ρ (E s)∧I s w)→(∃s,Has ρ (E s)∧I s w∧μ s=m)∧∀s,Has ρ (E s)→I s w→m≤μ s:=by
  intro ρ w
  by_cases hx:∃s,Has ρ (E s)∧I s w
  ·obtain ⟨s,h1,h2⟩:=hx
   obtain ⟨m,hm,hl⟩:=least (p:=fun n=>∃s,Has ρ (E s)∧I s w∧μ s=n) _ ⟨s,h1,h2,rfl⟩
   exact ⟨m,fun _=>⟨hm,fun s h1 h2=>hl _ ⟨s,h1,h2,rfl⟩⟩⟩
  ·exact ⟨0,fun h=>absurd h hx⟩
 refine bM3 (fun ρ w=>∃s,Has ρ (E s)∧I s w) (fun ρ w=>Classical.choose (key ρ w)) ⟨s0,h0,hI⟩ ?_
 intro ρ w hs
 obtain ⟨⟨s,h1,h2,h3⟩,_⟩:=Classical.choose_spec (key ρ w) hs
 have:=h s ρ w h2
 rw [aNl h1] at this
 refine gF a (fun e ρ' w' he=>?_) this
 cases e with
 |normal=>
  simp only [aBa] at he ⊢
  obtain ⟨s',g1,g2,g3⟩:=he
  refine ⟨⟨s',g1,g2⟩,?_⟩
  have:=(Classical.choose_spec (key ρ' w') ⟨s',g1,g2⟩).2 s' g1 g2
  omega
 |_=>simpa only [aBa] using he
theorem rJ {K:Exit→Env→World→Prop} {ρ:Env} {w:World} {a b:KC} {σ:Type} (J:σ→World→Prop) (E:σ→List (Tmp × Value))
  (h:aU P a (aBa (fun ρ' w'=>∃s,Has ρ' (E s)∧J s w') K) ρ w) (h2:∀s ρ w,J s w→aU P b K (bGo ρ (E s)) w):aU P (.seq a b) K ρ w:=
 bO4 (fun ρ w=>∃s,Has ρ (E s)∧J s w) h fun ρ w ⟨s,h1,h3⟩=>by have:=h2 s ρ w h3;rwa [aNl h1] at this
theorem cL {ρ:Env} {w:World} {n c:Nat} {ad:Addr} {cs:List Value} (r:Row w ad cs) (hc:ρ c=.pointer (some ad)) (hn:cs.length=n):aM2 ρ w (.cellN n c)=some (.agg cs.toArray):=by
 simp only [aM2,hc]
 rw [r.r0 (n:=n) (l:=cs) (by omega) (by rw [←hn,List.take_length])];rfl
theorem cX {ρ:Env} {w:World} {t:Nat}:aM2 ρ w (.tmp t)=some (ρ t):=rfl
theorem aRf {ρ:Env} {w:World} {x:RV} {a:Value} (h:aM2 ρ w x=some a):aFb ρ w [x]=some a:=h
theorem lQ {ρ:Env} {w:World} {x y:RV} {a b:Value} (h1:aM2 ρ w x=some a) (h2:aM2 ρ w y=some b):aFb ρ w [x,y]=some (.tuple #[a,b]):=by simp [aFb,aE3,h1,h2]
section
variable {d:Option Tmp} {r:KR} {K:Env→World→Prop} {ρ:Env} {w:World}
theorem dS {op:BinOp} {x y:Operand} {a b v:Value} (hx:ev ρ x=a) (hy:ev ρ y=b) (h:cC op a b=some v) (k:aO P r K (put ρ d v) w):aO P (.cons ⟨d,.bin op x y,none⟩ r) K ρ w:=
 dK rfl (by simp [KOp.fix,hx,hy,h]) k
theorem bNd {x y:Operand} {a b:ByteArray} (hx:ev ρ x=.string a) (hy:ev ρ y=.string b) (h:a.size+b.size≤9223372036854775807) (k:aO P r K (put ρ d (.string (a++b))) w):aO P (.cons ⟨d,.bin .add x y,none⟩ r) K ρ w:=
 dS hx hy (by simp only [cC,bAo];rw [if_neg (by have:IntKind.i64.max=9223372036854775807:=rfl;rw [this];omega)]) k
theorem aOc {x h:Operand} {s:ByteArray} {kd:IntKind} {n:Int} (hx:ev ρ x=.string s) (hh:ev ρ h=.int kd n) (hr:0≤n∧n≤(s.size:Int)) (k:aO P r K (put ρ d (.string (s.extract 0 n.toNat))) w):aO P (.cons ⟨d,.sliceStr x none (some h),none⟩ r) K ρ w:=
 dK rfl (by simp [KOp.fix,hx,hh,hr]) k
theorem aUf {x y:Operand} {a b:Int} (hx:ev ρ x=.int .i64 a) (hy:ev ρ y=.int .i64 b) (k:aO P r K (put ρ d (.int .i64 (min a b))) w):aO P (.cons ⟨d,.minmax false x [y],none⟩ r) K ρ w:=
 dK rfl (by
  have e:(if b<a then b else a)=min a b:=by split<;>omega
  simp only [KOp.fix,List.foldl_cons,List.foldl_nil,hx,hy,Option.bind_some,aAo,Bool.false_eq_true,if_false,e]) k
theorem bIt {α:Type} {E:Enc α} {size:Nat} {x h:Operand} {v:Value} {l:List α} {kd:IntKind} {n:Nat} {w1:World} (hx:ev ρ x=v) (hh:ev ρ h=.int kd (n:Nat)) (hs:SlE E w1 v l) (hn:n≤l.length) (hk:size=E.k)
  (k:∀v',SlE E w1 v' (l.take n)→(∀b∈aP v',b∈aP v)→aO P r K (put ρ d v') w):aO P (.cons ⟨d,.sliceSl size x none (some h),none⟩ r) K ρ w:=by
 subst hk
 obtain ⟨hl,base,cap,rfl,hc,hr⟩:=hs
 have h2:=SlE.cut (E:=E) (lo:=0) (hi:=n) ⟨hl,base,cap,rfl,hc,hr⟩ (Nat.zero_le _) hn (cap - 0) (by omega)
 refine dK rfl (v:=.slice (if cap=0 then base else base.map fun ad:Addr=>ad.add (0*E.k)) (n - 0) (cap - 0)) ?_ (k _ (by simpa using h2) ?_)
 ·simp only [KOp.fix,hx,hh,Option.bind_some,Option.map_some]
  rw [if_pos (by omega)];simp
 ·intro b hb
  cases base with
  |none=>simp [aP] at hb
  |some a=>split at hb<;>simpa [aP,add_zero] using hb
theorem bHt {x:Operand} {v:Value} {a:Option Addr} {n c:Nat} {bs:List UInt8} (hx:ev ρ x=v) (hv:v=.slice a n c) (h:dD w 1 v=some (n,bs.map fun b:UInt8=>Value.int .u8 b.toNat)) (k:aO P r K (put ρ d (.string ⟨bs.toArray⟩)) w):aO P (.cons ⟨d,.strOf x,none⟩ r) K ρ w:=
 iI ⟨a,n,c,bs,by rw [hx,hv],by rw [hx];exact h,k⟩
theorem eS {b n k:Nat} {cs:List Value} {t:TypeId} (h:At w b (.cells cs.toArray t (0,0))) (hl:cs.length=n*k):dD w k (.slice (some ⟨b,0,none⟩) n n)=some (n,cs):=
 Sl.cells ⟨hl,_,_,rfl,Nat.le_refl _,fun _=>⟨_,rfl,Row.of_at h⟩⟩
theorem jO {vs:List Value} (h:vs.all (fun v=>v.oneCell')=true):∀v∈vs,v.oneCell'=true:=fun v hv=>List.all_eq_true.1 h v hv
theorem bJt {t:TypeId} {z vs:List Value} {d':Tmp} {n:Nat} {y:Operand} (hy:∀p,ev (upd ρ d' p) y=.agg vs.toArray) (hn:vs.length=n) (hz:z.length=n) (h1:vs.all (fun v=>v.oneCell')=true)
  (k:∀b w',Ext w w'→At w' b (.cells vs.toArray t (0,0))→Row w' ⟨b,0,none⟩ vs→w.heap.size≤b→aO P r K (put ρ (some d') (.pointer (some ⟨b,0,none⟩))) w'):
  aO P (.cons ⟨some d',.alloc t z,none⟩ (.cons ⟨none,.storeN n (.tmp d') y,none⟩ r)) K ρ w:=
 aXy fun b w1 x1 a1 hb=>cQ (by simp [ev,put,upd]) (hy _) hn (jO h1) a1 hz fun w2 c2 a2=>
  k b w2 ((x1.chg c2).mono (by simp;omega)) a2 (Row.of_at a2) hb
theorem bP {w0:World} {n:Nat} {x y:Operand} {b:Nat} {t:TypeId} {cur vs:List Value} (x0:Ext w0 w) (hb:w0.heap.size≤b) (h:At w b (.cells cur.toArray t (0,0))) (hx:ev ρ x=.pointer (some ⟨b,0,none⟩)) (hy:ev ρ y=.agg vs.toArray) (hn:vs.length=n) (hl:cur.length=n) (h1:vs.all (fun v=>v.oneCell')=true)
  (k:∀w',Ext w0 w'→Chg [b] w w'→At w' b (.cells vs.toArray t (0,0))→Row w' ⟨b,0,none⟩ vs→aO P r K (put ρ d undef) w'):aO P (.cons ⟨d,.storeN n x y,none⟩ r) K ρ w:=
 cQ hx hy hn (jO h1) h hl fun w2 c2 a2=>k w2 ((x0.chg c2).mono (by simp;omega)) c2 a2 (Row.of_at a2)
theorem SlE.new {α:Type} {E:Enc α} {b n c:Nat} {l:List α} {t:TypeId} (h:At w b (.cells (E.flat l).toArray t (0,0))) (hl:n=l.length) (hc:n≤c):SlE E w (.slice (some ⟨b,0,none⟩) n c) l:=by
 subst hl
 exact ⟨E.flat_length l,_,_,rfl,hc,fun _=>⟨_,rfl,Row.of_at h⟩⟩
end
end
section
open Go
variable {P:Program}
inductive All2 {α β:Type} (r:α→β→Prop):List α→List β→Prop
 |nil:All2 r [] []
 |cons {a b as bs}:r a b→All2 r as bs→All2 r (a::as) (b::bs)
section
variable {α β:Type} {r:α→β→Prop}
theorem All2.length:∀{l:List α} {m:List β},All2 r l m→l.length=m.length
 |_,_,.nil=>rfl
 |_,_,.cons _ h=>by simp [h.length]
theorem All2.mono {r':α→β→Prop} (hr:∀a b,r a b→r' a b):∀{l:List α} {m:List β},All2 r l m→All2 r' l m
 |_,_,.nil=>.nil
 |_,_,.cons h t=>.cons (hr _ _ h) (t.mono hr)
theorem All2.append:∀{l l':List α} {m m':List β},All2 r l m→All2 r l' m'→All2 r (l++l') (m++m')
 |_,_,_,_,.nil,h=>h
 |_,_,_,_,.cons h t,h'=>.cons h (t.append h')
theorem All2.get:∀{l:List α} {m:List β},All2 r l m→∀(i:Nat) (h:i<l.length) (h':i<m.length),r l[i] m[i]
 |_,_,.cons h _,0,_,_=>h
 |_,_,.cons _ t,i+1,h,h'=>t.get i (by simpa using h) (by simpa using h')
theorem All2.take:∀{l:List α} {m:List β} (n:Nat),All2 r l m→All2 r (l.take n) (m.take n)
 |_,_,0,_=>by simpa using All2.nil
 |_,_,_+1,.nil=>by simpa using All2.nil
 |_,_,n+1,.cons h t=>by simpa using All2.cons h (t.take n)
theorem All2.drop:∀{l:List α} {m:List β} (n:Nat),All2 r l m→All2 r (l.drop n) (m.drop n)
 |_,_,0,h=>by simpa using h
 |_,_,_+1,.nil=>by simpa using All2.nil
 |_,_,n+1,.cons _ t=>by simpa using t.drop n
theorem All2.right_nil {l:List α} (h:All2 r l []):l= []:=by cases h;rfl
theorem All2.split:∀{l l':List α} {m:List β},All2 r (l++l') m→∃m1 m2,m=m1++m2∧All2 r l m1∧All2 r l' m2
 | [],_,m,h=>⟨[],m,rfl,.nil,h⟩
 |_::_,_,_,.cons h t=>by
  obtain ⟨m1,m2,rfl,h1,h2⟩:=t.split
  exact ⟨_::m1,m2,rfl,.cons h h1,h2⟩
end
structure R (α:Type) where
 k:Nat
 pos:0<k
 ag:Bool
 rel:List Nat→World→List Value→α→Prop
 len:∀{M w cs x},rel M w cs x→cs.length=k
 one:∀{M w cs x},rel M w cs x→∀v∈cs,v.oneCell'=true
 step:∀{M M' L w w' cs x},rel M w cs x→Chg L w w'→(∀b∈L,b∈M∨w.heap.size≤b)→(∀b∈M',b∈M∨w.heap.size≤b)→rel M' w' cs x
def R.val {α:Type} (E:R α) (cs:List Value):Value:=if E.ag then .agg cs.toArray else cs.headD undef
def Vec (k:Nat):={cs:List Value // cs.length=k∧∀v∈cs,v.oneCell'=true}
def qN (k:Nat) (hk:0<k):Enc (Vec k):=⟨fun c=>c.1,k,fun c=>c.2.1,hk,fun c=>c.2.2⟩
variable {α:Type} {E:R α} {M M' L:List Nat} {w w':World}
theorem R.ext {cs:List Value} {x:α} (h:E.rel M w cs x) (c:Ext w w'):E.rel M w' cs x:=E.step h c (by simp) (fun _ h=>.inl h)
def R.vec {cs:List Value} {x:α} (h:E.rel M w cs x):Vec E.k:=⟨cs,E.len h,E.one h⟩
def R.flat (E:Enc α) (ag:Bool):R α where
 k:=E.k
 pos:=E.pos
 ag:=ag
 rel:=fun _ _ cs x=>cs=E.f x
 len:=fun h=>by rw [h];exact E.len _
 one:=fun h=>by rw [h];exact E.one _
 step:=fun h _ _ _=>h
def R.all (E:R α) (M:List Nat) (w:World) (css:List (Vec E.k)) (l:List α):Prop:=All2 (fun c x=>E.rel M w c.1 x) css l
def SlR (E:R α) (M:List Nat) (w:World) (v:Value) (l:List α):Prop:=
 ∃css,SlE (qN E.k E.pos) w v css∧E.all M w css l∧(0<l.length→∀b∈aP v,b∉M)
section
variable {v:Value} {l:List α}
theorem SlR.form (h:SlR E M w v l):∃base cap,v=.slice base l.length cap:=by
 obtain ⟨css,h1,h2,_⟩:=h
 obtain ⟨base,cap,rfl⟩:=h1.form
 exact ⟨base,cap,by rw [h2.length]⟩
theorem SlE.anyw {F:Enc α} (h:SlE F w v []):SlE F w' v []:=by
 obtain ⟨h1,base,cap,hv,hc,_⟩:=h
 exact ⟨h1,base,cap,hv,hc,fun hp=>by simp [Enc.flat] at hp⟩
theorem SlE.blk_lt {F:Enc α} (h:SlE F w v l) (hp:0<l.length):∀b∈aP v,b<w.heap.size:=by
 obtain ⟨h1,base,cap,rfl,hc,h2⟩:=h
 have hk:=F.pos
 have hpos:0<(F.flat l).length:=by rw [F.flat_length];exact Nat.mul_pos hp hk
 obtain ⟨a,rfl,hr⟩:=h2 hpos
 intro b hb
 simp only [aP,List.mem_singleton] at hb
 subst hb
 have:=cell_lt (hr 0 _ (List.getElem?_eq_getElem hpos))
 rwa [add_block] at this
theorem SlR.blk_lt (h:SlR E M w v l) (hp:0<l.length):∀b∈aP v,b<w.heap.size:=by
 obtain ⟨css,h1,h2,_⟩:=h
 exact h1.blk_lt (by rw [h2.length];exact hp)
theorem SlR.step (h:SlR E M w v l) (c:Chg L w w') (hL:∀b∈L,b∈M∨w.heap.size≤b) (hM:∀b∈M',b∈M∨w.heap.size≤b):SlR E M' w' v l:=by
 have hlt:=h.blk_lt
 obtain ⟨css,h1,h2,h3⟩:=h
 refine ⟨css,?_,h2.mono fun _ _ hr=>E.step hr c hL hM,fun hp b hb hm=>?_⟩
 ·by_cases hp:0<l.length
  ·refine h1.chg c fun a m k hv hm=>?_
   have hb:a.block∈aP v:=by rw [hv];simp [aP]
   rcases hL _ hm with h4|h4
   ·exact h3 hp _ hb h4
   ·have:=hlt hp _ hb;omega
  ·have hl:l= []:=List.length_eq_zero_iff.1 (by omega)
   subst hl
   have:=h2.right_nil
   subst this
   exact h1.anyw
 ·rcases hM b hm with h4|h4
  ·exact h3 hp b hb h4
  ·have:=hlt hp b hb;omega
theorem SlR.ext (h:SlR E M w v l) (c:Ext w w'):SlR E M w' v l:=h.step c (by simp) (fun _ h=>.inl h)
theorem SlR.sub (h:SlR E M w v l) (hm:∀b∈M',b∈M∨w.heap.size≤b):SlR E M' w v l:=h.step (Chg.refl [] w) (by simp) hm
theorem SlR.nil (M:List Nat) (w:World):SlR E M w (.slice none 0 0) []:=⟨[],SlE.nil w,.nil,fun h=>by simp at h⟩
def Enc.vec (F:Enc α) (x:α):Vec F.k:=⟨F.f x,F.len x,F.one x⟩
theorem yQ (F:Enc α):∀l:List α,(qN F.k F.pos).flat (l.map F.vec)=F.flat l
 | []=>rfl
 |x::l=>by
  have:=yQ F l
  simp only [Enc.flat,List.map_cons,List.flatMap_cons] at this ⊢
  rw [this];rfl
theorem SlE.toR {F:Enc α} {ag:Bool} (h:SlE F w v l) (hb:∀b∈aP v,b∉M):SlR (R.flat F ag) M w v l:=by
 refine ⟨l.map F.vec,?_,?_,fun _=>hb⟩
 ·show Sl w F.k v (l.map F.vec).length ((qN F.k F.pos).flat (l.map F.vec))
  rw [yQ,List.length_map];exact h
 ·clear h
  induction l with
  |nil=>exact .nil
  |cons x l ih=>exact .cons rfl ih
theorem SlR.toE {F:Enc α} {ag:Bool} (h:SlR (R.flat F ag) M w v l):SlE F w v l:=by
 obtain ⟨css,h1,h2, -⟩:=h
 have e:css=l.map F.vec:=by
  clear h1
  induction h2 with
  |nil=>rfl
  |cons hx _ ih=>rw [ih,List.map_cons];congr 1;exact Subtype.ext hx
 subst e
 have h3:Sl w F.k v (l.map F.vec).length ((qN F.k F.pos).flat (l.map F.vec)):=h1
 rw [yQ,List.length_map] at h3
 exact h3
theorem SlR.cells (h:SlR E M w v l):∃css,dD w E.k v=some (l.length,(qN E.k E.pos).flat css)∧E.all M w css l:=by
 obtain ⟨css,h1,h2,_⟩:=h
 exact ⟨css,by have:=h1.cells;rw [h2.length] at this;exact this,h2⟩
theorem SlR.cut {base:Option Addr} {n cap:Nat} (h:SlR E M w (.slice base n cap) l) {lo hi:Nat} (h1:lo≤hi) (h2:hi≤l.length) (c2:Nat) (hc2:hi - lo≤c2):
  SlR E M w (.slice (if cap=lo then base else base.map fun ad:Addr=>ad.add (lo*E.k)) (hi - lo) c2) ((l.drop lo).take (hi - lo)):=by
 obtain ⟨css,g1,g2,g3⟩:=h
 refine ⟨_,g1.cut h1 (by rw [g2.length];exact h2) c2 hc2,(g2.drop lo).take _,fun hp b hb=>?_⟩
 simp only [List.length_take,List.length_drop] at hp
 refine g3 (by omega) b ?_
 cases base with
 |none=>simp [aP] at hb
 |some a=>split at hb<;>simpa [aP,add_block] using hb
end
section
variable {d:Option Tmp} {r:KR} {K:Env→World→Prop} {ρ:Env} {v:Value} {l:List α}
theorem vQ {x:Operand} (hx:ev ρ x=v) (hs:SlR E M w v l) (k:aO P r K (put ρ d (.int .i64 (l.length:Nat))) w):aO P (.cons ⟨d,.len false x,none⟩ r) K ρ w:=by
 obtain ⟨base,cap,rfl⟩:=hs.form
 exact dK rfl (by simp [KOp.fix,hx]) k
theorem aL {size:Nat} {x i:Operand} {kd:IntKind} {n:Nat} (hx:ev ρ x=v) (hi:ev ρ i=.int kd (n:Nat)) (hs:SlR E M w v l) (hk:size=E.k) (hr:n<l.length)
  (k:∀ad cs,Row w ad cs→E.rel M w cs l[n]→aO P r K (put ρ d (.pointer (some ad))) w):aO P (.cons ⟨d,.indexAddr size x i,none⟩ r) K ρ w:=by
 obtain ⟨css,h1,h2,_⟩:=hs
 have hr':n<css.length:=by rw [h2.length];exact hr
 exact aT (E:=qN E.k E.pos) hx hi h1 hk hr' fun ad hrow=>k ad _ hrow (h2.get n hr' hr)
end
def cJ (E:R α) (t:TypeId) (B:Nat) (M:List Nat) (w:World) (v:Value) (l:List α):Prop:=
 ∃css,Own (qN E.k E.pos) t B w v css∧E.all (aP v++M) w css l
section
variable {t:TypeId} {B:Nat} {v:Value} {l:List α}
theorem cJ.nil (t:TypeId) (B:Nat) (M:List Nat) (w:World):cJ E t B M w (.slice none 0 0) []:=⟨[],Own.nil t B w,.nil⟩
theorem cJ.base (h:cJ E t B M w v l):∀b∈aP v,B≤b:=by obtain ⟨_,h1,_⟩:=h;exact h1.base
theorem cJ.lt (h:cJ E t B M w v l):∀b∈aP v,b<w.heap.size:=by
 obtain ⟨_,h1,_⟩:=h
 rcases h1 with ⟨rfl,rfl⟩|⟨b,cap,junk,rfl,hB,hat,hl⟩<;>simp [aP]
 exact hat.lt
theorem cJ.sl (h:cJ E t B M w v l) (hM:∀b∈M,b∉aP v):SlR E M w v l:=by
 obtain ⟨css,h1,h2⟩:=h
 exact ⟨css,h1.sl,h2.mono fun _ _ hr=>E.step hr (Chg.refl [] w) (by simp) (fun b hb=>.inl (by simp [hb])),fun _ b hb hm=>hM b hm hb⟩
theorem cJ.slB (h:cJ E t B M w v l) (hM:∀b∈M,b<B):SlR E M w v l:=h.sl fun b hb hv=>by have:=hM b hb;have:=h.base b hv;omega
theorem cJ.step (h:cJ E t B M w v l) (c:Chg L w w') (hL:∀b∈L,b∉aP v∧(b∈M∨w.heap.size≤b)) (hM:∀b∈M',b∈M∨w.heap.size≤b):cJ E t B M' w' v l:=by
 obtain ⟨css,h1,h2⟩:=h
 refine ⟨css,h1.chg c fun b hb hl=>(hL b hl).1 hb,h2.mono fun _ _ hr=>E.step hr c (fun b hb=>?_) fun b hb=>?_⟩
 ·rcases (hL b hb).2 with h|h
  ·exact .inl (by simp [h])
  ·exact .inr h
 ·rcases List.mem_append.1 hb with h|h
  ·exact .inl (by simp [h])
  ·rcases hM b h with h|h
   ·exact .inl (by simp [h])
   ·exact .inr h
theorem cJ.ext (h:cJ E t B M w v l) (c:Ext w w'):cJ E t B M w' v l:=h.step c (by simp) (fun _ h=>.inl h)
theorem cJ.lower {B':Nat} (h:cJ E t B M w v l) (hb:B'≤B):cJ E t B' M w v l:=by
 obtain ⟨css,h1,h2⟩:=h;exact ⟨css,h1.lower hb,h2⟩
end
section
variable {d:Option Tmp} {r:KR} {K:Env→World→Prop} {ρ:Env} {v:Value} {l l2:List α} {t:TypeId} {B:Nat}
theorem aMt {size bytes:Nat} {zero:List Value} {x y:Operand} {n:Nat} {new:List Value} {css:List (Vec E.k)} (hx:ev ρ x=v) (ho:cJ E t B M w v l) (hB:B≤w.heap.size) (hk:size=E.k) (hz:zero.length=E.k)
  (hy:dD w E.k (ev ρ y)=some (n,new)) (hnew:new=(qN E.k E.pos).flat css) (ha:E.all (aP v++M) w css l2) (hn:n=l2.length) (hroom:(l.length+l2.length)*bytes≤2^47)
  (k:∀v' w',cJ E t B M w' v' (l++l2)→((∀b∈M,b∉aP v)→SlR E M w' v l)→Chg (aP v) w w'→(∀b∈aP v',b∈aP v∨w.heap.size≤b)→aO P r K (put ρ d v') w'):aO P (.cons ⟨d,.append t size bytes zero x y,none⟩ r) K ρ w:=by
 subst hk
 obtain ⟨cs0,h1,h2⟩:=ho
 refine pX (E:=qN E.k E.pos) hx h1 hB rfl hz hy hnew (by rw [hn,ha.length]) (by rw [h2.length,ha.length];exact hroom) fun v' w' h3 h0 c hb=>?_
 refine k v' w' ⟨cs0++css,h3,?_⟩ (fun hM=>⟨cs0,h0,h2.mono fun _ _ hr=>E.step hr c (fun b hb=>.inl (by simp [hb])) (fun b hb=>.inl (by simp [hb])),fun _ b hb hm=>hM b hm hb⟩) c hb
 refine (h2.append ha).mono fun _ _ hr=>E.step hr c (fun b hb=>.inl (by simp [hb])) fun b h4=>?_
 rcases List.mem_append.1 h4 with h5|h5
 ·rcases hb b h5 with h6|h6
  ·exact .inl (by simp [h6])
  ·exact .inr h6
 ·exact .inl (by simp [h5])
theorem aGc {size bytes:Nat} {zero:List Value} {x y:Operand} {n:Nat} {new:List Value} {css:List (Vec E.k)} (hx:ev ρ x=v) (ho:cJ E t B M w v l) (hB:B≤w.heap.size) (hk:size=E.k) (hz:zero.length=E.k)
  (hy:dD w E.k (ev ρ y)=some (n,new)) (hnew:new=(qN E.k E.pos).flat css) (ha:E.all (aP v++M) w css l2) (hn:n=l2.length) (hroom:(l.length+l2.length)*bytes≤2^47)
  (k:∀v' w',cJ E t B M w' v' (l++l2)→Chg (aP v) w w'→(∀b∈aP v',b∈aP v∨w.heap.size≤b)→aO P r K (put ρ d v') w'):aO P (.cons ⟨d,.append t size bytes zero x y,none⟩ r) K ρ w:=
 aMt hx ho hB hk hz hy hnew ha hn hroom fun v' w' h1 _ h3 h4=>k v' w' h1 h3 h4
theorem aZc {size bytes:Nat} {zero:List Value} {x y:Operand} {b:Nat} {ty:TypeId} {cs:List Value} {a:α} (hx:ev ρ x=v) (hy:ev ρ y=.slice (some ⟨b,0,none⟩) 1 1) (ho:cJ E t B M w v l) (hB:B≤w.heap.size) (hk:size=E.k) (hz:zero.length=E.k)
  (hb:At w b (.cells cs.toArray ty (0,0))) (ha:E.rel (aP v++M) w cs a) (hroom:(l.length+1)*bytes≤2^47)
  (k:∀v' w',cJ E t B M w' v' (l++ [a])→((∀b∈M,b∉aP v)→SlR E M w' v l)→Chg (aP v) w w'→(∀b∈aP v',b∈aP v∨w.heap.size≤b)→aO P r K (put ρ d v') w'):aO P (.cons ⟨d,.append t size bytes zero x y,none⟩ r) K ρ w:=by
 have hl:=E.len ha
 refine aMt (css:= [R.vec ha]) (l2:= [a]) hx ho hB hk hz (by rw [hy];exact eS hb (by rw [hl];simp)) (by simp only [Enc.flat,List.flatMap_cons,List.flatMap_nil,List.append_nil];rfl) (.cons ha .nil) rfl hroom k
theorem iW {size bytes:Nat} {zero:List Value} {x y:Operand} {b:Nat} {ty:TypeId} {cs:List Value} {a:α} (hx:ev ρ x=v) (hy:ev ρ y=.slice (some ⟨b,0,none⟩) 1 1) (ho:cJ E t B M w v l) (hB:B≤w.heap.size) (hk:size=E.k) (hz:zero.length=E.k)
  (hb:At w b (.cells cs.toArray ty (0,0))) (ha:E.rel (aP v++M) w cs a) (hroom:(l.length+1)*bytes≤2^47)
  (k:∀v' w',cJ E t B M w' v' (l++ [a])→Chg (aP v) w w'→(∀b∈aP v',b∈aP v∨w.heap.size≤b)→aO P r K (put ρ d v') w'):aO P (.cons ⟨d,.append t size bytes zero x y,none⟩ r) K ρ w:=
 aZc hx hy ho hB hk hz hb ha hroom fun v' w' h1 _ h3 h4=>k v' w' h1 h3 h4
end
section
variable {κ β:Type} [DecidableEq κ] {KE:KEnc κ} {F:R β}
def nG (KE:KEnc κ) (F:R β) (M:List Nat) (w:World) (b:Nat) (m:List (κ × β)):Prop:=
 ∃mv:List (κ × Value),dW KE id w b mv∧All2 (fun p q=>p.1=q.1∧∃cs,p.2=F.val cs∧F.rel M w cs q.2) mv m
theorem nG.lt {b:Nat} {m:List (κ × β)} (h:nG KE F M w b m):b<w.heap.size:=by obtain ⟨mv,h1,_⟩:=h;exact h1.lt
theorem nG.step {b:Nat} {m:List (κ × β)} (h:nG KE F M w b m) (c:Chg L w w') (hb:b∉L) (hL:∀b∈L,b∈M∨w.heap.size≤b) (hM:∀b∈M',b∈M∨w.heap.size≤b):nG KE F M' w' b m:=by
 obtain ⟨mv,h1,h2⟩:=h
 exact ⟨mv,h1.chg c hb,h2.mono fun _ _ ⟨e,cs,e2,hr⟩=>⟨e,cs,e2,F.step hr c hL hM⟩⟩
theorem nG.ext {b:Nat} {m:List (κ × β)} (h:nG KE F M w b m) (c:Ext w w'):nG KE F M w' b m:=h.step c (by simp) (by simp) (fun _ h=>.inl h)
theorem aJw {r:Value→β→Prop} {k:κ}:∀{mv:List (κ × Value)} {m:List (κ × β)},All2 (fun p q=>p.1=q.1∧r p.2 q.2) mv m→
  (∀x,aS m k=some x→∃v,aS mv k=some v∧r v x)∧(aS m k=none→aS mv k=none)
 |_,_,.nil=>⟨fun x h=>by simp [aS] at h,fun _=>rfl⟩
 |(a,v)::mv,(a',x)::m,.cons ⟨h1,h2⟩ t=>by
  simp only at h1 h2
  subst h1
  have ih:=aJw (k:=k) t
  have e1:aS ((a,v)::mv) k=if a=k then some v else aS mv k:=by unfold aS;rw [List.find?_cons];by_cases h:a=k<;>simp [h]
  have e2:aS ((a,x)::m) k=if a=k then some x else aS m k:=by unfold aS;rw [List.find?_cons];by_cases h:a=k<;>simp [h]
  rw [e1,e2]
  by_cases h:a=k
  ·rw [if_pos h,if_pos h]
   exact ⟨fun y hy=>⟨v,rfl,by simp at hy;subst hy;exact h2⟩,fun h=>by cases h⟩
  ·rw [if_neg h,if_neg h];exact ih
theorem aZe {r:Value→β→Prop} {k:κ} {v:Value} {x:β} (hv:r v x):∀{mv:List (κ × Value)} {m:List (κ × β)},All2 (fun p q=>p.1=q.1∧r p.2 q.2) mv m→
  All2 (fun p q=>p.1=q.1∧r p.2 q.2) (fN mv k v) (fN m k x)
 |_,_,.nil=>.cons ⟨rfl,hv⟩ .nil
 |p::mv,q::m,.cons hx t=>by
  have ih:=aZe (k:=k) hv t
  unfold fN
  by_cases h:q.1=k
  ·rw [if_pos h,if_pos (hx.1.trans h)];exact .cons ⟨rfl,hv⟩ t
  ·rw [if_neg h,if_neg (fun e=>h (hx.1.symm.trans e))];exact .cons hx ih
theorem bHo {r:Value→β→Prop} {k:κ} {mv:List (κ × Value)} {m:List (κ × β)} (h:All2 (fun p q=>p.1=q.1∧r p.2 q.2) mv m):All2 (fun p q=>p.1=q.1∧r p.2 q.2) (kW mv k) (kW m k):=by
 unfold kW
 induction h with
 |nil=>exact .nil
 |cons hx t ih=>
  rw [List.filter_cons,List.filter_cons,hx.1]
  split
  ·exact .cons hx ih
  ·exact ih
end
end
end Go.K
