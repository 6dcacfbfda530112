/- The engine, part 5: regions, in the text's order and in any  -/
import Derived.Test.YtfebcajheojodaaGreatDoorZ4
set_option linter.unusedVariables false
set_option linter.unusedSimpArgs false
namespace Go.K
section
open Go
variable {P:Program}
structure KI where
 dst:Option Tmp
 op:KOp
 guard:Option (Tmp × Bool)
def lT (ρ:Env):Option (Tmp × Bool)→Bool
 |none=>true
 |some (t,b)=>match ρ t with
  |.bool c=>c==b
  |_=>false
inductive KR where
 |nil
 |cons (i:KI) (r:KR)
 |both (a b:KR)
 |join (a b:KR)
def aO (P:Program):KR→(Env→World→Prop)→Env→World→Prop
 |.nil,K,ρ,w=>K ρ w
 |.both a b,K,ρ,w=>aO P a K ρ w∧aO P b K ρ w
 |.join a b,K,ρ,w=>aO P a (aO P b K) ρ w
 |.cons i rest,K,ρ,w=>if lT ρ i.guard=true then i.op.wp P ρ w (fun v w'=>aO P rest K (put ρ i.dst v) w') else aO P rest K (put ρ i.dst undef) w
def aZg:Op→Bool
 |.select ..=>true
 |_=>false
def lS (P:Program) [Quiet P] (n:Nat) (ops:Array Oper) (o:Oper):Option KI:=
 if o.op.operands.toList.all (aKf n)&&(match o.dst with|some d=>decide (d<n)|none=>true)&&!aZg o.op then
  match o.guard with
  |none=>some ⟨o.dst,aH P o,none⟩
  |some (g,b)=>match (ops[g]?).bind (·.dst) with
   |some t=>if t<n then some ⟨o.dst,aH P o,some (t,b)⟩ else none
   |none=>none
 else none
def yX (P:Program) [Quiet P] (n:Nat) (ops:Array Oper):List Oper→Option KR
 | []=>some .nil
 |o::r=>(lS P n ops o).bind fun i=>(yX P n ops r).map (.cons i ·)
structure Fits (P:Program) [Quiet P] (n:Nat) (ops:Array Oper) (o:Oper) (i:KI):Prop where
 dst:i.dst=o.dst
 op:i.op=aH P o
 lt:∀t,o.dst=some t→t<n
 opers:∀x∈o.op.operands,aKf n x=true
 sel:∀cs b,o.op≠.select cs b
 want:∀a ρ,Rep n a ρ→Region.wanted o (yielded ops a.tmps)=lT ρ i.guard
theorem aDo [Quiet P] {n:Nat} {ops:Array Oper} {o:Oper} {i:KI} (h:lS P n ops o=some i):Fits P n ops o i:=by
 unfold lS at h
 rw [Option.ite_none_right_eq_some] at h
 obtain ⟨hc,h⟩:=h
 ·simp only [Bool.and_eq_true,Bool.not_eq_true',List.all_eq_true] at hc
  obtain ⟨⟨h1,h2⟩,h3⟩:=hc
  have lt:∀t,o.dst=some t→t<n:=by
   intro t ht;rw [ht] at h2;simpa using h2
  have opers:∀x∈o.op.operands,aKf n x=true:=fun x hx=>h1 x (by simpa using hx)
  have sel:∀cs b,o.op≠.select cs b:=by intro cs b e;rw [e] at h3;simp [aZg] at h3
  split at h
  ·rename_i hg
   simp only [Option.some.injEq] at h;subst h
   exact ⟨rfl,rfl,lt,opers,sel,fun a ρ _=>by simp [Region.wanted,hg,lT]⟩
  ·rename_i g b hg
   split at h
   ·rename_i t ht
    split at h
    ·rename_i htn
     simp only [Option.some.injEq] at h;subst h
     refine ⟨rfl,rfl,lt,opers,sel,fun a ρ hr=>?_⟩
     simp only [Region.wanted,hg,lT,yielded,ht,Option.bind_some,hr.at_ t htn]
     generalize ρ t=v
     cases v<;>first|rfl|(cases b<;>rfl)|(rename_i c;cases c<;>cases b<;>rfl)
    ·cases h
   ·cases h
theorem Fits.exec [Quiet P] {n:Nat} {ops:Array Oper} {o:Oper} {i:KI} (h:Fits P n ops o i) {a:Act} {ρ:Env} (hr:Rep n a ρ):execOp a.eval o=execOp (ev ρ) o:=
 execOp_congr o h.sel fun x hx=>hr.eval (h.opers x hx)
theorem Fits.put [Quiet P] {n:Nat} {ops:Array Oper} {o:Oper} {i:KI} (h:Fits P n ops o i) {a:Act} {ρ:Env} (hr:Rep n a ρ) (v:Value):Rep n (a.put o.dst v) (K.put ρ i.dst v):=by
 rw [h.dst];exact hr.put v h.lt
def Nrm (n:Nat) (K:Env→World→Prop):Exit→Act→World→Prop
 |.normal,a,w=>∃ρ,Rep n a ρ∧K ρ w
 |_,_,_=>False
theorem Fits.wp [Quiet P] {n:Nat} {ops:Array Oper} {o:Oper} {i:KI} (h:Fits P n ops o i) {a:Act} {ρ:Env} {w:World} (hr:Rep n a ρ) {k:Value→World→Prop} {next:Act→World→Prop} {Q:Exit→Act→World→Prop}
  (hk:∀v w',k v w'→next (a.put o.dst v) w') (hw:i.op.wp P ρ w k):o.wp P a w next Q:=by
 rw [h.op] at hw
 have h2:=bHc o k hw
 unfold Oper.wp
 rw [h.exec hr]
 simp only [KOp.wp] at h2
 split at h2
 ·rename_i v w' he;rw [he];exact hk _ _ h2
 ·rename_i w' he;rw [he];exact hk _ _ h2
 ·rename_i f args w' he
  rw [he]
  exact h2.mono fun e w'' ⟨v,hv,hkv⟩=>by subst hv;exact hk _ _ hkv
 ·exact h2.elim
theorem bM6 [Quiet P] {n:Nat} {ops:Array Oper} {K:Env→World→Prop}:∀(l:List Oper) (kl:KR) (a:Act) (ρ:Env) (w:World),yX P n ops l=some kl→aO P kl K ρ w→Rep n a ρ→wpList P ops (Nrm n K) l a w
 | [],kl,a,ρ,w,hc,h,hr=>by
  simp only [yX,Option.some.injEq] at hc;subst hc
  exact ⟨ρ,hr,h⟩
 |o::l,kl,a,ρ,w,hc,h,hr=>by
  simp only [yX,Option.bind_eq_some_iff,Option.map_eq_some_iff] at hc
  obtain ⟨i,hi,r,hr2,rfl⟩:=hc
  have F:=aDo hi
  simp only [aO] at h
  unfold wpList
  rw [F.want a ρ hr]
  split
  ·rename_i hw
   rw [if_pos hw] at h
   exact .inl (F.wp hr (fun v w' hk=>bM6 l r _ _ w' hr2 hk (F.put hr v)) h)
  ·rename_i hw
   rw [if_neg hw] at h
   exact bM6 l r _ _ w hr2 h (F.put hr undef)
def eA (P:Program) [Quiet P] (ops:Array Oper) (j:Nat):Bool:=match ops[j]? with
 |some o=>(aH P o).isStill
 |none=>true
def aH3 (P:Program) [Quiet P] (ops:Array Oper) (j:Nat):Bool:=match ops[j]? with
 |some o=>(aH P o).isFix
 |none=>false
theorem tZ {o:KOp} (h:o.isFix=true):o.isStill=true:=by cases o<;>simp_all [KOp.isStill,KOp.isFix]
def Closed (ops:Array Oper) (listed:Array Bool):Prop:=∀j oj,ops[j]? =some oj→listed.getD j false=true→∀e∈oj.after,Region.binds .any e=true→listed.getD e.on false=true
def pZ (ops:Array Oper) (ms:List Nat):Bool:=
 (List.range ops.size).all fun k=>match ops[k]? with
  |none=>true
  |some o=>(List.range ops.size).all fun i=>!(ms.getD k 0).testBit i||o.after.toList.any fun e=>Region.binds .any e&&(e.on==i||(decide (e.on<k)&&(ms.getD e.on 0).testBit i))
theorem bPi {ops:Array Oper} {ms:List Nat} (hm:pZ ops ms=true) {listed:Array Bool} (hc:Closed ops listed):∀(k i:Nat) (o:Oper),ops[k]? =some o→i<ops.size→(∀e∈o.after,Region.binds .any e=true→listed.getD e.on false=true)→
  (ms.getD k 0).testBit i=true→listed.getD i false=true:=by
 intro k
 induction k using Nat.strongRecOn with
 |_ k ih=>
  intro i o ho hi hd hb
  have hk:k<ops.size:=(Array.getElem?_eq_some_iff.1 ho).1
  have h1:=List.all_eq_true.1 hm k (by simpa using hk)
  simp only [ho] at h1
  have h2:=List.all_eq_true.1 h1 i (by simpa using hi)
  simp only [hb,Bool.not_true,Bool.false_or,List.any_eq_true,Bool.and_eq_true,Bool.or_eq_true,beq_iff_eq,decide_eq_true_eq] at h2
  obtain ⟨e,he,hbe,h3⟩:=h2
  have he':e∈o.after:=by simpa using he
  have hl:=hd e he' hbe
  rcases h3 with rfl|⟨hlt,hbit⟩
  ·exact hl
  ·have hkk:e.on<ops.size:=by omega
   obtain ⟨o',ho'⟩:∃o',ops[e.on]? =some o':=⟨_,Array.getElem?_eq_getElem hkk⟩
   exact ih e.on hlt i o' ho' hi (fun e' he2 hb2=>hc e.on o' ho' hl e' he2 hb2) hbit
def aBq (P:Program) [Quiet P] (ops:Array Oper) (i:Nat) (K:Act→World→Prop) (a:Act) (w:World):Prop:=
 if eA P ops i=true then stOp P ops w i (fun a'=>K a' w) a else wpOp P ops (fun _ _ _=>False) i K a w
def yJ (P:Program) [Quiet P] (ops:Array Oper) (Q:Act→World→Prop):Nat→Array Bool→Act→World→Prop
 |0,listed,a,w=>Region.ready .any ops listed= []∧Q a w
 |fuel+1,listed,a,w=>(Region.ready .any ops listed= []→Q a w)∧∀i∈Region.ready .any ops listed,aBq P ops i (yJ P ops Q fuel (listed.setIfInBounds i true)) a w
theorem bEq {ops:Array Oper} {i:Nat} {K:Act→World→Prop} {a:Act} {w:World} {Q:Exit→Act→World→Prop} (h:wpOp P ops (fun _ _ _=>False) i K a w):wpOp P ops Q i K a w:=by
 unfold wpOp at*
 split
 ·simpa [*] using h
 ·rename_i o ho
  simp only [ho] at h
  split
  ·rename_i hw
   simp only [hw,if_true] at h
   rcases h with h|⟨_,_,_,h⟩
   ·refine .inl ?_
    unfold Oper.wp at*
    generalize (execOp a.eval o).run P w=r at*
    cases r with
    |ok n w'=>
     cases n<;>simp only [Oper.upon] at h ⊢<;>first
      |exact h
      |exact Calls.mono h (fun e w'' he=>by
        cases e with
        |returned v=>exact he
        |panicked c=>exact he.elim
        |outgrown=>obtain ⟨_,_,hf⟩:=he;exact hf.elim)
    |halt x w'=>cases x<;>simp only [Oper.upon] at h
   ·exact h.elim
  ·rename_i hw;simp only [hw] at h;exact h
theorem qV [Quiet P] {ops:Array Oper} {Q:Act→World→Prop} {Q':Exit→Act→World→Prop} (hQ:∀a w,Q a w→Q' .normal a w):∀(fuel:Nat) (listed:Array Bool) (a:Act) (w:World),yJ P ops Q fuel listed a w→wpAny P .any ops Q' fuel listed a w
 |0,_,_,_,h=>⟨h.1,hQ _ _ h.2⟩
 |fuel+1,listed,a,w,h=>⟨fun h0=>hQ _ _ (h.1 h0),fun i hi=>by
   have h2:=h.2 i hi
   unfold aBq at h2
   split at h2
   ·exact wpOp_of_stOp (fun a'=>qV hQ fuel _ a' w) h2
   ·exact wpOp_mono (fun a' w'=>qV hQ fuel _ a' w') (bEq h2)⟩
theorem mC {ops:Array Oper} {listed:Array Bool} {j:Nat} (hc:Closed ops listed) (hj:j∈Region.ready .any ops listed):Closed ops (listed.setIfInBounds j true):=by
 intro k ok hk hl e he hb
 by_cases hkj:j=k
 ·subst hkj
  obtain ⟨_,o,ho,hall⟩:=mem_ready.1 hj
  rw [ho] at hk;cases hk
  exact getD_set_true (hall e he hb)
 ·rw [getD_set_ne false hkj] at hl
  exact getD_set_true (hc k ok hk hl e he hb)
theorem aGj {listed:Array Bool} {i:Nat} (h0:listed.getD i true=false) (h1:listed.getD i false=true):False:=by
 rcases Nat.lt_or_ge i listed.size with h'|h'
 ·simp [h'] at h0 h1;rw [h0] at h1;cases h1
 ·simp [Array.getElem?_eq_none h'] at h1
variable {ops:Array Oper} {Q:Act→World→Prop}
def kK (w w':World):Prop:=w.heap.size≤w'.heap.size∧∀b,b<w.heap.size→w'.heap[b]? =w.heap[b]?
theorem kK.refl (w:World):kK w w:=⟨Nat.le_refl _,fun _ _=>rfl⟩
theorem kK.trans {w w1 w2:World} (h:kK w w1) (h':kK w1 w2):kK w w2:=⟨nTr h.1 h'.1,fun b hb=>(h'.2 b (nLt hb h.1)).trans (h.2 b hb)⟩
theorem kK.alloc (w:World) (o:Obj):kK w (w.alloc o):=⟨by simp,fun b hb=>by show (w.heap.push o)[b]? =_;rw [Array.getElem?_push,if_neg (by omega)]⟩
theorem kK.heap {w w':World} (h:kK w w') {b:Nat} {o:Obj} (hb:w.heap[b]? =some o):w'.heap[b]? =some o:=by
 rw [h.2 b (Array.getElem?_eq_some_iff.1 hb).1];exact hb
theorem kK.cell {w w':World} (h:kK w w') {a:Addr} {v:Value} (hc:w.cell? a=some v):w'.cell? a=some v:=by
 unfold World.cell? at hc ⊢
 cases ho:w.heap[a.block]? with
 |none=>rw [ho] at hc;cases hc
 |some o=>rw [ho] at hc;rw [h.heap ho];exact hc
theorem kK.rdCells {w w':World} (h:kK w w') {a:Addr}:∀(n i:Nat) (l:List Value),rdCells w a i n=some l→rdCells w' a i n=some l
 |0,_,_,e=>e
 |n+1,i,l,e=>by
  simp only [K.rdCells,Option.bind_eq_some_iff,Option.map_eq_some_iff] at e ⊢
  obtain ⟨v,hv,r,hr,rfl⟩:=e
  exact ⟨v,h.cell hv,r,h.rdCells n (i+1) r hr,rfl⟩
theorem aY7 {w w':World} (h:kK w w') {ρ:Env} {o:KOp} {v:Value} (hv:o.rd ρ w=some v):o.rd ρ w'=some v:=by
 cases o<;>first|exact hv|skip
 case load x=>
  simp only [KOp.rd] at hv ⊢
  split at hv
  ·exact h.cell hv
  ·cases hv
 case loadN n x=>
  simp only [KOp.rd] at hv ⊢
  split at hv
  ·obtain ⟨l,hl,rfl⟩:=Option.map_eq_some_iff.1 hv
   rw [h.rdCells n 0 l hl];rfl
  ·cases hv
 case lenMap x=>
  simp only [KOp.rd] at hv ⊢
  split at hv
  ·exact hv
  ·split at hv
   ·rename_i hm;rw [h.heap hm];exact hv
   ·cases hv
  ·cases hv
 case lookup s ks z ok m k=>
  simp only [KOp.rd] at hv ⊢
  split at hv
  ·rename_i hc
   rw [if_pos hc]
   split at hv
   ·exact hv
   ·split at hv
    ·rename_i hm;rw [h.heap hm];exact hv
    ·cases hv
   ·cases hv
  ·cases hv
def aAa (P:Program) [Quiet P] (ops:Array Oper) (j:Nat):Bool:=match ops[j]? with
 |some o=>(aH P o).isMaker
 |none=>false
theorem bFe [Quiet P] {o:Oper} (h:(aH P o).isMaker=true) (e:Operand→Value) (w:World):∃u ob,(execOp e o).run P w=.ok (.value u) (w.alloc ob):=by
 obtain ⟨dst,op,ty,pos,after,guard⟩:=o
 cases op
 case box t x=>exact ⟨_,_,by simp [execOp,Instr.box,newVar,newRow];exact ⟨rfl,rfl⟩⟩
 case alloc t=>
  simp only [aH] at h
  split at h
  ·rename_i inf hinf
   split at h
   ·rename_i z hz
    have hzv:(zeroValue t).run P w=.ok z w:=by simp [zeroValue,bR hinf,hz]
    exact ⟨_,_,by simp [execOp,Instr.alloc,hzv,newVar,newRow];exact ⟨rfl,rfl⟩⟩
   ·simp [KOp.isMaker] at h
  ·simp [KOp.isMaker] at h
 case unOp op t x=>cases op<;>simp [aH,KOp.isMaker] at h
 case slice t x lo hi mx=>cases mx<;>simp only [aH] at h<;>(repeat' split at h)<;>simp [KOp.isMaker] at h
 case makeMap t r=>cases r<;>simp [aH,KOp.isMaker] at h
 case next it b=>cases b<;>simp [aH,KOp.isMaker] at h
 case call c=>
  obtain ⟨callee,args,argTypes⟩:=c
  cases callee with
  |value f=>cases f<;>simp only [aH] at h<;>(repeat' split at h)<;>simp_all [KOp.isMaker]
  |invoke r m=>simp [aH,KOp.isMaker] at h
  |builtin b=>cases b<;>simp only [aH] at h<;>(repeat' split at h)<;>simp [KOp.isMaker] at h
 all_goals first
  |(simp [aH,KOp.isMaker] at h;done)
  |(simp only [aH] at h;(repeat' split at h)<;>simp [KOp.isMaker] at h)
theorem xU [Quiet P] {ms:List Nat} (hm:pZ ops ms=true) {i:Nat} {oi:Oper} {v:Value} (hi:ops[i]? =some oi) (hsel:∀(j:Nat) (o:Oper) cs b,ops[j]? =some o→o.op≠.select cs b) (hst:eA P ops i=true):
  ∀(fuel:Nat) (listed:Array Bool) (a:Act) (w:World),Closed ops listed→
   (∀j oj,ops[j]? =some oj→j≠i→listed.getD j true=false→(∀e∈oj.after,Region.binds .any e=true→e.on≠i)→oi.apart ops oj=true)→
   (∀j,j<ops.size→j≠i→listed.getD j true=false→eA P ops j=false→aAa P ops j=true∨(ms.getD j 0).testBit i=true)→
   i∈Region.ready .any ops listed→(∀w',kK w w'→YieldsAt P ops w' oi v a)→
   yJ P ops Q fuel (listed.setIfInBounds i true) (a.put oi.dst v) w→yJ P ops Q (fuel+1) listed a w:=by
 have base:∀{K:Act→World→Prop} {a:Act} {w:World},YieldsAt P ops w oi v a→K (a.put oi.dst v) w→aBq P ops i K a w:=fun hy hK=>by
  unfold aBq;rw [if_pos hst];exact hy.stOp hi hK
 intro fuel
 induction fuel with
 |zero=>
  intro listed a w _ _ _ hr hy H
  refine ⟨fun h=>(by rw [h] at hr;cases hr),fun j hj=>?_⟩
  by_cases hji:j=i
  ·subst hji;exact base (hy w (kK.refl w)) H
  ·have:=ready_mono hj hji
   rw [H.1] at this
   cases this
 |succ fuel ih=>
  intro listed a w hcl hfree hns hr hy H
  refine ⟨fun h=>(by rw [h] at hr;cases hr),fun j hj=>?_⟩
  by_cases hji:j=i
  ·subst hji;exact base (hy w (kK.refl w)) H
  ·have h1:=H.2 j (ready_mono hj hji)
   obtain ⟨hjun,oj,hoj,hall⟩:=mem_ready.1 hj
   have hjs:j<ops.size:=(Array.getElem?_eq_some_iff.1 hoj).1
   have his:i<ops.size:=(Array.getElem?_eq_some_iff.1 hi).1
   have hnot:∀e∈oj.after,Region.binds .any e=true→e.on≠i:=fun e he hb heq=>by
    have h1:=hall e he hb
    rw [heq] at h1
    exact aGj (mem_ready.1 hr).1 h1
   have hap:=hfree j oj hoj hji hjun hnot
   obtain ⟨p1,p2,p3⟩:=Oper.apart_spec hap
   have hfree':∀k ok,ops[k]? =some ok→k≠i→(listed.setIfInBounds j true).getD k true=false→(∀e∈ok.after,Region.binds .any e=true→e.on≠i)→oi.apart ops ok=true:=by
    intro k ok hk hki hun hno
    refine hfree k ok hk hki ?_ hno
    by_cases hjk:j=k
    ·subst hjk;exact hjun
    ·rw [getD_set_ne true hjk] at hun;exact hun
   have hns':∀k,k<ops.size→k≠i→(listed.setIfInBounds j true).getD k true=false→eA P ops k=false→aAa P ops k=true∨(ms.getD k 0).testBit i=true:=by
    intro k hk hki hun hs
    refine hns k hk hki ?_ hs
    by_cases hjk:j=k
    ·subst hjk;exact hjun
    ·rw [getD_set_ne true hjk] at hun;exact hun
   have fin:∀u w',kK w w'→yJ P ops Q fuel ((listed.setIfInBounds i true).setIfInBounds j true) ((a.put oj.dst u).put oi.dst v) w'→yJ P ops Q (fuel+1) (listed.setIfInBounds j true) (a.put oj.dst u) w':=fun u w' hg h3=>
    ih (listed.setIfInBounds j true) _ w' (mC hcl hj) hfree' hns' (ready_mono hr (Ne.symm hji))
     (fun w2 hg2=>(hy w2 (hg.trans hg2)).of_same (execOp_put oi (fun cs b=>hsel i oi cs b hi) a oj.dst u p3) (wanted_put oi a oj.dst u p3)) (by rw [Array.setIfInBounds_comm _ _ hji];exact h3)
   unfold aBq at h1 ⊢
   by_cases hjst:eA P ops j=true
   ·rw [if_pos hjst] at h1 ⊢
    have h2:=stOp_put hoj hap (fun cs b=>hsel i oi cs b hi) (fun cs b=>hsel j oj cs b hoj) (hy w (kK.refl w)) h1
    have h4:stOp P ops w j (fun a'=>(∃u,a'=a.put oj.dst u)∧yJ P ops Q fuel ((listed.setIfInBounds i true).setIfInBounds j true) (a'.put oi.dst v) w) a:=by
     unfold stOp at h2 ⊢
     simp only [hoj] at h2 ⊢
     split
     ·rename_i hw
      simp only [hw,if_true,Oper.still] at h2 ⊢
      generalize (execOp a.eval oj).run P w=r at*
      cases r with
      |ok n w'=>
       cases n<;>simp only [Oper.stillUpon] at h2 ⊢
       case value u=>exact ⟨h2.1,⟨u,rfl⟩,h2.2.2⟩
       case skip=>exact ⟨h2.1,⟨_,rfl⟩,h2.2.2⟩
       case enter f args=>obtain ⟨q1,u,q2,q3⟩:=h2;exact ⟨q1,u,q2,⟨u,rfl⟩,q3.2⟩
      |halt x w'=>simp only [Oper.stillUpon] at h2
     ·rename_i hw
      simp only [hw] at h2 ⊢
      exact ⟨⟨_,rfl⟩,h2.2⟩
    exact stOp_mono (fun a' h3=>by
     obtain ⟨⟨u,rfl⟩,h5⟩:=h3
     exact fin u w (kK.refl w) h5) h4
   ·have hjf:eA P ops j=false:=by simpa using hjst
    rw [if_neg hjst] at h1 ⊢
    rcases hns j hjs hji hjun hjf with hmk|hbit
    ·have hmk':(aH P oj).isMaker=true:=by unfold aAa at hmk;rw [hoj] at hmk;exact hmk
     unfold wpOp at h1 ⊢
     simp only [hoj] at h1 ⊢
     rw [wanted_put oj a oi.dst v p1] at h1
     split
     ·rename_i hw
      simp only [hw,if_true] at h1
      refine .inl ?_
      obtain ⟨u,ob,hrun⟩:=bFe hmk' a.eval w
      rcases h1 with h1|⟨_,_,_,h1⟩
      ·unfold Oper.wp at h1 ⊢
       rw [execOp_put oj (fun cs b=>hsel j oj cs b hoj) a oi.dst v p1,hrun] at h1
       rw [hrun]
       simp only [Oper.upon] at h1 ⊢
       exact fin u _ (kK.alloc w ob) (by rw [←Act.put_comm a v u p2];exact h1)
      ·exact h1.elim
     ·rename_i hw
      simp only [hw] at h1
      exact fin undef w (kK.refl w) (by rw [←Act.put_comm a v undef p2];exact h1)
    ·exact (aGj (mem_ready.1 hr).1 (bPi hm hcl j i oj hoj his hall hbit)).elim
theorem aC0 [Quiet P] {i:Nat} {oi:Oper} {v:Value} (hi:ops[i]? =some oi) (hsel:∀(j:Nat) (o:Oper) cs b,ops[j]? =some o→o.op≠.select cs b) (hst:eA P ops i=true):
  ∀(fuel:Nat) (listed:Array Bool) (a:Act) (w:World),
   (∀j oj,ops[j]? =some oj→j≠i→listed.getD j true=false→(∀e∈oj.after,Region.binds .any e=true→e.on≠i)→oi.apart ops oj=true)→
   i∈Region.ready .any ops listed→Yields P ops oi v a→
   yJ P ops Q fuel (listed.setIfInBounds i true) (a.put oi.dst v) w→yJ P ops Q (fuel+1) listed a w:=by
 have toAt:∀{a:Act} {w:World},Yields P ops oi v a→YieldsAt P ops w oi v a:=fun hy=>by
  rcases hy with ⟨h1,h2⟩|h
  ·exact .inl ⟨h1,.inl (h2 _)⟩
  ·exact .inr h
 have base:∀{K:Act→World→Prop} {a:Act} {w:World},Yields P ops oi v a→K (a.put oi.dst v) w→aBq P ops i K a w:=fun hy hK=>by
  unfold aBq;rw [if_pos hst];exact (toAt hy).stOp hi hK
 intro fuel
 induction fuel with
 |zero=>
  intro listed a w _ hr hy H
  refine ⟨fun h=>(by rw [h] at hr;cases hr),fun j hj=>?_⟩
  by_cases hji:j=i
  ·subst hji;exact base hy H
  ·have:=ready_mono hj hji
   rw [H.1] at this
   cases this
 |succ fuel ih=>
  intro listed a w hfree hr hy H
  refine ⟨fun h=>(by rw [h] at hr;cases hr),fun j hj=>?_⟩
  by_cases hji:j=i
  ·subst hji;exact base hy H
  ·have h1:=H.2 j (ready_mono hj hji)
   obtain ⟨hjun,oj,hoj,hall⟩:=mem_ready.1 hj
   have hnot:∀e∈oj.after,Region.binds .any e=true→e.on≠i:=fun e he hb heq=>by
    have h1:=hall e he hb
    rw [heq] at h1
    exact aGj (mem_ready.1 hr).1 h1
   have hap:=hfree j oj hoj hji hjun hnot
   have hfree':∀k ok,ops[k]? =some ok→k≠i→(listed.setIfInBounds j true).getD k true=false→(∀e∈ok.after,Region.binds .any e=true→e.on≠i)→oi.apart ops ok=true:=by
    intro k ok hk hki hun hno
    refine hfree k ok hk hki ?_ hno
    by_cases hjk:j=k
    ·subst hjk;exact hjun
    ·rw [getD_set_ne true hjk] at hun;exact hun
   have fin:∀a' w',Yields P ops oi v a'→yJ P ops Q fuel ((listed.setIfInBounds i true).setIfInBounds j true) (a'.put oi.dst v) w'→yJ P ops Q (fuel+1) (listed.setIfInBounds j true) a' w':=fun a' w' hy' h3=>
    ih (listed.setIfInBounds j true) a' w' hfree' (ready_mono hr (Ne.symm hji)) hy' (by rw [Array.setIfInBounds_comm _ _ hji];exact h3)
   unfold aBq at h1 ⊢
   split
   ·rename_i hjst
    rw [if_pos hjst] at h1
    obtain ⟨p1,p2,p3⟩:=Oper.apart_spec hap
    have h2:=stOp_put hoj hap (fun cs b=>hsel i oi cs b hi) (fun cs b=>hsel j oj cs b hoj) (toAt hy) h1
    have h4:stOp P ops w j (fun a'=>(∃u,a'=a.put oj.dst u)∧yJ P ops Q fuel ((listed.setIfInBounds i true).setIfInBounds j true) (a'.put oi.dst v) w) a:=by
     unfold stOp at h2 ⊢
     simp only [hoj] at h2 ⊢
     split
     ·rename_i hw
      simp only [hw,if_true,Oper.still] at h2 ⊢
      generalize (execOp a.eval oj).run P w=r at*
      cases r with
      |ok n w'=>
       cases n<;>simp only [Oper.stillUpon] at h2 ⊢
       case value u=>exact ⟨h2.1,⟨u,rfl⟩,h2.2.2⟩
       case skip=>exact ⟨h2.1,⟨_,rfl⟩,h2.2.2⟩
       case enter f args=>obtain ⟨q1,u,q2,q3⟩:=h2;exact ⟨q1,u,q2,⟨u,rfl⟩,q3.2⟩
      |halt x w'=>simp only [Oper.stillUpon] at h2
     ·rename_i hw
      simp only [hw] at h2 ⊢
      exact ⟨⟨_,rfl⟩,h2.2⟩
    exact stOp_mono (fun a' h3=>by
     obtain ⟨⟨u,rfl⟩,h5⟩:=h3
     exact fin _ _ (hy.of_same (execOp_put oi (fun cs b=>hsel i oi cs b hi) a oj.dst u p3) (wanted_put oi a oj.dst u p3)) h5) h4
   ·rename_i hjst
    rw [if_neg hjst] at h1
    have h2:=wpOp_put (Q:=fun _ _ _=>False) hoj hap (fun cs b=>hsel i oi cs b hi) (fun cs b=>hsel j oj cs b hoj) (fun _ _ _ h=>h) hy h1
    exact wpOp_mono (fun a' w' h3=>fin a' w' h3.1 h3.2) h2
end
end Go.K
