/- The engine, part 4: operations that write or call; regions.  -/
import Derived.Laws.IdiomStrings
import Derived.Laws.BytesString
import Derived.Below
import Derived.Sort.Grow
import Derived.Deep.Draws
import Derived.Test.YtgloknkcfchnlaaGreatZ1
set_option linter.unusedVariables false
set_option linter.unusedSimpArgs false
namespace Go.K
section
open Go
variable {P:Program} {ρ:Env} {w:World}
theorem aRo {a:Addr} {v:Value} (h1:v.oneCell'=true) (hc:(w.cell? a).isSome=true) (hf:w.frozen? a=false):(store a v).run P w=.ok () (w.setCell a v):=by
 obtain ⟨u,hu⟩:=Option.isSome_iff_exists.1 hc
 rw [run_store P w a v .plain h1,hu]
 simp [hf]
theorem aSg (w:World) (p q:Addr) (u:Value):((w.setCell p u).cell? q).isSome=(w.cell? q).isSome:=by
 by_cases h:p=q
 ·subst h
  cases hc:w.cell? p with
  |none=>
   unfold World.cell? World.setCell at*
   simp only [Array.getElem?_modify]
   cases hh:w.heap[p.block]? with
   |none=>simp
   |some o=>
    rw [hh] at hc
    cases o<;>simp_all
  |some v=>rw [World.cell?_setCell_same _ _ _ hc];rfl
 ·rw [World.cell?_setCell_other _ _ _ _ h]
theorem pV {a:Addr}:∀(vs:List Value) (i:Nat) (w:World),(∀v∈vs,v.oneCell'=true)→aUz w a i vs.length→(storeCells a vs i).run P w=.ok () (kR w a i vs)
 | [],i,w,_,_=>rfl
 |v::vs,i,w,h1,hc=>by
  have h0:=hc i (Nat.le_refl _) (by simp)
  simp only [storeCells,Sem.run_bind,aRo (h1 v (by simp)) h0.1 h0.2,Result.andThen_ok,kR]
  refine pV vs (i+1) _ (fun u hu=>h1 u (by simp [hu])) fun j hj hj2=>?_
  have:=hc j (by omega) (by simp;omega)
  rw [aSg,World.frozen?_setCell]
  exact this
theorem gO {r:Nat} {o:Obj} (h:w.heap[r]? =some o) (hc:∀c t f,o≠.cells c t f):(getObj r).run P w=.ok o w:=by
 unfold getObj
 simp only [Sem.run,h]
theorem jM {r:Nat} {o o':Obj} (h:w.heap[r]? =some o) (hc:∀c t f,o≠.cells c t f):(setObj r o').run P w=.ok () (eG w r o'):=by
 unfold setObj
 simp only [Sem.run,h]
 rfl
theorem zeros_length (z:List Value):∀n,(zeros z n).length=n*z.length
 |0=>by simp [zeros]
 |n+1=>by simp [zeros,zeros_length z n,Nat.add_mul];omega
theorem aUi (z:List Value):∀(n i:Nat),i<n*z.length→(zeros z n)[i]? =z[i%z.length]?
 |0,i,h=>by simp at h
 |n+1,i,h=>by
  simp only [zeros]
  by_cases hi:i<z.length
  ·rw [List.getElem?_append_left hi,Nat.mod_eq_of_lt hi]
  ·rw [List.getElem?_append_right (by omega),aUi z n (i - z.length) (by rw [Nat.add_mul] at h;omega),show i%z.length=(i - z.length)%z.length from Nat.mod_eq_sub_mod (by omega)]
theorem aDe (z:Array Value) (n:Nat) (hz:0<z.size):(Array.range (n*z.size)).map (fun i=>z[i%z.size]!)=(zeros z.toList n).toArray:=by
 apply Array.ext'
 apply List.ext_getElem?
 intro i
 by_cases hi:i<n*z.size
 ·have hm:i%z.size<z.size:=Nat.mod_lt _ hz
  rw [List.getElem?_toArray.symm]
  simp only [Array.toList_map]
  have h1:=aUi z.toList n i (by simpa using hi)
  simp only [Array.length_toList] at h1
  rw [h1]
  simp [hi,hm]
 ·have h1:=zeros_length z.toList n
  simp only [Array.length_toList] at h1
  rw [List.getElem?_eq_none (by simp;omega),List.getElem?_eq_none (by simp;omega)]
theorem aId {t:TypeId} {s:Bool} {ks:List CK} {e:TypeId} (h:keyOf P t=some (s,ks,e)):∃k,P.underlying t=some (.map k e)∧jG P 20 k=some ks∧s=zX P k:=by
 unfold keyOf at h
 split at h
 ·rename_i kt et hu
  obtain ⟨ks',hks,heq⟩:=Option.map_eq_some_iff.1 h
  simp only [Prod.mk.injEq] at heq
  obtain ⟨hs,rfl,rfl⟩:=heq
  exact ⟨kt,hu,hks,hs.symm⟩
 ·cases h
theorem aTt {s:Bool} {ks:List CK} {k v:Value} {es:Array MapEntry} {i:Nat} (h:lN s ks k es.toList 0=some (some (i,v))):(Instr.keyThatStays (((es[i]?).map (·.key)).getD k) k).run P w=.ok k w:=by
 obtain ⟨_,e,he,hk,_,hq⟩:=aRt _ _ _ _ h
 have he':es[i]? =some e:=by simpa using he
 rw [he']
 exact aWa hq
theorem fM {es:Array MapEntry} {c:Nat}:∀a b d,Obj.map es c≠.cells a b d:=by intro a b d h;cases h
theorem aG1 {m:Option Nat} {a c:Nat} {s:Array Nat}:∀p q d,Obj.mapIter m a s c≠.cells p q d:=by intro a b d h;cases h
theorem aS2 {t:TypeId} {s:Bool} {ks:List CK} {e:TypeId} (hk:keyOf P t=some (s,ks,e)) {r:Nat} {es:Array MapEntry} {clock:Nat} {kv v:Value} {f:Option (Nat × Value)} (hr:w.heap[r]? =some (.map es clock)) (ho:aKz s ks kv=true) (hf:lN s ks kv es.toList 0=some f):
  (Instr.mapUpdate t (.map (some r)) kv v).run P w=.ok () (eG w r (.map (kE es clock kv v f).1 (kE es clock kv v f).2)):=by
 obtain ⟨kt,hu,hks,rfl⟩:=aId hk
 have hg:=gO (P:=P) hr fM
 have hck:=zT (w:=w) (em:=false) hks ho
 have hfk:=aAc (w:=w) hks hf
 simp only [Instr.mapUpdate,Sem.run_bind,aC hu,Result.andThen_ok,hg,hck,hfk]
 cases f with
 |none=>simp [kE,jM hr fM]
 |some p=>
  obtain ⟨i,u⟩:=p
  simp [kE,aTt hf,jM hr fM]
theorem aWb {t:TypeId} {s:Bool} {ks:List CK} {e:TypeId} {z:Value} (hk:keyOf P t=some (s,ks,e)) (hz:zeroOf P e=some z) {r:Nat} {es:Array MapEntry} {clock:Nat} {kv:Value} {f:Option (Nat × Value)} (hr:w.heap[r]? =some (.map es clock)) (ho:aKz s ks kv=true) (hf:lN s ks kv es.toList 0=some f):
  (Instr.mapEntry t (.map (some r)) kv).run P w=match f with
   |some (i,v)=>.ok (.tuple #[v,.int .i64 (((es[i]?).map (·.born)).getD 0:Nat)]) (eG w r (.map (es.modify i fun e=>{e with key:=kv}) clock))
   |none=>.ok (.tuple #[z,.int .i64 (clock:Nat)]) (eG w r (.map (es.push {key:=kv,val:=z,born:=clock}) (clock+1))):=by
 obtain ⟨kt,hu,hks,rfl⟩:=aId hk
 obtain ⟨inf,hinf,hz'⟩:=Option.bind_eq_some_iff.1 hz
 have hzv:∀w,(zeroValue e).run P w=.ok z w:=fun w=>by simp [zeroValue,bP hinf,hz']
 have hg:=gO (P:=P) hr fM
 have hck:=zT (w:=w) (em:=false) hks ho
 have hfk:=aAc (w:=w) hks hf
 simp only [Instr.mapEntry,Sem.run_bind,aC hu,Result.andThen_ok,hg,hck,hfk]
 cases f with
 |none=>simp [hzv,jM hr fM,goInt]
 |some p=>
  obtain ⟨i,u⟩:=p
  simp only [aTt hf,Result.andThen_ok,Sem.run_bind,jM hr fM,Sem.run_pure,goInt]
  cases es[i]? <;>rfl
theorem bKd {it:Value} {ty:TypeId} {b m since last clock:Nat} {seen:Array Nat} {es:Array MapEntry} {k:Value→World→Prop} (hit:it=.pointer (some ⟨b,0,none⟩)) (hb:w.heap[b]? =some (.mapIter (some m) since seen last)) (hm:w.heap[m]? =some (.map es clock))
  (h1:∀e∈es,e.born<since) (h3:seen.isEmpty=true∨es.isEmpty=true∨∃e∈es,e.born<last)
  (h4:(es.filter fun e=>!seen.contains e.born).isEmpty=true→∀w',(w'=w∨w'=w.drew)→k (.tuple #[.bool false]) w')
  (h5:∀e∈es.filter (fun e=>!seen.contains e.born),∀w',(w'=w∨w'=w.drew)→k (.tuple #[.bool true,e.key,e.val]) (eG w' b (.mapIter (some m) since (seen.push e.born) clock))):
  ∃v w',(Instr.next it false ty).run P w=.ok v w'∧k v w':=by
 subst hit
 have hg1:=gO (P:=P) hb aG1
 have hg2:=gO (P:=P) hm fM
 have hno:(!seen.isEmpty&&!es.isEmpty&&es.all (fun e=>decide (e.born≥last)))=false:=by
  rcases h3 with h|h|⟨e,he,hlt⟩
  ·simp [h]
  ·simp [h]
  ·have:es.all (fun e=>decide (e.born≥last))=false:=by
    refine Bool.eq_false_iff.2 fun h=>?_
    rw [Array.all_eq_true_iff_forall_mem] at h
    have:=h e he
    simp at this;omega
   simp [this]
 have hold:(es.filter fun e=>!seen.contains e.born).filter (fun e=>decide (e.born<since))=es.filter fun e=>!seen.contains e.born:=by
  apply Array.filter_eq_self.2
  intro e he
  have:=h1 e (Array.mem_of_mem_filter he)
  simpa using this
 have hnew:(es.filter fun e=>!seen.contains e.born).filter (fun e=>decide (e.born≥since))=#[]:=by
  apply Array.filter_eq_empty_iff.2
  intro e he
  have:=h1 e (Array.mem_of_mem_filter he)
  simp;omega
 generalize hL:(es.filter fun e=>!seen.contains e.born)=left at*
 unfold Instr.next
 simp only [Sem.run_bind,hg1,hg2,Result.andThen_ok,hno,Bool.false_eq_true,if_false,hL,hold,hnew,Array.append_empty]
 by_cases he:left.isEmpty=true
 ·have:left=#[]:=by simpa using he
  subst this
  refine ⟨_,w,?_,h4 he w (.inl rfl)⟩
  simp [choose,Sem.run,Question.forced]
 ·have hpos:0<left.size:=by
   rcases Nat.eq_zero_or_pos left.size with h|h
   ·exact absurd (by simpa using h) he
   ·exact h
  obtain ⟨c,w',hc,hrun,hw'⟩:∃c w',c<left.size∧(choose (.mapNext left.size)).run P w=.ok c w'∧(w'=w∨w'=w.drew):=by
   by_cases hf:left.size≤1
   ·exact ⟨0,w,hpos,by simp [choose,Sem.run,Question.forced,hf],.inl rfl⟩
   ·exact ⟨_,w.drew,Nat.mod_lt _ hpos,by simp [choose,Sem.run,Question.forced,Question.cut,hf];rfl,.inr rfl⟩
  refine ⟨_,_,?_,h5 left[c] (Array.getElem_mem hc) w' hw'⟩
  have hb':w'.heap[b]? =some (.mapIter (some m) since seen last):=by rcases hw' with rfl|rfl<;>exact hb
  simp only [he,Bool.false_eq_true,if_false,Array.empty_append,Array.size_map,hrun,Result.andThen_ok,Array.getElem?_map,Array.getElem?_eq_getElem hc,Option.map_some,Sem.run_bind,jM hb' aG1,Sem.run_pure]
theorem aIr {a:Addr}:∀(n i:Nat),rdCells w.drew a i n=rdCells w a i n
 |0,_=>rfl
 |n+1,i=>by simp only [rdCells,World.cell?_drew,aIr n (i+1)]
theorem aI6 {size:Nat} {v:Value}:dK w.drew size v=dK w size v:=by
 unfold dK
 split<;>simp only [aIr]
theorem aT3 {size:Nat} {y:Value} {n:Nat} {l:List Value} (h:dK w size y=some (n,l)) (w2:World):(Builtin.lenOf y).run P w2=.ok n w2:=by
 unfold dK at h
 split at h
 ·obtain ⟨_,_,h⟩:=Option.map_eq_some_iff.1 h;simp only [Prod.mk.injEq] at h;obtain ⟨rfl,_⟩:=h;rfl
 ·simp only [Option.some.injEq,Prod.mk.injEq] at h;obtain ⟨rfl,_⟩:=h;rfl
 ·simp only [Option.some.injEq,Prod.mk.injEq] at h;obtain ⟨rfl,_⟩:=h;rfl
 ·cases h
theorem qL {size:Nat} {y:Value} {n:Nat} {l:List Value} (h:dK w size y=some (n,l)):(Builtin.firstCells size n y).run P w=.ok l.toArray w:=by
 unfold dK at h
 split at h
 ·rename_i a m c
  obtain ⟨l',hl,h⟩:=Option.map_eq_some_iff.1 h;simp only [Prod.mk.injEq] at h;obtain ⟨rfl,rfl⟩:=h
  simp [Builtin.firstCells,loadCells,run_loadCellsFrom (m*size) 0 #[] l' hl]
 ·simp only [Option.some.injEq,Prod.mk.injEq] at h;obtain ⟨rfl,rfl⟩:=h;rfl
 ·rename_i s
  simp only [Option.some.injEq,Prod.mk.injEq] at h;obtain ⟨rfl,rfl⟩:=h
  have:s.extract 0 s.size=s:=by
   apply ByteArray.ext;simp
  simp only [Builtin.firstCells,this]
  have e2:(s.data.map fun b=>Value.int .u8 b.toNat)=(pH s).toArray:=by apply Array.ext';simp [pH]
  rw [e2];rfl
 ·cases h
theorem bDa {t u ty e : TypeId} {d : TypeDesc} {inf : TypeInfo} {z : Value} (ht : P.underlying t = some (.slice e)) (hu : P.underlying u = some d) (hd : ∀ k, d ≠ .int k) (hinf : P.info? e = some inf) (hz : zeroOf P e = some z)
    (hzs : z.cells.size = inf.size) (hpos : 0 < inf.size) (hb : inf.bytes ≠ 0) {base : Option Addr} {sLen sCap n : Nat} {y : Value} {new : List Value} (hy : dK w inf.size y = some (n, new)) {k : Value → World → Prop}
    (h1 : sLen + n ≤ sCap → match base with
        | some a => (∀ v ∈ new, v.oneCell' = true) ∧ aUz w (a.add (sLen * inf.size)) 0 new.length ∧ k (.slice base (sLen + n) sCap) (kR w (a.add (sLen * inf.size)) 0 new)
        | none => k (.slice base (sLen + n) sCap) w)
    (h2 : sCap < sLen + n → ∃ old, dK w inf.size (.slice base sLen sCap) = some (sLen, old) ∧ Builtin.nextslicecap (sLen + n) sCap * inf.bytes ≤ 2 ^ 48 ∧
          ∀ c, sLen + n ≤ c → k (.slice (some ⟨w.heap.size, 0, none⟩) (sLen + n) c) (w.drew.alloc (.cells (old ++ new ++ zeros z.cells.toList (c - (sLen + n))).toArray e))) :
    ∃ v w', (Builtin.append_ #[t, u] ty #[.slice base sLen sCap, y]).run P w = .ok v w' ∧ k v w' := by
  have hzv : ∀ w, (zeroValue e).run P w = .ok z w := fun w => by
    obtain ⟨inf', hinf', hz'⟩ := Option.bind_eq_some_iff.1 hz
    simp [zeroValue, bP hinf', hz']
  have hl := aT3 (P := P) hy
  by_cases hc : sLen + n ≤ sCap
  · have h1' := h1 hc
    cases base with
    | none =>
      refine ⟨_, w, ?_, h1'⟩
      simp [Builtin.append_, aC ht, cJ hinf, aC hu, hl, hc, qL hy]
    | some a =>
      obtain ⟨hone, hcan, hk⟩ := h1'
      refine ⟨_, _, ?_, hk⟩
      have hst := pV (P := P) (a := a.add (sLen * inf.size)) new 0 w hone hcan
      simp [Builtin.append_, aC ht, cJ hinf, aC hu, hl, hc, qL hy, hst]
  · obtain ⟨old, hold, hcap, hk⟩ := h2 (by omega)
    obtain ⟨c, hc3⟩ : ∃ c, c = grownCap w (sLen + n) sCap e := ⟨_, rfl⟩
    have hc1 : sLen + n ≤ c := by rw [hc3]; simp [grownCap, Question.cut]
    refine ⟨_, _, ?_, hk c hc1⟩
    have f1 := qL (P := P) (w := w.drew) (size := inf.size) (y := .slice base sLen sCap) (by rw [aI6]; exact hold)
    have f2 := qL (P := P) (w := w.drew) (size := inf.size) (y := y) (by rw [aI6]; exact hy)
    have hr : Builtin.zeroCells z.cells (c - (sLen + n)) = (zeros z.cells.toList (c - (sLen + n))).toArray := by
      unfold Builtin.zeroCells
      exact aDe z.cells _ (by omega)
    have hnc : ¬ (281474976710656 < Builtin.nextslicecap (sLen + n) sCap * inf.bytes) := by omega
    simp [Builtin.append_, aC ht, cJ hinf, aC hu, hl, hc, f1, f2, bP hinf, hb, hzv, hnc, newRow, Question.forced]
    rw [hc3] at hr ⊢
    unfold grownCap at hr ⊢
    rw [hr]
    simp
theorem aJw {a:Addr}:∀(n i m:Nat) (l:List Value),rdCells w a i n=some l→m≤n→rdCells w a i m=some (l.take m)
 |n,i,0,l,_,_=>by simp [rdCells]
 |n+1,i,m+1,l,h,hm=>by
  simp only [rdCells,Option.bind_eq_some_iff,Option.map_eq_some_iff] at h
  obtain ⟨v,hv,r,hr,rfl⟩:=h
  simp [rdCells,hv,aJw n (i+1) m r hr (by omega)]
theorem aOn {size:Nat} {y:Value} {n m:Nat} {l:List Value} (h:dK w size y=some (n,l)) (hs:(∃a m c,y=.slice a m c)∨size=1) (hm:m≤n):(Builtin.firstCells size m y).run P w=.ok (l.take (m*size)).toArray w:=by
 unfold dK at h
 split at h
 ·rename_i a n' c
  obtain ⟨l',hl,h⟩:=Option.map_eq_some_iff.1 h;simp only [Prod.mk.injEq] at h;obtain ⟨rfl,rfl⟩:=h
  have:=aJw (n'*size) 0 (m*size) l' hl (Nat.mul_le_mul_right _ hm)
  simp [Builtin.firstCells,loadCells,run_loadCellsFrom (m*size) 0 #[] _ this]
 ·simp only [Option.some.injEq,Prod.mk.injEq] at h;obtain ⟨rfl,rfl⟩:=h;simp [Builtin.firstCells]
 ·rename_i s
  simp only [Option.some.injEq,Prod.mk.injEq] at h;obtain ⟨rfl,rfl⟩:=h
  rcases hs with ⟨a,m',c,hs⟩|rfl
  ·cases hs
  ·have e2:((s.extract 0 m).data.map fun b=>Value.int .u8 b.toNat)=((pH s).take (m*1)).toArray:=by
    apply Array.ext'
    simp [pH,ByteArray.data_extract]
   simp only [Builtin.firstCells,e2];rfl
 ·cases h
theorem bE9 {t:TypeId} {v rv:Value} {name:String} {f:FuncId} (h:sJ P t v name=some (f,rv)):(method (P.types.size+Made.depth) t v name).run P w=.ok (f,rv) w:=by
 unfold sJ at h
 split at h
 ·rename_i i d hi hu
  split at h
  ·rename_i m hm
   have e:P.types.size+Made.depth=(P.types.size+99)+1:=rfl
   rw [e]
   generalize P.types.size+99=fuel
   obtain ⟨mn,ms,path,func⟩:=m
   obtain ⟨path⟩:=path
   cases path with
   |cons a b=>simp at h
   |nil=>
    rcases func with _|⟨g,_|_⟩
    ·simp at h
    ·cases d<;>simp only [Option.some.injEq,Prod.mk.injEq,reduceCtorEq] at h<;>obtain ⟨rfl,rfl⟩:=h<;>
      simp [method,follow,receiverAt,Place.get,bP hi,hm,aC hu]
    ·cases d<;>simp only [Option.some.injEq,Prod.mk.injEq,reduceCtorEq] at h<;>obtain ⟨rfl,rfl⟩:=h<;>
      simp [method,follow,receiverAt,Place.get,bP hi,hm,aC hu]
  ·cases h
 ·cases h
theorem bKh [Quiet P] (o : Oper) (k : Value → World → Prop) (h : (aH P o).wp P ρ w k) : (KOp.raw o).wp P ρ w k := by
  by_cases hst : (aH P o).isStill = true
  · have h2 : ∃ v, (aH P o).rd ρ w = some v ∧ k v w := by
      generalize aH P o = ko at h hst
      cases ko <;> first | exact h | (simp [KOp.isStill, KOp.isFix] at hst; done)
    obtain ⟨v, hv, hk⟩ := h2
    rcases rK o v hst hv with hr | ⟨hr, rfl⟩ | ⟨f, as, hr, hc⟩
    · simp only [KOp.wp, hr]; exact hk
    · simp only [KOp.wp, hr]; exact hk
    · simp only [KOp.wp, hr]; exact hc.mono fun e w'' ⟨he, hw⟩ => ⟨v, he, by rw [hw]; exact hk⟩
  · obtain ⟨dst, op, ty, pos, after, guard⟩ := o
    cases op
    case box t x =>
      simp only [aH, KOp.wp] at h ⊢
      have : (execOp (ev ρ) { dst := dst, op := .box t x, type := ty, pos := pos, after := after, guard := guard }).run P w = .ok (.value (.pointer (some ⟨w.heap.size, 0, none⟩))) (w.alloc (.cells (ev ρ x).cells t)) := by
        simp [execOp, Instr.box, newVar, newRow]
      rw [this]; exact h
    case alloc t =>
      simp only [aH] at h
      split at h
      · rename_i inf hinf
        split at h
        · rename_i z hz
          simp only [KOp.wp] at h ⊢
          have hzv : (zeroValue t).run P w = .ok z w := by simp [zeroValue, bP hinf, hz]
          have : (execOp (ev ρ) { dst := dst, op := .alloc t, type := ty, pos := pos, after := after, guard := guard }).run P w = .ok (.value (.pointer (some ⟨w.heap.size, 0, none⟩))) (w.alloc (.cells z.cells t)) := by
            simp [execOp, Instr.alloc, hzv, newVar, newRow]
          rw [this]; exact h
        · exact h
      · exact h
    case store t x y =>
      have fin : ∀ {w' : World} (a : Addr), ev ρ x = .pointer (some a) → (storeVar t a (ev ρ y)).run P w = .ok () w' →
          (execOp (ev ρ) { dst := dst, op := .store t x y, type := ty, pos := pos, after := after, guard := guard }).run P w = .ok .skip w' := by
        intro w' a hx hr
        simp [execOp, Instr.storeAt, hx, mW, hr]
      simp only [aH] at h
      split at h
      · rename_i n _ hn
        simp only [KOp.wp] at h ⊢
        obtain ⟨a, vs, hx, hy, hsz, h1, hc, hk⟩ := h
        have hs := (uN hn w).2
        rw [fin a hx (w' := kR w a 0 vs.toList)]
        · exact hk
        · have := pV (P := P) (a := a) vs.toList 0 w h1 (by simpa [hsz] using hc)
          simp [storeVar, hs, hy, Value.cells, hsz, this]
      · rename_i inf hn hinf
        split at h
        · rename_i hone
          simp only [KOp.wp] at h ⊢
          obtain ⟨a, hx, h1, hc, hf, hk⟩ := h
          rw [fin a hx (w' := w.setCell a (ev ρ y))]
          · exact hk
          · have hcell : (ev ρ y).cells = #[ev ρ y] := by
              generalize ev ρ y = v at h1
              cases v <;> first | rfl | (simp [Value.oneCell'] at h1; done)
            have h3 := aRo (P := P) h1 hc hf
            simp [storeVar, cJ hinf, hone, hcell, storeCells, add_zero, h3]
        · exact h
      · exact h
    case call c =>
      obtain ⟨callee, args, argTypes⟩ := c
      have enter : ∀ (f : FuncId) (vs : Array Value), cK P f = true → (callFunc f vs).run P w = .ok (.enter f vs) w := by
        intro f vs hb
        unfold cK at hb
        split at hb
        · rename_i fn hfn
          simp only [Bool.and_eq_true, Bool.not_eq_true'] at hb
          have hne : fn.name ≠ "runtime.NumGoroutine" := by simpa using hb.2
          have hbn : fn.body ≠ none := by intro hn; rw [hn] at hb; simp at hb
          simp [callFunc, hfn, hne, hbn]
        · cases hb
      cases callee with
      | value fo =>
        cases fo with
        | func f =>
          simp only [aH] at h
          split at h
          · rename_i hb
            cases hq : Quiet.tab P f with
            | some F => rw [hq] at h; simp only [aH, if_pos hb, hq] at hst; exact absurd rfl hst
            | none =>
            rw [hq] at h
            simp only [KOp.wp] at h ⊢
            have : (execOp (ev ρ) { dst := dst, op := .call { callee := .value (.func f), args := args, argTypes := argTypes }, type := ty, pos := pos, after := after, guard := guard }).run P w = .ok (.enter f (args.toList.map (ev ρ)).toArray) w := by
              simp only [execOp, resolve, ev, Deferred.ofValue, Sem.run_bind, Sem.run_pure, Result.andThen_ok, invoke]
              rw [aZq]
              simpa using enter f _ hb
            rw [this]; exact h
          · exact h
        | tmp t =>
          simp only [aH, KOp.wp] at h ⊢
          obtain ⟨f, first, cap, hx, hb, hc⟩ := h
          have : (execOp (ev ρ) { dst := dst, op := .call { callee := .value (.tmp t), args := args, argTypes := argTypes }, type := ty, pos := pos, after := after, guard := guard }).run P w = .ok (.enter f (first ++ (args.toList.map (ev ρ)).toArray ++ cap)) w := by
            simp only [execOp, resolve, hx, Deferred.ofValue, Sem.run_bind, Sem.run_pure, Result.andThen_ok, invoke]
            rw [aZq]
            simpa using enter f _ hb
          rw [this]; exact hc
        | const v => exact h
        | global g => exact h
      | invoke r m =>
        simp only [aH, KOp.wp] at h ⊢
        obtain ⟨t, v, f, rv, hx, hm, hb, hc⟩ := h
        have : (execOp (ev ρ) { dst := dst, op := .call { callee := .invoke r m, args := args, argTypes := argTypes }, type := ty, pos := pos, after := after, guard := guard }).run P w = .ok (.enter f (rv :: args.toList.map (ev ρ)).toArray) w := by
          have h1 := bE9 (w := w) hm
          have h2 : ∀ a : Array Value, #[rv] ++ (#[Value.iface t v] ++ a).extract 1 (#[Value.iface t v] ++ a).size = (rv :: a.toList).toArray := by
            intro a
            apply Array.ext'
            simp
          simp only [execOp, resolve, hx, Sem.run_bind, Sem.run_pure, Result.andThen_ok, invoke]
          rw [aZq]
          have h3 : (#[Value.iface t v] ++ (args.toList.map (ev ρ)).toArray)[0]? = some (Value.iface t v) := by simp
          simp only [h3, callMethod, Sem.run_bind, h2, run_program, Result.andThen_ok, h1, enter f _ hb]
        rw [this]; exact hc
      | builtin b =>
        cases b
        case len =>
          simp only [aH] at h hst
          split at h
          · rename_i x t hx ht
            simp only [hx, ht] at hst
            split at h
            · rename_i hu; rw [hu] at hst; exact absurd rfl hst
            · rename_i hu; rw [hu] at hst; exact absurd rfl hst
            · rename_i hu; rw [hu] at hst; exact absurd rfl hst
            · exact h
          · exact h
        case cap =>
          simp only [aH] at h hst
          repeat' split at h
          all_goals first
            | exact h
            | (exfalso; simp only [*] at hst; exact hst rfl)
        case delete =>
          simp only [aH] at h
          split at h
          · rename_i m kk t rest hx ht
            split at h
            · rename_i s ks e hk
              simp only [KOp.wp] at h ⊢
              obtain ⟨r, es, clock, f, hm, hr, ho, hf, hkk⟩ := h
              have ea : args = #[m, kk] := by apply Array.ext'; simpa using hx
              have et : argTypes[0]? = some t := by rw [← Array.getElem?_toList, ht]; rfl
              subst ea
              obtain ⟨kt, hu, hks, rfl⟩ := aId hk
              have hck := zT (w := w) (em := es.isEmpty) hks ho
              have hfk := aAc (w := w) hks hf
              cases f with
              | none =>
                have : (execOp (ev ρ) { dst := dst, op := .call { callee := .builtin .delete, args := #[m, kk], argTypes := argTypes }, type := ty, pos := pos, after := after, guard := guard }).run P w = .ok (.value (.tuple #[])) (eG w r (.map es clock)) := by
                  simp [execOp, resolve, invoke, builtin, Builtin.delete_, et, hm, aC hu, gO hr fM, hck, hfk, jM hr fM]
                rw [this]; exact hkk
              | some p =>
                obtain ⟨i, v⟩ := p
                have : (execOp (ev ρ) { dst := dst, op := .call { callee := .builtin .delete, args := #[m, kk], argTypes := argTypes }, type := ty, pos := pos, after := after, guard := guard }).run P w = .ok (.value (.tuple #[])) (eG w r (.map (es.eraseIdxIfInBounds i) clock)) := by
                  simp [execOp, resolve, invoke, builtin, Builtin.delete_, et, hm, aC hu, gO hr fM, hck, hfk, jM hr fM]
                rw [this]; exact hkk
            · exact h
          · exact h
        case append =>
          simp only [aH] at h
          split at h
          · rename_i x y t u hx ht
            have ea : args = #[x, y] := by apply Array.ext'; simpa using hx
            have et : argTypes = #[t, u] := by apply Array.ext'; simpa using ht
            subst ea; subst et
            split at h
            · exact h
            · rename_i e d hni hte hue
              split at h
              · rename_i inf z hinf hz
                split at h
                · rename_i hcond
                  obtain ⟨hzs, hpos, hb⟩ := hcond
                  simp only [KOp.wp] at h ⊢
                  obtain ⟨base, sLen, sCap, n, new, hxv, hy, h1, h2⟩ := h
                  obtain ⟨v, w', hrun, hk⟩ := bDa (P := P) (ty := ty) hte hue (fun k hk => hni _ hk) hinf hz hzs hpos hb hy h1 h2
                  have : (execOp (ev ρ) { dst := dst, op := .call { callee := .builtin .append, args := #[x, y], argTypes := #[t, u] }, type := ty, pos := pos, after := after, guard := guard }).run P w = .ok (.value v) w' := by
                    simp [execOp, resolve, invoke, builtin, hxv, hrun]
                  rw [this]; exact hk
                · exact h
              · exact h
            · exact h
          · exact h
        case copy =>
          simp only [aH] at h
          split at h
          · rename_i x y t rest hx ht
            split at h
            · rename_i e hu
              split at h
              · rename_i inf hinf
                simp only [KOp.wp] at h ⊢
                obtain ⟨base, dLen, cap, n, new, hxv, hy, hs, hone, hcan, hk⟩ := h
                have ea : args = #[x, y] := by apply Array.ext'; simpa using hx
                have et : argTypes[0]? = some t := by rw [← Array.getElem?_toList, ht]; rfl
                subst ea
                have hl := aT3 (P := P) hy w
                have hfc := aOn (P := P) (m := min n dLen) hy hs (Nat.min_le_left _ _)
                cases base with
                | none =>
                  have : (execOp (ev ρ) { dst := dst, op := .call { callee := .builtin .copy, args := #[x, y], argTypes := argTypes }, type := ty, pos := pos, after := after, guard := guard }).run P w = .ok (.value (.int .i64 (min n dLen : Nat))) w := by
                    simp [execOp, resolve, invoke, builtin, Builtin.copy_, et, hxv, aC hu, hl, cJ hinf, hfc, goInt]
                  rw [this]; exact hk
                | some a =>
                  have hst := pV (P := P) (a := a) (new.take (min n dLen * inf.size)) 0 w (fun v hv => hone v (List.mem_of_mem_take hv)) (by
                    have hc := hcan a rfl
                    intro j h1 h2
                    refine hc j h1 ?_
                    have := List.length_take_le (min n dLen * inf.size) new
                    omega)
                  have : (execOp (ev ρ) { dst := dst, op := .call { callee := .builtin .copy, args := #[x, y], argTypes := argTypes }, type := ty, pos := pos, after := after, guard := guard }).run P w = .ok (.value (.int .i64 (min n dLen : Nat))) (kR w a 0 (new.take (min n dLen * inf.size))) := by
                    simp [execOp, resolve, invoke, builtin, Builtin.copy_, et, hxv, aC hu, hl, cJ hinf, hfc, goInt, hst]
                  rw [this]; exact hk
              · exact h
            · exact h
          · exact h
        case min => simp only [aH] at h hst; split at h <;> first | exact h | (rename_i hx; rw [hx] at hst; exact absurd rfl hst)
        case max => simp only [aH] at h hst; split at h <;> first | exact h | (rename_i hx; rw [hx] at hst; exact absurd rfl hst)
        all_goals exact h
    case panic x => simp only [aH, KOp.wp] at h
    case unOp op t x => cases op <;> first | exact h | exact absurd rfl hst
    case slice t x lo hi mx =>
      cases mx with
      | some m => exact h
      | none =>
        simp only [aH] at h hst; repeat' split at h
        all_goals first
          | exact h
          | (exfalso; simp only [*] at hst; exact hst rfl)
    case mapUpdate t m kk v =>
      simp only [aH] at h
      split at h
      · rename_i s ks e hk
        simp only [KOp.wp] at h ⊢
        obtain ⟨r, es, clock, f, hm, hr, ho, hf, hkk⟩ := h
        have hrun := aS2 (P := P) (t := t) (v := ev ρ v) hk hr ho hf
        have : (execOp (ev ρ) { dst := dst, op := .mapUpdate t m kk v, type := ty, pos := pos, after := after, guard := guard }).run P w = .ok .skip (eG w r (.map (kE es clock (ev ρ kk) (ev ρ v) f).1 (kE es clock (ev ρ kk) (ev ρ v) f).2)) := by
          simp [execOp, hm, hrun]
        rw [this]; exact hkk
      · exact h
    case mapEntry t m kk =>
      simp only [aH] at h
      split at h
      · rename_i s ks e hk
        split at h
        · rename_i z hz
          simp only [KOp.wp] at h ⊢
          obtain ⟨r, es, clock, f, hm, hr, ho, hf, hkk⟩ := h
          have hrun := aWb (P := P) (t := t) hk hz hr ho hf
          cases f with
          | none =>
            have : (execOp (ev ρ) { dst := dst, op := .mapEntry t m kk, type := ty, pos := pos, after := after, guard := guard }).run P w = .ok (.value (.tuple #[z, .int .i64 (clock : Nat)])) (eG w r (.map (es.push { key := ev ρ kk, val := z, born := clock }) (clock + 1))) := by
              simp [execOp, hm, hrun]
            rw [this]; exact hkk
          | some p =>
            obtain ⟨i, v⟩ := p
            have : (execOp (ev ρ) { dst := dst, op := .mapEntry t m kk, type := ty, pos := pos, after := after, guard := guard }).run P w = .ok (.value (.tuple #[v, .int .i64 (((es[i]?).map (·.born)).getD 0 : Nat)])) (eG w r (.map (es.modify i fun e => { e with key := ev ρ kk }) clock)) := by
              simp only [execOp, hm, hrun, Sem.run_bind, Result.andThen_ok, Sem.run_pure]
            rw [this]; exact hkk
        · exact h
      · exact h
    case entryStore t m s v =>
      simp only [aH, KOp.wp] at h ⊢
      obtain ⟨r, es, clock, kd, n, i, hm, hr, hs, hi, hkk⟩ := h
      have : (execOp (ev ρ) { dst := dst, op := .entryStore t m s v, type := ty, pos := pos, after := after, guard := guard }).run P w = .ok .skip (eG w r (.map (es.modify i fun e => { e with val := ev ρ v }) clock)) := by
        simp only [execOp, Instr.entryStore, hm, hs, Sem.run_bind, gO hr fM, Result.andThen_ok, asInt, asIntOf, Sem.run_pure, hi, jM hr fM]
      rw [this]; exact hkk
    case makeMap t r =>
      cases r with
      | some x => exact h
      | none =>
        simp only [aH, KOp.wp] at h ⊢
        have : (execOp (ev ρ) { dst := dst, op := .makeMap t none, type := ty, pos := pos, after := after, guard := guard }).run P w = .ok (.value (.map (some w.heap.size))) (w.alloc (.map #[] 0)) := by
          simp [execOp, Instr.makeMap]
        rw [this]; exact h
    case range t x =>
      simp only [aH] at h
      split at h
      · rename_i kt e hu
        simp only [KOp.wp] at h ⊢
        obtain ⟨r, es, clock, hx, hr, hk⟩ := h
        have : (execOp (ev ρ) { dst := dst, op := .range t x, type := ty, pos := pos, after := after, guard := guard }).run P w = .ok (.value (.pointer (some ⟨w.heap.size, 0, none⟩))) (w.alloc (.mapIter (some r) clock #[] clock)) := by
          simp [execOp, Instr.range, hx, aC hu, gO hr fM]
        rw [this]; exact hk
      · exact h
    case next it b =>
      cases b with
      | true => exact h
      | false =>
        simp only [aH, KOp.wp] at h ⊢
        obtain ⟨b, m, since, seen, last, es, clock, hit, hb, hm, h1, h2, h3, h4, h5⟩ := h
        obtain ⟨v, w', hr, hk⟩ := bKd (P := P) (ty := ty) hit hb hm h1 h3 h4 h5
        have : (execOp (ev ρ) { dst := dst, op := .next it false, type := ty, pos := pos, after := after, guard := guard }).run P w = .ok (.value v) w' := by
          simp [execOp, hr]
        rw [this]; exact hk
    case entry it =>
      simp only [aH, KOp.wp] at h ⊢
      obtain ⟨b, m, since, seen, stepped, st, es, e, hit, hb, hs, hm, hf, hk⟩ := h
      have : (execOp (ev ρ) { dst := dst, op := .entry it, type := ty, pos := pos, after := after, guard := guard }).run P w = .ok (.value (.tuple #[e.key, e.val])) w := by
        simp [execOp, Instr.entry, hit, gO hb aG1, hs, gO hm fM, hf]
      rw [this]; exact hk
    case buildSlice t ln parts =>
      simp only [aH] at h
      split at h
      · rename_i e hu
        split at h
        · rename_i inf z hinf hz
          split at h
          · rename_i hcond
            obtain ⟨h24, hzs, hpos, hall⟩ := hcond
            simp only [KOp.wp] at h ⊢
            obtain ⟨cs, hcs, hk⟩ := h
            obtain ⟨inf', hinf', hz'⟩ := Option.bind_eq_some_iff.1 hz
            have hzv : (zeroValue e).run P w = .ok z w := by simp [zeroValue, bP hinf', hz']
            have hzl := zeros_length z.cells.toList ln
            simp only [Array.length_toList, hzs] at hzl
            have hfill := aSb (ρ := ρ) (place := fun i => some (i * inf.size, inf.size)) (off := fun i => i * inf.size) (sz := fun _ => inf.size) parts.toList (zeros z.cells.toList ln).toArray cs
              (fun p hp => ⟨rfl, by
                have := List.all_eq_true.1 hall p hp
                simp only [decide_eq_true_eq] at this
                rw [Nat.add_mul, Nat.one_mul] at this
                simpa [hzl] using this⟩) (by simpa using hcs)
            have hrun : (Instr.buildSlice t ln (parts.map fun p => (p.1, ev ρ p.2))).run P w = .ok (.slice (some ⟨w.heap.size, 0, none⟩) ln ln) (w.alloc (.cells cs.toArray e)) := by
              have e3 : (parts.map fun p => (p.1, ev ρ p.2)).toList = parts.toList.map fun p => (p.1, ev ρ p.2) := by simp
              have hn24 : ¬ (ln * inf.size > 2 ^ 24) := by omega
              by_cases h0 : ln * inf.size = 0
              · have hln : ln = 0 := by
                  rcases Nat.mul_eq_zero.1 h0 with h | h
                  · exact h
                  · omega
                subst hln
                have hp0 : parts.toList = [] := by
                  rcases hpl : parts.toList with _ | ⟨p, r⟩
                  · rfl
                  · have := List.all_eq_true.1 hall p (by rw [hpl]; simp)
                    have h5 : 0 < (p.1 + 1) * inf.size := Nat.mul_pos (by omega) hpos
                    simp only [Nat.zero_mul, decide_eq_true_eq] at this
                    omega
                have hcs0 : cs = [] := by
                  rw [hp0] at hcs; simpa [sF, zeros] using hcs.symm
                subst hcs0
                have hpe : parts = #[] := by apply Array.ext'; simpa using hp0
                subst hpe
                simp [Instr.buildSlice, aC hu, cJ hinf, Instr.fill, newRow, show Array.range 0 = #[] from rfl]
              · have hz2 : (Array.range (ln * inf.size)).map (fun i => z.cells[i % z.cells.size]!) = (zeros z.cells.toList ln).toArray := by
                  rw [← hzs]; exact aDe z.cells ln (by omega)
                simp only [Instr.buildSlice, Sem.run_bind, aC hu, cJ hinf, Result.andThen_ok, if_neg hn24, if_neg h0, hzv, Sem.run_pure, hz2, e3, hfill, newRow, run_newObj]
                rfl
            have : (execOp (ev ρ) { dst := dst, op := .buildSlice t ln parts, type := ty, pos := pos, after := after, guard := guard }).run P w = .ok (.value (.slice (some ⟨w.heap.size, 0, none⟩) ln ln)) (w.alloc (.cells cs.toArray e)) := by
              simp [execOp, hrun]
            rw [this]; exact hk
          · exact h
        · exact h
      · exact h
    case makeSlice t l c =>
      simp only [aH] at h
      split at h
      · rename_i e hu
        split at h
        · rename_i inf z hinf hz
          split at h
          · rename_i hcond
            obtain ⟨hzs, hpos⟩ := hcond
            simp only [KOp.wp] at h ⊢
            obtain ⟨kd, ke, lv, cv, hl, hc, h0, h1, h2, h3, hk⟩ := h
            obtain ⟨inf', hinf', hz'⟩ := Option.bind_eq_some_iff.1 hz
            have hzv : (zeroValue e).run P w = .ok z w := by simp [zeroValue, bP hinf', hz']
            have wl : IntKind.i64.wrap lv = lv := IntWalk.i64_in _ (by omega)
            have wc : IntKind.i64.wrap cv = cv := IntWalk.i64_in _ (by omega)
            have hrun : (Instr.makeSlice t (ev ρ l) (ev ρ c)).run P w = .ok (.slice (some ⟨w.heap.size, 0, none⟩) lv.toNat cv.toNat) (w.alloc (.cells (zeros z.cells.toList cv.toNat).toArray e)) := by
              have hg : ¬ ((decide (cv < 0) || decide ((inf.bytes : Int) * cv > 2 ^ 48)) || decide (lv < 0) || decide (lv > cv)) = true := by
                simp; omega
              by_cases hn0 : cv.toNat * inf.size = 0
              · have hcn : cv.toNat = 0 := by
                  rcases Nat.mul_eq_zero.1 hn0 with h | h
                  · exact h
                  · omega
                simp only [Instr.makeSlice, hl, hc, asInt, asIntOf, Sem.run_bind, aC hu, Result.andThen_ok, Sem.run_pure, bP hinf, wl, wc, if_neg hg, run_askRoom, cJ hinf, if_pos hn0, newRow, run_newObj]
                rw [hcn]
                simp [zeros, show Array.range 0 = #[] from rfl]
              · have hz2 : (Array.range (cv.toNat * inf.size)).map (fun i => z.cells[i % z.cells.size]!) = (zeros z.cells.toList cv.toNat).toArray := by
                  rw [← hzs]; exact aDe z.cells cv.toNat (by omega)
                simp only [Instr.makeSlice, hl, hc, asInt, asIntOf, Sem.run_bind, aC hu, Result.andThen_ok, Sem.run_pure, bP hinf, wl, wc, if_neg hg, run_askRoom, cJ hinf, if_neg hn0, hzv, newRow, run_newObj, hz2]
                rfl
            have : (execOp (ev ρ) { dst := dst, op := .makeSlice t l c, type := ty, pos := pos, after := after, guard := guard }).run P w = .ok (.value (.slice (some ⟨w.heap.size, 0, none⟩) lv.toNat cv.toNat)) (w.alloc (.cells (zeros z.cells.toList cv.toNat).toArray e)) := by
              simp [execOp, hrun]
            rw [this]; exact hk
          · exact h
        · exact h
      · exact h
    case convert s d x =>
      simp only [aH] at h hst
      split at h
      · rename_i h1 h2; rw [h1, h2] at hst; exact absurd rfl hst
      · rename_i h1 h2; rw [h1, h2] at hst; exact absurd rfl hst
      · rename_i e h1 h2
        split at h
        · rename_i he
          simp only [KOp.wp] at h ⊢
          obtain ⟨st, hx, hk⟩ := h
          have hrun := run_bytes_of_string w s d e st h1 h2 he
          have hrow : bytesRow st (grownCap w st.size 0 e) = (pH st ++ List.replicate (grownCap w st.size 0 e - st.size) (Value.int .u8 0)).toArray := by
            apply Array.ext'; simp [bytesRow, pH]
          have : (execOp (ev ρ) { dst := dst, op := .convert s d x, type := ty, pos := pos, after := after, guard := guard }).run P w = .ok (.value (.slice (some ⟨w.heap.size, 0, none⟩) st.size (grownCap w st.size 0 e)))
              (w.drew.alloc (.cells (bytesRow st (grownCap w st.size 0 e)) e ((bytesRow st (grownCap w st.size 0 e)).size, (bytesRow st (grownCap w st.size 0 e)).size + 1))) := by
            simp [execOp, hx, hrun]
          rw [this]
          refine hk _ (by simp [grownCap, Question.cut]) _ ?_ ?_ rfl rfl rfl ?_
          · intro b hb
            show (w.heap.push _)[b]? = _
            rw [Array.getElem?_push, if_neg (by omega)]
          · show (w.heap.push _).size = _
            simp
          · refine ⟨((bytesRow st (grownCap w st.size 0 e)).size, (bytesRow st (grownCap w st.size 0 e)).size + 1), ?_⟩
            rw [← hrow]
            show (w.heap.push _)[w.heap.size]? = _
            rw [Array.getElem?_push, if_pos rfl]
        · exact h
      · rename_i e h1 h2
        split at h
        · rename_i he
          simp only [KOp.wp] at h ⊢
          obtain ⟨a, n, c, bs, hx, hl, hk⟩ := h
          have hrun : (Conv.bytesToString (ev ρ x)).run P w = .ok (.string ⟨bs.toArray⟩) w := by
            rw [hx] at hl ⊢
            cases a with
            | none =>
              simp only [dK, Option.some.injEq, Prod.mk.injEq, true_and] at hl
              have : bs = [] := by simpa using hl.symm
              subst this; rfl
            | some a =>
              simp only [dK, Option.map_eq_some_iff, Prod.mk.injEq, true_and] at hl
              obtain ⟨l, hl, rfl⟩ := hl
              have h3 : (loadCells a n).run P w = .ok ((bs.map fun b : UInt8 => (b.toNat : Int)).map (Value.int .u8)).toArray w := by
                have := run_loadCellsFrom (P := P) (n * 1) 0 #[] _ hl
                simp only [Nat.mul_one] at this
                unfold loadCells
                rw [this]
                simp
              rw [run_bytesToString w a n c _ h3, foldl_push_byteCells]
              simp [ByteArray.empty, ByteArray.emptyWithCapacity]; rfl
          have : (execOp (ev ρ) { dst := dst, op := .convert s d x, type := ty, pos := pos, after := after, guard := guard }).run P w = .ok (.value (.string ⟨bs.toArray⟩)) w := by
            have h4 : (convert s d (ev ρ x)).run P w = .ok (.string ⟨bs.toArray⟩) w := by
              rw [hx] at hrun ⊢
              simp [convert, aC h1, aC h2, aC he, hrun]
            simp [execOp, h4]
          rw [this]; exact hk
        · exact h
      · exact h
    all_goals first
      | exact h
      | (exfalso; exact hst rfl)
      | (simp only [aH] at h hst; repeat' split at h
         all_goals first
          | exact h
          | (exfalso; simp only [*] at hst; exact hst rfl))
end
section
open Go
variable {P:Program}
structure KI where
 dst:Option Tmp
 op:KOp
 guard:Option (Tmp × Bool)
def kT (ρ:Env):Option (Tmp × Bool)→Bool
 |none=>true
 |some (t,b)=>match ρ t with
  |.bool c=>c==b
  |_=>false
inductive KR where
 |nil
 |cons (i:KI) (r:KR)
 |both (a b:KR)
 |join (a b:KR)
def aF (P:Program):KR→(Env→World→Prop)→Env→World→Prop
 |.nil,K,ρ,w=>K ρ w
 |.both a b,K,ρ,w=>aF P a K ρ w∧aF P b K ρ w
 |.join a b,K,ρ,w=>aF P a (aF P b K) ρ w
 |.cons i rest,K,ρ,w=>if kT ρ i.guard=true then i.op.wp P ρ w (fun v w'=>aF P rest K (put ρ i.dst v) w') else aF P rest K (put ρ i.dst undef) w
def bB9:Op→Bool
 |.select ..=>true
 |_=>false
def mU (P:Program) [Quiet P] (n:Nat) (ops:Array Oper) (o:Oper):Option KI:=
 if o.op.operands.toList.all (aL4 n)&&(match o.dst with|some d=>decide (d<n)|none=>true)&&!bB9 o.op then
  match o.guard with
  |none=>some ⟨o.dst,aH P o,none⟩
  |some (g,b)=>match (ops[g]?).bind (·.dst) with
   |some t=>if t<n then some ⟨o.dst,aH P o,some (t,b)⟩ else none
   |none=>none
 else none
def aA0 (P:Program) [Quiet P] (n:Nat) (ops:Array Oper):List Oper→Option KR
 | []=>some .nil
 |o::r=>(mU P n ops o).bind fun i=>(aA0 P n ops r).map (.cons i ·)
structure Fits (P:Program) [Quiet P] (n:Nat) (ops:Array Oper) (o:Oper) (i:KI):Prop where
 dst:i.dst=o.dst
 op:i.op=aH P o
 lt:∀t,o.dst=some t→t<n
 opers:∀x∈o.op.operands,aL4 n x=true
 sel:∀cs b,o.op≠.select cs b
 want:∀a ρ,Rep n a ρ→Region.wanted o (yielded ops a.tmps)=kT ρ i.guard
theorem aFm [Quiet P] {n:Nat} {ops:Array Oper} {o:Oper} {i:KI} (h:mU P n ops o=some i):Fits P n ops o i:=by
 unfold mU at h
 rw [Option.ite_none_right_eq_some] at h
 obtain ⟨hc,h⟩:=h
 ·simp only [Bool.and_eq_true,Bool.not_eq_true',List.all_eq_true] at hc
  obtain ⟨⟨h1,h2⟩,h3⟩:=hc
  have lt:∀t,o.dst=some t→t<n:=by
   intro t ht;rw [ht] at h2;simpa using h2
  have opers:∀x∈o.op.operands,aL4 n x=true:=fun x hx=>h1 x (by simpa using hx)
  have sel:∀cs b,o.op≠.select cs b:=by intro cs b e;rw [e] at h3;simp [bB9] at h3
  split at h
  ·rename_i hg
   simp only [Option.some.injEq] at h;subst h
   exact ⟨rfl,rfl,lt,opers,sel,fun a ρ _=>by simp [Region.wanted,hg,kT]⟩
  ·rename_i g b hg
   split at h
   ·rename_i t ht
    split at h
    ·rename_i htn
     simp only [Option.some.injEq] at h;subst h
     refine ⟨rfl,rfl,lt,opers,sel,fun a ρ hr=>?_⟩
     simp only [Region.wanted,hg,kT,yielded,ht,Option.bind_some,hr.at_ t htn]
     generalize ρ t=v
     cases v<;>first|rfl|(cases b<;>rfl)|(rename_i c;cases c<;>cases b<;>rfl)
    ·cases h
   ·cases h
theorem Fits.exec [Quiet P] {n:Nat} {ops:Array Oper} {o:Oper} {i:KI} (h:Fits P n ops o i) {a:Act} {ρ:Env} (hr:Rep n a ρ):execOp a.eval o=execOp (ev ρ) o:=
 execOp_congr o h.sel fun x hx=>hr.eval (h.opers x hx)
theorem Fits.put [Quiet P] {n:Nat} {ops:Array Oper} {o:Oper} {i:KI} (h:Fits P n ops o i) {a:Act} {ρ:Env} (hr:Rep n a ρ) (v:Value):Rep n (a.put o.dst v) (K.put ρ i.dst v):=by
 rw [h.dst];exact hr.put v h.lt
def Nrm (n:Nat) (K:Env→World→Prop):Exit→Act→World→Prop
 |.normal,a,w=>∃ρ,Rep n a ρ∧K ρ w
 |_,_,_=>False
theorem Fits.wp [Quiet P] {n:Nat} {ops:Array Oper} {o:Oper} {i:KI} (h:Fits P n ops o i) {a:Act} {ρ:Env} {w:World} (hr:Rep n a ρ) {k:Value→World→Prop} {next:Act→World→Prop} {Q:Exit→Act→World→Prop}
  (hk:∀v w',k v w'→next (a.put o.dst v) w') (hw:i.op.wp P ρ w k):o.wp P a w next Q:=by
 rw [h.op] at hw
 have h2:=bKh o k hw
 unfold Oper.wp
 rw [h.exec hr]
 simp only [KOp.wp] at h2
 split at h2
 ·rename_i v w' he;rw [he];exact hk _ _ h2
 ·rename_i w' he;rw [he];exact hk _ _ h2
 ·rename_i f args w' he
  rw [he]
  exact h2.mono fun e w'' ⟨v,hv,hkv⟩=>by subst hv;exact hk _ _ hkv
 ·exact h2.elim
theorem bQ1 [Quiet P] {n:Nat} {ops:Array Oper} {K:Env→World→Prop}:∀(l:List Oper) (kl:KR) (a:Act) (ρ:Env) (w:World),aA0 P n ops l=some kl→aF P kl K ρ w→Rep n a ρ→wpList P ops (Nrm n K) l a w
 | [],kl,a,ρ,w,hc,h,hr=>by
  simp only [aA0,Option.some.injEq] at hc;subst hc
  exact ⟨ρ,hr,h⟩
 |o::l,kl,a,ρ,w,hc,h,hr=>by
  simp only [aA0,Option.bind_eq_some_iff,Option.map_eq_some_iff] at hc
  obtain ⟨i,hi,r,hr2,rfl⟩:=hc
  have F:=aFm hi
  simp only [aF] at h
  unfold wpList
  rw [F.want a ρ hr]
  split
  ·rename_i hw
   rw [if_pos hw] at h
   exact .inl (F.wp hr (fun v w' hk=>bQ1 l r _ _ w' hr2 hk (F.put hr v)) h)
  ·rename_i hw
   rw [if_neg hw] at h
   exact bQ1 l r _ _ w hr2 h (F.put hr undef)
def eL (P:Program) [Quiet P] (ops:Array Oper) (j:Nat):Bool:=match ops[j]? with
 |some o=>(aH P o).isStill
 |none=>true
def aJq (P:Program) [Quiet P] (ops:Array Oper) (j:Nat):Bool:=match ops[j]? with
 |some o=>(aH P o).isFix
 |none=>false
theorem vS {o:KOp} (h:o.isFix=true):o.isStill=true:=by cases o<;>simp_all [KOp.isStill,KOp.isFix]
def Closed (ops:Array Oper) (listed:Array Bool):Prop:=∀j oj,ops[j]? =some oj→listed.getD j false=true→∀e∈oj.after,Region.binds .any e=true→listed.getD e.on false=true
def rS (ops:Array Oper) (ms:List Nat):Bool:=
 (List.range ops.size).all fun k=>match ops[k]? with
  |none=>true
  |some o=>(List.range ops.size).all fun i=>!(ms.getD k 0).testBit i||o.after.toList.any fun e=>Region.binds .any e&&(e.on==i||(decide (e.on<k)&&(ms.getD e.on 0).testBit i))
theorem bS2 {ops:Array Oper} {ms:List Nat} (hm:rS ops ms=true) {listed:Array Bool} (hc:Closed ops listed):∀(k i:Nat) (o:Oper),ops[k]? =some o→i<ops.size→(∀e∈o.after,Region.binds .any e=true→listed.getD e.on false=true)→
  (ms.getD k 0).testBit i=true→listed.getD i false=true:=by
 intro k
 induction k using Nat.strongRecOn with
 |_ k ih=>
  intro i o ho hi hd hb
  have hk:k<ops.size:=(Array.getElem?_eq_some_iff.1 ho).1
  have h1:=List.all_eq_true.1 hm k (by simpa using hk)
  simp only [ho] at h1
  have h2:=List.all_eq_true.1 h1 i (by simpa using hi)
  simp only [hb,Bool.not_true,Bool.false_or,List.any_eq_true,Bool.and_eq_true,Bool.or_eq_true,beq_iff_eq,decide_eq_true_eq] at h2
  obtain ⟨e,he,hbe,h3⟩:=h2
  have he':e∈o.after:=by simpa using he
  have hl:=hd e he' hbe
  rcases h3 with rfl|⟨hlt,hbit⟩
  ·exact hl
  ·have hkk:e.on<ops.size:=by omega
   obtain ⟨o',ho'⟩:∃o',ops[e.on]? =some o':=⟨_,Array.getElem?_eq_getElem hkk⟩
   exact ih e.on hlt i o' ho' hi (fun e' he2 hb2=>hc e.on o' ho' hl e' he2 hb2) hbit
def aDi (P:Program) [Quiet P] (ops:Array Oper) (i:Nat) (K:Act→World→Prop) (a:Act) (w:World):Prop:=
 if eL P ops i=true then stOp P ops w i (fun a'=>K a' w) a else wpOp P ops (fun _ _ _=>False) i K a w
def aBa (P:Program) [Quiet P] (ops:Array Oper) (Q:Act→World→Prop):Nat→Array Bool→Act→World→Prop
 |0,listed,a,w=>Region.ready .any ops listed= []∧Q a w
 |fuel+1,listed,a,w=>(Region.ready .any ops listed= []→Q a w)∧∀i∈Region.ready .any ops listed,aDi P ops i (aBa P ops Q fuel (listed.setIfInBounds i true)) a w
theorem bJm {ops:Array Oper} {i:Nat} {K:Act→World→Prop} {a:Act} {w:World} {Q:Exit→Act→World→Prop} (h:wpOp P ops (fun _ _ _=>False) i K a w):wpOp P ops Q i K a w:=by
 unfold wpOp at*
 split
 ·simpa [*] using h
 ·rename_i o ho
  simp only [ho] at h
  split
  ·rename_i hw
   simp only [hw,if_true] at h
   rcases h with h|⟨_,_,_,h⟩
   ·refine .inl ?_
    unfold Oper.wp at*
    generalize (execOp a.eval o).run P w=r at*
    cases r with
    |ok n w'=>
     cases n<;>simp only [Oper.upon] at h ⊢<;>first
      |exact h
      |exact Calls.mono h (fun e w'' he=>by
        cases e with
        |returned v=>exact he
        |panicked c=>exact he.elim
        |outgrown=>obtain ⟨_,_,hf⟩:=he;exact hf.elim)
    |halt x w'=>cases x<;>simp only [Oper.upon] at h
   ·exact h.elim
  ·rename_i hw;simp only [hw] at h;exact h
theorem sY [Quiet P] {ops:Array Oper} {Q:Act→World→Prop} {Q':Exit→Act→World→Prop} (hQ:∀a w,Q a w→Q' .normal a w):∀(fuel:Nat) (listed:Array Bool) (a:Act) (w:World),aBa P ops Q fuel listed a w→wpAny P .any ops Q' fuel listed a w
 |0,_,_,_,h=>⟨h.1,hQ _ _ h.2⟩
 |fuel+1,listed,a,w,h=>⟨fun h0=>hQ _ _ (h.1 h0),fun i hi=>by
   have h2:=h.2 i hi
   unfold aDi at h2
   split at h2
   ·exact wpOp_of_stOp (fun a'=>sY hQ fuel _ a' w) h2
   ·exact wpOp_mono (fun a' w'=>sY hQ fuel _ a' w') (bJm h2)⟩
theorem nZ {ops:Array Oper} {listed:Array Bool} {j:Nat} (hc:Closed ops listed) (hj:j∈Region.ready .any ops listed):Closed ops (listed.setIfInBounds j true):=by
 intro k ok hk hl e he hb
 by_cases hkj:j=k
 ·subst hkj
  obtain ⟨_,o,ho,hall⟩:=mem_ready.1 hj
  rw [ho] at hk;cases hk
  exact getD_set_true (hall e he hb)
 ·rw [getD_set_ne false hkj] at hl
  exact getD_set_true (hc k ok hk hl e he hb)
theorem aH1 {listed:Array Bool} {i:Nat} (h0:listed.getD i true=false) (h1:listed.getD i false=true):False:=by
 rcases Nat.lt_or_ge i listed.size with h'|h'
 ·simp [h'] at h0 h1;rw [h0] at h1;cases h1
 ·simp [Array.getElem?_eq_none h'] at h1
variable {ops:Array Oper} {Q:Act→World→Prop}
def lP (w w':World):Prop:=w.heap.size≤w'.heap.size∧∀b,b<w.heap.size→w'.heap[b]? =w.heap[b]?
theorem lP.refl (w:World):lP w w:=⟨Nat.le_refl _,fun _ _=>rfl⟩
theorem lP.trans {w w1 w2:World} (h:lP w w1) (h':lP w1 w2):lP w w2:=⟨nTr h.1 h'.1,fun b hb=>(h'.2 b (nLt hb h.1)).trans (h.2 b hb)⟩
theorem lP.alloc (w:World) (o:Obj):lP w (w.alloc o):=⟨by simp,fun b hb=>by show (w.heap.push o)[b]? =_;rw [Array.getElem?_push,if_neg (by omega)]⟩
theorem lP.heap {w w':World} (h:lP w w') {b:Nat} {o:Obj} (hb:w.heap[b]? =some o):w'.heap[b]? =some o:=by
 rw [h.2 b (Array.getElem?_eq_some_iff.1 hb).1];exact hb
theorem lP.cell {w w':World} (h:lP w w') {a:Addr} {v:Value} (hc:w.cell? a=some v):w'.cell? a=some v:=by
 unfold World.cell? at hc ⊢
 cases ho:w.heap[a.block]? with
 |none=>rw [ho] at hc;cases hc
 |some o=>rw [ho] at hc;rw [h.heap ho];exact hc
theorem lP.rdCells {w w':World} (h:lP w w') {a:Addr}:∀(n i:Nat) (l:List Value),rdCells w a i n=some l→rdCells w' a i n=some l
 |0,_,_,e=>e
 |n+1,i,l,e=>by
  simp only [K.rdCells,Option.bind_eq_some_iff,Option.map_eq_some_iff] at e ⊢
  obtain ⟨v,hv,r,hr,rfl⟩:=e
  exact ⟨v,h.cell hv,r,h.rdCells n (i+1) r hr,rfl⟩
theorem bAf {w w':World} (h:lP w w') {ρ:Env} {o:KOp} {v:Value} (hv:o.rd ρ w=some v):o.rd ρ w'=some v:=by
 cases o<;>first|exact hv|skip
 case load x=>
  simp only [KOp.rd] at hv ⊢
  split at hv
  ·exact h.cell hv
  ·cases hv
 case loadN n x=>
  simp only [KOp.rd] at hv ⊢
  split at hv
  ·obtain ⟨l,hl,rfl⟩:=Option.map_eq_some_iff.1 hv
   rw [h.rdCells n 0 l hl];rfl
  ·cases hv
 case lenMap x=>
  simp only [KOp.rd] at hv ⊢
  split at hv
  ·exact hv
  ·split at hv
   ·rename_i hm;rw [h.heap hm];exact hv
   ·cases hv
  ·cases hv
 case lookup s ks z ok m k=>
  simp only [KOp.rd] at hv ⊢
  split at hv
  ·rename_i hc
   rw [if_pos hc]
   split at hv
   ·exact hv
   ·split at hv
    ·rename_i hm;rw [h.heap hm];exact hv
    ·cases hv
   ·cases hv
  ·cases hv
def aBs (P:Program) [Quiet P] (ops:Array Oper) (j:Nat):Bool:=match ops[j]? with
 |some o=>(aH P o).isMaker
 |none=>false
theorem bGw [Quiet P] {o:Oper} (h:(aH P o).isMaker=true) (e:Operand→Value) (w:World):∃u ob,(execOp e o).run P w=.ok (.value u) (w.alloc ob):=by
 obtain ⟨dst,op,ty,pos,after,guard⟩:=o
 cases op
 case box t x=>exact ⟨_,_,by simp [execOp,Instr.box,newVar,newRow];exact ⟨rfl,rfl⟩⟩
 case alloc t=>
  simp only [aH] at h
  split at h
  ·rename_i inf hinf
   split at h
   ·rename_i z hz
    have hzv:(zeroValue t).run P w=.ok z w:=by simp [zeroValue,bP hinf,hz]
    exact ⟨_,_,by simp [execOp,Instr.alloc,hzv,newVar,newRow];exact ⟨rfl,rfl⟩⟩
   ·simp [KOp.isMaker] at h
  ·simp [KOp.isMaker] at h
 case unOp op t x=>cases op<;>simp [aH,KOp.isMaker] at h
 case slice t x lo hi mx=>cases mx<;>simp only [aH] at h<;>(repeat' split at h)<;>simp [KOp.isMaker] at h
 case makeMap t r=>cases r<;>simp [aH,KOp.isMaker] at h
 case next it b=>cases b<;>simp [aH,KOp.isMaker] at h
 case call c=>
  obtain ⟨callee,args,argTypes⟩:=c
  cases callee with
  |value f=>cases f<;>simp only [aH] at h<;>(repeat' split at h)<;>simp_all [KOp.isMaker]
  |invoke r m=>simp [aH,KOp.isMaker] at h
  |builtin b=>cases b<;>simp only [aH] at h<;>(repeat' split at h)<;>simp [KOp.isMaker] at h
 all_goals first
  |(simp [aH,KOp.isMaker] at h;done)
  |(simp only [aH] at h;(repeat' split at h)<;>simp [KOp.isMaker] at h)
theorem aAs [Quiet P] {ms:List Nat} (hm:rS ops ms=true) {i:Nat} {oi:Oper} {v:Value} (hi:ops[i]? =some oi) (hsel:∀(j:Nat) (o:Oper) cs b,ops[j]? =some o→o.op≠.select cs b) (hst:eL P ops i=true):
  ∀(fuel:Nat) (listed:Array Bool) (a:Act) (w:World),Closed ops listed→
   (∀j oj,ops[j]? =some oj→j≠i→listed.getD j true=false→(∀e∈oj.after,Region.binds .any e=true→e.on≠i)→oi.apart ops oj=true)→
   (∀j,j<ops.size→j≠i→listed.getD j true=false→eL P ops j=false→aBs P ops j=true∨(ms.getD j 0).testBit i=true)→
   i∈Region.ready .any ops listed→(∀w',lP w w'→YieldsAt P ops w' oi v a)→
   aBa P ops Q fuel (listed.setIfInBounds i true) (a.put oi.dst v) w→aBa P ops Q (fuel+1) listed a w:=by
 have base:∀{K:Act→World→Prop} {a:Act} {w:World},YieldsAt P ops w oi v a→K (a.put oi.dst v) w→aDi P ops i K a w:=fun hy hK=>by
  unfold aDi;rw [if_pos hst];exact hy.stOp hi hK
 intro fuel
 induction fuel with
 |zero=>
  intro listed a w _ _ _ hr hy H
  refine ⟨fun h=>(by rw [h] at hr;cases hr),fun j hj=>?_⟩
  by_cases hji:j=i
  ·subst hji;exact base (hy w (lP.refl w)) H
  ·have:=ready_mono hj hji
   rw [H.1] at this
   cases this
 |succ fuel ih=>
  intro listed a w hcl hfree hns hr hy H
  refine ⟨fun h=>(by rw [h] at hr;cases hr),fun j hj=>?_⟩
  by_cases hji:j=i
  ·subst hji;exact base (hy w (lP.refl w)) H
  ·have h1:=H.2 j (ready_mono hj hji)
   obtain ⟨hjun,oj,hoj,hall⟩:=mem_ready.1 hj
   have hjs:j<ops.size:=(Array.getElem?_eq_some_iff.1 hoj).1
   have his:i<ops.size:=(Array.getElem?_eq_some_iff.1 hi).1
   have hnot:∀e∈oj.after,Region.binds .any e=true→e.on≠i:=fun e he hb heq=>by
    have h1:=hall e he hb
    rw [heq] at h1
    exact aH1 (mem_ready.1 hr).1 h1
   have hap:=hfree j oj hoj hji hjun hnot
   obtain ⟨p1,p2,p3⟩:=Oper.apart_spec hap
   have hfree':∀k ok,ops[k]? =some ok→k≠i→(listed.setIfInBounds j true).getD k true=false→(∀e∈ok.after,Region.binds .any e=true→e.on≠i)→oi.apart ops ok=true:=by
    intro k ok hk hki hun hno
    refine hfree k ok hk hki ?_ hno
    by_cases hjk:j=k
    ·subst hjk;exact hjun
    ·rw [getD_set_ne true hjk] at hun;exact hun
   have hns':∀k,k<ops.size→k≠i→(listed.setIfInBounds j true).getD k true=false→eL P ops k=false→aBs P ops k=true∨(ms.getD k 0).testBit i=true:=by
    intro k hk hki hun hs
    refine hns k hk hki ?_ hs
    by_cases hjk:j=k
    ·subst hjk;exact hjun
    ·rw [getD_set_ne true hjk] at hun;exact hun
   have fin:∀u w',lP w w'→aBa P ops Q fuel ((listed.setIfInBounds i true).setIfInBounds j true) ((a.put oj.dst u).put oi.dst v) w'→aBa P ops Q (fuel+1) (listed.setIfInBounds j true) (a.put oj.dst u) w':=fun u w' hg h3=>
    ih (listed.setIfInBounds j true) _ w' (nZ hcl hj) hfree' hns' (ready_mono hr (Ne.symm hji))
     (fun w2 hg2=>(hy w2 (hg.trans hg2)).of_same (execOp_put oi (fun cs b=>hsel i oi cs b hi) a oj.dst u p3) (wanted_put oi a oj.dst u p3)) (by rw [Array.setIfInBounds_comm _ _ hji];exact h3)
   unfold aDi at h1 ⊢
   by_cases hjst:eL P ops j=true
   ·rw [if_pos hjst] at h1 ⊢
    have h2:=stOp_put hoj hap (fun cs b=>hsel i oi cs b hi) (fun cs b=>hsel j oj cs b hoj) (hy w (lP.refl w)) h1
    have h4:stOp P ops w j (fun a'=>(∃u,a'=a.put oj.dst u)∧aBa P ops Q fuel ((listed.setIfInBounds i true).setIfInBounds j true) (a'.put oi.dst v) w) a:=by
     unfold stOp at h2 ⊢
     simp only [hoj] at h2 ⊢
     split
     ·rename_i hw
      simp only [hw,if_true,Oper.still] at h2 ⊢
      generalize (execOp a.eval oj).run P w=r at*
      cases r with
      |ok n w'=>
       cases n<;>simp only [Oper.stillUpon] at h2 ⊢
       case value u=>exact ⟨h2.1,⟨u,rfl⟩,h2.2.2⟩
       case skip=>exact ⟨h2.1,⟨_,rfl⟩,h2.2.2⟩
       case enter f args=>obtain ⟨q1,u,q2,q3⟩:=h2;exact ⟨q1,u,q2,⟨u,rfl⟩,q3.2⟩
      |halt x w'=>simp only [Oper.stillUpon] at h2
     ·rename_i hw
      simp only [hw] at h2 ⊢
      exact ⟨⟨_,rfl⟩,h2.2⟩
    exact stOp_mono (fun a' h3=>by
     obtain ⟨⟨u,rfl⟩,h5⟩:=h3
     exact fin u w (lP.refl w) h5) h4
   ·have hjf:eL P ops j=false:=by simpa using hjst
    rw [if_neg hjst] at h1 ⊢
    rcases hns j hjs hji hjun hjf with hmk|hbit
    ·have hmk':(aH P oj).isMaker=true:=by unfold aBs at hmk;rw [hoj] at hmk;exact hmk
     unfold wpOp at h1 ⊢
     simp only [hoj] at h1 ⊢
     rw [wanted_put oj a oi.dst v p1] at h1
     split
     ·rename_i hw
      simp only [hw,if_true] at h1
      refine .inl ?_
      obtain ⟨u,ob,hrun⟩:=bGw hmk' a.eval w
      rcases h1 with h1|⟨_,_,_,h1⟩
      ·unfold Oper.wp at h1 ⊢
       rw [execOp_put oj (fun cs b=>hsel j oj cs b hoj) a oi.dst v p1,hrun] at h1
       rw [hrun]
       simp only [Oper.upon] at h1 ⊢
       exact fin u _ (lP.alloc w ob) (by rw [←Act.put_comm a v u p2];exact h1)
      ·exact h1.elim
     ·rename_i hw
      simp only [hw] at h1
      exact fin undef w (lP.refl w) (by rw [←Act.put_comm a v undef p2];exact h1)
    ·exact (aH1 (mem_ready.1 hr).1 (bS2 hm hcl j i oj hoj his hall hbit)).elim
theorem aDn [Quiet P] {i:Nat} {oi:Oper} {v:Value} (hi:ops[i]? =some oi) (hsel:∀(j:Nat) (o:Oper) cs b,ops[j]? =some o→o.op≠.select cs b) (hst:eL P ops i=true):
  ∀(fuel:Nat) (listed:Array Bool) (a:Act) (w:World),
   (∀j oj,ops[j]? =some oj→j≠i→listed.getD j true=false→(∀e∈oj.after,Region.binds .any e=true→e.on≠i)→oi.apart ops oj=true)→
   i∈Region.ready .any ops listed→Yields P ops oi v a→
   aBa P ops Q fuel (listed.setIfInBounds i true) (a.put oi.dst v) w→aBa P ops Q (fuel+1) listed a w:=by
 have toAt:∀{a:Act} {w:World},Yields P ops oi v a→YieldsAt P ops w oi v a:=fun hy=>by
  rcases hy with ⟨h1,h2⟩|h
  ·exact .inl ⟨h1,.inl (h2 _)⟩
  ·exact .inr h
 have base:∀{K:Act→World→Prop} {a:Act} {w:World},Yields P ops oi v a→K (a.put oi.dst v) w→aDi P ops i K a w:=fun hy hK=>by
  unfold aDi;rw [if_pos hst];exact (toAt hy).stOp hi hK
 intro fuel
 induction fuel with
 |zero=>
  intro listed a w _ hr hy H
  refine ⟨fun h=>(by rw [h] at hr;cases hr),fun j hj=>?_⟩
  by_cases hji:j=i
  ·subst hji;exact base hy H
  ·have:=ready_mono hj hji
   rw [H.1] at this
   cases this
 |succ fuel ih=>
  intro listed a w hfree hr hy H
  refine ⟨fun h=>(by rw [h] at hr;cases hr),fun j hj=>?_⟩
  by_cases hji:j=i
  ·subst hji;exact base hy H
  ·have h1:=H.2 j (ready_mono hj hji)
   obtain ⟨hjun,oj,hoj,hall⟩:=mem_ready.1 hj
   have hnot:∀e∈oj.after,Region.binds .any e=true→e.on≠i:=fun e he hb heq=>by
    have h1:=hall e he hb
    rw [heq] at h1
    exact aH1 (mem_ready.1 hr).1 h1
   have hap:=hfree j oj hoj hji hjun hnot
   have hfree':∀k ok,ops[k]? =some ok→k≠i→(listed.setIfInBounds j true).getD k true=false→(∀e∈ok.after,Region.binds .any e=true→e.on≠i)→oi.apart ops ok=true:=by
    intro k ok hk hki hun hno
    refine hfree k ok hk hki ?_ hno
    by_cases hjk:j=k
    ·subst hjk;exact hjun
    ·rw [getD_set_ne true hjk] at hun;exact hun
   have fin:∀a' w',Yields P ops oi v a'→aBa P ops Q fuel ((listed.setIfInBounds i true).setIfInBounds j true) (a'.put oi.dst v) w'→aBa P ops Q (fuel+1) (listed.setIfInBounds j true) a' w':=fun a' w' hy' h3=>
    ih (listed.setIfInBounds j true) a' w' hfree' (ready_mono hr (Ne.symm hji)) hy' (by rw [Array.setIfInBounds_comm _ _ hji];exact h3)
   unfold aDi at h1 ⊢
   split
   ·rename_i hjst
    rw [if_pos hjst] at h1
    obtain ⟨p1,p2,p3⟩:=Oper.apart_spec hap
    have h2:=stOp_put hoj hap (fun cs b=>hsel i oi cs b hi) (fun cs b=>hsel j oj cs b hoj) (toAt hy) h1
    have h4:stOp P ops w j (fun a'=>(∃u,a'=a.put oj.dst u)∧aBa P ops Q fuel ((listed.setIfInBounds i true).setIfInBounds j true) (a'.put oi.dst v) w) a:=by
     unfold stOp at h2 ⊢
     simp only [hoj] at h2 ⊢
     split
     ·rename_i hw
      simp only [hw,if_true,Oper.still] at h2 ⊢
      generalize (execOp a.eval oj).run P w=r at*
      cases r with
      |ok n w'=>
       cases n<;>simp only [Oper.stillUpon] at h2 ⊢
       case value u=>exact ⟨h2.1,⟨u,rfl⟩,h2.2.2⟩
       case skip=>exact ⟨h2.1,⟨_,rfl⟩,h2.2.2⟩
       case enter f args=>obtain ⟨q1,u,q2,q3⟩:=h2;exact ⟨q1,u,q2,⟨u,rfl⟩,q3.2⟩
      |halt x w'=>simp only [Oper.stillUpon] at h2
     ·rename_i hw
      simp only [hw] at h2 ⊢
      exact ⟨⟨_,rfl⟩,h2.2⟩
    exact stOp_mono (fun a' h3=>by
     obtain ⟨⟨u,rfl⟩,h5⟩:=h3
     exact fin _ _ (hy.of_same (execOp_put oi (fun cs b=>hsel i oi cs b hi) a oj.dst u p3) (wanted_put oi a oj.dst u p3)) h5) h4
   ·rename_i hjst
    rw [if_neg hjst] at h1
    have h2:=wpOp_put (Q:=fun _ _ _=>False) hoj hap (fun cs b=>hsel i oi cs b hi) (fun cs b=>hsel j oj cs b hoj) (fun _ _ _ h=>h) hy h1
    exact wpOp_mono (fun a' w' h3=>fin a' w' h3.1 h3.2) h2
end
section
open Go
variable {P:Program} {ops:Array Oper}
def bSb (P:Program) [Quiet P] (ops:Array Oper) (ms:List Nat) (listed:Array Bool):Option Nat:=
 (Region.ready .any ops listed).find? fun i=>Region.free .any ops listed i&&(aJq P ops i||(eL P ops i&&(List.range ops.size).all fun j=>j==i||listed.getD j true||eL P ops j||aBs P ops j||(ms.getD j 0).testBit i))
def bI7 (f:Nat→Option KR):List Nat→Option KR
 | []=>none
 | [i]=>f i
 |i::j::l=>(f i).bind fun a=>(bI7 f (j::l)).map (.both a ·)
def bCw (P:Program) [Quiet P] (n:Nat) (ops:Array Oper) (ms:List Nat):Nat→Array Bool→Option KR
 |0,listed=>if (Region.ready .any ops listed).isEmpty then some .nil else none
 |m+1,listed=>match bSb P ops ms listed with
  |some i=>(ops[i]?).bind fun o=>(mU P n ops o).bind fun ki=>(bCw P n ops ms m (listed.setIfInBounds i true)).map (.cons ki ·)
  |none=>match Region.ready .any ops listed with
   | []=>some .nil
   |r::rs=>bI7 (fun i=>(ops[i]?).bind fun o=>(mU P n ops o).bind fun ki=>(bCw P n ops ms m (listed.setIfInBounds i true)).map (.cons ki ·)) (r::rs)
theorem aIb {f:Nat→Option KR} {K:Env→World→Prop} {ρ:Env} {w:World}:∀(l:List Nat) (r:KR),bI7 f l=some r→aF P r K ρ w→∀i∈l,∃ri,f i=some ri∧aF P ri K ρ w
 | [],r,h,_,i,hi=>by cases hi
 | [j],r,h,hr,i,hi=>by
  simp only [List.mem_singleton] at hi;subst hi
  exact ⟨r,h,hr⟩
 |j::k::l,r,h,hr,i,hi=>by
  simp only [bI7,Option.bind_eq_some_iff,Option.map_eq_some_iff] at h
  obtain ⟨a,ha,b,hb,rfl⟩:=h
  rcases List.mem_cons.1 hi with rfl|hi
  ·exact ⟨a,ha,hr.1⟩
  ·exact aIb (k::l) b hb hr.2 i hi
theorem aAk {ρ:Env} {w:World} {k k':Value→World→Prop} {o:KOp} (hk:∀v w',k v w'→k' v w') (h:o.wp P ρ w k):o.wp P ρ w k':=by
 cases o<;>simp only [KOp.wp] at h ⊢
 case box=>exact hk _ _ h
 case alloc=>exact hk _ _ h
 case store=>obtain ⟨a,h1,h2,h3,h4,h5⟩:=h;exact ⟨a,h1,h2,h3,h4,hk _ _ h5⟩
 case storeN=>obtain ⟨a,vs,h1,h2,h3,h4,h5,h6⟩:=h;exact ⟨a,vs,h1,h2,h3,h4,h5,hk _ _ h6⟩
 case call=>exact h.mono fun e w' ⟨v,hv,h2⟩=>⟨v,hv,hk _ _ h2⟩
 case callV=>obtain ⟨f,a,b,h1,h2,h3⟩:=h;exact ⟨f,a,b,h1,h2,h3.mono fun e w' ⟨v,hv,h2⟩=>⟨v,hv,hk _ _ h2⟩⟩
 case invoke=>obtain ⟨t,u,f,rv,h1,h2,h3,h4⟩:=h;exact ⟨t,u,f,rv,h1,h2,h3,h4.mono fun e w' ⟨v,hv,h2⟩=>⟨v,hv,hk _ _ h2⟩⟩
 case mapUpdate=>obtain ⟨r,es,c,f,h1,h2,h3,h4,h5⟩:=h;exact ⟨r,es,c,f,h1,h2,h3,h4,hk _ _ h5⟩
 case mapEntry=>
  obtain ⟨r,es,c,f,h1,h2,h3,h4,h5⟩:=h
  refine ⟨r,es,c,f,h1,h2,h3,h4,?_⟩
  cases f<;>exact hk _ _ h5
 case entryStore=>obtain ⟨r,es,c,kd,n,i,h1,h2,h3,h4,h5⟩:=h;exact ⟨r,es,c,kd,n,i,h1,h2,h3,h4,hk _ _ h5⟩
 case delete=>obtain ⟨r,es,c,f,h1,h2,h3,h4,h5⟩:=h;exact ⟨r,es,c,f,h1,h2,h3,h4,hk _ _ h5⟩
 case makeMap=>exact hk _ _ h
 case rangeMap=>obtain ⟨r,es,c,h1,h2,h3⟩:=h;exact ⟨r,es,c,h1,h2,hk _ _ h3⟩
 case nextMap=>
  obtain ⟨b,m,si,se,la,es,c,h1,h2,h3,h4,h5,h6,h7,h8⟩:=h
  exact ⟨b,m,si,se,la,es,c,h1,h2,h3,h4,h5,h6,fun e w' hw=>hk _ _ (h7 e w' hw),fun e he w' hw=>hk _ _ (h8 e he w' hw)⟩
 case entry=>obtain ⟨b,m,si,se,la,st,es,e,h1,h2,h3,h4,h5,h6⟩:=h;exact ⟨b,m,si,se,la,st,es,e,h1,h2,h3,h4,h5,hk _ _ h6⟩
 case buildSlice=>obtain ⟨cs,h1,h2⟩:=h;exact ⟨cs,h1,hk _ _ h2⟩
 case append=>
  obtain ⟨ba,sl,sc,n,nw,h1,h2,h3,h4⟩:=h
  refine ⟨ba,sl,sc,n,nw,h1,h2,fun hr=>?_,fun hr=>?_⟩
  ·have:=h3 hr
   cases ba with
   |none=>exact hk _ _ this
   |some a=>exact ⟨this.1,this.2.1,hk _ _ this.2.2⟩
  ·obtain ⟨old,q1,q2,q3⟩:=h4 hr
   exact ⟨old,q1,q2,fun c hc=>hk _ _ (q3 c hc)⟩
 case makeSlice=>obtain ⟨kd,ke,l,c,h1,h2,h3,h4,h5,h6,h7⟩:=h;exact ⟨kd,ke,l,c,h1,h2,h3,h4,h5,h6,hk _ _ h7⟩
 case copy=>obtain ⟨ba,dl,cp,n,nw,h1,h2,h3,h4,h5,h6⟩:=h;exact ⟨ba,dl,cp,n,nw,h1,h2,h3,h4,h5,hk _ _ h6⟩
 case bytesOf=>obtain ⟨s,h1,h2⟩:=h;exact ⟨s,h1,fun c hc w' q1 q2 q3 q4 q5 q6=>hk _ _ (h2 c hc w' q1 q2 q3 q4 q5 q6)⟩
 case strOf=>obtain ⟨a,n,c,bs,h1,h2,h3⟩:=h;exact ⟨a,n,c,bs,h1,h2,hk _ _ h3⟩
 case raw=>
  split at h
  ·exact hk _ _ h
  ·exact hk _ _ h
  ·exact h.mono fun e w' ⟨v,hv,h2⟩=>⟨v,hv,hk _ _ h2⟩
  ·exact h
 all_goals (obtain ⟨v,h1,h2⟩:=h;exact ⟨v,h1,hk _ _ h2⟩)
def aWs (n:Nat) (K:Env→World→Prop) (a:Act) (w:World):Prop:=∃ρ,Rep n a ρ∧K ρ w
theorem aEp {ρ:Env} {w:World} {k:Value→World→Prop} {o:KOp} (hst:o.isStill=true) (h:o.wp P ρ w k):∃v,o.rd ρ w=some v∧k v w:=by
 cases o<;>first|exact h|(simp [KOp.isStill,KOp.isFix] at hst;done)
theorem aB7 [Quiet P] {n:Nat} {ms:List Nat} {K:Env→World→Prop} (hm:rS ops ms=true) (hsel:Region.noSelect ops=true):∀(fuel:Nat) (listed:Array Bool) (r:KR) (a:Act) (ρ:Env) (w:World),
  bCw P n ops ms fuel listed=some r→Closed ops listed→Rep n a ρ→aF P r K ρ w→aBa P ops (aWs n K) fuel listed a w
 |0,listed,r,a,ρ,w,ho,hc,hr,h=>by
  simp only [bCw] at ho
  split at ho
  ·rename_i he
   simp only [Option.some.injEq] at ho;subst ho
   exact ⟨by simpa using he,ρ,hr,h⟩
  ·cases ho
 |fuel+1,listed,r,a,ρ,w,ho,hc,hr,h=>by
  simp only [bCw] at ho
  split at ho
  ·rename_i i hi
   simp only [Option.bind_eq_some_iff,Option.map_eq_some_iff] at ho
   obtain ⟨oi,hoi,ki,hki,r',hr',rfl⟩:=ho
   have F:=aFm hki
   have hmem:=List.mem_of_find?_eq_some hi
   have hprop:=List.find?_some hi
   simp only [Bool.and_eq_true,Bool.or_eq_true,List.all_eq_true,List.mem_range,beq_iff_eq] at hprop
   obtain ⟨hfree,hkind⟩:=hprop
   have hst:eL P ops i=true:=by
    rcases hkind with hk|⟨hk,_⟩
    ·unfold aJq at hk;unfold eL;rw [hoi] at hk ⊢;exact vS hk
    ·exact hk
   have hcs:(aH P oi).isStill=true:=by unfold eL at hst;rw [hoi] at hst;exact hst
   simp only [aF,F.dst,F.op] at h
   obtain ⟨v,hyw,hrest⟩:∃v,((kT ρ ki.guard=true∧(aH P oi).rd ρ w=some v)∨(kT ρ ki.guard=false∧v=undef))∧aF P r' K (put ρ oi.dst v) w:=by
    by_cases hw:kT ρ ki.guard=true
    ·rw [if_pos hw] at h
     obtain ⟨v,hv,hk⟩:=aEp hcs h
     exact ⟨v,.inl ⟨hw,hv⟩,hk⟩
    ·rw [if_neg hw] at h
     exact ⟨undef,.inr ⟨by simpa using hw,rfl⟩,h⟩
   have hrep:Rep n (a.put oi.dst v) (put ρ oi.dst v):=by have:=F.put hr v;rwa [F.dst] at this
   have IH:=aB7 hm hsel fuel (listed.setIfInBounds i true) r' (a.put oi.dst v) (put ρ oi.dst v) w hr' (nZ hc hmem) hrep hrest
   by_cases hfix:aJq P ops i=true
   ·refine aDn hoi (Region.noSelect_spec hsel) hst fuel listed a w (Region.free_spec hoi hfree) hmem ?_ IH
    rcases hyw with ⟨hw,hv⟩|⟨hw,rfl⟩
    ·refine .inl ⟨by rw [F.want a ρ hr];exact hw,fun w2=>?_⟩
     rw [F.exec hr]
     have hf:(aH P oi).isFix=true:=by unfold aJq at hfix;rw [hoi] at hfix;exact hfix
     exact aEj oi v hcs (by generalize aH P oi=ko at hf;cases ko<;>first|rfl|(simp [KOp.isFix] at hf)) (by rw [KOp.rd_fix hf];rw [KOp.rd_fix hf] at hv;exact hv)
    ·exact .inr ⟨by rw [F.want a ρ hr];exact hw,rfl⟩
   ·have hall:∀j,j<ops.size→j≠i→listed.getD j true=false→eL P ops j=false→aBs P ops j=true∨(ms.getD j 0).testBit i=true:=by
     rcases hkind with hk|⟨_,hk⟩
     ·exact absurd hk hfix
     ·intro j hj hji hun hsj
      rcases hk j hj with (((h1|h1)|h1)|h1)|h1
      ·exact absurd h1 hji
      ·rw [hun] at h1;cases h1
      ·rw [hsj] at h1;cases h1
      ·exact .inl h1
      ·exact .inr h1
    refine aAs hm hoi (Region.noSelect_spec hsel) hst fuel listed a w hc (Region.free_spec hoi hfree) hall hmem (fun w2 hg=>?_) IH
    rcases hyw with ⟨hw,hv⟩|⟨hw,rfl⟩
    ·exact .inl ⟨by rw [F.want a ρ hr];exact hw,by rw [F.exec hr];exact rK oi v hcs (bAf hg hv)⟩
    ·exact .inr ⟨by rw [F.want a ρ hr];exact hw,rfl⟩
  ·split at ho
   ·rename_i he
    simp only [Option.some.injEq] at ho;subst ho
    exact ⟨fun _=>⟨ρ,hr,h⟩,by rw [he];simp⟩
   ·rename_i q rs he
    refine ⟨fun h0=>(by rw [he] at h0;cases h0),fun i hi=>?_⟩
    rw [he] at hi
    have hmem:i∈Region.ready .any ops listed:=by rw [he];exact hi
    obtain ⟨ri,hri,hreg⟩:=aIb _ _ ho h i hi
    simp only [Option.bind_eq_some_iff,Option.map_eq_some_iff] at hri
    obtain ⟨oi,hoi,ki,hki,r',hr',rfl⟩:=hri
    have F:=aFm hki
    have IH:∀v w',aF P r' K (put ρ oi.dst v) w'→aBa P ops (aWs n K) fuel (listed.setIfInBounds i true) (a.put oi.dst v) w':=fun v w' hk=>
     aB7 hm hsel fuel (listed.setIfInBounds i true) r' (a.put oi.dst v) (put ρ oi.dst v) w' hr' (nZ hc hmem) (by have:=F.put hr v;rwa [F.dst] at this) hk
    simp only [aF,F.dst] at h hreg
    unfold aDi
    split
    ·rename_i hst
     have hcs:(aH P oi).isStill=true:=by unfold eL at hst;rw [hoi] at hst;exact hst
     by_cases hw:kT ρ ki.guard=true
     ·rw [if_pos hw,F.op] at hreg
      obtain ⟨v,hv,hk⟩:=aEp hcs hreg
      exact YieldsAt.stOp (v:=v) hoi (.inl ⟨by rw [F.want a ρ hr];exact hw,by rw [F.exec hr];exact rK oi v hcs hv⟩) (IH v w hk)
     ·rw [if_neg hw] at hreg
      exact YieldsAt.stOp (v:=undef) hoi (.inr ⟨by rw [F.want a ρ hr];simpa using hw,rfl⟩) (IH undef w hreg)
    ·unfold wpOp
     simp only [hoi]
     rw [F.want a ρ hr]
     split
     ·rename_i hw
      rw [if_pos hw] at hreg
      exact .inl (F.wp hr IH hreg)
     ·rename_i hw
      rw [if_neg hw] at hreg
      exact IH undef w hreg
def bN7 (P:Program) [Quiet P] (ops:Array Oper) (ms:List Nat) (S listed:Array Bool):Option Nat:=
 (Region.ready .any ops listed).find? fun i=>S.getD i false&&(Region.free .any ops listed i&&(aJq P ops i||(eL P ops i&&(List.range ops.size).all fun j=>j==i||listed.getD j true||eL P ops j||aBs P ops j||(ms.getD j 0).testBit i)))
def yO (P:Program) [Quiet P] (n:Nat) (ops:Array Oper) (ms:List Nat) (S:Array Bool):Nat→Array Bool→Option KR
 |0,listed=>if listed=S then some .nil else none
 |m+1,listed=>match bN7 P ops ms S listed with
  |some i=>(ops[i]?).bind fun o=>(mU P n ops o).bind fun ki=>(yO P n ops ms S m (listed.setIfInBounds i true)).map (.cons ki ·)
  |none=>match Region.ready .any ops listed with
   | []=>none
   |r::rs=>bI7 (fun i=>(ops[i]?).bind fun o=>(mU P n ops o).bind fun ki=>(yO P n ops ms S m (listed.setIfInBounds i true)).map (.cons ki ·)) (r::rs)
theorem aCc [Quiet P] {n:Nat} {ms:List Nat} {S:Array Bool} {c:Nat} {Q:Act→World→Prop} {K:Env→World→Prop} (hm:rS ops ms=true) (hsel:Region.noSelect ops=true) (hS:∀a ρ w,Rep n a ρ→K ρ w→aBa P ops Q c S a w):∀(fuel:Nat) (listed:Array Bool) (r:KR) (a:Act) (ρ:Env) (w:World),
  yO P n ops ms S fuel listed=some r→Closed ops listed→Rep n a ρ→aF P r K ρ w→aBa P ops Q (fuel+c) listed a w
 |0,listed,r,a,ρ,w,ho,hc,hr,h=>by
  simp only [yO] at ho
  split at ho
  ·rename_i he
   simp only [Option.some.injEq] at ho;subst ho;subst he
   rw [Nat.zero_add];exact hS a ρ w hr h
  ·cases ho
 |fuel+1,listed,r,a,ρ,w,ho,hc,hr,h=>by
  rw [Nat.add_right_comm fuel 1 c]
  simp only [yO] at ho
  split at ho
  ·rename_i i hi
   simp only [Option.bind_eq_some_iff,Option.map_eq_some_iff] at ho
   obtain ⟨oi,hoi,ki,hki,r',hr',rfl⟩:=ho
   have F:=aFm hki
   have hmem:=List.mem_of_find?_eq_some hi
   have hprop:=List.find?_some hi
   simp only [Bool.and_eq_true,Bool.or_eq_true,List.all_eq_true,List.mem_range,beq_iff_eq] at hprop
   obtain ⟨_,hfree,hkind⟩:=hprop
   have hst:eL P ops i=true:=by
    rcases hkind with hk|⟨hk,_⟩
    ·unfold aJq at hk;unfold eL;rw [hoi] at hk ⊢;exact vS hk
    ·exact hk
   have hcs:(aH P oi).isStill=true:=by unfold eL at hst;rw [hoi] at hst;exact hst
   simp only [aF,F.dst,F.op] at h
   obtain ⟨v,hyw,hrest⟩:∃v,((kT ρ ki.guard=true∧(aH P oi).rd ρ w=some v)∨(kT ρ ki.guard=false∧v=undef))∧aF P r' K (put ρ oi.dst v) w:=by
    by_cases hw:kT ρ ki.guard=true
    ·rw [if_pos hw] at h
     obtain ⟨v,hv,hk⟩:=aEp hcs h
     exact ⟨v,.inl ⟨hw,hv⟩,hk⟩
    ·rw [if_neg hw] at h
     exact ⟨undef,.inr ⟨by simpa using hw,rfl⟩,h⟩
   have hrep:Rep n (a.put oi.dst v) (put ρ oi.dst v):=by have:=F.put hr v;rwa [F.dst] at this
   have IH:=aCc hm hsel hS fuel (listed.setIfInBounds i true) r' (a.put oi.dst v) (put ρ oi.dst v) w hr' (nZ hc hmem) hrep hrest
   by_cases hfix:aJq P ops i=true
   ·refine aDn hoi (Region.noSelect_spec hsel) hst (fuel+c) listed a w (Region.free_spec hoi hfree) hmem ?_ IH
    rcases hyw with ⟨hw,hv⟩|⟨hw,rfl⟩
    ·refine .inl ⟨by rw [F.want a ρ hr];exact hw,fun w2=>?_⟩
     rw [F.exec hr]
     have hf:(aH P oi).isFix=true:=by unfold aJq at hfix;rw [hoi] at hfix;exact hfix
     exact aEj oi v hcs (by generalize aH P oi=ko at hf;cases ko<;>first|rfl|(simp [KOp.isFix] at hf)) (by rw [KOp.rd_fix hf];rw [KOp.rd_fix hf] at hv;exact hv)
    ·exact .inr ⟨by rw [F.want a ρ hr];exact hw,rfl⟩
   ·have hall:∀j,j<ops.size→j≠i→listed.getD j true=false→eL P ops j=false→aBs P ops j=true∨(ms.getD j 0).testBit i=true:=by
     rcases hkind with hk|⟨_,hk⟩
     ·exact absurd hk hfix
     ·intro j hj hji hun hsj
      rcases hk j hj with (((h1|h1)|h1)|h1)|h1
      ·exact absurd h1 hji
      ·rw [hun] at h1;cases h1
      ·rw [hsj] at h1;cases h1
      ·exact .inl h1
      ·exact .inr h1
    refine aAs hm hoi (Region.noSelect_spec hsel) hst (fuel+c) listed a w hc (Region.free_spec hoi hfree) hall hmem (fun w2 hg=>?_) IH
    rcases hyw with ⟨hw,hv⟩|⟨hw,rfl⟩
    ·exact .inl ⟨by rw [F.want a ρ hr];exact hw,by rw [F.exec hr];exact rK oi v hcs (bAf hg hv)⟩
    ·exact .inr ⟨by rw [F.want a ρ hr];exact hw,rfl⟩
  ·split at ho
   ·cases ho
   ·rename_i q rs he
    refine ⟨fun h0=>(by rw [he] at h0;cases h0),fun i hi=>?_⟩
    rw [he] at hi
    have hmem:i∈Region.ready .any ops listed:=by rw [he];exact hi
    obtain ⟨ri,hri,hreg⟩:=aIb _ _ ho h i hi
    simp only [Option.bind_eq_some_iff,Option.map_eq_some_iff] at hri
    obtain ⟨oi,hoi,ki,hki,r',hr',rfl⟩:=hri
    have F:=aFm hki
    have IH:∀v w',aF P r' K (put ρ oi.dst v) w'→aBa P ops Q (fuel+c) (listed.setIfInBounds i true) (a.put oi.dst v) w':=fun v w' hk=>
     aCc hm hsel hS fuel (listed.setIfInBounds i true) r' (a.put oi.dst v) (put ρ oi.dst v) w' hr' (nZ hc hmem) (by have:=F.put hr v;rwa [F.dst] at this) hk
    simp only [aF,F.dst] at h hreg
    unfold aDi
    split
    ·rename_i hst
     have hcs:(aH P oi).isStill=true:=by unfold eL at hst;rw [hoi] at hst;exact hst
     by_cases hw:kT ρ ki.guard=true
     ·rw [if_pos hw,F.op] at hreg
      obtain ⟨v,hv,hk⟩:=aEp hcs hreg
      exact YieldsAt.stOp (v:=v) hoi (.inl ⟨by rw [F.want a ρ hr];exact hw,by rw [F.exec hr];exact rK oi v hcs hv⟩) (IH v w hk)
     ·rw [if_neg hw] at hreg
      exact YieldsAt.stOp (v:=undef) hoi (.inr ⟨by rw [F.want a ρ hr];simpa using hw,rfl⟩) (IH undef w hreg)
    ·unfold wpOp
     simp only [hoi]
     rw [F.want a ρ hr]
     split
     ·rename_i hw
      rw [if_pos hw] at hreg
      exact .inl (F.wp hr IH hreg)
     ·rename_i hw
      rw [if_neg hw] at hreg
      exact IH undef w hreg
theorem yG [Quiet P] {n:Nat} {ms:List Nat} {S:Array Bool}:∀(fuel:Nat) (listed:Array Bool) (r:KR),yO P n ops ms S fuel listed=some r→Closed ops listed→Closed ops S
 |0,listed,r,ho,hc=>by
  simp only [yO] at ho
  split at ho
  ·rename_i he;subst he;exact hc
  ·cases ho
 |fuel+1,listed,r,ho,hc=>by
  simp only [yO] at ho
  split at ho
  ·rename_i i hi
   simp only [Option.bind_eq_some_iff,Option.map_eq_some_iff] at ho
   obtain ⟨oi,hoi,ki,hki,r',hr',rfl⟩:=ho
   exact yG fuel _ r' hr' (nZ hc (List.mem_of_find?_eq_some hi))
  ·split at ho
   ·cases ho
   ·rename_i q rs he
    have h1:∃ri:KR,((ops[q]?).bind fun o=>(mU P n ops o).bind fun ki=>(yO P n ops ms S fuel (listed.setIfInBounds q true)).map (KR.cons ki ·))=some ri:=by
     cases rs with
     |nil=>exact ⟨r,ho⟩
     |cons j l=>
      simp only [bI7,Option.bind_eq_some_iff,Option.map_eq_some_iff] at ho
      obtain ⟨a,ha,_⟩:=ho
      exact ⟨a,by simp only [Option.bind_eq_some_iff,Option.map_eq_some_iff];exact ha⟩
    obtain ⟨ri,h1⟩:=h1
    simp only [Option.bind_eq_some_iff,Option.map_eq_some_iff] at h1
    obtain ⟨oi,hoi,ki,hki,r',hr',_⟩:=h1
    exact yG fuel _ r' hr' (nZ hc (by rw [he];simp))
def bF6 (P:Program) [Quiet P] (n:Nat) (ops:Array Oper) (ms:List Nat):List (Nat × Array Bool)→Nat→Array Bool→Option KR
 | [],fuel,listed=>bCw P n ops ms fuel listed
 |(d,S)::r,fuel,listed=>if d≤fuel then (yO P n ops ms S d listed).bind fun a=>(bF6 P n ops ms r (fuel - d) S).map (.join a ·) else none
theorem aNq [Quiet P] {n:Nat} {ms:List Nat} {K:Env→World→Prop} (hm:rS ops ms=true) (hsel:Region.noSelect ops=true):∀(plan:List (Nat × Array Bool)) (fuel:Nat) (listed:Array Bool) (r:KR) (a:Act) (ρ:Env) (w:World),
  bF6 P n ops ms plan fuel listed=some r→Closed ops listed→Rep n a ρ→aF P r K ρ w→aBa P ops (aWs n K) fuel listed a w
 | [],fuel,listed,r,a,ρ,w,ho,hc,hr,h=>aB7 hm hsel fuel listed r a ρ w ho hc hr h
 |(d,S)::plan,fuel,listed,r,a,ρ,w,ho,hc,hr,h=>by
  simp only [bF6] at ho
  split at ho
  ·rename_i hd
   simp only [Option.bind_eq_some_iff,Option.map_eq_some_iff] at ho
   obtain ⟨ra,ha,rb,hb,rfl⟩:=ho
   have hcS:=yG d listed ra ha hc
   have:=aCc (c:=fuel - d) (Q:=aWs n K) (K:=aF P rb K) hm hsel (fun a ρ w hr h=>aNq hm hsel plan (fuel - d) S rb a ρ w hb hcS hr h) d listed ra a ρ w ha hc hr h
   rwa [show d+(fuel - d)=fuel by omega] at this
  ·cases ho
def bRk (ops:Array Oper) (ms:List Nat) (non:List Nat) (k:Nat):Array Bool:=
 ((List.range ops.size).map fun i=>if non.contains i then decide (i<k) else non.all fun j=>decide (j<k)||!(ms.getD i 0).testBit j).toArray
def bSj (ms:List Nat) (non:List Nat) (k:Nat):Bool:=
 non.all fun j=>decide (j<k)||non.all fun i=>decide (k≤i)||(ms.getD j 0).testBit i
def cutAt (ms:List Nat) (non:List Nat):List Nat:=
 let ks:=non.filter fun k=>decide (0<k)&&bSj ms non k&&decide (non.head? ≠some k)
 let seg (a b:Nat):Nat:=(non.filter fun i=>decide (a≤i)&&decide (i<b)).length
 let bs:=0::ks
 (ks.zipIdx.filter fun (k,i)=>decide (1<seg (bs.getD i 0) k)||decide (1<seg k (ks.getD (i+1) 1000000))).map (·.1)
def bRe (ops:Array Oper) (ms:List Nat) (non:List Nat):List (Nat × Array Bool):=
 let Ss:=(cutAt ms non).map (bRk ops ms non)
 let cnt (S:Array Bool):Nat:=(S.toList.filter id).length
 (Ss.zipIdx).map fun (S,i)=>(cnt S - (match i with|0=>0|j+1=>cnt (Ss.getD j #[])),S)
def bM2 (P:Program) [Quiet P] (ops:Array Oper):List Nat:=(List.range ops.size).filter fun i=>!aJq P ops i
def aJ8 (ops:Array Oper):List Nat:=
 ops.toList.foldl (fun ms o=>ms++ [o.after.toList.foldl (fun m e=>if Region.binds .any e then m|||2^e.on|||ms.getD e.on 0 else m) 0]) []
def aQ9 (P:Program) [Quiet P] (n:Nat) (ops:Array Oper):Option KR:=
 if rS ops (aJ8 ops)&&Region.noSelect ops then
  match bF6 P n ops (aJ8 ops) (bRe ops (aJ8 ops) (bM2 P ops)) ops.size (Array.replicate ops.size false) with
  |some r=>some r
  |none=>bCw P n ops (aJ8 ops) ops.size (Array.replicate ops.size false)
 else none
theorem aI7:Closed ops (Array.replicate ops.size false):=by
 intro j oj _ hl
 have:(Array.replicate ops.size false).getD j false=false:=by
  simp only [Array.getD_eq_getD_getElem?,Array.getElem?_replicate];split<;>rfl
 rw [this] at hl;cases hl
theorem bAa [Quiet P] {n:Nat} {id:Nat} {r:KR} {K:Env→World→Prop} {a:Act} {ρ:Env} {w:World} {Q:Exit→Act→World→Prop} (hmx:P.follows .mixedOrders=true) (hc:aQ9 P n ops=some r) (hr:Rep n a ρ)
  (h:aF P r K ρ w.drew) (hQ:∀a w,aWs n K a w→Q .normal a w):(Code.region id ops true).wp P Q a w:=by
 unfold aQ9 at hc
 rw [Option.ite_none_right_eq_some] at hc
 obtain ⟨h1,h2⟩:=hc
 simp only [Bool.and_eq_true] at h1
 split at h2
 ·rename_i r' hp
  simp only [Option.some.injEq] at h2;subst h2
  exact wp_region_any hmx (sY hQ _ _ _ _ (aNq h1.1 h1.2 _ _ _ _ a ρ _ hp aI7 hr h))
 ·exact wp_region_any hmx (sY hQ _ _ _ _ (aB7 h1.1 h1.2 _ _ r a ρ _ h2 aI7 hr h))
theorem aV3 [Quiet P] {n:Nat} {id:Nat} {r:KR} {K:Env→World→Prop} {a:Act} {ρ:Env} {w:World} {Q:Exit→Act→World→Prop} (hc:aA0 P n ops ops.toList=some r) (hr:Rep n a ρ)
  (h:aF P r K ρ w) (hQ:∀a w,aWs n K a w→Q .normal a w):(Code.region id ops false).wp P Q a w:=by
 refine Code.wp_mono (Q:=Nrm n K) ?_ (wp_region_list (bQ1 ops.toList r a ρ w hc h hr))
 intro e a w hn
 cases e<;>first|exact hQ _ _ hn|exact hn.elim
def wI (S:Nat→Bool) (i:Nat):Nat→Bool:=fun j=>if j=i then true else S j
def nK (P:Program) (I:(Nat→Bool)→Env→World→Prop) (S:Nat→Bool) (i:Nat) (k:KI) (ρ:Env) (w:World):Prop:=
 if kT ρ k.guard=true then k.op.wp P ρ w (fun v w'=>I (wI S i) (put ρ k.dst v) w') else I (wI S i) (put ρ k.dst undef) w
def bSq (P:Program) (l:List (KI × List Nat)) (Q:Env→World→Prop) (ρ:Env) (w:World):Prop:=
 ∃I:(Nat→Bool)→Env→World→Prop,I (fun _=>false) ρ w∧
  (∀(i:Nat) (h:i<l.length) (S:Nat→Bool) (ρ:Env) (w:World),S i=false→(∀d∈(l[i]).2,S d=true)→I S ρ w→nK P I S i (l[i]).1 ρ w)∧
  ∀(S:Nat→Bool) (ρ:Env) (w:World),(∀i,i<l.length→S i=true)→I S ρ w→Q ρ w
def aLy (o:Oper):List Nat:=(o.after.toList.filter fun e=>Region.binds .any e).map (·.on)
def aFv (P:Program) [Quiet P] (n:Nat) (ops:Array Oper):List Oper→Option (List (KI × List Nat))
 | []=>some []
 |o::r=>(mU P n ops o).bind fun k=>(aFv P n ops r).map ((k,aLy o)::·)
def aLn:Nat→List Oper→Bool
 |_, []=>true
 |i,o::l=>(aLy o).all (fun d=>decide (d<i))&&aLn (i+1) l
def aRp (P:Program) [Quiet P] (n:Nat) (ops:Array Oper):Option (List (KI × List Nat)):=
 if Region.noSelect ops&&aLn 0 ops.toList then aFv P n ops ops.toList else none
def bSz (P:Program) [Quiet P] (ops:Array Oper):Bool:=
 let ms:=aJ8 ops
 let non:=bM2 P ops
 decide (14<((non.map fun j=>(non.filter fun i=>decide (i<j)&&!(eL P ops i&&eL P ops j)&&!(ms.getD j 0).testBit i).length).foldl (·+·) 0))
theorem bAt [Quiet P] {n:Nat}:∀(L:List Oper) (l:List (KI × List Nat)),aFv P n ops L=some l→l.length=L.length∧∀(i:Nat) (h:i<l.length) (h':i<L.length),mU P n ops L[i]=some (l[i]).1∧(l[i]).2=aLy L[i]
 | [],l,h=>by
  simp only [aFv,Option.some.injEq] at h;subst h
  exact ⟨rfl,fun i h=>absurd h (by simp)⟩
 |o::L,l,h=>by
  simp only [aFv,Option.bind_eq_some_iff,Option.map_eq_some_iff] at h
  obtain ⟨k,hk,l',hl',rfl⟩:=h
  obtain ⟨h1,h2⟩:=bAt L l' hl'
  refine ⟨by simp [h1],fun i hi hi'=>?_⟩
  cases i with
  |zero=>exact ⟨hk,rfl⟩
  |succ i=>exact h2 i (by simpa using hi) (by simpa using hi')
theorem bAi:∀(L:List Oper) (k:Nat),aLn k L=true→∀(i:Nat) (h:i<L.length),∀d∈aLy L[i],d<k+i
 | [],_,_,i,h=>absurd h (by simp)
 |o::L,k,he,i,h=>by
  simp only [aLn,Bool.and_eq_true,List.all_eq_true,decide_eq_true_eq] at he
  cases i with
  |zero=>exact fun d hd=>he.1 d hd
  |succ i=>
   intro d hd
   have:=bAi L (k+1) he.2 i (by simpa using h) d hd
   omega
def unl (m:Nat) (listed:Array Bool):Nat:=((List.range m).filter fun i=>!listed.getD i true).length
theorem aN7 {p q:Nat→Bool} {i:Nat}:∀{L:List Nat},L.Nodup→i∈L→p i=true→q i=false→(∀j,j≠i→q j=p j)→(L.filter q).length+1=(L.filter p).length
 | [],_,hi,_,_,_=>by cases hi
 |j::L,hn,hi,hp,hq,he=>by
  rw [List.nodup_cons] at hn
  by_cases e:j=i
  ·subst e
   have h2:L.filter q=L.filter p:=List.filter_congr fun k hk=>he k (fun e=>hn.1 (e▸hk))
   rw [List.filter_cons_of_pos hp,List.filter_cons_of_neg (by simp [hq]),h2,List.length_cons]
  ·have hi':i∈L:=(List.mem_cons.1 hi).resolve_left (fun h=>e h.symm)
   have ih:=aN7 hn.2 hi' hp hq he
   have hj:=he j e
   rw [List.filter_cons,List.filter_cons,hj]
   cases p j<;>simp<;>omega
theorem aT4 {listed:Array Bool} (hs:listed.size=ops.size) (he:aLn 0 ops.toList=true) (h0:Region.ready .any ops listed= []):∀i,i<ops.size→listed.getD i false=true:=by
 intro i
 induction i using Nat.strongRecOn with
 |_ i ih=>
  intro hi
  cases hl:listed.getD i false with
  |true=>rfl
  |false=>
   exfalso
   have hmem:i∈Region.ready .any ops listed:=by
    rw [mem_ready]
    refine ⟨?_,ops[i],Array.getElem?_eq_getElem hi,fun e hm hb=>?_⟩
    ·simp only [Array.getD_eq_getD_getElem?,Array.getElem?_eq_getElem (show i<listed.size by omega),Option.getD_some] at hl ⊢
     exact hl
    ·have hd:e.on∈aLy ops[i]:=List.mem_map.2 ⟨e,List.mem_filter.2 ⟨by simpa using hm,hb⟩,rfl⟩
     have:=bAi ops.toList 0 he i (by simpa using hi) e.on (by simpa using hd)
     exact ih e.on (by omega) (by omega)
   rw [h0] at hmem;cases hmem
theorem bIl [Quiet P] {n:Nat} {l:List (KI × List Nat)} {K:Env→World→Prop} {I:(Nat→Bool)→Env→World→Prop} (hsel:Region.noSelect ops=true) (he:aLn 0 ops.toList=true) (hl:aFv P n ops ops.toList=some l)
  (hstep:∀(i:Nat) (h:i<l.length) (S:Nat→Bool) (ρ:Env) (w:World),S i=false→(∀d∈(l[i]).2,S d=true)→I S ρ w→nK P I S i (l[i]).1 ρ w)
  (hend:∀(S:Nat→Bool) (ρ:Env) (w:World),(∀i,i<l.length→S i=true)→I S ρ w→K ρ w):
  ∀(fuel:Nat) (listed:Array Bool) (a:Act) (ρ:Env) (w:World),listed.size=ops.size→unl ops.size listed=fuel→Rep n a ρ→I (fun j=>listed.getD j false) ρ w→aBa P ops (aWs n K) fuel listed a w:=by
 obtain ⟨hlen,hat⟩:=bAt ops.toList l hl
 have hlen:l.length=ops.size:=by rw [hlen];simp
 intro fuel
 induction fuel with
 |zero=>
  intro listed a ρ w hs hu hr hI
  have hall:∀i,i<ops.size→listed.getD i true=true:=fun i hi=>by
   unfold unl at hu
   have h1:=List.length_eq_zero_iff.1 hu
   rw [List.filter_eq_nil_iff] at h1
   have:=h1 i (List.mem_range.2 hi)
   simpa using this
  have h0:Region.ready .any ops listed= []:=by
   rw [List.eq_nil_iff_forall_not_mem]
   intro j hj
   obtain ⟨h1,o,ho, -⟩:=mem_ready.1 hj
   rw [hall j (Array.getElem?_eq_some_iff.1 ho).1] at h1;cases h1
  exact ⟨h0,ρ,hr,hend _ ρ w (fun i hi=>aT4 hs he h0 i (by omega)) hI⟩
 |succ fuel ih=>
  intro listed a ρ w hs hu hr hI
  refine ⟨fun h0=>⟨ρ,hr,hend _ ρ w (fun i hi=>aT4 hs he h0 i (by omega)) hI⟩,fun i hi=>?_⟩
  obtain ⟨hun,oi,hoi,hdep⟩:=mem_ready.1 hi
  have hil:i<ops.size:=(Array.getElem?_eq_some_iff.1 hoi).1
  have hio:ops.toList[i]'(by simpa using hil)=oi:=by
   have:=(Array.getElem?_eq_some_iff.1 hoi).2
   simpa using this
  obtain ⟨hc,hd⟩:=hat i (by omega) (by simpa using hil)
  rw [hio] at hc hd
  have F:=aFm hc
  have hun':listed.getD i false=false:=by
   simp only [Array.getD_eq_getD_getElem?,Array.getElem?_eq_getElem (show i<listed.size by omega),Option.getD_some] at hun ⊢
   exact hun
  have hst:=hstep i (by omega) (fun j=>listed.getD j false) ρ w hun' (fun d hm=>by
   rw [hd] at hm
   obtain ⟨e,h1,rfl⟩:=List.mem_map.1 hm
   obtain ⟨h1,h2⟩:=List.mem_filter.1 h1
   exact hdep e (by simpa using h1) h2) hI
  have hset:(fun j=>(listed.setIfInBounds i true).getD j false)=wI (fun j=>listed.getD j false) i:=by
   funext j
   unfold wI
   by_cases e:j=i
   ·subst e
    rw [if_pos rfl]
    simp [Array.getD_eq_getD_getElem?,show j<listed.size by omega]
   ·rw [if_neg e,getD_set_ne false (Ne.symm e)]
  have IH:∀v w',I (wI (fun j=>listed.getD j false) i) (put ρ oi.dst v) w'→aBa P ops (aWs n K) fuel (listed.setIfInBounds i true) (a.put oi.dst v) w':=fun v w' hI'=>by
   refine ih _ _ _ w' (by simp [hs]) ?_ (by have:=F.put hr v;rwa [F.dst] at this) (by rw [hset];exact hI')
   have:=aN7 (p:=fun i=>!listed.getD i true) (q:=fun j=>!(listed.setIfInBounds i true).getD j true) (i:=i) (L:=List.range ops.size) List.nodup_range (List.mem_range.2 hil) (by simp [hun]) (by simp [Array.getD_eq_getD_getElem?,show i<listed.size by omega]) (fun j hj=>by rw [getD_set_ne true (Ne.symm hj)])
   unfold unl at hu ⊢
   omega
  unfold nK at hst
  simp only [F.dst] at hst
  unfold aDi
  split
  ·rename_i hst2
   have hcs:(aH P oi).isStill=true:=by unfold eL at hst2;rw [hoi] at hst2;exact hst2
   by_cases hw:kT ρ (l[i]'(by omega)).1.guard=true
   ·rw [if_pos hw,F.op] at hst
    obtain ⟨v,hv,hk⟩:=aEp hcs hst
    exact YieldsAt.stOp (v:=v) hoi (.inl ⟨by rw [F.want a ρ hr];exact hw,by rw [F.exec hr];exact rK oi v hcs hv⟩) (IH v w hk)
   ·rw [if_neg hw] at hst
    exact YieldsAt.stOp (v:=undef) hoi (.inr ⟨by rw [F.want a ρ hr];simpa using hw,rfl⟩) (IH undef w hst)
  ·unfold wpOp
   simp only [hoi]
   rw [F.want a ρ hr]
   split
   ·rename_i hw
    rw [if_pos hw] at hst
    exact .inl (F.wp hr IH hst)
   ·rename_i hw
    rw [if_neg hw] at hst
    exact IH undef w hst
theorem aX4 [Quiet P] {n:Nat} {id:Nat} {l:List (KI × List Nat)} {K:Env→World→Prop} {a:Act} {ρ:Env} {w:World} {Q:Exit→Act→World→Prop} (hmx:P.follows .mixedOrders=true) (hc:aRp P n ops=some l) (hr:Rep n a ρ)
  (h:bSq P l K ρ w.drew) (hQ:∀a w,aWs n K a w→Q .normal a w):(Code.region id ops true).wp P Q a w:=by
 unfold aRp at hc
 rw [Option.ite_none_right_eq_some] at hc
 obtain ⟨h1,h2⟩:=hc
 simp only [Bool.and_eq_true] at h1
 obtain ⟨I,hI,hstep,hend⟩:=h
 have e0:∀(d:Bool) (j:Nat),j<ops.size→(Array.replicate ops.size false).getD j d=false:=fun d j hj=>by
  simp [Array.getD_eq_getD_getElem?,Array.getElem?_replicate,hj]
 have e1:(fun j=>(Array.replicate ops.size false).getD j false)=fun _=>false:=by
  funext j
  simp only [Array.getD_eq_getD_getElem?,Array.getElem?_replicate];split<;>rfl
 refine wp_region_any hmx (sY hQ _ _ _ _ (bIl h1.1 h1.2 h2 hstep hend ops.size (Array.replicate ops.size false) a ρ _ (by simp) ?_ hr (by rw [e1];exact hI)))
 unfold unl
 rw [List.filter_eq_self.2 (fun i hi=>by rw [e0 true i (List.mem_range.1 hi)];rfl)]
 simp
inductive KC where
 |skip
 |reg (draw:Bool) (r:KR)
 |anyR (l:List (KI × List Nat))
 |seq (a b:KC)
 |cond (x:Operand) (a b:KC)
 |block (id:Nat) (c:KC)
 |loop (c:KC)
 |exit (id:Nat)
 |ret
 |raw (n:Nat) (c:Code)
def aP (P:Program):KC→(Exit→Env→World→Prop)→Env→World→Prop
 |.skip,K,ρ,w=>K .normal ρ w
 |.reg false r,K,ρ,w=>aF P r (K .normal) ρ w
 |.reg true r,K,ρ,w=>aF P r (K .normal) ρ w.drew
 |.anyR l,K,ρ,w=>bSq P l (K .normal) ρ w.drew
 |.seq a b,K,ρ,w=>aP P a (fun e ρ' w'=>match e with
  |.normal=>aP P b K ρ' w'
  |e=>K e ρ' w') ρ w
 |.cond x a b,K,ρ,w=>∃t,ev ρ x=.bool t∧(t=true→aP P a K ρ w)∧(t=false→aP P b K ρ w)
 |.block id c,K,ρ,w=>aP P c (fun e ρ' w'=>match e with
  |.exit id'=>if id'=id then K .normal ρ' w' else K (.exit id') ρ' w'
  |e=>K e ρ' w') ρ w
 |.loop c,K,ρ,w=>∃(I:Env→World→Prop) (μ:Env→World→Nat),I ρ w∧∀ρ w,I ρ w→aP P c (fun e ρ' w'=>match e with
  |.normal=>I ρ' w'∧μ ρ' w'<μ ρ w
  |e=>K e ρ' w') ρ w
 |.exit id,K,ρ,w=>K (.exit id) ρ w
 |.ret,K,ρ,w=>K .ret ρ w
 |.raw n c,K,ρ,w=>∀a,Rep n a ρ→c.wp P (fun e a' w'=>∃ρ',Rep n a' ρ'∧K e ρ' w') a w
def eE (P:Program) [Quiet P] (n:Nat):Code→KC
 |.skip=>.skip
 |.region id ops d=>if d&&bSz P ops then (match aRp P n ops with
  |some l=>.anyR l
  |none=>.raw n (.region id ops d)) else match (if d then aQ9 P n ops else aA0 P n ops ops.toList) with
  |some r=>.reg d r
  |none=>.raw n (.region id ops d)
 |.seq a b=>.seq (eE P n a) (eE P n b)
 |.cond x a b=>if aL4 n x then .cond x (eE P n a) (eE P n b) else .raw n (.cond x a b)
 |.block id c=>.block id (eE P n c)
 |.loop c=>.loop (eE P n c)
 |.exit id=>.exit id
 |.ret=>.ret
 |.scope c=>.raw n (.scope c)
 |c=>.raw n c
theorem bNu {σ:Type} {c:Code} {Q:Exit→Act→World→Prop} {a:Act} {w:World} (I:σ→Act→World→Prop) (μ:σ→World→Nat) (s:σ) (h₀:I s a w)
  (round:∀s a w,I s a w→c.wp P (Exit.then (fun a' w'=>∃s',I s' a' w'∧μ s' w'<μ s w) Q) a w):(Code.loop c).wp P Q a w:=by
 intro b k cs
 have key:∀n s a w,μ s w=n→I s a w→
   ∃e a' w',Q e a' w'∧Arrives P (lone (b.at a (.code c::.inLoop c::k)) cs w) b k cs e a' w':=by
  intro n
  induction n using Nat.strongRecOn with
  |_ n ih=>
   intro s a w hn hI
   obtain ⟨e,a₁,w₁,hq,harr⟩:=round s a w hI b (.inLoop c::k) cs
   cases e with
   |normal=>
    obtain ⟨s',hI₁,hlt⟩:=hq
    obtain ⟨e₂,a₂,w₂,hq₂,harr₂⟩:=ih (μ s' w₁) (hn▸hlt) s' a₁ w₁ rfl hI₁
    exact ⟨e₂,a₂,w₂,hq₂,.of_steps (Steps.trans harr (.one step_inLoop)) harr₂⟩
   |exit id=>exact ⟨_,a₁,w₁,hq,.pass (x:=.inLoop c) rfl (fun _ _=>.inl (by simp)) harr⟩
   |goto l=>exact ⟨_,a₁,w₁,hq,.pass (x:=.inLoop c) rfl (fun _ _=>.inl (by simp)) harr⟩
   |ret=>exact ⟨_,a₁,w₁,hq,.pass (x:=.inLoop c) rfl (fun _ _=>.inl (by simp)) harr⟩
   |panic ch=>exact ⟨_,a₁,w₁,hq,.pass (x:=.inLoop c) rfl (fun _ _=>.inl (by simp)) harr⟩
   |outgrown=>exact ⟨_,a₁,w₁,hq,.pass (x:=.inLoop c) rfl (fun _ _=>.inl (by simp)) harr⟩
 obtain ⟨e,a',w',hq,harr⟩:=key _ s a w rfl h₀
 exact ⟨e,a',w',hq,.of_steps (.one step_loop) harr⟩
theorem nV [Quiet P] {n:Nat} (hmx:P.follows .mixedOrders=true):∀(c:Code) (K:Exit→Env→World→Prop) (a:Act) (ρ:Env) (w:World),Rep n a ρ→aP P (eE P n c) K ρ w→c.wp P (fun e a' w'=>∃ρ',Rep n a' ρ'∧K e ρ' w') a w
 |.skip,K,a,ρ,w,hr,h=>wp_skip ⟨ρ,hr,h⟩
 |.region id ops d,K,a,ρ,w,hr,h=>by
  simp only [eE] at h
  split at h
  ·rename_i hd
   simp only [Bool.and_eq_true] at hd
   obtain ⟨rfl, -⟩:=hd
   split at h
   ·rename_i l hc
    exact aX4 hmx hc hr h (fun a w hp=>hp)
   ·exact h a hr
  split at h
  ·rename_i r hc
   cases d with
   |true=>exact bAa hmx (by simpa using hc) hr h (fun a w hp=>hp)
   |false=>exact aV3 (by simpa using hc) hr h (fun a w hp=>hp)
  ·exact h a hr
 |.seq x y,K,a,ρ,w,hr,h=>by
  simp only [eE,aP] at h
  refine wp_seq (Code.wp_mono ?_ (nV hmx x _ a ρ w hr h))
  rintro e a' w' ⟨ρ',hr',hk⟩
  cases e<;>first|exact ⟨ρ',hr',hk⟩|exact nV hmx y K a' ρ' w' hr' hk
 |.cond x c d,K,a,ρ,w,hr,h=>by
  simp only [eE] at h
  split at h
  ·rename_i hx
   obtain ⟨t,ht,h1,h2⟩:=h
   refine wp_cond (t:=t) (by rw [hr.eval hx];exact ht) ?_
   cases t with
   |true=>exact nV hmx c K a ρ w hr (h1 rfl)
   |false=>exact nV hmx d K a ρ w hr (h2 rfl)
  ·exact h a hr
 |.block id c,K,a,ρ,w,hr,h=>by
  simp only [eE,aP] at h
  refine wp_block (Code.wp_mono ?_ (nV hmx c _ a ρ w hr h))
  rintro e a' w' ⟨ρ',hr',hk⟩
  cases e with
  |exit id'=>
   simp only [Exit.inBlock] at hk ⊢
   split
   ·rename_i he;rw [if_pos he] at hk;exact ⟨ρ',hr',hk⟩
   ·rename_i he;rw [if_neg he] at hk;exact ⟨ρ',hr',hk⟩
  |normal=>exact ⟨ρ',hr',hk⟩
  |ret=>exact ⟨ρ',hr',hk⟩
  |goto l=>exact ⟨ρ',hr',hk⟩
  |panic ch=>exact ⟨ρ',hr',hk⟩
  |outgrown=>exact ⟨ρ',hr',hk⟩
 |.loop c,K,a,ρ,w,hr,h=>by
  simp only [eE,aP] at h
  obtain ⟨I,μ,h0,hround⟩:=h
  refine bNu (fun ρ a w=>Rep n a ρ∧I ρ w) μ ρ ⟨hr,h0⟩ fun ρ a w ⟨hr,hI⟩=>?_
  refine Code.wp_mono ?_ (nV hmx c _ a ρ w hr (hround ρ w hI))
  rintro e a' w' ⟨ρ',hr',hk⟩
  cases e<;>first|exact ⟨ρ',hr',hk⟩|exact ⟨ρ',⟨hr',hk.1⟩,hk.2⟩
 |.exit id,K,a,ρ,w,hr,h=>wp_exit ⟨ρ,hr,h⟩
 |.ret,K,a,ρ,w,hr,h=>wp_ret ⟨ρ,hr,h⟩
 |.scope c,K,a,ρ,w,hr,h=>h a hr
 |.goto l,K,a,ρ,w,hr,h=>h a hr
 |.label l,K,a,ρ,w,hr,h=>h a hr
 |.rangeFunc f p x y,K,a,ρ,w,hr,h=>h a hr
 |.refuse s,K,a,ρ,w,hr,h=>h a hr
inductive RV where
 |tmp (t:Tmp)
 |cell (t:Tmp)
 |cellN (n:Nat) (t:Tmp)
def bOu (P:Program) (n:Nat):ResultVar→Option RV
 |.tmp t=>if t<n then some (.tmp t) else none
 |.cell a t=>if a<n then match uM P t with
  |some (some k)=>some (.cellN k a)
  |some none=>some (.cell a)
  |none=>none
  else none
def aZ6 (P:Program) (n:Nat):List ResultVar→Option (List RV)
 | []=>some []
 |x::l=>(bOu P n x).bind fun r=>(aZ6 P n l).map (r::·)
def aFd (P:Program) (fn:Func) (n:Nat):Option (List RV):=aZ6 P n fn.results.toList
def aHd (ρ:Env) (w:World):RV→Option Value
 |.tmp t=>some (ρ t)
 |.cell t=>match ρ t with
  |.pointer (some a)=>w.cell? a
  |_=>none
 |.cellN n t=>match ρ t with
  |.pointer (some a)=>(rdCells w a 0 n).map fun l=>.agg l.toArray
  |_=>none
def aEa (ρ:Env) (w:World):List RV→Option (List Value)
 | []=>some []
 |x::l=>(aHd ρ w x).bind fun v=>(aEa ρ w l).map (v::·)
def aCu (ρ:Env) (w:World):List RV→Option Value
 | [t]=>aHd ρ w t
 |ts=>(aEa ρ w ts).map fun l=>.tuple l.toArray
def Spec (P:Program) (f:FuncId) (args:List Value) (w:World) (R:Value→World→Prop):Prop:=
 Calls P f args.toArray w fun e w'=>∃v,e=.returned v∧R v w'
def jZ (args:List Value):Env:=fun t=>args.getD t undef
def bG (rs:List RV) (R:Value→World→Prop):Exit→Env→World→Prop
 |.normal,ρ,w|.ret,ρ,w=>∃v,aCu ρ w rs=some v∧R v w
 |_,_,_=>False
theorem bQr {n:Nat} {x:ResultVar} {r:RV} {v:Value} {a:Act} {ρ:Env} {w:World} (hr:bOu P n x=some r) (hrep:Rep n a ρ) (hv:aHd ρ w r=some v):
  (match x with|.tmp t=>pure (a.tmps.getD t undef)|.cell b t=>(do loadVar t (←asAddr (a.tmps.getD b undef))):Sem Value).run P w=.ok v w:=by
 cases x with
 |tmp t=>
  simp only [bOu,Option.ite_none_right_eq_some,Option.some.injEq] at hr
  obtain ⟨ht,rfl⟩:=hr
  simp only [aHd,Option.some.injEq] at hv
  subst hv
  simp only [hrep.getD ht,Sem.run_pure]
 |cell b t=>
  simp only [bOu,Option.ite_none_right_eq_some] at hr
  obtain ⟨hb,hr⟩:=hr
  simp only [hrep.getD hb]
  split at hr
  ·rename_i k hk
   simp only [Option.some.injEq] at hr;subst hr
   simp only [aHd] at hv
   split at hv
   ·rename_i ad had
    obtain ⟨l,hl,rfl⟩:=Option.map_eq_some_iff.1 hv
    obtain ⟨h1,h2⟩:=uN hk w
    rw [had]
    simp [asAddr,loadVar,h1,h2,loadCells,run_loadCellsFrom k 0 #[] l hl]
   ·cases hv
  ·rename_i hk
   simp only [Option.some.injEq] at hr;subst hr
   simp only [aHd] at hv
   split at hv
   ·rename_i ad had
    rw [had]
    simp [asAddr,loadVar,tW hk w,load,Sem.run,hv]
   ·cases hv
  ·cases hr
theorem aMh {fn:Func} {n:Nat} {rs:List RV} {v:Value} {a:Act} {ρ:Env} {w:World} (hr:aFd P fn n=some rs) (hrep:Rep n a ρ) (hv:aCu ρ w rs=some v):(results fn a.tmps).run P w=.ok v w:=by
 have key:∀(l:List ResultVar) (ts:List RV) (vs:List Value),aZ6 P n l=some ts→aEa ρ w ts=some vs→
   (l.mapM (m:=Sem) fun|.tmp t=>pure (a.tmps.getD t undef)|.cell b t=>do loadVar t (←asAddr (a.tmps.getD b undef))).run P w=.ok vs w:=by
  intro l
  induction l with
  |nil=>intro ts vs h1 h2;simp only [aZ6,Option.some.injEq] at h1;subst h1;simp only [aEa,Option.some.injEq] at h2;subst h2;rfl
  |cons x l ih=>
   intro ts vs h1 h2
   simp only [aZ6,Option.bind_eq_some_iff,Option.map_eq_some_iff] at h1
   obtain ⟨r,hr1,rs1,hrs,rfl⟩:=h1
   simp only [aEa,Option.bind_eq_some_iff,Option.map_eq_some_iff] at h2
   obtain ⟨v1,hv1,vs1,hvs,rfl⟩:=h2
   rw [List.mapM_cons]
   have h3:=bQr hr1 hrep hv1
   simp only [Sem.run_bind] at h3 ⊢
   cases x with
   |tmp t=>simp only at h3 ⊢;rw [h3];simp only [Result.andThen_ok,ih rs1 vs1 hrs hvs,Sem.run_pure]
   |cell b t=>simp only [Sem.run_bind] at h3 ⊢;rw [h3];simp only [Result.andThen_ok,ih rs1 vs1 hrs hvs,Sem.run_pure]
 unfold aFd at hr
 obtain ⟨vs,hvs,hout⟩:∃vs,aEa ρ w rs=some vs∧v=(if h:vs.toArray.size=1 then vs.toArray[0] else .tuple vs.toArray):=by
  match rs,hv with
  | [],hv=>simp only [aCu,aEa,Option.map_some,Option.some.injEq] at hv;exact ⟨[],rfl,by simp [←hv]⟩
  | [t],hv=>simp only [aCu] at hv;exact ⟨[v],by simp [aEa,hv],by simp⟩
  |t::u::r,hv=>
   simp only [aCu,Option.map_eq_some_iff] at hv
   obtain ⟨vs,hvs,rfl⟩:=hv
   refine ⟨vs,hvs,?_⟩
   have hl:vs.length≠1:=by
    simp only [aEa,Option.bind_eq_some_iff,Option.map_eq_some_iff] at hvs
    obtain ⟨_,_,_,⟨_,_,_,_,rfl⟩,rfl⟩:=hvs
    simp
   simp [hl]
 have h2:=key fn.results.toList rs vs hr hvs
 unfold results
 rw [Array.mapM_eq_mapM_toList]
 simp only [Sem.run_bind,Sem.run_map]
 refine (congrArg (fun r:Result (List Value)=>(r.andThen fun l w'=>(Result.ok l.toArray w')).andThen fun vs w'=>((pure (if h:vs.size=1 then vs[0] else .tuple vs):Sem Value)).run P w') h2).trans ?_
 simp only [Result.andThen_ok,Sem.run_pure,hout]
theorem jP [Quiet P] {f:FuncId} {fn:Func} {c:Code} {n:Nat} {rs:List RV} {args:List Value} {w:World} {R:Value→World→Prop} {kc:KC} (hmx:P.follows .mixedOrders=true) (hf:P.funcs[f]? =some fn) (hb:fn.body=some c) (hn:fn.ntmps=n) (hrs:aFd P fn n=some rs)
  (hk:eE P n c=kc) (ha:args.length≤n) (h:aP P kc (bG rs R) (jZ args) w):Spec P f args w R:=by
 subst hk
 have hrep:Rep n {tmps:=args.toArray++Array.replicate (fn.ntmps - args.toArray.size) undef,defers:= []} (jZ args):=by
  refine ⟨rfl,by simp [hn];omega,fun t ht=>?_⟩
  by_cases hlt:t<args.length
  ·simp [jZ,Array.getElem?_append,hlt]
  ·simp [jZ,Array.getElem?_append,hlt,hn]
   rw [Array.getElem?_replicate,if_pos (by omega)]
 refine calls_of_wp hf hb (Code.wp_mono ?_ (nV hmx c _ _ _ _ hrep h))
 rintro e a' w' ⟨ρ',hr',hk⟩
 cases e
 case normal=>obtain ⟨v,hv,hR⟩:=hk;exact ⟨hr'.defers,_,aMh hrs hr' hv,_,rfl,hR⟩
 case ret=>obtain ⟨v,hv,hR⟩:=hk;exact ⟨hr'.defers,_,aMh hrs hr' hv,_,rfl,hR⟩
 all_goals exact hk.elim
end
section
open Go
variable {P:Program}
structure Chg (l:List Nat) (w w':World):Prop where
 os:w'.os=w.os
 tape:w'.tape=w.tape
 output:w'.output=w.output
 size:w.heap.size≤w'.heap.size
 block:∀b,b<w.heap.size→b∉l→w'.heap[b]? =w.heap[b]?
def Ext (w w':World):Prop:=Chg [] w w'
theorem Chg.refl (l:List Nat) (w:World):Chg l w w:=⟨rfl,rfl,rfl,Nat.le_refl _,fun _ _ _=>rfl⟩
theorem Ext.refl (w:World):Ext w w:=Chg.refl [] w
theorem Chg.trans {l l':List Nat} {w w1 w2:World} (h:Chg l w w1) (h':Chg l' w1 w2):Chg (l++l') w w2:=
 ⟨h'.os.trans h.os,h'.tape.trans h.tape,h'.output.trans h.output,nTr h.size h'.size,fun b hb hn=>by
  rw [List.mem_append,not_or] at hn
  exact (h'.block b (nLt hb h.size) hn.2).trans (h.block b hb hn.1)⟩
theorem Chg.mono {l l':List Nat} {w w':World} (h:Chg l w w') (hl:∀b∈l,b∈l'∨w.heap.size≤b):Chg l' w w':=
 ⟨h.os,h.tape,h.output,h.size,fun b hb hn=>h.block b hb fun hm=>by
  rcases hl b hm with h1|h1
  ·exact hn h1
  ·omega⟩
theorem Ext.trans {w w1 w2:World} (h:Ext w w1) (h':Ext w1 w2):Ext w w2:=Chg.trans h h'
theorem Chg.ext {l:List Nat} {w w1 w2:World} (h:Chg l w w1) (h':Ext w1 w2):Chg l w w2:=by simpa using Chg.trans h h'
theorem Ext.chg {l:List Nat} {w w1 w2:World} (h:Ext w w1) (h':Chg l w1 w2):Chg l w w2:=Chg.trans h h'
theorem Ext.drew (w:World):Ext w w.drew:=⟨rfl,rfl,rfl,Nat.le_refl _,fun _ _ _=>rfl⟩
theorem Ext.alloc (w:World) (o:Obj):Ext w (w.alloc o):=⟨rfl,rfl,rfl,by simp,fun b hb _=>by show (w.heap.push o)[b]? =_;rw [Array.getElem?_push,if_neg (by omega)]⟩
theorem Ext.size {w w':World} (h:Ext w w'):w.heap.size≤w'.heap.size:=Chg.size h
theorem Ext.below {w w':World} (h:Ext w w'):RowKit.Below w.heap.size w w':=⟨h.os,h.tape,h.output,Chg.size h,fun k hk=>Chg.block h k hk (by simp)⟩
theorem Chg.setObj (w:World) (r:Nat) (o:Obj):Chg [r] w (eG w r o):=
 ⟨rfl,rfl,rfl,by simp [eG],fun b _ hn=>by
  show (w.heap.setIfInBounds r o)[b]? =_
  rw [Array.getElem?_setIfInBounds_ne (by simp at hn;omega)]⟩
theorem Chg.setCell (w:World) (a:Addr) (v:Value):Chg [a.block] w (w.setCell a v):=
 ⟨rfl,rfl,rfl,by simp,fun b _ hn=>by
  show (w.heap.modify a.block _)[b]? =_
  rw [Array.getElem?_modify,if_neg (by simp at hn;omega)]⟩
theorem Ext.grown {w w':World} (h:Ext w w') (e4:w.drawn≤w'.drawn):∃q os,w'=Sort.grow (w.drewN q) os:=by
 refine ⟨w'.drawn - w.drawn,w'.heap.extract w.heap.size w'.heap.size,?_⟩
 have hh:w'.heap=w.heap++w'.heap.extract w.heap.size w'.heap.size:=by
  apply Array.ext
  ·have:=h.size;simp;omega
  ·intro i h1 h2
   by_cases hi:i<w.heap.size
   ·have:=Chg.block h i hi (by simp)
    rw [Array.getElem?_eq_getElem h1,Array.getElem?_eq_getElem hi] at this
    rw [Array.getElem_append_left hi];simpa using this
   ·rw [Array.getElem_append_right (by omega)]
    simp only [Array.getElem_extract]
    congr 1;omega
 have e1:=Chg.os h;have e2:=Chg.tape h;have e3:=Chg.output h
 have e5:w'.drawn=w.drawn+(w'.drawn - w.drawn):=by omega
 generalize w'.heap.extract w.heap.size w'.heap.size=x at hh ⊢
 generalize w'.drawn - w.drawn=y at e5 ⊢
 cases w';cases w
 simp only at*
 subst hh e1 e2 e3 e5
 rfl
def At (w:World) (b:Nat) (o:Obj):Prop:=w.heap[b]? =some o
theorem At.lt {w:World} {b:Nat} {o:Obj} (h:At w b o):b<w.heap.size:=(Array.getElem?_eq_some_iff.1 h).1
theorem At.chg {l:List Nat} {w w':World} {b:Nat} {o:Obj} (hc:Chg l w w') (h:At w b o) (hb:b∉l):At w' b o:=(hc.block b h.lt hb).trans h
theorem At.ext {w w':World} {b:Nat} {o:Obj} (hc:Ext w w') (h:At w b o):At w' b o:=h.chg hc (by simp)
theorem At.new (w:World) (o:Obj):At (w.alloc o) w.heap.size o:=by show (w.heap.push o)[w.heap.size]? =_;simp
theorem At.setObj {w:World} {r:Nat} {o o':Obj} (h:At w r o):At (eG w r o') r o':=by
 show (w.heap.setIfInBounds r o')[r]? =_
 rw [Array.getElem?_setIfInBounds_self_of_lt h.lt]
theorem At.inj {w:World} {b:Nat} {o o':Obj} (h:At w b o) (h':At w b o'):o=o':=by unfold At at h h';rw [h] at h';injection h'
theorem At.ne {w:World} {b b':Nat} {o o':Obj} (h:At w b o) (h':At w b' o') (hne:o≠o'):b≠b':=fun e=>by subst e;exact hne (h.inj h')
def Row (w:World) (ad:Addr) (cs:List Value):Prop:=∀j v,cs[j]? =some v→w.cell? (ad.add j)=some v
theorem add_add (a:Addr) (i j:Nat):(a.add i).add j=a.add (i+j):=by
 unfold Addr.add
 by_cases hi:i=0<;>by_cases hj:j=0<;>simp [hi,hj,Nat.add_assoc]
theorem add_block (a:Addr) (n:Nat):(a.add n).block=a.block:=by unfold Addr.add;split<;>rfl
theorem cell_of_heap {w w':World} {a:Addr} (h:w'.heap[a.block]? =w.heap[a.block]?):w'.cell? a=w.cell? a:=by unfold World.cell?;rw [h]
theorem bGs {w:World} {a:Addr} {v:Value} (h:w.cell? a=some v):a.block<w.heap.size:=by
 unfold World.cell? at h
 rcases Nat.lt_or_ge a.block w.heap.size with h1|h1
 ·exact h1
 ·rw [Array.getElem?_eq_none h1] at h;cases h
theorem Row.chg {l:List Nat} {w w':World} {ad:Addr} {cs:List Value} (hc:Chg l w w') (h:Row w ad cs) (hb:ad.block∉l):Row w' ad cs:=fun j v hj=>by
 have h1:=h j v hj
 have h2:=bGs h1
 rw [add_block] at h2
 rw [cell_of_heap (w:=w) (by rw [add_block];exact hc.block _ h2 hb)];exact h1
theorem Row.ext {w w':World} {ad:Addr} {cs:List Value} (hc:Ext w w') (h:Row w ad cs):Row w' ad cs:=h.chg hc (by simp)
theorem Row.of_at {w:World} {b:Nat} {cs:List Value} {t:TypeId} {f:Nat × Nat} (h:At w b (.cells cs.toArray t f)):Row w ⟨b,0,none⟩ cs:=fun j v hj=>by
 unfold At at h
 have:(Addr.add ⟨b,0,none⟩ j)=⟨b,j,none⟩:=by unfold Addr.add;split<;>simp_all
 rw [this]
 simp [World.cell?,h,hj]
theorem Row.c0 {w:World} {ad:Addr} {cs:List Value} {v:Value} (h:Row w ad cs) (hv:cs[0]? =some v):w.cell? ad=some v:=by have:=h 0 v hv;rwa [add_zero] at this
theorem Row.c1 {w:World} {ad:Addr} {cs:List Value} {o:Nat} {v:Value} (h:Row w ad cs) (hv:cs[o]? =some v):w.cell? (ad.add o)=some v:=h o v hv
theorem Row.c2 {w:World} {ad:Addr} {cs:List Value} {o p:Nat} {v:Value} (h:Row w ad cs) (hv:cs[o+p]? =some v):w.cell? ((ad.add o).add p)=some v:=by rw [add_add];exact h _ v hv
theorem Row.c3 {w:World} {ad:Addr} {cs:List Value} {o p q:Nat} {v:Value} (h:Row w ad cs) (hv:cs[o+(p+q)]? =some v):w.cell? (((ad.add o).add p).add q)=some v:=by rw [add_add,add_add];exact h _ v hv
theorem Row.rd {w:World} {ad:Addr} {cs:List Value} (h:Row w ad cs):∀(n i:Nat),i+n≤cs.length→rdCells w ad i n=some ((cs.drop i).take n)
 |0,i,_=>by simp [rdCells]
 |n+1,i,hn=>by
  have hlt:i<cs.length:=by omega
  have h1:=h i _ (List.getElem?_eq_getElem hlt)
  simp only [rdCells,h1,Option.bind_some,h.rd n (i+1) (by omega),Option.map_some]
  rw [List.drop_eq_getElem_cons hlt,List.take_succ_cons]
theorem aZ3 {w:World} {ad:Addr} {o:Nat}:∀(n i:Nat),rdCells w (ad.add o) i n=rdCells w ad (o+i) n
 |0,i=>rfl
 |n+1,i=>by simp only [rdCells,add_add,aZ3 n (i+1),Nat.add_assoc]
theorem Row.r0 {w:World} {ad:Addr} {cs l:List Value} {n:Nat} (h:Row w ad cs) (hn:n≤cs.length) (hl:cs.take n=l):rdCells w ad 0 n=some l:=by rw [h.rd n 0 (by omega),←hl];simp
theorem Row.r1 {w:World} {ad:Addr} {cs l:List Value} {o n:Nat} (h:Row w ad cs) (hn:o+n≤cs.length) (hl:(cs.drop o).take n=l):rdCells w (ad.add o) 0 n=some l:=by rw [aZ3,h.rd n (o+0) (by omega),←hl];rfl
theorem Row.r2 {w:World} {ad:Addr} {cs l:List Value} {o p n:Nat} (h:Row w ad cs) (hn:o+p+n≤cs.length) (hl:(cs.drop (o+p)).take n=l):rdCells w ((ad.add o).add p) 0 n=some l:=by rw [add_add];exact h.r1 hn hl
def Sl (w:World) (k:Nat) (v:Value) (n:Nat) (cs:List Value):Prop:=
 cs.length=n*k∧∃base cap,v=.slice base n cap∧n≤cap∧(0<cs.length→∃a,base=some a∧Row w a cs)
theorem Sl.chg {l:List Nat} {w w':World} {k n:Nat} {v:Value} {cs:List Value} (hc:Chg l w w') (h:Sl w k v n cs) (hb:∀a m c,v=.slice (some a) m c→a.block∉l):Sl w' k v n cs:=by
 obtain ⟨h1,base,cap,hv,hnc,h2⟩:=h
 refine ⟨h1,base,cap,hv,hnc,fun hp=>?_⟩
 obtain ⟨a,ha,hr⟩:=h2 hp
 exact ⟨a,ha,hr.chg hc (hb a _ _ (by rw [hv,ha]))⟩
theorem Sl.ext {w w':World} {k n:Nat} {v:Value} {cs:List Value} (hc:Ext w w') (h:Sl w k v n cs):Sl w' k v n cs:=h.chg hc (by simp)
theorem Sl.nil (w:World) (k:Nat):Sl w k (.slice none 0 0) 0 []:=⟨by simp,_,_,rfl,Nat.le_refl _,fun h=>by simp at h⟩
theorem Sl.cells {w:World} {k n:Nat} {v:Value} {cs:List Value} (h:Sl w k v n cs):dK w k v=some (n,cs):=by
 obtain ⟨h1,base,cap,rfl,_,h2⟩:=h
 by_cases hp:0<cs.length
 ·obtain ⟨a,rfl,hr⟩:=h2 hp
  have:=hr.rd (n*k) 0 (by omega)
  simp only [dK,this,Option.map_some,List.drop_zero]
  rw [←h1,List.take_length]
 ·have hc:cs= []:=List.length_eq_zero_iff.1 (by omega)
  subst hc
  have h0:n*k=0:=by simpa using h1.symm
  cases base with
  |none=>rfl
  |some a=>simp [dK,h0,rdCells]
theorem Sl.at_ {w:World} {k n:Nat} {v:Value} {cs:List Value} (h:Sl w k v n cs) (hk:0<k) {i:Nat} (hi:i<n):∃a cap,v=.slice (some a) n cap∧Row w (a.add (i*k)) ((cs.drop (i*k)).take k):=by
 obtain ⟨h1,base,cap,rfl,_,h2⟩:=h
 have hik:i*k+k≤n*k:=by have:=Nat.mul_le_mul_right k (show i+1≤n from hi);rw [Nat.add_mul,Nat.one_mul] at this;exact this
 obtain ⟨a,rfl,hr⟩:=h2 (by omega)
 refine ⟨a,cap,rfl,fun j u hj=>?_⟩
 rw [add_add]
 refine hr _ u ?_
 have hjk:j<k:=by
  rcases Nat.lt_or_ge j k with h|h
  ·exact h
  ·rw [List.getElem?_eq_none (by simp;omega)] at hj;cases hj
 rw [List.getElem?_take,if_pos hjk,List.getElem?_drop] at hj
 exact hj
section
variable {d:Option Tmp} {r:KR} {K:Env→World→Prop} {ρ:Env} {w:World}
theorem aLu (h:K ρ w):aF P .nil K ρ w:=h
theorem fD {a b:KR} (h1:aF P a K ρ w) (h2:aF P b K ρ w):aF P (.both a b) K ρ w:=⟨h1,h2⟩
theorem bGh {a b:KR} (h:aF P a (aF P b K) ρ w):aF P (.join a b) K ρ w:=h
theorem bSv {o:KOp} {g:Tmp × Bool} (h:kT ρ (some g)=true) (k:aF P (.cons ⟨d,o,none⟩ r) K ρ w):aF P (.cons ⟨d,o,some g⟩ r) K ρ w:=by
 simp only [aF,h,if_true]
 simpa [aF,kT] using k
theorem bLo {o:KOp} {g:Tmp × Bool} (h:kT ρ (some g)=false) (k:aF P r K (put ρ d undef) w):aF P (.cons ⟨d,o,some g⟩ r) K ρ w:=by
 simp only [aF,h,Bool.false_eq_true,if_false];exact k
theorem aDu {t:Tmp} {v:Value} (h:ρ t=v):upd ρ t v=ρ:=by
 funext u;unfold upd;split
 ·subst_vars;rfl
 ·rfl
theorem sA {o:KOp} {t:Tmp} {b:Bool} {p:Prop} [Decidable p] (h:ρ t=.bool (decide p)) (h1:p→aF P (.cons ⟨d,o,some (t,b)⟩ r) K (upd ρ t (.bool true)) w) (h2:¬p→aF P (.cons ⟨d,o,some (t,b)⟩ r) K (upd ρ t (.bool false)) w):aF P (.cons ⟨d,o,some (t,b)⟩ r) K ρ w:=by
 by_cases hp:p
 ·have:=h1 hp;rwa [aDu (by rw [h];simp [hp])] at this
 ·have:=h2 hp;rwa [aDu (by rw [h];simp [hp])] at this
theorem aW0 {o:KOp} {t:Tmp} {b c:Bool} (h:ρ t=.bool c) (h1:c=true→aF P (.cons ⟨d,o,some (t,b)⟩ r) K (upd ρ t (.bool true)) w) (h2:c=false→aF P (.cons ⟨d,o,some (t,b)⟩ r) K (upd ρ t (.bool false)) w):aF P (.cons ⟨d,o,some (t,b)⟩ r) K ρ w:=by
 cases hc:c
 ·have:=h2 hc;rwa [aDu (by rw [h,hc])] at this
 ·have:=h1 hc;rwa [aDu (by rw [h,hc])] at this
theorem gV {o:KOp} (h:o.wp P ρ w fun v w'=>aF P r K (put ρ d v) w'):aF P (.cons ⟨d,o,none⟩ r) K ρ w:=by simpa [aF,kT] using h
theorem qE {o:KOp} {k:Value→World→Prop} {v:Value} (hs:o.isStill=true) (h:o.rd ρ w=some v) (hk:k v w):o.wp P ρ w k:=by
 cases o<;>first|exact ⟨v,h,hk⟩|(simp [KOp.isStill,KOp.isFix] at hs;done)
theorem bSn {f:FuncId} {F:List Value→Option Value} {as:List Operand} {v:Value} (h:F (as.map (ev ρ))=some v) (k:aF P r K (put ρ d v) w):aF P (.cons ⟨d,.pcall f F as,none⟩ r) K ρ w:=gV (qE rfl h k)
theorem dH {o:KOp} {v:Value} (hs:o.isFix=true) (h:o.fix ρ=some v) (k:aF P r K (put ρ d v) w):aF P (.cons ⟨d,o,none⟩ r) K ρ w:=
 gV (qE (vS hs) (by rw [KOp.rd_fix hs];exact h) k)
theorem bFp {x:Operand} (k:aF P r K (put ρ d (ev ρ x)) w):aF P (.cons ⟨d,.move x,none⟩ r) K ρ w:=dH rfl rfl k
theorem bRn {x y:Operand} {a b:Int} (hx:ev ρ x=.int .i64 a) (hy:ev ρ y=.int .i64 b) (hr: -9223372036854775808≤a+b∧a+b≤9223372036854775807) (k:aF P r K (put ρ d (.int .i64 (a+b))) w):aF P (.cons ⟨d,.bin .add x y,none⟩ r) K ρ w:=
 dH rfl (by simp [KOp.fix,hx,hy,bZ,dY,dS,IntWalk.i64_in _ hr]) k
theorem bLg {x y:Operand} {a b:Int} (hx:ev ρ x=.int .i64 a) (hy:ev ρ y=.int .i64 b) (hr: -9223372036854775808≤a - b∧a - b≤9223372036854775807) (k:aF P r K (put ρ d (.int .i64 (a - b))) w):aF P (.cons ⟨d,.bin .sub x y,none⟩ r) K ρ w:=
 dH rfl (by simp [KOp.fix,hx,hy,bZ,dY,dS,IntWalk.i64_in _ hr]) k
theorem tH {x y:Operand} {a b:Int} (hx:ev ρ x=.int .i64 a) (hy:ev ρ y=.int .i64 b) (hr: -9223372036854775808≤a*b∧a*b≤9223372036854775807) (k:aF P r K (put ρ d (.int .i64 (a*b))) w):aF P (.cons ⟨d,.bin .mul x y,none⟩ r) K ρ w:=
 dH rfl (by simp [KOp.fix,hx,hy,bZ,dY,dS,IntWalk.i64_in _ hr]) k
theorem aQf {size:Nat} {x i:Operand} {a:Addr} {ln cap:Nat} {kd:IntKind} {n:Int} (hx:ev ρ x=.slice (some a) ln cap) (hi:ev ρ i=.int kd n) (hr:0≤n∧n<(ln:Int)) (k:aF P r K (put ρ d (.pointer (some (a.add (n.toNat*size))))) w):aF P (.cons ⟨d,.indexAddr size x i,none⟩ r) K ρ w:=
 dH rfl (by simp [KOp.fix,hx,hi,hr]) k
theorem bOz {size:Nat} {x i:Operand} {v:Value} {cs:List Value} {ln:Nat} {kd:IntKind} {n:Nat} (hx:ev ρ x=v) (hi:ev ρ i=.int kd (n:Nat)) (hs:Sl w size v ln cs) (hk:0<size) (hr:n<ln) (k:∀ad,Row w ad ((cs.drop (n*size)).take size)→aF P r K (put ρ d (.pointer (some ad))) w):aF P (.cons ⟨d,.indexAddr size x i,none⟩ r) K ρ w:=by
 obtain ⟨a,cap,rfl,hrow⟩:=hs.at_ hk hr
 exact dH rfl (by simp [KOp.fix,hx,hi,hr]) (k _ hrow)
theorem aOw {x:Operand} {ad:Addr} {v:Value} (hx:ev ρ x=.pointer (some ad)) (h:w.cell? ad=some v) (k:aF P r K (put ρ d v) w):aF P (.cons ⟨d,.load x,none⟩ r) K ρ w:=
 gV (qE rfl (by simp [KOp.rd,hx,h]) k)
theorem aRx {n:Nat} {x:Operand} {ad:Addr} {l:List Value} (hx:ev ρ x=.pointer (some ad)) (h:rdCells w ad 0 n=some l) (k:aF P r K (put ρ d (.agg l.toArray)) w):aF P (.cons ⟨d,.loadN n x,none⟩ r) K ρ w:=
 gV (qE rfl (by simp [KOp.rd,hx,h]) k)
theorem bRc {x:Operand} {ad:Addr} {cs:List Value} {v:Value} (hx:ev ρ x=.pointer (some ad)) (h:Row w ad cs) (hv:cs[0]? =some v) (k:aF P r K (put ρ d v) w):aF P (.cons ⟨d,.load x,none⟩ r) K ρ w:=aOw hx (h.c0 hv) k
theorem bLb {x:Operand} {ad:Addr} {o:Nat} {cs:List Value} {v:Value} (hx:ev ρ x=.pointer (some (ad.add o))) (h:Row w ad cs) (hv:cs[o]? =some v) (k:aF P r K (put ρ d v) w):aF P (.cons ⟨d,.load x,none⟩ r) K ρ w:=aOw hx (h.c1 hv) k
theorem bQz {x:Operand} {ad:Addr} {o p:Nat} {cs:List Value} {v:Value} (hx:ev ρ x=.pointer (some ((ad.add o).add p))) (h:Row w ad cs) (hv:cs[o+p]? =some v) (k:aF P r K (put ρ d v) w):aF P (.cons ⟨d,.load x,none⟩ r) K ρ w:=aOw hx (h.c2 hv) k
theorem bRl {x:Operand} {ad:Addr} {o p q:Nat} {cs:List Value} {v:Value} (hx:ev ρ x=.pointer (some (((ad.add o).add p).add q))) (h:Row w ad cs) (hv:cs[o+(p+q)]? =some v) (k:aF P r K (put ρ d v) w):aF P (.cons ⟨d,.load x,none⟩ r) K ρ w:=aOw hx (h.c3 hv) k
theorem vR {n:Nat} {x:Operand} {ad:Addr} {cs l:List Value} (hx:ev ρ x=.pointer (some ad)) (h:Row w ad cs) (hn:n≤cs.length) (hl:cs.take n=l) (k:aF P r K (put ρ d (.agg l.toArray)) w):aF P (.cons ⟨d,.loadN n x,none⟩ r) K ρ w:=aRx hx (h.r0 hn hl) k
theorem bRf {n:Nat} {x:Operand} {ad:Addr} {o:Nat} {cs l:List Value} (hx:ev ρ x=.pointer (some (ad.add o))) (h:Row w ad cs) (hn:o+n≤cs.length) (hl:(cs.drop o).take n=l) (k:aF P r K (put ρ d (.agg l.toArray)) w):aF P (.cons ⟨d,.loadN n x,none⟩ r) K ρ w:=aRx hx (h.r1 hn hl) k
theorem bRw {n:Nat} {x:Operand} {ad:Addr} {o p:Nat} {cs l:List Value} (hx:ev ρ x=.pointer (some ((ad.add o).add p))) (h:Row w ad cs) (hn:o+p+n≤cs.length) (hl:(cs.drop (o+p)).take n=l) (k:aF P r K (put ρ d (.agg l.toArray)) w):aF P (.cons ⟨d,.loadN n x,none⟩ r) K ρ w:=aRx hx (h.r2 hn hl) k
theorem qN {t:TypeId} {x:Operand} {v:Value} {cs:List Value} (hx:ev ρ x=v) (hc:v.cells=cs.toArray) (k:∀b w',Ext w w'→At w' b (.cells cs.toArray t)→Row w' ⟨b,0,none⟩ cs→w.heap.size≤b→aF P r K (put ρ d (.pointer (some ⟨b,0,none⟩))) w'):aF P (.cons ⟨d,.box t x,none⟩ r) K ρ w:=
 gV (by subst hx;have h:=At.new w (.cells cs.toArray t);rw [←hc] at h;exact k _ _ (Ext.alloc w _) (by rw [←hc];exact h) (Row.of_at (by rw [←hc];exact h)) (Nat.le_refl _))
theorem aBb {t:TypeId} {z:List Value} (k:∀b w',Ext w w'→At w' b (.cells z.toArray t)→w.heap.size≤b→aF P r K (put ρ d (.pointer (some ⟨b,0,none⟩))) w'):aF P (.cons ⟨d,.alloc t z,none⟩ r) K ρ w:=
 gV (k _ _ (Ext.alloc w _) (At.new w _) (Nat.le_refl _))
theorem iB {f:FuncId} {args:List Operand} {vs:List Value} {R:Value→World→Prop} (ha:args.map (ev ρ)=vs) (h:Spec P f vs w R) (k:∀v w',R v w'→aF P r K (put ρ d v) w'):aF P (.cons ⟨d,.call f args,none⟩ r) K ρ w:=
 gV (by subst ha;exact h.mono fun e w' ⟨v,hv,hR⟩=>⟨v,hv,k v w' hR⟩)
theorem fI {x:Operand} {args:List Operand} {f:FuncId} {first cap:Array Value} {vs:List Value} {R:Value→World→Prop} (hx:ev ρ x=.func (.func f) first cap) (hb:cK P f=true) (ha:first.toList++args.map (ev ρ)++cap.toList=vs) (h:Spec P f vs w R) (k:∀v w',R v w'→aF P r K (put ρ d v) w'):aF P (.cons ⟨d,.callV x args,none⟩ r) K ρ w:=
 gV ⟨f,first,cap,hx,hb,by
  have:first++(args.map (ev ρ)).toArray++cap=vs.toArray:=by apply Array.ext';simp [←ha]
  rw [this];exact h.mono fun e w' ⟨v,hv,hR⟩=>⟨v,hv,k v w' hR⟩⟩
end
def aZb (P:Program) (b:KC) (K:Exit→Env→World→Prop):Exit→Env→World→Prop
 |.normal,ρ,w=>aP P b K ρ w
 |e,ρ,w=>K e ρ w
def aE6 (id:Nat) (K:Exit→Env→World→Prop):Exit→Env→World→Prop
 |.exit id',ρ,w=>if id'=id then K .normal ρ w else K (.exit id') ρ w
 |e,ρ,w=>K e ρ w
def aGq (N:Env→World→Prop) (K:Exit→Env→World→Prop):Exit→Env→World→Prop
 |.normal,ρ,w=>N ρ w
 |e,ρ,w=>K e ρ w
section
variable {K:Exit→Env→World→Prop} {ρ:Env} {w:World} {a b:KC} {r:KR} {x:Operand}
theorem lY {K K':Env→World→Prop} (hk:∀ρ w,K ρ w→K' ρ w):∀(r:KR) {ρ w},aF P r K ρ w→aF P r K' ρ w
 |.nil,_,_,h=>hk _ _ h
 |.both a b,_,_,h=>⟨lY hk a h.1,lY hk b h.2⟩
 |.join a b,_,_,h=>lY (fun _ _ hh=>lY hk b hh) a h
 |.cons i r,ρ,w,h=>by
  simp only [aF] at h ⊢
  split
  ·rename_i hw;rw [if_pos hw] at h;exact aAk (fun v w' hv=>lY hk r hv) h
  ·rename_i hw;rw [if_neg hw] at h;exact lY hk r h
theorem hZ:∀(c:KC) {K K':Exit→Env→World→Prop},(∀e ρ w,K e ρ w→K' e ρ w)→∀{ρ w},aP P c K ρ w→aP P c K' ρ w
 |.skip,_,_,hk,_,_,h=>hk _ _ _ h
 |.reg false r,_,_,hk,_,_,h=>lY (hk .normal) r h
 |.reg true r,_,_,hk,_,_,h=>lY (hk .normal) r h
 |.anyR l,_,_,hk,_,_,⟨I,h0,hs,he⟩=>⟨I,h0,hs,fun S ρ w ha hI=>hk _ _ _ (he S ρ w ha hI)⟩
 |.seq a b,_,_,hk,_,_,h=>hZ a (fun e ρ w he=>by cases e<;>first|exact hZ b hk he|exact hk _ _ _ he) h
 |.cond x a b,_,_,hk,_,_,⟨t,ht,h1,h2⟩=>⟨t,ht,fun e=>hZ a hk (h1 e),fun e=>hZ b hk (h2 e)⟩
 |.block id c,_,_,hk,_,_,h=>hZ c (fun e ρ w he=>by
   cases e with
   |exit id'=>
    simp only at he ⊢
    split
    ·rename_i hq;rw [if_pos hq] at he;exact hk _ _ _ he
    ·rename_i hq;rw [if_neg hq] at he;exact hk _ _ _ he
   |_=>exact hk _ _ _ he) h
 |.loop c,_,_,hk,_,_,⟨I,μ,h0,hr⟩=>⟨I,μ,h0,fun ρ w hI=>hZ c (fun e ρ w he=>by cases e<;>first|exact he|exact hk _ _ _ he) (hr ρ w hI)⟩
 |.exit id,_,_,hk,_,_,h=>hk _ _ _ h
 |.ret,_,_,hk,_,_,h=>hk _ _ _ h
 |.raw n c,_,_,hk,_,_,h=>fun a hr=>Code.wp_mono (fun e a w ⟨ρ',h1,h2⟩=>⟨ρ',h1,hk _ _ _ h2⟩) (h a hr)
theorem bP9 (h:aP P a (aZb P b K) ρ w):aP P (.seq a b) K ρ w:=hZ a (fun e ρ w he=>by cases e<;>exact he) h
theorem bPt {id:Nat} (h:aP P a (aE6 id K) ρ w):aP P (.block id a) K ρ w:=hZ a (fun e ρ w he=>by cases e<;>exact he) h
theorem bRs (I:Env→World→Prop) (μ:Env→World→Nat) (h0:I ρ w) (h:∀ρ w,I ρ w→aP P a (aGq (fun ρ' w'=>I ρ' w'∧μ ρ' w'<μ ρ w) K) ρ w):aP P (.loop a) K ρ w:=by
 exact ⟨I,μ,h0,fun ρ w hI=>hZ a (fun e ρ w he=>by cases e<;>exact he) (h ρ w hI)⟩
theorem bR5 (J:Env→World→Prop) (h:aP P a (aGq J K) ρ w) (h2:∀ρ w,J ρ w→aP P b K ρ w):aP P (.seq a b) K ρ w:=
 bP9 (hZ a (fun e ρ w he=>by cases e<;>first|exact h2 _ _ he|exact he) h)
theorem bQs (h:aP P b K ρ w):aZb P b K .normal ρ w:=h
theorem bCv (h:K .ret ρ w):aZb P b K .ret ρ w:=h
theorem aYi {id:Nat} (h:K (.exit id) ρ w):aZb P b K (.exit id) ρ w:=h
theorem bNt {id:Nat} (h:K .normal ρ w):aE6 id K .normal ρ w:=h
theorem aY2 {id:Nat} (h:K .ret ρ w):aE6 id K .ret ρ w:=h
theorem aXe {id:Nat} (h:K .normal ρ w):aE6 id K (.exit id) ρ w:=by simp only [aE6,if_true];exact h
theorem aTd {id id':Nat} (hne:id'≠id) (h:K (.exit id') ρ w):aE6 id K (.exit id') ρ w:=by simp only [aE6,if_neg hne];exact h
theorem bR1 {N:Env→World→Prop} (h:N ρ w):aGq N K .normal ρ w:=h
theorem bD0 {N:Env→World→Prop} (h:K .ret ρ w):aGq N K .ret ρ w:=h
theorem bAn {N:Env→World→Prop} {id:Nat} (h:K (.exit id) ρ w):aGq N K (.exit id) ρ w:=h
theorem aA {rs:List RV} {R:Value→World→Prop} {v:Value} (hv:aCu ρ w rs=some v) (h:R v w):bG rs R .ret ρ w:=⟨v,hv,h⟩
theorem bSh {rs:List RV} {R:Value→World→Prop} {v:Value} (hv:aCu ρ w rs=some v) (h:R v w):bG rs R .normal ρ w:=⟨v,hv,h⟩
theorem bRy (h:K .normal ρ w):aP P .skip K ρ w:=h
theorem bSi (h:K .ret ρ w):aP P .ret K ρ w:=h
theorem bQ2 {id:Nat} (h:K (.exit id) ρ w):aP P (.exit id) K ρ w:=h
theorem bSe (h:aF P r (K .normal) ρ w):aP P (.reg false r) K ρ w:=h
theorem bQw (h:∀w',Ext w w'→aF P r (K .normal) ρ w'):aP P (.reg true r) K ρ w:=h _ (Ext.drew w)
def aKu (P:Program) (I:(Nat→Bool)→Env→World→Prop):Nat→List (KI × List Nat)→Prop
 |_, []=>True
 |i,(k,ds)::l=>(∀(S:Nat→Bool) (ρ:Env) (w:World),S i=false→(∀d∈ds,S d=true)→I S ρ w→nK P I S i k ρ w)∧aKu P I (i+1) l
theorem bGg {I:(Nat→Bool)→Env→World→Prop}:∀(l:List (KI × List Nat)) (k:Nat),aKu P I k l→∀(i:Nat) (h:i<l.length) (S:Nat→Bool) (ρ:Env) (w:World),S (k+i)=false→(∀d∈(l[i]).2,S d=true)→I S ρ w→nK P I S (k+i) (l[i]).1 ρ w
 | [],_,_,i,h=>absurd h (by simp)
 |(k0,ds)::l,k,he,i,h=>by
  cases i with
  |zero=>exact he.1
  |succ i=>
   have:=bGg l (k+1) he.2 i (by simpa using h)
   rw [show k+(i+1)=k+1+i by omega]
   exact this
theorem bQi {k:KI} {I:(Nat→Bool)→Env→World→Prop} {S:Nat→Bool} {i:Nat} (hg:k.guard=none) (h:k.op.wp P ρ w fun v w'=>I (wI S i) (put ρ k.dst v) w'):nK P I S i k ρ w:=by
 unfold nK;rw [hg];simpa [kT] using h
theorem bQk (h:aF P r (aP P b K) ρ w):aP P (.seq (.reg false r) b) K ρ w:=h
theorem bOc (h:∀w',Ext w w'→aF P r (aP P b K) ρ w'):aP P (.seq (.reg true r) b) K ρ w:=h _ (Ext.drew w)
theorem tI {p:Prop} [Decidable p] (hx:ev ρ x=.bool (decide p)) (h1:p→aP P a K ρ w) (h2:¬p→aP P b K ρ w):aP P (.cond x a b) K ρ w:=
 ⟨decide p,hx,fun h=>h1 (by simpa using h),fun h=>h2 (by simpa using h)⟩
theorem tZ {t:Bool} (hx:ev ρ x=.bool t) (h1:t=true→aP P a K ρ w) (h2:t=false→aP P b K ρ w):aP P (.cond x a b) K ρ w:=⟨t,hx,h1,h2⟩
theorem aO3 {p:Prop} [Decidable p] (hx:ev ρ x=.bool (!decide p)) (h1:¬p→aP P a K ρ w) (h2:p→aP P b K ρ w):aP P (.cond x a b) K ρ w:=
 ⟨_,hx,fun h=>h1 (by simpa using h),fun h=>h2 (by simpa using h)⟩
theorem bK7 (hx:ev ρ x=.bool true) (h:aP P a K ρ w):aP P (.cond x a b) K ρ w:=⟨true,hx,fun _=>h,fun h=>(by cases h)⟩
theorem wK (hx:ev ρ x=.bool false) (h:aP P b K ρ w):aP P (.cond x a b) K ρ w:=⟨false,hx,fun h=>(by cases h),fun _=>h⟩
end
attribute [irreducible] aZb aE6 aGq
end
section
open Go
variable {P:Program}
structure Enc (α:Type) where
 f:α→List Value
 k:Nat
 len:∀x,(f x).length=k
 pos:0<k
 one:∀x,∀v∈f x,v.oneCell'=true
variable {α:Type} {E:Enc α}
def Enc.flat (E:Enc α) (l:List α):List Value:=l.flatMap E.f
theorem Enc.flat_length (E:Enc α):∀(l:List α),(E.flat l).length=l.length*E.k
 | []=>by simp [Enc.flat]
 |x::l=>by
  have:=E.flat_length l
  simp only [Enc.flat,List.flatMap_cons,List.length_append,E.len,List.length_cons] at this ⊢
  rw [this,Nat.add_mul];omega
theorem Enc.flat_append (E:Enc α) (l l':List α):E.flat (l++l')=E.flat l++E.flat l':=by simp [Enc.flat]
theorem Enc.flat_at (E:Enc α):∀(l:List α) (i:Nat) (h:i<l.length),((E.flat l).drop (i*E.k)).take E.k=E.f l[i]
 |x::l,0,_=>by
  simp only [Enc.flat,List.flatMap_cons,Nat.zero_mul,List.drop_zero,List.getElem_cons_zero]
  rw [List.take_append_of_le_length (by rw [E.len];omega),tLe (by rw [E.len];omega)]
 |x::l,i+1,h=>by
  have hi:i<l.length:=by simpa using h
  have:=E.flat_at l i hi
  simp only [Enc.flat,List.flatMap_cons,List.getElem_cons_succ] at this ⊢
  rw [←this,List.drop_append,E.len,List.drop_eq_nil_of_le (by rw [E.len,Nat.add_mul];omega),List.nil_append]
  congr 2
  rw [Nat.add_mul];omega
theorem Enc.flat_one (E:Enc α) (l:List α):∀v∈E.flat l,v.oneCell'=true:=by
 intro v hv
 simp only [Enc.flat,List.mem_flatMap] at hv
 obtain ⟨x,_,hx⟩:=hv
 exact E.one x v hx
def SlE (E:Enc α) (w:World) (v:Value) (l:List α):Prop:=Sl w E.k v l.length (E.flat l)
theorem SlE.ext {w w':World} {v:Value} {l:List α} (hc:Ext w w') (h:SlE E w v l):SlE E w' v l:=Sl.ext hc h
theorem SlE.chg {s:List Nat} {w w':World} {v:Value} {l:List α} (hc:Chg s w w') (h:SlE E w v l) (hb:∀a m c,v=.slice (some a) m c→a.block∉s):SlE E w' v l:=Sl.chg hc h hb
theorem SlE.nil (w:World):SlE E w (.slice none 0 0) []:=Sl.nil w E.k
theorem SlE.form {w:World} {v:Value} {l:List α} (h:SlE E w v l):∃base cap,v=.slice base l.length cap:=by
 obtain ⟨_,base,cap,hv,_⟩:=h;exact ⟨base,cap,hv⟩
theorem SlE.cells {w:World} {v:Value} {l:List α} (h:SlE E w v l):dK w E.k v=some (l.length,E.flat l):=Sl.cells h
theorem SlE.cut {w:World} {base:Option Addr} {n cap:Nat} {l:List α} (h:SlE E w (.slice base n cap) l) {lo hi:Nat} (h1:lo≤hi) (h2:hi≤l.length) (c2:Nat) (hc2:hi - lo≤c2):
  SlE E w (.slice (if cap=lo then base else base.map fun ad:Addr=>ad.add (lo*E.k)) (hi - lo) c2) ((l.drop lo).take (hi - lo)):=by
 obtain ⟨hl,base',cap',hv,hnc,hr⟩:=h
 simp only [Value.slice.injEq] at hv
 obtain ⟨rfl,rfl,rfl⟩:=hv
 have hlen:((l.drop lo).take (hi - lo)).length=hi - lo:=by simp;omega
 refine ⟨by rw [E.flat_length],_,c2,by rw [hlen],by rw [hlen];exact hc2,fun hp=>?_⟩
 rw [E.flat_length,hlen] at hp
 have hlt:lo<hi:=by
  rcases Nat.lt_or_ge lo hi with h|h
  ·exact h
  ·rw [show hi - lo=0 by omega] at hp;simp at hp
 have hpos:0<(E.flat l).length:=by rw [E.flat_length];exact Nat.mul_pos (by omega) E.pos
 obtain ⟨a,rfl,hrow⟩:=hr hpos
 have key:∀c:Addr,c=a.add (lo*E.k)→Row w c (E.flat ((l.drop lo).take (hi - lo))):=by
  rintro _ rfl j v hj
  rw [add_add]
  refine hrow _ v ?_
  have e1:l=l.take lo++((l.drop lo).take (hi - lo)++l.drop hi):=by
   conv=>lhs;rw [←List.take_append_drop lo l,←List.take_append_drop (hi - lo) (l.drop lo),List.drop_drop,show lo+(hi - lo)=hi by omega]
  rw [e1,E.flat_append,E.flat_append,List.getElem?_append_right (by rw [E.flat_length];simp;rw [Nat.min_eq_left (by omega)];omega)]
  rw [E.flat_length]
  rw [show lo*E.k+j - (l.take lo).length*E.k=j by simp;rw [Nat.min_eq_left (by omega)];omega]
  rw [List.getElem?_append_left (List.getElem?_eq_some_iff.1 hj).1]
  exact hj
 rw [if_neg (by omega)]
 exact ⟨_,rfl,key _ rfl⟩
section
variable {d:Option Tmp} {r:KR} {K:Env→World→Prop} {ρ:Env} {w:World}
theorem aS {size:Nat} {x i:Operand} {v:Value} {l:List α} {kd:IntKind} {n:Nat} (hx:ev ρ x=v) (hi:ev ρ i=.int kd (n:Nat)) (hs:SlE E w v l) (hk:size=E.k) (hr:n<l.length) (k:∀ad,Row w ad (E.f l[n])→aF P r K (put ρ d (.pointer (some ad))) w):aF P (.cons ⟨d,.indexAddr size x i,none⟩ r) K ρ w:=by
 subst hk
 exact bOz hx hi hs E.pos hr fun ad hrow=>k ad (by rw [E.flat_at l n hr] at hrow;exact hrow)
theorem aY {x:Operand} {v:Value} {l:List α} (hx:ev ρ x=v) (hs:SlE E w v l) (k:aF P r K (put ρ d (.int .i64 (l.length:Nat))) w):aF P (.cons ⟨d,.len false x,none⟩ r) K ρ w:=by
 obtain ⟨base,cap,rfl⟩:=hs.form
 exact dH rfl (by simp [KOp.fix,hx]) k
end
def Own (E:Enc α) (t:TypeId) (B:Nat) (w:World) (v:Value) (l:List α):Prop:=
 (v=.slice none 0 0∧l= [])∨∃b cap junk,v=.slice (some ⟨b,0,none⟩) l.length cap∧B≤b∧At w b (.cells (E.flat l++junk).toArray t (0,0))∧(E.flat l++junk).length=cap*E.k
def aB:Value→List Nat
 |.slice (some a) _ _=> [a.block]
 |_=> []
theorem Own.nil (t:TypeId) (B:Nat) (w:World):Own E t B w (.slice none 0 0) []:=.inl ⟨rfl,rfl⟩
theorem Own.sl {t:TypeId} {B:Nat} {w:World} {v:Value} {l:List α} (h:Own E t B w v l):SlE E w v l:=by
 rcases h with ⟨rfl,rfl⟩|⟨b,cap,junk,rfl,_,hat,hlen⟩
 ·exact SlE.nil w
 ·have hle:l.length≤cap:=by
   rw [List.length_append,E.flat_length] at hlen
   have h1:l.length*E.k≤cap*E.k:=by omega
   exact Nat.le_of_mul_le_mul_right h1 E.pos
  refine ⟨by rw [E.flat_length],_,_,rfl,hle,fun _=>⟨_,rfl,fun j v hj=>?_⟩⟩
  exact Row.of_at hat j v (by rw [List.getElem?_append_left (List.getElem?_eq_some_iff.1 hj).1];exact hj)
theorem Own.chg {t:TypeId} {B:Nat} {s:List Nat} {w w':World} {v:Value} {l:List α} (hc:Chg s w w') (h:Own E t B w v l) (hb:∀b∈aB v,b∉s):Own E t B w' v l:=by
 rcases h with ⟨rfl,rfl⟩|⟨b,cap,junk,rfl,hB,hat,hl⟩
 ·exact Own.nil t B w'
 ·exact .inr ⟨b,cap,junk,rfl,hB,hat.chg hc (hb b (by simp [aB])),hl⟩
theorem Own.ext {t:TypeId} {B:Nat} {w w':World} {v:Value} {l:List α} (hc:Ext w w') (h:Own E t B w v l):Own E t B w' v l:=h.chg hc (by simp)
theorem Own.base {t:TypeId} {B:Nat} {w:World} {v:Value} {l:List α} (h:Own E t B w v l):∀b∈aB v,B≤b:=by
 rcases h with ⟨rfl,rfl⟩|⟨b,cap,junk,rfl,hB,hat,hl⟩<;>simp [aB]
 exact hB
theorem Own.lower {t:TypeId} {B B':Nat} {w:World} {v:Value} {l:List α} (h:Own E t B w v l) (hb:B'≤B):Own E t B' w v l:=by
 rcases h with h|⟨b,cap,junk,hv,hB,r⟩
 ·exact .inl h
 ·exact .inr ⟨b,cap,junk,hv,by omega,r⟩
theorem aCk {t:TypeId} {b:Nat}:∀(vs:List Value) (i o:Nat) (cur:List Value) (w:World),At w b (.cells cur.toArray t (0,0))→o+i+vs.length≤cur.length→
  At (kR w (Addr.add ⟨b,0,none⟩ o) i vs) b (.cells (cur.take (o+i)++vs++cur.drop (o+i+vs.length)).toArray t (0,0))∧Chg [b] w (kR w (Addr.add ⟨b,0,none⟩ o) i vs)
 | [],i,o,cur,w,h,_=>by simp only [kR,List.append_nil,List.length_nil,Nat.add_zero,List.take_append_drop];exact ⟨h,Chg.refl _ _⟩
 |v::vs,i,o,cur,w,h,hl=>by
  simp only [List.length_cons] at hl
  have ha:(Addr.add (Addr.add ⟨b,0,none⟩ o) i)=⟨b,o+i,none⟩:=by rw [add_add];unfold Addr.add;split<;>simp_all
  have h1:At (w.setCell (Addr.add (Addr.add ⟨b,0,none⟩ o) i) v) b (.cells (cur.set (o+i) v).toArray t (0,0)):=by
   unfold At at h ⊢
   rw [ha]
   simp [World.setCell,Array.getElem?_modify,h]
  have c1:Chg [b] w (w.setCell (Addr.add (Addr.add ⟨b,0,none⟩ o) i) v):=by have:=Chg.setCell w (Addr.add (Addr.add ⟨b,0,none⟩ o) i) v;rw [ha] at this ⊢;exact this
  obtain ⟨h2,c2⟩:=aCk vs (i+1) o (cur.set (o+i) v) _ h1 (by simp;omega)
  simp only [kR]
  refine ⟨?_,(c1.trans c2).mono (by simp)⟩
  have e:cur.take (o+i)++v::vs++cur.drop (o+i+(vs.length+1))=(cur.set (o+i) v).take (o+(i+1))++vs++(cur.set (o+i) v).drop (o+(i+1)+vs.length):=by
   rw [show o+i+(vs.length+1)=o+(i+1)+vs.length from by omega,List.drop_set_of_lt (by omega),show o+(i+1)=(o+i)+1 from by omega,List.take_succ_eq_append_getElem (by simp;omega)]
   simp only [List.take_set_of_le (Nat.le_refl _),List.getElem_set_self,List.append_assoc,List.cons_append,List.nil_append]
  simp only [List.length_cons]
  rw [e];exact h2
theorem aO5 {t:TypeId} {b o n:Nat} {cur:List Value} {w:World} (h:At w b (.cells cur.toArray t (0,0))) (hl:o+n≤cur.length):aUz w (Addr.add ⟨b,0,none⟩ o) 0 n:=by
 intro j _ hj
 have ha:(Addr.add (Addr.add ⟨b,0,none⟩ o) j)=⟨b,o+j,none⟩:=by rw [add_add];unfold Addr.add;split<;>simp_all
 rw [ha]
 unfold At at h
 refine ⟨?_,by simp [World.frozen?,h]⟩
 simp [World.cell?,h];omega
section
variable {d:Option Tmp} {r:KR} {K:Env→World→Prop} {ρ:Env} {w:World}
theorem bO {x y:Operand} {b o:Nat} {t:TypeId} {cur:List Value} {v:Value} (hx:ev ρ x=.pointer (some (Addr.add ⟨b,0,none⟩ o))) (hy:ev ρ y=v) (h1:v.oneCell'=true) (h:At w b (.cells cur.toArray t (0,0))) (hl:o<cur.length)
  (k:∀w',Chg [b] w w'→At w' b (.cells (cur.set o v).toArray t (0,0))→aF P r K (put ρ d undef) w'):aF P (.cons ⟨d,.store x y,none⟩ r) K ρ w:=by
 have hc:=aO5 (o:=o) (n:=1) h (by omega) 0 (Nat.le_refl _) (by omega)
 rw [add_zero] at hc
 have h2:=aCk [v] 0 o cur w h (by simp;omega)
 simp only [kR,add_zero,Nat.add_zero,List.length_singleton] at h2
 refine gV ⟨_,hx,by rw [hy];exact h1,hc.1,hc.2,?_⟩
 rw [hy]
 refine k _ h2.2 ?_
 have e:cur.take o++ [v]++cur.drop (o+1)=cur.set o v:=by rw [List.set_eq_take_append_cons_drop,if_pos hl];simp
 rw [←e];exact h2.1
theorem aU1 {x y:Operand} {b:Nat} {t:TypeId} {cur:List Value} {v:Value} (hx:ev ρ x=.pointer (some ⟨b,0,none⟩)) (hy:ev ρ y=v) (h1:v.oneCell'=true) (h:At w b (.cells cur.toArray t (0,0))) (hl:0<cur.length)
  (k:∀w',Chg [b] w w'→At w' b (.cells (cur.set 0 v).toArray t (0,0))→aF P r K (put ρ d undef) w'):aF P (.cons ⟨d,.store x y,none⟩ r) K ρ w:=
 bO (o:=0) (by rw [add_zero];exact hx) hy h1 h hl k
theorem aFw {n:Nat} {x y:Operand} {b o:Nat} {t:TypeId} {cur vs:List Value} (hx:ev ρ x=.pointer (some (Addr.add ⟨b,0,none⟩ o))) (hy:ev ρ y=.agg vs.toArray) (hn:vs.length=n) (h1:∀v∈vs,v.oneCell'=true) (h:At w b (.cells cur.toArray t (0,0))) (hl:o+n≤cur.length)
  (k:∀w',Chg [b] w w'→At w' b (.cells (cur.take o++vs++cur.drop (o+n)).toArray t (0,0))→aF P r K (put ρ d undef) w'):aF P (.cons ⟨d,.storeN n x y,none⟩ r) K ρ w:=by
 subst hn
 have h2:=aCk vs 0 o cur w h (by simpa using hl)
 simp only [Nat.add_zero] at h2
 exact gV ⟨_,_,hx,hy,by simp,by simpa using h1,aO5 h hl,k _ h2.2 h2.1⟩
theorem bX {n:Nat} {x y:Operand} {b:Nat} {t:TypeId} {cur vs:List Value} (hx:ev ρ x=.pointer (some ⟨b,0,none⟩)) (hy:ev ρ y=.agg vs.toArray) (hn:vs.length=n) (h1:∀v∈vs,v.oneCell'=true) (h:At w b (.cells cur.toArray t (0,0))) (hl:cur.length=n)
  (k:∀w',Chg [b] w w'→At w' b (.cells vs.toArray t (0,0))→aF P r K (put ρ d undef) w'):aF P (.cons ⟨d,.storeN n x y,none⟩ r) K ρ w:=
 aFw (o:=0) (by rw [add_zero];exact hx) hy hn h1 h (by omega) fun w' hc ha=>k w' hc (by
  have e:cur.take 0++vs++cur.drop (0+n)=vs:=by rw [List.drop_eq_nil_of_le (by omega)];simp
  rw [e] at ha;exact ha)
theorem gP {t:TypeId} {ln:Nat} {zs cs:List Value} {ps:List (Nat × Nat × Operand)} (hf:sF (ev ρ) zs ps=some cs) (k:∀b w',Ext w w'→At w' b (.cells cs.toArray t (0,0))→w.heap.size≤b→aF P r K (put ρ d (.slice (some ⟨b,0,none⟩) ln ln)) w'):aF P (.cons ⟨d,.buildSlice t ln zs ps,none⟩ r) K ρ w:=
 gV ⟨cs,hf,k _ _ (Ext.alloc w _) (At.new w _) (Nat.le_refl _)⟩
theorem kX {t:TypeId} {size bytes B:Nat} {zero:List Value} {x y:Operand} {v:Value} {l l2:List α} {n:Nat} {new:List Value} (hx:ev ρ x=v) (ho:Own E t B w v l) (hB:B≤w.heap.size) (hk:size=E.k) (hz:zero.length=E.k) (hy:dK w size (ev ρ y)=some (n,new)) (hnew:new=E.flat l2) (hn:n=l2.length) (hroom:(l.length+l2.length)*bytes≤2^47)
  (k:∀v' w',Own E t B w' v' (l++l2)→SlE E w' v l→Chg (aB v) w w'→(∀b∈aB v',b∈aB v∨w.heap.size≤b)→aF P r K (put ρ d v') w'):aF P (.cons ⟨d,.append t size bytes zero x y,none⟩ r) K ρ w:=by
 subst hk hnew hn
 refine gV ?_
 have hcap:∀need old,old<need→Builtin.nextslicecap need old≤2*need:=by
  intro need old ho
  have hg:∀rounds c,256≤c→c≤2*need→Builtin.growBy need rounds c≤2*need:=by
   intro rounds
   induction rounds with
   |zero=>intro c _ h;exact h
   |succ n ih=>
    intro c h1 h2
    simp only [Builtin.growBy]
    split
    ·exact h2
    ·exact ih _ (by omega) (by omega)
  unfold Builtin.nextslicecap
  split
  ·omega
  ·split
   ·omega
   ·exact hg 4 old (by omega) (by omega)
 rcases ho with ⟨rfl,rfl⟩|⟨b,cap,junk,rfl,hb,hat,hlen⟩
 ·refine ⟨none,0,0,l2.length,E.flat l2,hx,hy,fun hr=>?_,fun hr=>?_⟩
  ·have:l2= []:=List.length_eq_zero_iff.1 (by omega)
   subst this
   exact k _ _ (Own.nil t B w) (SlE.nil w) (Chg.refl _ _) (by simp [aB])
  ·refine ⟨[],rfl,?_,fun c hc=>?_⟩
   ·have:=hcap (0+l2.length) 0 hr
    have h3:Builtin.nextslicecap (0+l2.length) 0*bytes≤2*(0+l2.length)*bytes:=Nat.mul_le_mul_right _ this
    simp only [List.length_nil] at hroom
    rw [Nat.mul_assoc] at h3
    omega
   ·refine k _ _ (.inr ⟨w.heap.size,c,zeros zero (c - (0+l2.length)),?_,by omega,?_,?_⟩) (SlE.nil _) ((Ext.drew w).chg ((Ext.alloc _ _).mono (by simp))) (by simp [aB])
    ·simp
    ·simpa using At.new w.drew _
    ·simp only [List.nil_append,List.length_append,E.flat_length,zeros_length,hz,Nat.zero_add]
     rw [←Nat.add_mul];congr 1;omega
 ·have hsl:dK w E.k (.slice (some ⟨b,0,none⟩) l.length cap)=some (l.length,E.flat l):=(Own.sl (t:=t) (B:=B) (.inr ⟨b,cap,junk,rfl,hb,hat,hlen⟩)).cells
  have hj:(E.flat l).length+junk.length=cap*E.k:=by simpa using hlen
  rw [E.flat_length] at hj
  refine ⟨some ⟨b,0,none⟩,l.length,cap,l2.length,E.flat l2,hx,hy,fun hr=>?_,fun hr=>?_⟩
  ·have hmul:(l.length+l2.length)*E.k≤cap*E.k:=Nat.mul_le_mul_right _ hr
   rw [Nat.add_mul] at hmul
   have hfit:l.length*E.k+0+(E.flat l2).length≤(E.flat l++junk).length:=by rw [List.length_append,E.flat_length,E.flat_length];omega
   obtain ⟨h2,c2⟩:=aCk (E.flat l2) 0 (l.length*E.k) (E.flat l++junk) w hat hfit
   refine ⟨E.flat_one l2,aO5 hat (by simpa using hfit),k _ _ (.inr ⟨b,cap,junk.drop (E.flat l2).length,by simp,hb,?_,?_⟩) (Own.sl (t:=t) (B:=B) (.inr ⟨b,cap,E.flat l2++junk.drop (E.flat l2).length,rfl,hb,?_,?_⟩)) c2 (by simp [aB])⟩
   ·have e1:(E.flat l++junk).take (l.length*E.k+0)=E.flat l:=by rw [List.take_append_of_le_length (by rw [E.flat_length];omega),tLe (by rw [E.flat_length];omega)]
    have e2:(E.flat l++junk).drop (l.length*E.k+0+(E.flat l2).length)=junk.drop (E.flat l2).length:=by
     rw [List.drop_append,List.drop_eq_nil_of_le (by rw [E.flat_length];omega),List.nil_append,E.flat_length,E.flat_length,show l.length*E.k+0+l2.length*E.k - l.length*E.k=l2.length*E.k by omega]
    rw [e1,e2,←E.flat_append] at h2
    exact h2
   ·rw [E.flat_append,List.length_append,List.length_append,List.length_drop,E.flat_length,E.flat_length]
    omega
   ·have e1:(E.flat l++junk).take (l.length*E.k+0)=E.flat l:=by rw [List.take_append_of_le_length (by rw [E.flat_length];omega),tLe (by rw [E.flat_length];omega)]
    have e2:(E.flat l++junk).drop (l.length*E.k+0+(E.flat l2).length)=junk.drop (E.flat l2).length:=by
     rw [List.drop_append,List.drop_eq_nil_of_le (by rw [E.flat_length];omega),List.nil_append,E.flat_length,E.flat_length,show l.length*E.k+0+l2.length*E.k - l.length*E.k=l2.length*E.k by omega]
    rw [e1,e2,List.append_assoc] at h2
    exact h2
   ·rw [List.length_append,List.length_append,List.length_drop,E.flat_length,E.flat_length]
    omega
  ·refine ⟨E.flat l,hsl,?_,fun c hc=>?_⟩
   ·have:=hcap (l.length+l2.length) cap hr
    have h3:=Nat.mul_le_mul_right bytes this
    rw [Nat.mul_assoc] at h3
    omega
   ·refine k _ _ (.inr ⟨w.heap.size,c,zeros zero (c - (l.length+l2.length)),by simp,by omega,?_,?_⟩) (SlE.ext ((Ext.drew w).chg ((Ext.alloc _ _).mono (by simp))) (Own.sl (t:=t) (B:=B) (.inr ⟨b,cap,junk,rfl,hb,hat,hlen⟩))) ((Ext.drew w).chg ((Ext.alloc _ _).mono (by simp))) (by simp [aB])
    ·rw [E.flat_append];exact At.new w.drew _
    ·rw [E.flat_append]
     simp only [List.length_append,E.flat_length,zeros_length,hz]
     rw [←Nat.add_mul,←Nat.add_mul];congr 1;omega
theorem cA {t:TypeId} {size bytes B:Nat} {zero:List Value} {x y:Operand} {v:Value} {l l2:List α} {n:Nat} {new:List Value} (hx:ev ρ x=v) (ho:Own E t B w v l) (hB:B≤w.heap.size) (hk:size=E.k) (hz:zero.length=E.k) (hy:dK w size (ev ρ y)=some (n,new)) (hnew:new=E.flat l2) (hn:n=l2.length) (hroom:(l.length+l2.length)*bytes≤2^47)
  (k:∀v' w',Own E t B w' v' (l++l2)→Chg (aB v) w w'→aF P r K (put ρ d v') w'):aF P (.cons ⟨d,.append t size bytes zero x y,none⟩ r) K ρ w:=
 kX hx ho hB hk hz hy hnew hn hroom fun v' w' h _ c _=>k v' w' h c
end
end
section
open Go
inductive Sh where
 |l (is:List Nat)
 |j (x y:Sh)
 |b (is:List Nat) (x y:Sh)
 |a
def bS1:List (Nat × KOp)→Nat→Option KOp
 | [],_=>none
 |(k,o)::l,i=>if Nat.beq k i then some o else bS1 l i
def bQo (P:Program) [Quiet P] (ov:List (Nat × KOp)) (id:Nat) (ops:Array Oper) (i:Nat) (o:Oper):KI:=⟨o.dst,match bS1 ov (id*1000+i) with
 |some k=>k
 |none=>aH P o,match o.guard with
 |none=>none
 |some (g,b)=>((ops[g]?).bind (·.dst)).map (·,b)⟩
def bTe (P:Program) [Quiet P] (ov:List (Nat × KOp)) (id:Nat) (ops:Array Oper) (i:Nat):KI:=match ops[i]? with
 |some o=>bQo P ov id ops i o
 |none=>⟨none,.dead,none⟩
def bDx (P:Program) [Quiet P] (ov:List (Nat × KOp)) (id:Nat) (ops:Array Oper):List Nat→KR→KR
 | [],r=>r
 |i::is,r=>.cons (bTe P ov id ops i) (bDx P ov id ops is r)
def bP5 (P:Program) [Quiet P] (ov:List (Nat × KOp)) (id:Nat) (ops:Array Oper):Nat→List Oper→KR
 |_, []=>.nil
 |i,o::l=>.cons (bQo P ov id ops i o) (bP5 P ov id ops (i+1) l)
def Sh.kr (P:Program) [Quiet P] (ov:List (Nat × KOp)) (id:Nat) (ops:Array Oper):Sh→KR
 |.l is=>bDx P ov id ops is .nil
 |.j x y=>.join (Sh.kr P ov id ops x) (Sh.kr P ov id ops y)
 |.b is x y=>bDx P ov id ops is (.both (Sh.kr P ov id ops x) (Sh.kr P ov id ops y))
 |.a=>.nil
def bLr (P:Program) [Quiet P] (ov:List (Nat × KOp)) (id:Nat) (ops:Array Oper):Nat→List Oper→List (KI × List Nat)
 |_, []=> []
 |i,o::l=>(bQo P ov id ops i o,aLy o)::bLr P ov id ops (i+1) l
def Sh.isA:Sh→Bool
 |.a=>true
 |_=>false
def bQj:List (Nat × Sh)→Nat→Sh
 | [],_=>.l []
 |(k,s)::l,i=>if Nat.beq k i then s else bQj l i
def kS (P:Program) [Quiet P] (ss:List (Nat × Sh)) (ov:List (Nat × KOp)):Code→KC
 |.skip=>.skip
 |.region id ops true=>match (bQj ss id).isA with
  |true=>.anyR (bLr P ov id ops 0 ops.toList)
  |false=>.reg true (Sh.kr P ov id ops (bQj ss id))
 |.region id ops false=>.reg false (bP5 P ov id ops 0 ops.toList)
 |.seq a b=>.seq (kS P ss ov a) (kS P ss ov b)
 |.cond x a b=>.cond x (kS P ss ov a) (kS P ss ov b)
 |.block id c=>.block id (kS P ss ov c)
 |.loop c=>.loop (kS P ss ov c)
 |.exit id=>.exit id
 |_=>.ret
theorem bS9 (n:Nat):Int.ofNat (no_index (@OfNat.ofNat Nat n (instOfNatNat n)))=@OfNat.ofNat Int n (@instOfNat n):=rfl
theorem bTl:Int.negSucc (no_index (@OfNat.ofNat Nat 0 (instOfNatNat 0)))= -1:=rfl
theorem bTm (n:Nat) (h:n<2^8):UInt8.ofBitVec (BitVec.ofFin ⟨no_index (@OfNat.ofNat Nat n (instOfNatNat n)),h⟩)=@OfNat.ofNat UInt8 n UInt8.instOfNat:=by
 apply UInt8.toNat_inj.1
 show n=n%2^8
 omega
theorem mkA {α:Type} (l:List α):Array.mk l=l.toArray:=rfl
structure HeldS (b:Prop):Prop where
 out:b
theorem oy {a b:Prop} (k:b) (h:HeldS b→a:=by (intro hheld;set_option maxRecDepth 100000 in (conv=>(arg 2;reduce;(try (dsimp only [bS9,bTl,mkA]));(try (simp only [bTm]))));exact hheld.out)):a:=h ⟨k⟩
end
end Go.K
