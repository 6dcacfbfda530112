/- The engine, part 4: operations that write or call; regions. -/
import Derived.Laws.IdiomStrings
import Derived.Laws.BytesString
import Derived.Test.YtfebcajheojodaaGreatDoorZ3
set_option linter.unusedVariables false
set_option linter.unusedSimpArgs false
namespace Go.K
section
open Go
variable {P:Program} {ρ:Env} {w:World}
theorem aQt {a:Addr} {v:Value} (h1:v.oneCell'=true) (hc:(w.cell? a).isSome=true) (hf:w.frozen? a=false):(store a v).run P w=.ok () (w.setCell a v):=by
 obtain ⟨u,hu⟩:=Option.isSome_iff_exists.1 hc
 rw [run_store P w a v .plain h1,hu]
 simp [hf]
theorem aNo (w:World) (p q:Addr) (u:Value):((w.setCell p u).cell? q).isSome=(w.cell? q).isSome:=by
 by_cases h:p=q
 ·subst h
  cases hc:w.cell? p with
  |none=>
   unfold World.cell? World.setCell at*
   simp only [Array.getElem?_modify]
   cases hh:w.heap[p.block]? with
   |none=>simp
   |some o=>
    rw [hh] at hc
    cases o<;>simp_all
  |some v=>rw [World.cell?_setCell_same _ _ _ hc];rfl
 ·rw [World.cell?_setCell_other _ _ _ _ h]
theorem nT {a:Addr}:∀(vs:List Value) (i:Nat) (w:World),(∀v∈vs,v.oneCell'=true)→aSt w a i vs.length→(storeCells a vs i).run P w=.ok () (jL w a i vs)
 | [],i,w,_,_=>rfl
 |v::vs,i,w,h1,hc=>by
  have h0:=hc i (Nat.le_refl _) (by simp)
  simp only [storeCells,Sem.run_bind,aQt (h1 v (by simp)) h0.1 h0.2,Result.andThen_ok,jL]
  refine nT vs (i+1) _ (fun u hu=>h1 u (by simp [hu])) fun j hj hj2=>?_
  have:=hc j (by omega) (by simp;omega)
  rw [aNo,World.frozen?_setCell]
  exact this
theorem fV {r:Nat} {o:Obj} (h:w.heap[r]? =some o) (hc:∀c t f,o≠.cells c t f):(getObj r).run P w=.ok o w:=by
 unfold getObj
 simp only [Sem.run,h]
theorem iR {r:Nat} {o o':Obj} (h:w.heap[r]? =some o) (hc:∀c t f,o≠.cells c t f):(setObj r o').run P w=.ok () (eL w r o'):=by
 unfold setObj
 simp only [Sem.run,h]
 rfl
theorem zeros_length (z:List Value):∀n,(zeros z n).length=n*z.length
 |0=>by simp [zeros]
 |n+1=>by simp [zeros,zeros_length z n,Nat.add_mul];omega
theorem aRq (z:List Value):∀(n i:Nat),i<n*z.length→(zeros z n)[i]? =z[i%z.length]?
 |0,i,h=>by simp at h
 |n+1,i,h=>by
  simp only [zeros]
  by_cases hi:i<z.length
  ·rw [List.getElem?_append_left hi,Nat.mod_eq_of_lt hi]
  ·rw [List.getElem?_append_right (by omega),aRq z n (i - z.length) (by rw [Nat.add_mul] at h;omega),show i%z.length=(i - z.length)%z.length from Nat.mod_eq_sub_mod (by omega)]
theorem aDe (z:Array Value) (n:Nat) (hz:0<z.size):(Array.range (n*z.size)).map (fun i=>z[i%z.size]!)=(zeros z.toList n).toArray:=by
 apply Array.ext'
 apply List.ext_getElem?
 intro i
 by_cases hi:i<n*z.size
 ·have hm:i%z.size<z.size:=Nat.mod_lt _ hz
  rw [List.getElem?_toArray.symm]
  simp only [Array.toList_map]
  have h1:=aRq z.toList n i (by simpa using hi)
  simp only [Array.length_toList] at h1
  rw [h1]
  simp [hi,hm]
 ·have h1:=zeros_length z.toList n
  simp only [Array.length_toList] at h1
  rw [List.getElem?_eq_none (by simp;omega),List.getElem?_eq_none (by simp;omega)]
theorem aGm {t:TypeId} {s:Bool} {ks:List CK} {e:TypeId} (h:keyOf P t=some (s,ks,e)):∃k,P.underlying t=some (.map k e)∧iK P 20 k=some ks∧s=xN P k:=by
 unfold keyOf at h
 split at h
 ·rename_i kt et hu
  obtain ⟨ks',hks,heq⟩:=Option.map_eq_some_iff.1 h
  simp only [Prod.mk.injEq] at heq
  obtain ⟨hs,rfl,rfl⟩:=heq
  exact ⟨kt,hu,hks,hs.symm⟩
 ·cases h
theorem aS0 {s:Bool} {ks:List CK} {k v:Value} {es:Array MapEntry} {i:Nat} (h:kA s ks k es.toList 0=some (some (i,v))):(Instr.keyThatStays (((es[i]?).map (·.key)).getD k) k).run P w=.ok k w:=by
 obtain ⟨_,e,he,hk,_,hq⟩:=aPd _ _ _ _ h
 have he':es[i]? =some e:=by simpa using he
 rw [he']
 exact aU7 hq
theorem eV {es:Array MapEntry} {c:Nat}:∀a b d,Obj.map es c≠.cells a b d:=by intro a b d h;cases h
theorem aGa {m:Option Nat} {a c:Nat} {s:Array Nat}:∀p q d,Obj.mapIter m a s c≠.cells p q d:=by intro a b d h;cases h
theorem aQ3 {t:TypeId} {s:Bool} {ks:List CK} {e:TypeId} (hk:keyOf P t=some (s,ks,e)) {r:Nat} {es:Array MapEntry} {clock:Nat} {kv v:Value} {f:Option (Nat × Value)} (hr:w.heap[r]? =some (.map es clock)) (ho:aHz s ks kv=true) (hf:kA s ks kv es.toList 0=some f):
  (Instr.mapUpdate t (.map (some r)) kv v).run P w=.ok () (eL w r (.map (jB es clock kv v f).1 (jB es clock kv v f).2)):=by
 obtain ⟨kt,hu,hks,rfl⟩:=aGm hk
 have hg:=fV (P:=P) hr eV
 have hck:=xX (w:=w) (em:=false) hks ho
 have hfk:=xP (w:=w) hks hf
 simp only [Instr.mapUpdate,Sem.run_bind,aD hu,Result.andThen_ok,hg,hck,hfk]
 cases f with
 |none=>simp [jB,iR hr eV]
 |some p=>
  obtain ⟨i,u⟩:=p
  simp [jB,aS0 hf,iR hr eV]
theorem aUz {t:TypeId} {s:Bool} {ks:List CK} {e:TypeId} {z:Value} (hk:keyOf P t=some (s,ks,e)) (hz:zeroOf P e=some z) {r:Nat} {es:Array MapEntry} {clock:Nat} {kv:Value} {f:Option (Nat × Value)} (hr:w.heap[r]? =some (.map es clock)) (ho:aHz s ks kv=true) (hf:kA s ks kv es.toList 0=some f):
  (Instr.mapEntry t (.map (some r)) kv).run P w=match f with
   |some (i,v)=>.ok (.tuple #[v,.int .i64 (((es[i]?).map (·.born)).getD 0:Nat)]) (eL w r (.map (es.modify i fun e=>{e with key:=kv}) clock))
   |none=>.ok (.tuple #[z,.int .i64 (clock:Nat)]) (eL w r (.map (es.push {key:=kv,val:=z,born:=clock}) (clock+1))):=by
 obtain ⟨kt,hu,hks,rfl⟩:=aGm hk
 obtain ⟨inf,hinf,hz'⟩:=Option.bind_eq_some_iff.1 hz
 have hzv:∀w,(zeroValue e).run P w=.ok z w:=fun w=>by simp [zeroValue,bR hinf,hz']
 have hg:=fV (P:=P) hr eV
 have hck:=xX (w:=w) (em:=false) hks ho
 have hfk:=xP (w:=w) hks hf
 simp only [Instr.mapEntry,Sem.run_bind,aD hu,Result.andThen_ok,hg,hck,hfk]
 cases f with
 |none=>simp [hzv,iR hr eV,goInt]
 |some p=>
  obtain ⟨i,u⟩:=p
  simp only [aS0 hf,Result.andThen_ok,Sem.run_bind,iR hr eV,Sem.run_pure,goInt]
  cases es[i]? <;>rfl
theorem bHd {it:Value} {ty:TypeId} {b m since last clock:Nat} {seen:Array Nat} {es:Array MapEntry} {k:Value→World→Prop} (hit:it=.pointer (some ⟨b,0,none⟩)) (hb:w.heap[b]? =some (.mapIter (some m) since seen last)) (hm:w.heap[m]? =some (.map es clock))
  (h1:∀e∈es,e.born<since) (h3:seen.isEmpty=true∨es.isEmpty=true∨∃e∈es,e.born<last)
  (h4:(es.filter fun e=>!seen.contains e.born).isEmpty=true→∀w',(w'=w∨w'=w.drew)→k (.tuple #[.bool false]) w')
  (h5:∀e∈es.filter (fun e=>!seen.contains e.born),∀w',(w'=w∨w'=w.drew)→k (.tuple #[.bool true,e.key,e.val]) (eL w' b (.mapIter (some m) since (seen.push e.born) clock))):
  ∃v w',(Instr.next it false ty).run P w=.ok v w'∧k v w':=by
 subst hit
 have hg1:=fV (P:=P) hb aGa
 have hg2:=fV (P:=P) hm eV
 have hno:(!seen.isEmpty&&!es.isEmpty&&es.all (fun e=>decide (e.born≥last)))=false:=by
  rcases h3 with h|h|⟨e,he,hlt⟩
  ·simp [h]
  ·simp [h]
  ·have:es.all (fun e=>decide (e.born≥last))=false:=by
    refine Bool.eq_false_iff.2 fun h=>?_
    rw [Array.all_eq_true_iff_forall_mem] at h
    have:=h e he
    simp at this;omega
   simp [this]
 have hold:(es.filter fun e=>!seen.contains e.born).filter (fun e=>decide (e.born<since))=es.filter fun e=>!seen.contains e.born:=by
  apply Array.filter_eq_self.2
  intro e he
  have:=h1 e (Array.mem_of_mem_filter he)
  simpa using this
 have hnew:(es.filter fun e=>!seen.contains e.born).filter (fun e=>decide (e.born≥since))=#[]:=by
  apply Array.filter_eq_empty_iff.2
  intro e he
  have:=h1 e (Array.mem_of_mem_filter he)
  simp;omega
 generalize hL:(es.filter fun e=>!seen.contains e.born)=left at*
 unfold Instr.next
 simp only [Sem.run_bind,hg1,hg2,Result.andThen_ok,hno,Bool.false_eq_true,if_false,hL,hold,hnew,Array.append_empty]
 by_cases he:left.isEmpty=true
 ·have:left=#[]:=by simpa using he
  subst this
  refine ⟨_,w,?_,h4 he w (.inl rfl)⟩
  simp [choose,Sem.run,Question.forced]
 ·have hpos:0<left.size:=by
   rcases Nat.eq_zero_or_pos left.size with h|h
   ·exact absurd (by simpa using h) he
   ·exact h
  obtain ⟨c,w',hc,hrun,hw'⟩:∃c w',c<left.size∧(choose (.mapNext left.size)).run P w=.ok c w'∧(w'=w∨w'=w.drew):=by
   by_cases hf:left.size≤1
   ·exact ⟨0,w,hpos,by simp [choose,Sem.run,Question.forced,hf],.inl rfl⟩
   ·exact ⟨_,w.drew,Nat.mod_lt _ hpos,by simp [choose,Sem.run,Question.forced,Question.cut,hf];rfl,.inr rfl⟩
  refine ⟨_,_,?_,h5 left[c] (Array.getElem_mem hc) w' hw'⟩
  have hb':w'.heap[b]? =some (.mapIter (some m) since seen last):=by rcases hw' with rfl|rfl<;>exact hb
  simp only [he,Bool.false_eq_true,if_false,Array.empty_append,Array.size_map,hrun,Result.andThen_ok,Array.getElem?_map,Array.getElem?_eq_getElem hc,Option.map_some,Sem.run_bind,iR hb' aGa,Sem.run_pure]
theorem aHk {a:Addr}:∀(n i:Nat),rdCells w.drew a i n=rdCells w a i n
 |0,_=>rfl
 |n+1,i=>by simp only [rdCells,World.cell?_drew,aHk n (i+1)]
theorem aJv {size:Nat} {v:Value}:dD w.drew size v=dD w size v:=by
 unfold dD
 split<;>simp only [aHk]
theorem aSg {size:Nat} {y:Value} {n:Nat} {l:List Value} (h:dD w size y=some (n,l)) (w2:World):(Builtin.lenOf y).run P w2=.ok n w2:=by
 unfold dD at h
 split at h
 ·obtain ⟨_,_,h⟩:=Option.map_eq_some_iff.1 h;simp only [Prod.mk.injEq] at h;obtain ⟨rfl,_⟩:=h;rfl
 ·simp only [Option.some.injEq,Prod.mk.injEq] at h;obtain ⟨rfl,_⟩:=h;rfl
 ·simp only [Option.some.injEq,Prod.mk.injEq] at h;obtain ⟨rfl,_⟩:=h;rfl
 ·cases h
theorem nZ {size:Nat} {y:Value} {n:Nat} {l:List Value} (h:dD w size y=some (n,l)):(Builtin.firstCells size n y).run P w=.ok l.toArray w:=by
 unfold dD at h
 split at h
 ·rename_i a m c
  obtain ⟨l',hl,h⟩:=Option.map_eq_some_iff.1 h;simp only [Prod.mk.injEq] at h;obtain ⟨rfl,rfl⟩:=h
  simp [Builtin.firstCells,loadCells,run_loadCellsFrom (m*size) 0 #[] l' hl]
 ·simp only [Option.some.injEq,Prod.mk.injEq] at h;obtain ⟨rfl,rfl⟩:=h;rfl
 ·rename_i s
  simp only [Option.some.injEq,Prod.mk.injEq] at h;obtain ⟨rfl,rfl⟩:=h
  have:s.extract 0 s.size=s:=by
   apply ByteArray.ext;simp
  simp only [Builtin.firstCells,this]
  have e2:(s.data.map fun b=>Value.int .u8 b.toNat)=(mX s).toArray:=by apply Array.ext';simp [mX]
  rw [e2];rfl
 ·cases h
theorem bBu {t u ty e : TypeId} {d : TypeDesc} {inf : TypeInfo} {z : Value} (ht : P.underlying t = some (.slice e)) (hu : P.underlying u = some d) (hd : ∀ k, d ≠ .int k) (hinf : P.info? e = some inf) (hz : zeroOf P e = some z)
    (hzs : z.cells.size = inf.size) (hpos : 0 < inf.size) (hb : inf.bytes ≠ 0) {base : Option Addr} {sLen sCap n : Nat} {y : Value} {new : List Value} (hy : dD w inf.size y = some (n, new)) {k : Value → World → Prop}
    (h1 : sLen + n ≤ sCap → match base with
        | some a => (∀ v ∈ new, v.oneCell' = true) ∧ aSt w (a.add (sLen * inf.size)) 0 new.length ∧ k (.slice base (sLen + n) sCap) (jL w (a.add (sLen * inf.size)) 0 new)
        | none => k (.slice base (sLen + n) sCap) w)
    (h2 : sCap < sLen + n → ∃ old, dD w inf.size (.slice base sLen sCap) = some (sLen, old) ∧ Builtin.nextslicecap (sLen + n) sCap * inf.bytes ≤ 2 ^ 48 ∧
          ∀ c, sLen + n ≤ c → k (.slice (some ⟨w.heap.size, 0, none⟩) (sLen + n) c) (w.drew.alloc (.cells (old ++ new ++ zeros z.cells.toList (c - (sLen + n))).toArray e))) :
    ∃ v w', (Builtin.append_ #[t, u] ty #[.slice base sLen sCap, y]).run P w = .ok v w' ∧ k v w' := by
  have hzv : ∀ w, (zeroValue e).run P w = .ok z w := fun w => by
    obtain ⟨inf', hinf', hz'⟩ := Option.bind_eq_some_iff.1 hz
    simp [zeroValue, bR hinf', hz']
  have hl := aSg (P := P) hy
  by_cases hc : sLen + n ≤ sCap
  · have h1' := h1 hc
    cases base with
    | none =>
      refine ⟨_, w, ?_, h1'⟩
      simp [Builtin.append_, aD ht, cI hinf, aD hu, hl, hc, nZ hy]
    | some a =>
      obtain ⟨hone, hcan, hk⟩ := h1'
      refine ⟨_, _, ?_, hk⟩
      have hst := nT (P := P) (a := a.add (sLen * inf.size)) new 0 w hone hcan
      simp [Builtin.append_, aD ht, cI hinf, aD hu, hl, hc, nZ hy, hst]
  · obtain ⟨old, hold, hcap, hk⟩ := h2 (by omega)
    obtain ⟨c, hc3⟩ : ∃ c, c = grownCap w (sLen + n) sCap e := ⟨_, rfl⟩
    have hc1 : sLen + n ≤ c := by rw [hc3]; simp [grownCap, Question.cut]
    refine ⟨_, _, ?_, hk c hc1⟩
    have f1 := nZ (P := P) (w := w.drew) (size := inf.size) (y := .slice base sLen sCap) (by rw [aJv]; exact hold)
    have f2 := nZ (P := P) (w := w.drew) (size := inf.size) (y := y) (by rw [aJv]; exact hy)
    have hr : Builtin.zeroCells z.cells (c - (sLen + n)) = (zeros z.cells.toList (c - (sLen + n))).toArray := by
      unfold Builtin.zeroCells
      exact aDe z.cells _ (by omega)
    have hnc : ¬ (281474976710656 < Builtin.nextslicecap (sLen + n) sCap * inf.bytes) := by omega
    simp [Builtin.append_, aD ht, cI hinf, aD hu, hl, hc, f1, f2, bR hinf, hb, hzv, hnc, newRow, Question.forced]
    rw [hc3] at hr ⊢
    unfold grownCap at hr ⊢
    rw [hr]
    simp
theorem aH0 {a:Addr}:∀(n i m:Nat) (l:List Value),rdCells w a i n=some l→m≤n→rdCells w a i m=some (l.take m)
 |n,i,0,l,_,_=>by simp [rdCells]
 |n+1,i,m+1,l,h,hm=>by
  simp only [rdCells,Option.bind_eq_some_iff,Option.map_eq_some_iff] at h
  obtain ⟨v,hv,r,hr,rfl⟩:=h
  simp [rdCells,hv,aH0 n (i+1) m r hr (by omega)]
theorem aNe {size:Nat} {y:Value} {n m:Nat} {l:List Value} (h:dD w size y=some (n,l)) (hs:(∃a m c,y=.slice a m c)∨size=1) (hm:m≤n):(Builtin.firstCells size m y).run P w=.ok (l.take (m*size)).toArray w:=by
 unfold dD at h
 split at h
 ·rename_i a n' c
  obtain ⟨l',hl,h⟩:=Option.map_eq_some_iff.1 h;simp only [Prod.mk.injEq] at h;obtain ⟨rfl,rfl⟩:=h
  have:=aH0 (n'*size) 0 (m*size) l' hl (Nat.mul_le_mul_right _ hm)
  simp [Builtin.firstCells,loadCells,run_loadCellsFrom (m*size) 0 #[] _ this]
 ·simp only [Option.some.injEq,Prod.mk.injEq] at h;obtain ⟨rfl,rfl⟩:=h;simp [Builtin.firstCells]
 ·rename_i s
  simp only [Option.some.injEq,Prod.mk.injEq] at h;obtain ⟨rfl,rfl⟩:=h
  rcases hs with ⟨a,m',c,hs⟩|rfl
  ·cases hs
  ·have e2:((s.extract 0 m).data.map fun b=>Value.int .u8 b.toNat)=((mX s).take (m*1)).toArray:=by
    apply Array.ext'
    simp [mX,ByteArray.data_extract]
   simp only [Builtin.firstCells,e2];rfl
 ·cases h
theorem bBm {t:TypeId} {v rv:Value} {name:String} {f:FuncId} (h:uA P t v name=some (f,rv)):(method (P.types.size+Made.depth) t v name).run P w=.ok (f,rv) w:=by
 unfold uA at h
 split at h
 ·rename_i i d hi hu
  split at h
  ·rename_i m hm
   have e:P.types.size+Made.depth=(P.types.size+99)+1:=rfl
   rw [e]
   generalize P.types.size+99=fuel
   obtain ⟨mn,ms,path,func⟩:=m
   obtain ⟨path⟩:=path
   cases path with
   |cons a b=>simp at h
   |nil=>
    rcases func with _|⟨g,_|_⟩
    ·simp at h
    ·cases d<;>simp only [Option.some.injEq,Prod.mk.injEq,reduceCtorEq] at h<;>obtain ⟨rfl,rfl⟩:=h<;>
      simp [method,follow,receiverAt,Place.get,bR hi,hm,aD hu]
    ·cases d<;>simp only [Option.some.injEq,Prod.mk.injEq,reduceCtorEq] at h<;>obtain ⟨rfl,rfl⟩:=h<;>
      simp [method,follow,receiverAt,Place.get,bR hi,hm,aD hu]
  ·cases h
 ·cases h
theorem bHc [Quiet P] (o : Oper) (k : Value → World → Prop) (h : (aH P o).wp P ρ w k) : (KOp.raw o).wp P ρ w k := by
  by_cases hst : (aH P o).isStill = true
  · have h2 : ∃ v, (aH P o).rd ρ w = some v ∧ k v w := by
      generalize aH P o = ko at h hst
      cases ko <;> first | exact h | (simp [KOp.isStill, KOp.isFix] at hst; done)
    obtain ⟨v, hv, hk⟩ := h2
    rcases pR o v hst hv with hr | ⟨hr, rfl⟩ | ⟨f, as, hr, hc⟩
    · simp only [KOp.wp, hr]; exact hk
    · simp only [KOp.wp, hr]; exact hk
    · simp only [KOp.wp, hr]; exact hc.mono fun e w'' ⟨he, hw⟩ => ⟨v, he, by rw [hw]; exact hk⟩
  · obtain ⟨dst, op, ty, pos, after, guard⟩ := o
    cases op
    case box t x =>
      simp only [aH, KOp.wp] at h ⊢
      have : (execOp (ev ρ) { dst := dst, op := .box t x, type := ty, pos := pos, after := after, guard := guard }).run P w = .ok (.value (.pointer (some ⟨w.heap.size, 0, none⟩))) (w.alloc (.cells (ev ρ x).cells t)) := by
        simp [execOp, Instr.box, newVar, newRow]
      rw [this]; exact h
    case alloc t =>
      simp only [aH] at h
      split at h
      · rename_i inf hinf
        split at h
        · rename_i z hz
          simp only [KOp.wp] at h ⊢
          have hzv : (zeroValue t).run P w = .ok z w := by simp [zeroValue, bR hinf, hz]
          have : (execOp (ev ρ) { dst := dst, op := .alloc t, type := ty, pos := pos, after := after, guard := guard }).run P w = .ok (.value (.pointer (some ⟨w.heap.size, 0, none⟩))) (w.alloc (.cells z.cells t)) := by
            simp [execOp, Instr.alloc, hzv, newVar, newRow]
          rw [this]; exact h
        · exact h
      · exact h
    case store t x y =>
      have fin : ∀ {w' : World} (a : Addr), ev ρ x = .pointer (some a) → (storeVar t a (ev ρ y)).run P w = .ok () w' →
          (execOp (ev ρ) { dst := dst, op := .store t x y, type := ty, pos := pos, after := after, guard := guard }).run P w = .ok .skip w' := by
        intro w' a hx hr
        simp [execOp, Instr.storeAt, hx, lK, hr]
      simp only [aH] at h
      split at h
      · rename_i n _ hn
        simp only [KOp.wp] at h ⊢
        obtain ⟨a, vs, hx, hy, hsz, h1, hc, hk⟩ := h
        have hs := (sA hn w).2
        rw [fin a hx (w' := jL w a 0 vs.toList)]
        · exact hk
        · have := nT (P := P) (a := a) vs.toList 0 w h1 (by simpa [hsz] using hc)
          simp [storeVar, hs, hy, Value.cells, hsz, this]
      · rename_i inf hn hinf
        split at h
        · rename_i hone
          simp only [KOp.wp] at h ⊢
          obtain ⟨a, hx, h1, hc, hf, hk⟩ := h
          rw [fin a hx (w' := w.setCell a (ev ρ y))]
          · exact hk
          · have hcell : (ev ρ y).cells = #[ev ρ y] := by
              generalize ev ρ y = v at h1
              cases v <;> first | rfl | (simp [Value.oneCell'] at h1; done)
            have h3 := aQt (P := P) h1 hc hf
            simp [storeVar, cI hinf, hone, hcell, storeCells, add_zero, h3]
        · exact h
      · exact h
    case call c =>
      obtain ⟨callee, args, argTypes⟩ := c
      have enter : ∀ (f : FuncId) (vs : Array Value), cM P f = true → (callFunc f vs).run P w = .ok (.enter f vs) w := by
        intro f vs hb
        unfold cM at hb
        split at hb
        · rename_i fn hfn
          simp only [Bool.and_eq_true, Bool.not_eq_true'] at hb
          have hne : fn.name ≠ "runtime.NumGoroutine" := by simpa using hb.2
          have hbn : fn.body ≠ none := by intro hn; rw [hn] at hb; simp at hb
          simp [callFunc, hfn, hne, hbn]
        · cases hb
      cases callee with
      | value fo =>
        cases fo with
        | func f =>
          simp only [aH] at h
          split at h
          · rename_i hb
            cases hq : Quiet.tab P f with
            | some F => rw [hq] at h; simp only [aH, if_pos hb, hq] at hst; exact absurd rfl hst
            | none =>
            rw [hq] at h
            simp only [KOp.wp] at h ⊢
            have : (execOp (ev ρ) { dst := dst, op := .call { callee := .value (.func f), args := args, argTypes := argTypes }, type := ty, pos := pos, after := after, guard := guard }).run P w = .ok (.enter f (args.toList.map (ev ρ)).toArray) w := by
              simp only [execOp, resolve, ev, Deferred.ofValue, Sem.run_bind, Sem.run_pure, Result.andThen_ok, invoke]
              rw [aZb]
              simpa using enter f _ hb
            rw [this]; exact h
          · exact h
        | tmp t =>
          simp only [aH, KOp.wp] at h ⊢
          obtain ⟨f, first, cap, hx, hb, hc⟩ := h
          have : (execOp (ev ρ) { dst := dst, op := .call { callee := .value (.tmp t), args := args, argTypes := argTypes }, type := ty, pos := pos, after := after, guard := guard }).run P w = .ok (.enter f (first ++ (args.toList.map (ev ρ)).toArray ++ cap)) w := by
            simp only [execOp, resolve, hx, Deferred.ofValue, Sem.run_bind, Sem.run_pure, Result.andThen_ok, invoke]
            rw [aZb]
            simpa using enter f _ hb
          rw [this]; exact hc
        | const v => exact h
        | global g => exact h
      | invoke r m =>
        simp only [aH, KOp.wp] at h ⊢
        obtain ⟨t, v, f, rv, hx, hm, hb, hc⟩ := h
        have : (execOp (ev ρ) { dst := dst, op := .call { callee := .invoke r m, args := args, argTypes := argTypes }, type := ty, pos := pos, after := after, guard := guard }).run P w = .ok (.enter f (rv :: args.toList.map (ev ρ)).toArray) w := by
          have h1 := bBm (w := w) hm
          have h2 : ∀ a : Array Value, #[rv] ++ (#[Value.iface t v] ++ a).extract 1 (#[Value.iface t v] ++ a).size = (rv :: a.toList).toArray := by
            intro a
            apply Array.ext'
            simp
          simp only [execOp, resolve, hx, Sem.run_bind, Sem.run_pure, Result.andThen_ok, invoke]
          rw [aZb]
          have h3 : (#[Value.iface t v] ++ (args.toList.map (ev ρ)).toArray)[0]? = some (Value.iface t v) := by simp
          simp only [h3, callMethod, Sem.run_bind, h2, run_program, Result.andThen_ok, h1, enter f _ hb]
        rw [this]; exact hc
      | builtin b =>
        cases b
        case len =>
          simp only [aH] at h hst
          split at h
          · rename_i x t hx ht
            simp only [hx, ht] at hst
            split at h
            · rename_i hu; rw [hu] at hst; exact absurd rfl hst
            · rename_i hu; rw [hu] at hst; exact absurd rfl hst
            · rename_i hu; rw [hu] at hst; exact absurd rfl hst
            · exact h
          · exact h
        case cap =>
          simp only [aH] at h hst
          repeat' split at h
          all_goals first
            | exact h
            | (exfalso; simp only [*] at hst; exact hst rfl)
        case delete =>
          simp only [aH] at h
          split at h
          · rename_i m kk t rest hx ht
            split at h
            · rename_i s ks e hk
              simp only [KOp.wp] at h ⊢
              obtain ⟨r, es, clock, f, hm, hr, ho, hf, hkk⟩ := h
              have ea : args = #[m, kk] := by apply Array.ext'; simpa using hx
              have et : argTypes[0]? = some t := by rw [← Array.getElem?_toList, ht]; rfl
              subst ea
              obtain ⟨kt, hu, hks, rfl⟩ := aGm hk
              have hck := xX (w := w) (em := es.isEmpty) hks ho
              have hfk := xP (w := w) hks hf
              cases f with
              | none =>
                have : (execOp (ev ρ) { dst := dst, op := .call { callee := .builtin .delete, args := #[m, kk], argTypes := argTypes }, type := ty, pos := pos, after := after, guard := guard }).run P w = .ok (.value (.tuple #[])) (eL w r (.map es clock)) := by
                  simp [execOp, resolve, invoke, builtin, Builtin.delete_, et, hm, aD hu, fV hr eV, hck, hfk, iR hr eV]
                rw [this]; exact hkk
              | some p =>
                obtain ⟨i, v⟩ := p
                have : (execOp (ev ρ) { dst := dst, op := .call { callee := .builtin .delete, args := #[m, kk], argTypes := argTypes }, type := ty, pos := pos, after := after, guard := guard }).run P w = .ok (.value (.tuple #[])) (eL w r (.map (es.eraseIdxIfInBounds i) clock)) := by
                  simp [execOp, resolve, invoke, builtin, Builtin.delete_, et, hm, aD hu, fV hr eV, hck, hfk, iR hr eV]
                rw [this]; exact hkk
            · exact h
          · exact h
        case append =>
          simp only [aH] at h
          split at h
          · rename_i x y t u hx ht
            have ea : args = #[x, y] := by apply Array.ext'; simpa using hx
            have et : argTypes = #[t, u] := by apply Array.ext'; simpa using ht
            subst ea; subst et
            split at h
            · exact h
            · rename_i e d hni hte hue
              split at h
              · rename_i inf z hinf hz
                split at h
                · rename_i hcond
                  obtain ⟨hzs, hpos, hb⟩ := hcond
                  simp only [KOp.wp] at h ⊢
                  obtain ⟨base, sLen, sCap, n, new, hxv, hy, h1, h2⟩ := h
                  obtain ⟨v, w', hrun, hk⟩ := bBu (P := P) (ty := ty) hte hue (fun k hk => hni _ hk) hinf hz hzs hpos hb hy h1 h2
                  have : (execOp (ev ρ) { dst := dst, op := .call { callee := .builtin .append, args := #[x, y], argTypes := #[t, u] }, type := ty, pos := pos, after := after, guard := guard }).run P w = .ok (.value v) w' := by
                    simp [execOp, resolve, invoke, builtin, hxv, hrun]
                  rw [this]; exact hk
                · exact h
              · exact h
            · exact h
          · exact h
        case copy =>
          simp only [aH] at h
          split at h
          · rename_i x y t rest hx ht
            split at h
            · rename_i e hu
              split at h
              · rename_i inf hinf
                simp only [KOp.wp] at h ⊢
                obtain ⟨base, dLen, cap, n, new, hxv, hy, hs, hone, hcan, hk⟩ := h
                have ea : args = #[x, y] := by apply Array.ext'; simpa using hx
                have et : argTypes[0]? = some t := by rw [← Array.getElem?_toList, ht]; rfl
                subst ea
                have hl := aSg (P := P) hy w
                have hfc := aNe (P := P) (m := min n dLen) hy hs (Nat.min_le_left _ _)
                cases base with
                | none =>
                  have : (execOp (ev ρ) { dst := dst, op := .call { callee := .builtin .copy, args := #[x, y], argTypes := argTypes }, type := ty, pos := pos, after := after, guard := guard }).run P w = .ok (.value (.int .i64 (min n dLen : Nat))) w := by
                    simp [execOp, resolve, invoke, builtin, Builtin.copy_, et, hxv, aD hu, hl, cI hinf, hfc, goInt]
                  rw [this]; exact hk
                | some a =>
                  have hst := nT (P := P) (a := a) (new.take (min n dLen * inf.size)) 0 w (fun v hv => hone v (List.mem_of_mem_take hv)) (by
                    have hc := hcan a rfl
                    intro j h1 h2
                    refine hc j h1 ?_
                    have := List.length_take_le (min n dLen * inf.size) new
                    omega)
                  have : (execOp (ev ρ) { dst := dst, op := .call { callee := .builtin .copy, args := #[x, y], argTypes := argTypes }, type := ty, pos := pos, after := after, guard := guard }).run P w = .ok (.value (.int .i64 (min n dLen : Nat))) (jL w a 0 (new.take (min n dLen * inf.size))) := by
                    simp [execOp, resolve, invoke, builtin, Builtin.copy_, et, hxv, aD hu, hl, cI hinf, hfc, goInt, hst]
                  rw [this]; exact hk
              · exact h
            · exact h
          · exact h
        case min => simp only [aH] at h hst; split at h <;> first | exact h | (rename_i hx; rw [hx] at hst; exact absurd rfl hst)
        case max => simp only [aH] at h hst; split at h <;> first | exact h | (rename_i hx; rw [hx] at hst; exact absurd rfl hst)
        all_goals exact h
    case panic x => simp only [aH, KOp.wp] at h
    case unOp op t x => cases op <;> first | exact h | exact absurd rfl hst
    case slice t x lo hi mx =>
      cases mx with
      | some m => exact h
      | none =>
        simp only [aH] at h hst; repeat' split at h
        all_goals first
          | exact h
          | (exfalso; simp only [*] at hst; exact hst rfl)
    case mapUpdate t m kk v =>
      simp only [aH] at h
      split at h
      · rename_i s ks e hk
        simp only [KOp.wp] at h ⊢
        obtain ⟨r, es, clock, f, hm, hr, ho, hf, hkk⟩ := h
        have hrun := aQ3 (P := P) (t := t) (v := ev ρ v) hk hr ho hf
        have : (execOp (ev ρ) { dst := dst, op := .mapUpdate t m kk v, type := ty, pos := pos, after := after, guard := guard }).run P w = .ok .skip (eL w r (.map (jB es clock (ev ρ kk) (ev ρ v) f).1 (jB es clock (ev ρ kk) (ev ρ v) f).2)) := by
          simp [execOp, hm, hrun]
        rw [this]; exact hkk
      · exact h
    case mapEntry t m kk =>
      simp only [aH] at h
      split at h
      · rename_i s ks e hk
        split at h
        · rename_i z hz
          simp only [KOp.wp] at h ⊢
          obtain ⟨r, es, clock, f, hm, hr, ho, hf, hkk⟩ := h
          have hrun := aUz (P := P) (t := t) hk hz hr ho hf
          cases f with
          | none =>
            have : (execOp (ev ρ) { dst := dst, op := .mapEntry t m kk, type := ty, pos := pos, after := after, guard := guard }).run P w = .ok (.value (.tuple #[z, .int .i64 (clock : Nat)])) (eL w r (.map (es.push { key := ev ρ kk, val := z, born := clock }) (clock + 1))) := by
              simp [execOp, hm, hrun]
            rw [this]; exact hkk
          | some p =>
            obtain ⟨i, v⟩ := p
            have : (execOp (ev ρ) { dst := dst, op := .mapEntry t m kk, type := ty, pos := pos, after := after, guard := guard }).run P w = .ok (.value (.tuple #[v, .int .i64 (((es[i]?).map (·.born)).getD 0 : Nat)])) (eL w r (.map (es.modify i fun e => { e with key := ev ρ kk }) clock)) := by
              simp only [execOp, hm, hrun, Sem.run_bind, Result.andThen_ok, Sem.run_pure]
            rw [this]; exact hkk
        · exact h
      · exact h
    case entryStore t m s v =>
      simp only [aH, KOp.wp] at h ⊢
      obtain ⟨r, es, clock, kd, n, i, hm, hr, hs, hi, hkk⟩ := h
      have : (execOp (ev ρ) { dst := dst, op := .entryStore t m s v, type := ty, pos := pos, after := after, guard := guard }).run P w = .ok .skip (eL w r (.map (es.modify i fun e => { e with val := ev ρ v }) clock)) := by
        simp only [execOp, Instr.entryStore, hm, hs, Sem.run_bind, fV hr eV, Result.andThen_ok, asInt, asIntOf, Sem.run_pure, hi, iR hr eV]
      rw [this]; exact hkk
    case makeMap t r =>
      cases r with
      | some x => exact h
      | none =>
        simp only [aH, KOp.wp] at h ⊢
        have : (execOp (ev ρ) { dst := dst, op := .makeMap t none, type := ty, pos := pos, after := after, guard := guard }).run P w = .ok (.value (.map (some w.heap.size))) (w.alloc (.map #[] 0)) := by
          simp [execOp, Instr.makeMap]
        rw [this]; exact h
    case range t x =>
      simp only [aH] at h
      split at h
      · rename_i kt e hu
        simp only [KOp.wp] at h ⊢
        obtain ⟨r, es, clock, hx, hr, hk⟩ := h
        have : (execOp (ev ρ) { dst := dst, op := .range t x, type := ty, pos := pos, after := after, guard := guard }).run P w = .ok (.value (.pointer (some ⟨w.heap.size, 0, none⟩))) (w.alloc (.mapIter (some r) clock #[] clock)) := by
          simp [execOp, Instr.range, hx, aD hu, fV hr eV]
        rw [this]; exact hk
      · exact h
    case next it b =>
      cases b with
      | true => exact h
      | false =>
        simp only [aH, KOp.wp] at h ⊢
        obtain ⟨b, m, since, seen, last, es, clock, hit, hb, hm, h1, h2, h3, h4, h5⟩ := h
        obtain ⟨v, w', hr, hk⟩ := bHd (P := P) (ty := ty) hit hb hm h1 h3 h4 h5
        have : (execOp (ev ρ) { dst := dst, op := .next it false, type := ty, pos := pos, after := after, guard := guard }).run P w = .ok (.value v) w' := by
          simp [execOp, hr]
        rw [this]; exact hk
    case entry it =>
      simp only [aH, KOp.wp] at h ⊢
      obtain ⟨b, m, since, seen, stepped, st, es, e, hit, hb, hs, hm, hf, hk⟩ := h
      have : (execOp (ev ρ) { dst := dst, op := .entry it, type := ty, pos := pos, after := after, guard := guard }).run P w = .ok (.value (.tuple #[e.key, e.val])) w := by
        simp [execOp, Instr.entry, hit, fV hb aGa, hs, fV hm eV, hf]
      rw [this]; exact hk
    case buildSlice t ln parts =>
      simp only [aH] at h
      split at h
      · rename_i e hu
        split at h
        · rename_i inf z hinf hz
          split at h
          · rename_i hcond
            obtain ⟨h24, hzs, hpos, hall⟩ := hcond
            simp only [KOp.wp] at h ⊢
            obtain ⟨cs, hcs, hk⟩ := h
            obtain ⟨inf', hinf', hz'⟩ := Option.bind_eq_some_iff.1 hz
            have hzv : (zeroValue e).run P w = .ok z w := by simp [zeroValue, bR hinf', hz']
            have hzl := zeros_length z.cells.toList ln
            simp only [Array.length_toList, hzs] at hzl
            have hfill := aN2 (ρ := ρ) (place := fun i => some (i * inf.size, inf.size)) (off := fun i => i * inf.size) (sz := fun _ => inf.size) parts.toList (zeros z.cells.toList ln).toArray cs
              (fun p hp => ⟨rfl, by
                have := List.all_eq_true.1 hall p hp
                simp only [decide_eq_true_eq] at this
                rw [Nat.add_mul, Nat.one_mul] at this
                simpa [hzl] using this⟩) (by simpa using hcs)
            have hrun : (Instr.buildSlice t ln (parts.map fun p => (p.1, ev ρ p.2))).run P w = .ok (.slice (some ⟨w.heap.size, 0, none⟩) ln ln) (w.alloc (.cells cs.toArray e)) := by
              have e3 : (parts.map fun p => (p.1, ev ρ p.2)).toList = parts.toList.map fun p => (p.1, ev ρ p.2) := by simp
              have hn24 : ¬ (ln * inf.size > 2 ^ 24) := by omega
              by_cases h0 : ln * inf.size = 0
              · have hln : ln = 0 := by
                  rcases Nat.mul_eq_zero.1 h0 with h | h
                  · exact h
                  · omega
                subst hln
                have hp0 : parts.toList = [] := by
                  rcases hpl : parts.toList with _ | ⟨p, r⟩
                  · rfl
                  · have := List.all_eq_true.1 hall p (by rw [hpl]; simp)
                    have h5 : 0 < (p.1 + 1) * inf.size := Nat.mul_pos (by omega) hpos
                    simp only [Nat.zero_mul, decide_eq_true_eq] at this
                    omega
                have hcs0 : cs = [] := by
                  rw [hp0] at hcs; simpa [rU, zeros] using hcs.symm
                subst hcs0
                have hpe : parts = #[] := by apply Array.ext'; simpa using hp0
                subst hpe
                simp [Instr.buildSlice, aD hu, cI hinf, Instr.fill, newRow, show Array.range 0 = #[] from rfl]
              · have hz2 : (Array.range (ln * inf.size)).map (fun i => z.cells[i % z.cells.size]!) = (zeros z.cells.toList ln).toArray := by
                  rw [← hzs]; exact aDe z.cells ln (by omega)
                simp only [Instr.buildSlice, Sem.run_bind, aD hu, cI hinf, Result.andThen_ok, if_neg hn24, if_neg h0, hzv, Sem.run_pure, hz2, e3, hfill, newRow, run_newObj]
                rfl
            have : (execOp (ev ρ) { dst := dst, op := .buildSlice t ln parts, type := ty, pos := pos, after := after, guard := guard }).run P w = .ok (.value (.slice (some ⟨w.heap.size, 0, none⟩) ln ln)) (w.alloc (.cells cs.toArray e)) := by
              simp [execOp, hrun]
            rw [this]; exact hk
          · exact h
        · exact h
      · exact h
    case makeSlice t l c =>
      simp only [aH] at h
      split at h
      · rename_i e hu
        split at h
        · rename_i inf z hinf hz
          split at h
          · rename_i hcond
            obtain ⟨hzs, hpos⟩ := hcond
            simp only [KOp.wp] at h ⊢
            obtain ⟨kd, ke, lv, cv, hl, hc, h0, h1, h2, h3, hk⟩ := h
            obtain ⟨inf', hinf', hz'⟩ := Option.bind_eq_some_iff.1 hz
            have hzv : (zeroValue e).run P w = .ok z w := by simp [zeroValue, bR hinf', hz']
            have wl : IntKind.i64.wrap lv = lv := IntWalk.i64_in _ (by omega)
            have wc : IntKind.i64.wrap cv = cv := IntWalk.i64_in _ (by omega)
            have hrun : (Instr.makeSlice t (ev ρ l) (ev ρ c)).run P w = .ok (.slice (some ⟨w.heap.size, 0, none⟩) lv.toNat cv.toNat) (w.alloc (.cells (zeros z.cells.toList cv.toNat).toArray e)) := by
              have hg : ¬ ((decide (cv < 0) || decide ((inf.bytes : Int) * cv > 2 ^ 48)) || decide (lv < 0) || decide (lv > cv)) = true := by
                simp; omega
              by_cases hn0 : cv.toNat * inf.size = 0
              · have hcn : cv.toNat = 0 := by
                  rcases Nat.mul_eq_zero.1 hn0 with h | h
                  · exact h
                  · omega
                simp only [Instr.makeSlice, hl, hc, asInt, asIntOf, Sem.run_bind, aD hu, Result.andThen_ok, Sem.run_pure, bR hinf, wl, wc, if_neg hg, run_askRoom, cI hinf, if_pos hn0, newRow, run_newObj]
                rw [hcn]
                simp [zeros, show Array.range 0 = #[] from rfl]
              · have hz2 : (Array.range (cv.toNat * inf.size)).map (fun i => z.cells[i % z.cells.size]!) = (zeros z.cells.toList cv.toNat).toArray := by
                  rw [← hzs]; exact aDe z.cells cv.toNat (by omega)
                simp only [Instr.makeSlice, hl, hc, asInt, asIntOf, Sem.run_bind, aD hu, Result.andThen_ok, Sem.run_pure, bR hinf, wl, wc, if_neg hg, run_askRoom, cI hinf, if_neg hn0, hzv, newRow, run_newObj, hz2]
                rfl
            have : (execOp (ev ρ) { dst := dst, op := .makeSlice t l c, type := ty, pos := pos, after := after, guard := guard }).run P w = .ok (.value (.slice (some ⟨w.heap.size, 0, none⟩) lv.toNat cv.toNat)) (w.alloc (.cells (zeros z.cells.toList cv.toNat).toArray e)) := by
              simp [execOp, hrun]
            rw [this]; exact hk
          · exact h
        · exact h
      · exact h
    case convert s d x =>
      simp only [aH] at h hst
      split at h
      · rename_i h1 h2; rw [h1, h2] at hst; exact absurd rfl hst
      · rename_i h1 h2; rw [h1, h2] at hst; exact absurd rfl hst
      · rename_i e h1 h2
        split at h
        · rename_i he
          simp only [KOp.wp] at h ⊢
          obtain ⟨st, hx, hk⟩ := h
          have hrun := run_bytes_of_string w s d e st h1 h2 he
          have hrow : bytesRow st (grownCap w st.size 0 e) = (mX st ++ List.replicate (grownCap w st.size 0 e - st.size) (Value.int .u8 0)).toArray := by
            apply Array.ext'; simp [bytesRow, mX]
          have : (execOp (ev ρ) { dst := dst, op := .convert s d x, type := ty, pos := pos, after := after, guard := guard }).run P w = .ok (.value (.slice (some ⟨w.heap.size, 0, none⟩) st.size (grownCap w st.size 0 e)))
              (w.drew.alloc (.cells (bytesRow st (grownCap w st.size 0 e)) e ((bytesRow st (grownCap w st.size 0 e)).size, (bytesRow st (grownCap w st.size 0 e)).size + 1))) := by
            simp [execOp, hx, hrun]
          rw [this]
          refine hk _ (by simp [grownCap, Question.cut]) _ ?_ ?_ rfl rfl rfl ?_
          · intro b hb
            show (w.heap.push _)[b]? = _
            rw [Array.getElem?_push, if_neg (by omega)]
          · show (w.heap.push _).size = _
            simp
          · refine ⟨((bytesRow st (grownCap w st.size 0 e)).size, (bytesRow st (grownCap w st.size 0 e)).size + 1), ?_⟩
            rw [← hrow]
            show (w.heap.push _)[w.heap.size]? = _
            rw [Array.getElem?_push, if_pos rfl]
        · exact h
      · rename_i e h1 h2
        split at h
        · rename_i he
          simp only [KOp.wp] at h ⊢
          obtain ⟨a, n, c, bs, hx, hl, hk⟩ := h
          have hrun : (Conv.bytesToString (ev ρ x)).run P w = .ok (.string ⟨bs.toArray⟩) w := by
            rw [hx] at hl ⊢
            cases a with
            | none =>
              simp only [dD, Option.some.injEq, Prod.mk.injEq, true_and] at hl
              have : bs = [] := by simpa using hl.symm
              subst this; rfl
            | some a =>
              simp only [dD, Option.map_eq_some_iff, Prod.mk.injEq, true_and] at hl
              obtain ⟨l, hl, rfl⟩ := hl
              have h3 : (loadCells a n).run P w = .ok ((bs.map fun b : UInt8 => (b.toNat : Int)).map (Value.int .u8)).toArray w := by
                have := run_loadCellsFrom (P := P) (n * 1) 0 #[] _ hl
                simp only [Nat.mul_one] at this
                unfold loadCells
                rw [this]
                simp
              rw [run_bytesToString w a n c _ h3, foldl_push_byteCells]
              simp [ByteArray.empty, ByteArray.emptyWithCapacity]; rfl
          have : (execOp (ev ρ) { dst := dst, op := .convert s d x, type := ty, pos := pos, after := after, guard := guard }).run P w = .ok (.value (.string ⟨bs.toArray⟩)) w := by
            have h4 : (convert s d (ev ρ x)).run P w = .ok (.string ⟨bs.toArray⟩) w := by
              rw [hx] at hrun ⊢
              simp [convert, aD h1, aD h2, aD he, hrun]
            simp [execOp, h4]
          rw [this]; exact hk
        · exact h
      · exact h
    all_goals first
      | exact h
      | (exfalso; exact hst rfl)
      | (simp only [aH] at h hst; repeat' split at h
         all_goals first
          | exact h
          | (exfalso; simp only [*] at hst; exact hst rfl))
end
end Go.K
