/- The engine, part 4: operations that write or call; regions.  -/
import Derived.Laws.IdiomStrings
import Derived.Laws.BytesString
import Derived.Below
import Derived.Sort.Grow
import Derived.Deep.Draws
import Derived.Test.YteceapipdhnhdaaGreatDoorProg
import Derived.KernelRfl
import Derived.Test.YteceapipdhnhdaaGreatDoorNa1
set_option linter.unusedVariables false
set_option linter.unusedSimpArgs false
namespace Go.K
section
open Go
variable {P:Program} {ρ:Env} {w:World}
theorem aPv {a:Addr} {v:Value} (h1:v.oneCell'=true) (hc:(w.cell? a).isSome=true) (hf:w.frozen? a=false):(store a v).run P w=.ok () (w.setCell a v):=by
 grind [run_store]
theorem aQg (w:World) (p q:Addr) (u:Value):((w.setCell p u).cell? q).isSome=(w.cell? q).isSome:=by
 grind [World.cell?,World.setCell]
theorem nC {a:Addr}:∀(vs:List Value) (i:Nat) (w:World),(∀v∈vs,v.oneCell'=true)→aS9 w a i vs.length→(storeCells a vs i).run P w=.ok () (jU w a i vs)
 | [],i,w,_,_=>rfl
 |v::vs,i,w,h1,hc=>by
  have h0:=hc i (Nat.le_refl _) (by simp)
  simp only [storeCells,Sem.run_bind,aPv (h1 v (by simp)) h0.1 h0.2,Result.andThen_ok,jU]
  refine nC vs (i+1) _ (fun u hu=>h1 u (by simp [hu])) fun j hj hj2=>?_
  have:=hc j (by omega) (by simp;omega)
  rw [aQg,World.frozen?_setCell]
  exact this
theorem fT {r:Nat} {o:Obj} (h:w.heap[r]? =some o) (hc:∀c t f,o≠.cells c t f):(getObj r).run P w=.ok o w:=by
 grind [getObj,Sem.run]
theorem iO {r:Nat} {o o':Obj} (h:w.heap[r]? =some o) (hc:∀c t f,o≠.cells c t f):(setObj r o').run P w=.ok () (dY w r o'):=by
 unfold setObj
 simp only [Sem.run,h]
 rfl
theorem zeros_length (z:List Value):∀n,(zeros z n).length=n*z.length
 |0=>by simp [zeros]
 |n+1=>by simp [zeros,zeros_length z n,Nat.add_mul];omega
theorem aSu (z:List Value):∀(n i:Nat),i<n*z.length→(zeros z n)[i]? =z[i%z.length]?
 |0,i,h=>by omega
 |n+1,i,h=>by
  simp only [zeros]
  by_cases hi:i<z.length
  ·rw [List.getElem?_append_left hi,Nat.mod_eq_of_lt hi]
  ·rw [List.getElem?_append_right (by omega),aSu z n (i - z.length) (by rw [Nat.add_mul] at h;omega),show i%z.length=(i - z.length)%z.length from Nat.mod_eq_sub_mod (by omega)]
theorem aBx (z:Array Value) (n:Nat) (hz:0<z.size):(Array.range (n*z.size)).map (fun i=>z[i%z.size]!)=(zeros z.toList n).toArray:=by
 apply Array.ext'
 apply List.ext_getElem?
 grind [aSu,zeros_length]
theorem aGq {t:TypeId} {s:Bool} {ks:List CK} {e:TypeId} (h:keyOf P t=some (s,ks,e)):∃k,P.underlying t=some (.map k e)∧iL P 20 k=some ks∧s=xM P k:=by
 unfold keyOf at h
 split at h
 ·rename_i kt et hu
  obtain ⟨ks',hks,heq⟩:=Option.map_eq_some_iff.1 h
  simp only [Prod.mk.injEq] at heq
  obtain ⟨hs,rfl,rfl⟩:=heq
  exact ⟨kt,hu,hks,hs.symm⟩
 grind
theorem aRy {s:Bool} {ks:List CK} {k v:Value} {es:Array MapEntry} {i:Nat} (h:kC s ks k es.toList 0=some (some (i,v))):(Instr.keyThatStays (((es[i]?).map (·.key)).getD k) k).run P w=.ok k w:=by
 obtain ⟨_,e,he,hk,_,hq⟩:=aP0 _ _ _ _ h
 grind [aUn]
theorem eU {es:Array MapEntry} {c:Nat}:∀a b d,Obj.map es c≠.cells a b d:=by simp
theorem aFe {m:Option Nat} {a c:Nat} {s:Array Nat}:∀p q d,Obj.mapIter m a s c≠.cells p q d:=by simp
theorem aQ2 {t:TypeId} {s:Bool} {ks:List CK} {e:TypeId} (hk:keyOf P t=some (s,ks,e)) {r:Nat} {es:Array MapEntry} {clock:Nat} {kv v:Value} {f:Option (Nat × Value)} (hr:w.heap[r]? =some (.map es clock)) (ho:aJh s ks kv=true) (hf:kC s ks kv es.toList 0=some f):
  (Instr.mapUpdate t (.map (some r)) kv v).run P w=.ok () (dY w r (.map (jD es clock kv v f).1 (jD es clock kv v f).2)):=by
 obtain ⟨kt,hu,hks,rfl⟩:=aGq hk
 have hg:=fT (P:=P) hr eU
 have hck:=xI (w:=w) (em:=false) hks ho
 have hfk:=xR (w:=w) hks hf
 simp only [Instr.mapUpdate,Sem.run_bind,aB hu,Result.andThen_ok,hg,hck,hfk]
 cases f with
 |none=>simp [jD,iO hr eU]
 |some p=>
  obtain ⟨i,u⟩:=p
  simp [jD,aRy hf,iO hr eU]
theorem aUo {t:TypeId} {s:Bool} {ks:List CK} {e:TypeId} {z:Value} (hk:keyOf P t=some (s,ks,e)) (hz:zeroOf P e=some z) {r:Nat} {es:Array MapEntry} {clock:Nat} {kv:Value} {f:Option (Nat × Value)} (hr:w.heap[r]? =some (.map es clock)) (ho:aJh s ks kv=true) (hf:kC s ks kv es.toList 0=some f):
  (Instr.mapEntry t (.map (some r)) kv).run P w=match f with
   |some (i,v)=>.ok (.tuple #[v,.int .i64 (((es[i]?).map (·.born)).getD 0:Nat)]) (dY w r (.map (es.modify i fun e=>{e with key:=kv}) clock))
   |none=>.ok (.tuple #[z,.int .i64 (clock:Nat)]) (dY w r (.map (es.push {key:=kv,val:=z,born:=clock}) (clock+1))):=by
 obtain ⟨kt,hu,hks,rfl⟩:=aGq hk
 obtain ⟨inf,hinf,hz'⟩:=Option.bind_eq_some_iff.1 hz
 have hzv:∀w,(zeroValue e).run P w=.ok z w:=fun w=>by simp [zeroValue,bD hinf,hz']
 have hg:=fT (P:=P) hr eU
 have hck:=xI (w:=w) (em:=false) hks ho
 have hfk:=xR (w:=w) hks hf
 simp only [Instr.mapEntry,Sem.run_bind,aB hu,Result.andThen_ok,hg,hck,hfk]
 cases f with
 |none=>simp [hzv,iO hr eU,goInt]
 |some p=>
  obtain ⟨i,u⟩:=p
  simp only [aRy hf,Result.andThen_ok,Sem.run_bind,iO hr eU,Sem.run_pure,goInt]
  grind
theorem bIw {it:Value} {ty:TypeId} {b m since last clock:Nat} {seen:Array Nat} {es:Array MapEntry} {k:Value→World→Prop} (hit:it=.pointer (some ⟨b,0,none⟩)) (hb:w.heap[b]? =some (.mapIter (some m) since seen last)) (hm:w.heap[m]? =some (.map es clock))
  (h1:∀e∈es,e.born<since) (h3:seen.isEmpty=true∨es.isEmpty=true∨∃e∈es,e.born<last)
  (h4:(es.filter fun e=>!seen.contains e.born).isEmpty=true→∀w',(w'=w∨w'=w.drew)→k (.tuple #[.bool false]) w')
  (h5:∀e∈es.filter (fun e=>!seen.contains e.born),∀w',(w'=w∨w'=w.drew)→k (.tuple #[.bool true,e.key,e.val]) (dY w' b (.mapIter (some m) since (seen.push e.born) clock))):
  ∃v w',(Instr.next it false ty).run P w=.ok v w'∧k v w':=by
 subst hit
 have hg1:=fT (P:=P) hb aFe
 have hg2:=fT (P:=P) hm eU
 have hno:(!seen.isEmpty&&!es.isEmpty&&es.all (fun e=>decide (e.born≥last)))=false:=by
  rcases h3 with h|h|⟨e,he,hlt⟩
  ·simp [h]
  ·simp [h]
  ·have:es.all (fun e=>decide (e.born≥last))=false:=by
    refine Bool.eq_false_iff.2 fun h=>?_
    rw [Array.all_eq_true_iff_forall_mem] at h
    have:=h e he
    simp at this;omega
   grind
 have hold:(es.filter fun e=>!seen.contains e.born).filter (fun e=>decide (e.born<since))=es.filter fun e=>!seen.contains e.born:=by
  apply Array.filter_eq_self.2
  intro e he
  have:=h1 e (Array.mem_of_mem_filter he)
  simpa using this
 have hnew:(es.filter fun e=>!seen.contains e.born).filter (fun e=>decide (e.born≥since))=#[]:=by
  apply Array.filter_eq_empty_iff.2
  intro e he
  have:=h1 e (Array.mem_of_mem_filter he)
  simp;omega
 generalize hL:(es.filter fun e=>!seen.contains e.born)=left at*
 unfold Instr.next
 simp only [Sem.run_bind,hg1,hg2,Result.andThen_ok,hno,Bool.false_eq_true,if_false,hL,hold,hnew,Array.append_empty]
 by_cases he:left.isEmpty=true
 ·have:left=#[]:=by simpa using he
  subst this
  refine ⟨_,w,?_,h4 he w (.inl rfl)⟩
  simp [choose,Sem.run,Question.forced]
 ·have hpos:0<left.size:=by
   rcases Nat.eq_zero_or_pos left.size with h|h
   ·simp_all
   ·exact h
  obtain ⟨c,w',hc,hrun,hw'⟩:∃c w',c<left.size∧(choose (.mapNext left.size)).run P w=.ok c w'∧(w'=w∨w'=w.drew):=by
   by_cases hf:left.size≤1
   ·exact ⟨0,w,hpos,by simp [choose,Sem.run,Question.forced,hf],.inl rfl⟩
   ·exact ⟨_,w.drew,Nat.mod_lt _ hpos,by simp [choose,Sem.run,Question.forced,Question.cut,hf];rfl,.inr rfl⟩
  refine ⟨_,_,?_,h5 left[c] (Array.getElem_mem hc) w' hw'⟩
  have hb':w'.heap[b]? =some (.mapIter (some m) since seen last):=by rcases hw' with rfl|rfl<;>exact hb
  simp only [he,Bool.false_eq_true,if_false,Array.empty_append,Array.size_map,hrun,Result.andThen_ok,Array.getElem?_map,Array.getElem?_eq_getElem hc,Option.map_some,Sem.run_bind,iO hb' aFe,Sem.run_pure]
theorem aG3 {a:Addr}:∀(n i:Nat),rdCells w.drew a i n=rdCells w a i n
 |0,_=>rfl
 |n+1,i=>by simp only [rdCells,World.cell?_drew,aG3 n (i+1)]
theorem aHn {size:Nat} {v:Value}:cV w.drew size v=cV w size v:=by
 unfold cV
 grind [aG3]
theorem aSb {size:Nat} {y:Value} {n:Nat} {l:List Value} (h:cV w size y=some (n,l)) (w2:World):(Builtin.lenOf y).run P w2=.ok n w2:=by
 unfold cV at h
 split at h
 ·obtain ⟨_,_,h⟩:=Option.map_eq_some_iff.1 h;simp only [Prod.mk.injEq] at h;obtain ⟨rfl,_⟩:=h;rfl
 ·simp only [Option.some.injEq,Prod.mk.injEq] at h;obtain ⟨rfl,_⟩:=h;rfl
 ·simp only [Option.some.injEq,Prod.mk.injEq] at h;obtain ⟨rfl,_⟩:=h;rfl
 grind
theorem nU {size:Nat} {y:Value} {n:Nat} {l:List Value} (h:cV w size y=some (n,l)):(Builtin.firstCells size n y).run P w=.ok l.toArray w:=by
 unfold cV at h
 split at h
 ·rename_i a m c
  obtain ⟨l',hl,h⟩:=Option.map_eq_some_iff.1 h;simp only [Prod.mk.injEq] at h;obtain ⟨rfl,rfl⟩:=h
  grind [Builtin.firstCells,loadCells,run_loadCellsFrom]
 ·simp only [Option.some.injEq,Prod.mk.injEq] at h;obtain ⟨rfl,rfl⟩:=h;rfl
 ·rename_i s
  simp only [Option.some.injEq,Prod.mk.injEq] at h;obtain ⟨rfl,rfl⟩:=h
  have:s.extract 0 s.size=s:=by
   apply ByteArray.ext;simp
  simp only [Builtin.firstCells,this]
  have e2:(s.data.map fun b=>Value.int .u8 b.toNat)=(mP s).toArray:=by apply Array.ext';simp [mP]
  simp [*]
 grind
theorem bBx {t u ty e : TypeId} {d : TypeDesc} {inf : TypeInfo} {z : Value} (ht : P.underlying t = some (.slice e)) (hu : P.underlying u = some d) (hd : ∀ k, d ≠ .int k) (hinf : P.info? e = some inf) (hz : zeroOf P e = some z)
    (hzs : z.cells.size = inf.size) (hpos : 0 < inf.size) (hb : inf.bytes ≠ 0) {base : Option Addr} {sLen sCap n : Nat} {y : Value} {new : List Value} (hy : cV w inf.size y = some (n, new)) {k : Value → World → Prop}
    (h1 : sLen + n ≤ sCap → match base with
        | some a => (∀ v ∈ new, v.oneCell' = true) ∧ aS9 w (a.add (sLen * inf.size)) 0 new.length ∧ k (.slice base (sLen + n) sCap) (jU w (a.add (sLen * inf.size)) 0 new)
        | none => k (.slice base (sLen + n) sCap) w)
    (h2 : sCap < sLen + n → ∃ old, cV w inf.size (.slice base sLen sCap) = some (sLen, old) ∧ Builtin.nextslicecap (sLen + n) sCap * inf.bytes ≤ 2 ^ 48 ∧
          ∀ c, sLen + n ≤ c → k (.slice (some ⟨w.heap.size, 0, none⟩) (sLen + n) c) (w.drew.alloc (.cells (old ++ new ++ zeros z.cells.toList (c - (sLen + n))).toArray e))) :
    ∃ v w', (Builtin.append_ #[t, u] ty #[.slice base sLen sCap, y]).run P w = .ok v w' ∧ k v w' := by
  have hzv : ∀ w, (zeroValue e).run P w = .ok z w := fun w => by
    obtain ⟨inf', hinf', hz'⟩ := Option.bind_eq_some_iff.1 hz
    simp [zeroValue, bD hinf', hz']
  have hl := aSb (P := P) hy
  by_cases hc : sLen + n ≤ sCap
  · have h1' := h1 hc
    cases base with
    | none =>
      refine ⟨_, w, ?_, h1'⟩
      simp [Builtin.append_, aB ht, bX hinf, aB hu, hl, hc, nU hy]
    | some a =>
      obtain ⟨hone, hcan, hk⟩ := h1'
      refine ⟨_, _, ?_, hk⟩
      have hst := nC (P := P) (a := a.add (sLen * inf.size)) new 0 w hone hcan
      simp [Builtin.append_, aB ht, bX hinf, aB hu, hl, hc, nU hy, hst]
  · obtain ⟨old, hold, hcap, hk⟩ := h2 (by omega)
    obtain ⟨c, hc3⟩ : ∃ c, c = grownCap w (sLen + n) sCap e := ⟨_, rfl⟩
    have hc1 : sLen + n ≤ c := by rw [hc3]; simp [grownCap, Question.cut]
    refine ⟨_, _, ?_, hk c hc1⟩
    have f1 := nU (P := P) (w := w.drew) (size := inf.size) (y := .slice base sLen sCap) (by rw [aHn]; exact hold)
    have f2 := nU (P := P) (w := w.drew) (size := inf.size) (y := y) (by rw [aHn]; exact hy)
    have hr : Builtin.zeroCells z.cells (c - (sLen + n)) = (zeros z.cells.toList (c - (sLen + n))).toArray := by
      unfold Builtin.zeroCells
      exact aBx z.cells _ (by omega)
    have hnc : ¬ (281474976710656 < Builtin.nextslicecap (sLen + n) sCap * inf.bytes) := by omega
    simp [Builtin.append_, aB ht, bX hinf, aB hu, hl, hc, f1, f2, bD hinf, hb, hzv, hnc, newRow, Question.forced]
    rw [hc3] at hr ⊢
    unfold grownCap at hr ⊢
    rw [hr]
    simp
theorem aIg {a:Addr}:∀(n i m:Nat) (l:List Value),rdCells w a i n=some l→m≤n→rdCells w a i m=some (l.take m)
 |n,i,0,l,_,_=>by rfl
 |n+1,i,m+1,l,h,hm=>by
  simp only [rdCells,Option.bind_eq_some_iff,Option.map_eq_some_iff] at h
  obtain ⟨v,hv,r,hr,rfl⟩:=h
  simp [rdCells,hv,aIg n (i+1) m r hr (by omega)]
theorem aM6 {size:Nat} {y:Value} {n m:Nat} {l:List Value} (h:cV w size y=some (n,l)) (hs:(∃a m c,y=.slice a m c)∨size=1) (hm:m≤n):(Builtin.firstCells size m y).run P w=.ok (l.take (m*size)).toArray w:=by
 unfold cV at h
 split at h
 ·rename_i a n' c
  obtain ⟨l',hl,h⟩:=Option.map_eq_some_iff.1 h;simp only [Prod.mk.injEq] at h;obtain ⟨rfl,rfl⟩:=h
  grind [aIg,Nat.mul_le_mul_right,Builtin.firstCells,loadCells,run_loadCellsFrom]
 ·simp only [Option.some.injEq,Prod.mk.injEq] at h;obtain ⟨rfl,rfl⟩:=h;simp [Builtin.firstCells]
 ·rename_i s
  simp only [Option.some.injEq,Prod.mk.injEq] at h;obtain ⟨rfl,rfl⟩:=h
  rcases hs with ⟨a,m',c,hs⟩|rfl
  ·cases hs
  ·have e2:((s.extract 0 m).data.map fun b=>Value.int .u8 b.toNat)=((mP s).take (m*1)).toArray:=by
    apply Array.ext'
    simp [mP,ByteArray.data_extract]
   simp only [Builtin.firstCells,e2];rfl
 grind
theorem bDw {t:TypeId} {v rv:Value} {name:String} {f:FuncId} (h:sY P t v name=some (f,rv)):(method (P.types.size+Made.depth) t v name).run P w=.ok (f,rv) w:=by
 unfold sY at h
 split at h
 ·rename_i i d hi hu
  split at h
  ·rename_i m hm
   have e:P.types.size+Made.depth=(P.types.size+99)+1:=rfl
   rw [e]
   generalize P.types.size+99=fuel
   obtain ⟨mn,ms,path,func⟩:=m
   obtain ⟨path⟩:=path
   cases path with
   |cons a b=>grind
   |nil=>
    rcases func with _|⟨g,_|_⟩
    ·grind
    ·cases d<;>simp only [Option.some.injEq,Prod.mk.injEq,reduceCtorEq] at h<;>obtain ⟨rfl,rfl⟩:=h<;>
      simp [method,follow,receiverAt,Place.get,bD hi,hm,aB hu]
    ·cases d<;>simp only [Option.some.injEq,Prod.mk.injEq,reduceCtorEq] at h<;>obtain ⟨rfl,rfl⟩:=h<;>
      simp [method,follow,receiverAt,Place.get,bD hi,hm,aB hu]
  grind
 grind
theorem bIz [Quiet P] (o : Oper) (k : Value → World → Prop) (h : (aI P o).wp P ρ w k) : (KOp.raw o).wp P ρ w k := by
  by_cases hst : (aI P o).isStill = true
  · have h2 : ∃ v, (aI P o).rd ρ w = some v ∧ k v w := by
      generalize aI P o = ko at h hst
      cases ko <;> first | exact h | (simp [KOp.isStill, KOp.isFix] at hst; done)
    obtain ⟨v, hv, hk⟩ := h2
    rcases pP o v hst hv with hr | ⟨hr, rfl⟩ | ⟨f, az, hr, hc⟩
    · grind [KOp.wp]
    · grind [KOp.wp]
    · simp only [KOp.wp, hr]; exact hc.mono fun e w'' ⟨he, hw⟩ => ⟨v, he, by simp [*]⟩
  · obtain ⟨dst, op, ty, pos, after, guard⟩ := o
    cases op
    case box t x =>
      simp only [aI, KOp.wp] at h ⊢
      have : (execOp (ev ρ) { dst := dst, op := .box t x, type := ty, pos := pos, after := after, guard := guard }).run P w = .ok (.value (.pointer (some ⟨w.heap.size, 0, none⟩))) (w.alloc (.cells (ev ρ x).cells t)) := by
        simp [execOp, Instr.box, newVar, newRow]
      simp [*]
    case alloc t =>
      simp only [aI] at h
      split at h
      · rename_i inf hinf
        split at h
        · rename_i z hz
          simp only [KOp.wp] at h ⊢
          have hzv : (zeroValue t).run P w = .ok z w := by simp [zeroValue, bD hinf, hz]
          have : (execOp (ev ρ) { dst := dst, op := .alloc t, type := ty, pos := pos, after := after, guard := guard }).run P w = .ok (.value (.pointer (some ⟨w.heap.size, 0, none⟩))) (w.alloc (.cells z.cells t)) := by
            simp [execOp, Instr.alloc, hzv, newVar, newRow]
          simp [*]
        · exact h
      · exact h
    case store t x y =>
      have fin : ∀ {w' : World} (a : Addr), ev ρ x = .pointer (some a) → (storeVar t a (ev ρ y)).run P w = .ok () w' →
          (execOp (ev ρ) { dst := dst, op := .store t x y, type := ty, pos := pos, after := after, guard := guard }).run P w = .ok .skip w' := by
        intro w' a hx hr
        simp [execOp, Instr.storeAt, hx, kY, hr]
      simp only [aI] at h
      split at h
      · rename_i n _ hn
        simp only [KOp.wp] at h ⊢
        obtain ⟨a, vs, hx, hy, hsz, h1, hc, hk⟩ := h
        have hs := (sH hn w).2
        rw [fin a hx (w' := jU w a 0 vs.toList)]
        · exact hk
        · have := nC (P := P) (a := a) vs.toList 0 w h1 (by simp [*])
          simp [storeVar, hs, hy, Value.cells, hsz, this]
      · rename_i inf hn hinf
        split at h
        · rename_i hone
          simp only [KOp.wp] at h ⊢
          obtain ⟨a, hx, h1, hc, hf, hk⟩ := h
          rw [fin a hx (w' := w.setCell a (ev ρ y))]
          · exact hk
          · have hcell : (ev ρ y).cells = #[ev ρ y] := by
              generalize ev ρ y = v at h1
              cases v <;> first | rfl | grind [Value.oneCell']
            have h3 := aPv (P := P) h1 hc hf
            simp [storeVar, bX hinf, hone, hcell, storeCells, add_zero, h3]
        omega
      omega
    case call c =>
      obtain ⟨callee, args, argTypes⟩ := c
      have enter : ∀ (f : FuncId) (vs : Array Value), bW P f = true → (callFunc f vs).run P w = .ok (.enter f vs) w := by
        intro f vs hb
        unfold bW at hb
        split at hb
        · rename_i fn hfn
          simp only [Bool.and_eq_true, Bool.not_eq_true'] at hb
          have hne : fn.name ≠ "runtime.NumGoroutine" := by simpa using hb.2
          have hbn : fn.body ≠ none := by intro hn; rw [hn] at hb; simp at hb
          simp [callFunc, hfn, hne, hbn]
        · cases hb
      cases callee with
      | value fo =>
        cases fo with
        | func f =>
          simp only [aI] at h
          split at h
          · rename_i hb
            cases hq : Quiet.tab P f with
            | some F => rw [hq] at h; simp only [aI, if_pos hb, hq] at hst; exact absurd rfl hst
            | none =>
            rw [hq] at h
            simp only [KOp.wp] at h ⊢
            have : (execOp (ev ρ) { dst := dst, op := .call { callee := .value (.func f), args := args, argTypes := argTypes }, type := ty, pos := pos, after := after, guard := guard }).run P w = .ok (.enter f (args.toList.map (ev ρ)).toArray) w := by
              simp only [execOp, resolve, ev, Deferred.ofValue, Sem.run_bind, Sem.run_pure, Result.andThen_ok, invoke]
              rw [aYa]
              simpa using enter f _ hb
            simp [*]
          omega
        | tmp t =>
          simp only [aI, KOp.wp] at h ⊢
          obtain ⟨f, first, cap, hx, hb, hc⟩ := h
          have : (execOp (ev ρ) { dst := dst, op := .call { callee := .value (.tmp t), args := args, argTypes := argTypes }, type := ty, pos := pos, after := after, guard := guard }).run P w = .ok (.enter f (first ++ (args.toList.map (ev ρ)).toArray ++ cap)) w := by
            simp only [execOp, resolve, hx, Deferred.ofValue, Sem.run_bind, Sem.run_pure, Result.andThen_ok, invoke]
            rw [aYa]
            simpa using enter f _ hb
          simp_all
        | const v => exact h
        | global g => exact h
      | invoke r m =>
        simp only [aI, KOp.wp] at h ⊢
        obtain ⟨t, v, f, rv, hx, hm, hb, hc⟩ := h
        have : (execOp (ev ρ) { dst := dst, op := .call { callee := .invoke r m, args := args, argTypes := argTypes }, type := ty, pos := pos, after := after, guard := guard }).run P w = .ok (.enter f (rv :: args.toList.map (ev ρ)).toArray) w := by
          have h1 := bDw (w := w) hm
          have h2 : ∀ a : Array Value, #[rv] ++ (#[Value.iface t v] ++ a).extract 1 (#[Value.iface t v] ++ a).size = (rv :: a.toList).toArray := by
            intro a
            apply Array.ext'
            simp
          simp only [execOp, resolve, hx, Sem.run_bind, Sem.run_pure, Result.andThen_ok, invoke]
          rw [aYa]
          have h3 : (#[Value.iface t v] ++ (args.toList.map (ev ρ)).toArray)[0]? = some (Value.iface t v) := by simp
          simp only [h3, callMethod, Sem.run_bind, h2, run_program, Result.andThen_ok, h1, enter f _ hb]
        simp [*]
      | builtin b =>
        cases b
        case len =>
          simp only [aI] at h hst
          split at h
          · rename_i x t hx ht
            simp only [hx, ht] at hst
            split at h
            · rename_i hu; rw [hu] at hst; exact absurd rfl hst
            · rename_i hu; rw [hu] at hst; exact absurd rfl hst
            · rename_i hu; rw [hu] at hst; exact absurd rfl hst
            omega
          omega
        case cap =>
          simp only [aI] at h hst
          repeat' split at h
          all_goals first
            | exact h
            | (exfalso; simp only [*] at hst; exact hst rfl)
        case delete =>
          simp only [aI] at h
          split at h
          · rename_i m kk t rest hx ht
            split at h
            · rename_i s ks e hk
              simp only [KOp.wp] at h ⊢
              obtain ⟨r, es, clock, f, hm, hr, ho, hf, hkk⟩ := h
              have ea : args = #[m, kk] := by apply Array.ext'; simpa using hx
              have et : argTypes[0]? = some t := by rw [← Array.getElem?_toList, ht]; rfl
              subst ea
              obtain ⟨kt, hu, hks, rfl⟩ := aGq hk
              have hck := xI (w := w) (em := es.isEmpty) hks ho
              have hfk := xR (w := w) hks hf
              cases f with
              | none =>
                have : (execOp (ev ρ) { dst := dst, op := .call { callee := .builtin .delete, args := #[m, kk], argTypes := argTypes }, type := ty, pos := pos, after := after, guard := guard }).run P w = .ok (.value (.tuple #[])) (dY w r (.map es clock)) := by
                  simp [execOp, resolve, invoke, builtin, Builtin.delete_, et, hm, aB hu, fT hr eU, hck, hfk, iO hr eU]
                rw [this]; omega
              | some p =>
                obtain ⟨i, v⟩ := p
                have : (execOp (ev ρ) { dst := dst, op := .call { callee := .builtin .delete, args := #[m, kk], argTypes := argTypes }, type := ty, pos := pos, after := after, guard := guard }).run P w = .ok (.value (.tuple #[])) (dY w r (.map (es.eraseIdxIfInBounds i) clock)) := by
                  simp [execOp, resolve, invoke, builtin, Builtin.delete_, et, hm, aB hu, fT hr eU, hck, hfk, iO hr eU]
                rw [this]; omega
            omega
          omega
        case append =>
          simp only [aI] at h
          split at h
          · rename_i x y t u hx ht
            have ea : args = #[x, y] := by apply Array.ext'; simpa using hx
            have et : argTypes = #[t, u] := by apply Array.ext'; simpa using ht
            subst ea; subst et
            split at h
            · exact h
            · rename_i e d hni hte hue
              split at h
              · rename_i inf z hinf hz
                split at h
                · rename_i hcond
                  obtain ⟨hzs, hpos, hb⟩ := hcond
                  simp only [KOp.wp] at h ⊢
                  obtain ⟨base, sLen, sCap, n, new, hxv, hy, h1, h2⟩ := h
                  obtain ⟨v, w', hrun, hk⟩ := bBx (P := P) (ty := ty) hte hue (fun k hk => hni _ hk) hinf hz hzs hpos hb hy h1 h2
                  have : (execOp (ev ρ) { dst := dst, op := .call { callee := .builtin .append, args := #[x, y], argTypes := #[t, u] }, type := ty, pos := pos, after := after, guard := guard }).run P w = .ok (.value v) w' := by
                    simp [execOp, resolve, invoke, builtin, hxv, hrun]
                  rw [this]; exact hk
                omega
              omega
            omega
          omega
        case copy =>
          simp only [aI] at h
          split at h
          · rename_i x y t rest hx ht
            split at h
            · rename_i e hu
              split at h
              · rename_i inf hinf
                simp only [KOp.wp] at h ⊢
                obtain ⟨base, dLen, cap, n, new, hxv, hy, hs, hone, hcan, hk⟩ := h
                have ea : args = #[x, y] := by apply Array.ext'; simpa using hx
                have et : argTypes[0]? = some t := by rw [← Array.getElem?_toList, ht]; rfl
                subst ea
                have hl := aSb (P := P) hy w
                have hfc := aM6 (P := P) (m := min n dLen) hy hs (Nat.min_le_left _ _)
                cases base with
                | none =>
                  have : (execOp (ev ρ) { dst := dst, op := .call { callee := .builtin .copy, args := #[x, y], argTypes := argTypes }, type := ty, pos := pos, after := after, guard := guard }).run P w = .ok (.value (.int .i64 (min n dLen : Nat))) w := by
                    simp [execOp, resolve, invoke, builtin, Builtin.copy_, et, hxv, aB hu, hl, bX hinf, hfc, goInt]
                  rw [this]; exact hk
                | some a =>
                  have hst := nC (P := P) (a := a) (new.take (min n dLen * inf.size)) 0 w (fun v hv => hone v (List.mem_of_mem_take hv)) (by
                    have hc := hcan a rfl
                    intro j h1 h2
                    refine hc j h1 ?_
                    have := List.length_take_le (min n dLen * inf.size) new
                    omega)
                  have : (execOp (ev ρ) { dst := dst, op := .call { callee := .builtin .copy, args := #[x, y], argTypes := argTypes }, type := ty, pos := pos, after := after, guard := guard }).run P w = .ok (.value (.int .i64 (min n dLen : Nat))) (jU w a 0 (new.take (min n dLen * inf.size))) := by
                    simp [execOp, resolve, invoke, builtin, Builtin.copy_, et, hxv, aB hu, hl, bX hinf, hfc, goInt, hst]
                  rw [this]; exact hk
              omega
            omega
          omega
        case min => simp only [aI] at h hst; split at h <;> first | exact h | (rename_i hx; rw [hx] at hst; exact absurd rfl hst)
        case max => simp only [aI] at h hst; split at h <;> first | exact h | (rename_i hx; rw [hx] at hst; exact absurd rfl hst)
        all_goals exact h
    case panic x => simp only [aI, KOp.wp] at h
    case unOp op t x => cases op <;> first | exact h | exact absurd rfl hst
    case slice t x lo hi mx =>
      cases mx with
      | some m => exact h
      | none =>
        simp only [aI] at h hst; repeat' split at h
        all_goals first
          | exact h
          | (exfalso; simp only [*] at hst; exact hst rfl)
    case mapUpdate t m kk v =>
      simp only [aI] at h
      split at h
      · rename_i s ks e hk
        simp only [KOp.wp] at h ⊢
        obtain ⟨r, es, clock, f, hm, hr, ho, hf, hkk⟩ := h
        have hrun := aQ2 (P := P) (t := t) (v := ev ρ v) hk hr ho hf
        have : (execOp (ev ρ) { dst := dst, op := .mapUpdate t m kk v, type := ty, pos := pos, after := after, guard := guard }).run P w = .ok .skip (dY w r (.map (jD es clock (ev ρ kk) (ev ρ v) f).1 (jD es clock (ev ρ kk) (ev ρ v) f).2)) := by
          simp [execOp, hm, hrun]
        simp [*]
      · exact h
    case mapEntry t m kk =>
      simp only [aI] at h
      split at h
      · rename_i s ks e hk
        split at h
        · rename_i z hz
          simp only [KOp.wp] at h ⊢
          obtain ⟨r, es, clock, f, hm, hr, ho, hf, hkk⟩ := h
          have hrun := aUo (P := P) (t := t) hk hz hr ho hf
          grind [execOp,Sem.run_bind,Result.andThen_ok,Sem.run_pure]
        · exact h
      · exact h
    case entryStore t m s v =>
      simp only [aI, KOp.wp] at h ⊢
      obtain ⟨r, es, clock, kd, n, i, hm, hr, hs, hi, hkk⟩ := h
      have : (execOp (ev ρ) { dst := dst, op := .entryStore t m s v, type := ty, pos := pos, after := after, guard := guard }).run P w = .ok .skip (dY w r (.map (es.modify i fun e => { e with val := ev ρ v }) clock)) := by
        simp only [execOp, Instr.entryStore, hm, hs, Sem.run_bind, fT hr eU, Result.andThen_ok, asInt, asIntOf, Sem.run_pure, hi, iO hr eU]
      simp [*]
    case makeMap t r =>
      cases r with
      | some x => exact h
      | none =>
        simp only [aI, KOp.wp] at h ⊢
        have : (execOp (ev ρ) { dst := dst, op := .makeMap t none, type := ty, pos := pos, after := after, guard := guard }).run P w = .ok (.value (.map (some w.heap.size))) (w.alloc (.map #[] 0)) := by
          simp [execOp, Instr.makeMap]
        simp [*]
    case range t x =>
      simp only [aI] at h
      split at h
      · rename_i kt e hu
        simp only [KOp.wp] at h ⊢
        obtain ⟨r, es, clock, hx, hr, hk⟩ := h
        have : (execOp (ev ρ) { dst := dst, op := .range t x, type := ty, pos := pos, after := after, guard := guard }).run P w = .ok (.value (.pointer (some ⟨w.heap.size, 0, none⟩))) (w.alloc (.mapIter (some r) clock #[] clock)) := by
          simp [execOp, Instr.range, hx, aB hu, fT hr eU]
        simp [*]
      · exact h
    case next it b =>
      cases b with
      | true => exact h
      | false =>
        simp only [aI, KOp.wp] at h ⊢
        obtain ⟨b, m, since, seen, last, es, clock, hit, hb, hm, h1, h2, h3, h4, h5⟩ := h
        obtain ⟨v, w', hr, hk⟩ := bIw (P := P) (ty := ty) hit hb hm h1 h3 h4 h5
        have : (execOp (ev ρ) { dst := dst, op := .next it false, type := ty, pos := pos, after := after, guard := guard }).run P w = .ok (.value v) w' := by
          simp [execOp, hr]
        simp [*]
    case entry it =>
      simp only [aI, KOp.wp] at h ⊢
      obtain ⟨b, m, since, seen, stepped, st, es, e, hit, hb, hs, hm, hf, hk⟩ := h
      have : (execOp (ev ρ) { dst := dst, op := .entry it, type := ty, pos := pos, after := after, guard := guard }).run P w = .ok (.value (.tuple #[e.key, e.val])) w := by
        simp [execOp, Instr.entry, hit, fT hb aFe, hs, fT hm eU, hf]
      simp [*]
    case buildSlice t ln parts =>
      simp only [aI] at h
      split at h
      · rename_i e hu
        split at h
        · rename_i inf z hinf hz
          split at h
          · rename_i hcond
            obtain ⟨h24, hzs, hpos, hall⟩ := hcond
            simp only [KOp.wp] at h ⊢
            obtain ⟨cs, hcs, hk⟩ := h
            obtain ⟨inf', hinf', hz'⟩ := Option.bind_eq_some_iff.1 hz
            have hzv : (zeroValue e).run P w = .ok z w := by simp [zeroValue, bD hinf', hz']
            have hzl := zeros_length z.cells.toList ln
            simp only [Array.length_toList, hzs] at hzl
            have hfill := aQb (ρ := ρ) (place := fun i => some (i * inf.size, inf.size)) (off := fun i => i * inf.size) (sz := fun _ => inf.size) parts.toList (zeros z.cells.toList ln).toArray cs
              (fun p hp => ⟨rfl, by
                grind⟩) (by omega)
            have hrun : (Instr.buildSlice t ln (parts.map fun p => (p.1, ev ρ p.2))).run P w = .ok (.slice (some ⟨w.heap.size, 0, none⟩) ln ln) (w.alloc (.cells cs.toArray e)) := by
              have e3 : (parts.map fun p => (p.1, ev ρ p.2)).toList = parts.toList.map fun p => (p.1, ev ρ p.2) := by simp
              have hn24 : ¬ (ln * inf.size > 2 ^ 24) := by omega
              by_cases h0 : ln * inf.size = 0
              · have hln : ln = 0 := by
                  rcases Nat.mul_eq_zero.1 h0 with h | h
                  · exact h
                  · omega
                subst hln
                have hp0 : parts.toList = [] := by
                  rcases hpl : parts.toList with _ | ⟨p, r⟩
                  · rfl
                  · have := List.all_eq_true.1 hall p (by rw [hpl]; simp)
                    have h5 : 0 < (p.1 + 1) * inf.size := Nat.mul_pos (by omega) hpos
                    simp only [Nat.zero_mul, decide_eq_true_eq] at this
                    omega
                have hcs0 : cs = [] := by
                  rw [hp0] at hcs; simpa [qI, zeros] using hcs.symm
                subst hcs0
                have hpe : parts = #[] := by apply Array.ext'; simpa using hp0
                subst hpe
                simp [Instr.buildSlice, aB hu, bX hinf, Instr.fill, newRow, show Array.range 0 = #[] from rfl]
              · have hz2 : (Array.range (ln * inf.size)).map (fun i => z.cells[i % z.cells.size]!) = (zeros z.cells.toList ln).toArray := by
                  rw [← hzs]; exact aBx z.cells ln (by omega)
                simp only [Instr.buildSlice, Sem.run_bind, aB hu, bX hinf, Result.andThen_ok, if_neg hn24, if_neg h0, hzv, Sem.run_pure, hz2, e3, hfill, newRow, run_newObj]
                rfl
            have : (execOp (ev ρ) { dst := dst, op := .buildSlice t ln parts, type := ty, pos := pos, after := after, guard := guard }).run P w = .ok (.value (.slice (some ⟨w.heap.size, 0, none⟩) ln ln)) (w.alloc (.cells cs.toArray e)) := by
              simp [execOp, hrun]
            simp [*]
          · exact h
        · exact h
      · exact h
    case makeSlice t l c =>
      simp only [aI] at h
      split at h
      · rename_i e hu
        split at h
        · rename_i inf z hinf hz
          split at h
          · rename_i hcond
            obtain ⟨hzs, hpos⟩ := hcond
            simp only [KOp.wp] at h ⊢
            obtain ⟨kd, ke, lv, cv, hl, hc, h0, h1, h2, h3, hk⟩ := h
            obtain ⟨inf', hinf', hz'⟩ := Option.bind_eq_some_iff.1 hz
            have hzv : (zeroValue e).run P w = .ok z w := by simp [zeroValue, bD hinf', hz']
            have wl : IntKind.i64.wrap lv = lv := IntWalk.i64_in _ (by omega)
            have wc : IntKind.i64.wrap cv = cv := IntWalk.i64_in _ (by omega)
            have hrun : (Instr.makeSlice t (ev ρ l) (ev ρ c)).run P w = .ok (.slice (some ⟨w.heap.size, 0, none⟩) lv.toNat cv.toNat) (w.alloc (.cells (zeros z.cells.toList cv.toNat).toArray e)) := by
              have hg : ¬ ((decide (cv < 0) || decide ((inf.bytes : Int) * cv > 2 ^ 48)) || decide (lv < 0) || decide (lv > cv)) = true := by
                simp; omega
              by_cases hn0 : cv.toNat * inf.size = 0
              · have hcn : cv.toNat = 0 := by
                  rcases Nat.mul_eq_zero.1 hn0 with h | h
                  · exact h
                  · omega
                simp only [Instr.makeSlice, hl, hc, asInt, asIntOf, Sem.run_bind, aB hu, Result.andThen_ok, Sem.run_pure, bD hinf, wl, wc, if_neg hg, run_askRoom, bX hinf, if_pos hn0, newRow, run_newObj]
                rw [hcn]
                simp [zeros, show Array.range 0 = #[] from rfl]
              · have hz2 : (Array.range (cv.toNat * inf.size)).map (fun i => z.cells[i % z.cells.size]!) = (zeros z.cells.toList cv.toNat).toArray := by
                  rw [← hzs]; exact aBx z.cells cv.toNat (by omega)
                simp only [Instr.makeSlice, hl, hc, asInt, asIntOf, Sem.run_bind, aB hu, Result.andThen_ok, Sem.run_pure, bD hinf, wl, wc, if_neg hg, run_askRoom, bX hinf, if_neg hn0, hzv, newRow, run_newObj, hz2]
                rfl
            have : (execOp (ev ρ) { dst := dst, op := .makeSlice t l c, type := ty, pos := pos, after := after, guard := guard }).run P w = .ok (.value (.slice (some ⟨w.heap.size, 0, none⟩) lv.toNat cv.toNat)) (w.alloc (.cells (zeros z.cells.toList cv.toNat).toArray e)) := by
              simp [execOp, hrun]
            rw [this]; exact hk
          · exact h
        · exact h
      · exact h
    case convert s d x =>
      simp only [aI] at h hst
      split at h
      · rename_i h1 h2; rw [h1, h2] at hst; exact absurd rfl hst
      · rename_i h1 h2; rw [h1, h2] at hst; exact absurd rfl hst
      · rename_i e h1 h2
        split at h
        · rename_i he
          simp only [KOp.wp] at h ⊢
          obtain ⟨st, hx, hk⟩ := h
          have hrun := run_bytes_of_string w s d e st h1 h2 he
          have hrow : bytesRow st (grownCap w st.size 0 e) = (mP st ++ List.replicate (grownCap w st.size 0 e - st.size) (Value.int .u8 0)).toArray := by
            apply Array.ext'; simp [bytesRow, mP]
          have : (execOp (ev ρ) { dst := dst, op := .convert s d x, type := ty, pos := pos, after := after, guard := guard }).run P w = .ok (.value (.slice (some ⟨w.heap.size, 0, none⟩) st.size (grownCap w st.size 0 e)))
              (w.drew.alloc (.cells (bytesRow st (grownCap w st.size 0 e)) e ((bytesRow st (grownCap w st.size 0 e)).size, (bytesRow st (grownCap w st.size 0 e)).size + 1))) := by
            simp [execOp, hx, hrun]
          rw [this]
          refine hk _ (by simp [grownCap, Question.cut]) _ ?_ ?_ rfl rfl rfl ?_
          · intro b hb
            show (w.heap.push _)[b]? = _
            grind
          · simp
          · refine ⟨((bytesRow st (grownCap w st.size 0 e)).size, (bytesRow st (grownCap w st.size 0 e)).size + 1), ?_⟩
            rw [← hrow]
            show (w.heap.push _)[w.heap.size]? = _
            simp
        · exact h
      · rename_i e h1 h2
        split at h
        · rename_i he
          simp only [KOp.wp] at h ⊢
          obtain ⟨a, n, c, bs, hx, hl, hk⟩ := h
          have hrun : (Conv.bytesToString (ev ρ x)).run P w = .ok (.string ⟨bs.toArray⟩) w := by
            rw [hx] at hl ⊢
            cases a with
            | none =>
              simp only [cV, Option.some.injEq, Prod.mk.injEq, true_and] at hl
              have : bs = [] := by simpa using hl.symm
              subst this; rfl
            | some a =>
              simp only [cV, Option.map_eq_some_iff, Prod.mk.injEq, true_and] at hl
              obtain ⟨l, hl, rfl⟩ := hl
              have h3 : (loadCells a n).run P w = .ok ((bs.map fun b : UInt8 => (b.toNat : Int)).map (Value.int .u8)).toArray w := by
                have := run_loadCellsFrom (P := P) (n * 1) 0 #[] _ hl
                simp only [Nat.mul_one] at this
                unfold loadCells
                rw [this]
                simp
              rw [run_bytesToString w a n c _ h3, foldl_push_byteCells]
              simp
          have : (execOp (ev ρ) { dst := dst, op := .convert s d x, type := ty, pos := pos, after := after, guard := guard }).run P w = .ok (.value (.string ⟨bs.toArray⟩)) w := by
            have h4 : (convert s d (ev ρ x)).run P w = .ok (.string ⟨bs.toArray⟩) w := by
              rw [hx] at hrun ⊢
              simp [convert, aB h1, aB h2, aB he, hrun]
            simp [execOp, h4]
          simp [*]
        · exact h
      · exact h
    all_goals first
      | exact h
      | (exfalso; exact hst rfl)
      | (simp only [aI] at h hst; repeat' split at h
         all_goals first
          | exact h
          | (exfalso; simp only [*] at hst; exact hst rfl))
end
section
open Go
variable {P:Program}
structure KI where
 dst:Option Tmp
 op:KOp
 guard:Option (Tmp × Bool)
def lG (ρ:Env):Option (Tmp × Bool)→Bool
 |none=>true
 |some (t,b)=>match ρ t with
  |.bool c=>c==b
  |_=>false
inductive KR where
 |nil
 |cons (i:KI) (r:KR)
 |both (a b:KR)
 |join (a b:KR)
def aH (P:Program):KR→(Env→World→Prop)→Env→World→Prop
 |.nil,K,ρ,w=>K ρ w
 |.both a b,K,ρ,w=>aH P a K ρ w∧aH P b K ρ w
 |.join a b,K,ρ,w=>aH P a (aH P b K) ρ w
 |.cons i rest,K,ρ,w=>if lG ρ i.guard=true then i.op.wp P ρ w (fun v w'=>aH P rest K (put ρ i.dst v) w') else aH P rest K (put ρ i.dst undef) w
def bAs:Op→Bool
 |.select ..=>true
 |_=>false
def kW (P:Program) [Quiet P] (n:Nat) (ops:Array Oper) (o:Oper):Option KI:=
 if o.op.operands.toList.all (aKj n)&&(match o.dst with|some d=>decide (d<n)|none=>true)&&!bAs o.op then
  match o.guard with
  |none=>some ⟨o.dst,aI P o,none⟩
  |some (g,b)=>match (ops[g]?).bind (·.dst) with
   |some t=>if t<n then some ⟨o.dst,aI P o,some (t,b)⟩ else none
   |none=>none
 else none
def yJ (P:Program) [Quiet P] (n:Nat) (ops:Array Oper):List Oper→Option KR
 | []=>some .nil
 |o::r=>(kW P n ops o).bind fun i=>(yJ P n ops r).map (.cons i ·)
structure Fits (P:Program) [Quiet P] (n:Nat) (ops:Array Oper) (o:Oper) (i:KI):Prop where
 dst:i.dst=o.dst
 op:i.op=aI P o
 lt:∀t,o.dst=some t→t<n
 opers:∀x∈o.op.operands,aKj n x=true
 sel:∀cs b,o.op≠.select cs b
 want:∀a ρ,Rep n a ρ→Region.wanted o (yielded ops a.tmps)=lG ρ i.guard
theorem aD0 [Quiet P] {n:Nat} {ops:Array Oper} {o:Oper} {i:KI} (h:kW P n ops o=some i):Fits P n ops o i:=by
 unfold kW at h
 rw [Option.ite_none_right_eq_some] at h
 obtain ⟨hc,h⟩:=h
 ·simp only [Bool.and_eq_true,Bool.not_eq_true',List.all_eq_true] at hc
  obtain ⟨⟨h1,h2⟩,h3⟩:=hc
  have lt:∀t,o.dst=some t→t<n:=by
   intro t ht;rw [ht] at h2;simpa using h2
  have opers:∀x∈o.op.operands,aKj n x=true:=fun x hx=>h1 x (by simp [*])
  have sel:∀cs b,o.op≠.select cs b:=by intro cs b e;rw [e] at h3;simp [bAs] at h3
  split at h
  ·rename_i hg
   simp only [Option.some.injEq] at h;subst h
   exact ⟨rfl,rfl,lt,opers,sel,fun a ρ _=>by simp [Region.wanted,hg,lG]⟩
  ·rename_i g b hg
   split at h
   ·rename_i t ht
    split at h
    ·rename_i htn
     simp only [Option.some.injEq] at h;subst h
     refine ⟨rfl,rfl,lt,opers,sel,fun a ρ hr=>?_⟩
     simp only [Region.wanted,hg,lG,yielded,ht,Option.bind_some,hr.at_ t htn]
     grind
    grind
   grind
theorem Fits.exec [Quiet P] {n:Nat} {ops:Array Oper} {o:Oper} {i:KI} (h:Fits P n ops o i) {a:Act} {ρ:Env} (hr:Rep n a ρ):execOp a.eval o=execOp (ev ρ) o:=
 execOp_congr o h.sel fun x hx=>hr.eval (h.opers x hx)
theorem Fits.put [Quiet P] {n:Nat} {ops:Array Oper} {o:Oper} {i:KI} (h:Fits P n ops o i) {a:Act} {ρ:Env} (hr:Rep n a ρ) (v:Value):Rep n (a.put o.dst v) (K.put ρ i.dst v):=by
 rw [h.dst];exact hr.put v h.lt
def Nrm (n:Nat) (K:Env→World→Prop):Exit→Act→World→Prop
 |.normal,a,w=>∃ρ,Rep n a ρ∧K ρ w
 |_,_,_=>False
theorem Fits.wp [Quiet P] {n:Nat} {ops:Array Oper} {o:Oper} {i:KI} (h:Fits P n ops o i) {a:Act} {ρ:Env} {w:World} (hr:Rep n a ρ) {k:Value→World→Prop} {next:Act→World→Prop} {Q:Exit→Act→World→Prop}
  (hk:∀v w',k v w'→next (a.put o.dst v) w') (hw:i.op.wp P ρ w k):o.wp P a w next Q:=by
 rw [h.op] at hw
 have h2:=bIz o k hw
 unfold Oper.wp
 rw [h.exec hr]
 simp only [KOp.wp] at h2
 split at h2
 ·rename_i v w' he;rw [he];exact hk _ _ h2
 ·rename_i w' he;rw [he];exact hk _ _ h2
 ·rename_i f args w' he
  rw [he]
  exact h2.mono fun e w'' ⟨v,hv,hkv⟩=>by simp [*]
 simp_all
theorem bPo [Quiet P] {n:Nat} {ops:Array Oper} {K:Env→World→Prop}:∀(l:List Oper) (kl:KR) (a:Act) (ρ:Env) (w:World),yJ P n ops l=some kl→aH P kl K ρ w→Rep n a ρ→wpList P ops (Nrm n K) l a w
 | [],kl,a,ρ,w,hc,h,hr=>by
  simp only [yJ,Option.some.injEq] at hc;subst hc
  exact ⟨ρ,hr,h⟩
 |o::l,kl,a,ρ,w,hc,h,hr=>by
  simp only [yJ,Option.bind_eq_some_iff,Option.map_eq_some_iff] at hc
  obtain ⟨i,hi,r,hr2,rfl⟩:=hc
  have F:=aD0 hi
  simp only [aH] at h
  unfold wpList
  rw [F.want a ρ hr]
  split
  ·rename_i hw
   rw [if_pos hw] at h
   exact .inl (F.wp hr (fun v w' hk=>bPo l r _ _ w' hr2 hk (F.put hr v)) h)
  ·rename_i hw
   rw [if_neg hw] at h
   exact bPo l r _ _ w hr2 h (F.put hr undef)
def dQ (P:Program) [Quiet P] (ops:Array Oper) (j:Nat):Bool:=match ops[j]? with
 |some o=>(aI P o).isStill
 |none=>true
def aH7 (P:Program) [Quiet P] (ops:Array Oper) (j:Nat):Bool:=match ops[j]? with
 |some o=>(aI P o).isFix
 |none=>false
theorem tP {o:KOp} (h:o.isFix=true):o.isStill=true:=by cases o<;>simp_all [KOp.isStill,KOp.isFix]
def Closed (ops:Array Oper) (listed:Array Bool):Prop:=∀j oj,ops[j]? =some oj→listed.getD j false=true→∀e∈oj.after,Region.binds .any e=true→listed.getD e.on false=true
def pY (ops:Array Oper) (ms:List Nat):Bool:=
 (List.range ops.size).all fun k=>match ops[k]? with
  |none=>true
  |some o=>(List.range ops.size).all fun i=>!(ms.getD k 0).testBit i||o.after.toList.any fun e=>Region.binds .any e&&(e.on==i||(decide (e.on<k)&&(ms.getD e.on 0).testBit i))
theorem bRs {ops:Array Oper} {ms:List Nat} (hm:pY ops ms=true) {listed:Array Bool} (hc:Closed ops listed):∀(k i:Nat) (o:Oper),ops[k]? =some o→i<ops.size→(∀e∈o.after,Region.binds .any e=true→listed.getD e.on false=true)→
  (ms.getD k 0).testBit i=true→listed.getD i false=true:=by
 intro k
 induction k using Nat.strongRecOn with
 |_ k ih=>
  intro i o ho hi hd hb
  have hk:k<ops.size:=(Array.getElem?_eq_some_iff.1 ho).1
  have h1:=List.all_eq_true.1 hm k (by simp [*])
  simp only [ho] at h1
  have h2:=List.all_eq_true.1 h1 i (by simp [*])
  simp only [hb,Bool.not_true,Bool.false_or,List.any_eq_true,Bool.and_eq_true,Bool.or_eq_true,beq_iff_eq,decide_eq_true_eq] at h2
  obtain ⟨e,he,hbe,h3⟩:=h2
  have he':e∈o.after:=by simpa using he
  have hl:=hd e he' hbe
  rcases h3 with rfl|⟨hlt,hbit⟩
  ·exact hl
  ·have hkk:e.on<ops.size:=by omega
   obtain ⟨o',ho'⟩:∃o',ops[e.on]? =some o':=⟨_,Array.getElem?_eq_getElem hkk⟩
   exact ih e.on hlt i o' ho' hi (fun e' he2 hb2=>hc e.on o' ho' hl e' he2 hb2) hbit
def aB0 (P:Program) [Quiet P] (ops:Array Oper) (i:Nat) (K:Act→World→Prop) (a:Act) (w:World):Prop:=
 if dQ P ops i=true then stOp P ops w i (fun a'=>K a' w) a else wpOp P ops (fun _ _ _=>False) i K a w
def yS (P:Program) [Quiet P] (ops:Array Oper) (Q:Act→World→Prop):Nat→Array Bool→Act→World→Prop
 |0,listed,a,w=>Region.ready .any ops listed= []∧Q a w
 |fuel+1,listed,a,w=>(Region.ready .any ops listed= []→Q a w)∧∀i∈Region.ready .any ops listed,aB0 P ops i (yS P ops Q fuel (listed.setIfInBounds i true)) a w
theorem bIa {ops:Array Oper} {i:Nat} {K:Act→World→Prop} {a:Act} {w:World} {Q:Exit→Act→World→Prop} (h:wpOp P ops (fun _ _ _=>False) i K a w):wpOp P ops Q i K a w:=by
 unfold wpOp at*
 split
 ·simp_all
 ·rename_i o ho
  simp only [ho] at h
  split
  ·rename_i hw
   simp only [hw,if_true] at h
   rcases h with h|⟨_,_,_,h⟩
   ·refine .inl ?_
    unfold Oper.wp at*
    generalize (execOp a.eval o).run P w=r at*
    cases r with
    |ok n w'=>
     cases n<;>simp only [Oper.upon] at h ⊢<;>first
      |exact h
      |exact Calls.mono h (fun e w'' he=>by
        cases e with
        |returned v=>exact he
        |panicked c=>simp_all
        |outgrown=>obtain ⟨_,_,hf⟩:=he;simp_all)
    |halt x w'=>cases x<;>simp only [Oper.upon] at h
   simp_all
  simp_all
theorem rE [Quiet P] {ops:Array Oper} {Q:Act→World→Prop} {Q':Exit→Act→World→Prop} (hQ:∀a w,Q a w→Q' .normal a w):∀(fuel:Nat) (listed:Array Bool) (a:Act) (w:World),yS P ops Q fuel listed a w→wpAny P .any ops Q' fuel listed a w
 |0,_,_,_,h=>⟨h.1,hQ _ _ h.2⟩
 |fuel+1,listed,a,w,h=>⟨fun h0=>hQ _ _ (h.1 h0),fun i hi=>by
   have h2:=h.2 i hi
   unfold aB0 at h2
   split at h2
   ·exact wpOp_of_stOp (fun a'=>rE hQ fuel _ a' w) h2
   ·exact wpOp_mono (fun a' w'=>rE hQ fuel _ a' w') (bIa h2)⟩
theorem lY {ops:Array Oper} {listed:Array Bool} {j:Nat} (hc:Closed ops listed) (hj:j∈Region.ready .any ops listed):Closed ops (listed.setIfInBounds j true):=by
 intro k ok hk hl e he hb
 by_cases hkj:j=k
 ·grind [mem_ready,getD_set_true]
 ·rw [getD_set_ne false hkj] at hl
  exact getD_set_true (hc k ok hk hl e he hb)
theorem bDj {listed:Array Bool} {i:Nat} (h0:listed.getD i true=false) (h1:listed.getD i false=true):False:=by
 grind
variable {ops:Array Oper} {Q:Act→World→Prop}
def kF (w w':World):Prop:=w.heap.size≤w'.heap.size∧∀b,b<w.heap.size→w'.heap[b]? =w.heap[b]?
theorem kF.refl (w:World):kF w w:=⟨Nat.le_refl _,fun _ _=>rfl⟩
theorem kF.trans {w w1 w2:World} (h:kF w w1) (h':kF w1 w2):kF w w2:=⟨nTr h.1 h'.1,fun b hb=>(h'.2 b (nLt hb h.1)).trans (h.2 b hb)⟩
theorem kF.alloc (w:World) (o:Obj):kF w (w.alloc o):=⟨by simp,fun b hb=>by show (w.heap.push o)[b]? =_;grind⟩
theorem kF.heap {w w':World} (h:kF w w') {b:Nat} {o:Obj} (hb:w.heap[b]? =some o):w'.heap[b]? =some o:=by
 rw [h.2 b (Array.getElem?_eq_some_iff.1 hb).1];exact hb
theorem kF.cell {w w':World} (h:kF w w') {a:Addr} {v:Value} (hc:w.cell? a=some v):w'.cell? a=some v:=by
 unfold World.cell? at hc ⊢
 cases ho:w.heap[a.block]? with
 |none=>simp_all
 |some o=>rw [ho] at hc;rw [h.heap ho];exact hc
theorem kF.rdCells {w w':World} (h:kF w w') {a:Addr}:∀(n i:Nat) (l:List Value),rdCells w a i n=some l→rdCells w' a i n=some l
 |0,_,_,e=>e
 |n+1,i,l,e=>by
  simp only [K.rdCells,Option.bind_eq_some_iff,Option.map_eq_some_iff] at e ⊢
  obtain ⟨v,hv,r,hr,rfl⟩:=e
  exact ⟨v,h.cell hv,r,h.rdCells n (i+1) r hr,rfl⟩
theorem aYz {w w':World} (h:kF w w') {ρ:Env} {o:KOp} {v:Value} (hv:o.rd ρ w=some v):o.rd ρ w'=some v:=by
 cases o<;>first|exact hv|skip
 case load x=>
  simp only [KOp.rd] at hv ⊢
  split at hv
  ·exact h.cell hv
  omega
 case loadN n x=>
  simp only [KOp.rd] at hv ⊢
  split at hv
  ·obtain ⟨l,hl,rfl⟩:=Option.map_eq_some_iff.1 hv
   rw [h.rdCells n 0 l hl];rfl
  omega
 case lenMap x=>
  simp only [KOp.rd] at hv ⊢
  split at hv
  ·exact hv
  ·split at hv
   ·rename_i hm;rw [h.heap hm];exact hv
   grind
  omega
 case lookup s ks z ok m k=>
  simp only [KOp.rd] at hv ⊢
  split at hv
  ·rename_i hc
   rw [if_pos hc]
   split at hv
   ·exact hv
   ·split at hv
    ·rename_i hm;rw [h.heap hm];exact hv
    grind
   omega
  grind
def zY (P:Program) [Quiet P] (ops:Array Oper) (j:Nat):Bool:=match ops[j]? with
 |some o=>(aI P o).isMaker
 |none=>false
theorem bFj [Quiet P] {o:Oper} (h:(aI P o).isMaker=true) (e:Operand→Value) (w:World):∃u ob,(execOp e o).run P w=.ok (.value u) (w.alloc ob):=by
 obtain ⟨dst,op,ty,pos,after,guard⟩:=o
 cases op
 case box t x=>exact ⟨_,_,by simp [execOp,Instr.box,newVar,newRow];exact ⟨rfl,rfl⟩⟩
 case alloc t=>
  simp only [aI] at h
  split at h
  ·rename_i inf hinf
   split at h
   ·rename_i z hz
    have hzv:(zeroValue t).run P w=.ok z w:=by simp [zeroValue,bD hinf,hz]
    exact ⟨_,_,by simp [execOp,Instr.alloc,hzv,newVar,newRow];exact ⟨rfl,rfl⟩⟩
   grind [KOp.isMaker]
  grind [KOp.isMaker]
 case unOp op t x=>cases op<;>simp [aI,KOp.isMaker] at h
 case slice t x lo hi mx=>cases mx<;>simp only [aI] at h<;>(repeat' split at h)<;>simp [KOp.isMaker] at h
 case makeMap t r=>cases r<;>simp [aI,KOp.isMaker] at h
 case next it b=>cases b<;>simp [aI,KOp.isMaker] at h
 case call c=>
  obtain ⟨callee,args,argTypes⟩:=c
  grind [aI,KOp.isMaker]
 all_goals first
  |(simp [aI,KOp.isMaker] at h;done)
  |(simp only [aI] at h;(repeat' split at h)<;>simp [KOp.isMaker] at h)
theorem yC [Quiet P] {ms:List Nat} (hm:pY ops ms=true) {i:Nat} {oi:Oper} {v:Value} (hi:ops[i]? =some oi) (hsel:∀(j:Nat) (o:Oper) cs b,ops[j]? =some o→o.op≠.select cs b) (hst:dQ P ops i=true):
  ∀(fuel:Nat) (listed:Array Bool) (a:Act) (w:World),Closed ops listed→
   (∀j oj,ops[j]? =some oj→j≠i→listed.getD j true=false→(∀e∈oj.after,Region.binds .any e=true→e.on≠i)→oi.apart ops oj=true)→
   (∀j,j<ops.size→j≠i→listed.getD j true=false→dQ P ops j=false→zY P ops j=true∨(ms.getD j 0).testBit i=true)→
   i∈Region.ready .any ops listed→(∀w',kF w w'→YieldsAt P ops w' oi v a)→
   yS P ops Q fuel (listed.setIfInBounds i true) (a.put oi.dst v) w→yS P ops Q (fuel+1) listed a w:=by
 have base:∀{K:Act→World→Prop} {a:Act} {w:World},YieldsAt P ops w oi v a→K (a.put oi.dst v) w→aB0 P ops i K a w:=fun hy hK=>by
  unfold aB0;rw [if_pos hst];exact hy.stOp hi hK
 intro fuel
 induction fuel with
 |zero=>
  intro listed a w _ _ _ hr hy H
  refine ⟨fun h=>(by simp_all),fun j hj=>?_⟩
  by_cases hji:j=i
  ·grind [kF.refl]
  ·have:=ready_mono hj hji
   rw [H.1] at this
   grind
 |succ fuel ih=>
  intro listed a w hcl hfree hns hr hy H
  refine ⟨fun h=>(by simp_all),fun j hj=>?_⟩
  by_cases hji:j=i
  ·grind [kF.refl]
  ·have h1:=H.2 j (ready_mono hj hji)
   obtain ⟨hjun,oj,hoj,hall⟩:=mem_ready.1 hj
   have hjs:j<ops.size:=(Array.getElem?_eq_some_iff.1 hoj).1
   have his:i<ops.size:=(Array.getElem?_eq_some_iff.1 hi).1
   have hnot:∀e∈oj.after,Region.binds .any e=true→e.on≠i:=fun e he hb heq=>by
    grind [mem_ready]
   have hap:=hfree j oj hoj hji hjun hnot
   obtain ⟨p1,p2,p3⟩:=Oper.apart_spec hap
   have hfree':∀k ok,ops[k]? =some ok→k≠i→(listed.setIfInBounds j true).getD k true=false→(∀e∈ok.after,Region.binds .any e=true→e.on≠i)→oi.apart ops ok=true:=by
    intro k ok hk hki hun hno
    refine hfree k ok hk hki ?_ hno
    by_cases hjk:j=k
    ·subst hjk;omega
    ·rw [getD_set_ne true hjk] at hun;omega
   have hns':∀k,k<ops.size→k≠i→(listed.setIfInBounds j true).getD k true=false→dQ P ops k=false→zY P ops k=true∨(ms.getD k 0).testBit i=true:=by
    intro k hk hki hun hs
    refine hns k hk hki ?_ hs
    by_cases hjk:j=k
    ·subst hjk;omega
    ·rw [getD_set_ne true hjk] at hun;omega
   have fin:∀u w',kF w w'→yS P ops Q fuel ((listed.setIfInBounds i true).setIfInBounds j true) ((a.put oj.dst u).put oi.dst v) w'→yS P ops Q (fuel+1) (listed.setIfInBounds j true) (a.put oj.dst u) w':=fun u w' hg h3=>
    ih (listed.setIfInBounds j true) _ w' (lY hcl hj) hfree' hns' (ready_mono hr (Ne.symm hji))
     (fun w2 hg2=>(hy w2 (hg.trans hg2)).of_same (execOp_put oi (fun cs b=>hsel i oi cs b hi) a oj.dst u p3) (wanted_put oi a oj.dst u p3)) (by rw [Array.setIfInBounds_comm _ _ hji];exact h3)
   unfold aB0 at h1 ⊢
   by_cases hjst:dQ P ops j=true
   ·rw [if_pos hjst] at h1 ⊢
    have h2:=stOp_put hoj hap (fun cs b=>hsel i oi cs b hi) (fun cs b=>hsel j oj cs b hoj) (hy w (kF.refl w)) h1
    have h4:stOp P ops w j (fun a'=>(∃u,a'=a.put oj.dst u)∧yS P ops Q fuel ((listed.setIfInBounds i true).setIfInBounds j true) (a'.put oi.dst v) w) a:=by
     unfold stOp at h2 ⊢
     simp only [hoj] at h2 ⊢
     split
     ·rename_i hw
      simp only [hw,if_true,Oper.still] at h2 ⊢
      generalize (execOp a.eval oj).run P w=r at*
      cases r with
      |ok n w'=>
       cases n<;>simp only [Oper.stillUpon] at h2 ⊢
       case value u=>exact ⟨h2.1,⟨u,rfl⟩,h2.2.2⟩
       case skip=>exact ⟨h2.1,⟨_,rfl⟩,h2.2.2⟩
       case enter f args=>obtain ⟨q1,u,q2,q3⟩:=h2;exact ⟨q1,u,q2,⟨u,rfl⟩,q3.2⟩
      |halt x w'=>simp only [Oper.stillUpon] at h2
     ·rename_i hw
      simp only [hw] at h2 ⊢
      exact ⟨⟨_,rfl⟩,h2.2⟩
    exact stOp_mono (fun a' h3=>by
     obtain ⟨⟨u,rfl⟩,h5⟩:=h3
     exact fin u w (kF.refl w) h5) h4
   ·have hjf:dQ P ops j=false:=by simpa using hjst
    rw [if_neg hjst] at h1 ⊢
    rcases hns j hjs hji hjun hjf with hmk|hbit
    ·have hmk':(aI P oj).isMaker=true:=by unfold zY at hmk;rw [hoj] at hmk;exact hmk
     unfold wpOp at h1 ⊢
     simp only [hoj] at h1 ⊢
     rw [wanted_put oj a oi.dst v p1] at h1
     split
     ·rename_i hw
      simp only [hw,if_true] at h1
      refine .inl ?_
      obtain ⟨u,ob,hrun⟩:=bFj hmk' a.eval w
      rcases h1 with h1|⟨_,_,_,h1⟩
      ·unfold Oper.wp at h1 ⊢
       rw [execOp_put oj (fun cs b=>hsel j oj cs b hoj) a oi.dst v p1,hrun] at h1
       rw [hrun]
       simp only [Oper.upon] at h1 ⊢
       exact fin u _ (kF.alloc w ob) (by rw [←Act.put_comm a v u p2];exact h1)
      ·exact h1.elim
     ·rename_i hw
      simp only [hw] at h1
      exact fin undef w (kF.refl w) (by rw [←Act.put_comm a v undef p2];exact h1)
    ·exact (bDj (mem_ready.1 hr).1 (bRs hm hcl j i oj hoj his hall hbit)).elim
theorem aB5 [Quiet P] {i:Nat} {oi:Oper} {v:Value} (hi:ops[i]? =some oi) (hsel:∀(j:Nat) (o:Oper) cs b,ops[j]? =some o→o.op≠.select cs b) (hst:dQ P ops i=true):
  ∀(fuel:Nat) (listed:Array Bool) (a:Act) (w:World),
   (∀j oj,ops[j]? =some oj→j≠i→listed.getD j true=false→(∀e∈oj.after,Region.binds .any e=true→e.on≠i)→oi.apart ops oj=true)→
   i∈Region.ready .any ops listed→Yields P ops oi v a→
   yS P ops Q fuel (listed.setIfInBounds i true) (a.put oi.dst v) w→yS P ops Q (fuel+1) listed a w:=by
 have toAt:∀{a:Act} {w:World},Yields P ops oi v a→YieldsAt P ops w oi v a:=fun hy=>by
  rcases hy with ⟨h1,h2⟩|h
  ·exact .inl ⟨h1,.inl (h2 _)⟩
  ·exact .inr h
 have base:∀{K:Act→World→Prop} {a:Act} {w:World},Yields P ops oi v a→K (a.put oi.dst v) w→aB0 P ops i K a w:=fun hy hK=>by
  unfold aB0;rw [if_pos hst];exact (toAt hy).stOp hi hK
 intro fuel
 induction fuel with
 |zero=>
  intro listed a w _ hr hy H
  refine ⟨fun h=>(by simp_all),fun j hj=>?_⟩
  by_cases hji:j=i
  ·simp [*]
  ·have:=ready_mono hj hji
   rw [H.1] at this
   grind
 |succ fuel ih=>
  intro listed a w hfree hr hy H
  refine ⟨fun h=>(by simp_all),fun j hj=>?_⟩
  by_cases hji:j=i
  ·simp [*]
  ·have h1:=H.2 j (ready_mono hj hji)
   obtain ⟨hjun,oj,hoj,hall⟩:=mem_ready.1 hj
   have hnot:∀e∈oj.after,Region.binds .any e=true→e.on≠i:=fun e he hb heq=>by
    grind [mem_ready]
   have hap:=hfree j oj hoj hji hjun hnot
   have hfree':∀k ok,ops[k]? =some ok→k≠i→(listed.setIfInBounds j true).getD k true=false→(∀e∈ok.after,Region.binds .any e=true→e.on≠i)→oi.apart ops ok=true:=by
    intro k ok hk hki hun hno
    refine hfree k ok hk hki ?_ hno
    by_cases hjk:j=k
    ·simp_all
    ·simp_all
   have fin:∀a' w',Yields P ops oi v a'→yS P ops Q fuel ((listed.setIfInBounds i true).setIfInBounds j true) (a'.put oi.dst v) w'→yS P ops Q (fuel+1) (listed.setIfInBounds j true) a' w':=fun a' w' hy' h3=>
    ih (listed.setIfInBounds j true) a' w' hfree' (ready_mono hr (Ne.symm hji)) hy' (by grind [Array.setIfInBounds_comm])
   unfold aB0 at h1 ⊢
   split
   ·rename_i hjst
    rw [if_pos hjst] at h1
    obtain ⟨p1,p2,p3⟩:=Oper.apart_spec hap
    have h2:=stOp_put hoj hap (fun cs b=>hsel i oi cs b hi) (fun cs b=>hsel j oj cs b hoj) (toAt hy) h1
    have h4:stOp P ops w j (fun a'=>(∃u,a'=a.put oj.dst u)∧yS P ops Q fuel ((listed.setIfInBounds i true).setIfInBounds j true) (a'.put oi.dst v) w) a:=by
     unfold stOp at h2 ⊢
     simp only [hoj] at h2 ⊢
     split
     ·rename_i hw
      simp only [hw,if_true,Oper.still] at h2 ⊢
      generalize (execOp a.eval oj).run P w=r at*
      cases r with
      |ok n w'=>
       cases n<;>simp only [Oper.stillUpon] at h2 ⊢
       case value u=>exact ⟨h2.1,⟨u,rfl⟩,h2.2.2⟩
       case skip=>exact ⟨h2.1,⟨_,rfl⟩,h2.2.2⟩
       case enter f args=>obtain ⟨q1,u,q2,q3⟩:=h2;exact ⟨q1,u,q2,⟨u,rfl⟩,q3.2⟩
      |halt x w'=>simp only [Oper.stillUpon] at h2
     ·grind
    exact stOp_mono (fun a' h3=>by
     obtain ⟨⟨u,rfl⟩,h5⟩:=h3
     exact fin _ _ (hy.of_same (execOp_put oi (fun cs b=>hsel i oi cs b hi) a oj.dst u p3) (wanted_put oi a oj.dst u p3)) h5) h4
   ·rename_i hjst
    rw [if_neg hjst] at h1
    have h2:=wpOp_put (Q:=fun _ _ _=>False) hoj hap (fun cs b=>hsel i oi cs b hi) (fun cs b=>hsel j oj cs b hoj) (fun _ _ _ h=>h) hy h1
    grind [wpOp_mono]
end
section
open Go
variable {P:Program} {ops:Array Oper}
def bQ3 (P:Program) [Quiet P] (ops:Array Oper) (ms:List Nat) (listed:Array Bool):Option Nat:=
 (Region.ready .any ops listed).find? fun i=>Region.free .any ops listed i&&(aH7 P ops i||(dQ P ops i&&(List.range ops.size).all fun j=>j==i||listed.getD j true||dQ P ops j||zY P ops j||(ms.getD j 0).testBit i))
def alts (f:Nat→Option KR):List Nat→Option KR
 | []=>none
 | [i]=>f i
 |i::j::l=>(f i).bind fun a=>(alts f (j::l)).map (.both a ·)
def bBm (P:Program) [Quiet P] (n:Nat) (ops:Array Oper) (ms:List Nat):Nat→Array Bool→Option KR
 |0,listed=>if (Region.ready .any ops listed).isEmpty then some .nil else none
 |m+1,listed=>match bQ3 P ops ms listed with
  |some i=>(ops[i]?).bind fun o=>(kW P n ops o).bind fun ki=>(bBm P n ops ms m (listed.setIfInBounds i true)).map (.cons ki ·)
  |none=>match Region.ready .any ops listed with
   | []=>some .nil
   |r::rs=>alts (fun i=>(ops[i]?).bind fun o=>(kW P n ops o).bind fun ki=>(bBm P n ops ms m (listed.setIfInBounds i true)).map (.cons ki ·)) (r::rs)
theorem aGo {f:Nat→Option KR} {K:Env→World→Prop} {ρ:Env} {w:World}:∀(l:List Nat) (r:KR),alts f l=some r→aH P r K ρ w→∀i∈l,∃ri,f i=some ri∧aH P ri K ρ w
 | [],r,h,_,i,hi=>by cases hi
 | [j],r,h,hr,i,hi=>by
  simp only [List.mem_singleton] at hi;subst hi
  exact ⟨r,h,hr⟩
 |j::k::l,r,h,hr,i,hi=>by
  simp only [alts,Option.bind_eq_some_iff,Option.map_eq_some_iff] at h
  obtain ⟨a,ha,b,hb,rfl⟩:=h
  rcases List.mem_cons.1 hi with rfl|hi
  ·exact ⟨a,ha,hr.1⟩
  ·exact aGo (k::l) b hb hr.2 i hi
theorem bJv {ρ:Env} {w:World} {k k':Value→World→Prop} {o:KOp} (hk:∀v w',k v w'→k' v w') (h:o.wp P ρ w k):o.wp P ρ w k':=by
 cases o<;>simp only [KOp.wp] at h ⊢
 case box=>simp [*]
 case alloc=>simp [*]
 case store=>grind
 case storeN=>grind
 case call=>exact h.mono fun e w' ⟨v,hv,h2⟩=>⟨v,hv,hk _ _ h2⟩
 case callV=>obtain ⟨f,a,b,h1,h2,h3⟩:=h;exact ⟨f,a,b,h1,h2,h3.mono fun e w' ⟨v,hv,h2⟩=>⟨v,hv,hk _ _ h2⟩⟩
 case invoke=>obtain ⟨t,u,f,rv,h1,h2,h3,h4⟩:=h;exact ⟨t,u,f,rv,h1,h2,h3,h4.mono fun e w' ⟨v,hv,h2⟩=>⟨v,hv,hk _ _ h2⟩⟩
 case mapUpdate=>grind
 case mapEntry=>
  grind
 case entryStore=>grind
 case delete=>grind
 case makeMap=>simp [*]
 case rangeMap=>grind
 case nextMap=>
  grind
 case entry=>grind
 case buildSlice=>grind
 case append=>
  grind
 case makeSlice=>grind
 case copy=>grind
 case bytesOf=>grind
 case strOf=>grind
 case raw=>
  split at h
  ·simp [*]
  ·simp [*]
  ·exact h.mono fun e w' ⟨v,hv,h2⟩=>⟨v,hv,hk _ _ h2⟩
  omega
 all_goals (obtain ⟨v,h1,h2⟩:=h;exact ⟨v,h1,hk _ _ h2⟩)
def aU7 (n:Nat) (K:Env→World→Prop) (a:Act) (w:World):Prop:=∃ρ,Rep n a ρ∧K ρ w
theorem aCz {ρ:Env} {w:World} {k:Value→World→Prop} {o:KOp} (hst:o.isStill=true) (h:o.wp P ρ w k):∃v,o.rd ρ w=some v∧k v w:=by
 cases o<;>first|exact h|(simp [KOp.isStill,KOp.isFix] at hst;done)
theorem aAn [Quiet P] {n:Nat} {ms:List Nat} {K:Env→World→Prop} (hm:pY ops ms=true) (hsel:Region.noSelect ops=true):∀(fuel:Nat) (listed:Array Bool) (r:KR) (a:Act) (ρ:Env) (w:World),
  bBm P n ops ms fuel listed=some r→Closed ops listed→Rep n a ρ→aH P r K ρ w→yS P ops (aU7 n K) fuel listed a w
 |0,listed,r,a,ρ,w,ho,hc,hr,h=>by
  simp only [bBm] at ho
  split at ho
  ·rename_i he
   simp only [Option.some.injEq] at ho;subst ho
   exact ⟨by simp_all,ρ,hr,h⟩
  grind
 |fuel+1,listed,r,a,ρ,w,ho,hc,hr,h=>by
  simp only [bBm] at ho
  split at ho
  ·rename_i i hi
   simp only [Option.bind_eq_some_iff,Option.map_eq_some_iff] at ho
   obtain ⟨oi,hoi,ki,hki,r',hr',rfl⟩:=ho
   have F:=aD0 hki
   have hmem:=List.mem_of_find?_eq_some hi
   have hprop:=List.find?_some hi
   simp only [Bool.and_eq_true,Bool.or_eq_true,List.all_eq_true,List.mem_range,beq_iff_eq] at hprop
   obtain ⟨hfree,hkind⟩:=hprop
   have hst:dQ P ops i=true:=by
    rcases hkind with hk|⟨hk,_⟩
    ·grind [aH7,dQ,tP]
    ·exact hk
   have hcs:(aI P oi).isStill=true:=by unfold dQ at hst;rw [hoi] at hst;exact hst
   simp only [aH,F.dst,F.op] at h
   obtain ⟨v,hyw,hrest⟩:∃v,((lG ρ ki.guard=true∧(aI P oi).rd ρ w=some v)∨(lG ρ ki.guard=false∧v=undef))∧aH P r' K (put ρ oi.dst v) w:=by
    by_cases hw:lG ρ ki.guard=true
    ·rw [if_pos hw] at h
     grind [aCz]
    simp_all
   have hrep:Rep n (a.put oi.dst v) (put ρ oi.dst v):=by have:=F.put hr v;rwa [F.dst] at this
   have IH:=aAn hm hsel fuel (listed.setIfInBounds i true) r' (a.put oi.dst v) (put ρ oi.dst v) w hr' (lY hc hmem) hrep hrest
   by_cases hfix:aH7 P ops i=true
   ·refine aB5 hoi (Region.noSelect_spec hsel) hst fuel listed a w (Region.free_spec hoi hfree) hmem ?_ IH
    rcases hyw with ⟨hw,hv⟩|⟨hw,rfl⟩
    ·refine .inl ⟨by rw [F.want a ρ hr];exact hw,fun w2=>?_⟩
     rw [F.exec hr]
     have hf:(aI P oi).isFix=true:=by unfold aH7 at hfix;rw [hoi] at hfix;exact hfix
     exact aCr oi v hcs (by generalize aI P oi=ko at hf;cases ko<;>first|rfl|(simp [KOp.isFix] at hf)) (by rw [KOp.rd_fix hf];rw [KOp.rd_fix hf] at hv;exact hv)
    ·exact .inr ⟨by rw [F.want a ρ hr];exact hw,rfl⟩
   ·have hall:∀j,j<ops.size→j≠i→listed.getD j true=false→dQ P ops j=false→zY P ops j=true∨(ms.getD j 0).testBit i=true:=by
     rcases hkind with hk|⟨_,hk⟩
     ·simp_all
     ·grind
    refine yC hm hoi (Region.noSelect_spec hsel) hst fuel listed a w hc (Region.free_spec hoi hfree) hall hmem (fun w2 hg=>?_) IH
    rcases hyw with ⟨hw,hv⟩|⟨hw,rfl⟩
    ·exact .inl ⟨by rw [F.want a ρ hr];exact hw,by rw [F.exec hr];exact pP oi v hcs (aYz hg hv)⟩
    ·exact .inr ⟨by rw [F.want a ρ hr];exact hw,rfl⟩
  ·split at ho
   ·rename_i he
    simp only [Option.some.injEq] at ho;subst ho
    exact ⟨fun _=>⟨ρ,hr,h⟩,by simp [*]⟩
   ·rename_i q rs he
    refine ⟨fun h0=>(by simp_all),fun i hi=>?_⟩
    rw [he] at hi
    have hmem:i∈Region.ready .any ops listed:=by rw [he];exact hi
    obtain ⟨ri,hri,hreg⟩:=aGo _ _ ho h i hi
    simp only [Option.bind_eq_some_iff,Option.map_eq_some_iff] at hri
    obtain ⟨oi,hoi,ki,hki,r',hr',rfl⟩:=hri
    have F:=aD0 hki
    have IH:∀v w',aH P r' K (put ρ oi.dst v) w'→yS P ops (aU7 n K) fuel (listed.setIfInBounds i true) (a.put oi.dst v) w':=fun v w' hk=>
     aAn hm hsel fuel (listed.setIfInBounds i true) r' (a.put oi.dst v) (put ρ oi.dst v) w' hr' (lY hc hmem) (by have:=F.put hr v;rwa [F.dst] at this) hk
    simp only [aH,F.dst] at h hreg
    unfold aB0
    split
    ·rename_i hst
     have hcs:(aI P oi).isStill=true:=by unfold dQ at hst;rw [hoi] at hst;exact hst
     by_cases hw:lG ρ ki.guard=true
     ·rw [if_pos hw,F.op] at hreg
      obtain ⟨v,hv,hk⟩:=aCz hcs hreg
      exact YieldsAt.stOp (v:=v) hoi (.inl ⟨by rw [F.want a ρ hr];exact hw,by rw [F.exec hr];exact pP oi v hcs hv⟩) (IH v w hk)
     ·rw [if_neg hw] at hreg
      exact YieldsAt.stOp (v:=undef) hoi (.inr ⟨by rw [F.want a ρ hr];simp [*],rfl⟩) (IH undef w hreg)
    ·unfold wpOp
     simp only [hoi]
     rw [F.want a ρ hr]
     split
     ·rename_i hw
      rw [if_pos hw] at hreg
      exact .inl (F.wp hr IH hreg)
     simp_all
def bMs (P:Program) [Quiet P] (ops:Array Oper) (ms:List Nat) (S listed:Array Bool):Option Nat:=
 (Region.ready .any ops listed).find? fun i=>S.getD i false&&(Region.free .any ops listed i&&(aH7 P ops i||(dQ P ops i&&(List.range ops.size).all fun j=>j==i||listed.getD j true||dQ P ops j||zY P ops j||(ms.getD j 0).testBit i)))
def wU (P:Program) [Quiet P] (n:Nat) (ops:Array Oper) (ms:List Nat) (S:Array Bool):Nat→Array Bool→Option KR
 |0,listed=>if listed=S then some .nil else none
 |m+1,listed=>match bMs P ops ms S listed with
  |some i=>(ops[i]?).bind fun o=>(kW P n ops o).bind fun ki=>(wU P n ops ms S m (listed.setIfInBounds i true)).map (.cons ki ·)
  |none=>match Region.ready .any ops listed with
   | []=>none
   |r::rs=>alts (fun i=>(ops[i]?).bind fun o=>(kW P n ops o).bind fun ki=>(wU P n ops ms S m (listed.setIfInBounds i true)).map (.cons ki ·)) (r::rs)
theorem aAr [Quiet P] {n:Nat} {ms:List Nat} {S:Array Bool} {c:Nat} {Q:Act→World→Prop} {K:Env→World→Prop} (hm:pY ops ms=true) (hsel:Region.noSelect ops=true) (hS:∀a ρ w,Rep n a ρ→K ρ w→yS P ops Q c S a w):∀(fuel:Nat) (listed:Array Bool) (r:KR) (a:Act) (ρ:Env) (w:World),
  wU P n ops ms S fuel listed=some r→Closed ops listed→Rep n a ρ→aH P r K ρ w→yS P ops Q (fuel+c) listed a w
 |0,listed,r,a,ρ,w,ho,hc,hr,h=>by
  simp only [wU] at ho
  split at ho
  ·rename_i he
   simp only [Option.some.injEq] at ho;subst ho;subst he
   rw [Nat.zero_add];exact hS a ρ w hr h
  grind
 |fuel+1,listed,r,a,ρ,w,ho,hc,hr,h=>by
  rw [Nat.add_right_comm fuel 1 c]
  simp only [wU] at ho
  split at ho
  ·rename_i i hi
   simp only [Option.bind_eq_some_iff,Option.map_eq_some_iff] at ho
   obtain ⟨oi,hoi,ki,hki,r',hr',rfl⟩:=ho
   have F:=aD0 hki
   have hmem:=List.mem_of_find?_eq_some hi
   have hprop:=List.find?_some hi
   simp only [Bool.and_eq_true,Bool.or_eq_true,List.all_eq_true,List.mem_range,beq_iff_eq] at hprop
   obtain ⟨_,hfree,hkind⟩:=hprop
   have hst:dQ P ops i=true:=by
    rcases hkind with hk|⟨hk,_⟩
    ·grind [aH7,dQ,tP]
    ·exact hk
   have hcs:(aI P oi).isStill=true:=by unfold dQ at hst;rw [hoi] at hst;exact hst
   simp only [aH,F.dst,F.op] at h
   obtain ⟨v,hyw,hrest⟩:∃v,((lG ρ ki.guard=true∧(aI P oi).rd ρ w=some v)∨(lG ρ ki.guard=false∧v=undef))∧aH P r' K (put ρ oi.dst v) w:=by
    by_cases hw:lG ρ ki.guard=true
    ·rw [if_pos hw] at h
     grind [aCz]
    simp_all
   have hrep:Rep n (a.put oi.dst v) (put ρ oi.dst v):=by have:=F.put hr v;rwa [F.dst] at this
   have IH:=aAr hm hsel hS fuel (listed.setIfInBounds i true) r' (a.put oi.dst v) (put ρ oi.dst v) w hr' (lY hc hmem) hrep hrest
   by_cases hfix:aH7 P ops i=true
   ·refine aB5 hoi (Region.noSelect_spec hsel) hst (fuel+c) listed a w (Region.free_spec hoi hfree) hmem ?_ IH
    rcases hyw with ⟨hw,hv⟩|⟨hw,rfl⟩
    ·refine .inl ⟨by rw [F.want a ρ hr];exact hw,fun w2=>?_⟩
     rw [F.exec hr]
     have hf:(aI P oi).isFix=true:=by unfold aH7 at hfix;rw [hoi] at hfix;exact hfix
     exact aCr oi v hcs (by generalize aI P oi=ko at hf;cases ko<;>first|rfl|(simp [KOp.isFix] at hf)) (by rw [KOp.rd_fix hf];rw [KOp.rd_fix hf] at hv;exact hv)
    ·exact .inr ⟨by rw [F.want a ρ hr];exact hw,rfl⟩
   ·have hall:∀j,j<ops.size→j≠i→listed.getD j true=false→dQ P ops j=false→zY P ops j=true∨(ms.getD j 0).testBit i=true:=by
     rcases hkind with hk|⟨_,hk⟩
     ·exact absurd hk hfix
     ·intro j hj hji hun hsj
      rcases hk j hj with (((h1|h1)|h1)|h1)|h1
      ·omega
      ·rw [hun] at h1;cases h1
      ·rw [hsj] at h1;cases h1
      ·exact .inl h1
      ·exact .inr h1
    refine yC hm hoi (Region.noSelect_spec hsel) hst (fuel+c) listed a w hc (Region.free_spec hoi hfree) hall hmem (fun w2 hg=>?_) IH
    rcases hyw with ⟨hw,hv⟩|⟨hw,rfl⟩
    ·exact .inl ⟨by rw [F.want a ρ hr];exact hw,by rw [F.exec hr];exact pP oi v hcs (aYz hg hv)⟩
    ·exact .inr ⟨by rw [F.want a ρ hr];exact hw,rfl⟩
  ·split at ho
   ·cases ho
   ·rename_i q rs he
    refine ⟨fun h0=>(by simp_all),fun i hi=>?_⟩
    rw [he] at hi
    have hmem:i∈Region.ready .any ops listed:=by rw [he];exact hi
    obtain ⟨ri,hri,hreg⟩:=aGo _ _ ho h i hi
    simp only [Option.bind_eq_some_iff,Option.map_eq_some_iff] at hri
    obtain ⟨oi,hoi,ki,hki,r',hr',rfl⟩:=hri
    have F:=aD0 hki
    have IH:∀v w',aH P r' K (put ρ oi.dst v) w'→yS P ops Q (fuel+c) (listed.setIfInBounds i true) (a.put oi.dst v) w':=fun v w' hk=>
     aAr hm hsel hS fuel (listed.setIfInBounds i true) r' (a.put oi.dst v) (put ρ oi.dst v) w' hr' (lY hc hmem) (by have:=F.put hr v;rwa [F.dst] at this) hk
    simp only [aH,F.dst] at h hreg
    unfold aB0
    split
    ·rename_i hst
     have hcs:(aI P oi).isStill=true:=by unfold dQ at hst;rw [hoi] at hst;exact hst
     by_cases hw:lG ρ ki.guard=true
     ·rw [if_pos hw,F.op] at hreg
      obtain ⟨v,hv,hk⟩:=aCz hcs hreg
      exact YieldsAt.stOp (v:=v) hoi (.inl ⟨by rw [F.want a ρ hr];exact hw,by rw [F.exec hr];exact pP oi v hcs hv⟩) (IH v w hk)
     ·rw [if_neg hw] at hreg
      exact YieldsAt.stOp (v:=undef) hoi (.inr ⟨by rw [F.want a ρ hr];simpa using hw,rfl⟩) (IH undef w hreg)
    ·unfold wpOp
     simp only [hoi]
     rw [F.want a ρ hr]
     split
     ·rename_i hw
      rw [if_pos hw] at hreg
      exact .inl (F.wp hr IH hreg)
     ·rename_i hw
      rw [if_neg hw] at hreg
      exact IH undef w hreg
theorem wK [Quiet P] {n:Nat} {ms:List Nat} {S:Array Bool}:∀(fuel:Nat) (listed:Array Bool) (r:KR),wU P n ops ms S fuel listed=some r→Closed ops listed→Closed ops S
 |0,listed,r,ho,hc=>by
  grind [wU]
 |fuel+1,listed,r,ho,hc=>by
  simp only [wU] at ho
  split at ho
  ·rename_i i hi
   simp only [Option.bind_eq_some_iff,Option.map_eq_some_iff] at ho
   obtain ⟨oi,hoi,ki,hki,r',hr',rfl⟩:=ho
   exact wK fuel _ r' hr' (lY hc (List.mem_of_find?_eq_some hi))
  ·split at ho
   ·cases ho
   ·rename_i q rs he
    have h1:∃ri:KR,((ops[q]?).bind fun o=>(kW P n ops o).bind fun ki=>(wU P n ops ms S fuel (listed.setIfInBounds q true)).map (KR.cons ki ·))=some ri:=by
     cases rs with
     |nil=>exact ⟨r,ho⟩
     |cons j l=>
      grind [alts,Option.bind_eq_some_iff]
    obtain ⟨ri,h1⟩:=h1
    simp only [Option.bind_eq_some_iff,Option.map_eq_some_iff] at h1
    obtain ⟨oi,hoi,ki,hki,r',hr',_⟩:=h1
    exact wK fuel _ r' hr' (lY hc (by rw [he];simp))
def bEv (P:Program) [Quiet P] (n:Nat) (ops:Array Oper) (ms:List Nat):List (Nat × Array Bool)→Nat→Array Bool→Option KR
 | [],fuel,listed=>bBm P n ops ms fuel listed
 |(d,S)::r,fuel,listed=>if d≤fuel then (wU P n ops ms S d listed).bind fun a=>(bEv P n ops ms r (fuel - d) S).map (.join a ·) else none
theorem aL9 [Quiet P] {n:Nat} {ms:List Nat} {K:Env→World→Prop} (hm:pY ops ms=true) (hsel:Region.noSelect ops=true):∀(plan:List (Nat × Array Bool)) (fuel:Nat) (listed:Array Bool) (r:KR) (a:Act) (ρ:Env) (w:World),
  bEv P n ops ms plan fuel listed=some r→Closed ops listed→Rep n a ρ→aH P r K ρ w→yS P ops (aU7 n K) fuel listed a w
 | [],fuel,listed,r,a,ρ,w,ho,hc,hr,h=>aAn hm hsel fuel listed r a ρ w ho hc hr h
 |(d,S)::plan,fuel,listed,r,a,ρ,w,ho,hc,hr,h=>by
  simp only [bEv] at ho
  split at ho
  ·rename_i hd
   simp only [Option.bind_eq_some_iff,Option.map_eq_some_iff] at ho
   obtain ⟨ra,ha,rb,hb,rfl⟩:=ho
   have hcS:=wK d listed ra ha hc
   have:=aAr (c:=fuel - d) (Q:=aU7 n K) (K:=aH P rb K) hm hsel (fun a ρ w hr h=>aL9 hm hsel plan (fuel - d) S rb a ρ w hb hcS hr h) d listed ra a ρ w ha hc hr h
   simp_all
  grind
def bQc (ops:Array Oper) (ms:List Nat) (non:List Nat) (k:Nat):Array Bool:=
 ((List.range ops.size).map fun i=>if non.contains i then decide (i<k) else non.all fun j=>decide (j<k)||!(ms.getD i 0).testBit j).toArray
def bRa (ms:List Nat) (non:List Nat) (k:Nat):Bool:=
 non.all fun j=>decide (j<k)||non.all fun i=>decide (k≤i)||(ms.getD j 0).testBit i
def cutAt (ms:List Nat) (non:List Nat):List Nat:=
 let ks:=non.filter fun k=>decide (0<k)&&bRa ms non k&&decide (non.head? ≠some k)
 let seg (a b:Nat):Nat:=(non.filter fun i=>decide (a≤i)&&decide (i<b)).length
 let bs:=0::ks
 (ks.zipIdx.filter fun (k,i)=>decide (1<seg (bs.getD i 0) k)||decide (1<seg k (ks.getD (i+1) 1000000))).map (·.1)
def bP5 (ops:Array Oper) (ms:List Nat) (non:List Nat):List (Nat × Array Bool):=
 let Ss:=(cutAt ms non).map (bQc ops ms non)
 let cnt (S:Array Bool):Nat:=(S.toList.filter id).length
 (Ss.zipIdx).map fun (S,i)=>(cnt S - (match i with|0=>0|j+1=>cnt (Ss.getD j #[])),S)
def bLl (P:Program) [Quiet P] (ops:Array Oper):List Nat:=(List.range ops.size).filter fun i=>!aH7 P ops i
def aIr (ops:Array Oper):List Nat:=
 ops.toList.foldl (fun ms o=>ms++ [o.after.toList.foldl (fun m e=>if Region.binds .any e then m|||2^e.on|||ms.getD e.on 0 else m) 0]) []
def aPc (P:Program) [Quiet P] (n:Nat) (ops:Array Oper):Option KR:=
 if pY ops (aIr ops)&&Region.noSelect ops then
  match bEv P n ops (aIr ops) (bP5 ops (aIr ops) (bLl P ops)) ops.size (Array.replicate ops.size false) with
  |some r=>some r
  |none=>bBm P n ops (aIr ops) ops.size (Array.replicate ops.size false)
 else none
theorem aHo:Closed ops (Array.replicate ops.size false):=by
 intro j oj _ hl
 have:(Array.replicate ops.size false).getD j false=false:=by
  simp only [Array.getD_eq_getD_getElem?,Array.getElem?_replicate];split<;>rfl
 simp_all
theorem aYv [Quiet P] {n:Nat} {id:Nat} {r:KR} {K:Env→World→Prop} {a:Act} {ρ:Env} {w:World} {Q:Exit→Act→World→Prop} (hmx:P.follows .mixedOrders=true) (hc:aPc P n ops=some r) (hr:Rep n a ρ)
  (h:aH P r K ρ w.drew) (hQ:∀a w,aU7 n K a w→Q .normal a w):(Code.region id ops true).wp P Q a w:=by
 unfold aPc at hc
 rw [Option.ite_none_right_eq_some] at hc
 obtain ⟨h1,h2⟩:=hc
 simp only [Bool.and_eq_true] at h1
 split at h2
 ·rename_i r' hp
  simp only [Option.some.injEq] at h2;subst h2
  exact wp_region_any hmx (rE hQ _ _ _ _ (aL9 h1.1 h1.2 _ _ _ _ a ρ _ hp aHo hr h))
 ·exact wp_region_any hmx (rE hQ _ _ _ _ (aAn h1.1 h1.2 _ _ r a ρ _ h2 aHo hr h))
theorem aUj [Quiet P] {n:Nat} {id:Nat} {r:KR} {K:Env→World→Prop} {a:Act} {ρ:Env} {w:World} {Q:Exit→Act→World→Prop} (hc:yJ P n ops ops.toList=some r) (hr:Rep n a ρ)
  (h:aH P r K ρ w) (hQ:∀a w,aU7 n K a w→Q .normal a w):(Code.region id ops false).wp P Q a w:=by
 refine Code.wp_mono (Q:=Nrm n K) ?_ (wp_region_list (bPo ops.toList r a ρ w hc h hr))
 intro e a w hn
 cases e<;>first|exact hQ _ _ hn|exact hn.elim
def bKd (S:Nat→Bool) (i:Nat):Nat→Bool:=fun j=>if j=i then true else S j
def aVn (P:Program) (I:(Nat→Bool)→Env→World→Prop) (S:Nat→Bool) (i:Nat) (k:KI) (ρ:Env) (w:World):Prop:=
 if lG ρ k.guard=true then k.op.wp P ρ w (fun v w'=>I (bKd S i) (put ρ k.dst v) w') else I (bKd S i) (put ρ k.dst undef) w
def bRi (P:Program) (l:List (KI × List Nat)) (Q:Env→World→Prop) (ρ:Env) (w:World):Prop:=
 ∃I:(Nat→Bool)→Env→World→Prop,I (fun _=>false) ρ w∧
  (∀(i:Nat) (h:i<l.length) (S:Nat→Bool) (ρ:Env) (w:World),S i=false→(∀d∈(l[i]).2,S d=true)→I S ρ w→aVn P I S i (l[i]).1 ρ w)∧
  ∀(S:Nat→Bool) (ρ:Env) (w:World),(∀i,i<l.length→S i=true)→I S ρ w→Q ρ w
def aKh (o:Oper):List Nat:=(o.after.toList.filter fun e=>Region.binds .any e).map (·.on)
def aEe (P:Program) [Quiet P] (n:Nat) (ops:Array Oper):List Oper→Option (List (KI × List Nat))
 | []=>some []
 |o::r=>(kW P n ops o).bind fun k=>(aEe P n ops r).map ((k,aKh o)::·)
def aJ8:Nat→List Oper→Bool
 |_, []=>true
 |i,o::l=>(aKh o).all (fun d=>decide (d<i))&&aJ8 (i+1) l
def aPw (P:Program) [Quiet P] (n:Nat) (ops:Array Oper):Option (List (KI × List Nat)):=
 if Region.noSelect ops&&aJ8 0 ops.toList then aEe P n ops ops.toList else none
def bRp (P:Program) [Quiet P] (ops:Array Oper):Bool:=
 let ms:=aIr ops
 let non:=bLl P ops
 decide (14<((non.map fun j=>(non.filter fun i=>decide (i<j)&&!(dQ P ops i&&dQ P ops j)&&!(ms.getD j 0).testBit i).length).foldl (·+·) 0))
theorem aZc [Quiet P] {n:Nat}:∀(L:List Oper) (l:List (KI × List Nat)),aEe P n ops L=some l→l.length=L.length∧∀(i:Nat) (h:i<l.length) (h':i<L.length),kW P n ops L[i]=some (l[i]).1∧(l[i]).2=aKh L[i]
 | [],l,h=>by
  simp only [aEe,Option.some.injEq] at h;simp [*]
 |o::L,l,h=>by
  simp only [aEe,Option.bind_eq_some_iff,Option.map_eq_some_iff] at h
  obtain ⟨k,hk,l',hl',rfl⟩:=h
  obtain ⟨h1,h2⟩:=aZc L l' hl'
  grind
theorem aY2:∀(L:List Oper) (k:Nat),aJ8 k L=true→∀(i:Nat) (h:i<L.length),∀d∈aKh L[i],d<k+i
 | [],_,_,i,h=>absurd h (by simp)
 |o::L,k,he,i,h=>by
  simp only [aJ8,Bool.and_eq_true,List.all_eq_true,decide_eq_true_eq] at he
  cases i with
  |zero=>simp_all
  |succ i=>
   intro d hd
   have:=aY2 L (k+1) he.2 i (by grind) d hd
   omega
def unl (m:Nat) (listed:Array Bool):Nat:=((List.range m).filter fun i=>!listed.getD i true).length
theorem aMp {p q:Nat→Bool} {i:Nat}:∀{L:List Nat},L.Nodup→i∈L→p i=true→q i=false→(∀j,j≠i→q j=p j)→(L.filter q).length+1=(L.filter p).length
 | [],_,hi,_,_,_=>by cases hi
 |j::L,hn,hi,hp,hq,he=>by
  rw [List.nodup_cons] at hn
  by_cases e:j=i
  ·grind [List.filter_congr]
  ·have hi':i∈L:=(List.mem_cons.1 hi).resolve_left (fun h=>e h.symm)
   have ih:=aMp hn.2 hi' hp hq he
   grind
theorem aSc {listed:Array Bool} (hs:listed.size=ops.size) (he:aJ8 0 ops.toList=true) (h0:Region.ready .any ops listed= []):∀i,i<ops.size→listed.getD i false=true:=by
 intro i
 induction i using Nat.strongRecOn with
 |_ i ih=>
  intro hi
  cases hl:listed.getD i false with
  |true=>rfl
  |false=>
   exfalso
   have hmem:i∈Region.ready .any ops listed:=by
    rw [mem_ready]
    refine ⟨?_,ops[i],Array.getElem?_eq_getElem hi,fun e hm hb=>?_⟩
    ·simp_all
    ·have hd:e.on∈aKh ops[i]:=List.mem_map.2 ⟨e,List.mem_filter.2 ⟨by simp [*],hb⟩,rfl⟩
     have:=aY2 ops.toList 0 he i (by omega) e.on (by simp [*])
     grind
   simp_all
theorem bG4 [Quiet P] {n:Nat} {l:List (KI × List Nat)} {K:Env→World→Prop} {I:(Nat→Bool)→Env→World→Prop} (hsel:Region.noSelect ops=true) (he:aJ8 0 ops.toList=true) (hl:aEe P n ops ops.toList=some l)
  (hstep:∀(i:Nat) (h:i<l.length) (S:Nat→Bool) (ρ:Env) (w:World),S i=false→(∀d∈(l[i]).2,S d=true)→I S ρ w→aVn P I S i (l[i]).1 ρ w)
  (hend:∀(S:Nat→Bool) (ρ:Env) (w:World),(∀i,i<l.length→S i=true)→I S ρ w→K ρ w):
  ∀(fuel:Nat) (listed:Array Bool) (a:Act) (ρ:Env) (w:World),listed.size=ops.size→unl ops.size listed=fuel→Rep n a ρ→I (fun j=>listed.getD j false) ρ w→yS P ops (aU7 n K) fuel listed a w:=by
 obtain ⟨hlen,hat⟩:=aZc ops.toList l hl
 have hlen:l.length=ops.size:=by rw [hlen];simp
 intro fuel
 induction fuel with
 |zero=>
  intro listed a ρ w hs hu hr hI
  have hall:∀i,i<ops.size→listed.getD i true=true:=fun i hi=>by
   grind [unl,List.filter_eq_nil_iff]
  have h0:Region.ready .any ops listed= []:=by
   rw [List.eq_nil_iff_forall_not_mem]
   intro j hj
   obtain ⟨h1,o,ho, -⟩:=mem_ready.1 hj
   rw [hall j (Array.getElem?_eq_some_iff.1 ho).1] at h1;cases h1
  exact ⟨h0,ρ,hr,hend _ ρ w (fun i hi=>aSc hs he h0 i (by omega)) hI⟩
 |succ fuel ih=>
  intro listed a ρ w hs hu hr hI
  refine ⟨fun h0=>⟨ρ,hr,hend _ ρ w (fun i hi=>aSc hs he h0 i (by omega)) hI⟩,fun i hi=>?_⟩
  obtain ⟨hun,oi,hoi,hdep⟩:=mem_ready.1 hi
  have hil:i<ops.size:=(Array.getElem?_eq_some_iff.1 hoi).1
  have hio:ops.toList[i]'(by omega)=oi:=by
   have:=(Array.getElem?_eq_some_iff.1 hoi).2
   simpa using this
  obtain ⟨hc,hd⟩:=hat i (by omega) (by omega)
  rw [hio] at hc hd
  have F:=aD0 hc
  have hun':listed.getD i false=false:=by
   simp only [Array.getD_eq_getD_getElem?,Array.getElem?_eq_getElem (show i<listed.size by omega),Option.getD_some] at hun ⊢
   exact hun
  have hst:=hstep i (by omega) (fun j=>listed.getD j false) ρ w hun' (fun d hm=>by
   rw [hd] at hm
   obtain ⟨e,h1,rfl⟩:=List.mem_map.1 hm
   obtain ⟨h1,h2⟩:=List.mem_filter.1 h1
   exact hdep e (by simpa using h1) h2) hI
  have hset:(fun j=>(listed.setIfInBounds i true).getD j false)=bKd (fun j=>listed.getD j false) i:=by
   funext j
   unfold bKd
   by_cases e:j=i
   ·subst e
    simp [*]
   ·rw [if_neg e,getD_set_ne false (Ne.symm e)]
  have IH:∀v w',I (bKd (fun j=>listed.getD j false) i) (put ρ oi.dst v) w'→yS P ops (aU7 n K) fuel (listed.setIfInBounds i true) (a.put oi.dst v) w':=fun v w' hI'=>by
   refine ih _ _ _ w' (by simp [hs]) ?_ (by have:=F.put hr v;rwa [F.dst] at this) (by rw [hset];omega)
   have:=aMp (p:=fun i=>!listed.getD i true) (q:=fun j=>!(listed.setIfInBounds i true).getD j true) (i:=i) (L:=List.range ops.size) List.nodup_range (List.mem_range.2 hil) (by simp [hun]) (by simp) (fun j hj=>by rw [getD_set_ne true (Ne.symm hj)])
   unfold unl at hu ⊢
   omega
  unfold aVn at hst
  simp only [F.dst] at hst
  unfold aB0
  split
  ·rename_i hst2
   have hcs:(aI P oi).isStill=true:=by unfold dQ at hst2;rw [hoi] at hst2;exact hst2
   by_cases hw:lG ρ (l[i]'(by omega)).1.guard=true
   ·rw [if_pos hw,F.op] at hst
    obtain ⟨v,hv,hk⟩:=aCz hcs hst
    exact YieldsAt.stOp (v:=v) hoi (.inl ⟨by rw [F.want a ρ hr];exact hw,by rw [F.exec hr];exact pP oi v hcs hv⟩) (IH v w hk)
   ·rw [if_neg hw] at hst
    exact YieldsAt.stOp (v:=undef) hoi (.inr ⟨by rw [F.want a ρ hr];simpa using hw,rfl⟩) (IH undef w hst)
  ·unfold wpOp
   simp only [hoi]
   rw [F.want a ρ hr]
   split
   ·rename_i hw
    rw [if_pos hw] at hst
    exact .inl (F.wp hr IH hst)
   ·rename_i hw
    rw [if_neg hw] at hst
    exact IH undef w hst
theorem aWr [Quiet P] {n:Nat} {id:Nat} {l:List (KI × List Nat)} {K:Env→World→Prop} {a:Act} {ρ:Env} {w:World} {Q:Exit→Act→World→Prop} (hmx:P.follows .mixedOrders=true) (hc:aPw P n ops=some l) (hr:Rep n a ρ)
  (h:bRi P l K ρ w.drew) (hQ:∀a w,aU7 n K a w→Q .normal a w):(Code.region id ops true).wp P Q a w:=by
 unfold aPw at hc
 rw [Option.ite_none_right_eq_some] at hc
 obtain ⟨h1,h2⟩:=hc
 simp only [Bool.and_eq_true] at h1
 obtain ⟨I,hI,hstep,hend⟩:=h
 have e0:∀(d:Bool) (j:Nat),j<ops.size→(Array.replicate ops.size false).getD j d=false:=fun d j hj=>by
  simp [*]
 have e1:(fun j=>(Array.replicate ops.size false).getD j false)=fun _=>false:=by
  funext j
  simp only [Array.getD_eq_getD_getElem?,Array.getElem?_replicate];split<;>rfl
 refine wp_region_any hmx (rE hQ _ _ _ _ (bG4 h1.1 h1.2 h2 hstep hend ops.size (Array.replicate ops.size false) a ρ _ (by simp) ?_ hr (by simp_all)))
 unfold unl
 rw [List.filter_eq_self.2 (fun i hi=>by simp_all)]
 simp
inductive KC where
 |skip
 |reg (draw:Bool) (r:KR)
 |anyR (l:List (KI × List Nat))
 |seq (a b:KC)
 |cond (x:Operand) (a b:KC)
 |block (id:Nat) (c:KC)
 |loop (c:KC)
 |exit (id:Nat)
 |ret
 |raw (n:Nat) (c:Code)
def aM (P:Program):KC→(Exit→Env→World→Prop)→Env→World→Prop
 |.skip,K,ρ,w=>K .normal ρ w
 |.reg false r,K,ρ,w=>aH P r (K .normal) ρ w
 |.reg true r,K,ρ,w=>aH P r (K .normal) ρ w.drew
 |.anyR l,K,ρ,w=>bRi P l (K .normal) ρ w.drew
 |.seq a b,K,ρ,w=>aM P a (fun e ρ' w'=>match e with
  |.normal=>aM P b K ρ' w'
  |e=>K e ρ' w') ρ w
 |.cond x a b,K,ρ,w=>∃t,ev ρ x=.bool t∧(t=true→aM P a K ρ w)∧(t=false→aM P b K ρ w)
 |.block id c,K,ρ,w=>aM P c (fun e ρ' w'=>match e with
  |.exit id'=>if id'=id then K .normal ρ' w' else K (.exit id') ρ' w'
  |e=>K e ρ' w') ρ w
 |.loop c,K,ρ,w=>∃(I:Env→World→Prop) (μ:Env→World→Nat),I ρ w∧∀ρ w,I ρ w→aM P c (fun e ρ' w'=>match e with
  |.normal=>I ρ' w'∧μ ρ' w'<μ ρ w
  |e=>K e ρ' w') ρ w
 |.exit id,K,ρ,w=>K (.exit id) ρ w
 |.ret,K,ρ,w=>K .ret ρ w
 |.raw n c,K,ρ,w=>∀a,Rep n a ρ→c.wp P (fun e a' w'=>∃ρ',Rep n a' ρ'∧K e ρ' w') a w
def dJ (P:Program) [Quiet P] (n:Nat):Code→KC
 |.skip=>.skip
 |.region id ops d=>if d&&bRp P ops then (match aPw P n ops with
  |some l=>.anyR l
  |none=>.raw n (.region id ops d)) else match (if d then aPc P n ops else yJ P n ops ops.toList) with
  |some r=>.reg d r
  |none=>.raw n (.region id ops d)
 |.seq a b=>.seq (dJ P n a) (dJ P n b)
 |.cond x a b=>if aKj n x then .cond x (dJ P n a) (dJ P n b) else .raw n (.cond x a b)
 |.block id c=>.block id (dJ P n c)
 |.loop c=>.loop (dJ P n c)
 |.exit id=>.exit id
 |.ret=>.ret
 |.scope c=>.raw n (.scope c)
 |c=>.raw n c
theorem bMd {σ:Type} {c:Code} {Q:Exit→Act→World→Prop} {a:Act} {w:World} (I:σ→Act→World→Prop) (μ:σ→World→Nat) (s:σ) (h₀:I s a w)
  (round:∀s a w,I s a w→c.wp P (Exit.then (fun a' w'=>∃s',I s' a' w'∧μ s' w'<μ s w) Q) a w):(Code.loop c).wp P Q a w:=by
 intro b k cs
 have key:∀n s a w,μ s w=n→I s a w→
   ∃e a' w',Q e a' w'∧Arrives P (lone (b.at a (.code c::.inLoop c::k)) cs w) b k cs e a' w':=by
  intro n
  induction n using Nat.strongRecOn with
  |_ n ih=>
   intro s a w hn hI
   obtain ⟨e,a₁,w₁,hq,harr⟩:=round s a w hI b (.inLoop c::k) cs
   cases e with
   |normal=>
    obtain ⟨s',hI₁,hlt⟩:=hq
    obtain ⟨e₂,a₂,w₂,hq₂,harr₂⟩:=ih (μ s' w₁) (hn▸hlt) s' a₁ w₁ rfl hI₁
    exact ⟨e₂,a₂,w₂,hq₂,.of_steps (Steps.trans harr (.one step_inLoop)) harr₂⟩
   |exit id=>exact ⟨_,a₁,w₁,hq,.pass (x:=.inLoop c) rfl (fun _ _=>.inl (by simp)) harr⟩
   |goto l=>exact ⟨_,a₁,w₁,hq,.pass (x:=.inLoop c) rfl (fun _ _=>.inl (by simp)) harr⟩
   |ret=>exact ⟨_,a₁,w₁,hq,.pass (x:=.inLoop c) rfl (fun _ _=>.inl (by simp)) harr⟩
   |panic ch=>exact ⟨_,a₁,w₁,hq,.pass (x:=.inLoop c) rfl (fun _ _=>.inl (by simp)) harr⟩
   |outgrown=>exact ⟨_,a₁,w₁,hq,.pass (x:=.inLoop c) rfl (fun _ _=>.inl (by simp)) harr⟩
 obtain ⟨e,a',w',hq,harr⟩:=key _ s a w rfl h₀
 exact ⟨e,a',w',hq,.of_steps (.one step_loop) harr⟩
theorem lS [Quiet P] {n:Nat} (hmx:P.follows .mixedOrders=true):∀(c:Code) (K:Exit→Env→World→Prop) (a:Act) (ρ:Env) (w:World),Rep n a ρ→aM P (dJ P n c) K ρ w→c.wp P (fun e a' w'=>∃ρ',Rep n a' ρ'∧K e ρ' w') a w
 |.skip,K,a,ρ,w,hr,h=>wp_skip ⟨ρ,hr,h⟩
 |.region id ops d,K,a,ρ,w,hr,h=>by
  simp only [dJ] at h
  split at h
  ·rename_i hd
   simp only [Bool.and_eq_true] at hd
   obtain ⟨rfl, -⟩:=hd
   split at h
   ·rename_i l hc
    exact aWr hmx hc hr h (fun a w hp=>hp)
   ·exact h a hr
  split at h
  ·rename_i r hc
   cases d with
   |true=>exact aYv hmx (by simp_all) hr h (fun a w hp=>hp)
   |false=>exact aUj (by simp_all) hr h (fun a w hp=>hp)
  ·exact h a hr
 |.seq x y,K,a,ρ,w,hr,h=>by
  simp only [dJ,aM] at h
  refine wp_seq (Code.wp_mono ?_ (lS hmx x _ a ρ w hr h))
  rintro e a' w' ⟨ρ',hr',hk⟩
  cases e<;>first|exact ⟨ρ',hr',hk⟩|exact lS hmx y K a' ρ' w' hr' hk
 |.cond x c d,K,a,ρ,w,hr,h=>by
  simp only [dJ] at h
  split at h
  ·rename_i hx
   obtain ⟨t,ht,h1,h2⟩:=h
   refine wp_cond (t:=t) (by rw [hr.eval hx];exact ht) ?_
   cases t with
   |true=>exact lS hmx c K a ρ w hr (h1 rfl)
   |false=>exact lS hmx d K a ρ w hr (h2 rfl)
  ·exact h a hr
 |.block id c,K,a,ρ,w,hr,h=>by
  simp only [dJ,aM] at h
  refine wp_block (Code.wp_mono ?_ (lS hmx c _ a ρ w hr h))
  rintro e a' w' ⟨ρ',hr',hk⟩
  cases e with
  |exit id'=>
   simp only [Exit.inBlock] at hk ⊢
   grind
  |normal=>exact ⟨ρ',hr',hk⟩
  |ret=>exact ⟨ρ',hr',hk⟩
  |goto l=>exact ⟨ρ',hr',hk⟩
  |panic ch=>exact ⟨ρ',hr',hk⟩
  |outgrown=>exact ⟨ρ',hr',hk⟩
 |.loop c,K,a,ρ,w,hr,h=>by
  simp only [dJ,aM] at h
  obtain ⟨I,μ,h0,hround⟩:=h
  refine bMd (fun ρ a w=>Rep n a ρ∧I ρ w) μ ρ ⟨hr,h0⟩ fun ρ a w ⟨hr,hI⟩=>?_
  refine Code.wp_mono ?_ (lS hmx c _ a ρ w hr (hround ρ w hI))
  rintro e a' w' ⟨ρ',hr',hk⟩
  cases e<;>first|exact ⟨ρ',hr',hk⟩|exact ⟨ρ',⟨hr',hk.1⟩,hk.2⟩
 |.exit id,K,a,ρ,w,hr,h=>wp_exit ⟨ρ,hr,h⟩
 |.ret,K,a,ρ,w,hr,h=>wp_ret ⟨ρ,hr,h⟩
 |.scope c,K,a,ρ,w,hr,h=>h a hr
 |.goto l,K,a,ρ,w,hr,h=>h a hr
 |.label l,K,a,ρ,w,hr,h=>h a hr
 |.rangeFunc f p x y,K,a,ρ,w,hr,h=>h a hr
 |.refuse s,K,a,ρ,w,hr,h=>h a hr
inductive RV where
 |tmp (t:Tmp)
 |cell (t:Tmp)
 |cellN (n:Nat) (t:Tmp)
def bNg (P:Program) (n:Nat):ResultVar→Option RV
 |.tmp t=>if t<n then some (.tmp t) else none
 |.cell a t=>if a<n then match sF P t with
  |some (some k)=>some (.cellN k a)
  |some none=>some (.cell a)
  |none=>none
  else none
def aYr (P:Program) (n:Nat):List ResultVar→Option (List RV)
 | []=>some []
 |x::l=>(bNg P n x).bind fun r=>(aYr P n l).map (r::·)
def aDu (P:Program) (fn:Func) (n:Nat):Option (List RV):=aYr P n fn.results.toList
def aFv (ρ:Env) (w:World):RV→Option Value
 |.tmp t=>some (ρ t)
 |.cell t=>match ρ t with
  |.pointer (some a)=>w.cell? a
  |_=>none
 |.cellN n t=>match ρ t with
  |.pointer (some a)=>(rdCells w a 0 n).map fun l=>.agg l.toArray
  |_=>none
def aCk (ρ:Env) (w:World):List RV→Option (List Value)
 | []=>some []
 |x::l=>(aFv ρ w x).bind fun v=>(aCk ρ w l).map (v::·)
def aBc (ρ:Env) (w:World):List RV→Option Value
 | [t]=>aFv ρ w t
 |ts=>(aCk ρ w ts).map fun l=>.tuple l.toArray
def Spec (P:Program) (f:FuncId) (args:List Value) (w:World) (R:Value→World→Prop):Prop:=
 Calls P f args.toArray w fun e w'=>∃v,e=.returned v∧R v w'
def jB (args:List Value):Env:=fun t=>args.getD t undef
def aY (rs:List RV) (R:Value→World→Prop):Exit→Env→World→Prop
 |.normal,ρ,w|.ret,ρ,w=>∃v,aBc ρ w rs=some v∧R v w
 |_,_,_=>False
theorem bPa {n:Nat} {x:ResultVar} {r:RV} {v:Value} {a:Act} {ρ:Env} {w:World} (hr:bNg P n x=some r) (hrep:Rep n a ρ) (hv:aFv ρ w r=some v):
  (match x with|.tmp t=>pure (a.tmps.getD t undef)|.cell b t=>(do loadVar t (←asAddr (a.tmps.getD b undef))):Sem Value).run P w=.ok v w:=by
 cases x with
 |tmp t=>
  simp only [bNg,Option.ite_none_right_eq_some,Option.some.injEq] at hr
  obtain ⟨ht,rfl⟩:=hr
  simp only [aFv,Option.some.injEq] at hv
  subst hv
  simp only [hrep.getD ht,Sem.run_pure]
 |cell b t=>
  simp only [bNg,Option.ite_none_right_eq_some] at hr
  obtain ⟨hb,hr⟩:=hr
  simp only [hrep.getD hb]
  split at hr
  ·rename_i k hk
   simp only [Option.some.injEq] at hr;subst hr
   simp only [aFv] at hv
   split at hv
   ·rename_i ad had
    obtain ⟨l,hl,rfl⟩:=Option.map_eq_some_iff.1 hv
    obtain ⟨h1,h2⟩:=sH hk w
    rw [had]
    simp [asAddr,loadVar,h1,h2,loadCells,run_loadCellsFrom k 0 #[] l hl]
   grind
  ·rename_i hk
   simp only [Option.some.injEq] at hr;subst hr
   simp only [aFv] at hv
   split at hv
   ·rename_i ad had
    rw [had]
    simp [asAddr,loadVar,rU hk w,load,Sem.run,hv]
   grind
  grind
theorem aK0 {fn:Func} {n:Nat} {rs:List RV} {v:Value} {a:Act} {ρ:Env} {w:World} (hr:aDu P fn n=some rs) (hrep:Rep n a ρ) (hv:aBc ρ w rs=some v):(results fn a.tmps).run P w=.ok v w:=by
 have key:∀(l:List ResultVar) (ts:List RV) (vs:List Value),aYr P n l=some ts→aCk ρ w ts=some vs→
   (l.mapM (m:=Sem) fun|.tmp t=>pure (a.tmps.getD t undef)|.cell b t=>do loadVar t (←asAddr (a.tmps.getD b undef))).run P w=.ok vs w:=by
  intro l
  induction l with
  |nil=>intro ts vs h1 h2;simp only [aYr,Option.some.injEq] at h1;subst h1;simp only [aCk,Option.some.injEq] at h2;simp [*]
  |cons x l ih=>
   intro ts vs h1 h2
   simp only [aYr,Option.bind_eq_some_iff,Option.map_eq_some_iff] at h1
   obtain ⟨r,hr1,rs1,hrs,rfl⟩:=h1
   simp only [aCk,Option.bind_eq_some_iff,Option.map_eq_some_iff] at h2
   obtain ⟨v1,hv1,vs1,hvs,rfl⟩:=h2
   rw [List.mapM_cons]
   have h3:=bPa hr1 hrep hv1
   grind [Sem.run_bind,Result.andThen_ok,Sem.run_pure]
 unfold aDu at hr
 obtain ⟨vs,hvs,hout⟩:∃vs,aCk ρ w rs=some vs∧v=(if h:vs.toArray.size=1 then vs.toArray[0] else .tuple vs.toArray):=by
  match rs,hv with
  | [],hv=>simp only [aBc,aCk,Option.map_some,Option.some.injEq] at hv;exact ⟨[],rfl,by simp [*]⟩
  | [t],hv=>grind [aBc,aCk]
  |t::u::r,hv=>
   simp only [aBc,Option.map_eq_some_iff] at hv
   obtain ⟨vs,hvs,rfl⟩:=hv
   refine ⟨vs,hvs,?_⟩
   have hl:vs.length≠1:=by
    simp only [aCk,Option.bind_eq_some_iff,Option.map_eq_some_iff] at hvs
    obtain ⟨_,_,_,⟨_,_,_,_,rfl⟩,rfl⟩:=hvs
    simp
   grind
 have h2:=key fn.results.toList rs vs hr hvs
 unfold results
 rw [Array.mapM_eq_mapM_toList]
 simp only [Sem.run_bind,Sem.run_map]
 refine (congrArg (fun r:Result (List Value)=>(r.andThen fun l w'=>(Result.ok l.toArray w')).andThen fun vs w'=>((pure (if h:vs.size=1 then vs[0] else .tuple vs):Sem Value)).run P w') h2).trans ?_
 simp [*]
theorem iQ [Quiet P] {f:FuncId} {fn:Func} {c:Code} {n:Nat} {rs:List RV} {args:List Value} {w:World} {R:Value→World→Prop} {kc:KC} (hmx:P.follows .mixedOrders=true) (hf:P.funcs[f]? =some fn) (hb:fn.body=some c) (hn:fn.ntmps=n) (hrs:aDu P fn n=some rs)
  (hk:dJ P n c=kc) (ha:args.length≤n) (h:aM P kc (aY rs R) (jB args) w):Spec P f args w R:=by
 subst hk
 have hrep:Rep n {tmps:=args.toArray++Array.replicate (fn.ntmps - args.toArray.size) undef,defers:= []} (jB args):=by
  refine ⟨rfl,by simp [*],fun t ht=>?_⟩
  by_cases hlt:t<args.length
  ·simp [jB,Array.getElem?_append,hlt]
  ·simp [jB,Array.getElem?_append,hlt,hn]
   grind
 refine calls_of_wp hf hb (Code.wp_mono ?_ (lS hmx c _ _ _ _ hrep h))
 rintro e a' w' ⟨ρ',hr',hk⟩
 cases e
 case normal=>obtain ⟨v,hv,hR⟩:=hk;exact ⟨hr'.defers,_,aK0 hrs hr' hv,_,rfl,hR⟩
 case ret=>obtain ⟨v,hv,hR⟩:=hk;exact ⟨hr'.defers,_,aK0 hrs hr' hv,_,rfl,hR⟩
 all_goals exact hk.elim
end
section
open Go
variable {P:Program}
structure Chg (l:List Nat) (w w':World):Prop where
 os:w'.os=w.os
 tape:w'.tape=w.tape
 output:w'.output=w.output
 size:w.heap.size≤w'.heap.size
 block:∀b,b<w.heap.size→b∉l→w'.heap[b]? =w.heap[b]?
def Ext (w w':World):Prop:=Chg [] w w'
theorem Chg.refl (l:List Nat) (w:World):Chg l w w:=⟨rfl,rfl,rfl,Nat.le_refl _,fun _ _ _=>rfl⟩
theorem Ext.refl (w:World):Ext w w:=Chg.refl [] w
theorem Chg.trans {l l':List Nat} {w w1 w2:World} (h:Chg l w w1) (h':Chg l' w1 w2):Chg (l++l') w w2:=
 ⟨h'.os.trans h.os,h'.tape.trans h.tape,h'.output.trans h.output,nTr h.size h'.size,fun b hb hn=>by
  rw [List.mem_append,not_or] at hn
  exact (h'.block b (nLt hb h.size) hn.2).trans (h.block b hb hn.1)⟩
theorem Chg.mono {l l':List Nat} {w w':World} (h:Chg l w w') (hl:∀b∈l,b∈l'∨w.heap.size≤b):Chg l' w w':=
 ⟨h.os,h.tape,h.output,h.size,fun b hb hn=>h.block b hb fun hm=>by
  grind⟩
theorem Ext.trans {w w1 w2:World} (h:Ext w w1) (h':Ext w1 w2):Ext w w2:=Chg.trans h h'
theorem Chg.ext {l:List Nat} {w w1 w2:World} (h:Chg l w w1) (h':Ext w1 w2):Chg l w w2:=by simpa using Chg.trans h h'
theorem Ext.chg {l:List Nat} {w w1 w2:World} (h:Ext w w1) (h':Chg l w1 w2):Chg l w w2:=Chg.trans h h'
theorem Ext.drew (w:World):Ext w w.drew:=⟨rfl,rfl,rfl,Nat.le_refl _,fun _ _ _=>rfl⟩
theorem Ext.alloc (w:World) (o:Obj):Ext w (w.alloc o):=⟨rfl,rfl,rfl,by simp,fun b hb _=>by show (w.heap.push o)[b]? =_;grind⟩
theorem Ext.size {w w':World} (h:Ext w w'):w.heap.size≤w'.heap.size:=Chg.size h
theorem Ext.below {w w':World} (h:Ext w w'):RowKit.Below w.heap.size w w':=⟨h.os,h.tape,h.output,Chg.size h,fun k hk=>Chg.block h k hk (by simp)⟩
theorem Chg.setObj (w:World) (r:Nat) (o:Obj):Chg [r] w (dY w r o):=
 ⟨rfl,rfl,rfl,by simp [dY],fun b _ hn=>by
  show (w.heap.setIfInBounds r o)[b]? =_
  grind⟩
theorem Chg.setCell (w:World) (a:Addr) (v:Value):Chg [a.block] w (w.setCell a v):=
 ⟨rfl,rfl,rfl,by simp,fun b _ hn=>by
  show (w.heap.modify a.block _)[b]? =_
  grind⟩
theorem Ext.grown {w w':World} (h:Ext w w') (e4:w.drawn≤w'.drawn):∃q os,w'=Sort.grow (w.drewN q) os:=by
 refine ⟨w'.drawn - w.drawn,w'.heap.extract w.heap.size w'.heap.size,?_⟩
 have hh:w'.heap=w.heap++w'.heap.extract w.heap.size w'.heap.size:=by
  apply Array.ext
  ·have:=h.size;grind
  ·intro i h1 h2
   by_cases hi:i<w.heap.size
   ·have:=Chg.block h i hi (by simp)
    simp_all
   simp_all
 have e1:=Chg.os h;have e2:=Chg.tape h;have e3:=Chg.output h
 have e5:w'.drawn=w.drawn+(w'.drawn - w.drawn):=by omega
 generalize w'.heap.extract w.heap.size w'.heap.size=x at hh ⊢
 generalize w'.drawn - w.drawn=y at e5 ⊢
 cases w';cases w
 simp only at*
 subst hh e1 e2 e3 e5
 rfl
def At (w:World) (b:Nat) (o:Obj):Prop:=w.heap[b]? =some o
theorem At.lt {w:World} {b:Nat} {o:Obj} (h:At w b o):b<w.heap.size:=(Array.getElem?_eq_some_iff.1 h).1
theorem At.chg {l:List Nat} {w w':World} {b:Nat} {o:Obj} (hc:Chg l w w') (h:At w b o) (hb:b∉l):At w' b o:=(hc.block b h.lt hb).trans h
theorem At.ext {w w':World} {b:Nat} {o:Obj} (hc:Ext w w') (h:At w b o):At w' b o:=h.chg hc (by simp)
theorem At.new (w:World) (o:Obj):At (w.alloc o) w.heap.size o:=by show (w.heap.push o)[w.heap.size]? =_;simp
theorem At.setObj {w:World} {r:Nat} {o o':Obj} (h:At w r o):At (dY w r o') r o':=by
 show (w.heap.setIfInBounds r o')[r]? =_
 rw [Array.getElem?_setIfInBounds_self_of_lt h.lt]
theorem At.inj {w:World} {b:Nat} {o o':Obj} (h:At w b o) (h':At w b o'):o=o':=by grind [At]
theorem At.ne {w:World} {b b':Nat} {o o':Obj} (h:At w b o) (h':At w b' o') (hne:o≠o'):b≠b':=fun e=>by subst e;exact hne (h.inj h')
def Row (w:World) (ad:Addr) (cs:List Value):Prop:=∀j v,cs[j]? =some v→w.cell? (ad.add j)=some v
theorem add_add (a:Addr) (i j:Nat):(a.add i).add j=a.add (i+j):=by
 grind [Addr.add]
theorem add_block (a:Addr) (n:Nat):(a.add n).block=a.block:=by grind [Addr.add]
theorem cell_of_heap {w w':World} {a:Addr} (h:w'.heap[a.block]? =w.heap[a.block]?):w'.cell? a=w.cell? a:=by grind [World.cell?]
theorem cell_lt {w:World} {a:Addr} {v:Value} (h:w.cell? a=some v):a.block<w.heap.size:=by
 grind [World.cell?]
theorem Row.chg {l:List Nat} {w w':World} {ad:Addr} {cs:List Value} (hc:Chg l w w') (h:Row w ad cs) (hb:ad.block∉l):Row w' ad cs:=fun j v hj=>by
 have h1:=h j v hj
 have h2:=cell_lt h1
 rw [add_block] at h2
 rw [cell_of_heap (w:=w) (by rw [add_block];exact hc.block _ h2 hb)];exact h1
theorem Row.ext {w w':World} {ad:Addr} {cs:List Value} (hc:Ext w w') (h:Row w ad cs):Row w' ad cs:=h.chg hc (by simp)
theorem Row.of_at {w:World} {b:Nat} {cs:List Value} {t:TypeId} {f:Nat × Nat} (h:At w b (.cells cs.toArray t f)):Row w ⟨b,0,none⟩ cs:=fun j v hj=>by
 grind [At,Addr.add,World.cell?]
theorem Row.c0 {w:World} {ad:Addr} {cs:List Value} {v:Value} (h:Row w ad cs) (hv:cs[0]? =some v):w.cell? ad=some v:=by have:=h 0 v hv;rwa [add_zero] at this
theorem Row.c1 {w:World} {ad:Addr} {cs:List Value} {o:Nat} {v:Value} (h:Row w ad cs) (hv:cs[o]? =some v):w.cell? (ad.add o)=some v:=h o v hv
theorem Row.c2 {w:World} {ad:Addr} {cs:List Value} {o p:Nat} {v:Value} (h:Row w ad cs) (hv:cs[o+p]? =some v):w.cell? ((ad.add o).add p)=some v:=by rw [add_add];exact h _ v hv
theorem Row.c3 {w:World} {ad:Addr} {cs:List Value} {o p q:Nat} {v:Value} (h:Row w ad cs) (hv:cs[o+(p+q)]? =some v):w.cell? (((ad.add o).add p).add q)=some v:=by rw [add_add,add_add];exact h _ v hv
theorem Row.rd {w:World} {ad:Addr} {cs:List Value} (h:Row w ad cs):∀(n i:Nat),i+n≤cs.length→rdCells w ad i n=some ((cs.drop i).take n)
 |0,i,_=>by rfl
 |n+1,i,hn=>by
  have hlt:i<cs.length:=by omega
  have h1:=h i _ (List.getElem?_eq_getElem hlt)
  simp only [rdCells,h1,Option.bind_some,h.rd n (i+1) (by omega),Option.map_some]
  rw [List.drop_eq_getElem_cons hlt,List.take_succ_cons]
theorem aYp {w:World} {ad:Addr} {o:Nat}:∀(n i:Nat),rdCells w (ad.add o) i n=rdCells w ad (o+i) n
 |0,i=>rfl
 |n+1,i=>by simp only [rdCells,add_add,aYp n (i+1),Nat.add_assoc]
theorem Row.r0 {w:World} {ad:Addr} {cs l:List Value} {n:Nat} (h:Row w ad cs) (hn:n≤cs.length) (hl:cs.take n=l):rdCells w ad 0 n=some l:=by rw [h.rd n 0 (by omega),←hl];simp
theorem Row.r1 {w:World} {ad:Addr} {cs l:List Value} {o n:Nat} (h:Row w ad cs) (hn:o+n≤cs.length) (hl:(cs.drop o).take n=l):rdCells w (ad.add o) 0 n=some l:=by rw [aYp,h.rd n (o+0) (by omega),←hl];rfl
theorem Row.r2 {w:World} {ad:Addr} {cs l:List Value} {o p n:Nat} (h:Row w ad cs) (hn:o+p+n≤cs.length) (hl:(cs.drop (o+p)).take n=l):rdCells w ((ad.add o).add p) 0 n=some l:=by rw [add_add];exact h.r1 hn hl
def Sl (w:World) (k:Nat) (v:Value) (n:Nat) (cs:List Value):Prop:=
 cs.length=n*k∧∃base cap,v=.slice base n cap∧n≤cap∧(0<cs.length→∃a,base=some a∧Row w a cs)
theorem Sl.chg {l:List Nat} {w w':World} {k n:Nat} {v:Value} {cs:List Value} (hc:Chg l w w') (h:Sl w k v n cs) (hb:∀a m c,v=.slice (some a) m c→a.block∉l):Sl w' k v n cs:=by
 obtain ⟨h1,base,cap,hv,hnc,h2⟩:=h
 refine ⟨h1,base,cap,hv,hnc,fun hp=>?_⟩
 obtain ⟨a,ha,hr⟩:=h2 hp
 exact ⟨a,ha,hr.chg hc (hb a _ _ (by rw [hv,ha]))⟩
theorem Sl.ext {w w':World} {k n:Nat} {v:Value} {cs:List Value} (hc:Ext w w') (h:Sl w k v n cs):Sl w' k v n cs:=h.chg hc (by simp)
theorem Sl.nil (w:World) (k:Nat):Sl w k (.slice none 0 0) 0 []:=⟨by simp,_,_,rfl,Nat.le_refl _,fun h=>by grind⟩
theorem Sl.cells {w:World} {k n:Nat} {v:Value} {cs:List Value} (h:Sl w k v n cs):cV w k v=some (n,cs):=by
 obtain ⟨h1,base,cap,rfl,_,h2⟩:=h
 by_cases hp:0<cs.length
 ·obtain ⟨a,rfl,hr⟩:=h2 hp
  have:=hr.rd (n*k) 0 (by omega)
  grind [cV]
 ·have hc:cs= []:=List.length_eq_zero_iff.1 (by omega)
  subst hc
  have h0:n*k=0:=by simpa using h1.symm
  cases base with
  |none=>rfl
  |some a=>simp [cV,h0,rdCells]
theorem Sl.at_ {w:World} {k n:Nat} {v:Value} {cs:List Value} (h:Sl w k v n cs) (hk:0<k) {i:Nat} (hi:i<n):∃a cap,v=.slice (some a) n cap∧Row w (a.add (i*k)) ((cs.drop (i*k)).take k):=by
 obtain ⟨h1,base,cap,rfl,_,h2⟩:=h
 have hik:i*k+k≤n*k:=by have:=Nat.mul_le_mul_right k (show i+1≤n from hi);rw [Nat.add_mul,Nat.one_mul] at this;exact this
 obtain ⟨a,rfl,hr⟩:=h2 (by omega)
 refine ⟨a,cap,rfl,fun j u hj=>?_⟩
 rw [add_add]
 refine hr _ u ?_
 grind
section
variable {d:Option Tmp} {r:KR} {K:Env→World→Prop} {ρ:Env} {w:World}
theorem aKf (h:K ρ w):aH P .nil K ρ w:=h
theorem fG {a b:KR} (h1:aH P a K ρ w) (h2:aH P b K ρ w):aH P (.both a b) K ρ w:=⟨h1,h2⟩
theorem bE9 {a b:KR} (h:aH P a (aH P b K) ρ w):aH P (.join a b) K ρ w:=h
theorem bRn {o:KOp} {g:Tmp × Bool} (h:lG ρ (some g)=true) (k:aH P (.cons ⟨d,o,none⟩ r) K ρ w):aH P (.cons ⟨d,o,some g⟩ r) K ρ w:=by
 simp only [aH,h,if_true]
 simpa [aH,lG] using k
theorem bJ2 {o:KOp} {g:Tmp × Bool} (h:lG ρ (some g)=false) (k:aH P r K (put ρ d undef) w):aH P (.cons ⟨d,o,some g⟩ r) K ρ w:=by
 simp only [aH,h,Bool.false_eq_true,if_false];exact k
theorem aFo {t:Tmp} {v:Value} (h:ρ t=v):upd ρ t v=ρ:=by
 grind [upd]
theorem qE {o:KOp} {t:Tmp} {b:Bool} {p:Prop} [Decidable p] (h:ρ t=.bool (decide p)) (h1:p→aH P (.cons ⟨d,o,some (t,b)⟩ r) K (upd ρ t (.bool true)) w) (h2:¬p→aH P (.cons ⟨d,o,some (t,b)⟩ r) K (upd ρ t (.bool false)) w):aH P (.cons ⟨d,o,some (t,b)⟩ r) K ρ w:=by
 by_cases hp:p
 ·have:=h1 hp;grind [aFo]
 ·have:=h2 hp;grind [aFo]
theorem aVf {o:KOp} {t:Tmp} {b c:Bool} (h:ρ t=.bool c) (h1:c=true→aH P (.cons ⟨d,o,some (t,b)⟩ r) K (upd ρ t (.bool true)) w) (h2:c=false→aH P (.cons ⟨d,o,some (t,b)⟩ r) K (upd ρ t (.bool false)) w):aH P (.cons ⟨d,o,some (t,b)⟩ r) K ρ w:=by
 cases hc:c
 ·have:=h2 hc;grind [aFo]
 ·have:=h1 hc;grind [aFo]
theorem fX {o:KOp} (h:o.wp P ρ w fun v w'=>aH P r K (put ρ d v) w'):aH P (.cons ⟨d,o,none⟩ r) K ρ w:=by simpa [aH,lG] using h
theorem rA {o:KOp} {k:Value→World→Prop} {v:Value} (hs:o.isStill=true) (h:o.rd ρ w=some v) (hk:k v w):o.wp P ρ w k:=by
 cases o<;>first|exact ⟨v,h,hk⟩|(simp [KOp.isStill,KOp.isFix] at hs;done)
theorem bRf {f:FuncId} {F:List Value→Option Value} {az:List Operand} {v:Value} (h:F (az.map (ev ρ))=some v) (k:aH P r K (put ρ d v) w):aH P (.cons ⟨d,.pcall f F az,none⟩ r) K ρ w:=fX (rA rfl h k)
theorem cS {o:KOp} {v:Value} (hs:o.isFix=true) (h:o.fix ρ=some v) (k:aH P r K (put ρ d v) w):aH P (.cons ⟨d,o,none⟩ r) K ρ w:=
 fX (rA (tP hs) (by grind [KOp.rd_fix]) k)
theorem bL1 {x:Operand} (k:aH P r K (put ρ d (ev ρ x)) w):aH P (.cons ⟨d,.move x,none⟩ r) K ρ w:=cS rfl rfl k
theorem bKz {x y:Operand} {a b:Int} (hx:ev ρ x=.int .i64 a) (hy:ev ρ y=.int .i64 b) (hr: -9223372036854775808≤a+b∧a+b≤9223372036854775807) (k:aH P r K (put ρ d (.int .i64 (a+b))) w):aH P (.cons ⟨d,.bin .add x y,none⟩ r) K ρ w:=
 cS rfl (by grind [KOp.fix,bM,dK,dG,IntWalk.i64_in]) k
theorem bJu {x y:Operand} {a b:Int} (hx:ev ρ x=.int .i64 a) (hy:ev ρ y=.int .i64 b) (hr: -9223372036854775808≤a - b∧a - b≤9223372036854775807) (k:aH P r K (put ρ d (.int .i64 (a - b))) w):aH P (.cons ⟨d,.bin .sub x y,none⟩ r) K ρ w:=
 cS rfl (by grind [KOp.fix,bM,dK,dG,IntWalk.i64_in]) k
theorem tR {x y:Operand} {a b:Int} (hx:ev ρ x=.int .i64 a) (hy:ev ρ y=.int .i64 b) (hr: -9223372036854775808≤a*b∧a*b≤9223372036854775807) (k:aH P r K (put ρ d (.int .i64 (a*b))) w):aH P (.cons ⟨d,.bin .mul x y,none⟩ r) K ρ w:=
 cS rfl (by grind [KOp.fix,bM,dK,dG,IntWalk.i64_in]) k
theorem aOk {size:Nat} {x i:Operand} {a:Addr} {ln cap:Nat} {kd:IntKind} {n:Int} (hx:ev ρ x=.slice (some a) ln cap) (hi:ev ρ i=.int kd n) (hr:0≤n∧n<(ln:Int)) (k:aH P r K (put ρ d (.pointer (some (a.add (n.toNat*size))))) w):aH P (.cons ⟨d,.indexAddr size x i,none⟩ r) K ρ w:=
 cS rfl (by grind [KOp.fix]) k
theorem bNl {size:Nat} {x i:Operand} {v:Value} {cs:List Value} {ln:Nat} {kd:IntKind} {n:Nat} (hx:ev ρ x=v) (hi:ev ρ i=.int kd (n:Nat)) (hs:Sl w size v ln cs) (hk:0<size) (hr:n<ln) (k:∀ad,Row w ad ((cs.drop (n*size)).take size)→aH P r K (put ρ d (.pointer (some ad))) w):aH P (.cons ⟨d,.indexAddr size x i,none⟩ r) K ρ w:=by
 obtain ⟨a,cap,rfl,hrow⟩:=hs.at_ hk hr
 exact cS rfl (by grind [KOp.fix]) (k _ hrow)
theorem aHt {x:Operand} {ad:Addr} {v:Value} (hx:ev ρ x=.pointer (some ad)) (h:w.cell? ad=some v) (k:aH P r K (put ρ d v) w):aH P (.cons ⟨d,.load x,none⟩ r) K ρ w:=
 fX (rA rfl (by simp [KOp.rd,hx,h]) k)
theorem aP4 {n:Nat} {x:Operand} {ad:Addr} {l:List Value} (hx:ev ρ x=.pointer (some ad)) (h:rdCells w ad 0 n=some l) (k:aH P r K (put ρ d (.agg l.toArray)) w):aH P (.cons ⟨d,.loadN n x,none⟩ r) K ρ w:=
 fX (rA rfl (by simp [KOp.rd,hx,h]) k)
theorem bP1 {x:Operand} {ad:Addr} {cs:List Value} {v:Value} (hx:ev ρ x=.pointer (some ad)) (h:Row w ad cs) (hv:cs[0]? =some v) (k:aH P r K (put ρ d v) w):aH P (.cons ⟨d,.load x,none⟩ r) K ρ w:=aHt hx (h.c0 hv) k
theorem bJr {x:Operand} {ad:Addr} {o:Nat} {cs:List Value} {v:Value} (hx:ev ρ x=.pointer (some (ad.add o))) (h:Row w ad cs) (hv:cs[o]? =some v) (k:aH P r K (put ρ d v) w):aH P (.cons ⟨d,.load x,none⟩ r) K ρ w:=aHt hx (h.c1 hv) k
theorem bPl {x:Operand} {ad:Addr} {o p:Nat} {cs:List Value} {v:Value} (hx:ev ρ x=.pointer (some ((ad.add o).add p))) (h:Row w ad cs) (hv:cs[o+p]? =some v) (k:aH P r K (put ρ d v) w):aH P (.cons ⟨d,.load x,none⟩ r) K ρ w:=aHt hx (h.c2 hv) k
theorem bQd {x:Operand} {ad:Addr} {o p q:Nat} {cs:List Value} {v:Value} (hx:ev ρ x=.pointer (some (((ad.add o).add p).add q))) (h:Row w ad cs) (hv:cs[o+(p+q)]? =some v) (k:aH P r K (put ρ d v) w):aH P (.cons ⟨d,.load x,none⟩ r) K ρ w:=aHt hx (h.c3 hv) k
theorem tN {n:Nat} {x:Operand} {ad:Addr} {cs l:List Value} (hx:ev ρ x=.pointer (some ad)) (h:Row w ad cs) (hn:n≤cs.length) (hl:cs.take n=l) (k:aH P r K (put ρ d (.agg l.toArray)) w):aH P (.cons ⟨d,.loadN n x,none⟩ r) K ρ w:=aP4 hx (h.r0 hn hl) k
theorem bP6 {n:Nat} {x:Operand} {ad:Addr} {o:Nat} {cs l:List Value} (hx:ev ρ x=.pointer (some (ad.add o))) (h:Row w ad cs) (hn:o+n≤cs.length) (hl:(cs.drop o).take n=l) (k:aH P r K (put ρ d (.agg l.toArray)) w):aH P (.cons ⟨d,.loadN n x,none⟩ r) K ρ w:=aP4 hx (h.r1 hn hl) k
theorem bQm {n:Nat} {x:Operand} {ad:Addr} {o p:Nat} {cs l:List Value} (hx:ev ρ x=.pointer (some ((ad.add o).add p))) (h:Row w ad cs) (hn:o+p+n≤cs.length) (hl:(cs.drop (o+p)).take n=l) (k:aH P r K (put ρ d (.agg l.toArray)) w):aH P (.cons ⟨d,.loadN n x,none⟩ r) K ρ w:=aP4 hx (h.r2 hn hl) k
theorem nW {t:TypeId} {x:Operand} {v:Value} {cs:List Value} (hx:ev ρ x=v) (hc:v.cells=cs.toArray) (k:∀b w',Ext w w'→At w' b (.cells cs.toArray t)→Row w' ⟨b,0,none⟩ cs→w.heap.size≤b→aH P r K (put ρ d (.pointer (some ⟨b,0,none⟩))) w'):aH P (.cons ⟨d,.box t x,none⟩ r) K ρ w:=
 fX (by subst hx;have h:=At.new w (.cells cs.toArray t);rw [←hc] at h;exact k _ _ (Ext.alloc w _) (by simp_all) (Row.of_at (by rw [←hc];exact h)) (Nat.le_refl _))
theorem aDj {t:TypeId} {z:List Value} (k:∀b w',Ext w w'→At w' b (.cells z.toArray t)→w.heap.size≤b→aH P r K (put ρ d (.pointer (some ⟨b,0,none⟩))) w'):aH P (.cons ⟨d,.alloc t z,none⟩ r) K ρ w:=
 fX (k _ _ (Ext.alloc w _) (At.new w _) (Nat.le_refl _))
theorem gD {f:FuncId} {args:List Operand} {vs:List Value} {R:Value→World→Prop} (ha:args.map (ev ρ)=vs) (h:Spec P f vs w R) (k:∀v w',R v w'→aH P r K (put ρ d v) w'):aH P (.cons ⟨d,.call f args,none⟩ r) K ρ w:=
 fX (by subst ha;exact h.mono fun e w' ⟨v,hv,hR⟩=>⟨v,hv,k v w' hR⟩)
theorem dP {x:Operand} {args:List Operand} {f:FuncId} {first cap:Array Value} {vs:List Value} {R:Value→World→Prop} (hx:ev ρ x=.func (.func f) first cap) (hb:bW P f=true) (ha:first.toList++args.map (ev ρ)++cap.toList=vs) (h:Spec P f vs w R) (k:∀v w',R v w'→aH P r K (put ρ d v) w'):aH P (.cons ⟨d,.callV x args,none⟩ r) K ρ w:=
 fX ⟨f,first,cap,hx,hb,by
  have:first++(args.map (ev ρ)).toArray++cap=vs.toArray:=by apply Array.ext';simp [←ha]
  rw [this];exact h.mono fun e w' ⟨v,hv,hR⟩=>⟨v,hv,k v w' hR⟩⟩
end
def aXv (P:Program) (b:KC) (K:Exit→Env→World→Prop):Exit→Env→World→Prop
 |.normal,ρ,w=>aM P b K ρ w
 |e,ρ,w=>K e ρ w
def aDo (id:Nat) (K:Exit→Env→World→Prop):Exit→Env→World→Prop
 |.exit id',ρ,w=>if id'=id then K .normal ρ w else K (.exit id') ρ w
 |e,ρ,w=>K e ρ w
def aE3 (N:Env→World→Prop) (K:Exit→Env→World→Prop):Exit→Env→World→Prop
 |.normal,ρ,w=>N ρ w
 |e,ρ,w=>K e ρ w
section
variable {K:Exit→Env→World→Prop} {ρ:Env} {w:World} {a b:KC} {r:KR} {x:Operand}
theorem kH {K K':Env→World→Prop} (hk:∀ρ w,K ρ w→K' ρ w):∀(r:KR) {ρ w},aH P r K ρ w→aH P r K' ρ w
 |.nil,_,_,h=>hk _ _ h
 |.both a b,_,_,h=>⟨kH hk a h.1,kH hk b h.2⟩
 |.join a b,_,_,h=>kH (fun _ _ hh=>kH hk b hh) a h
 |.cons i r,ρ,w,h=>by
  simp only [aH] at h ⊢
  split
  ·rename_i hw;rw [if_pos hw] at h;exact bJv (fun v w' hv=>kH hk r hv) h
  ·rename_i hw;rw [if_neg hw] at h;exact kH hk r h
theorem gC:∀(c:KC) {K K':Exit→Env→World→Prop},(∀e ρ w,K e ρ w→K' e ρ w)→∀{ρ w},aM P c K ρ w→aM P c K' ρ w
 |.skip,_,_,hk,_,_,h=>hk _ _ _ h
 |.reg false r,_,_,hk,_,_,h=>kH (hk .normal) r h
 |.reg true r,_,_,hk,_,_,h=>kH (hk .normal) r h
 |.anyR l,_,_,hk,_,_,⟨I,h0,hs,he⟩=>⟨I,h0,hs,fun S ρ w ha hI=>hk _ _ _ (he S ρ w ha hI)⟩
 |.seq a b,_,_,hk,_,_,h=>gC a (fun e ρ w he=>by cases e<;>first|exact gC b hk he|exact hk _ _ _ he) h
 |.cond x a b,_,_,hk,_,_,⟨t,ht,h1,h2⟩=>⟨t,ht,fun e=>gC a hk (h1 e),fun e=>gC b hk (h2 e)⟩
 |.block id c,_,_,hk,_,_,h=>gC c (fun e ρ w he=>by
   grind) h
 |.loop c,_,_,hk,_,_,⟨I,μ,h0,hr⟩=>⟨I,μ,h0,fun ρ w hI=>gC c (fun e ρ w he=>by cases e<;>first|exact he|exact hk _ _ _ he) (hr ρ w hI)⟩
 |.exit id,_,_,hk,_,_,h=>hk _ _ _ h
 |.ret,_,_,hk,_,_,h=>hk _ _ _ h
 |.raw n c,_,_,hk,_,_,h=>fun a hr=>Code.wp_mono (fun e a w ⟨ρ',h1,h2⟩=>⟨ρ',h1,hk _ _ _ h2⟩) (h a hr)
theorem bOu (h:aM P a (aXv P b K) ρ w):aM P (.seq a b) K ρ w:=gC a (fun e ρ w he=>by cases e<;>exact he) h
theorem bOf {id:Nat} (h:aM P a (aDo id K) ρ w):aM P (.block id a) K ρ w:=gC a (fun e ρ w he=>by cases e<;>exact he) h
theorem bQi (I:Env→World→Prop) (μ:Env→World→Nat) (h0:I ρ w) (h:∀ρ w,I ρ w→aM P a (aE3 (fun ρ' w'=>I ρ' w'∧μ ρ' w'<μ ρ w) K) ρ w):aM P (.loop a) K ρ w:=by
 exact ⟨I,μ,h0,fun ρ w hI=>gC a (fun e ρ w he=>by cases e<;>exact he) (h ρ w hI)⟩
theorem bQx (J:Env→World→Prop) (h:aM P a (aE3 J K) ρ w) (h2:∀ρ w,J ρ w→aM P b K ρ w):aM P (.seq a b) K ρ w:=
 bOu (gC a (fun e ρ w he=>by cases e<;>first|exact h2 _ _ he|exact he) h)
theorem bPb (h:aM P b K ρ w):aXv P b K .normal ρ w:=h
theorem bBl (h:K .ret ρ w):aXv P b K .ret ρ w:=h
theorem aW2 {id:Nat} (h:K (.exit id) ρ w):aXv P b K (.exit id) ρ w:=h
theorem bMc {id:Nat} (h:K .normal ρ w):aDo id K .normal ρ w:=h
theorem aXl {id:Nat} (h:K .ret ρ w):aDo id K .ret ρ w:=h
theorem aVx {id:Nat} (h:K .normal ρ w):aDo id K (.exit id) ρ w:=by simp only [aDo,if_true];exact h
theorem aRi {id id':Nat} (hne:id'≠id) (h:K (.exit id') ρ w):aDo id K (.exit id') ρ w:=by simp only [aDo,if_neg hne];exact h
theorem bQu {N:Env→World→Prop} (h:N ρ w):aE3 N K .normal ρ w:=h
theorem bCm {N:Env→World→Prop} (h:K .ret ρ w):aE3 N K .ret ρ w:=h
theorem aY7 {N:Env→World→Prop} {id:Nat} (h:K (.exit id) ρ w):aE3 N K (.exit id) ρ w:=h
theorem aA {rs:List RV} {R:Value→World→Prop} {v:Value} (hv:aBc ρ w rs=some v) (h:R v w):aY rs R .ret ρ w:=⟨v,hv,h⟩
theorem bEr {rs:List RV} {R:Value→World→Prop} {v:Value} (hv:aBc ρ w rs=some v) (h:R v w):aY rs R .normal ρ w:=⟨v,hv,h⟩
theorem bQp (h:K .normal ρ w):aM P .skip K ρ w:=h
theorem bQ8 (h:K .ret ρ w):aM P .ret K ρ w:=h
theorem bPq {id:Nat} (h:K (.exit id) ρ w):aM P (.exit id) K ρ w:=h
theorem bQ6 (h:aH P r (K .normal) ρ w):aM P (.reg false r) K ρ w:=h
theorem bPh (h:∀w',Ext w w'→aH P r (K .normal) ρ w'):aM P (.reg true r) K ρ w:=h _ (Ext.drew w)
theorem bO3 (h:aH P r (aM P b K) ρ w):aM P (.seq (.reg false r) b) K ρ w:=h
theorem bMv (h:∀w',Ext w w'→aH P r (aM P b K) ρ w'):aM P (.seq (.reg true r) b) K ρ w:=h _ (Ext.drew w)
theorem rK {p:Prop} [Decidable p] (hx:ev ρ x=.bool (decide p)) (h1:p→aM P a K ρ w) (h2:¬p→aM P b K ρ w):aM P (.cond x a b) K ρ w:=
 ⟨decide p,hx,fun h=>h1 (by simp_all),fun h=>h2 (by simp_all)⟩
theorem rX {t:Bool} (hx:ev ρ x=.bool t) (h1:t=true→aM P a K ρ w) (h2:t=false→aM P b K ρ w):aM P (.cond x a b) K ρ w:=⟨t,hx,h1,h2⟩
theorem aNj {p:Prop} [Decidable p] (hx:ev ρ x=.bool (!decide p)) (h1:¬p→aM P a K ρ w) (h2:p→aM P b K ρ w):aM P (.cond x a b) K ρ w:=
 ⟨_,hx,fun h=>h1 (by simp_all),fun h=>h2 (by simp_all)⟩
theorem bJp (hx:ev ρ x=.bool true) (h:aM P a K ρ w):aM P (.cond x a b) K ρ w:=⟨true,hx,fun _=>h,fun h=>(by cases h)⟩
theorem aGs (hx:ev ρ x=.bool false) (h:aM P b K ρ w):aM P (.cond x a b) K ρ w:=⟨false,hx,fun h=>(by cases h),fun _=>h⟩
end
attribute [irreducible] aXv aDo aE3
end
end Go.K
namespace Go.Proofs.YteceapipdhnhdaaGreatDoor
section
open Go Go.K
theorem mixed:Tryz.prog.follows .mixedOrders=true:=by kernel_rfl
@[reducible] def t (n:Nat):Operand:=.tmp n
def aD (f:Func):Code:=f.body.getD .skip
namespace F
abbrev kedgelaw20_ChurnNil:Nat:=3
abbrev kedgeref05_Cut:Nat:=7
abbrev churn_Pool_Block:Nat:=8
abbrev chain_New:Nat:=9
abbrev churn_Pool_Unblock:Nat:=10
abbrev churn_Pool_Get:Nat:=11
abbrev churn_Pool_Spender:Nat:=12
abbrev churn_Pool_Need:Nat:=13
abbrev churn_New:Nat:=14
abbrev kedgelaw20_wakes:Nat:=15
abbrev churn_Pool_Floor:Nat:=16
abbrev churn_Pool_All:Nat:=17
abbrev churn_Pool_Pair:Nat:=19
abbrev churn_Pool_Accept:Nat:=20
abbrev kedgelaw20_begin:Nat:=21
abbrev chain_Chain_Connect:Nat:=25
abbrev chain_Chain_Height:Nat:=26
abbrev chain_Chain_Disconnect:Nat:=27
abbrev kedgelaw20_both_block:Nat:=28
abbrev ident_ID:Nat:=29
abbrev graph_Graph_All:Nat:=30
abbrev slices_Contains_L_string_string:Nat:=31
abbrev churn_Pool_anew:Nat:=32
abbrev coins_New:Nat:=33
abbrev slices_DeleteFunc_L_api_Tx_api_Tx:Nat:=34
abbrev slices_Clone_L_api_Tx_api_Tx:Nat:=35
abbrev tx_Base:Nat:=36
abbrev churn_Pool_held:Nat:=37
abbrev graph_Graph_Get:Nat:=38
abbrev graph_Graph_Spender:Nat:=39
abbrev replace_Need:Nat:=40
abbrev graph_New:Nat:=41
abbrev kedgeref17_Make:Nat:=42
abbrev kedgeref13_Coins:Nat:=43
abbrev churn_Pool_come:Nat:=46
abbrev churn_Pool_terms:Nat:=49
abbrev churn_Pool_Accept_1:Nat:=50
abbrev pool_Accept:Nat:=51
abbrev tx_Grant:Nat:=52
abbrev api_Code:Nat:=57
abbrev block_Apply:Nat:=62
abbrev chain_linked:Nat:=63
abbrev block_Revert:Nat:=64
abbrev kedgeref13_Connect:Nat:=65
abbrev kedgeref20_Block:Nat:=66
abbrev wire_Bare:Nat:=67
abbrev sha_Twice:Nat:=68
abbrev slices_Index_L_string_string:Nat:=69
abbrev pool_Plain:Nat:=70
abbrev replace_Conflicts:Nat:=71
abbrev limit_Fits:Nat:=72
abbrev graph_Graph_Add:Nat:=73
abbrev trim_Trim:Nat:=74
abbrev slices_IndexFunc_L_api_Tx_api_Tx:Nat:=75
abbrev tx_base:Nat:=76
abbrev tx_Copy:Nat:=77
abbrev ident_Size:Nat:=78
abbrev graph_Graph_Sum:Nat:=79
abbrev replace_Evicted:Nat:=80
abbrev amount_Fee:Nat:=81
abbrev replace_above:Nat:=82
abbrev amount_Good:Nat:=83
abbrev kedgeref05_ID:Nat:=84
abbrev kedgeref12_Apply:Nat:=85
abbrev graph_Graph_Copy:Nat:=86
abbrev pool_Terms_asked:Nat:=92
abbrev replace_Rules:Nat:=93
abbrev pool_without:Nat:=94
abbrev graph_Graph_Drop:Nat:=95
abbrev slices_Clone_L_api_Out_api_Out:Nat:=96
abbrev kedgeref10_Find:Nat:=97
abbrev kedgeref20_trimmed:Nat:=99
abbrev kedgeref07_ID:Nat:=100
abbrev errors_As:Nat:=102
abbrev kedgeref05_Base:Nat:=103
abbrev kedgeref20_anew:Nat:=104
abbrev coins_Set_Copy:Nat:=106
abbrev block_apply:Nat:=107
abbrev block_missing:Nat:=108
abbrev block_swap:Nat:=109
abbrev chain_copies:Nat:=110
abbrev tx_Check:Nat:=111
abbrev wire_encode:Nat:=112
abbrev sha_Sum:Nat:=113
abbrev check_Fee:Nat:=114
abbrev pool_Over:Nat:=115
abbrev dust_First:Nat:=116
abbrev slices_ContainsFunc_L_api_In_api_In:Nat:=117
abbrev replace_Conflicts_1:Nat:=118
abbrev replace_Conflicts_1_1:Nat:=119
abbrev graph_Graph_Above:Nat:=120
abbrev limit_within:Nat:=121
abbrev limit_housed:Nat:=122
abbrev graph_entry:Nat:=123
abbrev trim_total:Nat:=124
abbrev trim_Worst:Nat:=125
abbrev amount_Rate:Nat:=126
abbrev trim_Score:Nat:=127
abbrev graph_Graph_Below:Nat:=128
abbrev strings_Repeat:Nat:=129
abbrev slices_Clone_L_api_In_api_In:Nat:=130
abbrev slices_Clone_L_string_string:Nat:=131
abbrev ident_Weight:Nat:=132
abbrev amount_within:Nat:=133
abbrev math_bits_Mul64:Nat:=134
abbrev math_bits_Div64:Nat:=135
abbrev kedgeref12_One:Nat:=136
abbrev maps_Clone_map_string_api_Entry_string_api_Entry:Nat:=137
abbrev maps_Clone_map_api_Point_string_api_Point_string:Nat:=138
abbrev slices_ContainsFunc_L_string_string:Nat:=140
abbrev replace_Rules_1:Nat:=141
abbrev replace_replaceable:Nat:=142
abbrev replace_fresh:Nat:=143
abbrev slices_DeleteFunc_L_string_string:Nat:=144
abbrev graph_Graph_Drop_1:Nat:=145
abbrev kedgeref10_same:Nat:=146
abbrev kedgeref05_Check:Nat:=147
abbrev kedgeref19_Trim:Nat:=154
abbrev kedgeref06_Bytes:Nat:=155
abbrev kedgeref04_Twice:Nat:=156
abbrev maps_Clone_map_api_Point_api_Coin_api_Point_api_Coin:Nat:=167
abbrev block_may:Nat:=168
abbrev coins_Set_Take:Nat:=169
abbrev block_pay:Nat:=170
abbrev coins_Set_All:Nat:=171
abbrev coins_Set_Get:Nat:=172
abbrev coins_Set_Put:Nat:=173
abbrev tx_Total:Nat:=174
abbrev tx_counts:Nat:=175
abbrev tx_long:Nat:=176
abbrev tx_formed:Nat:=177
abbrev tx_twice:Nat:=178
abbrev wire_encode_1:Nat:=179
abbrev strings_Builder_WriteString:Nat:=180
abbrev octet_Put:Nat:=181
abbrev wire_counted:Nat:=182
abbrev wire_sized:Nat:=183
abbrev strings_Builder_String:Nat:=184
abbrev sha_begin:Nat:=185
abbrev sha_keys:Nat:=186
abbrev sha_padded:Nat:=187
abbrev sha_schedule:Nat:=188
abbrev sha_round:Nat:=189
abbrev sha_high:Nat:=190
abbrev check_formed:Nat:=191
abbrev check_spent:Nat:=192
abbrev amount_Sum:Nat:=193
abbrev amount_Sub:Nat:=194
abbrev check_told:Nat:=195
abbrev slices_IndexFunc_L_api_Out_api_Out:Nat:=196
abbrev dust_Dust:Nat:=197
abbrev slices_IndexFunc_L_api_In_api_In:Nat:=198
abbrev graph_Graph_reach:Nat:=199
abbrev graph_Graph_parents:Nat:=200
abbrev graph_Graph_Above_1:Nat:=201
abbrev amount_Compare:Nat:=202
abbrev amount_priced:Nat:=203
abbrev graph_Graph_children:Nat:=204
abbrev wire_Encode:Nat:=209
abbrev kedgeref11_Fee:Nat:=211
abbrev kedgeref10_Take:Nat:=212
abbrev kedgeref10_Put:Nat:=213
abbrev slices_IndexFunc_L_string_string:Nat:=215
abbrev replace_signals:Nat:=216
abbrev replace_replaceable_1:Nat:=217
abbrev graph_Graph_Out:Nat:=218
abbrev kedgeref05_long:Nat:=219
abbrev kedgeref05_Total:Nat:=220
abbrev kedgeref01_Good:Nat:=222
abbrev kedgeref02_Put:Nat:=231
abbrev kedgeref06_length:Nat:=232
abbrev kedgeref04_Sum:Nat:=233
abbrev slices_SortFunc_L_coins_Entry_coins_Entry:Nat:=241
abbrev coins_order:Nat:=242
abbrev coins_formed:Nat:=243
abbrev amount_Add:Nat:=244
abbrev tx_within:Nat:=245
abbrev tx_counts_1:Nat:=246
abbrev tx_long_1:Nat:=247
abbrev slices_ContainsFunc_L_api_Out_api_Out:Nat:=248
abbrev tx_long_2:Nat:=249
abbrev tx_long_3:Nat:=250
abbrev octet_known:Nat:=252
abbrev vint_Put:Nat:=253
abbrev sha_right:Nat:=254
abbrev lock_Open:Nat:=255
abbrev lock_Ripe:Nat:=256
abbrev dust_Least:Nat:=257
abbrev slices_Concat_L_string_string:Nat:=258
abbrev graph_Graph_reach_1:Nat:=259
abbrev cmp_Or_int:Nat:=260
abbrev cmp_Compare_uint64:Nat:=261
abbrev wire_witnessed:Nat:=265
abbrev kedgeref08_Open:Nat:=267
abbrev kedgeref08_Ripe:Nat:=268
abbrev kedgeref01_Sum:Nat:=269
abbrev kedgeref10_Total:Nat:=270
abbrev kedgeref05_Less:Nat:=271
abbrev replace_signals_1:Nat:=272
abbrev kedgeref03_Put:Nat:=274
abbrev kedgeref04_pad:Nat:=275
abbrev kedgeref04_block:Nat:=276
abbrev tx_Less:Nat:=281
abbrev slices_Contains_L_int_int:Nat:=283
abbrev math_bits_RotateLeft32:Nat:=284
abbrev lock_is:Nat:=285
abbrev lock_chosen:Nat:=286
abbrev lock_waits:Nat:=287
abbrev lock_height:Nat:=288
abbrev lock_Ripe_1:Nat:=289
abbrev dust_Size:Nat:=290
abbrev slices_Grow_L_string_string:Nat:=291
abbrev cmp_isNaN_uint64:Nat:=292
abbrev wire_witnessed_1:Nat:=294
abbrev kedgeref08_Get:Nat:=295
abbrev kedgeref08_Signed:Nat:=296
abbrev kedgeref08_Waits:Nat:=297
abbrev kedgeref04_k:Nat:=299
abbrev kedgeref04_right:Nat:=300
abbrev strings_Compare:Nat:=311
abbrev cmp_Compare_uint32:Nat:=312
abbrev slices_Index_L_int_int:Nat:=313
abbrev lock_Get:Nat:=314
abbrev lock_Signed:Nat:=315
abbrev kedgeref02_Get:Nat:=316
abbrev cmp_isNaN_uint32:Nat:=323
abbrev lock_number:Nat:=324
abbrev lock_Put:Nat:=325
abbrev octet_Get:Nat:=328
abbrev chain_Chain_Get:Nat:=346
abbrev pool_over_Get:Nat:=366
end F
namespace T
abbrev func:Nat:=1
abbrev int:Nat:=3
abbrev bool:Nat:=4
abbrev uint8:Nat:=5
abbrev string:Nat:=9
abbrev interface:Nat:=20
abbrev api_Tx:Nat:=26
abbrev L_api_Tx:Nat:=32
abbrev P_chain_Chain:Nat:=33
abbrev api_Entry:Nat:=36
abbrev api_Errno:Nat:=41
abbrev kedgeref17_Small:Nat:=64
abbrev kedgeref13_Chain:Nat:=71
abbrev kedgeref20_Pool:Nat:=73
abbrev kedgelaw20_both:Nat:=75
abbrev L_string:Nat:=84
abbrev api_In:Nat:=86
abbrev api_Out:Nat:=88
abbrev P_graph_Graph:Nat:=89
abbrev churn_Pool:Nat:=91
abbrev P_coins_Set:Nat:=95
abbrev chain_Chain:Nat:=99
abbrev block_Undo:Nat:=135
abbrev chain_link:Nat:=140
abbrev graph_Graph:Nat:=148
abbrev coins_Set:Nat:=159
abbrev kedgeref10_Entry:Nat:=172
abbrev P_api_Errno:Nat:=201
abbrev P_api_Fault:Nat:=202
abbrev api_Fault:Nat:=205
abbrev map_string_int:Nat:=230
abbrev coins_Entry:Nat:=278
abbrev strings_Builder:Nat:=284
abbrev n_8_uint32:Nat:=289
abbrev n_64_uint32:Nat:=291
abbrev pool_over:Nat:=301
abbrev api_Branch:Nat:=367
end T
@[reducible] def oM (d:Nat) (a:Nat) (k:KR):KR:=.cons ⟨some d,.move (t a),none⟩ k
@[reducible] def oF (d:Nat) (i a:Nat) (k:KR):KR:=.cons ⟨some d,.fieldAddr i (t a),none⟩ k
@[reducible] def oI (d:Nat) (i a b:Nat) (k:KR):KR:=.cons ⟨some d,.indexAddr i (t a) (t b),none⟩ k
@[reducible] def oE (d:Nat) (i a:Nat) (k:KR):KR:=.cons ⟨some d,.field i (t a),none⟩ k
@[reducible] def oN (d:Nat) (i n a:Nat) (k:KR):KR:=.cons ⟨some d,.fieldN i n (t a),none⟩ k
@[reducible] def oX (d:Nat) (i a:Nat) (k:KR):KR:=.cons ⟨some d,.extract i (t a),none⟩ k
@[reducible] def oL (d:Nat) (a:Nat) (k:KR):KR:=.cons ⟨some d,.load (t a),none⟩ k
@[reducible] def oK (d:Nat) (n a:Nat) (k:KR):KR:=.cons ⟨some d,.loadN n (t a),none⟩ k
@[reducible] def oZ (a:Nat) (k:KR):KR:=.cons ⟨none,.nilCheck (t a),none⟩ k
@[reducible] def oS (a b:Nat) (k:KR):KR:=.cons ⟨none,.store (t a) (t b),none⟩ k
@[reducible] def oU (n a b:Nat) (k:KR):KR:=.cons ⟨none,.storeN n (t a) (t b),none⟩ k
@[reducible] def oD (d:Nat) (a:Nat) (k:KR):KR:=.cons ⟨some d,.len false (t a),none⟩ k
@[reducible] def oT (d:Nat) (a:Nat) (k:KR):KR:=.cons ⟨some d,.not (t a),none⟩ k
@[reducible] def oB (d:Nat) (o:BinOp) (a b:Nat) (k:KR):KR:=.cons ⟨some d,.bin o (t a) (t b),none⟩ k
@[reducible] def oC (d:Nat) (o:BinOp) (a:Nat) (c:Int) (k:KR):KR:=.cons ⟨some d,.bin o (t a) (.const (.int .i64 c)),none⟩ k
@[reducible] def oV (d:Nat) (c:IntKind) (a:Nat) (k:KR):KR:=.cons ⟨some d,.conv c (t a),none⟩ k
@[reducible] def oO (d:Nat) (c:Int) (k:KR):KR:=.cons ⟨some d,.move (.const (.int .i64 c)),none⟩ k
@[reducible] def oR (d:Nat) (o:KOp) (k:KR):KR:=.cons ⟨some d,o,none⟩ k
@[reducible] def oQ (o:KOp) (k:KR):KR:=.cons ⟨none,o,none⟩ k
@[reducible] def oG (d:Nat) (n:Nat) (b:Bool) (o:KOp) (k:KR):KR:=.cons ⟨some d,o,some (n,b)⟩ k
@[reducible] def oH (n:Nat) (b:Bool) (o:KOp) (k:KR):KR:=.cons ⟨none,o,some (n,b)⟩ k
@[reducible] def oi (c:Int):Operand:=.const (.int .i64 c)
@[reducible] def oa (f a:Nat):KOp:=.call f [t a]
@[reducible] def ob (f a b:Nat):KOp:=.call f [t a,t b]
@[reducible] def oc (f a b c:Nat):KOp:=.call f [t a,t b,t c]
@[reducible] def od (c:Bool) (k:KR):KC:=.reg c k
structure HeldC (b:Prop):Prop where
 out:b
theorem ox {a b:Prop} (k:b) (h:HeldC b→a:=by intro hheld;dsimp -failIfUnchanged only [oM,oF,oI,oE,oN,oX,oL,oK,oZ,oS,oU,oD,oT,oB,oC,oV,oO,oR,oQ,oG,oH,oi,oa,ob,oc,od];exact hheld.out):a:=h ⟨k⟩
@[reducible] def q0:Quiet Tryz.prog:=⟨fun _=>none,fun _ _ _ _ _ h=>(by cases h)⟩
end
end Go.Proofs.YteceapipdhnhdaaGreatDoor
