/- The engine, part 4: operations that write or call; regions.  -/
import Derived.Laws.IdiomStrings
import Derived.Laws.BytesString
import Derived.Below
import Derived.Sort.Grow
import Derived.Deep.Draws
import Derived.Test.YtgloknkcfchnlabGreatDoorProg
import Derived.KernelRfl
import Derived.Test.YtgloknkcfchnlabGreatDoorZ1
set_option linter.unusedVariables false
set_option linter.unusedSimpArgs false
namespace Go.K
section
open Go
variable {P:Program} {ρ:Env} {w:World}
theorem aE3 {a:Addr} {v:Value} (h1:v.oneCell'=true) (hc:(w.cell? a).isSome=true) (hf:w.frozen? a=false):(store a v).run P w=.ok () (w.setCell a v):=by
 obtain ⟨u,hu⟩:=Option.isSome_iff_exists.1 hc
 rw [run_store P w a v .plain h1,hu]
 simp [hf]
theorem aFz (w:World) (p q:Addr) (u:Value):((w.setCell p u).cell? q).isSome=(w.cell? q).isSome:=by
 by_cases h:p=q
 ·subst h
  cases hc:w.cell? p with
  |none=>
   unfold World.cell? World.setCell at*
   simp only [Array.getElem?_modify]
   cases hh:w.heap[p.block]? with
   |none=>simp
   |some o=>
    rw [hh] at hc
    cases o<;>simp_all
  |some v=>rw [World.cell?_setCell_same _ _ _ hc];rfl
 ·rw [World.cell?_setCell_other _ _ _ _ h]
theorem jF {a:Addr}:∀(vs:List Value) (i:Nat) (w:World),(∀v∈vs,v.oneCell'=true)→aHn w a i vs.length→(storeCells a vs i).run P w=.ok () (gC w a i vs)
 | [],i,w,_,_=>rfl
 |v::vs,i,w,h1,hc=>by
  have h0:=hc i (Nat.le_refl _) (by simp)
  simp only [storeCells,Sem.run_bind,aE3 (h1 v (by simp)) h0.1 h0.2,Result.andThen_ok,gC]
  refine jF vs (i+1) _ (fun u hu=>h1 u (by simp [hu])) fun j hj hj2=>?_
  have:=hc j (by omega) (by simp;omega)
  rw [aFz,World.frozen?_setCell]
  exact this
theorem dY {r:Nat} {o:Obj} (h:w.heap[r]? =some o) (hc:∀c t f,o≠.cells c t f):(getObj r).run P w=.ok o w:=by
 unfold getObj
 simp only [Sem.run,h]
theorem fG {r:Nat} {o o':Obj} (h:w.heap[r]? =some o) (hc:∀c t f,o≠.cells c t f):(setObj r o').run P w=.ok () (cL w r o'):=by
 unfold setObj
 simp only [Sem.run,h]
 rfl
theorem zeros_length (z:List Value):∀n,(zeros z n).length=n*z.length
 |0=>by simp [zeros]
 |n+1=>by simp [zeros,zeros_length z n,Nat.add_mul];omega
theorem aG7 (z:List Value):∀(n i:Nat),i<n*z.length→(zeros z n)[i]? =z[i%z.length]?
 |0,i,h=>by simp at h
 |n+1,i,h=>by
  simp only [zeros]
  by_cases hi:i<z.length
  ·rw [List.getElem?_append_left hi,Nat.mod_eq_of_lt hi]
  ·rw [List.getElem?_append_right (by omega),aG7 z n (i - z.length) (by rw [Nat.add_mul] at h;omega),show i%z.length=(i - z.length)%z.length from Nat.mod_eq_sub_mod (by omega)]
theorem sB (z:Array Value) (n:Nat) (hz:0<z.size):(Array.range (n*z.size)).map (fun i=>z[i%z.size]!)=(zeros z.toList n).toArray:=by
 apply Array.ext'
 apply List.ext_getElem?
 intro i
 by_cases hi:i<n*z.size
 ·have hm:i%z.size<z.size:=Nat.mod_lt _ hz
  rw [List.getElem?_toArray.symm]
  simp only [Array.toList_map]
  have h1:=aG7 z.toList n i (by simpa using hi)
  simp only [Array.length_toList] at h1
  rw [h1]
  simp [hi,hm]
 ·have h1:=zeros_length z.toList n
  simp only [Array.length_toList] at h1
  rw [List.getElem?_eq_none (by simp;omega),List.getElem?_eq_none (by simp;omega)]
theorem xS {t:TypeId} {s:Bool} {ks:List CK} {e:TypeId} (h:keyOf P t=some (s,ks,e)):∃k,P.underlying t=some (.map k e)∧fC P 20 k=some ks∧s=pI P k:=by
 unfold keyOf at h
 split at h
 ·rename_i kt et hu
  obtain ⟨ks',hks,heq⟩:=Option.map_eq_some_iff.1 h
  simp only [Prod.mk.injEq] at heq
  obtain ⟨hs,rfl,rfl⟩:=heq
  exact ⟨kt,hu,hks,hs.symm⟩
 ·cases h
theorem aHi {s:Bool} {ks:List CK} {k v:Value} {es:Array MapEntry} {i:Nat} (h:gJ s ks k es.toList 0=some (some (i,v))):(Instr.keyThatStays (((es[i]?).map (·.key)).getD k) k).run P w=.ok k w:=by
 obtain ⟨_,e,he,hk,_,hq⟩:=aE9 _ _ _ _ h
 have he':es[i]? =some e:=by simpa using he
 rw [he']
 exact aJq hq
theorem dE {es:Array MapEntry} {c:Nat}:∀a b d,Obj.map es c≠.cells a b d:=by intro a b d h;cases h
theorem wE {m:Option Nat} {a c:Nat} {s:Array Nat}:∀p q d,Obj.mapIter m a s c≠.cells p q d:=by intro a b d h;cases h
theorem aGx {t:TypeId} {s:Bool} {ks:List CK} {e:TypeId} (hk:keyOf P t=some (s,ks,e)) {r:Nat} {es:Array MapEntry} {clock:Nat} {kv v:Value} {f:Option (Nat × Value)} (hr:w.heap[r]? =some (.map es clock)) (ho:aA2 s ks kv=true) (hf:gJ s ks kv es.toList 0=some f):
  (Instr.mapUpdate t (.map (some r)) kv v).run P w=.ok () (cL w r (.map (fR es clock kv v f).1 (fR es clock kv v f).2)):=by
 obtain ⟨kt,hu,hks,rfl⟩:=xS hk
 have hg:=dY (P:=P) hr dE
 have hck:=pF (w:=w) (em:=false) hks ho
 have hfk:=pV (w:=w) hks hf
 simp only [Instr.mapUpdate,Sem.run_bind,aA hu,Result.andThen_ok,hg,hck,hfk]
 cases f with
 |none=>simp [fR,fG hr dE]
 |some p=>
  obtain ⟨i,u⟩:=p
  simp [fR,aHi hf,fG hr dE]
theorem aJr {t:TypeId} {s:Bool} {ks:List CK} {e:TypeId} {z:Value} (hk:keyOf P t=some (s,ks,e)) (hz:zeroOf P e=some z) {r:Nat} {es:Array MapEntry} {clock:Nat} {kv:Value} {f:Option (Nat × Value)} (hr:w.heap[r]? =some (.map es clock)) (ho:aA2 s ks kv=true) (hf:gJ s ks kv es.toList 0=some f):
  (Instr.mapEntry t (.map (some r)) kv).run P w=match f with
   |some (i,v)=>.ok (.tuple #[v,.int .i64 (((es[i]?).map (·.born)).getD 0:Nat)]) (cL w r (.map (es.modify i fun e=>{e with key:=kv}) clock))
   |none=>.ok (.tuple #[z,.int .i64 (clock:Nat)]) (cL w r (.map (es.push {key:=kv,val:=z,born:=clock}) (clock+1))):=by
 obtain ⟨kt,hu,hks,rfl⟩:=xS hk
 obtain ⟨inf,hinf,hz'⟩:=Option.bind_eq_some_iff.1 hz
 have hzv:∀w,(zeroValue e).run P w=.ok z w:=fun w=>by simp [zeroValue,aW hinf,hz']
 have hg:=dY (P:=P) hr dE
 have hck:=pF (w:=w) (em:=false) hks ho
 have hfk:=pV (w:=w) hks hf
 simp only [Instr.mapEntry,Sem.run_bind,aA hu,Result.andThen_ok,hg,hck,hfk]
 cases f with
 |none=>simp [hzv,fG hr dE,goInt]
 |some p=>
  obtain ⟨i,u⟩:=p
  simp only [aHi hf,Result.andThen_ok,Sem.run_bind,fG hr dE,Sem.run_pure,goInt]
  cases es[i]? <;>rfl
theorem aTt {it:Value} {ty:TypeId} {b m since last clock:Nat} {seen:Array Nat} {es:Array MapEntry} {k:Value→World→Prop} (hit:it=.pointer (some ⟨b,0,none⟩)) (hb:w.heap[b]? =some (.mapIter (some m) since seen last)) (hm:w.heap[m]? =some (.map es clock))
  (h1:∀e∈es,e.born<since) (h3:seen.isEmpty=true∨es.isEmpty=true∨∃e∈es,e.born<last)
  (h4:(es.filter fun e=>!seen.contains e.born).isEmpty=true→∀w',(w'=w∨w'=w.drew)→k (.tuple #[.bool false]) w')
  (h5:∀e∈es.filter (fun e=>!seen.contains e.born),∀w',(w'=w∨w'=w.drew)→k (.tuple #[.bool true,e.key,e.val]) (cL w' b (.mapIter (some m) since (seen.push e.born) clock))):
  ∃v w',(Instr.next it false ty).run P w=.ok v w'∧k v w':=by
 subst hit
 have hg1:=dY (P:=P) hb wE
 have hg2:=dY (P:=P) hm dE
 have hno:(!seen.isEmpty&&!es.isEmpty&&es.all (fun e=>decide (e.born≥last)))=false:=by
  rcases h3 with h|h|⟨e,he,hlt⟩
  ·simp [h]
  ·simp [h]
  ·have:es.all (fun e=>decide (e.born≥last))=false:=by
    refine Bool.eq_false_iff.2 fun h=>?_
    rw [Array.all_eq_true_iff_forall_mem] at h
    have:=h e he
    simp at this;omega
   simp [this]
 have hold:(es.filter fun e=>!seen.contains e.born).filter (fun e=>decide (e.born<since))=es.filter fun e=>!seen.contains e.born:=by
  apply Array.filter_eq_self.2
  intro e he
  have:=h1 e (Array.mem_of_mem_filter he)
  simpa using this
 have hnew:(es.filter fun e=>!seen.contains e.born).filter (fun e=>decide (e.born≥since))=#[]:=by
  apply Array.filter_eq_empty_iff.2
  intro e he
  have:=h1 e (Array.mem_of_mem_filter he)
  simp;omega
 generalize hL:(es.filter fun e=>!seen.contains e.born)=left at*
 unfold Instr.next
 simp only [Sem.run_bind,hg1,hg2,Result.andThen_ok,hno,Bool.false_eq_true,if_false,hL,hold,hnew,Array.append_empty]
 by_cases he:left.isEmpty=true
 ·have:left=#[]:=by simpa using he
  subst this
  refine ⟨_,w,?_,h4 he w (.inl rfl)⟩
  simp [choose,Sem.run,Question.forced]
 ·have hpos:0<left.size:=by
   rcases Nat.eq_zero_or_pos left.size with h|h
   ·exact absurd (by simpa using h) he
   ·exact h
  obtain ⟨c,w',hc,hrun,hw'⟩:∃c w',c<left.size∧(choose (.mapNext left.size)).run P w=.ok c w'∧(w'=w∨w'=w.drew):=by
   by_cases hf:left.size≤1
   ·exact ⟨0,w,hpos,by simp [choose,Sem.run,Question.forced,hf],.inl rfl⟩
   ·exact ⟨_,w.drew,Nat.mod_lt _ hpos,by simp [choose,Sem.run,Question.forced,Question.cut,hf];rfl,.inr rfl⟩
  refine ⟨_,_,?_,h5 left[c] (Array.getElem_mem hc) w' hw'⟩
  have hb':w'.heap[b]? =some (.mapIter (some m) since seen last):=by rcases hw' with rfl|rfl<;>exact hb
  simp only [he,Bool.false_eq_true,if_false,Array.empty_append,Array.size_map,hrun,Result.andThen_ok,Array.getElem?_map,Array.getElem?_eq_getElem hc,Option.map_some,Sem.run_bind,fG hb' wE,Sem.run_pure]
theorem yO {a:Addr}:∀(n i:Nat),rdCells w.drew a i n=rdCells w a i n
 |0,_=>rfl
 |n+1,i=>by simp only [rdCells,World.cell?_drew,yO n (i+1)]
theorem aAh {size:Nat} {v:Value}:cA w.drew size v=cA w size v:=by
 unfold cA
 split<;>simp only [yO]
theorem aHx {size:Nat} {y:Value} {n:Nat} {l:List Value} (h:cA w size y=some (n,l)) (w2:World):(Builtin.lenOf y).run P w2=.ok n w2:=by
 unfold cA at h
 split at h
 ·obtain ⟨_,_,h⟩:=Option.map_eq_some_iff.1 h;simp only [Prod.mk.injEq] at h;obtain ⟨rfl,_⟩:=h;rfl
 ·simp only [Option.some.injEq,Prod.mk.injEq] at h;obtain ⟨rfl,_⟩:=h;rfl
 ·simp only [Option.some.injEq,Prod.mk.injEq] at h;obtain ⟨rfl,_⟩:=h;rfl
 ·cases h
theorem jG {size:Nat} {y:Value} {n:Nat} {l:List Value} (h:cA w size y=some (n,l)):(Builtin.firstCells size n y).run P w=.ok l.toArray w:=by
 unfold cA at h
 split at h
 ·rename_i a m c
  obtain ⟨l',hl,h⟩:=Option.map_eq_some_iff.1 h;simp only [Prod.mk.injEq] at h;obtain ⟨rfl,rfl⟩:=h
  simp [Builtin.firstCells,loadCells,run_loadCellsFrom (m*size) 0 #[] l' hl]
 ·simp only [Option.some.injEq,Prod.mk.injEq] at h;obtain ⟨rfl,rfl⟩:=h;rfl
 ·rename_i s
  simp only [Option.some.injEq,Prod.mk.injEq] at h;obtain ⟨rfl,rfl⟩:=h
  have:s.extract 0 s.size=s:=by
   apply ByteArray.ext;simp
  simp only [Builtin.firstCells,this]
  have e2:(s.data.map fun b=>Value.int .u8 b.toNat)=(iT s).toArray:=by apply Array.ext';simp [iT]
  rw [e2];rfl
 ·cases h
theorem aOx {t u ty e : TypeId} {d : TypeDesc} {inf : TypeInfo} {z : Value} (ht : P.underlying t = some (.slice e)) (hu : P.underlying u = some d) (hd : ∀ k, d ≠ .int k) (hinf : P.info? e = some inf) (hz : zeroOf P e = some z)
    (hzs : z.cells.size = inf.size) (hpos : 0 < inf.size) (hb : inf.bytes ≠ 0) {base : Option Addr} {sLen sCap n : Nat} {y : Value} {new : List Value} (hy : cA w inf.size y = some (n, new)) {k : Value → World → Prop}
    (h1 : sLen + n ≤ sCap → match base with
        | some a => (∀ v ∈ new, v.oneCell' = true) ∧ aHn w (a.add (sLen * inf.size)) 0 new.length ∧ k (.slice base (sLen + n) sCap) (gC w (a.add (sLen * inf.size)) 0 new)
        | none => k (.slice base (sLen + n) sCap) w)
    (h2 : sCap < sLen + n → ∃ old, cA w inf.size (.slice base sLen sCap) = some (sLen, old) ∧ Builtin.nextslicecap (sLen + n) sCap * inf.bytes ≤ 2 ^ 48 ∧
          ∀ c, sLen + n ≤ c → k (.slice (some ⟨w.heap.size, 0, none⟩) (sLen + n) c) (w.drew.alloc (.cells (old ++ new ++ zeros z.cells.toList (c - (sLen + n))).toArray e))) :
    ∃ v w', (Builtin.append_ #[t, u] ty #[.slice base sLen sCap, y]).run P w = .ok v w' ∧ k v w' := by
  have hzv : ∀ w, (zeroValue e).run P w = .ok z w := fun w => by
    obtain ⟨inf', hinf', hz'⟩ := Option.bind_eq_some_iff.1 hz
    simp [zeroValue, aW hinf', hz']
  have hl := aHx (P := P) hy
  by_cases hc : sLen + n ≤ sCap
  · have h1' := h1 hc
    cases base with
    | none =>
      refine ⟨_, w, ?_, h1'⟩
      simp [Builtin.append_, aA ht, bI hinf, aA hu, hl, hc, jG hy]
    | some a =>
      obtain ⟨hone, hcan, hk⟩ := h1'
      refine ⟨_, _, ?_, hk⟩
      have hst := jF (P := P) (a := a.add (sLen * inf.size)) new 0 w hone hcan
      simp [Builtin.append_, aA ht, bI hinf, aA hu, hl, hc, jG hy, hst]
  · obtain ⟨old, hold, hcap, hk⟩ := h2 (by omega)
    obtain ⟨c, hc3⟩ : ∃ c, c = grownCap w (sLen + n) sCap e := ⟨_, rfl⟩
    have hc1 : sLen + n ≤ c := by rw [hc3]; simp [grownCap, Question.cut]
    refine ⟨_, _, ?_, hk c hc1⟩
    have f1 := jG (P := P) (w := w.drew) (size := inf.size) (y := .slice base sLen sCap) (by rw [aAh]; exact hold)
    have f2 := jG (P := P) (w := w.drew) (size := inf.size) (y := y) (by rw [aAh]; exact hy)
    have hr : Builtin.zeroCells z.cells (c - (sLen + n)) = (zeros z.cells.toList (c - (sLen + n))).toArray := by
      unfold Builtin.zeroCells
      exact sB z.cells _ (by omega)
    have hnc : ¬ (281474976710656 < Builtin.nextslicecap (sLen + n) sCap * inf.bytes) := by omega
    simp [Builtin.append_, aA ht, bI hinf, aA hu, hl, hc, f1, f2, aW hinf, hb, hzv, hnc, newRow, Question.forced]
    rw [hc3] at hr ⊢
    unfold grownCap at hr ⊢
    rw [hr]
    simp
theorem yQ {a:Addr}:∀(n i m:Nat) (l:List Value),rdCells w a i n=some l→m≤n→rdCells w a i m=some (l.take m)
 |n,i,0,l,_,_=>by simp [rdCells]
 |n+1,i,m+1,l,h,hm=>by
  simp only [rdCells,Option.bind_eq_some_iff,Option.map_eq_some_iff] at h
  obtain ⟨v,hv,r,hr,rfl⟩:=h
  simp [rdCells,hv,yQ n (i+1) m r hr (by omega)]
theorem aDo {size:Nat} {y:Value} {n m:Nat} {l:List Value} (h:cA w size y=some (n,l)) (hs:(∃a m c,y=.slice a m c)∨size=1) (hm:m≤n):(Builtin.firstCells size m y).run P w=.ok (l.take (m*size)).toArray w:=by
 unfold cA at h
 split at h
 ·rename_i a n' c
  obtain ⟨l',hl,h⟩:=Option.map_eq_some_iff.1 h;simp only [Prod.mk.injEq] at h;obtain ⟨rfl,rfl⟩:=h
  have:=yQ (n'*size) 0 (m*size) l' hl (Nat.mul_le_mul_right _ hm)
  simp [Builtin.firstCells,loadCells,run_loadCellsFrom (m*size) 0 #[] _ this]
 ·simp only [Option.some.injEq,Prod.mk.injEq] at h;obtain ⟨rfl,rfl⟩:=h;simp [Builtin.firstCells]
 ·rename_i s
  simp only [Option.some.injEq,Prod.mk.injEq] at h;obtain ⟨rfl,rfl⟩:=h
  rcases hs with ⟨a,m',c,hs⟩|rfl
  ·cases hs
  ·have e2:((s.extract 0 m).data.map fun b=>Value.int .u8 b.toNat)=((iT s).take (m*1)).toArray:=by
    apply Array.ext'
    simp [iT,ByteArray.data_extract]
   simp only [Builtin.firstCells,e2];rfl
 ·cases h
theorem aPg {t:TypeId} {v rv:Value} {name:String} {f:FuncId} (h:mF P t v name=some (f,rv)):(method (P.types.size+Made.depth) t v name).run P w=.ok (f,rv) w:=by
 unfold mF at h
 split at h
 ·rename_i i d hi hu
  split at h
  ·rename_i m hm
   have e:P.types.size+Made.depth=(P.types.size+99)+1:=rfl
   rw [e]
   generalize P.types.size+99=fuel
   obtain ⟨mn,ms,path,func⟩:=m
   obtain ⟨path⟩:=path
   cases path with
   |cons a b=>simp at h
   |nil=>
    rcases func with _|⟨g,_|_⟩
    ·simp at h
    ·cases d<;>simp only [Option.some.injEq,Prod.mk.injEq,reduceCtorEq] at h<;>obtain ⟨rfl,rfl⟩:=h<;>
      simp [method,follow,receiverAt,Place.get,aW hi,hm,aA hu]
    ·cases d<;>simp only [Option.some.injEq,Prod.mk.injEq,reduceCtorEq] at h<;>obtain ⟨rfl,rfl⟩:=h<;>
      simp [method,follow,receiverAt,Place.get,aW hi,hm,aA hu]
  ·cases h
 ·cases h
theorem aTz [Quiet P] (o : Oper) (k : Value → World → Prop) (h : (aC P o).wp P ρ w k) : (KOp.raw o).wp P ρ w k := by
  by_cases hst : (aC P o).isStill = true
  · have h2 : ∃ v, (aC P o).rd ρ w = some v ∧ k v w := by
      generalize aC P o = ko at h hst
      cases ko <;> first | exact h | (simp [KOp.isStill, KOp.isFix] at hst; done)
    obtain ⟨v, hv, hk⟩ := h2
    rcases jU o v hst hv with hr | ⟨hr, rfl⟩ | ⟨f, az, hr, hc⟩
    · simp only [KOp.wp, hr]; exact hk
    · simp only [KOp.wp, hr]; exact hk
    · simp only [KOp.wp, hr]; exact hc.mono fun e w'' ⟨he, hw⟩ => ⟨v, he, by rw [hw]; exact hk⟩
  · obtain ⟨dst, op, ty, pos, after, guard⟩ := o
    cases op
    case box t x =>
      simp only [aC, KOp.wp] at h ⊢
      have : (execOp (ev ρ) { dst := dst, op := .box t x, type := ty, pos := pos, after := after, guard := guard }).run P w = .ok (.value (.pointer (some ⟨w.heap.size, 0, none⟩))) (w.alloc (.cells (ev ρ x).cells t)) := by
        simp [execOp, Instr.box, newVar, newRow]
      rw [this]; exact h
    case alloc t =>
      simp only [aC] at h
      split at h
      · rename_i inf hinf
        split at h
        · rename_i z hz
          simp only [KOp.wp] at h ⊢
          have hzv : (zeroValue t).run P w = .ok z w := by simp [zeroValue, aW hinf, hz]
          have : (execOp (ev ρ) { dst := dst, op := .alloc t, type := ty, pos := pos, after := after, guard := guard }).run P w = .ok (.value (.pointer (some ⟨w.heap.size, 0, none⟩))) (w.alloc (.cells z.cells t)) := by
            simp [execOp, Instr.alloc, hzv, newVar, newRow]
          rw [this]; exact h
        · exact h
      · exact h
    case store t x y =>
      have fin : ∀ {w' : World} (a : Addr), ev ρ x = .pointer (some a) → (storeVar t a (ev ρ y)).run P w = .ok () w' →
          (execOp (ev ρ) { dst := dst, op := .store t x y, type := ty, pos := pos, after := after, guard := guard }).run P w = .ok .skip w' := by
        intro w' a hx hr
        simp [execOp, Instr.storeAt, hx, hX, hr]
      simp only [aC] at h
      split at h
      · rename_i n _ hn
        simp only [KOp.wp] at h ⊢
        obtain ⟨a, vs, hx, hy, hsz, h1, hc, hk⟩ := h
        have hs := (lH hn w).2
        rw [fin a hx (w' := gC w a 0 vs.toList)]
        · exact hk
        · have := jF (P := P) (a := a) vs.toList 0 w h1 (by simpa [hsz] using hc)
          simp [storeVar, hs, hy, Value.cells, hsz, this]
      · rename_i inf hn hinf
        split at h
        · rename_i hone
          simp only [KOp.wp] at h ⊢
          obtain ⟨a, hx, h1, hc, hf, hk⟩ := h
          rw [fin a hx (w' := w.setCell a (ev ρ y))]
          · exact hk
          · have hcell : (ev ρ y).cells = #[ev ρ y] := by
              generalize ev ρ y = v at h1
              cases v <;> first | rfl | (simp [Value.oneCell'] at h1; done)
            have h3 := aE3 (P := P) h1 hc hf
            simp [storeVar, bI hinf, hone, hcell, storeCells, add_zero, h3]
        · exact h
      · exact h
    case call c =>
      obtain ⟨callee, args, argTypes⟩ := c
      have enter : ∀ (f : FuncId) (vs : Array Value), dB P f = true → (callFunc f vs).run P w = .ok (.enter f vs) w := by
        intro f vs hb
        unfold dB at hb
        split at hb
        · rename_i fn hfn
          simp only [Bool.and_eq_true, Bool.not_eq_true'] at hb
          have hne : fn.name ≠ "runtime.NumGoroutine" := by simpa using hb.2
          have hbn : fn.body ≠ none := by intro hn; rw [hn] at hb; simp at hb
          simp [callFunc, hfn, hne, hbn]
        · cases hb
      cases callee with
      | value fo =>
        cases fo with
        | func f =>
          simp only [aC] at h
          split at h
          · rename_i hb
            cases hq : Quiet.tab P f with
            | some F => rw [hq] at h; simp only [aC, if_pos hb, hq] at hst; exact absurd rfl hst
            | none =>
            rw [hq] at h
            simp only [KOp.wp] at h ⊢
            have : (execOp (ev ρ) { dst := dst, op := .call { callee := .value (.func f), args := args, argTypes := argTypes }, type := ty, pos := pos, after := after, guard := guard }).run P w = .ok (.enter f (args.toList.map (ev ρ)).toArray) w := by
              simp only [execOp, resolve, ev, Deferred.ofValue, Sem.run_bind, Sem.run_pure, Result.andThen_ok, invoke]
              rw [aM1]
              simpa using enter f _ hb
            rw [this]; exact h
          · exact h
        | tmp t =>
          simp only [aC, KOp.wp] at h ⊢
          obtain ⟨f, first, cap, hx, hb, hc⟩ := h
          have : (execOp (ev ρ) { dst := dst, op := .call { callee := .value (.tmp t), args := args, argTypes := argTypes }, type := ty, pos := pos, after := after, guard := guard }).run P w = .ok (.enter f (first ++ (args.toList.map (ev ρ)).toArray ++ cap)) w := by
            simp only [execOp, resolve, hx, Deferred.ofValue, Sem.run_bind, Sem.run_pure, Result.andThen_ok, invoke]
            rw [aM1]
            simpa using enter f _ hb
          rw [this]; exact hc
        | const v => exact h
        | global g => exact h
      | invoke r m =>
        simp only [aC, KOp.wp] at h ⊢
        obtain ⟨t, v, f, rv, hx, hm, hb, hc⟩ := h
        have : (execOp (ev ρ) { dst := dst, op := .call { callee := .invoke r m, args := args, argTypes := argTypes }, type := ty, pos := pos, after := after, guard := guard }).run P w = .ok (.enter f (rv :: args.toList.map (ev ρ)).toArray) w := by
          have h1 := aPg (w := w) hm
          have h2 : ∀ a : Array Value, #[rv] ++ (#[Value.iface t v] ++ a).extract 1 (#[Value.iface t v] ++ a).size = (rv :: a.toList).toArray := by
            intro a
            apply Array.ext'
            simp
          simp only [execOp, resolve, hx, Sem.run_bind, Sem.run_pure, Result.andThen_ok, invoke]
          rw [aM1]
          have h3 : (#[Value.iface t v] ++ (args.toList.map (ev ρ)).toArray)[0]? = some (Value.iface t v) := by simp
          simp only [h3, callMethod, Sem.run_bind, h2, run_program, Result.andThen_ok, h1, enter f _ hb]
        rw [this]; exact hc
      | builtin b =>
        cases b
        case len =>
          simp only [aC] at h hst
          split at h
          · rename_i x t hx ht
            simp only [hx, ht] at hst
            split at h
            · rename_i hu; rw [hu] at hst; exact absurd rfl hst
            · rename_i hu; rw [hu] at hst; exact absurd rfl hst
            · rename_i hu; rw [hu] at hst; exact absurd rfl hst
            · exact h
          · exact h
        case cap =>
          simp only [aC] at h hst
          repeat' split at h
          all_goals first
            | exact h
            | (exfalso; simp only [*] at hst; exact hst rfl)
        case delete =>
          simp only [aC] at h
          split at h
          · rename_i m kk t rest hx ht
            split at h
            · rename_i s ks e hk
              simp only [KOp.wp] at h ⊢
              obtain ⟨r, es, clock, f, hm, hr, ho, hf, hkk⟩ := h
              have ea : args = #[m, kk] := by apply Array.ext'; simpa using hx
              have et : argTypes[0]? = some t := by rw [← Array.getElem?_toList, ht]; rfl
              subst ea
              obtain ⟨kt, hu, hks, rfl⟩ := xS hk
              have hck := pF (w := w) (em := es.isEmpty) hks ho
              have hfk := pV (w := w) hks hf
              cases f with
              | none =>
                have : (execOp (ev ρ) { dst := dst, op := .call { callee := .builtin .delete, args := #[m, kk], argTypes := argTypes }, type := ty, pos := pos, after := after, guard := guard }).run P w = .ok (.value (.tuple #[])) (cL w r (.map es clock)) := by
                  simp [execOp, resolve, invoke, builtin, Builtin.delete_, et, hm, aA hu, dY hr dE, hck, hfk, fG hr dE]
                rw [this]; exact hkk
              | some p =>
                obtain ⟨i, v⟩ := p
                have : (execOp (ev ρ) { dst := dst, op := .call { callee := .builtin .delete, args := #[m, kk], argTypes := argTypes }, type := ty, pos := pos, after := after, guard := guard }).run P w = .ok (.value (.tuple #[])) (cL w r (.map (es.eraseIdxIfInBounds i) clock)) := by
                  simp [execOp, resolve, invoke, builtin, Builtin.delete_, et, hm, aA hu, dY hr dE, hck, hfk, fG hr dE]
                rw [this]; exact hkk
            · exact h
          · exact h
        case append =>
          simp only [aC] at h
          split at h
          · rename_i x y t u hx ht
            have ea : args = #[x, y] := by apply Array.ext'; simpa using hx
            have et : argTypes = #[t, u] := by apply Array.ext'; simpa using ht
            subst ea; subst et
            split at h
            · exact h
            · rename_i e d hni hte hue
              split at h
              · rename_i inf z hinf hz
                split at h
                · rename_i hcond
                  obtain ⟨hzs, hpos, hb⟩ := hcond
                  simp only [KOp.wp] at h ⊢
                  obtain ⟨base, sLen, sCap, n, new, hxv, hy, h1, h2⟩ := h
                  obtain ⟨v, w', hrun, hk⟩ := aOx (P := P) (ty := ty) hte hue (fun k hk => hni _ hk) hinf hz hzs hpos hb hy h1 h2
                  have : (execOp (ev ρ) { dst := dst, op := .call { callee := .builtin .append, args := #[x, y], argTypes := #[t, u] }, type := ty, pos := pos, after := after, guard := guard }).run P w = .ok (.value v) w' := by
                    simp [execOp, resolve, invoke, builtin, hxv, hrun]
                  rw [this]; exact hk
                · exact h
              · exact h
            · exact h
          · exact h
        case copy =>
          simp only [aC] at h
          split at h
          · rename_i x y t rest hx ht
            split at h
            · rename_i e hu
              split at h
              · rename_i inf hinf
                simp only [KOp.wp] at h ⊢
                obtain ⟨base, dLen, cap, n, new, hxv, hy, hs, hone, hcan, hk⟩ := h
                have ea : args = #[x, y] := by apply Array.ext'; simpa using hx
                have et : argTypes[0]? = some t := by rw [← Array.getElem?_toList, ht]; rfl
                subst ea
                have hl := aHx (P := P) hy w
                have hfc := aDo (P := P) (m := min n dLen) hy hs (Nat.min_le_left _ _)
                cases base with
                | none =>
                  have : (execOp (ev ρ) { dst := dst, op := .call { callee := .builtin .copy, args := #[x, y], argTypes := argTypes }, type := ty, pos := pos, after := after, guard := guard }).run P w = .ok (.value (.int .i64 (min n dLen : Nat))) w := by
                    simp [execOp, resolve, invoke, builtin, Builtin.copy_, et, hxv, aA hu, hl, bI hinf, hfc, goInt]
                  rw [this]; exact hk
                | some a =>
                  have hst := jF (P := P) (a := a) (new.take (min n dLen * inf.size)) 0 w (fun v hv => hone v (List.mem_of_mem_take hv)) (by
                    have hc := hcan a rfl
                    intro j h1 h2
                    refine hc j h1 ?_
                    have := List.length_take_le (min n dLen * inf.size) new
                    omega)
                  have : (execOp (ev ρ) { dst := dst, op := .call { callee := .builtin .copy, args := #[x, y], argTypes := argTypes }, type := ty, pos := pos, after := after, guard := guard }).run P w = .ok (.value (.int .i64 (min n dLen : Nat))) (gC w a 0 (new.take (min n dLen * inf.size))) := by
                    simp [execOp, resolve, invoke, builtin, Builtin.copy_, et, hxv, aA hu, hl, bI hinf, hfc, goInt, hst]
                  rw [this]; exact hk
              · exact h
            · exact h
          · exact h
        case min => simp only [aC] at h hst; split at h <;> first | exact h | (rename_i hx; rw [hx] at hst; exact absurd rfl hst)
        case max => simp only [aC] at h hst; split at h <;> first | exact h | (rename_i hx; rw [hx] at hst; exact absurd rfl hst)
        all_goals exact h
    case panic x => simp only [aC, KOp.wp] at h
    case unOp op t x => cases op <;> first | exact h | exact absurd rfl hst
    case slice t x lo hi mx =>
      cases mx with
      | some m => exact h
      | none =>
        simp only [aC] at h hst; repeat' split at h
        all_goals first
          | exact h
          | (exfalso; simp only [*] at hst; exact hst rfl)
    case mapUpdate t m kk v =>
      simp only [aC] at h
      split at h
      · rename_i s ks e hk
        simp only [KOp.wp] at h ⊢
        obtain ⟨r, es, clock, f, hm, hr, ho, hf, hkk⟩ := h
        have hrun := aGx (P := P) (t := t) (v := ev ρ v) hk hr ho hf
        have : (execOp (ev ρ) { dst := dst, op := .mapUpdate t m kk v, type := ty, pos := pos, after := after, guard := guard }).run P w = .ok .skip (cL w r (.map (fR es clock (ev ρ kk) (ev ρ v) f).1 (fR es clock (ev ρ kk) (ev ρ v) f).2)) := by
          simp [execOp, hm, hrun]
        rw [this]; exact hkk
      · exact h
    case mapEntry t m kk =>
      simp only [aC] at h
      split at h
      · rename_i s ks e hk
        split at h
        · rename_i z hz
          simp only [KOp.wp] at h ⊢
          obtain ⟨r, es, clock, f, hm, hr, ho, hf, hkk⟩ := h
          have hrun := aJr (P := P) (t := t) hk hz hr ho hf
          cases f with
          | none =>
            have : (execOp (ev ρ) { dst := dst, op := .mapEntry t m kk, type := ty, pos := pos, after := after, guard := guard }).run P w = .ok (.value (.tuple #[z, .int .i64 (clock : Nat)])) (cL w r (.map (es.push { key := ev ρ kk, val := z, born := clock }) (clock + 1))) := by
              simp [execOp, hm, hrun]
            rw [this]; exact hkk
          | some p =>
            obtain ⟨i, v⟩ := p
            have : (execOp (ev ρ) { dst := dst, op := .mapEntry t m kk, type := ty, pos := pos, after := after, guard := guard }).run P w = .ok (.value (.tuple #[v, .int .i64 (((es[i]?).map (·.born)).getD 0 : Nat)])) (cL w r (.map (es.modify i fun e => { e with key := ev ρ kk }) clock)) := by
              simp only [execOp, hm, hrun, Sem.run_bind, Result.andThen_ok, Sem.run_pure]
            rw [this]; exact hkk
        · exact h
      · exact h
    case entryStore t m s v =>
      simp only [aC, KOp.wp] at h ⊢
      obtain ⟨r, es, clock, kd, n, i, hm, hr, hs, hi, hkk⟩ := h
      have : (execOp (ev ρ) { dst := dst, op := .entryStore t m s v, type := ty, pos := pos, after := after, guard := guard }).run P w = .ok .skip (cL w r (.map (es.modify i fun e => { e with val := ev ρ v }) clock)) := by
        simp only [execOp, Instr.entryStore, hm, hs, Sem.run_bind, dY hr dE, Result.andThen_ok, asInt, asIntOf, Sem.run_pure, hi, fG hr dE]
      rw [this]; exact hkk
    case makeMap t r =>
      cases r with
      | some x => exact h
      | none =>
        simp only [aC, KOp.wp] at h ⊢
        have : (execOp (ev ρ) { dst := dst, op := .makeMap t none, type := ty, pos := pos, after := after, guard := guard }).run P w = .ok (.value (.map (some w.heap.size))) (w.alloc (.map #[] 0)) := by
          simp [execOp, Instr.makeMap]
        rw [this]; exact h
    case range t x =>
      simp only [aC] at h
      split at h
      · rename_i kt e hu
        simp only [KOp.wp] at h ⊢
        obtain ⟨r, es, clock, hx, hr, hk⟩ := h
        have : (execOp (ev ρ) { dst := dst, op := .range t x, type := ty, pos := pos, after := after, guard := guard }).run P w = .ok (.value (.pointer (some ⟨w.heap.size, 0, none⟩))) (w.alloc (.mapIter (some r) clock #[] clock)) := by
          simp [execOp, Instr.range, hx, aA hu, dY hr dE]
        rw [this]; exact hk
      · exact h
    case next it b =>
      cases b with
      | true => exact h
      | false =>
        simp only [aC, KOp.wp] at h ⊢
        obtain ⟨b, m, since, seen, last, es, clock, hit, hb, hm, h1, h2, h3, h4, h5⟩ := h
        obtain ⟨v, w', hr, hk⟩ := aTt (P := P) (ty := ty) hit hb hm h1 h3 h4 h5
        have : (execOp (ev ρ) { dst := dst, op := .next it false, type := ty, pos := pos, after := after, guard := guard }).run P w = .ok (.value v) w' := by
          simp [execOp, hr]
        rw [this]; exact hk
    case entry it =>
      simp only [aC, KOp.wp] at h ⊢
      obtain ⟨b, m, since, seen, stepped, st, es, e, hit, hb, hs, hm, hf, hk⟩ := h
      have : (execOp (ev ρ) { dst := dst, op := .entry it, type := ty, pos := pos, after := after, guard := guard }).run P w = .ok (.value (.tuple #[e.key, e.val])) w := by
        simp [execOp, Instr.entry, hit, dY hb wE, hs, dY hm dE, hf]
      rw [this]; exact hk
    case buildSlice t ln parts =>
      simp only [aC] at h
      split at h
      · rename_i e hu
        split at h
        · rename_i inf z hinf hz
          split at h
          · rename_i hcond
            obtain ⟨h24, hzs, hpos, hall⟩ := hcond
            simp only [KOp.wp] at h ⊢
            obtain ⟨cs, hcs, hk⟩ := h
            obtain ⟨inf', hinf', hz'⟩ := Option.bind_eq_some_iff.1 hz
            have hzv : (zeroValue e).run P w = .ok z w := by simp [zeroValue, aW hinf', hz']
            have hzl := zeros_length z.cells.toList ln
            simp only [Array.length_toList, hzs] at hzl
            have hfill := aFq (ρ := ρ) (place := fun i => some (i * inf.size, inf.size)) (off := fun i => i * inf.size) (sz := fun _ => inf.size) parts.toList (zeros z.cells.toList ln).toArray cs
              (fun p hp => ⟨rfl, by
                have := List.all_eq_true.1 hall p hp
                simp only [decide_eq_true_eq] at this
                rw [Nat.add_mul, Nat.one_mul] at this
                simpa [hzl] using this⟩) (by simpa using hcs)
            have hrun : (Instr.buildSlice t ln (parts.map fun p => (p.1, ev ρ p.2))).run P w = .ok (.slice (some ⟨w.heap.size, 0, none⟩) ln ln) (w.alloc (.cells cs.toArray e)) := by
              have e3 : (parts.map fun p => (p.1, ev ρ p.2)).toList = parts.toList.map fun p => (p.1, ev ρ p.2) := by simp
              have hn24 : ¬ (ln * inf.size > 2 ^ 24) := by omega
              by_cases h0 : ln * inf.size = 0
              · have hln : ln = 0 := by
                  rcases Nat.mul_eq_zero.1 h0 with h | h
                  · exact h
                  · omega
                subst hln
                have hp0 : parts.toList = [] := by
                  rcases hpl : parts.toList with _ | ⟨p, r⟩
                  · rfl
                  · have := List.all_eq_true.1 hall p (by rw [hpl]; simp)
                    have h5 : 0 < (p.1 + 1) * inf.size := Nat.mul_pos (by omega) hpos
                    simp only [Nat.zero_mul, decide_eq_true_eq] at this
                    omega
                have hcs0 : cs = [] := by
                  rw [hp0] at hcs; simpa [kB, zeros] using hcs.symm
                subst hcs0
                have hpe : parts = #[] := by apply Array.ext'; simpa using hp0
                subst hpe
                simp [Instr.buildSlice, aA hu, bI hinf, Instr.fill, newRow, show Array.range 0 = #[] from rfl]
              · have hz2 : (Array.range (ln * inf.size)).map (fun i => z.cells[i % z.cells.size]!) = (zeros z.cells.toList ln).toArray := by
                  rw [← hzs]; exact sB z.cells ln (by omega)
                simp only [Instr.buildSlice, Sem.run_bind, aA hu, bI hinf, Result.andThen_ok, if_neg hn24, if_neg h0, hzv, Sem.run_pure, hz2, e3, hfill, newRow, run_newObj]
                rfl
            have : (execOp (ev ρ) { dst := dst, op := .buildSlice t ln parts, type := ty, pos := pos, after := after, guard := guard }).run P w = .ok (.value (.slice (some ⟨w.heap.size, 0, none⟩) ln ln)) (w.alloc (.cells cs.toArray e)) := by
              simp [execOp, hrun]
            rw [this]; exact hk
          · exact h
        · exact h
      · exact h
    case makeSlice t l c =>
      simp only [aC] at h
      split at h
      · rename_i e hu
        split at h
        · rename_i inf z hinf hz
          split at h
          · rename_i hcond
            obtain ⟨hzs, hpos⟩ := hcond
            simp only [KOp.wp] at h ⊢
            obtain ⟨kd, ke, lv, cv, hl, hc, h0, h1, h2, h3, hk⟩ := h
            obtain ⟨inf', hinf', hz'⟩ := Option.bind_eq_some_iff.1 hz
            have hzv : (zeroValue e).run P w = .ok z w := by simp [zeroValue, aW hinf', hz']
            have wl : IntKind.i64.wrap lv = lv := IntWalk.i64_in _ (by omega)
            have wc : IntKind.i64.wrap cv = cv := IntWalk.i64_in _ (by omega)
            have hrun : (Instr.makeSlice t (ev ρ l) (ev ρ c)).run P w = .ok (.slice (some ⟨w.heap.size, 0, none⟩) lv.toNat cv.toNat) (w.alloc (.cells (zeros z.cells.toList cv.toNat).toArray e)) := by
              have hg : ¬ ((decide (cv < 0) || decide ((inf.bytes : Int) * cv > 2 ^ 48)) || decide (lv < 0) || decide (lv > cv)) = true := by
                simp; omega
              by_cases hn0 : cv.toNat * inf.size = 0
              · have hcn : cv.toNat = 0 := by
                  rcases Nat.mul_eq_zero.1 hn0 with h | h
                  · exact h
                  · omega
                simp only [Instr.makeSlice, hl, hc, asInt, asIntOf, Sem.run_bind, aA hu, Result.andThen_ok, Sem.run_pure, aW hinf, wl, wc, if_neg hg, run_askRoom, bI hinf, if_pos hn0, newRow, run_newObj]
                rw [hcn]
                simp [zeros, show Array.range 0 = #[] from rfl]
              · have hz2 : (Array.range (cv.toNat * inf.size)).map (fun i => z.cells[i % z.cells.size]!) = (zeros z.cells.toList cv.toNat).toArray := by
                  rw [← hzs]; exact sB z.cells cv.toNat (by omega)
                simp only [Instr.makeSlice, hl, hc, asInt, asIntOf, Sem.run_bind, aA hu, Result.andThen_ok, Sem.run_pure, aW hinf, wl, wc, if_neg hg, run_askRoom, bI hinf, if_neg hn0, hzv, newRow, run_newObj, hz2]
                rfl
            have : (execOp (ev ρ) { dst := dst, op := .makeSlice t l c, type := ty, pos := pos, after := after, guard := guard }).run P w = .ok (.value (.slice (some ⟨w.heap.size, 0, none⟩) lv.toNat cv.toNat)) (w.alloc (.cells (zeros z.cells.toList cv.toNat).toArray e)) := by
              simp [execOp, hrun]
            rw [this]; exact hk
          · exact h
        · exact h
      · exact h
    case convert s d x =>
      simp only [aC] at h hst
      split at h
      · rename_i h1 h2; rw [h1, h2] at hst; exact absurd rfl hst
      · rename_i h1 h2; rw [h1, h2] at hst; exact absurd rfl hst
      · rename_i e h1 h2
        split at h
        · rename_i he
          simp only [KOp.wp] at h ⊢
          obtain ⟨st, hx, hk⟩ := h
          have hrun := run_bytes_of_string w s d e st h1 h2 he
          have hrow : bytesRow st (grownCap w st.size 0 e) = (iT st ++ List.replicate (grownCap w st.size 0 e - st.size) (Value.int .u8 0)).toArray := by
            apply Array.ext'; simp [bytesRow, iT]
          have : (execOp (ev ρ) { dst := dst, op := .convert s d x, type := ty, pos := pos, after := after, guard := guard }).run P w = .ok (.value (.slice (some ⟨w.heap.size, 0, none⟩) st.size (grownCap w st.size 0 e)))
              (w.drew.alloc (.cells (bytesRow st (grownCap w st.size 0 e)) e ((bytesRow st (grownCap w st.size 0 e)).size, (bytesRow st (grownCap w st.size 0 e)).size + 1))) := by
            simp [execOp, hx, hrun]
          rw [this]
          refine hk _ (by simp [grownCap, Question.cut]) _ ?_ ?_ rfl rfl rfl ?_
          · intro b hb
            show (w.heap.push _)[b]? = _
            rw [Array.getElem?_push, if_neg (by omega)]
          · show (w.heap.push _).size = _
            simp
          · refine ⟨((bytesRow st (grownCap w st.size 0 e)).size, (bytesRow st (grownCap w st.size 0 e)).size + 1), ?_⟩
            rw [← hrow]
            show (w.heap.push _)[w.heap.size]? = _
            rw [Array.getElem?_push, if_pos rfl]
        · exact h
      · rename_i e h1 h2
        split at h
        · rename_i he
          simp only [KOp.wp] at h ⊢
          obtain ⟨a, n, c, bs, hx, hl, hk⟩ := h
          have hrun : (Conv.bytesToString (ev ρ x)).run P w = .ok (.string ⟨bs.toArray⟩) w := by
            rw [hx] at hl ⊢
            cases a with
            | none =>
              simp only [cA, Option.some.injEq, Prod.mk.injEq, true_and] at hl
              have : bs = [] := by simpa using hl.symm
              subst this; rfl
            | some a =>
              simp only [cA, Option.map_eq_some_iff, Prod.mk.injEq, true_and] at hl
              obtain ⟨l, hl, rfl⟩ := hl
              have h3 : (loadCells a n).run P w = .ok ((bs.map fun b : UInt8 => (b.toNat : Int)).map (Value.int .u8)).toArray w := by
                have := run_loadCellsFrom (P := P) (n * 1) 0 #[] _ hl
                simp only [Nat.mul_one] at this
                unfold loadCells
                rw [this]
                simp
              rw [run_bytesToString w a n c _ h3, foldl_push_byteCells]
              simp [ByteArray.empty, ByteArray.emptyWithCapacity]; rfl
          have : (execOp (ev ρ) { dst := dst, op := .convert s d x, type := ty, pos := pos, after := after, guard := guard }).run P w = .ok (.value (.string ⟨bs.toArray⟩)) w := by
            have h4 : (convert s d (ev ρ x)).run P w = .ok (.string ⟨bs.toArray⟩) w := by
              rw [hx] at hrun ⊢
              simp [convert, aA h1, aA h2, aA he, hrun]
            simp [execOp, h4]
          rw [this]; exact hk
        · exact h
      · exact h
    all_goals first
      | exact h
      | (exfalso; exact hst rfl)
      | (simp only [aC] at h hst; repeat' split at h
         all_goals first
          | exact h
          | (exfalso; simp only [*] at hst; exact hst rfl))
end
section
open Go
variable {P:Program}
structure KI where
 dst:Option Tmp
 op:KOp
 guard:Option (Tmp × Bool)
def iB (ρ:Env):Option (Tmp × Bool)→Bool
 |none=>true
 |some (t,b)=>match ρ t with
  |.bool c=>c==b
  |_=>false
inductive KR where
 |nil
 |cons (i:KI) (r:KR)
 |both (a b:KR)
 |join (a b:KR)
def aG (P:Program):KR→(Env→World→Prop)→Env→World→Prop
 |.nil,K,ρ,w=>K ρ w
 |.both a b,K,ρ,w=>aG P a K ρ w∧aG P b K ρ w
 |.join a b,K,ρ,w=>aG P a (aG P b K) ρ w
 |.cons i rest,K,ρ,w=>if iB ρ i.guard=true then i.op.wp P ρ w (fun v w'=>aG P rest K (put ρ i.dst v) w') else aG P rest K (put ρ i.dst undef) w
def aNn:Op→Bool
 |.select ..=>true
 |_=>false
def gX (P:Program) [Quiet P] (n:Nat) (ops:Array Oper) (o:Oper):Option KI:=
 if o.op.operands.toList.all (aBi n)&&(match o.dst with|some d=>decide (d<n)|none=>true)&&!aNn o.op then
  match o.guard with
  |none=>some ⟨o.dst,aC P o,none⟩
  |some (g,b)=>match (ops[g]?).bind (·.dst) with
   |some t=>if t<n then some ⟨o.dst,aC P o,some (t,b)⟩ else none
   |none=>none
 else none
def pK (P:Program) [Quiet P] (n:Nat) (ops:Array Oper):List Oper→Option KR
 | []=>some .nil
 |o::r=>(gX P n ops o).bind fun i=>(pK P n ops r).map (.cons i ·)
structure Fits (P:Program) [Quiet P] (n:Nat) (ops:Array Oper) (o:Oper) (i:KI):Prop where
 dst:i.dst=o.dst
 op:i.op=aC P o
 lt:∀t,o.dst=some t→t<n
 opers:∀x∈o.op.operands,aBi n x=true
 sel:∀cs b,o.op≠.select cs b
 want:∀a ρ,Rep n a ρ→Region.wanted o (yielded ops a.tmps)=iB ρ i.guard
theorem vD [Quiet P] {n:Nat} {ops:Array Oper} {o:Oper} {i:KI} (h:gX P n ops o=some i):Fits P n ops o i:=by
 unfold gX at h
 rw [Option.ite_none_right_eq_some] at h
 obtain ⟨hc,h⟩:=h
 ·simp only [Bool.and_eq_true,Bool.not_eq_true',List.all_eq_true] at hc
  obtain ⟨⟨h1,h2⟩,h3⟩:=hc
  have lt:∀t,o.dst=some t→t<n:=by
   intro t ht;rw [ht] at h2;simpa using h2
  have opers:∀x∈o.op.operands,aBi n x=true:=fun x hx=>h1 x (by simpa using hx)
  have sel:∀cs b,o.op≠.select cs b:=by intro cs b e;rw [e] at h3;simp [aNn] at h3
  split at h
  ·rename_i hg
   simp only [Option.some.injEq] at h;subst h
   exact ⟨rfl,rfl,lt,opers,sel,fun a ρ _=>by simp [Region.wanted,hg,iB]⟩
  ·rename_i g b hg
   split at h
   ·rename_i t ht
    split at h
    ·rename_i htn
     simp only [Option.some.injEq] at h;subst h
     refine ⟨rfl,rfl,lt,opers,sel,fun a ρ hr=>?_⟩
     simp only [Region.wanted,hg,iB,yielded,ht,Option.bind_some,hr.at_ t htn]
     generalize ρ t=v
     cases v<;>first|rfl|(cases b<;>rfl)|(rename_i c;cases c<;>cases b<;>rfl)
    ·cases h
   ·cases h
theorem Fits.exec [Quiet P] {n:Nat} {ops:Array Oper} {o:Oper} {i:KI} (h:Fits P n ops o i) {a:Act} {ρ:Env} (hr:Rep n a ρ):execOp a.eval o=execOp (ev ρ) o:=
 execOp_congr o h.sel fun x hx=>hr.eval (h.opers x hx)
theorem Fits.put [Quiet P] {n:Nat} {ops:Array Oper} {o:Oper} {i:KI} (h:Fits P n ops o i) {a:Act} {ρ:Env} (hr:Rep n a ρ) (v:Value):Rep n (a.put o.dst v) (K.put ρ i.dst v):=by
 rw [h.dst];exact hr.put v h.lt
def Nrm (n:Nat) (K:Env→World→Prop):Exit→Act→World→Prop
 |.normal,a,w=>∃ρ,Rep n a ρ∧K ρ w
 |_,_,_=>False
theorem Fits.wp [Quiet P] {n:Nat} {ops:Array Oper} {o:Oper} {i:KI} (h:Fits P n ops o i) {a:Act} {ρ:Env} {w:World} (hr:Rep n a ρ) {k:Value→World→Prop} {next:Act→World→Prop} {Q:Exit→Act→World→Prop}
  (hk:∀v w',k v w'→next (a.put o.dst v) w') (hw:i.op.wp P ρ w k):o.wp P a w next Q:=by
 rw [h.op] at hw
 have h2:=aTz o k hw
 unfold Oper.wp
 rw [h.exec hr]
 simp only [KOp.wp] at h2
 split at h2
 ·rename_i v w' he;rw [he];exact hk _ _ h2
 ·rename_i w' he;rw [he];exact hk _ _ h2
 ·rename_i f args w' he
  rw [he]
  exact h2.mono fun e w'' ⟨v,hv,hkv⟩=>by subst hv;exact hk _ _ hkv
 ·exact h2.elim
theorem aY2 [Quiet P] {n:Nat} {ops:Array Oper} {K:Env→World→Prop}:∀(l:List Oper) (kl:KR) (a:Act) (ρ:Env) (w:World),pK P n ops l=some kl→aG P kl K ρ w→Rep n a ρ→wpList P ops (Nrm n K) l a w
 | [],kl,a,ρ,w,hc,h,hr=>by
  simp only [pK,Option.some.injEq] at hc;subst hc
  exact ⟨ρ,hr,h⟩
 |o::l,kl,a,ρ,w,hc,h,hr=>by
  simp only [pK,Option.bind_eq_some_iff,Option.map_eq_some_iff] at hc
  obtain ⟨i,hi,r,hr2,rfl⟩:=hc
  have F:=vD hi
  simp only [aG] at h
  unfold wpList
  rw [F.want a ρ hr]
  split
  ·rename_i hw
   rw [if_pos hw] at h
   exact .inl (F.wp hr (fun v w' hk=>aY2 l r _ _ w' hr2 hk (F.put hr v)) h)
  ·rename_i hw
   rw [if_neg hw] at h
   exact aY2 l r _ _ w hr2 h (F.put hr undef)
def cO (P:Program) [Quiet P] (ops:Array Oper) (j:Nat):Bool:=match ops[j]? with
 |some o=>(aC P o).isStill
 |none=>true
def yF (P:Program) [Quiet P] (ops:Array Oper) (j:Nat):Bool:=match ops[j]? with
 |some o=>(aC P o).isFix
 |none=>false
theorem lU {o:KOp} (h:o.isFix=true):o.isStill=true:=by cases o<;>simp_all [KOp.isStill,KOp.isFix]
def Closed (ops:Array Oper) (listed:Array Bool):Prop:=∀j oj,ops[j]? =some oj→listed.getD j false=true→∀e∈oj.after,Region.binds .any e=true→listed.getD e.on false=true
def jV (ops:Array Oper) (ms:List Nat):Bool:=
 (List.range ops.size).all fun k=>match ops[k]? with
  |none=>true
  |some o=>(List.range ops.size).all fun i=>!(ms.getD k 0).testBit i||o.after.toList.any fun e=>Region.binds .any e&&(e.on==i||(decide (e.on<k)&&(ms.getD e.on 0).testBit i))
theorem bAc {ops:Array Oper} {ms:List Nat} (hm:jV ops ms=true) {listed:Array Bool} (hc:Closed ops listed):∀(k i:Nat) (o:Oper),ops[k]? =some o→i<ops.size→(∀e∈o.after,Region.binds .any e=true→listed.getD e.on false=true)→
  (ms.getD k 0).testBit i=true→listed.getD i false=true:=by
 intro k
 induction k using Nat.strongRecOn with
 |_ k ih=>
  intro i o ho hi hd hb
  have hk:k<ops.size:=(Array.getElem?_eq_some_iff.1 ho).1
  have h1:=List.all_eq_true.1 hm k (by simpa using hk)
  simp only [ho] at h1
  have h2:=List.all_eq_true.1 h1 i (by simpa using hi)
  simp only [hb,Bool.not_true,Bool.false_or,List.any_eq_true,Bool.and_eq_true,Bool.or_eq_true,beq_iff_eq,decide_eq_true_eq] at h2
  obtain ⟨e,he,hbe,h3⟩:=h2
  have he':e∈o.after:=by simpa using he
  have hl:=hd e he' hbe
  rcases h3 with rfl|⟨hlt,hbit⟩
  ·exact hl
  ·have hkk:e.on<ops.size:=by omega
   obtain ⟨o',ho'⟩:∃o',ops[e.on]? =some o':=⟨_,Array.getElem?_eq_getElem hkk⟩
   exact ih e.on hlt i o' ho' hi (fun e' he2 hb2=>hc e.on o' ho' hl e' he2 hb2) hbit
def sG (P:Program) [Quiet P] (ops:Array Oper) (i:Nat) (K:Act→World→Prop) (a:Act) (w:World):Prop:=
 if cO P ops i=true then stOp P ops w i (fun a'=>K a' w) a else wpOp P ops (fun _ _ _=>False) i K a w
def pZ (P:Program) [Quiet P] (ops:Array Oper) (Q:Act→World→Prop):Nat→Array Bool→Act→World→Prop
 |0,listed,a,w=>Region.ready .any ops listed= []∧Q a w
 |fuel+1,listed,a,w=>(Region.ready .any ops listed= []→Q a w)∧∀i∈Region.ready .any ops listed,sG P ops i (pZ P ops Q fuel (listed.setIfInBounds i true)) a w
theorem aS9 {ops:Array Oper} {i:Nat} {K:Act→World→Prop} {a:Act} {w:World} {Q:Exit→Act→World→Prop} (h:wpOp P ops (fun _ _ _=>False) i K a w):wpOp P ops Q i K a w:=by
 unfold wpOp at*
 split
 ·simpa [*] using h
 ·rename_i o ho
  simp only [ho] at h
  split
  ·rename_i hw
   simp only [hw,if_true] at h
   rcases h with h|⟨_,_,_,h⟩
   ·refine .inl ?_
    unfold Oper.wp at*
    generalize (execOp a.eval o).run P w=r at*
    cases r with
    |ok n w'=>
     cases n<;>simp only [Oper.upon] at h ⊢<;>first
      |exact h
      |exact Calls.mono h (fun e w'' he=>by
        cases e with
        |returned v=>exact he
        |panicked c=>exact he.elim
        |outgrown=>obtain ⟨_,_,hf⟩:=he;exact hf.elim)
    |halt x w'=>cases x<;>simp only [Oper.upon] at h
   ·exact h.elim
  ·rename_i hw;simp only [hw] at h;exact h
theorem kL [Quiet P] {ops:Array Oper} {Q:Act→World→Prop} {Q':Exit→Act→World→Prop} (hQ:∀a w,Q a w→Q' .normal a w):∀(fuel:Nat) (listed:Array Bool) (a:Act) (w:World),pZ P ops Q fuel listed a w→wpAny P .any ops Q' fuel listed a w
 |0,_,_,_,h=>⟨h.1,hQ _ _ h.2⟩
 |fuel+1,listed,a,w,h=>⟨fun h0=>hQ _ _ (h.1 h0),fun i hi=>by
   have h2:=h.2 i hi
   unfold sG at h2
   split at h2
   ·exact wpOp_of_stOp (fun a'=>kL hQ fuel _ a' w) h2
   ·exact wpOp_mono (fun a' w'=>kL hQ fuel _ a' w') (aS9 h2)⟩
theorem iM {ops:Array Oper} {listed:Array Bool} {j:Nat} (hc:Closed ops listed) (hj:j∈Region.ready .any ops listed):Closed ops (listed.setIfInBounds j true):=by
 intro k ok hk hl e he hb
 by_cases hkj:j=k
 ·subst hkj
  obtain ⟨_,o,ho,hall⟩:=mem_ready.1 hj
  rw [ho] at hk;cases hk
  exact getD_set_true (hall e he hb)
 ·rw [getD_set_ne false hkj] at hl
  exact getD_set_true (hc k ok hk hl e he hb)
theorem xE {listed:Array Bool} {i:Nat} (h0:listed.getD i true=false) (h1:listed.getD i false=true):False:=by
 rcases Nat.lt_or_ge i listed.size with h'|h'
 ·simp [h'] at h0 h1;rw [h0] at h1;cases h1
 ·simp [Array.getElem?_eq_none h'] at h1
variable {ops:Array Oper} {Q:Act→World→Prop}
def gM (w w':World):Prop:=w.heap.size≤w'.heap.size∧∀b,b<w.heap.size→w'.heap[b]? =w.heap[b]?
theorem gM.refl (w:World):gM w w:=⟨Nat.le_refl _,fun _ _=>rfl⟩
theorem gM.trans {w w1 w2:World} (h:gM w w1) (h':gM w1 w2):gM w w2:=⟨nTr h.1 h'.1,fun b hb=>(h'.2 b (nLt hb h.1)).trans (h.2 b hb)⟩
theorem gM.alloc (w:World) (o:Obj):gM w (w.alloc o):=⟨by simp,fun b hb=>by show (w.heap.push o)[b]? =_;rw [Array.getElem?_push,if_neg (by omega)]⟩
theorem gM.heap {w w':World} (h:gM w w') {b:Nat} {o:Obj} (hb:w.heap[b]? =some o):w'.heap[b]? =some o:=by
 rw [h.2 b (Array.getElem?_eq_some_iff.1 hb).1];exact hb
theorem gM.cell {w w':World} (h:gM w w') {a:Addr} {v:Value} (hc:w.cell? a=some v):w'.cell? a=some v:=by
 unfold World.cell? at hc ⊢
 cases ho:w.heap[a.block]? with
 |none=>rw [ho] at hc;cases hc
 |some o=>rw [ho] at hc;rw [h.heap ho];exact hc
theorem gM.rdCells {w w':World} (h:gM w w') {a:Addr}:∀(n i:Nat) (l:List Value),rdCells w a i n=some l→rdCells w' a i n=some l
 |0,_,_,e=>e
 |n+1,i,l,e=>by
  simp only [K.rdCells,Option.bind_eq_some_iff,Option.map_eq_some_iff] at e ⊢
  obtain ⟨v,hv,r,hr,rfl⟩:=e
  exact ⟨v,h.cell hv,r,h.rdCells n (i+1) r hr,rfl⟩
theorem aKs {w w':World} (h:gM w w') {ρ:Env} {o:KOp} {v:Value} (hv:o.rd ρ w=some v):o.rd ρ w'=some v:=by
 cases o<;>first|exact hv|skip
 case load x=>
  simp only [KOp.rd] at hv ⊢
  split at hv
  ·exact h.cell hv
  ·cases hv
 case loadN n x=>
  simp only [KOp.rd] at hv ⊢
  split at hv
  ·obtain ⟨l,hl,rfl⟩:=Option.map_eq_some_iff.1 hv
   rw [h.rdCells n 0 l hl];rfl
  ·cases hv
 case lenMap x=>
  simp only [KOp.rd] at hv ⊢
  split at hv
  ·exact hv
  ·split at hv
   ·rename_i hm;rw [h.heap hm];exact hv
   ·cases hv
  ·cases hv
 case lookup s ks z ok m k=>
  simp only [KOp.rd] at hv ⊢
  split at hv
  ·rename_i hc
   rw [if_pos hc]
   split at hv
   ·exact hv
   ·split at hv
    ·rename_i hm;rw [h.heap hm];exact hv
    ·cases hv
   ·cases hv
  ·cases hv
def qW (P:Program) [Quiet P] (ops:Array Oper) (j:Nat):Bool:=match ops[j]? with
 |some o=>(aC P o).isMaker
 |none=>false
theorem aQ3 [Quiet P] {o:Oper} (h:(aC P o).isMaker=true) (e:Operand→Value) (w:World):∃u ob,(execOp e o).run P w=.ok (.value u) (w.alloc ob):=by
 obtain ⟨dst,op,ty,pos,after,guard⟩:=o
 cases op
 case box t x=>exact ⟨_,_,by simp [execOp,Instr.box,newVar,newRow];exact ⟨rfl,rfl⟩⟩
 case alloc t=>
  simp only [aC] at h
  split at h
  ·rename_i inf hinf
   split at h
   ·rename_i z hz
    have hzv:(zeroValue t).run P w=.ok z w:=by simp [zeroValue,aW hinf,hz]
    exact ⟨_,_,by simp [execOp,Instr.alloc,hzv,newVar,newRow];exact ⟨rfl,rfl⟩⟩
   ·simp [KOp.isMaker] at h
  ·simp [KOp.isMaker] at h
 case unOp op t x=>cases op<;>simp [aC,KOp.isMaker] at h
 case slice t x lo hi mx=>cases mx<;>simp only [aC] at h<;>(repeat' split at h)<;>simp [KOp.isMaker] at h
 case makeMap t r=>cases r<;>simp [aC,KOp.isMaker] at h
 case next it b=>cases b<;>simp [aC,KOp.isMaker] at h
 case call c=>
  obtain ⟨callee,args,argTypes⟩:=c
  cases callee with
  |value f=>cases f<;>simp only [aC] at h<;>(repeat' split at h)<;>simp_all [KOp.isMaker]
  |invoke r m=>simp [aC,KOp.isMaker] at h
  |builtin b=>cases b<;>simp only [aC] at h<;>(repeat' split at h)<;>simp [KOp.isMaker] at h
 all_goals first
  |(simp [aC,KOp.isMaker] at h;done)
  |(simp only [aC] at h;(repeat' split at h)<;>simp [KOp.isMaker] at h)
theorem qK [Quiet P] {ms:List Nat} (hm:jV ops ms=true) {i:Nat} {oi:Oper} {v:Value} (hi:ops[i]? =some oi) (hsel:∀(j:Nat) (o:Oper) cs b,ops[j]? =some o→o.op≠.select cs b) (hst:cO P ops i=true):
  ∀(fuel:Nat) (listed:Array Bool) (a:Act) (w:World),Closed ops listed→
   (∀j oj,ops[j]? =some oj→j≠i→listed.getD j true=false→(∀e∈oj.after,Region.binds .any e=true→e.on≠i)→oi.apart ops oj=true)→
   (∀j,j<ops.size→j≠i→listed.getD j true=false→cO P ops j=false→qW P ops j=true∨(ms.getD j 0).testBit i=true)→
   i∈Region.ready .any ops listed→(∀w',gM w w'→YieldsAt P ops w' oi v a)→
   pZ P ops Q fuel (listed.setIfInBounds i true) (a.put oi.dst v) w→pZ P ops Q (fuel+1) listed a w:=by
 have base:∀{K:Act→World→Prop} {a:Act} {w:World},YieldsAt P ops w oi v a→K (a.put oi.dst v) w→sG P ops i K a w:=fun hy hK=>by
  unfold sG;rw [if_pos hst];exact hy.stOp hi hK
 intro fuel
 induction fuel with
 |zero=>
  intro listed a w _ _ _ hr hy H
  refine ⟨fun h=>(by rw [h] at hr;cases hr),fun j hj=>?_⟩
  by_cases hji:j=i
  ·subst hji;exact base (hy w (gM.refl w)) H
  ·have:=ready_mono hj hji
   rw [H.1] at this
   cases this
 |succ fuel ih=>
  intro listed a w hcl hfree hns hr hy H
  refine ⟨fun h=>(by rw [h] at hr;cases hr),fun j hj=>?_⟩
  by_cases hji:j=i
  ·subst hji;exact base (hy w (gM.refl w)) H
  ·have h1:=H.2 j (ready_mono hj hji)
   obtain ⟨hjun,oj,hoj,hall⟩:=mem_ready.1 hj
   have hjs:j<ops.size:=(Array.getElem?_eq_some_iff.1 hoj).1
   have his:i<ops.size:=(Array.getElem?_eq_some_iff.1 hi).1
   have hnot:∀e∈oj.after,Region.binds .any e=true→e.on≠i:=fun e he hb heq=>by
    have h1:=hall e he hb
    rw [heq] at h1
    exact xE (mem_ready.1 hr).1 h1
   have hap:=hfree j oj hoj hji hjun hnot
   obtain ⟨p1,p2,p3⟩:=Oper.apart_spec hap
   have hfree':∀k ok,ops[k]? =some ok→k≠i→(listed.setIfInBounds j true).getD k true=false→(∀e∈ok.after,Region.binds .any e=true→e.on≠i)→oi.apart ops ok=true:=by
    intro k ok hk hki hun hno
    refine hfree k ok hk hki ?_ hno
    by_cases hjk:j=k
    ·subst hjk;exact hjun
    ·rw [getD_set_ne true hjk] at hun;exact hun
   have hns':∀k,k<ops.size→k≠i→(listed.setIfInBounds j true).getD k true=false→cO P ops k=false→qW P ops k=true∨(ms.getD k 0).testBit i=true:=by
    intro k hk hki hun hs
    refine hns k hk hki ?_ hs
    by_cases hjk:j=k
    ·subst hjk;exact hjun
    ·rw [getD_set_ne true hjk] at hun;exact hun
   have fin:∀u w',gM w w'→pZ P ops Q fuel ((listed.setIfInBounds i true).setIfInBounds j true) ((a.put oj.dst u).put oi.dst v) w'→pZ P ops Q (fuel+1) (listed.setIfInBounds j true) (a.put oj.dst u) w':=fun u w' hg h3=>
    ih (listed.setIfInBounds j true) _ w' (iM hcl hj) hfree' hns' (ready_mono hr (Ne.symm hji))
     (fun w2 hg2=>(hy w2 (hg.trans hg2)).of_same (execOp_put oi (fun cs b=>hsel i oi cs b hi) a oj.dst u p3) (wanted_put oi a oj.dst u p3)) (by rw [Array.setIfInBounds_comm _ _ hji];exact h3)
   unfold sG at h1 ⊢
   by_cases hjst:cO P ops j=true
   ·rw [if_pos hjst] at h1 ⊢
    have h2:=stOp_put hoj hap (fun cs b=>hsel i oi cs b hi) (fun cs b=>hsel j oj cs b hoj) (hy w (gM.refl w)) h1
    have h4:stOp P ops w j (fun a'=>(∃u,a'=a.put oj.dst u)∧pZ P ops Q fuel ((listed.setIfInBounds i true).setIfInBounds j true) (a'.put oi.dst v) w) a:=by
     unfold stOp at h2 ⊢
     simp only [hoj] at h2 ⊢
     split
     ·rename_i hw
      simp only [hw,if_true,Oper.still] at h2 ⊢
      generalize (execOp a.eval oj).run P w=r at*
      cases r with
      |ok n w'=>
       cases n<;>simp only [Oper.stillUpon] at h2 ⊢
       case value u=>exact ⟨h2.1,⟨u,rfl⟩,h2.2.2⟩
       case skip=>exact ⟨h2.1,⟨_,rfl⟩,h2.2.2⟩
       case enter f args=>obtain ⟨q1,u,q2,q3⟩:=h2;exact ⟨q1,u,q2,⟨u,rfl⟩,q3.2⟩
      |halt x w'=>simp only [Oper.stillUpon] at h2
     ·rename_i hw
      simp only [hw] at h2 ⊢
      exact ⟨⟨_,rfl⟩,h2.2⟩
    exact stOp_mono (fun a' h3=>by
     obtain ⟨⟨u,rfl⟩,h5⟩:=h3
     exact fin u w (gM.refl w) h5) h4
   ·have hjf:cO P ops j=false:=by simpa using hjst
    rw [if_neg hjst] at h1 ⊢
    rcases hns j hjs hji hjun hjf with hmk|hbit
    ·have hmk':(aC P oj).isMaker=true:=by unfold qW at hmk;rw [hoj] at hmk;exact hmk
     unfold wpOp at h1 ⊢
     simp only [hoj] at h1 ⊢
     rw [wanted_put oj a oi.dst v p1] at h1
     split
     ·rename_i hw
      simp only [hw,if_true] at h1
      refine .inl ?_
      obtain ⟨u,ob,hrun⟩:=aQ3 hmk' a.eval w
      rcases h1 with h1|⟨_,_,_,h1⟩
      ·unfold Oper.wp at h1 ⊢
       rw [execOp_put oj (fun cs b=>hsel j oj cs b hoj) a oi.dst v p1,hrun] at h1
       rw [hrun]
       simp only [Oper.upon] at h1 ⊢
       exact fin u _ (gM.alloc w ob) (by rw [←Act.put_comm a v u p2];exact h1)
      ·exact h1.elim
     ·rename_i hw
      simp only [hw] at h1
      exact fin undef w (gM.refl w) (by rw [←Act.put_comm a v undef p2];exact h1)
    ·exact (xE (mem_ready.1 hr).1 (bAc hm hcl j i oj hoj his hall hbit)).elim
theorem sL [Quiet P] {i:Nat} {oi:Oper} {v:Value} (hi:ops[i]? =some oi) (hsel:∀(j:Nat) (o:Oper) cs b,ops[j]? =some o→o.op≠.select cs b) (hst:cO P ops i=true):
  ∀(fuel:Nat) (listed:Array Bool) (a:Act) (w:World),
   (∀j oj,ops[j]? =some oj→j≠i→listed.getD j true=false→(∀e∈oj.after,Region.binds .any e=true→e.on≠i)→oi.apart ops oj=true)→
   i∈Region.ready .any ops listed→Yields P ops oi v a→
   pZ P ops Q fuel (listed.setIfInBounds i true) (a.put oi.dst v) w→pZ P ops Q (fuel+1) listed a w:=by
 have toAt:∀{a:Act} {w:World},Yields P ops oi v a→YieldsAt P ops w oi v a:=fun hy=>by
  rcases hy with ⟨h1,h2⟩|h
  ·exact .inl ⟨h1,.inl (h2 _)⟩
  ·exact .inr h
 have base:∀{K:Act→World→Prop} {a:Act} {w:World},Yields P ops oi v a→K (a.put oi.dst v) w→sG P ops i K a w:=fun hy hK=>by
  unfold sG;rw [if_pos hst];exact (toAt hy).stOp hi hK
 intro fuel
 induction fuel with
 |zero=>
  intro listed a w _ hr hy H
  refine ⟨fun h=>(by rw [h] at hr;cases hr),fun j hj=>?_⟩
  by_cases hji:j=i
  ·subst hji;exact base hy H
  ·have:=ready_mono hj hji
   rw [H.1] at this
   cases this
 |succ fuel ih=>
  intro listed a w hfree hr hy H
  refine ⟨fun h=>(by rw [h] at hr;cases hr),fun j hj=>?_⟩
  by_cases hji:j=i
  ·subst hji;exact base hy H
  ·have h1:=H.2 j (ready_mono hj hji)
   obtain ⟨hjun,oj,hoj,hall⟩:=mem_ready.1 hj
   have hnot:∀e∈oj.after,Region.binds .any e=true→e.on≠i:=fun e he hb heq=>by
    have h1:=hall e he hb
    rw [heq] at h1
    exact xE (mem_ready.1 hr).1 h1
   have hap:=hfree j oj hoj hji hjun hnot
   have hfree':∀k ok,ops[k]? =some ok→k≠i→(listed.setIfInBounds j true).getD k true=false→(∀e∈ok.after,Region.binds .any e=true→e.on≠i)→oi.apart ops ok=true:=by
    intro k ok hk hki hun hno
    refine hfree k ok hk hki ?_ hno
    by_cases hjk:j=k
    ·subst hjk;exact hjun
    ·rw [getD_set_ne true hjk] at hun;exact hun
   have fin:∀a' w',Yields P ops oi v a'→pZ P ops Q fuel ((listed.setIfInBounds i true).setIfInBounds j true) (a'.put oi.dst v) w'→pZ P ops Q (fuel+1) (listed.setIfInBounds j true) a' w':=fun a' w' hy' h3=>
    ih (listed.setIfInBounds j true) a' w' hfree' (ready_mono hr (Ne.symm hji)) hy' (by rw [Array.setIfInBounds_comm _ _ hji];exact h3)
   unfold sG at h1 ⊢
   split
   ·rename_i hjst
    rw [if_pos hjst] at h1
    obtain ⟨p1,p2,p3⟩:=Oper.apart_spec hap
    have h2:=stOp_put hoj hap (fun cs b=>hsel i oi cs b hi) (fun cs b=>hsel j oj cs b hoj) (toAt hy) h1
    have h4:stOp P ops w j (fun a'=>(∃u,a'=a.put oj.dst u)∧pZ P ops Q fuel ((listed.setIfInBounds i true).setIfInBounds j true) (a'.put oi.dst v) w) a:=by
     unfold stOp at h2 ⊢
     simp only [hoj] at h2 ⊢
     split
     ·rename_i hw
      simp only [hw,if_true,Oper.still] at h2 ⊢
      generalize (execOp a.eval oj).run P w=r at*
      cases r with
      |ok n w'=>
       cases n<;>simp only [Oper.stillUpon] at h2 ⊢
       case value u=>exact ⟨h2.1,⟨u,rfl⟩,h2.2.2⟩
       case skip=>exact ⟨h2.1,⟨_,rfl⟩,h2.2.2⟩
       case enter f args=>obtain ⟨q1,u,q2,q3⟩:=h2;exact ⟨q1,u,q2,⟨u,rfl⟩,q3.2⟩
      |halt x w'=>simp only [Oper.stillUpon] at h2
     ·rename_i hw
      simp only [hw] at h2 ⊢
      exact ⟨⟨_,rfl⟩,h2.2⟩
    exact stOp_mono (fun a' h3=>by
     obtain ⟨⟨u,rfl⟩,h5⟩:=h3
     exact fin _ _ (hy.of_same (execOp_put oi (fun cs b=>hsel i oi cs b hi) a oj.dst u p3) (wanted_put oi a oj.dst u p3)) h5) h4
   ·rename_i hjst
    rw [if_neg hjst] at h1
    have h2:=wpOp_put (Q:=fun _ _ _=>False) hoj hap (fun cs b=>hsel i oi cs b hi) (fun cs b=>hsel j oj cs b hoj) (fun _ _ _ h=>h) hy h1
    exact wpOp_mono (fun a' w' h3=>fin a' w' h3.1 h3.2) h2
end
section
open Go
variable {P:Program} {ops:Array Oper}
def aZ1 (P:Program) [Quiet P] (ops:Array Oper) (ms:List Nat) (listed:Array Bool):Option Nat:=
 (Region.ready .any ops listed).find? fun i=>Region.free .any ops listed i&&(yF P ops i||(cO P ops i&&(List.range ops.size).all fun j=>j==i||listed.getD j true||cO P ops j||qW P ops j||(ms.getD j 0).testBit i))
def alts (f:Nat→Option KR):List Nat→Option KR
 | []=>none
 | [i]=>f i
 |i::j::l=>(f i).bind fun a=>(alts f (j::l)).map (.both a ·)
def aOl (P:Program) [Quiet P] (n:Nat) (ops:Array Oper) (ms:List Nat):Nat→Array Bool→Option KR
 |0,listed=>if (Region.ready .any ops listed).isEmpty then some .nil else none
 |m+1,listed=>match aZ1 P ops ms listed with
  |some i=>(ops[i]?).bind fun o=>(gX P n ops o).bind fun ki=>(aOl P n ops ms m (listed.setIfInBounds i true)).map (.cons ki ·)
  |none=>match Region.ready .any ops listed with
   | []=>some .nil
   |r::rs=>alts (fun i=>(ops[i]?).bind fun o=>(gX P n ops o).bind fun ki=>(aOl P n ops ms m (listed.setIfInBounds i true)).map (.cons ki ·)) (r::rs)
theorem xQ {f:Nat→Option KR} {K:Env→World→Prop} {ρ:Env} {w:World}:∀(l:List Nat) (r:KR),alts f l=some r→aG P r K ρ w→∀i∈l,∃ri,f i=some ri∧aG P ri K ρ w
 | [],r,h,_,i,hi=>by cases hi
 | [j],r,h,hr,i,hi=>by
  simp only [List.mem_singleton] at hi;subst hi
  exact ⟨r,h,hr⟩
 |j::k::l,r,h,hr,i,hi=>by
  simp only [alts,Option.bind_eq_some_iff,Option.map_eq_some_iff] at h
  obtain ⟨a,ha,b,hb,rfl⟩:=h
  rcases List.mem_cons.1 hi with rfl|hi
  ·exact ⟨a,ha,hr.1⟩
  ·exact xQ (k::l) b hb hr.2 i hi
theorem aVa {ρ:Env} {w:World} {k k':Value→World→Prop} {o:KOp} (hk:∀v w',k v w'→k' v w') (h:o.wp P ρ w k):o.wp P ρ w k':=by
 cases o<;>simp only [KOp.wp] at h ⊢
 case box=>exact hk _ _ h
 case alloc=>exact hk _ _ h
 case store=>obtain ⟨a,h1,h2,h3,h4,h5⟩:=h;exact ⟨a,h1,h2,h3,h4,hk _ _ h5⟩
 case storeN=>obtain ⟨a,vs,h1,h2,h3,h4,h5,h6⟩:=h;exact ⟨a,vs,h1,h2,h3,h4,h5,hk _ _ h6⟩
 case call=>exact h.mono fun e w' ⟨v,hv,h2⟩=>⟨v,hv,hk _ _ h2⟩
 case callV=>obtain ⟨f,a,b,h1,h2,h3⟩:=h;exact ⟨f,a,b,h1,h2,h3.mono fun e w' ⟨v,hv,h2⟩=>⟨v,hv,hk _ _ h2⟩⟩
 case invoke=>obtain ⟨t,u,f,rv,h1,h2,h3,h4⟩:=h;exact ⟨t,u,f,rv,h1,h2,h3,h4.mono fun e w' ⟨v,hv,h2⟩=>⟨v,hv,hk _ _ h2⟩⟩
 case mapUpdate=>obtain ⟨r,es,c,f,h1,h2,h3,h4,h5⟩:=h;exact ⟨r,es,c,f,h1,h2,h3,h4,hk _ _ h5⟩
 case mapEntry=>
  obtain ⟨r,es,c,f,h1,h2,h3,h4,h5⟩:=h
  refine ⟨r,es,c,f,h1,h2,h3,h4,?_⟩
  cases f<;>exact hk _ _ h5
 case entryStore=>obtain ⟨r,es,c,kd,n,i,h1,h2,h3,h4,h5⟩:=h;exact ⟨r,es,c,kd,n,i,h1,h2,h3,h4,hk _ _ h5⟩
 case delete=>obtain ⟨r,es,c,f,h1,h2,h3,h4,h5⟩:=h;exact ⟨r,es,c,f,h1,h2,h3,h4,hk _ _ h5⟩
 case makeMap=>exact hk _ _ h
 case rangeMap=>obtain ⟨r,es,c,h1,h2,h3⟩:=h;exact ⟨r,es,c,h1,h2,hk _ _ h3⟩
 case nextMap=>
  obtain ⟨b,m,si,se,la,es,c,h1,h2,h3,h4,h5,h6,h7,h8⟩:=h
  exact ⟨b,m,si,se,la,es,c,h1,h2,h3,h4,h5,h6,fun e w' hw=>hk _ _ (h7 e w' hw),fun e he w' hw=>hk _ _ (h8 e he w' hw)⟩
 case entry=>obtain ⟨b,m,si,se,la,st,es,e,h1,h2,h3,h4,h5,h6⟩:=h;exact ⟨b,m,si,se,la,st,es,e,h1,h2,h3,h4,h5,hk _ _ h6⟩
 case buildSlice=>obtain ⟨cs,h1,h2⟩:=h;exact ⟨cs,h1,hk _ _ h2⟩
 case append=>
  obtain ⟨ba,sl,sc,n,nw,h1,h2,h3,h4⟩:=h
  refine ⟨ba,sl,sc,n,nw,h1,h2,fun hr=>?_,fun hr=>?_⟩
  ·have:=h3 hr
   cases ba with
   |none=>exact hk _ _ this
   |some a=>exact ⟨this.1,this.2.1,hk _ _ this.2.2⟩
  ·obtain ⟨old,q1,q2,q3⟩:=h4 hr
   exact ⟨old,q1,q2,fun c hc=>hk _ _ (q3 c hc)⟩
 case makeSlice=>obtain ⟨kd,ke,l,c,h1,h2,h3,h4,h5,h6,h7⟩:=h;exact ⟨kd,ke,l,c,h1,h2,h3,h4,h5,h6,hk _ _ h7⟩
 case copy=>obtain ⟨ba,dl,cp,n,nw,h1,h2,h3,h4,h5,h6⟩:=h;exact ⟨ba,dl,cp,n,nw,h1,h2,h3,h4,h5,hk _ _ h6⟩
 case bytesOf=>obtain ⟨s,h1,h2⟩:=h;exact ⟨s,h1,fun c hc w' q1 q2 q3 q4 q5 q6=>hk _ _ (h2 c hc w' q1 q2 q3 q4 q5 q6)⟩
 case strOf=>obtain ⟨a,n,c,bs,h1,h2,h3⟩:=h;exact ⟨a,n,c,bs,h1,h2,hk _ _ h3⟩
 case raw=>
  split at h
  ·exact hk _ _ h
  ·exact hk _ _ h
  ·exact h.mono fun e w' ⟨v,hv,h2⟩=>⟨v,hv,hk _ _ h2⟩
  ·exact h
 all_goals (obtain ⟨v,h1,h2⟩:=h;exact ⟨v,h1,hk _ _ h2⟩)
def aKa (n:Nat) (K:Env→World→Prop) (a:Act) (w:World):Prop:=∃ρ,Rep n a ρ∧K ρ w
theorem sN {ρ:Env} {w:World} {k:Value→World→Prop} {o:KOp} (hst:o.isStill=true) (h:o.wp P ρ w k):∃v,o.rd ρ w=some v∧k v w:=by
 cases o<;>first|exact h|(simp [KOp.isStill,KOp.isFix] at hst;done)
theorem qQ [Quiet P] {n:Nat} {ms:List Nat} {K:Env→World→Prop} (hm:jV ops ms=true) (hsel:Region.noSelect ops=true):∀(fuel:Nat) (listed:Array Bool) (r:KR) (a:Act) (ρ:Env) (w:World),
  aOl P n ops ms fuel listed=some r→Closed ops listed→Rep n a ρ→aG P r K ρ w→pZ P ops (aKa n K) fuel listed a w
 |0,listed,r,a,ρ,w,ho,hc,hr,h=>by
  simp only [aOl] at ho
  split at ho
  ·rename_i he
   simp only [Option.some.injEq] at ho;subst ho
   exact ⟨by simpa using he,ρ,hr,h⟩
  ·cases ho
 |fuel+1,listed,r,a,ρ,w,ho,hc,hr,h=>by
  simp only [aOl] at ho
  split at ho
  ·rename_i i hi
   simp only [Option.bind_eq_some_iff,Option.map_eq_some_iff] at ho
   obtain ⟨oi,hoi,ki,hki,r',hr',rfl⟩:=ho
   have F:=vD hki
   have hmem:=List.mem_of_find?_eq_some hi
   have hprop:=List.find?_some hi
   simp only [Bool.and_eq_true,Bool.or_eq_true,List.all_eq_true,List.mem_range,beq_iff_eq] at hprop
   obtain ⟨hfree,hkind⟩:=hprop
   have hst:cO P ops i=true:=by
    rcases hkind with hk|⟨hk,_⟩
    ·unfold yF at hk;unfold cO;rw [hoi] at hk ⊢;exact lU hk
    ·exact hk
   have hcs:(aC P oi).isStill=true:=by unfold cO at hst;rw [hoi] at hst;exact hst
   simp only [aG,F.dst,F.op] at h
   obtain ⟨v,hyw,hrest⟩:∃v,((iB ρ ki.guard=true∧(aC P oi).rd ρ w=some v)∨(iB ρ ki.guard=false∧v=undef))∧aG P r' K (put ρ oi.dst v) w:=by
    by_cases hw:iB ρ ki.guard=true
    ·rw [if_pos hw] at h
     obtain ⟨v,hv,hk⟩:=sN hcs h
     exact ⟨v,.inl ⟨hw,hv⟩,hk⟩
    ·rw [if_neg hw] at h
     exact ⟨undef,.inr ⟨by simpa using hw,rfl⟩,h⟩
   have hrep:Rep n (a.put oi.dst v) (put ρ oi.dst v):=by have:=F.put hr v;rwa [F.dst] at this
   have IH:=qQ hm hsel fuel (listed.setIfInBounds i true) r' (a.put oi.dst v) (put ρ oi.dst v) w hr' (iM hc hmem) hrep hrest
   by_cases hfix:yF P ops i=true
   ·refine sL hoi (Region.noSelect_spec hsel) hst fuel listed a w (Region.free_spec hoi hfree) hmem ?_ IH
    rcases hyw with ⟨hw,hv⟩|⟨hw,rfl⟩
    ·refine .inl ⟨by rw [F.want a ρ hr];exact hw,fun w2=>?_⟩
     rw [F.exec hr]
     have hf:(aC P oi).isFix=true:=by unfold yF at hfix;rw [hoi] at hfix;exact hfix
     exact rY oi v hcs (by generalize aC P oi=ko at hf;cases ko<;>first|rfl|(simp [KOp.isFix] at hf)) (by rw [KOp.rd_fix hf];rw [KOp.rd_fix hf] at hv;exact hv)
    ·exact .inr ⟨by rw [F.want a ρ hr];exact hw,rfl⟩
   ·have hall:∀j,j<ops.size→j≠i→listed.getD j true=false→cO P ops j=false→qW P ops j=true∨(ms.getD j 0).testBit i=true:=by
     rcases hkind with hk|⟨_,hk⟩
     ·exact absurd hk hfix
     ·intro j hj hji hun hsj
      rcases hk j hj with (((h1|h1)|h1)|h1)|h1
      ·exact absurd h1 hji
      ·rw [hun] at h1;cases h1
      ·rw [hsj] at h1;cases h1
      ·exact .inl h1
      ·exact .inr h1
    refine qK hm hoi (Region.noSelect_spec hsel) hst fuel listed a w hc (Region.free_spec hoi hfree) hall hmem (fun w2 hg=>?_) IH
    rcases hyw with ⟨hw,hv⟩|⟨hw,rfl⟩
    ·exact .inl ⟨by rw [F.want a ρ hr];exact hw,by rw [F.exec hr];exact jU oi v hcs (aKs hg hv)⟩
    ·exact .inr ⟨by rw [F.want a ρ hr];exact hw,rfl⟩
  ·split at ho
   ·rename_i he
    simp only [Option.some.injEq] at ho;subst ho
    exact ⟨fun _=>⟨ρ,hr,h⟩,by rw [he];simp⟩
   ·rename_i q rs he
    refine ⟨fun h0=>(by rw [he] at h0;cases h0),fun i hi=>?_⟩
    rw [he] at hi
    have hmem:i∈Region.ready .any ops listed:=by rw [he];exact hi
    obtain ⟨ri,hri,hreg⟩:=xQ _ _ ho h i hi
    simp only [Option.bind_eq_some_iff,Option.map_eq_some_iff] at hri
    obtain ⟨oi,hoi,ki,hki,r',hr',rfl⟩:=hri
    have F:=vD hki
    have IH:∀v w',aG P r' K (put ρ oi.dst v) w'→pZ P ops (aKa n K) fuel (listed.setIfInBounds i true) (a.put oi.dst v) w':=fun v w' hk=>
     qQ hm hsel fuel (listed.setIfInBounds i true) r' (a.put oi.dst v) (put ρ oi.dst v) w' hr' (iM hc hmem) (by have:=F.put hr v;rwa [F.dst] at this) hk
    simp only [aG,F.dst] at h hreg
    unfold sG
    split
    ·rename_i hst
     have hcs:(aC P oi).isStill=true:=by unfold cO at hst;rw [hoi] at hst;exact hst
     by_cases hw:iB ρ ki.guard=true
     ·rw [if_pos hw,F.op] at hreg
      obtain ⟨v,hv,hk⟩:=sN hcs hreg
      exact YieldsAt.stOp (v:=v) hoi (.inl ⟨by rw [F.want a ρ hr];exact hw,by rw [F.exec hr];exact jU oi v hcs hv⟩) (IH v w hk)
     ·rw [if_neg hw] at hreg
      exact YieldsAt.stOp (v:=undef) hoi (.inr ⟨by rw [F.want a ρ hr];simpa using hw,rfl⟩) (IH undef w hreg)
    ·unfold wpOp
     simp only [hoi]
     rw [F.want a ρ hr]
     split
     ·rename_i hw
      rw [if_pos hw] at hreg
      exact .inl (F.wp hr IH hreg)
     ·rename_i hw
      rw [if_neg hw] at hreg
      exact IH undef w hreg
def aWs (P:Program) [Quiet P] (ops:Array Oper) (ms:List Nat) (S listed:Array Bool):Option Nat:=
 (Region.ready .any ops listed).find? fun i=>S.getD i false&&(Region.free .any ops listed i&&(yF P ops i||(cO P ops i&&(List.range ops.size).all fun j=>j==i||listed.getD j true||cO P ops j||qW P ops j||(ms.getD j 0).testBit i)))
def oI (P:Program) [Quiet P] (n:Nat) (ops:Array Oper) (ms:List Nat) (S:Array Bool):Nat→Array Bool→Option KR
 |0,listed=>if listed=S then some .nil else none
 |m+1,listed=>match aWs P ops ms S listed with
  |some i=>(ops[i]?).bind fun o=>(gX P n ops o).bind fun ki=>(oI P n ops ms S m (listed.setIfInBounds i true)).map (.cons ki ·)
  |none=>match Region.ready .any ops listed with
   | []=>none
   |r::rs=>alts (fun i=>(ops[i]?).bind fun o=>(gX P n ops o).bind fun ki=>(oI P n ops ms S m (listed.setIfInBounds i true)).map (.cons ki ·)) (r::rs)
theorem qT [Quiet P] {n:Nat} {ms:List Nat} {S:Array Bool} {c:Nat} {Q:Act→World→Prop} {K:Env→World→Prop} (hm:jV ops ms=true) (hsel:Region.noSelect ops=true) (hS:∀a ρ w,Rep n a ρ→K ρ w→pZ P ops Q c S a w):∀(fuel:Nat) (listed:Array Bool) (r:KR) (a:Act) (ρ:Env) (w:World),
  oI P n ops ms S fuel listed=some r→Closed ops listed→Rep n a ρ→aG P r K ρ w→pZ P ops Q (fuel+c) listed a w
 |0,listed,r,a,ρ,w,ho,hc,hr,h=>by
  simp only [oI] at ho
  split at ho
  ·rename_i he
   simp only [Option.some.injEq] at ho;subst ho;subst he
   rw [Nat.zero_add];exact hS a ρ w hr h
  ·cases ho
 |fuel+1,listed,r,a,ρ,w,ho,hc,hr,h=>by
  rw [Nat.add_right_comm fuel 1 c]
  simp only [oI] at ho
  split at ho
  ·rename_i i hi
   simp only [Option.bind_eq_some_iff,Option.map_eq_some_iff] at ho
   obtain ⟨oi,hoi,ki,hki,r',hr',rfl⟩:=ho
   have F:=vD hki
   have hmem:=List.mem_of_find?_eq_some hi
   have hprop:=List.find?_some hi
   simp only [Bool.and_eq_true,Bool.or_eq_true,List.all_eq_true,List.mem_range,beq_iff_eq] at hprop
   obtain ⟨_,hfree,hkind⟩:=hprop
   have hst:cO P ops i=true:=by
    rcases hkind with hk|⟨hk,_⟩
    ·unfold yF at hk;unfold cO;rw [hoi] at hk ⊢;exact lU hk
    ·exact hk
   have hcs:(aC P oi).isStill=true:=by unfold cO at hst;rw [hoi] at hst;exact hst
   simp only [aG,F.dst,F.op] at h
   obtain ⟨v,hyw,hrest⟩:∃v,((iB ρ ki.guard=true∧(aC P oi).rd ρ w=some v)∨(iB ρ ki.guard=false∧v=undef))∧aG P r' K (put ρ oi.dst v) w:=by
    by_cases hw:iB ρ ki.guard=true
    ·rw [if_pos hw] at h
     obtain ⟨v,hv,hk⟩:=sN hcs h
     exact ⟨v,.inl ⟨hw,hv⟩,hk⟩
    ·rw [if_neg hw] at h
     exact ⟨undef,.inr ⟨by simpa using hw,rfl⟩,h⟩
   have hrep:Rep n (a.put oi.dst v) (put ρ oi.dst v):=by have:=F.put hr v;rwa [F.dst] at this
   have IH:=qT hm hsel hS fuel (listed.setIfInBounds i true) r' (a.put oi.dst v) (put ρ oi.dst v) w hr' (iM hc hmem) hrep hrest
   by_cases hfix:yF P ops i=true
   ·refine sL hoi (Region.noSelect_spec hsel) hst (fuel+c) listed a w (Region.free_spec hoi hfree) hmem ?_ IH
    rcases hyw with ⟨hw,hv⟩|⟨hw,rfl⟩
    ·refine .inl ⟨by rw [F.want a ρ hr];exact hw,fun w2=>?_⟩
     rw [F.exec hr]
     have hf:(aC P oi).isFix=true:=by unfold yF at hfix;rw [hoi] at hfix;exact hfix
     exact rY oi v hcs (by generalize aC P oi=ko at hf;cases ko<;>first|rfl|(simp [KOp.isFix] at hf)) (by rw [KOp.rd_fix hf];rw [KOp.rd_fix hf] at hv;exact hv)
    ·exact .inr ⟨by rw [F.want a ρ hr];exact hw,rfl⟩
   ·have hall:∀j,j<ops.size→j≠i→listed.getD j true=false→cO P ops j=false→qW P ops j=true∨(ms.getD j 0).testBit i=true:=by
     rcases hkind with hk|⟨_,hk⟩
     ·exact absurd hk hfix
     ·intro j hj hji hun hsj
      rcases hk j hj with (((h1|h1)|h1)|h1)|h1
      ·exact absurd h1 hji
      ·rw [hun] at h1;cases h1
      ·rw [hsj] at h1;cases h1
      ·exact .inl h1
      ·exact .inr h1
    refine qK hm hoi (Region.noSelect_spec hsel) hst (fuel+c) listed a w hc (Region.free_spec hoi hfree) hall hmem (fun w2 hg=>?_) IH
    rcases hyw with ⟨hw,hv⟩|⟨hw,rfl⟩
    ·exact .inl ⟨by rw [F.want a ρ hr];exact hw,by rw [F.exec hr];exact jU oi v hcs (aKs hg hv)⟩
    ·exact .inr ⟨by rw [F.want a ρ hr];exact hw,rfl⟩
  ·split at ho
   ·cases ho
   ·rename_i q rs he
    refine ⟨fun h0=>(by rw [he] at h0;cases h0),fun i hi=>?_⟩
    rw [he] at hi
    have hmem:i∈Region.ready .any ops listed:=by rw [he];exact hi
    obtain ⟨ri,hri,hreg⟩:=xQ _ _ ho h i hi
    simp only [Option.bind_eq_some_iff,Option.map_eq_some_iff] at hri
    obtain ⟨oi,hoi,ki,hki,r',hr',rfl⟩:=hri
    have F:=vD hki
    have IH:∀v w',aG P r' K (put ρ oi.dst v) w'→pZ P ops Q (fuel+c) (listed.setIfInBounds i true) (a.put oi.dst v) w':=fun v w' hk=>
     qT hm hsel hS fuel (listed.setIfInBounds i true) r' (a.put oi.dst v) (put ρ oi.dst v) w' hr' (iM hc hmem) (by have:=F.put hr v;rwa [F.dst] at this) hk
    simp only [aG,F.dst] at h hreg
    unfold sG
    split
    ·rename_i hst
     have hcs:(aC P oi).isStill=true:=by unfold cO at hst;rw [hoi] at hst;exact hst
     by_cases hw:iB ρ ki.guard=true
     ·rw [if_pos hw,F.op] at hreg
      obtain ⟨v,hv,hk⟩:=sN hcs hreg
      exact YieldsAt.stOp (v:=v) hoi (.inl ⟨by rw [F.want a ρ hr];exact hw,by rw [F.exec hr];exact jU oi v hcs hv⟩) (IH v w hk)
     ·rw [if_neg hw] at hreg
      exact YieldsAt.stOp (v:=undef) hoi (.inr ⟨by rw [F.want a ρ hr];simpa using hw,rfl⟩) (IH undef w hreg)
    ·unfold wpOp
     simp only [hoi]
     rw [F.want a ρ hr]
     split
     ·rename_i hw
      rw [if_pos hw] at hreg
      exact .inl (F.wp hr IH hreg)
     ·rename_i hw
      rw [if_neg hw] at hreg
      exact IH undef w hreg
theorem oP [Quiet P] {n:Nat} {ms:List Nat} {S:Array Bool}:∀(fuel:Nat) (listed:Array Bool) (r:KR),oI P n ops ms S fuel listed=some r→Closed ops listed→Closed ops S
 |0,listed,r,ho,hc=>by
  simp only [oI] at ho
  split at ho
  ·rename_i he;subst he;exact hc
  ·cases ho
 |fuel+1,listed,r,ho,hc=>by
  simp only [oI] at ho
  split at ho
  ·rename_i i hi
   simp only [Option.bind_eq_some_iff,Option.map_eq_some_iff] at ho
   obtain ⟨oi,hoi,ki,hki,r',hr',rfl⟩:=ho
   exact oP fuel _ r' hr' (iM hc (List.mem_of_find?_eq_some hi))
  ·split at ho
   ·cases ho
   ·rename_i q rs he
    have h1:∃ri:KR,((ops[q]?).bind fun o=>(gX P n ops o).bind fun ki=>(oI P n ops ms S fuel (listed.setIfInBounds q true)).map (KR.cons ki ·))=some ri:=by
     cases rs with
     |nil=>exact ⟨r,ho⟩
     |cons j l=>
      simp only [alts,Option.bind_eq_some_iff,Option.map_eq_some_iff] at ho
      obtain ⟨a,ha,_⟩:=ho
      exact ⟨a,by simp only [Option.bind_eq_some_iff,Option.map_eq_some_iff];exact ha⟩
    obtain ⟨ri,h1⟩:=h1
    simp only [Option.bind_eq_some_iff,Option.map_eq_some_iff] at h1
    obtain ⟨oi,hoi,ki,hki,r',hr',_⟩:=h1
    exact oP fuel _ r' hr' (iM hc (by rw [he];simp))
def aQq (P:Program) [Quiet P] (n:Nat) (ops:Array Oper) (ms:List Nat):List (Nat × Array Bool)→Nat→Array Bool→Option KR
 | [],fuel,listed=>aOl P n ops ms fuel listed
 |(d,S)::r,fuel,listed=>if d≤fuel then (oI P n ops ms S d listed).bind fun a=>(aQq P n ops ms r (fuel - d) S).map (.join a ·) else none
theorem aCo [Quiet P] {n:Nat} {ms:List Nat} {K:Env→World→Prop} (hm:jV ops ms=true) (hsel:Region.noSelect ops=true):∀(plan:List (Nat × Array Bool)) (fuel:Nat) (listed:Array Bool) (r:KR) (a:Act) (ρ:Env) (w:World),
  aQq P n ops ms plan fuel listed=some r→Closed ops listed→Rep n a ρ→aG P r K ρ w→pZ P ops (aKa n K) fuel listed a w
 | [],fuel,listed,r,a,ρ,w,ho,hc,hr,h=>qQ hm hsel fuel listed r a ρ w ho hc hr h
 |(d,S)::plan,fuel,listed,r,a,ρ,w,ho,hc,hr,h=>by
  simp only [aQq] at ho
  split at ho
  ·rename_i hd
   simp only [Option.bind_eq_some_iff,Option.map_eq_some_iff] at ho
   obtain ⟨ra,ha,rb,hb,rfl⟩:=ho
   have hcS:=oP d listed ra ha hc
   have:=qT (c:=fuel - d) (Q:=aKa n K) (K:=aG P rb K) hm hsel (fun a ρ w hr h=>aCo hm hsel plan (fuel - d) S rb a ρ w hb hcS hr h) d listed ra a ρ w ha hc hr h
   rwa [show d+(fuel - d)=fuel by omega] at this
  ·cases ho
def aYl (ops:Array Oper) (ms:List Nat) (non:List Nat) (k:Nat):Array Bool:=
 ((List.range ops.size).map fun i=>if non.contains i then decide (i<k) else non.all fun j=>decide (j<k)||!(ms.getD i 0).testBit j).toArray
def bAk (ms:List Nat) (non:List Nat) (k:Nat):Bool:=
 non.all fun j=>decide (j<k)||non.all fun i=>decide (k≤i)||(ms.getD j 0).testBit i
def cutAt (ms:List Nat) (non:List Nat):List Nat:=
 let ks:=non.filter fun k=>decide (0<k)&&bAk ms non k&&decide (non.head? ≠some k)
 let seg (a b:Nat):Nat:=(non.filter fun i=>decide (a≤i)&&decide (i<b)).length
 let bs:=0::ks
 (ks.zipIdx.filter fun (k,i)=>decide (1<seg (bs.getD i 0) k)||decide (1<seg k (ks.getD (i+1) 1000000))).map (·.1)
def aX7 (ops:Array Oper) (ms:List Nat) (non:List Nat):List (Nat × Array Bool):=
 let Ss:=(cutAt ms non).map (aYl ops ms non)
 let cnt (S:Array Bool):Nat:=(S.toList.filter id).length
 (Ss.zipIdx).map fun (S,i)=>(cnt S - (match i with|0=>0|j+1=>cnt (Ss.getD j #[])),S)
def aVe (P:Program) [Quiet P] (ops:Array Oper):List Nat:=(List.range ops.size).filter fun i=>!yF P ops i
def zT (ops:Array Oper):List Nat:=
 ops.toList.foldl (fun ms o=>ms++ [o.after.toList.foldl (fun m e=>if Region.binds .any e then m|||2^e.on|||ms.getD e.on 0 else m) 0]) []
def aEo (P:Program) [Quiet P] (n:Nat) (ops:Array Oper):Option KR:=
 if jV ops (zT ops)&&Region.noSelect ops then
  match aQq P n ops (zT ops) (aX7 ops (zT ops) (aVe P ops)) ops.size (Array.replicate ops.size false) with
  |some r=>some r
  |none=>aOl P n ops (zT ops) ops.size (Array.replicate ops.size false)
 else none
theorem aAk:Closed ops (Array.replicate ops.size false):=by
 intro j oj _ hl
 have:(Array.replicate ops.size false).getD j false=false:=by
  simp only [Array.getD_eq_getD_getElem?,Array.getElem?_replicate];split<;>rfl
 rw [this] at hl;cases hl
theorem aKo [Quiet P] {n:Nat} {id:Nat} {r:KR} {K:Env→World→Prop} {a:Act} {ρ:Env} {w:World} {Q:Exit→Act→World→Prop} (hmx:P.follows .mixedOrders=true) (hc:aEo P n ops=some r) (hr:Rep n a ρ)
  (h:aG P r K ρ w.drew) (hQ:∀a w,aKa n K a w→Q .normal a w):(Code.region id ops true).wp P Q a w:=by
 unfold aEo at hc
 rw [Option.ite_none_right_eq_some] at hc
 obtain ⟨h1,h2⟩:=hc
 simp only [Bool.and_eq_true] at h1
 split at h2
 ·rename_i r' hp
  simp only [Option.some.injEq] at h2;subst h2
  exact wp_region_any hmx (kL hQ _ _ _ _ (aCo h1.1 h1.2 _ _ _ _ a ρ _ hp aAk hr h))
 ·exact wp_region_any hmx (kL hQ _ _ _ _ (qQ h1.1 h1.2 _ _ r a ρ _ h2 aAk hr h))
theorem aJi [Quiet P] {n:Nat} {id:Nat} {r:KR} {K:Env→World→Prop} {a:Act} {ρ:Env} {w:World} {Q:Exit→Act→World→Prop} (hc:pK P n ops ops.toList=some r) (hr:Rep n a ρ)
  (h:aG P r K ρ w) (hQ:∀a w,aKa n K a w→Q .normal a w):(Code.region id ops false).wp P Q a w:=by
 refine Code.wp_mono (Q:=Nrm n K) ?_ (wp_region_list (aY2 ops.toList r a ρ w hc h hr))
 intro e a w hn
 cases e<;>first|exact hQ _ _ hn|exact hn.elim
def aVs (S:Nat→Bool) (i:Nat):Nat→Bool:=fun j=>if j=i then true else S j
def aI9 (P:Program) (I:(Nat→Bool)→Env→World→Prop) (S:Nat→Bool) (i:Nat) (k:KI) (ρ:Env) (w:World):Prop:=
 if iB ρ k.guard=true then k.op.wp P ρ w (fun v w'=>I (aVs S i) (put ρ k.dst v) w') else I (aVs S i) (put ρ k.dst undef) w
def bAs (P:Program) (l:List (KI × List Nat)) (Q:Env→World→Prop) (ρ:Env) (w:World):Prop:=
 ∃I:(Nat→Bool)→Env→World→Prop,I (fun _=>false) ρ w∧
  (∀(i:Nat) (h:i<l.length) (S:Nat→Bool) (ρ:Env) (w:World),S i=false→(∀d∈(l[i]).2,S d=true)→I S ρ w→aI9 P I S i (l[i]).1 ρ w)∧
  ∀(S:Nat→Bool) (ρ:Env) (w:World),(∀i,i<l.length→S i=true)→I S ρ w→Q ρ w
def aBf (o:Oper):List Nat:=(o.after.toList.filter fun e=>Region.binds .any e).map (·.on)
def vC (P:Program) [Quiet P] (n:Nat) (ops:Array Oper):List Oper→Option (List (KI × List Nat))
 | []=>some []
 |o::r=>(gX P n ops o).bind fun k=>(vC P n ops r).map ((k,aBf o)::·)
def aB5:Nat→List Oper→Bool
 |_, []=>true
 |i,o::l=>(aBf o).all (fun d=>decide (d<i))&&aB5 (i+1) l
def aE4 (P:Program) [Quiet P] (n:Nat) (ops:Array Oper):Option (List (KI × List Nat)):=
 if Region.noSelect ops&&aB5 0 ops.toList then vC P n ops ops.toList else none
def aZ6 (P:Program) [Quiet P] (ops:Array Oper):Bool:=
 let ms:=zT ops
 let non:=aVe P ops
 decide (14<((non.map fun j=>(non.filter fun i=>decide (i<j)&&!(cO P ops i&&cO P ops j)&&!(ms.getD j 0).testBit i).length).foldl (·+·) 0))
theorem aLf [Quiet P] {n:Nat}:∀(L:List Oper) (l:List (KI × List Nat)),vC P n ops L=some l→l.length=L.length∧∀(i:Nat) (h:i<l.length) (h':i<L.length),gX P n ops L[i]=some (l[i]).1∧(l[i]).2=aBf L[i]
 | [],l,h=>by
  simp only [vC,Option.some.injEq] at h;subst h
  exact ⟨rfl,fun i h=>absurd h (by simp)⟩
 |o::L,l,h=>by
  simp only [vC,Option.bind_eq_some_iff,Option.map_eq_some_iff] at h
  obtain ⟨k,hk,l',hl',rfl⟩:=h
  obtain ⟨h1,h2⟩:=aLf L l' hl'
  refine ⟨by simp [h1],fun i hi hi'=>?_⟩
  cases i with
  |zero=>exact ⟨hk,rfl⟩
  |succ i=>exact h2 i (by simpa using hi) (by simpa using hi')
theorem aKv:∀(L:List Oper) (k:Nat),aB5 k L=true→∀(i:Nat) (h:i<L.length),∀d∈aBf L[i],d<k+i
 | [],_,_,i,h=>absurd h (by simp)
 |o::L,k,he,i,h=>by
  simp only [aB5,Bool.and_eq_true,List.all_eq_true,decide_eq_true_eq] at he
  cases i with
  |zero=>exact fun d hd=>he.1 d hd
  |succ i=>
   intro d hd
   have:=aKv L (k+1) he.2 i (by simpa using h) d hd
   omega
def unl (m:Nat) (listed:Array Bool):Nat:=((List.range m).filter fun i=>!listed.getD i true).length
theorem aDf {p q:Nat→Bool} {i:Nat}:∀{L:List Nat},L.Nodup→i∈L→p i=true→q i=false→(∀j,j≠i→q j=p j)→(L.filter q).length+1=(L.filter p).length
 | [],_,hi,_,_,_=>by cases hi
 |j::L,hn,hi,hp,hq,he=>by
  rw [List.nodup_cons] at hn
  by_cases e:j=i
  ·subst e
   have h2:L.filter q=L.filter p:=List.filter_congr fun k hk=>he k (fun e=>hn.1 (e▸hk))
   rw [List.filter_cons_of_pos hp,List.filter_cons_of_neg (by simp [hq]),h2,List.length_cons]
  ·have hi':i∈L:=(List.mem_cons.1 hi).resolve_left (fun h=>e h.symm)
   have ih:=aDf hn.2 hi' hp hq he
   have hj:=he j e
   rw [List.filter_cons,List.filter_cons,hj]
   cases p j<;>simp<;>omega
theorem aH0 {listed:Array Bool} (hs:listed.size=ops.size) (he:aB5 0 ops.toList=true) (h0:Region.ready .any ops listed= []):∀i,i<ops.size→listed.getD i false=true:=by
 intro i
 induction i using Nat.strongRecOn with
 |_ i ih=>
  intro hi
  cases hl:listed.getD i false with
  |true=>rfl
  |false=>
   exfalso
   have hmem:i∈Region.ready .any ops listed:=by
    rw [mem_ready]
    refine ⟨?_,ops[i],Array.getElem?_eq_getElem hi,fun e hm hb=>?_⟩
    ·simp only [Array.getD_eq_getD_getElem?,Array.getElem?_eq_getElem (show i<listed.size by omega),Option.getD_some] at hl ⊢
     exact hl
    ·have hd:e.on∈aBf ops[i]:=List.mem_map.2 ⟨e,List.mem_filter.2 ⟨by simpa using hm,hb⟩,rfl⟩
     have:=aKv ops.toList 0 he i (by simpa using hi) e.on (by simpa using hd)
     exact ih e.on (by omega) (by omega)
   rw [h0] at hmem;cases hmem
theorem aRe [Quiet P] {n:Nat} {l:List (KI × List Nat)} {K:Env→World→Prop} {I:(Nat→Bool)→Env→World→Prop} (hsel:Region.noSelect ops=true) (he:aB5 0 ops.toList=true) (hl:vC P n ops ops.toList=some l)
  (hstep:∀(i:Nat) (h:i<l.length) (S:Nat→Bool) (ρ:Env) (w:World),S i=false→(∀d∈(l[i]).2,S d=true)→I S ρ w→aI9 P I S i (l[i]).1 ρ w)
  (hend:∀(S:Nat→Bool) (ρ:Env) (w:World),(∀i,i<l.length→S i=true)→I S ρ w→K ρ w):
  ∀(fuel:Nat) (listed:Array Bool) (a:Act) (ρ:Env) (w:World),listed.size=ops.size→unl ops.size listed=fuel→Rep n a ρ→I (fun j=>listed.getD j false) ρ w→pZ P ops (aKa n K) fuel listed a w:=by
 obtain ⟨hlen,hat⟩:=aLf ops.toList l hl
 have hlen:l.length=ops.size:=by rw [hlen];simp
 intro fuel
 induction fuel with
 |zero=>
  intro listed a ρ w hs hu hr hI
  have hall:∀i,i<ops.size→listed.getD i true=true:=fun i hi=>by
   unfold unl at hu
   have h1:=List.length_eq_zero_iff.1 hu
   rw [List.filter_eq_nil_iff] at h1
   have:=h1 i (List.mem_range.2 hi)
   simpa using this
  have h0:Region.ready .any ops listed= []:=by
   rw [List.eq_nil_iff_forall_not_mem]
   intro j hj
   obtain ⟨h1,o,ho, -⟩:=mem_ready.1 hj
   rw [hall j (Array.getElem?_eq_some_iff.1 ho).1] at h1;cases h1
  exact ⟨h0,ρ,hr,hend _ ρ w (fun i hi=>aH0 hs he h0 i (by omega)) hI⟩
 |succ fuel ih=>
  intro listed a ρ w hs hu hr hI
  refine ⟨fun h0=>⟨ρ,hr,hend _ ρ w (fun i hi=>aH0 hs he h0 i (by omega)) hI⟩,fun i hi=>?_⟩
  obtain ⟨hun,oi,hoi,hdep⟩:=mem_ready.1 hi
  have hil:i<ops.size:=(Array.getElem?_eq_some_iff.1 hoi).1
  have hio:ops.toList[i]'(by simpa using hil)=oi:=by
   have:=(Array.getElem?_eq_some_iff.1 hoi).2
   simpa using this
  obtain ⟨hc,hd⟩:=hat i (by omega) (by simpa using hil)
  rw [hio] at hc hd
  have F:=vD hc
  have hun':listed.getD i false=false:=by
   simp only [Array.getD_eq_getD_getElem?,Array.getElem?_eq_getElem (show i<listed.size by omega),Option.getD_some] at hun ⊢
   exact hun
  have hst:=hstep i (by omega) (fun j=>listed.getD j false) ρ w hun' (fun d hm=>by
   rw [hd] at hm
   obtain ⟨e,h1,rfl⟩:=List.mem_map.1 hm
   obtain ⟨h1,h2⟩:=List.mem_filter.1 h1
   exact hdep e (by simpa using h1) h2) hI
  have hset:(fun j=>(listed.setIfInBounds i true).getD j false)=aVs (fun j=>listed.getD j false) i:=by
   funext j
   unfold aVs
   by_cases e:j=i
   ·subst e
    rw [if_pos rfl]
    simp [Array.getD_eq_getD_getElem?,show j<listed.size by omega]
   ·rw [if_neg e,getD_set_ne false (Ne.symm e)]
  have IH:∀v w',I (aVs (fun j=>listed.getD j false) i) (put ρ oi.dst v) w'→pZ P ops (aKa n K) fuel (listed.setIfInBounds i true) (a.put oi.dst v) w':=fun v w' hI'=>by
   refine ih _ _ _ w' (by simp [hs]) ?_ (by have:=F.put hr v;rwa [F.dst] at this) (by rw [hset];exact hI')
   have:=aDf (p:=fun i=>!listed.getD i true) (q:=fun j=>!(listed.setIfInBounds i true).getD j true) (i:=i) (L:=List.range ops.size) List.nodup_range (List.mem_range.2 hil) (by simp [hun]) (by simp [Array.getD_eq_getD_getElem?,show i<listed.size by omega]) (fun j hj=>by rw [getD_set_ne true (Ne.symm hj)])
   unfold unl at hu ⊢
   omega
  unfold aI9 at hst
  simp only [F.dst] at hst
  unfold sG
  split
  ·rename_i hst2
   have hcs:(aC P oi).isStill=true:=by unfold cO at hst2;rw [hoi] at hst2;exact hst2
   by_cases hw:iB ρ (l[i]'(by omega)).1.guard=true
   ·rw [if_pos hw,F.op] at hst
    obtain ⟨v,hv,hk⟩:=sN hcs hst
    exact YieldsAt.stOp (v:=v) hoi (.inl ⟨by rw [F.want a ρ hr];exact hw,by rw [F.exec hr];exact jU oi v hcs hv⟩) (IH v w hk)
   ·rw [if_neg hw] at hst
    exact YieldsAt.stOp (v:=undef) hoi (.inr ⟨by rw [F.want a ρ hr];simpa using hw,rfl⟩) (IH undef w hst)
  ·unfold wpOp
   simp only [hoi]
   rw [F.want a ρ hr]
   split
   ·rename_i hw
    rw [if_pos hw] at hst
    exact .inl (F.wp hr IH hst)
   ·rename_i hw
    rw [if_neg hw] at hst
    exact IH undef w hst
theorem aKt [Quiet P] {n:Nat} {id:Nat} {l:List (KI × List Nat)} {K:Env→World→Prop} {a:Act} {ρ:Env} {w:World} {Q:Exit→Act→World→Prop} (hmx:P.follows .mixedOrders=true) (hc:aE4 P n ops=some l) (hr:Rep n a ρ)
  (h:bAs P l K ρ w.drew) (hQ:∀a w,aKa n K a w→Q .normal a w):(Code.region id ops true).wp P Q a w:=by
 unfold aE4 at hc
 rw [Option.ite_none_right_eq_some] at hc
 obtain ⟨h1,h2⟩:=hc
 simp only [Bool.and_eq_true] at h1
 obtain ⟨I,hI,hstep,hend⟩:=h
 have e0:∀(d:Bool) (j:Nat),j<ops.size→(Array.replicate ops.size false).getD j d=false:=fun d j hj=>by
  simp [Array.getD_eq_getD_getElem?,Array.getElem?_replicate,hj]
 have e1:(fun j=>(Array.replicate ops.size false).getD j false)=fun _=>false:=by
  funext j
  simp only [Array.getD_eq_getD_getElem?,Array.getElem?_replicate];split<;>rfl
 refine wp_region_any hmx (kL hQ _ _ _ _ (aRe h1.1 h1.2 h2 hstep hend ops.size (Array.replicate ops.size false) a ρ _ (by simp) ?_ hr (by rw [e1];exact hI)))
 unfold unl
 rw [List.filter_eq_self.2 (fun i hi=>by rw [e0 true i (List.mem_range.1 hi)];rfl)]
 simp
inductive KC where
 |skip
 |reg (draw:Bool) (r:KR)
 |anyR (l:List (KI × List Nat))
 |seq (a b:KC)
 |cond (x:Operand) (a b:KC)
 |block (id:Nat) (c:KC)
 |loop (c:KC)
 |exit (id:Nat)
 |ret
 |raw (n:Nat) (c:Code)
def aK (P:Program):KC→(Exit→Env→World→Prop)→Env→World→Prop
 |.skip,K,ρ,w=>K .normal ρ w
 |.reg false r,K,ρ,w=>aG P r (K .normal) ρ w
 |.reg true r,K,ρ,w=>aG P r (K .normal) ρ w.drew
 |.anyR l,K,ρ,w=>bAs P l (K .normal) ρ w.drew
 |.seq a b,K,ρ,w=>aK P a (fun e ρ' w'=>match e with
  |.normal=>aK P b K ρ' w'
  |e=>K e ρ' w') ρ w
 |.cond x a b,K,ρ,w=>∃t,ev ρ x=.bool t∧(t=true→aK P a K ρ w)∧(t=false→aK P b K ρ w)
 |.block id c,K,ρ,w=>aK P c (fun e ρ' w'=>match e with
  |.exit id'=>if id'=id then K .normal ρ' w' else K (.exit id') ρ' w'
  |e=>K e ρ' w') ρ w
 |.loop c,K,ρ,w=>∃(I:Env→World→Prop) (μ:Env→World→Nat),I ρ w∧∀ρ w,I ρ w→aK P c (fun e ρ' w'=>match e with
  |.normal=>I ρ' w'∧μ ρ' w'<μ ρ w
  |e=>K e ρ' w') ρ w
 |.exit id,K,ρ,w=>K (.exit id) ρ w
 |.ret,K,ρ,w=>K .ret ρ w
 |.raw n c,K,ρ,w=>∀a,Rep n a ρ→c.wp P (fun e a' w'=>∃ρ',Rep n a' ρ'∧K e ρ' w') a w
def cK (P:Program) [Quiet P] (n:Nat):Code→KC
 |.skip=>.skip
 |.region id ops d=>if d&&aZ6 P ops then (match aE4 P n ops with
  |some l=>.anyR l
  |none=>.raw n (.region id ops d)) else match (if d then aEo P n ops else pK P n ops ops.toList) with
  |some r=>.reg d r
  |none=>.raw n (.region id ops d)
 |.seq a b=>.seq (cK P n a) (cK P n b)
 |.cond x a b=>if aBi n x then .cond x (cK P n a) (cK P n b) else .raw n (.cond x a b)
 |.block id c=>.block id (cK P n c)
 |.loop c=>.loop (cK P n c)
 |.exit id=>.exit id
 |.ret=>.ret
 |.scope c=>.raw n (.scope c)
 |c=>.raw n c
theorem aWh {σ:Type} {c:Code} {Q:Exit→Act→World→Prop} {a:Act} {w:World} (I:σ→Act→World→Prop) (μ:σ→World→Nat) (s:σ) (h₀:I s a w)
  (round:∀s a w,I s a w→c.wp P (Exit.then (fun a' w'=>∃s',I s' a' w'∧μ s' w'<μ s w) Q) a w):(Code.loop c).wp P Q a w:=by
 intro b k cs
 have key:∀n s a w,μ s w=n→I s a w→
   ∃e a' w',Q e a' w'∧Arrives P (lone (b.at a (.code c::.inLoop c::k)) cs w) b k cs e a' w':=by
  intro n
  induction n using Nat.strongRecOn with
  |_ n ih=>
   intro s a w hn hI
   obtain ⟨e,a₁,w₁,hq,harr⟩:=round s a w hI b (.inLoop c::k) cs
   cases e with
   |normal=>
    obtain ⟨s',hI₁,hlt⟩:=hq
    obtain ⟨e₂,a₂,w₂,hq₂,harr₂⟩:=ih (μ s' w₁) (hn▸hlt) s' a₁ w₁ rfl hI₁
    exact ⟨e₂,a₂,w₂,hq₂,.of_steps (Steps.trans harr (.one step_inLoop)) harr₂⟩
   |exit id=>exact ⟨_,a₁,w₁,hq,.pass (x:=.inLoop c) rfl (fun _ _=>.inl (by simp)) harr⟩
   |goto l=>exact ⟨_,a₁,w₁,hq,.pass (x:=.inLoop c) rfl (fun _ _=>.inl (by simp)) harr⟩
   |ret=>exact ⟨_,a₁,w₁,hq,.pass (x:=.inLoop c) rfl (fun _ _=>.inl (by simp)) harr⟩
   |panic ch=>exact ⟨_,a₁,w₁,hq,.pass (x:=.inLoop c) rfl (fun _ _=>.inl (by simp)) harr⟩
   |outgrown=>exact ⟨_,a₁,w₁,hq,.pass (x:=.inLoop c) rfl (fun _ _=>.inl (by simp)) harr⟩
 obtain ⟨e,a',w',hq,harr⟩:=key _ s a w rfl h₀
 exact ⟨e,a',w',hq,.of_steps (.one step_loop) harr⟩
theorem iH [Quiet P] {n:Nat} (hmx:P.follows .mixedOrders=true):∀(c:Code) (K:Exit→Env→World→Prop) (a:Act) (ρ:Env) (w:World),Rep n a ρ→aK P (cK P n c) K ρ w→c.wp P (fun e a' w'=>∃ρ',Rep n a' ρ'∧K e ρ' w') a w
 |.skip,K,a,ρ,w,hr,h=>wp_skip ⟨ρ,hr,h⟩
 |.region id ops d,K,a,ρ,w,hr,h=>by
  simp only [cK] at h
  split at h
  ·rename_i hd
   simp only [Bool.and_eq_true] at hd
   obtain ⟨rfl, -⟩:=hd
   split at h
   ·rename_i l hc
    exact aKt hmx hc hr h (fun a w hp=>hp)
   ·exact h a hr
  split at h
  ·rename_i r hc
   cases d with
   |true=>exact aKo hmx (by simpa using hc) hr h (fun a w hp=>hp)
   |false=>exact aJi (by simpa using hc) hr h (fun a w hp=>hp)
  ·exact h a hr
 |.seq x y,K,a,ρ,w,hr,h=>by
  simp only [cK,aK] at h
  refine wp_seq (Code.wp_mono ?_ (iH hmx x _ a ρ w hr h))
  rintro e a' w' ⟨ρ',hr',hk⟩
  cases e<;>first|exact ⟨ρ',hr',hk⟩|exact iH hmx y K a' ρ' w' hr' hk
 |.cond x c d,K,a,ρ,w,hr,h=>by
  simp only [cK] at h
  split at h
  ·rename_i hx
   obtain ⟨t,ht,h1,h2⟩:=h
   refine wp_cond (t:=t) (by rw [hr.eval hx];exact ht) ?_
   cases t with
   |true=>exact iH hmx c K a ρ w hr (h1 rfl)
   |false=>exact iH hmx d K a ρ w hr (h2 rfl)
  ·exact h a hr
 |.block id c,K,a,ρ,w,hr,h=>by
  simp only [cK,aK] at h
  refine wp_block (Code.wp_mono ?_ (iH hmx c _ a ρ w hr h))
  rintro e a' w' ⟨ρ',hr',hk⟩
  cases e with
  |exit id'=>
   simp only [Exit.inBlock] at hk ⊢
   split
   ·rename_i he;rw [if_pos he] at hk;exact ⟨ρ',hr',hk⟩
   ·rename_i he;rw [if_neg he] at hk;exact ⟨ρ',hr',hk⟩
  |normal=>exact ⟨ρ',hr',hk⟩
  |ret=>exact ⟨ρ',hr',hk⟩
  |goto l=>exact ⟨ρ',hr',hk⟩
  |panic ch=>exact ⟨ρ',hr',hk⟩
  |outgrown=>exact ⟨ρ',hr',hk⟩
 |.loop c,K,a,ρ,w,hr,h=>by
  simp only [cK,aK] at h
  obtain ⟨I,μ,h0,hround⟩:=h
  refine aWh (fun ρ a w=>Rep n a ρ∧I ρ w) μ ρ ⟨hr,h0⟩ fun ρ a w ⟨hr,hI⟩=>?_
  refine Code.wp_mono ?_ (iH hmx c _ a ρ w hr (hround ρ w hI))
  rintro e a' w' ⟨ρ',hr',hk⟩
  cases e<;>first|exact ⟨ρ',hr',hk⟩|exact ⟨ρ',⟨hr',hk.1⟩,hk.2⟩
 |.exit id,K,a,ρ,w,hr,h=>wp_exit ⟨ρ,hr,h⟩
 |.ret,K,a,ρ,w,hr,h=>wp_ret ⟨ρ,hr,h⟩
 |.scope c,K,a,ρ,w,hr,h=>h a hr
 |.goto l,K,a,ρ,w,hr,h=>h a hr
 |.label l,K,a,ρ,w,hr,h=>h a hr
 |.rangeFunc f p x y,K,a,ρ,w,hr,h=>h a hr
 |.refuse s,K,a,ρ,w,hr,h=>h a hr
inductive RV where
 |tmp (t:Tmp)
 |cell (t:Tmp)
 |cellN (n:Nat) (t:Tmp)
def aVw (P:Program) (n:Nat):ResultVar→Option RV
 |.tmp t=>if t<n then some (.tmp t) else none
 |.cell a t=>if a<n then match lE P t with
  |some (some k)=>some (.cellN k a)
  |some none=>some (.cell a)
  |none=>none
  else none
def aKi (P:Program) (n:Nat):List ResultVar→Option (List RV)
 | []=>some []
 |x::l=>(aVw P n x).bind fun r=>(aKi P n l).map (r::·)
def uN (P:Program) (fn:Func) (n:Nat):Option (List RV):=aKi P n fn.results.toList
def wY (ρ:Env) (w:World):RV→Option Value
 |.tmp t=>some (ρ t)
 |.cell t=>match ρ t with
  |.pointer (some a)=>w.cell? a
  |_=>none
 |.cellN n t=>match ρ t with
  |.pointer (some a)=>(rdCells w a 0 n).map fun l=>.agg l.toArray
  |_=>none
def tJ (ρ:Env) (w:World):List RV→Option (List Value)
 | []=>some []
 |x::l=>(wY ρ w x).bind fun v=>(tJ ρ w l).map (v::·)
def rO (ρ:Env) (w:World):List RV→Option Value
 | [t]=>wY ρ w t
 |ts=>(tJ ρ w ts).map fun l=>.tuple l.toArray
def Spec (P:Program) (f:FuncId) (args:List Value) (w:World) (R:Value→World→Prop):Prop:=
 Calls P f args.toArray w fun e w'=>∃v,e=.returned v∧R v w'
def fS (args:List Value):Env:=fun t=>args.getD t undef
def aU (rs:List RV) (R:Value→World→Prop):Exit→Env→World→Prop
 |.normal,ρ,w|.ret,ρ,w=>∃v,rO ρ w rs=some v∧R v w
 |_,_,_=>False
theorem aYi {n:Nat} {x:ResultVar} {r:RV} {v:Value} {a:Act} {ρ:Env} {w:World} (hr:aVw P n x=some r) (hrep:Rep n a ρ) (hv:wY ρ w r=some v):
  (match x with|.tmp t=>pure (a.tmps.getD t undef)|.cell b t=>(do loadVar t (←asAddr (a.tmps.getD b undef))):Sem Value).run P w=.ok v w:=by
 cases x with
 |tmp t=>
  simp only [aVw,Option.ite_none_right_eq_some,Option.some.injEq] at hr
  obtain ⟨ht,rfl⟩:=hr
  simp only [wY,Option.some.injEq] at hv
  subst hv
  simp only [hrep.getD ht,Sem.run_pure]
 |cell b t=>
  simp only [aVw,Option.ite_none_right_eq_some] at hr
  obtain ⟨hb,hr⟩:=hr
  simp only [hrep.getD hb]
  split at hr
  ·rename_i k hk
   simp only [Option.some.injEq] at hr;subst hr
   simp only [wY] at hv
   split at hv
   ·rename_i ad had
    obtain ⟨l,hl,rfl⟩:=Option.map_eq_some_iff.1 hv
    obtain ⟨h1,h2⟩:=lH hk w
    rw [had]
    simp [asAddr,loadVar,h1,h2,loadCells,run_loadCellsFrom k 0 #[] l hl]
   ·cases hv
  ·rename_i hk
   simp only [Option.some.injEq] at hr;subst hr
   simp only [wY] at hv
   split at hv
   ·rename_i ad had
    rw [had]
    simp [asAddr,loadVar,kZ hk w,load,Sem.run,hv]
   ·cases hv
  ·cases hr
theorem aCd {fn:Func} {n:Nat} {rs:List RV} {v:Value} {a:Act} {ρ:Env} {w:World} (hr:uN P fn n=some rs) (hrep:Rep n a ρ) (hv:rO ρ w rs=some v):(results fn a.tmps).run P w=.ok v w:=by
 have key:∀(l:List ResultVar) (ts:List RV) (vs:List Value),aKi P n l=some ts→tJ ρ w ts=some vs→
   (l.mapM (m:=Sem) fun|.tmp t=>pure (a.tmps.getD t undef)|.cell b t=>do loadVar t (←asAddr (a.tmps.getD b undef))).run P w=.ok vs w:=by
  intro l
  induction l with
  |nil=>intro ts vs h1 h2;simp only [aKi,Option.some.injEq] at h1;subst h1;simp only [tJ,Option.some.injEq] at h2;subst h2;rfl
  |cons x l ih=>
   intro ts vs h1 h2
   simp only [aKi,Option.bind_eq_some_iff,Option.map_eq_some_iff] at h1
   obtain ⟨r,hr1,rs1,hrs,rfl⟩:=h1
   simp only [tJ,Option.bind_eq_some_iff,Option.map_eq_some_iff] at h2
   obtain ⟨v1,hv1,vs1,hvs,rfl⟩:=h2
   rw [List.mapM_cons]
   have h3:=aYi hr1 hrep hv1
   simp only [Sem.run_bind] at h3 ⊢
   cases x with
   |tmp t=>simp only at h3 ⊢;rw [h3];simp only [Result.andThen_ok,ih rs1 vs1 hrs hvs,Sem.run_pure]
   |cell b t=>simp only [Sem.run_bind] at h3 ⊢;rw [h3];simp only [Result.andThen_ok,ih rs1 vs1 hrs hvs,Sem.run_pure]
 unfold uN at hr
 obtain ⟨vs,hvs,hout⟩:∃vs,tJ ρ w rs=some vs∧v=(if h:vs.toArray.size=1 then vs.toArray[0] else .tuple vs.toArray):=by
  match rs,hv with
  | [],hv=>simp only [rO,tJ,Option.map_some,Option.some.injEq] at hv;exact ⟨[],rfl,by simp [←hv]⟩
  | [t],hv=>simp only [rO] at hv;exact ⟨[v],by simp [tJ,hv],by simp⟩
  |t::u::r,hv=>
   simp only [rO,Option.map_eq_some_iff] at hv
   obtain ⟨vs,hvs,rfl⟩:=hv
   refine ⟨vs,hvs,?_⟩
   have hl:vs.length≠1:=by
    simp only [tJ,Option.bind_eq_some_iff,Option.map_eq_some_iff] at hvs
    obtain ⟨_,_,_,⟨_,_,_,_,rfl⟩,rfl⟩:=hvs
    simp
   simp [hl]
 have h2:=key fn.results.toList rs vs hr hvs
 unfold results
 rw [Array.mapM_eq_mapM_toList]
 simp only [Sem.run_bind,Sem.run_map]
 refine (congrArg (fun r:Result (List Value)=>(r.andThen fun l w'=>(Result.ok l.toArray w')).andThen fun vs w'=>((pure (if h:vs.size=1 then vs[0] else .tuple vs):Sem Value)).run P w') h2).trans ?_
 simp only [Result.andThen_ok,Sem.run_pure,hout]
theorem fF [Quiet P] {f:FuncId} {fn:Func} {c:Code} {n:Nat} {rs:List RV} {args:List Value} {w:World} {R:Value→World→Prop} {kc:KC} (hmx:P.follows .mixedOrders=true) (hf:P.funcs[f]? =some fn) (hb:fn.body=some c) (hn:fn.ntmps=n) (hrs:uN P fn n=some rs)
  (hk:cK P n c=kc) (ha:args.length≤n) (h:aK P kc (aU rs R) (fS args) w):Spec P f args w R:=by
 subst hk
 have hrep:Rep n {tmps:=args.toArray++Array.replicate (fn.ntmps - args.toArray.size) undef,defers:= []} (fS args):=by
  refine ⟨rfl,by simp [hn];omega,fun t ht=>?_⟩
  by_cases hlt:t<args.length
  ·simp [fS,Array.getElem?_append,hlt]
  ·simp [fS,Array.getElem?_append,hlt,hn]
   rw [Array.getElem?_replicate,if_pos (by omega)]
 refine calls_of_wp hf hb (Code.wp_mono ?_ (iH hmx c _ _ _ _ hrep h))
 rintro e a' w' ⟨ρ',hr',hk⟩
 cases e
 case normal=>obtain ⟨v,hv,hR⟩:=hk;exact ⟨hr'.defers,_,aCd hrs hr' hv,_,rfl,hR⟩
 case ret=>obtain ⟨v,hv,hR⟩:=hk;exact ⟨hr'.defers,_,aCd hrs hr' hv,_,rfl,hR⟩
 all_goals exact hk.elim
end
section
open Go
variable {P:Program}
structure Chg (l:List Nat) (w w':World):Prop where
 os:w'.os=w.os
 tape:w'.tape=w.tape
 output:w'.output=w.output
 size:w.heap.size≤w'.heap.size
 block:∀b,b<w.heap.size→b∉l→w'.heap[b]? =w.heap[b]?
def Ext (w w':World):Prop:=Chg [] w w'
theorem Chg.refl (l:List Nat) (w:World):Chg l w w:=⟨rfl,rfl,rfl,Nat.le_refl _,fun _ _ _=>rfl⟩
theorem Ext.refl (w:World):Ext w w:=Chg.refl [] w
theorem Chg.trans {l l':List Nat} {w w1 w2:World} (h:Chg l w w1) (h':Chg l' w1 w2):Chg (l++l') w w2:=
 ⟨h'.os.trans h.os,h'.tape.trans h.tape,h'.output.trans h.output,nTr h.size h'.size,fun b hb hn=>by
  rw [List.mem_append,not_or] at hn
  exact (h'.block b (nLt hb h.size) hn.2).trans (h.block b hb hn.1)⟩
theorem Chg.mono {l l':List Nat} {w w':World} (h:Chg l w w') (hl:∀b∈l,b∈l'∨w.heap.size≤b):Chg l' w w':=
 ⟨h.os,h.tape,h.output,h.size,fun b hb hn=>h.block b hb fun hm=>by
  rcases hl b hm with h1|h1
  ·exact hn h1
  ·omega⟩
theorem Ext.trans {w w1 w2:World} (h:Ext w w1) (h':Ext w1 w2):Ext w w2:=Chg.trans h h'
theorem Chg.ext {l:List Nat} {w w1 w2:World} (h:Chg l w w1) (h':Ext w1 w2):Chg l w w2:=by simpa using Chg.trans h h'
theorem Ext.chg {l:List Nat} {w w1 w2:World} (h:Ext w w1) (h':Chg l w1 w2):Chg l w w2:=Chg.trans h h'
theorem Ext.drew (w:World):Ext w w.drew:=⟨rfl,rfl,rfl,Nat.le_refl _,fun _ _ _=>rfl⟩
theorem Ext.alloc (w:World) (o:Obj):Ext w (w.alloc o):=⟨rfl,rfl,rfl,by simp,fun b hb _=>by show (w.heap.push o)[b]? =_;rw [Array.getElem?_push,if_neg (by omega)]⟩
theorem Ext.size {w w':World} (h:Ext w w'):w.heap.size≤w'.heap.size:=Chg.size h
theorem Ext.below {w w':World} (h:Ext w w'):RowKit.Below w.heap.size w w':=⟨h.os,h.tape,h.output,Chg.size h,fun k hk=>Chg.block h k hk (by simp)⟩
theorem Chg.setObj (w:World) (r:Nat) (o:Obj):Chg [r] w (cL w r o):=
 ⟨rfl,rfl,rfl,by simp [cL],fun b _ hn=>by
  show (w.heap.setIfInBounds r o)[b]? =_
  rw [Array.getElem?_setIfInBounds_ne (by simp at hn;omega)]⟩
theorem Chg.setCell (w:World) (a:Addr) (v:Value):Chg [a.block] w (w.setCell a v):=
 ⟨rfl,rfl,rfl,by simp,fun b _ hn=>by
  show (w.heap.modify a.block _)[b]? =_
  rw [Array.getElem?_modify,if_neg (by simp at hn;omega)]⟩
theorem Ext.grown {w w':World} (h:Ext w w') (e4:w.drawn≤w'.drawn):∃q os,w'=Sort.grow (w.drewN q) os:=by
 refine ⟨w'.drawn - w.drawn,w'.heap.extract w.heap.size w'.heap.size,?_⟩
 have hh:w'.heap=w.heap++w'.heap.extract w.heap.size w'.heap.size:=by
  apply Array.ext
  ·have:=h.size;simp;omega
  ·intro i h1 h2
   by_cases hi:i<w.heap.size
   ·have:=Chg.block h i hi (by simp)
    rw [Array.getElem?_eq_getElem h1,Array.getElem?_eq_getElem hi] at this
    rw [Array.getElem_append_left hi];simpa using this
   ·rw [Array.getElem_append_right (by omega)]
    simp only [Array.getElem_extract]
    congr 1;omega
 have e1:=Chg.os h;have e2:=Chg.tape h;have e3:=Chg.output h
 have e5:w'.drawn=w.drawn+(w'.drawn - w.drawn):=by omega
 generalize w'.heap.extract w.heap.size w'.heap.size=x at hh ⊢
 generalize w'.drawn - w.drawn=y at e5 ⊢
 cases w';cases w
 simp only at*
 subst hh e1 e2 e3 e5
 rfl
def At (w:World) (b:Nat) (o:Obj):Prop:=w.heap[b]? =some o
theorem At.lt {w:World} {b:Nat} {o:Obj} (h:At w b o):b<w.heap.size:=(Array.getElem?_eq_some_iff.1 h).1
theorem At.chg {l:List Nat} {w w':World} {b:Nat} {o:Obj} (hc:Chg l w w') (h:At w b o) (hb:b∉l):At w' b o:=(hc.block b h.lt hb).trans h
theorem At.ext {w w':World} {b:Nat} {o:Obj} (hc:Ext w w') (h:At w b o):At w' b o:=h.chg hc (by simp)
theorem At.new (w:World) (o:Obj):At (w.alloc o) w.heap.size o:=by show (w.heap.push o)[w.heap.size]? =_;simp
theorem At.setObj {w:World} {r:Nat} {o o':Obj} (h:At w r o):At (cL w r o') r o':=by
 show (w.heap.setIfInBounds r o')[r]? =_
 rw [Array.getElem?_setIfInBounds_self_of_lt h.lt]
theorem At.inj {w:World} {b:Nat} {o o':Obj} (h:At w b o) (h':At w b o'):o=o':=by unfold At at h h';rw [h] at h';injection h'
theorem At.ne {w:World} {b b':Nat} {o o':Obj} (h:At w b o) (h':At w b' o') (hne:o≠o'):b≠b':=fun e=>by subst e;exact hne (h.inj h')
def Row (w:World) (ad:Addr) (cs:List Value):Prop:=∀j v,cs[j]? =some v→w.cell? (ad.add j)=some v
theorem add_add (a:Addr) (i j:Nat):(a.add i).add j=a.add (i+j):=by
 unfold Addr.add
 by_cases hi:i=0<;>by_cases hj:j=0<;>simp [hi,hj,Nat.add_assoc]
theorem add_block (a:Addr) (n:Nat):(a.add n).block=a.block:=by unfold Addr.add;split<;>rfl
theorem cell_of_heap {w w':World} {a:Addr} (h:w'.heap[a.block]? =w.heap[a.block]?):w'.cell? a=w.cell? a:=by unfold World.cell?;rw [h]
theorem cell_lt {w:World} {a:Addr} {v:Value} (h:w.cell? a=some v):a.block<w.heap.size:=by
 unfold World.cell? at h
 rcases Nat.lt_or_ge a.block w.heap.size with h1|h1
 ·exact h1
 ·rw [Array.getElem?_eq_none h1] at h;cases h
theorem Row.chg {l:List Nat} {w w':World} {ad:Addr} {cs:List Value} (hc:Chg l w w') (h:Row w ad cs) (hb:ad.block∉l):Row w' ad cs:=fun j v hj=>by
 have h1:=h j v hj
 have h2:=cell_lt h1
 rw [add_block] at h2
 rw [cell_of_heap (w:=w) (by rw [add_block];exact hc.block _ h2 hb)];exact h1
theorem Row.ext {w w':World} {ad:Addr} {cs:List Value} (hc:Ext w w') (h:Row w ad cs):Row w' ad cs:=h.chg hc (by simp)
theorem Row.of_at {w:World} {b:Nat} {cs:List Value} {t:TypeId} {f:Nat × Nat} (h:At w b (.cells cs.toArray t f)):Row w ⟨b,0,none⟩ cs:=fun j v hj=>by
 unfold At at h
 have:(Addr.add ⟨b,0,none⟩ j)=⟨b,j,none⟩:=by unfold Addr.add;split<;>simp_all
 rw [this]
 simp [World.cell?,h,hj]
theorem Row.c0 {w:World} {ad:Addr} {cs:List Value} {v:Value} (h:Row w ad cs) (hv:cs[0]? =some v):w.cell? ad=some v:=by have:=h 0 v hv;rwa [add_zero] at this
theorem Row.c1 {w:World} {ad:Addr} {cs:List Value} {o:Nat} {v:Value} (h:Row w ad cs) (hv:cs[o]? =some v):w.cell? (ad.add o)=some v:=h o v hv
theorem Row.c2 {w:World} {ad:Addr} {cs:List Value} {o p:Nat} {v:Value} (h:Row w ad cs) (hv:cs[o+p]? =some v):w.cell? ((ad.add o).add p)=some v:=by rw [add_add];exact h _ v hv
theorem Row.c3 {w:World} {ad:Addr} {cs:List Value} {o p q:Nat} {v:Value} (h:Row w ad cs) (hv:cs[o+(p+q)]? =some v):w.cell? (((ad.add o).add p).add q)=some v:=by rw [add_add,add_add];exact h _ v hv
theorem Row.rd {w:World} {ad:Addr} {cs:List Value} (h:Row w ad cs):∀(n i:Nat),i+n≤cs.length→rdCells w ad i n=some ((cs.drop i).take n)
 |0,i,_=>by simp [rdCells]
 |n+1,i,hn=>by
  have hlt:i<cs.length:=by omega
  have h1:=h i _ (List.getElem?_eq_getElem hlt)
  simp only [rdCells,h1,Option.bind_some,h.rd n (i+1) (by omega),Option.map_some]
  rw [List.drop_eq_getElem_cons hlt,List.take_succ_cons]
theorem aNj {w:World} {ad:Addr} {o:Nat}:∀(n i:Nat),rdCells w (ad.add o) i n=rdCells w ad (o+i) n
 |0,i=>rfl
 |n+1,i=>by simp only [rdCells,add_add,aNj n (i+1),Nat.add_assoc]
theorem Row.r0 {w:World} {ad:Addr} {cs l:List Value} {n:Nat} (h:Row w ad cs) (hn:n≤cs.length) (hl:cs.take n=l):rdCells w ad 0 n=some l:=by rw [h.rd n 0 (by omega),←hl];simp
theorem Row.r1 {w:World} {ad:Addr} {cs l:List Value} {o n:Nat} (h:Row w ad cs) (hn:o+n≤cs.length) (hl:(cs.drop o).take n=l):rdCells w (ad.add o) 0 n=some l:=by rw [aNj,h.rd n (o+0) (by omega),←hl];rfl
theorem Row.r2 {w:World} {ad:Addr} {cs l:List Value} {o p n:Nat} (h:Row w ad cs) (hn:o+p+n≤cs.length) (hl:(cs.drop (o+p)).take n=l):rdCells w ((ad.add o).add p) 0 n=some l:=by rw [add_add];exact h.r1 hn hl
def Sl (w:World) (k:Nat) (v:Value) (n:Nat) (cs:List Value):Prop:=
 cs.length=n*k∧∃base cap,v=.slice base n cap∧n≤cap∧(0<cs.length→∃a,base=some a∧Row w a cs)
theorem Sl.chg {l:List Nat} {w w':World} {k n:Nat} {v:Value} {cs:List Value} (hc:Chg l w w') (h:Sl w k v n cs) (hb:∀a m c,v=.slice (some a) m c→a.block∉l):Sl w' k v n cs:=by
 obtain ⟨h1,base,cap,hv,hnc,h2⟩:=h
 refine ⟨h1,base,cap,hv,hnc,fun hp=>?_⟩
 obtain ⟨a,ha,hr⟩:=h2 hp
 exact ⟨a,ha,hr.chg hc (hb a _ _ (by rw [hv,ha]))⟩
theorem Sl.ext {w w':World} {k n:Nat} {v:Value} {cs:List Value} (hc:Ext w w') (h:Sl w k v n cs):Sl w' k v n cs:=h.chg hc (by simp)
theorem Sl.nil (w:World) (k:Nat):Sl w k (.slice none 0 0) 0 []:=⟨by simp,_,_,rfl,Nat.le_refl _,fun h=>by simp at h⟩
theorem Sl.cells {w:World} {k n:Nat} {v:Value} {cs:List Value} (h:Sl w k v n cs):cA w k v=some (n,cs):=by
 obtain ⟨h1,base,cap,rfl,_,h2⟩:=h
 by_cases hp:0<cs.length
 ·obtain ⟨a,rfl,hr⟩:=h2 hp
  have:=hr.rd (n*k) 0 (by omega)
  simp only [cA,this,Option.map_some,List.drop_zero]
  rw [←h1,List.take_length]
 ·have hc:cs= []:=List.length_eq_zero_iff.1 (by omega)
  subst hc
  have h0:n*k=0:=by simpa using h1.symm
  cases base with
  |none=>rfl
  |some a=>simp [cA,h0,rdCells]
theorem Sl.at_ {w:World} {k n:Nat} {v:Value} {cs:List Value} (h:Sl w k v n cs) (hk:0<k) {i:Nat} (hi:i<n):∃a cap,v=.slice (some a) n cap∧Row w (a.add (i*k)) ((cs.drop (i*k)).take k):=by
 obtain ⟨h1,base,cap,rfl,_,h2⟩:=h
 have hik:i*k+k≤n*k:=by have:=Nat.mul_le_mul_right k (show i+1≤n from hi);rw [Nat.add_mul,Nat.one_mul] at this;exact this
 obtain ⟨a,rfl,hr⟩:=h2 (by omega)
 refine ⟨a,cap,rfl,fun j u hj=>?_⟩
 rw [add_add]
 refine hr _ u ?_
 have hjk:j<k:=by
  rcases Nat.lt_or_ge j k with h|h
  ·exact h
  ·rw [List.getElem?_eq_none (by simp;omega)] at hj;cases hj
 rw [List.getElem?_take,if_pos hjk,List.getElem?_drop] at hj
 exact hj
section
variable {d:Option Tmp} {r:KR} {K:Env→World→Prop} {ρ:Env} {w:World}
theorem aA9 (h:K ρ w):aG P .nil K ρ w:=h
theorem lI {a b:KR} (h1:aG P a K ρ w) (h2:aG P b K ρ w):aG P (.both a b) K ρ w:=⟨h1,h2⟩
theorem aQh {a b:KR} (h:aG P a (aG P b K) ρ w):aG P (.join a b) K ρ w:=h
theorem aZ3 {o:KOp} {g:Tmp × Bool} (h:iB ρ (some g)=true) (k:aG P (.cons ⟨d,o,none⟩ r) K ρ w):aG P (.cons ⟨d,o,some g⟩ r) K ρ w:=by
 simp only [aG,h,if_true]
 simpa [aG,iB] using k
theorem aVj {o:KOp} {g:Tmp × Bool} (h:iB ρ (some g)=false) (k:aG P r K (put ρ d undef) w):aG P (.cons ⟨d,o,some g⟩ r) K ρ w:=by
 simp only [aG,h,Bool.false_eq_true,if_false];exact k
theorem wQ {t:Tmp} {v:Value} (h:ρ t=v):upd ρ t v=ρ:=by
 funext u;unfold upd;split
 ·subst_vars;rfl
 ·rfl
theorem jK {o:KOp} {t:Tmp} {b:Bool} {p:Prop} [Decidable p] (h:ρ t=.bool (decide p)) (h1:p→aG P (.cons ⟨d,o,some (t,b)⟩ r) K (upd ρ t (.bool true)) w) (h2:¬p→aG P (.cons ⟨d,o,some (t,b)⟩ r) K (upd ρ t (.bool false)) w):aG P (.cons ⟨d,o,some (t,b)⟩ r) K ρ w:=by
 by_cases hp:p
 ·have:=h1 hp;rwa [wQ (by rw [h];simp [hp])] at this
 ·have:=h2 hp;rwa [wQ (by rw [h];simp [hp])] at this
theorem aIy {o:KOp} {t:Tmp} {b c:Bool} (h:ρ t=.bool c) (h1:c=true→aG P (.cons ⟨d,o,some (t,b)⟩ r) K (upd ρ t (.bool true)) w) (h2:c=false→aG P (.cons ⟨d,o,some (t,b)⟩ r) K (upd ρ t (.bool false)) w):aG P (.cons ⟨d,o,some (t,b)⟩ r) K ρ w:=by
 cases hc:c
 ·have:=h2 hc;rwa [wQ (by rw [h,hc])] at this
 ·have:=h1 hc;rwa [wQ (by rw [h,hc])] at this
theorem dX {o:KOp} (h:o.wp P ρ w fun v w'=>aG P r K (put ρ d v) w'):aG P (.cons ⟨d,o,none⟩ r) K ρ w:=by simpa [aG,iB] using h
theorem jB {o:KOp} {k:Value→World→Prop} {v:Value} (hs:o.isStill=true) (h:o.rd ρ w=some v) (hk:k v w):o.wp P ρ w k:=by
 cases o<;>first|exact ⟨v,h,hk⟩|(simp [KOp.isStill,KOp.isFix] at hs;done)
theorem bAo {f:FuncId} {F:List Value→Option Value} {az:List Operand} {v:Value} (h:F (az.map (ev ρ))=some v) (k:aG P r K (put ρ d v) w):aG P (.cons ⟨d,.pcall f F az,none⟩ r) K ρ w:=dX (jB rfl h k)
theorem cJ {o:KOp} {v:Value} (hs:o.isFix=true) (h:o.fix ρ=some v) (k:aG P r K (put ρ d v) w):aG P (.cons ⟨d,o,none⟩ r) K ρ w:=
 dX (jB (lU hs) (by rw [KOp.rd_fix hs];exact h) k)
theorem aPz {x:Operand} (k:aG P r K (put ρ d (ev ρ x)) w):aG P (.cons ⟨d,.move x,none⟩ r) K ρ w:=cJ rfl rfl k
theorem aYq {x y:Operand} {a b:Int} (hx:ev ρ x=.int .i64 a) (hy:ev ρ y=.int .i64 b) (hr: -9223372036854775808≤a+b∧a+b≤9223372036854775807) (k:aG P r K (put ρ d (.int .i64 (a+b))) w):aG P (.cons ⟨d,.bin .add x y,none⟩ r) K ρ w:=
 cJ rfl (by simp [KOp.fix,hx,hy,bL,dJ,cP,IntWalk.i64_in _ hr]) k
theorem aU9 {x y:Operand} {a b:Int} (hx:ev ρ x=.int .i64 a) (hy:ev ρ y=.int .i64 b) (hr: -9223372036854775808≤a - b∧a - b≤9223372036854775807) (k:aG P r K (put ρ d (.int .i64 (a - b))) w):aG P (.cons ⟨d,.bin .sub x y,none⟩ r) K ρ w:=
 cJ rfl (by simp [KOp.fix,hx,hy,bL,dJ,cP,IntWalk.i64_in _ hr]) k
theorem oO {x y:Operand} {a b:Int} (hx:ev ρ x=.int .i64 a) (hy:ev ρ y=.int .i64 b) (hr: -9223372036854775808≤a*b∧a*b≤9223372036854775807) (k:aG P r K (put ρ d (.int .i64 (a*b))) w):aG P (.cons ⟨d,.bin .mul x y,none⟩ r) K ρ w:=
 cJ rfl (by simp [KOp.fix,hx,hy,bL,dJ,cP,IntWalk.i64_in _ hr]) k
theorem aMz {size:Nat} {x i:Operand} {a:Addr} {ln cap:Nat} {kd:IntKind} {n:Int} (hx:ev ρ x=.slice (some a) ln cap) (hi:ev ρ i=.int kd n) (hr:0≤n∧n<(ln:Int)) (k:aG P r K (put ρ d (.pointer (some (a.add (n.toNat*size))))) w):aG P (.cons ⟨d,.indexAddr size x i,none⟩ r) K ρ w:=
 cJ rfl (by simp [KOp.fix,hx,hi,hr]) k
theorem aV4 {size:Nat} {x i:Operand} {v:Value} {cs:List Value} {ln:Nat} {kd:IntKind} {n:Nat} (hx:ev ρ x=v) (hi:ev ρ i=.int kd (n:Nat)) (hs:Sl w size v ln cs) (hk:0<size) (hr:n<ln) (k:∀ad,Row w ad ((cs.drop (n*size)).take size)→aG P r K (put ρ d (.pointer (some ad))) w):aG P (.cons ⟨d,.indexAddr size x i,none⟩ r) K ρ w:=by
 obtain ⟨a,cap,rfl,hrow⟩:=hs.at_ hk hr
 exact cJ rfl (by simp [KOp.fix,hx,hi,hr]) (k _ hrow)
theorem vH {x:Operand} {ad:Addr} {v:Value} (hx:ev ρ x=.pointer (some ad)) (h:w.cell? ad=some v) (k:aG P r K (put ρ d v) w):aG P (.cons ⟨d,.load x,none⟩ r) K ρ w:=
 dX (jB rfl (by simp [KOp.rd,hx,h]) k)
theorem aFe {n:Nat} {x:Operand} {ad:Addr} {l:List Value} (hx:ev ρ x=.pointer (some ad)) (h:rdCells w ad 0 n=some l) (k:aG P r K (put ρ d (.agg l.toArray)) w):aG P (.cons ⟨d,.loadN n x,none⟩ r) K ρ w:=
 dX (jB rfl (by simp [KOp.rd,hx,h]) k)
theorem aX4 {x:Operand} {ad:Addr} {cs:List Value} {v:Value} (hx:ev ρ x=.pointer (some ad)) (h:Row w ad cs) (hv:cs[0]? =some v) (k:aG P r K (put ρ d v) w):aG P (.cons ⟨d,.load x,none⟩ r) K ρ w:=vH hx (h.c0 hv) k
theorem aU3 {x:Operand} {ad:Addr} {o:Nat} {cs:List Value} {v:Value} (hx:ev ρ x=.pointer (some (ad.add o))) (h:Row w ad cs) (hv:cs[o]? =some v) (k:aG P r K (put ρ d v) w):aG P (.cons ⟨d,.load x,none⟩ r) K ρ w:=vH hx (h.c1 hv) k
theorem aY1 {x:Operand} {ad:Addr} {o p:Nat} {cs:List Value} {v:Value} (hx:ev ρ x=.pointer (some ((ad.add o).add p))) (h:Row w ad cs) (hv:cs[o+p]? =some v) (k:aG P r K (put ρ d v) w):aG P (.cons ⟨d,.load x,none⟩ r) K ρ w:=vH hx (h.c2 hv) k
theorem aYm {x:Operand} {ad:Addr} {o p q:Nat} {cs:List Value} {v:Value} (hx:ev ρ x=.pointer (some (((ad.add o).add p).add q))) (h:Row w ad cs) (hv:cs[o+(p+q)]? =some v) (k:aG P r K (put ρ d v) w):aG P (.cons ⟨d,.load x,none⟩ r) K ρ w:=vH hx (h.c3 hv) k
theorem lT {n:Nat} {x:Operand} {ad:Addr} {cs l:List Value} (hx:ev ρ x=.pointer (some ad)) (h:Row w ad cs) (hn:n≤cs.length) (hl:cs.take n=l) (k:aG P r K (put ρ d (.agg l.toArray)) w):aG P (.cons ⟨d,.loadN n x,none⟩ r) K ρ w:=aFe hx (h.r0 hn hl) k
theorem aYb {n:Nat} {x:Operand} {ad:Addr} {o:Nat} {cs l:List Value} (hx:ev ρ x=.pointer (some (ad.add o))) (h:Row w ad cs) (hn:o+n≤cs.length) (hl:(cs.drop o).take n=l) (k:aG P r K (put ρ d (.agg l.toArray)) w):aG P (.cons ⟨d,.loadN n x,none⟩ r) K ρ w:=aFe hx (h.r1 hn hl) k
theorem aY8 {n:Nat} {x:Operand} {ad:Addr} {o p:Nat} {cs l:List Value} (hx:ev ρ x=.pointer (some ((ad.add o).add p))) (h:Row w ad cs) (hn:o+p+n≤cs.length) (hl:(cs.drop (o+p)).take n=l) (k:aG P r K (put ρ d (.agg l.toArray)) w):aG P (.cons ⟨d,.loadN n x,none⟩ r) K ρ w:=aFe hx (h.r2 hn hl) k
theorem jJ {t:TypeId} {x:Operand} {v:Value} {cs:List Value} (hx:ev ρ x=v) (hc:v.cells=cs.toArray) (k:∀b w',Ext w w'→At w' b (.cells cs.toArray t)→Row w' ⟨b,0,none⟩ cs→w.heap.size≤b→aG P r K (put ρ d (.pointer (some ⟨b,0,none⟩))) w'):aG P (.cons ⟨d,.box t x,none⟩ r) K ρ w:=
 dX (by subst hx;have h:=At.new w (.cells cs.toArray t);rw [←hc] at h;exact k _ _ (Ext.alloc w _) (by rw [←hc];exact h) (Row.of_at (by rw [←hc];exact h)) (Nat.le_refl _))
theorem qB {t:TypeId} {z:List Value} (k:∀b w',Ext w w'→At w' b (.cells z.toArray t)→w.heap.size≤b→aG P r K (put ρ d (.pointer (some ⟨b,0,none⟩))) w'):aG P (.cons ⟨d,.alloc t z,none⟩ r) K ρ w:=
 dX (k _ _ (Ext.alloc w _) (At.new w _) (Nat.le_refl _))
theorem eG {f:FuncId} {args:List Operand} {vs:List Value} {R:Value→World→Prop} (ha:args.map (ev ρ)=vs) (h:Spec P f vs w R) (k:∀v w',R v w'→aG P r K (put ρ d v) w'):aG P (.cons ⟨d,.call f args,none⟩ r) K ρ w:=
 dX (by subst ha;exact h.mono fun e w' ⟨v,hv,hR⟩=>⟨v,hv,k v w' hR⟩)
theorem dH {x:Operand} {args:List Operand} {f:FuncId} {first cap:Array Value} {vs:List Value} {R:Value→World→Prop} (hx:ev ρ x=.func (.func f) first cap) (hb:dB P f=true) (ha:first.toList++args.map (ev ρ)++cap.toList=vs) (h:Spec P f vs w R) (k:∀v w',R v w'→aG P r K (put ρ d v) w'):aG P (.cons ⟨d,.callV x args,none⟩ r) K ρ w:=
 dX ⟨f,first,cap,hx,hb,by
  have:first++(args.map (ev ρ)).toArray++cap=vs.toArray:=by apply Array.ext';simp [←ha]
  rw [this];exact h.mono fun e w' ⟨v,hv,hR⟩=>⟨v,hv,k v w' hR⟩⟩
end
def aH3 (P:Program) (b:KC) (K:Exit→Env→World→Prop):Exit→Env→World→Prop
 |.normal,ρ,w=>aK P b K ρ w
 |e,ρ,w=>K e ρ w
def rI (id:Nat) (K:Exit→Env→World→Prop):Exit→Env→World→Prop
 |.exit id',ρ,w=>if id'=id then K .normal ρ w else K (.exit id') ρ w
 |e,ρ,w=>K e ρ w
def sO (N:Env→World→Prop) (K:Exit→Env→World→Prop):Exit→Env→World→Prop
 |.normal,ρ,w=>N ρ w
 |e,ρ,w=>K e ρ w
section
variable {K:Exit→Env→World→Prop} {ρ:Env} {w:World} {a b:KC} {r:KR} {x:Operand}
theorem gS {K K':Env→World→Prop} (hk:∀ρ w,K ρ w→K' ρ w):∀(r:KR) {ρ w},aG P r K ρ w→aG P r K' ρ w
 |.nil,_,_,h=>hk _ _ h
 |.both a b,_,_,h=>⟨gS hk a h.1,gS hk b h.2⟩
 |.join a b,_,_,h=>gS (fun _ _ hh=>gS hk b hh) a h
 |.cons i r,ρ,w,h=>by
  simp only [aG] at h ⊢
  split
  ·rename_i hw;rw [if_pos hw] at h;exact aVa (fun v w' hv=>gS hk r hv) h
  ·rename_i hw;rw [if_neg hw] at h;exact gS hk r h
theorem eD:∀(c:KC) {K K':Exit→Env→World→Prop},(∀e ρ w,K e ρ w→K' e ρ w)→∀{ρ w},aK P c K ρ w→aK P c K' ρ w
 |.skip,_,_,hk,_,_,h=>hk _ _ _ h
 |.reg false r,_,_,hk,_,_,h=>gS (hk .normal) r h
 |.reg true r,_,_,hk,_,_,h=>gS (hk .normal) r h
 |.anyR l,_,_,hk,_,_,⟨I,h0,hs,he⟩=>⟨I,h0,hs,fun S ρ w ha hI=>hk _ _ _ (he S ρ w ha hI)⟩
 |.seq a b,_,_,hk,_,_,h=>eD a (fun e ρ w he=>by cases e<;>first|exact eD b hk he|exact hk _ _ _ he) h
 |.cond x a b,_,_,hk,_,_,⟨t,ht,h1,h2⟩=>⟨t,ht,fun e=>eD a hk (h1 e),fun e=>eD b hk (h2 e)⟩
 |.block id c,_,_,hk,_,_,h=>eD c (fun e ρ w he=>by
   cases e with
   |exit id'=>
    simp only at he ⊢
    split
    ·rename_i hq;rw [if_pos hq] at he;exact hk _ _ _ he
    ·rename_i hq;rw [if_neg hq] at he;exact hk _ _ _ he
   |_=>exact hk _ _ _ he) h
 |.loop c,_,_,hk,_,_,⟨I,μ,h0,hr⟩=>⟨I,μ,h0,fun ρ w hI=>eD c (fun e ρ w he=>by cases e<;>first|exact he|exact hk _ _ _ he) (hr ρ w hI)⟩
 |.exit id,_,_,hk,_,_,h=>hk _ _ _ h
 |.ret,_,_,hk,_,_,h=>hk _ _ _ h
 |.raw n c,_,_,hk,_,_,h=>fun a hr=>Code.wp_mono (fun e a w ⟨ρ',h1,h2⟩=>⟨ρ',h1,hk _ _ _ h2⟩) (h a hr)
theorem aXu (h:aK P a (aH3 P b K) ρ w):aK P (.seq a b) K ρ w:=eD a (fun e ρ w he=>by cases e<;>exact he) h
theorem aXj {id:Nat} (h:aK P a (rI id K) ρ w):aK P (.block id a) K ρ w:=eD a (fun e ρ w he=>by cases e<;>exact he) h
theorem aYw (I:Env→World→Prop) (μ:Env→World→Nat) (h0:I ρ w) (h:∀ρ w,I ρ w→aK P a (sO (fun ρ' w'=>I ρ' w'∧μ ρ' w'<μ ρ w) K) ρ w):aK P (.loop a) K ρ w:=by
 exact ⟨I,μ,h0,fun ρ w hI=>eD a (fun e ρ w he=>by cases e<;>exact he) (h ρ w hI)⟩
theorem aZr (J:Env→World→Prop) (h:aK P a (sO J K) ρ w) (h2:∀ρ w,J ρ w→aK P b K ρ w):aK P (.seq a b) K ρ w:=
 aXu (eD a (fun e ρ w he=>by cases e<;>first|exact h2 _ _ he|exact he) h)
theorem aYj (h:aK P b K ρ w):aH3 P b K .normal ρ w:=h
theorem aOj (h:K .ret ρ w):aH3 P b K .ret ρ w:=h
theorem aLe {id:Nat} (h:K (.exit id) ρ w):aH3 P b K (.exit id) ρ w:=h
theorem aWg {id:Nat} (h:K .normal ρ w):rI id K .normal ρ w:=h
theorem aL3 {id:Nat} (h:K .ret ρ w):rI id K .ret ρ w:=h
theorem aJf {id:Nat} (h:K .normal ρ w):rI id K (.exit id) ρ w:=by simp only [rI,if_true];exact h
theorem aGl {id id':Nat} (hne:id'≠id) (h:K (.exit id') ρ w):rI id K (.exit id') ρ w:=by simp only [rI,if_neg hne];exact h
theorem aZg {N:Env→World→Prop} (h:N ρ w):sO N K .normal ρ w:=h
theorem aNp {N:Env→World→Prop} (h:K .ret ρ w):sO N K .ret ρ w:=h
theorem aK4 {N:Env→World→Prop} {id:Nat} (h:K (.exit id) ρ w):sO N K (.exit id) ρ w:=h
theorem aB {rs:List RV} {R:Value→World→Prop} {v:Value} (hv:rO ρ w rs=some v) (h:R v w):aU rs R .ret ρ w:=⟨v,hv,h⟩
theorem bAg {rs:List RV} {R:Value→World→Prop} {v:Value} (hv:rO ρ w rs=some v) (h:R v w):aU rs R .normal ρ w:=⟨v,hv,h⟩
theorem aZb (h:K .normal ρ w):aK P .skip K ρ w:=h
theorem bAh (h:K .ret ρ w):aK P .ret K ρ w:=h
theorem aY6 {id:Nat} (h:K (.exit id) ρ w):aK P (.exit id) K ρ w:=h
theorem bAa (h:aG P r (K .normal) ρ w):aK P (.reg false r) K ρ w:=h
theorem aYv (h:∀w',Ext w w'→aG P r (K .normal) ρ w'):aK P (.reg true r) K ρ w:=h _ (Ext.drew w)
theorem aX9 (h:aG P r (aK P b K) ρ w):aK P (.seq (.reg false r) b) K ρ w:=h
theorem aWx (h:∀w',Ext w w'→aG P r (aK P b K) ρ w'):aK P (.seq (.reg true r) b) K ρ w:=h _ (Ext.drew w)
theorem kU {p:Prop} [Decidable p] (hx:ev ρ x=.bool (decide p)) (h1:p→aK P a K ρ w) (h2:¬p→aK P b K ρ w):aK P (.cond x a b) K ρ w:=
 ⟨decide p,hx,fun h=>h1 (by simpa using h),fun h=>h2 (by simpa using h)⟩
theorem lG {t:Bool} (hx:ev ρ x=.bool t) (h1:t=true→aK P a K ρ w) (h2:t=false→aK P b K ρ w):aK P (.cond x a b) K ρ w:=⟨t,hx,h1,h2⟩
theorem aD1 {p:Prop} [Decidable p] (hx:ev ρ x=.bool (!decide p)) (h1:¬p→aK P a K ρ w) (h2:p→aK P b K ρ w):aK P (.cond x a b) K ρ w:=
 ⟨_,hx,fun h=>h1 (by simpa using h),fun h=>h2 (by simpa using h)⟩
theorem aU0 (hx:ev ρ x=.bool true) (h:aK P a K ρ w):aK P (.cond x a b) K ρ w:=⟨true,hx,fun _=>h,fun h=>(by cases h)⟩
theorem xX (hx:ev ρ x=.bool false) (h:aK P b K ρ w):aK P (.cond x a b) K ρ w:=⟨false,hx,fun h=>(by cases h),fun _=>h⟩
end
attribute [irreducible] aH3 rI sO
end
end Go.K
namespace Go.Proofs.YtgloknkcfchnlabGreatDoor
section
open Go Go.K
theorem mixed:Tryz.prog.follows .mixedOrders=true:=by kernel_rfl
@[reducible] def t (n:Nat):Operand:=.tmp n
def aI (f:Func):Code:=f.body.getD .skip
namespace F
abbrev kedgelaw12_BlockParts:Nat:=3
abbrev kedgelaw13_ChainPlays:Nat:=4
abbrev coins_New:Nat:=5
abbrev kedgelaw12_made:Nat:=6
abbrev block_Apply:Nat:=7
abbrev kedgelaw12_wakes:Nat:=8
abbrev kedgeref12_Apply:Nat:=9
abbrev coins_Set_Copy:Nat:=10
abbrev tx_Base:Nat:=11
abbrev errors_Is:Nat:=12
abbrev api_Code:Nat:=13
abbrev coins_Set_All:Nat:=14
abbrev chain_New:Nat:=15
abbrev chain_Chain_Disconnect:Nat:=16
abbrev kedgeref13_Disconnect:Nat:=17
abbrev kedgelaw13_sameTxs:Nat:=18
abbrev kedgelaw13_made:Nat:=19
abbrev kedgeref13_Coins:Nat:=20
abbrev chain_Chain_Connect:Nat:=21
abbrev kedgeref13_Connect:Nat:=22
abbrev api_Place:Nat:=23
abbrev chain_Chain_Height:Nat:=24
abbrev kedgelaw13_same:Nat:=25
abbrev kedgelaw13_wakes:Nat:=26
abbrev kedgeref12_Make:Nat:=27
abbrev kedgeref12_One:Nat:=28
abbrev block_apply:Nat:=29
abbrev block_missing:Nat:=30
abbrev block_swap:Nat:=31
abbrev tx_Grant:Nat:=32
abbrev coins_Set_Total:Nat:=33
abbrev block_Revert:Nat:=34
abbrev coins_Set_Len:Nat:=35
abbrev maps_Clone_map_api_Point_api_Coin_api_Point_api_Coin:Nat:=36
abbrev tx_base:Nat:=37
abbrev errors_As:Nat:=40
abbrev slices_SortFunc_L_coins_Entry_coins_Entry:Nat:=41
abbrev coins_order:Nat:=42
abbrev kedgeref05_Same:Nat:=43
abbrev chain_linked:Nat:=44
abbrev chain_Chain_Coins:Nat:=45
abbrev chain_Chain_Get:Nat:=46
abbrev kedgeref05_Base:Nat:=47
abbrev kedgeref05_Check:Nat:=48
abbrev kedgeref11_Fee:Nat:=49
abbrev kedgeref10_Take:Nat:=50
abbrev kedgeref07_ID:Nat:=51
abbrev kedgeref10_Put:Nat:=52
abbrev block_may:Nat:=53
abbrev coins_Set_Take:Nat:=54
abbrev block_pay:Nat:=55
abbrev coins_Set_Get:Nat:=56
abbrev coins_Set_Put:Nat:=57
abbrev slices_Clone_L_api_Out_api_Out:Nat:=58
abbrev strings_Repeat:Nat:=60
abbrev tx_Less:Nat:=67
abbrev chain_copies:Nat:=68
abbrev ident_ID:Nat:=69
abbrev kedgeref05_long:Nat:=70
abbrev kedgeref05_Total:Nat:=71
abbrev kedgeref10_Find:Nat:=72
abbrev kedgeref08_Open:Nat:=73
abbrev kedgeref08_Ripe:Nat:=74
abbrev kedgeref01_Sum:Nat:=75
abbrev kedgeref06_Bytes:Nat:=76
abbrev kedgeref04_Twice:Nat:=77
abbrev kedgeref01_Good:Nat:=78
abbrev kedgeref10_Total:Nat:=79
abbrev kedgeref05_Less:Nat:=80
abbrev check_Fee:Nat:=81
abbrev tx_Check:Nat:=82
abbrev coins_formed:Nat:=83
abbrev amount_Add:Nat:=84
abbrev strings_Builder_WriteString:Nat:=88
abbrev strings_Builder_String:Nat:=90
abbrev cmp_Or_int:Nat:=103
abbrev strings_Compare:Nat:=104
abbrev cmp_Compare_uint32:Nat:=105
abbrev tx_Copy:Nat:=106
abbrev wire_Bare:Nat:=107
abbrev sha_Twice:Nat:=108
abbrev kedgeref10_same:Nat:=109
abbrev kedgeref08_Get:Nat:=110
abbrev kedgeref08_Signed:Nat:=111
abbrev kedgeref08_Waits:Nat:=112
abbrev kedgeref02_Put:Nat:=113
abbrev kedgeref06_length:Nat:=114
abbrev kedgeref04_Sum:Nat:=115
abbrev check_formed:Nat:=116
abbrev check_spent:Nat:=117
abbrev amount_Sum:Nat:=118
abbrev tx_Total:Nat:=119
abbrev amount_Sub:Nat:=120
abbrev check_told:Nat:=121
abbrev tx_counts:Nat:=122
abbrev tx_long:Nat:=123
abbrev tx_formed:Nat:=124
abbrev tx_twice:Nat:=125
abbrev amount_Good:Nat:=126
abbrev cmp_isNaN_uint32:Nat:=138
abbrev slices_Clone_L_api_In_api_In:Nat:=139
abbrev slices_Clone_L_string_string:Nat:=140
abbrev wire_encode:Nat:=141
abbrev sha_Sum:Nat:=142
abbrev kedgeref02_Get:Nat:=143
abbrev kedgeref03_Put:Nat:=144
abbrev kedgeref04_pad:Nat:=145
abbrev kedgeref04_block:Nat:=146
abbrev lock_Open:Nat:=147
abbrev lock_Ripe:Nat:=148
abbrev tx_within:Nat:=149
abbrev slices_ContainsFunc_L_api_In_api_In:Nat:=150
abbrev tx_counts_1:Nat:=151
abbrev tx_long_1:Nat:=152
abbrev slices_ContainsFunc_L_api_Out_api_Out:Nat:=153
abbrev tx_long_2:Nat:=154
abbrev tx_long_3:Nat:=155
abbrev slices_ContainsFunc_L_string_string:Nat:=156
abbrev amount_within:Nat:=157
abbrev wire_encode_1:Nat:=162
abbrev octet_Put:Nat:=163
abbrev wire_counted:Nat:=164
abbrev wire_sized:Nat:=165
abbrev sha_begin:Nat:=166
abbrev sha_keys:Nat:=167
abbrev sha_padded:Nat:=168
abbrev sha_schedule:Nat:=169
abbrev sha_round:Nat:=170
abbrev sha_high:Nat:=171
abbrev kedgeref04_k:Nat:=172
abbrev kedgeref04_right:Nat:=173
abbrev lock_is:Nat:=174
abbrev lock_chosen:Nat:=175
abbrev lock_waits:Nat:=176
abbrev lock_height:Nat:=177
abbrev lock_Ripe_1:Nat:=178
abbrev slices_IndexFunc_L_api_In_api_In:Nat:=179
abbrev slices_IndexFunc_L_api_Out_api_Out:Nat:=180
abbrev slices_IndexFunc_L_string_string:Nat:=181
abbrev octet_known:Nat:=182
abbrev vint_Put:Nat:=183
abbrev sha_right:Nat:=184
abbrev lock_Get:Nat:=185
abbrev lock_Signed:Nat:=186
abbrev slices_Contains_L_int_int:Nat:=187
abbrev math_bits_RotateLeft32:Nat:=188
abbrev lock_number:Nat:=189
abbrev lock_Put:Nat:=190
abbrev slices_Index_L_int_int:Nat:=191
abbrev octet_Get:Nat:=192
end F
namespace T
abbrev func:Nat:=1
abbrev int:Nat:=3
abbrev bool:Nat:=4
abbrev uint8:Nat:=5
abbrev string:Nat:=9
abbrev interface:Nat:=20
abbrev P_coins_Set:Nat:=23
abbrev L_api_Tx:Nat:=25
abbrev block_Undo:Nat:=29
abbrev api_Tx:Nat:=42
abbrev api_Errno:Nat:=45
abbrev api_Out:Nat:=51
abbrev coins_Entry:Nat:=55
abbrev kedgeref13_Chain:Nat:=62
abbrev coins_Set:Nat:=80
abbrev kedgeref12_Small:Nat:=84
abbrev P_api_Fault:Nat:=89
abbrev api_Fault:Nat:=91
abbrev api_In:Nat:=99
abbrev P_api_Errno:Nat:=106
abbrev chain_Chain:Nat:=111
abbrev chain_link:Nat:=114
abbrev kedgeref10_Entry:Nat:=118
abbrev strings_Builder:Nat:=187
abbrev api_Branch:Nat:=215
abbrev n_8_uint32:Nat:=243
abbrev n_64_uint32:Nat:=261
end T
@[reducible] def oM (d:Nat) (a:Nat) (k:KR):KR:=.cons ⟨some d,.move (t a),none⟩ k
@[reducible] def oF (d:Nat) (i a:Nat) (k:KR):KR:=.cons ⟨some d,.fieldAddr i (t a),none⟩ k
@[reducible] def oT (d:Nat) (a:Nat) (k:KR):KR:=.cons ⟨some d,.not (t a),none⟩ k
@[reducible] def oB (d:Nat) (o:BinOp) (a b:Nat) (k:KR):KR:=.cons ⟨some d,.bin o (t a) (t b),none⟩ k
@[reducible] def oC (d:Nat) (o:BinOp) (a:Nat) (c:Int) (k:KR):KR:=.cons ⟨some d,.bin o (t a) (.const (.int .i64 c)),none⟩ k
@[reducible] def oV (d:Nat) (c:IntKind) (a:Nat) (k:KR):KR:=.cons ⟨some d,.conv c (t a),none⟩ k
@[reducible] def oR (d:Nat) (o:KOp) (k:KR):KR:=.cons ⟨some d,o,none⟩ k
@[reducible] def oG (d:Nat) (n:Nat) (b:Bool) (o:KOp) (k:KR):KR:=.cons ⟨some d,o,some (n,b)⟩ k
@[reducible] def oi (c:Int):Operand:=.const (.int .i64 c)
@[reducible] def ob (f a b:Nat):KOp:=.call f [t a,t b]
@[reducible] def q0:Quiet Tryz.prog:=⟨fun _=>none,fun _ _ _ _ _ h=>(by cases h)⟩
end
end Go.Proofs.YtgloknkcfchnlabGreatDoor
