/- The engine, part 3: every resolved operation is sound. -/
import Derived.Test.YtfebcajheojodaaGreatDoorZ2
set_option linter.unusedVariables false
set_option linter.unusedSimpArgs false
namespace Go.K
section
open Go
variable {P:Program} {ρ:Env} {w:World}
theorem fQ {o:Oper} {s:Sem Value} {v:Value} (h:execOp (ev ρ) o=(do pure (Next.value (←s)))) (hs:s.run P w=.ok v w):(execOp (ev ρ) o).run P w=.ok (.value v) w:=by
 rw [h];simp [hs]
theorem lK (a:Addr):(Instr.sureAddr (.pointer (some a))).run P w=.ok a w:=rfl
theorem aZb (f:Operand→Value) (a:Array Operand):a.map f=(a.toList.map f).toArray:=by apply Array.ext';simp
theorem aDf {x:Value} {k:IntKind} {n:Int} {y:Nat} {c:BoundsCode} (hx:x=.int k n) (h:0≤n∧n≤(y:Int)):(Instr.sliceBound x y c).run P w=.ok n.toNat w:=by
 subst hx
 simp [Instr.sliceBound,asIntOf,h]
theorem aN8 {lo hi:Option Operand} (isSl:Bool) (ln cap:Nat) (h l:Nat)
  (e1:(match hi with|none=>some ln|some h=>match ev ρ h with|.int _ n=>if 0≤n∧n≤(cap:Int) then some n.toNat else none|_=>none)=some h)
  (e2:(match lo with|none=>some 0|some l=>match ev ρ l with|.int _ n=>if 0≤n∧n≤(h:Int) then some n.toNat else none|_=>none)=some l):
  (Instr.sliceBounds isSl ln cap (lo.map (ev ρ)) (hi.map (ev ρ)) none).run P w=.ok (l,h,cap) w:=by
 have r1:∀c,((match hi.map (ev ρ) with|some v=>Instr.sliceBound v cap c|none=>pure ln:Sem Nat)).run P w=.ok h w:=by
  intro c
  cases hi with
  |none=>simp only [Option.some.injEq] at e1;subst e1;rfl
  |some hh=>
   simp only at e1
   split at e1
   ·rename_i k n hn
    split at e1
    ·rename_i hc
     simp only [Option.some.injEq] at e1;subst e1
     exact aDf hn hc
    ·cases e1
   ·cases e1
 have r2:∀c,((match lo.map (ev ρ) with|some v=>Instr.sliceBound v h c|none=>pure 0:Sem Nat)).run P w=.ok l w:=by
  intro c
  cases lo with
  |none=>simp only [Option.some.injEq] at e2;subst e2;rfl
  |some hh=>
   simp only at e2
   split at e2
   ·rename_i k n hn
    split at e2
    ·rename_i hc
     simp only [Option.some.injEq] at e2;subst e2
     exact aDf hn hc
    ·cases e2
   ·cases e2
 have r1':=r1 (if isSl=true then .sliceAcap else .sliceAlen)
 have r2':=r2 .sliceB
 unfold Instr.sliceBounds
 cases hi<;>cases lo<;>simp_all
theorem aTy:∀(xs:List Value) (k off:Nat) (cs:Array Value),off+k+xs.length≤cs.size→
  ((xs.zipIdx k).foldl (fun (cs:Array Value) (cj:Value × Nat)=>cs.setIfInBounds (off+cj.2) cj.1) cs).toList=cs.toList.take (off+k)++xs++cs.toList.drop (off+k+xs.length)
 | [],k,off,cs,h=>by simp
 |x::xs,k,off,cs,h=>by
  simp only [List.length_cons] at h
  simp only [List.zipIdx_cons,List.foldl_cons]
  rw [aTy xs (k+1) off _ (by simp;omega)]
  have hlt:off+k<cs.toList.length:=by simp;omega
  rw [Array.toList_setIfInBounds]
  rw [List.drop_set_of_lt (by omega)]
  rw [show off+(k+1)=(off+k)+1 from by omega,List.take_succ_eq_append_getElem (by simpa using hlt)]
  simp [List.take_set_of_le (Nat.le_refl _)]
  congr 1;omega
theorem aCn {pl:List (Nat × Nat)}:
  ∀(l:List (Nat × Operand)) (ps:List (Nat × Nat × Operand)) (cs:Array Value) (out:List Value),qA pl l=some ps→(∀p∈ps,p.1+p.2.1≤cs.size)→rU (ev ρ) cs.toList ps=some out→
  Instr.fill (pl.toArray[·]?) cs (l.map fun p=>(p.1,ev ρ p.2))=some out.toArray
 | [],ps,cs,out,hp,_,hf=>by
  simp only [qA,Option.some.injEq] at hp;subst hp
  simp only [rU,Option.some.injEq] at hf;subst hf
  simp [Instr.fill]
 |(i,x)::l,ps,cs,out,hp,hb,hf=>by
  simp only [qA,Option.bind_eq_some_iff,Option.map_eq_some_iff] at hp
  obtain ⟨⟨off,n⟩,hf1,ps',hps,rfl⟩:=hp
  simp only [rU] at hf
  split at hf
  ·rename_i hsz
   have hbd:=hb (off,n,x) (by simp)
   simp only at hbd
   have hpl:pl.toArray[i]? =some (off,n):=by simpa using hf1
   simp only [List.map_cons,Instr.fill,hpl]
   rw [if_neg (by simp [hsz];omega)]
   have hset:=aTy (ev ρ x).cells.toList 0 off cs (by simp [hsz];omega)
   simp only [Nat.add_zero] at hset
   have hlen:((ev ρ x).cells.toList).length=n:=by simpa using hsz
   rw [hlen] at hset
   rw [←Array.foldl_toList,Array.toList_zipIdx]
   refine aCn l ps' _ out hps ?_ ?_
   ·intro p hpm
    have:=hb p (by simp [hpm])
    rw [←Array.length_toList,hset]
    simp [hlen];omega
   ·rw [hset];exact hf
  ·cases hf
theorem aNp:∀(fs:List Field) (pl:List (Nat × Nat)),places P fs=some pl→(fs.mapM (m:=Sem) fun f=>do pure (f.offset,←sizeOf f.type)).run P w=.ok pl w
 | [],pl,h=>by simp only [places,Option.some.injEq] at h;subst h;rfl
 |f::fs,pl,h=>by
  simp only [places,Option.bind_eq_some_iff,Option.map_eq_some_iff] at h
  obtain ⟨inf,hinf,r,hr,rfl⟩:=h
  rw [List.mapM_cons]
  simp only [Sem.run_bind,cI hinf,Result.andThen_ok,Sem.run_pure,aNp fs r hr]
theorem bGf {t:TypeId} {inf:TypeInfo} {z:Value} {parts:Array (Nat × Operand)} {ps:List (Nat × Nat × Operand)} {cs:List Value} (hinf:P.info? t=some inf) (hz:inf.zero=some z) (hps:((placesOf P t).bind fun pl=>qA pl parts.toList)=some ps)
  (hb:∀p∈ps,p.1+p.2.1≤z.cells.size) (hcs:rU (ev ρ) z.cells.toList ps=some cs):(Instr.build t (parts.map fun p=>(p.1,ev ρ p.2))).run P w=.ok (.agg cs.toArray) w:=by
 obtain ⟨pl,hpl,hps⟩:=Option.bind_eq_some_iff.1 hps
 unfold placesOf at hpl
 split at hpl
 ·rename_i fs hu
  have hzv:(zeroValue t).run P w=.ok z w:=by simp [zeroValue,bR hinf,hz]
  have hm:=aNp (w:=w) fs.toList pl hpl
  have hfill:=aCn (ρ:=ρ) parts.toList ps z.cells cs hps hb hcs
  simp only [Instr.build,Sem.run_bind,hzv,Result.andThen_ok,aD hu,Array.mapM_eq_mapM_toList,Sem.run_map,hm]
  have:(parts.map fun p=>(p.1,ev ρ p.2)).toList=parts.toList.map fun p=>(p.1,ev ρ p.2):=by simp
  rw [this,hfill]
  rfl
 ·cases hpl
theorem aLl {mx:Bool}:∀(ys:List Operand),ys.foldl (fun acc y=>acc.bind fun a=>aAo mx a (ev ρ y)) none=none
 | []=>rfl
 |y::ys=>by simp only [List.foldl_cons,Option.bind_none];exact aLl ys
theorem aF9 (mx:Bool):∀(ys:List Operand) (a v:Value),ys.foldl (fun acc y=>acc.bind fun a=>aAo mx a (ev ρ y)) (some a)=some v→
  ((ys.map (ev ρ)).foldlM (m:=Sem) (if mx then Builtin.max2 else Builtin.min2) a).run P w=.ok v w
 | [],a,v,h=>by simp at h;subst h;rfl
 |y::ys,a,v,h=>by
  simp only [List.foldl_cons,Option.bind_some] at h
  cases h2:aAo mx a (ev ρ y) with
  |none=>rw [h2,aLl] at h;cases h
  |some b=>
   rw [h2] at h
   have ih:=aF9 mx ys b v h
   have h3:((if mx then Builtin.max2 else Builtin.min2) a (ev ρ y)).run P w=.ok b w:=by
    unfold aAo at h2
    split at h2
    ·rename_i k p k' q hq
     simp only [Option.some.injEq] at h2;subst h2
     rw [hq]
     cases mx<;>rfl
    ·cases h2
   simp only [List.map_cons,List.foldlM_cons,Sem.run_bind,h3,Result.andThen_ok,ih]
theorem bHm {op:BinOp} {t:TypeId} {q:EqK} {x y:Value} {b:Bool} (hop:op=.eql∨op=.neq) (h:aI8 q x y=some b) (he:(Op.equal t x y).run P w=.ok b w):
  (binOp op t x y).run P w=.ok (.bool (if decide (op=.neq)=true then !b else b)) w:=by
 rcases hop with rfl|rfl<;>unfold aI8 at h<;>split at h<;>first|(cases h;done)|(simp [binOp,he])
theorem aN2 {place:Nat→Option (Nat × Nat)} {off sz:Nat→Nat}:∀(l:List (Nat × Operand)) (cs:Array Value) (out:List Value),(∀p∈l,place p.1=some (off p.1,sz p.1)∧off p.1+sz p.1≤cs.size)→rU (ev ρ) cs.toList (l.map fun p=>(off p.1,sz p.1,p.2))=some out→
  Instr.fill place cs (l.map fun p=>(p.1,ev ρ p.2))=some out.toArray
 | [],cs,out,_,hf=>by
  simp only [List.map_nil,rU,Option.some.injEq] at hf;subst hf
  simp [Instr.fill]
 |(i,x)::l,cs,out,hp,hf=>by
  obtain ⟨hpl,hbd⟩:=hp (i,x) (by simp)
  simp only [List.map_cons,rU] at hf
  split at hf
  ·rename_i hsz
   simp only at hpl hbd
   simp only [List.map_cons,Instr.fill,hpl]
   rw [if_neg (by simp [hsz];omega)]
   have hset:=aTy (ev ρ x).cells.toList 0 (off i) cs (by simp [hsz];omega)
   simp only [Nat.add_zero] at hset
   have hlen:((ev ρ x).cells.toList).length=sz i:=by simpa using hsz
   rw [hlen] at hset
   rw [←Array.foldl_toList,Array.toList_zipIdx]
   refine aN2 (off:=off) (sz:=sz) l _ out ?_ ?_
   ·intro p hpm
    refine ⟨(hp p (by simp [hpm])).1,?_⟩
    have:=(hp p (by simp [hpm])).2
    rw [←Array.length_toList,hset]
    simp [hlen];omega
   ·rw [hset];exact hf
  ·cases hf
theorem bAa {t:TypeId} {sz:Nat} (h:bC8 P t=some sz):∃n e inf,P.underlying t=some (.array n e)∧P.info? e=some inf∧inf.size=sz:=by
 unfold bC8 at h
 split at h
 ·rename_i n e hu
  obtain ⟨inf,hi,rfl⟩:=Option.map_eq_some_iff.1 h
  exact ⟨n,e,inf,hu,hi,rfl⟩
 ·cases h
theorem aUt {t:TypeId} {inf:TypeInfo} {z:Value} {parts:Array (Nat × Operand)} {sz:Nat} {cs:List Value} (hinf:P.info? t=some inf) (hz:inf.zero=some z) (ha:bC8 P t=some sz)
  (hb:∀p∈parts.toList,p.1*sz+sz≤z.cells.size) (hcs:rU (ev ρ) z.cells.toList (parts.toList.map fun p=>(p.1*sz,sz,p.2))=some cs):(Instr.build t (parts.map fun p=>(p.1,ev ρ p.2))).run P w=.ok (.agg cs.toArray) w:=by
 obtain ⟨n,e,einf,hu,he,rfl⟩:=bAa ha
 have hzv:(zeroValue t).run P w=.ok z w:=by simp [zeroValue,bR hinf,hz]
 have hfill:=aN2 (ρ:=ρ) (place:=fun i=>some (i*einf.size,einf.size)) (off:=fun i=>i*einf.size) (sz:=fun _=>einf.size) parts.toList z.cells cs (fun p hp=>⟨rfl,hb p hp⟩) hcs
 have e3:(parts.map fun p=>(p.1,ev ρ p.2)).toList=parts.toList.map fun p=>(p.1,ev ρ p.2):=by simp
 simp only [Instr.build,Sem.run_bind,hzv,Result.andThen_ok,aD hu,cI he]
 rw [e3,hfill]
 rfl
theorem info_lt {t:TypeId} (h:t<P.types.size):∃i,P.info? t=some i:=by
 refine ⟨P.types[t],?_⟩
 show (if t<P.types.size then P.types[t]? else _)=_
 rw [if_pos h,Array.getElem?_eq_getElem h]
theorem aY5 {a xt:TypeId} {want:Array (String × TypeId)} {ok:Bool} {x v z:Value} (hu:P.underlying a=some (.interface want)) (hz:(zeroValue a).run P w=.ok z w) (h:aJy true (aD6 P a) P.types.size z ok x=some v):(Instr.typeAssert x xt a ok).run P w=.ok v w:=by
 have himp:∀t,(aD6 P a).contains t=true↔t<P.types.size∧∃i,P.info? t=some i∧Instr.missingMethod want i.methods=none:=by
  intro t
  unfold aD6
  rw [hu]
  simp only [List.contains_iff_mem,List.mem_filter,List.mem_range]
  constructor
  ·rintro ⟨h1,h2⟩
   refine ⟨h1,?_⟩
   split at h2
   ·rename_i i hi;exact ⟨i,hi,aJi.2 (by simpa using h2)⟩
   ·cases h2
  ·rintro ⟨h1,i,hi,h2⟩
   exact ⟨h1,by rw [hi];simp [aJi.1 h2]⟩
 unfold aJy at h
 split at h
 ·split at h
  ·rename_i hok
   simp only [Option.some.injEq] at h;subst h
   simp [Instr.typeAssert,aD hu,hok,hz]
  ·cases h
 ·rename_i t u
  split at h
  ·rename_i hm
   simp only [if_true,Option.some.injEq] at h;subst h
   obtain ⟨_,i,hi,hn⟩:=(himp t).1 hm
   cases ok<;>simp [Instr.typeAssert,aD hu,bR hi,hn]
  ·rename_i hm
   split at h
   ·rename_i hc
    obtain ⟨hok,hlt⟩:=hc
    have hlt:=hlt rfl
    simp only [Option.some.injEq] at h;subst h
    obtain ⟨i,hi⟩:=info_lt hlt
    cases hn:Instr.missingMethod want i.methods with
    |none=>exact absurd ((himp t).2 ⟨hlt,i,hi,hn⟩) hm
    |some m=>simp [Instr.typeAssert,aD hu,bR hi,hn,hok,hz]
   ·cases h
 ·cases h
theorem aYl {a xt:TypeId} {d:TypeDesc} {ok:Bool} {x v z:Value} (hu:P.underlying a=some d) (hd:∀want,d≠.interface want) (hz:(zeroValue a).run P w=.ok z w) (h:aJy false [a] 0 z ok x=some v):(Instr.typeAssert x xt a ok).run P w=.ok v w:=by
 unfold aJy at h
 split at h
 ·split at h
  ·rename_i hok
   simp only [Option.some.injEq] at h;subst h
   cases d<;>first|exact absurd rfl (hd _)|simp [Instr.typeAssert,aD hu,hok,hz]
  ·cases h
 ·rename_i t u
  split at h
  ·rename_i hm
   simp only [Bool.false_eq_true,if_false,Option.some.injEq] at h;subst h
   have e:t=a:=by simpa using hm
   subst e
   cases ok<;>cases d<;>first|exact absurd rfl (hd _)|simp [Instr.typeAssert,aD hu]
  ·rename_i hm
   have e:t≠a:=by simpa using hm
   split at h
   ·rename_i hc
    obtain ⟨hok, -⟩:=hc
    simp only [Option.some.injEq] at h;subst h
    cases d<;>first|exact absurd rfl (hd _)|simp [Instr.typeAssert,aD hu,hok,hz,e]
   ·cases h
 ·cases h
theorem aTz {t:TypeId} {v:Value} {name:String} (h:aWb P t v name=true):(nilAhead (P.types.size+Made.depth) t v name).run P w=.ok (some false) w:=by
 obtain ⟨⟨f,rv⟩,h⟩:=Option.isSome_iff_exists.1 h
 unfold uA at h
 split at h
 ·rename_i i d hi hu
  split at h
  ·rename_i m hm
   have e:P.types.size+Made.depth=(P.types.size+99)+1:=rfl
   rw [e]
   generalize P.types.size+99=fuel
   obtain ⟨mn,ms,path,func⟩:=m
   obtain ⟨path⟩:=path
   cases path with
   |cons a b=>simp at h
   |nil=>
    rcases func with _|⟨g,_|_⟩
    ·simp at h
    ·cases d<;>simp only [Option.some.injEq,Prod.mk.injEq,reduceCtorEq] at h<;>obtain ⟨rfl,rfl⟩:=h<;>
      simp [nilAhead,followBlind,bR hi,hm,aD hu]
    ·cases d<;>simp only [Option.some.injEq,Prod.mk.injEq,reduceCtorEq] at h<;>obtain ⟨rfl,rfl⟩:=h<;>
      simp [nilAhead,followBlind,bR hi,hm,aD hu]
  ·cases h
 ·cases h
theorem bFq {n:Nat} {t:TypeId} {k kd:IntKind} {p q:Int} (hk:P.underlying t=some (.int k)):(Op.equalIn (n+1) t (.int kd p) (.int kd q)).run P w=.ok (decide (p=q)) w:=by
 simp [Op.equalIn,aD hk,aVo]
theorem bBe {n:Nat} {t tx ty:TypeId} {ms:Array (String × TypeId)} {a b:Value} (hd:P.underlying t=some (.interface ms)) (h:tx≠ty):(Op.equalIn (n+1) t (.iface tx a) (.iface ty b)).run P w=.ok false w:=by
 simp [Op.equalIn,aD hd,h]
theorem bAk {n:Nat} {t tx:TypeId} {ms:Array (String × TypeId)} {i:TypeInfo} {a b:Value} (hd:P.underlying t=some (.interface ms)) (hi:P.info? tx=some i) (hc:i.comparable=true):
  (Op.equalIn (n+1) t (.iface tx a) (.iface tx b)).run P w=(Op.equalIn n tx a b).run P w:=by
 simp [Op.equalIn,aD hd,bR hi,hc]
theorem aQq {n:Nat} {t tx:TypeId} {ms:Array (String × TypeId)} {a:Value} (hd:P.underlying t=some (.interface ms)):(Op.equalIn (n+1) t .nilIface (.iface tx a)).run P w=.ok false w∧(Op.equalIn (n+1) t (.iface tx a) .nilIface).run P w=.ok false w:=by
 constructor<;>simp [Op.equalIn,aD hd]
theorem aUg {t:TypeId} {ms:Array (String × TypeId)} (hd:P.underlying t=some (.interface ms)) {x y:Value} {r:Bool} (h:vT (aI2 P) x y=some r) (n:Nat):(Op.equalIn (n+1+1) t x y).run P w=.ok r w:=by
 unfold vT at h
 split at h
 ·simp only [Option.some.injEq] at h;subst h
  exact (aQq hd).1
 ·simp only [Option.some.injEq] at h;subst h
  exact (aQq hd).2
 ·rename_i tx a ty b
  split at h
  ·rename_i he
   subst he
   split at h
   ·rename_i hm
    unfold aI2 at hm
    simp only [List.contains_iff_mem,List.mem_filter,List.mem_range] at hm
    obtain ⟨h1,h2⟩:=hm
    split at h2
    ·rename_i i k hi hk
     rw [bAk hd hi h2]
     unfold lG at h
     split at h<;>try (rename_i e;cases e;done)
     ·split at h
      ·rename_i hkk
       subst hkk
       simp only [Option.some.injEq] at h;subst h
       exact bFq hk
      ·cases h
     ·cases h
    ·cases h2
   ·cases h
  ·rename_i he
   simp only [Option.some.injEq] at h;subst h
   exact bBe hd he
 ·cases h
theorem aXg {t:TypeId} {ms:Array (String × TypeId)} (hd:P.underlying t=some (.interface ms)) {x y:Value} {r:Bool} (h:vT (aI2 P) x y=some r):(Op.equal t x y).run P w=.ok r w:=
 aUg hd h 9998
theorem bAp {op:BinOp} {t:TypeId} {ts:List TypeId} {x y:Value} {b:Bool} (hop:op=.eql∨op=.neq) (h:vT ts x y=some b) (he:(Op.equal t x y).run P w=.ok b w):
  (binOp op t x y).run P w=.ok (.bool (if decide (op=.neq)=true then !b else b)) w:=by
 rcases hop with rfl|rfl<;>unfold vT at h<;>split at h<;>first|(cases h;done)|(simp [binOp,he])
theorem aB7 [Quiet P] (o:Oper) (v:Value) (hst:(aH P o).isStill=true) (hnp:(aH P o).isPc=false) (hv:(aH P o).rd ρ w=some v):(execOp (ev ρ) o).run P w=.ok (.value v) w:=by
 obtain ⟨dst,op,ty,pos,after,guard⟩:=o
 cases op
 case move x=>simp only [aH,KOp.rd,KOp.fix,Option.some.injEq] at hv;subst hv;rfl
 case assign x=>simp only [aH,KOp.rd,KOp.fix,Option.some.injEq] at hv;subst hv;rfl
 case pick c a b=>
  simp only [aH,KOp.rd,KOp.fix] at hv
  split at hv
  ·rename_i t ht
   simp only [Option.some.injEq] at hv;subst hv
   simp [execOp,ht,asBool]
  ·cases hv
 case typeAssert x xt a ok=>
  simp only [aH] at hst hv
  cases hu:P.underlying a with
  |none=>rw [hu] at hst;simp [KOp.isStill,KOp.isFix] at hst
  |some d=>
   cases hz:zeroOf P a with
   |none=>rw [hu,hz] at hst;cases d<;>simp [KOp.isStill,KOp.isFix] at hst
   |some z=>
    have hzr:(zeroValue a).run P w=.ok z w:=by
     unfold zeroOf at hz
     obtain ⟨inf,h1,h2⟩:=Option.bind_eq_some_iff.1 hz
     simp [zeroValue,bR h1,h2]
    refine fQ (s:=Instr.typeAssert (ev ρ x) xt a ok) rfl ?_
    rw [hu,hz] at hv
    by_cases hd:∃want,d=.interface want
    ·obtain ⟨want,rfl⟩:=hd
     exact aY5 hu hzr hv
    ·refine aYl hu (fun want e=>hd ⟨want,e⟩) hzr ?_
     cases d<;>first|exact absurd ⟨_,rfl⟩ hd|exact hv
 case load t x=>
  simp only [aH] at hst hv
  split at hst
  ·rename_i n hn
   simp only [hn,KOp.rd] at hv
   split at hv
   ·rename_i a ha
    obtain ⟨l,hl,rfl⟩:=Option.map_eq_some_iff.1 hv
    refine fQ (s:=Instr.loadAt t (ev ρ x)) rfl ?_
    obtain ⟨h1,h2⟩:=sA hn w
    rw [ha]
    simp [Instr.loadAt,lK,loadVar,h1,h2,loadCells,run_loadCellsFrom n 0 #[] l hl]
   ·cases hv
  ·rename_i hn
   simp only [hn,KOp.rd] at hv
   split at hv
   ·rename_i a ha
    refine fQ (s:=Instr.loadAt t (ev ρ x)) rfl ?_
    rw [ha]
    simp [Instr.loadAt,lK,loadVar,rZ hn w,load,Sem.run,hv]
   ·cases hv
  ·simp [KOp.isStill,KOp.isFix] at hst
 case fieldAddr t x i=>
  simp only [aH] at hst hv
  split at hst
  ·rename_i f hf
   split at hst
   ·rename_i inf hinf
    split at hst
    ·simp [KOp.isStill,KOp.isFix] at hst
    ·rename_i hz
     simp only [hf,hinf,if_neg hz,KOp.rd,KOp.fix] at hv
     split at hv
     ·rename_i a ha
      simp only [Option.some.injEq] at hv;subst hv
      obtain ⟨fs,hu,hfs⟩:=aH5 hf
      refine fQ (s:=Instr.fieldAt t (ev ρ x) i) rfl ?_
      rw [ha]
      simp [Instr.fieldAt,aD hu,hfs,lK,fieldPlace,cI hinf,hz]
     ·cases hv
   ·simp [KOp.isStill,KOp.isFix] at hst
  ·simp [KOp.isStill,KOp.isFix] at hst
 case indexAddr t x i=>
  simp only [aH] at hst hv
  split at hst
  ·rename_i e he
   split at hst
   ·rename_i inf hinf
    simp only [he,hinf,KOp.rd,KOp.fix] at hv
    split at hv
    ·rename_i a ln c k n hx hi
     split at hv
     ·rename_i hc
      simp only [Option.some.injEq] at hv;subst hv
      refine fQ (s:=Instr.indexAt t (ev ρ x) (ev ρ i)) rfl ?_
      rw [hx,hi]
      simp [Instr.indexAt,asIntOf,aD he,cI hinf,hc]
     ·cases hv
    ·cases hv
   ·simp [KOp.isStill,KOp.isFix] at hst
  ·rename_i n e he
   split at hst
   ·rename_i inf hinf
    simp only [he,hinf,KOp.rd,KOp.fix] at hv
    split at hv
    ·rename_i a k m hx hi
     split at hv
     ·rename_i hc
      simp only [Option.some.injEq] at hv;subst hv
      refine fQ (s:=Instr.indexAt t (ev ρ x) (ev ρ i)) rfl ?_
      rw [hx,hi]
      simp [Instr.indexAt,asIntOf,aD he,cI hinf,lK,hc]
     ·cases hv
    ·cases hv
   ·simp [KOp.isStill,KOp.isFix] at hst
  ·simp [KOp.isStill,KOp.isFix] at hst
 case field t x i=>
  simp only [aH] at hst hv
  split at hst
  ·rename_i f hf
   obtain ⟨fs,hu,hfs⟩:=aH5 hf
   split at hst
   ·rename_i n hn
    simp only [hf,hn,KOp.rd,KOp.fix] at hv
    split at hv
    ·rename_i cs hx
     simp only [Option.some.injEq] at hv;subst hv
     refine fQ (s:=Instr.field t (ev ρ x) i) rfl ?_
     rw [hx]
     obtain ⟨h1,h2⟩:=sA hn w
     simp [Instr.field,aD hu,hfs,asAgg,part,h1,h2]
    ·cases hv
   ·rename_i hn
    simp only [hf,hn,KOp.rd,KOp.fix] at hv
    split at hv
    ·rename_i cs hx
     refine fQ (s:=Instr.field t (ev ρ x) i) rfl ?_
     rw [hx]
     simp [Instr.field,aD hu,hfs,asAgg,part,rZ hn w,hv]
    ·cases hv
   ·simp [KOp.isStill,KOp.isFix] at hst
  ·simp [KOp.isStill,KOp.isFix] at hst
 case extract x i=>
  simp only [aH,KOp.rd,KOp.fix] at hv
  split at hv
  ·rename_i vs hx
   refine fQ (s:=Instr.extract (ev ρ x) i) rfl ?_
   rw [hx]
   simp [Instr.extract,hv]
  ·cases hv
 case index t x i=>
  simp only [aH] at hst hv
  split at hst
  ·rename_i hu
   simp only [hu,KOp.rd,KOp.fix] at hv
   split at hv
   ·rename_i s k n hx hi
    split at hv
    ·rename_i hn
     obtain ⟨b,hb,rfl⟩:=Option.map_eq_some_iff.1 hv
     refine fQ (s:=Instr.index t (ev ρ x) (ev ρ i)) rfl ?_
     rw [hx,hi]
     simp [Instr.index,asIntOf,aD hu,hn,hb]
    ·cases hv
   ·cases hv
  ·rename_i n e he
   split at hst
   ·rename_i inf hagg hinf
    split at hst
    ·rename_i h1
     simp only [he,hagg,hinf,if_pos h1,KOp.rd,KOp.fix] at hv
     split at hv
     ·rename_i cs k m hx hi
      split at hv
      ·rename_i hc
       refine fQ (s:=Instr.index t (ev ρ x) (ev ρ i)) rfl ?_
       rw [hx,hi]
       simp [Instr.index,asIntOf,aD he,hc,cI hinf,h1,part,rZ hagg w,hv]
      ·cases hv
     ·cases hv
    ·simp [KOp.isStill,KOp.isFix] at hst
   ·simp [KOp.isStill,KOp.isFix] at hst
  ·simp [KOp.isStill,KOp.isFix] at hst
 case unOp op t x=>
  cases op
  case not=>
   simp only [aH,KOp.rd,KOp.fix] at hv
   split at hv
   ·rename_i b hx
    simp only [Option.some.injEq] at hv;subst hv
    refine fQ (s:=Op.unary .not (ev ρ x)) rfl ?_
    rw [hx];rfl
   ·cases hv
  case neg=>
   simp only [aH,KOp.rd,KOp.fix] at hv
   split at hv
   ·rename_i k n hx
    simp only [Bool.false_eq_true,if_false,dL,Option.some.injEq] at hv;subst hv
    refine fQ (s:=Op.unary .neg (ev ρ x)) rfl ?_
    rw [hx];rfl
   ·cases hv
  case plus=>simp [aH,KOp.isStill,KOp.isFix] at hst
  case xor=>
   simp only [aH,KOp.rd,KOp.fix] at hv
   split at hv
   ·rename_i k n hx
    simp only [if_true,dL,Option.some.injEq] at hv;subst hv
    refine fQ (s:=Op.unary .xor (ev ρ x)) rfl ?_
    rw [hx];rfl
   ·cases hv
 case nilCheck x=>
  have plain:(KOp.nilCheck x).rd ρ w=some v→(execOp (ev ρ) ⟨dst,.nilCheck x,ty,pos,after,guard⟩).run P w=.ok (.value v) w:=by
   intro hv
   simp only [KOp.rd,KOp.fix] at hv
   split at hv
   ·rename_i a hx
    simp only [Option.some.injEq] at hv;subst hv
    simp [execOp,hx]
   ·cases hv
  simp only [aH] at hv
  split at hv
  ·exact plain hv
  split at hv
  ·simp only [KOp.rd,KOp.fix] at hv
   split at hv
   ·rename_i name first captured hx
    split at hv
    ·rename_i t u hf
     split at hv
     ·rename_i hm
      simp only [Option.some.injEq] at hv;subst hv
      simp [execOp,hx,hf,aTz hm]
     ·cases hv
    ·cases hv
   ·cases hv
  ·exact plain hv
 case makeFunc fn f c=>
  simp only [aH,KOp.rd,KOp.fix,Option.some.injEq] at hv;subst hv
  refine fQ (s:=Instr.makeFunc fn (f.map (ev ρ)) (c.map (ev ρ))) rfl ?_
  rw [aZb,aZb];rfl
 case makeInterface t x=>
  simp only [aH] at hst hv
  split at hst
  ·simp [KOp.isStill,KOp.isFix] at hst
  ·rename_i d hn hu
   rw [hu] at hv
   refine fQ (s:=Instr.makeInterface t (ev ρ x)) rfl ?_
   simp only [Instr.makeInterface,Sem.run_bind,aD hu,Result.andThen_ok]
   cases d<;>first
    |exact absurd rfl (hn _)
    |(simp only [KOp.rd,KOp.fix,Option.some.injEq] at hv;subst hv;rfl)
  ·simp [KOp.isStill,KOp.isFix] at hst
 case binOp op t x y yt=>
  have fin:∀{u:Value},(eqGuard op t x y (ev ρ x) (ev ρ y)).run P w=.ok () w→(binOp op t (ev ρ x) (ev ρ y)).run P w=.ok u w→
    (execOp (ev ρ) {dst:=dst,op:=.binOp op t x y yt,type:=ty,pos:=pos,after:=after,guard:=guard}).run P w=.ok (.value u) w:=fun h1 h2=>
   fQ (s:=(do eqGuard op t x y (ev ρ x) (ev ρ y);binOp op t (ev ρ x) (ev ρ y))) rfl (by simp [h1,h2])
  have scal:∀{u:Value},cC op (ev ρ x) (ev ρ y)=some u→(execOp (ev ρ) {dst:=dst,op:=.binOp op t x y yt,type:=ty,pos:=pos,after:=after,guard:=guard}).run P w=.ok (.value u) w:=by
   intro u hu
   refine fin (wQ fun p q=>?_) (aR5 hu)
   constructor
   ·rintro ⟨h1,h2⟩;rw [h1,h2] at hu;simp [cC] at hu
   ·rintro ⟨h1,h2⟩;rw [h1,h2] at hu;simp [cC] at hu
  have nilc:∀{u:Value} {d:TypeDesc} {q:EqK},(op=.eql∨op=.neq)→P.underlying t=some d→eqK d=some q→(q=.iface→(Region.isConst x||Region.isConst y)=true)→
    ((aI8 q (ev ρ x) (ev ρ y)).map fun b=>Value.bool (if decide (op=.neq)=true then !b else b))=some u→
    (execOp (ev ρ) {dst:=dst,op:=.binOp op t x y yt,type:=ty,pos:=pos,after:=after,guard:=guard}).run P w=.ok (.value u) w:=by
   intro u d q hop hd hq hc hu
   obtain ⟨b,hb,rfl⟩:=Option.map_eq_some_iff.1 hu
   have he:=aXb (w:=w) hd hq hb
   have hna:∀p r,¬(ev ρ x=.agg p∧ev ρ y=.agg r):=by
    rintro p r ⟨h1,h2⟩;rw [h1,h2] at hb;cases q<;>simp [aI8] at hb
   refine fin ?_ ?_
   ·by_cases hqi:q=.iface
    ·exact aQ5 (hc hqi) hna
    ·refine wQ fun p r=>⟨?_,hna p r⟩
     rintro ⟨h1,h2⟩;rw [h1,h2] at hb;cases q<;>simp [aI8] at hb hqi
   ·exact bHm hop hb he
  simp only [aH] at hst hv
  by_cases hop:op=.eql∨op=.neq
  ·simp only [if_pos hop] at hst hv
   cases hu:P.underlying t with
   |none=>rw [hu] at hst;simp [KOp.isStill,KOp.isFix] at hst
   |some d=>
    rw [hu] at hst hv
    cases d
    case int k=>exact scal hv
    case string=>exact scal hv
    case struct fs=>
     simp only at hst hv
     split at hst
     ·simp [KOp.isStill,KOp.isFix] at hst
     ·rename_i hg
      rw [if_neg hg] at hv
      cases hk:iK P 20 t with
      |none=>rw [hk] at hst;simp [KOp.isStill,KOp.isFix] at hst
      |some ks=>
       rw [hk] at hv
       simp only [KOp.rd,KOp.fix] at hv
       split at hv
       ·rename_i xs ys hx hy
        obtain ⟨b,hb,rfl⟩:=Option.map_eq_some_iff.1 hv
        have he:=aNi (w:=w) 20 t ks hk _ _ b hb 9980
        rw [fU hu,fU hu] at he
        refine fin (by rw [hx,hy];exact run_eqGuard_agg w _ _ _ _ _ _ (by simpa using hg)) ?_
        rw [hx,hy]
        rcases hop with rfl|rfl
        ·rw [run_eql_struct]
         have:(Op.equalIn 10000 t (.agg xs) (.agg ys)).run P w=.ok b w:=he
         rw [this];simp
        ·rw [run_neq_struct]
         have:(Op.equalIn 10000 t (.agg xs) (.agg ys)).run P w=.ok b w:=he
         rw [this];simp
       ·cases hv
    case interface ms=>
     simp only [eqK] at hst hv
     split at hst
     ·rename_i hc
      rw [if_pos hc] at hv
      exact nilc hop hu rfl (fun _=>hc) hv
     ·rename_i hc
      rw [if_neg hc] at hv
      simp only [KOp.rd,KOp.fix] at hv
      obtain ⟨b,hb,rfl⟩:=Option.map_eq_some_iff.1 hv
      have he:=aXg (w:=w) hu hb
      refine fin (wQ fun p r=>⟨?_,?_⟩) (bAp hop hb he)
      ·rintro ⟨h1,h2⟩;rw [h1,h2] at hb;simp [vT] at hb
      ·rintro ⟨h1,h2⟩;rw [h1,h2] at hb;simp [vT] at hb
    case bool=>exact nilc hop hu rfl (fun h=>by cases h) hv
    case pointer e=>exact nilc hop hu rfl (fun h=>by cases h) hv
    case slice e=>exact nilc hop hu rfl (fun h=>by cases h) hv
    case map k e=>exact nilc hop hu rfl (fun h=>by cases h) hv
    case func a b c=>exact nilc hop hu rfl (fun h=>by cases h) hv
    all_goals simp [eqK,KOp.isStill,KOp.isFix] at hst
  ·simp only [if_neg hop] at hst hv
   exact fin (aRn hop) (aR5 hv)
 case convert s d x=>
  simp only [aH] at hst hv
  split at hst
  ·rename_i ds k hs hd
   rw [hs,hd] at hv
   simp only [KOp.rd,KOp.fix] at hv
   split at hv
   ·rename_i k' n hx
    simp only [Option.some.injEq] at hv;subst hv
    refine fQ (s:=convert s d (ev ρ x)) rfl ?_
    rw [hx]
    simp [convert,aD hs,aD hd,Conv.intToInt]
   ·cases hv
  ·rename_i hs hd
   rw [hs,hd] at hv
   simp only [KOp.rd,KOp.fix] at hv
   split at hv
   ·rename_i st hx
    simp only [Option.some.injEq] at hv;subst hv
    refine fQ (s:=convert s d (ev ρ x)) rfl ?_
    rw [hx]
    simp [convert,aD hs,aD hd]
   ·cases hv
  ·split at hst<;>simp [KOp.isStill,KOp.isFix] at hst
  ·split at hst<;>simp [KOp.isStill,KOp.isFix] at hst
  ·simp [KOp.isStill,KOp.isFix] at hst
 case slice t x lo hi mx=>
  cases mx with
  |some m=>simp [aH,KOp.isStill,KOp.isFix] at hst
  |none=>
   simp only [aH] at hst hv
   split at hst
   ·rename_i hu
    rw [hu] at hv
    simp only [KOp.rd,KOp.fix] at hv
    split at hv
    ·rename_i st hx
     obtain ⟨h,e1,hv⟩:=Option.bind_eq_some_iff.1 hv
     obtain ⟨l,e2,rfl⟩:=Option.map_eq_some_iff.1 hv
     refine fQ (s:=Instr.sliceAt t (ev ρ x) (lo.map (ev ρ)) (hi.map (ev ρ)) none) rfl ?_
     rw [hx]
     simp [Instr.sliceAt,aD hu,Instr.slice,aN8 false st.size st.size h l e1 e2]
    ·cases hv
   ·rename_i e hu
    split at hst
    ·rename_i inf hinf
     rw [hu] at hv
     simp only [hinf,KOp.rd,KOp.fix] at hv
     split at hv
     ·rename_i a ln cap hx
      obtain ⟨h,e1,hv⟩:=Option.bind_eq_some_iff.1 hv
      obtain ⟨l,e2,rfl⟩:=Option.map_eq_some_iff.1 hv
      refine fQ (s:=Instr.sliceAt t (ev ρ x) (lo.map (ev ρ)) (hi.map (ev ρ)) none) rfl ?_
      rw [hx]
      simp [Instr.sliceAt,aD hu,Instr.slice,aN8 true ln cap h l e1 e2,cI hinf]
     ·cases hv
    ·simp [KOp.isStill,KOp.isFix] at hst
   ·simp [KOp.isStill,KOp.isFix] at hst
 case call c=>
  obtain ⟨callee,args,argTypes⟩:=c
  cases callee with
  |value f=>cases f<;>simp only [aH] at hst hnp<;>(repeat' split at hst)<;>simp_all [KOp.isStill,KOp.isFix,KOp.isPc]
  |invoke r m=>simp [aH,KOp.isStill,KOp.isFix] at hst
  |builtin b=>
   cases b
   case len=>
    simp only [aH] at hst hv
    split at hst
    ·rename_i x t hx ht
     have ea:args=#[x]:=by apply Array.ext';simpa using hx
     have et:argTypes=#[t]:=by apply Array.ext';simpa using ht
     subst ea;subst et
     have ex:∀{u:Value},(Builtin.len_ #[t] ty #[ev ρ x]).run P w=.ok u w→(execOp (ev ρ) {dst:=dst,op:=.call {callee:=.builtin .len,args:=#[x],argTypes:=#[t]},type:=ty,pos:=pos,after:=after,guard:=guard}).run P w=.ok (.value u) w:=by
      intro u hu
      simp [execOp,resolve,invoke,builtin,hu]
     simp only at hv
     split at hst
     ·rename_i hu
      rw [hu] at hv
      simp only [KOp.rd,KOp.fix] at hv
      split at hv
      ·rename_i s hs
       simp only [Option.some.injEq] at hv;subst hv
       refine ex ?_
       simp [Builtin.len_,aD hu,hs,goInt]
      ·cases hv
     ·rename_i e hu
      rw [hu] at hv
      simp only [KOp.rd,KOp.fix] at hv
      split at hv
      ·rename_i a n cc hs
       simp only [Option.some.injEq] at hv;subst hv
       refine ex ?_
       simp [Builtin.len_,aD hu,hs,goInt]
      ·cases hv
     ·rename_i k e hu
      rw [hu] at hv
      simp only [KOp.rd] at hv
      split at hv
      ·rename_i hs
       simp only [Option.some.injEq] at hv;subst hv
       refine ex ?_
       simp [Builtin.len_,aD hu,hs,goInt]
      ·rename_i r hs
       split at hv
       ·rename_i es cl hr
        simp only [Option.some.injEq] at hv;subst hv
        refine ex ?_
        have hg:(getObj r).run P w=.ok (.map es cl) w:=by simp [getObj,Sem.run,hr]
        simp [Builtin.len_,aD hu,hs,goInt,hg]
       ·cases hv
      ·cases hv
     ·simp [KOp.isStill,KOp.isFix] at hst
    ·simp [KOp.isStill,KOp.isFix] at hst
   case cap=>
    simp only [aH] at hst hv
    split at hst
    ·rename_i x t hx ht
     have ea:args=#[x]:=by apply Array.ext';simpa using hx
     have et:argTypes=#[t]:=by apply Array.ext';simpa using ht
     subst ea;subst et
     simp only at hv
     split at hst
     ·rename_i e hu
      rw [hu] at hv
      simp only [KOp.rd,KOp.fix] at hv
      split at hv
      ·rename_i a n cc hs
       simp only [Option.some.injEq] at hv;subst hv
       simp [execOp,resolve,invoke,builtin,Builtin.cap_,aD hu,hs,goInt]
      ·cases hv
     ·simp [KOp.isStill,KOp.isFix] at hst
    ·simp [KOp.isStill,KOp.isFix] at hst
   case min=>
    simp only [aH] at hst hv
    split at hst
    ·rename_i x ys hx
     rw [hx] at hv
     simp only [KOp.rd,KOp.fix] at hv
     have h2:((args.toList.map (ev ρ)).toArray:Array Value).toList=ev ρ x::ys.map (ev ρ):=by rw [hx];rfl
     have hm:=aF9 (P:=P) (w:=w) false ys (ev ρ x) v (by simpa using hv)
     have hb:(Builtin.min_ argTypes ty (args.toList.map (ev ρ)).toArray).run P w=.ok v w:=by
      unfold Builtin.min_;rw [h2];simpa using hm
     simp only [execOp,resolve,aZb,Sem.run_bind,Sem.run_pure,Result.andThen_ok,invoke,builtin,hb]
    ·simp [KOp.isStill,KOp.isFix] at hst
   case max=>
    simp only [aH] at hst hv
    split at hst
    ·rename_i x ys hx
     rw [hx] at hv
     simp only [KOp.rd,KOp.fix] at hv
     have h2:((args.toList.map (ev ρ)).toArray:Array Value).toList=ev ρ x::ys.map (ev ρ):=by rw [hx];rfl
     have hm:=aF9 (P:=P) (w:=w) true ys (ev ρ x) v (by simpa using hv)
     have hb:(Builtin.max_ argTypes ty (args.toList.map (ev ρ)).toArray).run P w=.ok v w:=by
      unfold Builtin.max_;rw [h2];simpa using hm
     simp only [execOp,resolve,aZb,Sem.run_bind,Sem.run_pure,Result.andThen_ok,invoke,builtin,hb]
    ·simp [KOp.isStill,KOp.isFix] at hst
   all_goals first
    |(simp [aH,KOp.isStill,KOp.isFix] at hst;done)
    |(simp only [aH] at hst;(repeat' split at hst)<;>simp [KOp.isStill,KOp.isFix] at hst)
 case lookup t m k ok=>
  simp only [aH] at hst hv
  split at hst
  ·rename_i s ks e hk
   split at hst
   ·rename_i z hz
    simp only [hk,hz,KOp.rd] at hv
    have hk':=hk
    unfold keyOf at hk'
    split at hk'
    ·rename_i kt et hu
     obtain ⟨ks',hks,heq⟩:=Option.map_eq_some_iff.1 hk'
     simp only [Prod.mk.injEq] at heq
     obtain ⟨hs,rfl,rfl⟩:=heq
     have hs':s=xN P kt:=hs.symm
     subst hs'
     obtain ⟨inf,hinf,hz'⟩:=Option.bind_eq_some_iff.1 hz
     have hzv:∀w,(zeroValue et).run P w=.ok z w:=fun w=>by simp [zeroValue,bR hinf,hz']
     rw [Option.ite_none_right_eq_some] at hv
     obtain ⟨hok,hv⟩:=hv
     refine fQ (s:=Instr.lookup t (ev ρ m) (ev ρ k) ok) rfl ?_
     split at hv
     ·rename_i hm
      simp only [Option.some.injEq] at hv;subst hv
      rw [hm]
      have hf:(Instr.findKey kt (ev ρ k) []).run P w=.ok none w:=xP (r:=none) hks rfl
      have hck:=xX (w:=w) (em:=true) hks hok
      cases ok<;>simp [Instr.lookup,aD hu,hck,hf,hzv]
     ·rename_i r hm
      split at hv
      ·rename_i es cl hr
       obtain ⟨f,hf,rfl⟩:=Option.map_eq_some_iff.1 hv
       have hg:(getObj r).run P w=.ok (.map es cl) w:=by simp [getObj,Sem.run,hr]
       have hck:=xX (w:=w) (em:=es.isEmpty) hks hok
       have hfk:=xP (w:=w) hks hf
       rw [hm]
       cases f with
       |none=>cases ok<;>simp [Instr.lookup,aD hu,hg,hck,hfk,hzv]
       |some p=>obtain ⟨i,v⟩:=p;cases ok<;>simp [Instr.lookup,aD hu,hg,hck,hfk]
      ·cases hv
     ·cases hv
    ·cases hk'
   ·simp [KOp.isStill,KOp.isFix] at hst
  ·simp [KOp.isStill,KOp.isFix] at hst
 case build t parts=>
  simp only [aH] at hst hv
  split at hst
  ·rename_i inf hinf
   split at hst
   ·rename_i z hz
    split at hst
    ·rename_i ps hps
     split at hst
     ·rename_i hb
      simp only [hinf,hz,hps,if_pos hb,KOp.rd,KOp.fix] at hv
      obtain ⟨cs,hcs,rfl⟩:=Option.map_eq_some_iff.1 hv
      refine fQ (s:=Instr.build t (parts.map fun p=>(p.1,ev ρ p.2))) rfl ?_
      exact bGf hinf hz hps (fun p hp=>by have:=List.all_eq_true.1 hb p hp;simpa using this) hcs
     ·simp [KOp.isStill,KOp.isFix] at hst
    ·rename_i hps
     split at hst
     ·rename_i sz ha
      split at hst
      ·rename_i hb
       simp only [hinf,hz,hps,ha,if_pos hb,KOp.rd,KOp.fix] at hv
       obtain ⟨cs,hcs,rfl⟩:=Option.map_eq_some_iff.1 hv
       refine fQ (s:=Instr.build t (parts.map fun p=>(p.1,ev ρ p.2))) rfl ?_
       exact aUt hinf hz ha (fun p hp=>by have:=List.all_eq_true.1 hb p hp;simpa using this) hcs
      ·simp [KOp.isStill,KOp.isFix] at hst
     ·simp [KOp.isStill,KOp.isFix] at hst
   ·simp [KOp.isStill,KOp.isFix] at hst
  ·simp [KOp.isStill,KOp.isFix] at hst
 case box t x=>simp [aH,KOp.isStill,KOp.isFix] at hst
 case makeMap t r=>cases r<;>simp [aH,KOp.isStill,KOp.isFix] at hst
 case next it b=>cases b<;>simp [aH,KOp.isStill,KOp.isFix] at hst
 case alloc t=>simp only [aH] at hst;(repeat' split at hst)<;>simp [KOp.isStill,KOp.isFix] at hst
 case store t x y=>simp only [aH] at hst;(repeat' split at hst)<;>simp [KOp.isStill,KOp.isFix] at hst
 all_goals first
  |(simp [aH,KOp.isStill,KOp.isFix] at hst;done)
  |(simp only [aH] at hst;(repeat' split at hst)<;>simp [KOp.isStill,KOp.isFix] at hst)
theorem aSv {f:FuncId} {vs:Array Value} (hb:cM P f=true):(callFunc f vs).run P w=.ok (.enter f vs) w:=by
 unfold cM at hb
 split at hb
 ·rename_i fn hfn
  simp only [Bool.and_eq_true,Bool.not_eq_true'] at hb
  have hne:fn.name≠ "runtime.NumGoroutine" :=by simpa using hb.2
  have hbn:fn.body≠none:=by intro hn;rw [hn] at hb;simp at hb
  simp [callFunc,hfn,hne,hbn]
 ·cases hb
theorem pR [Quiet P] (o:Oper) (v:Value) (hst:(aH P o).isStill=true) (hv:(aH P o).rd ρ w=some v):
  (execOp (ev ρ) o).run P w=.ok (.value v) w∨((execOp (ev ρ) o).run P w=.ok .skip w∧v=undef)∨∃f args,(execOp (ev ρ) o).run P w=.ok (.enter f args) w∧Calls P f args w (fun e w''=>e=.returned v∧w''=w):=by
 cases hp:(aH P o).isPc with
 |false=>exact .inl (aB7 o v hst hp hv)
 |true=>
  obtain ⟨dst,op,ty,pos,after,guard⟩:=o
  cases op
  case call c=>
   obtain ⟨callee,args,argTypes⟩:=c
   cases callee with
   |value fo=>
    cases fo with
    |func f=>
     simp only [aH] at hp hv
     split at hp
     ·rename_i hb
      rw [if_pos hb] at hv
      split at hp
      ·rename_i F hF
       rw [hF] at hv
       simp only [KOp.rd] at hv
       refine .inr (.inr ⟨f,(args.toList.map (ev ρ)).toArray,?_,Quiet.ok f F _ v w hF hv⟩)
       simp only [execOp,resolve,ev,Deferred.ofValue,Sem.run_bind,Sem.run_pure,Result.andThen_ok,invoke]
       rw [aZb]
       simpa using aSv hb
      ·simp [KOp.isPc] at hp
     ·simp [KOp.isPc] at hp
    |tmp t=>simp [aH,KOp.isPc] at hp
    |const v=>simp [aH,KOp.isPc] at hp
    |global g=>simp [aH,KOp.isPc] at hp
   |invoke r m=>simp [aH,KOp.isPc] at hp
   |builtin b=>cases b<;>simp only [aH] at hp<;>(repeat' split at hp)<;>simp [KOp.isPc] at hp
  case unOp op t x=>cases op<;>simp [aH,KOp.isPc] at hp
  case slice t x lo hi mx=>cases mx<;>simp only [aH] at hp<;>(repeat' split at hp)<;>simp [KOp.isPc] at hp
  case makeMap t r=>cases r<;>simp [aH,KOp.isPc] at hp
  case next it b=>cases b<;>simp [aH,KOp.isPc] at hp
  all_goals first
   |(simp [aH,KOp.isPc] at hp;done)
   |(simp only [aH] at hp;(repeat' split at hp)<;>simp [KOp.isPc] at hp)
end
end Go.K
