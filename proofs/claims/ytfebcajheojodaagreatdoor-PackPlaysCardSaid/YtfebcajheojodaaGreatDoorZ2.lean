/- The engine, part 2: a resolved operation is what the operati -/
import Derived.Test.YtfebcajheojodaaGreatDoorZ1
set_option linter.unusedVariables false
set_option linter.unusedSimpArgs false
namespace Go.K
section
open Go
variable {P:Program} {ρ:Env} {w:World}
theorem aD {t:TypeId} {d:TypeDesc} (h:P.underlying t=some d) (w:World):(underlying t).run P w=.ok d w:=by
 show (match P.underlying t with|some d=>(pure d:Sem TypeDesc)|none=>stuck _).run P w=_
 rw [h];rfl
theorem bR {t:TypeId} {i:TypeInfo} (h:P.info? t=some i) (w:World):(typeInfo t).run P w=.ok i w:=by
 show (match P.info? t with|some d=>(pure d:Sem TypeInfo)|none=>stuck _).run P w=_
 rw [h];rfl
theorem cI {t:TypeId} {i:TypeInfo} (h:P.info? t=some i) (w:World):(sizeOf t).run P w=.ok i.size w:=by
 simp [sizeOf,bR h]
theorem aH5 {t:TypeId} {i:Nat} {f:Field} (h:aNk P t i=some f):∃fs,P.underlying t=some (.struct fs)∧fs[i]? =some f:=by
 unfold aNk at h
 split at h
 ·exact ⟨_,‹_›,h⟩
 ·cases h
theorem sA {t:TypeId} {n:Nat} (h:sC P t=some (some n)) (w:World):(isAgg t).run P w=.ok true w∧(sizeOf t).run P w=.ok n w:=by
 unfold sC at h
 split at h
 ·rename_i i h1 h2;cases h;exact ⟨by simp [isAgg,aD h1],cI h2 w⟩
 ·rename_i i h1 h2;cases h;exact ⟨by simp [isAgg,aD h1],cI h2 w⟩
 ·cases h
 ·cases h
theorem rZ {t:TypeId} (h:sC P t=some none) (w:World):(isAgg t).run P w=.ok false w:=by
 unfold sC at h
 split at h
 ·cases h
 ·cases h
 ·rename_i d i h3 h1 h2
  cases d<;>simp_all [isAgg,aD ‹P.underlying t=some _›]
 ·cases h
theorem add_zero (a:Addr):a.add 0=a:=by simp [Addr.add]
theorem run_loadCellsFrom {a:Addr}:∀(n i:Nat) (acc:Array Value) (l:List Value),rdCells w a i n=some l→(loadCellsFrom a i n acc).run P w=.ok (acc++l.toArray) w
 |0,i,acc,l,h=>by
  simp only [rdCells,Option.some.injEq] at h
  subst h
  simp [loadCellsFrom]
 |n+1,i,acc,l,h=>by
  simp only [rdCells,Option.bind_eq_some_iff,Option.map_eq_some_iff] at h
  obtain ⟨v,hv,r,hr,rfl⟩:=h
  have h2:=run_loadCellsFrom n (i+1) (acc.push v) r hr
  have h1:(load (a.add i)).run P w=.ok v w:=by simp [load,Sem.run,hv]
  simp only [loadCellsFrom,Sem.run_bind,h1,Result.andThen_ok,h2]
  simp
theorem aNm (a b:ByteArray):(a.toList==b.toList)=decide (a=b):=by
 rw [Bool.eq_iff_iff,ByteArray.toList_eq,ByteArray.toList_eq];obtain ⟨⟨x⟩⟩:=a;obtain ⟨⟨y⟩⟩:=b;simp
theorem aVo (a b:Int):(a==b)=decide (a=b):=by rw [Bool.eq_iff_iff];simp
theorem bMx (a b:Int):(a !=b)= !decide (a=b):=by rw [Bool.eq_iff_iff];simp
theorem aR5 {op : BinOp} {t : TypeId} {x y : Value} {v : Value} (h : cC op x y = some v) : (binOp op t x y).run P w = .ok v w := by
  unfold cC at h
  split at h
  · rename_i k a k' b
    by_cases hs : dX op = true
    · rw [if_pos hs] at h
      split at h
      · cases h
      · rename_i hb
        cases op <;> simp [dX] at hs <;> simp only [Option.some.injEq] at h <;> subst h <;> simp [binOp, Op.shift, hb]
    · rw [if_neg hs] at h
      split at h
      · rename_i hk
        subst hk
        cases op <;> simp only [dX, not_true_eq_false] at hs <;> simp only [dL] at h <;>
          first
          | (simp only [Option.some.injEq] at h; subst h; simp [binOp, Op.intArith, Op.intBits, Op.intCmp, aVo, bMx]; done)
          | (split at h
             · cases h
             · simp only [Option.some.injEq] at h; subst h; simp [binOp, Op.intDiv, *]; done)
          | cases h
      · cases h
  · rename_i a b
    cases op <;> simp only [bAo] at h <;>
      first
      | (simp only [Option.some.injEq] at h; subst h; simp [binOp, Op.stringOp, aNm]; done)
      | (by_cases hc : ((a.size + b.size : Nat) : Int) > IntKind.i64.max
         · rw [if_pos hc] at h; cases h
         · rw [if_neg hc] at h; simp only [Option.some.injEq] at h; subst h; simp only [binOp, Op.stringOp]; rw [if_neg hc]; rfl)
      | cases h
  · cases h
theorem wQ {op:BinOp} {t:TypeId} {x y:Operand} {a b:Value} (h1:∀u v,¬(a=.nilIface∧b=.nilIface)∧¬(a=.agg u∧b=.agg v)):(eqGuard op t x y a b).run P w=.ok () w:=by
 unfold eqGuard
 cases op<;>(try rfl)<;>simp only [Bool.not_true,Bool.false_eq_true,if_false]<;>split
 all_goals first
  |exact absurd ⟨rfl,rfl⟩ (h1 #[] #[]).1
  |exact absurd ⟨rfl,rfl⟩ (h1 _ _).2
  |rfl
theorem aRn {op:BinOp} {t:TypeId} {x y:Operand} {a b:Value} (h1:¬(op=.eql∨op=.neq)):(eqGuard op t x y a b).run P w=.ok () w:=by
 unfold eqGuard
 cases op<;>simp at h1<;>rfl
theorem aQ5 {op:BinOp} {t:TypeId} {x y:Operand} {a b:Value} (h1:(Region.isConst x||Region.isConst y)=true) (h2:∀u v,¬(a=.agg u∧b=.agg v)):(eqGuard op t x y a b).run P w=.ok () w:=by
 unfold eqGuard
 cases op<;>(try rfl)<;>simp only [Bool.not_true,Bool.false_eq_true,if_false]<;>split
 all_goals first
  |exact absurd ⟨rfl,rfl⟩ (h2 _ _)
  |rfl
  |(cases x<;>cases y<;>simp [Region.isConst] at h1<;>rfl)
theorem aU2 {t:TypeId} {d:TypeDesc} {q:EqK} (hd:P.underlying t=some d) (hq:eqK d=some q) {x y:Value} {r:Bool} (h:aI8 q x y=some r) (n:Nat):(Op.equalIn (n+1) t x y).run P w=.ok r w:=by
 unfold aI8 at h
 simp only [Op.equalIn,Sem.run_bind,aD hd w,Result.andThen_ok]
 split at h<;>first|(cases h;done)|(simp only [Option.some.injEq] at h;subst h;cases d<;>simp only [eqK,Option.some.injEq,reduceCtorEq] at hq<;>first|(simp;done)|skip)
theorem aXb {t:TypeId} {d:TypeDesc} {q:EqK} (hd:P.underlying t=some d) (hq:eqK d=some q) {x y:Value} {r:Bool} (h:aI8 q x y=some r):(Op.equal t x y).run P w=.ok r w:=
 aU2 hd hq h 9999
theorem aCm:∀(k1 k2:List CK) (a b c d:List Value) (r:Bool),a.length=k1.length→c.length=k1.length→dE (k1++k2) (a++b) (c++d)=some r→∃r1 r2,dE k1 a c=some r1∧dE k2 b d=some r2∧r=(r1&&r2)
 | [],k2, [],b, [],d,r,_,_,h=>⟨true,r,rfl,h,by simp⟩
 |k::k1,k2,x::a,b,y::c,d,r,hl,hl',h=>by
  simp only [List.cons_append,dE,Option.bind_eq_some_iff,Option.map_eq_some_iff] at h
  obtain ⟨e,he,r',hr',rfl⟩:=h
  obtain ⟨r1,r2,h1,h2,rfl⟩:=aCm k1 k2 a b c d r' (by simpa using hl) (by simpa using hl') hr'
  exact ⟨e&&r1,r2,by simp [dE,he,h1],h2,by simp [Bool.and_assoc]⟩
theorem nD:∀(ks:List CK) (a b:List Value) (r:Bool),dE ks a b=some r→a.length=ks.length∧b.length=ks.length
 | [], [], [],_,_=>⟨rfl,rfl⟩
 |k::ks,x::a,y::b,r,h=>by
  simp only [dE,Option.bind_eq_some_iff,Option.map_eq_some_iff] at h
  obtain ⟨e,he,r',hr',rfl⟩:=h
  have:=nD ks a b r' hr'
  simp [this]
 | [], [],_::_,_,h=>by simp [dE] at h
 | [],_::_,_,_,h=>by simp [dE] at h
 |_::_, [],_,_,h=>by simp [dE] at h
 |_::_,_::_, [],_,h=>by simp [dE] at h
def mS (P:Program) (t:TypeId) (cs:List Value):Value:=
 match P.underlying t with
 |some (.struct _)=>.agg cs.toArray
 |_=>cs.getD 0 undef
theorem fU {t:TypeId} {fs:Array Field} (h:P.underlying t=some (.struct fs)) (cs:List Value):mS P t cs=.agg cs.toArray:=by unfold mS;rw [h]
theorem aLf {t:TypeId} {off:Nat} {cs:Array Value} {dd:TypeDesc} (hd:P.underlying t=some dd) (h1:∀f,dd≠.struct f) (h2:∀a b,dd≠.array a b) (hl:off+1≤cs.size):
  (part t cs off).run P w=.ok (mS P t ((cs.toList.drop off).take 1)) w:=by
 have hlt:off<cs.size:=by omega
 have hag:(isAgg t).run P w=.ok false w:=by
  simp only [isAgg,Sem.run_bind,aD hd w,Result.andThen_ok]
  cases dd<;>first|rfl|exact absurd rfl (h1 _)|exact absurd rfl (h2 _ _)
 simp only [part,Sem.run_bind,hag,Result.andThen_ok,Bool.false_eq_true,if_false,Array.getElem?_eq_getElem hlt]
 have hv:mS P t ((cs.toList.drop off).take 1)=cs[off]:=by
  unfold mS
  rw [hd]
  cases dd<;>first|exact absurd rfl (h1 _)|(simp [List.getElem?_drop,hlt])
 rw [hv];rfl
theorem aF1 {t:TypeId} {ks:List CK} {off:Nat} {d:Nat} {cs:Array Value} (hf:iK P d t=some ks) (hs:(P.info? t).map (·.size)=some ks.length) (hl:off+ks.length≤cs.size):
  (part t cs off).run P w=.ok (mS P t ((cs.toList.drop off).take ks.length)) w:=by
 cases d with
 |zero=>cases hf
 |succ d=>
  obtain ⟨i,hi,hik⟩:=Option.map_eq_some_iff.1 hs
  simp only [iK] at hf
  split at hf
  ·injection hf with hf;subst hf;exact aLf ‹_› (by simp) (by simp) hl
  ·injection hf with hf;subst hf;exact aLf ‹_› (by simp) (by simp) hl
  ·injection hf with hf;subst hf;exact aLf ‹_› (by simp) (by simp) hl
  ·rename_i fs hu
   have hag:(isAgg t).run P w=.ok true w:=by simp [isAgg,aD hu]
   simp only [part,Sem.run_bind,hag,Result.andThen_ok,if_true,cI hi]
   have hv:mS P t ((cs.toList.drop off).take ks.length)=.agg (cs.extract off (off+i.size)):=by
    rw [fU hu,hik]
    congr 1
    apply Array.ext'
    simp [Array.toList_extract,List.extract_eq_take_drop]
   rw [hv];rfl
  ·cases hf
def xA (P:Program) (d:Nat) (fs:List Field) (ks:Option (List CK)):Option (List CK):=
 fs.foldl (fun acc f=>acc.bind fun ks=>(iK P d f.type).bind fun l=>if f.name≠ "_" ∧f.offset=ks.length∧(P.info? f.type).map (·.size)=some l.length then some (ks++l) else none) ks
theorem aDj {d:Nat}:∀(fs:List Field),xA P d fs none=none
 | []=>rfl
 |f::fs=>by unfold xA;simp only [List.foldl_cons,Option.bind_none];exact aDj fs
theorem aBw {d:Nat} {f:Field} {fs:List Field} {ks out:List CK} (h:xA P d (f::fs) (some ks)=some out):
  ∃l,iK P d f.type=some l∧f.name≠ "_" ∧f.offset=ks.length∧(P.info? f.type).map (·.size)=some l.length∧xA P d fs (some (ks++l))=some out:=by
 unfold xA at h
 simp only [List.foldl_cons,Option.bind_some] at h
 cases hl:iK P d f.type with
 |none=>rw [hl] at h;simp only [Option.bind_none] at h;exact absurd ((aDj (d:=d) fs).symm.trans h) (by simp)
 |some l=>
  rw [hl] at h
  simp only [Option.bind_some] at h
  split at h
  ·rename_i hc;exact ⟨l,rfl,hc.1,hc.2.1,hc.2.2,h⟩
  ·exact absurd ((aDj (d:=d) fs).symm.trans h) (by simp)
theorem aG1 {d:Nat}:∀(fs:List Field) (ks out:List CK),xA P d fs (some ks)=some out→∃l,out=ks++l
 | [],ks,out,h=>⟨[],by simp [xA] at h;simp [h]⟩
 |f::fs,ks,out,h=>by
  obtain ⟨l,_,_,_,_,h2⟩:=aBw h
  obtain ⟨l2,rfl⟩:=aG1 fs _ _ h2
  exact ⟨l++l2,by simp⟩
theorem aNi:∀(d:Nat) (t:TypeId) (ks:List CK),iK P d t=some ks→∀(xs ys:List Value) (r:Bool),dE ks xs ys=some r→∀m,(Op.equalIn (d+m) t (mS P t xs) (mS P t ys)).run P w=.ok r w
 |0,_,_,h,_,_,_,_,_=>by cases h
 |d+1,t,ks,h,xs,ys,r,hr,m=>by
  simp only [iK] at h
  rw [show d+1+m=(d+m)+1 from by omega]
  have one:∀(c:CK),ks= [c]→∃x y,xs= [x]∧ys= [y]∧lG c x y=some r:=by
   intro c hc
   subst hc
   obtain ⟨h1,h2⟩:=nD _ _ _ _ hr
   match xs,ys,h1,h2 with
   | [x], [y],_,_=>
    simp only [dE,Option.map_some,Bool.and_true,Option.bind_eq_some_iff,Option.some.injEq] at hr
    obtain ⟨b,hb,rfl⟩:=hr
    exact ⟨x,y,rfl,rfl,hb⟩
  split at h
  ·rename_i hu
   obtain ⟨x,y,rfl,rfl,hb⟩:=one .b (by injection h with h;exact h.symm)
   simp only [mS,hu,List.getD_cons_zero]
   unfold lG at hb
   split at hb<;>simp_all
   subst hb;exact run_equalIn_bool' w _ _ _ _ hu
  ·rename_i kk hu
   obtain ⟨x,y,rfl,rfl,hb⟩:=one .i (by injection h with h;exact h.symm)
   simp only [mS,hu,List.getD_cons_zero]
   unfold lG at hb
   split at hb<;>simp_all
   obtain ⟨rfl,rfl⟩:=hb;rw [run_equalIn_int w _ _ _ _ _ _ hu,aVo]
  ·rename_i hu
   obtain ⟨x,y,rfl,rfl,hb⟩:=one .s (by injection h with h;exact h.symm)
   simp only [mS,hu,List.getD_cons_zero]
   unfold lG at hb
   split at hb<;>simp_all
   subst hb;rw [run_equalIn_string w _ _ _ _ hu,aNm]
  ·rename_i fs hu
   split at h
   ·cases h
   ·rename_i hst
    rw [fU hu,fU hu]
    have hfo:P.fieldsOf t=fs:=by unfold Program.fieldsOf;rw [hu]
    rw [run_equalIn_struct w _ t _ _ (by rw [hfo];exact hu) (by simpa using hst),hfo]
    have key:∀(l:List Field) (k1 out:List CK) (x1 x2 y1 y2:List Value) (r2:Bool),xA P d l (some k1)=some out→x1.length=k1.length→y1.length=k1.length→
      dE (out.drop k1.length) x2 y2=some r2→(Op.eqFields (d+m) (x1++x2).toArray (y1++y2).toArray l).run P w=.ok r2 w:=by
     intro l
     induction l with
     |nil=>
      intro k1 out x1 x2 y1 y2 r2 hf hx hy hc
      simp only [xA,List.foldl_nil,Option.some.injEq] at hf
      subst hf
      rw [List.drop_length] at hc
      obtain ⟨h1,h2⟩:=nD _ _ _ _ hc
      obtain rfl:=List.length_eq_zero_iff.1 h1
      obtain rfl:=List.length_eq_zero_iff.1 h2
      simp only [dE,Option.some.injEq] at hc
      subst hc
      rfl
     |cons f l ihl=>
      intro k1 out x1 x2 y1 y2 r2 hf hx hy hc
      obtain ⟨lk,hlk,hn,ho,hsz,hrest⟩:=aBw hf
      obtain ⟨tail,hout⟩:=aG1 l _ _ hrest
      have hd:out.drop k1.length=lk++tail:=by rw [hout];simp
      rw [hd] at hc
      obtain ⟨hlx,hly⟩:=nD _ _ _ _ hc
      simp only [List.length_append] at hlx hly
      have ex:x2=x2.take lk.length++x2.drop lk.length:=(List.take_append_drop _ _).symm
      have ey:y2=y2.take lk.length++y2.drop lk.length:=(List.take_append_drop _ _).symm
      have tx:(x2.take lk.length).length=lk.length:=by simp;omega
      have ty:(y2.take lk.length).length=lk.length:=by simp;omega
      rw [ex,ey] at hc
      obtain ⟨r1,r3,hc1,hc2,rfl⟩:=aCm lk tail _ _ _ _ r2 tx ty hc
      have px:(part f.type (x1++x2).toArray f.offset).run P w=.ok (mS P f.type (x2.take lk.length)) w:=by
       have:=aF1 (w:=w) (off:=f.offset) (cs:=(x1++x2).toArray) hlk hsz (by simp;omega)
       rw [this,ho];simp [←hx]
      have py:(part f.type (y1++y2).toArray f.offset).run P w=.ok (mS P f.type (y2.take lk.length)) w:=by
       have:=aF1 (w:=w) (off:=f.offset) (cs:=(y1++y2).toArray) hlk hsz (by simp;omega)
       rw [this,ho];simp [←hy]
      have pe:=aNi d f.type lk hlk _ _ r1 hc1 m
      simp only [Op.eqFields,hn,ne_eq,not_false_eq_true,if_true,Sem.run_bind,px,Result.andThen_ok,py,pe]
      cases r1 with
      |false=>simp
      |true=>
       simp only [Bool.not_true,Bool.false_eq_true,if_false,Bool.true_and]
       have:=ihl (k1++lk) out (x1++x2.take lk.length) (x2.drop lk.length) (y1++y2.take lk.length) (y2.drop lk.length) r3 hrest (by simp [hx];omega) (by simp [hy];omega) (by rw [hout];simpa using hc2)
       simpa [List.append_assoc] using this
    exact key fs.toList [] ks [] xs [] ys r h rfl rfl (by simpa using hr)
  ·cases h
theorem aB1:∀(ks:List CK) (l:List Value),jU ks l=true→l.length=ks.length
 | [], [],_=>rfl
 |_::ks,_::l,h=>by
  simp only [jU,Bool.and_eq_true] at h
  simp [aB1 ks l h.2]
 | [],_::_,h=>by simp [jU] at h
 |_::_, [],h=>by simp [jU] at h
theorem aCi:∀(k1 k2:List CK) (a b:List Value),a.length=k1.length→jU (k1++k2) (a++b)=true→jU k1 a=true∧jU k2 b=true
 | [],k2, [],b,_,h=>⟨rfl,h⟩
 |k::k1,k2,x::a,b,hl,h=>by
  simp only [List.cons_append,jU,Bool.and_eq_true] at h ⊢
  have:=aCi k1 k2 a b (by simpa using hl) h.2
  exact ⟨⟨h.1,this.1⟩,this.2⟩
theorem wM {em:Bool}:∀(d:Nat) (t:TypeId) (ks:List CK),iK P d t=some ks→∀(xs:List Value),jU ks xs=true→∀m,(Instr.checkKey em (d+m) t (mS P t xs)).run P w=.ok () w
 |0,_,_,h,_,_,_=>by cases h
 |d+1,t,ks,h,xs,hr,m=>by
  simp only [iK] at h
  rw [show d+1+m=(d+m)+1 from by omega]
  have one:∀(c:CK),ks= [c]→∃x,xs= [x]∧bJa c x=true:=by
   intro c hc
   subst hc
   have h1:=aB1 _ _ hr
   match xs,h1 with
   | [x],_=>exact ⟨x,rfl,by simpa [jU] using hr⟩
  split at h
  ·rename_i hu
   simp [Instr.checkKey,aD hu]
  ·rename_i hu
   simp [Instr.checkKey,aD hu]
  ·rename_i hu
   simp [Instr.checkKey,aD hu]
  ·rename_i fs hu
   split at h
   ·cases h
   ·rw [fU hu]
    have key:∀(l:List Field) (k1 out:List CK) (x1 x2:List Value),xA P d l (some k1)=some out→x1.length=k1.length→
      jU (out.drop k1.length) x2=true→(forIn (m:=Sem) l PUnit.unit fun f _=>do
       if f.name≠ "_" then Instr.checkKey em (d+m) f.type (←part f.type (x1++x2).toArray f.offset)
       pure (ForInStep.yield PUnit.unit)).run P w=.ok PUnit.unit w:=by
     intro l
     induction l with
     |nil=>intro k1 out x1 x2 hf hx hc;rfl
     |cons f l ihl=>
      intro k1 out x1 x2 hf hx hc
      obtain ⟨lk,hlk,hn,ho,hsz,hrest⟩:=aBw hf
      obtain ⟨tail,hout⟩:=aG1 l _ _ hrest
      have hd:out.drop k1.length=lk++tail:=by rw [hout];simp
      rw [hd] at hc
      have hlx:=aB1 _ _ hc
      simp only [List.length_append] at hlx
      have ex:x2=x2.take lk.length++x2.drop lk.length:=(List.take_append_drop _ _).symm
      have tx:(x2.take lk.length).length=lk.length:=by simp;omega
      rw [ex] at hc
      obtain ⟨hc1,hc2⟩:=aCi lk tail _ _ tx hc
      have px:(part f.type (x1++x2).toArray f.offset).run P w=.ok (mS P f.type (x2.take lk.length)) w:=by
       have:=aF1 (w:=w) (off:=f.offset) (cs:=(x1++x2).toArray) hlk hsz (by simp;omega)
       rw [this,ho];simp [←hx]
      have pe:=wM (em:=em) d f.type lk hlk _ hc1 m
      have ih:=ihl (k1++lk) out (x1++x2.take lk.length) (x2.drop lk.length) hrest (by simp [hx];omega) (by rw [hout];simpa using hc2)
      have e1:x1++x2.take lk.length++x2.drop lk.length=x1++x2:=by rw [List.append_assoc,←ex]
      rw [e1] at ih
      rw [List.forIn_cons]
      simp only [Sem.run_bind,hn,ne_eq,not_false_eq_true,if_true,px,Result.andThen_ok,pe,Sem.run_pure,ih]
    have:=key fs.toList [] ks [] xs h rfl (by simpa using hr)
    simp only [Instr.checkKey,Sem.run_bind,aD hu,Result.andThen_ok]
    rw [←Array.forIn_toList]
    simp at this ⊢
    rw [this];rfl
  ·cases h
def xN (P:Program) (t:TypeId):Bool:=match P.underlying t with|some (.struct _)=>true|_=>false
theorem aLj {d:Nat} {t:TypeId} {ks:List CK} (h:iK P d t=some ks) (hs:xN P t=false):(P.underlying t=some .bool∧ks= [.b])∨(∃k,P.underlying t=some (.int k)∧ks= [.i])∨(P.underlying t=some .string∧ks= [.s]):=by
 cases d with
 |zero=>cases h
 |succ d=>
  simp only [iK] at h
  split at h
  ·rename_i hu;injection h with h;exact .inl ⟨hu,h.symm⟩
  ·rename_i k hu;injection h with h;exact .inr (.inl ⟨k,hu,h.symm⟩)
  ·rename_i hu;injection h with h;exact .inr (.inr ⟨hu,h.symm⟩)
  ·rename_i fs hu;simp [xN,hu] at hs
  ·cases h
theorem aSh {t:TypeId} {ks:List CK} (h:iK P 20 t=some ks) {a b:Value} {r:Bool} (he:aBc (xN P t) ks a b=some r):(Op.equal t a b).run P w=.ok r w:=by
 unfold aBc at he
 split at he
 ·rename_i hs
  split at he
  ·rename_i xs ys
   have hu:∃fs,P.underlying t=some (.struct fs):=by
    unfold xN at hs;split at hs
    ·exact ⟨_,‹_›⟩
    ·cases hs
   obtain ⟨fs,hu⟩:=hu
   have:=aNi (w:=w) 20 t ks h _ _ r he 9980
   rw [fU hu,fU hu] at this
   exact this
  ·cases he
 ·rename_i hs
  have hv:∀x:Value,mS P t [x]=x:=by
   intro x
   rcases aLj h (by simpa using hs) with ⟨hu,_⟩|⟨k,hu,_⟩|⟨hu,_⟩<;>simp [mS,hu]
  have:=aNi (w:=w) 20 t ks h _ _ r he 9980
  rw [hv,hv] at this
  exact this
theorem xX {em:Bool} {t:TypeId} {ks:List CK} (h:iK P 20 t=some ks) {a:Value} (he:aHz (xN P t) ks a=true):(Instr.checkKey em 10000 t a).run P w=.ok () w:=by
 unfold aHz at he
 split at he
 ·rename_i hs
  split at he
  ·rename_i xs
   have hu:∃fs,P.underlying t=some (.struct fs):=by
    unfold xN at hs;split at hs
    ·exact ⟨_,‹_›⟩
    ·cases hs
   obtain ⟨fs,hu⟩:=hu
   have:=wM (w:=w) (em:=em) 20 t ks h _ he 9980
   rw [fU hu] at this
   exact this
  ·cases he
 ·rename_i hs
  have hv:∀x:Value,mS P t [x]=x:=by
   intro x
   rcases aLj h (by simpa using hs) with ⟨hu,_⟩|⟨k,hu,_⟩|⟨hu,_⟩<;>simp [mS,hu]
  have:=wM (w:=w) (em:=em) 20 t ks h _ he 9980
  rw [hv] at this
  exact this
theorem aQn {t:TypeId} {ks:List CK} (h:iK P 20 t=some ks) {k:Value}:∀(es:List MapEntry) (i:Nat) (r:Option (Nat × Value)),kA (xN P t) ks k es i=some r→(Instr.findAsking t k es i).run P w=.ok r w
 | [],i,r,hf=>by simp only [kA,Option.some.injEq] at hf;subst hf;rfl
 |e::es,i,r,hf=>by
  simp only [kA] at hf
  split at hf
  ·rename_i he
   simp only [Option.some.injEq] at hf;subst hf
   simp [Instr.findAsking,aSh h he]
  ·rename_i he
   simp [Instr.findAsking,aSh h he,aQn h es (i+1) r hf]
  ·cases hf
theorem zU {d:TypeDesc} {c:CK} (hc:(d=.bool∧c=.b)∨(∃k,d=.int k∧c=.i)∨(d=.string∧c=.s)) {k:Value}:∀(es:List MapEntry) (i:Nat) (r:Option (Nat × Value)),kA false [c] k es i=some r→Instr.findNow d k es i=some r
 | [],i,r,hf=>by simp only [kA,Option.some.injEq] at hf;subst hf;rfl
 |e::es,i,r,hf=>by
  simp only [kA] at hf
  have hsame:∀b,aBc false [c] k e.key=some b→Instr.sameNow d k e.key=some b:=by
   intro b hb
   simp only [aBc,Bool.false_eq_true,if_false,dE,Option.map_some,Bool.and_true] at hb
   generalize e.key=y at hb
   rcases hc with ⟨rfl,rfl⟩|⟨q,rfl,rfl⟩|⟨rfl,rfl⟩
   ·unfold lG at hb;split at hb<;>simp_all [Instr.sameNow]
   ·unfold lG at hb;split at hb<;>simp_all [Instr.sameNow,aVo]
   ·unfold lG at hb
    split at hb<;>simp_all [Instr.sameNow]
    rw [←hb,beq_toListBytes,aNm]
  split at hf
  ·rename_i he
   simp only [Instr.findNow,hsame _ he];exact hf
  ·rename_i he
   simp only [Instr.findNow,hsame _ he];exact zU hc es (i+1) r hf
  ·cases hf
theorem aQv {fs:Array Field} {k:Value} {e:MapEntry} {es:List MapEntry}:Instr.findNow (.struct fs) k (e::es) 0=none:=by
 simp [Instr.findNow,Instr.sameNow]
theorem xP {t:TypeId} {ks:List CK} (h:iK P 20 t=some ks) {k:Value} {es:List MapEntry} {r:Option (Nat × Value)} (hf:kA (xN P t) ks k es 0=some r):(Instr.findKey t k es).run P w=.ok r w:=by
 unfold Instr.findKey
 by_cases hs:xN P t=true
 ·have hu:∃fs,P.underlying t=some (.struct fs):=by
   unfold xN at hs;split at hs
   ·exact ⟨_,‹_›⟩
   ·cases hs
  obtain ⟨fs,hu⟩:=hu
  simp only [Sem.run_bind,aD hu,Result.andThen_ok]
  cases es with
  |nil=>simp only [kA,Option.some.injEq] at hf;subst hf;rfl
  |cons e es=>
   rw [aQv]
   exact aQn h _ 0 r hf
 ·have hs':xN P t=false:=by simpa using hs
  rw [hs'] at hf
  rcases aLj h hs' with ⟨hu,rfl⟩|⟨q,hu,rfl⟩|⟨hu,rfl⟩
  ·simp [aD hu,zU (.inl ⟨rfl,rfl⟩) es 0 r hf]
  ·simp [aD hu,zU (.inr (.inl ⟨q,rfl,rfl⟩)) es 0 r hf]
  ·simp [aD hu,zU (.inr (.inr ⟨rfl,rfl⟩)) es 0 r hf]
theorem aMr {c:CK} {a b:Value} (h:lG c a b=some true) (n:Nat):Instr.sameBits n a b=true:=by
 unfold lG at h
 split at h<;>simp_all [Instr.sameBits]
 rw [beq_toListBytes,aNm];simp
theorem aRv {c:CK} {a b:Value} (h:lG c a b=some true):a=b:=by
 unfold lG at h
 split at h<;>simp_all
theorem zT:∀(ks:List CK) (a b:List Value) (n:Nat),dE ks a b=some true→a=b∧((a.zip b).all fun (x,y)=>Instr.sameBits n x y)=true
 | [], [], [],_,_=>⟨rfl,rfl⟩
 |c::ks,x::a,y::b,n,h=>by
  simp only [dE,Option.bind_eq_some_iff,Option.map_eq_some_iff] at h
  obtain ⟨e,he,r,hr,hb⟩:=h
  simp only [Bool.and_eq_true] at hb
  obtain ⟨rfl,rfl⟩:=hb
  have h1:=aMr he n
  have h2:=aRv he
  obtain ⟨h3,h4⟩:=zT ks a b n hr
  refine ⟨by rw [h2,h3],?_⟩
  simp only [List.zip_cons_cons,List.all_cons,h1,Bool.true_and]
  exact h4
 | [], [],_::_,_,h=>by simp [dE] at h
 | [],_::_,_,_,h=>by simp [dE] at h
 |_::_, [],_,_,h=>by simp [dE] at h
 |_::_,_::_, [],_,h=>by simp [dE] at h
theorem aPt {s:Bool} {ks:List CK} {a b:Value} (h:aBc s ks a b=some true):a=b∧∀n,Instr.sameBits (n+1) a b=true:=by
 unfold aBc at h
 split at h
 ·split at h
  ·rename_i xs ys
   have h1:=nD _ _ _ _ h
   have h3:=(zT ks _ _ 0 h).1
   refine ⟨by rw [Array.toList_inj.1 h3],fun n=>?_⟩
   have h2:=(zT ks _ _ n h).2
   simp only [Array.length_toList] at h1
   simp only [Instr.sameBits,h1.1,h1.2,beq_self_eq_true,Bool.true_and]
   exact h2
  ·cases h
 ·obtain ⟨h1,h2⟩:=nD _ _ _ _ h
  match ks,h1 with
  | [c],_=>
   simp only [dE,Option.map_some,Bool.and_true,Option.bind_eq_some_iff,Option.some.injEq] at h
   obtain ⟨e,he,rfl⟩:=h
   exact ⟨aRv he,fun n=>aMr he _⟩
theorem aPd {s:Bool} {ks:List CK} {k:Value}:∀(es:List MapEntry) (i j:Nat) (v:Value),kA s ks k es i=some (some (j,v))→i≤j∧∃e,es[j - i]? =some e∧e.key=k∧e.val=v∧aBc s ks k e.key=some true
 | [],i,j,v,h=>by simp [kA] at h
 |e::es,i,j,v,h=>by
  simp only [kA] at h
  split at h
  ·rename_i he
   simp only [Option.some.injEq,Prod.mk.injEq] at h
   obtain ⟨rfl,rfl⟩:=h
   exact ⟨Nat.le_refl _,e,by simp,(aPt he).1.symm,rfl,he⟩
  ·rename_i he
   obtain ⟨h1,e',h2,h3⟩:=aPd es (i+1) j v h
   refine ⟨by omega,e',?_,h3⟩
   rw [show j - i=(j - (i+1))+1 from by omega]
   simpa using h2
  ·cases h
theorem aU7 {s:Bool} {ks:List CK} {a b:Value} (h:aBc s ks a b=some true):(Instr.keyThatStays b a).run P w=.ok a w:=by
 obtain ⟨rfl,h2⟩:=aPt h
 unfold Instr.keyThatStays
 rw [if_pos (h2 9999)]
 rfl
end
end Go.K
