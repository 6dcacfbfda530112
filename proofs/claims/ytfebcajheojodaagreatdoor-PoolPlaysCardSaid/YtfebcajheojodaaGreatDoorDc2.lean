/- The engine, part 2: a resolved operation is what the operation does. -/
import Derived.Test.YtfebcajheojodaaGreatDoorDc1
set_option linter.unusedVariables false
set_option linter.unusedSimpArgs false
section
namespace Go.K
open Go
variable {P:Program} {ρ:Env} {w:World}
theorem run_underlying1 {t:TypeId} {d:TypeDesc} (h:P.underlying t=some d) (w:World):(underlying t).run P w=.ok d w:=by
 show (match P.underlying t with|some d=>(pure d:Sem TypeDesc)|none=>stuck _).run P w=_
 rw [h];rfl
theorem run_typeInfo1 {t:TypeId} {i:TypeInfo} (h:P.info? t=some i) (w:World):(typeInfo t).run P w=.ok i w:=by
 show (match P.info? t with|some d=>(pure d:Sem TypeInfo)|none=>stuck _).run P w=_
 rw [h];rfl
theorem run_sizeOf1 {t:TypeId} {i:TypeInfo} (h:P.info? t=some i) (w:World):(sizeOf t).run P w=.ok i.size w:=by
 simp [sizeOf,run_typeInfo1 h]
theorem fieldOf_some {t:TypeId} {i:Nat} {f:Field} (h:fieldOf P t i=some f):∃fs,P.underlying t=some (.struct fs)∧fs[i]? =some f:=by
 unfold fieldOf at h
 split at h
 ·exact ⟨_,‹_›,h⟩
 ·cases h
theorem aggSize_some {t:TypeId} {n:Nat} (h:aggSize P t=some (some n)) (w:World):(isAgg t).run P w=.ok true w∧(sizeOf t).run P w=.ok n w:=by
 unfold aggSize at h
 split at h
 ·rename_i i h1 h2;cases h;exact ⟨by simp [isAgg,run_underlying1 h1],run_sizeOf1 h2 w⟩
 ·rename_i i h1 h2;cases h;exact ⟨by simp [isAgg,run_underlying1 h1],run_sizeOf1 h2 w⟩
 ·cases h
 ·cases h
theorem aggSize_none {t:TypeId} (h:aggSize P t=some none) (w:World):(isAgg t).run P w=.ok false w:=by
 unfold aggSize at h
 split at h
 ·cases h
 ·cases h
 ·rename_i d i h3 h1 h2
  cases d<;>simp_all [isAgg,run_underlying1 ‹P.underlying t=some _›]
 ·cases h
theorem add_zero (a:Addr):a.add 0=a:=by simp [Addr.add]
theorem run_loadCellsFrom {a:Addr}:∀(n i:Nat) (acc:Array Value) (l:List Value),rdCells w a i n=some l→(loadCellsFrom a i n acc).run P w=.ok (acc++l.toArray) w
 |0,i,acc,l,h=>by
  simp only [rdCells,Option.some.injEq] at h
  subst h
  simp [loadCellsFrom]
 |n+1,i,acc,l,h=>by
  simp only [rdCells,Option.bind_eq_some_iff,Option.map_eq_some_iff] at h
  obtain ⟨v,hv,r,hr,rfl⟩:=h
  have h2:=run_loadCellsFrom n (i+1) (acc.push v) r hr
  have h1:(load (a.add i)).run P w=.ok v w:=by simp [load,Sem.run,hv]
  simp only [loadCellsFrom,Sem.run_bind,h1,Result.andThen_ok,h2]
  simp
theorem beqList (a b:ByteArray):(a.toList==b.toList)=decide (a=b):=by
 rw [Bool.eq_iff_iff,ByteArray.toList_eq,ByteArray.toList_eq];obtain ⟨⟨x⟩⟩:=a;obtain ⟨⟨y⟩⟩:=b;simp
theorem beqInt (a b:Int):(a==b)=decide (a=b):=by rw [Bool.eq_iff_iff];simp
theorem bneInt (a b:Int):(a !=b)= !decide (a=b):=by rw [Bool.eq_iff_iff];simp
theorem bin_sound {op : BinOp} {t : TypeId} {x y : Value} {v : Value} (h : binVal op x y = some v) : (binOp op t x y).run P w = .ok v w := by
  unfold binVal at h
  split at h
  · rename_i k a k' b
    by_cases hs : isShift op = true
    · rw [if_pos hs] at h
      split at h
      · cases h
      · rename_i hb
        cases op <;> simp [isShift] at hs <;> simp only [Option.some.injEq] at h <;> subst h <;> simp [binOp, Op.shift, hb]
    · rw [if_neg hs] at h
      split at h
      · rename_i hk
        subst hk
        cases op <;> simp only [isShift, not_true_eq_false] at hs <;> simp only [intBin] at h <;>
          first
          | (simp only [Option.some.injEq] at h; subst h; simp [binOp, Op.intArith, Op.intBits, Op.intCmp, beqInt, bneInt]; done)
          | (split at h
             · cases h
             · simp only [Option.some.injEq] at h; subst h; simp [binOp, Op.intDiv, *]; done)
          | cases h
      · cases h
  · rename_i a b
    cases op <;> simp only [strBin] at h <;>
      first
      | (simp only [Option.some.injEq] at h; subst h; simp [binOp, Op.stringOp, beqList]; done)
      | (by_cases hc : ((a.size + b.size : Nat) : Int) > IntKind.i64.max
         · rw [if_pos hc] at h; cases h
         · rw [if_neg hc] at h; simp only [Option.some.injEq] at h; subst h; simp only [binOp, Op.stringOp]; rw [if_neg hc]; rfl)
      | cases h
  · cases h
theorem eqGuard_noagg {op:BinOp} {t:TypeId} {x y:Operand} {a b:Value} (h1:∀u v,¬(a=.nilIface∧b=.nilIface)∧¬(a=.agg u∧b=.agg v)):(eqGuard op t x y a b).run P w=.ok () w:=by
 unfold eqGuard
 cases op<;>(try rfl)<;>simp only [Bool.not_true,Bool.false_eq_true,if_false]<;>split
 all_goals first
  |exact absurd ⟨rfl,rfl⟩ (h1 #[] #[]).1
  |exact absurd ⟨rfl,rfl⟩ (h1 _ _).2
  |rfl
theorem eqGuard_noneq {op:BinOp} {t:TypeId} {x y:Operand} {a b:Value} (h1:¬(op=.eql∨op=.neq)):(eqGuard op t x y a b).run P w=.ok () w:=by
 unfold eqGuard
 cases op<;>simp at h1<;>rfl
theorem eqGuard_const {op:BinOp} {t:TypeId} {x y:Operand} {a b:Value} (h1:(Region.isConst x||Region.isConst y)=true) (h2:∀u v,¬(a=.agg u∧b=.agg v)):(eqGuard op t x y a b).run P w=.ok () w:=by
 unfold eqGuard
 cases op<;>(try rfl)<;>simp only [Bool.not_true,Bool.false_eq_true,if_false]<;>split
 all_goals first
  |exact absurd ⟨rfl,rfl⟩ (h2 _ _)
  |rfl
  |(cases x<;>cases y<;>simp [Region.isConst] at h1<;>rfl)
theorem nilEq_sound' {t:TypeId} {d:TypeDesc} {q:EqK} (hd:P.underlying t=some d) (hq:eqK d=some q) {x y:Value} {r:Bool} (h:nilEq q x y=some r) (n:Nat):(Op.equalIn (n+1) t x y).run P w=.ok r w:=by
 unfold nilEq at h
 simp only [Op.equalIn,Sem.run_bind,run_underlying1 hd w,Result.andThen_ok]
 split at h<;>first|(cases h;done)|(simp only [Option.some.injEq] at h;subst h;cases d<;>simp only [eqK,Option.some.injEq,reduceCtorEq] at hq<;>first|(simp;done)|skip)
theorem nilEq_sound {t:TypeId} {d:TypeDesc} {q:EqK} (hd:P.underlying t=some d) (hq:eqK d=some q) {x y:Value} {r:Bool} (h:nilEq q x y=some r):(Op.equal t x y).run P w=.ok r w:=
 nilEq_sound' hd hq h 9999
theorem cellsEq_append:∀(k1 k2:List CK) (a b c d:List Value) (r:Bool),a.length=k1.length→c.length=k1.length→cellsEq (k1++k2) (a++b) (c++d)=some r→∃r1 r2,cellsEq k1 a c=some r1∧cellsEq k2 b d=some r2∧r=(r1&&r2)
 | [],k2, [],b, [],d,r,_,_,h=>⟨true,r,rfl,h,by simp⟩
 |k::k1,k2,x::a,b,y::c,d,r,hl,hl',h=>by
  simp only [List.cons_append,cellsEq,Option.bind_eq_some_iff,Option.map_eq_some_iff] at h
  obtain ⟨e,he,r',hr',rfl⟩:=h
  obtain ⟨r1,r2,h1,h2,rfl⟩:=cellsEq_append k1 k2 a b c d r' (by simpa using hl) (by simpa using hl') hr'
  exact ⟨e&&r1,r2,by simp [cellsEq,he,h1],h2,by simp [Bool.and_assoc]⟩
theorem cellsEq_len:∀(ks:List CK) (a b:List Value) (r:Bool),cellsEq ks a b=some r→a.length=ks.length∧b.length=ks.length
 | [], [], [],_,_=>⟨rfl,rfl⟩
 |k::ks,x::a,y::b,r,h=>by
  simp only [cellsEq,Option.bind_eq_some_iff,Option.map_eq_some_iff] at h
  obtain ⟨e,he,r',hr',rfl⟩:=h
  have:=cellsEq_len ks a b r' hr'
  simp [this]
 | [], [],_::_,_,h=>by simp [cellsEq] at h
 | [],_::_,_,_,h=>by simp [cellsEq] at h
 |_::_, [],_,_,h=>by simp [cellsEq] at h
 |_::_,_::_, [],_,h=>by simp [cellsEq] at h
def valIn (P:Program) (t:TypeId) (cs:List Value):Value:=
 match P.underlying t with
 |some (.struct _)=>.agg cs.toArray
 |_=>cs.getD 0 undef
theorem valIn_struct {t:TypeId} {fs:Array Field} (h:P.underlying t=some (.struct fs)) (cs:List Value):valIn P t cs=.agg cs.toArray:=by unfold valIn;rw [h]
theorem part_scal {t:TypeId} {off:Nat} {cs:Array Value} {dd:TypeDesc} (hd:P.underlying t=some dd) (h1:∀f,dd≠.struct f) (h2:∀a b,dd≠.array a b) (hl:off+1≤cs.size):
  (part t cs off).run P w=.ok (valIn P t ((cs.toList.drop off).take 1)) w:=by
 have hlt:off<cs.size:=by omega
 have hag:(isAgg t).run P w=.ok false w:=by
  simp only [isAgg,Sem.run_bind,run_underlying1 hd w,Result.andThen_ok]
  cases dd<;>first|rfl|exact absurd rfl (h1 _)|exact absurd rfl (h2 _ _)
 simp only [part,Sem.run_bind,hag,Result.andThen_ok,Bool.false_eq_true,if_false,Array.getElem?_eq_getElem hlt]
 have hv:valIn P t ((cs.toList.drop off).take 1)=cs[off]:=by
  unfold valIn
  rw [hd]
  cases dd<;>first|exact absurd rfl (h1 _)|(simp [List.getElem?_drop,hlt])
 rw [hv];rfl
theorem part_valIn {t:TypeId} {ks:List CK} {off:Nat} {d:Nat} {cs:Array Value} (hf:flatKs P d t=some ks) (hs:(P.info? t).map (·.size)=some ks.length) (hl:off+ks.length≤cs.size):
  (part t cs off).run P w=.ok (valIn P t ((cs.toList.drop off).take ks.length)) w:=by
 cases d with
 |zero=>cases hf
 |succ d=>
  obtain ⟨i,hi,hik⟩:=Option.map_eq_some_iff.1 hs
  simp only [flatKs] at hf
  split at hf
  ·injection hf with hf;subst hf;exact part_scal ‹_› (by simp) (by simp) hl
  ·injection hf with hf;subst hf;exact part_scal ‹_› (by simp) (by simp) hl
  ·injection hf with hf;subst hf;exact part_scal ‹_› (by simp) (by simp) hl
  ·rename_i fs hu
   have hag:(isAgg t).run P w=.ok true w:=by simp [isAgg,run_underlying1 hu]
   simp only [part,Sem.run_bind,hag,Result.andThen_ok,if_true,run_sizeOf1 hi]
   have hv:valIn P t ((cs.toList.drop off).take ks.length)=.agg (cs.extract off (off+i.size)):=by
    rw [valIn_struct hu,hik]
    congr 1
    apply Array.ext'
    simp [Array.toList_extract,List.extract_eq_take_drop]
   rw [hv];rfl
  ·cases hf
def fsFold (P:Program) (d:Nat) (fs:List Field) (ks:Option (List CK)):Option (List CK):=
 fs.foldl (fun acc f=>acc.bind fun ks=>(flatKs P d f.type).bind fun l=>if f.name≠ "_" ∧f.offset=ks.length∧(P.info? f.type).map (·.size)=some l.length then some (ks++l) else none) ks
theorem fsFold_none {d:Nat}:∀(fs:List Field),fsFold P d fs none=none
 | []=>rfl
 |f::fs=>by unfold fsFold;simp only [List.foldl_cons,Option.bind_none];exact fsFold_none fs
theorem fsFold_cons {d:Nat} {f:Field} {fs:List Field} {ks out:List CK} (h:fsFold P d (f::fs) (some ks)=some out):
  ∃l,flatKs P d f.type=some l∧f.name≠ "_" ∧f.offset=ks.length∧(P.info? f.type).map (·.size)=some l.length∧fsFold P d fs (some (ks++l))=some out:=by
 unfold fsFold at h
 simp only [List.foldl_cons,Option.bind_some] at h
 cases hl:flatKs P d f.type with
 |none=>rw [hl] at h;simp only [Option.bind_none] at h;exact absurd ((fsFold_none (d:=d) fs).symm.trans h) (by simp)
 |some l=>
  rw [hl] at h
  simp only [Option.bind_some] at h
  split at h
  ·rename_i hc;exact ⟨l,rfl,hc.1,hc.2.1,hc.2.2,h⟩
  ·exact absurd ((fsFold_none (d:=d) fs).symm.trans h) (by simp)
theorem fsFold_pre {d:Nat}:∀(fs:List Field) (ks out:List CK),fsFold P d fs (some ks)=some out→∃l,out=ks++l
 | [],ks,out,h=>⟨[],by simp [fsFold] at h;simp [h]⟩
 |f::fs,ks,out,h=>by
  obtain ⟨l,_,_,_,_,h2⟩:=fsFold_cons h
  obtain ⟨l2,rfl⟩:=fsFold_pre fs _ _ h2
  exact ⟨l++l2,by simp⟩
theorem flat_eq:∀(d:Nat) (t:TypeId) (ks:List CK),flatKs P d t=some ks→∀(xs ys:List Value) (r:Bool),cellsEq ks xs ys=some r→∀m,(Op.equalIn (d+m) t (valIn P t xs) (valIn P t ys)).run P w=.ok r w
 |0,_,_,h,_,_,_,_,_=>by cases h
 |d+1,t,ks,h,xs,ys,r,hr,m=>by
  simp only [flatKs] at h
  rw [show d+1+m=(d+m)+1 from by omega]
  have one:∀(c:CK),ks= [c]→∃x y,xs= [x]∧ys= [y]∧cellEq c x y=some r:=by
   intro c hc
   subst hc
   obtain ⟨h1,h2⟩:=cellsEq_len _ _ _ _ hr
   match xs,ys,h1,h2 with
   | [x], [y],_,_=>
    simp only [cellsEq,Option.map_some,Bool.and_true,Option.bind_eq_some_iff,Option.some.injEq] at hr
    obtain ⟨b,hb,rfl⟩:=hr
    exact ⟨x,y,rfl,rfl,hb⟩
  split at h
  ·rename_i hu
   obtain ⟨x,y,rfl,rfl,hb⟩:=one .b (by injection h with h;exact h.symm)
   simp only [valIn,hu,List.getD_cons_zero]
   unfold cellEq at hb
   split at hb<;>simp_all
   subst hb;exact run_equalIn_bool' w _ _ _ _ hu
  ·rename_i kk hu
   obtain ⟨x,y,rfl,rfl,hb⟩:=one .i (by injection h with h;exact h.symm)
   simp only [valIn,hu,List.getD_cons_zero]
   unfold cellEq at hb
   split at hb<;>simp_all
   obtain ⟨rfl,rfl⟩:=hb;rw [run_equalIn_int w _ _ _ _ _ _ hu,beqInt]
  ·rename_i hu
   obtain ⟨x,y,rfl,rfl,hb⟩:=one .s (by injection h with h;exact h.symm)
   simp only [valIn,hu,List.getD_cons_zero]
   unfold cellEq at hb
   split at hb<;>simp_all
   subst hb;rw [run_equalIn_string w _ _ _ _ hu,beqList]
  ·rename_i fs hu
   split at h
   ·cases h
   ·rename_i hst
    rw [valIn_struct hu,valIn_struct hu]
    have hfo:P.fieldsOf t=fs:=by unfold Program.fieldsOf;rw [hu]
    rw [run_equalIn_struct w _ t _ _ (by rw [hfo];exact hu) (by simpa using hst),hfo]
    have key:∀(l:List Field) (k1 out:List CK) (x1 x2 y1 y2:List Value) (r2:Bool),fsFold P d l (some k1)=some out→x1.length=k1.length→y1.length=k1.length→
      cellsEq (out.drop k1.length) x2 y2=some r2→(Op.eqFields (d+m) (x1++x2).toArray (y1++y2).toArray l).run P w=.ok r2 w:=by
     intro l
     induction l with
     |nil=>
      intro k1 out x1 x2 y1 y2 r2 hf hx hy hc
      simp only [fsFold,List.foldl_nil,Option.some.injEq] at hf
      subst hf
      rw [List.drop_length] at hc
      obtain ⟨h1,h2⟩:=cellsEq_len _ _ _ _ hc
      obtain rfl:=List.length_eq_zero_iff.1 h1
      obtain rfl:=List.length_eq_zero_iff.1 h2
      simp only [cellsEq,Option.some.injEq] at hc
      subst hc
      rfl
     |cons f l ihl=>
      intro k1 out x1 x2 y1 y2 r2 hf hx hy hc
      obtain ⟨lk,hlk,hn,ho,hsz,hrest⟩:=fsFold_cons hf
      obtain ⟨tail,hout⟩:=fsFold_pre l _ _ hrest
      have hd:out.drop k1.length=lk++tail:=by rw [hout];simp
      rw [hd] at hc
      obtain ⟨hlx,hly⟩:=cellsEq_len _ _ _ _ hc
      simp only [List.length_append] at hlx hly
      have ex:x2=x2.take lk.length++x2.drop lk.length:=(List.take_append_drop _ _).symm
      have ey:y2=y2.take lk.length++y2.drop lk.length:=(List.take_append_drop _ _).symm
      have tx:(x2.take lk.length).length=lk.length:=by simp;omega
      have ty:(y2.take lk.length).length=lk.length:=by simp;omega
      rw [ex,ey] at hc
      obtain ⟨r1,r3,hc1,hc2,rfl⟩:=cellsEq_append lk tail _ _ _ _ r2 tx ty hc
      have px:(part f.type (x1++x2).toArray f.offset).run P w=.ok (valIn P f.type (x2.take lk.length)) w:=by
       have:=part_valIn (w:=w) (off:=f.offset) (cs:=(x1++x2).toArray) hlk hsz (by simp;omega)
       rw [this,ho];simp [←hx]
      have py:(part f.type (y1++y2).toArray f.offset).run P w=.ok (valIn P f.type (y2.take lk.length)) w:=by
       have:=part_valIn (w:=w) (off:=f.offset) (cs:=(y1++y2).toArray) hlk hsz (by simp;omega)
       rw [this,ho];simp [←hy]
      have pe:=flat_eq d f.type lk hlk _ _ r1 hc1 m
      simp only [Op.eqFields,hn,ne_eq,not_false_eq_true,if_true,Sem.run_bind,px,Result.andThen_ok,py,pe]
      cases r1 with
      |false=>simp
      |true=>
       simp only [Bool.not_true,Bool.false_eq_true,if_false,Bool.true_and]
       have:=ihl (k1++lk) out (x1++x2.take lk.length) (x2.drop lk.length) (y1++y2.take lk.length) (y2.drop lk.length) r3 hrest (by simp [hx];omega) (by simp [hy];omega) (by rw [hout];simpa using hc2)
       simpa [List.append_assoc] using this
    exact key fs.toList [] ks [] xs [] ys r h rfl rfl (by simpa using hr)
  ·cases h
theorem kindsOK_len:∀(ks:List CK) (l:List Value),kindsOK ks l=true→l.length=ks.length
 | [], [],_=>rfl
 |_::ks,_::l,h=>by
  simp only [kindsOK,Bool.and_eq_true] at h
  simp [kindsOK_len ks l h.2]
 | [],_::_,h=>by simp [kindsOK] at h
 |_::_, [],h=>by simp [kindsOK] at h
theorem kindsOK_append:∀(k1 k2:List CK) (a b:List Value),a.length=k1.length→kindsOK (k1++k2) (a++b)=true→kindsOK k1 a=true∧kindsOK k2 b=true
 | [],k2, [],b,_,h=>⟨rfl,h⟩
 |k::k1,k2,x::a,b,hl,h=>by
  simp only [List.cons_append,kindsOK,Bool.and_eq_true] at h ⊢
  have:=kindsOK_append k1 k2 a b (by simpa using hl) h.2
  exact ⟨⟨h.1,this.1⟩,this.2⟩
theorem checkKey_flat {em:Bool}:∀(d:Nat) (t:TypeId) (ks:List CK),flatKs P d t=some ks→∀(xs:List Value),kindsOK ks xs=true→∀m,(Instr.checkKey em (d+m) t (valIn P t xs)).run P w=.ok () w
 |0,_,_,h,_,_,_=>by cases h
 |d+1,t,ks,h,xs,hr,m=>by
  simp only [flatKs] at h
  rw [show d+1+m=(d+m)+1 from by omega]
  have one:∀(c:CK),ks= [c]→∃x,xs= [x]∧kindOK c x=true:=by
   intro c hc
   subst hc
   have h1:=kindsOK_len _ _ hr
   match xs,h1 with
   | [x],_=>exact ⟨x,rfl,by simpa [kindsOK] using hr⟩
  split at h
  ·rename_i hu
   simp [Instr.checkKey,run_underlying1 hu]
  ·rename_i hu
   simp [Instr.checkKey,run_underlying1 hu]
  ·rename_i hu
   simp [Instr.checkKey,run_underlying1 hu]
  ·rename_i fs hu
   split at h
   ·cases h
   ·rw [valIn_struct hu]
    have key:∀(l:List Field) (k1 out:List CK) (x1 x2:List Value),fsFold P d l (some k1)=some out→x1.length=k1.length→
      kindsOK (out.drop k1.length) x2=true→(forIn (m:=Sem) l PUnit.unit fun f _=>do
       if f.name≠ "_" then Instr.checkKey em (d+m) f.type (←part f.type (x1++x2).toArray f.offset)
       pure (ForInStep.yield PUnit.unit)).run P w=.ok PUnit.unit w:=by
     intro l
     induction l with
     |nil=>intro k1 out x1 x2 hf hx hc;rfl
     |cons f l ihl=>
      intro k1 out x1 x2 hf hx hc
      obtain ⟨lk,hlk,hn,ho,hsz,hrest⟩:=fsFold_cons hf
      obtain ⟨tail,hout⟩:=fsFold_pre l _ _ hrest
      have hd:out.drop k1.length=lk++tail:=by rw [hout];simp
      rw [hd] at hc
      have hlx:=kindsOK_len _ _ hc
      simp only [List.length_append] at hlx
      have ex:x2=x2.take lk.length++x2.drop lk.length:=(List.take_append_drop _ _).symm
      have tx:(x2.take lk.length).length=lk.length:=by simp;omega
      rw [ex] at hc
      obtain ⟨hc1,hc2⟩:=kindsOK_append lk tail _ _ tx hc
      have px:(part f.type (x1++x2).toArray f.offset).run P w=.ok (valIn P f.type (x2.take lk.length)) w:=by
       have:=part_valIn (w:=w) (off:=f.offset) (cs:=(x1++x2).toArray) hlk hsz (by simp;omega)
       rw [this,ho];simp [←hx]
      have pe:=checkKey_flat (em:=em) d f.type lk hlk _ hc1 m
      have ih:=ihl (k1++lk) out (x1++x2.take lk.length) (x2.drop lk.length) hrest (by simp [hx];omega) (by rw [hout];simpa using hc2)
      have e1:x1++x2.take lk.length++x2.drop lk.length=x1++x2:=by rw [List.append_assoc,←ex]
      rw [e1] at ih
      rw [List.forIn_cons]
      simp only [Sem.run_bind,hn,ne_eq,not_false_eq_true,if_true,px,Result.andThen_ok,pe,Sem.run_pure,ih]
    have:=key fs.toList [] ks [] xs h rfl (by simpa using hr)
    simp only [Instr.checkKey,Sem.run_bind,run_underlying1 hu,Result.andThen_ok]
    rw [←Array.forIn_toList]
    simp at this ⊢
    rw [this];rfl
  ·cases h
def isStr (P:Program) (t:TypeId):Bool:=match P.underlying t with|some (.struct _)=>true|_=>false
theorem flat_scal {d:Nat} {t:TypeId} {ks:List CK} (h:flatKs P d t=some ks) (hs:isStr P t=false):(P.underlying t=some .bool∧ks= [.b])∨(∃k,P.underlying t=some (.int k)∧ks= [.i])∨(P.underlying t=some .string∧ks= [.s]):=by
 cases d with
 |zero=>cases h
 |succ d=>
  simp only [flatKs] at h
  split at h
  ·rename_i hu;injection h with h;exact .inl ⟨hu,h.symm⟩
  ·rename_i k hu;injection h with h;exact .inr (.inl ⟨k,hu,h.symm⟩)
  ·rename_i hu;injection h with h;exact .inr (.inr ⟨hu,h.symm⟩)
  ·rename_i fs hu;simp [isStr,hu] at hs
  ·cases h
theorem keyEq_run {t:TypeId} {ks:List CK} (h:flatKs P 20 t=some ks) {a b:Value} {r:Bool} (he:keyEq (isStr P t) ks a b=some r):(Op.equal t a b).run P w=.ok r w:=by
 unfold keyEq at he
 split at he
 ·rename_i hs
  split at he
  ·rename_i xs ys
   have hu:∃fs,P.underlying t=some (.struct fs):=by
    unfold isStr at hs;split at hs
    ·exact ⟨_,‹_›⟩
    ·cases hs
   obtain ⟨fs,hu⟩:=hu
   have:=flat_eq (w:=w) 20 t ks h _ _ r he 9980
   rw [valIn_struct hu,valIn_struct hu] at this
   exact this
  ·cases he
 ·rename_i hs
  have hv:∀x:Value,valIn P t [x]=x:=by
   intro x
   rcases flat_scal h (by simpa using hs) with ⟨hu,_⟩|⟨k,hu,_⟩|⟨hu,_⟩<;>simp [valIn,hu]
  have:=flat_eq (w:=w) 20 t ks h _ _ r he 9980
  rw [hv,hv] at this
  exact this
theorem keyOK_run {em:Bool} {t:TypeId} {ks:List CK} (h:flatKs P 20 t=some ks) {a:Value} (he:keyOK (isStr P t) ks a=true):(Instr.checkKey em 10000 t a).run P w=.ok () w:=by
 unfold keyOK at he
 split at he
 ·rename_i hs
  split at he
  ·rename_i xs
   have hu:∃fs,P.underlying t=some (.struct fs):=by
    unfold isStr at hs;split at hs
    ·exact ⟨_,‹_›⟩
    ·cases hs
   obtain ⟨fs,hu⟩:=hu
   have:=checkKey_flat (w:=w) (em:=em) 20 t ks h _ he 9980
   rw [valIn_struct hu] at this
   exact this
  ·cases he
 ·rename_i hs
  have hv:∀x:Value,valIn P t [x]=x:=by
   intro x
   rcases flat_scal h (by simpa using hs) with ⟨hu,_⟩|⟨k,hu,_⟩|⟨hu,_⟩<;>simp [valIn,hu]
  have:=checkKey_flat (w:=w) (em:=em) 20 t ks h _ he 9980
  rw [hv] at this
  exact this
theorem asking_run {t:TypeId} {ks:List CK} (h:flatKs P 20 t=some ks) {k:Value}:∀(es:List MapEntry) (i:Nat) (r:Option (Nat × Value)),findK (isStr P t) ks k es i=some r→(Instr.findAsking t k es i).run P w=.ok r w
 | [],i,r,hf=>by simp only [findK,Option.some.injEq] at hf;subst hf;rfl
 |e::es,i,r,hf=>by
  simp only [findK] at hf
  split at hf
  ·rename_i he
   simp only [Option.some.injEq] at hf;subst hf
   simp [Instr.findAsking,keyEq_run h he]
  ·rename_i he
   simp [Instr.findAsking,keyEq_run h he,asking_run h es (i+1) r hf]
  ·cases hf
theorem findNow_eq {d:TypeDesc} {c:CK} (hc:(d=.bool∧c=.b)∨(∃k,d=.int k∧c=.i)∨(d=.string∧c=.s)) {k:Value}:∀(es:List MapEntry) (i:Nat) (r:Option (Nat × Value)),findK false [c] k es i=some r→Instr.findNow d k es i=some r
 | [],i,r,hf=>by simp only [findK,Option.some.injEq] at hf;subst hf;rfl
 |e::es,i,r,hf=>by
  simp only [findK] at hf
  have hsame:∀b,keyEq false [c] k e.key=some b→Instr.sameNow d k e.key=some b:=by
   intro b hb
   simp only [keyEq,Bool.false_eq_true,if_false,cellsEq,Option.map_some,Bool.and_true] at hb
   generalize e.key=y at hb
   rcases hc with ⟨rfl,rfl⟩|⟨q,rfl,rfl⟩|⟨rfl,rfl⟩
   ·unfold cellEq at hb;split at hb<;>simp_all [Instr.sameNow]
   ·unfold cellEq at hb;split at hb<;>simp_all [Instr.sameNow,beqInt]
   ·unfold cellEq at hb
    split at hb<;>simp_all [Instr.sameNow]
    rw [←hb,beq_toListBytes,beqList]
  split at hf
  ·rename_i he
   simp only [Instr.findNow,hsame _ he];exact hf
  ·rename_i he
   simp only [Instr.findNow,hsame _ he];exact findNow_eq hc es (i+1) r hf
  ·cases hf
theorem findNow_struct {fs:Array Field} {k:Value} {e:MapEntry} {es:List MapEntry}:Instr.findNow (.struct fs) k (e::es) 0=none:=by
 simp [Instr.findNow,Instr.sameNow]
theorem findK_run {t:TypeId} {ks:List CK} (h:flatKs P 20 t=some ks) {k:Value} {es:List MapEntry} {r:Option (Nat × Value)} (hf:findK (isStr P t) ks k es 0=some r):(Instr.findKey t k es).run P w=.ok r w:=by
 unfold Instr.findKey
 by_cases hs:isStr P t=true
 ·have hu:∃fs,P.underlying t=some (.struct fs):=by
   unfold isStr at hs;split at hs
   ·exact ⟨_,‹_›⟩
   ·cases hs
  obtain ⟨fs,hu⟩:=hu
  simp only [Sem.run_bind,run_underlying1 hu,Result.andThen_ok]
  cases es with
  |nil=>simp only [findK,Option.some.injEq] at hf;subst hf;rfl
  |cons e es=>
   rw [findNow_struct]
   exact asking_run h _ 0 r hf
 ·have hs':isStr P t=false:=by simpa using hs
  rw [hs'] at hf
  rcases flat_scal h hs' with ⟨hu,rfl⟩|⟨q,hu,rfl⟩|⟨hu,rfl⟩
  ·simp [run_underlying1 hu,findNow_eq (.inl ⟨rfl,rfl⟩) es 0 r hf]
  ·simp [run_underlying1 hu,findNow_eq (.inr (.inl ⟨q,rfl,rfl⟩)) es 0 r hf]
  ·simp [run_underlying1 hu,findNow_eq (.inr (.inr ⟨rfl,rfl⟩)) es 0 r hf]
theorem cellEq_bits {c:CK} {a b:Value} (h:cellEq c a b=some true) (n:Nat):Instr.sameBits n a b=true:=by
 unfold cellEq at h
 split at h<;>simp_all [Instr.sameBits]
 rw [beq_toListBytes,beqList];simp
theorem cellEq_eq {c:CK} {a b:Value} (h:cellEq c a b=some true):a=b:=by
 unfold cellEq at h
 split at h<;>simp_all
theorem cellsEq_bits:∀(ks:List CK) (a b:List Value) (n:Nat),cellsEq ks a b=some true→a=b∧((a.zip b).all fun (x,y)=>Instr.sameBits n x y)=true
 | [], [], [],_,_=>⟨rfl,rfl⟩
 |c::ks,x::a,y::b,n,h=>by
  simp only [cellsEq,Option.bind_eq_some_iff,Option.map_eq_some_iff] at h
  obtain ⟨e,he,r,hr,hb⟩:=h
  simp only [Bool.and_eq_true] at hb
  obtain ⟨rfl,rfl⟩:=hb
  have h1:=cellEq_bits he n
  have h2:=cellEq_eq he
  obtain ⟨h3,h4⟩:=cellsEq_bits ks a b n hr
  refine ⟨by rw [h2,h3],?_⟩
  simp only [List.zip_cons_cons,List.all_cons,h1,Bool.true_and]
  exact h4
 | [], [],_::_,_,h=>by simp [cellsEq] at h
 | [],_::_,_,_,h=>by simp [cellsEq] at h
 |_::_, [],_,_,h=>by simp [cellsEq] at h
 |_::_,_::_, [],_,h=>by simp [cellsEq] at h
theorem keyEq_bits {s:Bool} {ks:List CK} {a b:Value} (h:keyEq s ks a b=some true):a=b∧∀n,Instr.sameBits (n+1) a b=true:=by
 unfold keyEq at h
 split at h
 ·split at h
  ·rename_i xs ys
   have h1:=cellsEq_len _ _ _ _ h
   have h3:=(cellsEq_bits ks _ _ 0 h).1
   refine ⟨by rw [Array.toList_inj.1 h3],fun n=>?_⟩
   have h2:=(cellsEq_bits ks _ _ n h).2
   simp only [Array.length_toList] at h1
   simp only [Instr.sameBits,h1.1,h1.2,beq_self_eq_true,Bool.true_and]
   exact h2
  ·cases h
 ·obtain ⟨h1,h2⟩:=cellsEq_len _ _ _ _ h
  match ks,h1 with
  | [c],_=>
   simp only [cellsEq,Option.map_some,Bool.and_true,Option.bind_eq_some_iff,Option.some.injEq] at h
   obtain ⟨e,he,rfl⟩:=h
   exact ⟨cellEq_eq he,fun n=>cellEq_bits he _⟩
theorem findK_some {s:Bool} {ks:List CK} {k:Value}:∀(es:List MapEntry) (i j:Nat) (v:Value),findK s ks k es i=some (some (j,v))→i≤j∧∃e,es[j - i]? =some e∧e.key=k∧e.val=v∧keyEq s ks k e.key=some true
 | [],i,j,v,h=>by simp [findK] at h
 |e::es,i,j,v,h=>by
  simp only [findK] at h
  split at h
  ·rename_i he
   simp only [Option.some.injEq,Prod.mk.injEq] at h
   obtain ⟨rfl,rfl⟩:=h
   exact ⟨Nat.le_refl _,e,by simp,(keyEq_bits he).1.symm,rfl,he⟩
  ·rename_i he
   obtain ⟨h1,e',h2,h3⟩:=findK_some es (i+1) j v h
   refine ⟨by omega,e',?_,h3⟩
   rw [show j - i=(j - (i+1))+1 from by omega]
   simpa using h2
  ·cases h
theorem keyStays_run {s:Bool} {ks:List CK} {a b:Value} (h:keyEq s ks a b=some true):(Instr.keyThatStays b a).run P w=.ok a w:=by
 obtain ⟨rfl,h2⟩:=keyEq_bits h
 unfold Instr.keyThatStays
 rw [if_pos (h2 9999)]
 rfl
end Go.K
end
