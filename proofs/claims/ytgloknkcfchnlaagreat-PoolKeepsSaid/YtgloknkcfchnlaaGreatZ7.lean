/- Functions whose calls leave the world as it was, and what th -/
import Derived.Test.YtgloknkcfchnlaaGreatZ5
import Derived.Test.YtgloknkcfchnlaaGreatZ6
set_option linter.unusedVariables false
set_option linter.unusedSimpArgs false
namespace Go.Proofs.YtgloknkcfchnlaaGreat
section
open Go Go.K
attribute [local irreducible] aF aP bG KOp.wp
theorem aUv {k:IntKind} {args:List Value} {v:Value} (h:bEf k args=some v):∃(x:W32) (n:Nat),args= [u32 x,.int k (n:Nat)]∧0<n∧n<32∧v=u32 (rot x n):=by
 unfold bEf at h
 split at h
 ·rename_i a k n
  split at h
  ·rename_i hc
   refine ⟨BitVec.ofInt 32 a,n.toNat,?_,by omega,by omega,by simpa using h.symm⟩
   have e1:((BitVec.ofInt 32 a).toNat:Int)=a:=by rw [BitVec.toNat_ofInt];omega
   have e2:((n.toNat:Nat):Int)=n:=by omega
   rw [u32,e1,e2,hc.1]
  ·cases h
 ·cases h
attribute [local irreducible] u32
theorem aT6 (a b:Int) (w:World):K.Spec Tryz.prog F.amount_within [.int .i64 a,.int .i64 b] w fun v w'=>v=.bool (decide (0≤a∧a≤b))∧w'=w:=by
 refine aOo rfl ?_
 unfold tG
 repeat (first|refine go ?_|refine zg λ_ _=>?_|refine zi λ_ _=>?_)
 refine sA rfl (fun h=>?_) (fun h=>?_)
 ·repeat (first|refine go ?_|refine zg λ_ _=>?_|refine zi λ_ _=>?_)
  refine aA rfl ⟨congrArg Value.bool ?_,rfl⟩
  have h:0≤a:=h
  simp [h]
 ·repeat (first|refine go ?_|refine zg λ_ _=>?_|refine zi λ_ _=>?_)
  refine aA rfl ⟨congrArg Value.bool ?_,rfl⟩
  have h:¬0≤a:=h
  simp [h]
theorem bJb (a b:Int) (w:World):K.Spec Tryz.prog F.tx_within [.int .i64 a,.int .i64 b] w fun v w'=>v=.bool (decide (1≤a∧a≤b))∧w'=w:=by
 refine aX0 rfl ?_
 unfold aEq
 repeat (first|refine go ?_|refine zg λ_ _=>?_|refine zi λ_ _=>?_)
 refine sA rfl (fun h=>?_) (fun h=>?_)
 ·repeat (first|refine go ?_|refine zg λ_ _=>?_|refine zi λ_ _=>?_)
  refine aA rfl ⟨congrArg Value.bool ?_,rfl⟩
  have h:1≤a:=h
  simp [h]
 ·repeat (first|refine go ?_|refine zg λ_ _=>?_|refine zi λ_ _=>?_)
  refine aA rfl ⟨congrArg Value.bool ?_,rfl⟩
  have h:¬1≤a:=h
  simp [h]
theorem bRx (a:Int) (w:World):K.Spec Tryz.prog F.amount_Good [.int .i64 a] w fun v w'=>v=.bool (cD a)∧w'=w:=by
 refine aTg rfl ?_
 unfold yH
 repeat (first|refine go ?_|refine zg λ_ _=>?_|refine zi λ_ _=>?_)
 refine iB rfl (aT6 _ _ _) ?_
 rintro _ w1 ⟨rfl,rfl⟩
 repeat (first|refine go ?_|refine zg λ_ _=>?_|refine zi λ_ _=>?_)
 exact aA rfl ⟨rfl,rfl⟩
theorem bOp (a:Int) (w:World):K.Spec Tryz.prog F.kedgeref01_Good [.int .i64 a] w fun v w'=>v=.bool (cD a)∧w'=w:=by
 refine aJj rfl ?_
 unfold qD
 repeat (first|refine go ?_|refine zg λ_ _=>?_|refine zi λ_ _=>?_)
 refine sA rfl (fun h=>?_) (fun h=>?_)
 ·repeat (first|refine go ?_|refine zg λ_ _=>?_|refine zi λ_ _=>?_)
  refine aA rfl ⟨congrArg Value.bool ?_,rfl⟩
  have h:0≤a:=h
  simp [cD,h]
 ·repeat (first|refine go ?_|refine zg λ_ _=>?_|refine zi λ_ _=>?_)
  refine aA rfl ⟨congrArg Value.bool ?_,rfl⟩
  have h:¬0≤a:=h
  simp [cD,h]
theorem bJ4 (x:W32) (n:Nat) (h0:0<n) (hn:n<32) (w:World):K.Spec Tryz.prog F.kedgeref04_right [u32 x,.int .u64 (n:Nat)] w fun v w'=>v=u32 (rot x n)∧w'=w:=by
 refine aH7 rfl ?_
 unfold nQ
 repeat (first|(apply z0;conv=>arg 4;arg 3;whnf)|apply z1|apply zf|apply zh|apply zj|apply zl|apply zm|apply zo|apply zp)
 refine cR rfl rfl (aWq x .u64 n hn) ?_
 repeat (first|(apply z0;conv=>arg 4;arg 3;whnf)|apply z1|apply zf|apply zh|apply zj|apply zl|apply zm|apply zo|apply zp)
 refine cR (v:=.int .u64 ((32 - n:Nat):Int)) rfl rfl (by
  have:IntKind.u64.wrap (32 - (n:Int))=((32 - n:Nat):Int):=by
   have e:∀m:Int,IntKind.u64.wrap m=m%18446744073709551616:=fun _=>rfl
   rw [e];omega
  show dS .sub .u64 32 (n:Nat)=_
  simp [dS,this]) ?_
 repeat (first|(apply z0;conv=>arg 4;arg 3;whnf)|apply z1|apply zf|apply zh|apply zj|apply zl|apply zm|apply zo|apply zp)
 refine cR rfl rfl (aWe x .u64 (32 - n) (by omega)) ?_
 repeat (first|(apply z0;conv=>arg 4;arg 3;whnf)|apply z1|apply zf|apply zh|apply zj|apply zl|apply zm|apply zo|apply zp)
 refine cR rfl rfl (bE4 _ _) ?_
 repeat (first|(apply z0;conv=>arg 4;arg 3;whnf)|apply z1|apply zf|apply zh|apply zj|apply zl|apply zm|apply zo|apply zp)
 exact aA rfl ⟨rfl,rfl⟩
theorem bQt (x:W32) (n:Nat) (h0:0<n) (hn:n<32) (w:World):K.Spec Tryz.prog F.math_bits_RotateLeft32 [u32 x,.int .i64 (-(n:Int))] w fun v w'=>v=u32 (rot x n)∧w'=w:=by
 refine yN rfl ?_
 unfold iP
 repeat (first|(apply z0;conv=>arg 4;arg 3;whnf)|apply z1|apply zf|apply zh|apply zj|apply zl|apply zm|apply zo|apply zp)
 refine dH rfl rfl ?_
 repeat (first|(apply z0;conv=>arg 4;arg 3;whnf)|apply z1|apply zf|apply zh|apply zj|apply zl|apply zm|apply zo|apply zp)
 refine cR rfl rfl (bPp n h0 hn) ?_
 repeat (first|(apply z0;conv=>arg 4;arg 3;whnf)|apply z1|apply zf|apply zh|apply zj|apply zl|apply zm|apply zo|apply zp)
 refine cR rfl rfl (aWe x .u64 (32 - n) (by omega)) ?_
 repeat (first|(apply z0;conv=>arg 4;arg 3;whnf)|apply z1|apply zf|apply zh|apply zj|apply zl|apply zm|apply zo|apply zp)
 refine cR (v:=.int .u64 (n:Nat)) rfl rfl (by
  have:IntKind.u64.wrap (32 - ((32 - n:Nat):Int))=(n:Int):=by
   have e:∀m:Int,IntKind.u64.wrap m=m%18446744073709551616:=fun _=>rfl
   rw [e];omega
  show dS .sub .u64 32 ((32 - n:Nat):Int)=_
  simp [dS,this]) ?_
 repeat (first|(apply z0;conv=>arg 4;arg 3;whnf)|apply z1|apply zf|apply zh|apply zj|apply zl|apply zm|apply zo|apply zp)
 refine cR rfl rfl (aWq x .u64 n hn) ?_
 repeat (first|(apply z0;conv=>arg 4;arg 3;whnf)|apply z1|apply zf|apply zh|apply zj|apply zl|apply zm|apply zo|apply zp)
 refine cR rfl rfl (bE4 _ _) ?_
 repeat (first|(apply z0;conv=>arg 4;arg 3;whnf)|apply z1|apply zf|apply zh|apply zj|apply zl|apply zm|apply zo|apply zp)
 refine aA rfl ⟨?_,rfl⟩
 show u32 _=u32 _
 rw [rot,BitVec.or_comm]
theorem bO5 (x:W32) (n:Nat) (h0:0<n) (hn:n<32) (w:World):K.Spec Tryz.prog F.sha_right [u32 x,.int .i64 (n:Nat)] w fun v w'=>v=u32 (rot x n)∧w'=w:=by
 refine bAk rfl ?_
 unfold aDh
 repeat (first|(apply z0;conv=>arg 4;arg 3;whnf)|apply z1|apply zf|apply zh|apply zj|apply zl|apply zm|apply zo|apply zp)
 refine dH (v:=.int .i64 (-(n:Int))) rfl (by
  have:IntKind.i64.wrap (0 - (n:Int))= -(n:Int):=by rw [IntWalk.i64_in _ (by omega)];omega
  simp only [KOp.fix]
  show dS .sub .i64 0 (n:Nat)=_
  simp only [dS,this]) ?_
 repeat (first|(apply z0;conv=>arg 4;arg 3;whnf)|apply z1|apply zf|apply zh|apply zj|apply zl|apply zm|apply zo|apply zp)
 refine iB rfl (bQt x n h0 hn _) ?_
 rintro _ w1 ⟨rfl,rfl⟩
 repeat (first|(apply z0;conv=>arg 4;arg 3;whnf)|apply z1|apply zf|apply zh|apply zj|apply zl|apply zm|apply zo|apply zp)
 exact aA rfl ⟨rfl,rfl⟩
def bSt:FuncId→Option (List Value→Option Value):=fun f=>
 if Nat.beq f F.amount_within=true then some bRv else if Nat.beq f F.tx_within=true then some bQ5 else if Nat.beq f F.amount_Good=true then some aU8 else if Nat.beq f F.kedgeref01_Good=true then some aU8
 else if Nat.beq f F.sha_right=true then some bSp else if Nat.beq f F.kedgeref04_right=true then some bSc else none
theorem aFx {f:FuncId} {args:List Value} {w:World} {u v:Value} (h:K.Spec Tryz.prog f args w fun v w'=>v=u∧w'=w) (e:u=v):Calls Tryz.prog f args.toArray w fun e w'=>e=.returned v∧w'=w:=
 h.mono fun _ _ ⟨_,h1,h2,h3⟩=>⟨by rw [h1,h2,e],h3⟩
theorem aR6 {m:Int} {args:List Value} {v:Value} (h:aUc m args=some v):∃a b,args= [.int .i64 a,.int .i64 b]∧Value.bool (decide (m≤a∧a≤b))=v:=by
 unfold aUc at h;split at h
 ·exact ⟨_,_,rfl,by simpa using h⟩
 ·cases h
theorem aPw {args:List Value} {v:Value} (h:aU8 args=some v):∃a,args= [.int .i64 a]∧Value.bool (cD a)=v:=by
 unfold aU8 at h;split at h
 ·exact ⟨_,rfl,by simpa using h⟩
 ·cases h
instance quiet:Quiet Tryz.prog where
 tab:=bSt
 ok:=by
  intro f G args v w h hv
  unfold bSt at h
  split at h
  ·rename_i e;obtain rfl:=Nat.eq_of_beq_eq_true e;cases h
   obtain ⟨a,b,rfl,e⟩:=aR6 hv
   exact aFx (aT6 a b w) e
  split at h
  ·rename_i e;obtain rfl:=Nat.eq_of_beq_eq_true e;cases h
   obtain ⟨a,b,rfl,e⟩:=aR6 hv
   exact aFx (bJb a b w) e
  split at h
  ·rename_i e;obtain rfl:=Nat.eq_of_beq_eq_true e;cases h
   obtain ⟨a,rfl,e⟩:=aPw hv
   exact aFx (bRx a w) e
  split at h
  ·rename_i e;obtain rfl:=Nat.eq_of_beq_eq_true e;cases h
   obtain ⟨a,rfl,e⟩:=aPw hv
   exact aFx (bOp a w) e
  split at h
  ·rename_i e;obtain rfl:=Nat.eq_of_beq_eq_true e;cases h
   obtain ⟨x,n,rfl,h0,h1,rfl⟩:=aUv hv
   exact aFx (bO5 x n h0 h1 w) rfl
  split at h
  ·rename_i e;obtain rfl:=Nat.eq_of_beq_eq_true e;cases h
   obtain ⟨x,n,rfl,h0,h1,rfl⟩:=aUv hv
   exact aFx (bJ4 x n h0 h1 w) rfl
  ·cases h
end
section
open Go Go.K
abbrev CS (n:Nat) (k:KC) (rs:List RV) (f:Nat):Prop:=∀{args:List Value} {w:World} {R:Value→World→Prop},Nat.ble args.length n=true→aP Tryz.prog k (bG rs R) (jZ args) w→K.Spec Tryz.prog f args w R
theorem cs {n f:Nat} {k:KC} {rs:List RV} {fn:Func} (hf:Tryz.prog.funcs[f]? =some fn) (hrs:aFd Tryz.prog fn n=some rs) (hk:eE Tryz.prog n (aG fn)=k) (hb:fn.body=some (aG fn):=by exact rfl) (hn:fn.ntmps=n:=by exact rfl):CS n k rs f:=
 fun ha h=>jP mixed hf hb hn hrs hk (Nat.le_of_ble_eq_true ha) h
@[irreducible] noncomputable def mo:TypeId→Value→String→Bool:=aZr Tryz.prog
end
end Go.Proofs.YtgloknkcfchnlaaGreat
namespace Go.K
section
open Go
def eD (l:List En) (p:Pt):Option Nat:=l.findIdx? fun e=>decide (e.1=p)
def fC (l:List En) (p:Pt):Int:=match eD l p with
 |some i=>i
 |none=> -1
theorem aM5 {l:List En} {p:Pt}:eD l p=none↔∀e∈l,e.1≠p:=by simp [eD,List.findIdx?_eq_none_iff]
theorem aE7 {l:List En} {p:Pt} {i:Nat}:eD l p=some i↔∃h:i<l.length,l[i].1=p∧∀j,∀hj:j<i,l[j].1≠p:=by
 rw [eD,List.findIdx?_eq_some_iff_getElem];simp
theorem bAb {l:List En} {i:Nat} (h:i<l.length):tot (l.take (i+1))=tot (l.take i)+l[i].2.v:=by
 rw [List.take_succ_eq_append_getElem h,iM];simp
theorem lT {l:List En} (h:Mon l) (i:Nat):0≤tot (l.take i)∧tot (l.take i)≤tot l:=by
 have h1:0≤tot (l.take i):=Mon.pos fun e he=>h.1 e (List.mem_of_mem_take he)
 have h2:0≤tot (l.drop i):=Mon.pos fun e he=>h.1 e (List.mem_of_mem_drop he)
 have h3:tot l=tot (l.take i)+tot (l.drop i):=by rw [←iM,List.take_append_drop]
 omega
def iV (p:Pt) (c:Cn) (s:List En × Bool) (e:En):List En × Bool:=if lK p e.1&&!s.2 then (s.1++ [(p,c)]++ [e],true) else (s.1++ [e],s.2)
def dO (p:Pt) (c:Cn) (l:List En):List En × Bool:=l.foldl (iV p c) ([],false)
def aXl (p:Pt) (c:Cn) (l:List En):List En:=if (dO p c l).2 then (dO p c l).1 else (dO p c l).1++ [(p,c)]
theorem aN6 {p:Pt} {c:Cn} {l:List En} {i:Nat} (h:i<l.length):dO p c (l.take (i+1))=iV p c (dO p c (l.take i)) l[i]:=by
 rw [List.take_succ_eq_append_getElem h,dO,List.foldl_append];rfl
theorem bCj (p:Pt) (c:Cn) (l:List En):(dO p c l).1.length≤l.length+1∧((dO p c l).2=false→(dO p c l).1.length=l.length):=by
 have key:∀(l:List En) (s:List En × Bool),(l.foldl (iV p c) s).1.length+(if s.2 then 1 else 0)=s.1.length+l.length+(if (l.foldl (iV p c) s).2 then 1 else 0):=by
  intro l
  induction l with
  |nil=>intro s;cases h:s.2<;>simp [h]
  |cons e l ih=>
   intro s
   rw [List.foldl_cons]
   have:=ih (iV p c s e)
   rw [List.length_cons]
   unfold iV at this ⊢
   by_cases h:lK p e.1=true
   ·cases hs:s.2
    ·simp [h,hs] at this ⊢;omega
    ·simp [h,hs] at this ⊢;omega
   ·simp [h] at this ⊢;omega
 have:=key l ([],false)
 simp only [List.length_nil,Nat.zero_add,Bool.false_eq_true,if_false,Nat.add_zero] at this
 unfold dO
 constructor
 ·split at this<;>omega
 ·intro h;rw [h] at this;simpa using this
def aX (l:List En) (p:Pt) (c:Cn):Int:=if dR p c then (if (eD l p).isSome then 7 else if cD (tot l+c.v) then 0 else 3) else 2
def dD (l:List En) (p:Pt) (c:Cn):List En:=if aX l p c=0 then aXl p c l else l
def cW (l:List En) (p:Pt):Int:=if (eD l p).isSome then 0 else 8
def cP (l:List En) (p:Pt):List En:=match eD l p with
 |some i=>l.eraseIdx i
 |none=>l
def eV (l:List En) (p:Pt):Cn:=match eD l p with
 |some i=>((l[i]?).map (·.2)).getD cn0
 |none=>cn0
theorem aJo {l:List En} {p:Pt} {n:Nat} (h:eD l p=some n) (hn:n<l.length):eV l p=l[n].2:=by
 unfold eV;rw [h];simp [List.getElem?_eq_getElem hn]
theorem aLi {l:List En} {p:Pt} {n:Nat} (h:eD l p=some n):cW l p=0:=by rw [cW,h];rfl
theorem xH {l:List En} {p:Pt} {c:Cn} (h:dR p c=false):aX l p c=2:=by rw [aX,h];rfl
theorem aYx {l:List En} {p:Pt} {c:Cn} {n:Nat} (h:dR p c=true) (hd:eD l p=some n):aX l p c=7:=by rw [aX,h,hd];rfl
theorem aM2 {l:List En} {p:Pt} {c:Cn} (h:dR p c=true) (hd:eD l p=none):aX l p c=if cD (tot l+c.v) then 0 else 3:=by rw [aX,h,hd];rfl
theorem bDg {p:Pt} {c:Cn} {l:List En} {i:Nat} (h:i<l.length) (h1:lK p l[i].1=true) (h2:(dO p c (l.take i)).2=false):dO p c (l.take (i+1))=((dO p c (l.take i)).1++ [(p,c)]++ [l[i]],true):=by
 rw [aN6 h,iV,h1,h2];rfl
theorem bD1 {p:Pt} {c:Cn} {l:List En} {i:Nat} (h:i<l.length) (h1:lK p l[i].1=false∨(dO p c (l.take i)).2=true):dO p c (l.take (i+1))=((dO p c (l.take i)).1++ [l[i]],(dO p c (l.take i)).2):=by
 rw [aN6 h,iV]
 rcases h1 with h1|h1<;>rw [h1]<;>simp
theorem aG2 {l:List En} {i n:Nat} (h:i<l.length):(l.take (i+1)).eraseIdx n=if i=n then (l.take i).eraseIdx n else (l.take i).eraseIdx n++ [l[i]]:=by
 rw [List.take_succ_eq_append_getElem h]
 by_cases e:i=n
 ·subst e
  rw [if_pos rfl,List.eraseIdx_append_of_length_le (by simp;omega)]
  have e1:i - (l.take i).length=0:=by simp;omega
  rw [e1,List.eraseIdx_of_length_le (l:=l.take i) (by simp;omega)];simp
 ·rw [if_neg e]
  by_cases hl:i<n
  ·rw [List.eraseIdx_of_length_le (by simp;omega),List.eraseIdx_of_length_le (by simp;omega)]
  ·rw [List.eraseIdx_append_of_lt_length (by simp;omega)]
def Srt (l:List En):Prop:=l.Pairwise fun a b=>lK a.1 b.1=true
theorem aK5:∀{l' l:List En},l'.Perm l→l'.Pairwise (fun a b=>lK b.1 a.1=false)→Srt l→l'=l
 | [],l,hp,_,_=>by rw [List.nil_perm.1 hp]
 |y::ys, [],hp,_,_=>by have:=hp.length_eq;simp at this
 |y::ys,x::xs,hp,h1,h2=>by
  have h2':=List.pairwise_cons.1 h2
  have h1':=List.pairwise_cons.1 h1
  have e:y=x:=by
   have hy:y∈x::xs:=hp.mem_iff.1 (by simp)
   have hx:x∈y::ys:=hp.mem_iff.2 (by simp)
   rcases List.mem_cons.1 hy with h|h
   ·exact h
   ·rcases List.mem_cons.1 hx with g|g
    ·exact g.symm
    ·have a:=h2'.1 y h
     have b:=h1'.1 x g
     rw [a] at b;cases b
  subst e
  rw [aK5 (List.Perm.cons_inv hp) h1'.2 h2'.2]
end
section
open Go
theorem pE {l:List En} (h:Srt l):(l.map (·.1)).Nodup:=by
 rw [List.Nodup,List.pairwise_map]
 exact h.imp fun hab e=>by rw [e,aDb] at hab;cases hab
theorem vN {m:List En} {p:Pt} {c:Cn} (hn:(m.map (·.1)).Nodup) (h:(p,c)∈m):aL m p=some c:=by
 induction m with
 |nil=>cases h
 |cons e m ih=>
  simp only [List.map_cons,List.nodup_cons] at hn
  rw [aU2]
  rcases List.mem_cons.1 h with h|h
  ·subst h;simp
  ·rw [if_neg,ih hn.2 h]
   intro e1
   exact hn.1 (e1▸List.mem_map_of_mem (f:=(·.1)) h)
theorem aAe {m l:List En} (hp:m.Perm l) (hs:Srt l) (p:Pt):aL m p=aL l p:=by
 have hl:=pE hs
 have hm:(m.map (·.1)).Nodup:=(hp.map _).nodup_iff.2 hl
 cases h:aL l p with
 |some c=>exact vN hm (hp.mem_iff.2 (lF h))
 |none=>
  cases h2:aL m p with
  |none=>rfl
  |some c=>rw [vN hl (hp.mem_iff.1 (lF h2))] at h;cases h
theorem mX {l:List En} {p:Pt} {n:Nat} (h:eD l p=some n) (hn:n<l.length):aL l p=some l[n].2:=by
 rw [vU];unfold eD at h;rw [h];simp [List.getElem?_eq_getElem hn]
theorem mY {l:List En} {p:Pt} (h:eD l p=none):aL l p=none:=by
 rw [vU];unfold eD at h;rw [h];rfl
theorem aDg {l:List En} {p:Pt} {n:Nat} (h:eD l p=some n):n<l.length:=(aE7.1 h).1
theorem aCg (l:List En) (p:Pt):(aL l p).isSome=(eD l p).isSome:=by
 cases h:eD l p with
 |none=>rw [mY h];rfl
 |some n=>rw [mX h (aDg h)];rfl
section
variable {m l:List En} (hp:m.Perm l) (hs:Srt l)
include hp hs
theorem aUb (p:Pt):aBd m p=cW l p:=by
 rw [aBd,cW,aAe hp hs,aCg]
theorem aFo (p:Pt):lR m p=eV l p:=by
 rw [lR,aAe hp hs]
 cases h:eD l p with
 |none=>rw [mY h,eV,h];rfl
 |some n=>rw [mX h (aDg h),aJo h (aDg h)];rfl
theorem aSr (p:Pt) (c:Cn):gK m p c=aX l p c:=by
 rw [gK,aX,aAe hp hs,aCg,zW hp]
end
theorem mN {l:List En} (hs:Srt l) (p:Pt):cP l p=jL l p:=by
 unfold cP
 cases h:eD l p with
 |none=>exact (aNz (by unfold eD at h;exact h)).symm
 |some n=>exact (aIz (pE hs) (by unfold eD at h;exact h)).symm
theorem aPn {m l:List En} (hp:m.Perm l) (hs:Srt l) (p:Pt):(aI8 m p).Perm (cP l p)∧Srt (cP l p)∧(cP l p).length≤l.length:=by
 rw [mN hs,aI8]
 refine ⟨hp.filter _,?_,List.length_filter_le _ _⟩
 exact List.Pairwise.sublist List.filter_sublist hs
def ins (p:Pt) (c:Cn):List En→List En
 | []=> [(p,c)]
 |e::l=>if lK p e.1 then (p,c)::e::l else e::ins p c l
theorem aYb (p:Pt) (c:Cn):∀(l out:List En),l.foldl (iV p c) (out,true)=(out++l,true)
 | [],out=>by simp
 |e::l,out=>by
  rw [List.foldl_cons]
  have:iV p c (out,true) e=(out++ [e],true):=by simp [iV]
  rw [this,aYb p c l];simp
theorem aVm (p:Pt) (c:Cn):∀(l out:List En),(let s:=l.foldl (iV p c) (out,false);if s.2 then s.1 else s.1++ [(p,c)])=out++ins p c l
 | [],out=>by simp [ins]
 |e::l,out=>by
  rw [List.foldl_cons]
  by_cases h:lK p e.1=true
  ·have:iV p c (out,false) e=(out++ [(p,c)]++ [e],true):=by simp [iV,h]
   rw [this,aYb]
   simp [ins,h]
  ·have h:lK p e.1=false:=by simpa using h
   have:iV p c (out,false) e=(out++ [e],false):=by simp [iV,h]
   rw [this,aVm p c l]
   simp [ins,h]
theorem bG8 (p:Pt) (c:Cn) (l:List En):aXl p c l=ins p c l:=by
 have:=aVm p c l []
 rw [List.nil_append] at this
 exact this
theorem aP9 (p:Pt) (c:Cn):∀l:List En,(ins p c l).Perm ((p,c)::l)
 | []=>List.Perm.refl _
 |e::l=>by
  unfold ins
  split
  ·exact List.Perm.refl _
  ·exact ((aP9 p c l).cons e).trans (List.Perm.swap _ _ _)
theorem bFv (p:Pt) (c:Cn):∀{l:List En},Srt l→(∀e∈l,e.1≠p)→Srt (ins p c l)
 | [],_,_=>by simp [ins,Srt]
 |e::l,hs,hn=>by
  have hs':=List.pairwise_cons.1 hs
  unfold ins
  split
  ·rename_i h
   refine List.pairwise_cons.2 ⟨fun x hx=>?_,hs⟩
   rcases List.mem_cons.1 hx with h1|h1
   ·rw [h1];exact h
   ·exact aBv h (hs'.1 x h1)
  ·rename_i h
   refine List.pairwise_cons.2 ⟨fun x hx=>?_,bFv p c hs'.2 (fun x hx=>hn x (by simp [hx]))⟩
   rcases List.mem_cons.1 ((aP9 p c l).mem_iff.1 hx) with h1|h1
   ·rw [h1]
    cases h2:lK e.1 p
    ·exact absurd (bAh h2 (by simpa using h)) (hn e (by simp))
    ·rfl
   ·exact hs'.1 x h1
theorem aFb {m l:List En} (hp:m.Perm l) (hs:Srt l) (p:Pt) (c:Cn):(vQ m p c).Perm (dD l p c)∧Srt (dD l p c)∧(dD l p c).length≤l.length+1:=by
 have hc:=aSr hp hs p c
 unfold vQ dD
 rw [hc]
 split
 ·rename_i h0
  rw [bG8]
  have hi:eD l p=none:=by
   unfold aX at h0
   cases h:eD l p with
   |none=>rfl
   |some n=>
    rw [h] at h0
    simp only [Option.isSome_some,if_true] at h0
    split at h0<;>omega
  have h1:=aP9 p c l
  refine ⟨?_,bFv p c hs (aM5.1 hi),by rw [h1.length_eq];simp⟩
  refine List.Perm.trans ?_ h1.symm
  exact (List.perm_append_singleton (p,c) m).trans (hp.cons _)
 ·exact ⟨hp,hs,by omega⟩
end
end Go.K
