/- The engine, part 19: steps and facts carried on, as argument -/
import Derived.Test.YteceapipdhnhdaaGreatDoorNa5
import Derived.Test.YteceapipdhnhdaaGreatDoorNa6
set_option linter.unusedVariables false
set_option linter.unusedSimpArgs false
namespace Go.K
section
open Go
theorem fx {p:Prop} (h:p:=by focus(repeat(first|assumption|exact Ext.refl _|((first|apply Bld.x|apply dB.ext|apply qH.ext|apply Row.ext|apply SlR.x|apply R.x|apply bH.x|apply nG.x|apply SlE.x|apply Ext.c|apply bSl);first|assumption|exact Ext.drew _)|exact Nat.le_refl _))):p:=h
structure Held (b:Prop):Prop where
 out:b
theorem atx {p:Prop} (h:p:=by focus(repeat(first|assumption|(apply At.ext;first|assumption|exact Ext.drew _)));first|done|fail):p:=h
theorem hsz {p:Prop} (h:p:=by (repeat' first|exact trivial|refine ⟨rfl,?_⟩)):p:=h
theorem zgR {P:Program} {r:KR} {b:KC} {K:Exit→Env→World→Prop} {ρ:Env} {w:World} (h:aH P r (aM P b K) ρ w.drew):aM P (.seq (.reg true r) b) K ρ w:=h
theorem ziR {P:Program} {r:KR} {K:Exit→Env→World→Prop} {ρ:Env} {w:World} (h:aH P r (K .normal) ρ w.drew):aM P (.reg true r) K ρ w:=h
theorem go {a b:Prop} (k:b) (h:Held b→a:=by intro hheld;(first|(apply z0;conv=>arg 4;arg 3;whnf)|apply z1|(apply zO;focus((conv=>lhs;whnf)<;>(first|with_reducible exact rfl|(refine congrArg Value.bool ?_;decide))))|(apply zP;(focus((conv=>lhs;whnf)<;>with_reducible exact rfl));(focus decide))|(apply zQ;focus((conv=>lhs;whnf)<;>exact rfl))|refine z4 rfl rfl ?_|refine z5 rfl rfl (by omega) ?_|refine z6 rfl rfl (by omega) ?_|(refine z7 rfl rfl ?_;conv=>arg 4;arg 3;whnf)|refine zF (qG _) ?_|refine zF (qF _ _ _) ?_|((first|apply zb rfl|apply za rfl|apply z9 rfl|apply z8 rfl|apply ze rfl|apply zd rfl|apply zc rfl);(focus(repeat(first|assumption|(apply Row.ext;first|assumption|exact Ext.drew _))));(first|exact Nat.le_of_ble_eq_true rfl|rfl);(try rfl))|apply zf|apply zh|apply zj|apply zk|apply zl|apply zm|apply zn|apply zo|apply zp|apply zq|apply zr|apply zs|apply zt|refine zu (by decide) ?_|apply zv|apply zw|apply zx|(apply zy;focus((conv=>lhs;whnf)<;>(first|with_reducible exact rfl|(refine congrArg Value.bool ?_;decide))))|(apply zz;focus((conv=>lhs;whnf)<;>(first|with_reducible exact rfl|(refine congrArg Value.bool ?_;decide))))|apply zA|fail);(repeat (first|(apply z0;conv=>arg 4;arg 3;whnf)|apply z1|(apply zO;focus((conv=>lhs;whnf)<;>(first|with_reducible exact rfl|(refine congrArg Value.bool ?_;decide))))|(apply zP;(focus((conv=>lhs;whnf)<;>with_reducible exact rfl));(focus decide))|(apply zQ;focus((conv=>lhs;whnf)<;>exact rfl))|refine z4 rfl rfl ?_|refine z5 rfl rfl (by omega) ?_|refine z6 rfl rfl (by omega) ?_|(refine z7 rfl rfl ?_;conv=>arg 4;arg 3;whnf)|refine zF (qG _) ?_|refine zF (qF _ _ _) ?_|((first|apply zb rfl|apply za rfl|apply z9 rfl|apply z8 rfl|apply ze rfl|apply zd rfl|apply zc rfl);(focus(repeat(first|assumption|(apply Row.ext;first|assumption|exact Ext.drew _))));(first|exact Nat.le_of_ble_eq_true rfl|rfl);(try rfl))|apply zf|apply zh|apply zj|apply zk|apply zl|apply zm|apply zn|apply zo|apply zp|apply zq|apply zr|apply zs|apply zt|refine zu (by decide) ?_|apply zv|apply zw|apply zx|(apply zy;focus((conv=>lhs;whnf)<;>(first|with_reducible exact rfl|(refine congrArg Value.bool ?_;decide))))|(apply zz;focus((conv=>lhs;whnf)<;>(first|with_reducible exact rfl|(refine congrArg Value.bool ?_;decide))))|apply zA|fail));exact hheld.out):a:=h ⟨k⟩
theorem go1 {a b:Prop} (k:b) (h:Held b→a:=by intro hheld;(first|(apply z0;conv=>arg 4;arg 3;whnf)|apply z1|(apply zO;focus((conv=>lhs;whnf)<;>(first|with_reducible exact rfl|(refine congrArg Value.bool ?_;decide))))|(apply zP;(focus((conv=>lhs;whnf)<;>with_reducible exact rfl));(focus decide))|(apply zQ;focus((conv=>lhs;whnf)<;>exact rfl))|refine z4 rfl rfl ?_|refine z5 rfl rfl (by omega) ?_|refine z6 rfl rfl (by omega) ?_|(refine z7 rfl rfl ?_;conv=>arg 4;arg 3;whnf)|refine zF (qG _) ?_|refine zF (qF _ _ _) ?_|((first|apply zb rfl|apply za rfl|apply z9 rfl|apply z8 rfl|apply ze rfl|apply zd rfl|apply zc rfl);(focus(repeat(first|assumption|(apply Row.ext;first|assumption|exact Ext.drew _))));(first|exact Nat.le_of_ble_eq_true rfl|rfl);(try rfl))|apply zf|apply zh|apply zj|apply zk|apply zl|apply zm|apply zn|apply zo|apply zp|apply zq|apply zr|apply zs|apply zt|refine zu (by decide) ?_|apply zv|apply zw|apply zx|(apply zy;focus((conv=>lhs;whnf)<;>(first|with_reducible exact rfl|(refine congrArg Value.bool ?_;decide))))|(apply zz;focus((conv=>lhs;whnf)<;>(first|with_reducible exact rfl|(refine congrArg Value.bool ?_;decide))))|apply zA|fail);exact hheld.out):a:=h ⟨k⟩
theorem go2 {a b:Prop} (k:b) (h:Held b→a:=by intro hheld;(first|(apply z0;conv=>arg 4;arg 3;whnf)|apply z1|(apply zO;focus((conv=>lhs;whnf)<;>(first|with_reducible exact rfl|(refine congrArg Value.bool ?_;decide))))|(apply zP;(focus((conv=>lhs;whnf)<;>with_reducible exact rfl));(focus decide))|(apply zQ;focus((conv=>lhs;whnf)<;>exact rfl))|refine z4 rfl rfl ?_|refine z5 rfl rfl (by omega) ?_|refine z6 rfl rfl (by omega) ?_|(refine z7 rfl rfl ?_;conv=>arg 4;arg 3;whnf)|refine zF (qG _) ?_|refine zF (qF _ _ _) ?_|((first|apply zb rfl|apply za rfl|apply z9 rfl|apply z8 rfl|apply ze rfl|apply zd rfl|apply zc rfl);(focus(repeat(first|assumption|(apply Row.ext;first|assumption|exact Ext.drew _))));(first|exact Nat.le_of_ble_eq_true rfl|rfl);(try rfl))|apply zf|apply zh|apply zj|apply zk|apply zl|apply zm|apply zn|apply zo|apply zp|apply zq|apply zr|apply zs|apply zt|refine zu (by decide) ?_|apply zv|apply zw|apply zx|(apply zy;focus((conv=>lhs;whnf)<;>(first|with_reducible exact rfl|(refine congrArg Value.bool ?_;decide))))|(apply zz;focus((conv=>lhs;whnf)<;>(first|with_reducible exact rfl|(refine congrArg Value.bool ?_;decide))))|apply zA|apply zgR|apply ziR|fail);exact hheld.out):a:=h ⟨k⟩
theorem goR {a b:Prop} (k:b) (h:Held b→a:=by intro hheld;(repeat (first|(apply z0;conv=>arg 4;arg 3;whnf)|apply z1|(apply zO;focus((conv=>lhs;whnf)<;>(first|with_reducible exact rfl|(refine congrArg Value.bool ?_;decide))))|(apply zP;(focus((conv=>lhs;whnf)<;>with_reducible exact rfl));(focus decide))|(apply zQ;focus((conv=>lhs;whnf)<;>exact rfl))|refine z4 rfl rfl ?_|refine z5 rfl rfl (by omega) ?_|refine z6 rfl rfl (by omega) ?_|(refine z7 rfl rfl ?_;conv=>arg 4;arg 3;whnf)|refine zF (qG _) ?_|refine zF (qF _ _ _) ?_|((first|apply zb rfl|apply za rfl|apply z9 rfl|apply z8 rfl|apply ze rfl|apply zd rfl|apply zc rfl);(focus(repeat(first|assumption|(apply Row.ext;first|assumption|exact Ext.drew _))));(first|exact Nat.le_of_ble_eq_true rfl|rfl);(try rfl))|apply zf|apply zh|apply zj|apply zk|apply zl|apply zm|apply zn|apply zo|apply zp|apply zq|apply zr|apply zs|apply zt|refine zu (by decide) ?_|apply zv|apply zw|apply zx|(apply zy;focus((conv=>lhs;whnf)<;>(first|with_reducible exact rfl|(refine congrArg Value.bool ?_;decide))))|(apply zz;focus((conv=>lhs;whnf)<;>(first|with_reducible exact rfl|(refine congrArg Value.bool ?_;decide))))|apply zA|apply zgR|apply ziR|fail));exact hheld.out):a:=h ⟨k⟩
end
end Go.K
namespace Go.Proofs.YteceapipdhnhdaaGreatDoor
section
open Go Go.K
attribute [local irreducible] aH aM aY KOp.wp
theorem aS6 {k:IntKind} {args:List Value} {v:Value} (h:bC3 k args=some v):∃(x:W32) (n:Nat),args= [u32 x,.int k (n:Nat)]∧0<n∧n<32∧v=u32 (rot x n):=by
 unfold bC3 at h
 split at h
 ·rename_i a k n
  split at h
  ·rename_i hc
   refine ⟨BitVec.ofInt 32 a,n.toNat,?_,by omega,by omega,by simpa using h.symm⟩
   have e1:((BitVec.ofInt 32 a).toNat:Int)=a:=by rw [BitVec.toNat_ofInt];omega
   have e2:((n.toNat:Nat):Int)=n:=by omega
   rw [u32,e1,e2,hc.1]
  ·cases h
 ·cases h
attribute [local irreducible] u32
theorem aSd (a b:Int) (w:World):K.Spec Tryz.prog F.amount_within [.int .i64 a,.int .i64 b] w fun v w'=>v=.bool (decide (0≤a∧a≤b))∧w'=w:=by
 refine aM7 rfl ?_
 unfold rJ
 refine goR ?_
 refine qE rfl (fun h=>?_) (fun h=>?_)
 ·refine goR ?_
  refine aA rfl ⟨congrArg Value.bool ?_,rfl⟩
  have h:0≤a:=h
  simp [h]
 ·refine goR ?_
  refine aA rfl ⟨congrArg Value.bool ?_,rfl⟩
  have h:¬0≤a:=h
  simp [h]
theorem bHv (a b:Int) (w:World):K.Spec Tryz.prog F.tx_within [.int .i64 a,.int .i64 b] w fun v w'=>v=.bool (decide (1≤a∧a≤b))∧w'=w:=by
 refine aWm rfl ?_
 unfold aC0
 refine goR ?_
 refine qE rfl (fun h=>?_) (fun h=>?_)
 ·refine goR ?_
  refine aA rfl ⟨congrArg Value.bool ?_,rfl⟩
  have h:1≤a:=h
  simp [h]
 ·refine goR ?_
  refine aA rfl ⟨congrArg Value.bool ?_,rfl⟩
  have h:¬1≤a:=h
  simp [h]
theorem bQo (a:Int) (w:World):K.Spec Tryz.prog F.amount_Good [.int .i64 a] w fun v w'=>v=.bool (bT a)∧w'=w:=by
 refine aRl rfl ?_
 unfold wL
 refine goR ?_
 refine gD rfl (aSd _ _ _) ?_
 rintro _ w1 ⟨rfl,rfl⟩
 refine goR ?_
 exact aA rfl ⟨rfl,rfl⟩
theorem bM9 (a:Int) (w:World):K.Spec Tryz.prog F.kedgeref01_Good [.int .i64 a] w fun v w'=>v=.bool (bT a)∧w'=w:=by
 refine aH2 rfl ?_
 unfold nL
 refine goR ?_
 refine qE rfl (fun h=>?_) (fun h=>?_)
 ·refine goR ?_
  refine aA rfl ⟨congrArg Value.bool ?_,rfl⟩
  have h:0≤a:=h
  simp [bT,h]
 ·refine goR ?_
  refine aA rfl ⟨congrArg Value.bool ?_,rfl⟩
  have h:¬0≤a:=h
  simp [bT,h]
theorem bIq (x:W32) (n:Nat) (h0:0<n) (hn:n<32) (w:World):K.Spec Tryz.prog F.kedgeref04_right [u32 x,.int .u64 (n:Nat)] w fun v w'=>v=u32 (rot x n)∧w'=w:=by
 refine aGj rfl ?_
 unfold lO
 repeat (first|(apply z0;conv=>arg 4;arg 3;whnf)|apply z1|apply zf|apply zh|apply zj|apply zl|apply zm|apply zo|apply zp)
 refine dF rfl rfl (aU5 x .u64 n hn) ?_
 repeat (first|(apply z0;conv=>arg 4;arg 3;whnf)|apply z1|apply zf|apply zh|apply zj|apply zl|apply zm|apply zo|apply zp)
 refine dF (v:=.int .u64 ((32 - n:Nat):Int)) rfl rfl (by
  have:IntKind.u64.wrap (32 - (n:Int))=((32 - n:Nat):Int):=by
   have e:∀m:Int,IntKind.u64.wrap m=m%18446744073709551616:=fun _=>rfl
   rw [e];omega
  show dG .sub .u64 32 (n:Nat)=_
  simp [dG,this]) ?_
 repeat (first|(apply z0;conv=>arg 4;arg 3;whnf)|apply z1|apply zf|apply zh|apply zj|apply zl|apply zm|apply zo|apply zp)
 refine dF rfl rfl (aUs x .u64 (32 - n) (by omega)) ?_
 repeat (first|(apply z0;conv=>arg 4;arg 3;whnf)|apply z1|apply zf|apply zh|apply zj|apply zl|apply zm|apply zo|apply zp)
 refine dF rfl rfl (bDt _ _) ?_
 repeat (first|(apply z0;conv=>arg 4;arg 3;whnf)|apply z1|apply zf|apply zh|apply zj|apply zl|apply zm|apply zo|apply zp)
 exact aA rfl ⟨rfl,rfl⟩
theorem bPc (x:W32) (n:Nat) (h0:0<n) (hn:n<32) (w:World):K.Spec Tryz.prog F.math_bits_RotateLeft32 [u32 x,.int .i64 (-(n:Int))] w fun v w'=>v=u32 (rot x n)∧w'=w:=by
 refine wR rfl ?_
 unfold gS
 repeat (first|(apply z0;conv=>arg 4;arg 3;whnf)|apply z1|apply zf|apply zh|apply zj|apply zl|apply zm|apply zo|apply zp)
 refine cS rfl rfl ?_
 repeat (first|(apply z0;conv=>arg 4;arg 3;whnf)|apply z1|apply zf|apply zh|apply zj|apply zl|apply zm|apply zo|apply zp)
 refine dF rfl rfl (bOc n h0 hn) ?_
 repeat (first|(apply z0;conv=>arg 4;arg 3;whnf)|apply z1|apply zf|apply zh|apply zj|apply zl|apply zm|apply zo|apply zp)
 refine dF rfl rfl (aUs x .u64 (32 - n) (by omega)) ?_
 repeat (first|(apply z0;conv=>arg 4;arg 3;whnf)|apply z1|apply zf|apply zh|apply zj|apply zl|apply zm|apply zo|apply zp)
 refine dF (v:=.int .u64 (n:Nat)) rfl rfl (by
  have:IntKind.u64.wrap (32 - ((32 - n:Nat):Int))=(n:Int):=by
   have e:∀m:Int,IntKind.u64.wrap m=m%18446744073709551616:=fun _=>rfl
   rw [e];omega
  show dG .sub .u64 32 ((32 - n:Nat):Int)=_
  simp [dG,this]) ?_
 repeat (first|(apply z0;conv=>arg 4;arg 3;whnf)|apply z1|apply zf|apply zh|apply zj|apply zl|apply zm|apply zo|apply zp)
 refine dF rfl rfl (aU5 x .u64 n hn) ?_
 repeat (first|(apply z0;conv=>arg 4;arg 3;whnf)|apply z1|apply zf|apply zh|apply zj|apply zl|apply zm|apply zo|apply zp)
 refine dF rfl rfl (bDt _ _) ?_
 repeat (first|(apply z0;conv=>arg 4;arg 3;whnf)|apply z1|apply zf|apply zh|apply zj|apply zl|apply zm|apply zo|apply zp)
 refine aA rfl ⟨?_,rfl⟩
 show u32 _=u32 _
 rw [rot,BitVec.or_comm]
theorem bNr (x:W32) (n:Nat) (h0:0<n) (hn:n<32) (w:World):K.Spec Tryz.prog F.sha_right [u32 x,.int .i64 (n:Nat)] w fun v w'=>v=u32 (rot x n)∧w'=w:=by
 refine aY5 rfl ?_
 unfold aBz
 repeat (first|(apply z0;conv=>arg 4;arg 3;whnf)|apply z1|apply zf|apply zh|apply zj|apply zl|apply zm|apply zo|apply zp)
 refine cS (v:=.int .i64 (-(n:Int))) rfl (by
  have:IntKind.i64.wrap (0 - (n:Int))= -(n:Int):=by rw [IntWalk.i64_in _ (by omega)];omega
  simp only [KOp.fix]
  show dG .sub .i64 0 (n:Nat)=_
  simp only [dG,this]) ?_
 repeat (first|(apply z0;conv=>arg 4;arg 3;whnf)|apply z1|apply zf|apply zh|apply zj|apply zl|apply zm|apply zo|apply zp)
 refine gD rfl (bPc x n h0 hn _) ?_
 rintro _ w1 ⟨rfl,rfl⟩
 repeat (first|(apply z0;conv=>arg 4;arg 3;whnf)|apply z1|apply zf|apply zh|apply zj|apply zl|apply zm|apply zo|apply zp)
 exact aA rfl ⟨rfl,rfl⟩
def bRk:FuncId→Option (List Value→Option Value):=fun f=>
 if Nat.beq f F.amount_within=true then some bQl else if Nat.beq f F.tx_within=true then some bPu else if Nat.beq f F.amount_Good=true then some aTl else if Nat.beq f F.kedgeref01_Good=true then some aTl
 else if Nat.beq f F.sha_right=true then some bRh else if Nat.beq f F.kedgeref04_right=true then some bQ4 else none
theorem aEf {f:FuncId} {args:List Value} {w:World} {u v:Value} (h:K.Spec Tryz.prog f args w fun v w'=>v=u∧w'=w) (e:u=v):Calls Tryz.prog f args.toArray w fun e w'=>e=.returned v∧w'=w:=
 h.mono fun _ _ ⟨_,h1,h2,h3⟩=>⟨by rw [h1,h2,e],h3⟩
theorem aP8 {m:Int} {args:List Value} {v:Value} (h:aSj m args=some v):∃a b,args= [.int .i64 a,.int .i64 b]∧Value.bool (decide (m≤a∧a≤b))=v:=by
 unfold aSj at h;split at h
 ·exact ⟨_,_,rfl,by simpa using h⟩
 ·cases h
theorem aN2 {args:List Value} {v:Value} (h:aTl args=some v):∃a,args= [.int .i64 a]∧Value.bool (bT a)=v:=by
 unfold aTl at h;split at h
 ·exact ⟨_,rfl,by simpa using h⟩
 ·cases h
instance quiet:Quiet Tryz.prog where
 tab:=bRk
 ok:=by
  intro f G args v w h hv
  unfold bRk at h
  split at h
  ·rename_i e;obtain rfl:=Nat.eq_of_beq_eq_true e;cases h
   obtain ⟨a,b,rfl,e⟩:=aP8 hv
   exact aEf (aSd a b w) e
  split at h
  ·rename_i e;obtain rfl:=Nat.eq_of_beq_eq_true e;cases h
   obtain ⟨a,b,rfl,e⟩:=aP8 hv
   exact aEf (bHv a b w) e
  split at h
  ·rename_i e;obtain rfl:=Nat.eq_of_beq_eq_true e;cases h
   obtain ⟨a,rfl,e⟩:=aN2 hv
   exact aEf (bQo a w) e
  split at h
  ·rename_i e;obtain rfl:=Nat.eq_of_beq_eq_true e;cases h
   obtain ⟨a,rfl,e⟩:=aN2 hv
   exact aEf (bM9 a w) e
  split at h
  ·rename_i e;obtain rfl:=Nat.eq_of_beq_eq_true e;cases h
   obtain ⟨x,n,rfl,h0,h1,rfl⟩:=aS6 hv
   exact aEf (bNr x n h0 h1 w) rfl
  split at h
  ·rename_i e;obtain rfl:=Nat.eq_of_beq_eq_true e;cases h
   obtain ⟨x,n,rfl,h0,h1,rfl⟩:=aS6 hv
   exact aEf (bIq x n h0 h1 w) rfl
  ·cases h
end
section
open Go Go.K
abbrev CS (n:Nat) (k:KC) (rs:List RV) (f:Nat):Prop:=∀{args:List Value} {w:World} {R:Value→World→Prop},Nat.ble args.length n=true→aM Tryz.prog k (aY rs R) (jB args) w→K.Spec Tryz.prog f args w R
theorem cs {n f:Nat} {k:KC} {rs:List RV} {fn:Func} (hf:Tryz.prog.funcs[f]? =some fn) (hrs:aDu Tryz.prog fn n=some rs:=by kernel_rfl) (hk:dJ Tryz.prog n (aD fn)=k:=by kernel_rfl) (hb:fn.body=some (aD fn):=by exact rfl) (hn:fn.ntmps=n:=by exact rfl):CS n k rs f:=
 fun ha h=>iQ mixed hf hb hn hrs hk (Nat.le_of_ble_eq_true ha) h
@[irreducible] noncomputable def mo:TypeId→Value→String→Bool:=aYb Tryz.prog
end
end Go.Proofs.YteceapipdhnhdaaGreatDoor
