/- Contracts: transactions made of small numbers. Contracts: su -/
import Derived.Test.YtgloknkcfchnlaaGreatZ20
set_option linter.unusedVariables false
set_option linter.unusedSimpArgs false
namespace Go.Proofs.YtgloknkcfchnlaaGreat
section
open Go Go.K
attribute [local irreducible] aF aP bG KOp.wp K.Spec u32 leS vnS str aR dE bS idT aO aE aQ idN
end
section
open Go Go.K
attribute [local irreducible] aF aP bG KOp.wp K.Spec u32 leS vnS str aR dE bS idT aO aE aQ idN bB cH bY
theorem aVd {x:Ent} (h:EntOk x):cD x.fee=true∧0≤x.size∧x.size≤100000000000:=by
 refine ⟨h.fee,?_⟩
 have:=(cB (lE h.check) h.check).size
 rw [h.size]
 omega
theorem aVe {g:Nat} {M:List Nat} {l:List Ent} {v:Value} {ids:List ByteArray} (w:World) (hG:GrR w g M l) (hM:∀b∈M,b<w.heap.size) (hi:SlE bL w v ids) (hn:ids.length≤4000):K.Spec Tryz.prog F.graph_Graph_Sum [.pointer (some ⟨g,0,none⟩),v] w fun r w'=>
  r=.tuple #[.int .i64 (kI l ids),.int .i64 (fP l ids)]∧Ext w w':=by
 have hfit:∀x∈l,cD x.fee=true∧0≤x.size∧x.size≤100000000000:=fun x hx=>aVd (hG.ok x hx)
 refine xX rfl ?_
 unfold qK
 refine oy ?_
 repeat' (first|refine go1 ?_|refine zg λ_ _=>?_|refine zi λ_ _=>?_|refine zL rfl (fun h=>?_) (fun h=>?_)|(refine iQ (E:=sK) (fv:=fun n:Nat=>Value.int .i64 (n:Nat)) (fun bm w1 x1 m1 hb1=>?_);have lm:=m1.lt)|refine aY rfl (SlE.ext (w:=w) (by exact fx) hi) ?_|(refine aI (fun (p:Nat × List (ByteArray × Nat)) w'=>Ext w w'∧p.1≤ids.length∧dI sK (fun n:Nat=>Value.int .i64 (n:Nat)) w' bm p.2∧∀s,(inB (ids.take p.1) s=false→aL p.2 s=none)∧(inB (ids.take p.1) s=true→∃c,aL p.2 s=some c∧1≤c∧c≤p.1)) (fun p=> [(0,.pointer (some ⟨g,0,none⟩)),(6,.int .i64 (kI l (ids.take p.1))),(7,.int .i64 (fP l (ids.take p.1))),(8,.map (some bm)),(14,v),(15,.int .i64 (ids.length:Nat)),(16,.int .i64 p.1)]) (fun p=>ids.length - p.1) (0, []) ⟨rfl,rfl,rfl,rfl,rfl,rfl,rfl,trivial⟩ ⟨x1,by simp,m1,fun s=>⟨fun _=>rfl,fun h=>by simp [inB] at h⟩⟩ ?_;rintro ⟨i,met⟩ ρ w3 ⟨x3,hi3,hm,hc⟩;simp only at hi3 hm hc;dsimp only))
 ·have hil:i<ids.length:=by omega
  have hb0:=aHa hfit (ids:=ids.take i) (by rw [List.length_take];omega)
  have hb1':=aHa hfit (ids:=ids.take (i+1)) (by rw [List.length_take];omega)
  have hf:=bJc (l:=l) hil
  have hz:=bDl (l:=l) hil
  have hmem:∀s,inB (ids.take (i+1)) s=(inB (ids.take i) s||decide (ids[i]=s)):=fun s=>by
   rw [List.take_succ_eq_append_getElem hil];unfold inB;simp only [List.any_append,List.any_cons,List.any_nil,Bool.or_false]
  refine aS rfl rfl (n:=i) (l:=ids) (hi.ext x3) rfl hil (fun ad r5=>?_)
  have r5:Row w3 ad [Value.string ids[i]]:=r5
  generalize hq:kI l (ids.take i)=fee0 at*
  generalize hq2:fP l (ids.take i)=size0 at*
  cases hin:inB (ids.take i) ids[i] with
  |false=>
   rw [hin] at hf hz
   simp only [Bool.false_eq_true,if_false] at hf hz
   have hno:=(hc ids[i]).1 hin
   repeat' (first|refine go1 ?_|refine zg λ_ _=>?_|refine zi λ_ _=>?_|refine eY (d:=some 22) (E:=sK) (fv:=fun n:Nat=>Value.int .i64 (n:Nat)) (k:=ids[i]) rfl rfl hm rfl rfl (fun c hcc=>by rw [hno] at hcc;cases hcc) (fun hcn=>?_)|(refine eQ (E:=sK) (fv:=fun n:Nat=>Value.int .i64 (n:Nat)) (k:=ids[i]) (v:=1) rfl rfl rfl hm rfl rfl (fun w4 c4 m4=>?_);have x4:Ext w w4:=(Ext.chg x3 c4).mono (by intro y hy;simp at hy;right;omega);clear x3)|(refine eY (d:=some 26) (E:=sK) (fv:=fun n:Nat=>Value.int .i64 (n:Nat)) (k:=ids[i]) rfl rfl m4 rfl rfl (fun c hcc=>?_) (fun hcn=>by rw [dG,if_pos rfl] at hcn;cases hcn);rw [dG,if_pos rfl] at hcc;injection hcc with hcc;subst hcc)|refine zL rfl (fun h9=>absurd h9 (by decide)) (fun h9=>?_)|(refine zC rfl (lQ (M:=M) ids[i] _ (hG.ext (by exact fx)) (fun b hb=>nLt (hM b hb) (Ext.size (by exact fx)))) ?_;rintro _ w5 ⟨ds,rfl,e5,x5⟩;obtain ⟨iv,ov,rfl,o1,o2,o3⟩:=e5;have i1:=o1.one;have i2:=o2.one)|refine zE (d':=11) (fun _=>rfl) rfl rfl (by simp [bC,i1,i2];exact ⟨rfl,rfl,rfl,rfl,rfl⟩) (fun b6 w6 x6 a6 (r6:Row w6 ⟨b6,0,none⟩ (bC (dV l ids[i]) iv ov)) hb6=>?_))
   refine ⟨(i+1,fQ met ids[i] 1),⟨rfl,?_,?_,rfl,rfl,rfl,rfl,trivial⟩,⟨by exact fx,by simp;omega,m4.ext (by exact fx),fun s=>?_⟩,by simp;omega⟩
   ·show _=Value.int .i64 (kI l (ids.take (i+1)));rw [hf];rw [hf] at hb1';exact congrArg (Value.int .i64) (IntWalk.i64_in _ (by show -9223372036854775808≤fee0+(sI l ids[i]).fee∧fee0+(sI l ids[i]).fee≤9223372036854775807;omega))
   ·show _=Value.int .i64 (fP l (ids.take (i+1)));rw [hz];rw [hz] at hb1';exact congrArg (Value.int .i64) (IntWalk.i64_in _ (by show -9223372036854775808≤size0+(sI l ids[i]).size∧size0+(sI l ids[i]).size≤9223372036854775807;omega))
   ·show (inB (ids.take (i+1)) s=false→_)∧(inB (ids.take (i+1)) s=true→∃c,_∧1≤c∧c≤i+1)
    rw [hmem,dG]
    by_cases e:ids[i]=s
    ·rw [if_pos e,dTr e];exact ⟨fun h=>by simp at h,fun _=>⟨1,rfl,by omega,by omega⟩⟩
    ·rw [if_neg e,dFa e,Bool.or_false]
     exact ⟨(hc s).1,fun h=>by obtain ⟨c,q1,q2,q3⟩:=(hc s).2 h;exact ⟨c,q1,q2,by omega⟩⟩
  |true=>
   rw [hin] at hf hz
   simp only [if_true] at hf hz
   obtain ⟨c0,hc0,hc1,hc2⟩:=(hc ids[i]).2 hin
   repeat' (first|refine go1 ?_|refine zg λ_ _=>?_|refine zi λ_ _=>?_|(refine eY (d:=some 22) (E:=sK) (fv:=fun n:Nat=>Value.int .i64 (n:Nat)) (k:=ids[i]) rfl rfl hm rfl rfl (fun c hcc=>?_) (fun hcn=>by rw [hc0] at hcn;cases hcn);rw [hc0] at hcc;injection hcc with hcc;subst hcc)|(refine eQ (E:=sK) (fv:=fun n:Nat=>Value.int .i64 (n:Nat)) (k:=ids[i]) (v:=c0+1) rfl rfl rfl hm rfl rfl (fun w4 c4 m4=>?_);have x4:Ext w w4:=(Ext.chg x3 c4).mono (by intro y hy;simp at hy;right;omega);clear x3)|(refine eY (d:=some 26) (E:=sK) (fv:=fun n:Nat=>Value.int .i64 (n:Nat)) (k:=ids[i]) rfl rfl m4 rfl rfl (fun c hcc=>?_) (fun hcn=>by rw [dG,if_pos rfl] at hcn;cases hcn);rw [dG,if_pos rfl] at hcc;injection hcc with hcc;subst hcc)|refine zL rfl (fun h9=>?_) (fun h9=>absurd h9 (by omega)))
   refine ⟨(i+1,fQ met ids[i] (c0+1)),⟨rfl,?_,?_,rfl,rfl,rfl,rfl,trivial⟩,⟨by exact fx,by simp;omega,m4.ext (by exact fx),fun s=>?_⟩,by simp;omega⟩
   ·show _=Value.int .i64 (kI l (ids.take (i+1)));rw [hf];rfl
   ·show _=Value.int .i64 (fP l (ids.take (i+1)));rw [hz];rfl
   ·show (inB (ids.take (i+1)) s=false→_)∧(inB (ids.take (i+1)) s=true→∃c,_∧1≤c∧c≤i+1)
    rw [hmem,dG]
    by_cases e:ids[i]=s
    ·rw [if_pos e,dTr e];exact ⟨fun h=>by simp at h,fun _=>⟨c0+1,rfl,by omega,by omega⟩⟩
    ·rw [if_neg e,dFa e,Bool.or_false]
     exact ⟨(hc s).1,fun h=>by obtain ⟨c,q1,q2,q3⟩:=(hc s).2 h;exact ⟨c,q1,q2,by omega⟩⟩
 ·have ei:i=ids.length:=by omega
  subst ei
  rw [tLe (Nat.le_refl _)]
  exact aA rfl ⟨rfl,x3⟩
end
section
open Go Go.K
attribute [local irreducible] aF aP bG KOp.wp K.Spec u32 leS vnS str aR dE bS idT aO aE aQ idN
def s9:ByteArray:=⟨#[1,1,0,0,0,0,0,0,0]⟩
end
end Go.Proofs.YtgloknkcfchnlaaGreat
