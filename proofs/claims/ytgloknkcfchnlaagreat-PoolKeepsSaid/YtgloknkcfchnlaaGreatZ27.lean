/- Contracts: may a transaction hang on the entries of a graph? -/
import Derived.Test.YtgloknkcfchnlaaGreatZ24
import Derived.Test.YtgloknkcfchnlaaGreatZ25
set_option linter.unusedVariables false
set_option linter.unusedSimpArgs false
namespace Go.Proofs.YtgloknkcfchnlaaGreat
section
open Go Go.K
attribute [local irreducible] aF aP bG KOp.wp K.Spec u32 leS vnS str aR dE bS idT aO aE aQ idN bB cH bY bT cE eO bF cI aK kI fP
theorem aNt {g:Nat} {M:List Nat} {l:List Ent} {v:Value} {ids:List ByteArray} (more count size:Int) (w:World) (hG:GrR w g M l) (hM:∀b∈M,b<w.heap.size) (hi:SlE bL w v ids) (hn:ids.length≤4000) (hm:0≤more∧more≤1000000000):
  K.Spec Tryz.prog F.limit_within [.pointer (some ⟨g,0,none⟩),v,.int .i64 more,.int .i64 count,.int .i64 size] w fun r w'=>r=.bool (wiP l ids more count size)∧Ext w w':=by
 have hb:=(aHa (l:=l) (fun x hx=>aVd (hG.ok x hx)) hn).2
 refine aRw rfl ?_
 unfold aEy
 refine oy ?_
 repeat' (first|refine go1 ?_|refine zg λ_ _=>?_|refine zi λ_ _=>?_|(refine zC rfl (aVe (M:=M) (l:=l) (ids:=ids) _ hG hM hi hn) ?_;rintro _ w2 ⟨rfl,x2⟩)|refine aY rfl (SlE.ext (w:=w) (by exact fx) hi) ?_|refine zJ rfl (fun h=>?_) (fun h=>?_))
 ·have e:wiP l ids more count size=decide (fP l ids+more≤size):=by unfold wiP;rw [dTr h,Bool.true_and]
  rw [e]
  exact aA rfl ⟨rfl,x2⟩
 ·have e:wiP l ids more count size=false:=by unfold wiP;rw [dFa h,Bool.false_and]
  rw [e]
  exact aA rfl ⟨rfl,x2⟩
theorem aKg (l:List Ent) (m:List Bool):(aK l m).length≤l.length:=by
 have:=(lV l m).length_le
 simpa using this
theorem aX9 {g:Nat} {M:List Nat} {l:List Ent} {v:Value} {ids:List ByteArray} (more count size:Int) (w:World) (hG:GrR w g M l) (hM:∀b∈M,b<w.heap.size) (hi:SlE bL w v ids) (hn:ids.length≤4000) (hl:l.length≤1000) (hm:0≤more∧more≤1000000000):
  K.Spec Tryz.prog F.limit_housed [.pointer (some ⟨g,0,none⟩),v,.int .i64 more,.int .i64 count,.int .i64 size] w fun r w'=>r=.bool (hoP l ids more count size)∧Ext w w':=by
 refine aRh rfl ?_
 unfold aEz
 refine oy ?_
 repeat' (first|refine go1 ?_|refine zg λ_ _=>?_|refine zi λ_ _=>?_|refine zL rfl (fun h=>?_) (fun h=>?_)|refine zM rfl (fun h=>?_) (fun h=>?_)|refine aY rfl (SlE.ext (w:=w) (by exact fx) hi) ?_|(refine aI (fun (i:Nat) w'=>Ext w w'∧i≤ids.length∧∀s∈ids.take i,wiP l (aK l (cI l s)) more count size=true) (fun i=> [(0,.pointer (some ⟨g,0,none⟩)),(2,.int .i64 more),(3,.int .i64 count),(4,.int .i64 size),(13,v),(14,.int .i64 (ids.length:Nat)),(15,.int .i64 i)]) (fun i=>ids.length - i) 0 ⟨rfl,rfl,rfl,rfl,rfl,rfl,rfl,trivial⟩ ⟨Ext.refl _,Nat.zero_le _,by simp⟩ ?_;rintro i ρ w3 ⟨x3,hi3,hk⟩)|(have hil:i<ids.length:=(by omega);refine aS (d:=some 17) (E:=bL) rfl rfl (n:=i) (l:=ids) (hi.ext x3) rfl hil (fun ad r5=>?_);have r5:Row w3 ad [Value.string ids[i]]:=r5)|(refine zC rfl (aNh (M:=M) (l:=l) ids[i] _ (hG.ext (by exact fx)) (fun b hb=>nLt (hM b hb) (Ext.size (by exact fx))) hl) ?_;rintro vb w6 ⟨ob,x6⟩;have sb:=ob.sl)|(refine zC rfl (aNt (M:=M) (l:=l) (ids:=aK l (cI l ids[i])) more count size _ (hG.ext (by exact fx)) (fun b hb=>nLt (hM b hb) (Ext.size (by exact fx))) sb (nTr (aKg _ _) (by omega)) hm) ?_;rintro _ w7 ⟨rfl,x7⟩))
 ·have e:hoP l ids more count size=false:=by
   unfold hoP
   rw [List.all_eq_false]
   exact ⟨_,gMe hil,by simpa using h⟩
  rw [e]
  exact aA rfl ⟨rfl,by exact fx⟩
 ·refine ⟨i+1,⟨rfl,rfl,rfl,rfl,rfl,rfl,rfl,trivial⟩,⟨by exact fx,by omega,fun s hs=>?_⟩,by omega⟩
  rw [List.take_succ_eq_append_getElem hil] at hs
  rcases List.mem_append.1 hs with h1|h1
  ·exact hk s h1
  ·simp only [List.mem_singleton] at h1;subst h1;simpa using h
 ·have e:hoP l ids more count size=true:=by
   unfold hoP
   rw [tLe (by omega)] at hk
   exact List.all_eq_true.2 hk
  rw [e]
  exact aA rfl ⟨rfl,by exact fx⟩
theorem aK4 {g:Nat} {M N:List Nat} {l:List Ent} {cs:List Value} {t:Tx} (w:World) (hG:GrR w g M l) (hM:∀b∈M,b<w.heap.size) (ht:txR.rel N w cs t) (hs:t.Sm) (hl:l.length≤1000):
  K.Spec Tryz.prog F.limit_Fits [.pointer (some ⟨g,0,none⟩),.agg cs.toArray] w fun r w'=>r=.int .i64 (gD l t)∧Ext w w':=by
 have ht0:=ht
 obtain ⟨iv,ov,rfl, -⟩:=ht
 by_cases hc:aE t=0
 ·have hz:=cB hs hc
  have hz2:=hz.size
  have hmore:(0:Int)≤((aO t:Nat):Int)∧((aO t:Nat):Int)≤1000000000:=by omega
  have e0:kQ t=.tuple #[.int .i64 (aO t:Nat),.int .i64 0]:=by rw [kQ,if_pos hc]
  have hLe:=aKg l (bF l t)
  have hfit:gD l t=if wiP l (aK l (bF l t)) (aO t:Nat) 25 101000=false then 14 else if hoP l (aK l (bF l t)) (aO t:Nat) 25 101000 then 0
   else if ((aK l (bF l t)).length:Int)=1∧((aO t:Nat):Int)≤10000∧hoP l (aK l (bF l t)) (aO t:Nat) 26 111000=true then 0 else 14:=by
   rw [gD,if_neg (by simpa using hc)]
  rw [hfit]
  refine aJu rfl ?_
  unfold aB4
  refine oy ?_
  repeat' (first|refine go1 ?_|refine zg λ_ _=>?_|refine zi λ_ _=>?_|refine zK rfl (fun h=>?_) (fun h=>?_)|refine zM rfl (fun h=>?_) (fun h=>?_)|refine zJ rfl (fun h=>?_) (fun h=>?_)|refine zD rfl rfl (fun bp wp xp ap (rp:Row wp ⟨bp,0,none⟩ (aJ t iv ov)) hp0=>?_)|(refine zC rfl (fZ (M:=N) (cs:=aJ t iv ov) (t:=t) _ (R.ext ht0 (by exact fx)) hs) ?_;rintro _ w3 ⟨rfl,x3⟩;rw [e0])|(refine zC rfl (wV (M:=M) (N:=N) (l:=l) (cs:=aJ t iv ov) (t:=t) _ (hG.ext (by exact fx)) (fun b hb=>nLt (hM b hb) (Ext.size (by exact fx))) (R.ext ht0 (by exact fx)) hs.ins hl) ?_;rintro va w4 ⟨oa,x4⟩;have sa:=oa.sl)|(refine zC rfl (aNt (M:=M) (l:=l) (ids:=aK l (bF l t)) _ _ _ _ (hG.ext (by exact fx)) (fun b hb=>nLt (hM b hb) (Ext.size (by exact fx))) (SlE.ext (by exact fx) sa) (by omega) hmore) ?_;rintro _ w5 ⟨rfl,x5⟩)|(refine zC rfl (aX9 (M:=M) (l:=l) (ids:=aK l (bF l t)) _ _ _ _ (hG.ext (by exact fx)) (fun b hb=>nLt (hM b hb) (Ext.size (by exact fx))) (SlE.ext (by exact fx) sa) (by omega) hl hmore) ?_;rintro _ w6 ⟨rfl,x6⟩)|refine aY rfl (SlE.ext (by exact fx) sa) ?_)
  all_goals clear hG hM ht0 rp ap
  all_goals exact aA rfl ⟨congrArg (Value.int .i64) (by first|(simp_all;done)|(simp_all;intros;omega)),by exact fx⟩
 ·have e0:kQ t=.tuple #[.int .i64 0,.int .i64 (aE t)]:=by rw [kQ,if_neg hc]
  have hfit:gD l t=aE t:=by rw [gD,if_pos hc]
  rw [hfit]
  refine aJu rfl ?_
  unfold aB4
  refine oy ?_
  repeat' (first|refine go1 ?_|refine zg λ_ _=>?_|refine zi λ_ _=>?_|refine zN rfl (fun h=>?_) (fun h=>absurd h hc)|refine zD rfl rfl (fun bp wp xp ap (rp:Row wp ⟨bp,0,none⟩ (aJ t iv ov)) hp0=>?_)|(refine zC rfl (fZ (M:=N) (cs:=aJ t iv ov) (t:=t) _ (R.ext ht0 (by exact fx)) hs) ?_;rintro _ w3 ⟨rfl,x3⟩;rw [e0]))
  exact aA rfl ⟨rfl,by exact fx⟩
end
end Go.Proofs.YtgloknkcfchnlaaGreat
