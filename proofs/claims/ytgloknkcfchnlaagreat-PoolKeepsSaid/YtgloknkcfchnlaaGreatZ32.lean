/- Contracts: what goes for a transaction; may an entry be repl -/
import Derived.Test.YtgloknkcfchnlaaGreatZ29
import Derived.Test.YtgloknkcfchnlaaGreatZ30
set_option linter.unusedVariables false
set_option linter.unusedSimpArgs false
namespace Go.Proofs.YtgloknkcfchnlaaGreat
section
open Go Go.K
attribute [local irreducible] aF aP bG KOp.wp K.Spec u32 leS vnS str aR dE bS idT aO aE aQ idN bB cH bY bT cE eO bF cI aK kI fP qT mQ bV evL
set_option maxHeartbeats 4000000 in
theorem jU {g:Nat} {M N:List Nat} {l:List Ent} {cs:List Value} {t:Tx} (w:World) (hG:GrR w g M l) (hM:∀b∈M,b<w.heap.size) (ht:txR.rel N w cs t) (hs:t.ins.length≤1000) (hl:l.length≤1000):
  K.Spec Tryz.prog F.replace_Evicted [.pointer (some ⟨g,0,none⟩),.agg cs.toArray] w fun r w'=>Own bL T.string w.heap.size w' r (aK l (evL l t))∧Ext w w':=by
 have hnd:=hG.nodup
 have ht0:=ht
 obtain ⟨iv,ov,rfl,hi,ho,hv⟩:=ht
 have id0:aK (l.take 0) ((evL l t).take 0)= []:=by rw [List.take_zero,List.take_zero];unfold aK;rfl
 obtain ⟨ids,hids⟩:∃ids,ids=aK l (bV l t):=⟨_,rfl⟩
 have hil:ids.length≤l.length:=by rw [hids];exact mF _ _
 have m0:mQ l (ids.take 0)= []:=by rw [List.take_zero];unfold mQ;rfl
 refine aIt rfl ?_
 unfold xK
 refine oy ?_
 repeat' (first|refine go1 ?_|refine zg λ_ _=>?_|refine zi λ_ _=>?_|refine zD (d:=some 3) rfl rfl (fun bt wt xt bt' (rt:Row wt ⟨bt,0,none⟩ (aJ t iv ov)) hbt0=>?_)|(refine iQ (d:=some 13) (E:=sK) (fv:=fun n:Nat=>Value.int .i64 (n:Nat)) (fun bm w1 x1 m1 hb1=>?_);have lm:=m1.lt)|(refine zC (d:=some 16) rfl (gX (M:=M) (N:=N) (l:=l) (cs:=aJ t iv ov) (t:=t) _ (hG.ext (by exact fx)) (fun b hb=>nLt (hM b hb) (Ext.size (by exact fx))) (R.ext ht0 (by exact fx)) hs hl) ?_;rw [←hids];rintro vc w2 ⟨oc,x2⟩)|refine aY (d:=some 17) (E:=bL) (l:=ids) rfl oc.sl ?_)
 have x02:Ext w w2:=(xt.trans x1).trans x2
 have m2:=m1.ext x2
 have bcb:=oc.base
 have hc2:∀b∈aB vc,b∉ [bm]:=fun b hb h=>by have:=bcb b hb;simp at h;omega
 have hbm:w.heap.size≤bm:=by have:=xt.size;omega
 have lm2:bm<w2.heap.size:=nLt lm x2.size
 clear xt x1 x2 m1
 repeat' (first|refine go1 ?_|refine zg λ_ _=>?_|refine zi λ_ _=>?_|refine zL rfl (fun h=>?_) (fun h=>?_)|(refine aI (fun (p:Nat × List (ByteArray × Nat)) w'=>Ext w w'∧w2.heap.size≤w'.heap.size∧p.1≤ids.length∧dI sK (fun n:Nat=>Value.int .i64 (n:Nat)) w' bm p.2∧Cnt p.2 (mQ l (ids.take p.1))∧Own bL T.string w1.heap.size w' vc ids) (fun p=> [(0,.pointer (some ⟨g,0,none⟩)),(5,.map (some bm)),(16,vc),(17,.int .i64 (ids.length:Nat)),(18,.int .i64 p.1)]) (fun p=>ids.length - p.1) (0, []) ⟨rfl,rfl,rfl,rfl,rfl,trivial⟩ ⟨x02,Nat.le_refl _,by simp,m2,by rw [m0];exact Cnt.nil,oc⟩ ?_;clear x02 oc m2;rintro ⟨i,met⟩ ρ w3 ⟨x3,s3,hi3,m3,c3,o3⟩;simp only at hi3 m3 c3;dsimp only))
 ·have hii:i<ids.length:=by omega
  have hbl:=mF l (cI l ids[i])
  have hml:=aZc (l:=l) (ids.take i)
  have hml2:l.length*(ids.take i).length≤1000*1000:=Nat.mul_le_mul hl (by rw [List.length_take];omega)
  refine aS (d:=some 20) (E:=bL) rfl rfl (n:=i) (l:=ids) o3.sl rfl hii (fun ad r5=>?_)
  have r5:Row w3 ad [Value.string ids[i]]:=r5
  repeat' (first|refine go1 ?_|refine zg λ_ _=>?_|refine zi λ_ _=>?_|(refine zC (d:=some 24) rfl (aNh (M:=M) (l:=l) ids[i] _ (hG.ext (by exact fx)) (fun b hb=>nLt (hM b hb) (Ext.size (by exact fx))) hl) ?_;rintro vb w4 ⟨ob,x4⟩)|refine aY (d:=some 25) (E:=bL) (l:=aK l (cI l ids[i])) rfl ob.sl ?_)
  obtain ⟨bs,hbs⟩:∃bs,bs=aK l (cI l ids[i]):=⟨_,rfl⟩
  rw [←hbs] at ob hbl ⊢
  have x04:Ext w w4:=x3.trans x4
  have s4:=x4.size
  have bbb:=ob.base
  have hb2:∀b∈aB vb,b∉ [bm]:=fun b hb h=>by have:=bbb b hb;simp at h;omega
  have t0:mQ l (ids.take i)++bs.take 0=mQ l (ids.take i):=by rw [List.take_zero,List.append_nil]
  have m4:=m3.ext x4
  have o4:=o3.ext x4
  clear x3 x4 m3 o3 r5
  repeat' (first|refine go1 ?_|refine zg λ_ _=>?_|refine zi λ_ _=>?_|refine zL rfl (fun h=>?_) (fun h=>?_)|(refine aI (fun (p:Nat × List (ByteArray × Nat)) w'=>Ext w w'∧w2.heap.size≤w'.heap.size∧p.1≤bs.length∧dI sK (fun n:Nat=>Value.int .i64 (n:Nat)) w' bm p.2∧Cnt p.2 (mQ l (ids.take i)++bs.take p.1)∧Own bL T.string w1.heap.size w' vc ids∧Own bL T.string w3.heap.size w' vb bs) (fun p=> [(0,.pointer (some ⟨g,0,none⟩)),(5,.map (some bm)),(16,vc),(17,.int .i64 (ids.length:Nat)),(18,.int .i64 i),(24,vb),(25,.int .i64 (bs.length:Nat)),(26,.int .i64 p.1)]) (fun p=>bs.length - p.1) (0,met) ⟨rfl,rfl,rfl,rfl,rfl,rfl,rfl,rfl,trivial⟩ ⟨x04,by omega,by simp,m4,by rw [t0];exact c3,o4,ob⟩ ?_;clear x04 m4 o4 ob;rintro ⟨j,met2⟩ ρ2 w5 ⟨x5,s5,hj5,m5,c5,o5,ob5⟩;simp only at hj5 m5 c5;dsimp only))
  ·have hjl:j<bs.length:=by omega
   refine aS (d:=some 28) (E:=bL) rfl rfl (n:=j) (l:=bs) ob5.sl rfl hjl (fun ad r6=>?_)
   have r6:Row w5 ad [Value.string bs[j]]:=r6
   have hadd:=c5.add bs[j]
   have htk:mQ l (ids.take i)++bs.take (j+1)=mQ l (ids.take i)++bs.take j++ [bs[j]]:=by rw [List.take_succ_eq_append_getElem hjl,List.append_assoc]
   have hcl:=bO9 (mQ l (ids.take i)++bs.take j) bs[j]
   rw [List.length_append,List.length_take] at hcl
   cases hag:aL met2 bs[j] with
   |none=>
    have hcz:=c5.none_ hag
    rw [hcz] at hadd
    repeat' (first|refine go1 ?_|refine zg λ_ _=>?_|refine zi λ_ _=>?_|refine eY (d:=some 32) (E:=sK) (fv:=fun n:Nat=>Value.int .i64 (n:Nat)) (k:=bs[j]) rfl rfl m5 rfl rfl (fun c hcc=>by rw [hag] at hcc;cases hcc) (fun hcn=>?_)|refine eQ (d:=none) (E:=sK) (fv:=fun n:Nat=>Value.int .i64 (n:Nat)) (k:=bs[j]) (v:=1) rfl rfl rfl m5 rfl rfl (fun w6 c6 m6=>?_))
    refine ⟨(j+1,_),⟨rfl,rfl,rfl,rfl,rfl,rfl,rfl,rfl,trivial⟩,⟨(x5.chg c6).mono (by intro b hb;simp at hb;subst hb;exact .inr hbm),by have:=c6.size;omega,by simp only;omega,m6,by rw [htk];exact hadd,o5.chg c6 hc2,ob5.chg c6 hb2⟩,by simp only;omega⟩
   |some c=>
    have hcz:=(c5.found hag).1
    rw [hcz] at hadd hcl
    repeat' (first|refine go1 ?_|refine zg λ_ _=>?_|refine zi λ_ _=>?_|(refine eY (d:=some 32) (E:=sK) (fv:=fun n:Nat=>Value.int .i64 (n:Nat)) (k:=bs[j]) rfl rfl m5 rfl rfl (fun c' hcc=>?_) (fun hcn=>by rw [hag] at hcn;cases hcn);rw [hag] at hcc;injection hcc with hcc;subst hcc)|refine eQ (d:=none) (E:=sK) (fv:=fun n:Nat=>Value.int .i64 (n:Nat)) (k:=bs[j]) (v:=c+1) rfl rfl rfl m5 rfl rfl (fun w6 c6 m6=>?_))
    refine ⟨(j+1,_),⟨rfl,rfl,rfl,rfl,rfl,rfl,rfl,rfl,trivial⟩,⟨(x5.chg c6).mono (by intro b hb;simp at hb;subst hb;exact .inr hbm),by have:=c6.size;omega,by simp only;omega,m6,by rw [htk];exact hadd,o5.chg c6 hc2,ob5.chg c6 hb2⟩,by simp only;omega⟩
  ·rw [tLe (l:=bs) (by omega)] at c5
   exact ⟨(i+1,met2),⟨rfl,rfl,rfl,rfl,rfl,trivial⟩,⟨x5,s5,by simp only;omega,m5,by rw [bIx hii,←hbs];exact c5,o5⟩,by simp only;omega⟩
 ·rw [tLe (l:=ids) (by omega)] at c3
  have s03:Unit→Ext w w3:=fun _=>x3
  repeat' (first|refine go1 ?_|refine zg λ_ _=>?_|refine zi λ_ _=>?_|(refine zC (d:=some 37) rfl (eK (M:=M) (l:=l) _ (hG.ext x3) (fun b hb=>nLt (hM b hb) x3.size) (by omega)) ?_;rintro va w4 ⟨oa,x4⟩;have sa:SlR dC [] w4 va l:=(oa.sub (M':= []) (by simp)).sl (by simp);have m4:=m3.ext x4;have x34:=x3.trans x4;clear x3)|refine zG (d:=some 38) (E:=dC) (M:= []) (l:=l) rfl (SlR.ext sa (by exact fx)) ?_|refine zL rfl (fun h=>?_) (fun h=>?_)|(refine aI (fun (p:Nat × Value) w'=>Ext w4 w'∧p.1≤l.length∧Own bL T.string w4.heap.size w' p.2 (aK (l.take p.1) ((evL l t).take p.1))) (fun p=> [(5,.map (some bm)),(10,p.2),(37,va),(38,.int .i64 (l.length:Nat)),(39,.int .i64 p.1)]) (fun p=>l.length - p.1) (0,.slice none 0 0) ⟨rfl,rfl,rfl,rfl,rfl,trivial⟩ ⟨Ext.refl _,by simp,by rw [id0];exact Own.nil _ _ _⟩ ?_;rintro ⟨i,v5⟩ ρ w5 ⟨x5,hi5,o5⟩;simp only at hi5 o5;dsimp only))
  ·have hil2:i<l.length:=by omega
   have hle:=jV (l.take i) ((evL l t).take i)
   have htl:(l.take i).length=i:=by rw [List.length_take];omega
   have hev:=bSk (t:=t) hnd hil2
   rw [←hids] at hev
   have s5:=x5.size
   refine aM (d:=some 41) (E:=dC) (M:= []) rfl rfl (n:=i) (l:=l) (SlR.ext sa (by exact fx)) rfl hil2 (fun ad cs r4 he=>?_)
   obtain ⟨iv2,ov2,rfl,q1,q2,q3⟩:=he
   have i1:=q1.one
   have j2:=q2.one
   repeat' (first|refine go1 ?_|refine zg λ_ _=>?_|refine zi λ_ _=>?_|refine zE (d':=12) (fun _=>rfl) rfl rfl (by simp [bC,i1,j2];exact ⟨rfl,rfl,rfl,rfl,rfl⟩) (fun b6 w6 x6 a6 (r6:Row w6 ⟨b6,0,none⟩ (bC l[i] iv2 ov2)) hb6=>?_)|refine eY (d:=some 46) (E:=sK) (fv:=fun n:Nat=>Value.int .i64 (n:Nat)) (k:=l[i].id) rfl rfl (dI.ext (by exact fx) m4) rfl rfl (fun c hcc=>?_) (fun hcn=>?_)|(have hcz:=c3.found hcc;rw [hcz.1] at hev;refine zL (p:=((c:Nat):Int)>0) rfl (fun h9=>?_) (fun h9=>absurd h9 (by omega)))|(have hcz:=c3.none_ hcn;rw [hcz] at hev;refine zL (p:=(0:Int)>0) rfl (fun h9=>absurd h9 (by omega)) (fun h9=>?_))|refine zI (d:=some 51) (cs:= [.string l[i].id]) rfl (fun b9 w9 x9 a9 hb9=>?_))
   ·have x59:Ext w5 w9:=by exact fx
    have s59:=x59.size
    have hh:(evL l t)[i]'(by rw [←aCh];exact hil2)=true:=hev.2 (by omega)
    refine kX (d:=some 52) (E:=bL) (v:=v5) (l2:= [l[i].id]) rfl (o5.ext x59) (by omega) rfl rfl (dX a9 rfl) rfl rfl (by simp only [List.length_cons,List.length_nil];omega) (fun v10 w10 o10 _ c10 hb10=>?_)
    repeat' (first|refine go1 ?_|refine zg λ_ _=>?_|refine zi λ_ _=>?_)
    exact ⟨(i+1,v10),⟨rfl,rfl,rfl,rfl,rfl,trivial⟩,⟨((x5.trans x59).chg c10).mono (fun b hb=>.inr (o5.base b hb)),by simp only;omega,by simp only;rw [aX2 hil2,if_pos hh];exact o10⟩,by simp only;omega⟩
   ·have hh:¬(evL l t)[i]'(by rw [←aCh];exact hil2)=true:=fun h=>by have:=hev.1 h;have:=c3.none_ hcn;omega
    exact ⟨(i+1,v5),⟨rfl,rfl,rfl,rfl,rfl,trivial⟩,⟨by exact fx,by simp only;omega,by simp only;rw [aX2 hil2,if_neg hh,List.append_nil];exact o5.ext (by exact fx)⟩,by simp only;omega⟩
  ·rw [tLe (by omega),tLe (by rw [←aCh];omega)] at o5
   exact aA rfl ⟨o5.lower x34.size,x34.trans x5⟩
end
end Go.Proofs.YtgloknkcfchnlaaGreat
