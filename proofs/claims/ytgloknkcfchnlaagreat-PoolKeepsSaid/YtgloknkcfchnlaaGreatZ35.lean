/- Contracts: the document's lists of coins. Contracts: the doc -/
import Derived.Test.YtgloknkcfchnlaaGreatZ34
set_option linter.unusedVariables false
set_option linter.unusedSimpArgs false
namespace Go.Proofs.YtgloknkcfchnlaaGreat
section
open Go Go.K
attribute [local irreducible] aF aP bG KOp.wp K.Spec
theorem bCp (p q:Pt) (w:World):K.Spec Tryz.prog F.kedgeref05_Less [p.val,q.val] w fun v w'=>v=.bool (lK p q)∧Ext w w':=by
 refine aKl rfl ?_
 unfold xU
 refine oy ?_
 repeat (first|refine go ?_|refine zg λ_ _=>?_|refine zi λ_ _=>?_)
 refine qN rfl rfl (fun b1 w1 x1 _ r1 _=>?_)
 repeat (first|refine go ?_|refine zg λ_ _=>?_|refine zi λ_ _=>?_)
 refine qN rfl rfl (fun b2 w2 x2 _ r2 _=>?_)
 repeat (first|refine go ?_|refine zg λ_ _=>?_|refine zi λ_ _=>?_)
 refine tI rfl (fun h=>?_) (fun h=>?_)
 ·repeat (first|refine go ?_|refine zg λ_ _=>?_|refine zi λ_ _=>?_)
  exact aA rfl ⟨congrArg Value.bool (by rw [lK,if_pos h]),x1.trans x2⟩
 ·repeat (first|refine go ?_|refine zg λ_ _=>?_|refine zi λ_ _=>?_)
  exact aA rfl ⟨congrArg Value.bool (by rw [lK,if_neg h]),x1.trans x2⟩
theorem bB3 (s s':ByteArray) (i i':Int) (w:World):K.Spec Tryz.prog F.kedgeref10_same [.agg #[.string s,.int .u32 i],.agg #[.string s',.int .u32 i']] w fun v w'=>v=.bool (decide (s=s'∧i=i'))∧Ext w w':=by
 refine aJm rfl ?_
 unfold wN
 refine oy ?_
 repeat (first|refine go ?_|refine zg λ_ _=>?_|refine zi λ_ _=>?_)
 refine qN rfl rfl (fun b1 w1 x1 _ r1 _=>?_)
 repeat (first|refine go ?_|refine zg λ_ _=>?_|refine zi λ_ _=>?_)
 refine qN rfl rfl (fun b2 w2 x2 _ r2 _=>?_)
 repeat (first|refine go ?_|refine zg λ_ _=>?_|refine zi λ_ _=>?_)
 refine sA rfl (fun h=>?_) (fun h=>?_)
 ·repeat (first|refine go ?_|refine zg λ_ _=>?_|refine zi λ_ _=>?_)
  refine aA rfl ⟨congrArg Value.bool ?_,x1.trans x2⟩
  simp [h]
 ·repeat (first|refine go ?_|refine zg λ_ _=>?_|refine zi λ_ _=>?_)
  refine aA rfl ⟨congrArg Value.bool ?_,x1.trans x2⟩
  simp [h]
theorem bDu (p q:Pt) (w:World):K.Spec Tryz.prog F.kedgeref10_same [p.val,q.val] w fun v w'=>v=.bool (decide (p=q))∧Ext w w':=by
 have h:=bB3 p.s q.s p.i q.i w
 have e:decide (p.s=q.s∧p.i=q.i)=decide (p=q):=by cases p;cases q;simp
 rw [e] at h;exact h
theorem pM {v:Value} {l:List En} (p:Pt) (w:World) (hs:SlE bM w v l) (hn:l.length≤100000):K.Spec Tryz.prog F.kedgeref10_Find [v,p.val] w fun v' w'=>v'=.int .i64 (fC l p)∧Ext w w':=by
 refine aJi rfl ?_
 unfold wX
 refine oy ?_
 repeat (first|refine go ?_|refine zg λ_ _=>?_|refine zi λ_ _=>?_)
 refine qN rfl rfl (fun b1 w1 x1 a1 r1 hb1=>?_)
 repeat (first|refine go ?_|refine zg λ_ _=>?_|refine zi λ_ _=>?_)
 refine aI (fun (i:Nat) w'=>Ext w1 w'∧i≤l.length∧∀j,∀h:j<l.length,j<i→l[j].1≠p) (fun i=> [(0,v),(3,.pointer (some ⟨b1,0,none⟩)),(5,.int .i64 i)]) (fun i=>l.length - i) 0 ⟨rfl,rfl,rfl,trivial⟩ ⟨Ext.refl _,by omega,by intros;omega⟩ ?_
 rintro i ρ w2 ⟨x2,hi,hno⟩
 repeat (first|refine go ?_|refine zg λ_ _=>?_|refine zi λ_ _=>?_)
 refine aY rfl ((hs.ext x1).ext x2) ?_
 repeat (first|refine go ?_|refine zg λ_ _=>?_|refine zi λ_ _=>?_)
 refine tI rfl (fun h=>?_) (fun h=>?_)
 ·repeat (first|refine go ?_|refine zg λ_ _=>?_|refine zi λ_ _=>?_)
  rename_i w3 x3
  refine aS rfl rfl (((hs.ext x1).ext x2).ext x3) rfl (by omega) (fun ad r3=>?_)
  repeat (first|refine go ?_|refine zg λ_ _=>?_|refine zi λ_ _=>?_)
  have hil:i<l.length:=by omega
  refine iB rfl (bDu l[i].1 p _) ?_
  rintro _ w4 ⟨rfl,x4⟩
  repeat (first|refine go ?_|refine zg λ_ _=>?_|refine zi λ_ _=>?_)
  refine tI rfl (fun h2=>?_) (fun h2=>?_)
  ·repeat (first|refine go ?_|refine zg λ_ _=>?_|refine zi λ_ _=>?_)
   refine aA rfl ⟨congrArg (Value.int .i64) ?_,by repeat (first|assumption|exact Ext.refl _|refine Ext.trans ?_ (by assumption))⟩
   rw [fC,aE7.2 ⟨hil,h2,fun j hj=>hno j (by omega) hj⟩]
  ·repeat (first|refine go ?_|refine zg λ_ _=>?_|refine zi λ_ _=>?_)
   refine ⟨i+1,⟨rfl,rfl,rfl,trivial⟩,⟨by repeat (first|assumption|exact Ext.refl _|refine Ext.trans ?_ (by assumption)),by omega,fun j hj hji=>?_⟩,by omega⟩
   rcases Nat.lt_or_ge j i with h5|h5
   ·exact hno j hj h5
   ·have:j=i:=by omega
    subst this;exact h2
 ·repeat (first|refine go ?_|refine zg λ_ _=>?_|refine zi λ_ _=>?_)
  refine aA rfl ⟨congrArg (Value.int .i64) ?_,by repeat (first|assumption|exact Ext.refl _|refine Ext.trans ?_ (by assumption))⟩
  rw [fC,aM5.2]
  intro e he
  obtain ⟨j,hj,rfl⟩:=List.getElem_of_mem he
  exact hno j hj (by omega)
theorem aTa {v:Value} {l:List En} (w:World) (hs:SlE bM w v l) (hn:l.length≤100000) (hm:Mon l):K.Spec Tryz.prog F.kedgeref10_Total [v] w fun v' w'=>v'=.int .i64 (tot l)∧Ext w w':=by
 refine aG7 rfl ?_
 unfold uU
 refine oy ?_
 repeat (first|refine go ?_|refine zg λ_ _=>?_|refine zi λ_ _=>?_)
 refine aI (fun (i:Nat) w'=>Ext w w'∧i≤l.length) (fun i=> [(0,v),(3,.int .i64 (tot (l.take i))),(4,.int .i64 i)]) (fun i=>l.length - i) 0 ⟨rfl,rfl,rfl,trivial⟩ ⟨Ext.refl _,by omega⟩ ?_
 rintro i ρ w1 ⟨x1,hi⟩
 repeat (first|refine go ?_|refine zg λ_ _=>?_|refine zi λ_ _=>?_)
 refine aY rfl (hs.ext x1) ?_
 repeat (first|refine go ?_|refine zg λ_ _=>?_|refine zi λ_ _=>?_)
 refine tI rfl (fun h=>?_) (fun h=>?_)
 ·repeat (first|refine go ?_|refine zg λ_ _=>?_|refine zi λ_ _=>?_)
  refine aS rfl rfl (hs.ext x1) rfl (by omega) (fun ad r3=>?_)
  have hil:i<l.length:=by omega
  have e:=bAb hil
  have b1:=lT hm i
  have b2:=lT hm (i+1)
  have b3:=hm.2
  repeat (first|refine go ?_|refine zg λ_ _=>?_|refine zi λ_ _=>?_)
  exact ⟨i+1,⟨rfl,congrArg (Value.int .i64) e.symm,rfl,trivial⟩,⟨x1,by omega⟩,by omega⟩
 ·repeat (first|refine go ?_|refine zg λ_ _=>?_|refine zi λ_ _=>?_)
  refine aA rfl ⟨congrArg (Value.int .i64) ?_,x1⟩
  rw [tLe (by omega)]
def tU (v vl:Value) (l l':List En) (B:Nat):Prop:=(vl=v∧l'=l)∨∀b∈aB vl,B≤b
theorem tU.old {v vl:Value} {l l':List En} {B:Nat} (h:tU v vl l l' B):∀b∈aB vl,b∈aB v∨B≤b:=by
 rcases h with ⟨rfl, -⟩|h
 ·exact fun b hb=>.inl hb
 ·exact fun b hb=>.inr (h b hb)
theorem tU.trans {v vm vl:Value} {l m l':List En} {B B':Nat} (h:tU v vm l m B) (h':tU vm vl m l' B') (hB:B≤B'):tU v vl l l' B:=by
 rcases h' with ⟨rfl,rfl⟩|h'
 ·exact h
 ·exact .inr fun b hb=>nTr hB (h' b hb)
theorem aNo {v:Value} {l:List En} (p:Pt) (c:Cn) (w:World) (hs:SlE bM w v l) (hn:l.length≤100000) (hm:Mon l):K.Spec Tryz.prog F.kedgeref10_Put [v,p.val,c.val] w fun v' w'=>
  ∃vl,v'=.tuple #[vl,.int .i64 (aX l p c)]∧SlE bM w' vl (dD l p c)∧tU v vl l (dD l p c) w.heap.size∧Ext w w':=by
 refine aMf rfl ?_
 unfold aAb
 refine oy ?_
 have fail:∀{w':World} {n:Int},Ext w w'→n≠0→aX l p c=n→∃vl,Value.tuple #[v,.int .i64 n]=.tuple #[vl,.int .i64 (aX l p c)]∧SlE bM w' vl (dD l p c)∧tU v vl l (dD l p c) w.heap.size∧Ext w w':=by
  intro w' n x h0 hc
  refine ⟨v,by rw [hc],?_,.inl ⟨rfl,by rw [dD,if_neg (by rw [hc];exact h0)]⟩,x⟩
  rw [dD,if_neg (by rw [hc];exact h0)];exact hs.ext x
 repeat (first|refine go ?_|refine zg λ_ _=>?_|refine zi λ_ _=>?_)
 refine qN rfl rfl (fun b1 w1 x1 a1 r1 hb1=>?_)
 repeat (first|refine go ?_|refine zg λ_ _=>?_|refine zi λ_ _=>?_)
 refine qN rfl rfl (fun b2 w2 x2 a2 r2 hb2=>?_)
 repeat (first|refine go ?_|refine zg λ_ _=>?_|refine zi λ_ _=>?_)
 have e32:((p.s.size:Int)=32)↔p.s.size=32:=by omega
 refine aW0 rfl (fun h1=>?_) (fun h1=>?_)
 ·repeat (first|refine go ?_|refine zg λ_ _=>?_|refine zi λ_ _=>?_)
  refine aA (iR bJ bJ) (fail (by repeat (first|assumption|exact Ext.refl _|refine Ext.trans ?_ (by assumption))) (by decide) (xH ?_))
  have h1':¬p.s.size=32:=fun h=>by simp [e32.2 h] at h1
  simp [dR,h1']
 have h1:p.s.size=32:=e32.1 (by simpa using h1)
 repeat (first|refine go ?_|refine zg λ_ _=>?_|refine zi λ_ _=>?_)
 refine sA rfl (fun h2=>?_) (fun h2=>?_)
 ·repeat (first|refine go ?_|refine zg λ_ _=>?_|refine zi λ_ _=>?_)
  refine aA (iR bJ bJ) (fail (by repeat (first|assumption|exact Ext.refl _|refine Ext.trans ?_ (by assumption))) (by decide) (xH ?_))
  have h2':¬0≤c.h:=by omega
  simp [dR,h2']
 repeat (first|refine go ?_|refine zg λ_ _=>?_|refine zi λ_ _=>?_)
 refine sA rfl (fun h3=>?_) (fun h3=>?_)
 ·repeat (first|refine go ?_|refine zg λ_ _=>?_|refine zi λ_ _=>?_)
  refine aA (iR bJ bJ) (fail (by repeat (first|assumption|exact Ext.refl _|refine Ext.trans ?_ (by assumption))) (by decide) (xH ?_))
  have h3':¬c.h≤1000000:=by omega
  simp [dR,h3']
 repeat (first|refine go ?_|refine zg λ_ _=>?_|refine zi λ_ _=>?_)
 refine tZ rfl (fun h4=>?_) (fun h4=>?_)
 ·repeat (first|refine go ?_|refine zg λ_ _=>?_|refine zi λ_ _=>?_)
  refine aA (iR bJ bJ) (fail (by repeat (first|assumption|exact Ext.refl _|refine Ext.trans ?_ (by assumption))) (by decide) (xH ?_))
  have h4':cD c.v=false:=by simpa using h4
  simp [dR,h4']
 have h4:cD c.v=true:=by simpa using h4
 have hf:dR p c=true:=by simp [dR,h1,h4];omega
 have hcv:=(bN _).1 h4
 have ht:=lT hm l.length
 rw [List.take_length] at ht
 have hT:=hm.2
 repeat (first|refine go ?_|refine zg λ_ _=>?_|refine zi λ_ _=>?_)
 refine iB rfl (pM p _ ((hs.ext x1).ext x2) hn) ?_
 rintro _ w4 ⟨rfl,x4⟩
 repeat (first|refine go ?_|refine zg λ_ _=>?_|refine zi λ_ _=>?_)
 cases hi:eD l p with
 |some n=>
  have hfi:fC l p=(n:Int):=by rw [fC,hi]
  rw [hfi]
  have hpos:(n:Int)≥0:=by omega
  refine tI (p:=(n:Int)≥0) rfl (fun _=>?_) (fun h=>absurd hpos h)
  repeat (first|refine go ?_|refine zg λ_ _=>?_|refine zi λ_ _=>?_)
  exact aA (iR bJ bJ) (fail (by repeat (first|assumption|exact Ext.refl _|refine Ext.trans ?_ (by assumption))) (by decide) (aYx hf hi))
 |none=>
  have hfi:fC l p= -1:=by rw [fC,hi]
  rw [hfi]
  refine wK rfl ?_
  repeat (first|refine go ?_|refine zg λ_ _=>?_|refine zi λ_ _=>?_)
  refine iB rfl (aTa _ (((hs.ext x1).ext x2).ext x4) hn hm) ?_
  rintro _ w5 ⟨rfl,x5⟩
  repeat (first|refine go ?_|refine zg λ_ _=>?_|refine zi λ_ _=>?_)
  have hc0:=aM2 hf hi
  refine tZ rfl (fun h5=>?_) (fun h5=>?_)
  ·repeat (first|refine go ?_|refine zg λ_ _=>?_|refine zi λ_ _=>?_)
   refine aA (iR bJ bJ) (fail (by repeat (first|assumption|exact Ext.refl _|refine Ext.trans ?_ (by assumption))) (by decide) ?_)
   rw [hc0,(by simpa using h5:cD (tot l+c.v)=false)];rfl
  have h5:cD (tot l+c.v)=true:=by simpa using h5
  rw [h5] at hc0
  have hc0:aX l p c=0:=hc0
  repeat (first|refine go ?_|refine zg λ_ _=>?_|refine zi λ_ _=>?_)
  have x06:Unit→Ext w w5:=fun _=>by repeat (first|assumption|exact Ext.refl _|refine Ext.trans ?_ (by assumption))
  have hs6:=hs.ext (x06 ())
  have r16:Row w5 ⟨b1,0,none⟩ _:=((r1.ext x2).ext x4).ext x5
  have r26:Row w5 ⟨b2,0,none⟩ _:=(r2.ext x4).ext x5
  refine aI (fun (s:Nat × Value) w'=>Ext w5 w'∧s.1≤l.length∧Own bM T.kedgeref10_Entry w5.heap.size w' s.2 (dO p c (l.take s.1)).1)
   (fun s=> [(0,v),(4,.pointer (some ⟨b1,0,none⟩)),(5,.pointer (some ⟨b2,0,none⟩)),(11,s.2),(12,.bool (dO p c (l.take s.1)).2),(13,.int .i64 s.1)]) (fun s=>l.length - s.1) (0,.slice none 0 0) ⟨rfl,rfl,rfl,rfl,rfl,rfl,trivial⟩ ⟨Ext.refl _,by simp,by simpa [dO] using Own.nil _ _ _⟩ ?_
  rintro ⟨i,vo⟩ ρ w7 ⟨x7,hil,ho⟩
  simp only at hil ho
  have hlen:=bCj p c (l.take i)
  have hlt:(l.take i).length≤l.length:=by simp;omega
  repeat (first|refine go ?_|refine zg λ_ _=>?_|refine zi λ_ _=>?_)
  refine aY rfl (hs6.ext x7) ?_
  repeat (first|refine go ?_|refine zg λ_ _=>?_|refine zi λ_ _=>?_)
  refine tI rfl (fun h=>?_) (fun h=>?_)
  ·have hil':i<l.length:=by omega
   repeat (first|refine go ?_|refine zg λ_ _=>?_|refine zi λ_ _=>?_)
   rename_i w8 x8
   refine aS rfl rfl ((hs6.ext x7).ext x8) rfl hil' (fun ad r8=>?_)
   repeat (first|refine go ?_|refine zg λ_ _=>?_|refine zi λ_ _=>?_)
   refine iB rfl (bCp p l[i].1 _) ?_
   rintro _ w9 ⟨rfl,x9⟩
   repeat (first|refine go ?_|refine zg λ_ _=>?_|refine zi λ_ _=>?_)
   have x79:Unit→Ext w5 w9:=fun _=>by repeat (first|assumption|exact Ext.refl _|refine Ext.trans ?_ (by assumption))
   have no:lK p l[i].1=false∨(dO p c (l.take i)).2=true→dO p c (l.take (i+1))=((dO p c (l.take i)).1++ [l[i]],(dO p c (l.take i)).2):=fun h=>bD1 hil' h
   refine aW0 rfl (fun hL=>?_) (fun hL=>?_)
   ·repeat (first|refine go ?_|refine zg λ_ _=>?_|refine zi λ_ _=>?_)
    refine tZ rfl (fun hq=>?_) (fun hq=>?_)
    ·have hq:(dO p c (l.take i)).2=false:=by simpa using hq
     have yes:=bDg (c:=c) hil' hL hq
     repeat (first|refine go ?_|refine zg λ_ _=>?_|refine zi λ_ _=>?_)
     refine gP rfl (fun b13 w13 x13 a13 hb13=>?_)
     repeat (first|refine go ?_|refine zg λ_ _=>?_|refine zi λ_ _=>?_)
     refine cA (E:=bM) (v:=vo) (l2:= [(p,c)]) rfl (((ho.ext x8).ext x9).ext x13) (nTr (Ext.size (x79 ())) x13.size) rfl rfl (dX a13 rfl) rfl rfl (by simp;omega) (fun vo1 w14 ho1 c14=>?_)
     have x614:Unit→Ext w5 w14:=fun _=>(((x79 ()).trans x13).chg c14).mono (fun b hb=>.inr (ho.base b (by simpa using hb)))
     repeat (first|refine go ?_|refine zg λ_ _=>?_|refine zi λ_ _=>?_)
     refine aS rfl rfl (hs6.ext (x614 ())) rfl hil' (fun ad r10=>?_)
     repeat (first|refine go ?_|refine zg λ_ _=>?_|refine zi λ_ _=>?_)
     refine gP rfl (fun b11 w11 x11 a11 hb11=>?_)
     repeat (first|refine go ?_|refine zg λ_ _=>?_|refine zi λ_ _=>?_)
     refine cA (E:=bM) (v:=vo1) (l2:= [l[i]]) rfl (ho1.ext x11) (nTr (Ext.size (x614 ())) x11.size) rfl rfl (dX a11 rfl) rfl rfl (by simp;omega) (fun vo' w12 ho' c12=>?_)
     repeat (first|refine go ?_|refine zg λ_ _=>?_|refine zi λ_ _=>?_)
     refine ⟨(i+1,vo'),⟨rfl,rfl,rfl,rfl,?_,rfl,trivial⟩,⟨(((x614 ()).trans x11).chg c12).mono (fun b hb=>.inr (ho1.base b (by simpa using hb))),by simp;omega,?_⟩,by simp;omega⟩
     ·show Value.bool true=.bool (dO p c (l.take (i+1))).2
      rw [yes]
     ·show Own _ _ _ _ _ (dO p c (l.take (i+1))).1
      rw [yes];exact ho'
    ·have hq:(dO p c (l.take i)).2=true:=by simpa using hq
     repeat (first|refine go ?_|refine zg λ_ _=>?_|refine zi λ_ _=>?_)
     refine aS rfl rfl (hs6.ext (x79 ())) rfl hil' (fun ad r10=>?_)
     repeat (first|refine go ?_|refine zg λ_ _=>?_|refine zi λ_ _=>?_)
     refine gP rfl (fun b11 w11 x11 a11 hb11=>?_)
     repeat (first|refine go ?_|refine zg λ_ _=>?_|refine zi λ_ _=>?_)
     refine cA (E:=bM) (v:=vo) (l2:= [l[i]]) rfl (((ho.ext x8).ext x9).ext x11) (nTr (Ext.size (x79 ())) x11.size) rfl rfl (dX a11 rfl) rfl rfl (by simp;omega) (fun vo' w12 ho' c12=>?_)
     repeat (first|refine go ?_|refine zg λ_ _=>?_|refine zi λ_ _=>?_)
     refine ⟨(i+1,vo'),⟨rfl,rfl,rfl,rfl,?_,rfl,trivial⟩,⟨(((x79 ()).trans x11).chg c12).mono (fun b hb=>.inr (ho.base b (by simpa using hb))),by simp;omega,?_⟩,by simp;omega⟩
     ·show Value.bool (dO p c (l.take i)).2=.bool (dO p c (l.take (i+1))).2
      rw [no (.inr hq)]
     ·show Own _ _ _ _ _ (dO p c (l.take (i+1))).1
      rw [no (.inr hq)];exact ho'
   ·repeat (first|refine go ?_|refine zg λ_ _=>?_|refine zi λ_ _=>?_)
    refine aS rfl rfl (hs6.ext (x79 ())) rfl hil' (fun ad r10=>?_)
    repeat (first|refine go ?_|refine zg λ_ _=>?_|refine zi λ_ _=>?_)
    refine gP rfl (fun b11 w11 x11 a11 hb11=>?_)
    repeat (first|refine go ?_|refine zg λ_ _=>?_|refine zi λ_ _=>?_)
    refine cA (E:=bM) (v:=vo) (l2:= [l[i]]) rfl (((ho.ext x8).ext x9).ext x11) (nTr (Ext.size (x79 ())) x11.size) rfl rfl (dX a11 rfl) rfl rfl (by simp;omega) (fun vo' w12 ho' c12=>?_)
    repeat (first|refine go ?_|refine zg λ_ _=>?_|refine zi λ_ _=>?_)
    refine ⟨(i+1,vo'),⟨rfl,rfl,rfl,rfl,?_,rfl,trivial⟩,⟨(((x79 ()).trans x11).chg c12).mono (fun b hb=>.inr (ho.base b (by simpa using hb))),by simp;omega,?_⟩,by simp;omega⟩
    ·show Value.bool (dO p c (l.take i)).2=.bool (dO p c (l.take (i+1))).2
     rw [no (.inl hL)]
    ·show Own _ _ _ _ _ (dO p c (l.take (i+1))).1
     rw [no (.inl hL)];exact ho'
  ·have el:l.take i=l:=tLe (by omega)
   have s6:=(x06 ()).size
   repeat (first|refine go ?_|refine zg λ_ _=>?_|refine zi λ_ _=>?_)
   refine tZ rfl (fun hp=>?_) (fun hp=>?_)
   ·have hp:(dO p c (l.take i)).2=false:=by simpa using hp
    repeat (first|refine go ?_|refine zg λ_ _=>?_|refine zi λ_ _=>?_)
    refine gP rfl (fun b13 w13 x13 a13 hb13=>?_)
    repeat (first|refine go ?_|refine zg λ_ _=>?_|refine zi λ_ _=>?_)
    refine cA (E:=bM) (v:=vo) (l2:= [(p,c)]) rfl (ho.ext x13) (nTr x7.size x13.size) rfl rfl (dX a13 rfl) rfl rfl (by simp;omega) (fun vo1 w14 ho1 c14=>?_)
    have x614:Unit→Ext w5 w14:=fun _=>((x7.trans x13).chg c14).mono (fun b hb=>.inr (ho.base b (by simpa using hb)))
    repeat (first|refine go ?_|refine zg λ_ _=>?_|refine zi λ_ _=>?_)
    rw [el] at hp ho1
    refine aA (iR bJ bJ) ⟨vo1,by rw [hc0];rfl,?_,.inr fun b hb=>nTr s6 (ho1.base b hb),(x06 ()).trans (x614 ())⟩
    rw [dD,if_pos hc0,aXl,hp]
    exact ho1.sl
   ·have hp:(dO p c (l.take i)).2=true:=by simpa using hp
    repeat (first|refine go ?_|refine zg λ_ _=>?_|refine zi λ_ _=>?_)
    rw [el] at hp ho
    refine aA (iR bJ bJ) ⟨vo,by rw [hc0];rfl,?_,.inr fun b hb=>nTr s6 (ho.base b hb),(x06 ()).trans x7⟩
    rw [dD,if_pos hc0,aXl,hp]
    exact ho.sl
end
section
open Go Go.K
attribute [local irreducible] aF aP bG KOp.wp K.Spec u32 leS vnS str aR dE bS idT aO aE aQ idN
theorem bSx {k:Nat} (h:k≤1000):IntKind.u32.wrap ((k:Nat):Int)=(k:Nat):=by rw [wrap32];omega
theorem aTs (V:List En) (h:Int) (x:Ent) (k:Nat):(aD6 V h x k).length≤k:=by
 unfold aD6
 exact nTr (List.length_filter_le _ _) (by simp)
theorem aYf {V:List En} {h:Int}:∀{l:List Ent},(∀x∈l,x.tx.outs.length≤1000)→(l.flatMap (qQ V h)).length≤1000*l.length
 | [],_=>by simp
 |x::l,hE=>by
  have h1:=aYf (V:=V) (h:=h) (l:=l) (fun y hy=>hE y (by simp [hy]))
  have h2:=hE x (by simp)
  have h3:=aTs V h x x.tx.outs.length
  rw [List.flatMap_cons,List.length_append,List.length_cons]
  have:(qQ V h x).length≤1000:=nTr h3 h2
  omega
theorem bH1 {V:List En} {h:Int} {l:List Ent} {i:Nat} (hi:i<l.length):(l.take (i+1)).flatMap (qQ V h)=(l.take i).flatMap (qQ V h)++qQ V h l[i]:=by
 rw [List.take_succ_eq_append_getElem hi,List.flatMap_append,List.flatMap_cons,List.flatMap_nil,List.append_nil]
theorem bLl {V:List En} {p:Pt}:(fC V p<0)=((aL V p).isNone=true):=by
 unfold fC
 cases hi:eD V p with
 |none=>rw [mY hi];simp
 |some n=>
  have:=aDg hi
  rw [mX hi this]
  simp only [Option.isNone_some,Bool.false_eq_true,eq_iff_iff,iff_false]
  omega
set_option maxHeartbeats 2000000 in
theorem kY {M:List Nat} {v u:Value} {V:List En} {l:List Ent} (h:Int) (w:World) (hv:SlE bM w v V) (hu:SlR dC M w u l) (hV:V.length≤1000) (hl:l.length≤1000) (hE:∀x∈l,x.tx.outs.length≤1000):
  K.Spec Tryz.prog F.kedgeref17_Over [v,u,.int .i64 h] w fun r w'=>Own bM T.kedgeref10_Entry w.heap.size w' r (cX V l h)∧Ext w w':=by
 have hflat:∀i,((l.take i).flatMap (qQ V h)).length≤1000000:=fun i=>by
  have h1:=aYf (V:=V) (h:=h) (l:=l.take i) (fun x hx=>hE x (List.mem_of_mem_take hx))
  have:(l.take i).length≤l.length:=by rw [List.length_take];omega
  omega
 refine aIf rfl ?_
 unfold yE
 refine oy ?_
 repeat' (first|refine go1 ?_|refine zg λ_ _=>?_|refine zi λ_ _=>?_|(refine aI (a:=.seq _ (.seq (.block 1 _) _)) (fun (p:Nat × Value) w'=>Ext w w'∧p.1≤V.length∧Own bM T.kedgeref10_Entry w.heap.size w' p.2 (V.take p.1)) (fun p=> [(0,v),(1,u),(2,.int .i64 h),(7,p.2),(8,.int .i64 p.1)]) (fun p=>V.length - p.1) (0,.slice none 0 0) ⟨rfl,rfl,rfl,rfl,rfl,trivial⟩ ⟨Ext.refl _,by simp,Own.nil _ _ _⟩ ?_;rintro ⟨i,vo⟩ ρ w1 ⟨x1,hi,ho⟩;simp only at hi ho;dsimp only)|refine zL (p:=(((i:Nat):Int)<((V.length:Nat):Int))) rfl (fun h5=>?_) (fun h5=>?_)|refine aY (d:=some 15) rfl (SlE.ext (w:=w) (by exact fx) hv) ?_|(refine aS (d:=some 22) (E:=bM) rfl rfl (n:=i) (l:=V) (SlE.ext (w:=w) (by exact fx) hv) rfl (by omega) (fun ad r2=>?_);have hil:i<V.length:=(by omega))|refine zI (d:=some 24) rfl (fun b w3 x3 a3 hb=>?_)|refine cA (d:=some 25) (E:=bM) (v:=vo) (l2:= [V[i]]) rfl (ho.ext (by exact fx)) (Ext.size (w:=w) (by exact fx)) rfl rfl (dX a3 rfl) rfl rfl (by have:=List.length_take_le i V;simp only [List.length_cons,List.length_nil];omega) (fun v5 w5 ho5 c5=>?_))
 ·exact ⟨(i+1,v5),⟨rfl,rfl,rfl,rfl,rfl,trivial⟩,⟨(Ext.chg (w:=w) (by exact fx) c5).mono (fun b hb=>.inr (ho.base b (by simpa using hb))),by simp;omega,by rw [List.take_succ_eq_append_getElem hil];exact ho5⟩,by simp;omega⟩
 rw [tLe (by omega)] at ho
 have x1':Unit→Ext w w1:=fun _=>x1
 have hflat':=hflat
 clear hflat x1
 repeat' (first|(refine aI (a:=.seq _ (.seq (.block 3 _) _)) (fun (p:Nat × Value) w'=>Ext w w'∧p.1≤l.length∧Own bM T.kedgeref10_Entry w.heap.size w' p.2 (V++(l.take p.1).flatMap (qQ V h))) (fun p=> [(0,v),(1,u),(2,.int .i64 h),(7,p.2),(9,.int .i64 p.1)]) (fun p=>l.length - p.1) (0,vo) ⟨rfl,rfl,rfl,rfl,rfl,trivial⟩ ⟨x1' (),by simp,by simpa using ho⟩ ?_;clear ho;rintro ⟨i,vo⟩ ρ w1 ⟨x1,hi,ho⟩;simp only at hi ho;dsimp only)|refine zL (x:=.tmp 29) (p:=(((i:Nat):Int)<((l.length:Nat):Int))) rfl (fun h5=>?_) (fun h5=>?_)|refine zG (d:=some 28) (E:=dC) (M:=M) (l:=l) rfl (SlR.ext hu (by exact fx)) ?_|(have hil:i<l.length:=(by omega);have hfi:=hflat' i;have hlen:=hE _ (gMe hil);refine aI (a:=.seq _ (.seq (.block 5 _) _)) (fun (p:Nat × Value) w'=>Ext w w'∧p.1≤l[i].tx.outs.length∧Own bM T.kedgeref10_Entry w.heap.size w' p.2 (V++(l.take i).flatMap (qQ V h)++aD6 V h l[i] p.1)) (fun p=> [(0,v),(1,u),(2,.int .i64 h),(7,p.2),(9,.int .i64 i),(10,.int .i64 p.1)]) (fun p=>l[i].tx.outs.length - p.1) (0,vo) ⟨rfl,rfl,rfl,rfl,rfl,rfl,trivial⟩ ⟨x1,by simp,by simpa [aD6] using ho⟩ ?_;rintro ⟨k,vk⟩ ρ w2 ⟨x2,hk,hok⟩;simp only at hk hok;dsimp only)|(refine aM (d:=some 35) (E:=dC) (M:=M) rfl rfl (n:=i) (l:=l) (SlR.ext hu (by exact fx)) rfl hil (fun ad cs r4 he=>?_);obtain ⟨iv,ov,rfl,g1,g2,g3⟩:=he)|refine zG (d:=some 39) (E:=fS) (M:=M) (l:=l[i].tx.outs) rfl g2 ?_|refine zL (p:=(((k:Nat):Int)<((l[i].tx.outs.length:Nat):Int))) rfl (fun h6=>?_) (fun h6=>?_)|refine aD (d:=some 49) (.int .u32 ((k:Nat):Int)) rfl (congrArg (fun n=>some (Value.int .u32 n)) (bSx (by omega))) ?_|(refine aM (d:=some 45) (E:=dC) (M:=M) rfl rfl (n:=i) (l:=l) (SlR.ext hu (by exact fx)) rfl hil (fun ad5 cs5 r5 he5=>?_);obtain ⟨iv5,ov5,rfl,g15,g25,g35⟩:=he5)|refine aT (d:=some 50) (cs:=(⟨l[i].id,((k:Nat):Int)⟩:Pt).cs) rfl ?_|(refine zE (d':=11) (fun _=>rfl) rfl rfl rfl (fun b11 w11 x11 a11 (r11:Row w11 ⟨b11,0,none⟩ (⟨l[i].id,((k:Nat):Int)⟩:Pt).cs) hb11=>?_))|(refine zC (d:=some 53) rfl (pM ⟨l[i].id,((k:Nat):Int)⟩ _ (SlE.ext (w:=w) (by exact fx) hv) (by omega)) ?_;rintro _ w3 ⟨rfl,x3⟩)|(refine zL (p:=fC V ⟨l[i].id,((k:Nat):Int)⟩<0) rfl (fun h7=>?_) (fun h7=>?_)<;>rw [bLl] at h7)|(refine aM (d:=some 60) (E:=dC) (M:=M) rfl rfl (n:=i) (l:=l) (SlR.ext hu (by exact fx)) rfl hil (fun ad6 cs6 r6 he6=>?_);obtain ⟨iv6,ov6,rfl,g16,g26,g36⟩:=he6)|(have hkl:k<l[i].tx.outs.length:=(by omega);refine aM (d:=some 65) (E:=fS) (M:=M) rfl rfl (n:=k) (l:=l[i].tx.outs) g26 rfl hkl (fun ad7 cs7 r7 he7=>?_);obtain ⟨rfl,hv7⟩:=he7)|refine aT (d:=some 68) (cs:=(vW h l[i] k).2.cs) (by simp only [vW,List.getD_eq_getElem?_getD,List.getElem?_eq_getElem hkl,Option.getD_some];rfl) ?_|refine aT (d:=some 69) (cs:=bM.f (vW h l[i] k)) rfl ?_|refine zI (d:=some 70) (cs:=bM.f (vW h l[i] k)) rfl (fun b w8 x8 a8 hb=>?_)|(have hlo:=aTs V h l[i] k;refine cA (d:=some 71) (E:=bM) (v:=vk) (l2:= [vW h l[i] k]) rfl (hok.ext (by exact fx)) (Ext.size (w:=w) (by exact fx)) rfl rfl (dX a8 rfl) rfl rfl (by simp only [List.length_append,List.length_cons,List.length_nil];omega) (fun v9 w9 ho9 c9=>?_))|refine go1 ?_|refine zg λ_ _=>?_|refine zi λ_ _=>?_)
 ·exact ⟨(k+1,v9),⟨rfl,rfl,rfl,rfl,rfl,rfl,trivial⟩,⟨(Ext.chg (w:=w) (by exact fx) c9).mono (fun b hb=>.inr (hok.base b (by simpa using hb))),by simp;omega,by rw [aRv,if_pos h7,←List.append_assoc];exact ho9⟩,by simp;omega⟩
 ·exact ⟨(k+1,vk),⟨rfl,rfl,rfl,rfl,rfl,rfl,trivial⟩,⟨by exact fx,by simp;omega,by rw [aRv,if_neg h7,List.append_nil];exact hok.ext (by exact fx)⟩,by simp;omega⟩
 ·have:k=l[i].tx.outs.length:=by omega
  subst this
  exact ⟨(i+1,vk),⟨rfl,rfl,rfl,rfl,rfl,trivial⟩,⟨x2,by simp;omega,by rw [bH1 hil,←List.append_assoc];exact hok⟩,by simp;omega⟩
 ·rw [tLe (by omega)] at ho
  exact aA rfl ⟨ho,x1⟩
set_option maxHeartbeats 1000000 in
theorem aBz {v:Value} {V:List En} {n:Nat} (w:World) (hv:SlE bM w v V) (hV:CoinsOk V n) (hn:n≤1000):
  K.Spec Tryz.prog F.kedgelaw17_set [v] w fun r w'=>∃b mb,r=.pointer (some ⟨b,0,none⟩)∧mD T.coins_Set w' b mb V∧w.heap.size≤b∧w.heap.size≤mb∧Ext w w':=by
 have hlen:=hV.len
 refine aLb rfl ?_
 unfold aA8
 refine oy ?_
 repeat' (first|refine go1 ?_|refine zg λ_ _=>?_|refine zi λ_ _=>?_|(refine zC rfl (aLw _) ?_;rintro _ w1 ⟨b,mb,rfl,hS,hb,hmb,x1⟩)|refine aY (d:=some 8) rfl (SlE.ext (w:=w) (by exact fx) hv) ?_|(refine aI (fun (i:Nat) w'=>Ext w w'∧i≤V.length∧mD T.coins_Set w' b mb (V.take i)) (fun i=> [(3,.pointer (some ⟨b,0,none⟩)),(7,v),(8,.int .i64 (V.length:Nat)),(9,.int .i64 i)]) (fun i=>V.length - i) 0 ⟨rfl,rfl,rfl,rfl,trivial⟩ ⟨x1,by simp,hS⟩ ?_;clear hS x1;rintro i ρ w2 ⟨x2,hi,hS⟩)|refine zL (p:=(((i:Nat):Int)<((V.length:Nat):Int))) rfl (fun h6=>?_) (fun h6=>?_)|(have hil:i<V.length:=(by omega);refine aS (d:=some 11) (E:=bM) rfl rfl (n:=i) (l:=V) (SlE.ext (w:=w) (by exact fx) hv) rfl hil (fun ad r2=>?_))|refine zE (d':=5) (fun _=>rfl) rfl rfl rfl (fun b5 w5 x5 a5 (r5:Row w5 ⟨b5,0,none⟩ (bM.f V[i])) hb5=>?_)|(refine zC (d:=some 18) rfl (aL3 V[i].1 V[i].2 _ (hS.ext (by exact fx))) ?_;rintro _ w6 ⟨rfl,hS6,c6⟩))
 ·rw [(aYm hV hn hil).2] at hS6
  exact ⟨i+1,⟨rfl,rfl,rfl,rfl,trivial⟩,⟨(Ext.chg (x2.trans x5) c6).mono (by intro y hy;simp at hy;right;omega),by omega,hS6⟩,by omega⟩
 ·rw [tLe (by omega)] at hS
  exact aA rfl ⟨b,mb,rfl,hS,hb,hmb,x2⟩
end
section
open Go Go.K
attribute [local irreducible] aF aP bG KOp.wp K.Spec u32 leS vnS str aR dE bS idT aO aE aQ idN
theorem bJ8 (b:UInt8) (m:Nat) (h:0<m):bZ .rem (.int .u8 (b.toNat:Nat)) (.int .u8 (m:Nat))=some (.int .u8 ((UInt8.ofNat (b.toNat%m)).toNat:Nat)):=by
 have h1:=b.toNat_lt
 have h2:b.toNat%m≤b.toNat:=Nat.mod_le _ _
 have e:(UInt8.ofNat (b.toNat%m)).toNat=b.toNat%m:=by rw [UInt8.toNat_ofNat'];omega
 rw [aEf _ _ h,e]
theorem bTf (b:UInt8) (m:Nat) (h:0<m):bZ .quo (.int .u8 (b.toNat:Nat)) (.int .u8 (m:Nat))=some (.int .u8 ((UInt8.ofNat (b.toNat / m)).toNat:Nat)):=by
 have h1:=b.toNat_lt
 have h2:b.toNat / m≤b.toNat:=Nat.div_le_self _ _
 have e:(UInt8.ofNat (b.toNat / m)).toNat=b.toNat / m:=by
  rw [UInt8.toNat_ofNat']
  generalize b.toNat / m=q at h2 ⊢
  omega
 have hne:(m:Int)≠0:=by omega
 simp only [bZ,dY,Bool.false_eq_true,if_false,if_true,dS]
 rw [if_neg hne,td,e]
 have hw:IntKind.u8.wrap ((b.toNat / m:Nat):Int)=((b.toNat / m:Nat):Int)%256:=rfl
 rw [hw]
 congr 2
 generalize b.toNat / m=q at h2 ⊢
 omega
theorem bQm (a:Int) (m:Nat) (h:0<m) (ha: -9223372036854775808<a∧a<9223372036854775808):bZ .quo (.int .i64 a) (.int .i64 (m:Nat))=some (.int .i64 (a.tdiv (m:Nat))):=by
 have hne:(m:Int)≠0:=by omega
 simp only [bZ,dY,Bool.false_eq_true,if_false,if_true,dS]
 rw [if_neg hne]
 have hb: -9223372036854775808≤a.tdiv (m:Nat)∧a.tdiv (m:Nat)≤9223372036854775807:=by
  by_cases hn:0≤a
  ·obtain ⟨n,rfl⟩:=Int.eq_ofNat_of_zero_le hn
   rw [td]
   have:=Nat.div_le_self n m
   generalize n / m=q at this ⊢
   omega
  ·obtain ⟨n,hn2⟩:=Int.eq_ofNat_of_zero_le (show 0≤ -a by omega)
   have e:a= -((n:Nat):Int):=by omega
   rw [e,Int.neg_tdiv,td]
   have:=Nat.div_le_self n m
   generalize n / m=q at this ⊢
   omega
 rw [IntWalk.i64_in _ hb]
theorem bTi (z:PSm):0≤aOf z∧aOf z<4294967296:=by
 unfold aOf
 split
 ·omega
 ·split<;>omega
abbrev zTx:List Value:= [.int .u32 0,.slice none 0 0,.slice none 0 0,.int .u32 0]
set_option maxHeartbeats 4000000 in
theorem gQ {M:List Nat} {v:Value} {cs:List Value} {V:List En} {z:PSm} {B:Int} (w:World) (hv:SlE bM w v V) (hz:jK.rel M w cs z) (hn:V.length≤1100000) (hV:∀e∈V,0≤e.2.v∧e.2.v≤B) (hB:0≤B∧B≤1000000000000000) (hi:∀e∈V,dM e.1.i) (hM:∀b∈M,b<w.heap.size):
  K.Spec Tryz.prog F.kedgeref17_Make [v,.agg cs.toArray] w fun r w'=>∃cs',r=.agg cs'.toArray∧txO w.heap.size M w' cs' (bE V z)∧Ext w w':=by
 obtain ⟨fv,rfl,hfr,hf1,hf2⟩:=hz
 have hsum:∀i,0≤(((z.spends.take 4).take i).map (zZ V)).sum∧(((z.spends.take 4).take i).map (zZ V)).sum≤4000000000000000:=fun i=>by
  have h:=aDo hB.1 hV ((z.spends.take 4).take i)
  have h2:((z.spends.take 4).take i).length≤4:=by rw [List.length_take,List.length_take];omega
  refine ⟨h.1,Int.le_trans h.2 ?_⟩
  have:B*(((z.spends.take 4).take i).length:Nat)≤B*4:=Int.mul_le_mul_of_nonneg_left (by omega) hB.1
  omega
 have hseq:=bTi z
 refine aJk rfl ?_
 unfold xY
 refine oy ?_
 repeat (first|refine go ?_|refine zg λ_ _=>?_|refine zi λ_ _=>?_)
 refine zD rfl rfl (fun bp wp xp ap rp hp0=>?_)
 repeat (first|refine go ?_|refine zg λ_ _=>?_|refine zi λ_ _=>?_)
 refine zH (fun b4 w4 x4 a4 hb4=>?_)
 repeat (first|refine cR (d:=some 16) rfl rfl (aEf z.mark.toNat 3 (by decide)) ?_|refine aD (d:=some 17) (.int .u32 ((z.mark.toNat%3:Nat):Int)) rfl (congrArg (fun n=>some (Value.int .u32 n)) (by have:=z.mark.toNat_lt;rw [wrap32];omega)) ?_|refine go1 ?_|refine zg λ_ _=>?_|refine zi λ_ _=>?_)
 refine zE (fun _=>rfl) rfl rfl rfl (fun b5 w5 x5 a5 r5 hb5=>?_)
 have lp:=ap.lt
 have l4:=a4.lt
 have l5:=a5.lt
 have sp:=xp.size
 have s4:=x4.size
 have s5:=x5.size
 obtain ⟨M1,hM1⟩:∃M1,M1= [b4,b5]++M:=⟨_,rfl⟩
 have hM1b:∀b∈M1,b<w5.heap.size:=by
  intro y hy;rw [hM1] at hy;simp at hy
  rcases hy with h|h|h
  ·omega
  ·omega
  ·have:=hM y h;omega
 have m4:b4∈M1:=by rw [hM1];simp
 have m5:b5∈M1:=by rw [hM1];simp
 have mM:∀b∈M,b∈M1:=by intro y hy;rw [hM1];simp [hy]
 have a4':At w5 b4 (.cells zTx.toArray T.api_Tx (0,0)):=At.ext x5 a4
 have a5':At w5 b5 (.cells [Value.int .u32 2,.slice none 0 0,.slice none 0 0,.int .u32 ((z.mark.toNat%3:Nat):Int)].toArray T.api_Tx (0,0)):=a5
 have ap':At w5 bp (.cells (gF z fv).toArray T.kedgeref17_Small (0,0)):=At.ext x5 (At.ext x4 ap)
 have xw:Unit→Ext w w5:=fun _=>(xp.trans x4).trans x5
 have h40:(z.spends.take 4).length=min 4 z.spends.length:=List.length_take
 repeat' (first|refine cR (d:=some 32) rfl rfl (bJ8 z.tag 3 (by decide)) ?_|refine cR (d:=some 97) rfl rfl (aEf z.pays.toNat 3 (by decide)) ?_|refine aD (d:=some 98) (.int .i64 ((z.pays.toNat%3:Nat):Int)) rfl (congrArg (fun n=>some (Value.int .i64 n)) (uA (by omega))) ?_|refine aD (d:=some 99) (.int .i64 ((1+z.pays.toNat%3:Nat):Int)) rfl (congrArg (fun n=>some (Value.int .i64 n)) (IntWalk.i64_in _ (by omega))) ?_|refine aD (d:=some 103) (.int .i64 z.fee) rfl (congrArg (fun n=>some (Value.int .i64 n)) (IntWalk.i64_in _ (by omega))) ?_|refine go1 ?_|refine zg λ_ _=>?_|refine zi λ_ _=>?_|refine zJ rfl (fun h=>?_) (fun h=>?_)|refine zL rfl (fun h=>?_) (fun h=>?_)|refine zG (E:=u8R) (M:=M) rfl (SlR.ext (w:=w) hfr (by exact fx)) ?_|(refine aI (fun (p:Nat × Value) w'=>Ext w w'∧w5.heap.size≤w'.heap.size∧At w' bp (.cells (gF z fv).toArray T.kedgeref17_Small (0,0))∧p.1≤z.spends.length∧p.1≤4∧At w' b4 (.cells zTx.toArray T.api_Tx (0,0))∧At w' b5 (.cells [Value.int .u32 2,p.2,.slice none 0 0,.int .u32 ((z.mark.toNat%3:Nat):Int)].toArray T.api_Tx (0,0))∧bR inR T.api_In w5.heap.size M1 w' p.2 (((z.spends.take 4).take p.1).map (inP V z))) (fun p=> [(0,v),(3,.pointer (some ⟨bp,0,none⟩)),(4,.pointer (some ⟨b4,0,none⟩)),(5,.pointer (some ⟨b5,0,none⟩)),(6,.int .i64 (((z.spends.take 4).take p.1).map (zZ V)).sum),(7,.int .i64 p.1)]) (fun p=>4 - p.1) (0,.slice none 0 0) ⟨rfl,rfl,rfl,rfl,rfl,rfl,trivial⟩ ⟨xw (),Nat.le_refl _,ap',by simp,by simp,a4',a5',bR.nil _ _ _ _⟩ ?_;rintro ⟨i,vi⟩ ρ w6 ⟨x6,s56,q3,hi1,hi2,q4,q5,o1⟩;simp only at hi1 hi2 q5 o1;dsimp only;have q3r:=Row.of_at q3;have hsi:=hsum i))
 ·have hif:i<z.spends.length:=by omega
  have hi4:i<(z.spends.take 4).length:=by omega
  have hgi:(z.spends.take 4)[i]=z.spends[i]:=List.getElem_take
  have q5r:Row w6 ⟨b5,0,none⟩ [Value.int .u32 2,vi,.slice none 0 0,.int .u32 ((z.mark.toNat%3:Nat):Int)]:=Row.of_at q5
  have x56:Unit→Ext w w6:=fun _=>x6
  clear x6
  have hsi1:=hsum (i+1)
  rw [List.take_succ_eq_append_getElem hi4,List.map_append,List.sum_append,hgi,List.map_cons,List.map_nil,List.sum_cons,List.sum_nil,Int.add_zero] at hsi1
  have hv6:=hv.ext (x56 ())
  have hfr6:=hfr.ext (x56 ())
  obtain ⟨s,hs⟩:∃s,s=z.spends[i]:=⟨_,rfl⟩
  rw [←hs] at hsi1 hgi
  repeat (first|refine cR (d:=some 32) rfl rfl (bJ8 z.tag 3 (by decide)) ?_|refine zI (d:=some 33) rfl (fun b33 w7 x7 a33 hb33=>?_)|refine tY (d:=some 34) (l:= [0,UInt8.ofNat (z.tag.toNat%3),0]) rfl (SlE.new (E:=u8E) a33 rfl (Nat.le_refl _)) ?_|refine zI (d:=some 35) (cs:= [.string (aW6 z)]) rfl (fun b35 w8 x8 a35 hb35=>?_)|refine aT (d:=some 36) (cs:=eJ ⟨⟨⟨#[]⟩,0⟩,4294967293, []⟩ (.slice (some ⟨b35,0,none⟩) 1 1)) rfl ?_|(refine zE (d':=8) (fun _=>rfl) rfl rfl rfl (fun b8 w9 x9 a8 (r8:Row w9 ⟨b8,0,none⟩ (eJ ⟨⟨⟨#[]⟩,0⟩,4294967293, []⟩ (.slice (some ⟨b35,0,none⟩) 1 1))) hb8=>?_))|(refine aM (d:=some 40) (E:=u8R) (M:=M) rfl rfl (n:=i) (l:=z.spends) (hfr6.ext (by exact fx)) rfl hif (fun ad cs r7 he=>?_);subst he)|refine aD (d:=some 42) (.int .i64 (z.spends[i].toNat:Nat)) rfl (congrArg (fun n=>some (Value.int .i64 n)) (wrap_u8 z.spends[i])) ?_|(refine zC (d:=some 43) rfl (aZp z.spends[i].toNat _) ?_;rintro _ w10 ⟨rfl,x10⟩)|refine go1 ?_|refine zg λ_ _=>?_|refine zi λ_ _=>?_)
  rw [←hs]
  have l35:=a35.lt
  have s9:=x9.size
  have s10:=x10.size
  have s69:w6.heap.size≤b8:=nTr (x7.size) (nTr x8.size hb8)
  have x610:Unit→Ext w6 w10:=fun _=>x7.trans (x8.trans (x9.trans x10))
  obtain ⟨wv,hwv⟩:∃wv,wv=Value.slice (some ⟨b35,0,none⟩) 1 1:=⟨_,rfl⟩
  have hw10:SlE bL w10 wv [aW6 z]:=by rw [hwv];exact SlE.new (E:=bL) (At.ext x10 (At.ext x9 a35)) rfl (Nat.le_refl _)
  have hbw:∀b∈aB wv,b≠b8∧w6.heap.size≤b:=by
   rw [hwv];intro b hb;simp [aB] at hb;subst hb
   have:=x7.size
   omega
  rw [←hwv] at r8 a8
  have h1w:wv.oneCell'=true:=by rw [hwv];rfl
  clear a35 a33 r8 r7
  refine bO (b:=b8) (o:=0) (cur:=eJ ⟨⟨⟨#[]⟩,0⟩,4294967293, []⟩ wv) rfl rfl rfl (At.ext x10 a8) (Nat.le_of_ble_eq_true rfl) (fun w11 c11 a11=>?_)
  have x611:Unit→Ext w6 w11:=fun _=>(Ext.chg (x610 ()) c11).mono (by intro y hy;simp at hy;right;omega)
  have s11:=c11.size
  have a11:At w11 b8 (.cells (eJ ⟨⟨idN s.toNat,0⟩,4294967293, []⟩ wv).toArray T.api_In (0,0)):=a11
  have hw11:SlE bL w11 wv [aW6 z]:=hw10.chg c11 (fun a m c e hm=>by simp at hm;exact (hbw a.block (by rw [e];simp [aB])).1 hm)
  clear x7 x8 x9 x10 a8 hw10 x610 c11
  have hfr11:=hfr6.ext (x611 ())
  have hv11:=hv6.ext (x611 ())
  have q11:Row w11 ⟨bp,0,none⟩ (gF z fv):=Row.ext (x611 ()) q3r
  have r11:Row w11 ⟨b8,0,none⟩ _:=Row.of_at a11
  apply z1
  refine lD (a:=.seq (.reg false (.cons ⟨some 46,_,none⟩ _)) _) (fun (_:Unit) w'=>Ext w6 w'∧At w' b8 (.cells (eJ ⟨ptP V s,4294967293, []⟩ wv).toArray T.api_In (0,0))∧SlE bL w' wv [aW6 z]) (fun _=> [(0,v),(3,.pointer (some ⟨bp,0,none⟩)),(4,.pointer (some ⟨b4,0,none⟩)),(5,.pointer (some ⟨b5,0,none⟩)),(6,.int .i64 ((((z.spends.take 4).take i).map (zZ V)).sum+zZ V s)),(7,.int .i64 i),(8,.pointer (some ⟨b8,0,none⟩))]) ?_ ?_
  ·have hno:(¬(s.toNat<250∧0<V.length))→aGs V s=none:=fun h=>by unfold aGs;rw [if_neg h]
   repeat' (first|(refine aM (d:=some 49) (E:=u8R) (M:=M) rfl rfl (n:=i) (l:=z.spends) hfr11 rfl hif (fun ad cs r7 he=>?_);subst he;rw [←hs] at r7)|refine aY (d:=some 54) rfl hv11 ?_|(refine aM (d:=some 61) (E:=u8R) (M:=M) rfl rfl (n:=i) (l:=z.spends) hfr11 rfl hif (fun ad8 cs8 r17 he=>?_);subst he;rw [←hs] at r17)|refine aD (d:=some 63) (.int .i64 (s.toNat:Nat)) rfl (congrArg (fun n=>some (Value.int .i64 n)) (wrap_u8 s)) ?_|refine aY (d:=some 65) rfl hv11 ?_|refine aD2 (d:=some 66) (n:=s.toNat) (m:=V.length) rfl rfl (by omega) ?_|(have h9:=Nat.mod_lt s.toNat (show 0<V.length by omega);have hpk:aGs V s=some V[s.toNat%V.length]:=(by unfold aGs;rw [if_pos ⟨by omega,by omega⟩,List.getElem?_eq_getElem h9]);generalize s.toNat%V.length=n9 at h9 hpk ⊢;refine aS (d:=some 67) (E:=bM) rfl rfl (n:=n9) (l:=V) hv11 rfl h9 (fun ad9 r9=>?_))|refine zE (d':=9) (fun _=>rfl) rfl rfl rfl (fun b9 w12 x12 a12 (r12:Row w12 ⟨b9,0,none⟩ (bM.f V[n9])) hb9=>?_)|(refine aFw (b:=b8) (o:=0) (cur:=eJ ⟨⟨idN s.toNat,0⟩,4294967293, []⟩ wv) (vs:=(V[n9].1).cs) rfl rfl rfl (by intro x hx;simp [Pt.cs] at hx;rcases hx with rfl|rfl<;>rfl) (At.ext x12 a11) (Nat.le_of_ble_eq_true rfl) (fun w13 c13 a13=>?_);have r13:Row w13 ⟨b9,0,none⟩ (bM.f V[n9]):=Row.of_at (At.chg c13 a12 (by have:=a11.lt;simp;omega));have hv9:zZ V s=V[n9].2.v:=(by unfold zZ;rw [hpk]);have hp9:ptP V s=V[n9].1:=(by unfold ptP;rw [hpk]);rw [hv9] at hsi1)|refine go1 ?_|refine zg λ_ _=>?_|refine zi λ_ _=>?_|refine zJ rfl (fun h=>?_) (fun h=>?_)|refine zL rfl (fun h=>?_) (fun h=>?_))
   ·exact ⟨(),⟨rfl,rfl,rfl,rfl,congrArg (Value.int .i64) (by rw [hv9]),rfl,rfl,trivial⟩,(Ext.chg ((x611 ()).trans x12) c13).mono (by intro y hy;simp at hy;right;omega),by rw [hp9];exact a13,(hw11.ext x12).chg c13 (fun a m c e hm=>by simp at hm;exact (hbw a.block (by rw [e];simp [aB])).1 hm)⟩
   all_goals
    have hpn:=hno (by omega)
    have hv9:zZ V s=0:=by unfold zZ;rw [hpn]
    have hp9:ptP V s=⟨idN s.toNat,0⟩:=by unfold ptP;rw [hpn]
    exact ⟨(),⟨rfl,rfl,rfl,rfl,congrArg (Value.int .i64) (by rw [hv9,Int.add_zero]),rfl,rfl,trivial⟩,x611 (),by rw [hp9];exact a11,hw11⟩
  clear q11 r11 a11 hw11 hfr11 hv11 x611 s11
  rintro _ ρ w12 ⟨x612,a12,hw12⟩
  have q12:Row w12 ⟨bp,0,none⟩ (gF z fv):=Row.ext x612 q3r
  have x612':Unit→Ext w6 w12:=fun _=>x612
  clear x612
  refine lD (a:=.seq (.reg false (.cons ⟨some 78,_,none⟩ _)) _) (fun (_:Unit) w'=>Ext w6 w'∧At w' b8 (.cells (eJ ⟨ptP V s,if z.final then 4294967294 else 4294967293, []⟩ wv).toArray T.api_In (0,0))∧SlE bL w' wv [aW6 z]) (fun _=> [(0,v),(3,.pointer (some ⟨bp,0,none⟩)),(4,.pointer (some ⟨b4,0,none⟩)),(5,.pointer (some ⟨b5,0,none⟩)),(6,.int .i64 ((((z.spends.take 4).take i).map (zZ V)).sum+zZ V s)),(7,.int .i64 i),(8,.pointer (some ⟨b8,0,none⟩))]) ?_ ?_
  ·repeat' (first|refine bO (b:=b8) (o:=2) (cur:=eJ ⟨ptP V s,4294967293, []⟩ wv) rfl rfl rfl a12 (Nat.le_of_ble_eq_true rfl) (fun w13 c13 a13=>?_)|refine go1 ?_|refine zg λ_ _=>?_|refine zi λ_ _=>?_|refine zM rfl (fun h=>?_) (fun h=>?_))
   ·exact ⟨(),⟨rfl,rfl,rfl,rfl,rfl,rfl,rfl,trivial⟩,(Ext.chg (x612' ()) c13).mono (by intro y hy;simp at hy;right;omega),by rw [if_pos h];exact a13,hw12.chg c13 (fun a m c e hm=>by simp at hm;exact (hbw a.block (by rw [e];simp [aB])).1 hm)⟩
   ·exact ⟨(),⟨rfl,rfl,rfl,rfl,rfl,rfl,rfl,trivial⟩,x612' (),by rw [if_neg (by rw [h];decide)];exact a12,hw12⟩
  clear q12 a12 hw12 x612'
  clear ρ w12
  rintro _ ρ w12 ⟨x612,a12,hw12⟩
  have q12:Row w12 ⟨bp,0,none⟩ (gF z fv):=Row.ext x612 q3r
  have x612':Unit→Ext w6 w12:=fun _=>x612
  clear x612
  have hwt:=z.wait.toNat_lt
  refine lD (a:=.seq (.reg false (.cons ⟨some 81,_,none⟩ _)) _) (fun (_:Unit) w'=>Ext w6 w'∧At w' b8 (.cells (eJ ⟨ptP V s,aOf z, []⟩ wv).toArray T.api_In (0,0))∧SlE bL w' wv [aW6 z]) (fun _=> [(0,v),(3,.pointer (some ⟨bp,0,none⟩)),(4,.pointer (some ⟨b4,0,none⟩)),(5,.pointer (some ⟨b5,0,none⟩)),(6,.int .i64 ((((z.spends.take 4).take i).map (zZ V)).sum+zZ V s)),(7,.int .i64 i),(8,.pointer (some ⟨b8,0,none⟩))]) ?_ ?_
  ·repeat' (first|refine cR (d:=some 86) rfl rfl (aEf z.wait.toNat 8 (by decide)) ?_|refine aD (d:=some 87) (.int .u32 ((z.wait.toNat%8:Nat):Int)) rfl (congrArg (fun n=>some (Value.int .u32 n)) (by rw [wrap32];omega)) ?_|refine bO (b:=b8) (o:=2) (cur:=eJ ⟨ptP V s,if z.final then 4294967294 else 4294967293, []⟩ wv) rfl rfl rfl a12 (Nat.le_of_ble_eq_true rfl) (fun w13 c13 a13=>?_)|refine go1 ?_|refine zg λ_ _=>?_|refine zi λ_ _=>?_|refine zL rfl (fun h=>?_) (fun h=>?_))
   ·have e:aOf z=((z.wait.toNat%8:Nat):Int):=by unfold aOf;rw [if_pos (by omega)]
    exact ⟨(),⟨rfl,rfl,rfl,rfl,rfl,rfl,rfl,trivial⟩,(Ext.chg (x612' ()) c13).mono (by intro y hy;simp at hy;right;omega),by rw [e];exact a13,hw12.chg c13 (fun a m c e hm=>by simp at hm;exact (hbw a.block (by rw [e];simp [aB])).1 hm)⟩
   ·have e:aOf z=if z.final then 4294967294 else 4294967293:=by unfold aOf;rw [if_neg (by omega)]
    exact ⟨(),⟨rfl,rfl,rfl,rfl,rfl,rfl,rfl,trivial⟩,x612' (),by rw [e];exact a12,hw12⟩
  clear q12 a12 hw12 x612'
  clear ρ w12
  rintro _ ρ w12 ⟨x612,a12,hw12⟩
  have r12:Row w12 ⟨b8,0,none⟩ (eJ ⟨ptP V s,aOf z, []⟩ wv):=Row.of_at a12
  have q512:Row w12 ⟨b5,0,none⟩ [Value.int .u32 2,vi,.slice none 0 0,.int .u32 ((z.mark.toNat%3:Nat):Int)]:=Row.ext x612 q5r
  have o12:=o1.ext x612
  have s612:=x612.size
  have hpi:=bBp hi s
  have hLen:(((z.spends.take 4).take i).map (inP V z)).length≤4:=by rw [List.length_map,List.length_take,List.length_take];omega
  have hsl:SlR pP (aB vi++M1) w12 wv [aW6 z]:=SlE.toR hw12 (fun b hb hm=>by
   have h1:=(hbw b hb).2
   rcases List.mem_append.1 hm with h2|h2
   ·have:=o1.lt b h2;omega
   ·have:=hM1b b h2;omega)
  repeat' (first|refine zI (d:=some 92) (cs:=eJ ⟨ptP V s,aOf z, []⟩ wv) rfl (fun b w13 x13 a13 hb=>?_)|refine gB (d:=some 93) (E:=inR) (M:=M1) (v:=vi) (cs:=eJ ⟨ptP V s,aOf z, []⟩ wv) (a:=inP V z s) rfl rfl (o12.ext x13) (by have:=x13.size;omega) rfl rfl a13 ⟨wv,rfl,hsl.ext x13,hpi,hseq⟩ (by omega) (fun v14 w14 o14 c14 hb14=>?_)|refine go1 ?_|refine zg λ_ _=>?_|refine zi λ_ _=>?_)
  have g1:=o1.base
  have l1:=o1.lt
  have h4v:b4∉aB vi:=fun h=>by have:=g1 _ h;omega
  have h5v:b5∉aB vi:=fun h=>by have:=g1 _ h;omega
  have hpv:bp∉aB vi:=fun h=>by have:=g1 _ h;omega
  have x613:=x612.trans x13
  have q3':=At.chg c14 (q3.ext x613) hpv
  have q4':=At.chg c14 (q4.ext x613) h4v
  have q5':=At.chg c14 (q5.ext x613) h5v
  have l14:=o14.lt
  have g14:=o14.base
  have hone:=o14.one
  refine bO (d:=none) (b:=b5) (o:=1) (cur:= [Value.int .u32 2,vi,.slice none 0 0,.int .u32 ((z.mark.toNat%3:Nat):Int)]) rfl rfl hone q5' (Nat.le_of_ble_eq_true rfl) (fun w15 c15 a15=>?_)
  have h5w:b5∉aB v14:=fun h=>by have:=g14 _ h;omega
  have o15:=o14.step c15 (M':=M1) (by intro y hy;simp at hy;subst hy;exact ⟨h5w,.inl m5⟩) (fun _ h=>.inl h)
  have s14:=c14.size
  have s15:=c15.size
  have x015:Ext w w15:=(Ext.chg ((x56 ()).trans x613) (c14.trans c15)).mono (by
   intro y hy
   rcases List.mem_append.1 hy with h|h
   ·have:=g1 _ h;right;omega
   ·simp at h;right;omega)
  have s013:=x613.size
  clear x612 x13 x613
  repeat (first|refine go1 ?_|refine zg λ_ _=>?_|refine zi λ_ _=>?_)
  refine ⟨(i+1,v14),⟨rfl,rfl,rfl,rfl,congrArg (Value.int .i64) ?_,rfl,trivial⟩,⟨x015,by omega,At.chg c15 q3' (by simp;omega),by omega,by omega,At.chg c15 q4' (by simp;omega),a15,?_⟩,by simp;omega⟩
  ·rw [List.take_succ_eq_append_getElem hi4,List.map_append,List.sum_append,hgi,List.map_cons,List.map_nil,List.sum_cons,List.sum_nil,Int.add_zero]
  ·rw [List.take_succ_eq_append_getElem hi4,List.map_append,hgi];exact o15
 all_goals
  have e4:(z.spends.take 4).take i=z.spends.take 4:=tLe (by omega)
  rw [e4] at o1 hsi
  have hI0:=o1.base
  have hI1:=o1.lt
  have hp8:z.pays.toNat%3<3:=Nat.mod_lt _ (by decide)
  obtain ⟨n,hn0⟩:∃n,n=1+z.pays.toNat%3:=⟨_,rfl⟩
  rw [←hn0]
  have hL0:aW5 V z=((z.spends.take 4).map (zZ V)).sum:=rfl
  have x6':Unit→Ext w w6:=fun _=>x6
  clear xw x6
  refine aI (fun (p:Nat × Int × Value × List TOut) w'=>Ext w w'∧w6.heap.size≤w'.heap.size∧At w' bp (.cells (gF z fv).toArray T.kedgeref17_Small (0,0))∧p.1≤n∧p.2.2.2.length=p.1∧p.2.2.2++wL (aOm z) (n - p.1) p.2.1=wL (aOm z) n (aW5 V z - z.fee)∧(-100000≤p.2.1∧p.2.1≤4000000000000000)∧At w' b4 (.cells zTx.toArray T.api_Tx (0,0))∧At w' b5 (.cells [Value.int .u32 2,vi,p.2.2.1,.int .u32 ((z.mark.toNat%3:Nat):Int)].toArray T.api_Tx (0,0))∧bR inR T.api_In w5.heap.size (aB p.2.2.1++M1) w' vi ((z.spends.take 4).map (inP V z))∧bR fS T.api_Out w6.heap.size (aB vi++M1) w' p.2.2.1 p.2.2.2) (fun p=> [(3,.pointer (some ⟨bp,0,none⟩)),(4,.pointer (some ⟨b4,0,none⟩)),(5,.pointer (some ⟨b5,0,none⟩)),(10,.int .i64 (n:Nat)),(11,.int .i64 p.2.1),(12,.int .i64 p.1)]) (fun p=>n - p.1) (0,aW5 V z - z.fee,.slice none 0 0, []) ⟨rfl,rfl,rfl,rfl,congrArg (Value.int .i64) (by rw [e4];rfl),rfl,trivial⟩ ⟨x6' (),Nat.le_refl _,q3,by simp,rfl,by simp,⟨by show -100000≤aW5 V z - z.fee;omega,by show aW5 V z - z.fee≤_;omega⟩,q4,q5,o1,bR.nil _ _ _ _⟩ ?_
  clear q3 q3r q4 q5 o1
  clear ρ h
  rintro ⟨k,left,vo,O⟩ ρ7 w7 ⟨x7,s67,t3,hk1,hO,hOP,hlb,t4,t5,u1,u2⟩
  simp only at hk1 hO hOP hlb t5 u1 u2
  dsimp only
  have t3r:=Row.of_at t3
  have t5r:Row w7 ⟨b5,0,none⟩ [Value.int .u32 2,vi,vo,.int .u32 ((z.mark.toNat%3:Nat):Int)]:=Row.of_at t5
  have x7':Unit→Ext w w7:=fun _=>x7
  clear x7
  repeat' (first|refine aD (d:=some 113) (.int .i64 ((n - k:Nat):Int)) rfl (congrArg (fun n=>some (Value.int .i64 n)) (by rw [IntWalk.i64_in _ (by omega)];omega)) ?_|refine cR (d:=some 114) rfl rfl (bQm left (n - k) (by omega) (by omega)) ?_|(have hcb:=aHh (left:=left) (k:=n - k) (by omega) hlb.1 hlb.2 (by decide);refine lD (a:=.seq (.reg false (.cons ⟨some 115,_,none⟩ _)) _) (fun (_:Unit) w'=>w'=w7) (fun _=> [(3,.pointer (some ⟨bp,0,none⟩)),(4,.pointer (some ⟨b4,0,none⟩)),(5,.pointer (some ⟨b5,0,none⟩)),(10,.int .i64 (n:Nat)),(11,.int .i64 left),(12,.int .i64 k),(13,.int .i64 (aE0 left (n - k)))]) ?_ ?_)|refine zL (x:=.tmp 107) (p:=((k:Nat):Int)<((n:Nat):Int)) rfl (fun h=>?_) (fun h=>?_)|refine go1 ?_|refine zg λ_ _=>?_|refine zi λ_ _=>?_)
  ·refine zL (p:=left.tdiv ((n - k:Nat):Int)<0) rfl (fun h2=>?_) (fun h2=>?_)
   ·repeat' (first|refine go1 ?_|refine zg λ_ _=>?_|refine zi λ_ _=>?_)
    exact ⟨(),⟨rfl,rfl,rfl,rfl,rfl,rfl,congrArg (Value.int .i64) (by unfold aE0;rw [if_pos h2]),trivial⟩,rfl⟩
   ·repeat' (first|refine go1 ?_|refine zg λ_ _=>?_|refine zi λ_ _=>?_)
    exact ⟨(),⟨rfl,rfl,rfl,rfl,rfl,rfl,congrArg (Value.int .i64) (by unfold aE0;rw [if_neg h2]),trivial⟩,rfl⟩
  ·rintro _ ρ8 w8 rfl
   have hstep:wL (aOm z) (n - k) left=⟨aE0 left (n - k),aOm z⟩::wL (aOm z) (n - (k+1)) (left - aE0 left (n - k)):=by
    have:n - k=(n - (k+1))+1:=by omega
    rw [this];rfl
   rw [hstep] at hOP
   generalize hcut:aE0 left (n - k)=cv at hcb hOP ⊢
   have hz1:(str [UInt8.ofNat (z.pays.toNat / 64)]).size=1:=iA _
   have hz3:(⟨#[1,1,0]⟩:ByteArray).size=3:=rfl
   have hz5:(⟨#[0,0,0,0,0]⟩:ByteArray).size=5:=rfl
   have hz2:((⟨#[1,1,0]⟩:ByteArray)++str [UInt8.ofNat (z.pays.toNat / 64)]).size=4:=by rw [ByteArray.size_append,hz1,hz3]
   repeat' (first|refine cR (d:=some 125) rfl rfl (bTf z.pays 64 (by decide)) ?_|refine zI (d:=some 126) rfl (fun b26 w9 x9 a26 hb26=>?_)|refine tY (d:=some 127) (l:= [UInt8.ofNat (z.pays.toNat / 64)]) rfl (SlE.new (E:=u8E) a26 rfl (Nat.le_refl _)) ?_|refine mE (d:=some 128) rfl rfl (by rw [hz1,hz3];decide) ?_|refine mE (d:=some 129) rfl rfl (by rw [hz2,hz5];decide) ?_|refine aT (d:=some 130) (cs:=iI ⟨cv,aOm z⟩) rfl ?_|refine zI (d:=some 131) (cs:=iI ⟨cv,aOm z⟩) rfl (fun b w10 x10 a10 hb=>?_)|(refine gB (d:=some 132) (E:=fS) (M:=aB vi++M1) (v:=vo) (cs:=iI ⟨cv,aOm z⟩) (a:=⟨cv,aOm z⟩) rfl rfl ((u2.ext x9).ext x10) (by have:=x9.size;have:=x10.size;omega) rfl rfl a10 ⟨rfl,by show sG cv;unfold sG;omega⟩ (by omega) (fun v11 w11 o11 c11 hb11=>?_))|refine go1 ?_|refine zg λ_ _=>?_|refine zi λ_ _=>?_)
   have g2:=u2.base
   have l2:=u2.lt
   have x710:=x9.trans x10
   have s710:=x710.size
   have h3o:bp∉aB vo:=fun h=>by have:=g2 _ h;have:=t3.lt;have:=x9.size;omega
   have h4o:b4∉aB vo:=fun h=>by have:=g2 _ h;omega
   have h5o:b5∉aB vo:=fun h=>by have:=g2 _ h;omega
   have hvo:∀b∈aB vo,b∉aB vi:=fun b h h'=>by have:=g2 _ h;have:=hI1 _ h';omega
   have u1':=(u1.ext x710).step c11 (M':=aB v11++M1) (fun b h=>⟨hvo b h,.inl (by simp [h])⟩) (fun b h=>by
    rcases List.mem_append.1 h with h|h
    ·rcases hb11 b h with h|h
     ·exact .inl (by simp [h])
     ·exact .inr h
    ·exact .inl (by simp [h]))
   have t3':=At.chg c11 (t3.ext x710) h3o
   have t4':=At.chg c11 (t4.ext x710) h4o
   have t5':=At.chg c11 (t5.ext x710) h5o
   have g11:=o11.base
   have s11:=c11.size
   have xwx:Unit→Chg (aB vo) w w11:=fun _=>Ext.chg ((x7' ()).trans x710) c11
   clear x9 x10 x710
   refine bO (d:=none) (b:=b5) (o:=2) (cur:= [Value.int .u32 2,vi,vo,.int .u32 ((z.mark.toNat%3:Nat):Int)]) rfl rfl o11.one t5' (Nat.le_of_ble_eq_true rfl) (fun w12 c12 a12=>?_)
   have h5v:b5∉aB vi:=fun h=>by have:=hI0 _ h;omega
   have h5w:b5∉aB v11:=fun h=>by have:=g11 _ h;omega
   have u12:=u1'.step c12 (M':=aB v11++M1) (by intro y hy;simp at hy;subst hy;exact ⟨h5v,.inl (by simp [m5])⟩) (fun _ h=>.inl h)
   have o12:=o11.step c12 (M':=aB vi++M1) (by intro y hy;simp at hy;subst hy;exact ⟨h5w,.inl (by simp [m5])⟩) (fun _ h=>.inl h)
   have s12:=c12.size
   have x12:Unit→Ext w w12:=fun _=>((xwx ()).trans c12).mono (by
    intro y hy
    rcases List.mem_append.1 hy with h|h
    ·have:=g2 _ h;right;omega
    ·simp at h;right;omega)
   repeat (first|refine go1 ?_|refine zg λ_ _=>?_|refine zi λ_ _=>?_)
   exact ⟨(k+1,left - cv,v11,O++ [⟨cv,aOm z⟩]),⟨rfl,rfl,rfl,rfl,rfl,rfl,trivial⟩,⟨x12 (),by omega,At.chg c12 t3' (by simp;omega),by omega,by simp;omega,by simp only [List.append_assoc,List.singleton_append];exact hOP,by simp only;omega,At.chg c12 t4' (by simp;omega),a12,u12,o12⟩,by simp;omega⟩
  ·have hkn:k=n:=by omega
   subst hkn
   rw [Nat.sub_self] at hOP
   have hOP:O=wL (aOm z) k (aW5 V z - z.fee):=by rw [←hOP];simp [wL]
   repeat' (first|refine go1 ?_|refine zg λ_ _=>?_|refine zi λ_ _=>?_)
   refine aU (w0:=w) (vs:= [Value.int .u32 2,vi,vo,.int .u32 ((z.mark.toNat%3:Nat):Int)]) (x7' ()) (by omega) t4 rfl rfl rfl rfl ?_ (fun w12 x12 c12 a12 r12=>?_)
   ·have e1:=u1.one
    have e2:=u2.one
    simp [e1,e2];exact ⟨rfl,rfl⟩
   repeat (first|refine go1 ?_|refine zg λ_ _=>?_|refine zi λ_ _=>?_)
   have g2:=u2.base
   have h4i:b4∉aB vi:=fun h=>by have:=hI0 _ h;omega
   have h4o:b4∉aB vo:=fun h=>by have:=g2 _ h;omega
   have p1:=(u1.step (M':=M1) c12 (by intro y hy;simp at hy;subst hy;exact ⟨h4i,.inl (by simp [m4])⟩) (fun _ h=>.inl (by simp [h]))).sub (M':=M) (fun b hb=>.inl (mM b hb))
   have p2:=(u2.step (M':=M1) c12 (by intro y hy;simp at hy;subst hy;exact ⟨h4o,.inl (by simp [m4])⟩) (fun _ h=>.inl (by simp [h]))).sub (M':=M) (fun b hb=>.inl (mM b hb))
   have hm3:dM ((z.mark.toNat%3:Nat):Int):=by have:=Nat.mod_lt z.mark.toNat (show 0<3 by decide);unfold dM;omega
   refine aA (aOp (bD r12 rfl rfl)) ⟨_,rfl,⟨vi,vo,rfl,p1.lower (by omega),?_,⟨by show (0:Int)≤2;decide,by show (2:Int)<4294967296;decide⟩,hm3⟩,x12⟩
   have e:(bE V z).outs=O:=by rw [hOP,hn0];rfl
   rw [e]
   exact p2.lower (by omega)
end
end Go.Proofs.YtgloknkcfchnlaaGreat
