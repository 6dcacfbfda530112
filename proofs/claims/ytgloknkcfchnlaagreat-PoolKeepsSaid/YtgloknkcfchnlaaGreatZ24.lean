/- Contracts: what hangs on what, by the program. Contracts: ab -/
import Derived.Test.YtgloknkcfchnlaaGreatZ20
set_option linter.unusedVariables false
set_option linter.unusedSimpArgs false
namespace Go.Proofs.YtgloknkcfchnlaaGreat
section
open Go Go.K
attribute [local irreducible] aF aP bG KOp.wp K.Spec u32 leS vnS str aR dE bS idT aO aE aQ idN bB cH
theorem GrR.pos {w:World} {g:Nat} {M:List Nat} {l:List Ent} (h:GrR w g M l):∀x∈l,∀i∈x.tx.ins,dM i.p.i:=by
 obtain ⟨b1,vo,b2,m,sp,h⟩:=h
 intro x hx i hi
 obtain ⟨mv,h1,h2⟩:=h.ents
 have hg:aL m x.id=some x:=by
  rw [h.inv.ent]
  obtain ⟨j,hj,rfl⟩:=List.getElem_of_mem hx
  exact aIi h.inv.nodup hj
 obtain ⟨v,e,cs,e2,hr⟩:=(aJr (r:=fun v y=>∃cs,v=dC.val cs∧dC.rel M w cs y) (k:=x.id) h2).1 x hg
 obtain ⟨iv,ov,e3,g1,g2,g3⟩:=hr
 obtain ⟨css,k1,k2,k3⟩:=g1
 obtain ⟨j,hj,rfl⟩:=List.getElem_of_mem hi
 obtain ⟨wv,k4,k5,k6,k7⟩:=k2.get j (by rw [k2.length];exact hj) hj
 exact k6
theorem aGj {l:List Ent} (hn:(l.map (·.id)).Nodup) {t:Tx} {i:Nat} (hi:i<l.length):named l (eX l t.ins) i=oW t (eN l i):=by
 rw [Bool.eq_iff_iff,rQ]
 unfold oW eX
 rw [List.any_eq_true,List.mem_map,cL hi]
 constructor
 ·rintro ⟨x,hx,e⟩
  obtain ⟨h1,h2⟩:=List.mem_filter.1 hx
  refine ⟨x,h1,?_⟩
  unfold cV eU dV at h2
  rw [e,aIi hn hi] at h2
  rw [Bool.and_eq_true] at h2
  rw [Bool.and_eq_true]
  exact ⟨dTr e,h2.2⟩
 ·rintro ⟨x,hx,h2⟩
  rw [Bool.and_eq_true] at h2
  have e:=of_decide_eq_true h2.1
  refine ⟨x,List.mem_filter.2 ⟨hx,?_⟩,e⟩
  unfold cV eU dV
  rw [e,aIi hn hi,Bool.and_eq_true]
  exact ⟨aK7 hi (dTr rfl),h2.2⟩
theorem bMv {l:List Ent} (hn:(l.map (·.id)).Nodup) (t:Tx):bY l (eX l t.ins) (fun x=>eX l x.tx.ins)=bF l t:=
 aI1 (fun i hi=>aGj hn hi) (fun k i hk hi=>by rw [aBc,aGj hn hi])
theorem aHr {l:List Ent} {id s:ByteArray}:∀{n:Nat},s∈kJ l id n↔∃j,j<n∧∃e,spE l ⟨id,(j:Nat)⟩=some e∧e.id=s
 |0=>by simp [kJ]
 |n+1=>by
  unfold kJ
  rw [List.mem_append,aHr]
  constructor
  ·rintro (⟨j,h1,h2⟩|h)
   ·exact ⟨j,by omega,h2⟩
   ·cases he:spE l ⟨id,(n:Nat)⟩ with
    |none=>rw [he] at h;simp at h
    |some e=>rw [he] at h;simp at h;exact ⟨n,by omega,e,he,h.symm⟩
  ·rintro ⟨j,h1,e,h2,h3⟩
   by_cases hj:j=n
   ·subst hj
    rw [h2];right;simp [h3]
   ·exact .inl ⟨j,by omega,e,h2,h3⟩
theorem aPj {l:List Ent} (hn:(l.map (·.id)).Nodup) (ha:l.Pairwise fun x y=>∀p,spends x p=true→spends y p=false) (hp:∀x∈l,∀i∈x.tx.ins,dM i.p.i) {k i:Nat} (hk:k<l.length) (hi:i<l.length):named l (kJ l (eN l k).id (eN l k).tx.outs.length) i=aBc l i k:=by
 rw [Bool.eq_iff_iff,rQ,aHr,aBc,cL hk,cL hi]
 unfold oW
 rw [List.any_eq_true]
 constructor
 ·rintro ⟨j,h1,e,h2,h3⟩
  have h4:=List.mem_of_find?_eq_some h2
  obtain ⟨q,hq,rfl⟩:=List.getElem_of_mem h4
  have:=mV hn hq hi (by rw [cL hq,cL hi];exact h3)
  subst this
  have h5:=List.find?_some h2
  unfold spends at h5
  rw [List.any_eq_true] at h5
  obtain ⟨x,hx,h6⟩:=h5
  have h7:=of_decide_eq_true h6
  exact ⟨x,hx,by rw [Bool.and_eq_true,h7];exact ⟨dTr rfl,dTr (by simp only;omega)⟩⟩
 ·rintro ⟨x,hx,h2⟩
  rw [Bool.and_eq_true] at h2
  have e1:=of_decide_eq_true h2.1
  have e2:=of_decide_eq_true h2.2
  have h32:=hp _ (gMe hi) x hx
  unfold dM at h32
  refine ⟨x.p.i.toNat,by omega,l[i],?_,rfl⟩
  refine bOk ha hi ?_
  unfold spends
  refine List.any_eq_true.2 ⟨x,hx,dTr ?_⟩
  refine bD2 e1 ?_
  simp only;omega
theorem bL7 {l:List Ent} (hn:(l.map (·.id)).Nodup) (ha:l.Pairwise fun x y=>∀p,spends x p=true→spends y p=false) (hp:∀x∈l,∀i∈x.tx.ins,dM i.p.i) {id:ByteArray}:bY l [id] (fun x=>kJ l x.id x.tx.outs.length)=cI l id:=by
 refine aI1 (fun i hi=>?_) (fun k i hk hi=>aPj hn ha hp hk hi)
 rw [Bool.eq_iff_iff,rQ,cL hi]
 simp only [List.mem_singleton,decide_eq_true_eq]
 constructor
 ·intro e
  subst e
  exact (idxOf_hit hi (dTr rfl) (fun j hj=>dFa fun e=>by
   have:=mV hn (show j<l.length by omega) hi (by rw [cL (by omega),cL hi];exact e)
   omega)).symm
 ·intro e
  unfold bT idxOf at e
  split at e
  ·rename_i q hq
   obtain ⟨h1,h2,_⟩:=List.findIdx?_eq_some_iff_getElem.1 hq
   have:i=q:=by omega
   subst this
   exact of_decide_eq_true h2
  ·omega
theorem bI0:cK Tryz.prog F.graph_Graph_Above_1=true:=by kernel_rfl
theorem aYr:cK Tryz.prog F.graph_Graph_children=true:=by kernel_rfl
theorem aY9 {g bg:Nat} {M N:List Nat} {l:List Ent} {cs:List Value} {x:Ent} (w:World) (hG:GrR w g M l) (hM:∀b∈M,b<w.heap.size) (hg:At w bg (.cells [.pointer (some ⟨g,0,none⟩)].toArray T.P_graph_Graph (0,0))) (hx:dC.rel N w cs x) (hs:x.tx.ins.length≤100000):K.Spec Tryz.prog F.graph_Graph_Above_1 [.agg cs.toArray,.pointer (some ⟨bg,0,none⟩)] w fun r w'=>
  Own bL T.string w.heap.size w' r (eX l x.tx.ins)∧Ext w w':=by
 obtain ⟨iv,ov,rfl,h1,h2,h3⟩:=hx
 have rg:Row w ⟨bg,0,none⟩ [.pointer (some ⟨g,0,none⟩)]:=Row.of_at hg
 refine aC7 rfl ?_
 unfold qW
 refine oy ?_
 repeat' (first|refine go1 ?_|refine zg λ_ _=>?_|refine zi λ_ _=>?_|refine zD rfl rfl (fun bp wp xp ap (rp:Row wp ⟨bp,0,none⟩ (bC x iv ov)) hp0=>?_)|(refine zC rfl (aJy (M:=M) (N:=N) (cs:=aJ x.tx iv ov) (t:=x.tx) _ (hG.ext (by exact fx)) (fun b hb=>nLt (hM b hb) (Ext.size (by exact fx))) ⟨iv,ov,rfl,by exact fx,by exact fx,h3.1,h3.2.1⟩ hs) ?_;rintro v5 w5 ⟨o5,x5⟩))
 exact aA rfl ⟨o5.lower xp.size,xp.trans x5⟩
end
section
open Go Go.K
attribute [local irreducible] aF aP bG KOp.wp K.Spec u32 leS vnS str aR dE bS idT aO aE aQ idN bB cH bY
theorem aPp {l:List Ent} {ins:List TIn}:∀s∈eX l ins,∃j,j<l.length∧(eN l j).id=s:=by
 intro s hs
 unfold eX at hs
 obtain ⟨x,hx,rfl⟩:=List.mem_map.1 hs
 obtain ⟨h1,h2⟩:=List.mem_filter.1 hx
 unfold cV eU at h2
 rw [Bool.and_eq_true,List.any_eq_true] at h2
 obtain ⟨⟨y,hy,hd⟩,_⟩:=h2
 obtain ⟨j,hj,rfl⟩:=List.getElem_of_mem hy
 exact ⟨j,hj,by rw [cL hj];exact of_decide_eq_true hd⟩
theorem bG7 {l:List Ent} {id:ByteArray} {n:Nat}:∀s∈kJ l id n,∃j,j<l.length∧(eN l j).id=s:=by
 intro s hs
 obtain ⟨j,_,e,he,rfl⟩:=aHr.1 hs
 obtain ⟨q,hq,rfl⟩:=List.getElem_of_mem (List.mem_of_find?_eq_some he)
 exact ⟨q,hq,by rw [cL hq]⟩
theorem wV {g:Nat} {M N:List Nat} {l:List Ent} {cs:List Value} {t:Tx} (w:World) (hG:GrR w g M l) (hM:∀b∈M,b<w.heap.size) (ht:txR.rel N w cs t) (hs:t.ins.length≤1000) (hn:l.length≤1000):K.Spec Tryz.prog F.graph_Graph_Above [.pointer (some ⟨g,0,none⟩),.agg cs.toArray] w fun r w'=>
  Own bL T.string w.heap.size w' r (aK l (bF l t))∧Ext w w':=by
 have hsm:∀x∈l,x.tx.Sm:=fun x hx=>lE (hG.ok x hx).check
 have hnd:=hG.nodup
 have ht0:=ht
 obtain ⟨iv,ov,rfl, -⟩:=ht
 refine aF5 rfl ?_
 unfold tQ
 refine oy ?_
 repeat' (first|refine go1 ?_|refine zg λ_ _=>?_|refine zi λ_ _=>?_|refine zD rfl rfl (fun bg wg xg ag (rg:Row wg ⟨bg,0,none⟩ [.pointer (some ⟨g,0,none⟩)]) hg0=>?_)|refine zD (d:=some 3) rfl rfl (fun bp wp xp ap (rp:Row wp ⟨bp,0,none⟩ (aJ t iv ov)) hp0=>?_)|(refine zC rfl (aJy (M:=M) (N:=N) (cs:=aJ t iv ov) (t:=t) _ (hG.ext (by exact fx)) (fun b hb=>nLt (hM b hb) (Ext.size (by exact fx))) (by exact fx) (by omega)) ?_;rintro v5 w5 ⟨o5,x5⟩;obtain ⟨b5,c5,rfl⟩:=o5.sl.form)|refine fD ?_ ?_)
 all_goals
  have xg5:Ext wg w5:=by exact fx
  have xw:Ext w w5:=xg.trans xg5
  have hle:(eX l t.ins).length≤1000:=nTr (tJ _ _) hs
  refine zC rfl (aR9 (g:=g) (M:=M) (l:=l) (frm:=eX l t.ins) (nxt:=fun x=>eX l x.tx.ins) _ (hG.ext xw) (fun b hb=>nLt (hM b hb) xw.size) o5.sl ⟨F.graph_Graph_Above_1,#[],#[.pointer (some ⟨bg,0,none⟩)],rfl,bI0,fun x hx w' cs xx hr=>aY9 (M:=M) (N:=M) (l:=l) (cs:=cs) (x:=x) w' (hG.ext (xw.trans xx)) (fun b hb=>nLt (hM b hb) (xw.trans xx).size) (At.ext (xg5.trans xx) ag) hr (by have:=(hsm x hx).ins;omega)⟩ hn hle aPp (fun i hi=>aPp) (fun x hx=>nTr (tJ _ _) (hsm x hx).ins)) ?_
  rintro v6 w6 ⟨o6,x6⟩
  repeat (first|refine go ?_|refine zg λ_ _=>?_|refine zi λ_ _=>?_)
  rw [bMv hnd] at o6
  exact aA rfl ⟨o6.lower xw.size,xw.trans x6⟩
theorem aNh {g:Nat} {M:List Nat} {l:List Ent} (id:ByteArray) (w:World) (hG:GrR w g M l) (hM:∀b∈M,b<w.heap.size) (hn:l.length≤1000):K.Spec Tryz.prog F.graph_Graph_Below [.pointer (some ⟨g,0,none⟩),.string id] w fun r w'=>
  Own bL T.string w.heap.size w' r (aK l (cI l id))∧Ext w w':=by
 have hsm:∀x∈l,x.tx.Sm:=fun x hx=>lE (hG.ok x hx).check
 have hnd:=hG.nodup
 refine aF1 rfl ?_
 unfold tL
 refine oy ?_
 repeat' (first|refine go1 ?_|refine zg λ_ _=>?_|refine zi λ_ _=>?_|(refine zC rfl (lQ (M:=M) id _ (hG.ext (by exact fx)) (fun b hb=>nLt (hM b hb) (Ext.size (by exact fx)))) ?_;rintro v5 w5 ⟨ds,rfl,e5,x5⟩;obtain ⟨iv,ov,rfl,o1,o2,o3⟩:=e5;have i1:=o1.one;have i2:=o2.one)|refine zE (d':=5) (fun _=>rfl) rfl rfl (by simp [bC,i1,i2];exact ⟨rfl,rfl,rfl,rfl,rfl⟩) (fun b6 w6 x6 a6 (r6:Row w6 ⟨b6,0,none⟩ (bC (dV l id) iv ov)) hb6=>?_)|refine zM rfl (fun h=>?_) (fun h=>?_)|refine zI (d:=some 17) (cs:= [.string id]) rfl (fun b w10 x10 a10 hb=>?_))
 ·have hno:eU l id=false:=by simpa using h
  have hf:bT l id<0:=by
   rcases Int.lt_or_le (bT l id) 0 with h1|h1
   ·exact h1
   ·have h2:=pK (p:=fun x:Ent=>decide (x.id=id)) (l:=l)
    have h3:eU l id=true:=by unfold eU;rw [←h2];exact dTr h1
    rw [h3] at hno;cases hno
  have e0:aK l (cI l id)= []:=by
   refine bCx fun b hb=>?_
   unfold cI nW at hb
   obtain ⟨i,hi,rfl⟩:=List.mem_map.1 hb
   exact aP7 (fun j _=>dFa (by omega)) _ _ (by simpa using hi)
  rw [e0]
  exact aA rfl ⟨Own.nil _ _ _,x5.trans x6⟩
 ·have hyes:eU l id=true:=by simpa using h
  have xw:Ext w w10:=(x5.trans x6).trans x10
  have hnx:bP6 (.func (.func F.graph_Graph_children) #[.pointer (some ⟨g,0,none⟩)] #[]) l M w10 (fun x=>kJ l x.id x.tx.outs.length):=⟨F.graph_Graph_children,#[.pointer (some ⟨g,0,none⟩)],#[],rfl,aYr,fun x hx w' cs xx hr=>aS4 (M:=M) (N:=M) (l:=l) (cs:=cs) (x:=x) w' (hG.ext (xw.trans xx)) hr (by have:=(hsm x hx).outs;omega)⟩
  refine zC rfl (aR9 (g:=g) (M:=M) (l:=l) (frm:= [id]) (nxt:=fun x=>kJ l x.id x.tx.outs.length) _ (hG.ext xw) (fun b hb=>nLt (hM b hb) xw.size) (SlE.new (E:=bL) (l:= [id]) a10 rfl (Nat.le_refl _)) hnx hn (by simp) (fun s hs=>?_) (fun i hi=>bG7) (fun x hx=>nTr (yR _ _ _) (hsm x hx).outs)) ?_
  ·simp only [List.mem_singleton] at hs
   subst hs
   unfold eU at hyes
   rw [List.any_eq_true] at hyes
   obtain ⟨y,hy,hd⟩:=hyes
   obtain ⟨j,hj,rfl⟩:=List.getElem_of_mem hy
   exact ⟨j,hj,by rw [cL hj];exact of_decide_eq_true hd⟩
  rintro v6 w6 ⟨o6,x6⟩
  repeat (first|refine go ?_|refine zg λ_ _=>?_|refine zi λ_ _=>?_)
  have hinv:l.Pairwise fun x y=>∀p,spends x p=true→spends y p=false:=by
   obtain ⟨b1,vo,b2,m,sp,hP⟩:=hG;exact hP.inv.apart
  rw [bL7 hnd hinv hG.pos] at o6
  exact aA rfl ⟨o6.lower xw.size,xw.trans x6⟩
end
end Go.Proofs.YtgloknkcfchnlaaGreat
