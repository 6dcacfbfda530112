/- Contracts: the fee of a transaction. Contracts: a pool, by t -/
import Derived.Test.YtgloknkcfchnlaaGreatRows
import Derived.Test.YtgloknkcfchnlaaGreatChecked
import Derived.ProofKit
import Derived.ShutString
import Derived.ChangeOld
import Derived.Below
import Derived.Test.YtgloknkcfchnlaaGreatZ27
import Derived.Test.YtgloknkcfchnlaaGreatZ33
set_option linter.unusedVariables false
set_option linter.unusedSimpArgs false
namespace Go.Proofs.YtgloknkcfchnlaaGreat
section
open Go Go.K
attribute [local irreducible] aF aP bG KOp.wp K.Spec u32 leS vnS str aR cF bU dF iT nL dQ iX jD aE aQ bS idT aO inE
section
variable {f:Pt→Option Cn} {t:Tx} {h:Int}
theorem bFu (hc:aE t≠0):dZ f t h=(0,aE t, -1):=by unfold dZ;rw [if_pos hc]
theorem aFi (hc:aE t=0) (hg:aQ t=true):dZ f t h=(0,4, -1):=by unfold dZ;rw [if_neg (by simpa using hc),if_pos hg]
theorem aWf (hc:aE t=0) (hg:aQ t=false) {i:Nat} (hi:i<t.ins.length) (hk:∀j,j<i→∀hj:j<t.ins.length,inE f t h t.ins[j]=0) (he:inE f t h t.ins[i]≠0):dZ f t h=(0,inE f t h t.ins[i],((i:Nat):Int)):=by
 unfold dZ
 have e:(t.ins.findIdx? fun x=>decide (inE f t h x≠0))=some i:=List.findIdx?_eq_some_iff_getElem.2 ⟨hi,dTr he,fun j hj=>by rw [hk j hj (by omega)];simp⟩
 rw [if_neg (by simpa using hc),if_neg (by rw [hg];simp),e]
 simp only
 rw [List.getD_eq_getElem?_getD,List.getElem?_eq_getElem hi];rfl
theorem aO1 (hc:aE t=0) (hg:aQ t=false) (hk:∀j,∀hj:j<t.ins.length,inE f t h t.ins[j]=0):
  dZ f t h=if lM (t.ins.map (inV f))≠0 then (0,lM (t.ins.map (inV f)), -1) else if fG (values t)>fG (t.ins.map (inV f)) then (0,12, -1) else (fG (t.ins.map (inV f)) - fG (values t),0, -1):=by
 unfold dZ
 have e:(t.ins.findIdx? fun x=>decide (inE f t h x≠0))=none:=List.findIdx?_eq_none_iff.2 fun x hx=>by
  obtain ⟨j,hj,rfl⟩:=List.getElem_of_mem hx
  rw [hk j hj];simp
 rw [if_neg (by simpa using hc),if_neg (by rw [hg];simp),e]
end
theorem uT {l:List Int} (h:lM l=0):cD (fG l)=true:=by
 unfold lM at h
 unfold fG
 cases hs:kC 0 l with
 |none=>rw [hs] at h;cases h
 |some s=>exact vH l 0 s (by decide) hs
theorem uS {t:Tx} (h:aE t=0):lM (values t)=0:=by
 unfold aE at h
 repeat' split at h
 all_goals first|exact h|cases h
set_option maxHeartbeats 2000000 in
theorem aYc {M:List Nat} {cs:List Value} {t:Tx} {v:Value} {f:Pt→Option Cn} (bl:Int) (w:World) (hV:eH w v f) (ht:txR.rel M w cs t) (hs:t.Sm):K.Spec Tryz.prog F.check_Fee [v,.agg cs.toArray,.int .i64 bl] w fun r w'=>
  ∃e,r=.tuple #[.int .i64 (dZ f t bl).1,e]∧dL w' 1 e (dZ f t bl).2.1 (dZ f t bl).2.2∧Ext w w':=by
 have hn:=hs.ins
 have ht0:=ht
 obtain ⟨iv,ov,rfl,h1,h2,h3,h4⟩:=ht
 have hV0:=hV
 obtain ⟨⟨vt,vu,rfl,_⟩,_⟩:=hV
 refine aXy rfl ?_
 unfold aMk
 refine oy ?_
 by_cases hc:aE t=0
 ·cases hg:aQ t with
  |true=>
   rw [aFi hc hg]
   repeat' (first|refine zD rfl rfl (fun bp wp xp ap (rp:Row wp ⟨bp,0,none⟩ (aJ t iv ov)) hp0=>?_)|(refine zC (d:=some 20) rfl (aD4 (M:=M) (t:=t) (cs:=aJ t iv ov) _ (R.ext ht0 (by exact fx)) hs) ?_;rintro _ w2 ⟨rfl,x2⟩;rw [if_neg (by simpa using hc),if_pos hg])|refine go1 ?_|refine zg λ_ _=>?_|refine zi λ_ _=>?_)
   exact aA rfl ⟨_,rfl,dL.num _ _ (by decide),by exact fx⟩
  |false=>
   repeat' (first|refine zD rfl rfl (fun bp wp xp ap (rp:Row wp ⟨bp,0,none⟩ (aJ t iv ov)) hp0=>?_)|(refine zC (d:=some 20) rfl (aD4 (M:=M) (t:=t) (cs:=aJ t iv ov) _ (R.ext ht0 (by exact fx)) hs) ?_;rintro _ w2 ⟨rfl,x2⟩;rw [if_neg (by simpa using hc),if_neg (by rw [hg];simp)])|refine zG (d:=some 27) (E:=inR) (M:=M) (l:=t.ins) rfl (SlR.ext h1 (by exact fx)) ?_|(refine aI (fun (p:Nat × Value) w'=>Ext w2 w'∧p.1≤t.ins.length∧Own aAj T.int w2.heap.size w' p.2 ((t.ins.take p.1).map (inV f))∧∀j,j<p.1→∀hj:j<t.ins.length,inE f t bl t.ins[j]=0) (fun p=> [(0,.iface vt vu),(2,.int .i64 bl),(4,.pointer (some ⟨bp,0,none⟩)),(9,p.2),(27,.int .i64 (t.ins.length:Nat)),(28,.int .i64 (p.1:Nat))]) (fun p=>t.ins.length - p.1) (0,.slice none 0 0) ⟨rfl,rfl,rfl,rfl,rfl,rfl,trivial⟩ ⟨Ext.refl _,by simp,Own.nil _ _ _,fun j hj=>absurd hj (by simp)⟩ ?_;rintro ⟨i,v9⟩ ρ w3 ⟨x3,hi,ho,hk⟩;simp only at hi ho hk;dsimp only)|refine zL (p:=((i:Nat):Int)<((t.ins.length:Nat):Int)) rfl (fun h=>?_) (fun h=>?_)|refine go1 ?_|refine zg λ_ _=>?_|refine zi λ_ _=>?_)
   ·have hil:i<t.ins.length:=by omega
    have s2:wp.heap.size≤w2.heap.size:=x2.size
    have rp3:Row w3 ⟨bp,0,none⟩ (aJ t iv ov):=rp.ext (by exact fx)
    have ht3:=R.ext ht0 (show Ext w w3 by exact fx)
    have hV3:=hV0.ext (show Ext w w3 by exact fx)
    by_cases he:inE f t bl t.ins[i]=0
    ·repeat' (first|(refine zC (d:=some 36) rfl (aRn (M:=M) (t:=t) (cs:=aJ t iv ov) i hil hc bl _ (hV3.ext (by exact fx)) (R.ext ht3 (by exact fx))) ?_;rintro _ w4 ⟨c,rfl,hcc,x4⟩;rw [he])|refine zE (d':=11) (fun _=>rfl) rfl rfl rfl (fun b7 w7 x7 a7 (r7:Row w7 ⟨b7,0,none⟩ c.cs) hb7=>?_)|refine zI (d:=some 51) (cs:= [.int .i64 c.v]) rfl (fun b8 w8 x8 a8 hb8=>?_)|refine cA (d:=some 52) (E:=aAj) (v:=v9) (l2:= [c.v]) rfl (ho.ext (by exact fx)) (Ext.size (w:=w2) (by exact fx)) rfl rfl (dX a8 rfl) rfl rfl (by simp;omega) (fun v10 w10 o10 c10=>?_)|refine go1 ?_|refine zg λ_ _=>?_|refine zi λ_ _=>?_)
     exact ⟨(i+1,v10),⟨rfl,rfl,rfl,rfl,rfl,rfl,trivial⟩,⟨(Ext.chg (w:=w2) (by exact fx) c10).mono (fun b hb=>.inr (ho.base b hb)),by simp only;omega,by simp only;rw [List.take_succ_eq_append_getElem hil,List.map_append];subst hcc;exact o10,fun j hj hjl=>by
      simp only at hj
      by_cases e:j=i
      ·subst e;exact he
      ·exact hk j (by omega) hjl⟩,by simp only;omega⟩
    ·rw [aWf hc hg hil hk he]
     repeat' (first|(refine zC (d:=some 36) rfl (aRn (M:=M) (t:=t) (cs:=aJ t iv ov) i hil hc bl _ (hV3.ext (by exact fx)) (R.ext ht3 (by exact fx))) ?_;rintro _ w4 ⟨c,rfl,hcc,x4⟩)|refine zE (d':=11) (fun _=>rfl) rfl rfl rfl (fun b7 w7 x7 a7 (r7:Row w7 ⟨b7,0,none⟩ c.cs) hb7=>?_)|refine zN (p:=inE f t bl t.ins[i]=0) rfl (fun _=>?_) (fun h=>absurd h he)|refine aT (d:=some 44) (cs:= [.int .i64 (i:Nat),wR (inE f t bl t.ins[i])]) rfl ?_|refine zD (d:=some 45) (cs:= [.int .i64 (i:Nat),wR (inE f t bl t.ins[i])]) rfl rfl (fun b8 w8 x8 a8 r8 hb8=>?_)|refine go1 ?_|refine zg λ_ _=>?_|refine zi λ_ _=>?_)
     exact aA rfl ⟨_,rfl,.inr ⟨he,(show (0:Int)≤((i:Nat):Int) by omega),b8,_, -1,rfl,a8,dL.num _ _ he⟩,by exact fx⟩
   ·have ei:i=t.ins.length:=by omega
    subst ei
    rw [List.take_length] at ho
    have rp3:Row w3 ⟨bp,0,none⟩ (aJ t iv ov):=rp.ext (by exact fx)
    have ht3:=R.ext ht0 (show Ext w w3 by exact fx)
    rw [aO1 hc hg fun j hj=>hk j hj hj]
    by_cases hsum:lM (t.ins.map (inV f))=0
    ·have hgood:=uT hsum
     have hgv:=uT (uS hc)
     rw [if_neg (by simpa using hsum)]
     by_cases hv:fG (values t)>fG (t.ins.map (inV f))
     ·rw [if_pos hv]
      repeat' (first|(refine zC (d:=some 56) rfl (aIn (l:=t.ins.map (inV f)) _ (SlE.ext (w:=w3) (by exact fx) ho.sl) (by simp;omega)) ?_;rintro _ _ ⟨rfl,rfl⟩;rw [hsum])|(refine zC (d:=some 65) rfl (xG (M:=M) (t:=t) (cs:=aJ t iv ov) _ (R.ext ht3 (by exact fx)) hs) ?_;rintro _ w5 ⟨rfl,x5⟩)|refine zL (p:=fG (values t)>fG (t.ins.map (inV f))) rfl (fun _=>?_) (fun h=>absurd hv h)|refine go1 ?_|refine zg λ_ _=>?_|refine zi λ_ _=>?_)
      exact aA rfl ⟨_,rfl,dL.num _ _ (by decide),by exact fx⟩
     ·rw [if_neg hv]
      repeat' (first|(refine zC (d:=some 56) rfl (aIn (l:=t.ins.map (inV f)) _ (SlE.ext (w:=w3) (by exact fx) ho.sl) (by simp;omega)) ?_;rintro _ _ ⟨rfl,rfl⟩;rw [hsum])|(refine zC (d:=some 65) rfl (xG (M:=M) (t:=t) (cs:=aJ t iv ov) _ (R.ext ht3 (by exact fx)) hs) ?_;rintro _ w5 ⟨rfl,x5⟩)|refine zL (p:=fG (values t)>fG (t.ins.map (inV f))) rfl (fun h=>absurd h hv) (fun _=>?_)|(refine zC (d:=some 75) rfl (bHe _ _ hgood hgv (by omega) _) ?_;rintro _ w6 ⟨rfl,x6⟩)|(refine zC (d:=some 80) rfl (bJp _) ?_;rintro _ w7 ⟨rfl,x7⟩)|refine go1 ?_|refine zg λ_ _=>?_|refine zi λ_ _=>?_)
      exact aA rfl ⟨_,rfl,dL.none_ _ _,by exact fx⟩
    ·rw [if_pos hsum]
     repeat' (first|(refine zC (d:=some 56) rfl (aIn (l:=t.ins.map (inV f)) _ (SlE.ext (w:=w3) (by exact fx) ho.sl) (by simp;omega)) ?_;rintro _ _ ⟨rfl,rfl⟩)|refine zN (p:=lM (t.ins.map (inV f))=0) rfl (fun _=>?_) (fun h=>absurd h hsum)|refine go1 ?_|refine zg λ_ _=>?_|refine zi λ_ _=>?_)
     exact aA rfl ⟨_,rfl,dL.num _ _ hsum,by exact fx⟩
 ·rw [bFu hc]
  repeat' (first|refine zD rfl rfl (fun bp wp xp ap (rp:Row wp ⟨bp,0,none⟩ (aJ t iv ov)) hp0=>?_)|(refine zC (d:=some 20) rfl (aD4 (M:=M) (t:=t) (cs:=aJ t iv ov) _ (R.ext ht0 (by exact fx)) hs) ?_;rintro _ w2 ⟨rfl,x2⟩;rw [if_pos hc])|refine zN (p:=aE t=0) rfl (fun _=>?_) (fun h=>absurd h hc)|refine go1 ?_|refine zg λ_ _=>?_|refine zi λ_ _=>?_)
  exact aA rfl ⟨_,rfl,dL.num _ _ hc,by exact fx⟩
end
section
open Go Go.K
attribute [local irreducible] aF aP bG KOp.wp K.Spec u32 leS vnS str aR dE bS idT aO aE aQ idN bB cH bY bT cE eO bF cI aK kI fP qT mQ bV evL inS inB jH fY jR gY gT nU gC dN gD dZ jN cF bU
abbrev aCt (v:Value) (h rate:Int):Value:=.agg #[v,.int .i64 h,.int .i64 rate]
section
variable {f:Pt→Option Cn} {l:List Ent} {t:Tx} {h:Int}
theorem aTx (hc:aE t≠0):aV f l t h=(0,aE t, -1):=by unfold aV;rw [if_pos hc]
theorem aEx (hc:aE t=0) (hh:eU l (idT t)=true):aV f l t h=(0,7, -1):=by unfold aV;rw [if_neg (by simpa using hc),if_pos hh]
theorem aLr (hc:aE t=0) (hh:eU l (idT t)=false) (hf:(dZ (gU f l h) t h).2.1≠0):aV f l t h=(0,(dZ (gU f l h) t h).2):=by
 unfold aV;rw [if_neg (by simpa using hc),if_neg (by rw [hh];simp),if_pos hf]
theorem aQq (hc:aE t=0) (hh:eU l (idT t)=false) (hf:(dZ (gU f l h) t h).2.1=0):aV f l t h=if 0≤jN t then (0,13,jN t) else ((dZ (gU f l h) t h).1,0, -1):=by
 unfold aV;rw [if_neg (by simpa using hc),if_neg (by rw [hh];simp),if_neg (by simpa using hf)]
end
theorem bIa {cs:List Value} {iv ov:Value} {t:Tx} (v:Value) (h rate:Int) (he:cs=aJ t iv ov) (h1:iv.oneCell'=true) (h2:ov.oneCell'=true) (hv:v.oneCell'=true) (w:World):K.Spec Tryz.prog F.pool_Plain [.pointer none,.agg cs.toArray,aCt v h rate] w fun r w'=>r=.tuple #[.int .i64 0,wR 1]∧Ext w w':=by
 subst he
 refine aIx rfl ?_
 unfold aCl
 refine oy ?_
 repeat' (first|refine zD (d:=some 4) rfl rfl (fun bt wt xt bt' (rt:Row wt ⟨bt,0,none⟩ (aJ t iv ov)) hbt0=>?_)|refine zD (d:=some 5) (cs:= [v,.int .i64 h,.int .i64 rate]) rfl rfl (fun bs ws xs bs' (rs:Row ws ⟨bs,0,none⟩ [v,.int .i64 h,.int .i64 rate]) hbs0=>?_)|refine go1 ?_|refine zg λ_ _=>?_|refine zi λ_ _=>?_)
 exact aA rfl ⟨rfl,by exact fx⟩
set_option maxHeartbeats 4000000 in
theorem uZ {g:Nat} {M N:List Nat} {l:List Ent} {cs:List Value} {t:Tx} {v:Value} {f:Pt→Option Cn} (h rate:Int) (w:World) (hG:GrR w g M l) (hM:∀b∈M,b<w.heap.size) (hV:eH w v f) (ht:txR.rel N w cs t) (hs:t.Sm):
  K.Spec Tryz.prog F.pool_Plain [.pointer (some ⟨g,0,none⟩),.agg cs.toArray,aCt v h rate] w fun r w'=>∃e,r=.tuple #[.int .i64 (aV f l t h).1,e]∧dL w' 1 e (aV f l t h).2.1 (aV f l t h).2.2∧Ext w w':=by
 have ht0:=ht
 obtain ⟨iv,ov,rfl,hi,ho,hv⟩:=ht
 obtain ⟨vt,vu,rfl⟩:∃vt vu,v=.iface vt vu:=by obtain ⟨⟨a,b,e,_⟩,_⟩:=hV;exact ⟨a,b,e⟩
 refine aIx rfl ?_
 unfold aCl
 refine oy ?_
 by_cases hc:aE t=0
 ·have hq:∀y∈t.outs,y.s.size≤1000000:=fun y hy=>by have:=(cB hs hc).scr y hy;omega
  repeat (first|refine zD (d:=some 4) rfl rfl (fun bt wt xt bt' (rt:Row wt ⟨bt,0,none⟩ (aJ t iv ov)) hbt0=>?_)|refine zD (d:=some 5) (cs:= [.iface vt vu,.int .i64 h,.int .i64 rate]) rfl rfl (fun bs ws xs bs' (rs:Row ws ⟨bs,0,none⟩ [.iface vt vu,.int .i64 h,.int .i64 rate]) hbs0=>?_)|(refine zC (d:=some 26) rfl (uD (M:=N) _ (cs:=aJ t iv ov) (R.ext ht0 (by exact fx)) hs) ?_;rintro _ w5 ⟨rfl,x5⟩;rw [idV,if_pos hc])|(refine zC (d:=some 36) rfl (lQ (M:=M) (l:=l) (idT t) _ (hG.ext (by exact fx)) (fun b hb=>nLt (hM b hb) (Ext.size (by exact fx)))) ?_;rintro _ w6 ⟨ds,rfl,⟨iv6,ov6,rfl,o1,o2,o3⟩,x6⟩;have e1:=o1.one;have e2:=o2.one)|(refine zE (d':=10) (fun _=>rfl) rfl rfl (by show (bC (dV l (idT t)) iv6 ov6).all _=true;simp [bC,e1,e2];exact ⟨rfl,rfl,rfl,rfl,rfl⟩) (fun b7 w7 x7 a7 (r7:Row w7 ⟨b7,0,none⟩ (bC (dV l (idT t)) iv6 ov6)) hb7=>?_))|refine go1 ?_|refine zg λ_ _=>?_|refine zi λ_ _=>?_)
  have rt7:Row w7 ⟨bt,0,none⟩ (aJ t iv ov):=rt.ext (by exact fx)
  have rs7:Row w7 ⟨bs,0,none⟩ [.iface vt vu,.int .i64 h,.int .i64 rate]:=rs.ext (by exact fx)
  have x07:Ext w w7:=by exact fx
  have G7:=hG.ext x07
  have hM7:∀b∈M,b<w7.heap.size:=fun b hb=>nLt (hM b hb) x07.size
  have V7:=hV.ext x07
  have t7:=R.ext ht0 x07
  have x70:Unit→Ext w w7:=fun _=>x07
  clear x07 o1 o2 o3 r7 x7 x6 x5 xs xt rt rs
  cases hh:eU l (idT t) with
  |true=>
   rw [aEx hc hh]
   repeat' (first|refine go1 ?_|refine zg λ_ _=>?_|refine zi λ_ _=>?_)
   exact aA rfl ⟨_,rfl,dL.num _ _ (by decide),Ext.trans (x70 ()) (by exact fx)⟩
  |false=>
   have step:∀w8,Ext w7 w8→K.Spec Tryz.prog F.check_Fee [aAx (.iface vt vu) (.pointer (some ⟨g,0,none⟩)) h,.agg (aJ t iv ov).toArray,.int .i64 h] w8 fun r w'=>∃e,r=.tuple #[.int .i64 (dZ (gU f l h) t h).1,e]∧dL w' 1 e (dZ (gU f l h) t h).2.1 (dZ (gU f l h) t h).2.2∧Ext w8 w':=fun w8 x8=>
    aYc (M:=N) h w8 (aUj h (V7.ext x8) (G7.ext x8) (fun b hb=>nLt (hM7 b hb) x8.size)) (R.ext t7 x8) hs
   repeat' (first|refine zg (fun w8 x8=>?_)|refine fD ?_ ?_|(refine zC (d:=some 47) rfl (aG5 vt vu (some ⟨g,0,none⟩) h _) ?_;rintro _ w9 ⟨rfl,x9⟩)|refine dJ (b:=.cons ⟨some 51,_,_⟩ _) (fun (_:Unit) w'=>Ext w7 w') (fun _=> [(4,.pointer (some ⟨bt,0,none⟩)),(47,aAx (.iface vt vu) (.pointer (some ⟨g,0,none⟩)) h),(48,.agg (aJ t iv ov).toArray),(50,.int .i64 h)]) ?_ ?_|(rintro _ ρ7 w10 x10;try dsimp only)|(exact ⟨(),⟨rfl,rfl,rfl,rfl,trivial⟩,by exact fx⟩)|refine go1 ?_|refine zg λ_ _=>?_|refine zi λ_ _=>?_)
   refine zC (d:=some 51) rfl (step _ x10) ?_
   rintro _ w11 ⟨e,rfl,he,x11⟩
   obtain ⟨hn1,hn2⟩:=he.nil_iff
   clear x8
   by_cases hf:(dZ (gU f l h) t h).2.1=0
   ·obtain ⟨rfl,hp⟩:=hn1 hf
    rw [aQq hc hh hf]
    by_cases hd:0≤jN t
    ·rw [if_pos hd]
     repeat' (first|(refine zC (d:=some 59) rfl (aP0 (M:=N) (t:=t) (cs:=aJ t iv ov) _ (R.ext t7 (by exact fx)) hs hq) ?_;rintro _ w12 ⟨rfl,x12⟩;rw [Int.max_eq_left hd])|refine zL (x:=.tmp 62) (p:=jN t≥0) rfl (fun _=>?_) (fun q=>absurd hd q)|refine aT (d:=some 65) (cs:= [.int .i64 (jN t),wR 13]) rfl ?_|refine zD (d:=some 66) (cs:= [.int .i64 (jN t),wR 13]) rfl rfl (fun b13 w13 x13 a13 r13 hb13=>?_)|refine go1 ?_|refine zg λ_ _=>?_|refine zi λ_ _=>?_)
     exact aA rfl ⟨_,rfl,.inr ⟨(show (13:Int)≠0 by decide),hd,b13,_, -1,rfl,a13,dL.num _ _ (by decide)⟩,Ext.trans (x70 ()) (by exact fx)⟩
    ·rw [if_neg hd]
     repeat' (first|(refine zC (d:=some 59) rfl (aP0 (M:=N) (t:=t) (cs:=aJ t iv ov) _ (R.ext t7 (by exact fx)) hs hq) ?_;rintro _ w12 ⟨rfl,x12⟩)|refine zL (x:=.tmp 62) (p:=jN t≥0) rfl (fun q=>absurd q hd) (fun _=>?_)|refine go1 ?_|refine zg λ_ _=>?_|refine zi λ_ _=>?_)
     exact aA rfl ⟨_,rfl,dL.none_ _ _,Ext.trans (x70 ()) (by exact fx)⟩
   ·obtain ⟨et,eu,rfl⟩:=hn2 hf
    rw [aLr hc hh hf]
    repeat' (first|refine go1 ?_|refine zg λ_ _=>?_|refine zi λ_ _=>?_)
    exact aA rfl ⟨_,rfl,he.ext (by exact fx),Ext.trans (x70 ()) (by exact fx)⟩
 ·rw [aTx hc]
  repeat' (first|refine zD (d:=some 4) rfl rfl (fun bt wt xt bt' (rt:Row wt ⟨bt,0,none⟩ (aJ t iv ov)) hbt0=>?_)|refine zD (d:=some 5) (cs:= [.iface vt vu,.int .i64 h,.int .i64 rate]) rfl rfl (fun bs ws xs bs' (rs:Row ws ⟨bs,0,none⟩ [.iface vt vu,.int .i64 h,.int .i64 rate]) hbs0=>?_)|(refine zC (d:=some 26) rfl (uD (M:=N) _ (cs:=aJ t iv ov) (R.ext ht0 (by exact fx)) hs) ?_;rintro _ w5 ⟨rfl,x5⟩;rw [idV,if_neg hc])|refine zN (p:=aE t=0) rfl (fun _=>?_) (fun h=>absurd h hc)|refine go1 ?_|refine zg λ_ _=>?_|refine zi λ_ _=>?_)
  exact aA rfl ⟨_,rfl,dL.num _ _ hc,by exact fx⟩
end
section
open Go Go.K
attribute [local irreducible] aF aP bG KOp.wp K.Spec u32 leS vnS str aR dE bS idT aO aE aQ idN bB cH bY bT cE eO bF cI aK kI fP qT mQ bV evL inS inB jH fY jR gY gT nU gC dN gD dZ jN cF bU aV bK
theorem aPt (v:Value) (hv:v.oneCell'=true) (h rate:Int) (size:Nat) (hs:size≤1000000) (w:World):K.Spec Tryz.prog F.pool_Terms_asked [aCt v h rate,.int .i64 (size:Nat)] w fun r w'=>r=.int .i64 (dB rate size)∧Ext w w':=by
 obtain ⟨R,hR⟩:∃R:Nat,min (max rate 1000) 100000000=(R:Int):=⟨(min (max rate 1000) 100000000).toNat,by omega⟩
 have hR2:R≤100000000:=by omega
 have e:dB rate size=(((R*size+999) / 1000:Nat):Int):=by unfold dB;rw [hR];rfl
 rw [e]
 refine aHt rfl ?_
 unfold vK
 refine oy ?_
 repeat' (first|refine zD (d:=some 2) (cs:= [v,.int .i64 h,.int .i64 rate]) rfl rfl (fun bs ws xs bs' (rs:Row ws ⟨bs,0,none⟩ [v,.int .i64 h,.int .i64 rate]) hbs0=>?_)|refine aQj (d:=some 10) (a:=rate) (b:=1000) rfl rfl ?_|(refine aH3 (d:=some 11) (a:=max rate 1000) (b:=100000000) rfl rfl ?_;rw [hR])|(refine zC (d:=some 13) rfl (aA6 R size hR2 hs _) ?_;rintro _ w3 ⟨rfl,x3⟩)|refine go1 ?_|refine zg λ_ _=>?_|refine zi λ_ _=>?_)
 exact aA rfl ⟨rfl,by exact fx⟩
set_option maxHeartbeats 1000000 in
theorem aKy {g:Nat} {M:List Nat} {l:List Ent} {v:Value} {ids:List ByteArray} (w:World) (hG:GrR w g M l) (hM:∀b∈M,b<w.heap.size) (hn:l.length≤1000) (hi:SlE bL w v ids) (hl:ids.length≤1000):K.Spec Tryz.prog F.pool_without [.pointer (some ⟨g,0,none⟩),v] w fun r w'=>
  ∃g' M',r=.pointer (some ⟨g',0,none⟩)∧Gr w' w.heap.size g' M' (bK l ids)∧Ext w w':=by
 have d0:bK l (ids.take 0)=l:=by unfold bK;rfl
 refine aO6 rfl ?_
 unfold aDj
 refine oy ?_
 repeat (first|(refine zC (d:=some 9) rfl (aHj (M:=M) (l:=l) _ hG hM hn) ?_;rintro _ w1 ⟨g1,M1,rfl,G1,x1⟩)|refine aY (d:=some 11) (E:=bL) (l:=ids) rfl (SlE.ext (w:=w) (by exact fx) hi) ?_|(refine aI (fun (p:Nat × List Nat) w'=>Ext w w'∧p.1≤ids.length∧Gr w' w.heap.size g1 p.2 (bK l (ids.take p.1))∧(bK l (ids.take p.1)).length≤1000) (fun p=> [(5,.pointer (some ⟨g1,0,none⟩)),(10,v),(11,.int .i64 (ids.length:Nat)),(12,.int .i64 (p.1:Nat))]) (fun p=>ids.length - p.1) (0,M1) ⟨rfl,rfl,rfl,rfl,trivial⟩ ⟨x1,by simp,by rw [d0];exact G1,by rw [d0];exact hn⟩ ?_;rintro ⟨i,Mi⟩ ρ w3 ⟨x3,hil,hg,hlen⟩;simp only at hil hg hlen;dsimp only)|refine go1 ?_|refine zg λ_ _=>?_|refine zi λ_ _=>?_)
 refine zL (p:=((i:Nat):Int)<((ids.length:Nat):Int)) rfl (fun h=>?_) (fun h=>?_)
 ·have hii:i<ids.length:=by omega
  repeat' (first|(refine aS (d:=some 14) (E:=bL) rfl rfl (n:=i) (l:=ids) (hi.ext x3) rfl hii (fun ad r5=>?_);have r5:Row w3 ad [Value.string ids[i]]:=r5)|(refine zC (d:=some 18) rfl (aQz (l:=bK l (ids.take i)) ids[i] _ hg hlen) ?_;rintro _ w4 ⟨M4,rfl,g4,c4,m4⟩)|refine go1 ?_|refine zg λ_ _=>?_|refine zi λ_ _=>?_)
  have hb:=Gr.base hg
  refine ⟨(i+1,M4),⟨rfl,rfl,rfl,rfl,trivial⟩,⟨(x3.chg c4).mono (fun b hb2=>.inr (hb b hb2)),hii,by show Gr w4 w.heap.size g1 M4 (bK l (ids.take (i+1)));rw [uE hii];exact g4,?_⟩,by show ids.length - (i+1)<ids.length - i;omega⟩
  show (bK l (ids.take (i+1))).length≤1000
  rw [uE hii]
  exact nTr (by
   unfold cE
   split
   ·exact Nat.le_refl _
   ·exact List.length_eraseIdx_le ..) hlen
 ·repeat' (first|refine go1 ?_|refine zg λ_ _=>?_|refine zi λ_ _=>?_)
  rw [tLe (by omega)] at hg
  exact aA rfl ⟨g1,Mi,rfl,hg,x3⟩
end
section
open Go Go.K
section
attribute [local irreducible] aE aQ inE fG lM values
theorem bNa {f:Pt→Option Cn} {t:Tx} {h:Int} (hc:aE t=0) (h0:(dZ f t h).2.1=0):aQ t=false∧cD (dZ f t h).1=true:=by
 cases hg:aQ t with
 |true=>rw [aFi hc hg] at h0;exact absurd h0 (show ¬(4:Int)=0 by decide)
 |false=>
  refine ⟨rfl,?_⟩
  by_cases hk:∀j,∀hj:j<t.ins.length,inE f t h t.ins[j]=0
  ·rw [aO1 hc hg hk] at h0 ⊢
   by_cases h1:lM (t.ins.map (inV f))=0
   ·rw [if_neg (show ¬lM (t.ins.map (inV f))≠0 from fun q=>q h1)] at h0 ⊢
    by_cases h2:fG (values t)>fG (t.ins.map (inV f))
    ·rw [if_pos h2] at h0;exact absurd h0 (show ¬(12:Int)=0 by decide)
    ·rw [if_neg h2]
     have g1:=(bN _).1 (uT h1)
     have g2:=(bN _).1 (uT (uS hc))
     exact (bN _).2 (by show 0≤fG (t.ins.map (inV f)) - fG (values t)∧fG (t.ins.map (inV f)) - fG (values t)≤2100000000000000;omega)
   ·rw [if_pos (show lM (t.ins.map (inV f))≠0 from h1)] at h0;exact absurd h0 h1
  ·exfalso
   have:∃i,(t.ins.findIdx? fun x=>decide (inE f t h x≠0))=some i:=by
    cases hq:t.ins.findIdx? fun x=>decide (inE f t h x≠0) with
    |some i=>exact ⟨i,rfl⟩
    |none=>
     refine absurd (fun j hj=>?_) hk
     have:=List.findIdx?_eq_none_iff.1 hq _ (gMe hj)
     simpa using this
   obtain ⟨i,hi⟩:=this
   obtain ⟨h1,h2,h3⟩:=List.findIdx?_eq_some_iff_getElem.1 hi
   have he:inE f t h t.ins[i]≠0:=of_decide_eq_true h2
   rw [aWf hc hg h1 (fun j hj hjl=>by have:=h3 j hj;simpa using this) he] at h0
   exact he h0
theorem fL {f:Pt→Option Cn} {l:List Ent} {t:Tx} {h:Int} (h0:(aV f l t h).2.1=0):aE t=0∧aQ t=false∧eU l (idT t)=false∧cD (aV f l t h).1=true:=by
 by_cases hc:aE t=0
 ·cases hh:eU l (idT t) with
  |true=>rw [aEx hc hh] at h0;exact absurd h0 (show ¬(7:Int)=0 by decide)
  |false=>
   by_cases hf:(dZ (gU f l h) t h).2.1=0
   ·obtain ⟨g1,g2⟩:=bNa hc hf
    refine ⟨hc,g1,rfl,?_⟩
    rw [aQq hc hh hf] at h0 ⊢
    by_cases hd:0≤jN t
    ·rw [if_pos hd] at h0;exact absurd h0 (show ¬(13:Int)=0 by decide)
    ·rw [if_neg hd];exact g2
   ·rw [aLr hc hh hf] at h0;exact absurd h0 hf
 ·rw [aTx hc] at h0;exact absurd h0 hc
end
section
variable {f:Pt→Option Cn} {l:List Ent} {t:Tx} {h rate:Int}
theorem aFz (h0:(aV f l t h).2.1≠0):dU f l t h rate=(aV f l t h).2∧cG f l t h rate= []∧cN f l t h rate=l:=by
 have e:dU f l t h rate=(aV f l t h).2:=by unfold dU;rw [if_pos h0]
 refine ⟨e,?_,?_⟩
 ·unfold cG;rw [e,if_neg h0]
 ·unfold cN;rw [e,if_neg h0]
theorem aFy {c:Int} (hc:c≠0) (e:dU f l t h rate=(c, -1)):cG f l t h rate= []∧cN f l t h rate=l:=by
 refine ⟨?_,?_⟩
 ·unfold cG;rw [e,if_neg (show ¬c=0 from hc)]
 ·unfold cN;rw [e,if_neg (show ¬c=0 from hc)]
theorem aWd (h0:(aV f l t h).2.1=0) (h1:(aV f l t h).1<dB rate (aO t)):dU f l t h rate=(11, -1):=by
 unfold dU;rw [if_neg (show ¬(aV f l t h).2.1≠0 from fun q=>q h0),if_pos h1]
theorem aLc (h0:(aV f l t h).2.1=0) (h1:¬(aV f l t h).1<dB rate (aO t)) (h2:dN l t (aV f l t h).1≠0):dU f l t h rate=(dN l t (aV f l t h).1, -1):=by
 unfold dU;rw [if_neg (show ¬(aV f l t h).2.1≠0 from fun q=>q h0),if_neg h1,if_pos h2]
theorem aRk (h0:(aV f l t h).2.1=0) (h1:¬(aV f l t h).1<dB rate (aO t)) (h2:dN l t (aV f l t h).1=0) (h3:gD (pU l t) t≠0):dU f l t h rate=(gD (pU l t) t, -1):=by
 unfold dU;rw [if_neg (show ¬(aV f l t h).2.1≠0 from fun q=>q h0),if_neg h1,if_neg (show ¬dN l t (aV f l t h).1≠0 from fun q=>q h2),if_pos h3]
theorem aP2 (h0:(aV f l t h).2.1=0) (h1:¬(aV f l t h).1<dB rate (aO t)) (h2:dN l t (aV f l t h).1=0) (h3:gD (pU l t) t=0):
  dU f l t h rate=(0, -1)∧cG f l t h rate=aK l (evL l t)∧cN f l t h rate=(eO (pU l t) t (aV f l t h).1).1:=by
 have e:dU f l t h rate=(0, -1):=by
  unfold dU
  rw [if_neg (show ¬(aV f l t h).2.1≠0 from fun q=>q h0),if_neg h1,if_neg (show ¬dN l t (aV f l t h).1≠0 from fun q=>q h2),if_neg (show ¬gD (pU l t) t≠0 from fun q=>q h3)]
 refine ⟨e,?_,?_⟩
 ·unfold cG;rw [e,if_pos rfl]
 ·unfold cN;rw [e,if_pos rfl]
end
theorem bJu (l:List Ent) (s:ByteArray):(cE l s).1.length≤l.length:=by
 unfold cE
 split
 ·exact Nat.le_refl _
 ·exact List.length_eraseIdx_le ..
theorem oJ:∀(ids:List ByteArray) (l:List Ent),(bK l ids).length≤l.length
 | [],l=>Nat.le_refl _
 |s::ids,l=>nTr (oJ ids (cE l s).1) (bJu l s)
end
end Go.Proofs.YtgloknkcfchnlaaGreat
namespace Go.K
section
open Go Go.Proofs.YtgloknkcfchnlaaGreat
section
variable {f:Pt→Option Cn} {l:List Ent} {t:Tx} {h rate:Int}
theorem tF (h0:(dU f l t h rate).1=0):(aV f l t h).2.1=0∧dB rate (aO t)≤(aV f l t h).1∧dN l t (aV f l t h).1=0∧gD (pU l t) t=0:=by
 by_cases h1:(aV f l t h).2.1=0
 ·by_cases h2:(aV f l t h).1<dB rate (aO t)
  ·rw [aWd h1 h2] at h0;exact absurd h0 (show ¬(11:Int)=0 by decide)
  ·by_cases h3:dN l t (aV f l t h).1=0
   ·by_cases h4:gD (pU l t) t=0
    ·exact ⟨h1,by omega,h3,h4⟩
    ·rw [aRk h1 h2 h3 h4] at h0;exact absurd h0 h4
   ·rw [aLc h1 h2 h3] at h0;exact absurd h0 h3
 ·rw [(aFz h1).1] at h0;exact absurd h0 h1
theorem uG (h0:(dU f l t h rate).1≠0):cG f l t h rate= []∧cN f l t h rate=l:=by
 unfold cG cN
 rw [if_neg h0,if_neg h0];exact ⟨rfl,rfl⟩
theorem yD {f:Int} (h:(eO l t f).2=0):(eO l t f).1=l++ [⟨t,idT t,f,(aO t:Nat)⟩]:=by
 unfold eO at h ⊢
 split
 ·rename_i a;rw [if_pos a] at h;exact absurd h a
 rename_i a;rw [if_neg a] at h
 split
 ·rename_i a;rw [if_pos a] at h;exact absurd h (show ¬(4:Int)=0 by decide)
 rename_i a;rw [if_neg a] at h
 split
 ·rename_i a;rw [if_pos a] at h;exact absurd h (show ¬(3:Int)=0 by decide)
 rename_i a;rw [if_neg a] at h
 split
 ·rename_i a;rw [if_pos a] at h;exact absurd h (show ¬(7:Int)=0 by decide)
 rename_i a;rw [if_neg a] at h
 split
 ·rename_i a;rw [if_pos a] at h;exact absurd h (show ¬(15:Int)=0 by decide)
 ·rfl
abbrev mK (t:Tx) (fee:Int):Ent:=⟨t,idT t,fee,(aO t:Nat)⟩
theorem aCf (hn:(l.map (·.id)).Nodup) (h0:(dU f l t h rate).1=0):cG f l t h rate=aK l (evL l t)∧pU l t=gZ l (evL l t)∧cN f l t h rate=gZ l (evL l t)++ [mK t (aV f l t h).1]:=by
 obtain ⟨h1,h2,h3,h4⟩:=tF h0
 obtain ⟨hc,hg,hh,hgd⟩:=fL h1
 obtain ⟨-,e2,e3⟩:=aP2 (rate:=rate) h1 (by omega) h3 h4
 have er:pU l t=gZ l (evL l t):=by unfold pU;exact aIj _ _ hn
 refine ⟨e2,er,?_⟩
 rw [e3,er]
 obtain ⟨hi, -⟩:=aPk hc
 refine yD ?_
 rcases bIm (f:=(aV f l t h).1) hn hc hi hg hgd with h5|⟨-,h6, -⟩
 ·exact h5
 ·obtain ⟨x,hx,e⟩:=aBj.1 h6
  have:eU l (idT t)=true:=aBj.2 ⟨x,(jI _ _).subset hx,e⟩
  rw [hh] at this;cases this
theorem aVr (hn:(l.map (·.id)).Nodup) (h0:(dU f l t h rate).1=0):(cN f l t h rate).length+(cG f l t h rate).length=l.length+1:=by
 obtain ⟨e1, -,e2⟩:=aCf hn h0
 have:=aVj l (evL l t)
 rw [e1,e2,List.length_append,List.length_singleton];omega
theorem aHq (hn:(l.map (·.id)).Nodup):(cN f l t h rate).length≤l.length+1:=by
 by_cases h0:(dU f l t h rate).1=0
 ·have:=aVr (f:=f) (h:=h) (rate:=rate) hn h0;omega
 ·rw [(uG h0).2];omega
theorem bLa (hn:(l.map (·.id)).Nodup) {s:ByteArray} (hs:s∈cG f l t h rate):eU (cN f l t h rate) s=false:=by
 by_cases h0:(dU f l t h rate).1=0
 ·obtain ⟨e1, -,e2⟩:=aCf hn h0
  obtain ⟨-, -,hh, -⟩:=fL (tF h0).1
  rw [e1] at hs
  rw [e2,←Bool.not_eq_true]
  intro hb
  obtain ⟨x,hx,e⟩:=aBj.1 hb
  rcases List.mem_append.1 hx with hx|hx
  ·exact yW l _ hn hx (by rw [e];exact hs)
  ·simp only [List.mem_singleton] at hx
   subst hx
   obtain ⟨y,hy,e3⟩:=bPr hs
   have:eU l (idT t)=true:=aBj.2 ⟨y,hy,by rw [e3];exact e.symm⟩
   rw [hh] at this;cases this
 ·rw [(uG h0).1] at hs;cases hs
theorem bJv (hn:(l.map (·.id)).Nodup) (h0:(dU f l t h rate).1=0) (h' rate':Int):dU f (cN f l t h rate) t h' rate'=(7, -1):=by
 obtain ⟨-, -,e2⟩:=aCf hn h0
 obtain ⟨hc, -, -, -⟩:=fL (tF h0).1
 have hh:eU (cN f l t h rate) (idT t)=true:=aBj.2 ⟨mK t (aV f l t h).1,by rw [e2];simp,rfl⟩
 have e:=aEx (f:=f) (h:=h') hc hh
 have h7:(aV f (cN f l t h rate) t h').2.1≠0:=by rw [e];exact (show ¬(7:Int)=0 by decide)
 rw [(aFz (rate:=rate') h7).1,e]
theorem bDo {r r':Int} (hr:r≤r') (n:Nat):dB r n≤dB r' n:=by
 unfold dB
 have:(min (max r 1000) 100000000).toNat≤(min (max r' 1000) 100000000).toNat:=by omega
 have:=Nat.mul_le_mul_right n this
 omega
theorem bH3 {r r':Int} (hr:r≤r') (h0:(dU f l t h r').1=0):dU f l t h r=dU f l t h r'∧cG f l t h r=cG f l t h r'∧cN f l t h r=cN f l t h r':=by
 obtain ⟨h1,h2,h3,h4⟩:=tF h0
 have hm:=bDo hr (aO t)
 obtain ⟨a1,a2,a3⟩:=aP2 (rate:=r) h1 (by omega) h3 h4
 obtain ⟨b1,b2,b3⟩:=aP2 (rate:=r') h1 (by omega) h3 h4
 exact ⟨by rw [a1,b1],by rw [a2,b2],by rw [a3,b3]⟩
theorem aWt (hc:aE t=0) (h0:(dZ f t h).2.1=0):(∀x∈t.ins,(f x.p).isSome=true)∧lM (t.ins.map (inV f))=0∧(dZ f t h).1=fG (t.ins.map (inV f)) - fG (values t):=by
 cases hg:aQ t with
 |true=>rw [aFi hc hg] at h0;exact absurd h0 (show ¬(4:Int)=0 by decide)
 |false=>
  by_cases hk:∀j,∀hj:j<t.ins.length,inE f t h t.ins[j]=0
  ·refine ⟨fun x hx=>?_,?_⟩
   ·obtain ⟨j,hj,rfl⟩:=List.getElem_of_mem hx
    have:=hk j hj
    unfold inE at this
    cases hf:f t.ins[j].p with
    |none=>rw [hf] at this;exact absurd this (show ¬(8:Int)=0 by decide)
    |some c=>rfl
   ·rw [aO1 hc hg hk] at h0 ⊢
    by_cases h1:lM (t.ins.map (inV f))=0
    ·rw [if_neg (show ¬lM (t.ins.map (inV f))≠0 from fun q=>q h1)] at h0 ⊢
     by_cases h2:fG (values t)>fG (t.ins.map (inV f))
     ·rw [if_pos h2] at h0;exact absurd h0 (show ¬(12:Int)=0 by decide)
     ·rw [if_neg h2];exact ⟨h1,rfl⟩
    ·rw [if_pos (show lM (t.ins.map (inV f))≠0 from h1)] at h0;exact absurd h0 h1
  ·exfalso
   have:∃i,(t.ins.findIdx? fun x=>decide (inE f t h x≠0))=some i:=by
    cases hq:t.ins.findIdx? fun x=>decide (inE f t h x≠0) with
    |some i=>exact ⟨i,rfl⟩
    |none=>
     refine absurd (fun j hj=>?_) hk
     have:=List.findIdx?_eq_none_iff.1 hq _ (gMe hj)
     simpa using this
   obtain ⟨i,hi⟩:=this
   obtain ⟨h1,h2,h3⟩:=List.findIdx?_eq_some_iff_getElem.1 hi
   have he:inE f t h t.ins[i]≠0:=of_decide_eq_true h2
   rw [aWf hc hg h1 (fun j hj hjl=>by have:=h3 j hj;simpa using this) he] at h0
   exact he h0
theorem aQ2 (h0:(aV f l t h).2.1=0):(dZ (gU f l h) t h).2.1=0∧(aV f l t h).1=(dZ (gU f l h) t h).1:=by
 obtain ⟨hc, -,hh, -⟩:=fL h0
 by_cases hf:(dZ (gU f l h) t h).2.1=0
 ·refine ⟨hf,?_⟩
  rw [aQq hc hh hf] at h0 ⊢
  by_cases hd:0≤jN t
  ·rw [if_pos hd] at h0;exact absurd h0 (show ¬(13:Int)=0 by decide)
  ·rw [if_neg hd]
 ·rw [aLr hc hh hf] at h0;exact absurd h0 hf
end
theorem aU0:∀{l:List Pt},yI l=false→l.Nodup
 | [],_=>List.nodup_nil
 |p::l,h=>by
  unfold yI at h
  rw [Bool.or_eq_false_iff] at h
  exact List.nodup_cons.2 ⟨fun hm=>(by rw [List.contains_iff_mem.2 hm] at h;exact absurd h.1 (by decide)),aU0 h.2⟩
theorem aH5 {t:Tx} (h:aE t=0):(bA t).Nodup:=by
 have h1:=(aLz h).2.2.2.1
 unfold aBq at h1
 have:=aU0 h1
 exact (List.pairwise_reverse.1 this).imp fun h=>Ne.symm h
theorem aUk:∀(l:List Int) (s r:Int),kC s l=some r→r=s+l.sum∧∀a∈l,0≤a
 | [],s,r,h=>by simp [kC] at h;simp [h]
 |a::l,s,r,h=>by
  simp only [kC] at h
  split at h
  ·rename_i hc
   simp only [Bool.and_eq_true] at hc
   obtain ⟨h1,h2⟩:=aUk l _ r h
   refine ⟨by rw [h1,List.sum_cons];omega,fun b hb=>?_⟩
   rcases List.mem_cons.1 hb with rfl|hb
   ·exact ((bN _).1 hc.1).1
   ·exact h2 b hb
  ·cases h
theorem aEb {l:List Int} (h:lM l=0):fG l=l.sum∧∀a∈l,0≤a:=by
 unfold lM at h
 cases hs:kC 0 l with
 |none=>rw [hs] at h;exact absurd h (show ¬(3:Int)=0 by decide)
 |some r=>
  obtain ⟨h1,h2⟩:=aUk l 0 r hs
  exact ⟨by unfold fG;rw [hs];show r=_;omega,h2⟩
structure Keep (f:Pt→Option Cn) (rate:Int) (l:List Ent):Prop where
 pays:∀x∈l,dB rate (aO x.tx)≤x.fee
 src:∀x∈l,∀p∈bA x.tx,(f p).isSome=true∨cV l p=true
theorem Keep.nil (f:Pt→Option Cn) (rate:Int):Keep f rate []:=⟨by simp,by simp⟩
theorem uY {l:List Ent} (hn:(l.map (·.id)).Nodup) {p:Pt}:cV l p=true↔∃z∈l,z.id=p.s∧p.i<(z.tx.outs.length:Int):=by
 unfold cV
 rw [Bool.and_eq_true,aBj,decide_eq_true_eq]
 constructor
 ·rintro ⟨⟨z,hz,e⟩,h⟩
  have:=(get_mem hn hz).2
  rw [e] at this
  rw [this] at h
  exact ⟨z,hz,e,h⟩
 ·rintro ⟨z,hz,e,h⟩
  refine ⟨⟨z,hz,e⟩,?_⟩
  have:=(get_mem hn hz).2
  rw [e] at this
  rw [this];exact h
theorem aX5 {t:Tx} {z:Ent} {p:Pt} (hp:p∈bA t) (e:z.id=p.s) (h:p.i<(z.tx.outs.length:Int)):oW t z=true:=by
 obtain ⟨b,hb,rfl⟩:=List.mem_map.1 hp
 unfold oW
 exact List.any_eq_true.2 ⟨b,hb,by rw [dTr e.symm,dTr h];rfl⟩
theorem bHt {f:Pt→Option Cn} {l:List Ent} {t:Tx} {h rate:Int} (hn:(l.map (·.id)).Nodup) (h0:(dU f l t h rate).1=0):((gZ l (evL l t)++ [mK t (aV f l t h).1]).map (·.id)).Nodup:=by
 obtain ⟨-, -,hh, -⟩:=fL (tF h0).1
 rw [List.map_append,List.nodup_append]
 refine ⟨bFh hn _,by simp,fun a ha b hb=>?_⟩
 simp only [List.map_cons,List.map_nil,List.mem_singleton] at hb
 subst hb
 rintro rfl
 obtain ⟨x,hx,e⟩:=List.mem_map.1 ha
 have:eU l (idT t)=true:=aBj.2 ⟨x,(jI _ _).subset hx,e⟩
 rw [hh] at this;cases this
theorem Keep.acc {f:Pt→Option Cn} {l:List Ent} {t:Tx} {h rate:Int} (hK:Keep f rate l) (hn:(l.map (·.id)).Nodup):Keep f rate (cN f l t h rate):=by
 by_cases h0:(dU f l t h rate).1=0
 ·obtain ⟨e1, -,e2⟩:=aCf hn h0
  obtain ⟨h1,h2,h3, -⟩:=tF h0
  have hnd:=bHt hn h0
  rw [e2]
  have keep:∀p,(∃z∈l,z.id=p.s∧p.i<(z.tx.outs.length:Int)∧z.id∉aK l (evL l t))→cV (gZ l (evL l t)++ [mK t (aV f l t h).1]) p=true:=by
   rintro p ⟨z,hz,ea,eb,ec⟩
   refine (uY hnd).2 ⟨z,List.mem_append_left _ ?_,ea,eb⟩
   rcases aZl l (evL l t) hz with h5|h5
   ·exact h5
   ·exact absurd h5 ec
  refine ⟨fun x hx=>?_,fun x hx p hp=>?_⟩
  ·rcases List.mem_append.1 hx with hx|hx
   ·exact hK.pays x ((jI _ _).subset hx)
   ·simp only [List.mem_singleton] at hx
    subst hx;exact h2
  ·rcases List.mem_append.1 hx with hx|hx
   ·have hxl:=(jI _ _).subset hx
    rcases hK.src x hxl p hp with h5|h5
    ·exact .inl h5
    ·obtain ⟨z,hz,ea,eb⟩:=(uY hn).1 h5
     refine .inr (keep p ⟨z,hz,ea,eb,fun hev=>?_⟩)
     obtain ⟨j,hj,rfl⟩:=List.getElem_of_mem hz
     obtain ⟨i,hi,e⟩:=List.getElem_of_mem hxl
     have hh:aBc l i j=true:=by
      unfold aBc
      rw [cL hi,cL hj,e];exact aX5 hp ea eb
     refine yW l _ hn hx ?_
     rw [←e]
     exact bGz hn hi hj (.one hi hj hh) hev
   ·simp only [List.mem_singleton] at hx
    subst hx
    obtain ⟨hc, -, -, -⟩:=fL h1
    obtain ⟨b,hb,rfl⟩:=List.mem_map.1 hp
    have hs:=(aWt hc (aQ2 h1).1).1 b hb
    unfold gU at hs
    cases hf:f b.p with
    |some c=>exact .inl rfl
    |none=>
     rw [hf] at hs
     have ho:cV l b.p=true:=by
      unfold rC at hs
      by_cases ho:cV l b.p=true
      ·exact ho
      ·rw [if_neg ho] at hs;cases hs
     obtain ⟨z,hz,ea,eb⟩:=(uY hn).1 ho
     refine .inr (keep b.p ⟨z,hz,ea,eb,?_⟩)
     obtain ⟨-, -,h6⟩:=bFc h3
     rcases h6 with h6|⟨-, -, -,h6, -⟩
     ·rw [bNo hn h6];simp
     ·exact aV1 hn h6 hz (aX5 hp ea eb)
 ·rw [(uG h0).2];exact hK
def vW (h:Int) (x:Ent) (k:Nat):En:=(⟨x.id,(k:Nat)⟩,⟨(x.tx.outs.getD k default).v,(x.tx.outs.getD k default).s,h⟩)
def aD6 (m:List En) (h:Int) (x:Ent) (k:Nat):List En:=((List.range k).map (vW h x)).filter fun e=>(aL m e.1).isNone
def qQ (m:List En) (h:Int) (x:Ent):List En:=aD6 m h x x.tx.outs.length
def cX (m:List En) (l:List Ent) (h:Int):List En:=m++l.flatMap (qQ m h)
theorem aRv (m:List En) (h:Int) (x:Ent) (k:Nat):aD6 m h x (k+1)=aD6 m h x k++if (aL m ⟨x.id,(k:Nat)⟩).isNone then [vW h x k] else []:=by
 unfold aD6
 rw [List.range_succ,List.map_append,List.filter_append]
 congr 1
 rw [List.map_cons,List.map_nil,List.filter_cons]
 rfl
theorem aAu {m:List En} {h:Int} {x:Ent} {k:Nat} {e:En}:e∈aD6 m h x k↔∃j,j<k∧e=vW h x j∧aL m e.1=none:=by
 unfold aD6
 rw [List.mem_filter,List.mem_map]
 constructor
 ·rintro ⟨⟨j,hj,rfl⟩,h2⟩;exact ⟨j,List.mem_range.1 hj,rfl,Option.isNone_iff_eq_none.1 h2⟩
 ·rintro ⟨j,hj,rfl,h2⟩;exact ⟨⟨j,List.mem_range.2 hj,rfl⟩,Option.isNone_iff_eq_none.2 h2⟩
theorem uR {m:List En} {l:List Ent} {h:Int} {e:En}:e∈cX m l h↔e∈m∨∃x∈l,∃j,j<x.tx.outs.length∧e=vW h x j∧aL m e.1=none:=by
 unfold cX qQ
 rw [List.mem_append,List.mem_flatMap]
 simp only [aAu]
theorem bD6 (m:List En) (h:Int) (x:Ent):((qQ m h x).map (·.1)).Nodup:=by
 have h1:(((List.range x.tx.outs.length).map (vW h x)).map (·.1)).Nodup:=by
  rw [List.map_map]
  refine List.Pairwise.map _ (fun a b hab e=>?_) List.nodup_range
  have:((a:Nat):Int)=(b:Nat):=congrArg Pt.i e
  exact hab (by omega)
 exact h1.sublist (List.Sublist.map _ List.filter_sublist)
theorem aR4 {m:List En} (hm:(m.map (·.1)).Nodup):∀{l:List Ent} (_:(l.map (·.id)).Nodup) (h:Int),((cX m l h).map (·.1)).Nodup:=by
 intro l hn h
 unfold cX
 rw [List.map_append,List.nodup_append]
 refine ⟨hm,?_,?_⟩
 ·induction l with
  |nil=>exact List.nodup_nil
  |cons x l ih=>
   rw [List.map_cons,List.nodup_cons] at hn
   rw [List.flatMap_cons,List.map_append,List.nodup_append]
   refine ⟨bD6 m h x,ih hn.2,fun a ha b hb=>?_⟩
   rintro rfl
   obtain ⟨e,he,rfl⟩:=List.mem_map.1 ha
   obtain ⟨d,hd,e2⟩:=List.mem_map.1 hb
   obtain ⟨y,hy,hd⟩:=List.mem_flatMap.1 hd
   obtain ⟨j, -,rfl, -⟩:=aAu.1 he
   obtain ⟨k, -,rfl, -⟩:=aAu.1 hd
   have:y.id=x.id:=congrArg Pt.s e2
   exact hn.1 (List.mem_map.2 ⟨y,hy,this⟩)
 ·intro a ha b hb
  rintro rfl
  obtain ⟨d,hd,rfl⟩:=List.mem_map.1 hb
  obtain ⟨y, -,hd⟩:=List.mem_flatMap.1 hd
  obtain ⟨k, -,rfl,h2⟩:=aAu.1 hd
  obtain ⟨e,he,e2⟩:=List.mem_map.1 ha
  have:=vN (m:=m) (p:=e.1) (c:=e.2) hm he
  rw [e2,h2] at this;cases this
theorem aQb {m:List En} {l:List Ent} {h:Int} (hm:(m.map (·.1)).Nodup) (hn:(l.map (·.id)).Nodup) {p:Pt} (hp:0≤p.i):aL (cX m l h) p=gU (aL m) l h p:=by
 have hk:=aR4 hm hn h
 unfold gU
 cases hf:aL m p with
 |some c=>exact vN hk (uR.2 (.inl (lF hf)))
 |none=>
  show _=rC l h p
  unfold rC
  by_cases ho:cV l p=true
  ·rw [if_pos ho]
   obtain ⟨z,hz,ea,eb⟩:=(uY hn).1 ho
   have hg:=(get_mem hn hz).2
   rw [ea] at hg
   rw [hg]
   have hi:p.i.toNat<z.tx.outs.length:=by omega
   rw [List.getElem?_eq_getElem hi]
   have e:(p,(⟨z.tx.outs[p.i.toNat].v,z.tx.outs[p.i.toNat].s,h⟩:Cn))=vW h z p.i.toNat:=by
    unfold vW
    have:p=⟨z.id,((p.i.toNat:Nat):Int)⟩:=by
     rw [ea,show ((p.i.toNat:Nat):Int)=p.i by omega]
    rw [←this]
    simp [List.getD_eq_getElem?_getD,List.getElem?_eq_getElem hi]
   refine vN hk (uR.2 (.inr ⟨z,hz,p.i.toNat,hi,e,hf⟩))
  ·rw [if_neg ho]
   cases hq:aL (cX m l h) p with
   |none=>rfl
   |some c=>
    exfalso
    rcases uR.1 (lF hq) with h5|⟨x,hx,j,hj,e, -⟩
    ·have:=vN hm h5
     rw [hf] at this;cases this
    ·refine ho ((uY hn).2 ⟨x,hx,?_,?_⟩)
     ·exact (congrArg (fun e:En=>e.1.s) e).symm
     ·have:p.i=((j:Nat):Int):=congrArg (fun e:En=>e.1.i) e
      rw [this];omega
theorem bKb (h:Int) (x:Ent):tot ((List.range x.tx.outs.length).map (vW h x))=(values x.tx).sum:=by
 unfold tot values
 rw [List.map_map]
 congr 1
 apply List.ext_getElem
 ·simp
 ·intro i h1 h2
  simp only [List.length_map,List.length_range] at h1
  simp [vW,List.getD_eq_getElem?_getD,List.getElem?_eq_getElem h1]
theorem aR5 (p:En→Bool):∀(A:List En),(∀e∈A,0≤e.2.v)→tot (A.filter p)≤tot A
 | [],_=>by simp
 |e::A,hA=>by
  have ih:=aR5 p A (fun d hd=>hA d (by simp [hd]))
  have h0:=hA e (by simp)
  rw [List.filter_cons]
  split
  ·rw [yY,yY];omega
  ·rw [yY];omega
theorem aRm {x:Ent} (hx:EntOk x) (h:Int) (k:Nat) (hk:k<x.tx.outs.length):0≤(vW h x k).2.v:=by
 have:=(aEb (uS hx.check)).2
 unfold vW
 simp only [List.getD_eq_getElem?_getD,List.getElem?_eq_getElem hk,Option.getD_some]
 exact this _ (List.mem_map.2 ⟨_,gMe hk,rfl⟩)
theorem bJ0 (m:List En) (h:Int) {x:Ent} (hx:EntOk x):tot (qQ m h x)≤(values x.tx).sum:=by
 rw [←bKb h x]
 refine aR5 _ _ fun e he=>?_
 obtain ⟨k,hk,rfl⟩:=List.mem_map.1 he
 exact aRm hx h k (List.mem_range.1 hk)
theorem aL1 {m:List En} (hm:∀e∈m,0≤e.2.v) {l:List Ent} (hE:∀x∈l,EntOk x) (h:Int):∀e∈cX m l h,0≤e.2.v:=by
 intro e he
 rcases uR.1 he with h5|⟨x,hx,j,hj,rfl, -⟩
 ·exact hm e h5
 ·exact aRm (hE x hx) h j hj
theorem bJ5 {m:List En} {h:Int} {l l':List Ent} (hs:l'.Sublist l) (hp:∀x∈l,∀e∈qQ m h x,0≤e.2.v):tot (l'.flatMap (qQ m h))≤tot (l.flatMap (qQ m h)):=by
 induction hs with
 |slnil=>exact Int.le_refl _
 |cons x _ ih=>
  have h1:=ih (fun y hy=>hp y (by simp [hy]))
  have h2:=Mon.pos (hp x (by simp))
  rw [List.flatMap_cons,iM];omega
 |cons_cons x _ ih=>
  have h1:=ih (fun y hy=>hp y (by simp [hy]))
  rw [List.flatMap_cons,iM,List.flatMap_cons,iM];omega
structure Money (m:List En) (l:List Ent) (h B:Int):Prop where
 all:tot (cX m l h)≤B
 fee:∀x∈l,x.fee≤B
theorem Money.nil {m:List En} {h B:Int} (hB:tot m≤B):Money m [] h B:=⟨by unfold cX;simpa using hB,by simp⟩
theorem Money.more {m:List En} {l:List Ent} {h B B':Int} (hM:Money m l h B) (hb:B≤B'):Money m l h B':=⟨by have:=hM.all;omega,fun x hx=>by have:=hM.fee x hx;omega⟩
theorem Money.acc {m:List En} {l:List Ent} {t:Tx} {h rate B:Int} (hM:Money m l h B) (hk:(m.map (·.1)).Nodup) (hm:∀e∈m,0≤e.2.v) (hn:(l.map (·.id)).Nodup) (hE:∀x∈l,EntOk x) (ht:∀p∈bA t,0≤p.i):Money m (cN (aL m) l t h rate) h (2*B):=by
 have hpos:=Mon.pos (aL1 hm hE h)
 have hall:=hM.all
 by_cases h0:(dU (aL m) l t h rate).1=0
 ·obtain ⟨e1, -,e2⟩:=aCf hn h0
  obtain ⟨h1,h2,h3, -⟩:=tF h0
  obtain ⟨hc, -, -,hgd⟩:=fL h1
  obtain ⟨hf1,hf2⟩:=aQ2 h1
  obtain ⟨hs1,hs2,hs3⟩:=aWt hc hf1
  obtain ⟨hv1,hv2⟩:=aEb (uS hc)
  obtain ⟨hw1,hw2⟩:=aEb hs2
  have hfee:=(bN _).1 hgd
  have hx:EntOk (mK t (aV (aL m) l t h).1):=⟨hc,(fL h1).2.1,hgd,rfl,rfl⟩
  have hin:(t.ins.map (inV (gU (aL m) l h))).sum≤tot (cX m l h):=by
   have hd:(bA t).Nodup:=aH5 hc
   have hsome:∀p∈bA t,(aL (cX m l h) p).isSome=true:=fun p hp=>by
    rw [aQb hk hn (ht p hp)]
    obtain ⟨b,hb,rfl⟩:=List.mem_map.1 hp
    exact hs1 b hb
   have h5:=aPl (bA t) (cX m l h) (aR4 hk hn h) hd hsome
   have h6:0≤tot (aPb (cX m l h) (bA t)):=Mon.pos fun e he=>aL1 hm hE h e (aO8 _ _ he)
   have h7:((bA t).map fun p=>((aL (cX m l h) p).getD cn0).v)=t.ins.map (inV (gU (aL m) l h)):=by
    unfold bA
    rw [List.map_map]
    refine List.map_congr_left fun b hb=>?_
    show ((aL (cX m l h) b.p).getD cn0).v=_
    rw [aQb hk hn (ht _ (List.mem_map.2 ⟨b,hb,rfl⟩))];rfl
   rw [h7] at h5
   omega
  have hvs:0≤(values t).sum:=by
   have:∀{L:List Int},(∀a∈L,0≤a)→0≤L.sum:=fun {L} hL=>by
    induction L with
    |nil=>simp
    |cons a L ih=>
     rw [List.sum_cons]
     have:=hL a (by simp)
     have:=ih (fun b hb=>hL b (by simp [hb]))
     omega
   exact this hv2
  rw [hf2,hs3,hw1,hv1] at hfee
  rw [e2]
  refine ⟨?_,fun x hx=>?_⟩
  ·unfold cX
   rw [iM,List.flatMap_append,iM,List.flatMap_cons,List.flatMap_nil,List.append_nil]
   have h8:=bJ5 (m:=m) (h:=h) (jI l (evL l t)) (fun x hx e he=>by
    obtain ⟨j,hj,rfl, -⟩:=aAu.1 he
    exact aRm (hE x hx) h j hj)
   have h9:=bJ0 m h hx
   have h10:tot (cX m l h)=tot m+tot (l.flatMap (qQ m h)):=by unfold cX;rw [iM]
   have h11:(values (mK t (aV (aL m) l t h).1).tx).sum=(values t).sum:=rfl
   omega
  ·rcases List.mem_append.1 hx with hx|hx
   ·have:=hM.fee x ((jI _ _).subset hx);omega
   ·simp only [List.mem_singleton] at hx
    subst hx
    show (aV (aL m) l t h).1≤_
    rw [hf2,hs3,hw1,hv1];omega
 ·rw [(uG h0).2]
  exact hM.more (by omega)
end
section
open Go Go.Proofs.YtgloknkcfchnlaaGreat
structure PSm where
 spends:List UInt8
 tag:UInt8
 fee:Int
 pays:UInt8
 mark:UInt8
 final:Bool
 wait:UInt8
instance:Inhabited PSm:=⟨⟨[],0,0,0,0,false,0⟩⟩
def gF (z:PSm) (fv:Value):List Value:= [fv,u8V z.tag,.int .u16 z.fee,u8V z.pays,u8V z.mark,.bool z.final,u8V z.wait]
def jK:R PSm where
 k:=7
 pos:=by decide
 ag:=true
 rel:=fun M w cs z=>∃fv,cs=gF z fv∧SlR u8R M w fv z.spends∧0≤z.fee∧z.fee≤65535
 len:=fun ⟨_,h,_⟩=>by rw [h];rfl
 one:=fun ⟨fv,h,hs,_⟩ v hv=>by
  obtain ⟨b,c,rfl⟩:=hs.form
  subst h;simp [gF] at hv;rcases hv with rfl|rfl|rfl|rfl|rfl|rfl|rfl<;>rfl
 step:=fun ⟨fv,h,hs,h2⟩ c hL hM=>⟨fv,h,hs.step c hL hM,h2⟩
def aLx:R Int where
 k:=1
 pos:=by decide
 ag:=false
 rel:=fun _ _ cs n=>cs= [.int .u16 n]∧0≤n∧n≤65535
 len:=fun ⟨h,_⟩=>by rw [h];rfl
 one:=fun ⟨h,_⟩ v hv=>by subst h;simp at hv;subst hv;rfl
 step:=fun h _ _ _=>h
def bQa:ByteArray:=⟨#[1,1,0,0,0,0,0,0,0]⟩
def bBe (n:Int):Cn:=⟨10*n,bQa,1⟩
def gL (vals:List Int):Nat→List En
 |0=> []
 |n+1=>dD (gL vals n) ⟨idN (300+n),0⟩ (bBe (vals.getD n 0))
def aGs (V:List En) (s:UInt8):Option En:=if s.toNat<250∧0<V.length then V[s.toNat%V.length]? else none
def ptP (V:List En) (s:UInt8):Pt:=match aGs V s with
 |some e=>e.1
 |none=>⟨idN s.toNat,0⟩
def zZ (V:List En) (s:UInt8):Int:=match aGs V s with
 |some e=>e.2.v
 |none=>0
def aOf (z:PSm):Int:=if 0<z.wait.toNat then ((z.wait.toNat%8:Nat):Int) else if z.final then 4294967294 else 4294967293
def aW6 (z:PSm):ByteArray:=str [0,UInt8.ofNat (z.tag.toNat%3),0]
def inP (V:List En) (z:PSm) (s:UInt8):TIn:=⟨ptP V s,aOf z, [aW6 z]⟩
def aOm (z:PSm):ByteArray:=((⟨#[1,1,0]⟩:ByteArray)++str [UInt8.ofNat (z.pays.toNat / 64)])++(⟨#[0,0,0,0,0]⟩:ByteArray)
def aE0 (left:Int) (k:Nat):Int:=if left.tdiv (k:Nat)<0 then 0 else left.tdiv (k:Nat)
def wL (s:ByteArray):Nat→Int→List TOut
 |0,_=> []
 |k+1,left=>⟨aE0 left (k+1),s⟩::wL s k (left - aE0 left (k+1))
def aW5 (V:List En) (z:PSm):Int:=((z.spends.take 4).map (zZ V)).sum
def bE (V:List En) (z:PSm):Tx:=⟨2,(z.spends.take 4).map (inP V z),wL (aOm z) (1+z.pays.toNat%3) (aW5 V z - z.fee),((z.mark.toNat%3:Nat):Int)⟩
theorem aTq (s:ByteArray):∀(k:Nat) (left:Int),(wL s k left).length=k
 |0,_=>rfl
 |k+1,left=>by rw [wL,List.length_cons,aTq s k]
theorem aAq (V:List En) (z:PSm):(bE V z).ins.length≤4:=by
 show ((z.spends.take 4).map (inP V z)).length≤4
 rw [List.length_map,List.length_take];omega
theorem aG8 (V:List En) (z:PSm):1≤(bE V z).outs.length∧(bE V z).outs.length≤3:=by
 show 1≤(wL _ _ _).length∧(wL _ _ _).length≤3
 rw [aTq];omega
theorem jY (V:List En) (z:PSm):(bE V z).Sm:=by
 refine ⟨by have:=aAq V z;omega,by have:=aG8 V z;omega,fun x hx=>?_⟩
 obtain ⟨s, -,rfl⟩:=List.mem_map.1 (show x∈(z.spends.take 4).map (inP V z) from hx)
 show [aW6 z].length≤1000
 simp
theorem bBy {V:List En} {s:UInt8} {e:En} (h:aGs V s=some e):e∈V:=by
 unfold aGs at h
 split at h
 ·exact List.mem_of_getElem? h
 ·cases h
theorem bBp {V:List En} (hV:∀e∈V,dM e.1.i) (s:UInt8):dM (ptP V s).i:=by
 unfold ptP
 cases h:aGs V s with
 |some e=>exact hV e (bBy h)
 |none=>exact ⟨by show (0:Int)≤0;omega,by show (0:Int)<4294967296;omega⟩
theorem aUl {V:List En} (hV:∀e∈V,dM e.1.i) (z:PSm):∀p∈bA (bE V z),dM p.i:=by
 intro p hp
 obtain ⟨x,hx,rfl⟩:=List.mem_map.1 hp
 obtain ⟨s, -,rfl⟩:=List.mem_map.1 (show x∈(z.spends.take 4).map (inP V z) from hx)
 exact bBp hV s
theorem bOj {V:List En} {B:Int} (hB:0≤B) (hV:∀e∈V,0≤e.2.v∧e.2.v≤B) (s:UInt8):0≤zZ V s∧zZ V s≤B:=by
 unfold zZ
 cases h:aGs V s with
 |some e=>exact hV e (bBy h)
 |none=>exact ⟨Int.le_refl _,hB⟩
theorem aDo {V:List En} {B:Int} (hB:0≤B) (hV:∀e∈V,0≤e.2.v∧e.2.v≤B):∀(l:List UInt8),0≤(l.map (zZ V)).sum∧(l.map (zZ V)).sum≤B*l.length
 | []=>by simp
 |s::l=>by
  have h1:=bOj hB hV s
  have h2:=aDo hB hV l
  rw [List.map_cons,List.sum_cons,List.length_cons]
  have e:B*((l.length+1:Nat):Int)=B*(l.length:Nat)+B:=by push_cast;rw [Int.mul_add,Int.mul_one]
  rw [e];omega
theorem bN4 {V:List En} {B:Int} (hB:0≤B) (hV:∀e∈V,0≤e.2.v∧e.2.v≤B) (z:PSm):0≤aW5 V z∧aW5 V z≤4*B:=by
 have h:=aDo hB hV (z.spends.take 4)
 have h2:(z.spends.take 4).length≤4:=by rw [List.length_take];omega
 refine ⟨h.1,Int.le_trans h.2 ?_⟩
 rw [Int.mul_comm 4 B]
 exact Int.mul_le_mul_of_nonneg_left (by omega) hB
theorem aHh {left:Int} {k:Nat} (hk:0<k) (hl: -100000≤left) {C:Int} (hC:left≤C) (h0:0≤C):0≤aE0 left k∧aE0 left k≤C∧ -100000≤left - aE0 left k∧left - aE0 left k≤C:=by
 unfold aE0
 by_cases hn:0≤left
 ·obtain ⟨n,rfl⟩:=Int.eq_ofNat_of_zero_le hn
  have e:((n:Nat):Int).tdiv (k:Nat)=((n / k:Nat):Int):=by
   rw [Int.tdiv_eq_ediv_of_nonneg (by omega)];rfl
  have:=Nat.div_le_self n k
  rw [e]
  generalize n / k=q at this ⊢
  rw [if_neg (by omega)];omega
 ·have e:left.tdiv (k:Nat)≤0:=by
   obtain ⟨n,hn2⟩:=Int.eq_ofNat_of_zero_le (show 0≤ -left by omega)
   have:left= -((n:Nat):Int):=by omega
   rw [this,Int.neg_tdiv,Int.tdiv_eq_ediv_of_nonneg (by omega)]
   have:(0:Int)≤((n:Nat):Int) / ((k:Nat):Int):=Int.ediv_nonneg (by omega) (by omega)
   omega
  split<;>omega
structure CoinsOk (V:List En) (n:Nat):Prop where
 srt:Srt V
 len:V.length≤n
 each:∀e∈V,e.1.s.size=32∧e.1.i=0∧0≤e.2.v∧e.2.v≤655350∧e.2.s=bQa∧e.2.h=1
theorem bC9 {V:List En} {c:Int} (h:∀e∈V,e.2.v≤c):tot V≤c*(V.length:Nat):=by
 induction V with
 |nil=>simp
 |cons e V ih=>
  have h1:=ih (fun d hd=>h d (by simp [hd]))
  have h2:=h e (by simp)
  rw [yY,List.length_cons]
  have e1:c*((V.length+1:Nat):Int)=c*(V.length:Nat)+c:=by push_cast;rw [Int.mul_add,Int.mul_one]
  rw [e1];omega
theorem CoinsOk.tot {V:List En} {n:Nat} (h:CoinsOk V n) (hn:n≤1000):0≤tot V∧tot V≤655350*(n:Nat):=by
 have h1:=bC9 (V:=V) (c:=655350) (fun e he=>(h.each e he).2.2.2.1)
 have h2:=h.len
 exact ⟨Mon.pos fun e he=>(h.each e he).2.2.1,by omega⟩
theorem CoinsOk.mon {V:List En} {n:Nat} (h:CoinsOk V n) (hn:n≤1000):Mon V:=⟨fun e he=>(h.each e he).2.2.1,by have:=(h.tot hn).2;omega⟩
theorem CoinsOk.nodup {V:List En} {n:Nat} (h:CoinsOk V n):(V.map (·.1)).Nodup:=pE h.srt
theorem rY {vals:List Int} (hv:∀a∈vals,0≤a∧a≤65535):∀n,CoinsOk (gL vals n) n
 |0=>⟨List.Pairwise.nil,Nat.le_refl _,fun e he=>by cases he⟩
 |n+1=>by
  have h:=rY hv n
  obtain ⟨h1,h2,h3⟩:=aFb (List.Perm.refl (gL vals n)) h.srt ⟨idN (300+n),0⟩ (bBe (vals.getD n 0))
  have hd:0≤vals.getD n 0∧vals.getD n 0≤65535:=by
   rw [List.getD_eq_getElem?_getD]
   cases hg:vals[n]? with
   |none=>exact ⟨Int.le_refl _,by decide⟩
   |some a=>exact hv a (List.mem_of_getElem? hg)
  refine ⟨h2,nTr h3 (by have:=h.len;omega),fun e he=>?_⟩
  have he':=h1.symm.subset he
  unfold vQ at he'
  have old:=h.each e
  split at he'
  ·rcases List.mem_append.1 he' with h5|h5
   ·exact old h5
   ·simp only [List.mem_singleton] at h5
    subst h5
    exact ⟨bJz _,rfl,by show 0≤10*_;omega,by show 10*_≤_;omega,rfl,rfl⟩
  ·exact old he'
theorem aYm {V:List En} {n:Nat} (h:CoinsOk V n) (hn:n≤1000) {i:Nat} (hi:i<V.length):gK (V.take i) V[i].1 V[i].2=0∧vQ (V.take i) V[i].1 V[i].2=V.take (i+1):=by
 obtain ⟨e1,e2,e3,e4,e5,e6⟩:=h.each _ (gMe hi)
 have hf:dR V[i].1 V[i].2=true:=by
  unfold dR
  rw [e1,e6,(bN _).2 ⟨e3,by omega⟩];rfl
 have hnone:aL (V.take i) V[i].1=none:=by
  cases hg:aL (V.take i) V[i].1 with
  |none=>rfl
  |some c=>
   exfalso
   have hm:=lF hg
   obtain ⟨j,hj,e⟩:=List.getElem_of_mem hm
   rw [List.length_take] at hj
   rw [List.getElem_take] at e
   have hd:=List.pairwise_iff_getElem.1 h.nodup j i (by simp;omega) (by simpa using hi) (by omega)
   simp only [List.getElem_map] at hd
   exact hd (by rw [e])
 have ht:=lT (h.mon hn) (i+1)
 have ht0:=lT (h.mon hn) i
 have he:=bAb hi
 have hT:=(h.mon hn).2
 have hz:gK (V.take i) V[i].1 V[i].2=0:=by
  unfold gK
  rw [hf,hnone,if_pos rfl,if_neg (by simp),if_pos ((bN _).2 (by omega))]
 refine ⟨hz,?_⟩
 unfold vQ
 rw [if_pos hz,List.take_succ_eq_append_getElem hi]
end
end Go.K
namespace Go.Proofs.YtgloknkcfchnlaaGreat
section
open Go Go.K Go.ChangeShapes Go.WideShapes Go.ChangeAt Go.RowKit
set_option maxRecDepth 100000
theorem own:ownKnob Tryz.prog.godebug=none:=by kernel_rfl
theorem laidOut:laidOutB Tryz.prog=true:=by kernel_rfl
theorem bPq:Tryz.prog.cellsOf 5=1:=by kernel_rfl
theorem bSy:Tryz.prog.cellsOf 24=1:=by kernel_rfl
theorem bM0:Tryz.prog.cellsOf 9=1:=by kernel_rfl
theorem bL2:Tryz.prog.cellsOf 38=1:=by kernel_rfl
theorem bC8:Tryz.prog.cellsOf 4=1:=by kernel_rfl
theorem bOl:Tryz.prog.cellsOf 26=2:=by kernel_rfl
theorem bP3:Tryz.prog.cellsOf 37=1:=by kernel_rfl
theorem jA {W:World} {c:List Value} (h:Reads Tryz.prog W 5 c):∃b:UInt8,c= [u8V b]:=by
 obtain ⟨n,e,h1,h2⟩:=aMb Tryz.underlying5 h
 have h1:0≤n:=h1
 have h2:n≤255:=h2
 refine ⟨UInt8.ofNat n.toNat,?_⟩
 have:(UInt8.ofNat n.toNat).toNat=n.toNat:=by rw [UInt8.toNat_ofNat'];omega
 unfold u8V
 rw [e,this]
 congr 2;omega
theorem bIz {W:World} {c:List Value} (h:Reads Tryz.prog W 24 c):∃n:Int,c= [.int .u32 n]∧dM n:=by
 obtain ⟨n,e,h1,h2⟩:=aMb Tryz.underlying24 h
 have h1:0≤n:=h1
 have h2:n≤4294967295:=h2
 exact ⟨n,e,by unfold dM;omega⟩
theorem aMw {W:World} {c:List Value} (h:Reads Tryz.prog W 26 c):∃p:Pt,c=p.cs∧dM p.i:=by
 obtain ⟨h1,h2⟩:=qR Tryz.underlying26 h
 have l:c.length=2:=h1.trans bOl
 match c,l with
 | [c0,c1],_=>
  have g0:=h2 _ (List.mem_of_getElem? (i:=0) rfl)
  have g1:=h2 _ (List.mem_of_getElem? (i:=1) rfl)
  obtain ⟨s,e0,_⟩:=aVq Tryz.underlying9 g0
  obtain ⟨i,e1,hi⟩:=bIz g1
  simp only [bM0,bSy,List.drop_zero,List.drop_succ_cons,List.take_succ_cons,List.take_zero,List.cons.injEq,and_true] at e0 e1
  exact ⟨⟨s,i⟩,by rw [e0,e1];rfl,hi⟩
theorem rJ {W:World} {c:List Value} (h:Reads Tryz.prog W 38 c):∃n:Int,c= [.int .u16 n]∧0≤n∧n≤65535:=by
 obtain ⟨n,e,h1,h2⟩:=aMb Tryz.underlying38 h
 exact ⟨n,e,h1,h2⟩
theorem aLe {W:World} {c:List Value} (h:Reads Tryz.prog W 40 c):∃z:PSm,jK.rel [] W c z:=by
 obtain ⟨h1,h2⟩:=qR Tryz.underlying40 h
 have l:c.length=7:=h1.trans (by kernel_rfl)
 match c,l with
 | [c0,c1,c2,c3,c4,c5,c6],_=>
  have g0:=h2 _ (List.mem_of_getElem? (i:=0) rfl)
  have g1:=h2 _ (List.mem_of_getElem? (i:=1) rfl)
  have g2:=h2 _ (List.mem_of_getElem? (i:=2) rfl)
  have g3:=h2 _ (List.mem_of_getElem? (i:=3) rfl)
  have g4:=h2 _ (List.mem_of_getElem? (i:=4) rfl)
  have g5:=h2 _ (List.mem_of_getElem? (i:=5) rfl)
  have g6:=h2 _ (List.mem_of_getElem? (i:=6) rfl)
  simp only [bP3,List.drop_zero,List.drop_succ_cons,List.take_succ_cons,List.take_zero] at g0
  obtain ⟨frm,hf,hfl⟩:=rV u8R Tryz.underlying37 (by kernel_rfl) (fun c hc=>by
   obtain ⟨b,e⟩:=jA hc
   exact ⟨b,by subst e;rfl⟩) g0
  obtain ⟨b1,e1⟩:=jA g1
  obtain ⟨f,e2,hf1,hf2⟩:=rJ g2
  obtain ⟨b3,e3⟩:=jA g3
  obtain ⟨b4,e4⟩:=jA g4
  obtain ⟨o,e5⟩:=aCn Tryz.underlying4 g5
  obtain ⟨b6,e6⟩:=jA g6
  simp only [bPq,bL2,bC8,List.drop_zero,List.drop_succ_cons,List.take_succ_cons,List.take_zero,List.cons.injEq,and_true] at e1 e2 e3 e4 e5 e6
  exact ⟨⟨frm,b1,f,b3,b4,o,b6⟩,c0,by rw [e1,e2,e3,e4,e5,e6];rfl,hf,hf1,hf2⟩
theorem aIa {W:World} {v:Value} (h:Reads Tryz.prog W 23 [v]):∃l,SlR jK [] W v l∧l.length≤maxLen:=
 rV jK Tryz.underlying23 (by kernel_rfl) (fun _ h=>aLe h) h
theorem aB2 {W:World} {v:Value} (h:Reads Tryz.prog W 22 [v]):∃l,SlR aLx [] W v l∧l.length≤maxLen:=
 rV aLx Tryz.underlying22 (by kernel_rfl) (fun c hc=>by
  obtain ⟨n,e,h1,h2⟩:=rJ hc
  exact ⟨n,by subst e;exact ⟨rfl,h1,h2⟩⟩) h
theorem bC2 {W:World} {base:Nat} {v:Value} (h:Value.okWide Tryz.prog W .any base 79 v):∃c0 c1,v=.agg #[c0,c1]:=by
 simp only [Value.okWide,Tryz.underlying79] at h
 obtain ⟨cs,h1,h2,_⟩:=h
 have h2:cs.size=2:=h2.trans (by kernel_rfl)
 obtain ⟨l⟩:=cs
 match l,h2 with
 | [c0,c1],_=>exact ⟨c0,c1,h1⟩
theorem bI6 {W:World} {c0 c1:Value} (h:Reads Tryz.prog W 79 [c0,c1]):∃y0 y1:Int,c0=.int .u16 y0∧c1=.int .u16 y1∧(0≤y0∧y0≤65535)∧0≤y1∧y1≤65535:=by
 obtain ⟨H,enc,base,spare,held,fuel,x,hf⟩:=h
 cases fuel with
 |zero=>simp [DataW.trod] at hf
 |succ n=>
  rw [DataW.trod_step] at hf
  unfold DataW.trodStep at hf
  simp only [Tryz.underlying79] at hf
  rw [if_pos (show ([c0,c1]:List Value).length=Tryz.prog.cellsOf 79 by kernel_rfl)] at hf
  simp only [Option.map_eq_some_iff] at hf
  obtain ⟨xs,hx,e1⟩:=hf
  rw [show List.range 2= [0,1] from rfl,List.mapM_cons,List.mapM_cons,List.mapM_nil] at hx
  simp only [bind,Option.bind_eq_some_iff,pure,Option.some.injEq,bL2] at hx
  obtain ⟨y0,h0,_,⟨y1,h1,_,rfl,rfl⟩,rfl⟩:=hx
  obtain ⟨a,ea,ha⟩:=rJ (W:=W) (c:= [c0]) ⟨H,enc,base,spare,held,n,y0,h0⟩
  obtain ⟨b,eb,hb⟩:=rJ (W:=W) (c:= [c1]) ⟨H,enc,base,spare,held,n,y1,h1⟩
  simp only [List.cons.injEq,and_true] at ea eb
  exact ⟨a,b,ea,eb,ha,hb⟩
theorem aO2 {M:List Nat} {w:World} {v:Value} {l:List Int} (h:SlR aLx M w v l):∀a∈l,0≤a∧a≤65535:=by
 obtain ⟨css,h1,h2,h3⟩:=h
 intro a ha
 obtain ⟨i,hi,rfl⟩:=List.getElem_of_mem ha
 exact (h2.get i (by rw [h2.length];exact hi) hi).2
end
end Go.Proofs.YtgloknkcfchnlaaGreat
namespace Go.K
section
open Go Go.Proofs.YtgloknkcfchnlaaGreat
abbrev zW0:PSm:=⟨[0],1,0,0,0,false,0⟩
abbrev zW1:PSm:=⟨[0],1,500,0,0,false,0⟩
def bQ:List En:=gL [500] 1
theorem aVk:gL [500] (min [(500:Int)].length 8)=bQ:=rfl
theorem wk0:dU (aL bQ) [] (bE bQ zW0) 5 0=(11, -1):=by kernel_rfl
theorem wk1:dU (aL bQ) [] (bE bQ zW1) 5 0=(0, -1):=by kernel_rfl
theorem wkf:(aV (aL bQ) [] (bE bQ zW1) 5).1=500:=by kernel_rfl
theorem bR6:cG (aL bQ) [] (bE bQ zW1) 5 0= []∧cN (aL bQ) [] (bE bQ zW1) 5 0= [mK (bE bQ zW1) 500]:=by
 obtain ⟨h1, -,h3⟩:=aCf (l:= []) List.nodup_nil (show (dU (aL bQ) [] (bE bQ zW1) 5 0).1=0 by rw [wk1])
 rw [wkf] at h3
 exact ⟨h1,h3⟩
theorem bSg:cG (aL bQ) [] (bE bQ zW0) 5 0= []∧cN (aL bQ) [] (bE bQ zW0) 5 0= []:=
 uG (by rw [wk0];show ¬(11:Int)=0;decide)
theorem gR:CoinsOk bQ 1:=rY (vals:= [500]) (by intro a ha;simp at ha;subst ha;decide) 1
theorem aLa {V:List En} {h:Int}:∀{l:List Ent},(∀x∈l,x.tx.outs.length≤1000)→(l.flatMap (qQ V h)).length≤1000*l.length
 | [],_=>by simp
 |x::l,hE=>by
  have h1:=aLa (V:=V) (h:=h) (l:=l) (fun y hy=>hE y (by simp [hy]))
  have h2:=hE x (by simp)
  have h3:(qQ V h x).length≤x.tx.outs.length:=by
   unfold qQ aD6
   exact nTr (List.length_filter_le _ _) (by simp)
  rw [List.flatMap_cons,List.length_append,List.length_cons]
  omega
theorem lG {x:Ent} (h:EntOk x):x.tx.outs.length≤1000:=(lE h.check).outs
theorem aB6 {V:List En} {l:List Ent} {n:Nat} {h B:Int} (hc:CoinsOk V n) (hn:n≤1000) (hE:∀x∈l,EntOk x) (hl:l.length≤1000) (hM:Money V l h B):(∀e∈cX V l h,0≤e.2.v∧e.2.v≤B)∧(∀e∈cX V l h,dM e.1.i)∧(cX V l h).length≤1100000:=by
 have hp:=aL1 (m:=V) (fun e he=>(hc.each e he).2.2.1) hE h
 refine ⟨fun e he=>⟨hp e he,?_⟩,fun e he=>?_,?_⟩
 ·exact Int.le_trans (Mon.le hp e he) hM.all
 ·rcases uR.1 he with h5|⟨x,hx,j,hj,rfl, -⟩
  ·rw [(hc.each e h5).2.1];unfold dM;omega
  ·have:=lG (hE x hx)
   show dM ((j:Nat):Int)
   unfold dM;omega
 ·have h1:=hc.len
  have h2:=aLa (V:=V) (h:=h) (fun x hx=>lG (hE x hx))
  unfold cX
  rw [List.length_append];omega
def nS (i:Nat):Int:=((2^i*5242800:Nat):Int)
theorem aT0 (i:Nat):2*nS i=nS (i+1):=by
 unfold nS
 rw [Nat.pow_succ]
 generalize 2^i=q
 omega
theorem wT {i:Nat} (h:i≤17):0≤nS i∧nS i≤1000000000000:=by
 unfold nS
 have h1:2^i≤2^17:=Nat.pow_le_pow_right (by decide) h
 generalize 2^i=q at h1 ⊢
 omega
theorem aVz {V:List En} (hc:CoinsOk V 8) (h:Int):Money V [] h (nS 0):=by
 refine Money.nil ?_
 have h1:=(hc.tot (by decide)).2
 show tot V≤((2^0*5242800:Nat):Int)
 omega
theorem CoinsOk.more {V:List En} {n m:Nat} (h:CoinsOk V n) (hm:n≤m):CoinsOk V m:=⟨h.srt,nTr h.len hm,h.each⟩
theorem Money.step {V:List En} {l:List Ent} {t:Tx} {z:PSm} {h rate:Int} {i:Nat} (hM:Money V l h (nS i)) (hc:CoinsOk V 8) (hn:(l.map (·.id)).Nodup) (hE:∀x∈l,EntOk x) (hl:l.length≤1000) (ht:t=bE (cX V l h) z):Money V (cN (aL V) l t h rate) h (nS (i+1)):=by
 rw [←aT0]
 refine hM.acc hc.nodup (fun e he=>(hc.each e he).2.2.1) hn hE fun p hp=>?_
 subst ht
 exact (aUl (aB6 hc (by decide) hE hl hM).2.1 z p hp).1
end
end Go.K
