/- Contracts: a pool, by the program. Contracts: what a pool ac -/
import Derived.Test.YteceapipdhnhdaaGreatDoorNa33
import Derived.Test.YteceapipdhnhdaaGreatDoorNa34
set_option linter.unusedVariables false
set_option linter.unusedSimpArgs false
namespace Go.Proofs.YteceapipdhnhdaaGreatDoor
section
open Go Go.K
attribute [local irreducible] aH aM aY KOp.wp K.Spec u32 leS vnS str aP cM bK idT aQ aG aN idN bG cL cB bQ cF fM dC bV aO kZ fL wF qP bP evL inS inB mT iI lI jR jO uE nH fB iN gJ pD cA bS
abbrev aEx (v:Value) (h rate:Int):Value:=.agg #[v,.int .i64 h,.int .i64 rate]
section
variable {f:Pt→Option Cn} {l:List Ent} {t:Tx} {h:Int}
theorem aR3 (hc:aG t≠0):aU f l t h=(0,aG t, -1):=by unfold aU;rw [if_pos hc]
theorem aL8 (hc:aG t=0) (hh:iM l (idT t)=true):aU f l t h=(0,7, -1):=by unfold aU;rw [if_neg (by simpa using hc),if_pos hh]
theorem aSp (hc:aG t=0) (hh:iM l (idT t)=false) (hf:(gJ (mF f l h) t h).2.1≠0):aU f l t h=(0,(gJ (mF f l h) t h).2):=by
 unfold aU;rw [if_neg (by simpa using hc),if_neg (by rw [hh];simp),if_pos hf]
theorem aYm (hc:aG t=0) (hh:iM l (idT t)=false) (hf:(gJ (mF f l h) t h).2.1=0):aU f l t h=if 0≤pD t then (0,13,pD t) else ((gJ (mF f l h) t h).1,0, -1):=by
 unfold aU;rw [if_neg (by simpa using hc),if_neg (by rw [hh];simp),if_neg (by simpa using hf)]
end
set_option maxHeartbeats 4000000 in
theorem aFk {g:Nat} {M N:List Nat} {l:List Ent} {cs:List Value} {t:Tx} {v:Value} {f:Pt→Option Cn} (h rate:Int) (w:World) (hG:GrR w g M l) (hM:∀b∈M,b<w.heap.size) (hV:gV w v f) (ht:txR.rel N w cs t) (hs:t.Sm):
  K.Spec Tryz.prog F.pool_Plain [.pointer (some ⟨g,0,none⟩),.agg cs.toArray,aEx v h rate] w fun r w'=>∃e,r=.tuple #[.int .i64 (aU f l t h).1,e]∧dD w' 1 e (aU f l t h).2.1 (aU f l t h).2.2∧Ext w w':=by
 have ht0:=ht
 obtain ⟨iv,ov,rfl,hi,ho,hv⟩:=ht
 obtain ⟨vt,vu,rfl⟩:∃vt vu,v=.iface vt vu:=by obtain ⟨⟨a,b,e,_⟩,_⟩:=hV;exact ⟨a,b,e⟩
 refine aHc rfl ?_
 unfold aA2
 refine oy ?_
 by_cases hc:aG t=0
 ·have hq:∀y∈t.outs,y.s.size≤1000000:=fun y hy=>by have:=(cI hs hc).scr y hy;omega
  repeat (first|refine zD (d:=some 4) rfl rfl (fun bt wt xt bt' (rt:Row wt ⟨bt,0,none⟩ (aK t iv ov)) hbt0=>?_)|refine zD (d:=some 5) (cs:= [.iface vt vu,.int .i64 h,.int .i64 rate]) rfl rfl (fun bs ws xs bs' (rs:Row ws ⟨bs,0,none⟩ [.iface vt vu,.int .i64 h,.int .i64 rate]) hbs0=>?_)|(refine zC (d:=some 26) rfl (vK (M:=N) _ (cs:=aK t iv ov) (R.ext ht0 (by exact fx)) hs) ?_;rintro _ w5 ⟨rfl,x5⟩;rw [idV,if_pos hc])|(refine zC (d:=some 36) rfl (nS (M:=M) (l:=l) (idT t) _ (hG.ext (by exact fx)) (fun b hb=>nLt (hM b hb) (Ext.size (by exact fx)))) ?_;rintro _ w6 ⟨ds,rfl,⟨iv6,ov6,rfl,o1,o2,o3⟩,x6⟩;have e1:=o1.one;have e2:=o2.one)|(refine zE (d':=10) (fun _=>rfl) rfl rfl (by show (bE (dI l (idT t)) iv6 ov6).all _=true;simp [bE,e1,e2];exact ⟨rfl,rfl,rfl,rfl,rfl⟩) (fun b7 w7 x7 a7 (r7:Row w7 ⟨b7,0,none⟩ (bE (dI l (idT t)) iv6 ov6)) hb7=>?_))|(first|refine go2 ?_|fail))
  have rt7:Row w7 ⟨bt,0,none⟩ (aK t iv ov):=rt.ext (by exact fx)
  have rs7:Row w7 ⟨bs,0,none⟩ [.iface vt vu,.int .i64 h,.int .i64 rate]:=rs.ext (by exact fx)
  have x07:Ext w w7:=by exact fx
  have G7:=hG.ext x07
  have hM7:∀b∈M,b<w7.heap.size:=fun b hb=>nLt (hM b hb) x07.size
  have V7:=hV.ext x07
  have t7:=R.ext ht0 x07
  have x70:Unit→Ext w w7:=fun _=>x07
  clear x07 o1 o2 o3 r7 x7 x6 x5 xs xt rt rs
  cases hh:iM l (idT t) with
  |true=>
   rw [aL8 hc hh]
   repeat' (first|(first|refine go2 ?_|fail))
   exact aA rfl ⟨_,rfl,dD.num _ _ (by decide),Ext.trans (x70 ()) (by exact fx)⟩
  |false=>
   have step:∀w8,Ext w7 w8→K.Spec Tryz.prog F.check_Fee [bE1 (.iface vt vu) (.pointer (some ⟨g,0,none⟩)) h,.agg (aK t iv ov).toArray,.int .i64 h] w8 fun r w'=>∃e,r=.tuple #[.int .i64 (gJ (mF f l h) t h).1,e]∧dD w' 1 e (gJ (mF f l h) t h).2.1 (gJ (mF f l h) t h).2.2∧Ext w8 w':=fun w8 x8=>
    aWy (M:=N) h w8 (bGw h (V7.ext x8) (G7.ext x8) (fun b hb=>nLt (hM7 b hb) x8.size)) (R.ext t7 x8) hs
   repeat' (first|refine zg (fun w8 x8=>?_)|refine fG ?_ ?_|(refine zC (d:=some 47) rfl (bA2 vt vu (some ⟨g,0,none⟩) h _) ?_;rintro _ w9 ⟨rfl,x9⟩)|refine dN (b:=.cons ⟨some 51,_,_⟩ _) (fun (_:Unit) w'=>Ext w7 w') (fun _=> [(4,.pointer (some ⟨bt,0,none⟩)),(47,bE1 (.iface vt vu) (.pointer (some ⟨g,0,none⟩)) h),(48,.agg (aK t iv ov).toArray),(50,.int .i64 h)]) ?_ ?_|(rintro _ ρ7 w10 x10;try dsimp only)|(exact ⟨(),⟨rfl,rfl,rfl,rfl,trivial⟩,by exact fx⟩)|(first|refine go2 ?_|fail))
   refine zC (d:=some 51) rfl (step _ x10) ?_
   rintro _ w11 ⟨e,rfl,he,x11⟩
   obtain ⟨hn1,hn2⟩:=he.nil_iff
   clear x8
   by_cases hf:(gJ (mF f l h) t h).2.1=0
   ·obtain ⟨rfl,hp⟩:=hn1 hf
    rw [aYm hc hh hf]
    by_cases hd:0≤pD t
    ·rw [if_pos hd]
     repeat' (first|(refine zC (d:=some 59) rfl (aN6 (M:=N) (t:=t) (cs:=aK t iv ov) _ (R.ext t7 (by exact fx)) hs hq) ?_;rintro _ w12 ⟨rfl,x12⟩;rw [Int.max_eq_left hd])|refine zL (x:=.tmp 62) (p:=pD t≥0) rfl (fun _=>?_) (fun q=>absurd hd q)|refine aZ (d:=some 65) (cs:= [.int .i64 (pD t),qO 13]) rfl ?_|refine zD (d:=some 66) (cs:= [.int .i64 (pD t),qO 13]) rfl rfl (fun b13 w13 x13 a13 r13 hb13=>?_)|(first|refine go2 ?_|fail))
     exact aA rfl ⟨_,rfl,.inr ⟨(show (13:Int)≠0 by decide),hd,b13,_, -1,rfl,a13,dD.num _ _ (by decide)⟩,Ext.trans (x70 ()) (by exact fx)⟩
    ·rw [if_neg hd]
     repeat' (first|(refine zC (d:=some 59) rfl (aN6 (M:=N) (t:=t) (cs:=aK t iv ov) _ (R.ext t7 (by exact fx)) hs hq) ?_;rintro _ w12 ⟨rfl,x12⟩)|refine zL (x:=.tmp 62) (p:=pD t≥0) rfl (fun q=>absurd q hd) (fun _=>?_)|(first|refine go2 ?_|fail))
     exact aA rfl ⟨_,rfl,dD.none_ _ _,Ext.trans (x70 ()) (by exact fx)⟩
   ·obtain ⟨et,eu,rfl⟩:=hn2 hf
    rw [aSp hc hh hf]
    repeat' (first|(first|refine go2 ?_|fail))
    exact aA rfl ⟨_,rfl,he.ext (by exact fx),Ext.trans (x70 ()) (by exact fx)⟩
 ·rw [aR3 hc]
  repeat' (first|refine zD (d:=some 4) rfl rfl (fun bt wt xt bt' (rt:Row wt ⟨bt,0,none⟩ (aK t iv ov)) hbt0=>?_)|refine zD (d:=some 5) (cs:= [.iface vt vu,.int .i64 h,.int .i64 rate]) rfl rfl (fun bs ws xs bs' (rs:Row ws ⟨bs,0,none⟩ [.iface vt vu,.int .i64 h,.int .i64 rate]) hbs0=>?_)|(refine zC (d:=some 26) rfl (vK (M:=N) _ (cs:=aK t iv ov) (R.ext ht0 (by exact fx)) hs) ?_;rintro _ w5 ⟨rfl,x5⟩;rw [idV,if_neg hc])|refine zN (p:=aG t=0) rfl (fun _=>?_) (fun h=>absurd h hc)|(first|refine go2 ?_|fail))
  exact aA rfl ⟨_,rfl,dD.num _ _ hc,by exact fx⟩
end
section
open Go Go.K
attribute [local irreducible] aH aM aY KOp.wp K.Spec u32 leS vnS str aP cM bK idT aQ aG aN idN bG cL cB bQ cF fM dC bV aO kZ fL wF qP bP evL inS inB mT iI lI jR jO uE nH fB iN gJ pD cA bS aU bN
theorem bBk (v:Value) (hv:v.oneCell'=true) (h rate:Int) (size:Nat) (hs:size≤1000000) (w:World):K.Spec Tryz.prog F.pool_Terms_asked [aEx v h rate,.int .i64 (size:Nat)] w fun r w'=>r=.int .i64 (pU rate size)∧Ext w w':=by
 obtain ⟨R,hR⟩:∃R:Nat,min (max rate 1000) 100000000=(R:Int):=⟨(min (max rate 1000) 100000000).toNat,by omega⟩
 have hR2:R≤100000000:=by omega
 have e:pU rate size=(((R*size+999) / 1000:Nat):Int):=by unfold pU;rw [hR];rfl
 rw [e]
 refine aF8 rfl ?_
 unfold tI
 refine oy ?_
 repeat' (first|refine zD (d:=some 2) (cs:= [v,.int .i64 h,.int .i64 rate]) rfl rfl (fun bs ws xs bs' (rs:Row ws ⟨bs,0,none⟩ [v,.int .i64 h,.int .i64 rate]) hbs0=>?_)|refine aJ5 (d:=some 10) (a:=rate) (b:=1000) rfl rfl ?_|(refine bLd (d:=some 11) (a:=max rate 1000) (b:=100000000) rfl rfl ?_;rw [hR])|(refine zC (d:=some 13) rfl (aKn R size hR2 hs _) ?_;rintro _ w3 ⟨rfl,x3⟩)|(first|refine go2 ?_|fail))
 exact aA rfl ⟨rfl,by exact fx⟩
set_option maxHeartbeats 1000000 in
theorem aWc {g:Nat} {M:List Nat} {l:List Ent} {v:Value} {ids:List ByteArray} (w:World) (hG:GrR w g M l) (hM:∀b∈M,b<w.heap.size) (hn:l.length≤1000) (hi:SlE bB w v ids) (hl:ids.length≤1000):K.Spec Tryz.prog F.pool_without [.pointer (some ⟨g,0,none⟩),v] w fun r w'=>
  ∃g' M',r=.pointer (some ⟨g',0,none⟩)∧Gr w' w.heap.size g' M' (bN l ids)∧Ext w w':=by
 have d0:bN l (ids.take 0)=l:=by unfold bN;rfl
 refine aNm rfl ?_
 unfold aB1
 refine oy ?_
 repeat (first|(refine zC (d:=some 9) rfl (bCc (M:=M) (l:=l) _ hG hM hn) ?_;rintro _ w1 ⟨g1,M1,rfl,G1,x1⟩)|refine bL (d:=some 11) (E:=bB) (l:=ids) rfl (SlE.ext (w:=w) (by exact fx) hi) ?_|(refine aJ (fun (p:Nat × List Nat) w'=>Ext w w'∧p.1≤ids.length∧Gr w' w.heap.size g1 p.2 (bN l (ids.take p.1))∧(bN l (ids.take p.1)).length≤1000) (fun p=> [(5,.pointer (some ⟨g1,0,none⟩)),(10,v),(11,.int .i64 (ids.length:Nat)),(12,.int .i64 (p.1:Nat))]) (fun p=>ids.length - p.1) (0,M1) ⟨rfl,rfl,rfl,rfl,trivial⟩ ⟨x1,by simp,by rw [d0];exact G1,by rw [d0];exact hn⟩ ?_;rintro ⟨i,Mi⟩ ρ w3 ⟨x3,hil,hg,hlen⟩;simp only at hil hg hlen;dsimp only)|(first|refine go2 ?_|fail))
 refine zL (p:=((i:Nat):Int)<((ids.length:Nat):Int)) rfl (fun h=>?_) (fun h=>?_)
 ·have hii:i<ids.length:=by omega
  repeat' (first|(refine aT (d:=some 14) (E:=bB) rfl rfl (n:=i) (l:=ids) (hi.ext x3) rfl hii (fun ad r5=>?_);have r5:Row w3 ad [Value.string ids[i]]:=r5)|(refine zC (d:=some 18) rfl (bCu (l:=bN l (ids.take i)) ids[i] _ hg hlen) ?_;rintro _ w4 ⟨M4,rfl,g4,c4,m4⟩)|(first|refine go2 ?_|fail))
  have hb:=Gr.base hg
  refine ⟨(i+1,M4),⟨rfl,rfl,rfl,rfl,trivial⟩,⟨(x3.chg c4).mono (fun b hb2=>.inr (hb b hb2)),hii,by show Gr w4 w.heap.size g1 M4 (bN l (ids.take (i+1)));rw [rZ hii];exact g4,?_⟩,by show ids.length - (i+1)<ids.length - i;omega⟩
  show (bN l (ids.take (i+1))).length≤1000
  rw [rZ hii]
  exact nTr (by
   unfold cF
   split
   ·exact Nat.le_refl _
   ·exact List.length_eraseIdx_le ..) hlen
 ·repeat' (first|(first|refine go2 ?_|fail))
  rw [tLe (by omega)] at hg
  exact aA rfl ⟨g1,Mi,rfl,hg,x3⟩
end
section
open Go Go.K
section
attribute [local irreducible] aG aN inE gX nO values
theorem bLr {f:Pt→Option Cn} {t:Tx} {h:Int} (hc:aG t=0) (h0:(gJ f t h).2.1=0):aN t=false∧bT (gJ f t h).1=true:=by
 cases hg:aN t with
 |true=>rw [aJy hc hg] at h0;exact absurd h0 (show ¬(4:Int)=0 by decide)
 |false=>
  refine ⟨rfl,?_⟩
  by_cases hk:∀j,∀hj:j<t.ins.length,inE f t h t.ins[j]=0
  ·rw [aV5 hc hg hk] at h0 ⊢
   by_cases h1:nO (t.ins.map (inV f))=0
   ·rw [if_neg (show ¬nO (t.ins.map (inV f))≠0 from fun q=>q h1)] at h0 ⊢
    by_cases h2:gX (values t)>gX (t.ins.map (inV f))
    ·rw [if_pos h2] at h0;exact absurd h0 (show ¬(12:Int)=0 by decide)
    ·rw [if_neg h2]
     have g1:=(bR _).1 (sM h1)
     have g2:=(bR _).1 (sM (aKd hc))
     exact (bR _).2 (by show 0≤gX (t.ins.map (inV f)) - gX (values t)∧gX (t.ins.map (inV f)) - gX (values t)≤2100000000000000;omega)
   ·rw [if_pos (show nO (t.ins.map (inV f))≠0 from h1)] at h0;exact absurd h0 h1
  ·exfalso
   have:∃i,(t.ins.findIdx? fun x=>decide (inE f t h x≠0))=some i:=by
    cases hq:t.ins.findIdx? fun x=>decide (inE f t h x≠0) with
    |some i=>exact ⟨i,rfl⟩
    |none=>
     refine absurd (fun j hj=>?_) hk
     have:=List.findIdx?_eq_none_iff.1 hq _ (gMe hj)
     simpa using this
   obtain ⟨i,hi⟩:=this
   obtain ⟨h1,h2,h3⟩:=List.findIdx?_eq_some_iff_getElem.1 hi
   have he:inE f t h t.ins[i]≠0:=of_decide_eq_true h2
   rw [bB2 hc hg h1 (fun j hj hjl=>by have:=h3 j hj;simpa using this) he] at h0
   exact he h0
theorem pX {f:Pt→Option Cn} {l:List Ent} {t:Tx} {h:Int} (h0:(aU f l t h).2.1=0):aG t=0∧aN t=false∧iM l (idT t)=false∧bT (aU f l t h).1=true:=by
 by_cases hc:aG t=0
 ·cases hh:iM l (idT t) with
  |true=>rw [aL8 hc hh] at h0;exact absurd h0 (show ¬(7:Int)=0 by decide)
  |false=>
   by_cases hf:(gJ (mF f l h) t h).2.1=0
   ·obtain ⟨g1,g2⟩:=bLr hc hf
    refine ⟨hc,g1,rfl,?_⟩
    rw [aYm hc hh hf] at h0 ⊢
    by_cases hd:0≤pD t
    ·rw [if_pos hd] at h0;exact absurd h0 (show ¬(13:Int)=0 by decide)
    ·rw [if_neg hd];exact g2
   ·rw [aSp hc hh hf] at h0;exact absurd h0 hf
 ·rw [aR3 hc] at h0;exact absurd h0 hc
end
section
variable {f:Pt→Option Cn} {l:List Ent} {t:Tx} {h rate:Int}
theorem aTw (h0:(aU f l t h).2.1≠0):eX f l t h rate=(aU f l t h).2∧eV f l t h rate= []∧iS f l t h rate=l:=by
 have e:eX f l t h rate=(aU f l t h).2:=by unfold eX;rw [if_pos h0]
 refine ⟨e,?_,?_⟩
 ·unfold eV;rw [e,if_neg h0]
 ·unfold iS;rw [e,if_neg h0]
theorem aWa {c:Int} (hc:c≠0) (e:eX f l t h rate=(c, -1)):eV f l t h rate= []∧iS f l t h rate=l:=by
 refine ⟨?_,?_⟩
 ·unfold eV;rw [e,if_neg (show ¬c=0 from hc)]
 ·unfold iS;rw [e,if_neg (show ¬c=0 from hc)]
theorem bEo (h0:(aU f l t h).2.1=0) (h1:(aU f l t h).1<pU rate (aQ t)):eX f l t h rate=(11, -1):=by
 unfold eX;rw [if_neg (show ¬(aU f l t h).2.1≠0 from fun q=>q h0),if_pos h1]
theorem aR5 (h0:(aU f l t h).2.1=0) (h1:¬(aU f l t h).1<pU rate (aQ t)) (h2:fB l t (aU f l t h).1≠0):eX f l t h rate=(fB l t (aU f l t h).1, -1):=by
 unfold eX;rw [if_neg (show ¬(aU f l t h).2.1≠0 from fun q=>q h0),if_neg h1,if_pos h2]
theorem aZm (h0:(aU f l t h).2.1=0) (h1:¬(aU f l t h).1<pU rate (aQ t)) (h2:fB l t (aU f l t h).1=0) (h3:iN (tA l t) t≠0):eX f l t h rate=(iN (tA l t) t, -1):=by
 unfold eX;rw [if_neg (show ¬(aU f l t h).2.1≠0 from fun q=>q h0),if_neg h1,if_neg (show ¬fB l t (aU f l t h).1≠0 from fun q=>q h2),if_pos h3]
theorem bJj (h0:(aU f l t h).2.1=0) (h1:¬(aU f l t h).1<pU rate (aQ t)) (h2:fB l t (aU f l t h).1=0) (h3:iN (tA l t) t=0):
  eX f l t h rate=(0, -1)∧eV f l t h rate=aO l (evL l t)∧iS f l t h rate=(fM (tA l t) t (aU f l t h).1).1:=by
 have e:eX f l t h rate=(0, -1):=by
  unfold eX
  rw [if_neg (show ¬(aU f l t h).2.1≠0 from fun q=>q h0),if_neg h1,if_neg (show ¬fB l t (aU f l t h).1≠0 from fun q=>q h2),if_neg (show ¬iN (tA l t) t≠0 from fun q=>q h3)]
 refine ⟨e,?_,?_⟩
 ·unfold eV;rw [e,if_pos rfl]
 ·unfold iS;rw [e,if_pos rfl]
end
theorem bIj (l:List Ent) (s:ByteArray):(cF l s).1.length≤l.length:=by
 unfold cF
 split
 ·exact Nat.le_refl _
 ·exact List.length_eraseIdx_le ..
theorem qJ:∀(ids:List ByteArray) (l:List Ent),(bN l ids).length≤l.length
 | [],l=>Nat.le_refl _
 |s::ids,l=>nTr (qJ ids (cF l s).1) (bIj l s)
end
end Go.Proofs.YteceapipdhnhdaaGreatDoor
namespace Go.K
section
open Go Go.Proofs.YteceapipdhnhdaaGreatDoor
section
variable {f:Pt→Option Cn} {l:List Ent} {t:Tx} {h rate:Int}
theorem bAk (h0:(eX f l t h rate).1=0):(aU f l t h).2.1=0∧pU rate (aQ t)≤(aU f l t h).1∧fB l t (aU f l t h).1=0∧iN (tA l t) t=0:=by
 by_cases h1:(aU f l t h).2.1=0
 ·by_cases h2:(aU f l t h).1<pU rate (aQ t)
  ·rw [bEo h1 h2] at h0;omega
  ·by_cases h3:fB l t (aU f l t h).1=0
   ·by_cases h4:iN (tA l t) t=0
    ·omega
    ·rw [aZm h1 h2 h3 h4] at h0;omega
   ·rw [aR5 h1 h2 h3] at h0;omega
 ·rw [(aTw h1).1] at h0;omega
theorem bNy (h0:(eX f l t h rate).1≠0):eV f l t h rate= []∧iS f l t h rate=l:=by
 unfold eV iS
 simp [*]
theorem aJb {f:Int} (h:(fM l t f).2=0):(fM l t f).1=l++ [⟨t,idT t,f,(aQ t:Nat)⟩]:=by
 unfold fM at h ⊢
 grind
abbrev aVy (t:Tx) (fee:Int):Ent:=⟨t,idT t,fee,(aQ t:Nat)⟩
theorem bE7 (hn:(l.map (·.id)).Nodup) (h0:(eX f l t h rate).1=0):eV f l t h rate=aO l (evL l t)∧tA l t=fA l (evL l t)∧iS f l t h rate=fA l (evL l t)++ [aVy t (aU f l t h).1]:=by
 obtain ⟨h1,h2,h3,h4⟩:=bAk h0
 obtain ⟨hc,hg,hh,hgd⟩:=pX h1
 obtain ⟨-,e2,e3⟩:=bJj (rate:=rate) h1 (by omega) h3 h4
 have er:tA l t=fA l (evL l t):=by unfold tA;exact zT _ _ hn
 refine ⟨e2,er,?_⟩
 rw [e3,er]
 obtain ⟨hi, -⟩:=aNw hc
 refine aJb ?_
 rcases bG5 (f:=(aU f l t h).1) hn hc hi hg hgd with h5|⟨-,h6, -⟩
 ·exact h5
 ·obtain ⟨x,hx,e⟩:=bD8.1 h6
  have:iM l (idT t)=true:=bD8.2 ⟨x,(qC _ _).subset hx,e⟩
  simp_all
theorem bL3 (hn:(l.map (·.id)).Nodup) (h0:(eX f l t h rate).1=0):(iS f l t h rate).length+(eV f l t h rate).length=l.length+1:=by
 grind [bE7,yY]
theorem bP4 (hn:(l.map (·.id)).Nodup):(iS f l t h rate).length≤l.length+1:=by
 by_cases h0:(eX f l t h rate).1=0
 ·have:=bL3 (f:=f) (h:=h) (rate:=rate) hn h0;omega
 ·rw [(bNy h0).2];omega
end
end
section
open Go Go.Proofs.YteceapipdhnhdaaGreatDoor
structure PSm where
 spends:List UInt8
 tag:UInt8
 fee:Int
 pays:UInt8
 mark:UInt8
 final:Bool
 wait:UInt8
instance:Inhabited PSm:=⟨⟨[],0,0,0,0,false,0⟩⟩
def aHp (z:PSm) (fv:Value):List Value:= [fv,u8V z.tag,.int .u16 z.fee,u8V z.pays,u8V z.mark,.bool z.final,u8V z.wait]
def bSf:R PSm where
 k:=7
 pos:=by decide
 ag:=true
 rel:=fun M w cs z=>∃fv,cs=aHp z fv∧SlR u8R M w fv z.spends∧0≤z.fee∧z.fee≤65535
 len:=fun ⟨_,h,_⟩=>by rw [h];rfl
 one:=fun ⟨fv,h,hs,_⟩ v hv=>by
  obtain ⟨b,c,rfl⟩:=hs.form
  subst h;simp [aHp] at hv;rcases hv with rfl|rfl|rfl|rfl|rfl|rfl|rfl<;>rfl
 step:=fun ⟨fv,h,hs,h2⟩ c hL hM=>⟨fv,h,hs.step c hL hM,h2⟩
def bC5:R Int where
 k:=1
 pos:=by decide
 ag:=false
 rel:=fun _ _ cs n=>cs= [.int .u16 n]∧0≤n∧n≤65535
 len:=fun ⟨h,_⟩=>by grind
 one:=fun ⟨h,_⟩ v hv=>by subst h;simp at hv;subst hv;rfl
 step:=fun h _ _ _=>h
def yH:ByteArray:=⟨#[1,1,0,0,0,0,0,0,0]⟩
def aE5 (V:List En) (s:UInt8):Option En:=if s.toNat<250∧0<V.length then V[s.toNat%V.length]? else none
def ptP (V:List En) (s:UInt8):Pt:=match aE5 V s with
 |some e=>e.1
 |none=>⟨idN s.toNat,0⟩
def xO (V:List En) (s:UInt8):Int:=match aE5 V s with
 |some e=>e.2.v
 |none=>0
def aMw (z:PSm):Int:=if 0<z.wait.toNat then ((z.wait.toNat%8:Nat):Int) else if z.final then 4294967294 else 4294967293
def aVo (z:PSm):ByteArray:=str [0,UInt8.ofNat (z.tag.toNat%3),0]
def inP (V:List En) (z:PSm) (s:UInt8):TIn:=⟨ptP V s,aMw z, [aVo z]⟩
def aM4 (z:PSm):ByteArray:=((⟨#[1,1,0]⟩:ByteArray)++str [UInt8.ofNat (z.pays.toNat / 64)])++(⟨#[0,0,0,0,0]⟩:ByteArray)
def aKq (left:Int) (k:Nat):Int:=if left.tdiv (k:Nat)<0 then 0 else left.tdiv (k:Nat)
def xF (s:ByteArray):Nat→Int→List TOut
 |0,_=> []
 |k+1,left=>⟨aKq left (k+1),s⟩::xF s k (left - aKq left (k+1))
def bC4 (V:List En) (z:PSm):Int:=((z.spends.take 4).map (xO V)).sum
def aBh (V:List En) (z:PSm):Tx:=⟨2,(z.spends.take 4).map (inP V z),xF (aM4 z) (1+z.pays.toNat%3) (bC4 V z - z.fee),((z.mark.toNat%3:Nat):Int)⟩
theorem aJm (s:ByteArray):∀(k:Nat) (left:Int),(xF s k left).length=k
 |0,_=>rfl
 |k+1,left=>by rw [xF,List.length_cons,aJm s k]
theorem bGs (V:List En) (z:PSm):(aBh V z).ins.length≤4:=by
 show ((z.spends.take 4).map (inP V z)).length≤4
 grind
theorem bA6 (V:List En) (z:PSm):1≤(aBh V z).outs.length∧(aBh V z).outs.length≤3:=by
 show 1≤(xF _ _ _).length∧(xF _ _ _).length≤3
 rw [aJm];omega
theorem aXw (V:List En) (z:PSm):(aBh V z).Sm:=by
 refine ⟨by grind [bGs],by grind [bA6],fun x hx=>?_⟩
 obtain ⟨s, -,rfl⟩:=List.mem_map.1 (show x∈(z.spends.take 4).map (inP V z) from hx)
 show [aVo z].length≤1000
 simp
theorem bAe {V:List En} {s:UInt8} {e:En} (h:aE5 V s=some e):e∈V:=by
 grind [aE5]
theorem bLm {V:List En} (hV:∀e∈V,fN e.1.i) (s:UInt8):fN (ptP V s).i:=by
 unfold ptP
 cases h:aE5 V s with
 |some e=>grind [bAe]
 |none=>exact ⟨by simp,by simp⟩
theorem bM1 {V:List En} {B:Int} (hB:0≤B) (hV:∀e∈V,0≤e.2.v∧e.2.v≤B) (s:UInt8):0≤xO V s∧xO V s≤B:=by
 unfold xO
 cases h:aE5 V s with
 |some e=>grind [bAe]
 |none=>simp [*]
theorem aLa {V:List En} {B:Int} (hB:0≤B) (hV:∀e∈V,0≤e.2.v∧e.2.v≤B):∀(l:List UInt8),0≤(l.map (xO V)).sum∧(l.map (xO V)).sum≤B*l.length
 | []=>by simp
 |s::l=>by
  have h1:=bM1 hB hV s
  have h2:=aLa hB hV l
  rw [List.map_cons,List.sum_cons,List.length_cons]
  grind
theorem bB9 {left:Int} {k:Nat} (hk:0<k) (hl: -100000≤left) {C:Int} (hC:left≤C) (h0:0≤C):0≤aKq left k∧aKq left k≤C∧ -100000≤left - aKq left k∧left - aKq left k≤C:=by
 unfold aKq
 by_cases hn:0≤left
 ·obtain ⟨n,rfl⟩:=Int.eq_ofNat_of_zero_le hn
  have e:((n:Nat):Int).tdiv (k:Nat)=((n / k:Nat):Int):=by
   rw [Int.tdiv_eq_ediv_of_nonneg (by omega)];rfl
  have:=Nat.div_le_self n k
  omega
 ·have e:left.tdiv (k:Nat)≤0:=by
   obtain ⟨n,hn2⟩:=Int.eq_ofNat_of_zero_le (show 0≤ -left by omega)
   have:left= -((n:Nat):Int):=by omega
   rw [this,Int.neg_tdiv,Int.tdiv_eq_ediv_of_nonneg (by omega)]
   have:(0:Int)≤((n:Nat):Int) / ((k:Nat):Int):=Int.ediv_nonneg (by omega) (by omega)
   omega
  omega
end
end Go.K
namespace Go.Proofs.YteceapipdhnhdaaGreatDoor
section
open Go Go.K
attribute [local irreducible] aH aM aY KOp.wp K.Spec u32 leS vnS str aP cM bK idT aQ aG aN idN
end
end Go.Proofs.YteceapipdhnhdaaGreatDoor
namespace Go.K
section
open Go Go.Proofs.YteceapipdhnhdaaGreatDoor
end
section
open Go Go.Proofs.YteceapipdhnhdaaGreatDoor
def eK (f:Pt→Option Cn) (l:List Ent) (t:Tx) (h:Int):Int × Int × Int:=
 if (aU f l t h).2.1≠0 then (0,(aU f l t h).2) else if 0<(aO l (bP l t)).length then (0,15, -1) else
 if iN l t≠0 then (0,iN l t, -1) else ((aU f l t h).1,0, -1)
theorem aIs {f:Pt→Option Cn} {l:List Ent} {t:Tx} {h:Int} (h0:(aU f l t h).2.1≠0):eK f l t h=(0,(aU f l t h).2):=by unfold eK;simp [*]
theorem aLp {f:Pt→Option Cn} {l:List Ent} {t:Tx} {h:Int} (h0:(aU f l t h).2.1=0) (h1:0<(aO l (bP l t)).length):eK f l t h=(0,15, -1):=by
 unfold eK;simp [*]
theorem aL1 {f:Pt→Option Cn} {l:List Ent} {t:Tx} {h:Int} (h0:(aU f l t h).2.1=0) (h1:¬0<(aO l (bP l t)).length) (h2:iN l t≠0):eK f l t h=(0,iN l t, -1):=by
 unfold eK;simp [*]
theorem aTx {f:Pt→Option Cn} {l:List Ent} {t:Tx} {h:Int} (h0:(aU f l t h).2.1=0) (h1:¬0<(aO l (bP l t)).length) (h2:iN l t=0):eK f l t h=((aU f l t h).1,0, -1):=by
 unfold eK;simp [*]
theorem aK6 {f:Pt→Option Cn} {l:List Ent} {t:Tx} {h:Int} (h0:(eK f l t h).2.1=0):(aU f l t h).2.1=0∧(aO l (bP l t)).length=0∧iN l t=0∧(eK f l t h).1=(aU f l t h).1∧(eK f l t h).2.2= -1:=by
 by_cases h1:(aU f l t h).2.1=0
 ·grind [aLp,aTx,aL1]
 grind [aIs]
theorem bH9 {f:Pt→Option Cn} {l:List Ent} {t:Tx} {h:Int} (h0:(eK f l t h).2.1=0):fM l t (eK f l t h).1=(l++ [aVy t (eK f l t h).1],0):=by
 obtain ⟨h1,h2, -,h4, -⟩:=aK6 h0
 obtain ⟨hc,hg,hh,hgd⟩:=pX h1
 rw [←h4] at hgd
 have hno:=aD1.1 h2
 have h8:(t.ins.any fun i=>l.any fun x=>spends x i.p)=false:=by
  rw [List.any_eq_false]
  intro b hb hx
  obtain ⟨x,hx,h5⟩:=List.any_eq_true.1 hx
  rw [List.any_eq_false] at hno
  exact hno x hx (aVb.2 ⟨b,hb,h5⟩)
 unfold fM
 grind
def idS (t:Tx):ByteArray:=if aG t=0 then idT t else ⟨#[]⟩
theorem bBb (t:Tx):idV t=.tuple #[.string (idS t),.int .i64 (aG t)]:=by
 unfold idV idS
 grind
section
variable {f:Pt→Option Cn} {l:List Ent} {a b:Tx} {h rate:Int}
end
end
section
open Go Go.Proofs.YteceapipdhnhdaaGreatDoor
end
end Go.K
section
namespace Go.K
open Go Go.Proofs.YteceapipdhnhdaaGreatDoor
theorem aIq {l:List En} {t:Tx} {i:Nat} {h:Int} (h1:(nZ l t i h).1≠0):gG l t i h=(l,nZ l t i h):=by unfold gG;rw [if_pos h1]
theorem aVv {l:List En} {t:Tx} {i:Nat} {h:Int} (h1:(nZ l t i h).1=0) (h2:(mY (idT t) h 0 t.outs (oW l t)).2≠0):gG l t i h=(l,(mY (idT t) h 0 t.outs (oW l t)).2, -1):=by unfold gG;rw [if_neg (by rw [h1];decide),if_pos h2]
theorem bC2 {l:List En} {t:Tx} {i:Nat} {h:Int} (h1:(nZ l t i h).1=0) (h2:(mY (idT t) h 0 t.outs (oW l t)).2=0):gG l t i h=((mY (idT t) h 0 t.outs (oW l t)).1,0, -1):=by unfold gG;rw [if_neg (by rw [h1];decide),if_neg (by rw [h2];decide)]
theorem bFb {l:List En} {t:Tx} {i:Nat} {h:Int} (hg:aN t=true) (hc:aG t≠0):nZ l t i h=(aG t, -1):=by unfold nZ;rw [if_pos hg,if_pos hc]
theorem aI8 {l:List En} {t:Tx} {i:Nat} {h:Int} (hg:aN t=true) (hc:aG t=0) (h1:0<i∨t.lock≠h):nZ l t i h=(4, -1):=by unfold nZ;rw [if_pos hg,if_neg (by rw [hc];decide),if_pos h1]
theorem bJz {l:List En} {t:Tx} {i:Nat} {h:Int} (hg:aN t=true) (hc:aG t=0) (h1:¬(0<i∨t.lock≠h)):nZ l t i h=(0, -1):=by unfold nZ;rw [if_pos hg,if_neg (by rw [hc];decide),if_neg h1]
theorem bFe {l:List En} {t:Tx} {i:Nat} {h:Int} (hg:aN t=false):nZ l t i h=(gJ (aS l) t h).2:=by unfold nZ;rw [if_neg (by rw [hg];decide)]
end Go.K
namespace Go.Proofs.YteceapipdhnhdaaGreatDoor
open Go Go.K
attribute [local irreducible] aH aM aY KOp.wp K.Spec u32 leS vnS str aP aG aN bK idT aQ inE gJ nZ mY gG fP dH cY cR aV cH
set_option maxHeartbeats 1000000 in
theorem bHa {b mb:Nat} {M:List Nat} {cs:List Value} {t:Tx} {l:List En} (i:Nat) (h:Int) (w:World) (hS:gE T.coins_Set w b mb l) (hsc:SC l) (ht:txR.rel M w cs t) (hs:t.Sm):
  K.Spec Tryz.prog F.block_may [.pointer (some ⟨b,0,none⟩),.agg cs.toArray,.int .i64 (i:Nat),.int .i64 h] w fun r w'=>dD w' 1 r (nZ l t i h).1 (nZ l t i h).2∧Ext w w':=by
 have ht0:=ht
 have hl6:∀e∈l,e.2.s.size≤1000000:=fun e he=>by have:=(hsc e he).1;omega
 obtain ⟨iv,ov,rfl,h1,h2,h3,h4⟩:=ht
 have h41:=h4.1
 have h42:=h4.2
 refine aWz rfl ?_
 unfold aLt
 refine oy ?_
 cases hgr:aN t with
 |true=>
  by_cases hc:aG t=0
  ·repeat' (first|refine zD (d:=some 5) rfl rfl (fun bp wp xp ap (rp:Row wp ⟨bp,0,none⟩ (aK t iv ov)) hp0=>?_)|(refine zC (d:=some 13) rfl (kA (M:=M) (t:=t) (cs:=aK t iv ov) _ (R.ext ht0 (by exact fx)) hs) ?_;rintro _ w1 ⟨rfl,x1⟩;rw [hgr])|(refine zC (d:=some 25) rfl (rB (M:=M) (t:=t) (cs:=aK t iv ov) _ (R.ext ht0 (by exact fx)) hs) ?_;rintro _ w2 ⟨rfl,x2⟩;rw [hc])|refine aL (d:=some 35) (.int .i64 t.lock) rfl (congrArg (fun n=>some (Value.int .i64 n)) (IntWalk.i64_in _ (by omega))) ?_|refine zJ (t:=32) (p:=((i:Nat):Int)>0) rfl (fun hi0=>?_) (fun hi0=>?_)|refine zN (x:=.tmp 38) (p:=t.lock=h) rfl (fun hl0=>?_) (fun hl0=>?_)|(first|refine go2 ?_|fail))
   ·exact aA rfl ⟨by rw [aI8 (l:=l) hgr hc (h:=h) (i:=i) (.inl (by omega))];exact dD.num _ 1 (by decide),by exact fx⟩
   ·exact aA rfl ⟨by rw [aI8 (l:=l) hgr hc (h:=h) (i:=i) (.inr hl0)];exact dD.num _ 1 (by decide),by exact fx⟩
   ·exact aA rfl ⟨by rw [bJz (l:=l) hgr hc (h:=h) (i:=i) (by omega)];exact dD.none_ _ 1,by exact fx⟩
  ·repeat' (first|refine zD (d:=some 5) rfl rfl (fun bp wp xp ap (rp:Row wp ⟨bp,0,none⟩ (aK t iv ov)) hp0=>?_)|(refine zC (d:=some 13) rfl (kA (M:=M) (t:=t) (cs:=aK t iv ov) _ (R.ext ht0 (by exact fx)) hs) ?_;rintro _ w1 ⟨rfl,x1⟩;rw [hgr])|(refine zC (d:=some 25) rfl (rB (M:=M) (t:=t) (cs:=aK t iv ov) _ (R.ext ht0 (by exact fx)) hs) ?_;rintro _ w2 ⟨rfl,x2⟩)|refine zN (x:=.tmp 27) (p:=aG t=0) rfl (fun _=>?_) (fun h=>absurd h hc)|(first|refine go2 ?_|fail))
   exact aA rfl ⟨by rw [bFb (l:=l) hgr hc (h:=h) (i:=i)];exact dD.num _ 1 hc,by exact fx⟩
 |false=>
  repeat' (first|refine zD (d:=some 5) rfl rfl (fun bp wp xp ap (rp:Row wp ⟨bp,0,none⟩ (aK t iv ov)) hp0=>?_)|(refine zC (d:=some 13) rfl (kA (M:=M) (t:=t) (cs:=aK t iv ov) _ (R.ext ht0 (by exact fx)) hs) ?_;rintro _ w1 ⟨rfl,x1⟩;rw [hgr])|(refine zC (d:=some 20) rfl (aWy (M:=M) (t:=t) (cs:=aK t iv ov) h _ (bR0 (hS.ext (by exact fx)) hl6) (R.ext ht0 (by exact fx)) hs) ?_;rintro _ w2 ⟨e,rfl,he,x2⟩)|(first|refine go2 ?_|fail))
  exact aA rfl ⟨by rw [bFe (l:=l) (h:=h) (i:=i) hgr];exact he.ext (by exact fx),by exact fx⟩
set_option maxHeartbeats 1000000 in
theorem aSe {b mb:Nat} {M:List Nat} {cs:List Value} {t:Tx} {m:List En} (h:Int) (w:World) (hS:gE T.coins_Set w b mb m) (hb:b∈M) (hmb:mb∈M) (ht:txR.rel M w cs t) (hs:t.Sm) (hc:aG t=0):
  K.Spec Tryz.prog F.block_pay [.pointer (some ⟨b,0,none⟩),.agg cs.toArray,.int .i64 h] w fun r w'=>(r=if (mY (idT t) h 0 t.outs m).2=0 then .nilIface else qO (mY (idT t) h 0 t.outs m).2)∧gE T.coins_Set w' b mb (mY (idT t) h 0 t.outs m).1∧Chg [b,mb] w w':=by
 have ht0:=ht
 have hlt:=hS.lt
 have hout:=hs.outs
 obtain ⟨iv,ov,rfl,h1,h2,h3,h4⟩:=ht
 refine aXe rfl ?_
 unfold aMe
 refine oy ?_
 repeat' (first|refine zD (d:=some 4) rfl rfl (fun bp wp xp ap (rp:Row wp ⟨bp,0,none⟩ (aK t iv ov)) hp0=>?_)|(refine zC (d:=some 14) rfl (vK (M:=M) (t:=t) (cs:=aK t iv ov) _ (R.ext ht0 (by exact fx)) hs) ?_;rintro _ w1 ⟨rfl,x1⟩;rw [bBb,show idS t=idT t by unfold idS;rw [if_pos hc]])|refine zG (d:=some 19) (E:=gF) (M:=M) (l:=t.outs) rfl (SlR.ext h2 (by exact fx)) ?_|(refine aJ (fun (p:Nat × List En) w'=>Chg [b,mb] w1 w'∧p.1≤t.outs.length∧gE T.coins_Set w' b mb p.2∧aE8 (idT t) h t.outs m p.1 p.2) (fun p=> [(0,.pointer (some ⟨b,0,none⟩)),(2,.int .i64 h),(7,.string (idT t)),(18,ov),(19,.int .i64 (t.outs.length:Nat)),(20,.int .i64 (p.1:Nat))]) (fun p=>t.outs.length - p.1) (0,m) ⟨rfl,rfl,rfl,rfl,rfl,rfl,trivial⟩ ⟨Chg.refl _ _,by simp,hS.ext (by exact fx),aOi⟩ ?_;rintro ⟨k,mk⟩ ρ w4 ⟨c4,hk,hSk,hpk⟩;simp only at hk hSk hpk;dsimp only)|refine zL (x:=.tmp 21) (p:=((k:Nat):Int)<((t.outs.length:Nat):Int)) rfl (fun h9=>?_) (fun h9=>?_)|(first|refine go2 ?_|fail))
 ·have hkl:k<t.outs.length:=by omega
  have x01:Ext w w1:=xp.trans x1
  have c04:Chg [b,mb] w w4:=(Chg.trans x01 c4).mono (by simp)
  have h24:SlR gF M w4 ov t.outs:=h2.step c04 (fun y hy=>.inl (by simp at hy;rcases hy with rfl|rfl<;>assumption)) (fun y hy=>.inl hy)
  have s4:=c04.size
  have c14':Unit→Chg [b,mb] w1 w4:=fun _=>c4
  clear xp x1 c4 x01
  repeat (first|(refine aR (d:=some 23) (E:=gF) (M:=M) rfl rfl (n:=k) (l:=t.outs) h24 rfl hkl (fun ad cs r4 he=>?_);obtain ⟨rfl,hv64⟩:=he)|refine zH (d:=some 10) (fun b10 w5 x5 a5 hb5=>?_)|(first|refine go2 ?_|fail))
  refine aW (w0:=w4) (n:=2) (vs:=gI t.outs[k]) x5 hb5 a5 rfl rfl rfl rfl rfl (fun w6 x6 c6 a6 r6=>?_)
  repeat (first|refine aL (d:=some 28) (.int .u32 (k:Nat)) rfl (congrArg (fun n=>some (Value.int .u32 n)) (by rw [wrap32];omega)) ?_|refine aZ (d:=some 29) (cs:=(⟨idT t,(k:Nat)⟩:Pt).cs) rfl ?_|refine aZ (d:=some 32) (cs:=(outC t.outs[k] h).cs) rfl ?_|(first|refine go2 ?_|fail))
  refine zC (d:=some 33) rfl (aTj ⟨idT t,(k:Nat)⟩ (outC t.outs[k] h) _ (hSk.ext x6)) ?_
  rintro _ w7 ⟨rfl,S7,c7⟩
  have c17:Chg [b,mb] w w7:=(c04.trans (Chg.trans x6 c7)).mono (by simp)
  by_cases h6:aV mk ⟨idT t,(k:Nat)⟩ (outC t.outs[k] h)=0
  ·rw [h6]
   repeat (first|refine go2 ?_|fail)
   exact ⟨(k+1,cR mk ⟨idT t,(k:Nat)⟩ (outC t.outs[k] h)),⟨rfl,rfl,rfl,rfl,rfl,rfl,trivial⟩,⟨((c14' ()).trans (Chg.trans x6 c7)).mono (by simp),by simp only;omega,S7,aQi hkl hpk h6⟩,by simp only;omega⟩
  ·repeat (first|refine zN (x:=.tmp 35) (p:=aV mk ⟨idT t,(k:Nat)⟩ (outC t.outs[k] h)=0) rfl (fun _=>?_) (fun h=>absurd h h6)|(first|refine go2 ?_|fail))
   have e:=aSw hkl hpk h6
   have e3:cR mk ⟨idT t,(k:Nat)⟩ (outC t.outs[k] h)=mk:=by unfold cR;rw [if_neg h6]
   rw [e3] at S7
   exact aA rfl ⟨by rw [e];simp only;rw [if_neg h6];rfl,by rw [e];exact S7,c17⟩
 ·have e:=aRx (by omega) hpk
  repeat (first|refine go2 ?_|fail)
  exact aA rfl ⟨by rw [e];rfl,by rw [e];exact hSk,(Chg.trans (show Ext w w1 from xp.trans x1) c4).mono (by simp)⟩
end Go.Proofs.YteceapipdhnhdaaGreatDoor
end
namespace Go.Proofs.YteceapipdhnhdaaGreatDoor
section
open Go Go.K
attribute [local irreducible] aH aM aY KOp.wp K.Spec u32 leS vnS str aP aG aN bK idT aQ
set_option maxHeartbeats 1000000 in
theorem vW {M N:List Nat} {v:Value} {txs:List Tx} (w:World) (hx:SlR txR N w v txs) (hs:∀t∈txs,t.Sm) (hMN:∀b∈M,b∈N∨w.heap.size≤b) (hM:∀b∈M,b<w.heap.size) (hk0:txs.length≤1000):K.Spec Tryz.prog F.chain_copies [v] w fun r w'=>bH txR T.api_Tx w.heap.size M w' r txs∧Ext w w':=by
 refine aN8 rfl ?_
 unfold aC4
 refine oy ?_
 repeat' (first|refine zG (d:=some 7) (E:=txR) (M:=N) (l:=txs) rfl hx ?_|(refine aJ (fun (p:Nat × Value) w'=>Ext w w'∧p.1≤txs.length∧bH txR T.api_Tx w.heap.size M w' p.2 (txs.take p.1)) (fun p=> [(3,p.2),(6,v),(7,.int .i64 (txs.length:Nat)),(8,.int .i64 (p.1:Nat))]) (fun p=>txs.length - p.1) (0,.slice none 0 0) ⟨rfl,rfl,rfl,rfl,trivial⟩ ⟨Ext.refl _,by simp,bH.nil _ _ _ _⟩ ?_;rintro ⟨k,v3⟩ ρ w2 ⟨x2,hk,ho⟩;simp only at hk ho;dsimp only)|refine zL (x:=.tmp 9) (p:=((k:Nat):Int)<((txs.length:Nat):Int)) rfl (fun h9=>?_) (fun h9=>?_)|(first|refine go2 ?_|fail))
 ·have hkl:k<txs.length:=by omega
  have hst:=hs _ (gMe hkl)
  have hb3:=ho.base
  have hl3:=ho.lt
  have s2:=x2.size
  have hx2:SlR txR (aC v3++M) w2 v txs:=hx.step x2 (by simp) (fun b hb=>(List.mem_append.1 hb).elim (fun h=>.inr (hb3 b h)) (hMN b))
  have x02':Unit→Ext w w2:=fun _=>x2
  have hll:(txs.take k).length≤k:=by rw [List.length_take];omega
  obtain ⟨t,ht⟩:∃t,t=txs[k]:=⟨_,rfl⟩
  rw [←ht] at hst
  clear x2
  repeat (first|(refine aR (d:=some 10) (E:=txR) (M:=aC v3++M) rfl rfl (n:=k) (l:=txs) hx2 rfl hkl (fun ad cs r4 he=>?_);rw [←ht] at he;obtain ⟨iv,ov,rfl,p1,p2,p3⟩:=id he;have o1:=p1.one;have o2:=p2.one)|refine zE (d':=5) (fun _=>rfl) rfl rfl (txR.one he |> List.all_eq_true.2) (fun b5 w4 x4 a4 (r5:Row w4 ⟨b5,0,none⟩ (aK t iv ov)) hb5=>?_)|(first|refine go2 ?_|fail))
  refine zC (d:=some 14) rfl (vU (M:=aC v3++M) (cs:=aK t iv ov) (t:=t) _ (R.ext he x4) hst (fun b hb=>nLt ((List.mem_append.1 hb).elim (hl3 b) (fun h=>by have:=hM b h;omega)) x4.size)) ?_
  rintro _ w5 ⟨cs',rfl,tO,x5⟩
  have tO5:=tO.rel (fun b hb=>nLt ((List.mem_append.1 hb).elim (hl3 b) (fun h=>by have:=hM b h;omega)) x4.size)
  obtain ⟨iv',ov',rfl, -, -, -⟩:=id tO5
  repeat (first|refine zI (d:=some 15) (cs:=aK t iv' ov') rfl (fun b6 w6 x6 a6 hb6=>?_)|refine eM (d:=some 16) (E:=txR) (M:=M) (v:=v3) (cs:=aK t iv' ov') (a:=t) rfl rfl (ho.ext (by exact fx)) (nTr s2 (Ext.size (show Ext w2 _ by exact fx))) rfl rfl a6 (R.ext tO5 x6) (by omega) (fun v7 w7 o7 c7 hb7=>?_)|(first|refine go2 ?_|fail))
  exact ⟨(k+1,v7),⟨rfl,rfl,rfl,rfl,trivial⟩,⟨(Ext.chg ((x02' ()).trans (show Ext w2 w6 by exact fx)) c7).mono (fun b hb=>.inr (hb3 b hb)),by simp only;omega,by simp only;rw [List.take_succ_eq_append_getElem hkl,←ht];exact o7⟩,by simp only;omega⟩
 ·have e:txs.take k=txs:=tLe (by omega)
  rw [e] at ho
  repeat (first|refine go2 ?_|fail)
  exact aA rfl ⟨ho,x2⟩
end
end Go.Proofs.YteceapipdhnhdaaGreatDoor
namespace Go.K
section
open Go Go.Proofs.YteceapipdhnhdaaGreatDoor
end
section
open Go Go.Proofs.YteceapipdhnhdaaGreatDoor
end
end Go.K
