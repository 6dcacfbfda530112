/- Contracts: dust; one amount less another one. Contracts: a t -/
import Derived.Test.YtgloknkcfchnlabGreatDoorZ30
import Derived.Test.YtgloknkcfchnlabGreatDoorZ31
import Derived.Test.YtgloknkcfchnlabGreatDoorZ32
set_option linter.unusedVariables false
set_option linter.unusedSimpArgs false
namespace Go.Proofs.YtgloknkcfchnlabGreatDoor
section
open Go Go.K
attribute [local irreducible] aG aK aU KOp.wp K.Spec u32 leS vnS str aN
theorem aRx (a b:Int) (ha:cR a=true) (hb:cR b=true) (h:b≤a) (w:World):K.Spec Tryz.prog F.amount_Sub [.int .i64 a,.int .i64 b] w fun r w'=>r=.tuple #[.int .i64 (a - b),.int .i64 0]∧Ext w w':=by
 have h1:=(cX a).1 ha
 have h2:=(cX b).1 hb
 refine aJl rfl ?_
 unfold aAs
 refine oy ?_
 repeat' (first|refine zF (d:=some 7) (v:=.bool true) ((qG _).trans (by rw [ha])) ?_|refine zF (d:=some 11) (v:=.bool true) ((qG _).trans (by rw [hb])) ?_|refine zL (p:=b>a) rfl (fun h=>absurd h (by omega)) (fun _=>?_)|refine go1 ?_|refine zg λ_ _=>?_|refine zi λ_ _=>?_)
 exact aB rfl ⟨rfl,Ext.refl _⟩
end
section
open Go Go.K
attribute [local irreducible] aG aK aU KOp.wp K.Spec u32 leS vnS str aN bN bJ bX eU iG cD eZ fE aJ aO bH idT aV
theorem aK1 {t:Tx} (hc:aJ t=0) {i:Nat} (hi:i<t.ins.length):∀z∈t.ins[i].wit,z.size≤1000000:=fun z hz=>by
 have:=(mZ (aUu hc) hc).item _ (gMe hi) z hz
 omega
section
variable {d:Option Tmp} {r:KR} {K:Env→World→Prop} {ρ:Env} {w w0:World} {v:Value} {f:Pt→Option Cn}
theorem aW8 {x:Operand} {args:List Operand} (hV:rS w0 v f) (xx:Ext w0 w) (p:Pt) (hp:jM p.i) (hx:ev ρ x=v) (ha:args.map (ev ρ)= [.agg p.cs.toArray])
  (k:∀c w',(f p).getD cn0=c→Ext w w'→aG Tryz.prog r K (put ρ d (.tuple #[.agg c.cs.toArray,.bool (f p).isSome])) w'):aG Tryz.prog (.cons ⟨d,.invoke x "Get" args,none⟩ r) K ρ w:=by
 obtain ⟨⟨t,u,rfl,hv⟩,_⟩:=hV
 obtain ⟨fn,rv,_,hm,hb,hS⟩:=hv p hp w xx
 exact aS5 hx hm hb (by rw [ha]) hS fun _ w' ⟨c,e,hc,x⟩=>by subst e;exact k c w' hc x
theorem rS.mo_get {t:TypeId} {u:Value} (hV:rS w0 (.iface t u) f) {p:Pt} (hp:jM p.i):mo t u "Get" =true:=by
 obtain ⟨⟨t',u',e,hv⟩,_⟩:=hV
 cases e
 obtain ⟨_,_,h,_⟩:=hv p hp w0 (Ext.refl w0)
 exact aZ2 h
theorem aWu {M:List Nat} {iv:Value} {l:List TIn} (h:SlR inR M w iv l) {i:Nat} (hi:i<l.length):jM l[i].p.i:=by
 obtain ⟨css,hsl,hall,_⟩:=h
 obtain ⟨_,_,_,hq,_⟩:=All2.get hall i (by rw [hall.length];exact hi) hi
 exact hq
end
set_option maxHeartbeats 1000000 in
theorem aE2 {M:List Nat} {cs:List Value} {t:Tx} {v:Value} {f:Pt→Option Cn} (i:Nat) (hi:i<t.ins.length) (hc:aJ t=0) (h:Int) (w:World) (hV:rS w v f) (ht:txR.rel M w cs t):K.Spec Tryz.prog F.check_spent [v,.agg cs.toArray,.int .i64 (i:Nat),.int .i64 h] w fun r w'=>
  ∃c:Cn,r=.tuple #[.agg c.cs.toArray,.int .i64 (inE f t h t.ins[i])]∧c=(f t.ins[i].p).getD cn0∧Ext w w':=by
 have hs:=aUu hc
 have hn:=hs.ins
 have hwz:=aK1 hc hi
 have ht0:=ht
 obtain ⟨iv,ov,rfl,h1,h2,h3,h4⟩:=ht
 have hp5:=aWu h1 hi
 have hz:=hV.2
 obtain ⟨vt,vu,rfl⟩:∃vt vu,v=.iface vt vu:=by obtain ⟨⟨a,b,e,_⟩,_⟩:=hV;exact ⟨a,b,e⟩
 have hmo:=hV.mo_get hp5
 refine aGp rfl ?_
 unfold vX
 refine oy ?_
 repeat' (first|refine zD rfl rfl (fun bp wp xp ap (rp:Row wp ⟨bp,0,none⟩ (aT t iv ov)) hp0=>?_)|(refine zH (d:=some 8) (fun b8 w8 x8 a8 hb8=>?_);have h08:w.heap.size≤b8:=nTr xp.size hb8)|(refine aM (d:=some 18) (E:=inR) (M:=M) rfl rfl (n:=i) (l:=t.ins) (SlR.ext h1 (by exact fx)) rfl hi (fun ad cs r4 he=>?_);obtain ⟨wv,rfl, -, -, -⟩:=he)|refine aVy (d:=some 22) rfl hmo ?_|refine lI ?_ ?_|refine aW8 (d:=some 24) hV (by exact fx) t.ins[i].p hp5 rfl rfl (fun c w6 hcc x6=>?_)|(refine zH (d:=some 10) (fun b10 w10 x10 a10 hb10=>?_);have h10:w8.heap.size≤b10:=nTr (Ext.size (w:=w8) (by exact fx)) hb10)|refine go1 ?_|refine zg λ_ _=>?_|refine zi λ_ _=>?_)
 all_goals
  have l8:=a8.lt
  have s08:w.heap.size≤w8.heap.size:=Ext.size (w:=w) (by exact fx)
  refine bA (w0:=w) (vs:=c.cs) (by exact fx) (nTr s08 h10) (by focus (repeat (first|assumption|(apply At.ext;assumption)))) rfl rfl rfl rfl rfl (fun w7 x7 c7 a7 r7=>?_)
  have a7':At w7 b8 _:=At.chg c7 (At.ext (w:=w8) (by exact fx) a8) (by simp;omega)
  have rp7:Row w7 ⟨bp,0,none⟩ (aT t iv ov):=Row.chg c7 (Row.ext (w:=wp) (by exact fx) rp) (by have:=ap.lt;have:=x8.size;simp;omega)
  have ht7:=R.ext ht0 x7
  clear c7 a8 rp x8 xp x6 x10
  cases hf:f t.ins[i].p with
  |none=>
   have e:inE f t h t.ins[i]=8:=by unfold inE;rw [hf]
   rw [e]
   rw [hf] at hcc
   repeat' (first|refine bA (w0:=w) (vs:=c.cs) (by exact fx) h08 (by focus (repeat (first|assumption|(apply At.ext;assumption)))) rfl rfl rfl rfl rfl (fun w9 x9 c9 a9 r9=>?_)|refine go1 ?_|refine zg λ_ _=>?_|refine zi λ_ _=>?_)
   exact aB (lA (bK r9 rfl rfl) bC) ⟨c,rfl,hcc.symm,x9⟩
  |some d=>
   have ec:d=c:=by rw [hf] at hcc;exact hcc
   subst ec
   have e:inE f t h t.ins[i]=if eZ d.s t t.ins[i]≠0 then eZ d.s t t.ins[i] else if fE t t.ins[i] d.h h then 0 else 10:=by unfold inE;rw [hf]
   rw [e]
   repeat' (first|refine xX (x:=.tmp 28) rfl ?_|(refine zC (d:=some 35) rfl (aRs (M:=M) (t:=t) (cs:=aT t iv ov) d.s (hz _ _ hf) i hi hn hwz _ (R.ext ht7 (by exact fx))) ?_;rintro _ w2 ⟨rfl,x2⟩)|refine zN (p:=eZ d.s t t.ins[i]=0) rfl (fun ho=>?_) (fun ho=>?_)|(refine zC (d:=some 45) rfl (aR7 (M:=M) (t:=t) (cs:=aT t iv ov) i hi hn d.h h _ (R.ext ht7 (by exact fx))) ?_;rintro _ w3 ⟨rfl,x3⟩)|refine lG (x:=.tmp 46) rfl (fun hr=>?_) (fun hr=>?_)|refine bA (w0:=w) (vs:=d.cs) (by exact fx) h08 (by focus (repeat (first|assumption|(apply At.ext;assumption)))) rfl rfl rfl rfl rfl (fun w9 x9 c9 a9 r9=>?_)|refine go1 ?_|refine zg λ_ _=>?_|refine zi λ_ _=>?_)
   ·rw [if_pos (by assumption)]
    exact aB (lA (bK r9 rfl rfl) bC) ⟨d,rfl,rfl,x9⟩
   ·rw [if_neg (by simpa using ‹eZ d.s t t.ins[i]=0›),if_neg (by simpa using ‹(!fE t t.ins[i] d.h h)=true›)]
    exact aB (lA (bK r9 rfl rfl) bC) ⟨d,rfl,rfl,x9⟩
   ·rw [if_neg (by simpa using ‹eZ d.s t t.ins[i]=0›),if_pos (by simpa using ‹(!fE t t.ins[i] d.h h)=false›)]
    exact aB (lA (bK r9 rfl rfl) bC) ⟨d,rfl,rfl,x9⟩
theorem tE {M:List Nat} {cs:List Value} {t:Tx} {vt:TypeId} {vu:Value} (w:World) (ht:txR.rel M w cs t) (hs:t.Sm):K.Spec Tryz.prog F.check_formed [.iface vt vu,.agg cs.toArray] w fun r w'=>r=.int .i64 (if aJ t≠0 then aJ t else if aO t then 4 else 0)∧Ext w w':=by
 have ht0:=ht
 obtain ⟨iv,ov,rfl,h1,h2,h3,h4⟩:=ht
 refine aEj rfl ?_
 unfold sS
 refine oy ?_
 repeat' (first|refine zD rfl rfl (fun bp wp xp ap (rp:Row wp ⟨bp,0,none⟩ (aT t iv ov)) hp0=>?_)|(refine zC (d:=some 9) rfl (nL (M:=M) (t:=t) (cs:=aT t iv ov) _ (R.ext ht0 (by exact fx)) hs) ?_;rintro _ w2 ⟨rfl,x2⟩)|refine zN (p:=aJ t=0) rfl (fun h=>?_) (fun h=>?_)|(refine zC (d:=some 14) rfl (iO (M:=M) (t:=t) (cs:=aT t iv ov) _ (R.ext ht0 (by exact fx)) hs) ?_;rintro _ w3 ⟨rfl,x3⟩)|refine xX (x:=.tmp 7) rfl ?_|refine zM (x:=.tmp 14) rfl (fun h=>?_) (fun h=>?_)|refine go1 ?_|refine zg λ_ _=>?_|refine zi λ_ _=>?_)
 ·exact aB rfl ⟨by rw [if_pos (show aJ t≠0 from h)];rfl,by exact fx⟩
 ·exact aB rfl ⟨by rw [if_neg (show ¬aJ t≠0 from fun q=>q ‹aJ t=0›),if_pos ‹aO t=true›];rfl,by exact fx⟩
 ·exact aB rfl ⟨by rw [if_neg (show ¬aJ t≠0 from fun q=>q ‹aJ t=0›),if_neg (show ¬aO t=true by rw [‹aO t=false›];simp)];rfl,by exact fx⟩
theorem aS4 (w:World):K.Spec Tryz.prog F.check_told [.int .i64 0] w fun r w'=>r=.nilIface∧Ext w w':=by
 refine aJu rfl ?_
 unfold zZ
 refine oy ?_
 repeat' (first|refine go1 ?_|refine zg λ_ _=>?_|refine zi λ_ _=>?_)
 exact aB rfl ⟨rfl,Ext.refl _⟩
end
section
open Go Go.K
attribute [local irreducible] aG aK aU KOp.wp K.Spec u32 leS vnS str aN bN bJ bX eU iG cD eZ fE aJ aO bH idT aV inE
section
variable {f:Pt→Option Cn} {t:Tx} {h:Int}
theorem aP5 (hc:aJ t≠0):gY f t h=(0,aJ t, -1):=by unfold gY;rw [if_pos hc]
theorem aHz (hc:aJ t=0) (hg:aO t=true):gY f t h=(0,4, -1):=by unfold gY;rw [if_neg (by simpa using hc),if_pos hg]
theorem aU1 (hc:aJ t=0) (hg:aO t=false) {i:Nat} (hi:i<t.ins.length) (hk:∀j,j<i→∀hj:j<t.ins.length,inE f t h t.ins[j]=0) (he:inE f t h t.ins[i]≠0):gY f t h=(0,inE f t h t.ins[i],((i:Nat):Int)):=by
 unfold gY
 have e:(t.ins.findIdx? fun x=>decide (inE f t h x≠0))=some i:=List.findIdx?_eq_some_iff_getElem.2 ⟨hi,dTr he,fun j hj=>by rw [hk j hj (by omega)];simp⟩
 rw [if_neg (by simpa using hc),if_neg (by rw [hg];simp),e]
 simp only
 rw [List.getD_eq_getElem?_getD,List.getElem?_eq_getElem hi];rfl
theorem aQg (hc:aJ t=0) (hg:aO t=false) (hk:∀j,∀hj:j<t.ins.length,inE f t h t.ins[j]=0):
  gY f t h=if kG (t.ins.map (inV f))≠0 then (0,kG (t.ins.map (inV f)), -1) else if gG (values t)>gG (t.ins.map (inV f)) then (0,12, -1) else (gG (t.ins.map (inV f)) - gG (values t),0, -1):=by
 unfold gY
 have e:(t.ins.findIdx? fun x=>decide (inE f t h x≠0))=none:=List.findIdx?_eq_none_iff.2 fun x hx=>by
  obtain ⟨j,hj,rfl⟩:=List.getElem_of_mem hx
  rw [hk j hj];simp
 rw [if_neg (by simpa using hc),if_neg (by rw [hg];simp),e]
end
theorem uJ {l:List Int} (h:kG l=0):cR (gG l)=true:=by
 unfold kG at h
 unfold gG
 cases hs:iR 0 l with
 |none=>rw [hs] at h;cases h
 |some s=>exact rJ l 0 s (by decide) hs
theorem aIo {t:Tx} (h:aJ t=0):kG (values t)=0:=by
 unfold aJ at h
 repeat' split at h
 all_goals first|exact h|cases h
set_option maxHeartbeats 2000000 in
theorem aTy {M:List Nat} {cs:List Value} {t:Tx} {v:Value} {f:Pt→Option Cn} (bl:Int) (w:World) (hV:rS w v f) (ht:txR.rel M w cs t) (hs:t.Sm):K.Spec Tryz.prog F.check_Fee [v,.agg cs.toArray,.int .i64 bl] w fun r w'=>
  ∃e,r=.tuple #[.int .i64 (gY f t bl).1,e]∧dA w' 1 e (gY f t bl).2.1 (gY f t bl).2.2∧Ext w w':=by
 have hn:=hs.ins
 have ht0:=ht
 obtain ⟨iv,ov,rfl,h1,h2,h3,h4⟩:=ht
 have hV0:=hV
 obtain ⟨⟨vt,vu,rfl,_⟩,_⟩:=hV
 refine aKn rfl ?_
 unfold aCg
 refine oy ?_
 by_cases hc:aJ t=0
 ·cases hg:aO t with
  |true=>
   rw [aHz hc hg]
   repeat' (first|refine zD rfl rfl (fun bp wp xp ap (rp:Row wp ⟨bp,0,none⟩ (aT t iv ov)) hp0=>?_)|(refine zC (d:=some 20) rfl (tE (M:=M) (t:=t) (cs:=aT t iv ov) _ (R.ext ht0 (by exact fx)) hs) ?_;rintro _ w2 ⟨rfl,x2⟩;rw [if_neg (by simpa using hc),if_pos hg])|refine go1 ?_|refine zg λ_ _=>?_|refine zi λ_ _=>?_)
   exact aB rfl ⟨_,rfl,dA.num _ _ (by decide),by exact fx⟩
  |false=>
   repeat' (first|refine zD rfl rfl (fun bp wp xp ap (rp:Row wp ⟨bp,0,none⟩ (aT t iv ov)) hp0=>?_)|(refine zC (d:=some 20) rfl (tE (M:=M) (t:=t) (cs:=aT t iv ov) _ (R.ext ht0 (by exact fx)) hs) ?_;rintro _ w2 ⟨rfl,x2⟩;rw [if_neg (by simpa using hc),if_neg (by rw [hg];simp)])|refine zG (d:=some 27) (E:=inR) (M:=M) (l:=t.ins) rfl (SlR.ext h1 (by exact fx)) ?_|(refine aL (fun (p:Nat × Value) w'=>Ext w2 w'∧p.1≤t.ins.length∧Own aAo T.int w2.heap.size w' p.2 ((t.ins.take p.1).map (inV f))∧∀j,j<p.1→∀hj:j<t.ins.length,inE f t bl t.ins[j]=0) (fun p=> [(0,.iface vt vu),(2,.int .i64 bl),(4,.pointer (some ⟨bp,0,none⟩)),(9,p.2),(27,.int .i64 (t.ins.length:Nat)),(28,.int .i64 (p.1:Nat))]) (fun p=>t.ins.length - p.1) (0,.slice none 0 0) ⟨rfl,rfl,rfl,rfl,rfl,rfl,trivial⟩ ⟨Ext.refl _,by simp,Own.nil _ _ _,fun j hj=>absurd hj (by simp)⟩ ?_;rintro ⟨i,v9⟩ ρ w3 ⟨x3,hi,ho,hk⟩;simp only at hi ho hk;dsimp only)|refine zL (p:=((i:Nat):Int)<((t.ins.length:Nat):Int)) rfl (fun h=>?_) (fun h=>?_)|refine go1 ?_|refine zg λ_ _=>?_|refine zi λ_ _=>?_)
   ·have hil:i<t.ins.length:=by omega
    have s2:wp.heap.size≤w2.heap.size:=x2.size
    have rp3:Row w3 ⟨bp,0,none⟩ (aT t iv ov):=rp.ext (by exact fx)
    have ht3:=R.ext ht0 (show Ext w w3 by exact fx)
    have hV3:=hV0.ext (show Ext w w3 by exact fx)
    by_cases he:inE f t bl t.ins[i]=0
    ·repeat' (first|(refine zC (d:=some 36) rfl (aE2 (M:=M) (t:=t) (cs:=aT t iv ov) i hil hc bl _ (hV3.ext (by exact fx)) (R.ext ht3 (by exact fx))) ?_;rintro _ w4 ⟨c,rfl,hcc,x4⟩;rw [he])|refine zE (d':=11) (fun _=>rfl) rfl rfl rfl (fun b7 w7 x7 a7 (r7:Row w7 ⟨b7,0,none⟩ c.cs) hb7=>?_)|refine zI (d:=some 51) (cs:= [.int .i64 c.v]) rfl (fun b8 w8 x8 a8 hb8=>?_)|refine bY (d:=some 52) (E:=aAo) (v:=v9) (l2:= [c.v]) rfl (ho.ext (by exact fx)) (Ext.size (w:=w2) (by exact fx)) rfl rfl (eH a8 rfl) rfl rfl (by simp;omega) (fun v10 w10 o10 c10=>?_)|refine go1 ?_|refine zg λ_ _=>?_|refine zi λ_ _=>?_)
     exact ⟨(i+1,v10),⟨rfl,rfl,rfl,rfl,rfl,rfl,trivial⟩,⟨(Ext.chg (w:=w2) (by exact fx) c10).mono (fun b hb=>.inr (ho.base b hb)),by simp only;omega,by simp only;rw [List.take_succ_eq_append_getElem hil,List.map_append];subst hcc;exact o10,fun j hj hjl=>by
      simp only at hj
      by_cases e:j=i
      ·subst e;exact he
      ·exact hk j (by omega) hjl⟩,by simp only;omega⟩
    ·rw [aU1 hc hg hil hk he]
     repeat' (first|(refine zC (d:=some 36) rfl (aE2 (M:=M) (t:=t) (cs:=aT t iv ov) i hil hc bl _ (hV3.ext (by exact fx)) (R.ext ht3 (by exact fx))) ?_;rintro _ w4 ⟨c,rfl,hcc,x4⟩)|refine zE (d':=11) (fun _=>rfl) rfl rfl rfl (fun b7 w7 x7 a7 (r7:Row w7 ⟨b7,0,none⟩ c.cs) hb7=>?_)|refine zN (p:=inE f t bl t.ins[i]=0) rfl (fun _=>?_) (fun h=>absurd h he)|refine bT (d:=some 44) (cs:= [.int .i64 (i:Nat),yW (inE f t bl t.ins[i])]) rfl ?_|refine zD (d:=some 45) (cs:= [.int .i64 (i:Nat),yW (inE f t bl t.ins[i])]) rfl rfl (fun b8 w8 x8 a8 r8 hb8=>?_)|refine go1 ?_|refine zg λ_ _=>?_|refine zi λ_ _=>?_)
     exact aB rfl ⟨_,rfl,.inr ⟨he,(show (0:Int)≤((i:Nat):Int) by omega),b8,_, -1,rfl,a8,dA.num _ _ he⟩,by exact fx⟩
   ·have ei:i=t.ins.length:=by omega
    subst ei
    rw [List.take_length] at ho
    have rp3:Row w3 ⟨bp,0,none⟩ (aT t iv ov):=rp.ext (by exact fx)
    have ht3:=R.ext ht0 (show Ext w w3 by exact fx)
    rw [aQg hc hg fun j hj=>hk j hj hj]
    by_cases hsum:kG (t.ins.map (inV f))=0
    ·have hgood:=uJ hsum
     have hgv:=uJ (aIo hc)
     rw [if_neg (by simpa using hsum)]
     by_cases hv:gG (values t)>gG (t.ins.map (inV f))
     ·rw [if_pos hv]
      repeat' (first|(refine zC (d:=some 56) rfl (yJ (l:=t.ins.map (inV f)) _ (SlE.ext (w:=w3) (by exact fx) ho.sl) (by simp;omega)) ?_;rintro _ _ ⟨rfl,rfl⟩;rw [hsum])|(refine zC (d:=some 65) rfl (sA (M:=M) (t:=t) (cs:=aT t iv ov) _ (R.ext ht3 (by exact fx)) hs) ?_;rintro _ w5 ⟨rfl,x5⟩)|refine zL (p:=gG (values t)>gG (t.ins.map (inV f))) rfl (fun _=>?_) (fun h=>absurd hv h)|refine go1 ?_|refine zg λ_ _=>?_|refine zi λ_ _=>?_)
      exact aB rfl ⟨_,rfl,dA.num _ _ (by decide),by exact fx⟩
     ·rw [if_neg hv]
      repeat' (first|(refine zC (d:=some 56) rfl (yJ (l:=t.ins.map (inV f)) _ (SlE.ext (w:=w3) (by exact fx) ho.sl) (by simp;omega)) ?_;rintro _ _ ⟨rfl,rfl⟩;rw [hsum])|(refine zC (d:=some 65) rfl (sA (M:=M) (t:=t) (cs:=aT t iv ov) _ (R.ext ht3 (by exact fx)) hs) ?_;rintro _ w5 ⟨rfl,x5⟩)|refine zL (p:=gG (values t)>gG (t.ins.map (inV f))) rfl (fun h=>absurd h hv) (fun _=>?_)|(refine zC (d:=some 75) rfl (aRx _ _ hgood hgv (by omega) _) ?_;rintro _ w6 ⟨rfl,x6⟩)|(refine zC (d:=some 80) rfl (aS4 _) ?_;rintro _ w7 ⟨rfl,x7⟩)|refine go1 ?_|refine zg λ_ _=>?_|refine zi λ_ _=>?_)
      exact aB rfl ⟨_,rfl,dA.none_ _ _,by exact fx⟩
    ·rw [if_pos hsum]
     repeat' (first|(refine zC (d:=some 56) rfl (yJ (l:=t.ins.map (inV f)) _ (SlE.ext (w:=w3) (by exact fx) ho.sl) (by simp;omega)) ?_;rintro _ _ ⟨rfl,rfl⟩)|refine zN (p:=kG (t.ins.map (inV f))=0) rfl (fun _=>?_) (fun h=>absurd h hsum)|refine go1 ?_|refine zg λ_ _=>?_|refine zi λ_ _=>?_)
     exact aB rfl ⟨_,rfl,dA.num _ _ hsum,by exact fx⟩
 ·rw [aP5 hc]
  repeat' (first|refine zD rfl rfl (fun bp wp xp ap (rp:Row wp ⟨bp,0,none⟩ (aT t iv ov)) hp0=>?_)|(refine zC (d:=some 20) rfl (tE (M:=M) (t:=t) (cs:=aT t iv ov) _ (R.ext ht0 (by exact fx)) hs) ?_;rintro _ w2 ⟨rfl,x2⟩;rw [if_pos hc])|refine zN (p:=aJ t=0) rfl (fun _=>?_) (fun h=>absurd h hc)|refine go1 ?_|refine zg λ_ _=>?_|refine zi λ_ _=>?_)
  exact aB rfl ⟨_,rfl,dA.num _ _ hc,by exact fx⟩
end
end Go.Proofs.YtgloknkcfchnlabGreatDoor
