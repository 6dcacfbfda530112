/- What comes in for the laws of pairs. The walk of PoolPlays.  -/
import Derived.Test.YtfebcajheojodaaGreatDoorZ36
set_option linter.unusedVariables false
set_option linter.unusedSimpArgs false
namespace Go.Proofs.YtfebcajheojodaaGreatDoor
section
open Go Go.K Go.ChangeShapes Go.WideShapes Go.ChangeAt Go.RowKit
set_option maxRecDepth 100000
theorem bMf:Tryz.prog.cellsOf 35=7:=by kernel_rfl
theorem aZu {W:World} {c:List Value} (h:Reads Tryz.prog W 71 c):∃z:PAct,aLu.rel [] W c z:=by
 obtain ⟨h1,h2⟩:=kN Tryz.underlying71 h
 have l:c.length=16:=h1.trans (by kernel_rfl)
 match c,l with
 | [c0,c1,c2,c3,c4,c5,c6,c7,c8,c9,c10,c11,c12,c13,c14,c15],_=>
  have g0:=h2 _ (List.mem_of_getElem? (i:=0) rfl)
  have g1:=h2 _ (List.mem_of_getElem? (i:=1) rfl)
  have g2:=h2 _ (List.mem_of_getElem? (i:=2) rfl)
  have g3:=h2 _ (List.mem_of_getElem? (i:=3) rfl)
  obtain ⟨p,e0⟩:=aOp Tryz.underlying4 g0
  obtain ⟨a,ha⟩:=aR2 g1
  obtain ⟨b,hb⟩:=aR2 g2
  obtain ⟨n,e3⟩:=yA g3
  simp only [bMf,bOv,bIj,List.drop_zero,List.drop_succ_cons,List.take_succ_cons,List.take_zero,List.cons.injEq,and_true] at e0 ha hb e3
  obtain ⟨fa,ea,ha'⟩:=id ha
  obtain ⟨fb,eb,hb'⟩:=id hb
  rw [ea] at ha
  rw [eb] at hb
  exact ⟨⟨p,a,b,n⟩,fa,fb,by rw [e0,e3];show _::([c1,c2,c3,c4,c5,c6,c7]++([c8,c9,c10,c11,c12,c13,c14]++ [_]))=_;rw [ea,eb];rfl,ha,hb⟩
theorem aW5 {W:World} {v:Value} (h:Reads Tryz.prog W 69 [v]):∃l,SlR aLu [] W v l∧l.length≤maxLen:=
 sI aLu Tryz.underlying69 (by kernel_rfl) (fun _ h=>aZu h) h
end
section
open Go Go.K
attribute [local irreducible] aO aU bQ KOp.wp K.Spec u32 leS vnS str aV cU cD idT aR aG aX idN bD cF bT bH cA cO aZ bA aM iC dT pD lH bC evL inS inB iG fH dN fY gE gP eQ cH dF eY fL cB bS aY bU eO eD kD dA bM iH dI bV aUw EtR
abbrev bCm (b:Nat) (h rate:Int):List Value:= [.iface T.P_coins_Set (.pointer (some ⟨b,0,none⟩)),.int .i64 h,.int .i64 rate]
end
end Go.Proofs.YtfebcajheojodaaGreatDoor
namespace Go.K
section
open Go Go.Proofs.YtfebcajheojodaaGreatDoor
def aPw (m:List En) (l:List Ent) (h:Int) (p:Pt):Int:=((dP (aS m) l h p).getD cn0).v
structure Flow (m:List En) (l:List Ent) (h:Int):Prop where
 src:∀x∈l,∀p∈bK x.tx,0≤p.i∧(dP (aS m) l h p).isSome=true
 bal:∀x∈l,x.fee=((bK x.tx).map (aPw m l h)).sum - (values x.tx).sum
 few:∀x∈l,x.tx.ins.length≤4
theorem Flow.nil (m:List En) (h:Int):Flow m [] h:=⟨by simp,by simp,by simp⟩
theorem aXd {l:List Ent} (hn:(l.map (·.id)).Nodup) {z:Ent} (hz:z∈l) {p:Pt} (e:z.id=p.s) (hi:p.i<(z.tx.outs.length:Int)) (h:Int):aE0 l h p=(z.tx.outs[p.i.toNat]?).map fun o=>⟨o.v,o.s,h⟩:=by
 unfold aE0
 rw [if_pos ((aAg hn).2 ⟨z,hz,e,hi⟩),←e,(get_mem hn hz).2]
theorem bE8 {f:Pt→Option Cn} {l l':List Ent} {h:Int} (hn:(l.map (·.id)).Nodup) (hn':(l'.map (·.id)).Nodup) {p:Pt} (hc:∀z∈l,z.id=p.s→p.i<(z.tx.outs.length:Int)→f p=none→z∈l') (hs:(dP f l h p).isSome=true):dP f l' h p=dP f l h p:=by
 unfold dP at hs ⊢
 cases hf:f p with
 |some c=>rfl
 |none=>
  rw [hf] at hs
  simp only [Option.none_or] at hs ⊢
  have ho:dM l p=true:=by
   unfold aE0 at hs
   by_cases ho:dM l p=true
   ·exact ho
   ·rw [if_neg ho] at hs;cases hs
  obtain ⟨z,hz,ea,eb⟩:=(aAg hn).1 ho
  rw [aXd hn hz ea eb,aXd hn' (hc z hz ea eb hf) ea eb]
theorem Flow.to {m:List En} {l l':List Ent} {h:Int} (hn:(l.map (·.id)).Nodup) (hn':(l'.map (·.id)).Nodup) (hF:∀x∈l',(∀p∈bK x.tx,(0≤p.i∧(dP (aS m) l h p).isSome=true)∧∀z∈l,z.id=p.s→p.i<(z.tx.outs.length:Int)→aS m p=none→z∈l')∧x.fee=((bK x.tx).map (aPw m l h)).sum - (values x.tx).sum∧x.tx.ins.length≤4):Flow m l' h:=by
 have he:∀x∈l',∀p∈bK x.tx,dP (aS m) l' h p=dP (aS m) l h p:=fun x hx p hp=>
  bE8 hn hn' ((hF x hx).1 p hp).2 ((hF x hx).1 p hp).1.2
 refine ⟨fun x hx p hp=>⟨((hF x hx).1 p hp).1.1,by rw [he x hx p hp];exact ((hF x hx).1 p hp).1.2⟩,fun x hx=>?_,fun x hx=>(hF x hx).2.2⟩
 rw [(hF x hx).2.1]
 congr 2
 refine List.map_congr_left fun p hp=>?_
 unfold aPw;rw [he x hx p hp]
theorem aN7 {m:List En} {l:List Ent} {t:Tx} {h:Int} (h0:(aY (aS m) l t h).2.1=0):(∀p∈bK t,(dP (aS m) l h p).isSome=true)∧(aY (aS m) l t h).1=((bK t).map (aPw m l h)).sum - (values t).sum:=by
 obtain ⟨hc, -, -, -⟩:=eI h0
 obtain ⟨hf1,hf2⟩:=aN4 h0
 obtain ⟨hs1,hs2,hs3⟩:=bC7 hc hf1
 obtain ⟨hv1,hv2⟩:=xG (pM hc)
 obtain ⟨hw1,hw2⟩:=xG hs2
 refine ⟨fun p hp=>?_,?_⟩
 ·obtain ⟨b,hb,rfl⟩:=List.mem_map.1 hp
  exact hs1 b hb
 ·rw [hf2,hs3,hw1,hv1]
  unfold bK
  rw [List.map_map];rfl
theorem Flow.grow {m:List En} {l:List Ent} {t:Tx} {h:Int} (hF:Flow m l h) (hn:(l.map (·.id)).Nodup) (h0:(aY (aS m) l t h).2.1=0) (ht:∀p∈bK t,0≤p.i) (h4:t.ins.length≤4):Flow m (l++ [jY t (aY (aS m) l t h).1]) h:=by
 obtain ⟨h1,h2⟩:=aN7 h0
 refine Flow.to hn (aJ3 hn (eI h0).2.2.1) fun x hx=>?_
 rcases List.mem_append.1 hx with hx|hx
 ·exact ⟨fun p hp=>⟨hF.src x hx p hp,fun z hz _ _ _=>List.mem_append_left _ hz⟩,hF.bal x hx,hF.few x hx⟩
 ·simp only [List.mem_singleton] at hx
  subst hx
  exact ⟨fun p hp=>⟨⟨ht p hp,h1 p hp⟩,fun z hz _ _ _=>List.mem_append_left _ hz⟩,h2,h4⟩
theorem Flow.acc {m:List En} {l:List Ent} {t:Tx} {h rate:Int} (hF:Flow m l h) (hn:(l.map (·.id)).Nodup) (ht:∀p∈bK t,0≤p.i) (h4:t.ins.length≤4):Flow m (kD (aS m) l t h rate) h:=by
 by_cases h0:(eO (aS m) l t h rate).1=0
 ·obtain ⟨e1, -,e2⟩:=aUx hn h0
  obtain ⟨h1,h2,h3, -⟩:=aHp h0
  obtain ⟨n1,n2⟩:=aN7 h1
  have hnd:=bF8 hn h0
  rw [e2]
  refine Flow.to hn hnd fun x hx=>?_
  rcases List.mem_append.1 hx with hx|hx
  ·have hxl:=(gR _ _).subset hx
   refine ⟨fun p hp=>⟨hF.src x hxl p hp,fun z hz ea eb _=>List.mem_append_left _ ?_⟩,hF.bal x hxl,hF.few x hxl⟩
   rcases aOv l (evL l t) hz with h5|hev
   ·exact h5
   ·exfalso
    obtain ⟨j,hj,rfl⟩:=List.getElem_of_mem hz
    obtain ⟨i,hi,e⟩:=List.getElem_of_mem hxl
    have hh:gY l i j=true:=by
     unfold gY
     rw [bJ hi,bJ hj,e];exact aW7 hp ea eb
    refine aD3 l _ hn hx ?_
    rw [←e]
    exact bDx hn hi hj (.one hi hj hh) hev
  ·simp only [List.mem_singleton] at hx
   subst hx
   refine ⟨fun p hp=>⟨⟨ht p hp,n1 p hp⟩,fun z hz ea eb _=>List.mem_append_left _ ?_⟩,n2,h4⟩
   rcases aOv l (evL l t) hz with h5|hev
   ·exact h5
   ·exfalso
    obtain ⟨-, -,h6⟩:=bA0 h3
    rcases h6 with h6|⟨-, -, -,h6, -⟩
    ·rw [bK6 hn h6] at hev;cases hev
    ·exact aVf hn h6 hz (aW7 hp ea eb) hev
 ·rw [(nO h0).2];exact hF
theorem aOo:∀{L:List Int},(∀a∈L,0≤a)→0≤L.sum
 | [],_=>by simp
 |a::L,h=>by
  rw [List.sum_cons]
  have:=h a (by simp)
  have:=aOo (L:=L) (fun b hb=>h b (by simp [hb]))
  omega
theorem bBb:∀{L:List Int},(∀a∈L,0≤a)→∀a∈L,a≤L.sum
 | [],_=>fun a ha=>by cases ha
 |b::L,h=>fun a ha=>by
  rw [List.sum_cons]
  have h1:=h b (by simp)
  have h2:=aOo (L:=L) (fun b hb=>h b (by simp [hb]))
  rcases List.mem_cons.1 ha with rfl|ha
  ·omega
  ·have:=bBb (L:=L) (fun b hb=>h b (by simp [hb])) a ha;omega
theorem aTa:∀{l:List Ent},(∀x∈l,EntOk x)→(l.Pairwise fun x y=>∀p,spends x p=true→spends y p=false)→(l.flatMap fun x=>bK x.tx).Nodup
 | [],_,_=>List.nodup_nil
 |x::l,hE,ha=>by
  rw [List.pairwise_cons] at ha
  rw [List.flatMap_cons,List.nodup_append]
  refine ⟨yZ (hE x (by simp)).check,aTa (fun y hy=>hE y (by simp [hy])) ha.2,fun p hp q hq=>?_⟩
  rintro rfl
  obtain ⟨y,hy,hq⟩:=List.mem_flatMap.1 hq
  have sp:∀{z:Ent},p∈bK z.tx→spends z p=true:=fun {z} hz=>by
   obtain ⟨b,hb,e⟩:=List.mem_map.1 hz
   exact List.any_eq_true.2 ⟨b,hb,dTr e⟩
  have:=ha.1 y hy p (sp hp)
  rw [sp hq] at this;cases this
theorem aY8 (g:Pt→Int):∀(l:List Ent),((l.flatMap fun x=>bK x.tx).map g).sum=(l.map fun x=>((bK x.tx).map g).sum).sum
 | []=>rfl
 |x::l=>by rw [List.flatMap_cons,List.map_append,List.sum_append,aY8 g l,List.map_cons,List.sum_cons]
theorem aV4 {m:List En} {h:Int}:∀{l:List Ent},(∀x∈l,EntOk x)→tot (l.flatMap (lD m h))≤(l.map fun x=>(values x.tx).sum).sum
 | [],_=>by simp
 |x::l,hE=>by
  have h1:=aV4 (m:=m) (h:=h) (l:=l) (fun y hy=>hE y (by simp [hy]))
  have h2:=aNx m h (hE x (by simp))
  rw [List.flatMap_cons,eT,List.map_cons,List.sum_cons];omega
theorem aSy (a b c:Ent→Int):∀(l:List Ent),(∀x∈l,a x=b x - c x)→(l.map a).sum=(l.map b).sum - (l.map c).sum
 | [],_=>by simp
 |x::l,h=>by
  have h1:=aSy a b c l (fun y hy=>h y (by simp [hy]))
  have h2:=h x (by simp)
  rw [List.map_cons,List.map_cons,List.map_cons,List.sum_cons,List.sum_cons,List.sum_cons];omega
theorem bHv {m:List En} {l:List Ent} {h:Int} (hk:(m.map (·.1)).Nodup) (hm:∀e∈m,0≤e.2.v) (hn:(l.map (·.id)).Nodup) (hE:∀x∈l,EntOk x) {ps:List Pt} (hp:ps.Nodup) (hs:∀p∈ps,0≤p.i∧(dP (aS m) l h p).isSome=true):(ps.map (aPw m l h)).sum≤tot (bV m l h):=by
 have h5:=aFz ps (bV m l h) (aAu hk hn h) hp (fun p hp=>by rw [xZ hk hn (hs p hp).1];exact (hs p hp).2)
 have h6:0≤tot (aLd (bV m l h) ps):=Mon.pos fun e he=>aEe hm hE h e (aGh _ _ he)
 have h7:(ps.map fun p=>((aS (bV m l h) p).getD cn0).v)=ps.map (aPw m l h):=by
  refine List.map_congr_left fun p hp=>?_
  show ((aS (bV m l h) p).getD cn0).v=_
  rw [xZ hk hn (hs p hp).1];rfl
 rw [h7] at h5;omega
theorem Flow.fees {m:List En} {l:List Ent} {h:Int} (hF:Flow m l h) (hk:(m.map (·.1)).Nodup) (hm:∀e∈m,0≤e.2.v) (hn:(l.map (·.id)).Nodup) (hE:∀x∈l,EntOk x) (ha:l.Pairwise fun x y=>∀p,spends x p=true→spends y p=false):∀x∈l,x.fee≤tot m:=by
 have h1:=bHv (h:=h) hk hm hn hE (aTa hE ha) (fun p hp=>by obtain ⟨x,hx,hp⟩:=List.mem_flatMap.1 hp;exact hF.src x hx p hp)
 rw [aY8] at h1
 have h2:=aV4 (m:=m) (h:=h) hE
 have h3:tot (bV m l h)=tot m+tot (l.flatMap (lD m h)):=by unfold bV;rw [eT]
 have h4:=aSy (fun x=>x.fee) (fun x=>((bK x.tx).map (aPw m l h)).sum) (fun x=>(values x.tx).sum) l (fun x hx=>hF.bal x hx)
 intro x hx
 have h5:=bBb (L:=l.map fun x=>x.fee) (fun a ha=>by obtain ⟨y,hy,rfl⟩:=List.mem_map.1 ha;exact ((bG _).1 (hE y hy).fee).1) x.fee (List.mem_map.2 ⟨x,hx,rfl⟩)
 omega
theorem Flow.outs {m:List En} {l:List Ent} {h:Int} (hF:Flow m l h) (hk:(m.map (·.1)).Nodup) (hm:∀e∈m,0≤e.2.v) (hn:(l.map (·.id)).Nodup) (hE:∀x∈l,EntOk x):∀x∈l,∀o∈x.tx.outs,0≤o.v∧o.v≤tot (bV m l h):=fun x hx o ho=>by
 have h1:=bHv (h:=h) hk hm hn hE (yZ (hE x hx).check) (hF.src x hx)
 have h2:=hF.bal x hx
 have h3:=((bG _).1 (hE x hx).fee).1
 have h4:=(xG (pM (hE x hx).check)).2
 have h5:=bBb h4 o.v (List.mem_map.2 ⟨o,ho,rfl⟩)
 exact ⟨h4 o.v (List.mem_map.2 ⟨o,ho,rfl⟩),by omega⟩
theorem aWw {m:List En} {l:List Ent} {t:Tx} {h B:Int} (hB:tot (bV m l h)≤B) (hk:(m.map (·.1)).Nodup) (hm:∀e∈m,0≤e.2.v) (hn:(l.map (·.id)).Nodup) (hE:∀x∈l,EntOk x) (ht:∀p∈bK t,0≤p.i) (h0:(aY (aS m) l t h).2.1=0):tot (bV m (l++ [jY t (aY (aS m) l t h).1]) h)≤2*B:=by
 obtain ⟨hc,hg, -,hgd⟩:=eI h0
 obtain ⟨h1,h2⟩:=aN7 h0
 have h3:=bHv (h:=h) hk hm hn hE (yZ hc) (fun p hp=>⟨ht p hp,h1 p hp⟩)
 have h4:=((bG _).1 hgd).1
 have hx:EntOk (jY t (aY (aS m) l t h).1):=⟨hc,hg,hgd,rfl,rfl⟩
 have h9:=aNx m h hx
 have h11:(values (jY t (aY (aS m) l t h).1).tx).sum=(values t).sum:=rfl
 have h10:tot (bV m l h)=tot m+tot (l.flatMap (lD m h)):=by unfold bV;rw [eT]
 unfold bV
 rw [eT,List.flatMap_append,eT,List.flatMap_cons,List.flatMap_nil,List.append_nil]
 omega
theorem bGi {f:Pt→Option Cn} {l:List Ent} {a b:Tx} {h rate:Int} (h1:¬dO l (idS a)=true) (h0:(eM f l a b h rate).1=0):(bB f l a h).2.1=0∧(bB f (bZ f l a h) b h).2.1=0:=by
 by_cases h2:(bB f l a h).2.1=0
 ·refine ⟨h2,?_⟩
  by_cases h3:aM (bZ f l a h) (aZ (bZ f l a h) b)= [idS a]
  ·by_cases h4:(bB f (bZ f l a h) b h).2.1=0
   ·exact h4
   ·rw [aCy h1 h2 h3 h4] at h0;exact absurd h0 h4
  ·rw [aJ1 h1 h2 h3] at h0;exact absurd h0 (show ¬(4:Int)=0 by decide)
 ·rw [aGp h1 h2] at h0;exact absurd h0 h2
theorem bGj {m:List En} {l:List Ent} {a b:Tx} {h rate B:Int} (hF:Flow m l h) (hM:Money m l h B) (hB:0≤B) (hk:(m.map (·.1)).Nodup) (hm:∀e∈m,0≤e.2.v) (hn:(l.map (·.id)).Nodup) (hE:∀x∈l,EntOk x) (ha:∀p∈bK a,0≤p.i) (hb:∀p∈bK b,0≤p.i) (h4:a.ins.length≤4) (h5:b.ins.length≤4):Flow m (iA (aS m) l a b h rate) h∧tot (bV m (iA (aS m) l a b h rate) h)≤4*B∧(iA (aS m) l a b h rate).length≤l.length+2:=by
 have hMa:=hM.all
 by_cases h1:dO l (idS a)=true
 ·rw [(zX h1).2.2]
  have:=bG0 (f:=aS m) (t:=b) (h:=h) (rate:=rate) hn
  exact ⟨hF.acc hn hb h5,by have:=(hM.acc (rate:=rate) hk hm hn hE hb).all;omega,by omega⟩
 ·by_cases h0:(eM (aS m) l a b h rate).1=0
  ·obtain ⟨h2,h3⟩:=bGi h1 h0
   have e:iA (aS m) l a b h rate=bZ (aS m) l a h++ [jY b (bB (aS m) (bZ (aS m) l a h) b h).1]:=by unfold iA;rw [if_neg h1,if_pos h0]
   obtain ⟨p1, -, -,e1, -⟩:=rC h2
   obtain ⟨p2, -, -,e2, -⟩:=rC h3
   have ew:bZ (aS m) l a h=l++ [jY a (aY (aS m) l a h).1]:=by unfold bZ;rw [e1]
   obtain ⟨hc,hg,hh,hgd⟩:=eI p1
   have hx:EntOk (jY a (aY (aS m) l a h).1):=⟨hc,hg,hgd,rfl,rfl⟩
   rw [e,e2]
   rw [ew] at p2 ⊢
   have hE2:∀x∈l++ [jY a (aY (aS m) l a h).1],EntOk x:=fun x hx'=>by
    rcases List.mem_append.1 hx' with hx'|hx'
    ·exact hE x hx'
    ·simp only [List.mem_singleton] at hx';rw [hx'];exact hx
   have hn2:=aJ3 (f:=(aY (aS m) l a h).1) hn hh
   have t1:=aWw hMa hk hm hn hE ha p1
   have t2:=aWw t1 hk hm hn2 hE2 hb p2
   exact ⟨(hF.grow hn p1 ha h4).grow hn2 p2 hb h5,by omega,by simp⟩
  ·have e:iA (aS m) l a b h rate=l:=by unfold iA;rw [if_neg h1,if_neg h0]
   rw [e]
   exact ⟨hF,by omega,by omega⟩
end
end Go.K
namespace Go.Proofs.YtfebcajheojodaaGreatDoor
section
open Go Go.K
attribute [local irreducible] aO aU bQ KOp.wp K.Spec u32 leS vnS str aV cU cD idT aR aG aX idN bD cF bT bH cA cO aZ bA aM iC dT pD lH bC evL inS inB iG fH dN fY gE gP eQ cH dF eY fL cB bS aY bU eO eD kD dA bM iH dI bV aUw aEw EtR bB eM iA fB idS bZ tD aBi
set_option maxHeartbeats 16000000 in
set_option maxRecDepth 4000 in
theorem aQ2 {v u:Value} {vals:List Int} {sc:List PAct} {r0:Int} (w:World) (hg:EtR w) (hvals:SlR aVn [] w v vals) (hr:∀a∈vals,0≤a∧a≤65535) (hsc:SlR aLu [] w u sc) (hz:0≤r0∧r0≤65535):
  K.Spec Tryz.prog F.kedgelaw18_PackPlays [v,u,.int .u16 r0] w fun r w'=>r=.bool true∧Ext w w':=by
 obtain ⟨n0,hn0⟩:∃n:Nat,r0=(n:Int):=⟨r0.toNat,by omega⟩
 have hm0:=Nat.mod_lt n0 (show 0<8000 by decide)
 refine aAb rfl ?_
 unfold nW
 refine oy ?_
 repeat' (first|(refine zC (d:=some 23) rfl (aA1 _ (SlR.ext hvals (by exact fx)) hr) ?_;rintro vV w2 ⟨hv2,hb2,x2⟩)|(refine zC (d:=some 24) rfl (aP3 _) ?_;rintro _ w3 ⟨g,M0,rfl,G3,x3⟩)|refine aJ (d:=some 26) (.int .i64 ((n0:Nat):Int)) rfl (congrArg (fun n=>some (Value.int .i64 n)) ((bH8 hz).trans hn0)) ?_|refine sX (d:=some 27) (n:=n0) (m:=8000) rfl rfl (by decide) ?_|refine go1 ?_|refine zg λ_ _=>?_|refine zi λ_ _=>?_)
 have hc8:CoinsOk (iH vals (min vals.length 8)) 8:=(yW hr _).more (by omega)
 generalize iH vals (min vals.length 8)=V at hv2 hc8
 refine zC (d:=some 29) rfl (aFq _ (hv2.ext x3) hc8 (by decide)) ?_
 rintro _ w5 ⟨b,mb,rfl,hS5,hb5',hmb5,x5⟩
 obtain ⟨rt,hrt⟩:∃rt:Int,rt=((n0%8000:Nat):Int):=⟨_,rfl⟩
 rw [←hrt]
 have x25:Ext w2 w5:=x3.trans x5
 have G5:=G3.ext x5
 have hM03:∀y∈M0,y<w3.heap.size:=G3.lt
 have hnb:b∉M0:=fun h=>by have:=hM03 _ h;omega
 have hnmb:mb∉M0:=fun h=>by have:=hM03 _ h;omega
 have s02:=x2.size
 have x02:Ext w w2:=x2
 have hVi:∀e∈V,dV e.1.i:=fun e he=>by rw [(hc8.each e he).2.1];exact aN1
 have hVs:∀e∈V,e.2.s.size≤1000000:=fun e he=>by rw [(hc8.each e he).2.2.2.2.1];decide
 have hVp:∀e∈V,0≤e.2.v:=fun e he=>(hc8.each e he).2.2.1
 have hVt:tot V≤5242800:=by have:=(hc8.tot (by decide)).2;omega
 have hVl:V.length≤1000:=by have:=hc8.len;omega
 clear x2 x3 x5 G3 hb2 hn0 hm0 hrt hM03 hvals hr
 repeat' (first|refine zE (d':=11) (fun _=>rfl) rfl rfl rfl (fun bs w6 x6 a6 (r6:Row w6 ⟨bs,0,none⟩ (bCm b 9 rt)) hbs6=>?_)|refine zG (d:=some 35) (E:=aLu) (M:= []) (l:=sc) rfl (SlR.ext hsc (by exact fx)) ?_|refine aUf (d:=some 36) rfl rfl ?_|refine bH2 (d:=some 37) (E:=aLu) (n:=min sc.length 12) rfl rfl (by omega) hsc (by omega) rfl (fun v' hv'=>?_)|refine zG (d:=some 38) (E:=aLu) (M:= []) (l:=sc.take (min sc.length 12)) rfl (SlR.ext hv' (by exact fx)) ?_|refine go1 ?_|refine zg λ_ _=>?_|refine zi λ_ _=>?_)
 have hSl:(sc.take (min sc.length 12)).length≤12:=by rw [List.length_take];omega
 generalize sc.take (min sc.length 12)=S at*
 have x26:Ext w2 w6:=x25.trans x6
 have G6':=G5.ext x6
 have hS6':=hS5.ext x6
 have l6:=a6.lt
 have hbs0:bs∉M0:=fun h=>by have:=G5.lt _ h;omega
 clear G5 hS5 x25 x6 a6
 refine aQ (fun (p:Nat × List Ent × List Nat × Value) w'=>Ext w2 w'∧p.1≤S.length∧p.2.1.length≤2*p.1∧Gr w' w2.heap.size g p.2.2.1 p.2.1∧sZ T.coins_Set w' b mb V∧b∉p.2.2.1∧mb∉p.2.2.1∧Row w' ⟨bs,0,none⟩ (bCm b 9 rt)∧bs∉p.2.2.1∧bs<w'.heap.size∧tot (bV V p.2.1 9)≤aEw p.1∧Flow V p.2.1 9∧SlR bF p.2.2.1 w' p.2.2.2 p.2.1) (fun p=> [(7,vV),(8,.pointer (some ⟨g,0,none⟩)),(9,p.2.2.2),(10,.int .i64 rt),(11,.pointer (some ⟨bs,0,none⟩)),(37,v'),(38,.int .i64 (S.length:Nat)),(39,.int .i64 (p.1:Nat))]) (fun p=>S.length - p.1) (0, [],M0,.slice none 0 0) ⟨rfl,rfl,rfl,rfl,rfl,rfl,rfl,rfl,trivial⟩ ⟨x26,by simp,by simp,G6',hS6',hnb,hnmb,r6,hbs0,l6,by
  show tot (bV V [] 9)≤aEw 0
  have e:bV V [] 9=V:=by unfold bV;simp
  rw [e];have:=(bCw (i:=0) (by decide)).1;omega,Flow.nil V 9,SlR.nil _ _⟩ ?_
 clear G6' hS6' hnb hnmb r6 hbs0 l6 x26 hbs6
 rintro ⟨i,l,M,mV⟩ ρ w8 ⟨x28,hi,hli,G8,hS8,nb,nmb,r8,nbs,lbs,hMon,hFl,hmv⟩
 simp only at hi hli G8 nb nmb nbs hMon hFl hmv
 dsimp only
 repeat (first|refine go1 ?_|refine zg λ_ _=>?_|refine zi λ_ _=>?_)
 refine zL (x:=.tmp 40) (p:=((i:Nat):Int)<((S.length:Nat):Int)) rfl (fun h5=>?_) (fun h5=>?_)
 ·have hil:i<S.length:=by omega
  have hlen:l.length≤24:=by omega
  have hE8:=G8.ok
  have hnd8:=G8.nodup
  have hM8:=G8.lt
  have hB8:=G8.base
  have hap:=G8.r.apart
  obtain ⟨hmQ1,hmQ2⟩:=bCw (i:=i) (by omega)
  have hfee:∀x∈l,x.fee≤5242800:=fun x hx=>by have:=hFl.fees hc8.nodup hVp hnd8 hE8 hap x hx;omega
  have hMy:Money V l 9 (aEw i):=⟨hMon,fun x hx=>by have:=hfee x hx;omega⟩
  obtain ⟨hV1,hV2, -⟩:=bDh hc8 (by decide) hE8 (by omega) hMy
  obtain ⟨hV3,hos8⟩:=aIt (h:=9) hVl (show l.length≤95 by omega) hE8 hc8.nodup hnd8 hVi hVs
  have x08:=x02.trans x28
  repeat (first|refine go1 ?_|refine zg λ_ _=>?_|refine zi λ_ _=>?_)
  refine aL (d:=some 41) (E:=aLu) (M:=M) rfl rfl (n:=i) (l:=S) (SlR.step hv' x08 (by simp) (fun b hb=>.inr (by have:=hB8 b hb;omega))) rfl hil (fun ad cs r9 he=>?_)
  obtain ⟨fa,fb,e9,qa,qb⟩:=he
  rw [bMe] at e9
  subst e9
  generalize S[i]=z at*
  have onez:(bHi z fa fb).all (fun v=>v.oneCell')=true:=by
   obtain ⟨_,e1,q1, -⟩:=qa
   obtain ⟨_,e2,q2, -⟩:=qb
   simp only [jC,List.cons.injEq] at e1 e2
   obtain ⟨rfl, -⟩:=e1
   obtain ⟨rfl, -⟩:=e2
   obtain ⟨_,_,rfl⟩:=q1.form
   obtain ⟨_,_,rfl⟩:=q2.form
   rfl
  have hza:0≤z.a.fee∧z.a.fee≤65535:=by obtain ⟨_,_,_,h⟩:=qa;exact h
  obtain ⟨hW1,hW2,hW3⟩:=bDi (V:=bV V l 9) (B:=aEw i) (by omega) hV1 hV2 (z:=z.a) hza
  have gA:GoodT (bM (bV V l 9) z.a):=GoodT.make hV2 z.a
  have gB:GoodT (bM (tD (bV V l 9) (bM (bV V l 9) z.a)) z.b):=GoodT.make hW2 z.b
  obtain ⟨A,hA⟩:∃A,A=bM (bV V l 9) z.a:=⟨_,rfl⟩
  obtain ⟨Bt,hBt⟩:∃Bt,Bt=bM (tD (bV V l 9) A) z.b:=⟨_,rfl⟩
  rw [←hA] at gA gB
  rw [←hBt] at gB
  repeat (first|refine go1 ?_|refine zg λ_ _=>?_|refine zi λ_ _=>?_)
  refine zE (d':=13) (fun _=>rfl) rfl rfl onez (fun b13 w9 x9 a13 (r13:Row w9 ⟨b13,0,none⟩ (bHi z fa fb)) hb13=>?_)
  have s89:=x9.size
  have l13:=a13.lt
  have qa9:aAw.rel M w9 (jC z.a fa) z.a:=R.ext qa x9
  have qb9:aAw.rel M w9 (jC z.b fb) z.b:=R.ext qb x9
  have hM9:∀y∈M,y<w9.heap.size:=fun y hy=>nLt (hM8 y hy) s89
  have hv9:SlE gC w9 vV V:=SlE.ext (x28.trans x9) hv2
  have hmv9:=hmv.ext x9
  have ho8:∀x∈l,x.tx.outs.length≤1000:=fun x hx=>aPc (hE8 x hx)
  clear qa qb r9 a13
  refine go1 ?_
  refine zg (fun w10 x10=>?_)
  refine jA (b:=.cons ⟨none,.storeN _ _ _,_⟩ _) (fun (p:Nat × Nat × List Value × List Value) w'=>Ext w9 w'∧At w' p.1 (.cells zTx.toArray T.api_Tx (0,0))∧At w' p.2.1 (.cells zTx.toArray T.api_Tx (0,0))∧p.1≠p.2.1∧w9.heap.size≤p.1∧w9.heap.size≤p.2.1∧txR.rel (p.1::p.2.1::M) w' p.2.2.1 A∧txR.rel (p.1::p.2.1::M) w' p.2.2.2 Bt) (fun p=> [(7,vV),(8,.pointer (some ⟨g,0,none⟩)),(10,.int .i64 rt),(11,.pointer (some ⟨bs,0,none⟩)),(13,.pointer (some ⟨b13,0,none⟩)),(37,v'),(38,.int .i64 (S.length:Nat)),(39,.int .i64 (i:Nat)),(9,mV),(14,.pointer (some ⟨p.1,0,none⟩)),(15,.pointer (some ⟨p.2.1,0,none⟩)),(52,.agg p.2.2.1.toArray),(53,.agg p.2.2.2.toArray)]) ?_ ?_
  ·repeat' (first|refine zB ?_ ?_|(refine zC (d:=some 46) rfl (aCo (M:=M) (V:=V) (l:=l) 9 _ (SlE.ext (w:=w9) (by exact fx) hv9) (hmv9.ext (by exact fx)) hVl (by omega) ho8) ?_;rintro v46 w46 ⟨o46,x46⟩;have o46:=o46.sl)|refine zH (d:=some 14) (fun b14 w14 x14 a14 hb14=>?_)|refine zH (d:=some 15) (fun b15 w15 x15 a15 hb15=>?_)|(refine zC (d:=some 51) rfl (bM2 (M:=M) (V:=bV V l 9) (a:=z.a) (b:=z.b) (B:=aEw i) w9 _ (by exact fx) hM9 (SlE.ext (w:=w46) (by exact fx) o46) qa9 qb9 (by omega) hV1 ⟨by omega,hmQ2⟩ hV2) ?_;rintro _ w51 ⟨ts,us,rfl,t51,u51,x51⟩;rw [←hA] at t51 u51;rw [←hBt] at u51)|(exact ⟨(b14,b15,ts,us),⟨rfl,rfl,rfl,rfl,rfl,rfl,rfl,rfl,rfl,rfl,rfl,rfl,rfl,trivial⟩,by exact fx,At.ext (by exact fx) a14,At.ext (by exact fx) a15,(by have q1:=x46.size;have q2:=x51.size;have q3:=x14.size;have q4:=x15.size;have q5:=a14.lt;have q6:=a15.lt;have q7:=x10.size;show b14≠b15;omega),(by have q1:=x46.size;have q2:=x51.size;have q3:=x14.size;have q4:=x15.size;have q5:=a14.lt;have q6:=a15.lt;have q7:=x10.size;show w9.heap.size≤b14;omega),(by have q1:=x46.size;have q2:=x51.size;have q3:=x14.size;have q4:=x15.size;have q5:=a14.lt;have q6:=a15.lt;have q7:=x10.size;show w9.heap.size≤b15;omega),R.step txR t51 (show Ext w51 _ by exact fx) (by simp) (fun y hy=>by simp only [List.mem_cons] at hy;rcases hy with rfl|rfl|hy;exact wE (by have q1:=x46.size;have q2:=x51.size;have q3:=x14.size;have q4:=x15.size;have q5:=a14.lt;have q6:=a15.lt;have q7:=x10.size;omega);exact wE (by have q1:=x46.size;have q2:=x51.size;have q3:=x14.size;have q4:=x15.size;have q5:=a14.lt;have q6:=a15.lt;have q7:=x10.size;omega);exact .inl (aHa.2 (.inl hy))),R.step txR u51 (show Ext w51 _ by exact fx) (by simp) (fun y hy=>by simp only [List.mem_cons] at hy;rcases hy with rfl|rfl|hy;exact wE (by have q1:=x46.size;have q2:=x51.size;have q3:=x14.size;have q4:=x15.size;have q5:=a14.lt;have q6:=a15.lt;have q7:=x10.size;omega);exact wE (by have q1:=x46.size;have q2:=x51.size;have q3:=x14.size;have q4:=x15.size;have q5:=a14.lt;have q6:=a15.lt;have q7:=x10.size;omega);exact .inl (aHa.2 (.inl hy)))⟩)|refine go1 ?_|refine zg λ_ _=>?_|refine zi λ_ _=>?_)
  rintro ⟨ba,bb,ts,us⟩ ρ11 w11 ⟨x11,aA,aB,hab,hba,hbb,tA,tB⟩
  simp only at aA aB hab hba hbb tA tB
  try dsimp only
  have hN:∀y∈ba::bb::M,y∈M∨w9.heap.size≤y:=fun y hy=>by
   simp only [List.mem_cons] at hy
   rcases hy with rfl|rfl|hy
   ·exact .inr hba
   ·exact .inr hbb
   ·exact .inl hy
  obtain ⟨iv,ov,rfl, -⟩:=id tA
  obtain ⟨iv2,ov2,rfl, -⟩:=id tB
  refine cQ (b:=ba) (cur:=zTx) (vs:=aK A iv ov) rfl rfl rfl (txR.one tA) aA rfl (fun w12 c12 a12=>?_)
  refine cQ (b:=bb) (cur:=zTx) (vs:=aK Bt iv2 ov2) rfl rfl rfl (txR.one tB) (At.chg c12 aB (by simpa using Ne.symm hab)) rfl (fun w13 c13 a13=>?_)
  have x912:Ext w9 w12:=(Ext.chg x11 c12).mono (by intro y hy;simp at hy;right;omega)
  have x913:Ext w9 w13:=(Ext.chg x912 c13).mono (by intro y hy;simp at hy;right;omega)
  have aA13:=At.chg c13 a12 (by simpa using hab)
  have tA13:txR.rel (ba::bb::M) w13 (aK A iv ov) A:=R.step txR (R.step txR tA c12 (by intro y hy;simp at hy;subst hy;exact .inl (by simp)) (fun _ h=>.inl h)) c13 (by intro y hy;simp at hy;subst hy;exact .inl (by simp)) (fun _ h=>.inl h)
  have tB13:txR.rel (ba::bb::M) w13 (aK Bt iv2 ov2) Bt:=R.step txR (R.step txR tB c12 (by intro y hy;simp at hy;subst hy;exact .inl (by simp)) (fun _ h=>.inl h)) c13 (by intro y hy;simp at hy;subst hy;exact .inl (by simp)) (fun _ h=>.inl h)
  have lba:=aA13.lt
  have lbb:=a13.lt
  have hmvN:SlR bF (ba::bb::M) w13 mV l:=hmv9.step x913 (by simp) hN
  have s913:=x913.size
  clear aA aB tA tB c12 c13 a12 x11 x912
  repeat (first|refine rJ (a:=.seq (.reg false (.cons ⟨some 54,_,none⟩ _)) _) (fun (p:(Tx × Tx) × (List Value × List Value)) w'=>Ext w9 w'∧At w' ba (.cells p.2.1.toArray T.api_Tx (0,0))∧At w' bb (.cells p.2.2.toArray T.api_Tx (0,0))∧txR.rel (ba::bb::M) w' p.2.1 p.1.1∧txR.rel (ba::bb::M) w' p.2.2 p.1.2∧GoodT p.1.1∧GoodT p.1.2) (fun _=> [(7,vV),(8,.pointer (some ⟨g,0,none⟩)),(10,.int .i64 rt),(11,.pointer (some ⟨bs,0,none⟩)),(13,.pointer (some ⟨b13,0,none⟩)),(37,v'),(38,.int .i64 (S.length:Nat)),(39,.int .i64 (i:Nat)),(9,mV),(14,.pointer (some ⟨ba,0,none⟩)),(15,.pointer (some ⟨bb,0,none⟩))]) ?_ ?_|refine go1 ?_|refine zg λ_ _=>?_|refine zi λ_ _=>?_)
  ·have r13':=Row.ext x913 r13
   by_cases hl0:((l.length:Nat):Int)>0
   ·by_cases hag:((z.again.toNat:Nat):Int)<64
    ·have hl0':0<l.length:=by omega
     obtain ⟨j,hj⟩:∃j,j=z.again.toNat%l.length:=⟨_,rfl⟩
     have hjl:j<l.length:=by rw [hj];exact Nat.mod_lt _ hl0'
     repeat (first|refine zG (d:=some 55) (E:=bF) (M:=ba::bb::M) (l:=l) rfl (hmvN.ext (by exact fx)) ?_|refine aJ (d:=some 56) (.bool true) rfl (congrArg (fun b=>some (Value.bool b)) (dTr hl0)) ?_|refine aJ (d:=some 60) (.bool true) rfl (congrArg (fun b=>some (Value.bool b)) (dTr hag)) ?_|refine zG (d:=some 67) (E:=bF) (M:=ba::bb::M) (l:=l) rfl (hmvN.ext (by exact fx)) ?_|refine aJ (d:=some 65) (.int .i64 (z.again.toNat:Nat)) rfl (congrArg (fun n=>some (Value.int .i64 n)) (wrap_u8 z.again)) ?_|(refine sX (d:=some 68) (n:=z.again.toNat) (m:=l.length) rfl rfl hl0' ?_;rw [←hj])|(refine aL (d:=some 69) (E:=bF) (M:=ba::bb::M) rfl rfl (n:=j) (l:=l) (hmvN.ext (by exact fx)) rfl hjl (fun adx csx rx hx=>?_);have hx0:=hx;obtain ⟨ivx,ovx,rfl,hx1,hx2,hx3⟩:=hx)|refine go1 ?_|refine zg λ_ _=>?_|refine zi λ_ _=>?_)
     have hxm:=gMe hjl
     have tX:txR.rel (ba::bb::M) w13 (aK l[j].tx ivx ovx) l[j].tx:=⟨ivx,ovx,rfl,hx1,hx2,hx3.1,hx3.2.1⟩
     refine cQ (b:=ba) (cur:=aK A iv ov) (vs:=aK l[j].tx ivx ovx) rfl rfl rfl (txR.one tX) aA13 rfl (fun w15 c15 a15=>?_)
     have x915:Ext w9 w15:=(Ext.chg x913 c15).mono (by intro y hy;simp at hy;right;omega)
     have a13':=At.chg c15 a13 (by simpa using Ne.symm hab)
     have tX15:txR.rel (ba::bb::M) w15 (aK l[j].tx ivx ovx) l[j].tx:=R.step txR tX c15 (by intro y hy;simp at hy;subst hy;exact .inl (by simp)) (fun _ h=>.inl h)
     have hmv15:SlR bF (ba::bb::M) w15 mV l:=hmvN.step c15 (by intro y hy;simp at hy;subst hy;exact .inl (by simp)) (fun _ h=>.inl h)
     have r15:=Row.chg c15 r13' (by simp;omega)
     have hEx:=hE8 _ hxm
     have gX:GoodT l[j].tx:=⟨fE hEx.check,hFl.few _ hxm,fun p hp=>(hFl.src _ hxm p hp).1⟩
     have hxo:∀o∈l[j].tx.outs,0≤o.v∧o.v≤aEw i:=fun o ho=>by
      have:=hFl.outs hc8.nodup hVp hnd8 hE8 _ hxm o ho
      omega
     have hEs:∀y∈ [l[j]],EntOk y:=fun y hy=>by simp only [List.mem_singleton] at hy;rw [hy];exact hEx
     have s1315:=c15.size
     generalize hxe:l[j]=x at*
     refine go1 ?_
     refine zi (fun w16 x16=>?_)
     refine jA (b:=.cons ⟨some 85,_,_⟩ _) (fun (vv:Value) w'=>Ext w15 w'∧SlE gC w' vv (bV [] [x] 9)) (fun vv=> [(7,vV),(8,.pointer (some ⟨g,0,none⟩)),(10,.int .i64 rt),(11,.pointer (some ⟨bs,0,none⟩)),(13,.pointer (some ⟨b13,0,none⟩)),(37,v'),(38,.int .i64 (S.length:Nat)),(39,.int .i64 (i:Nat)),(9,mV),(14,.pointer (some ⟨ba,0,none⟩)),(15,.pointer (some ⟨bb,0,none⟩)),(82,vv),(84,.agg (jC z.b fb).toArray)]) ?_ ?_
     ·have r16:=Row.ext x16 r15
      have hmv16:=hmv15.ext x16
      clear hmv15 hmvN r13' r13 tX tX15
      repeat' (first|refine zB ?_ ?_|refine zG (d:=some 77) (E:=bF) (M:=ba::bb::M) (l:=l) rfl hmv16 ?_|refine aJ (d:=some 75) (.int .i64 (z.again.toNat:Nat)) rfl (congrArg (fun n=>some (Value.int .i64 n)) (wrap_u8 z.again)) ?_|(refine sX (d:=some 78) (n:=z.again.toNat) (m:=l.length) rfl rfl hl0' ?_;rw [←hj])|(refine aL (d:=some 79) (E:=bF) (M:=ba::bb::M) rfl rfl (n:=j) (l:=l) hmv16 rfl hjl (fun ady csy ry hy=>?_);rw [hxe] at hy;have oney:=bF.one hy;obtain ⟨ivy,ovy,rfl, -⟩:=id hy)|refine zI (d:=some 81) (cs:=bN x ivy ovy) rfl (fun bz w82 x82 az hbz=>?_)|(refine zC (d:=some 82) rfl (aCo (M:= []) (V:= []) (l:= [x]) 9 _ (SlE.nil _) (bC4 (E:=bF) (M:= []) (l:= [x]) [⟨bN x ivy ovy,rfl,oney⟩] az rfl (.cons (R.step bF hy x82 (by simp) (fun y hy=>.inr (by simp at hy;subst hy;exact hbz))) .nil) (by simp) rfl) (by simp) (by simp) (fun y hy=>(fE (hEs y hy).check).outs)) ?_;rintro v83 w83 ⟨o83,x83⟩;have o83:=o83.sl)|(exact ⟨v83,⟨rfl,rfl,rfl,rfl,rfl,rfl,rfl,rfl,rfl,rfl,rfl,rfl,rfl,trivial⟩,by exact fx,SlE.ext (by exact fx) o83⟩)|refine go1 ?_|refine zg λ_ _=>?_|refine zi λ_ _=>?_)
     rintro vv ρ17 w17 ⟨x17,o17⟩
     have x917:=x915.trans x17
     have hN17:∀y∈ba::bb::M,y<w17.heap.size:=fun y hy=>by
      have:=x17.size
      simp only [List.mem_cons] at hy
      rcases hy with rfl|rfl|hy
      ·omega
      ·omega
      ·have:=hM9 y hy;have:=x917.size;omega
     refine zC (d:=some 85) rfl (aC1 (M:=ba::bb::M) (cs:=jC z.b fb) (V:=bV [] [x] 9) (z:=z.b) (B:=aEw i) _ o17 (R.step aAw qb9 x917 (by simp) hN) (by have:=(aIt (V:= []) (l:= [x]) (h:=9) (by simp) (by simp) hEs (by simp) (by simp) (by simp) (by simp)).1;omega) (bHw hxo) ⟨by omega,by omega⟩ (aSk hEs (by simp)) hN17) ?_
     rintro _ w18 ⟨p,rfl,t18,x18⟩
     have t18:=txO.rel t18 hN17
     obtain ⟨iv8,ov8,rfl, -⟩:=id t18
     refine cQ (b:=bb) (cur:=aK Bt iv2 ov2) (vs:=aK (bM (bV [] [x] 9) z.b) iv8 ov8) rfl rfl rfl (txR.one t18) (At.ext (x17.trans x18) a13') rfl (fun w19 c19 a19=>?_)
     have x919:Ext w9 w19:=(Ext.chg (x917.trans x18) c19).mono (by intro y hy;simp at hy;right;omega)
     repeat (first|refine go1 ?_|refine zg λ_ _=>?_|refine zi λ_ _=>?_)
     exact ⟨((x.tx,bM (bV [] [x] 9) z.b),(aK x.tx ivx ovx,aK (bM (bV [] [x] 9) z.b) iv8 ov8)),⟨rfl,rfl,rfl,rfl,rfl,rfl,rfl,rfl,rfl,rfl,rfl,trivial⟩,x919,At.chg c19 (At.ext (x17.trans x18) a15) (by simpa using hab),a19,R.step txR (R.ext tX15 (x17.trans x18)) c19 (by intro y hy;simp at hy;subst hy;exact .inl (by simp)) (fun _ h=>.inl h),R.step txR t18 c19 (by intro y hy;simp at hy;subst hy;exact .inl (by simp)) (fun _ h=>.inl h),gX,GoodT.make (aSk hEs (by simp)) z.b⟩
    ·repeat (first|refine zG (d:=some 55) (E:=bF) (M:=ba::bb::M) (l:=l) rfl (hmvN.ext (by exact fx)) ?_|refine aJ (d:=some 56) (.bool true) rfl (congrArg (fun b=>some (Value.bool b)) (dTr hl0)) ?_|refine aJ (d:=some 60) (.bool false) rfl (congrArg (fun b=>some (Value.bool b)) (dFa hag)) ?_|refine go1 ?_|refine zg λ_ _=>?_|refine zi λ_ _=>?_)
     exact ⟨((A,Bt),(aK A iv ov,aK Bt iv2 ov2)),⟨rfl,rfl,rfl,rfl,rfl,rfl,rfl,rfl,rfl,rfl,rfl,trivial⟩,x913,aA13,a13,tA13,tB13,gA,gB⟩
   ·repeat (first|refine zG (d:=some 55) (E:=bF) (M:=ba::bb::M) (l:=l) rfl (hmvN.ext (by exact fx)) ?_|refine aJ (d:=some 56) (.bool false) rfl (congrArg (fun b=>some (Value.bool b)) (dFa hl0)) ?_|refine go1 ?_|refine zg λ_ _=>?_|refine zi λ_ _=>?_)
    exact ⟨((A,Bt),(aK A iv ov,aK Bt iv2 ov2)),⟨rfl,rfl,rfl,rfl,rfl,rfl,rfl,rfl,rfl,rfl,rfl,trivial⟩,x913,aA13,a13,tA13,tB13,gA,gB⟩
  rintro ⟨⟨A',B'⟩,cs',ds'⟩ ρ14 w14 ⟨x14,aA14,aB14,tA14,tB14,gA',gB'⟩
  simp only at aA14 aB14 tA14 tB14 gA' gB'
  try dsimp only
  obtain ⟨ivA,ovA,rfl, -⟩:=id tA14
  obtain ⟨ivB,ovB,rfl, -⟩:=id tB14
  have x814:=x9.trans x14
  have x214:=x28.trans x814
  have x014:=x08.trans x814
  have G14:=G8.ext x814
  have S14:=hS8.ext x814
  have rs14:=Row.ext x814 r8
  have r1314:=Row.ext x14 r13
  have rA:=Row.of_at aA14
  have rB:=Row.of_at aB14
  have hmv14:SlR bF (ba::bb::M) w14 mV l:=hmv9.step x14 (by simp) hN
  have hV14:lE w14 (.iface T.P_coins_Set (.pointer (some ⟨b,0,none⟩))) (aS V):=lE.of_set S14 hVs
  have hN14:∀y∈ba::bb::M,y<w14.heap.size:=fun y hy=>by
   have h1:=aA14.lt
   have h2:=aB14.lt
   simp only [List.mem_cons] at hy
   rcases hy with rfl|rfl|hy
   ·exact h1
   ·exact h2
   ·have:=hM9 y hy;have:=x14.size;omega
  have nA:ba∉M:=fun h=>by have:=hM9 _ h;omega
  have nB:bb∉M:=fun h=>by have:=hM9 _ h;omega
  have hfee9:∀x∈l,x.fee≤1000000000000:=fun x hx=>by have:=hfee x hx;omega
  have hid:∀x∈l,x.id.size=32:=fun x hx=>by rw [(hE8 x hx).id];exact aVx _
  have hmQ:=bFm i
  clear x913 a13 aA13 tA13 tB13 hmvN hmv9 hmv hv9 qa9 qb9 r13 r8 G8 hS8 x9 x14 x10 x28 x08 aA14 aB14 hN hV1 hV2 hW1 hW2 hW3 gA gB onez
  repeat (first|refine go1 ?_|refine zg λ_ _=>?_|refine zi λ_ _=>?_)
  refine zM (x:=.tmp 88) rfl (fun hp=>?_) (fun hp=>?_)
  ·repeat (first|refine go1 ?_|refine zg λ_ _=>?_|refine zi λ_ _=>?_)
   refine zC (d:=some 92) rfl (aKl (M:=M) (U:= []) (N:=ba::bb::M) (l:=l) (f:=aS V) (cs:=aK A' ivA ovA) (t:=A') 9 rt _ (GrU.of G14) (by simp) (by simp) hV14 tA14 gA'.sm hN14 (fun b hb=>by simp [hb]) (by omega) hfee9) ?_
   rintro _ w20 ⟨u20,er,M1,rfl,hu20,R20,G20,c20,hM20,hdis⟩
   have G20:=G20.gr
   have hll:=bG0 (f:=aS V) (t:=A') (h:=9) (rate:=rt) hnd8
   have hMon20:=(hMy.acc (rate:=rt) hc8.nodup hVp hnd8 hE8 gA'.pts).all
   have hFl20:=hFl.acc (rate:=rt) hnd8 gA'.pts gA'.few
   have hM2:∀y∈ba::bb::(M1++M),y∈ba::bb::M∨w14.heap.size≤y:=fun y hy=>by
    simp only [List.mem_cons,List.mem_append] at hy
    rcases hy with rfl|rfl|hy|hy
    ·exact .inl (by simp)
    ·exact .inl (by simp)
    ·rcases hM20 y hy with h|h
     ·exact .inl (by simp [h])
     ·exact .inr h
    ·exact .inl (by simp [hy])
   have tA20:txR.rel (ba::bb::(M1++M)) w20 (aK A' ivA ovA) A':=R.step txR tA14 c20 (fun y hy=>.inl (by simp [hy])) hM2
   have tB20:txR.rel (ba::bb::(M1++M)) w20 (aK B' ivB ovB) B':=R.step txR tB14 c20 (fun y hy=>.inl (by simp [hy])) hM2
   have hmv20:SlR bF (ba::bb::(M1++M)) w20 mV l:=hmv14.step c20 (fun y hy=>.inl (by simp [hy])) hM2
   have hN20:∀y∈ba::bb::(M1++M),y<w20.heap.size:=fun y hy=>by
    have s20:=c20.size
    simp only [List.mem_cons,List.mem_append] at hy
    rcases hy with rfl|rfl|hy|hy
    ·exact nLt (hN14 y (by simp)) s20
    ·exact nLt (hN14 y (by simp)) s20
    ·exact G20.lt y hy
    ·exact nLt (hN14 y (by simp [hy])) s20
   have x220:Ext w2 w20:=(Ext.chg x214 c20).mono (fun y hy=>.inr (hB8 y hy))
   have x020:Ext w w20:=(Ext.chg x014 c20).mono (fun y hy=>.inr (by have:=hB8 y hy;omega))
   have hS20:=S14.chg c20 nb nmb
   have rs20:=Row.chg c20 rs14 nbs
   have rA20:=Row.chg c20 rA nA
   have rB20:=Row.chg c20 rB nB
   have nb1:b∉M1:=fun h=>by
    rcases hM20 _ h with h|h
    ·exact nb h
    ·have:=S14.1.lt;omega
   have nmb1:mb∉M1:=fun h=>by
    rcases hM20 _ h with h|h
    ·exact nmb h
    ·have:=S14.2.1.lt;omega
   have nbs1:bs∉M1:=fun h=>by
    rcases hM20 _ h with h|h
    ·exact nbs h
    ·have:=x814.size;omega
   have lbs20:bs<w20.heap.size:=by have:=x814.size;have:=c20.size;omega
   have hM1l:=G20.lt
   clear c20 hmv14 hM20 tA14 tB14 rs14 rA rB S14 G14 hV14
   repeat (first|refine go1 ?_|refine zg λ_ _=>?_|refine zi λ_ _=>?_)
   refine zC (d:=some 98) rfl (aE4 (M:=ba::bb::(M1++M)) (V:=V) (l:=l) (t:=A') (cs:=aK A' ivA ovA) 9 rt _ (hv2.ext x220) hmv20 tA20 gA'.sm hVl (by omega) hE8 hc8.nodup hnd8 hV3 hos8 hfee9 hid hN20) ?_
   rintro _ w21 ⟨gl,il,rfl,hgl,hil21,x21⟩
   repeat (first|refine go1 ?_|refine zg λ_ _=>?_|refine zi λ_ _=>?_)
   exact ⟨(i+1,kD (aS V) l A' 9 rt,M1,gl),⟨rfl,rfl,rfl,rfl,rfl,rfl,rfl,rfl,trivial⟩,⟨x220.trans x21,by simp only;omega,by simp only;omega,G20.ext x21,hS20.ext x21,nb1,nmb1,Row.ext x21 rs20,nbs1,nLt lbs20 x21.size,by simp only;omega,hFl20,hgl.sub (fun y hy=>.inl (by simp [hy]))⟩,by simp only;omega⟩
  ·repeat (first|refine go1 ?_|refine zg λ_ _=>?_|refine zi λ_ _=>?_)
   refine zC (d:=some 108) rfl (aJ2 (M:=M) (U:= []) (N:=ba::bb::M) (l:=l) (f:=aS V) (cs:=aK A' ivA ovA) (ds:=aK B' ivB ovB) (a:=A') (b:=B') 9 rt _ (GrU.of G14) (by simp) (by simp) hV14 tA14 gA'.sm tB14 gB'.sm hN14 (fun b hb=>by simp [hb]) (by omega) hfee9 (gA'.sizes gB')) ?_
   rintro _ w20 ⟨u20,er,M1,rfl,hu20,R20,G20,c20,hM20,hdis⟩
   have G20:=G20.gr
   obtain ⟨hFl20,hMon20,hll⟩:=bGj (rate:=rt) hFl hMy (by omega) hc8.nodup hVp hnd8 hE8 gA'.pts gB'.pts gA'.few gB'.few
   have hil20:=(aZn (f:=aS V) (a:=A') (b:=B') (h:=9) (rate:=rt) hnd8).2
   have hM2:∀y∈ba::bb::(M1++M),y∈ba::bb::M∨w14.heap.size≤y:=fun y hy=>by
    simp only [List.mem_cons,List.mem_append] at hy
    rcases hy with rfl|rfl|hy|hy
    ·exact .inl (by simp)
    ·exact .inl (by simp)
    ·rcases hM20 y hy with h|h
     ·exact .inl (by simp [h])
     ·exact .inr h
    ·exact .inl (by simp [hy])
   have tA20:txR.rel (ba::bb::(M1++M)) w20 (aK A' ivA ovA) A':=R.step txR tA14 c20 (fun y hy=>.inl (by simp [hy])) hM2
   have tB20:txR.rel (ba::bb::(M1++M)) w20 (aK B' ivB ovB) B':=R.step txR tB14 c20 (fun y hy=>.inl (by simp [hy])) hM2
   have hmv20:SlR bF (ba::bb::(M1++M)) w20 mV l:=hmv14.step c20 (fun y hy=>.inl (by simp [hy])) hM2
   have hN20:∀y∈ba::bb::(M1++M),y<w20.heap.size:=fun y hy=>by
    have s20:=c20.size
    simp only [List.mem_cons,List.mem_append] at hy
    rcases hy with rfl|rfl|hy|hy
    ·exact nLt (hN14 y (by simp)) s20
    ·exact nLt (hN14 y (by simp)) s20
    ·exact G20.lt y hy
    ·exact nLt (hN14 y (by simp [hy])) s20
   have x220:Ext w2 w20:=(Ext.chg x214 c20).mono (fun y hy=>.inr (hB8 y hy))
   have x020:Ext w w20:=(Ext.chg x014 c20).mono (fun y hy=>.inr (by have:=hB8 y hy;omega))
   have hS20:=S14.chg c20 nb nmb
   have rs20:=Row.chg c20 rs14 nbs
   have rA20:=Row.chg c20 rA nA
   have rB20:=Row.chg c20 rB nB
   have nb1:b∉M1:=fun h=>by
    rcases hM20 _ h with h|h
    ·exact nb h
    ·have:=S14.1.lt;omega
   have nmb1:mb∉M1:=fun h=>by
    rcases hM20 _ h with h|h
    ·exact nmb h
    ·have:=S14.2.1.lt;omega
   have nbs1:bs∉M1:=fun h=>by
    rcases hM20 _ h with h|h
    ·exact nbs h
    ·have:=x814.size;omega
   have lbs20:bs<w20.heap.size:=by have:=x814.size;have:=c20.size;omega
   have hM1l:=G20.lt
   clear c20 hmv14 hM20 tA14 tB14 rs14 rA rB S14 G14 hV14
   repeat (first|refine go1 ?_|refine zg λ_ _=>?_|refine zi λ_ _=>?_)
   refine zC (d:=some 117) rfl (aMe (M:=ba::bb::(M1++M)) (V:=V) (l:=l) (a:=A') (b:=B') (cs:=aK A' ivA ovA) (ds:=aK B' ivB ovB) 9 rt _ (hv2.ext x220) hmv20 tA20 tB20 gA'.sm gB'.sm hVl (by omega) hE8 hc8.nodup hnd8 hVi hVs hfee9 hN20 (gA'.sizes gB')) ?_
   rintro _ w21 ⟨gl,il,rfl,hgl,hil21,x21⟩
   have R21:=eJ.ext x21 R20
   have hu21:=hu20.sl.ext x21
   have x021:=x020.trans x21
   have hg21:=hg.ext x021
   have G21:=G20.ext x21
   generalize hPE:eM (aS V) l A' B' 9 rt=PE at*
   generalize hPI:fB (aS V) l A' B' 9 rt=PI at*
   generalize hPL:iA (aS V) l A' B' 9 rt=PL at*
   repeat (first|refine rJ (a:=.seq (.reg false (.cons ⟨some 122,_,none⟩ _)) _) (fun (_:Unit) w'=>Ext w21 w') (fun _=> [(7,vV),(8,.pointer (some ⟨g,0,none⟩)),(10,.int .i64 rt),(11,.pointer (some ⟨bs,0,none⟩)),(13,.pointer (some ⟨b13,0,none⟩)),(37,v'),(38,.int .i64 (S.length:Nat)),(39,.int .i64 (i:Nat)),(18,gl)]) ?_ ?_|refine go1 ?_|refine zg λ_ _=>?_|refine zi λ_ _=>?_)
   ·refine zC (d:=some 123) rfl (aRu hg21 R21) ?_
    rintro _ w22 ⟨rfl,x22⟩
    repeat (first|refine aJ (d:=some 125) (.bool false) rfl (congrArg (fun b=>some (Value.bool (!b))) (dTr rfl)) ?_|refine go1 ?_|refine zg λ_ _=>?_|refine zi λ_ _=>?_)
    refine zC (d:=some 128) rfl (aO8 (hg21.ext x22) (eJ.ext x22 R21)) ?_
    rintro _ w23 ⟨rfl,x23⟩
    have x2123:=x22.trans x23
    by_cases h0:PE.1=0
    ·obtain ⟨rfl, -⟩:=R21.nil_iff.1 h0
     repeat (first|refine aJ (d:=some 130) (.bool false) rfl (congrArg (fun b=>some (Value.bool (!b))) (dTr rfl)) ?_|refine aJ (d:=some 136) (.bool true) rfl (congrArg (fun b=>some (Value.bool b)) (dTr h0)) ?_|refine go1 ?_|refine zg λ_ _=>?_|refine zi λ_ _=>?_)
     refine zC (d:=some 142) rfl (aOe _ (hu21.ext x2123) (hil21.ext x2123) rfl (by omega)) ?_
     rintro _ w24 ⟨rfl,x24⟩
     repeat (first|refine go1 ?_|refine zg λ_ _=>?_|refine zi λ_ _=>?_)
     refine zC (d:=some 148) rfl (aC3 (M:=M1) (N:=ba::bb::(M1++M)) _ (G21.ext (x2123.trans x24)).r (fun y hy=>nLt (hM1l y hy) (x21.trans (x2123.trans x24)).size) (hgl.ext (x2123.trans x24)) (by omega)) ?_
     rintro _ w25 ⟨rfl,x25⟩
     repeat (first|refine go1 ?_|refine zg λ_ _=>?_|refine zi λ_ _=>?_)
     exact ⟨(),⟨rfl,rfl,rfl,rfl,rfl,rfl,rfl,rfl,rfl,trivial⟩,(x2123.trans x24).trans x25⟩
    ·obtain ⟨et,eu,rfl⟩:=R21.nil_iff.2 h0
     repeat (first|refine aJ (d:=some 130) (.bool false) rfl (congrArg (fun b=>some (Value.bool (!b))) (dTr rfl)) ?_|refine aJ (d:=some 136) (.bool false) rfl (congrArg (fun b=>some (Value.bool b)) (dFa h0)) ?_|refine go1 ?_|refine zg λ_ _=>?_|refine zi λ_ _=>?_)
     refine zC (d:=some 142) rfl (aOe _ (hu21.ext x2123) (hil21.ext x2123) rfl (by omega)) ?_
     rintro _ w24 ⟨rfl,x24⟩
     repeat (first|refine go1 ?_|refine zg λ_ _=>?_|refine zi λ_ _=>?_)
     refine zC (d:=some 148) rfl (aC3 (M:=M1) (N:=ba::bb::(M1++M)) _ (G21.ext (x2123.trans x24)).r (fun y hy=>nLt (hM1l y hy) (x21.trans (x2123.trans x24)).size) (hgl.ext (x2123.trans x24)) (by omega)) ?_
     rintro _ w25 ⟨rfl,x25⟩
     repeat (first|refine go1 ?_|refine zg λ_ _=>?_|refine zi λ_ _=>?_)
     exact ⟨(),⟨rfl,rfl,rfl,rfl,rfl,rfl,rfl,rfl,rfl,trivial⟩,(x2123.trans x24).trans x25⟩
   rintro _ ρ26 w26 x2126
   have x2026:=x21.trans x2126
   repeat (first|refine go1 ?_|refine zg λ_ _=>?_|refine zi λ_ _=>?_)
   exact ⟨(i+1,PL,M1,gl),⟨rfl,rfl,rfl,rfl,rfl,rfl,rfl,rfl,trivial⟩,⟨x220.trans x2026,by simp only;omega,by simp only;omega,G20.ext x2026,hS20.ext x2026,nb1,nmb1,Row.ext x2026 rs20,nbs1,nLt lbs20 x2026.size,by simp only;omega,hFl20,(hgl.ext x2126).sub (fun y hy=>.inl (by simp [hy]))⟩,by simp only;omega⟩
 ·repeat (first|refine go1 ?_|refine zg λ_ _=>?_|refine zi λ_ _=>?_)
  refine zC (d:=some 153) rfl (aHj _) ?_
  rintro _ w5 ⟨rfl,x5⟩
  repeat (first|refine go1 ?_|refine zg λ_ _=>?_|refine zi λ_ _=>?_)
  exact aC rfl ⟨rfl,(x02.trans x28).trans x5⟩
end
end Go.Proofs.YtfebcajheojodaaGreatDoor
