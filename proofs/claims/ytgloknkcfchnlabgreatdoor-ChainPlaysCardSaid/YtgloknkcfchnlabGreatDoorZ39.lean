/- Plain: accepting step by step: what is there then, what stay -/
import Derived.Test.YtgloknkcfchnlabGreatDoorZ36
import Derived.Test.YtgloknkcfchnlabGreatDoorZ37
set_option linter.unusedVariables false
set_option linter.unusedSimpArgs false
namespace Go.K
section
open Go Go.Proofs.YtgloknkcfchnlabGreatDoor
section
variable {f:Pt→Option Cn} {l:List Ent} {t:Tx} {h rate:Int}
end
end
section
open Go Go.Proofs.YtgloknkcfchnlabGreatDoor
def aJw (left:Int) (k:Nat):Int:=if left.tdiv (k:Nat)<0 then 0 else left.tdiv (k:Nat)
theorem aPe {left:Int} {k:Nat} (hk:0<k) (hl: -100000≤left) {C:Int} (hC:left≤C) (h0:0≤C):0≤aJw left k∧aJw left k≤C∧ -100000≤left - aJw left k∧left - aJw left k≤C:=by
 unfold aJw
 by_cases hn:0≤left
 ·obtain ⟨n,rfl⟩:=Int.eq_ofNat_of_zero_le hn
  have e:((n:Nat):Int).tdiv (k:Nat)=((n / k:Nat):Int):=by
   rw [Int.tdiv_eq_ediv_of_nonneg (by omega)];rfl
  have:=Nat.div_le_self n k
  rw [e]
  generalize n / k=q at this ⊢
  rw [if_neg (by omega)];omega
 ·have e:left.tdiv (k:Nat)≤0:=by
   obtain ⟨n,hn2⟩:=Int.eq_ofNat_of_zero_le (show 0≤ -left by omega)
   have:left= -((n:Nat):Int):=by omega
   rw [this,Int.neg_tdiv,Int.tdiv_eq_ediv_of_nonneg (by omega)]
   have:(0:Int)≤((n:Nat):Int) / ((k:Nat):Int):=Int.ediv_nonneg (by omega) (by omega)
   omega
  split<;>omega
end
end Go.K
namespace Go.Proofs.YtgloknkcfchnlabGreatDoor
section
open Go Go.K
attribute [local irreducible] aG aK aU KOp.wp K.Spec u32 leS vnS str aN cV bH idT aV aJ aO
end
end Go.Proofs.YtgloknkcfchnlabGreatDoor
namespace Go.K
section
open Go Go.Proofs.YtgloknkcfchnlabGreatDoor
end
section
open Go Go.Proofs.YtgloknkcfchnlabGreatDoor
def idS (t:Tx):ByteArray:=if aJ t=0 then idT t else ⟨#[]⟩
theorem aT4 (t:Tx):idV t=.tuple #[.string (idS t),.int .i64 (aJ t)]:=by
 unfold idV idS
 split
 ·rename_i h;rw [h]
 ·rfl
section
variable {f:Pt→Option Cn} {l:List Ent} {a b:Tx} {h rate:Int}
end
end
section
open Go Go.Proofs.YtgloknkcfchnlabGreatDoor
theorem aUf {l:List En} {t:Tx} {i:Nat} {h:Int} (h0:(cG l t i h).2.1=0):(gL l t i h).1=0∧(fW (idT t) h 0 t.outs (iJ l t)).2=0∧(cG l t i h).1=(fW (idT t) h 0 t.outs (iJ l t)).1:=by
 by_cases h1:(gL l t i h).1=0
 ·by_cases h2:(fW (idT t) h 0 t.outs (iJ l t)).2=0
  ·refine ⟨h1,h2,?_⟩
   unfold cG
   rw [if_neg (by rw [h1];decide),if_neg (by rw [h2];decide)]
  ·unfold cG at h0
   rw [if_neg (by rw [h1];decide),if_pos h2] at h0
   exact absurd h0 h2
 ·unfold cG at h0
  rw [if_pos h1] at h0
  exact absurd h0 h1
end
end Go.K
section
namespace Go.K
open Go Go.Proofs.YtgloknkcfchnlabGreatDoor
theorem zS {l:List En} {t:Tx} {i:Nat} {h:Int} (h1:(gL l t i h).1≠0):cG l t i h=(l,gL l t i h):=by unfold cG;rw [if_pos h1]
theorem aJc {l:List En} {t:Tx} {i:Nat} {h:Int} (h1:(gL l t i h).1=0) (h2:(fW (idT t) h 0 t.outs (iJ l t)).2≠0):cG l t i h=(l,(fW (idT t) h 0 t.outs (iJ l t)).2, -1):=by unfold cG;rw [if_neg (by rw [h1];decide),if_pos h2]
theorem aN4 {l:List En} {t:Tx} {i:Nat} {h:Int} (h1:(gL l t i h).1=0) (h2:(fW (idT t) h 0 t.outs (iJ l t)).2=0):cG l t i h=((fW (idT t) h 0 t.outs (iJ l t)).1,0, -1):=by unfold cG;rw [if_neg (by rw [h1];decide),if_neg (by rw [h2];decide)]
theorem aQj {l:List En} {t:Tx} {i:Nat} {h:Int} (hg:aO t=true) (hc:aJ t≠0):gL l t i h=(aJ t, -1):=by unfold gL;rw [if_pos hg,if_pos hc]
theorem aAt {l:List En} {t:Tx} {i:Nat} {h:Int} (hg:aO t=true) (hc:aJ t=0) (h1:0<i∨t.lock≠h):gL l t i h=(4, -1):=by unfold gL;rw [if_pos hg,if_neg (by rw [hc];decide),if_pos h1]
theorem aVg {l:List En} {t:Tx} {i:Nat} {h:Int} (hg:aO t=true) (hc:aJ t=0) (h1:¬(0<i∨t.lock≠h)):gL l t i h=(0, -1):=by unfold gL;rw [if_pos hg,if_neg (by rw [hc];decide),if_neg h1]
theorem aQu {l:List En} {t:Tx} {i:Nat} {h:Int} (hg:aO t=false):gL l t i h=(gY (aX l) t h).2:=by unfold gL;rw [if_neg (by rw [hg];decide)]
end Go.K
namespace Go.Proofs.YtgloknkcfchnlabGreatDoor
open Go Go.K
attribute [local irreducible] aG aK aU KOp.wp K.Spec u32 leS vnS str aN aJ aO bH idT aV inE gY gL fW cG cS cH cC bZ aS bS
set_option maxHeartbeats 1000000 in
theorem aRj {b mb:Nat} {M:List Nat} {cs:List Value} {t:Tx} {l:List En} (i:Nat) (h:Int) (w:World) (hS:dD T.coins_Set w b mb l) (hsc:SC l) (ht:txR.rel M w cs t) (hs:t.Sm):
  K.Spec Tryz.prog F.block_may [.pointer (some ⟨b,0,none⟩),.agg cs.toArray,.int .i64 (i:Nat),.int .i64 h] w fun r w'=>dA w' 1 r (gL l t i h).1 (gL l t i h).2∧Ext w w':=by
 have ht0:=ht
 have hl6:∀e∈l,e.2.s.size≤1000000:=fun e he=>by have:=(hsc e he).1;omega
 obtain ⟨iv,ov,rfl,h1,h2,h3,h4⟩:=ht
 have h41:=h4.1
 have h42:=h4.2
 refine aK9 rfl ?_
 unfold aDc
 refine oy ?_
 cases hgr:aO t with
 |true=>
  by_cases hc:aJ t=0
  ·repeat' (first|refine zD (d:=some 5) rfl rfl (fun bp wp xp ap (rp:Row wp ⟨bp,0,none⟩ (aT t iv ov)) hp0=>?_)|(refine zC (d:=some 13) rfl (iO (M:=M) (t:=t) (cs:=aT t iv ov) _ (R.ext ht0 (by exact fx)) hs) ?_;rintro _ w1 ⟨rfl,x1⟩;rw [hgr])|(refine zC (d:=some 25) rfl (nL (M:=M) (t:=t) (cs:=aT t iv ov) _ (R.ext ht0 (by exact fx)) hs) ?_;rintro _ w2 ⟨rfl,x2⟩;rw [hc])|refine aD (d:=some 35) (.int .i64 t.lock) rfl (congrArg (fun n=>some (Value.int .i64 n)) (IntWalk.i64_in _ (by omega))) ?_|refine zJ (t:=32) (p:=((i:Nat):Int)>0) rfl (fun hi0=>?_) (fun hi0=>?_)|refine zN (x:=.tmp 38) (p:=t.lock=h) rfl (fun hl0=>?_) (fun hl0=>?_)|refine go1 ?_|refine zg λ_ _=>?_|refine zi λ_ _=>?_)
   ·exact aB rfl ⟨by rw [aAt (l:=l) hgr hc (h:=h) (i:=i) (.inl (by omega))];exact dA.num _ 1 (by decide),by exact fx⟩
   ·exact aB rfl ⟨by rw [aAt (l:=l) hgr hc (h:=h) (i:=i) (.inr hl0)];exact dA.num _ 1 (by decide),by exact fx⟩
   ·exact aB rfl ⟨by rw [aVg (l:=l) hgr hc (h:=h) (i:=i) (by omega)];exact dA.none_ _ 1,by exact fx⟩
  ·repeat' (first|refine zD (d:=some 5) rfl rfl (fun bp wp xp ap (rp:Row wp ⟨bp,0,none⟩ (aT t iv ov)) hp0=>?_)|(refine zC (d:=some 13) rfl (iO (M:=M) (t:=t) (cs:=aT t iv ov) _ (R.ext ht0 (by exact fx)) hs) ?_;rintro _ w1 ⟨rfl,x1⟩;rw [hgr])|(refine zC (d:=some 25) rfl (nL (M:=M) (t:=t) (cs:=aT t iv ov) _ (R.ext ht0 (by exact fx)) hs) ?_;rintro _ w2 ⟨rfl,x2⟩)|refine zN (x:=.tmp 27) (p:=aJ t=0) rfl (fun _=>?_) (fun h=>absurd h hc)|refine go1 ?_|refine zg λ_ _=>?_|refine zi λ_ _=>?_)
   exact aB rfl ⟨by rw [aQj (l:=l) hgr hc (h:=h) (i:=i)];exact dA.num _ 1 hc,by exact fx⟩
 |false=>
  repeat' (first|refine zD (d:=some 5) rfl rfl (fun bp wp xp ap (rp:Row wp ⟨bp,0,none⟩ (aT t iv ov)) hp0=>?_)|(refine zC (d:=some 13) rfl (iO (M:=M) (t:=t) (cs:=aT t iv ov) _ (R.ext ht0 (by exact fx)) hs) ?_;rintro _ w1 ⟨rfl,x1⟩;rw [hgr])|(refine zC (d:=some 20) rfl (aTy (M:=M) (t:=t) (cs:=aT t iv ov) h _ (bAt (hS.ext (by exact fx)) hl6) (R.ext ht0 (by exact fx)) hs) ?_;rintro _ w2 ⟨e,rfl,he,x2⟩)|refine go1 ?_|refine zg λ_ _=>?_|refine zi λ_ _=>?_)
  exact aB rfl ⟨by rw [aQu (l:=l) (h:=h) (i:=i) hgr];exact he.ext (by exact fx),by exact fx⟩
set_option maxHeartbeats 1000000 in
theorem aH7 {b mb:Nat} {M:List Nat} {cs:List Value} {t:Tx} {m:List En} (h:Int) (w:World) (hS:dD T.coins_Set w b mb m) (hb:b∈M) (hmb:mb∈M) (ht:txR.rel M w cs t) (hs:t.Sm) (hc:aJ t=0):
  K.Spec Tryz.prog F.block_pay [.pointer (some ⟨b,0,none⟩),.agg cs.toArray,.int .i64 h] w fun r w'=>(r=if (fW (idT t) h 0 t.outs m).2=0 then .nilIface else yW (fW (idT t) h 0 t.outs m).2)∧dD T.coins_Set w' b mb (fW (idT t) h 0 t.outs m).1∧Chg [b,mb] w w':=by
 have ht0:=ht
 have hlt:=hS.lt
 have hout:=hs.outs
 obtain ⟨iv,ov,rfl,h1,h2,h3,h4⟩:=ht
 refine aLw rfl ?_
 unfold aCx
 refine oy ?_
 repeat' (first|refine zD (d:=some 4) rfl rfl (fun bp wp xp ap (rp:Row wp ⟨bp,0,none⟩ (aT t iv ov)) hp0=>?_)|(refine zC (d:=some 14) rfl (aP1 (M:=M) (t:=t) (cs:=aT t iv ov) _ (R.ext ht0 (by exact fx)) hs) ?_;rintro _ w1 ⟨rfl,x1⟩;rw [aT4,show idS t=idT t by unfold idS;rw [if_pos hc]])|refine zG (d:=some 19) (E:=cZ) (M:=M) (l:=t.outs) rfl (SlR.ext h2 (by exact fx)) ?_|(refine aL (fun (p:Nat × List En) w'=>Chg [b,mb] w1 w'∧p.1≤t.outs.length∧dD T.coins_Set w' b mb p.2∧vW (idT t) h t.outs m p.1 p.2) (fun p=> [(0,.pointer (some ⟨b,0,none⟩)),(2,.int .i64 h),(7,.string (idT t)),(18,ov),(19,.int .i64 (t.outs.length:Nat)),(20,.int .i64 (p.1:Nat))]) (fun p=>t.outs.length - p.1) (0,m) ⟨rfl,rfl,rfl,rfl,rfl,rfl,trivial⟩ ⟨Chg.refl _ _,by simp,hS.ext (by exact fx),aFl⟩ ?_;rintro ⟨k,mk⟩ ρ w4 ⟨c4,hk,hSk,hpk⟩;simp only at hk hSk hpk;dsimp only)|refine zL (x:=.tmp 21) (p:=((k:Nat):Int)<((t.outs.length:Nat):Int)) rfl (fun h9=>?_) (fun h9=>?_)|refine go1 ?_|refine zg λ_ _=>?_|refine zi λ_ _=>?_)
 ·have hkl:k<t.outs.length:=by omega
  have x01:Ext w w1:=xp.trans x1
  have c04:Chg [b,mb] w w4:=(Chg.trans x01 c4).mono (by simp)
  have h24:SlR cZ M w4 ov t.outs:=h2.step c04 (fun y hy=>.inl (by simp at hy;rcases hy with rfl|rfl<;>assumption)) (fun y hy=>.inl hy)
  have s4:=c04.size
  have c14':Unit→Chg [b,mb] w1 w4:=fun _=>c4
  clear xp x1 c4 x01
  repeat (first|(refine aM (d:=some 23) (E:=cZ) (M:=M) rfl rfl (n:=k) (l:=t.outs) h24 rfl hkl (fun ad cs r4 he=>?_);obtain ⟨rfl,hv64⟩:=he)|refine zH (d:=some 10) (fun b10 w5 x5 a5 hb5=>?_)|refine go1 ?_|refine zg λ_ _=>?_|refine zi λ_ _=>?_)
  refine bA (w0:=w4) (n:=2) (vs:=aFk t.outs[k]) x5 hb5 a5 rfl rfl rfl rfl rfl (fun w6 x6 c6 a6 r6=>?_)
  repeat (first|refine aD (d:=some 28) (.int .u32 (k:Nat)) rfl (congrArg (fun n=>some (Value.int .u32 n)) (by rw [wrap32];omega)) ?_|refine bT (d:=some 29) (cs:=(⟨idT t,(k:Nat)⟩:Pt).cs) rfl ?_|refine bT (d:=some 32) (cs:=(outC t.outs[k] h).cs) rfl ?_|refine go1 ?_|refine zg λ_ _=>?_|refine zi λ_ _=>?_)
  refine zC (d:=some 33) rfl (aHy ⟨idT t,(k:Nat)⟩ (outC t.outs[k] h) _ (hSk.ext x6)) ?_
  rintro _ w7 ⟨rfl,S7,c7⟩
  have c17:Chg [b,mb] w w7:=(c04.trans (Chg.trans x6 c7)).mono (by simp)
  by_cases h6:aS mk ⟨idT t,(k:Nat)⟩ (outC t.outs[k] h)=0
  ·rw [h6]
   repeat (first|refine go1 ?_|refine zg λ_ _=>?_|refine zi λ_ _=>?_)
   exact ⟨(k+1,bZ mk ⟨idT t,(k:Nat)⟩ (outC t.outs[k] h)),⟨rfl,rfl,rfl,rfl,rfl,rfl,trivial⟩,⟨((c14' ()).trans (Chg.trans x6 c7)).mono (by simp),by simp only;omega,S7,aF7 hkl hpk h6⟩,by simp only;omega⟩
  ·repeat (first|refine zN (x:=.tmp 35) (p:=aS mk ⟨idT t,(k:Nat)⟩ (outC t.outs[k] h)=0) rfl (fun _=>?_) (fun h=>absurd h h6)|refine go1 ?_|refine zg λ_ _=>?_|refine zi λ_ _=>?_)
   have e:=aG8 hkl hpk h6
   have e3:bZ mk ⟨idT t,(k:Nat)⟩ (outC t.outs[k] h)=mk:=by unfold bZ;rw [if_neg h6]
   rw [e3] at S7
   exact aB rfl ⟨by rw [e];simp only;rw [if_neg h6];rfl,by rw [e];exact S7,c17⟩
 ·have e:=aHe (by omega) hpk
  repeat (first|refine go1 ?_|refine zg λ_ _=>?_|refine zi λ_ _=>?_)
  exact aB rfl ⟨by rw [e];rfl,by rw [e];exact hSk,(Chg.trans (show Ext w w1 from xp.trans x1) c4).mono (by simp)⟩
end Go.Proofs.YtgloknkcfchnlabGreatDoor
end
namespace Go.Proofs.YtgloknkcfchnlabGreatDoor
section
open Go Go.K
attribute [local irreducible] aG aK aU KOp.wp K.Spec u32 leS vnS str aN aJ aO bH idT aV
set_option maxHeartbeats 1000000 in
theorem nQ {M N:List Nat} {v:Value} {txs:List Tx} (w:World) (hx:SlR txR N w v txs) (hs:∀t∈txs,t.Sm) (hMN:∀b∈M,b∈N∨w.heap.size≤b) (hM:∀b∈M,b<w.heap.size) (hk0:txs.length≤1000):K.Spec Tryz.prog F.chain_copies [v] w fun r w'=>bD txR T.api_Tx w.heap.size M w' r txs∧Ext w w':=by
 refine aE8 rfl ?_
 unfold sT
 refine oy ?_
 repeat' (first|refine zG (d:=some 7) (E:=txR) (M:=N) (l:=txs) rfl hx ?_|(refine aL (fun (p:Nat × Value) w'=>Ext w w'∧p.1≤txs.length∧bD txR T.api_Tx w.heap.size M w' p.2 (txs.take p.1)) (fun p=> [(3,p.2),(6,v),(7,.int .i64 (txs.length:Nat)),(8,.int .i64 (p.1:Nat))]) (fun p=>txs.length - p.1) (0,.slice none 0 0) ⟨rfl,rfl,rfl,rfl,trivial⟩ ⟨Ext.refl _,by simp,bD.nil _ _ _ _⟩ ?_;rintro ⟨k,v3⟩ ρ w2 ⟨x2,hk,ho⟩;simp only at hk ho;dsimp only)|refine zL (x:=.tmp 9) (p:=((k:Nat):Int)<((txs.length:Nat):Int)) rfl (fun h9=>?_) (fun h9=>?_)|refine go1 ?_|refine zg λ_ _=>?_|refine zi λ_ _=>?_)
 ·have hkl:k<txs.length:=by omega
  have hst:=hs _ (gMe hkl)
  have hb3:=ho.base
  have hl3:=ho.lt
  have s2:=x2.size
  have hx2:SlR txR (aH v3++M) w2 v txs:=hx.step x2 (by simp) (fun b hb=>(List.mem_append.1 hb).elim (fun h=>.inr (hb3 b h)) (hMN b))
  have x02':Unit→Ext w w2:=fun _=>x2
  have hll:(txs.take k).length≤k:=by rw [List.length_take];omega
  obtain ⟨t,ht⟩:∃t,t=txs[k]:=⟨_,rfl⟩
  rw [←ht] at hst
  clear x2
  repeat (first|(refine aM (d:=some 10) (E:=txR) (M:=aH v3++M) rfl rfl (n:=k) (l:=txs) hx2 rfl hkl (fun ad cs r4 he=>?_);rw [←ht] at he;obtain ⟨iv,ov,rfl,p1,p2,p3⟩:=id he;have o1:=p1.one;have o2:=p2.one)|refine zE (d':=5) (fun _=>rfl) rfl rfl (txR.one he |> List.all_eq_true.2) (fun b5 w4 x4 a4 (r5:Row w4 ⟨b5,0,none⟩ (aT t iv ov)) hb5=>?_)|refine go1 ?_|refine zg λ_ _=>?_|refine zi λ_ _=>?_)
  refine zC (d:=some 14) rfl (aL8 (M:=aH v3++M) (cs:=aT t iv ov) (t:=t) _ (R.ext he x4) hst (fun b hb=>nLt ((List.mem_append.1 hb).elim (hl3 b) (fun h=>by have:=hM b h;omega)) x4.size)) ?_
  rintro _ w5 ⟨cs',rfl,tO,x5⟩
  have tO5:=tO.rel (fun b hb=>nLt ((List.mem_append.1 hb).elim (hl3 b) (fun h=>by have:=hM b h;omega)) x4.size)
  obtain ⟨iv',ov',rfl, -, -, -⟩:=id tO5
  repeat (first|refine zI (d:=some 15) (cs:=aT t iv' ov') rfl (fun b6 w6 x6 a6 hb6=>?_)|refine fM (d:=some 16) (E:=txR) (M:=M) (v:=v3) (cs:=aT t iv' ov') (a:=t) rfl rfl (ho.ext (by exact fx)) (nTr s2 (Ext.size (show Ext w2 _ by exact fx))) rfl rfl a6 (R.ext tO5 x6) (by omega) (fun v7 w7 o7 c7 hb7=>?_)|refine go1 ?_|refine zg λ_ _=>?_|refine zi λ_ _=>?_)
  exact ⟨(k+1,v7),⟨rfl,rfl,rfl,rfl,trivial⟩,⟨(Ext.chg ((x02' ()).trans (show Ext w2 w6 by exact fx)) c7).mono (fun b hb=>.inr (hb3 b hb)),by simp only;omega,by simp only;rw [List.take_succ_eq_append_getElem hkl,←ht];exact o7⟩,by simp only;omega⟩
 ·have e:txs.take k=txs:=tLe (by omega)
  rw [e] at ho
  repeat (first|refine go1 ?_|refine zg λ_ _=>?_|refine zi λ_ _=>?_)
  exact aB rfl ⟨ho,x2⟩
end
section
open Go Go.K
attribute [local irreducible] aG aK aU KOp.wp K.Spec u32 leS vnS str aN aJ aO bH idT aV inE gY gL fW cG cS cH cC bZ aS bS bO hD qD
set_option maxHeartbeats 2000000 in
theorem aRt {b mb:Nat} {M:List Nat} {cs:List Value} {t:Tx} {l:List En} (i:Nat) (h:Int) (w:World) (hS:dD T.coins_Set w b mb l) (hg:CG l) (hsc:SC l) (hb:b∈M) (hmb:mb∈M) (ht:txR.rel M w cs t) (hs:t.Sm):
  K.Spec Tryz.prog F.block_apply [.pointer (some ⟨b,0,none⟩),.agg cs.toArray,.int .i64 (i:Nat),.int .i64 h] w fun r w'=>dA w' 1 r (cG l t i h).2.1 (cG l t i h).2.2∧(∃l',dD T.coins_Set w' b mb l'∧((cG l t i h).2.1=0→l'=(cG l t i h).1))∧Chg [b,mb] w w':=by
 have ht0:=ht
 have hlt:=hS.lt
 have hin:=hs.ins
 obtain ⟨iv,ov,rfl,h1,h2,h3,h4⟩:=ht
 have sub:∀y∈ [b,mb],y∈M:=by intro y hy;simp at hy;rcases hy with rfl|rfl<;>assumption
 refine aGv rfl ?_
 unfold vP
 refine oy ?_
 repeat (first|refine zD (d:=some 5) rfl rfl (fun bp wp xp ap (rp:Row wp ⟨bp,0,none⟩ (aT t iv ov)) hp0=>?_)|refine go1 ?_|refine zg λ_ _=>?_|refine zi λ_ _=>?_)
 refine zC (d:=some 16) rfl (aRj (M:=M) (t:=t) (cs:=aT t iv ov) (l:=l) i h _ (hS.ext xp) hsc (R.ext ht0 xp) hs) ?_
 rintro e w1 ⟨he,x1⟩
 have x01:=xp.trans x1
 have lp:=ap.lt
 have rp1:Row w1 ⟨bp,0,none⟩ (aT t iv ov):=Row.ext x1 rp
 by_cases hm:(gL l t i h).1=0
 ·obtain ⟨rfl, -⟩:=he.nil_iff.1 hm
  have hc:=uP hm
  have S1:=hS.ext x01
  have ht1:=R.ext ht0 x01
  have s01:=x01.size
  have lbp:bp<w1.heap.size:=nLt lp x1.size
  have hbn:bp∉ [b,mb]:=by simp;omega
  clear xp x1 ap rp he
  cases hgr:aO t with
  |true=>
   have hmid:iJ l t=l:=by unfold iJ;rw [if_pos hgr]
   repeat (first|(refine zC (d:=some 21) rfl (iO (M:=M) (t:=t) (cs:=aT t iv ov) _ (R.ext ht1 (by exact fx)) hs) ?_;rintro _ w2 ⟨rfl,x2⟩;rw [hgr])|refine go1 ?_|refine zg λ_ _=>?_|refine zi λ_ _=>?_)
   refine zC (d:=some 38) rfl (aH7 (M:=M) (t:=t) (cs:=aT t iv ov) (m:=l) h _ (S1.ext x2) hb hmb (R.ext ht1 x2) hs hc) ?_
   rintro _ w3 ⟨rfl,S3,c3⟩
   rw [←hmid] at S3
   have c03:Chg [b,mb] w w3:=(Chg.trans x01 (Chg.trans x2 c3)).mono (by simp)
   by_cases hp:(fW (idT t) h 0 t.outs (iJ l t)).2=0
   ·rw [hmid] at hp
    rw [if_pos hp]
    rw [←hmid] at hp
    have e:=aN4 hm hp
    repeat (first|refine go1 ?_|refine zg λ_ _=>?_|refine zi λ_ _=>?_)
    exact aB rfl ⟨by rw [e];exact dA.none_ _ 1,⟨_,S3,fun _=>by rw [e]⟩,c03⟩
   ·rw [hmid] at hp
    rw [if_neg hp]
    rw [←hmid] at hp
    have e:=aJc hm hp
    repeat (first|refine go1 ?_|refine zg λ_ _=>?_|refine zi λ_ _=>?_)
    exact aB rfl ⟨by rw [e,hmid];rw [hmid] at hp;exact dA.num _ 1 hp,⟨_,S3,fun q=>absurd (by rw [e] at q;exact q) hp⟩,c03⟩
  |false=>
   have hmid:iJ l t=cS l t.ins:=by unfold iJ;rw [if_neg (by rw [hgr];decide)]
   have h11:SlR inR M w1 iv t.ins:=h1.ext x01
   repeat' (first|(refine zC (d:=some 21) rfl (iO (M:=M) (t:=t) (cs:=aT t iv ov) _ (R.ext ht1 (by exact fx)) hs) ?_;rintro _ w2 ⟨rfl,x2⟩;rw [hgr])|refine zG (d:=some 25) (E:=inR) (M:=M) (l:=t.ins) rfl (SlR.ext h11 (by exact fx)) ?_|(refine aL (fun (p:Nat) w'=>Chg [b,mb] w1 w'∧p≤t.ins.length∧dD T.coins_Set w' b mb (cS l (t.ins.take p))) (fun p=> [(0,.pointer (some ⟨b,0,none⟩)),(3,.int .i64 h),(5,.pointer (some ⟨bp,0,none⟩)),(24,iv),(25,.int .i64 (t.ins.length:Nat)),(26,.int .i64 (p:Nat))]) (fun p=>t.ins.length - p) 0 ⟨rfl,rfl,rfl,rfl,rfl,rfl,trivial⟩ ⟨Chg.mono x2 (by simp),by simp,by unfold cS;exact S1.ext (by exact fx)⟩ ?_;rintro k ρ w4 ⟨c4,hk,S4⟩)|refine zL (x:=.tmp 27) (p:=((k:Nat):Int)<((t.ins.length:Nat):Int)) rfl (fun h9=>?_) (fun h9=>?_)|refine go1 ?_|refine zg λ_ _=>?_|refine zi λ_ _=>?_)
   ·have hkl:k<t.ins.length:=by omega
    have h14:SlR inR M w4 iv t.ins:=h11.step c4 (fun y hy=>.inl (sub y hy)) (fun y hy=>.inl hy)
    have s4:=c4.size
    repeat (first|(refine aM (d:=some 28) (E:=inR) (M:=M) rfl rfl (n:=k) (l:=t.ins) h14 rfl hkl (fun ad cs r4 he=>?_);obtain ⟨wv,rfl,hwv,hp5,hp6⟩:=he)|refine zE (d':=11) (fun _=>rfl) rfl rfl (by have:=hwv.one;simp [fX,this];exact ⟨rfl,rfl,rfl⟩) (fun b7 w7 x7 a7 (r7:Row w7 ⟨b7,0,none⟩ (fX t.ins[k] wv)) hb7=>?_)|refine go1 ?_|refine zg λ_ _=>?_|refine zi λ_ _=>?_)
    refine zC (d:=some 33) rfl (aFf t.ins[k].p _ (S4.ext x7)) ?_
    rintro _ w8 ⟨rfl,S8,c8⟩
    repeat (first|refine go1 ?_|refine zg λ_ _=>?_|refine zi λ_ _=>?_)
    exact ⟨k+1,⟨rfl,rfl,rfl,rfl,rfl,rfl,trivial⟩,⟨(c4.trans (Chg.trans x7 c8)).mono (by simp),by omega,by rw [qP hkl];exact S8⟩,by omega⟩
   ·have e:t.ins.take k=t.ins:=tLe (by omega)
    rw [e] at S4
    have ht4:txR.rel M w4 (aT t iv ov) t:=R.step txR ht1 c4 (fun y hy=>.inl (sub y hy)) (fun y hy=>.inl hy)
    have rp4:Row w4 ⟨bp,0,none⟩ (aT t iv ov):=Row.chg c4 rp1 hbn
    rw [←hmid] at S4
    repeat (first|refine go1 ?_|refine zg λ_ _=>?_|refine zi λ_ _=>?_)
    refine zC (d:=some 38) rfl (aH7 (M:=M) (t:=t) (cs:=aT t iv ov) (m:=iJ l t) h _ S4 hb hmb ht4 hs hc) ?_
    rintro _ w5 ⟨rfl,S5,c5⟩
    have c05:Chg [b,mb] w w5:=(Chg.trans x01 (c4.trans c5)).mono (by simp)
    by_cases hp:(fW (idT t) h 0 t.outs (iJ l t)).2=0
    ·rw [if_pos hp]
     have e:=aN4 hm hp
     repeat (first|refine go1 ?_|refine zg λ_ _=>?_|refine zi λ_ _=>?_)
     exact aB rfl ⟨by rw [e];exact dA.none_ _ 1,⟨_,S5,fun _=>by rw [e]⟩,c05⟩
    ·rw [if_neg hp]
     have e:=aJc hm hp
     repeat (first|refine go1 ?_|refine zg λ_ _=>?_|refine zi λ_ _=>?_)
     exact aB rfl ⟨by rw [e];exact dA.num _ 1 hp,⟨_,S5,fun q=>absurd (by rw [e] at q;exact q) hp⟩,c05⟩
 ·obtain ⟨et,eu,rfl⟩:=he.nil_iff.2 hm
  have e:=zS hm
  repeat (first|refine go1 ?_|refine zg λ_ _=>?_|refine zi λ_ _=>?_)
  exact aB rfl ⟨by rw [e];exact he,⟨l,hS.ext x01,fun q=>absurd (by rw [e] at q;exact q) hm⟩,Chg.mono x01 (by simp)⟩
end
end Go.Proofs.YtgloknkcfchnlabGreatDoor
namespace Go.K
section
open Go Go.Proofs.YtgloknkcfchnlabGreatDoor
structure BSm where
 spends:List UInt8
 tag:UInt8
 fee:Int
 outs:Int
 pays:UInt8
 delay:UInt8
 height:UInt8
 grant:Bool
 odd:Bool
instance:Inhabited BSm:=⟨⟨[],0,0,0,0,0,0,false,false⟩⟩
def mL (z:BSm) (fv:Value):List Value:= [fv,u8V z.tag,.int .u16 z.fee,.int .u16 z.outs,u8V z.pays,u8V z.delay,u8V z.height,.bool z.grant,.bool z.odd]
def pA:R BSm where
 k:=9
 pos:=by decide
 ag:=true
 rel:=fun M w cs z=>∃fv,cs=mL z fv∧SlR u8R M w fv z.spends∧(0≤z.fee∧z.fee≤65535)∧0≤z.outs∧z.outs≤65535
 len:=fun ⟨_,h,_⟩=>by rw [h];rfl
 one:=fun ⟨fv,h,hs,_⟩ v hv=>by
  obtain ⟨b,c,rfl⟩:=hs.form
  subst h;simp [mL] at hv;rcases hv with rfl|rfl|rfl|rfl|rfl|rfl|rfl|rfl|rfl<;>rfl
 step:=fun ⟨fv,h,hs,h2⟩ c hL hM=>⟨fv,h,hs.step c hL hM,h2⟩
structure BAct where
 act:UInt8
 txs:List BSm
instance:Inhabited BAct:=⟨⟨0, []⟩⟩
def aA0:R BAct where
 k:=2
 pos:=by decide
 ag:=true
 rel:=fun M w cs a=>∃tv,cs= [u8V a.act,tv]∧SlR pA M w tv a.txs
 len:=fun ⟨_,h,_⟩=>by rw [h];rfl
 one:=fun ⟨tv,h,hs⟩ v hv=>by
  obtain ⟨b,c,rfl⟩:=hs.form
  subst h;simp at hv;rcases hv with rfl|rfl<;>rfl
 step:=fun ⟨tv,h,hs⟩ c hL hM=>⟨tv,h,hs.step c hL hM⟩
structure MkOk (t:Tx):Prop where
 ins:t.ins.length≤4
 outs:t.outs.length≤3
 wit:∀x∈t.ins,x.wit.length≤1
 vals:∀o∈t.outs,0≤o.v∧o.v≤8400000000000000
theorem MkOk.sm {t:Tx} (h:MkOk t):t.Sm:=⟨by have:=h.ins;omega,by have:=h.outs;omega,fun x hx=>by have:=h.wit x hx;omega⟩
end
section
open Go Go.Proofs.YtgloknkcfchnlabGreatDoor
end
end Go.K
