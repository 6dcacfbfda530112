/- Contracts: views over no graph, and over no coins. The walk  -/
import Derived.Test.YtgloknkcfchnlaaGreatZ38
set_option linter.unusedVariables false
set_option linter.unusedSimpArgs false
namespace Go.Proofs.YtgloknkcfchnlaaGreat
section
open Go Go.K
attribute [local irreducible] aF aP bG KOp.wp K.Spec u32 leS vnS str aR dE bS idT aO aE aQ
set_option maxHeartbeats 1000000 in
theorem bMr {w:World} {v:Value} {f:Pt→Option Cn} (h:Int) (hV:eH w v f):eH w (aAx v (.pointer none) h) f:=by
 obtain ⟨⟨t,u,rfl,hv⟩,hz⟩:=hV
 refine ⟨⟨_,_,rfl,fun p hp w1 x1=>⟨F.pool_over_Get,.agg #[.iface t u,.pointer none,.int .i64 h],by kernel_rfl,by kernel_rfl,by kernel_rfl,?_⟩⟩,hz⟩
 refine tK rfl ?_
 unfold nJ
 refine oy ?_
 repeat (first|refine zD (d:=some 2) (cs:= [.iface t u,.pointer none,.int .i64 h]) rfl rfl (fun b2 w2 x2 a2 (r2:Row w2 ⟨b2,0,none⟩ [.iface t u,.pointer none,.int .i64 h]) hb2=>?_)|refine zD (d:=some 3) (cs:=p.cs) rfl rfl (fun b3 w3 x3 a3 (r3:Row w3 ⟨b3,0,none⟩ p.cs) hb3=>?_)|(refine zH (d:=some 4) (fun b4 w4 x4 a4 hb4=>?_);have x14:Unit→Ext w1 w4:=(fun _=>by exact fx);have h14:w1.heap.size≤b4:=nTr (Ext.size (show Ext w1 w3 by exact fx)) hb4)|refine go1 ?_|refine zg λ_ _=>?_|refine zi λ_ _=>?_)
 obtain ⟨fn,rv,_,hm,hb,hS⟩:=hv p hp w4 (x1.trans (x14 ()))
 refine uQ (d:=some 17) rfl hm hb rfl hS ?_
 rintro _ w6 ⟨c,rfl,hc,x6⟩
 obtain ⟨bb,hbb⟩:∃bb,(f p).isSome=bb:=⟨_,rfl⟩
 rw [hbb]
 cases bb with
 |true=>
  repeat (first|refine go1 ?_|refine zg λ_ _=>?_|refine zi λ_ _=>?_)
  refine zE (d':=6) (fun _=>rfl) rfl rfl rfl (fun b7 w7 x7 a7 (r7:Row w7 ⟨b7,0,none⟩ c.cs) hb7=>?_)
  repeat (first|refine go1 ?_|refine zg λ_ _=>?_|refine zi λ_ _=>?_)
  have a7':At w7 b4 _:=At.ext x7 (At.ext x6 a4)
  have x17:Ext w1 w7:=(x14 ()).trans (x6.trans x7)
  refine aU (w0:=w1) (vs:=c.cs) x17 h14 a7' rfl rfl rfl rfl rfl (fun w9 x9 c9 a9 r9=>?_)
  repeat (first|refine go1 ?_|refine zg λ_ _=>?_|refine zi λ_ _=>?_)
  exact aA (iR (bD r9 rfl rfl) bJ) ⟨_,rfl,hc,x9⟩
 |false=>
  have hf:f p=none:=by simpa using hbb
  repeat' (first|(refine zC (d:=some 26) rfl (bNq p _) ?_;rintro _ w5 ⟨rfl,x5⟩)|refine zE (d':=6) (fun _=>rfl) rfl rfl rfl (fun b7 w7 x7 a7 (r7:Row w7 ⟨b7,0,none⟩ c.cs) hb7=>?_)|refine zE (d':=8) (fun _=>rfl) rfl rfl rfl (fun b8 w8 x8 a8 r8 hb8=>?_)|refine aT (d:=some 31) (cs:=cZ) rfl ?_|refine go1 ?_|refine zg λ_ _=>?_|refine zi λ_ _=>?_)
  refine aU (w0:=w1) (vs:=cZ) ((x14 ()).trans (x6.trans (x7.trans (x5.trans x8)))) h14 (At.ext x8 (At.ext x5 (At.ext x7 (At.ext x6 a4)))) rfl rfl rfl rfl rfl (fun w9 x9 c9 a9 r9=>?_)
  repeat (first|refine go1 ?_|refine zg λ_ _=>?_|refine zi λ_ _=>?_)
  exact aA (iR (bD r9 rfl rfl) bJ) ⟨cn0,rfl,by rw [hf];rfl,x9⟩
set_option maxHeartbeats 1000000 in
theorem bHr {w:World} {g:Nat} {M:List Nat} {l:List Ent} (h:Int) (hG:GrR w g M l) (hM:∀b∈M,b<w.heap.size):eH w (aAx .nilIface (.pointer (some ⟨g,0,none⟩)) h) (rC l h):=by
 have hE:=hG.ok
 refine ⟨⟨_,_,rfl,fun p hp w1 x1=>⟨F.pool_over_Get,.agg #[.nilIface,.pointer (some ⟨g,0,none⟩),.int .i64 h],by kernel_rfl,by kernel_rfl,by kernel_rfl,?_⟩⟩,fun p c hc=>bBn hE hc⟩
 replace hG:=hG.ext x1
 replace hM:∀b∈M,b<w1.heap.size:=fun b hb=>nLt (hM b hb) x1.size
 refine tK rfl ?_
 unfold nJ
 refine oy ?_
 repeat (first|refine zD (d:=some 2) (cs:= [.nilIface,.pointer (some ⟨g,0,none⟩),.int .i64 h]) rfl rfl (fun b2 w2 x2 a2 (r2:Row w2 ⟨b2,0,none⟩ [.nilIface,.pointer (some ⟨g,0,none⟩),.int .i64 h]) hb2=>?_)|refine zD (d:=some 3) (cs:=p.cs) rfl rfl (fun b3 w3 x3 a3 (r3:Row w3 ⟨b3,0,none⟩ p.cs) hb3=>?_)|(refine zH (d:=some 4) (fun b4 w4 x4 a4 hb4=>?_);have x14:Unit→Ext w1 w4:=(fun _=>by exact fx);have h14:w1.heap.size≤b4:=nTr (Ext.size (show Ext w1 w3 by exact fx)) hb4)|refine go1 ?_|refine zg λ_ _=>?_|refine zi λ_ _=>?_)
 refine zC (d:=some 26) rfl (aA9 (M:=M) (l:=l) p hp _ (hG.ext (by exact fx)) (fun b hb=>nLt (hM b hb) (Ext.size (by exact fx)))) ?_
 rintro _ w5 ⟨o,rfl,ho5,x5⟩
 cases ho:cV l p with
 |false=>
  have e:rC l h p=none:=by unfold rC;rw [ho];rfl
  rw [e]
  repeat' (first|refine zE (d':=8) (fun _=>rfl) rfl rfl rfl (fun b8 w8 x8 a8 (r8:Row w8 ⟨b8,0,none⟩ (iI o)) hb8=>?_)|refine aT (d:=some 31) (cs:=cZ) rfl ?_|refine go1 ?_|refine zg λ_ _=>?_|refine zi λ_ _=>?_)
  refine aU (w0:=w1) (vs:=cZ) ((x14 ()).trans (x5.trans x8)) h14 (At.ext x8 (At.ext x5 a4)) rfl rfl rfl rfl rfl (fun w9 x9 c9 a9 r9=>?_)
  repeat (first|refine go1 ?_|refine zg λ_ _=>?_|refine zi λ_ _=>?_)
  exact aA (iR (bD r9 rfl rfl) bJ) ⟨cn0,rfl,rfl,x9⟩
 |true=>
  have ho6:=ho5 ho
  have e:rC l h p=some ⟨o.v,o.s,h⟩:=by
   unfold rC
   rw [if_pos ho,show (dV l p.s).tx.outs[p.i.toNat]? =some o from ho6];rfl
  rw [e]
  repeat' (first|refine zE (d':=8) (fun _=>rfl) rfl rfl rfl (fun b8 w8 x8 a8 (r8:Row w8 ⟨b8,0,none⟩ (iI o)) hb8=>?_)|refine aT (d:=some 35) (cs:=Cn.cs ⟨o.v,o.s,h⟩) rfl ?_|refine go1 ?_|refine zg λ_ _=>?_|refine zi λ_ _=>?_)
  refine aU (w0:=w1) (vs:=Cn.cs ⟨o.v,o.s,h⟩) ((x14 ()).trans (x5.trans x8)) h14 (At.ext x8 (At.ext x5 a4)) rfl rfl rfl rfl rfl (fun w9 x9 c9 a9 r9=>?_)
  repeat (first|refine go1 ?_|refine zg λ_ _=>?_|refine zi λ_ _=>?_)
  exact aA (iR (bD r9 rfl rfl) bJ) ⟨_,rfl,rfl,x9⟩
theorem bQ7 {l:List Ent} (h:Int) {p:Pt} (hp:0≤p.i):(rC l h p).isSome=cV l p:=by
 unfold rC
 by_cases ho:cV l p=true
 ·rw [if_pos ho,ho]
  have h1:=(Bool.and_eq_true _ _▸ho:_∧_).2
  have h2:=of_decide_eq_true h1
  rw [List.getElem?_eq_getElem (show p.i.toNat<(dV l p.s).tx.outs.length by omega)];rfl
 ·rw [if_neg ho]
  rw [Bool.not_eq_true] at ho
  rw [ho];rfl
theorem bGo (c:Cn):cO [.i,.s,.i] c.cs c.cs=some true:=by simp [cO,kH,Cn.cs]
end
section
open Go Go.K
theorem aR1 (V:List En) (q:Pt):(∃n,∃h:n<V.length,fC V q=(n:Nat)∧aL V q=some V[n].2)∨(fC V q= -1∧aL V q=none):=by
 unfold fC
 cases hi:eD V q with
 |none=>exact .inr ⟨rfl,mY hi⟩
 |some n=>exact .inl ⟨n,aDg hi,rfl,mX hi (aDg hi)⟩
theorem aN9 {V:List En} {l:List Ent} (hV:V.length≤8) (hl:l.length≤10) (hE:∀x∈l,EntOk x) (h:Int):(cX V l h).length≤20000:=by
 have h2:=aLa (V:=V) (h:=h) (fun x hx=>lG (hE x hx))
 unfold cX
 rw [List.length_append];omega
theorem bD9 {V:List En} {l:List Ent} (hc:CoinsOk V 8) (hE:∀x∈l,EntOk x) (h:Int):∀e∈cX V l h,dM e.1.i:=by
 intro e he
 rcases uR.1 he with h5|⟨x,hx,j,hj,rfl, -⟩
 ·rw [(hc.each e h5).2.1];unfold dM;omega
 ·have:=lG (hE x hx)
  show dM ((j:Nat):Int)
  unfold dM;omega
theorem aQa {w:World} {t:TypeId} {u:Value} {f:Pt→Option Cn} (h:eH w (.iface t u) f) {q:Pt} (hq:dM q.i) {w1:World} (x:Ext w w1):∃fn rv,sJ Tryz.prog t u "Get" =some (fn,rv)∧cK Tryz.prog fn=true∧K.Spec Tryz.prog fn [rv,.agg q.cs.toArray] w1 fun r w2=>∃c:Cn,r=.tuple #[.agg c.cs.toArray,.bool (f q).isSome]∧(f q).getD cn0=c∧Ext w1 w2:=by
 obtain ⟨⟨t',u',e,h⟩, -⟩:=h
 cases e
 obtain ⟨fn,rv, -,h2,h3,h4⟩:=h q hq w1 x
 exact ⟨fn,rv,h2,h3,h4⟩
attribute [local irreducible] aF aP bG KOp.wp K.Spec u32 leS vnS str aR dE bS idT aO aE aQ idN bB cH bY bT cE eO bF cI aK kI fP qT mQ bV evL inS inB jH fY jR gY gT nU gC dN gD dZ jN cF bU aV bK dU cG cN dB bE gL bQ cX nS rC gU fC
abbrev aO0 (b:Nat) (h rate:Int):List Value:= [.iface T.P_coins_Set (.pointer (some ⟨b,0,none⟩)),.int .i64 h,.int .i64 rate]
set_option maxHeartbeats 4000000 in
theorem bM6 {v u:Value} {vals:List Int} {sc:List PSm} {p:Pt} (w:World) (hvals:SlR aLx [] w v vals) (hr:∀a∈vals,0≤a∧a≤65535) (hsc:SlR jK [] w u sc) (hp:dM p.i):
  K.Spec Tryz.prog F.kedgelaw17_PoolOver [v,u,.agg p.cs.toArray] w fun r w'=>r=.bool true∧Ext w w':=by
 refine aC0 rfl ?_
 unfold rE
 refine oy ?_
 repeat' (first|refine zD (d:=some 5) (cs:=p.cs) rfl rfl (fun bp w1 x1 a1 (r1:Row w1 ⟨bp,0,none⟩ p.cs) hbp=>?_)|(refine zC (d:=some 29) rfl (lX _ (SlR.ext hvals (by exact fx)) hr) ?_;rintro vV w2 ⟨hv2,hb2,x2⟩)|refine go1 ?_|refine zg λ_ _=>?_|refine zi λ_ _=>?_)
 have hc8:CoinsOk (gL vals (min vals.length 8)) 8:=(rY hr _).more (by omega)
 generalize gL vals (min vals.length 8)=V at hv2 hc8
 refine zC rfl (aBh _) ?_
 rintro _ w3 ⟨g,M0,rfl,G3,x3⟩
 repeat' (first|(refine zC (d:=some 32) rfl (aBz _ (SlE.ext (w:=w2) (by exact fx) hv2) hc8 (by decide)) ?_;rintro _ w4 ⟨b,mb,rfl,hS4,hb4,hmb4,x4⟩)|refine zE (d':=9) (fun _=>rfl) rfl rfl rfl (fun bs w5 x5 a5 (r5:Row w5 ⟨bs,0,none⟩ (aO0 b 9 0)) hbs5=>?_)|refine zG (d:=some 37) (E:=jK) (M:= []) (l:=sc) rfl (SlR.ext hsc (by exact fx)) ?_|refine aH3 (d:=some 38) rfl rfl ?_|refine tE (d:=some 39) (E:=jK) (n:=min sc.length 10) rfl rfl (by omega) hsc (by omega) rfl (fun v' hv'=>?_)|refine zG (d:=some 40) (E:=jK) (M:= []) (l:=sc.take (min sc.length 10)) rfl (SlR.ext hv' (by exact fx)) ?_|refine go1 ?_|refine zg λ_ _=>?_|refine zi λ_ _=>?_)
 have hSl:(sc.take (min sc.length 10)).length≤10:=by rw [List.length_take];omega
 generalize sc.take (min sc.length 10)=S at*
 have hB3:=G3.base
 have hM03:=G3.lt
 have l5:=a5.lt
 have s23:=x3.size
 have s34:=x4.size
 have s45:=x5.size
 have s02:w.heap.size≤w2.heap.size:=Ext.size (show Ext w w2 by exact fx)
 have x25:Unit→Ext w2 w5:=fun _=>x3.trans (x4.trans x5)
 have x05:Unit→Ext w w5:=fun _=>by exact fx
 have n1:b∉M0:=fun h=>by have:=hM03 b h;omega
 have n2:mb∉M0:=fun h=>by have:=hM03 mb h;omega
 have n3:bs∉M0:=fun h=>by have:=hM03 bs h;omega
 have G5:=G3.ext (x4.trans x5)
 have hS5:=hS4.ext x5
 have a12:=a1.ext x2
 have l1:=a12.lt
 have rp2:Row w2 ⟨bp,0,none⟩ p.cs:=Row.ext x2 r1
 have hbpB:bp<w2.heap.size:=l1
 clear x2 x3 x4 x5 a5 G3 hM03 hS4 hvals a1 r1 a12 x1
 repeat' (first|(refine aI (a:=.seq _ (.seq (.cond _ _ _) (.seq (.block 1 _) _))) (fun (p:Nat × List Ent × List Nat) w'=>Ext w2 w'∧Ext w w'∧p.1≤S.length∧p.2.1.length≤p.1∧Gr w' w2.heap.size g p.2.2 p.2.1∧Row w' ⟨bs,0,none⟩ (aO0 b 9 0)∧bs∉p.2.2∧bs<w'.heap.size∧mD T.coins_Set w' b mb V∧b∉p.2.2∧mb∉p.2.2∧Money V p.2.1 9 (nS p.1)) (fun p=> [(5,.pointer (some ⟨bp,0,none⟩)),(7,vV),(8,.pointer (some ⟨g,0,none⟩)),(9,.pointer (some ⟨bs,0,none⟩)),(39,v'),(40,.int .i64 (S.length:Nat)),(41,.int .i64 p.1)]) (fun p=>S.length - p.1) (0, [],M0) ⟨rfl,rfl,rfl,rfl,rfl,rfl,rfl,trivial⟩ ⟨x25 (),x05 (),by simp,by simp,G5,r5,n3,l5,hS5,n1,n2,aVz hc8 9⟩ ?_;rintro ⟨i,l,M⟩ ρ w6 ⟨x26,x06,hi,hli,G6,r6,hbsM,lbs,hS6,hbM,hmbM,hMon⟩;simp only at hi hli G6 hbsM hbM hmbM hMon;dsimp only)|refine zL (x:=.tmp 42) (p:=((i:Nat):Int)<((S.length:Nat):Int)) rfl (fun h5=>?_) (fun h5=>?_)|refine go1 ?_|refine zg λ_ _=>?_|refine zi λ_ _=>?_)
 ·clear G5 r5 hS5
  have hil:i<S.length:=by omega
  have hlen:l.length≤1000:=by omega
  have hE6:=G6.ok
  have hnd6:=G6.nodup
  have hM6:=G6.lt
  have hB6:=G6.base
  obtain ⟨hV1,hV2,hV3⟩:=aB6 hc8 (by decide) hE6 hlen hMon
  have hmb:=wT (i:=i) (by omega)
  refine aM (d:=some 43) (E:=jK) (M:=M) rfl rfl (n:=i) (l:=S) (SlR.step hv' x06 (by simp) (fun b hb=>.inr (by have:=hB6 b hb;omega))) rfl hil (fun ad cs r7 he=>?_)
  obtain ⟨fv,rfl,q6,q2⟩:=he
  generalize S[i]=z at*
  obtain ⟨t,ht⟩:∃t,t=bE (cX V l 9) z:=⟨_,rfl⟩
  have hsmt:t.Sm:=by rw [ht];exact jY _ _
  have x26':Unit→Ext w2 w6:=fun _=>x26
  have x06':Unit→Ext w w6:=fun _=>x06
  clear x26 x06
  repeat' (first|refine zE (d':=11) (fun _=>rfl) rfl rfl (by obtain ⟨_,_,rfl⟩:=q6.form;rfl) (fun b12 w7 x7 a12 (r12:Row w7 ⟨b12,0,none⟩ (gF z fv)) hb12=>?_)|refine zg (fun w9 x9=>?_)|refine zi (fun w9 x9=>?_)|refine dJ (b:=.cons ⟨some 53,_,_⟩ _) (fun (p:List Value) w'=>Ext w6 w'∧txR.rel M w' p t) (fun p=> [(5,.pointer (some ⟨bp,0,none⟩)),(7,vV),(8,.pointer (some ⟨g,0,none⟩)),(9,.pointer (some ⟨bs,0,none⟩)),(39,v'),(40,.int .i64 (S.length:Nat)),(41,.int .i64 i),(45,.pointer (some ⟨g,0,none⟩)),(51,.agg p.toArray),(52,.agg (aO0 b 9 0).toArray)]) ?_ ?_|(rintro p ρ9 w10 ⟨x610,t10⟩;try dsimp only)|refine zB ?_ ?_|(refine zC (d:=some 48) rfl (eK (M:=M) (l:=l) _ (G6.ext (by exact fx)).r (fun b hb=>nLt (hM6 b hb) (Ext.size (by exact fx))) (by omega)) ?_;rintro u55 w55 ⟨o55,x55⟩;have o55:=(o55.sub (M':= []) (by simp)).sl (by simp))|(refine zC (d:=some 49) rfl (kY (M:= []) (V:=V) (l:=l) 9 _ (SlE.ext (w:=w2) ((x26' ()).trans (by exact fx)) hv2) (o55.ext (by exact fx)) (by have:=hc8.len;omega) hlen (fun x hx=>lG (hE6 x hx))) ?_;rintro v56 w56 ⟨o56,x56⟩;have o56:=o56.sl)|(refine zC (d:=some 51) rfl (gQ (M:=M) (V:=cX V l 9) (z:=z) (B:=nS i) _ (SlE.ext (w:=w56) (by exact fx) o56) ⟨fv,rfl,q6.step (show Ext w6 _ by exact fx) (by simp) (fun _ h=>.inl h),q2⟩ hV3 hV1 ⟨hmb.1,by have:=hmb.2;omega⟩ hV2 (fun x hx=>nLt (hM6 x hx) (Ext.size (by exact fx)))) ?_;rintro _ w58 ⟨p,rfl,tB,x58⟩;have tB:=txO.rel tB (fun x hx=>nLt (hM6 x hx) (Ext.size (by exact fx)));rw [←ht] at tB)|(exact ⟨p,⟨rfl,rfl,rfl,rfl,rfl,rfl,rfl,rfl,rfl,rfl,trivial⟩,by exact fx,R.ext tB (by exact fx)⟩)|refine go1 ?_|refine zg λ_ _=>?_|refine zi λ_ _=>?_)
  have G10:=G6.ext x610
  have hS10:=hS6.ext x610
  have hll:(cN (aL V) l t 9 0).length≤l.length+1:=aHq hnd6
  refine zC (d:=some 53) rfl (pL (M:=M) (N:=M) (l:=l) (f:=aL V) (t:=t) 9 0 _ G10 (eH.of_set hS10 (fun e he=>by rw [(hc8.each e he).2.2.2.2.1];decide)) t10 hsmt (fun b hb=>nLt (hM6 b hb) x610.size) (fun _ h=>h) hlen (fun x hx=>by have:=hMon.fee x hx;omega)) ?_
  rintro _ w14 ⟨u14,er,M1,rfl, -, -,G14,c14,hM14, -⟩
  have s610:=x610.size
  have s1014:=c14.size
  have hMon14:Money V (cN (aL V) l t 9 0) 9 (nS (i+1)):=hMon.step hc8 hnd6 hE6 hlen ht
  have x214:Ext w2 w14:=(Ext.chg ((x26' ()).trans x610) c14).mono (fun b hb=>.inr (hB6 b hb))
  have x014:Ext w w14:=(Ext.chg ((x06' ()).trans x610) c14).mono (fun b hb=>.inr (by have:=hB6 b hb;omega))
  have lb:=hS10.at_.lt
  have lmb:=hS10.2.1.lt
  have new:∀y,y<w10.heap.size→y∉M→y∉M1:=fun y h1 h2 h3=>by
   rcases hM14 y h3 with h|h
   ·exact h2 h
   ·omega
  have rs14:Row w14 ⟨bs,0,none⟩ (aO0 b 9 0):=Row.chg c14 (Row.ext x610 r6) hbsM
  have hS14:=hS10.chg c14 hbM hmbM
  repeat' (first|refine go1 ?_|refine zg λ_ _=>?_|refine zi λ_ _=>?_)
  exact ⟨(i+1,cN (aL V) l t 9 0,M1),⟨rfl,rfl,rfl,rfl,rfl,rfl,rfl,trivial⟩,⟨x214,x014,by simp;omega,by simp;omega,G14,rs14,new _ (by omega) hbsM,by omega,hS14,new _ lb hbM,new _ lmb hmbM,hMon14⟩,by simp;omega⟩
 ·clear G5 r5 hS5
  have hlen:l.length≤1000:=by omega
  have hE6:=G6.ok
  have hnd6:=G6.nodup
  have hM6:=G6.lt
  have rp6:Row w6 ⟨bp,0,none⟩ p.cs:=Row.ext x26 rp2
  have hv6:=SlE.ext x26 hv2
  have hVl:=hc8.len
  have hvl:=aN9 (V:=V) hVl (by omega) hE6 7
  have h32:=bD9 hc8 hE6 7
  have hV6:eH w6 (.iface T.P_coins_Set (.pointer (some ⟨b,0,none⟩))) (aL V):=eH.of_set hS6 (fun e he=>by rw [(hc8.each e he).2.2.2.2.1];decide)
  have v13:=aUj 7 hV6 G6.r hM6
  have v14:=bHr 7 G6.r hM6
  have v15:=bMr 7 hV6
  have hkeys:=hc8.nodup
  repeat' (first|(refine zC (d:=some 57) rfl (eK (M:=M) (l:=l) _ (G6.ext (by exact fx)).r (fun b hb=>nLt (hM6 b hb) (Ext.size (by exact fx))) (by omega)) ?_;rintro u7 w7 ⟨o7,x7⟩;have o7:=(o7.sub (M':= []) (by simp)).sl (by simp))|(refine zC (d:=some 58) rfl (kY (M:= []) (V:=V) (l:=l) 7 _ (SlE.ext (w:=w6) (by exact fx) hv6) (o7.ext (by exact fx)) (by omega) hlen (fun x hx=>lG (hE6 x hx))) ?_;rintro v8 w8 ⟨o8,x8⟩)|(refine zC (d:=some 62) rfl (aG5 T.P_coins_Set (.pointer (some ⟨b,0,none⟩)) (some ⟨g,0,none⟩) 7 _) ?_;rintro _ w9 ⟨rfl,x9⟩)|(refine zC (d:=some 64) rfl (bEh (some ⟨g,0,none⟩) 7 _) ?_;rintro _ w10 ⟨rfl,x10⟩)|(refine zC (d:=some 67) rfl (aG5 T.P_coins_Set (.pointer (some ⟨b,0,none⟩)) none 7 _) ?_;rintro _ w11 ⟨rfl,x11⟩)|refine aT (d:=some 80) (cs:=bM.f (p,cn0)) rfl ?_|refine zI (d:=some 81) (cs:=bM.f (p,cn0)) rfl (fun b12 w12 x12 a12 hb12=>?_)|refine go1 ?_|refine zg λ_ _=>?_|refine zi λ_ _=>?_)
  have x812':Unit→Ext w8 w12:=fun _=>by exact fx
  have x612:Ext w6 w12:=by exact fx
  have s67:=x7.size
  refine kX (d:=some 82) (E:=bM) (v:=v8) (l2:= [(p,cn0)]) rfl (o8.ext (x812' ())) (nTr x8.size (x812' ()).size) rfl rfl (dX a12 rfl) rfl rfl (by simp only [List.length_cons,List.length_nil];omega) (fun v13' w13 o13 hold c13 _=>?_)
  have x613:Unit→Ext w6 w13:=fun _=>(Ext.chg x612 c13).mono (fun y hy=>.inr (by have:=o8.base y hy;omega))
  obtain ⟨X,hX⟩:∃X,X=cX V l 7++ [(p,cn0)]:=⟨_,rfl⟩
  rw [←hX] at o13
  have o13:=o13.sl
  have hXl:X.length≤20001:=by rw [hX,List.length_append];simp;omega
  have hX32:∀e∈X,dM e.1.i:=fun e he=>by
   rw [hX] at he
   rcases List.mem_append.1 he with he|he
   ·exact h32 e he
   ·simp only [List.mem_singleton] at he;subst he;exact hp
  have hget:∀q:Pt,0≤q.i→aL (cX V l 7) q=gU (aL V) l 7 q:=fun q hq=>aQb hkeys hnd6 hq
  have hv13:=hv6.ext (x613 ())
  have G13:=G6.ext (x613 ())
  have hM13:∀y∈M,y<w13.heap.size:=fun y hy=>nLt (hM6 y hy) (x613 ()).size
  have u13:=v13.ext (x613 ())
  have u14:=v14.ext (x613 ())
  have u15:=v15.ext (x613 ())
  have x013:Unit→Ext w w13:=fun _=>x06.trans (x613 ())
  clear x812' x7 o7 o8 x8 x9 x10 x11 x12 a12 hb12 x612 c13 v13 v14 v15 hV6 rp6 hv6 hS6 r6 x613
  generalize cX V l 7=L7 at*
  clear x06 x26 hMon hsc hv2 hv' hX
  repeat' (first|refine aY (d:=some 83) rfl o13 ?_|(refine aI (a:=.seq _ (.seq (.cond _ _ _) (.seq (.block 3 _) _))) (fun (k:Nat) w'=>Ext w13 w'∧k≤X.length) (fun k=> [(5,.pointer (some ⟨bp,0,none⟩)),(7,vV),(8,.pointer (some ⟨g,0,none⟩)),(12,v8),(13,aAx (.iface T.P_coins_Set (.pointer (some ⟨b,0,none⟩))) (.pointer (some ⟨g,0,none⟩)) 7),(14,aAx .nilIface (.pointer (some ⟨g,0,none⟩)) 7),(15,aAx (.iface T.P_coins_Set (.pointer (some ⟨b,0,none⟩))) (.pointer none) 7),(82,v13'),(83,.int .i64 (X.length:Nat)),(84,.int .i64 k)]) (fun k=>X.length - k) 0 ⟨rfl,rfl,rfl,rfl,rfl,rfl,rfl,rfl,rfl,rfl,trivial⟩ ⟨Ext.refl _,by simp⟩ ?_;rintro k ρ14 w14 ⟨x14,hk⟩)|refine zL (x:=.tmp 85) (p:=((k:Nat):Int)<((X.length:Nat):Int)) rfl (fun h6=>?_) (fun h6=>?_)|refine go1 ?_|refine zg λ_ _=>?_|refine zi λ_ _=>?_)
  ·have hkl:k<X.length:=by omega
   have hq:=hX32 _ (gMe hkl)
   have hq64: -9223372036854775808≤X[k].1.i∧X[k].1.i≤9223372036854775807:=by have:=hq.1;have:=hq.2;omega
   refine aS (d:=some 86) (E:=bM) rfl rfl (n:=k) (l:=X) (SlE.ext x14 o13) rfl hkl (fun ad r7=>?_)
   generalize X[k]=e at*
   repeat' (first|refine zE (d':=17) (fun _=>rfl) rfl rfl rfl (fun b17 w17 x17 a17 (r17:Row w17 ⟨b17,0,none⟩ (bM.f e)) hb17=>?_)|(refine zC (d:=some 91) rfl (pM e.1 _ (SlE.ext (w:=w13) (by exact fx) hold) (by omega)) ?_;rintro _ w18 ⟨rfl,x18⟩)|refine go1 ?_|refine zg λ_ _=>?_|refine zi λ_ _=>?_)
   obtain ⟨fn,rv,hm,hbd,hS⟩:=aQa u13 hq (show Ext w13 w18 by exact fx)
   refine uQ (d:=some 96) rfl hm hbd rfl hS ?_
   rintro _ w19 ⟨c,rfl,hc,x19⟩
   rw [←hget _ hq.1] at hc ⊢
   have hv9:∀{w'},Ext w13 w'→SlE bM w' v8 L7:=fun x=>SlE.ext x hold
   have x1319:Unit→Ext w13 w19:=fun _=>by exact fx
   have r19:Row w19 ⟨b17,0,none⟩ (bM.f e):=Row.ext (show Ext w17 w19 by exact fx) r17
   clear x14 x17 x18 x19 r17 a17 r7 hS
   repeat (first|refine go1 ?_|refine zg λ_ _=>?_|refine zi λ_ _=>?_)
   refine zE (d':=19) (vs:=c.cs) (fun _=>rfl) rfl rfl rfl (fun b20 w20 x20 a20 (r20:Row w20 ⟨b20,0,none⟩ c.cs) hb20=>?_)
   (first|refine go1 ?_|refine zg λ_ _=>?_|refine zi λ_ _=>?_)
   (first|refine go1 ?_|refine zg λ_ _=>?_|refine zi λ_ _=>?_)
   refine lD (a:=.seq (.reg true (.join (.cons ⟨some 99,_,none⟩ _) _)) _) (fun (_:Unit) w'=>Ext w19 w') (fun _=> [(5,.pointer (some ⟨bp,0,none⟩)),(7,vV),(8,.pointer (some ⟨g,0,none⟩)),(12,v8),(13,aAx (.iface T.P_coins_Set (.pointer (some ⟨b,0,none⟩))) (.pointer (some ⟨g,0,none⟩)) 7),(14,aAx .nilIface (.pointer (some ⟨g,0,none⟩)) 7),(15,aAx (.iface T.P_coins_Set (.pointer (some ⟨b,0,none⟩))) (.pointer none) 7),(82,v13'),(83,.int .i64 (X.length:Nat)),(84,.int .i64 k),(17,.pointer (some ⟨b17,0,none⟩))]) ?_ ?_
   ·refine zg (fun w21 x21=>?_)
    have hvn:=hv9 ((x1319 ()).trans (x20.trans x21))
    rcases aR1 L7 e.1 with ⟨n,hn,hf1,hf2⟩|⟨hf1,hf2⟩
    ·rw [hf2] at hc ⊢
     rw [hf1,Option.isSome_some]
     have hc:c=L7[n].2:=hc.symm
     rw [hc] at r20
     repeat' (first|refine aD (d:=some 101) (.bool true) rfl (congrArg (fun b=>some (Value.bool b)) (dTr (by omega))) ?_|refine aD (d:=some 102) (.bool false) rfl rfl ?_|refine aS (d:=some 109) (E:=bM) rfl rfl (n:=n) (l:=L7) hvn rfl hn (fun ad9 r9=>?_)|refine aD (d:=some 112) (.bool false) rfl (congrArg (fun o:Option Bool=>o.map fun b=>Value.bool (if true=true then !b else b)) (bGo L7[n].2)) ?_|refine go1 ?_|refine zg λ_ _=>?_|refine zi λ_ _=>?_)
     exact ⟨(),⟨rfl,rfl,rfl,rfl,rfl,rfl,rfl,rfl,rfl,rfl,rfl,trivial⟩,by exact fx⟩
    ·rw [hf2] at hc ⊢
     rw [hf1,Option.isSome_none]
     have hc:c=cn0:=hc.symm
     rw [hc] at r20
     repeat' (first|refine aT (d:=some 120) (cs:=cn0.cs) rfl ?_|refine aD (d:=some 121) (.bool false) rfl (congrArg (fun o:Option Bool=>o.map fun b=>Value.bool (if true=true then !b else b)) (bGo cn0)) ?_|refine go1 ?_|refine zg λ_ _=>?_|refine zi λ_ _=>?_)
     exact ⟨(),⟨rfl,rfl,rfl,rfl,rfl,rfl,rfl,rfl,rfl,rfl,rfl,trivial⟩,by exact fx⟩
   ·clear r20 a20 x20
    rintro _ ρ21 w21 x21
    have r21:Row w21 ⟨b17,0,none⟩ (bM.f e):=Row.ext x21 r19
    have x1321:Unit→Ext w13 w21:=fun _=>(x1319 ()).trans x21
    clear x21 r19 hc
    have fin:(rC l 7 e.1).isSome=cV l e.1:=bQ7 7 hq.1
    rcases aR1 V e.1 with ⟨n,hn,hf1,hf2⟩|⟨hf1,hf2⟩
    all_goals
     repeat' (first|(refine zC (d:=some 127) rfl (pM e.1 _ (SlE.ext (w:=w13) ((x1321 ()).trans (by exact fx)) hv13) (by omega)) ?_;rintro _ w22 ⟨rfl,x22⟩;rw [hf1])|refine go1 ?_|refine zg λ_ _=>?_|refine zi λ_ _=>?_)
     obtain ⟨fn2,rv2,hm2,hbd2,hS2⟩:=aQa u15 hq ((x1321 ()).trans (show Ext w21 w22 by exact fx))
     refine uQ (d:=some 132) rfl hm2 hbd2 rfl hS2 ?_
     rintro _ w23 ⟨c2,rfl, -,x23⟩
     rw [hf2]
     repeat' (first|refine zE (d':=22) (vs:=c2.cs) (fun _=>rfl) rfl rfl rfl (fun b24 w24 x24 a24 r24 hb24=>?_)|refine aD (d:=some 137) (.bool true) rfl (congrArg (fun b=>some (Value.bool b)) (dTr (by omega))) ?_|refine wK (x:=.tmp 138) rfl ?_|(refine zC (d:=some 144) rfl (lQ (M:=M) (l:=l) e.1.s _ (G13.ext ((x1321 ()).trans (by exact fx))).r (fun b hb=>nLt (hM13 b hb) ((x1321 ()).trans (by exact fx)).size)) ?_;rintro _ w25 ⟨ds,rfl,ho25,x25⟩;obtain ⟨iv,ov,rfl,p81,p82, -⟩:=ho25;have e81:=p81.one;have e82:=p82.one;have p82:=(p82.sub (M':= []) (by simp)).sl (by simp))|refine zE (d':=24) (fun _=>rfl) rfl rfl (by show List.all (bC _ _ _) _=true;simp [bC,e81,e82];exact ⟨rfl,rfl,rfl,rfl,rfl⟩) (fun b26 w26 x26 a26 (r26:Row w26 ⟨b26,0,none⟩ (bC (dV l e.1.s) iv ov)) hb26=>?_)|refine go1 ?_|refine zg λ_ _=>?_|refine zi λ_ _=>?_)
     obtain ⟨fn3,rv3,hm3,hbd3,hS3⟩:=aQa u14 hq ((x1321 ()).trans (show Ext w21 w26 by exact fx))
     refine uQ (d:=some 151) rfl hm3 hbd3 rfl hS3 ?_
     rintro _ w27 ⟨c3,rfl, -,x27⟩
     rw [fin]
     have hout:cV l e.1=(eU l e.1.s&&decide (e.1.i<((dV l e.1.s).tx.outs.length:Int))):=rfl
     cases hh:eU l e.1.s with
     |true=>
      rw [hh,Bool.true_and] at hout
      rw [hout]
      repeat' (first|refine zE (d':=26) (vs:=c3.cs) (fun _=>rfl) rfl rfl rfl (fun b28 w28 x28 a28 r28 hb28=>?_)|refine aD (d:=some 160) (.int .i64 e.1.i) rfl (congrArg (fun n=>some (Value.int .i64 n)) (IntWalk.i64_in _ hq64)) ?_|refine zG (d:=some 164) (E:=fS) (M:= []) (l:=(dV l e.1.s).tx.outs) rfl (SlR.ext p82 (by exact fx)) ?_|refine aD (d:=some 167) (.bool false) rfl (congrArg (fun b=>some (Value.bool (!b))) (beq_self_eq_true (decide (e.1.i<((dV l e.1.s).tx.outs.length:Int))))) ?_|refine go1 ?_|refine zg λ_ _=>?_|refine zi λ_ _=>?_)
      exact ⟨k+1,⟨rfl,rfl,rfl,rfl,rfl,rfl,rfl,rfl,rfl,rfl,trivial⟩,⟨(x1321 ()).trans (by exact fx),by omega⟩,by omega⟩
     |false=>
      rw [hh,Bool.false_and] at hout
      rw [hout]
      repeat' (first|refine zE (d':=26) (vs:=c3.cs) (fun _=>rfl) rfl rfl rfl (fun b28 w28 x28 a28 r28 hb28=>?_)|refine go1 ?_|refine zg λ_ _=>?_|refine zi λ_ _=>?_)
      exact ⟨k+1,⟨rfl,rfl,rfl,rfl,rfl,rfl,rfl,rfl,rfl,rfl,trivial⟩,⟨(x1321 ()).trans (by exact fx),by omega⟩,by omega⟩
  ·refine zC (d:=some 169) rfl (qI _) ?_
   rintro _ w40 ⟨rfl,x40⟩
   repeat (first|refine go1 ?_|refine zg λ_ _=>?_|refine zi λ_ _=>?_)
   exact aA rfl ⟨rfl,((x013 ()).trans x14).trans x40⟩
end
end Go.Proofs.YtgloknkcfchnlaaGreat
