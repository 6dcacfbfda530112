/- The walk of PoolLower. -/
import Derived.Test.YtgloknkcfchnlaaGreatZ49
set_option linter.unusedVariables false
set_option linter.unusedSimpArgs false
namespace Go.Proofs.YtgloknkcfchnlaaGreat
section
open Go Go.K
theorem bLt {M:List Nat} {b:Nat} {w:World} (h:w.heap.size≤b):∀x∈b::M,x∈M∨w.heap.size≤x:=fun x hx=>by
 rcases List.mem_cons.1 hx with rfl|hx
 ·exact .inr h
 ·exact .inl hx
theorem bS0 (mx:Bool) {a b:Int}:sE mx (.int .u16 a) (.int .u16 b)=some (.int .u16 (if mx then max a b else min a b)):=by
 unfold sE
 cases mx
 ·simp only [Bool.false_eq_true,if_false]
  congr 2
  by_cases h:b<a
  ·rw [if_pos h];omega
  ·rw [if_neg h];omega
 ·simp only [if_true]
  congr 2
  by_cases h:b>a
  ·rw [if_pos h];omega
  ·rw [if_neg h];omega
def aNk (t:Tx):Tx:=⟨t.ver,t.ins,t.outs,1⟩
attribute [local irreducible] aF aP bG KOp.wp K.Spec u32 leS vnS str aR dE bS idT aO aE aQ idN bB cH bY bT cE eO bF cI aK kI fP qT mQ bV evL inS inB jH fY jR gY gT nU gC dN gD dZ jN cF bU aV bK dU cG cN dB bE gL bQ cX nS
abbrev aSh (b:Nat) (h rate:Int):List Value:= [.iface T.P_coins_Set (.pointer (some ⟨b,0,none⟩)),.int .i64 h,.int .i64 rate]
set_option maxHeartbeats 4000000 in
theorem bHi {v u:Value} {vals:List Int} {sc:List PSm} {y0 y1:Int} (w:World) (hvals:SlR aLx [] w v vals) (hr:∀a∈vals,0≤a∧a≤65535) (hsc:SlR jK [] w u sc) (hscl:sc.length≤9223372036854775807) (h0:0≤y0∧y0≤65535) (h1:0≤y1∧y1≤65535):
  K.Spec Tryz.prog F.kedgelaw17_PoolLower [v,u,.agg #[.int .u16 y0,.int .u16 y1]] w fun r w'=>r=.bool true∧Ext w w':=by
 refine aBw rfl ?_
 unfold pY
 refine oy ?_
 repeat' (first|refine zD (d:=some 5) (cs:= [.int .u16 y0,.int .u16 y1]) rfl rfl (fun bp w1 x1 a1 (r1:Row w1 ⟨bp,0,none⟩ [.int .u16 y0,.int .u16 y1]) hbp=>?_)|(refine zC (d:=some 22) rfl (lX _ (SlR.ext hvals (by exact fx)) hr) ?_;rintro vV w2 ⟨hv2,hb2,x2⟩)|refine go1 ?_|refine zg λ_ _=>?_|refine zi λ_ _=>?_)
 have hc8:CoinsOk (gL vals (min vals.length 8)) 8:=(rY hr _).more (by omega)
 generalize gL vals (min vals.length 8)=V at hv2 hc8
 refine zC (d:=some 24) rfl (aBz _ hv2 hc8 (by decide)) ?_
 rintro _ w3 ⟨b,mb,rfl,hS3,hb3,hmb3,x3⟩
 repeat (first|refine go1 ?_|refine zg λ_ _=>?_|refine zi λ_ _=>?_)
 refine zC rfl (aBh _) ?_
 rintro _ w4 ⟨g,M0,rfl,G4,x4⟩
 repeat' (first|refine zG (d:=some 28) (E:=jK) (M:= []) (l:=sc) rfl (SlR.ext hsc (by exact fx)) ?_|refine aH3 (d:=some 29) rfl rfl ?_|refine tE (d:=some 30) (E:=jK) (n:=min sc.length 8) rfl rfl (by omega) hsc (by omega) rfl (fun v' hv'=>?_)|refine zG (d:=some 31) (E:=jK) (M:= []) (l:=sc.take (min sc.length 8)) rfl (SlR.ext hv' (by exact fx)) ?_|refine go1 ?_|refine zg λ_ _=>?_|refine zi λ_ _=>?_)
 have hSl:(sc.take (min sc.length 8)).length≤8:=by rw [List.length_take];omega
 generalize sc.take (min sc.length 8)=S at*
 have hB4:=G4.base
 have s34:=x4.size
 have x34:Unit→Ext w3 w4:=fun _=>x4
 have x03:Unit→Ext w w3:=fun _=>by exact fx
 have x04:Unit→Ext w w4:=fun _=>(x03 ()).trans x4
 have hv3:=hv2.ext x3
 have s03:w.heap.size≤w3.heap.size:=(x03 ()).size
 have rp3:Row w3 ⟨bp,0,none⟩ [.int .u16 y0,.int .u16 y1]:=Row.ext x3 (Row.ext x2 r1)
 have hbpl:bp<w3.heap.size:=nLt a1.lt (Ext.size (show Ext w1 w3 by exact fx))
 clear x1 x2 x3 x4 a1 r1 hvals
 have hV:∀{w'},Ext w3 w'→eH w' (.iface T.P_coins_Set (.pointer (some ⟨b,0,none⟩))) (aL V):=fun x=>eH.of_set (hS3.ext x) (fun e he=>by rw [(hc8.each e he).2.2.2.2.1];decide)
 repeat' (first|(refine aI (a:=.seq _ (.seq (.cond _ _ _) (.seq (.block 1 _) _))) (fun (p:Nat × List Ent × List Nat) w'=>Ext w3 w'∧Ext w w'∧p.1≤S.length∧p.2.1.length≤p.1∧Gr w' w3.heap.size g p.2.2 p.2.1∧Money V p.2.1 9 (nS p.1)) (fun p=> [(1,u),(5,.pointer (some ⟨bp,0,none⟩)),(7,vV),(8,.pointer (some ⟨b,0,none⟩)),(9,.pointer (some ⟨g,0,none⟩)),(30,v'),(31,.int .i64 (S.length:Nat)),(32,.int .i64 p.1)]) (fun p=>S.length - p.1) (0, [],M0) ⟨rfl,rfl,rfl,rfl,rfl,rfl,rfl,rfl,trivial⟩ ⟨x34 (),x04 (),by simp,by simp,by exact Gr.low G4 (Nat.le_refl _),aVz hc8 9⟩ ?_;rintro ⟨i,l,M⟩ ρ w6 ⟨x36,x06,hi,hli,G6,hMon⟩;simp only at hi hli G6 hMon;dsimp only)|refine zL (x:=.tmp 33) (p:=((i:Nat):Int)<((S.length:Nat):Int)) rfl (fun h5=>?_) (fun h5=>?_)|refine go1 ?_|refine zg λ_ _=>?_|refine zi λ_ _=>?_)
 ·have hil:i<S.length:=by omega
  have hlen:l.length≤1000:=by omega
  have hE6:=G6.ok
  have hnd6:=G6.nodup
  have hM6:=G6.lt
  have hB6:=G6.base
  obtain ⟨hV1,hV2,hV3⟩:=aB6 hc8 (by decide) hE6 hlen hMon
  have hmb:=wT (i:=i) (by omega)
  refine aM (d:=some 34) (E:=jK) (M:=M) rfl rfl (n:=i) (l:=S) (SlR.step hv' x06 (by simp) (fun b hb=>.inr (by have:=hB6 b hb;omega))) rfl hil (fun ad cs r7 he=>?_)
  obtain ⟨fv,rfl,q6,q2⟩:=he
  generalize S[i]=z at*
  obtain ⟨t,ht⟩:∃t,t=bE (cX V l 9) z:=⟨_,rfl⟩
  have hsmt:t.Sm:=by rw [ht];exact jY _ _
  have x36':Unit→Ext w3 w6:=fun _=>x36
  have x06':Unit→Ext w w6:=fun _=>x06
  clear x36 x06
  repeat' (first|refine zE (d':=11) (fun _=>rfl) rfl rfl (by obtain ⟨_,_,rfl⟩:=q6.form;rfl) (fun b12 w7 x7 a12 (r12:Row w7 ⟨b12,0,none⟩ (gF z fv)) hb12=>?_)|refine zi (fun w9 x9=>?_)|refine aT (d:=some 45) (cs:=aSh b 9 0) rfl ?_|refine dJ (b:=.cons ⟨some 42,_,_⟩ _) (fun (p:Value) w'=>Ext w6 w'∧SlE bM w' p (cX V l 9)) (fun p=> [(1,u),(5,.pointer (some ⟨bp,0,none⟩)),(7,vV),(8,.pointer (some ⟨b,0,none⟩)),(9,.pointer (some ⟨g,0,none⟩)),(30,v'),(31,.int .i64 (S.length:Nat)),(32,.int .i64 i),(36,.pointer (some ⟨g,0,none⟩)),(40,p),(41,.agg (gF z fv).toArray),(45,.agg (aSh b 9 0).toArray)]) ?_ ?_|(rintro v56 ρ9 w10 ⟨x610,o56⟩;try dsimp only)|refine zB ?_ ?_|(refine zC (d:=some 39) rfl (eK (M:=M) (l:=l) _ (G6.ext (by exact fx)).r (fun b hb=>nLt (hM6 b hb) (Ext.size (by exact fx))) (by omega)) ?_;rintro u55 w55 ⟨o55,x55⟩;have o55:=(o55.sub (M':= []) (by simp)).sl (by simp))|(refine zC (d:=some 40) rfl (kY (M:= []) (V:=V) (l:=l) 9 _ (SlE.ext (w:=w3) ((x36' ()).trans (by exact fx)) hv3) (o55.ext (by exact fx)) (by have:=hc8.len;omega) hlen (fun x hx=>lG (hE6 x hx))) ?_;rintro v56 w56 ⟨o56,x56⟩;have o56:=o56.sl)|(exact ⟨v56,⟨rfl,rfl,rfl,rfl,rfl,rfl,rfl,rfl,rfl,rfl,rfl,rfl,trivial⟩,by exact fx,SlE.ext (w:=w56) (by exact fx) o56⟩)|refine go1 ?_|refine zg λ_ _=>?_|refine zi λ_ _=>?_)
  refine zC (d:=some 42) rfl (gQ (M:=M) (V:=cX V l 9) (z:=z) (B:=nS i) _ o56 ⟨fv,rfl,q6.step x610 (by simp) (fun _ h=>.inl h),q2⟩ hV3 hV1 ⟨hmb.1,by have:=hmb.2;omega⟩ hV2 (fun x hx=>nLt (hM6 x hx) x610.size)) ?_
  rintro _ w11 ⟨p,rfl,t11,x1011⟩
  have t11:=txO.rel t11 (fun x hx=>nLt (hM6 x hx) x610.size)
  rw [←ht] at t11
  have x611:=x610.trans x1011
  have G11:=G6.ext x611
  have hll:(cN (aL V) l t 9 0).length≤l.length+1:=aHq hnd6
  refine zC (d:=some 46) rfl (pL (M:=M) (N:=M) (l:=l) (f:=aL V) (t:=t) 9 0 _ G11 (hV ((x36' ()).trans x611)) t11 hsmt (fun b hb=>nLt (hM6 b hb) x611.size) (fun _ h=>h) hlen (fun x hx=>by have:=hMon.fee x hx;omega)) ?_
  rintro _ w14 ⟨u14,er,M1,rfl, -, -,G14,c14,hM14, -⟩
  have hMon14:Money V (cN (aL V) l t 9 0) 9 (nS (i+1)):=hMon.step hc8 hnd6 hE6 hlen ht
  have x314:Ext w3 w14:=(Ext.chg ((x36' ()).trans x611) c14).mono (fun b hb=>.inr (hB6 b hb))
  have x014:Ext w w14:=(Ext.chg ((x06' ()).trans x611) c14).mono (fun b hb=>.inr (by have:=hB6 b hb;omega))
  repeat' (first|refine go1 ?_|refine zg λ_ _=>?_|refine zi λ_ _=>?_)
  exact ⟨(i+1,cN (aL V) l t 9 0,M1),⟨rfl,rfl,rfl,rfl,rfl,rfl,rfl,rfl,trivial⟩,⟨x314,x014,by simp;omega,by simp;omega,G14,hMon14⟩,by simp;omega⟩
 ·have hlen:l.length≤1000:=by omega
  have hE6:=G6.ok
  have hnd6:=G6.nodup
  have hM6:=G6.lt
  have hB6:=G6.base
  obtain ⟨hV1,hV2,hV3⟩:=aB6 hc8 (by decide) hE6 hlen hMon
  have hmb:=wT (i:=i) (by omega)
  have rp6:Row w6 ⟨bp,0,none⟩ [.int .u16 y0,.int .u16 y1]:=Row.ext x36 rp3
  have hsc6:SlR jK M w6 u sc:=SlR.step hsc x06 (by simp) (fun b hb=>.inr (by have:=hB6 b hb;omega))
  repeat' (first|refine zG (d:=some 49) (E:=jK) (M:=M) (l:=sc) rfl hsc6 ?_|refine go1 ?_|refine zg λ_ _=>?_|refine zi λ_ _=>?_)
  refine zL (x:=.tmp 50) (p:=((sc.length:Nat):Int)=0) rfl (fun h6=>?_) (fun h6=>?_)
  ·repeat' (first|(refine zC (d:=some 51) rfl (qI _) ?_;rintro _ w40 ⟨rfl,x40⟩)|refine go1 ?_|refine zg λ_ _=>?_|refine zi λ_ _=>?_)
   exact aA rfl ⟨rfl,x06.trans x40⟩
  ·have hlt:sc.length - 1<sc.length:=by omega
   obtain ⟨z,hz⟩:∃z,z=sc[sc.length - 1]:=⟨_,rfl⟩
   obtain ⟨t0,ht0⟩:∃t0,t0=bE (cX V l 9) z:=⟨_,rfl⟩
   have x36':Unit→Ext w3 w6:=fun _=>x36
   have x06':Unit→Ext w w6:=fun _=>x06
   clear x36 x06
   repeat' (first|(refine zg (fun w9 x9=>?_);have G9:=G6.ext x9;have x39':Unit→Ext w3 w9:=(fun _=>(x36' ()).trans x9);have x09':Unit→Ext w w9:=(fun _=>(x06' ()).trans x9);have rp9:Row w9 ⟨bp,0,none⟩ [.int .u16 y0,.int .u16 y1]:=Row.ext x9 rp6;have hM9:∀b∈M,b<w9.heap.size:=(fun b hb=>nLt (hM6 b hb) x9.size);have hsc9:=hsc6.ext x9;clear x9)|refine zG (d:=some 58) (E:=jK) (M:=M) (l:=sc) rfl (hsc9.ext (by exact fx)) ?_|refine aD (d:=some 59) (.int .i64 ((sc.length - 1:Nat):Int)) rfl (congrArg (fun n=>some (Value.int .i64 n)) (by rw [IntWalk.i64_in _ (by omega)];omega)) ?_|(refine aM (d:=some 60) (E:=jK) (M:=M) rfl rfl (n:=sc.length - 1) (l:=sc) hsc9 rfl hlt (fun ad cs r7 he=>?_);rw [←hz] at he;obtain ⟨fv,rfl,q6,q2⟩:=he)|refine dJ (b:=.cons ⟨none,.storeN _ _ _,_⟩ _) (fun (p:Nat × List Value) w'=>Ext w9 w'∧At w' p.1 (.cells zTx.toArray T.api_Tx (0,0))∧w9.heap.size≤p.1∧txR.rel (p.1::M) w' p.2 t0) (fun p=> [(5,.pointer (some ⟨bp,0,none⟩)),(8,.pointer (some ⟨b,0,none⟩)),(9,.pointer (some ⟨g,0,none⟩)),(12,.pointer (some ⟨p.1,0,none⟩)),(62,.agg p.2.toArray)]) ?_ ?_|(rintro ⟨b13,p⟩ ρ9 w10 ⟨x610,a13,hb13,t10⟩;simp only at a13 hb13 t10;dsimp only)|refine zB ?_ ?_|(refine zC (d:=some 54) rfl (eK (M:=M) (l:=l) _ (G9.ext (by exact fx)).r (fun b hb=>nLt (hM9 b hb) (Ext.size (by exact fx))) (by omega)) ?_;rintro u55 w55 ⟨o55,x55⟩;have o55:=(o55.sub (M':= []) (by simp)).sl (by simp))|(refine zC (d:=some 55) rfl (kY (M:= []) (V:=V) (l:=l) 9 _ (SlE.ext (w:=w3) ((x39' ()).trans (by exact fx)) hv3) (o55.ext (by exact fx)) (by have:=hc8.len;omega) hlen (fun x hx=>lG (hE6 x hx))) ?_;rintro v56 w56 ⟨o56,x56⟩;have o56:=o56.sl)|refine zH (d:=some 12) (fun b13 w13 x13 a13 hb13=>?_)|(refine zC (d:=some 62) rfl (gQ (M:=b13::M) (V:=cX V l 9) (z:=z) (B:=nS i) _ (SlE.ext (w:=w56) (by exact fx) o56) ⟨fv,rfl,q6.step (show Ext w9 _ by exact fx) (by simp) (bLt (nTr (Ext.size (show Ext w9 _ by exact fx)) hb13)),q2⟩ hV3 hV1 ⟨hmb.1,by have:=hmb.2;omega⟩ hV2 (fun x hx=>by rcases List.mem_cons.1 hx with rfl|hx;exact nLt a13.lt (Ext.size (by exact fx));exact nLt (hM9 x hx) (Ext.size (by exact fx)))) ?_;rintro _ w58 ⟨p,rfl,tA,x58⟩;have tA:=txO.rel tA (fun x hx=>by rcases List.mem_cons.1 hx with rfl|hx;exact nLt a13.lt (Ext.size (by exact fx));exact nLt (hM9 x hx) (Ext.size (by exact fx)));rw [←ht0] at tA)|(refine zC (d:=some 62) rfl (gQ (M:=M) (V:=cX V l 9) (z:=z) (B:=nS i) _ (SlE.ext (w:=w56) (by exact fx) o56) ⟨fv,rfl,q6.step (show Ext w9 _ by exact fx) (by simp) (fun _ h=>.inl h),q2⟩ hV3 hV1 ⟨hmb.1,by have:=hmb.2;omega⟩ hV2 (fun x hx=>nLt (hM9 x hx) (Ext.size (by exact fx)))) ?_;rintro _ w58 ⟨p,rfl,tB,x58⟩;have tB:=txO.rel tB (fun x hx=>nLt (hM9 x hx) (Ext.size (by exact fx)));rw [←ht0] at tB)|(exact ⟨(b13,p),⟨rfl,rfl,rfl,rfl,rfl,trivial⟩,by exact fx,At.ext (by exact fx) a13,nTr (Ext.size (show Ext w9 _ by exact fx)) hb13,R.ext tA (by exact fx)⟩)|(exact ⟨(b13,p),⟨rfl,rfl,rfl,rfl,rfl,trivial⟩,by exact fx,At.ext (by exact fx) a13,nTr (Ext.size (show Ext w9 _ by exact fx)) hb13,R.step txR tB (show Ext w58 _ by exact fx) (by simp) (bLt hb13)⟩)|refine go1 ?_|refine zg λ_ _=>?_|refine zi λ_ _=>?_)
   have t10':=t10
   obtain ⟨iv,ov,rfl,hti,hto,htv⟩:=t10
   refine bX (b:=b13) (cur:=zTx) (vs:=aJ t0 iv ov) rfl rfl rfl (txR.one t10') a13 rfl (fun w11 c11 a11=>?_)
   repeat (first|refine go1 ?_|refine zg λ_ _=>?_|refine zi λ_ _=>?_)
   refine bO (b:=b13) (o:=3) (cur:=aJ t0 iv ov) rfl rfl rfl a11 (Nat.le_of_ble_eq_true rfl) (fun w12 c12 a12=>?_)
   have a12:At w12 b13 (.cells (aJ (aNk t0) iv ov).toArray T.api_Tx (0,0)):=a12
   have c1012:Chg [b13] w10 w12:=(c11.trans c12).mono (by simp)
   have t12:txR.rel (b13::M) w12 (aJ (aNk t0) iv ov) (aNk t0):=by
    have h:=R.step txR t10' c1012 (by intro y hy;simp at hy;subst hy;exact .inl (by simp)) (fun _ h=>.inl h) (M':=b13::M)
    obtain ⟨iv',ov',e,g1,g2,g3,g4⟩:=h
    simp only [aJ,List.cons.injEq,and_true] at e
    obtain ⟨-,rfl,rfl, -⟩:=e
    exact ⟨_,_,rfl,g1,g2,g3,by show dM 1;unfold dM;omega⟩
   have l13:=a13.lt
   have s910:=x610.size
   have s1012:=c1012.size
   have x912:Ext w9 w12:=(Ext.chg x610 c1012).mono (by intro y hy;simp at hy;right;omega)
   have hsm:(aNk t0).Sm:=by
    have h:=jY (cX V l 9) z
    rw [←ht0] at h
    exact ⟨h.ins,h.outs,h.wit⟩
   have hpts:∀p∈bA (aNk t0),0≤p.i:=fun p hp=>by
    have h:=aUl hV2 z p (by rw [←ht0];exact hp)
    exact h.1
   have hMon2:∀rate,Money V (cN (aL V) l (aNk t0) 9 rate) 9 (nS (i+1)):=fun rate=>by
    rw [←aT0]
    exact hMon.acc hc8.nodup (fun e he=>(hc8.each e he).2.2.1) hnd6 hE6 hpts
   have hmb2:=wT (i:=i+1) (by omega)
   have hfee:∀x∈l,x.fee≤1000000000000:=fun x hx=>by have:=hMon.fee x hx;omega
   have G12:=G9.ext x912
   have s312:w3.heap.size≤w12.heap.size:=((x39' ()).trans x912).size
   have x312:=(x39' ()).trans x912
   have x012:=(x09' ()).trans x912
   have x012':w.heap.size≤w12.heap.size:=x012.size
   have rp12:=Row.ext x912 rp9
   have r12:Row w12 ⟨b13,0,none⟩ (aJ (aNk t0) iv ov):=Row.of_at a12
   have hN12:∀b∈b13::M,b<w12.heap.size:=fun x hx=>by
    have:=x912.size
    rcases List.mem_cons.1 hx with rfl|hx
    ·omega
    ·have:=hM9 x hx;omega
   have hbp12:bp<w12.heap.size:=nLt hbpl x312.size
   generalize htt:aNk t0=tt at*
   clear x610 x912 c11 c12 c1012 t10' a13 a11 a12 hti hto rp9 G9 G6 hsc6 hV1 hV3
   repeat' (first|refine aD (d:=some 77) (.int .u16 (max y0 y1)) rfl (bS0 true) ?_|refine aD (d:=some 78) (.int .i64 (max y0 y1)) rfl (congrArg (fun n=>some (Value.int .i64 n)) (IntWalk.i64_in _ (by omega))) ?_|refine aT (d:=some 79) (cs:=aSh b 9 (max y0 y1)) rfl ?_|(refine zC (d:=some 65) rfl (aHj (M:=M) (l:=l) _ G12.r (fun b hb=>hN12 b (by simp [hb])) hlen) ?_;rintro _ w13 ⟨gh,Mh,rfl,H13,x13⟩)|(refine zC (d:=some 67) rfl (bFt (M:=Mh) (l:=l) _ (GrR.more G12.r x13 (fun b hb=>.inr (H13.base b hb))) H13.lt hlen) ?_;rintro _ w14 ⟨gl,Ml,rfl,L14,x14⟩)|refine go1 ?_|refine zg λ_ _=>?_|refine zi λ_ _=>?_)
   have hBh:=H13.base
   have hLh:=H13.lt
   have hBl:=L14.gr.base
   have hLl:=L14.gr.lt
   have s1213:=x13.size
   have s1314:=x14.size
   have H14:GrU w14 w12.heap.size gh Mh Ml l:=⟨H13.ext x14,GrR.more H13.r x14 (fun b hb=>(List.mem_append.1 hb).elim (fun h=>.inr (hBl b h)) .inl),fun b hb h=>by have:=hLh b hb;have:=hBl b h;omega⟩
   have x1214:=x13.trans x14
   have t14:txR.rel ((b13::M)++(Mh++Ml)) w14 (aJ tt iv ov) tt:=R.step txR t12 x1214 (by simp) (fun b hb=>by
    rcases List.mem_append.1 hb with h|h
    ·exact .inl h
    ·rcases List.mem_append.1 h with h|h
     ·exact .inr (hBh b h)
     ·exact .inr (by have:=hBl b h;omega))
   have hN14:∀b∈(b13::M)++(Mh++Ml),b<w14.heap.size:=fun b hb=>by
    rcases List.mem_append.1 hb with h|h
    ·have:=hN12 b h;omega
    ·rcases List.mem_append.1 h with h|h
     ·have:=hLh b h;omega
     ·exact hLl b h
   have rp14:=Row.ext x1214 rp12
   have r14:=Row.ext x1214 r12
   have V14:=hV (x312.trans x1214)
   have x014:=x012.trans x1214
   have x314:=x312.trans x1214
   clear x13 x14 x1214 rp12 r12 t12 H13
   refine zC (d:=some 80) rfl (rI (M:=Mh) (U:=Ml) (N:=(b13::M)++(Mh++Ml)) (l:=l) (f:=aL V) (t:=tt) 9 (max y0 y1) _ H14 hLl (fun b hb=>by simp [hb]) V14 t14 hsm hN14 (fun b hb=>by simp [hb]) hlen hfee) ?_
   rintro _ w15 ⟨u1,er1,Mh1,rfl,hu1,he1,H15,c15,hMh1,hd1⟩
   have L15:GrU w15 w13.heap.size gl Ml Mh1 l:=L14.chg c15 hMh1
   have s1415:=c15.size
   have hLh1:=H15.gr.lt
   have hBh1:=H15.gr.base
   have x315:Ext w3 w15:=(Ext.chg x314 c15).mono (fun b hb=>.inr (by have:=hBh b hb;omega))
   have x015:Ext w w15:=(Ext.chg x014 c15).mono (fun b hb=>.inr (by have:=hBh b hb;omega))
   have rp15:=Row.chg c15 rp14 (fun hb=>by have:=hBh _ hb;have hb2:(⟨bp,0,none⟩:Addr).block=bp:=rfl;omega)
   have r15:=Row.chg c15 r14 (fun hb=>by have:=hBh _ hb;have hb2:(⟨b13,0,none⟩:Addr).block=b13:=rfl;have:=hN12 b13 (by simp);omega)
   have t15:txR.rel ((b13::M)++(Mh1++Ml)) w15 (aJ tt iv ov) tt:=R.step txR t14 c15 (fun b hb=>.inl (by simp [hb])) (fun b hb=>by
    rcases List.mem_append.1 hb with h|h
    ·exact .inl (by rw [List.mem_append];exact .inl h)
    ·rcases List.mem_append.1 h with h|h
     ·exact (hMh1 b h).imp (fun h=>by simp [h]) id
     ·exact .inl (by simp [h]))
   have hN15:∀b∈(b13::M)++(Mh1++Ml),b<w15.heap.size:=fun b hb=>by
    rcases List.mem_append.1 hb with h|h
    ·have:=hN12 b h;omega
    ·rcases List.mem_append.1 h with h|h
     ·exact hLh1 b h
     ·have:=hLl b h;omega
   have V15:=hV x315
   have hb1:∀b∈aB u1,w14.heap.size≤b:=hu1.base
   have hl1:∀b∈aB u1,b<w15.heap.size:=fun b hb=>Own.blk_lt hu1 b hb
   clear t14 rp14 r14 V14 x014 x314 c15 H14 L14
   repeat' (first|refine aD (d:=some 92) (.int .u16 (min y0 y1)) rfl (bS0 false) ?_|refine aD (d:=some 93) (.int .i64 (min y0 y1)) rfl (congrArg (fun n=>some (Value.int .i64 n)) (IntWalk.i64_in _ (by omega))) ?_|refine aT (d:=some 94) (cs:=aSh b 9 (min y0 y1)) rfl ?_|refine go1 ?_|refine zg λ_ _=>?_|refine zi λ_ _=>?_)
   refine zC (d:=some 95) rfl (rI (M:=Ml) (U:=Mh1) (N:=(b13::M)++(Mh1++Ml)) (l:=l) (f:=aL V) (t:=tt) 9 (min y0 y1) _ L15 hLh1 (fun b hb=>by simp [hb]) V15 t15 hsm hN15 (fun b hb=>by simp [hb]) hlen hfee) ?_
   rintro _ w16 ⟨u2,er2,Ml1,rfl,hu2,he2,L16,c16,hMl1,hd2⟩
   have H16:GrU w16 w12.heap.size gh Mh1 Ml1 (cN (aL V) l tt 9 (max y0 y1)):=H15.chg c16 hMl1
   have s1516:=c16.size
   have x316:Ext w3 w16:=(Ext.chg x315 c16).mono (fun b hb=>.inr (by have:=hBl b hb;omega))
   have x016:Ext w w16:=(Ext.chg x015 c16).mono (fun b hb=>.inr (by have:=hBl b hb;omega))
   have r16:=Row.chg c16 r15 (fun hb=>by have:=hBl _ hb;have hb2:(⟨b13,0,none⟩:Addr).block=b13:=rfl;have:=hN12 b13 (by simp);omega)
   have hu1:=hu1.chg c16 (fun b hb h=>by have:=hb1 b hb;have:=hLl b h;omega)
   have t16:txR.rel ((b13::M)++(Mh1++Ml1)) w16 (aJ tt iv ov) tt:=R.step txR t15 c16 (fun b hb=>.inl (by simp [hb])) (fun b hb=>by
    rcases List.mem_append.1 hb with h|h
    ·exact .inl (by rw [List.mem_append];exact .inl h)
    ·rcases List.mem_append.1 h with h|h
     ·exact .inl (by simp [h])
     ·exact (hMl1 b h).imp (fun h=>by simp [h]) id)
   have hLl1:=L16.gr.lt
   have hN16:∀b∈(b13::M)++(Mh1++Ml1),b<w16.heap.size:=fun b hb=>by
    rcases List.mem_append.1 hb with h|h
    ·have:=hN12 b h;omega
    ·rcases List.mem_append.1 h with h|h
     ·have:=hLh1 b h;omega
     ·exact hLl1 b h
   have V16:=hV x316
   clear t15 rp15 r15 V15 x015 x315 c16 H15 L15
   have hlow:=@bH3 (aL V) l tt 9 (min y0 y1) (max y0 y1) (by omega)
   by_cases he:(dU (aL V) l tt 9 (max y0 y1)).1=0
   ·obtain ⟨e1,e2,e3⟩:=hlow he
    obtain ⟨rfl, -⟩:=he1.nil_iff.1 he
    rw [e1] at he2
    obtain ⟨rfl, -⟩:=he2.nil_iff.1 he
    rw [e3] at L16
    rw [e2] at hu2
    have htw:=@bJv (aL V) l tt 9 (max y0 y1) hnd6 he 9 0
    have hll:(cN (aL V) l tt 9 (max y0 y1)).length≤l.length+1:=aHq hnd6
    have hMonH:=hMon2 (max y0 y1)
    have hidl:(cG (aL V) l tt 9 (max y0 y1)).length≤l.length+1:=by
     have:=aVr (f:=aL V) hnd6 he;omega
    clear he1 he2 hMon2 hlow
    generalize cN (aL V) l tt 9 (max y0 y1)=lH at*
    generalize cG (aL V) l tt 9 (max y0 y1)=ids at*
    repeat' (first|refine aT (d:=some 106) (cs:=aSh b 9 0) rfl ?_|refine go1 ?_|refine zg λ_ _=>?_|refine zi λ_ _=>?_)
    refine zC (d:=some 107) rfl (rI (M:=Ml1) (U:=Mh1) (N:=(b13::M)++(Mh1++Ml1)) (l:=lH) (f:=aL V) (t:=tt) 9 0 _ L16 (fun b hb=>by have:=hLh1 b hb;omega) (fun b hb=>by simp [hb]) V16 t16 hsm hN16 (fun b hb=>by simp [hb]) (by omega) (fun x hx=>by have:=hMonH.fee x hx;omega)) ?_
    rintro _ w17 ⟨u3,er3,Ml2,rfl, -,he3,L17,c17,hMl2, -⟩
    have hn3:(dU (aL V) lH tt 9 0).1≠0:=by rw [htw];show ¬(7:Int)=0;decide
    rw [htw] at he3
    rw [(uG hn3).2] at L17
    obtain rfl:=aPg he3 (by decide)
    have H17:GrU w17 w12.heap.size gh Mh1 Ml2 lH:=H16.chg c17 hMl2
    have hu1:=hu1.chg c17 (fun b hb h=>by
     have g1:=hb1 b hb
     have g2:=hl1 b hb
     rcases hMl1 b h with h|h
     ·have:=hLl b h;omega
     ·omega)
    have hu2:=hu2.chg c17 hd2
    have hBl1:∀b∈Ml1,w12.heap.size≤b:=fun b hb=>by
     rcases hMl1 b hb with h|h
     ·have:=hBl b h;omega
     ·omega
    have x017:Ext w w17:=(Ext.chg x016 c17).mono (fun b hb=>.inr (by have:=hBl1 b hb;have:=x012';omega))
    have s1:=hu1.sl
    have s2:=hu2.sl
    have hLH:=H17.gr.lt
    have hLL:=L17.gr.lt
    clear t16 r16 V16 x016 x316 H16 L16 c17
    repeat' (first|(refine zC (d:=some 110) rfl (qI _) ?_;rintro _ w18 ⟨rfl,x18⟩)|(refine zC (d:=some 118) rfl (bCm _ (SlE.ext (w:=w17) (by exact fx) s1) (SlE.ext (w:=w17) (by exact fx) s2) rfl (by omega)) ?_;rintro _ w19 ⟨rfl,x19⟩)|(refine zC (d:=some 123) rfl (eK (M:=Ml2) (l:=lH) _ (L17.gr.ext (by exact fx)).r (fun b hb=>nLt (hLL b hb) (Ext.size (by exact fx))) (by omega)) ?_;rintro u20 w20 ⟨o20,x20⟩;have o20:=(o20.sub (M':= []) (by simp)).sl (by simp))|(refine zC (d:=some 124) rfl (aYg (M:=Mh1) (N:= []) (l:=lH) _ (H17.gr.ext (by exact fx)).r (fun b hb=>nLt (hLH b hb) (Ext.size (by exact fx))) (o20.ext (by exact fx)) (by omega)) ?_;rintro _ w21 ⟨rfl,x21⟩)|(refine zC (d:=some 129) rfl (rT 7 _) ?_;rintro _ w22 ⟨rfl,rfl⟩)|refine go1 ?_|refine zg λ_ _=>?_|refine zi λ_ _=>?_)
    exact aA rfl ⟨rfl,x017.trans (by exact fx)⟩
   ·obtain ⟨ea,eb,rfl⟩:=he1.nil_iff.2 he
    repeat' (first|(refine zC (d:=some 100) rfl (qI _) ?_;rintro _ w40 ⟨rfl,x40⟩)|refine go1 ?_|refine zg λ_ _=>?_|refine zi λ_ _=>?_)
    exact aA rfl ⟨rfl,x016.trans x40⟩
end
end Go.Proofs.YtgloknkcfchnlaaGreat
