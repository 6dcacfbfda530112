/- The walk of BlockRaw. Transactions that come in, for laws of -/
import Derived.Test.YtgloknkcfchnlaaGreatDoorZ48
set_option linter.unusedVariables false
set_option linter.unusedSimpArgs false
namespace Go.Proofs.YtgloknkcfchnlaaGreatDoor
section
open Go Go.K
attribute [local irreducible] aD aK aV KOp.wp K.Spec u32 leS vnS str aN aI aP bI idT aY EtR bA
theorem aVm {t:Tx} (h:t.Cut 4):t.Sm:=⟨by have:=h.ins;omega,by have:=h.outs;omega,fun x hx=>by have:=h.wit x hx;omega⟩
theorem aGk:∀{txs:List Tx},(∀t∈txs,t.Cut 4)→cZ txs≤4*txs.length
 | [],_=>by simp [cZ]
 |t::ts,h=>by
  have h1:=aGk (txs:=ts) fun t ht=>h t (by simp [ht])
  have h2:=(h t (by simp)).outs
  have e:cZ (t::ts)=t.outs.length+cZ ts:=by simp [cZ]
  rw [e,List.length_cons];omega
set_option maxHeartbeats 16000000 in
set_option maxRecDepth 4000 in
theorem aH3 {v:Value} {l:List Tx} (height:Int) (w:World) (hg:EtR w) (hz:SlR txR [] w v l) (hraw:∀t∈l,t.Raw):K.Spec Tryz.prog F.kedgelaw12_BlockRaw [v,.int .i64 height] w fun r w'=>r=.bool true∧Ext w w':=by
 refine rQ rfl ?_
 unfold jG
 refine oy ?_
 repeat (first|refine zG (d:=some 17) (E:=txR) (M:= []) (l:=l) rfl (SlR.ext hz (by exact fx)) ?_|refine tP (d:=some 19) (E:=txR) (n:=min l.length 4) rfl rfl (by omega) hz (by omega) rfl (fun v' hv'=>?_)|refine zG (d:=some 20) (E:=txR) (M:= []) (l:=l.take (min l.length 4)) rfl (SlR.ext hv' (by exact fx)) ?_|refine go1 ?_|refine zg λ_ _=>?_|refine zi λ_ _=>?_)
 have hSl:(l.take (min l.length 4)).length≤4:=by rw [List.length_take];omega
 have hSr:∀t∈l.take (min l.length 4),t.Raw:=fun t ht=>hraw t (List.mem_of_mem_take ht)
 generalize l.take (min l.length 4)=S at*
 refine aM (fun (p:Nat × Value × List Tx) w'=>Ext w w'∧p.1≤S.length∧bH txR T.api_Tx w.heap.size [] w' p.2.1 p.2.2∧p.2.2.length=p.1∧∀t∈p.2.2,t.Cut 4) (fun p=> [(1,.int .i64 height),(5,p.2.1),(19,v'),(20,.int .i64 (S.length:Nat)),(21,.int .i64 (p.1:Nat))]) (fun p=>S.length - p.1) (0,.slice none 0 0, []) ⟨rfl,rfl,rfl,rfl,rfl,trivial⟩ ⟨Ext.refl _,by simp,bH.nil _ _ _ _,rfl,by simp⟩ ?_
 rintro ⟨i,vo,txs⟩ ρ w1 ⟨x1,hi,o1,htl,hcut⟩
 simp only at hi o1 htl hcut
 dsimp only
 have s1:=x1.size
 repeat (first|refine go1 ?_|refine zg λ_ _=>?_|refine zi λ_ _=>?_)
 refine zL (x:=.tmp 22) (p:=((i:Nat):Int)<((S.length:Nat):Int)) rfl (fun h5=>?_) (fun h5=>?_)
 ·have hil:i<S.length:=by omega
  have ob:=o1.base
  have ol:=o1.lt
  have hvM:SlR txR (aH vo++ []) w1 v' S:=hv'.step x1 (by simp) (aO4 ob)
  have hri:=hSr _ (gMe hil)
  repeat (first|(refine aR (d:=some 23) (E:=txR) (M:=aH vo++ []) rfl rfl (n:=i) (l:=S) hvM rfl hil (fun ad cs r4 he=>?_);have ones:=txR.one he;obtain ⟨iv,ov,rfl, -⟩:=id he)|refine zE (d':=7) (fun _=>rfl) rfl rfl (List.all_eq_true.2 ones) (fun b7 w2 x2 a7 (r7:Row w2 ⟨b7,0,none⟩ (aZ S[i] iv ov)) hb7=>?_)|refine go1 ?_|refine zg λ_ _=>?_|refine zi λ_ _=>?_)
  have s2:=x2.size
  refine zC (d:=some 27) rfl (aSw (M:=aH vo++ []) (cs:=aZ S[i] iv ov) (t:=S[i]) 4 _ (R.ext he x2) hri (by decide) (fun y hy=>by simp at hy;have:=ol y hy;omega)) ?_
  rintro _ w3 ⟨cs',t,rfl,t3,hc3,x3⟩
  have ht3:=t3.rel (fun y hy=>by simp at hy;have:=ol y hy;omega)
  have ones3:=txR.one ht3
  have hl4:=txR.len ht3
  obtain ⟨c0,c1,c2,c3,rfl⟩:∃c0 c1 c2 c3,cs'= [c0,c1,c2,c3]:=by
   match cs',hl4 with
   | [c0,c1,c2,c3],_=>exact ⟨c0,c1,c2,c3,rfl⟩
  repeat (first|refine zI (d:=some 28) (cs:= [c0,c1,c2,c3]) rfl (fun b5 w5 x5 a5 hb5=>?_)|refine go1 ?_|refine zg λ_ _=>?_|refine zi λ_ _=>?_)
  have x15:Ext w1 w5:=(x2.trans x3).trans x5
  refine fB (d:=some 29) (E:=txR) (M:= []) (v:=vo) (cs:= [c0,c1,c2,c3]) (a:=t) rfl rfl (o1.ext x15) (nTr s1 x15.size) rfl rfl a5 (R.ext ht3 x5) (by omega) (fun v6 w6 o6 c6 hb6=>?_)
  repeat (first|refine go1 ?_|refine zg λ_ _=>?_|refine zi λ_ _=>?_)
  exact ⟨(i+1,v6,txs++ [t]),⟨rfl,rfl,rfl,rfl,rfl,trivial⟩,⟨(Ext.chg (x1.trans x15) c6).mono (fun y hy=>.inr (ob y hy)),by simp only;omega,o6,by simp [htl],fun y hy=>by
   rcases List.mem_append.1 hy with hy|hy
   ·exact hcut y hy
   ·simp at hy;subst hy;exact hc3⟩,by simp only;omega⟩
 ·have hT1:SlR txR [] w1 vo txs:=o1.sl (by simp)
  have hsm:∀t∈txs,t.Sm:=fun t ht=>aVm (hcut t ht)
  have hou:=aGk hcut
  repeat (first|refine go1 ?_|refine zg λ_ _=>?_|refine zi λ_ _=>?_)
  refine zC (d:=some 31) rfl (lC _) ?_
  rintro _ w2 ⟨b,mb,rfl,S2,hb1,hb2,x2⟩
  have hMb:∀y∈ [b,mb],w1.heap.size≤y:=fun y hy=>by simp at hy;rcases hy with rfl|rfl;exact hb1;exact hb2
  have hT2:SlR txR [b,mb] w2 vo txs:=hT1.step x2 (by simp) (fun y hy=>.inr (hMb y hy))
  have hM2:∀y∈ [b,mb],y<w2.heap.size:=fun y hy=>by simp at hy;rcases hy with rfl|rfl;exact S2.lt.1;exact S2.lt.2
  repeat (first|refine go1 ?_|refine zg λ_ _=>?_|refine zi λ_ _=>?_)
  refine zC (d:=some 36) rfl (eU (M:= [b,mb]) (txs:=txs) (l:= []) height _ S2 CG.nil SC.nil (by simp) (by simp) hM2 hT2 hsm (by simp;omega) (by omega)) ?_
  rintro _ w8 ⟨sv,mv,e,rfl,E8,S8,hA,hB,c8⟩
  have hT8:SlR txR [b,mb] w8 vo txs:=hT2.step c8 (fun y hy=>.inl hy) (fun y hy=>.inl hy)
  have x08:Ext w w8:=(Ext.chg (x1.trans x2) c8).mono (fun y hy=>.inr (nTr s1 (hMb y hy)))
  have nl:=jL CG.nil txs height
  have k1:=aHc (l:= []) (txs:=txs) (b:=height)
  have k2:=aEy (l:= []) (txs:=txs) (b:=height)
  have o12:sv.oneCell'=true∧mv.oneCell'=true:=by
   by_cases h0:(aP [] txs height).2.1=0
   ·obtain ⟨h1,h2, -⟩:=hA h0
    obtain ⟨_,_,q⟩:=h1.form
    obtain ⟨_,_,q2⟩:=h2.form
    rw [q,q2];exact ⟨rfl,rfl⟩
   ·obtain ⟨rfl,rfl⟩:=hB h0;exact ⟨rfl,rfl⟩
  have ones2:([sv,mv]:List Value).all (fun v=>v.oneCell')=true:=by simp [o12.1,o12.2]
  repeat (first|refine zE (d':=9) (fun _=>rfl) rfl rfl ones2 (fun b11 w9 x9 a9 (r9:Row w9 ⟨b11,0,none⟩ [sv,mv]) hb11=>?_)|refine go1 ?_|refine zg λ_ _=>?_|refine zi λ_ _=>?_)
  refine zC (d:=some 42) rfl (qZ (M:= [b,mb]) (l:= []) (txs:=txs) height _ (SlE.nil _) CG.nil SC.nil (hT8.ext x9) hsm (by simp;omega) (by omega)) ?_
  rintro _ w10 ⟨vl,rfl,hvl,x10⟩
  have x810:Ext w8 w10:=x9.trans x10
  have E10:=E8.ext x810
  have S10:=S8.ext x810
  have x010:Ext w w10:=x08.trans x810
  have hg10:=hg.ext x010
  have hA':=hA
  clear E8 S8 hA hA' hB c8 x9 x10 x810 a9 r9 hT8 hT2 x08
  generalize aP [] txs height=ap at*
  obtain ⟨n,c,at_,in_⟩:=ap
  simp only at E10 S10 hvl nl k1 k2
  repeat (first|refine go1 ?_|refine zg λ_ _=>?_|refine zi λ_ _=>?_)
  refine zC (d:=some 47) rfl (fF _ hg10) ?_
  rintro _ w11 ⟨rfl,x11⟩
  have E11:=E10.ext x11
  have g11:=hg10.ext x11
  repeat (first|refine go1 ?_|refine zg λ_ _=>?_|refine zi λ_ _=>?_)
  refine zC (d:=some 50) rfl (aHq g11 (E11.errR k1)) ?_
  rintro _ w12 ⟨rfl,x12⟩
  repeat (first|refine aG (d:=some 52) (.bool true) rfl (congrArg (fun b=>some (Value.bool b)) (dTr rfl)) ?_|refine go1 ?_|refine zg λ_ _=>?_|refine zi λ_ _=>?_)
  refine zC (d:=some 56) rfl (mC (g11.ext x12) ((E11.errR k1).ext x12)) ?_
  rintro _ w13 ⟨rfl,x13⟩
  repeat (first|refine aG (d:=some 58) (.bool true) rfl (congrArg (fun b=>some (Value.bool b)) (dTr rfl)) ?_|refine go1 ?_|refine zg λ_ _=>?_|refine zi λ_ _=>?_)
  refine zC (d:=some 62) rfl (qO ((g11.ext x12).ext x13) ((E11.ext x12).ext x13) k2) ?_
  rintro _ w14 ⟨rfl,x14⟩
  have x1014:Ext w10 w14:=(x11.trans x12).trans (x13.trans x14)
  repeat (first|refine aG (d:=some 64) (.bool true) rfl (congrArg (fun b=>some (Value.bool b)) (dTr rfl)) ?_|refine go1 ?_|refine zg λ_ _=>?_|refine zi λ_ _=>?_)
  refine zC (d:=some 69) rfl (sZ _ (S10.ext x1014) (hvl.ext x1014) (by simp at nl;omega)) ?_
  rintro _ w15 ⟨rfl,x15⟩
  repeat (first|refine go1 ?_|refine zg λ_ _=>?_|refine zi λ_ _=>?_)
  exact aB rfl ⟨rfl,(x010.trans x1014).trans x15⟩
end
section
open Go Go.K Go.ChangeShapes Go.WideShapes Go.ChangeAt Go.RowKit
set_option maxRecDepth 100000
theorem aZk:Tryz.prog.cellsOf 100=4:=by kernel_rfl
theorem aWq:Tryz.prog.cellsOf 48=2:=by kernel_rfl
theorem aZb:Tryz.prog.cellsOf 63=4:=by kernel_rfl
theorem aY3:Tryz.prog.cellsOf 60=1:=by kernel_rfl
theorem aXw:Tryz.prog.cellsOf 61=1:=by kernel_rfl
theorem aRu:Tryz.prog.cellsOf 98=1:=by kernel_rfl
theorem aQo {W:World} {c:List Value} (h:Reads Tryz.prog W 100 c):∃x:TIn,inR.rel [] W c x∧x.wit.length≤9223372036854775807:=by
 obtain ⟨h1,h2⟩:=jB Tryz.underlying100 h
 have l:c.length=4:=h1.trans aZk
 match c,l with
 | [c0,c1,c2,c3],_=>
  have g0:=h2 _ (List.mem_of_getElem? (i:=0) rfl)
  have g1:=h2 _ (List.mem_of_getElem? (i:=1) rfl)
  have g2:=h2 _ (List.mem_of_getElem? (i:=2) rfl)
  obtain ⟨p,e0,hp⟩:=aK9 g0
  obtain ⟨q,e1,hq⟩:=uH g1
  simp only [aRu,List.drop_zero,List.drop_succ_cons,List.take_succ_cons,List.take_zero] at g2
  obtain ⟨wl,hw,hwl⟩:=jS wG Tryz.underlying98 (by kernel_rfl) (fun c hc=>by
   obtain ⟨s,e,_⟩:=qJ Tryz.underlying9 hc
   exact ⟨s,by subst e;rfl⟩) g2
  simp only [aPk,aTd,List.drop_zero,List.drop_succ_cons,List.take_succ_cons,List.take_zero,List.cons.injEq,and_true] at e0 e1
  refine ⟨⟨p,q,wl⟩,⟨c3,?_,hw,hp,hq⟩,hwl⟩
  have e:p.cs= [.string p.s,.int .u32 p.i]:=rfl
  rw [e] at e0
  simp only [List.cons.injEq,and_true] at e0
  rw [e0.1,e0.2,e1];rfl
theorem aRw {W:World} {c:List Value} (h:Reads Tryz.prog W 48 c):∃y:TOut,fT.rel [] W c y:=by
 obtain ⟨h1,h2⟩:=jB Tryz.underlying48 h
 have l:c.length=2:=h1.trans aWq
 match c,l with
 | [c0,c1],_=>
  have g0:=h2 _ (List.mem_of_getElem? (i:=0) rfl)
  have g1:=h2 _ (List.mem_of_getElem? (i:=1) rfl)
  obtain ⟨v,e0,hv⟩:=aAx g0
  obtain ⟨s,e1,_⟩:=qJ Tryz.underlying9 g1
  simp only [aL0,aZl,List.drop_zero,List.drop_succ_cons,List.take_succ_cons,List.take_zero,List.cons.injEq,and_true] at e0 e1
  exact ⟨⟨v,s⟩,by rw [e0,e1];rfl,hv⟩
theorem aUk {W:World} {c:List Value} (h:Reads Tryz.prog W 63 c):∃t:Tx,txR.rel [] W c t∧t.Raw:=by
 obtain ⟨h1,h2⟩:=jB Tryz.underlying63 h
 have l:c.length=4:=h1.trans aZb
 match c,l with
 | [c0,c1,c2,c3],_=>
  have g0:=h2 _ (List.mem_of_getElem? (i:=0) rfl)
  have g1:=h2 _ (List.mem_of_getElem? (i:=1) rfl)
  have g2:=h2 _ (List.mem_of_getElem? (i:=2) rfl)
  have g3:=h2 _ (List.mem_of_getElem? (i:=3) rfl)
  obtain ⟨v,e0,hv⟩:=uH g0
  obtain ⟨k,e3,hk⟩:=uH g3
  simp only [aY3,aXw,List.drop_zero,List.drop_succ_cons,List.take_succ_cons,List.take_zero] at g1 g2
  obtain ⟨ins,hi,hil⟩:=jS (inR.and fun x=>x.wit.length≤9223372036854775807) Tryz.underlying60 aZk (fun c hc=>aQo hc) g1
  obtain ⟨outs,ho,hol⟩:=jS fT Tryz.underlying61 aWq (fun c hc=>aRw hc) g2
  simp only [aTd,List.drop_zero,List.drop_succ_cons,List.take_succ_cons,List.take_zero,List.cons.injEq,and_true] at e0 e3
  obtain ⟨hi1,hi2⟩:=SlR.both hi
  exact ⟨⟨v,ins,outs,k⟩,⟨c1,c2,by rw [e0,e3];rfl,hi1,ho,hv,hk⟩,hil,hol,hi2⟩
theorem aRq {W:World} {v:Value} (h:Reads Tryz.prog W 29 [v]):∃l,(SlR txR [] W v l∧∀t∈l,t.Raw)∧l.length≤maxLen:=by
 obtain ⟨l,hl,hn⟩:=jS (txR.and Tx.Raw) Tryz.underlying29 aZb (fun c hc=>aUk hc) h
 exact ⟨l,SlR.both hl,hn⟩
end
end Go.Proofs.YtgloknkcfchnlaaGreatDoor
