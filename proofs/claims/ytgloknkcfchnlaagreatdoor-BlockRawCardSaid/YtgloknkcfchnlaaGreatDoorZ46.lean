/- Contracts: the document's transactions for blocks. -/
import Derived.Test.YtgloknkcfchnlaaGreatDoorZ41
import Derived.Test.YtgloknkcfchnlaaGreatDoorZ43
set_option linter.unusedVariables false
set_option linter.unusedSimpArgs false
namespace Go.Proofs.YtgloknkcfchnlaaGreatDoor
section
open Go Go.K
attribute [local irreducible] aD aK aV KOp.wp K.Spec u32 leS vnS str aN cR bI idT aY aI aO
theorem aQl {l:List En} (hg:CG l):∀e∈l,0≤e.2.v∧e.2.v≤2100000000000000:=fun e he=>by
 have h:=hg.fm e he
 simp only [cE,Bool.and_eq_true] at h
 exact (cA _).1 h.2
abbrev z32:ByteArray:=⟨#[0,0,0,0,0,0,0,0,0,0,0,0,0,0,0,0,0,0,0,0,0,0,0,0,0,0,0,0,0,0,0,0]⟩
abbrev tC (vi vo:Value) (lock:Int):List Value:= [.int .u32 2,vi,vo,.int .u32 lock]
set_option maxHeartbeats 8000000 in
theorem aLo {M:List Nat} {v:Value} {cs:List Value} {l:List En} {z:BSm} (h:Int) (w:World) (hv:SlE aU w v l) (hg:CG l) (hsc:SC l) (hz:hG.rel M w cs z) (hn:l.length≤100000) (hh:0≤h∧h≤1000000) (hM:∀b∈M,b<w.heap.size):
  K.Spec Tryz.prog F.kedgeref12_Make [v,.agg cs.toArray,.int .i64 h] w fun r w'=>∃cs' t,r=.agg cs'.toArray∧txO w.heap.size M w' cs' t∧MkOk t∧Ext w w':=by
 obtain ⟨fv,rfl,hfr,⟨hf1,hf2⟩,ho1,ho2⟩:=hz
 obtain ⟨q1,q2,efv⟩:=hfr.form
 have hval:=aQl hg
 have h32:IntKind.u32.wrap h=h:=by show h%4294967296=h;omega
 refine yQ rfl ?_
 unfold nT
 refine oy ?_
 repeat (first|refine zD (d:=some 4) (cs:=pV z fv) rfl (by rw [efv];rfl) (fun b4 w1 x1 a4 (r4:Row w1 ⟨b4,0,none⟩ (pV z fv)) hb4=>?_)|refine zH (d:=some 6) (fun b6 w2 x2 a6 hb6=>?_)|refine bR (d:=some 17) (cs:=tC (.slice none 0 0) (.slice none 0 0) 0) rfl ?_|refine zE (d':=7) (fun _=>rfl) rfl rfl rfl (fun b7 w3 x3 a7 r7 hb7=>?_)|refine kK (a:=.seq (.reg false (.cons ⟨some 9,_,none⟩ _)) (.block 0 _)) (fun (p:Value × List TIn × Int) w'=>Ext w w'∧w3.heap.size≤w'.heap.size∧At w' b4 (.cells (pV z fv).toArray T.kedgeref12_Small (0,0))∧At w' b6 (.cells zTx.toArray T.api_Tx (0,0))∧At w' b7 (.cells (tC p.1 (.slice none 0 0) 0).toArray T.api_Tx (0,0))∧bH inR T.api_In w3.heap.size (b6::b7::M) w' p.1 p.2.1∧p.2.1.length≤4∧(∀x∈p.2.1,x.wit.length≤1)∧0≤p.2.2∧p.2.2≤8400000000000000) (fun p=> [(2,.int .i64 h),(4,.pointer (some ⟨b4,0,none⟩)),(6,.pointer (some ⟨b6,0,none⟩)),(7,.pointer (some ⟨b7,0,none⟩)),(8,.int .i64 p.2.2)]) ?_ ?_|refine go1 ?_|refine zg λ_ _=>?_|refine zi λ_ _=>?_)
 ·have l4:=a4.lt
  have l6:=a6.lt
  have l7:=a7.lt
  have s1:=x1.size
  have s2:=x2.size
  have s3:=x3.size
  obtain ⟨M1,hM1⟩:∃M1,M1=b6::b7::M:=⟨_,rfl⟩
  have hM1b:∀b∈M1,b<w3.heap.size:=by
   intro y hy;rw [hM1] at hy;simp only [List.mem_cons] at hy
   rcases hy with rfl|rfl|hy
   ·omega
   ·omega
   ·have:=hM y hy;omega
  rw [←hM1]
  have m6:b6∈M1:=by rw [hM1];simp
  have m7:b7∈M1:=by rw [hM1];simp
  have a4':At w3 b4 (.cells (pV z fv).toArray T.kedgeref12_Small (0,0)):=At.ext x3 (At.ext x2 a4)
  have a6':At w3 b6 (.cells zTx.toArray T.api_Tx (0,0)):=At.ext x3 a6
  have a7':At w3 b7 (.cells (tC (.slice none 0 0) (.slice none 0 0) 0).toArray T.api_Tx (0,0)):=a7
  have x03:Ext w w3:=(x1.trans x2).trans x3
  clear x1 x2 x3 a4 a6 a7 r4 r7
  repeat (first|(refine aM (fun (p:Nat × Value × List TIn × Int) w'=>Ext w w'∧w3.heap.size≤w'.heap.size∧At w' b4 (.cells (pV z fv).toArray T.kedgeref12_Small (0,0))∧At w' b6 (.cells zTx.toArray T.api_Tx (0,0))∧At w' b7 (.cells (tC p.2.1 (.slice none 0 0) 0).toArray T.api_Tx (0,0))∧bH inR T.api_In w3.heap.size M1 w' p.2.1 p.2.2.1∧p.2.2.1.length≤p.1∧(∀x∈p.2.2.1,x.wit.length≤1)∧(0≤p.2.2.2∧p.2.2.2≤p.1*2100000000000000)∧p.1≤z.spends.length∧p.1≤4) (fun p=> [(0,v),(2,.int .i64 h),(4,.pointer (some ⟨b4,0,none⟩)),(6,.pointer (some ⟨b6,0,none⟩)),(7,.pointer (some ⟨b7,0,none⟩)),(8,.int .i64 p.2.2.2),(9,.int .i64 (p.1:Nat))]) (fun p=>4 - p.1) (0,.slice none 0 0, [],0) ⟨rfl,rfl,rfl,rfl,rfl,rfl,rfl,trivial⟩ ⟨x03,Nat.le_refl _,a4',a6',a7',bH.nil _ _ _ _,by simp,by simp,by simp,by simp,by simp⟩ ?_;rintro ⟨i,vi,ins,s⟩ ρ w6 ⟨x6,s36,e4,e6,e7,o1,hil,hwt,hs,hi1,hi2⟩;simp only at e7 o1 hil hwt hs hi1 hi2;dsimp only;have e4r:=Row.of_at e4)|refine go1 ?_|refine zg λ_ _=>?_|refine zi λ_ _=>?_)
  refine zG (d:=some 21) (E:=u8R) (M:=M) (l:=z.spends) rfl (hfr.ext x6) ?_
  by_cases hc1:i<z.spends.length
  ·by_cases hc2:i<4
   ·repeat (first|refine aG (d:=some 22) (.bool true) rfl (congrArg (fun b=>some (Value.bool b)) (dTr (by omega))) ?_|refine aG (d:=some 25) (.bool true) rfl (congrArg (fun b=>some (Value.bool b)) (dTr (by omega))) ?_|refine go1 ?_|refine zg λ_ _=>?_|refine zi λ_ _=>?_)
    by_cases hl0:l.length=0
    ·repeat (first|refine bN (d:=some 30) rfl (hv.ext x6) ?_|refine aG (d:=some 31) (.bool true) rfl (congrArg (fun b=>some (Value.bool b)) (dTr (by omega))) ?_|refine go1 ?_|refine zg λ_ _=>?_|refine zi λ_ _=>?_)
     exact ⟨(i+1,vi,ins,s),⟨rfl,rfl,rfl,rfl,rfl,rfl,rfl,trivial⟩,⟨x6,s36,e4,e6,e7,o1,by simp only;omega,hwt,by simp only;omega,by simp only;omega,by simp only;omega⟩,by simp only;omega⟩
    ·have hfr6:=hfr.ext x6
     have hv6:=hv.ext x6
     have x06':Unit→Ext w w6:=fun _=>x6
     clear x6
     repeat (first|refine bN (d:=some 30) rfl hv6 ?_|refine aG (d:=some 31) (.bool false) rfl (congrArg (fun b=>some (Value.bool b)) (dFa (by omega))) ?_|(refine aR (d:=some 36) (E:=u8R) (M:=M) rfl rfl (n:=i) (l:=z.spends) hfr6 rfl hc1 (fun ad cs r8 he=>?_);subst he)|refine aG (d:=some 38) (.int .i64 (z.spends[i].toNat:Nat)) rfl (congrArg (fun n=>some (Value.int .i64 n)) (wrap_u8 z.spends[i])) ?_|refine bN (d:=some 40) rfl hv6 ?_|refine aEf (d:=some 41) (n:=z.spends[i].toNat) (m:=l.length) rfl rfl (by omega) ?_|(have h9:=Nat.mod_lt z.spends[i].toNat (show 0<l.length by omega);generalize z.spends[i].toNat%l.length=n9 at h9 ⊢;refine aL (d:=some 42) (E:=aU) rfl rfl (n:=n9) (l:=l) hv6 rfl h9 (fun ad9 r9=>?_);obtain ⟨en,hen⟩:∃en,en=l[n9]:=⟨_,rfl⟩;have hem:en∈l:=(by rw [hen];exact gMe h9);rw [←hen] at r9)|refine zE (d':=10) (fun _=>rfl) rfl rfl rfl (fun b10 w7 x7 a10 (r10:Row w7 ⟨b10,0,none⟩ (aU.f en)) hb10=>?_)|refine cO (d:=some 48) rfl rfl (aJd z.delay.toNat 4 (by decide)) ?_|refine aG (d:=some 49) (.int .u32 ((z.delay.toNat%4:Nat):Int)) rfl (congrArg (fun n=>some (Value.int .u32 n)) (by rw [wrap32];omega)) ?_|refine cO (d:=some 52) rfl rfl (aW2 z.tag 3 (by decide)) ?_|refine zI (d:=some 53) rfl (fun b53 w8 x8 a53 hb53=>?_)|refine uY (d:=some 54) (l:= [0,UInt8.ofNat (z.tag.toNat%3),0]) rfl (SlE.new (E:=u8E) a53 rfl (Nat.le_refl _)) ?_|refine zI (d:=some 55) (cs:= [.string (str [0,UInt8.ofNat (z.tag.toNat%3),0])]) rfl (fun b55 w9 x9 a55 hb55=>?_)|refine bR (d:=some 56) (cs:=gY ⟨en.1,((z.delay.toNat%4:Nat):Int), []⟩ (.slice (some ⟨b55,0,none⟩) 1 1)) rfl ?_|(refine zE (d':=11) (fun _=>rfl) rfl rfl rfl (fun b11 w10 x10 a11 (r11:Row w10 ⟨b11,0,none⟩ (gY ⟨en.1,((z.delay.toNat%4:Nat):Int), []⟩ (.slice (some ⟨b55,0,none⟩) 1 1))) hb11=>?_))|(refine kK (a:=.seq (.reg false (.cons ⟨some 57,_,none⟩ _)) _) (fun (q:Int) w'=>Ext w6 w'∧Ext w7 w'∧At w' b11 (.cells (gY ⟨en.1,q, []⟩ (.slice (some ⟨b55,0,none⟩) 1 1)).toArray T.api_In (0,0))∧iA q∧SlE jD w' (.slice (some ⟨b55,0,none⟩) 1 1) [str [0,UInt8.ofNat (z.tag.toNat%3),0]]) (fun _=> [(0,v),(2,.int .i64 h),(4,.pointer (some ⟨b4,0,none⟩)),(6,.pointer (some ⟨b6,0,none⟩)),(7,.pointer (some ⟨b7,0,none⟩)),(8,.int .i64 s),(9,.int .i64 i),(10,.pointer (some ⟨b10,0,none⟩)),(11,.pointer (some ⟨b11,0,none⟩))]) ?_ ?_)|refine go1 ?_|refine zg λ_ _=>?_|refine zi λ_ _=>?_)
     ·have x610:Unit→Ext w6 w10:=fun _=>(x7.trans x8).trans (x9.trans x10)
      have x710:Unit→Ext w7 w10:=fun _=>x8.trans (x9.trans x10)
      have hb116:w6.heap.size≤b11:=nTr (x7.trans (x8.trans x9)).size hb11
      have hb117:w7.heap.size≤b11:=nTr (x8.trans x9).size hb11
      have l55:=a55.lt
      have sl10:SlE jD w10 (.slice (some ⟨b55,0,none⟩) 1 1) [str [0,UInt8.ofNat (z.tag.toNat%3),0]]:=SlE.new (E:=jD) (At.ext x10 a55) rfl (Nat.le_refl _)
      have r410:Row w10 ⟨b4,0,none⟩ (pV z fv):=Row.ext (x610 ()) e4r
      have a11':At w10 b11 (.cells (gY ⟨en.1,((z.delay.toNat%4:Nat):Int), []⟩ (.slice (some ⟨b55,0,none⟩) 1 1)).toArray T.api_In (0,0)):=a11
      clear x7 x8 x9 x10 a10 r10 a53 a55
      repeat' (first|refine cO (d:=some 59) rfl rfl (aJd z.delay.toNat 4 (by decide)) ?_|refine bV (b:=b11) (o:=2) (cur:=gY ⟨en.1,((z.delay.toNat%4:Nat):Int), []⟩ (.slice (some ⟨b55,0,none⟩) 1 1)) rfl rfl rfl a11' (Nat.le_of_ble_eq_true rfl) (fun w11 c11 a12=>?_)|refine go1 ?_|refine zg λ_ _=>?_|refine zi λ_ _=>?_|refine zL rfl (fun h=>?_) (fun h=>?_))
      ·exact ⟨4294967293,⟨rfl,rfl,rfl,rfl,rfl,rfl,rfl,rfl,rfl,trivial⟩,(Ext.chg (x610 ()) c11).mono (by intro y hy;simp at hy;right;omega),(Ext.chg (x710 ()) c11).mono (by intro y hy;simp at hy;right;omega),a12,⟨by decide,by decide⟩,sl10.chg c11 (fun a m c e hm=>by
        simp only [Value.slice.injEq,Option.some.injEq] at e
        simp only [List.mem_singleton] at hm
        have:=e.1
        rw [←this] at hm
        simp only at hm
        omega)⟩
      ·exact ⟨((z.delay.toNat%4:Nat):Int),⟨rfl,rfl,rfl,rfl,rfl,rfl,rfl,rfl,rfl,trivial⟩,x610 (),x710 (),a11',by unfold iA;omega,sl10⟩
     ·rintro q ρ w11 ⟨x611,x711,a12,hq,hw12⟩
      have r12:=Row.of_at a12
      have r1010:=Row.ext x711 r10
      have e7r:=Row.ext x611 (Row.of_at e7)
      have hpi:=(hsc en hem).2
      have hve:=hval en hem
      have o12:=o1.ext x611
      have s67:=x7.size
      have s78:=x8.size
      have s611:=x611.size
      have hsl:SlR wG (aH vi++M1) w11 (.slice (some ⟨b55,0,none⟩) 1 1) [str [0,UInt8.ofNat (z.tag.toNat%3),0]]:=SlE.toR hw12 (fun b hb hm=>by
       simp [aH] at hb;subst hb
       rcases List.mem_append.1 hm with h2|h2
       ·have:=o1.lt _ h2;omega
       ·have:=hM1b _ h2;omega)
      clear x8 x9 x10 a10 r10 a53 a55 a11 r11 x711
      repeat (first|refine zI (d:=some 65) (cs:=gY ⟨en.1,q, []⟩ (.slice (some ⟨b55,0,none⟩) 1 1)) rfl (fun b65 w13 x13 a13 hb65=>?_)|refine fB (d:=some 66) (E:=inR) (M:=M1) (v:=vi) (cs:=gY ⟨en.1,q, []⟩ (.slice (some ⟨b55,0,none⟩) 1 1)) (a:=⟨en.1,q, [str [0,UInt8.ofNat (z.tag.toNat%3),0]]⟩) rfl rfl (o12.ext x13) (by have:=x13.size;omega) rfl rfl a13 ⟨_,rfl,hsl.ext x13,hpi,hq⟩ (by omega) (fun v14 w14 o14 c14 hb14=>?_)|refine go1 ?_|refine zg λ_ _=>?_|refine zi λ_ _=>?_)
      have g1:=o1.base
      have l1:=o1.lt
      have h4v:b4∉aH vi:=fun h=>by have:=g1 _ h;omega
      have h6v:b6∉aH vi:=fun h=>by have:=g1 _ h;omega
      have h7v:b7∉aH vi:=fun h=>by have:=g1 _ h;omega
      have h10v:b10∉aH vi:=fun h=>by have:=l1 _ h;omega
      have x613:=x611.trans x13
      have e4':=At.chg c14 (e4.ext x613) h4v
      have e6':=At.chg c14 (e6.ext x613) h6v
      have e7':=At.chg c14 (e7.ext x613) h7v
      have r1014:=Row.chg c14 (Row.ext x13 r1010) h10v
      have g14:=o14.base
      repeat (first|refine go1 ?_|refine zg λ_ _=>?_|refine zi λ_ _=>?_)
      refine bV (d:=none) (b:=b7) (o:=1) (cur:=tC vi (.slice none 0 0) 0) rfl rfl o14.one e7' (Nat.le_of_ble_eq_true rfl) (fun w15 c15 a15=>?_)
      have h7w:b7∉aH v14:=fun h=>by have:=g14 _ h;omega
      have o15:=o14.step c15 (M':=M1) (by intro y hy;simp at hy;subst hy;exact ⟨h7w,.inl m7⟩) (fun _ h=>.inl h)
      have s14:=c14.size
      have s15:=c15.size
      have s013:=x613.size
      have r1015:=Row.chg c15 r1014 (by simp;omega)
      have x015:Ext w w15:=(Ext.chg ((x06' ()).trans x613) (c14.trans c15)).mono (by
       intro y hy
       rcases List.mem_append.1 hy with h|h
       ·have:=g1 _ h;right;omega
       ·simp at h;right;omega)
      have e415:=At.chg c15 e4' (by simp;omega)
      have e615:=At.chg c15 e6' (by simp;omega)
      clear x611 x13 x613 x7 c14 c15
      repeat (first|refine go1 ?_|refine zg λ_ _=>?_|refine zi λ_ _=>?_)
      exact ⟨(i+1,v14,ins++ [⟨en.1,q, [str [0,UInt8.ofNat (z.tag.toNat%3),0]]⟩],s+en.2.v),⟨rfl,rfl,rfl,rfl,rfl,rfl,rfl,trivial⟩,⟨x015,by omega,e415,e615,a15,o15,by simp only [List.length_append,List.length_singleton];omega,fun x hx=>by
       rcases List.mem_append.1 hx with hx|hx
       ·exact hwt x hx
       ·simp at hx;subst hx;exact Nat.le_refl 1,by simp only;omega,by simp only;omega,by simp only;omega⟩,by simp only;omega⟩
   ·repeat (first|refine aG (d:=some 22) (.bool true) rfl (congrArg (fun b=>some (Value.bool b)) (dTr (by omega))) ?_|refine aG (d:=some 25) (.bool false) rfl (congrArg (fun b=>some (Value.bool b)) (dFa (by omega))) ?_|refine go1 ?_|refine zg λ_ _=>?_|refine zi λ_ _=>?_)
    exact ⟨(vi,ins,s),⟨rfl,rfl,rfl,rfl,rfl,trivial⟩,x6,s36,e4,e6,e7,o1,by simp only;omega,hwt,by simp only;omega,by simp only;omega⟩
  ·repeat (first|refine aG (d:=some 22) (.bool false) rfl (congrArg (fun b=>some (Value.bool b)) (dFa (by omega))) ?_|refine go1 ?_|refine zg λ_ _=>?_|refine zi λ_ _=>?_)
   exact ⟨(vi,ins,s),⟨rfl,rfl,rfl,rfl,rfl,trivial⟩,x6,s36,e4,e6,e7,o1,by simp only;omega,hwt,by simp only;omega,by simp only;omega⟩
 ·rintro ⟨vi,ins,s⟩ ρ w5 ⟨x5,s35,e4,e6,e7,o1,hil,hwt,hs1,hs2⟩
  simp only at e7 o1 hil hwt hs1 hs2
  dsimp only
  have l4:=a4.lt
  have l6:=a6.lt
  have l7:=a7.lt
  have s1:=x1.size
  have s2:=x2.size
  have s3:=x3.size
  obtain ⟨M1,hM1⟩:∃M1,M1=b6::b7::M:=⟨_,rfl⟩
  have hM1b:∀b∈M1,b<w3.heap.size:=by
   intro y hy;rw [hM1] at hy;simp only [List.mem_cons] at hy
   rcases hy with rfl|rfl|hy
   ·omega
   ·omega
   ·have:=hM y hy;omega
  rw [←hM1] at o1
  have m6:b6∈M1:=by rw [hM1];simp
  have m7:b7∈M1:=by rw [hM1];simp
  have mM:∀b∈M,b∈M1:=by intro y hy;rw [hM1];simp [hy]
  have s03:w.heap.size≤w3.heap.size:=by omega
  clear x1 x2 x3 a4 a6 a7 r4 r7
  have x5':Unit→Ext w w5:=fun _=>x5
  have e4r:=Row.of_at e4
  have e7r:=Row.of_at e7
  have sl1:=o1.sl (fun b hb hv=>by have:=hM1b b hb;have:=o1.base b hv;omega)
  clear x5
  refine kK (a:=.seq (.reg false (.cons ⟨some 74,_,none⟩ _)) _) (fun (p:Value × List TIn × Int × Int) w'=>Ext w w'∧w3.heap.size≤w'.heap.size∧At w' b4 (.cells (pV z fv).toArray T.kedgeref12_Small (0,0))∧At w' b6 (.cells zTx.toArray T.api_Tx (0,0))∧At w' b7 (.cells (tC p.1 (.slice none 0 0) p.2.2.2).toArray T.api_Tx (0,0))∧bH inR T.api_In w3.heap.size M1 w' p.1 p.2.1∧p.2.1.length≤4∧(∀x∈p.2.1,x.wit.length≤1)∧(0≤p.2.2.1∧p.2.2.1≤8400000000000000)∧0≤p.2.2.2∧p.2.2.2<4294967296) (fun p=> [(4,.pointer (some ⟨b4,0,none⟩)),(6,.pointer (some ⟨b6,0,none⟩)),(7,.pointer (some ⟨b7,0,none⟩)),(8,.int .i64 p.2.2.1)]) ?_ ?_
  ·cases hg2:z.grant with
   |true=>
    repeat (first|refine aG (d:=some 76) (.bool true) rfl (congrArg (fun b=>some (Value.bool b)) hg2) ?_|refine go1 ?_|refine zg λ_ _=>?_|refine zi λ_ _=>?_)
    repeat (first|refine zI (d:=some 84) (cs:=gY ⟨⟨z32,4294967295⟩,4294967295, []⟩ (.slice none 0 0)) rfl (fun b84 w8 x8 a84 hb84=>?_)|refine go1 ?_|refine zg λ_ _=>?_|refine zi λ_ _=>?_)
    have s58:=x8.size
    have l84:=a84.lt
    refine bV (b:=b7) (o:=1) (cur:=tC vi (.slice none 0 0) 0) rfl rfl rfl (e7.ext x8) (Nat.le_of_ble_eq_true rfl) (fun w9 c9 a9=>?_)
    have a9:At w9 b7 (.cells (tC (.slice (some ⟨b84,0,none⟩) 1 1) (.slice none 0 0) 0).toArray T.api_Tx (0,0)):=a9
    repeat (first|refine go1 ?_|refine zg λ_ _=>?_|refine zi λ_ _=>?_)
    refine bV (b:=b7) (o:=3) (cur:=tC (.slice (some ⟨b84,0,none⟩) 1 1) (.slice none 0 0) 0) rfl rfl rfl a9 (Nat.le_of_ble_eq_true rfl) (fun w10 c10 a10=>?_)
    have a10:At w10 b7 (.cells (tC (.slice (some ⟨b84,0,none⟩) 1 1) (.slice none 0 0) (IntKind.u32.wrap h)).toArray T.api_Tx (0,0)):=a10
    rw [h32] at a10
    have cc:Chg [b7] w8 w10:=(c9.trans c10).mono (by simp)
    have e410:=(e4.ext x8).chg cc (by simp;omega)
    have e610:=(e6.ext x8).chg cc (by simp;omega)
    have r410:=Row.of_at e410
    have x10:Ext w w10:=(Ext.chg ((x5' ()).trans x8) cc).mono (fun y hy=>.inr (by simp at hy;omega))
    have a84':=a84.chg cc (by simp;omega)
    have oib:bH inR T.api_In w3.heap.size M1 w10 (.slice (some ⟨b84,0,none⟩) 1 1) [⟨⟨z32,4294967295⟩,4294967295, []⟩]:=
     ⟨[⟨gY ⟨⟨z32,4294967295⟩,4294967295, []⟩ (.slice none 0 0),rfl,by intro v hv;simp [gY] at hv;rcases hv with rfl|rfl|rfl|rfl<;>rfl⟩],.inr ⟨b84,1, [],rfl,by omega,a84',rfl⟩,.cons ⟨_,rfl,SlR.nil _ _,⟨by decide,by decide⟩,⟨by decide,by decide⟩⟩ .nil⟩
    have s810:=cc.size
    clear x8 c9 c10 cc
    repeat (first|refine aG (d:=some 91) (.int .i64 z.fee) rfl (congrArg (fun n=>some (Value.int .i64 n)) (IntWalk.i64_in _ (by omega))) ?_|refine go1 ?_|refine zg λ_ _=>?_|refine zi λ_ _=>?_)
    exact ⟨(.slice (some ⟨b84,0,none⟩) 1 1, [⟨⟨z32,4294967295⟩,4294967295, []⟩],100000+z.fee,h),⟨rfl,rfl,rfl,rfl,trivial⟩,x10,by omega,e410,e610,a10,oib,by simp,by simp,by simp only;omega,by simp only;omega⟩
   |false=>
    repeat (first|refine aG (d:=some 76) (.bool false) rfl (congrArg (fun b=>some (Value.bool b)) hg2) ?_|refine zG (d:=some 79) (E:=inR) (M:=M1) (l:=ins) rfl sl1 ?_|refine go1 ?_|refine zg λ_ _=>?_|refine zi λ_ _=>?_)
    refine zL rfl (fun h0=>?_) (fun h0=>?_)
    ·repeat (first|refine zI (d:=some 84) (cs:=gY ⟨⟨z32,4294967295⟩,4294967295, []⟩ (.slice none 0 0)) rfl (fun b84 w8 x8 a84 hb84=>?_)|refine go1 ?_|refine zg λ_ _=>?_|refine zi λ_ _=>?_)
     have s58:=x8.size
     have l84:=a84.lt
     refine bV (b:=b7) (o:=1) (cur:=tC vi (.slice none 0 0) 0) rfl rfl rfl (e7.ext x8) (Nat.le_of_ble_eq_true rfl) (fun w9 c9 a9=>?_)
     have a9:At w9 b7 (.cells (tC (.slice (some ⟨b84,0,none⟩) 1 1) (.slice none 0 0) 0).toArray T.api_Tx (0,0)):=a9
     repeat (first|refine go1 ?_|refine zg λ_ _=>?_|refine zi λ_ _=>?_)
     refine bV (b:=b7) (o:=3) (cur:=tC (.slice (some ⟨b84,0,none⟩) 1 1) (.slice none 0 0) 0) rfl rfl rfl a9 (Nat.le_of_ble_eq_true rfl) (fun w10 c10 a10=>?_)
     have a10:At w10 b7 (.cells (tC (.slice (some ⟨b84,0,none⟩) 1 1) (.slice none 0 0) (IntKind.u32.wrap h)).toArray T.api_Tx (0,0)):=a10
     rw [h32] at a10
     have cc:Chg [b7] w8 w10:=(c9.trans c10).mono (by simp)
     have e410:=(e4.ext x8).chg cc (by simp;omega)
     have e610:=(e6.ext x8).chg cc (by simp;omega)
     have r410:=Row.of_at e410
     have x10:Ext w w10:=(Ext.chg ((x5' ()).trans x8) cc).mono (fun y hy=>.inr (by simp at hy;omega))
     have a84':=a84.chg cc (by simp;omega)
     have oib:bH inR T.api_In w3.heap.size M1 w10 (.slice (some ⟨b84,0,none⟩) 1 1) [⟨⟨z32,4294967295⟩,4294967295, []⟩]:=
      ⟨[⟨gY ⟨⟨z32,4294967295⟩,4294967295, []⟩ (.slice none 0 0),rfl,by intro v hv;simp [gY] at hv;rcases hv with rfl|rfl|rfl|rfl<;>rfl⟩],.inr ⟨b84,1, [],rfl,by omega,a84',rfl⟩,.cons ⟨_,rfl,SlR.nil _ _,⟨by decide,by decide⟩,⟨by decide,by decide⟩⟩ .nil⟩
     have s810:=cc.size
     clear x8 c9 c10 cc
     repeat (first|refine aG (d:=some 91) (.int .i64 z.fee) rfl (congrArg (fun n=>some (Value.int .i64 n)) (IntWalk.i64_in _ (by omega))) ?_|refine go1 ?_|refine zg λ_ _=>?_|refine zi λ_ _=>?_)
     exact ⟨(.slice (some ⟨b84,0,none⟩) 1 1, [⟨⟨z32,4294967295⟩,4294967295, []⟩],100000+z.fee,h),⟨rfl,rfl,rfl,rfl,trivial⟩,x10,by omega,e410,e610,a10,oib,by simp,by simp,by simp only;omega,by simp only;omega⟩
    ·repeat (first|refine go1 ?_|refine zg λ_ _=>?_|refine zi λ_ _=>?_)
     exact ⟨(vi,ins,s,0),⟨rfl,rfl,rfl,rfl,trivial⟩,x5' (),s35,e4,e6,e7,o1,hil,hwt,⟨hs1,hs2⟩,by simp only;omega⟩
  ·clear ρ w5 x5' e4r e7r sl1 e4 e6 e7 o1 s35
   rintro ⟨vi,ins,s,lock⟩ ρ w5 ⟨x5,s35,e4,e6,e7,o1,hil,hwt,⟨hs1,hs2⟩,hk1,hk2⟩
   simp only at e7 o1 hil hwt hs1 hs2 hk1 hk2
   dsimp only
   have x5':Unit→Ext w w5:=fun _=>x5
   have e4r:=Row.of_at e4
   have e7r:=Row.of_at e7
   clear x5
   refine kK (a:=.seq (.reg false (.cons ⟨some 93,_,none⟩ _)) _) (fun (lock:Int) w'=>Ext w w'∧w5.heap.size≤w'.heap.size∧At w' b4 (.cells (pV z fv).toArray T.kedgeref12_Small (0,0))∧At w' b6 (.cells zTx.toArray T.api_Tx (0,0))∧At w' b7 (.cells (tC vi (.slice none 0 0) lock).toArray T.api_Tx (0,0))∧bH inR T.api_In w3.heap.size M1 w' vi ins∧0≤lock∧lock<4294967296) (fun p=> [(4,.pointer (some ⟨b4,0,none⟩)),(6,.pointer (some ⟨b6,0,none⟩)),(7,.pointer (some ⟨b7,0,none⟩)),(8,.int .i64 s)]) ?_ ?_
   ·have h7v:b7∉aH vi:=fun h=>by have:=o1.base _ h;omega
    repeat' (first|refine bV (b:=b7) (o:=3) (cur:=tC vi (.slice none 0 0) lock) rfl rfl rfl e7 (Nat.le_of_ble_eq_true rfl) (fun w10 c10 a10=>?_)|refine go1 ?_|refine zg λ_ _=>?_|refine zi λ_ _=>?_|refine zM rfl (fun h=>?_) (fun h=>?_))
    ·exact ⟨IntKind.u32.wrap (lock+1),⟨rfl,rfl,rfl,rfl,trivial⟩,(Ext.chg (x5' ()) c10).mono (fun y hy=>.inr (by simp at hy;omega)),c10.size,e4.chg c10 (by simp;omega),e6.chg c10 (by simp;omega),a10,o1.step c10 (fun y hy=>by simp at hy;subst hy;exact ⟨h7v,.inl m7⟩) (fun y hy=>.inl hy),by show 0≤(lock+1)%4294967296;omega,by show (lock+1)%4294967296<_;omega⟩
    ·exact ⟨lock,⟨rfl,rfl,rfl,rfl,trivial⟩,x5' (),Nat.le_refl _,e4,e6,e7,o1,hk1,hk2⟩
   ·clear ρ x5' e4r e7r e4 e6 e7 o1
    rintro lock' ρ w6 ⟨x6,s56,e4,e6,e7,o1,hj1,hj2⟩
    have e4r:=Row.of_at e4
    have e7r:=Row.of_at e7
    have hI0:=o1.base
    have hI1:=o1.lt
    have hp8:z.pays.toNat%3<3:=Nat.mod_lt _ (by decide)
    obtain ⟨n,hn0⟩:∃n,n=1+z.pays.toNat%3:=⟨_,rfl⟩
    have x6':Unit→Ext w w6:=fun _=>x6
    clear x6
    repeat (first|refine cO (d:=some 101) rfl rfl (aJd z.pays.toNat 3 (by decide)) ?_|refine aG (d:=some 102) (.int .i64 ((z.pays.toNat%3:Nat):Int)) rfl (congrArg (fun n=>some (Value.int .i64 n)) (mO (by omega))) ?_|(refine aG (d:=some 103) (.int .i64 ((1+z.pays.toNat%3:Nat):Int)) rfl (congrArg (fun n=>some (Value.int .i64 n)) (IntWalk.i64_in _ (by omega))) ?_;rw [←hn0])|refine aG (d:=some 107) (.int .i64 z.fee) rfl (congrArg (fun n=>some (Value.int .i64 n)) (IntWalk.i64_in _ (by omega))) ?_|(refine aM (fun (p:Nat × Int × Value × List TOut) w'=>Ext w w'∧w6.heap.size≤w'.heap.size∧At w' b4 (.cells (pV z fv).toArray T.kedgeref12_Small (0,0))∧p.1≤n∧p.2.2.2.length=p.1∧(∀o∈p.2.2.2,0≤o.v∧o.v≤8400000000000000)∧(-100000≤p.2.1∧p.2.1≤8400000000000000)∧At w' b6 (.cells zTx.toArray T.api_Tx (0,0))∧At w' b7 (.cells (tC vi p.2.2.1 lock').toArray T.api_Tx (0,0))∧bH inR T.api_In w3.heap.size (aH p.2.2.1++M1) w' vi ins∧bH fT T.api_Out w6.heap.size (aH vi++M1) w' p.2.2.1 p.2.2.2) (fun p=> [(4,.pointer (some ⟨b4,0,none⟩)),(6,.pointer (some ⟨b6,0,none⟩)),(7,.pointer (some ⟨b7,0,none⟩)),(12,.int .i64 (n:Nat)),(13,.int .i64 p.2.1),(14,.int .i64 p.1)]) (fun p=>n - p.1) (0,s - z.fee,.slice none 0 0, []) ⟨rfl,rfl,rfl,rfl,rfl,rfl,trivial⟩ ⟨x6' (),Nat.le_refl _,e4,by simp,rfl,by simp,⟨by show -100000≤s - z.fee;omega,by show s - z.fee≤_;omega⟩,e6,e7,o1,bH.nil _ _ _ _⟩ ?_)|refine go1 ?_|refine zg λ_ _=>?_|refine zi λ_ _=>?_)
    clear e4 e4r e6 e7 e7r o1 ρ
    rintro ⟨k,left,vo,O⟩ ρ7 w7 ⟨x7,s67,t3,hk3,hO,hOv,hlb,t4,t5,u1,u2⟩
    simp only at hk3 hO hOv hlb t5 u1 u2
    dsimp only
    have t3r:=Row.of_at t3
    have t5r:Row w7 ⟨b7,0,none⟩ (tC vi vo lock'):=Row.of_at t5
    have x7':Unit→Ext w w7:=fun _=>x7
    clear x7
    repeat' (first|refine aG (d:=some 117) (.int .i64 ((n - k:Nat):Int)) rfl (congrArg (fun n=>some (Value.int .i64 n)) (by rw [IntWalk.i64_in _ (by omega)];omega)) ?_|refine cO (d:=some 118) rfl rfl (aYu left (n - k) (by omega) (by omega)) ?_|(have hcb:=aOi (left:=left) (k:=n - k) (by omega) hlb.1 hlb.2 (by decide);refine kK (a:=.seq (.reg false (.cons ⟨some 119,_,none⟩ _)) _) (fun (_:Unit) w'=>w'=w7) (fun _=> [(4,.pointer (some ⟨b4,0,none⟩)),(6,.pointer (some ⟨b6,0,none⟩)),(7,.pointer (some ⟨b7,0,none⟩)),(12,.int .i64 (n:Nat)),(13,.int .i64 left),(14,.int .i64 k),(15,.int .i64 (aI4 left (n - k)))]) ?_ ?_)|refine zL (x:=.tmp 111) (p:=((k:Nat):Int)<((n:Nat):Int)) rfl (fun h=>?_) (fun h=>?_)|refine go1 ?_|refine zg λ_ _=>?_|refine zi λ_ _=>?_)
    ·refine zL (p:=left.tdiv ((n - k:Nat):Int)<0) rfl (fun h2=>?_) (fun h2=>?_)
     ·repeat' (first|refine go1 ?_|refine zg λ_ _=>?_|refine zi λ_ _=>?_)
      exact ⟨(),⟨rfl,rfl,rfl,rfl,rfl,rfl,congrArg (Value.int .i64) (by unfold aI4;rw [if_pos h2]),trivial⟩,rfl⟩
     ·repeat' (first|refine go1 ?_|refine zg λ_ _=>?_|refine zi λ_ _=>?_)
      exact ⟨(),⟨rfl,rfl,rfl,rfl,rfl,rfl,congrArg (Value.int .i64) (by unfold aI4;rw [if_neg h2]),trivial⟩,rfl⟩
    ·rintro _ ρ8 w8 rfl
     generalize hcut:aI4 left (n - k)=cv at hcb ⊢
     obtain ⟨b8,hb8⟩:=aXk (z.outs.fdiv (2^(min (2*((k:Nat):Int)).toNat IntKind.i64.bits)))
     obtain ⟨scr,hscr⟩:∃scr,scr=(⟨#[1]⟩:ByteArray)++str [UInt8.ofNat (b8.toNat%3),0,UInt8.ofNat (z.height.toNat%3),0,0,0,0,0]:=⟨_,rfl⟩
     have hsz:(str [UInt8.ofNat (b8.toNat%3),0,UInt8.ofNat (z.height.toNat%3),0,0,0,0,0]).size=8:=gC _
     have hsz1:(⟨#[1]⟩:ByteArray).size=1:=rfl
     iterate 21 (first|refine zg (fun w8' x8=>?_)|refine aG (d:=some 126) (.int .i64 z.outs) rfl (congrArg (fun n=>some (Value.int .i64 n)) (IntWalk.i64_in _ (by omega))) ?_|refine oH (d:=some 128) rfl rfl (by omega) ?_|refine aWw (d:=some 129) rfl rfl (by omega) ?_|refine aG (d:=some 130) (.int .u8 (b8.toNat:Nat)) rfl (congrArg (fun n=>some (Value.int .u8 n)) hb8) ?_|refine cO (d:=some 131) rfl rfl (aW2 b8 3 (by decide)) ?_|refine cO (d:=some 134) rfl rfl (aW2 z.height 3 (by decide)) ?_|refine zI (d:=some 135) rfl (fun b26 w9 x9 a26 hb26=>?_)|refine go1 ?_|refine zg λ_ _=>?_|refine zi λ_ _=>?_)
     refine uY (d:=some 136) (l:= [UInt8.ofNat (b8.toNat%3),0,UInt8.ofNat (z.height.toNat%3),0,0,0,0,0]) rfl (SlE.new (E:=u8E) a26 rfl (Nat.le_refl _)) ?_
     refine jY (d:=some 137) rfl rfl ?_ ?_
     ·rw [hsz,hsz1];decide
     rw [←hscr]
     clear a26
     repeat' (first|refine bR (d:=some 142) (cs:=tE ⟨cv,scr⟩) rfl ?_|refine zI (d:=some 143) (cs:=tE ⟨cv,scr⟩) rfl (fun b w10 x10 a10 hb=>?_)|(refine fB (d:=some 144) (E:=fT) (M:=aH vi++M1) (v:=vo) (cs:=tE ⟨cv,scr⟩) (a:=⟨cv,scr⟩) rfl rfl (((u2.ext x8).ext x9).ext x10) (by have:=x8.size;have:=x9.size;have:=x10.size;omega) rfl rfl a10 ⟨rfl,by show aQj cv;unfold aQj;omega⟩ (by omega) (fun v11 w11 o11 c11 hb11=>?_))|refine go1 ?_|refine zg λ_ _=>?_|refine zi λ_ _=>?_)
     have g2:=u2.base
     have l2:=u2.lt
     have x710:=x8.trans (x9.trans x10)
     have s710:=x710.size
     have h3o:b4∉aH vo:=fun h=>by have:=g2 _ h;omega
     have h4o:b6∉aH vo:=fun h=>by have:=g2 _ h;omega
     have h5o:b7∉aH vo:=fun h=>by have:=g2 _ h;omega
     have hvo:∀b∈aH vo,b∉aH vi:=fun b h h'=>by have:=g2 _ h;have:=hI1 _ h';omega
     have u1':=(u1.ext x710).step c11 (M':=aH v11++M1) (fun b h=>⟨hvo b h,.inl (by simp [h])⟩) (fun b h=>by
      rcases List.mem_append.1 h with h|h
      ·rcases hb11 b h with h|h
       ·exact .inl (by simp [h])
       ·exact .inr h
      ·exact .inl (by simp [h]))
     have t3':=At.chg c11 (t3.ext x710) h3o
     have t4':=At.chg c11 (t4.ext x710) h4o
     have t5':=At.chg c11 (t5.ext x710) h5o
     have g11:=o11.base
     have s11:=c11.size
     have xwx:Unit→Chg (aH vo) w w11:=fun _=>Ext.chg ((x7' ()).trans x710) c11
     clear x8 x9 x10 x710
     repeat (first|refine go1 ?_|refine zg λ_ _=>?_|refine zi λ_ _=>?_)
     refine bV (d:=none) (b:=b7) (o:=2) (cur:=tC vi vo lock') rfl rfl o11.one t5' (Nat.le_of_ble_eq_true rfl) (fun w12 c12 a12=>?_)
     have h5v:b7∉aH vi:=fun h=>by have:=hI0 _ h;omega
     have h5w:b7∉aH v11:=fun h=>by have:=g11 _ h;omega
     have u12:=u1'.step c12 (M':=aH v11++M1) (by intro y hy;simp at hy;subst hy;exact ⟨h5v,.inl (by simp [m7])⟩) (fun _ h=>.inl h)
     have o12:=o11.step c12 (M':=aH vi++M1) (by intro y hy;simp at hy;subst hy;exact ⟨h5w,.inl (by simp [m7])⟩) (fun _ h=>.inl h)
     have s12:=c12.size
     have x12:Unit→Ext w w12:=fun _=>((xwx ()).trans c12).mono (by
      intro y hy
      rcases List.mem_append.1 hy with h|h
      ·have:=g2 _ h;right;omega
      ·simp at h;right;omega)
     repeat (first|refine go1 ?_|refine zg λ_ _=>?_|refine zi λ_ _=>?_)
     exact ⟨(k+1,left - cv,v11,O++ [⟨cv,scr⟩]),⟨rfl,rfl,rfl,rfl,rfl,rfl,trivial⟩,⟨x12 (),by omega,At.chg c12 t3' (by simp;omega),by omega,by simp;omega,fun o ho=>by
      rcases List.mem_append.1 ho with ho|ho
      ·exact hOv o ho
      ·simp at ho;subst ho;exact ⟨hcb.1,hcb.2.1⟩,by simp only;omega,At.chg c12 t4' (by simp;omega),a12,u12,o12⟩,by simp;omega⟩
    ·have hkn:k=n:=by omega
     subst hkn
     repeat' (first|refine go1 ?_|refine zg λ_ _=>?_|refine zi λ_ _=>?_)
     refine bQ (w0:=w) (vs:=tC vi vo lock') (x7' ()) (by omega) t4 rfl rfl rfl rfl ?_ (fun w12 x12 c12 a12 r12=>?_)
     ·have e1:=u1.one
      have e2:=u2.one
      simp [e1,e2];exact ⟨rfl,rfl⟩
     repeat (first|refine go1 ?_|refine zg λ_ _=>?_|refine zi λ_ _=>?_)
     have g2:=u2.base
     have h4i:b6∉aH vi:=fun h=>by have:=hI0 _ h;omega
     have h4o:b6∉aH vo:=fun h=>by have:=g2 _ h;omega
     have p1:=(u1.step (M':=M1) c12 (by intro y hy;simp at hy;subst hy;exact ⟨h4i,.inl (by simp [m6])⟩) (fun _ h=>.inl (by simp [h]))).sub (M':=M) (fun b hb=>.inl (mM b hb))
     have p2:=(u2.step (M':=M1) c12 (by intro y hy;simp at hy;subst hy;exact ⟨h4o,.inl (by simp [m6])⟩) (fun _ h=>.inl (by simp [h]))).sub (M':=M) (fun b hb=>.inl (mM b hb))
     exact aB (aGc (cB r12 rfl rfl)) ⟨_,⟨2,ins,O,lock'⟩,rfl,⟨vi,vo,rfl,p1.lower s03,p2.lower (by omega),(show iA 2 by unfold iA;omega),(show iA lock' from ⟨hj1,hj2⟩)⟩,⟨hil,by show O.length≤3;omega,hwt,hOv⟩,x12⟩
end
end Go.Proofs.YtgloknkcfchnlaaGreatDoor
