/- Contracts: transactions cut to a size. Contracts: the refere -/
import Derived.Test.YtfebcajheojodaaGreatDoorZ16
set_option linter.unusedVariables false
set_option linter.unusedSimpArgs false
namespace Go.Proofs.YtfebcajheojodaaGreatDoor
section
open Go Go.K
attribute [local irreducible] aO aU bQ KOp.wp K.Spec u32 leS vnS str aV cU cD idT aR aG aX idN
structure _root_.Go.K.Tx.Raw (t:Tx):Prop where
 ins:t.ins.length≤9223372036854775807
 outs:t.outs.length≤9223372036854775807
 wit:∀x∈t.ins,x.wit.length≤9223372036854775807
structure _root_.Go.K.Tx.Cut (t:Tx) (n:Nat):Prop where
 ins:t.ins.length≤n
 outs:t.outs.length≤n
 wit:∀x∈t.ins,x.wit.length≤6
set_option maxHeartbeats 4000000 in
theorem bHf {M:List Nat} {cs:List Value} {t:Tx} (most:Nat) (w:World) (ht:txR.rel M w cs t) (hr:t.Raw) (hm:most≤1000) (hM:∀b∈M,b<w.heap.size):
  K.Spec Tryz.prog F.kedgeref05_Cut [.agg cs.toArray,.int .i64 (most:Nat)] w fun r w'=>∃cs' t',r=.agg cs'.toArray∧txO w.heap.size M w' cs' t'∧t'.Cut most∧Ext w w':=by
 obtain ⟨iv,ov,rfl,h1,h2,h3⟩:=ht
 have hr1:=hr.ins
 have hr2:=hr.outs
 refine aKz rfl ?_
 unfold yP
 refine oy ?_
 repeat (first|refine go ?_|refine zg λ_ _=>?_|refine zi λ_ _=>?_)
 refine zD rfl rfl (fun bp wp xp ap rp hp0=>?_)
 repeat (first|refine go ?_|refine zg λ_ _=>?_|refine zi λ_ _=>?_)
 refine zH (fun b4 w4 x4 a4 hb4=>?_)
 repeat' (first|refine bL (cs:= [.int .u32 t.ver,.slice none 0 0,.slice none 0 0,.int .u32 t.lock]) rfl ?_|refine go1 ?_|refine zg λ_ _=>?_|refine zi λ_ _=>?_)
 refine zE (fun _=>rfl) rfl rfl rfl (fun b5 w5 x5 a5 r5 hb5=>?_)
 have lp:=ap.lt
 have l4:=a4.lt
 have l5:=a5.lt
 have sp:=xp.size
 have s4:=x4.size
 have s5:=x5.size
 obtain ⟨M1,hM1⟩:∃M1,M1= [b4,b5]++M:=⟨_,rfl⟩
 have hM1b:∀b∈M1,b<w5.heap.size:=by
  intro y hy;rw [hM1] at hy;simp at hy
  rcases hy with h|h|h
  ·omega
  ·omega
  ·have:=hM y h;omega
 have m4:b4∈M1:=by rw [hM1];simp
 have m5:b5∈M1:=by rw [hM1];simp
 have mM:∀b∈M,b∈M1:=by intro y hy;rw [hM1];simp [hy]
 have a4':At w5 b4 (.cells [Value.int .u32 0,.slice none 0 0,.slice none 0 0,.int .u32 0].toArray T.api_Tx (0,0)):=At.ext x5 a4
 have a5':At w5 b5 (.cells [Value.int .u32 t.ver,.slice none 0 0,.slice none 0 0,.int .u32 t.lock].toArray T.api_Tx (0,0)):=a5
 have ap':At w5 bp (.cells (aK t iv ov).toArray T.api_Tx (0,0)):=At.ext x5 (At.ext x4 ap)
 have xw:Unit→Ext w w5:=fun _=>(xp.trans x4).trans x5
 clear a5 a4 ap rp r5 x5 x4 xp
 repeat' (first|refine go1 ?_|refine zg λ_ _=>?_|refine zi λ_ _=>?_|refine zJ rfl (fun h=>?_) (fun h=>?_)|refine zL rfl (fun h=>?_) (fun h=>?_)|refine zB ?_ ?_|refine zG (E:=inR) (M:=M) (l:=t.ins) rfl (SlR.ext (w:=w) h1 (by first|exact x6|exact Ext.c (by assumption) x6)) ?_|(refine aQ (fun (p:Nat × Value × List TIn) w'=>Ext w w'∧w5.heap.size≤w'.heap.size∧At w' bp (.cells (aK t iv ov).toArray T.api_Tx (0,0))∧p.1≤t.ins.length∧p.1≤most∧p.2.2.length=p.1∧(∀x∈p.2.2,x.wit.length≤6)∧At w' b4 (.cells [Value.int .u32 0,.slice none 0 0,.slice none 0 0,.int .u32 0].toArray T.api_Tx (0,0))∧At w' b5 (.cells [Value.int .u32 t.ver,p.2.1,.slice none 0 0,.int .u32 t.lock].toArray T.api_Tx (0,0))∧cJ inR T.api_In w5.heap.size M1 w' p.2.1 p.2.2) (fun p=> [(1,.int .i64 (most:Nat)),(2,.pointer (some ⟨bp,0,none⟩)),(4,.pointer (some ⟨b4,0,none⟩)),(5,.pointer (some ⟨b5,0,none⟩)),(6,.int .i64 p.1)]) (fun p=>most - p.1) (0,.slice none 0 0, []) ⟨rfl,rfl,rfl,rfl,rfl,trivial⟩ ⟨xw (),Nat.le_refl _,ap',by simp,by simp,rfl,by simp,a4',a5',cJ.nil _ _ _ _⟩ ?_;rintro ⟨i,vi,L⟩ ρ w6 ⟨x6,s56,q3,hi1,hi2,hL,hLm,q4,q5,o1⟩;simp only at hi1 hi2 hL hLm q5 o1;dsimp only;have q3r:=Row.of_at q3;have q5r:Row w6 ⟨b5,0,none⟩ [Value.int .u32 t.ver,vi,.slice none 0 0,.int .u32 t.lock]:=Row.of_at q5))
 ·have hil:i<t.ins.length:=by omega
  have x6':Unit→Ext w w6:=fun _=>x6
  have hwl:=hr.wit _ (gMe hil)
  clear x6
  repeat' (first|refine go1 ?_|refine zg λ_ _=>?_|refine zi λ_ _=>?_|refine zB ?_ ?_|(refine aL (d:=some 32) (E:=inR) (M:=M) rfl rfl (n:=i) (l:=t.ins) (SlR.ext h1 (Ext.c (by assumption) (x6' ()))) rfl hil (fun ad cs r8 he=>?_);obtain ⟨wv,rfl,hw,hp5,hp6⟩:=he;obtain ⟨bs1,cp1,rfl⟩:=hw.form)|(refine aL (d:=some 38) (E:=inR) (M:=M) rfl rfl (n:=i) (l:=t.ins) (SlR.ext h1 (Ext.c (by assumption) (x6' ()))) rfl hil (fun ad cs r9 he=>?_);obtain ⟨wv,rfl,hw,hp5,hp6⟩:=he;obtain ⟨bs1,cp1,rfl⟩:=hw.form)|refine bL (d:=some 41) (cs:=gO ⟨t.ins[i].p,t.ins[i].q, []⟩ (.slice none 0 0)) rfl ?_|refine zH (d:=some 7) (fun b7 w7 x7 a7 hb7=>?_))
  have l7:=a7.lt
  have s7:=Ext.size (w:=w6) (w':=w7) (by exact fx)
  have g7:w6.heap.size≤b7:=nTr (Ext.size (by assumption)) hb7
  have gi:=o1.base
  have gj:=o1.lt
  refine cQ (vs:=gO ⟨t.ins[i].p,t.ins[i].q, []⟩ (.slice none 0 0)) rfl rfl rfl (jO rfl) a7 rfl (fun w8 c8 a8=>?_)
  have x68:Ext w6 w8:=(Ext.chg (w:=w6) (by exact fx) c8).mono (by intro y hy;simp at hy;right;omega)
  have s8:=c8.size
  clear a7 x7 c8 r8 r9
  have r8':=Row.of_at a8
  obtain ⟨M7,hM7⟩:∃M7,M7= [b7]++(aP vi++M1):=⟨_,rfl⟩
  have hM7b:∀b∈M7,b<w8.heap.size:=by
   intro y hy;rw [hM7] at hy
   rcases List.mem_append.1 hy with h|h
   ·simp at h;omega
   rcases List.mem_append.1 h with h|h
   ·have:=gj _ h;omega
   ·have:=hM1b y h;omega
  have m7:b7∈M7:=by rw [hM7];simp
  have mvi:∀b∈aP vi++M1,b∈M7:=by intro y hy;rw [hM7];exact List.mem_append_right _ hy
  repeat' (first|refine rJ (a:=.seq (.reg false (.cons ⟨some 42,_,none⟩ _)) _) (fun (S:ByteArray) w'=>Ext w6 w'∧w8.heap.size≤w'.heap.size∧At w' b7 (.cells (gO ⟨⟨S,t.ins[i].p.i⟩,t.ins[i].q, []⟩ (.slice none 0 0)).toArray T.api_In (0,0))) (fun _=> [(1,.int .i64 (most:Nat)),(2,.pointer (some ⟨bp,0,none⟩)),(4,.pointer (some ⟨b4,0,none⟩)),(5,.pointer (some ⟨b5,0,none⟩)),(6,.int .i64 i),(7,.pointer (some ⟨b7,0,none⟩))]) ?_ ?_|(rintro S ρ7 w9 ⟨x69,sB,a9⟩;clear x68 r8' a8)|refine rJ (a:=.seq (.reg false (.cons ⟨some 77,_,none⟩ _)) _) (fun (s:ByteArray) w'=>Ext w10 w') (fun s=> [(1,.int .i64 (most:Nat)),(2,.pointer (some ⟨bp,0,none⟩)),(4,.pointer (some ⟨b4,0,none⟩)),(5,.pointer (some ⟨b5,0,none⟩)),(6,.int .i64 i),(7,.pointer (some ⟨b7,0,none⟩)),(8,.int .i64 k),(9,.string s)]) ?_ ?_|(rintro s ρ9 w12 x1012)|refine go1 ?_|refine zg λ_ _=>?_|refine zi λ_ _=>?_|refine zJ rfl (fun h=>?_) (fun h=>?_)|refine zL rfl (fun h=>?_) (fun h=>?_)|refine aOc rfl rfl (by omega) ?_|refine cN (d:=none) (b:=b7) (o:=0) rfl rfl rfl a8 (Nat.le_of_ble_eq_true rfl) (fun w9 c9 a9=>?_)|(refine aQ (fun (p:Nat × Value × List ByteArray) w'=>Ext w6 w'∧w9.heap.size≤w'.heap.size∧p.1≤6∧p.1≤t.ins[i].wit.length∧p.2.2.length=p.1∧At w' b7 (.cells (gO ⟨⟨S,t.ins[i].p.i⟩,t.ins[i].q, []⟩ p.2.1).toArray T.api_In (0,0))∧cJ lL T.string w8.heap.size M7 w' p.2.1 p.2.2) (fun p=> [(1,.int .i64 (most:Nat)),(2,.pointer (some ⟨bp,0,none⟩)),(4,.pointer (some ⟨b4,0,none⟩)),(5,.pointer (some ⟨b5,0,none⟩)),(6,.int .i64 i),(7,.pointer (some ⟨b7,0,none⟩)),(8,.int .i64 p.1)]) (fun p=>6 - p.1) (0,.slice none 0 0, []) ⟨rfl,rfl,rfl,rfl,rfl,rfl,rfl,trivial⟩ ⟨x69,Nat.le_refl _,by simp,by simp,rfl,a9,cJ.nil _ _ _ _⟩ ?_;clear x69;rintro ⟨k,vw,W⟩ ρ10 w10 ⟨x10,s910,hk1,hk2,hW,a10,ow⟩;simp only at hk1 hk2 hW a10 ow;dsimp only;have r10:=Row.of_at a10)|(refine aL (d:=some 57) (E:=inR) (M:=M) rfl rfl (n:=i) (l:=t.ins) (SlR.ext h1 (Ext.trans (x6' ()) (by exact fx))) rfl hil (fun ad cs r11 he=>?_);obtain ⟨wv2,rfl,hw2,_⟩:=he;obtain ⟨bs2,cp2,rfl⟩:=hw2.form)|(refine aL (d:=some 71) (E:=inR) (M:=M) rfl rfl (n:=i) (l:=t.ins) (SlR.ext h1 (Ext.trans (x6' ()) (by exact fx))) rfl hil (fun ad cs r11 he=>?_);obtain ⟨wv2,rfl,hw2,_⟩:=he;obtain ⟨bs2,cp2,rfl⟩:=hw2.form)|refine vQ (E:=lL) (M:=M) (l:=t.ins[i].wit) rfl hw2 ?_|(refine aL (d:=some 75) (E:=lL) (M:=M) rfl rfl (n:=k) (l:=t.ins[i].wit) hw2 rfl (by omega) (fun ad cs r12 he=>?_);subst he)|(refine zI (d:=some 85) (cs:= [.string s]) rfl (fun b w13 x13 a13 hb13=>?_);have s1013:=Ext.size (w:=w10) (w':=w13) (by exact fx))|refine iW (d:=some 86) (E:=lL) (M:=M7) (v:=vw) (cs:= [.string s]) (a:=s) rfl rfl ((ow.ext x1012).ext x13) (by omega) rfl rfl a13 rfl (by omega) (fun v14 w14 o14 c14 hb14=>?_)|(refine zI (d:=some 91) (cs:=gO ⟨⟨S,t.ins[i].p.i⟩,t.ins[i].q,W⟩ vw) rfl (fun b w13 x13 a13 hb13=>?_);have s1013:=x13.size)|(refine iW (d:=some 92) (E:=inR) (M:=M1) (v:=vi) (cs:=gO ⟨⟨S,t.ins[i].p.i⟩,t.ins[i].q,W⟩ vw) (a:=⟨⟨S,t.ins[i].p.i⟩,t.ins[i].q,W⟩) rfl rfl (o1.ext (x10.trans x13)) (by omega) rfl rfl a13 ⟨vw,rfl,((ow.ext x13).slB hM7b).sub (fun b hb=>.inl (mvi b hb)),by assumption,by assumption⟩ (by omega) (fun v14 w14 o14 c14 hb14=>?_)))
  ·exact ⟨_,⟨rfl,rfl,rfl,rfl,rfl,rfl,trivial⟩,(x68.chg c9).mono (by intro y hy;simp at hy;right;omega),c9.size,a9⟩
  ·exact ⟨_,⟨rfl,rfl,rfl,rfl,rfl,rfl,trivial⟩,x68,Nat.le_refl _,a8⟩
  ·exact ⟨_,⟨rfl,rfl,rfl,rfl,rfl,rfl,rfl,rfl,trivial⟩,by exact fx⟩
  ·exact ⟨_,⟨rfl,rfl,rfl,rfl,rfl,rfl,rfl,rfl,trivial⟩,by exact fx⟩
  ·have gw:=ow.base
   have h7w:b7∉aP vw:=fun h=>by have:=gw _ h;omega
   have a14:=At.chg c14 (At.ext x13 (At.ext x1012 a10)) h7w
   have g14:=o14.base
   have h7v:b7∉aP v14:=fun h=>by have:=g14 _ h;omega
   refine cN (d:=none) (b:=b7) (o:=3) (cur:=gO ⟨⟨S,t.ins[i].p.i⟩,t.ins[i].q, []⟩ vw) rfl rfl o14.one a14 (Nat.le_of_ble_eq_true rfl) (fun w15 c15 a15=>?_)
   have o15:=o14.step c15 (M':=M7) (by intro y hy;simp at hy;subst hy;exact ⟨h7v,.inl m7⟩) (fun _ h=>.inl h)
   have x15:Unit→Ext w6 w15:=fun _=>(Ext.chg ((x10.trans x1012).trans x13) (c14.trans c15)).mono (by
    intro y hy
    rcases List.mem_append.1 hy with h|h
    ·have:=gw _ h;right;omega
    ·simp at h;right;omega)
   have s14:=c14.size
   have s15:=c15.size
   repeat (first|refine go1 ?_|refine zg λ_ _=>?_|refine zi λ_ _=>?_)
   exact ⟨(k+1,v14,W++ [s]),⟨rfl,rfl,rfl,rfl,rfl,rfl,rfl,trivial⟩,⟨x15 (),by omega,by simp;omega,by simp;omega,by simp;omega,a15,o15⟩,by simp;omega⟩
  all_goals
   have hpv:bp∉aP vi:=fun h=>by have:=gi _ h;omega
   have h4v:b4∉aP vi:=fun h=>by have:=gi _ h;omega
   have h5v:b5∉aP vi:=fun h=>by have:=gi _ h;omega
   have z3:=At.chg c14 (q3.ext (x10.trans x13)) hpv
   have z4:=At.chg c14 (q4.ext (x10.trans x13)) h4v
   have z5:=At.chg c14 (q5.ext (x10.trans x13)) h5v
   have g14:=o14.base
   have h5w:b5∉aP v14:=fun h=>by have:=g14 _ h;omega
   refine cN (d:=none) (b:=b5) (o:=1) (cur:= [Value.int .u32 t.ver,vi,.slice none 0 0,.int .u32 t.lock]) rfl rfl o14.one z5 (Nat.le_of_ble_eq_true rfl) (fun w15 c15 a15=>?_)
   have o15:=o14.step c15 (M':=M1) (by intro y hy;simp at hy;subst hy;exact ⟨h5w,.inl m5⟩) (fun _ h=>.inl h)
   have x15:Unit→Ext w w15:=fun _=>(Ext.chg ((x6' ()).trans (x10.trans x13)) (c14.trans c15)).mono (by
    intro y hy
    rcases List.mem_append.1 hy with h|h
    ·have:=gi _ h;right;omega
    ·simp at h;right;omega)
   have s14:=c14.size
   have s15:=c15.size
   have s610:=x10.size
   clear x13
   have hi64:i≤1000:=by omega
   have hi65: -9223372036854775808≤(i:Int)+1∧(i:Int)+1≤9223372036854775807:=by omega
   apply z1
   apply zr
   apply zo
   apply zh
   apply z0
   refine bHz rfl rfl hi65 ?_
   clear hM7b mvi m7 hM7 hp5 hp6 hwl
   repeat (first|refine go1 ?_|refine zg λ_ _=>?_|refine zi λ_ _=>?_)
   refine ⟨(i+1,v14,L++ [⟨⟨S,t.ins[i].p.i⟩,t.ins[i].q,W⟩]),⟨rfl,rfl,rfl,rfl,rfl,trivial⟩,⟨x15 (),by omega,At.chg c15 z3 (by simp;omega),by simp;omega,by simp;omega,by simp;omega,?_,At.chg c15 z4 (by simp;omega),a15,o15⟩,by simp;omega⟩
   intro x hx
   rcases List.mem_append.1 hx with h|h
   ·exact hLm x h
   ·simp at h;subst h;simp only;omega
 all_goals
  have hI0:=o1.base
  have hI1:=o1.lt
  have x6':Unit→Ext w w6:=fun _=>x6
  clear x6 xw
  repeat' (first|refine rJ (a:=.seq (.reg false (.cons ⟨some 111,_,none⟩ _)) _) (fun (S:ByteArray) w'=>Ext w7 w'∧At w' b11 (.cells (fD ⟨t.outs[k].v,S⟩).toArray T.api_Out (0,0))) (fun _=> [(1,.int .i64 (most:Nat)),(2,.pointer (some ⟨bp,0,none⟩)),(4,.pointer (some ⟨b4,0,none⟩)),(5,.pointer (some ⟨b5,0,none⟩)),(10,.int .i64 k),(11,.pointer (some ⟨b11,0,none⟩))]) ?_ ?_|(rintro S ρ7 w12 ⟨x712,a12⟩;clear x11 a11 r11;have r12:=Row.of_at a12)|refine go1 ?_|refine zg λ_ _=>?_|refine zi λ_ _=>?_|refine zJ rfl (fun h=>?_) (fun h=>?_)|refine zL rfl (fun h=>?_) (fun h=>?_)|refine aOc rfl rfl (by omega) ?_|refine cN (d:=none) (b:=b11) (o:=1) rfl rfl rfl a11 (Nat.le_of_ble_eq_true rfl) (fun w12 c12 a12=>?_)|refine vQ (E:=eX) (M:=M) (l:=t.outs) rfl (SlR.ext h2 x7) ?_|(refine aQ (fun (p:Nat × Value × List TOut) w'=>Ext w w'∧w6.heap.size≤w'.heap.size∧At w' bp (.cells (aK t iv ov).toArray T.api_Tx (0,0))∧p.1≤t.outs.length∧p.1≤most∧p.2.2.length=p.1∧At w' b4 (.cells [Value.int .u32 0,.slice none 0 0,.slice none 0 0,.int .u32 0].toArray T.api_Tx (0,0))∧At w' b5 (.cells [Value.int .u32 t.ver,vi,p.2.1,.int .u32 t.lock].toArray T.api_Tx (0,0))∧cJ inR T.api_In w5.heap.size (aP p.2.1++M1) w' vi L∧cJ eX T.api_Out w6.heap.size (aP vi++M1) w' p.2.1 p.2.2) (fun p=> [(1,.int .i64 (most:Nat)),(2,.pointer (some ⟨bp,0,none⟩)),(4,.pointer (some ⟨b4,0,none⟩)),(5,.pointer (some ⟨b5,0,none⟩)),(10,.int .i64 p.1)]) (fun p=>most - p.1) (0,.slice none 0 0, []) ⟨rfl,rfl,rfl,rfl,rfl,trivial⟩ ⟨x6' (),Nat.le_refl _,q3,by simp,by simp,rfl,q4,q5,o1,cJ.nil _ _ _ _⟩ ?_;rintro ⟨k,vo,O⟩ ρ7 w7 ⟨x7,s67,t3,hk1,hk2,hO,t4,t5,u1,u2⟩;simp only at hk1 hk2 hO t5 u1 u2;dsimp only;have t3r:=Row.of_at t3;have t5r:Row w7 ⟨b5,0,none⟩ [Value.int .u32 t.ver,vi,vo,.int .u32 t.lock]:=Row.of_at t5)|(refine aL (d:=some 109) (E:=eX) (M:=M) rfl rfl (n:=k) (l:=t.outs) (SlR.ext h2 x7) rfl (by omega) (fun ad cs r10 he=>?_);obtain ⟨rfl,hv10⟩:=he;have hkl:k<t.outs.length:=by omega)|(refine zE (fun _=>rfl) rfl rfl rfl (fun b11 w11 x11 a11 (r11:Row w11 ⟨b11,0,none⟩ (fD t.outs[k])) hb11=>?_);have l11:=a11.lt)|(refine zI (d:=some 122) (cs:=fD ⟨t.outs[k].v,S⟩) rfl (fun b w13 x13 a13 hb13=>?_);have s713:=Ext.size (w:=w7) (w':=w13) (by exact fx))|refine iW (d:=some 123) (E:=eX) (M:=aP vi++M1) (v:=vo) (cs:=fD ⟨t.outs[k].v,S⟩) (a:=⟨t.outs[k].v,S⟩) rfl rfl ((u2.ext x712).ext x13) (by omega) rfl rfl a13 ⟨rfl,hv10⟩ (by omega) (fun v14 w14 o14 c14 hb14=>?_))
  ·exact ⟨t.outs[k].s.extract 0 50,⟨rfl,rfl,rfl,rfl,rfl,rfl,trivial⟩,(x11.chg c12).mono (by intro y hy;simp at hy;right;omega),a12⟩
  ·exact ⟨_,⟨rfl,rfl,rfl,rfl,rfl,rfl,trivial⟩,x11,a11⟩
  ·have g2:=u2.base
   have h3o:bp∉aP vo:=fun h=>by have:=g2 _ h;omega
   have h4o:b4∉aP vo:=fun h=>by have:=g2 _ h;omega
   have h5o:b5∉aP vo:=fun h=>by have:=g2 _ h;omega
   have hvo:∀b∈aP vo,b∉aP vi:=fun b h h'=>by have:=g2 _ h;have:=hI1 _ h';omega
   have u1':=(u1.ext (x712.trans x13)).step c14 (M':=aP v14++M1) (fun b h=>⟨hvo b h,.inl (by simp [h])⟩) (fun b h=>by
    rcases List.mem_append.1 h with h|h
    ·rcases hb14 b h with h|h
     ·exact .inl (by simp [h])
     ·exact .inr h
    ·exact .inl (by simp [h]))
   have t3':=At.chg c14 (t3.ext (x712.trans x13)) h3o
   have t4':=At.chg c14 (t4.ext (x712.trans x13)) h4o
   have t5':=At.chg c14 (t5.ext (x712.trans x13)) h5o
   have g14:=o14.base
   have s14:=c14.size
   have xwx:Unit→Chg (aP vo) w w14:=fun _=>Ext.chg (x7.trans (x712.trans x13)) c14
   refine cN (d:=none) (b:=b5) (o:=2) (cur:= [Value.int .u32 t.ver,vi,vo,.int .u32 t.lock]) rfl rfl o14.one t5' (Nat.le_of_ble_eq_true rfl) (fun w15 c15 a15=>?_)
   have h5v:b5∉aP vi:=fun h=>by have:=hI0 _ h;omega
   have h5w:b5∉aP v14:=fun h=>by have:=g14 _ h;omega
   have u15:=u1'.step c15 (M':=aP v14++M1) (by intro y hy;simp at hy;subst hy;exact ⟨h5v,.inl (by simp [m5])⟩) (fun _ h=>.inl h)
   have o15:=o14.step c15 (M':=aP vi++M1) (by intro y hy;simp at hy;subst hy;exact ⟨h5w,.inl (by simp [m5])⟩) (fun _ h=>.inl h)
   have s15:=c15.size
   have x15:Unit→Ext w w15:=fun _=>((xwx ()).trans c15).mono (by
    intro y hy
    rcases List.mem_append.1 hy with h|h
    ·have:=g2 _ h;right;omega
    ·simp at h;right;omega)
   have hk64:k≤1000:=by omega
   repeat (first|refine go1 ?_|refine zg λ_ _=>?_|refine zi λ_ _=>?_)
   exact ⟨(k+1,v14,O++ [⟨t.outs[k].v,S⟩]),⟨rfl,rfl,rfl,rfl,rfl,trivial⟩,⟨x15 (),by omega,At.chg c15 t3' (by simp;omega),by simp;omega,by simp;omega,by simp;omega,At.chg c15 t4' (by simp;omega),a15,u15,o15⟩,by simp;omega⟩
  all_goals
   refine bP (w0:=w) (vs:= [Value.int .u32 t.ver,vi,vo,.int .u32 t.lock]) x7 (by omega) t4 rfl rfl rfl rfl ?_ (fun w12 x12 c12 a12 r12=>?_)
   ·have e1:=u1.one
    have e2:=u2.one
    simp [e1,e2];exact ⟨rfl,rfl⟩
   repeat (first|refine go1 ?_|refine zg λ_ _=>?_|refine zi λ_ _=>?_)
   have g2:=u2.base
   have h4i:b4∉aP vi:=fun h=>by have:=hI0 _ h;omega
   have h4o:b4∉aP vo:=fun h=>by have:=g2 _ h;omega
   have p1:=(u1.step (M':=M1) c12 (by intro y hy;simp at hy;subst hy;exact ⟨h4i,.inl (by simp [m4])⟩) (fun _ h=>.inl (by simp [h]))).sub (M':=M) (fun b hb=>.inl (mM b hb))
   have p2:=(u2.step (M':=M1) c12 (by intro y hy;simp at hy;subst hy;exact ⟨h4o,.inl (by simp [m4])⟩) (fun _ h=>.inl (by simp [h]))).sub (M':=M) (fun b hb=>.inl (mM b hb))
   exact aC (aRf (cL r12 rfl rfl)) ⟨_,⟨t.ver,L,O,t.lock⟩,rfl,⟨vi,vo,rfl,p1.lower (by omega),p2.lower (by omega),h3⟩,⟨by simp only;omega,by simp only;omega,hLm⟩,x12⟩
end
section
open Go Go.K
attribute [local irreducible] aO aU bQ KOp.wp K.Spec u32 leS vnS str aV cU cD idT aR aG aX
theorem bH7 {l:List Ent} {id:ByteArray}:bH l id<l.length:=by
 unfold bH idxOf
 split
 ·rename_i i h
  have:=(List.findIdx?_eq_some_iff_getElem.1 h).1
  omega
 ·omega
theorem Ext.of_eq {w w':World} (h:w'=w):Ext w w':=h▸Ext.refl _
theorem aKo {t:Tx} (h:aG t=0):jR t=true∧aBe t=false∧jN t=true∧yY t=false∧kB (values t)=0:=by
 unfold aG at h
 by_cases h1:jR t=true
 ·by_cases h2:aBe t=true
  ·rw [h1,h2] at h;simp at h
  ·by_cases h3:jN t=true
   ·by_cases h4:yY t=true
    ·rw [h1,h3,h4] at h;simp at h;exact absurd h (by split<;>decide)
    ·simp only [Bool.not_eq_true] at h2 h4
     rw [h1,h2,h3,h4] at h
     exact ⟨h1,h2,h3,h4,by simpa using h⟩
   ·simp only [Bool.not_eq_true] at h2 h3
    rw [h1,h2,h3] at h;simp at h
 ·simp only [Bool.not_eq_true] at h1
  rw [h1] at h;simp at h
theorem fE {t:Tx} (h:aG t=0):t.Sm:=by
 have h1:=(aKo h).1
 unfold jR at h1
 simp only [Bool.and_eq_true,decide_eq_true_eq,Bool.not_eq_true',List.any_eq_false,Int.not_lt,gt_iff_lt] at h1
 exact ⟨by omega,by omega,fun x hx=>by have:=h1.2 x hx;omega⟩
theorem aGb {t:Tx} (h:aG t=0):∃hi:0<t.ins.length,mP t.ins[0].p=aX t:=by
 have hp:=aKo h
 have h1:=hp.1
 unfold jR at h1
 simp only [Bool.and_eq_true,decide_eq_true_eq] at h1
 have hi:0<t.ins.length:=by omega
 refine ⟨hi,?_⟩
 unfold aX
 by_cases hl:t.ins.length=1
 ·rw [dTr hl,Bool.true_and,bCi hi]
 ·rw [dFa hl,Bool.false_and]
  have h3:=hp.2.2.1
  unfold jN at h3
  simp only [Bool.not_eq_true',List.any_eq_false] at h3
  have h4:=h3 _ (gMe hi)
  unfold yB at h4
  simp only [Bool.or_eq_true,not_or,Bool.and_eq_true,decide_eq_true_eq,not_and] at h4
  by_cases hb:mP t.ins[0].p=true
  ·exact absurd (by omega) (h4.2 hb)
  ·simpa using hb
set_option maxHeartbeats 1000000 in
theorem bI4 {M : List Nat} {v : Value} {cs : List Value} {l : List Ent} {t : Tx} (fee : Int) (w : World) (hl : SlR bF M w v l) (ht : txR.rel M w cs t) (hs : t.Sm) (hf : lJ fee) (hn : l.length ≤ 100000) (hE : ∀ x ∈ l, EntOk x) : K.Spec Tryz.prog F.kedgeref14_Add [v, .agg cs.toArray, .int .i64 fee] w fun r w' => ∃ u, r = .tuple #[u, .int .i64 (cO l t fee).2] ∧ ((cO l t fee).2 ≠ 0 ∧ u = v ∧ (cO l t fee).1 = l ∨ cJ bF T.api_Entry w.heap.size M w' u (cO l t fee).1) ∧ Ext w w' := by
  have ht0 := ht
  obtain ⟨iv, ov, rfl, h1, h2, h3⟩ := ht
  have hq1 := hs.ins
  refine aJ6 rfl ?_
  unfold yH
  refine oy ?_
  repeat' (first|refine go1 ?_|refine zg λ_ _=>?_|refine zi λ_ _=>?_|(first|refine zD rfl rfl (fun bp wp xp ap rp hp0=>?_)|refine zE (fun _=>rfl) rfl rfl rfl (fun bq wq xq aq rq hq0=>?_))|refine zN (p := aG t = 0) rfl (fun hc => ?_) (fun hc => ?_)|refine zL (p := bH l (idT t) ≥ 0) rfl (fun hd => ?_) (fun hd => ?_)|refine zL rfl (fun h => ?_) (fun h => ?_)|refine zM (t := mP _) rfl (fun hg => ?_) (fun hg => ?_)|refine zM rfl (fun hw => ?_) (fun hw => ?_)|refine zG rfl (by exact fx) ?_|(refine zC rfl (fC (M := M) _ (cs := aK t iv ov) (by exact fx) hs) ?_; rintro _ w1 ⟨rfl, x1⟩)|(obtain ⟨hpos, hgr⟩ := aGb hc; refine aL (d := some 25) (E := inR) rfl rfl (n := 0) (l := t.ins) (by exact fx) rfl hpos (fun ad cs r4 he => ?_); obtain ⟨wv, rfl, hwi, hp5, hp6⟩ := he; obtain ⟨_, _, rfl⟩ := hwi.form)|(refine zC rfl (aA3 t.ins[0].p _) ?_; rintro _ w2 ⟨rfl, x2⟩)|(refine zC rfl (aOi (M := M) _ (cs := aK t iv ov) (by exact fx) (bI hs hc)) ?_; rintro _ w3 ⟨rfl, x3⟩)|(refine zC rfl (pT (M := M) _ (cs := aK t iv ov) (by exact fx) (bI hs hc)) ?_; rintro _ w6 ⟨rfl, x6⟩)|(refine zC rfl (kZ (M := M) (l := l) (idT t) _ (by exact fx) (by omega)) ?_; rintro _ w4 ⟨rfl, hw4⟩; have x4 := Ext.of_eq hw4)|(refine aQ (fun (i : Nat) w' => Ext wp w' ∧ i ≤ t.ins.length ∧ ∀ j, j < i → ∀ h : j < t.ins.length, (l.any fun x => spends x t.ins[j].p) = false) (fun i => [(0, v), (2, .int .i64 fee), (4, .pointer (some ⟨bp, 0, none⟩)), (11, .string (idT t)), (13, .int .i64 i)]) (fun i => t.ins.length - i) 0 ⟨rfl, rfl, rfl, rfl, rfl, trivial⟩ ⟨by exact fx, by omega, by omega⟩ ?_; rintro i ρ w5 ⟨x5, hi, hk⟩)|(refine aL (d := some 55) (E := inR) rfl rfl (n := i) (l := t.ins) (by exact fx) rfl (by omega) (fun ad cs r4 he => ?_); obtain ⟨wv2, rfl, hwi2, hp7, hp8⟩ := he; obtain ⟨_, _, rfl⟩ := hwi2.form; have hil : i < t.ins.length := (by omega))|(refine zC rfl (lM (M := M) (l := l) t.ins[i].p _ (by exact fx) (by omega) (fun x hx => by have := (fE (hE x hx).check).ins; omega)) ?_; rintro _ w7 ⟨rfl, x7⟩)|(refine aQ (fun (p : Nat × Value) w' => Ext wp w' ∧ p.1 ≤ l.length ∧ cJ bF T.api_Entry wp.heap.size M w' p.2 (l.take p.1)) (fun p => [(0, v), (2, .int .i64 fee), (4, .pointer (some ⟨bp, 0, none⟩)), (11, .string (idT t)), (14, .int .i64 (aR t : Nat)), (15, p.2), (16, .int .i64 p.1)]) (fun p => l.length - p.1) (0, .slice none 0 0) ⟨rfl, rfl, rfl, rfl, rfl, rfl, rfl, trivial⟩ ⟨by exact fx, by simp, by simpa using cJ.nil _ _ _ _⟩ ?_; rintro ⟨k, vo⟩ ρ8 w8 ⟨x8, hk8, ho⟩; simp only at hk8 ho; dsimp only; have hbo : ∀ b ∈ aP vo ++ M, b ∈ M ∨ w.heap.size ≤ b := vH (fun b hb => nTr xp.size (ho.base b hb)))|(refine aL (d := some 73) (E := bF) (M := aP vo ++ M) rfl rfl (n := k) (l := l) (hl.step (by exact fx) (by simp) hbo) rfl (by omega) (fun ad cs r4 he => ?_); have hkl : k < l.length := (by omega); obtain ⟨iv2, ov2, rfl, g1, g2, g3⟩ := he)|refine zI (d := some 75) rfl (fun b w9 x9 a9 hb => ?_)|refine iW (d := some 76) (E := bF) (M := M) (v := vo) (cs := bN l[k] iv2 ov2) (a := l[k]) rfl rfl (ho.ext x9) (nTr x8.size x9.size) rfl rfl a9 ⟨iv2, ov2, rfl, g1.ext x9, g2.ext x9, g3⟩ (by have : (l.take k).length ≤ l.length := (by rw [List.length_take]; omega); omega) (fun v10 w10 ho10 c10 hb10 => ?_)|refine zI (d := some 83) rfl (fun b w11 x11 a11 hb => ?_)|(refine iW (d := some 84) (E := bF) (M := M) (v := vo) (cs := bN ⟨t, idT t, fee, (aR t : Nat)⟩ iv ov) (a := ⟨t, idT t, fee, (aR t : Nat)⟩) rfl rfl (ho.ext x11) (nTr x8.size x11.size) rfl rfl a11 ⟨iv, ov, rfl, h1.step ((xp.trans x8).trans x11) (by simp) hbo, h2.step ((xp.trans x8).trans x11) (by simp) hbo, h3.1, h3.2, hf, by have := (bI hs hc).size; show lJ ((aR t : Nat) : Int); unfold lJ; omega⟩ (by have : (l.take k).length ≤ l.length := (by rw [List.length_take]; omega); omega) (fun v12 w12 ho12 c12 hb12 => ?_)))
  all_goals first
    | exact ⟨i + 1, ⟨rfl, rfl, rfl, rfl, rfl, trivial⟩, ⟨by exact fx, by omega, fun j hj hjl => by
        by_cases hji : j = i
        · subst hji; rw [← aHc]; exact dFa h
        · exact hk j (by omega) hjl⟩, by omega⟩
    | exact ⟨(k + 1, v10), ⟨rfl, rfl, rfl, rfl, rfl, rfl, rfl, trivial⟩, ⟨((x8.trans x9).chg c10).mono (fun b hb => .inr (ho.base b hb)), by simp; omega, by show cJ _ _ _ _ _ _ (l.take (k + 1)); rw [List.take_succ_eq_append_getElem hkl]; exact ho10⟩, by simp; omega⟩
    | (have e : cO l t fee = (l, aG t) := by rw [cO, if_pos hc]
       rw [e]; exact aC rfl ⟨v, rfl, .inl ⟨(by simpa using hc), rfl, rfl⟩, by exact fx⟩)
    | (have e : cO l t fee = (l, 4) := by rw [cO, if_neg (by simpa using hc), if_pos (by rw [← hgr, hg])]
       rw [e]; exact aC rfl ⟨v, rfl, .inl ⟨(show (4 : Int) ≠ 0 by decide), rfl, rfl⟩, by exact fx⟩)
    | (have e : cO l t fee = (l, 3) := by rw [cO, if_neg (by simpa using hc), if_neg (by rw [← hgr, hg]; decide), if_pos (by rw [hw])]
       rw [e]; exact aC rfl ⟨v, rfl, .inl ⟨(show (3 : Int) ≠ 0 by decide), rfl, rfl⟩, by exact fx⟩)
    | (have e : cO l t fee = (l, 7) := by
         rw [cO, if_neg (by simpa using hc), if_neg (by rw [← hgr, hg]; decide), if_neg (by rw [hw]; decide), if_pos (by rw [← aHc]; exact dTr hd)]
       rw [e]; exact aC rfl ⟨v, rfl, .inl ⟨(show (7 : Int) ≠ 0 by decide), rfl, rfl⟩, by exact fx⟩)
    | skip
  · have e : cO l t fee = (l, 15) := by
      rw [cO, if_neg (by simpa using hc), if_neg (by rw [← hgr, hg]; decide), if_neg (by rw [hw]; decide), if_neg (by rw [← aHc, decide_eq_true_eq]; exact hd), if_pos]
      exact aC9 (p := fun i : TIn => l.any fun x => spends x i.p) hil (by show (l.any fun x => spends x t.ins[i].p) = true; rw [← aHc]; exact dTr h)
    rw [e]; exact aC rfl ⟨v, rfl, .inl ⟨show (15 : Int) ≠ 0 by decide, rfl, rfl⟩, by exact fx⟩
  · have e : cO l t fee = (l ++ [⟨t, idT t, fee, (aR t : Nat)⟩], 0) := by
      rw [cO, if_neg (by simpa using hc), if_neg (by rw [← hgr, hg]; decide), if_neg (by rw [hw]; decide), if_neg (by rw [← aHc, decide_eq_true_eq]; exact hd), if_neg]
      rw [Bool.not_eq_true]
      exact qT (p := fun i : TIn => l.any fun x => spends x i.p) fun j hj => hk j (by omega) hj
    rw [e]
    rw [tLe (by omega)] at ho12
    exact aC rfl ⟨v12, rfl, .inr (ho12.lower xp.size), xp.trans (((x8.trans x11).chg c12).mono (fun b hb => .inr (ho.base b hb)))⟩
theorem aKj {M:List Nat} {v:Value} {cs:List Value} {l:List Ent} {t:Tx} (fee:Int) (w:World) (hl:SlR bF M w v l) (ht:txR.rel M w cs t) (hs:t.Sm) (hf:lJ fee) (hn:l.length≤100000) (hE:∀x∈l,EntOk x) (hM:∀b∈M,b<w.heap.size):K.Spec Tryz.prog F.kedgeref14_Add [v,.agg cs.toArray,.int .i64 fee] w fun r w'=>∃u,r=.tuple #[u,.int .i64 (cO l t fee).2]∧SlR bF M w' u (cO l t fee).1∧Ext w w':=by
 refine jH (bI4 fee w hl ht hs hf hn hE) fun r w' ⟨u,h1,h2,x⟩=>⟨u,h1,?_,x⟩
 rcases h2 with ⟨_,rfl,e⟩|h
 ·rw [e];exact hl.ext x
 ·exact h.slB hM
end
end Go.Proofs.YtfebcajheojodaaGreatDoor
namespace Go.K
section
open Go
def bD (base:Nat→Bool) (edge:Nat→Nat→Bool) (n:Nat):Nat→Nat→Bool
 |0,_=>false
 |r+1,i=>base i||(List.range n).any fun k=>bD base edge n r k&&edge k i
section
variable {base:Nat→Bool} {edge:Nat→Nat→Bool} {n:Nat}
theorem hY {r i:Nat}:bD base edge n (r+1) i=true↔base i=true∨∃k,k<n∧bD base edge n r k=true∧edge k i=true:=by
 simp only [bD,Bool.or_eq_true,List.any_eq_true,List.mem_range,Bool.and_eq_true]
theorem aGg:∀{r i:Nat},bD base edge n r i=true→bD base edge n (r+1) i=true
 |0,_,h=>by simp [bD] at h
 |r+1,i,h=>by
  rw [hY] at h ⊢
  rcases h with h|⟨k,h1,h2,h3⟩
  ·exact .inl h
  ·exact .inr ⟨k,h1,aGg h2,h3⟩
theorem aJc {r s i : Nat} (h : bD base edge n r i = true) (hrs : r ≤ s) : bD base edge n s i = true := by
  induction s with
  | zero => obtain rfl : r = 0 := by omega
            exact h
  | succ s ih =>
    by_cases e : r = s + 1
    · subst e; exact h
    · exact aGg (ih (by omega))
theorem aPx {r:Nat} (hs:∀i,i<n→bD base edge n (r+1) i=true→bD base edge n r i=true):∀(d i:Nat),i<n→bD base edge n (r+d) i=true→bD base edge n r i=true
 |0,_,_,h=>h
 |d+1,i,hi,h=>by
  refine hs i hi ?_
  rw [show r+(d+1)=(r+d)+1 by omega,hY] at h
  rw [hY]
  rcases h with h|⟨k,h1,h2,h3⟩
  ·exact .inl h
  ·exact .inr ⟨k,h1,aPx hs d k h1 h2,h3⟩
def bJe (base:Nat→Bool) (edge:Nat→Nat→Bool) (n r:Nat):Nat:=(List.range n).countP (bD base edge n r)
theorem aSx {α:Type} {p q:α→Bool} {a:α}:∀{l:List α},(∀x∈l,p x=true→q x=true)→a∈l→p a=false→q a=true→l.countP p<l.countP q
 |x::l,h,ha,h1,h2=>by
  have hl:l.countP p≤l.countP q:=List.countP_mono_left fun y hy=>h y (by simp [hy])
  rw [List.countP_cons,List.countP_cons]
  rcases List.mem_cons.1 ha with rfl|ha
  ·rw [h1,h2];simp;omega
  ·have ih:=aSx (fun y hy=>h y (by simp [hy])) ha h1 h2
   have:=h x (by simp)
   by_cases hp:p x=true
   ·rw [hp,this hp];simp;omega
   ·simp only [Bool.not_eq_true] at hp
    rw [hp];simp;omega
theorem bBt (r:Nat):(∃s,s≤r∧∀i,i<n→bD base edge n (s+1) i=true→bD base edge n s i=true)∨r+1≤bJe base edge n (r+1):=by
 induction r with
 |zero=>
  by_cases h:∃i,i<n∧bD base edge n 1 i=true
  ·obtain ⟨i,h1,h2⟩:=h
   refine .inr ?_
   unfold bJe
   exact List.countP_pos_iff.2 ⟨i,by simpa using h1,h2⟩
  ·exact .inl ⟨0,Nat.le_refl _,fun i hi hs=>absurd ⟨i,hi,hs⟩ h⟩
 |succ r ih=>
  rcases ih with ⟨s,h1,h2⟩|ih
  ·exact .inl ⟨s,by omega,h2⟩
  ·by_cases h:∃i,i<n∧bD base edge n (r+2) i=true∧bD base edge n (r+1) i=false
   ·obtain ⟨i,h1,h2,h3⟩:=h
    refine .inr (Nat.lt_of_le_of_lt ih ?_)
    unfold bJe
    exact aSx (fun x _=>aGg) (by simpa using h1) h3 h2
   ·refine .inl ⟨r+1,Nat.le_refl _,fun i hi hs=>?_⟩
    by_cases h4:bD base edge n (r+1) i=true
    ·exact h4
    ·exact absurd ⟨i,hi,hs,by simpa using h4⟩ h
theorem aS2 {r i:Nat} (hi:i<n) (h:bD base edge n r i=true):bD base edge n n i=true:=by
 rcases bBt (base:=base) (edge:=edge) (n:=n) n with ⟨s,h1,h2⟩|h1
 ·rcases Nat.lt_or_ge r s with h3|h3
  ·exact aJc h (by omega)
  ·have:=aPx h2 (r - s) i hi (by rwa [show s+(r - s)=r by omega])
   exact aJc this h1
 ·have:bJe base edge n (n+1)≤n:=by
   unfold bJe
   exact nTr List.countP_le_length (by simp)
  omega
theorem lA {k i:Nat} (hi:i<n) (hk:k<n) (h:bD base edge n n k=true) (he:edge k i=true):bD base edge n n i=true:=
 aS2 (r:=n+1) hi (hY.2 (.inr ⟨k,hk,h,he⟩))
theorem tK {i:Nat} (hi:i<n) (h:base i=true):bD base edge n n i=true:=aS2 (r:=1) hi (hY.2 (.inl h))
theorem aCe {p:Nat→Prop} (hb:∀i,i<n→base i=true→p i) (he:∀k i,k<n→i<n→p k→edge k i=true→p i):∀(r i:Nat),i<n→bD base edge n r i=true→p i
 |0,_,_,h=>by simp [bD] at h
 |r+1,i,hi,h=>by
  rcases hY.1 h with h|⟨k,h1,h2,h3⟩
  ·exact hb i hi h
  ·exact he k i h1 hi (aCe hb he r k h1 h2) h3
end
def nS (base:Nat→Bool) (edge:Nat→Nat→Bool) (n:Nat):List Bool:=(List.range n).map (bD base edge n n)
theorem lO (base:Nat→Bool) (edge:Nat→Nat→Bool) (n:Nat):(nS base edge n).length=n:=by simp [nS]
def cP (l:List Ent) (i:Nat):Ent:=l.getD i default
def gY (l:List Ent) (k i:Nat):Bool:=dG (cP l k).tx (cP l i)
def aZ (l:List Ent) (t:Tx):List Bool:=nS (fun i=>dG t (cP l i)) (gY l) l.length
def bA (l:List Ent) (id:ByteArray):List Bool:=nS (fun i=>decide ((i:Int)=bH l id)) (fun k i=>gY l i k) l.length
theorem bJ {l:List Ent} {i:Nat} (h:i<l.length):cP l i=l[i]:=by unfold cP;rw [List.getD_eq_getElem?_getD,List.getElem?_eq_getElem h];rfl
structure Marks (base:Nat→Bool) (edge:Nat→Nat→Bool) (n:Nat) (m:List Bool):Prop where
 len:m.length=n
 sound:∀i (h:i<m.length),m[i]=true→bD base edge n n i=true
def has (m:List Bool) (i:Nat):Prop:=m[i]? =some true
theorem vO {m:List Bool} {i j:Nat} {x:Bool} (hi:i<m.length) (h:has m j):has (m.set i (m[i]||x)) j:=by
 unfold has at*
 rw [List.getElem?_set]
 split
 ·rename_i e
  subst e
  rw [List.getElem?_eq_getElem hi] at h
  simp at h
  rw [h];rfl
 ·exact h
theorem aJx {m:List Bool} {i:Nat} {x:Bool} (hi:i<m.length) (hx:x=true):has (m.set i (m[i]||x)) i:=by
 unfold has
 rw [List.getElem?_set_self hi,hx,Bool.or_true]
section
variable {base:Nat→Bool} {edge:Nat→Nat→Bool} {n:Nat} {m:List Bool}
theorem Marks.set {i:Nat} {x:Bool} (h:Marks base edge n m) (hi:i<m.length) (hx:x=true→bD base edge n n i=true):Marks base edge n (m.set i (m[i]||x)):=by
 refine ⟨by rw [List.length_set];exact h.len,fun j hj hm=>?_⟩
 rw [List.getElem_set] at hm
 split at hm
 ·rename_i e;subst e
  rcases Bool.or_eq_true_iff.1 hm with h1|h1
  ·exact h.sound _ hi h1
  ·exact hx h1
 ·exact h.sound j (by simpa using hj) hm
theorem Marks.done (h:Marks base edge n m) (hc:∀i,i<n→bD base edge n n i=true→has m i):m=nS base edge n:=by
 have hl:=h.len
 apply List.ext_getElem
 ·rw [lO];exact hl
 ·intro i h1 h2
  simp only [nS,List.getElem_map,List.getElem_range]
  rw [Bool.eq_iff_iff]
  refine ⟨h.sound i h1,fun hs=>?_⟩
  have:=hc i (by omega) hs
  unfold has at this
  rw [List.getElem?_eq_getElem h1] at this
  simpa using this
end
end
end Go.K
namespace Go.Proofs.YtfebcajheojodaaGreatDoor
section
open Go Go.K
theorem bEm (m:List Bool):dJ.flat m=m.map Value.bool:=by
 induction m with
 |nil=>rfl
 |cons x l ih=>simp only [Enc.flat,List.flatMap_cons] at ih ⊢;rw [ih];rfl
abbrev AtB (w:World) (b:Nat) (m:List Bool):Prop:=At w b (.cells (m.map Value.bool).toArray T.bool (0,0))
theorem AtB.sl {w:World} {b n:Nat} {m:List Bool} (h:AtB w b m) (hn:n=m.length):SlE dJ w (.slice (some ⟨b,0,none⟩) n n) m:=
 SlE.new (E:=dJ) (by rw [bEm];exact h) hn (Nat.le_refl _)
section
variable {P:Program} {d:Option Tmp} {r:KR} {K:Env→World→Prop} {ρ:Env} {w:World}
theorem bAl (n:Nat):zeros [Value.bool false] n=(List.replicate n false).map Value.bool:=by
 induction n with
 |zero=>rfl
 |succ n ih=>rw [zeros,ih];rfl
theorem aEd {x y:Operand} {t:TypeId} {n:Nat} (hx:ev ρ x=.int .i64 (n:Nat)) (hy:ev ρ y=.int .i64 (n:Nat)) (hn:n≤1000000)
  (k:∀b w',Ext w w'→At w' b (.cells ((List.replicate n false).map Value.bool).toArray t (0,0))→w.heap.size≤b→aO P r K (put ρ d (.slice (some ⟨b,0,none⟩) n n)) w'):aO P (.cons ⟨d,.makeSlice t 1 1 [.bool false] x y,none⟩ r) K ρ w:=
 iI ⟨_,_,_,_,hx,hy,by omega,by omega,by omega,by omega,by
  rw [Int.toNat_natCast,bAl]
  exact k _ _ (Ext.alloc _ _) (At.new _ _) (Nat.le_refl _)⟩
theorem mT {x y:Operand} {b o:Nat} {t:TypeId} {m:List Bool} {v:Bool} (hx:ev ρ x=.pointer (some (Addr.add ⟨b,0,none⟩ (o*1)))) (hy:ev ρ y=.bool v) (h:At w b (.cells (m.map Value.bool).toArray t (0,0))) (hl:o<m.length)
  (k:∀w',Chg [b] w w'→At w' b (.cells ((m.set o v).map Value.bool).toArray t (0,0))→aO P r K (put ρ d undef) w'):aO P (.cons ⟨d,.store x y,none⟩ r) K ρ w:=
 cN (o:=o) (by rw [hx,Nat.mul_one]) hy rfl h (by simpa using hl) fun w' c a=>k w' c (by rw [List.map_set];exact a)
end
attribute [local irreducible] aO aU bQ KOp.wp K.Spec u32 leS vnS str aV cU cD idT aR aG aX idN dG bD
structure RInv (base:Nat→Bool) (edge:Nat→Nat→Bool) (n r i:Nat) (m:List Bool):Prop where
 mks:Marks base edge n m
 all:∀j,j<n→bD base edge n r j=true→has m j
 now:∀j,j<i→j<n→bD base edge n (r+1) j=true→has m j
section
variable {base:Nat→Bool} {edge:Nat→Nat→Bool} {n r i:Nat} {m:List Bool}
theorem RInv.zero (h:Marks base edge n m):RInv base edge n 0 0 m:=⟨h,fun j _ hj=>(by unfold bD at hj;cases hj),fun j hj=>absurd hj (by omega)⟩
theorem RInv.round (h:RInv base edge n r i m) (hi:n≤i):RInv base edge n (r+1) 0 m:=⟨h.mks,fun j hj hs=>h.now j (by omega) hj hs,fun j hj=>absurd hj (by omega)⟩
theorem RInv.set {j:Nat} {x:Bool} (h:RInv base edge n r i m) (hj:j<m.length) (hx:x=true→bD base edge n n j=true):RInv base edge n r i (m.set j (m[j]||x)):=
 ⟨h.mks.set hj hx,fun q hq hs=>vO hj (h.all q hq hs),fun q hq hn hs=>vO hj (h.now q hq hn hs)⟩
theorem RInv.next (h:RInv base edge n r i m) (hb:base i=true→has m i) (he:∀k,k<n→bD base edge n r k=true→edge k i=true→has m i):RInv base edge n r (i+1) m:=
 ⟨h.mks,h.all,fun q hq hn hs=>by
  by_cases e:q=i
  ·subst e
   rcases hY.1 hs with h1|⟨k,h1,h2,h3⟩
   ·exact hb h1
   ·exact he k h1 h2 h3
  ·exact h.now q (by omega) hn hs⟩
theorem aUn {j:Nat} (h:has m j) (hj:j<m.length):m[j]=true:=by
 unfold has at h;rw [List.getElem?_eq_getElem hj] at h;simpa using h
end
theorem bGq (base:Nat→Bool) (edge:Nat→Nat→Bool) (n:Nat):Marks base edge n (List.replicate n false):=⟨by simp,fun i h hm=>by simp at hm⟩
set_option maxHeartbeats 2000000 in
theorem aGy {M : List Nat} {v : Value} {cs : List Value} {l : List Ent} {t : Tx} (w : World) (hl : SlR bF M w v l) (ht : txR.rel M w cs t) (hs : t.Sm) (hn : l.length ≤ 1000) (hE : ∀ x ∈ l, x.tx.Sm) : K.Spec Tryz.prog F.kedgeref14_Above [v, .agg cs.toArray] w fun r w' => SlE dJ w' r (aZ l t) ∧ Ext w w' ∧ ∀ b ∈ aP r, w.heap.size ≤ b := by
  have ht0 := ht
  obtain ⟨iv, ov, rfl, h1, h2, h3⟩ := ht
  have hq := hs.ins
  have hqe : ∀ x ∈ l, x.tx.ins.length ≤ 1000 := fun x hx => (hE x hx).ins
  refine aGn rfl ?_
  unfold sR
  refine oy ?_
  repeat' (first|refine go1 ?_|refine zg λ_ _=>?_|refine zi λ_ _=>?_|(first|refine zD rfl rfl (fun bp wp xp ap rp hp0=>?_)|refine zE (fun _=>rfl) rfl rfl rfl (fun bq wq xq aq rq hq0=>?_))|refine zL rfl (fun h => ?_) (fun h => ?_)|refine zK (d := some 38) rfl (fun hmi => ?_) (fun hmi => ?_)|refine zK (d := some 64) rfl (fun hmi => ?_) (fun hmi => ?_)|refine zK (d := some 69) rfl (fun hmk => ?_) (fun hmk => ?_)|refine zG (E := bF) (M := M) (l := l) rfl (SlR.ext hl (by exact fx)) ?_|refine aEd rfl rfl (by omega) (fun b w2 x2 a2 hb2 => ?_)|(refine aQ (fun (p : Nat × List Bool) w' => Ext wp w' ∧ p.1 ≤ l.length + 1 ∧ AtB w' b p.2 ∧ RInv (fun i => dG t (cP l i)) (gY l) l.length p.1 0 p.2) (fun p => [(0, v), (3, .pointer (some ⟨bp, 0, none⟩)), (5, .slice (some ⟨b, 0, none⟩) l.length l.length), (6, .int .i64 p.1)]) (fun p => l.length + 1 - p.1) (0, List.replicate l.length false) ⟨rfl, rfl, rfl, rfl, trivial⟩ ⟨by exact fx, by simp, a2, RInv.zero (bGq _ _ _)⟩ ?_; rintro ⟨r, m⟩ ρ w3 ⟨x3, hr, a3, hI⟩; simp only at hr a3 hI; dsimp only)|(refine aQ (fun (p : Nat × List Bool) w' => Ext wp w' ∧ p.1 ≤ l.length ∧ AtB w' b p.2 ∧ RInv (fun i => dG t (cP l i)) (gY l) l.length r p.1 p.2) (fun p => [(0, v), (3, .pointer (some ⟨bp, 0, none⟩)), (5, .slice (some ⟨b, 0, none⟩) l.length l.length), (6, .int .i64 r), (7, .int .i64 p.1)]) (fun p => l.length - p.1) (0, m) ⟨rfl, rfl, rfl, rfl, rfl, trivial⟩ ⟨by exact fx, by simp, by focus (repeat (first | assumption | (apply At.ext; assumption))), hI⟩ ?_; clear a3 hI x3; clear m; rintro ⟨i, m⟩ ρ4 w4 ⟨x4, hi, a4, hI⟩; simp only at hi a4 hI; dsimp only)|(refine aL (d := some 28) (E := bF) (M := M) rfl rfl (n := i) (l := l) (SlR.ext hl (by exact fx)) rfl (by omega) (fun ad cs r5 he => ?_); have hil : i < l.length := (by omega))|refine mD (d := some 29) (n := 7) (l := cs) rfl r5 (by rw [bF.len he]; exact Nat.le_refl _) (tLe (by rw [bF.len he]; exact Nat.le_refl _)) ?_|(refine zC rfl (aAj (M := M) (cs := aK t iv ov) (x := l[i]) _ (by exact fx) he (by omega)) ?_; rintro _ w5 ⟨rfl, x5⟩)|refine aT (d := some 35) (E := dJ) rfl rfl (n := i) (l := m) (AtB.sl (by focus (repeat (first | assumption | (apply At.ext; assumption)))) (hI.mks.len).symm) rfl (by have := hI.mks.len; omega) (fun ad r6 => ?_)|refine lR (d := some 40) rfl rfl (by omega) ?_)
  · refine mT (m := m) (o := i) (v := (m[i]'(by have := hI.mks.len; omega) || dG t l[i])) rfl (congrArg Value.bool (by rw [hmi]; rfl)) (by focus (repeat (first | assumption | (apply At.ext; assumption)))) (by have := hI.mks.len; omega) (fun w6 c6 a6 => ?_)
    have hml := hI.mks.len
    have x6 : Unit → Ext wp w6 := fun _ => (Ext.chg (w := wp) (by exact fx) c6).mono (by intro y hy; simp at hy; right; have := x2.size; omega)
    have hJ := hI.set (j := i) (x := dG t l[i]) (by omega) (fun hh => tK hil (by rw [bJ hil]; exact hh))
    have hB : (dG t (cP l i) = true → has (m.set i (m[i] || dG t l[i])) i) := fun hh => aJx (by omega) (by rw [bJ hil] at hh; exact hh)
    revert a6 hJ hB
    generalize m.set i (m[i] || dG t l[i]) = m6
    intro a6 hJ hB
    repeat' (first|refine go1 ?_|refine zg λ_ _=>?_|refine zi λ_ _=>?_|refine zL rfl (fun h => ?_) (fun h => ?_)|refine zK (d := some 64) rfl (fun hmi => ?_) (fun hmi => ?_)|refine zK (d := some 69) rfl (fun hmk => ?_) (fun hmk => ?_)|refine zG (E := bF) (M := M) (l := l) rfl (SlR.ext hl (by exact fx)) ?_|(refine aQ (fun (p : Nat × List Bool) w' => Ext wp w' ∧ p.1 ≤ l.length ∧ AtB w' b p.2 ∧ RInv (fun i => dG t (cP l i)) (gY l) l.length r i p.2 ∧ (dG t (cP l i) = true → has p.2 i) ∧ ∀ k, k < p.1 → bD (fun i => dG t (cP l i)) (gY l) l.length r k = true → gY l k i = true → has p.2 i) (fun p => [(0, v), (3, .pointer (some ⟨bp, 0, none⟩)), (5, .slice (some ⟨b, 0, none⟩) l.length l.length), (6, .int .i64 r), (7, .int .i64 i), (9, .int .i64 p.1)]) (fun p => l.length - p.1) (0, m6) ⟨rfl, rfl, rfl, rfl, rfl, rfl, trivial⟩ ⟨x6 (), by simp, a6, hJ, hB, fun k hk => absurd hk (by simp)⟩ ?_; rintro ⟨k, m7⟩ ρ7 w7 ⟨x7, hk, a7, hK, hB7, hE7⟩; simp only at hk a7 hK hB7 hE7; dsimp only; have hml7 := hK.mks.len)|(refine aL (d := some 49) (E := bF) (M := M) rfl rfl (n := k) (l := l) (SlR.ext hl (by exact fx)) rfl (by omega) (fun ad cs r5 he => ?_); obtain ⟨iv2, ov2, rfl, g1, g2, g3⟩ := he; have hkl : k < l.length := (by omega))|refine aL (d := some 54) (E := bF) (M := M) rfl rfl (n := i) (l := l) (SlR.ext hl (by exact fx)) rfl hil (fun ad cs r8 he => ?_)|refine mD (d := some 55) (n := 7) (l := cs) rfl r8 (by rw [bF.len he]; exact Nat.le_refl _) (tLe (by rw [bF.len he]; exact Nat.le_refl _)) ?_|(refine zC rfl (aAj (M := M) (cs := aK l[k].tx iv2 ov2) (t := l[k].tx) (x := l[i]) _ ⟨iv2, ov2, rfl, by exact fx, by exact fx, g3.1, g3.2.1⟩ he (by have := hqe _ (gMe hkl); omega)) ?_; rintro _ w8 ⟨rfl, x8⟩)|refine aT (d := some 61) (E := dJ) rfl rfl (n := i) (l := m7) (AtB.sl (by focus (repeat (first | assumption | (apply At.ext; assumption)))) hml7.symm) rfl (by omega) (fun ad r6 => ?_)|refine aT (d := some 66) (E := dJ) rfl rfl (n := k) (l := m7) (AtB.sl (by focus (repeat (first | assumption | (apply At.ext; assumption)))) hml7.symm) rfl (by omega) (fun ad r6 => ?_)|refine lR (d := some 72) rfl rfl (by omega) ?_|refine mT (m := m7) (o := i) (v := (m7[i]'(by omega) || (m7[k]'(by omega) && dG l[k].tx l[i]))) rfl (congrArg Value.bool (by first | (rw [hmi]; rfl) | (rw [hmi, hmk]; rfl) | (rw [hmi, hmk]; simp))) (by focus (repeat (first | assumption | (apply At.ext; assumption)))) (by omega) (fun w9 c9 a9 => ?_))
    all_goals first
      | (have hx7 : Unit → Ext wp w9 := fun _ => (Ext.chg (w := wp) (by exact fx) c9).mono (by intro y hy; simp at hy; right; have := x2.size; omega)
         have he : gY l k i = dG l[k].tx l[i] := by rw [gY, bJ hkl, bJ hil]
         have hx : (m7[k] && dG l[k].tx l[i]) = true → bD (fun i => dG t (cP l i)) (gY l) l.length l.length i = true := fun hh => by
           rw [Bool.and_eq_true] at hh
           exact lA hil hkl (hK.mks.sound k (by omega) hh.1) (by rw [he]; exact hh.2)
         exact ⟨(k + 1, _), ⟨rfl, rfl, rfl, rfl, rfl, rfl, trivial⟩, ⟨hx7 (), by simp; omega, a9, hK.set (by omega) hx, fun hh => vO (by omega) (hB7 hh), fun q hq hs2 hh => by
           by_cases e : q = k
           · subst e
             exact aJx (by omega) (by rw [Bool.and_eq_true]; exact ⟨aUn (hK.all q hkl hs2) (by omega), by rw [← he]; exact hh⟩)
           · exact vO (by omega) (hE7 q (by simp at hq; omega) hs2 hh)⟩, by simp; omega⟩)
      | exact ⟨(i + 1, m7), ⟨rfl, rfl, rfl, rfl, rfl, trivial⟩, ⟨by exact fx, by simp; omega, by focus (repeat (first | assumption | (apply At.ext; assumption))), hK.next hB7 (fun q hq => hE7 q (by omega))⟩, by simp; omega⟩
      | trace_state
  · refine mT (m := m) (o := i) (v := (m[i]'(by have := hI.mks.len; omega) || dG t l[i])) rfl (congrArg Value.bool (by rw [hmi]; rfl)) (by focus (repeat (first | assumption | (apply At.ext; assumption)))) (by have := hI.mks.len; omega) (fun w6 c6 a6 => ?_)
    have hml := hI.mks.len
    have x6 : Unit → Ext wp w6 := fun _ => (Ext.chg (w := wp) (by exact fx) c6).mono (by intro y hy; simp at hy; right; have := x2.size; omega)
    have hJ := hI.set (j := i) (x := dG t l[i]) (by omega) (fun hh => tK hil (by rw [bJ hil]; exact hh))
    have hB : (dG t (cP l i) = true → has (m.set i (m[i] || dG t l[i])) i) := fun hh => aJx (by omega) (by rw [bJ hil] at hh; exact hh)
    revert a6 hJ hB
    generalize m.set i (m[i] || dG t l[i]) = m6
    intro a6 hJ hB
    repeat' (first|refine go1 ?_|refine zg λ_ _=>?_|refine zi λ_ _=>?_|refine zL rfl (fun h => ?_) (fun h => ?_)|refine zK (d := some 64) rfl (fun hmi => ?_) (fun hmi => ?_)|refine zK (d := some 69) rfl (fun hmk => ?_) (fun hmk => ?_)|refine zG (E := bF) (M := M) (l := l) rfl (SlR.ext hl (by exact fx)) ?_|(refine aQ (fun (p : Nat × List Bool) w' => Ext wp w' ∧ p.1 ≤ l.length ∧ AtB w' b p.2 ∧ RInv (fun i => dG t (cP l i)) (gY l) l.length r i p.2 ∧ (dG t (cP l i) = true → has p.2 i) ∧ ∀ k, k < p.1 → bD (fun i => dG t (cP l i)) (gY l) l.length r k = true → gY l k i = true → has p.2 i) (fun p => [(0, v), (3, .pointer (some ⟨bp, 0, none⟩)), (5, .slice (some ⟨b, 0, none⟩) l.length l.length), (6, .int .i64 r), (7, .int .i64 i), (9, .int .i64 p.1)]) (fun p => l.length - p.1) (0, m6) ⟨rfl, rfl, rfl, rfl, rfl, rfl, trivial⟩ ⟨x6 (), by simp, a6, hJ, hB, fun k hk => absurd hk (by simp)⟩ ?_; rintro ⟨k, m7⟩ ρ7 w7 ⟨x7, hk, a7, hK, hB7, hE7⟩; simp only at hk a7 hK hB7 hE7; dsimp only; have hml7 := hK.mks.len)|(refine aL (d := some 49) (E := bF) (M := M) rfl rfl (n := k) (l := l) (SlR.ext hl (by exact fx)) rfl (by omega) (fun ad cs r5 he => ?_); obtain ⟨iv2, ov2, rfl, g1, g2, g3⟩ := he; have hkl : k < l.length := (by omega))|refine aL (d := some 54) (E := bF) (M := M) rfl rfl (n := i) (l := l) (SlR.ext hl (by exact fx)) rfl hil (fun ad cs r8 he => ?_)|refine mD (d := some 55) (n := 7) (l := cs) rfl r8 (by rw [bF.len he]; exact Nat.le_refl _) (tLe (by rw [bF.len he]; exact Nat.le_refl _)) ?_|(refine zC rfl (aAj (M := M) (cs := aK l[k].tx iv2 ov2) (t := l[k].tx) (x := l[i]) _ ⟨iv2, ov2, rfl, by exact fx, by exact fx, g3.1, g3.2.1⟩ he (by have := hqe _ (gMe hkl); omega)) ?_; rintro _ w8 ⟨rfl, x8⟩)|refine aT (d := some 61) (E := dJ) rfl rfl (n := i) (l := m7) (AtB.sl (by focus (repeat (first | assumption | (apply At.ext; assumption)))) hml7.symm) rfl (by omega) (fun ad r6 => ?_)|refine aT (d := some 66) (E := dJ) rfl rfl (n := k) (l := m7) (AtB.sl (by focus (repeat (first | assumption | (apply At.ext; assumption)))) hml7.symm) rfl (by omega) (fun ad r6 => ?_)|refine lR (d := some 72) rfl rfl (by omega) ?_|refine mT (m := m7) (o := i) (v := (m7[i]'(by omega) || (m7[k]'(by omega) && dG l[k].tx l[i]))) rfl (congrArg Value.bool (by first | (rw [hmi]; rfl) | (rw [hmi, hmk]; rfl) | (rw [hmi, hmk]; simp))) (by focus (repeat (first | assumption | (apply At.ext; assumption)))) (by omega) (fun w9 c9 a9 => ?_))
    all_goals first
      | (have hx7 : Unit → Ext wp w9 := fun _ => (Ext.chg (w := wp) (by exact fx) c9).mono (by intro y hy; simp at hy; right; have := x2.size; omega)
         have he : gY l k i = dG l[k].tx l[i] := by rw [gY, bJ hkl, bJ hil]
         have hx : (m7[k] && dG l[k].tx l[i]) = true → bD (fun i => dG t (cP l i)) (gY l) l.length l.length i = true := fun hh => by
           rw [Bool.and_eq_true] at hh
           exact lA hil hkl (hK.mks.sound k (by omega) hh.1) (by rw [he]; exact hh.2)
         exact ⟨(k + 1, _), ⟨rfl, rfl, rfl, rfl, rfl, rfl, trivial⟩, ⟨hx7 (), by simp; omega, a9, hK.set (by omega) hx, fun hh => vO (by omega) (hB7 hh), fun q hq hs2 hh => by
           by_cases e : q = k
           · subst e
             exact aJx (by omega) (by rw [Bool.and_eq_true]; exact ⟨aUn (hK.all q hkl hs2) (by omega), by rw [← he]; exact hh⟩)
           · exact vO (by omega) (hE7 q (by simp at hq; omega) hs2 hh)⟩, by simp; omega⟩)
      | exact ⟨(i + 1, m7), ⟨rfl, rfl, rfl, rfl, rfl, trivial⟩, ⟨by exact fx, by simp; omega, by focus (repeat (first | assumption | (apply At.ext; assumption))), hK.next hB7 (fun q hq => hE7 q (by omega))⟩, by simp; omega⟩
      | trace_state
  all_goals first
    | exact ⟨(r + 1, m), ⟨rfl, rfl, rfl, rfl, trivial⟩, ⟨by exact fx, by simp; omega, by focus (repeat (first | assumption | (apply At.ext; assumption))), hI.round (by omega)⟩, by simp; omega⟩
    | skip
  · have hd := hI.mks.done (fun q hq hs2 => hI.all q hq (aJc hs2 (by omega)))
    subst hd
    exact aC rfl ⟨AtB.sl (by focus (repeat (first | assumption | (apply At.ext; assumption)))) (lO _ _ _).symm, by exact fx, by intro y hy; have hy : y ∈ [b] := hy; simp at hy; have := xp.size; omega⟩
end
end Go.Proofs.YtfebcajheojodaaGreatDoor
