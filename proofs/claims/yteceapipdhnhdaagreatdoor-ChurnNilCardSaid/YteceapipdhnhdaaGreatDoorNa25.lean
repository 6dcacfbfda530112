/- Contracts: transactions cut to a size. Plain: transactions a -/
import Derived.Test.YteceapipdhnhdaaGreatDoorNa22
set_option linter.unusedVariables false
set_option linter.unusedSimpArgs false
namespace Go.Proofs.YteceapipdhnhdaaGreatDoor
section
open Go Go.K
attribute [local irreducible] aH aM aY KOp.wp K.Spec u32 leS vnS str aP cM bK idT aQ aG aN idN
structure _root_.Go.K.Tx.Raw (t:Tx):Prop where
 ins:t.ins.length≤9223372036854775807
 outs:t.outs.length≤9223372036854775807
 wit:∀x∈t.ins,x.wit.length≤9223372036854775807
structure _root_.Go.K.Tx.Cut (t:Tx) (n:Nat):Prop where
 ins:t.ins.length≤n
 outs:t.outs.length≤n
 wit:∀x∈t.ins,x.wit.length≤6
set_option maxHeartbeats 4000000 in
theorem bKn {M:List Nat} {cs:List Value} {t:Tx} (most:Nat) (w:World) (ht:txR.rel M w cs t) (hr:t.Raw) (hm:most≤1000) (hM:∀b∈M,b<w.heap.size):
  K.Spec Tryz.prog F.kedgeref05_Cut [.agg cs.toArray,.int .i64 (most:Nat)] w fun r w'=>∃cs' t',r=.agg cs'.toArray∧txO w.heap.size M w' cs' t'∧t'.Cut most∧Ext w w':=by
 obtain ⟨iv,ov,rfl,h1,h2,h3⟩:=ht
 have hr1:=hr.ins
 have hr2:=hr.outs
 refine aKo rfl ?_
 unfold yE
 refine oy ?_
 refine goR ?_
 refine zD rfl rfl (fun bp wp xp ap rp hp0=>?_)
 refine goR ?_
 refine zH (fun b4 w4 x4 a4 hb4=>?_)
 repeat' (first|refine aZ (cs:= [.int .u32 t.ver,.slice none 0 0,.slice none 0 0,.int .u32 t.lock]) rfl ?_|(first|refine go2 ?_|fail))
 refine zE (fun _=>rfl) rfl rfl rfl (fun b5 w5 x5 a5 r5 hb5=>?_)
 have lp:=ap.lt
 have l4:=a4.lt
 have l5:=a5.lt
 have sp:=xp.size
 have s4:=x4.size
 have s5:=x5.size
 obtain ⟨M1,hM1⟩:∃M1,M1= [b4,b5]++M:=⟨_,rfl⟩
 have hM1b:∀b∈M1,b<w5.heap.size:=by
  intro y hy;rw [hM1] at hy;simp at hy
  rcases hy with h|h|h
  ·omega
  ·omega
  ·have:=hM y h;omega
 have m4:b4∈M1:=by rw [hM1];simp
 have m5:b5∈M1:=by rw [hM1];simp
 have mM:∀b∈M,b∈M1:=by intro y hy;rw [hM1];simp [hy]
 have a4':At w5 b4 (.cells [Value.int .u32 0,.slice none 0 0,.slice none 0 0,.int .u32 0].toArray T.api_Tx (0,0)):=At.ext x5 a4
 have a5':At w5 b5 (.cells [Value.int .u32 t.ver,.slice none 0 0,.slice none 0 0,.int .u32 t.lock].toArray T.api_Tx (0,0)):=a5
 have ap':At w5 bp (.cells (aK t iv ov).toArray T.api_Tx (0,0)):=At.ext x5 (At.ext x4 ap)
 have xw:Unit→Ext w w5:=fun _=>(xp.trans x4).trans x5
 clear a5 a4 ap rp r5 x5 x4 xp
 repeat' (first|(first|refine go2 ?_|fail)|refine zJ rfl (fun h=>?_) (fun h=>?_)|refine zL rfl (fun h=>?_) (fun h=>?_)|refine zB ?_ ?_|refine zG (E:=inR) (M:=M) (l:=t.ins) rfl (SlR.ext (w:=w) h1 (by first|exact x6|exact Ext.c (by first|assumption|exact Ext.drew _) x6)) ?_|(refine aJ (fun (p:Nat × Value × List TIn) w'=>Ext w w'∧w5.heap.size≤w'.heap.size∧At w' bp (.cells (aK t iv ov).toArray T.api_Tx (0,0))∧p.1≤t.ins.length∧p.1≤most∧p.2.2.length=p.1∧(∀x∈p.2.2,x.wit.length≤6)∧At w' b4 (.cells [Value.int .u32 0,.slice none 0 0,.slice none 0 0,.int .u32 0].toArray T.api_Tx (0,0))∧At w' b5 (.cells [Value.int .u32 t.ver,p.2.1,.slice none 0 0,.int .u32 t.lock].toArray T.api_Tx (0,0))∧bH inR T.api_In w5.heap.size M1 w' p.2.1 p.2.2) (fun p=> [(1,.int .i64 (most:Nat)),(2,.pointer (some ⟨bp,0,none⟩)),(4,.pointer (some ⟨b4,0,none⟩)),(5,.pointer (some ⟨b5,0,none⟩)),(6,.int .i64 p.1)]) (fun p=>most - p.1) (0,.slice none 0 0, []) ⟨rfl,rfl,rfl,rfl,rfl,trivial⟩ ⟨xw (),Nat.le_refl _,ap',by simp,by simp,rfl,by simp,a4',a5',bH.nil _ _ _ _⟩ ?_;rintro ⟨i,vi,L⟩ ρ w6 ⟨x6,s56,q3,hi1,hi2,hL,hLm,q4,q5,o1⟩;simp only at hi1 hi2 hL hLm q5 o1;dsimp only;have q3r:=Row.of_at q3;have q5r:Row w6 ⟨b5,0,none⟩ [Value.int .u32 t.ver,vi,.slice none 0 0,.int .u32 t.lock]:=Row.of_at q5))
 ·have hil:i<t.ins.length:=by omega
  have x6':Unit→Ext w w6:=fun _=>x6
  have hwl:=hr.wit _ (gMe hil)
  clear x6
  repeat' (first|(first|refine go2 ?_|fail)|refine zB ?_ ?_|(refine aR (d:=some 32) (E:=inR) (M:=M) rfl rfl (n:=i) (l:=t.ins) (SlR.ext h1 (Ext.c (by first|assumption|exact Ext.drew _) (x6' ()))) rfl hil (fun ad cs r8 he=>?_);obtain ⟨wv,rfl,hw,hp5,hp6⟩:=he;obtain ⟨bs1,cp1,rfl⟩:=hw.form)|(refine aR (d:=some 38) (E:=inR) (M:=M) rfl rfl (n:=i) (l:=t.ins) (SlR.ext h1 (Ext.c (by first|assumption|exact Ext.drew _) (x6' ()))) rfl hil (fun ad cs r9 he=>?_);obtain ⟨wv,rfl,hw,hp5,hp6⟩:=he;obtain ⟨bs1,cp1,rfl⟩:=hw.form)|refine aZ (d:=some 41) (cs:=fS ⟨t.ins[i].p,t.ins[i].q, []⟩ (.slice none 0 0)) rfl ?_|refine zH (d:=some 7) (fun b7 w7 x7 a7 hb7=>?_))
  have l7:=a7.lt
  have s7:=Ext.size (w:=w6) (w':=w7) (by exact fx)
  have g7:w6.heap.size≤b7:=nTr (Ext.size (by first|assumption|exact Ext.drew _)) hb7
  have gi:=o1.base
  have gj:=o1.lt
  refine cE (vs:=fS ⟨t.ins[i].p,t.ins[i].q, []⟩ (.slice none 0 0)) rfl rfl rfl (gQ rfl) a7 rfl (fun w8 c8 a8=>?_)
  have x68:Ext w6 w8:=(Ext.chg (w:=w6) (by exact fx) c8).mono (by intro y hy;simp at hy;right;omega)
  have s8:=c8.size
  clear a7 x7 c8 r8 r9
  have r8':=Row.of_at a8
  obtain ⟨M7,hM7⟩:∃M7,M7= [b7]++(aC vi++M1):=⟨_,rfl⟩
  have hM7b:∀b∈M7,b<w8.heap.size:=by
   intro y hy;rw [hM7] at hy
   rcases List.mem_append.1 hy with h|h
   ·simp at h;omega
   rcases List.mem_append.1 h with h|h
   ·have:=gj _ h;omega
   ·have:=hM1b y h;omega
  have m7:b7∈M7:=by rw [hM7];simp
  have mvi:∀b∈aC vi++M1,b∈M7:=by intro y hy;rw [hM7];exact List.mem_append_right _ hy
  repeat' (first|refine rH (a:=.seq (.reg false (.cons ⟨some 42,_,none⟩ _)) _) (fun (S:ByteArray) w'=>Ext w6 w'∧w8.heap.size≤w'.heap.size∧At w' b7 (.cells (fS ⟨⟨S,t.ins[i].p.i⟩,t.ins[i].q, []⟩ (.slice none 0 0)).toArray T.api_In (0,0))) (fun _=> [(1,.int .i64 (most:Nat)),(2,.pointer (some ⟨bp,0,none⟩)),(4,.pointer (some ⟨b4,0,none⟩)),(5,.pointer (some ⟨b5,0,none⟩)),(6,.int .i64 i),(7,.pointer (some ⟨b7,0,none⟩))]) ?_ ?_|(rintro S ρ7 w9 ⟨x69,sB,a9⟩;clear x68 r8' a8)|refine rH (a:=.seq (.reg false (.cons ⟨some 77,_,none⟩ _)) _) (fun (s:ByteArray) w'=>Ext w10 w') (fun s=> [(1,.int .i64 (most:Nat)),(2,.pointer (some ⟨bp,0,none⟩)),(4,.pointer (some ⟨b4,0,none⟩)),(5,.pointer (some ⟨b5,0,none⟩)),(6,.int .i64 i),(7,.pointer (some ⟨b7,0,none⟩)),(8,.int .i64 k),(9,.string s)]) ?_ ?_|(rintro s ρ9 w12 x1012)|(first|refine go2 ?_|fail)|refine zJ rfl (fun h=>?_) (fun h=>?_)|refine zL rfl (fun h=>?_) (fun h=>?_)|refine aNp rfl rfl (by omega) ?_|refine bC (d:=none) (b:=b7) (o:=0) rfl rfl rfl a8 (Nat.le_of_ble_eq_true rfl) (fun w9 c9 a9=>?_)|(refine aJ (fun (p:Nat × Value × List ByteArray) w'=>Ext w6 w'∧w9.heap.size≤w'.heap.size∧p.1≤6∧p.1≤t.ins[i].wit.length∧p.2.2.length=p.1∧At w' b7 (.cells (fS ⟨⟨S,t.ins[i].p.i⟩,t.ins[i].q, []⟩ p.2.1).toArray T.api_In (0,0))∧bH nM T.string w8.heap.size M7 w' p.2.1 p.2.2) (fun p=> [(1,.int .i64 (most:Nat)),(2,.pointer (some ⟨bp,0,none⟩)),(4,.pointer (some ⟨b4,0,none⟩)),(5,.pointer (some ⟨b5,0,none⟩)),(6,.int .i64 i),(7,.pointer (some ⟨b7,0,none⟩)),(8,.int .i64 p.1)]) (fun p=>6 - p.1) (0,.slice none 0 0, []) ⟨rfl,rfl,rfl,rfl,rfl,rfl,rfl,trivial⟩ ⟨x69,Nat.le_refl _,by simp,by simp,rfl,a9,bH.nil _ _ _ _⟩ ?_;clear x69;rintro ⟨k,vw,W⟩ ρ10 w10 ⟨x10,s910,hk1,hk2,hW,a10,ow⟩;simp only at hk1 hk2 hW a10 ow;dsimp only;have r10:=Row.of_at a10)|(refine aR (d:=some 57) (E:=inR) (M:=M) rfl rfl (n:=i) (l:=t.ins) (SlR.ext h1 (Ext.trans (x6' ()) (by exact fx))) rfl hil (fun ad cs r11 he=>?_);obtain ⟨wv2,rfl,hw2,_⟩:=he;obtain ⟨bs2,cp2,rfl⟩:=hw2.form)|(refine aR (d:=some 71) (E:=inR) (M:=M) rfl rfl (n:=i) (l:=t.ins) (SlR.ext h1 (Ext.trans (x6' ()) (by exact fx))) rfl hil (fun ad cs r11 he=>?_);obtain ⟨wv2,rfl,hw2,_⟩:=he;obtain ⟨bs2,cp2,rfl⟩:=hw2.form)|refine aU6 (E:=nM) (M:=M) (l:=t.ins[i].wit) rfl hw2 ?_|(refine aR (d:=some 75) (E:=nM) (M:=M) rfl rfl (n:=k) (l:=t.ins[i].wit) hw2 rfl (by omega) (fun ad cs r12 he=>?_);subst he)|(refine zI (d:=some 85) (cs:= [.string s]) rfl (fun b w13 x13 a13 hb13=>?_);have s1013:=Ext.size (w:=w10) (w':=w13) (by exact fx))|refine eM (d:=some 86) (E:=nM) (M:=M7) (v:=vw) (cs:= [.string s]) (a:=s) rfl rfl ((ow.ext x1012).ext x13) (by omega) rfl rfl a13 rfl (by omega) (fun v14 w14 o14 c14 hb14=>?_)|(refine zI (d:=some 91) (cs:=fS ⟨⟨S,t.ins[i].p.i⟩,t.ins[i].q,W⟩ vw) rfl (fun b w13 x13 a13 hb13=>?_);have s1013:=x13.size)|(refine eM (d:=some 92) (E:=inR) (M:=M1) (v:=vi) (cs:=fS ⟨⟨S,t.ins[i].p.i⟩,t.ins[i].q,W⟩ vw) (a:=⟨⟨S,t.ins[i].p.i⟩,t.ins[i].q,W⟩) rfl rfl (o1.ext (x10.trans x13)) (by omega) rfl rfl a13 ⟨vw,rfl,((ow.ext x13).slB hM7b).sub (fun b hb=>.inl (mvi b hb)),by assumption,by assumption⟩ (by omega) (fun v14 w14 o14 c14 hb14=>?_)))
  ·exact ⟨_,⟨rfl,rfl,rfl,rfl,rfl,rfl,trivial⟩,(x68.chg c9).mono (by intro y hy;simp at hy;right;omega),c9.size,a9⟩
  ·exact ⟨_,⟨rfl,rfl,rfl,rfl,rfl,rfl,trivial⟩,x68,Nat.le_refl _,a8⟩
  ·exact ⟨_,⟨rfl,rfl,rfl,rfl,rfl,rfl,rfl,rfl,trivial⟩,by exact fx⟩
  ·exact ⟨_,⟨rfl,rfl,rfl,rfl,rfl,rfl,rfl,rfl,trivial⟩,by exact fx⟩
  ·have gw:=ow.base
   have h7w:b7∉aC vw:=fun h=>by have:=gw _ h;omega
   have a14:=At.chg c14 (At.ext x13 (At.ext x1012 a10)) h7w
   have g14:=o14.base
   have h7v:b7∉aC v14:=fun h=>by have:=g14 _ h;omega
   refine bC (d:=none) (b:=b7) (o:=3) (cur:=fS ⟨⟨S,t.ins[i].p.i⟩,t.ins[i].q, []⟩ vw) rfl rfl o14.one a14 (Nat.le_of_ble_eq_true rfl) (fun w15 c15 a15=>?_)
   have o15:=o14.step c15 (M':=M7) (by intro y hy;simp at hy;subst hy;exact ⟨h7v,.inl m7⟩) (fun _ h=>.inl h)
   have x15:Unit→Ext w6 w15:=fun _=>(Ext.chg ((x10.trans x1012).trans x13) (c14.trans c15)).mono (by
    intro y hy
    rcases List.mem_append.1 hy with h|h
    ·have:=gw _ h;right;omega
    ·simp at h;right;omega)
   have s14:=c14.size
   have s15:=c15.size
   repeat (first|refine go2 ?_|fail)
   exact ⟨(k+1,v14,W++ [s]),⟨rfl,rfl,rfl,rfl,rfl,rfl,rfl,trivial⟩,⟨x15 (),by omega,by simp;omega,by simp;omega,by simp;omega,a15,o15⟩,by simp;omega⟩
  all_goals
   have hpv:bp∉aC vi:=fun h=>by have:=gi _ h;omega
   have h4v:b4∉aC vi:=fun h=>by have:=gi _ h;omega
   have h5v:b5∉aC vi:=fun h=>by have:=gi _ h;omega
   have z3:=At.chg c14 (q3.ext (x10.trans x13)) hpv
   have z4:=At.chg c14 (q4.ext (x10.trans x13)) h4v
   have z5:=At.chg c14 (q5.ext (x10.trans x13)) h5v
   have g14:=o14.base
   have h5w:b5∉aC v14:=fun h=>by have:=g14 _ h;omega
   refine bC (d:=none) (b:=b5) (o:=1) (cur:= [Value.int .u32 t.ver,vi,.slice none 0 0,.int .u32 t.lock]) rfl rfl o14.one z5 (Nat.le_of_ble_eq_true rfl) (fun w15 c15 a15=>?_)
   have o15:=o14.step c15 (M':=M1) (by intro y hy;simp at hy;subst hy;exact ⟨h5w,.inl m5⟩) (fun _ h=>.inl h)
   have x15:Unit→Ext w w15:=fun _=>(Ext.chg ((x6' ()).trans (x10.trans x13)) (c14.trans c15)).mono (by
    intro y hy
    rcases List.mem_append.1 hy with h|h
    ·have:=gi _ h;right;omega
    ·simp at h;right;omega)
   have s14:=c14.size
   have s15:=c15.size
   have s610:=x10.size
   clear x13
   have hi64:i≤1000:=by omega
   have hi65: -9223372036854775808≤(i:Int)+1∧(i:Int)+1≤9223372036854775807:=by omega
   apply z1
   apply zr
   apply zo
   apply zh
   apply z0
   refine bKz rfl rfl hi65 ?_
   clear hM7b mvi m7 hM7 hp5 hp6 hwl
   repeat (first|refine go2 ?_|fail)
   refine ⟨(i+1,v14,L++ [⟨⟨S,t.ins[i].p.i⟩,t.ins[i].q,W⟩]),⟨rfl,rfl,rfl,rfl,rfl,trivial⟩,⟨x15 (),by omega,At.chg c15 z3 (by simp;omega),by simp;omega,by simp;omega,by simp;omega,?_,At.chg c15 z4 (by simp;omega),a15,o15⟩,by simp;omega⟩
   intro x hx
   rcases List.mem_append.1 hx with h|h
   ·exact hLm x h
   ·simp at h;subst h;simp only;omega
 all_goals
  have hI0:=o1.base
  have hI1:=o1.lt
  have x6':Unit→Ext w w6:=fun _=>x6
  clear x6 xw
  repeat' (first|refine rH (a:=.seq (.reg false (.cons ⟨some 111,_,none⟩ _)) _) (fun (S:ByteArray) w'=>Ext w7 w'∧At w' b11 (.cells (gI ⟨t.outs[k].v,S⟩).toArray T.api_Out (0,0))) (fun _=> [(1,.int .i64 (most:Nat)),(2,.pointer (some ⟨bp,0,none⟩)),(4,.pointer (some ⟨b4,0,none⟩)),(5,.pointer (some ⟨b5,0,none⟩)),(10,.int .i64 k),(11,.pointer (some ⟨b11,0,none⟩))]) ?_ ?_|(rintro S ρ7 w12 ⟨x712,a12⟩;clear x11 a11 r11;have r12:=Row.of_at a12)|(first|refine go2 ?_|fail)|refine zJ rfl (fun h=>?_) (fun h=>?_)|refine zL rfl (fun h=>?_) (fun h=>?_)|refine aNp rfl rfl (by omega) ?_|refine bC (d:=none) (b:=b11) (o:=1) rfl rfl rfl a11 (Nat.le_of_ble_eq_true rfl) (fun w12 c12 a12=>?_)|refine aU6 (E:=gF) (M:=M) (l:=t.outs) rfl (SlR.ext h2 x7) ?_|(refine aJ (fun (p:Nat × Value × List TOut) w'=>Ext w w'∧w6.heap.size≤w'.heap.size∧At w' bp (.cells (aK t iv ov).toArray T.api_Tx (0,0))∧p.1≤t.outs.length∧p.1≤most∧p.2.2.length=p.1∧At w' b4 (.cells [Value.int .u32 0,.slice none 0 0,.slice none 0 0,.int .u32 0].toArray T.api_Tx (0,0))∧At w' b5 (.cells [Value.int .u32 t.ver,vi,p.2.1,.int .u32 t.lock].toArray T.api_Tx (0,0))∧bH inR T.api_In w5.heap.size (aC p.2.1++M1) w' vi L∧bH gF T.api_Out w6.heap.size (aC vi++M1) w' p.2.1 p.2.2) (fun p=> [(1,.int .i64 (most:Nat)),(2,.pointer (some ⟨bp,0,none⟩)),(4,.pointer (some ⟨b4,0,none⟩)),(5,.pointer (some ⟨b5,0,none⟩)),(10,.int .i64 p.1)]) (fun p=>most - p.1) (0,.slice none 0 0, []) ⟨rfl,rfl,rfl,rfl,rfl,trivial⟩ ⟨x6' (),Nat.le_refl _,q3,by simp,by simp,rfl,q4,q5,o1,bH.nil _ _ _ _⟩ ?_;rintro ⟨k,vo,O⟩ ρ7 w7 ⟨x7,s67,t3,hk1,hk2,hO,t4,t5,u1,u2⟩;simp only at hk1 hk2 hO t5 u1 u2;dsimp only;have t3r:=Row.of_at t3;have t5r:Row w7 ⟨b5,0,none⟩ [Value.int .u32 t.ver,vi,vo,.int .u32 t.lock]:=Row.of_at t5)|(refine aR (d:=some 109) (E:=gF) (M:=M) rfl rfl (n:=k) (l:=t.outs) (SlR.ext h2 x7) rfl (by omega) (fun ad cs r10 he=>?_);obtain ⟨rfl,hv10⟩:=he;have hkl:k<t.outs.length:=by omega)|(refine zE (fun _=>rfl) rfl rfl rfl (fun b11 w11 x11 a11 (r11:Row w11 ⟨b11,0,none⟩ (gI t.outs[k])) hb11=>?_);have l11:=a11.lt)|(refine zI (d:=some 122) (cs:=gI ⟨t.outs[k].v,S⟩) rfl (fun b w13 x13 a13 hb13=>?_);have s713:=Ext.size (w:=w7) (w':=w13) (by exact fx))|refine eM (d:=some 123) (E:=gF) (M:=aC vi++M1) (v:=vo) (cs:=gI ⟨t.outs[k].v,S⟩) (a:=⟨t.outs[k].v,S⟩) rfl rfl ((u2.ext x712).ext x13) (by omega) rfl rfl a13 ⟨rfl,hv10⟩ (by omega) (fun v14 w14 o14 c14 hb14=>?_))
  ·exact ⟨t.outs[k].s.extract 0 50,⟨rfl,rfl,rfl,rfl,rfl,rfl,trivial⟩,(x11.chg c12).mono (by intro y hy;simp at hy;right;omega),a12⟩
  ·exact ⟨_,⟨rfl,rfl,rfl,rfl,rfl,rfl,trivial⟩,x11,a11⟩
  ·have g2:=u2.base
   have h3o:bp∉aC vo:=fun h=>by have:=g2 _ h;omega
   have h4o:b4∉aC vo:=fun h=>by have:=g2 _ h;omega
   have h5o:b5∉aC vo:=fun h=>by have:=g2 _ h;omega
   have hvo:∀b∈aC vo,b∉aC vi:=fun b h h'=>by have:=g2 _ h;have:=hI1 _ h';omega
   have u1':=(u1.ext (x712.trans x13)).step c14 (M':=aC v14++M1) (fun b h=>⟨hvo b h,.inl (by simp [h])⟩) (fun b h=>by
    rcases List.mem_append.1 h with h|h
    ·rcases hb14 b h with h|h
     ·exact .inl (by simp [h])
     ·exact .inr h
    ·exact .inl (by simp [h]))
   have t3':=At.chg c14 (t3.ext (x712.trans x13)) h3o
   have t4':=At.chg c14 (t4.ext (x712.trans x13)) h4o
   have t5':=At.chg c14 (t5.ext (x712.trans x13)) h5o
   have g14:=o14.base
   have s14:=c14.size
   have xwx:Unit→Chg (aC vo) w w14:=fun _=>Ext.chg (x7.trans (x712.trans x13)) c14
   refine bC (d:=none) (b:=b5) (o:=2) (cur:= [Value.int .u32 t.ver,vi,vo,.int .u32 t.lock]) rfl rfl o14.one t5' (Nat.le_of_ble_eq_true rfl) (fun w15 c15 a15=>?_)
   have h5v:b5∉aC vi:=fun h=>by have:=hI0 _ h;omega
   have h5w:b5∉aC v14:=fun h=>by have:=g14 _ h;omega
   have u15:=u1'.step c15 (M':=aC v14++M1) (by intro y hy;simp at hy;subst hy;exact ⟨h5v,.inl (by simp [m5])⟩) (fun _ h=>.inl h)
   have o15:=o14.step c15 (M':=aC vi++M1) (by intro y hy;simp at hy;subst hy;exact ⟨h5w,.inl (by simp [m5])⟩) (fun _ h=>.inl h)
   have s15:=c15.size
   have x15:Unit→Ext w w15:=fun _=>((xwx ()).trans c15).mono (by
    intro y hy
    rcases List.mem_append.1 hy with h|h
    ·have:=g2 _ h;right;omega
    ·simp at h;right;omega)
   have hk64:k≤1000:=by omega
   repeat (first|refine go2 ?_|fail)
   exact ⟨(k+1,v14,O++ [⟨t.outs[k].v,S⟩]),⟨rfl,rfl,rfl,rfl,rfl,trivial⟩,⟨x15 (),by omega,At.chg c15 t3' (by simp;omega),by simp;omega,by simp;omega,by simp;omega,At.chg c15 t4' (by simp;omega),a15,u15,o15⟩,by simp;omega⟩
  all_goals
   refine aW (w0:=w) (vs:= [Value.int .u32 t.ver,vi,vo,.int .u32 t.lock]) x7 (by omega) t4 rfl rfl rfl rfl ?_ (fun w12 x12 c12 a12 r12=>?_)
   ·have e1:=u1.one
    have e2:=u2.one
    simp [e1,e2];exact ⟨rfl,rfl⟩
   repeat (first|refine go2 ?_|fail)
   have g2:=u2.base
   have h4i:b4∉aC vi:=fun h=>by have:=hI0 _ h;omega
   have h4o:b4∉aC vo:=fun h=>by have:=g2 _ h;omega
   have p1:=(u1.step (M':=M1) c12 (by intro y hy;simp at hy;subst hy;exact ⟨h4i,.inl (by simp [m4])⟩) (fun _ h=>.inl (by simp [h]))).sub (M':=M) (fun b hb=>.inl (mM b hb))
   have p2:=(u2.step (M':=M1) c12 (by intro y hy;simp at hy;subst hy;exact ⟨h4o,.inl (by simp [m4])⟩) (fun _ h=>.inl (by simp [h]))).sub (M':=M) (fun b hb=>.inl (mM b hb))
   exact aA (aEo (bA r12 rfl rfl)) ⟨_,⟨t.ver,L,O,t.lock⟩,rfl,⟨vi,vo,rfl,p1.lower (by omega),p2.lower (by omega),h3⟩,⟨by simp only;omega,by simp only;omega,hLm⟩,x12⟩
end
end Go.Proofs.YteceapipdhnhdaaGreatDoor
namespace Go.K
section
open Go
structure Small where
 frm:List UInt8
 idx:UInt8
 outs:UInt8
 fee:Int
 mark:UInt8
 long:UInt8
instance:Inhabited Small:=⟨⟨[],0,0,0,0,0⟩⟩
def u8R:R UInt8:=R.flat u8E false
def u8V (b:UInt8):Value:=.int .u8 (b.toNat:Nat)
structure InMade (x:TIn):Prop where
 lo:0≤x.p.i
 hi:x.p.i<4
 q:x.q=4294967293
 wit:x.wit= []
 id:x.p.s.size=32
structure OutMade (y:TOut):Prop where
 lo:0≤y.v
 hi:y.v≤2000
 s:y.s.size≤40
structure Made (z:Small) (t:Tx):Prop where
 ver:t.ver=2
 lock:t.lock=(z.mark.toNat:Nat)
 ins:t.ins.length=min z.frm.length 4
 each:∀x∈t.ins,InMade x
 outs:t.outs.length=z.outs.toNat%3+1+z.long.toNat
 eacho:∀y∈t.outs,OutMade y
theorem wrap_u8 (b:UInt8):IntKind.i64.wrap (b.toNat:Nat)=(b.toNat:Nat):=IntWalk.i64_in _ (by have:=b.toNat_lt;omega)
theorem aUz (n m:Nat) (h:0<m):bM .rem (.int .u8 (n:Nat)) (.int .u8 (m:Nat))=some (.int .u8 ((n%m:Nat):Int)):=by
 have hne:(m:Int)≠0:=by omega
 simp only [bM,dK,Bool.false_eq_true,if_false,if_true,dG]
 grind
theorem vG {n:Nat} (h:n<256):IntKind.i64.wrap (n:Nat)=(n:Nat):=IntWalk.i64_in _ (by omega)
theorem Made.sm {z:Small} {t:Tx} (h:Made z t):t.Sm:=by
 have h1:=h.ins;have h2:=h.outs;have h3:=z.long.toNat_lt
 exact ⟨by omega,by omega,fun x hx=>by rw [(h.each x hx).wit];simp⟩
end
section
open Go
end
section
open Go
end
section
open Go
variable {P:Program} {W:World} {t:TypeId}
theorem aR2 {α:Type} (E:R α) {a:Addr}:∀(n:Nat),(∀i,i<n→∃c x,Row W (a.add (i*E.k)) c∧E.rel [] W c x)→∃(css:List (Vec E.k)) (l:List α),css.length=n∧Row W a ((jM E.k E.pos).flat css)∧E.all [] W css l
 |0,_=>⟨[], [],rfl,fun j v hj=>by simp [Enc.flat] at hj,.nil⟩
 |n+1,h=>by
  obtain ⟨css,l,h1,h2,h3⟩:=aR2 E n fun i hi=>h i (by omega)
  obtain ⟨c,x,hc,hx⟩:=h n (by omega)
  refine ⟨css++ [R.vec hx],l++ [x],by grind,?_,h3.append (.cons hx .nil)⟩
  rw [Enc.flat_append]
  refine bDo h2 ?_
  rw [Enc.flat_length,h1]
  have e:(jM E.k E.pos).flat [R.vec hx]=c:=by show c++ []=c;exact List.append_nil _
  rw [e];exact hc
theorem aKw {α:Type} (E:R α) {e:TypeId} {v:Value} (hu:P.underlying t=some (.slice e)) (hk:P.cellsOf e=E.k) (he:∀c,Reads P W e c→∃x,E.rel [] W c x) (h:Reads P W t [v]):∃l,SlR E [] W v l∧l.length≤maxLen:=by
 rcases aXb hu h with h1|⟨a,len,cap,h1,hl,hm,hi⟩
 ·simp at h1;subst h1
  exact ⟨[],SlR.nil _ _,by simp⟩
 ·simp at h1;subst h1
  obtain ⟨css,l,h2,h3,h4⟩:=aR2 (W:=W) E (a:=a) len fun i hil=>by
   grind
  subst h2
  exact ⟨l,⟨css,⟨Enc.flat_length _ css,some a,cap,rfl,hl,fun _=>⟨a,rfl,h3⟩⟩,h4,fun _ b _ hm=>by grind⟩,by rw [←h4.length];omega⟩
def R.and {α:Type} (E:R α) (p:α→Prop):R α where
 k:=E.k
 pos:=E.pos
 ag:=E.ag
 rel:=fun M w cs x=>E.rel M w cs x∧p x
 len:=fun h=>E.len h.1
 one:=fun h=>E.one h.1
 step:=fun h c hL hM=>⟨E.step h.1 c hL hM,h.2⟩
theorem All2.right {α β:Type} {r:α→β→Prop} {q:β→Prop} (h:∀a b,r a b→q b):∀{l:List α} {m:List β},All2 r l m→∀b∈m,q b
 |_,_,.nil,b,hb=>by grind
 |_,_,.cons h1 t,b,hb=>by
  rcases List.mem_cons.1 hb with rfl|hb
  ·grind
  ·exact All2.right h t b hb
theorem SlR.both {α:Type} {E:R α} {p:α→Prop} {M:List Nat} {w:World} {v:Value} {l:List α} (h:SlR (E.and p) M w v l):SlR E M w v l∧∀x∈l,p x:=by
 obtain ⟨css,h1,h2,h3⟩:=h
 exact ⟨⟨css,h1,h2.mono fun _ _ h=>h.1,h3⟩,All2.right (fun _ _ h=>h.2) h2⟩
end
end Go.K
