/- Contracts: transactions cut to a size. Contracts: the reference's list of entries, with one more or one less; ids of numbers; alike transactions. Plain: what is reached, step by step. Contracts: what hangs on what, by the reference. The engine, part 17: maps of nested data: steps; keys that are texts. Plain: a graph as two maps and an order; the list that they stand for. Contracts: a graph: new, a -/
import Derived.Shelf.Spec.SlicesGrow
import Derived.Test.YtbidkcjendncaaaGreatDoorProg
import Derived.Shelf.SlicesE.DeleteFunc
import Derived.Test.YtbidkcjendncaaaGreatDoorDa16
set_option linter.unusedVariables false
set_option linter.unusedSimpArgs false
section
namespace Go.Proofs.YtbidkcjendncaaaGreatDoor
open Go Go.K
attribute [local irreducible] regK codeK retK KOp.wp K.Spec u32 leS vnS str zero32 sha2 encT idT sizeT checkT grantB
structure _root_.Go.K.Tx.Raw (t:Tx):Prop where
 ins:t.ins.length≤9223372036854775807
 outs:t.outs.length≤9223372036854775807
 wit:∀x∈t.ins,x.wit.length≤9223372036854775807
structure _root_.Go.K.Tx.Cut (t:Tx) (n:Nat):Prop where
 ins:t.ins.length≤n
 outs:t.outs.length≤n
 wit:∀x∈t.ins,x.wit.length≤6
set_option maxHeartbeats 4000000 in
theorem cut_spec {M:List Nat} {cs:List Value} {t:Tx} (most:Nat) (w:World) (ht:txR.rel M w cs t) (hr:t.Raw) (hm:most≤1000) (hM:∀b∈M,b<w.heap.size):
  K.Spec Tryz.prog F.kedgeref05_Cut [.agg cs.toArray,.int .i64 (most:Nat)] w fun r w'=>∃cs' t',r=.agg cs'.toArray∧txO w.heap.size M w' cs' t'∧t'.Cut most∧Ext w w':=by
 obtain ⟨iv,ov,rfl,h1,h2,h3⟩:=ht
 have hr1:=hr.ins
 have hr2:=hr.outs
 refine s_kedgeref05_Cut rfl ?_
 unfold k_kedgeref05_Cut
 refine oy ?_
 repeat (first|refine go ?_|refine zg (fun _ _=>?_)|refine zi (fun _ _=>?_))
 refine zD rfl rfl (fun bp wp xp ap rp hp0=>?_)
 repeat (first|refine go ?_|refine zg (fun _ _=>?_)|refine zi (fun _ _=>?_))
 refine zH (fun b4 w4 x4 a4 hb4=>?_)
 repeat' (first|(refine st_build (cs:= [.int .u32 t.ver,.slice none 0 0,.slice none 0 0,.int .u32 t.lock]) rfl ?_)|(first|refine go1 ?_|refine zg (fun _ _=>?_)|refine zi (fun _ _=>?_)))
 refine zE (fun _=>rfl) rfl rfl rfl (fun b5 w5 x5 a5 r5 hb5=>?_)
 have lp:=ap.lt
 have l4:=a4.lt
 have l5:=a5.lt
 have sp:=xp.size
 have s4:=x4.size
 have s5:=x5.size
 obtain ⟨M1,hM1⟩:∃M1,M1= [b4,b5]++M:=⟨_,rfl⟩
 have hM1b:∀b∈M1,b<w5.heap.size:=by
  intro y hy;rw [hM1] at hy;simp at hy
  rcases hy with h|h|h
  ·omega
  ·omega
  ·have:=hM y h;omega
 have m4:b4∈M1:=by rw [hM1];simp
 have m5:b5∈M1:=by rw [hM1];simp
 have mM:∀b∈M,b∈M1:=by intro y hy;rw [hM1];simp [hy]
 have a4':At w5 b4 (.cells [Value.int .u32 0,.slice none 0 0,.slice none 0 0,.int .u32 0].toArray T.api_Tx (0,0)):=At.ext x5 a4
 have a5':At w5 b5 (.cells [Value.int .u32 t.ver,.slice none 0 0,.slice none 0 0,.int .u32 t.lock].toArray T.api_Tx (0,0)):=a5
 have ap':At w5 bp (.cells (txCs t iv ov).toArray T.api_Tx (0,0)):=At.ext x5 (At.ext x4 ap)
 have xw:Unit→Ext w w5:=fun _=>(xp.trans x4).trans x5
 clear a5 a4 ap rp r5 x5 x4 xp
 repeat' (first|(first|refine go1 ?_|refine zg (fun _ _=>?_)|refine zi (fun _ _=>?_))|refine zJ rfl (fun h=>?_) (fun h=>?_)|refine zL rfl (fun h=>?_) (fun h=>?_)|refine zB ?_ ?_|(refine zG (E:=inR) (M:=M) (l:=t.ins) rfl (SlR.ext (w:=w) h1 (by first|exact x6|exact Ext.c (by assumption) x6)) ?_)|(refine c_loopV (fun (p:Nat × Value × List TIn) w'=>Ext w w'∧w5.heap.size≤w'.heap.size∧At w' bp (.cells (txCs t iv ov).toArray T.api_Tx (0,0))∧p.1≤t.ins.length∧p.1≤most∧p.2.2.length=p.1∧(∀x∈p.2.2,x.wit.length≤6)∧At w' b4 (.cells [Value.int .u32 0,.slice none 0 0,.slice none 0 0,.int .u32 0].toArray T.api_Tx (0,0))∧At w' b5 (.cells [Value.int .u32 t.ver,p.2.1,.slice none 0 0,.int .u32 t.lock].toArray T.api_Tx (0,0))∧OwnR inR T.api_In w5.heap.size M1 w' p.2.1 p.2.2) (fun p=> [(1,.int .i64 (most:Nat)),(2,.pointer (some ⟨bp,0,none⟩)),(4,.pointer (some ⟨b4,0,none⟩)),(5,.pointer (some ⟨b5,0,none⟩)),(6,.int .i64 p.1)]) (fun p=>most - p.1) (0,.slice none 0 0, []) ⟨rfl,rfl,rfl,rfl,rfl,trivial⟩ ⟨xw (),Nat.le_refl _,ap',by simp,by simp,rfl,by simp,a4',a5',OwnR.nil _ _ _ _⟩ ?_;rintro ⟨i,vi,L⟩ ρ w6 ⟨x6,s56,q3,hi1,hi2,hL,hLm,q4,q5,o1⟩;simp only at hi1 hi2 hL hLm q5 o1;dsimp only;have q3r:=Row.of_at q3;have q5r:Row w6 ⟨b5,0,none⟩ [Value.int .u32 t.ver,vi,.slice none 0 0,.int .u32 t.lock]:=Row.of_at q5))
 ·have hil:i<t.ins.length:=by omega
  have x6':Unit→Ext w w6:=fun _=>x6
  have hwl:=hr.wit _ (List.getElem_mem hil)
  clear x6
  repeat' (first|(first|refine go1 ?_|refine zg (fun _ _=>?_)|refine zi (fun _ _=>?_))|refine zB ?_ ?_|(refine st_elemR (d:=some 32) (E:=inR) (M:=M) rfl rfl (n:=i) (l:=t.ins) (SlR.ext h1 (Ext.c (by assumption) (x6' ()))) rfl hil (fun ad cs r8 he=>?_);obtain ⟨wv,rfl,hw,hp5,hp6⟩:=he;obtain ⟨bs1,cp1,rfl⟩:=hw.form)|(refine st_elemR (d:=some 38) (E:=inR) (M:=M) rfl rfl (n:=i) (l:=t.ins) (SlR.ext h1 (Ext.c (by assumption) (x6' ()))) rfl hil (fun ad cs r9 he=>?_);obtain ⟨wv,rfl,hw,hp5,hp6⟩:=he;obtain ⟨bs1,cp1,rfl⟩:=hw.form)|(refine st_build (d:=some 41) (cs:=inCs ⟨t.ins[i].p,t.ins[i].q, []⟩ (.slice none 0 0)) rfl ?_)|(refine zH (d:=some 7) (fun b7 w7 x7 a7 hb7=>?_)))
  have l7:=a7.lt
  have s7:=Ext.size (w:=w6) (w':=w7) (by exact fx)
  have g7:w6.heap.size≤b7:=Nat.le_trans (Ext.size (by assumption)) hb7
  have gi:=o1.base
  have gj:=o1.lt
  refine st_storeN0 (vs:=inCs ⟨t.ins[i].p,t.ins[i].q, []⟩ (.slice none 0 0)) rfl rfl rfl (all_one rfl) a7 rfl (fun w8 c8 a8=>?_)
  have x68:Ext w6 w8:=(Ext.chg (w:=w6) (by exact fx) c8).mono (by intro y hy;simp at hy;right;omega)
  have s8:=c8.size
  clear a7 x7 c8 r8 r9
  have r8':=Row.of_at a8
  obtain ⟨M7,hM7⟩:∃M7,M7= [b7]++(blkOf vi++M1):=⟨_,rfl⟩
  have hM7b:∀b∈M7,b<w8.heap.size:=by
   intro y hy;rw [hM7] at hy
   rcases List.mem_append.1 hy with h|h
   ·simp at h;omega
   rcases List.mem_append.1 h with h|h
   ·have:=gj _ h;omega
   ·have:=hM1b y h;omega
  have m7:b7∈M7:=by rw [hM7];simp
  have mvi:∀b∈blkOf vi++M1,b∈M7:=by intro y hy;rw [hM7];exact List.mem_append_right _ hy
  repeat' (first|(refine c_cutV (a:=.seq (.reg false (.cons ⟨some 42,_,none⟩ _)) _) (fun (S:ByteArray) w'=>Ext w6 w'∧w8.heap.size≤w'.heap.size∧At w' b7 (.cells (inCs ⟨⟨S,t.ins[i].p.i⟩,t.ins[i].q, []⟩ (.slice none 0 0)).toArray T.api_In (0,0))) (fun _=> [(1,.int .i64 (most:Nat)),(2,.pointer (some ⟨bp,0,none⟩)),(4,.pointer (some ⟨b4,0,none⟩)),(5,.pointer (some ⟨b5,0,none⟩)),(6,.int .i64 i),(7,.pointer (some ⟨b7,0,none⟩))]) ?_ ?_)|(rintro S ρ7 w9 ⟨x69,sB,a9⟩;clear x68 r8' a8)|(refine c_cutV (a:=.seq (.reg false (.cons ⟨some 77,_,none⟩ _)) _) (fun (s:ByteArray) w'=>Ext w10 w') (fun s=> [(1,.int .i64 (most:Nat)),(2,.pointer (some ⟨bp,0,none⟩)),(4,.pointer (some ⟨b4,0,none⟩)),(5,.pointer (some ⟨b5,0,none⟩)),(6,.int .i64 i),(7,.pointer (some ⟨b7,0,none⟩)),(8,.int .i64 k),(9,.string s)]) ?_ ?_)|(rintro s ρ9 w12 x1012)|(first|refine go1 ?_|refine zg (fun _ _=>?_)|refine zi (fun _ _=>?_))|refine zJ rfl (fun h=>?_) (fun h=>?_)|refine zL rfl (fun h=>?_) (fun h=>?_)|(refine st_takeStr rfl rfl (by omega) ?_)|(refine st_store (d:=none) (b:=b7) (o:=0) rfl rfl rfl a8 (Nat.le_of_ble_eq_true rfl) (fun w9 c9 a9=>?_))|(refine c_loopV (fun (p:Nat × Value × List ByteArray) w'=>Ext w6 w'∧w9.heap.size≤w'.heap.size∧p.1≤6∧p.1≤t.ins[i].wit.length∧p.2.2.length=p.1∧At w' b7 (.cells (inCs ⟨⟨S,t.ins[i].p.i⟩,t.ins[i].q, []⟩ p.2.1).toArray T.api_In (0,0))∧OwnR strR T.string w8.heap.size M7 w' p.2.1 p.2.2) (fun p=> [(1,.int .i64 (most:Nat)),(2,.pointer (some ⟨bp,0,none⟩)),(4,.pointer (some ⟨b4,0,none⟩)),(5,.pointer (some ⟨b5,0,none⟩)),(6,.int .i64 i),(7,.pointer (some ⟨b7,0,none⟩)),(8,.int .i64 p.1)]) (fun p=>6 - p.1) (0,.slice none 0 0, []) ⟨rfl,rfl,rfl,rfl,rfl,rfl,rfl,trivial⟩ ⟨x69,Nat.le_refl _,by simp,by simp,rfl,a9,OwnR.nil _ _ _ _⟩ ?_;clear x69;rintro ⟨k,vw,W⟩ ρ10 w10 ⟨x10,s910,hk1,hk2,hW,a10,ow⟩;simp only at hk1 hk2 hW a10 ow;dsimp only;have r10:=Row.of_at a10)|(refine st_elemR (d:=some 57) (E:=inR) (M:=M) rfl rfl (n:=i) (l:=t.ins) (SlR.ext h1 (Ext.trans (x6' ()) (by exact fx))) rfl hil (fun ad cs r11 he=>?_);obtain ⟨wv2,rfl,hw2,_⟩:=he;obtain ⟨bs2,cp2,rfl⟩:=hw2.form)|(refine st_elemR (d:=some 71) (E:=inR) (M:=M) rfl rfl (n:=i) (l:=t.ins) (SlR.ext h1 (Ext.trans (x6' ()) (by exact fx))) rfl hil (fun ad cs r11 he=>?_);obtain ⟨wv2,rfl,hw2,_⟩:=he;obtain ⟨bs2,cp2,rfl⟩:=hw2.form)|(refine st_lenR (E:=strR) (M:=M) (l:=t.ins[i].wit) rfl hw2 ?_)|(refine st_elemR (d:=some 75) (E:=strR) (M:=M) rfl rfl (n:=k) (l:=t.ins[i].wit) hw2 rfl (by omega) (fun ad cs r12 he=>?_);subst he)|(refine zI (d:=some 85) (cs:= [.string s]) rfl (fun b w13 x13 a13 hb13=>?_);have s1013:=Ext.size (w:=w10) (w':=w13) (by exact fx))|(refine st_append1 (d:=some 86) (E:=strR) (M:=M7) (v:=vw) (cs:= [.string s]) (a:=s) rfl rfl ((ow.ext x1012).ext x13) (by omega) rfl rfl a13 rfl (by omega) (fun v14 w14 o14 c14 hb14=>?_))|(refine zI (d:=some 91) (cs:=inCs ⟨⟨S,t.ins[i].p.i⟩,t.ins[i].q,W⟩ vw) rfl (fun b w13 x13 a13 hb13=>?_);have s1013:=x13.size)|(refine st_append1 (d:=some 92) (E:=inR) (M:=M1) (v:=vi) (cs:=inCs ⟨⟨S,t.ins[i].p.i⟩,t.ins[i].q,W⟩ vw) (a:=⟨⟨S,t.ins[i].p.i⟩,t.ins[i].q,W⟩) rfl rfl (o1.ext (x10.trans x13)) (by omega) rfl rfl a13 ⟨vw,rfl,((ow.ext x13).slB hM7b).sub (fun b hb=>.inl (mvi b hb)),by assumption,by assumption⟩ (by omega) (fun v14 w14 o14 c14 hb14=>?_)))
  ·exact ⟨_,⟨rfl,rfl,rfl,rfl,rfl,rfl,trivial⟩,(x68.chg c9).mono (by intro y hy;simp at hy;right;omega),c9.size,a9⟩
  ·exact ⟨_,⟨rfl,rfl,rfl,rfl,rfl,rfl,trivial⟩,x68,Nat.le_refl _,a8⟩
  ·exact ⟨_,⟨rfl,rfl,rfl,rfl,rfl,rfl,rfl,rfl,trivial⟩,by exact fx⟩
  ·exact ⟨_,⟨rfl,rfl,rfl,rfl,rfl,rfl,rfl,rfl,trivial⟩,by exact fx⟩
  ·have gw:=ow.base
   have h7w:b7∉blkOf vw:=fun h=>by have:=gw _ h;omega
   have a14:=At.chg c14 (At.ext x13 (At.ext x1012 a10)) h7w
   have g14:=o14.base
   have h7v:b7∉blkOf v14:=fun h=>by have:=g14 _ h;omega
   refine st_store (d:=none) (b:=b7) (o:=3) (cur:=inCs ⟨⟨S,t.ins[i].p.i⟩,t.ins[i].q, []⟩ vw) rfl rfl o14.one a14 (Nat.le_of_ble_eq_true rfl) (fun w15 c15 a15=>?_)
   have o15:=o14.step c15 (M':=M7) (by intro y hy;simp at hy;subst hy;exact ⟨h7v,.inl m7⟩) (fun _ h=>.inl h)
   have x15:Unit→Ext w6 w15:=fun _=>(Ext.chg ((x10.trans x1012).trans x13) (c14.trans c15)).mono (by
    intro y hy
    rcases List.mem_append.1 hy with h|h
    ·have:=gw _ h;right;omega
    ·simp at h;right;omega)
   have s14:=c14.size
   have s15:=c15.size
   repeat (first|refine go1 ?_|refine zg (fun _ _=>?_)|refine zi (fun _ _=>?_))
   exact ⟨(k+1,v14,W++ [s]),⟨rfl,rfl,rfl,rfl,rfl,rfl,rfl,trivial⟩,⟨x15 (),by omega,by simp;omega,by simp;omega,by simp;omega,a15,o15⟩,by simp;omega⟩
  all_goals
   have hpv:bp∉blkOf vi:=fun h=>by have:=gi _ h;omega
   have h4v:b4∉blkOf vi:=fun h=>by have:=gi _ h;omega
   have h5v:b5∉blkOf vi:=fun h=>by have:=gi _ h;omega
   have z3:=At.chg c14 (q3.ext (x10.trans x13)) hpv
   have z4:=At.chg c14 (q4.ext (x10.trans x13)) h4v
   have z5:=At.chg c14 (q5.ext (x10.trans x13)) h5v
   have g14:=o14.base
   have h5w:b5∉blkOf v14:=fun h=>by have:=g14 _ h;omega
   refine st_store (d:=none) (b:=b5) (o:=1) (cur:= [Value.int .u32 t.ver,vi,.slice none 0 0,.int .u32 t.lock]) rfl rfl o14.one z5 (Nat.le_of_ble_eq_true rfl) (fun w15 c15 a15=>?_)
   have o15:=o14.step c15 (M':=M1) (by intro y hy;simp at hy;subst hy;exact ⟨h5w,.inl m5⟩) (fun _ h=>.inl h)
   have x15:Unit→Ext w w15:=fun _=>(Ext.chg ((x6' ()).trans (x10.trans x13)) (c14.trans c15)).mono (by
    intro y hy
    rcases List.mem_append.1 hy with h|h
    ·have:=gi _ h;right;omega
    ·simp at h;right;omega)
   have s14:=c14.size
   have s15:=c15.size
   have s610:=x10.size
   clear x13
   have hi64:i≤1000:=by omega
   have hi65: -9223372036854775808≤(i:Int)+1∧(i:Int)+1≤9223372036854775807:=by omega
   apply z1
   apply zr
   apply zo
   apply zh
   apply z0
   refine st_add rfl rfl hi65 ?_
   clear hM7b mvi m7 hM7 hp5 hp6 hwl
   repeat (first|refine go1 ?_|refine zg (fun _ _=>?_)|refine zi (fun _ _=>?_))
   refine ⟨(i+1,v14,L++ [⟨⟨S,t.ins[i].p.i⟩,t.ins[i].q,W⟩]),⟨rfl,rfl,rfl,rfl,rfl,trivial⟩,⟨x15 (),by omega,At.chg c15 z3 (by simp;omega),by simp;omega,by simp;omega,by simp;omega,?_,At.chg c15 z4 (by simp;omega),a15,o15⟩,by simp;omega⟩
   intro x hx
   rcases List.mem_append.1 hx with h|h
   ·exact hLm x h
   ·simp at h;subst h;simp only;omega
 all_goals
  have hI0:=o1.base
  have hI1:=o1.lt
  have x6':Unit→Ext w w6:=fun _=>x6
  clear x6 xw
  repeat' (first|(refine c_cutV (a:=.seq (.reg false (.cons ⟨some 111,_,none⟩ _)) _) (fun (S:ByteArray) w'=>Ext w7 w'∧At w' b11 (.cells (outCs ⟨t.outs[k].v,S⟩).toArray T.api_Out (0,0))) (fun _=> [(1,.int .i64 (most:Nat)),(2,.pointer (some ⟨bp,0,none⟩)),(4,.pointer (some ⟨b4,0,none⟩)),(5,.pointer (some ⟨b5,0,none⟩)),(10,.int .i64 k),(11,.pointer (some ⟨b11,0,none⟩))]) ?_ ?_)|(rintro S ρ7 w12 ⟨x712,a12⟩;clear x11 a11 r11;have r12:=Row.of_at a12)|(first|refine go1 ?_|refine zg (fun _ _=>?_)|refine zi (fun _ _=>?_))|refine zJ rfl (fun h=>?_) (fun h=>?_)|refine zL rfl (fun h=>?_) (fun h=>?_)|(refine st_takeStr rfl rfl (by omega) ?_)|(refine st_store (d:=none) (b:=b11) (o:=1) rfl rfl rfl a11 (Nat.le_of_ble_eq_true rfl) (fun w12 c12 a12=>?_))|(refine st_lenR (E:=outR) (M:=M) (l:=t.outs) rfl (SlR.ext h2 x7) ?_)|(refine c_loopV (fun (p:Nat × Value × List TOut) w'=>Ext w w'∧w6.heap.size≤w'.heap.size∧At w' bp (.cells (txCs t iv ov).toArray T.api_Tx (0,0))∧p.1≤t.outs.length∧p.1≤most∧p.2.2.length=p.1∧At w' b4 (.cells [Value.int .u32 0,.slice none 0 0,.slice none 0 0,.int .u32 0].toArray T.api_Tx (0,0))∧At w' b5 (.cells [Value.int .u32 t.ver,vi,p.2.1,.int .u32 t.lock].toArray T.api_Tx (0,0))∧OwnR inR T.api_In w5.heap.size (blkOf p.2.1++M1) w' vi L∧OwnR outR T.api_Out w6.heap.size (blkOf vi++M1) w' p.2.1 p.2.2) (fun p=> [(1,.int .i64 (most:Nat)),(2,.pointer (some ⟨bp,0,none⟩)),(4,.pointer (some ⟨b4,0,none⟩)),(5,.pointer (some ⟨b5,0,none⟩)),(10,.int .i64 p.1)]) (fun p=>most - p.1) (0,.slice none 0 0, []) ⟨rfl,rfl,rfl,rfl,rfl,trivial⟩ ⟨x6' (),Nat.le_refl _,q3,by simp,by simp,rfl,q4,q5,o1,OwnR.nil _ _ _ _⟩ ?_;rintro ⟨k,vo,O⟩ ρ7 w7 ⟨x7,s67,t3,hk1,hk2,hO,t4,t5,u1,u2⟩;simp only at hk1 hk2 hO t5 u1 u2;dsimp only;have t3r:=Row.of_at t3;have t5r:Row w7 ⟨b5,0,none⟩ [Value.int .u32 t.ver,vi,vo,.int .u32 t.lock]:=Row.of_at t5)|(refine st_elemR (d:=some 109) (E:=outR) (M:=M) rfl rfl (n:=k) (l:=t.outs) (SlR.ext h2 x7) rfl (by omega) (fun ad cs r10 he=>?_);obtain ⟨rfl,hv10⟩:=he;have hkl:k<t.outs.length:=by omega)|(refine zE (fun _=>rfl) rfl rfl rfl (fun b11 w11 x11 a11 (r11:Row w11 ⟨b11,0,none⟩ (outCs t.outs[k])) hb11=>?_);have l11:=a11.lt)|(refine zI (d:=some 122) (cs:=outCs ⟨t.outs[k].v,S⟩) rfl (fun b w13 x13 a13 hb13=>?_);have s713:=Ext.size (w:=w7) (w':=w13) (by exact fx))|(refine st_append1 (d:=some 123) (E:=outR) (M:=blkOf vi++M1) (v:=vo) (cs:=outCs ⟨t.outs[k].v,S⟩) (a:=⟨t.outs[k].v,S⟩) rfl rfl ((u2.ext x712).ext x13) (by omega) rfl rfl a13 ⟨rfl,hv10⟩ (by omega) (fun v14 w14 o14 c14 hb14=>?_)))
  ·exact ⟨t.outs[k].s.extract 0 50,⟨rfl,rfl,rfl,rfl,rfl,rfl,trivial⟩,(x11.chg c12).mono (by intro y hy;simp at hy;right;omega),a12⟩
  ·exact ⟨_,⟨rfl,rfl,rfl,rfl,rfl,rfl,trivial⟩,x11,a11⟩
  ·have g2:=u2.base
   have h3o:bp∉blkOf vo:=fun h=>by have:=g2 _ h;omega
   have h4o:b4∉blkOf vo:=fun h=>by have:=g2 _ h;omega
   have h5o:b5∉blkOf vo:=fun h=>by have:=g2 _ h;omega
   have hvo:∀b∈blkOf vo,b∉blkOf vi:=fun b h h'=>by have:=g2 _ h;have:=hI1 _ h';omega
   have u1':=(u1.ext (x712.trans x13)).step c14 (M':=blkOf v14++M1) (fun b h=>⟨hvo b h,.inl (by simp [h])⟩) (fun b h=>by
    rcases List.mem_append.1 h with h|h
    ·rcases hb14 b h with h|h
     ·exact .inl (by simp [h])
     ·exact .inr h
    ·exact .inl (by simp [h]))
   have t3':=At.chg c14 (t3.ext (x712.trans x13)) h3o
   have t4':=At.chg c14 (t4.ext (x712.trans x13)) h4o
   have t5':=At.chg c14 (t5.ext (x712.trans x13)) h5o
   have g14:=o14.base
   have s14:=c14.size
   have xwx:Unit→Chg (blkOf vo) w w14:=fun _=>Ext.chg (x7.trans (x712.trans x13)) c14
   refine st_store (d:=none) (b:=b5) (o:=2) (cur:= [Value.int .u32 t.ver,vi,vo,.int .u32 t.lock]) rfl rfl o14.one t5' (Nat.le_of_ble_eq_true rfl) (fun w15 c15 a15=>?_)
   have h5v:b5∉blkOf vi:=fun h=>by have:=hI0 _ h;omega
   have h5w:b5∉blkOf v14:=fun h=>by have:=g14 _ h;omega
   have u15:=u1'.step c15 (M':=blkOf v14++M1) (by intro y hy;simp at hy;subst hy;exact ⟨h5v,.inl (by simp [m5])⟩) (fun _ h=>.inl h)
   have o15:=o14.step c15 (M':=blkOf vi++M1) (by intro y hy;simp at hy;subst hy;exact ⟨h5w,.inl (by simp [m5])⟩) (fun _ h=>.inl h)
   have s15:=c15.size
   have x15:Unit→Ext w w15:=fun _=>((xwx ()).trans c15).mono (by
    intro y hy
    rcases List.mem_append.1 hy with h|h
    ·have:=g2 _ h;right;omega
    ·simp at h;right;omega)
   have hk64:k≤1000:=by omega
   repeat (first|refine go1 ?_|refine zg (fun _ _=>?_)|refine zi (fun _ _=>?_))
   exact ⟨(k+1,v14,O++ [⟨t.outs[k].v,S⟩]),⟨rfl,rfl,rfl,rfl,rfl,trivial⟩,⟨x15 (),by omega,At.chg c15 t3' (by simp;omega),by simp;omega,by simp;omega,by simp;omega,At.chg c15 t4' (by simp;omega),a15,u15,o15⟩,by simp;omega⟩
  all_goals
   refine st_setN (w0:=w) (vs:= [Value.int .u32 t.ver,vi,vo,.int .u32 t.lock]) x7 (by omega) t4 rfl rfl rfl rfl ?_ (fun w12 x12 c12 a12 r12=>?_)
   ·have e1:=u1.one
    have e2:=u2.one
    simp [e1,e2];exact ⟨rfl,rfl⟩
   repeat (first|refine go1 ?_|refine zg (fun _ _=>?_)|refine zi (fun _ _=>?_))
   have g2:=u2.base
   have h4i:b4∉blkOf vi:=fun h=>by have:=hI0 _ h;omega
   have h4o:b4∉blkOf vo:=fun h=>by have:=g2 _ h;omega
   have p1:=(u1.step (M':=M1) c12 (by intro y hy;simp at hy;subst hy;exact ⟨h4i,.inl (by simp [m4])⟩) (fun _ h=>.inl (by simp [h]))).sub (M':=M) (fun b hb=>.inl (mM b hb))
   have p2:=(u2.step (M':=M1) c12 (by intro y hy;simp at hy;subst hy;exact ⟨h4o,.inl (by simp [m4])⟩) (fun _ h=>.inl (by simp [h]))).sub (M':=M) (fun b hb=>.inl (mM b hb))
   exact x_ret (ret1 (rv_cell r12 rfl rfl)) ⟨_,⟨t.ver,L,O,t.lock⟩,rfl,⟨vi,vo,rfl,p1.lower (by omega),p2.lower (by omega),h3⟩,⟨by simp only;omega,by simp only;omega,hLm⟩,x12⟩
end Go.Proofs.YtbidkcjendncaaaGreatDoor
end
section
namespace Go.Proofs.YtbidkcjendncaaaGreatDoor
open Go Go.K
attribute [local irreducible] regK codeK retK KOp.wp K.Spec u32 leS vnS str zero32 sha2 encT idT sizeT checkT grantB
theorem erase_take {α:Type} {l:List α} {n i:Nat} (h:i<l.length):(l.take (i+1)).eraseIdx n=if i=n then (l.take i).eraseIdx n else (l.take i).eraseIdx n++ [l[i]]:=by
 rw [List.take_succ_eq_append_getElem h]
 by_cases e:i=n
 ·subst e
  rw [if_pos rfl,List.eraseIdx_append_of_length_le (by rw [List.length_take];omega)]
  rw [List.length_take,Nat.min_eq_left (by omega),Nat.sub_self]
  rw [List.eraseIdx_of_length_le (l:=l.take i) (by rw [List.length_take];omega)]
  simp
 ·rw [if_neg e]
  rcases Nat.lt_or_ge n i with h1|h1
  ·rw [List.eraseIdx_append_of_lt_length (by rw [List.length_take];omega)]
  ·rw [List.eraseIdx_of_length_le (l:=l.take i) (by rw [List.length_take];omega),List.eraseIdx_of_length_le (by simp;omega)]
theorem chk_parts {t:Tx} (h:checkT t=0):countsB t=true∧longB t=false∧formedT t=true∧twiceB t=false∧sumE (values t)=0:=by
 unfold checkT at h
 by_cases h1:countsB t=true
 ·by_cases h2:longB t=true
  ·rw [h1,h2] at h;simp at h
  ·by_cases h3:formedT t=true
   ·by_cases h4:twiceB t=true
    ·rw [h1,h3,h4] at h;simp at h;exact absurd h (by split<;>decide)
    ·simp only [Bool.not_eq_true] at h2 h4
     rw [h1,h2,h3,h4] at h
     exact ⟨h1,h2,h3,h4,by simpa using h⟩
   ·simp only [Bool.not_eq_true] at h2 h3
    rw [h1,h2,h3] at h;simp at h
 ·simp only [Bool.not_eq_true] at h1
  rw [h1] at h;simp at h
theorem chk_sm {t:Tx} (h:checkT t=0):t.Sm:=by
 have h1:=(chk_parts h).1
 unfold countsB at h1
 simp only [Bool.and_eq_true,decide_eq_true_eq,Bool.not_eq_true',List.any_eq_false,Int.not_lt,gt_iff_lt] at h1
 exact ⟨by omega,by omega,fun x hx=>by have:=h1.2 x hx;omega⟩
theorem radd_grant {t:Tx} (h:checkT t=0):∃hi:0<t.ins.length,isBase t.ins[0].p=grantB t:=by
 have hp:=chk_parts h
 have h1:=hp.1
 unfold countsB at h1
 simp only [Bool.and_eq_true,decide_eq_true_eq] at h1
 have hi:0<t.ins.length:=by omega
 refine ⟨hi,?_⟩
 unfold grantB
 by_cases hl:t.ins.length=1
 ·rw [decide_eq_true hl,Bool.true_and,headD_0 hi]
 ·rw [decide_eq_false hl,Bool.false_and]
  have h3:=hp.2.2.1
  unfold formedT at h3
  simp only [Bool.not_eq_true',List.any_eq_false] at h3
  have h4:=h3 _ (List.getElem_mem hi)
  unfold badIn at h4
  simp only [Bool.or_eq_true,not_or,Bool.and_eq_true,decide_eq_true_eq,not_and] at h4
  by_cases hb:isBase t.ins[0].p=true
  ·exact absurd (by omega) (h4.2 hb)
  ·simpa using hb
end Go.Proofs.YtbidkcjendncaaaGreatDoor
end
section
namespace Go.K
open Go
section
variable {base:Nat→Bool} {edge:Nat→Nat→Bool} {n:Nat}
end
section
variable {base:Nat→Bool} {edge:Nat→Nat→Bool} {n:Nat} {m:List Bool}
end
end Go.K
end
section
namespace Go.Proofs.YtbidkcjendncaaaGreatDoor
open Go Go.K
section
variable {P:Program} {d:Option Tmp} {r:KR} {K:Env→World→Prop} {ρ:Env} {w:World}
end
attribute [local irreducible] regK codeK retK KOp.wp K.Spec u32 leS vnS str zero32 sha2 encT idT sizeT checkT grantB
section
variable {base:Nat→Bool} {edge:Nat→Nat→Bool} {n r i:Nat} {m:List Bool}
end
end Go.Proofs.YtbidkcjendncaaaGreatDoor
end
section
namespace Go.K
open Go
variable {P:Program}
def sK:KEnc ByteArray:=⟨Value.string,false, [.s],by intro a b;simp [keyEq,cellsEq,cellEq],by intro a;rfl⟩
section
variable {κ β:Type} [DecidableEq κ] {KE:KEnc κ} {F:R β} {M:List Nat} {w:World} {d:Option Tmp} {r:KR} {K:Env→World→Prop} {ρ:Env}
theorem MapR.new {b:Nat} (h:MapE KE id w b ([]:List (κ × Value))):MapR KE F M w b []:=⟨[],h,.nil⟩
end
end Go.K
end
section
namespace Go.K
open Go
theorem aget_set' {κ β:Type} [DecidableEq κ] (l:List (κ × β)) (k:κ) (v:β) (k':κ):aget (aset l k v) k'=if k=k' then some v else aget l k':=by
 induction l with
 |nil=>unfold aget aset;by_cases h:k=k'<;>simp [h]
 |cons p l ih=>
  have e:∀(q:κ × β) (m:List (κ × β)),aget (q::m) k'=if q.1=k' then some q.2 else aget m k':=by intro q m;unfold aget;rw [List.find?_cons];by_cases h:q.1=k'<;>simp [h]
  unfold aset
  by_cases h:p.1=k
  ·rw [if_pos h,e,e]
   by_cases h2:k=k'
   ·simp [h2]
   ·rw [if_neg h2,if_neg h2,if_neg (by rw [h];exact h2)]
  ·rw [if_neg h,e,e,ih]
   by_cases h2:p.1=k'
   ·rw [if_pos h2,if_pos h2,if_neg (by rw [←h2];exact fun e=>h e.symm)]
   ·rw [if_neg h2,if_neg h2]
end Go.K
end
section
namespace Go.Proofs.YtbidkcjendncaaaGreatDoor
open Go Go.K
attribute [local irreducible] regK codeK retK KOp.wp K.Spec u32 leS vnS str zero32 sha2 encT idT sizeT checkT grantB spends
abbrev zEnt:List Value:= [.int .u32 0,.slice none 0 0,.slice none 0 0,.int .u32 0,.string ⟨#[]⟩,.int .i64 0,.int .i64 0]
end Go.Proofs.YtbidkcjendncaaaGreatDoor
end
section
namespace Go.Proofs.YtbidkcjendncaaaGreatDoor
open Go Go.K
attribute [local irreducible] regK codeK retK KOp.wp K.Spec u32 leS vnS str zero32 sha2 encT idT sizeT checkT grantB spends
end Go.Proofs.YtbidkcjendncaaaGreatDoor
end
section
namespace Go.Proofs.YtbidkcjendncaaaGreatDoor
open Go Go.K
attribute [local irreducible] regK codeK retK KOp.wp K.Spec u32 leS vnS str zero32 sha2 encT idT sizeT checkT grantB spends
end Go.Proofs.YtbidkcjendncaaaGreatDoor
end
section
namespace Go.Proofs.YtbidkcjendncaaaGreatDoor
open Go Go.K
attribute [local irreducible] regK codeK retK KOp.wp K.Spec u32 leS vnS str zero32 sha2 encT idT sizeT checkT grantB spends
end Go.Proofs.YtbidkcjendncaaaGreatDoor
end
section
namespace Go.K
open Go
section
variable {l:List Ent} {frm:List ByteArray} {nxt:Ent→List ByteArray} {T:List ByteArray} {met:List (ByteArray × Nat)}
end
end Go.K
end
section
namespace Go.K
open Go
end Go.K
end
section
namespace Go.Proofs.YtbidkcjendncaaaGreatDoor
open Go Go.K
attribute [local irreducible] regK codeK retK KOp.wp K.Spec u32 leS vnS str zero32 sha2 encT idT sizeT checkT grantB
end Go.Proofs.YtbidkcjendncaaaGreatDoor
end
section
namespace Go.K
open Go
end Go.K
end
section
namespace Go.Proofs.YtbidkcjendncaaaGreatDoor
open Go Go.K
attribute [local irreducible] regK codeK retK KOp.wp K.Spec u32 leS vnS str zero32 sha2 encT idT sizeT checkT grantB
theorem txO.off {B b:Nat} {M:List Nat} {w w':World} {ds:List Value} {t:Tx} (h:txO B ([b]++M) w ds t) (hb:b<B) (c:Chg [b] w w'):txO B M w' ds t:=by
 obtain ⟨iv,ov,rfl,o1,o2,o3⟩:=h
 have g1:=o1.base
 have g2:=o2.base
 have n1:b∉blkOf iv:=fun h=>by have:=g1 _ h;omega
 have n2:b∉blkOf ov:=fun h=>by have:=g2 _ h;omega
 exact ⟨iv,ov,rfl,o1.step c (by intro q hq;simp at hq;subst hq;exact ⟨n1,.inl (by simp)⟩) (fun _ h=>.inl (List.mem_append_right _ h)),o2.step c (by intro q hq;simp at hq;subst hq;exact ⟨n2,.inl (by simp)⟩) (fun _ h=>.inl (List.mem_append_right _ h)),o3⟩
theorem txO.lower {B B':Nat} {M:List Nat} {w:World} {ds:List Value} {t:Tx} (h:txO B M w ds t) (hb:B'≤B):txO B' M w ds t:=by
 obtain ⟨iv,ov,rfl,o1,o2,o3⟩:=h
 exact ⟨iv,ov,rfl,o1.lower hb,o2.lower hb,o3⟩
theorem txO.ext {B:Nat} {M:List Nat} {w w':World} {ds:List Value} {t:Tx} (h:txO B M w ds t) (c:Ext w w'):txO B M w' ds t:=by
 obtain ⟨iv,ov,rfl,o1,o2,o3⟩:=h
 exact ⟨iv,ov,rfl,o1.ext c,o2.ext c,o3⟩
theorem txO.one {B:Nat} {M:List Nat} {w:World} {ds:List Value} {t:Tx} (h:txO B M w ds t):ds.all (fun v=>v.oneCell')=true:=by
 obtain ⟨iv,ov,rfl,o1,o2,o3⟩:=h
 have e1:=o1.one
 have e2:=o2.one
 simp [txCs,e1,e2];exact ⟨rfl,rfl⟩
end Go.Proofs.YtbidkcjendncaaaGreatDoor
end
section
namespace Go.K
open Go
variable {l:List Ent}
end Go.K
end
section
namespace Go.K
open Go
end Go.K
end
section
namespace Go.K
open Go
end Go.K
end
section
namespace Go.Proofs.YtbidkcjendncaaaGreatDoor
open Go Go.K
attribute [local irreducible] regK codeK retK KOp.wp K.Spec u32 leS vnS str zero32 sha2 encT idT sizeT checkT grantB
theorem get_nil (id:ByteArray) (w:World):K.Spec Tryz.prog F.graph_Graph_Get [.pointer none,.string id] w fun r w'=>r=.tuple #[.agg zEnt.toArray,.bool false]∧Ext w w':=by
 refine s_graph_Graph_Get rfl ?_
 unfold k_graph_Graph_Get
 refine oy ?_
 repeat' (first|(first|refine go1 ?_|refine zg (fun _ _=>?_)|refine zi (fun _ _=>?_))|(refine zH (fun b4 w4 x4 a4 hb4=>?_))|(refine st_build (cs:=zEnt) rfl ?_)|(refine st_setN (w0:=w) (vs:=zEnt) (by exact fx) (by omega) (by focus (repeat (first|assumption|(apply At.ext;assumption)))) rfl rfl rfl rfl rfl (fun w9 x9 c9 a9 r9=>?_)))
 exact x_ret (ret2 (rv_cell r9 rfl rfl) rv_tmp) ⟨rfl,x9⟩
theorem all_nil (w:World):K.Spec Tryz.prog F.graph_Graph_All [.pointer none] w fun r w'=>r=.slice none 0 0∧Ext w w':=by
 refine s_graph_Graph_All rfl ?_
 unfold k_graph_Graph_All
 refine oy ?_
 repeat' (first|(first|refine go1 ?_|refine zg (fun _ _=>?_)|refine zi (fun _ _=>?_))|(first|refine zD rfl rfl (fun bp wp xp ap rp hp0=>?_)|refine zE (fun _=>rfl) rfl rfl rfl (fun bq wq xq aq rq hq0=>?_)))
 exact x_ret rfl ⟨rfl,by exact fx⟩
theorem sum_nil {v:Value} {ids:List ByteArray} (w:World) (hi:SlE strE w v ids) (hn:ids.length≤1):K.Spec Tryz.prog F.graph_Graph_Sum [.pointer none,v] w fun r w'=>r=.tuple #[.int .i64 0,.int .i64 0]∧Ext w w':=by
 refine s_graph_Graph_Sum rfl ?_
 unfold k_graph_Graph_Sum
 refine oy ?_
 repeat' (first|(first|refine go1 ?_|refine zg (fun _ _=>?_)|refine zi (fun _ _=>?_))|refine zL rfl (fun h=>?_) (fun h=>?_)|(refine st_makeMap (E:=sK) (fv:=fun n:Nat=>Value.int .i64 (n:Nat)) (fun bm w1 x1 m1 hb1=>?_);have lm:=m1.lt)|(refine st_len rfl (SlE.ext (w:=w) (by exact fx) hi) ?_)|(refine c_loopV (fun (p:Nat) w'=>Ext w w'∧p≤ids.length∧(p=0→MapE sK (fun n:Nat=>Value.int .i64 (n:Nat)) w' bm [])) (fun p=> [(0,.pointer none),(6,.int .i64 0),(7,.int .i64 0),(8,.map (some bm)),(14,v),(15,.int .i64 (ids.length:Nat)),(16,.int .i64 (p:Nat))]) (fun p=>ids.length - p) 0 ⟨rfl,rfl,rfl,rfl,rfl,rfl,rfl,trivial⟩ ⟨x1,by simp,fun _=>m1⟩ ?_;rintro i ρ w3 ⟨x3,hi3,hm⟩))
 ·have hi0:i=0:=by omega
  subst hi0
  have hil:0<ids.length:=by omega
  have hm:=hm rfl
  refine st_elemE rfl rfl (n:=0) (l:=ids) (hi.ext x3) rfl hil (fun ad r5=>?_)
  have r5:Row w3 ad [Value.string ids[0]]:=r5
  repeat' (first|(first|refine go1 ?_|refine zg (fun _ _=>?_)|refine zi (fun _ _=>?_))|(refine st_lookup (d:=some 22) (E:=sK) (fv:=fun n:Nat=>Value.int .i64 (n:Nat)) (k:=ids[0]) rfl rfl hm rfl rfl (fun c hcc=>by simp [aget] at hcc) (fun hcn=>?_))|(refine st_mapUpdate (E:=sK) (fv:=fun n:Nat=>Value.int .i64 (n:Nat)) (k:=ids[0]) (v:=1) rfl rfl rfl hm rfl rfl (fun w4 c4 m4=>?_);have x4:Ext w w4:=(Ext.chg x3 c4).mono (by intro y hy;simp at hy;right;omega);clear x3)|(refine st_lookup (d:=some 26) (E:=sK) (fv:=fun n:Nat=>Value.int .i64 (n:Nat)) (k:=ids[0]) rfl rfl m4 rfl rfl (fun c hcc=>?_) (fun hcn=>by rw [aget_set',if_pos rfl] at hcn;cases hcn);rw [aget_set',if_pos rfl] at hcc;injection hcc with hcc;subst hcc)|(refine zL rfl (fun h9=>absurd h9 (by decide)) (fun h9=>?_))|(refine zC rfl (get_nil ids[0] _) ?_;rintro _ w5 ⟨rfl,x5⟩)|(refine zE (d':=11) (fun _=>rfl) rfl rfl rfl (fun b6 w6 x6 a6 (r6:Row w6 ⟨b6,0,none⟩ zEnt) hb6=>?_)))
  exact ⟨1,⟨rfl,rfl,rfl,rfl,rfl,rfl,rfl,trivial⟩,⟨by exact fx,by omega,fun h=>by omega⟩,by omega⟩
 ·exact x_ret rfl ⟨rfl,x3⟩
end Go.Proofs.YtbidkcjendncaaaGreatDoor
end
section
namespace Go.K
open Go
variable {l:List Ent} {s:ByteArray}
end Go.K
end
section
namespace Go.K
open Go
end Go.K
end
section
namespace Go.K
open Go
end Go.K
end
section
namespace Go.K
open Go
end Go.K
end
section
namespace Go.Proofs
open Go.Shelf
end Go.Proofs
end
section
namespace Go.Proofs
open Go.Shelf Go.RowKit Go.Lib Go.Sort
variable {P:Program} {ρ:Ren} {α:Type} [Inhabited α]
end Go.Proofs
namespace Go.Proofs.YtbidkcjendncaaaGreatDoor
open Go Go.K
attribute [local irreducible] regK codeK retK KOp.wp K.Spec u32 leS vnS str zero32 sha2 encT idT
end Go.Proofs.YtbidkcjendncaaaGreatDoor
end
section
namespace Go.Proofs.YtbidkcjendncaaaGreatDoor
open Go Go.K
attribute [local irreducible] regK codeK retK KOp.wp K.Spec u32 leS vnS str zero32 sha2 encT idT sizeT checkT grantB
end Go.Proofs.YtbidkcjendncaaaGreatDoor
end
section
namespace Go.Proofs.YtbidkcjendncaaaGreatDoor
open Go Go.K
attribute [local irreducible] regK codeK retK KOp.wp K.Spec u32 leS vnS str zero32 sha2 encT idT sizeT checkT grantB
end Go.Proofs.YtbidkcjendncaaaGreatDoor
end
section
namespace Go.K
open Go Go.Proofs.YtbidkcjendncaaaGreatDoor
end Go.K
end
section
namespace Go.K
open Go Go.Proofs.YtbidkcjendncaaaGreatDoor
section
variable {l:List Ent} {t:Tx}
end
end Go.K
end
section
namespace Go.K
open Go
end Go.K
end
section
namespace Go.Proofs.YtbidkcjendncaaaGreatDoor
open Go Go.K
attribute [local irreducible] regK codeK retK KOp.wp K.Spec u32 leS vnS str zero32 sha2 encT idT sizeT checkT grantB
end Go.Proofs.YtbidkcjendncaaaGreatDoor
end
section
namespace Go.Proofs.YtbidkcjendncaaaGreatDoor
open Go Go.K
attribute [local irreducible] regK codeK retK KOp.wp K.Spec u32 leS vnS str zero32 sha2 encT idT sizeT checkT grantB
end Go.Proofs.YtbidkcjendncaaaGreatDoor
end
section
namespace Go.Proofs.YtbidkcjendncaaaGreatDoor
open Go Go.K
attribute [local irreducible] regK codeK retK KOp.wp K.Spec u32 leS vnS str zero32 sha2 encT idT sizeT checkT grantB spends
section
variable {P:Program} {d:Option Tmp} {r:KR} {K:Env→World→Prop} {ρ:Env} {w:World}
end
end Go.Proofs.YtbidkcjendncaaaGreatDoor
end
section
namespace Go.Proofs.YtbidkcjendncaaaGreatDoor
open Go Go.K
attribute [local irreducible] regK codeK retK KOp.wp K.Spec u32 leS vnS str zero32 sha2 encT idT sizeT checkT grantB
end Go.Proofs.YtbidkcjendncaaaGreatDoor
end
section
namespace Go.K
open Go
end Go.K
end
section
namespace Go.Proofs.YtbidkcjendncaaaGreatDoor
open Go Go.K
attribute [local irreducible] regK codeK retK KOp.wp K.Spec u32 leS vnS str zero32 sha2 encT idT sizeT checkT grantB
theorem SlR.one1 {α:Type} {E:R α} {M:List Nat} {w:World} {b:Nat} {t:TypeId} {cs:List Value} {a:α} (h:At w b (.cells cs.toArray t (0,0))) (hr:E.rel M w cs a) (hb:b∉M):SlR E M w (.slice (some ⟨b,0,none⟩) 1 1) [a]:=
 ⟨[R.vec hr],SlE.new (E:=vecE E.k E.pos) (l:= [R.vec hr]) (t:=t) (by have e:(vecE E.k E.pos).flat [R.vec hr]=cs:=(by show cs++ []=cs;exact List.append_nil _);rw [e];exact h) rfl (Nat.le_refl _),.cons hr .nil,fun _ c hc hm=>by simp [blkOf] at hc;subst hc;exact hb hm⟩
end Go.Proofs.YtbidkcjendncaaaGreatDoor
end
section
namespace Go.Proofs.YtbidkcjendncaaaGreatDoor
open Go Go.K
attribute [local irreducible] regK codeK retK KOp.wp K.Spec u32 leS vnS str zero32 sha2 encT idT sizeT checkT grantB
section
variable {P:Program} {d:Option Tmp} {r:KR} {K:Env→World→Prop} {ρ:Env} {w:World}
theorem st_takeR {α:Type} {E:R α} {M:List Nat} {size:Nat} {x h:Operand} {v:Value} {l:List α} {kd:IntKind} {n:Nat} {m:Int} {w1:World} (hx:ev ρ x=v) (hh:ev ρ h=.int kd m) (hm:m=(n:Nat)) (hs:SlR E M w1 v l) (hn:n≤l.length) (hk:size=E.k)
  (k:∀v',SlR E M w1 v' (l.take n)→regK P r K (put ρ d v') w):regK P (.cons ⟨d,.sliceSl size x none (some h),none⟩ r) K ρ w:=by
 subst hm
 obtain ⟨css,h1,h2,h3⟩:=hs
 have hl:=h2.length
 refine st_takeE (E:=vecE E.k E.pos) hx hh h1 (by rw [hl];exact hn) hk fun v' h4 h5=>k v' ⟨css.take n,h4,?_,fun hp b hb=>h3 (by rw [List.length_take] at hp;omega) b (h5 b hb)⟩
 have:=h2.take n
 exact All2.take n h2
end
end Go.Proofs.YtbidkcjendncaaaGreatDoor
end
section
namespace Go.Proofs.YtbidkcjendncaaaGreatDoor
open Go Go.K
attribute [local irreducible] regK codeK retK KOp.wp K.Spec u32 leS vnS str zero32 sha2 encT idT sizeT checkT grantB spends
end Go.Proofs.YtbidkcjendncaaaGreatDoor
end
section
namespace Go.K
open Go Go.Proofs.YtbidkcjendncaaaGreatDoor
section
variable {l:List Ent} {t:Tx}
end
end Go.K
end
section
namespace Go.K
open Go Go.Proofs.YtbidkcjendncaaaGreatDoor
def byteAt (s:ByteArray) (i:Nat):Nat:=(s.data.toList.getD i 0).toNat
theorem byteAt_lt (s:ByteArray) (i:Nat):byteAt s i<256:=(s.data.toList.getD i 0).toNat_lt
def numAt (s:ByteArray) (a:Nat):Nat→Nat
 |0=>0
 |k+1=>byteAt s a+256*numAt s (a+1) k
theorem numAt_lt (s:ByteArray):∀(k a:Nat),numAt s a k<256^k
 |0,a=>by simp [numAt]
 |k+1,a=>by
  have h1:=byteAt_lt s a
  have h2:=numAt_lt s k (a+1)
  simp only [numAt,Nat.pow_succ];omega
theorem numAt_snoc (s:ByteArray):∀(k a:Nat),numAt s a (k+1)=numAt s a k+byteAt s (a+k)*256^k
 |0,a=>by simp [numAt]
 |k+1,a=>by
  rw [numAt,numAt_snoc s k (a+1),numAt,show a+1+k=a+(k+1) by omega,Nat.pow_succ,Nat.mul_add,Nat.add_assoc,Nat.mul_left_comm,Nat.mul_comm 256 (256^k)]
theorem numAt_two (s:ByteArray) (a:Nat):numAt s a 2=byteAt s a+256*byteAt s (a+1):=by simp [numAt]
structure Br where
 tag:Nat
 delay:Nat
 height:Nat
deriving DecidableEq
def brAt (s:ByteArray) (i:Nat):Br:=⟨numAt s (1+8*i) 2,numAt s (3+8*i) 2,numAt s (5+8*i) 4⟩
structure BrOk (b:Br):Prop where
 tag:b.tag<65536
 delay:b.delay<65536
 height:b.height<4294967296
theorem brAt_ok (s:ByteArray) (i:Nat):BrOk (brAt s i):=⟨numAt_lt s 2 _,numAt_lt s 2 _,numAt_lt s 4 _⟩
def brE:Enc Br:=⟨fun b=> [.int .u16 (b.tag:Nat),.int .u16 (b.delay:Nat),.int .u32 (b.height:Nat)],3,fun _=>rfl,by decide,by
 intro x v hv
 simp at hv
 rcases hv with rfl|rfl|rfl<;>rfl⟩
def lockN (s:ByteArray):Nat:=(s.size - 1) / 8
def lockForm (s:ByteArray):Bool:=(decide (s.size=9)||decide (s.size=17)||decide (s.size=25))&&decide (byteAt s 0=lockN s)
def brsL (s:ByteArray):List Br:=(List.range (lockN s)).map (brAt s)
def lowB (b:Br):Bool:=decide (b.height≤1000000)
def lockL (s:ByteArray):List Br:=if lockForm s&&(brsL s).all lowB then brsL s else []
def signL (l:List ByteArray):Option (Nat × Nat):=if l.length=1∧(l.headD default).size=3∧byteAt (l.headD default) 0<3 then some (byteAt (l.headD default) 0,numAt (l.headD default) 1 2) else none
def chosenB (s:ByteArray) (wit:List ByteArray):Option Br:=(signL wit).bind fun p=>((lockL s)[p.1]?).bind fun b=>if b.tag=0∨b.tag=p.2 then some b else none
def waitsT (t:Tx) (x:TIn):Int:=if x.q<2147483648∧t.ver≥2 then x.q%65536 else 0
def openE (s:ByteArray) (t:Tx) (x:TIn):Int:=match chosenB s x.wit with
 |none=>9
 |some b=>if waitsT t x<(b.delay:Int) then 10 else if b.height>0∧(t.lock<(b.height:Int)∨x.q=4294967295) then 10 else 0
def heightB (n:Int):Bool:=decide (0≤n∧n≤1000000)
def ripeB (t:Tx) (x:TIn) (coin block:Int):Bool:=heightB coin&&heightB block&&decide (coin+waitsT t x≤block)&&(decide (t.lock<block)||t.ins.all fun y=>decide (y.q=4294967295))
def inE (v:Pt→Option Cn) (t:Tx) (h:Int) (x:TIn):Int:=match v x.p with
 |none=>8
 |some c=>if openE c.s t x≠0 then openE c.s t x else if ripeB t x c.h h then 0 else 10
def inV (v:Pt→Option Cn) (x:TIn):Int:=((v x.p).getD cn0).v
def feeP (v:Pt→Option Cn) (t:Tx) (h:Int):Int × Int × Int:=
 if checkT t≠0 then (0,checkT t, -1) else if grantB t then (0,4, -1) else
 match t.ins.findIdx? fun x=>decide (inE v t h x≠0) with
 |some i=>(0,inE v t h (t.ins.getD i default),(i:Nat))
 |none=>if sumE (t.ins.map (inV v))≠0 then (0,sumE (t.ins.map (inV v)), -1) else
  if sumV (values t)>sumV (t.ins.map (inV v)) then (0,12, -1) else (sumV (t.ins.map (inV v)) - sumV (values t),0, -1)
end Go.K
end
