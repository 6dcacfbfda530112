/- Contracts: the document's transactions over coins. Plain: wh -/
import Derived.Test.YteceapipdhnhdaaGreatDoorRows
import Derived.Test.YteceapipdhnhdaaGreatDoorChecked
import Derived.ProofKit
import Derived.ShutString
import Derived.ChangeOld
import Derived.Below
import Derived.Test.YteceapipdhnhdaaGreatDoorNa36
set_option linter.unusedVariables false
set_option linter.unusedSimpArgs false
namespace Go.Proofs.YteceapipdhnhdaaGreatDoor
section
open Go Go.K
attribute [local irreducible] aH aM aY KOp.wp K.Spec u32 leS vnS str aP cM bK idT aQ aG aN idN
theorem bQ1 (b:UInt8) (m:Nat) (h:0<m):bM .rem (.int .u8 (b.toNat:Nat)) (.int .u8 (m:Nat))=some (.int .u8 ((UInt8.ofNat (b.toNat%m)).toNat:Nat)):=by
 have h1:=b.toNat_lt
 have h2:b.toNat%m≤b.toNat:=Nat.mod_le _ _
 have e:(UInt8.ofNat (b.toNat%m)).toNat=b.toNat%m:=by rw [UInt8.toNat_ofNat'];omega
 rw [aUz _ _ h,e]
theorem bR7 (b:UInt8) (m:Nat) (h:0<m):bM .quo (.int .u8 (b.toNat:Nat)) (.int .u8 (m:Nat))=some (.int .u8 ((UInt8.ofNat (b.toNat / m)).toNat:Nat)):=by
 have h1:=b.toNat_lt
 have h2:b.toNat / m≤b.toNat:=Nat.div_le_self _ _
 have e:(UInt8.ofNat (b.toNat / m)).toNat=b.toNat / m:=by
  rw [UInt8.toNat_ofNat']
  generalize b.toNat / m=q at h2 ⊢
  omega
 have hne:(m:Int)≠0:=by omega
 simp only [bM,dK,Bool.false_eq_true,if_false,if_true,dG]
 rw [if_neg hne,td,e]
 have hw:IntKind.u8.wrap ((b.toNat / m:Nat):Int)=((b.toNat / m:Nat):Int)%256:=rfl
 rw [hw]
 congr 2
 generalize b.toNat / m=q at h2 ⊢
 omega
theorem bO7 (a:Int) (m:Nat) (h:0<m) (ha: -9223372036854775808<a∧a<9223372036854775808):bM .quo (.int .i64 a) (.int .i64 (m:Nat))=some (.int .i64 (a.tdiv (m:Nat))):=by
 have hne:(m:Int)≠0:=by omega
 simp only [bM,dK,Bool.false_eq_true,if_false,if_true,dG]
 rw [if_neg hne]
 have hb: -9223372036854775808≤a.tdiv (m:Nat)∧a.tdiv (m:Nat)≤9223372036854775807:=by
  by_cases hn:0≤a
  ·obtain ⟨n,rfl⟩:=Int.eq_ofNat_of_zero_le hn
   rw [td]
   have:=Nat.div_le_self n m
   generalize n / m=q at this ⊢
   omega
  ·obtain ⟨n,hn2⟩:=Int.eq_ofNat_of_zero_le (show 0≤ -a by omega)
   have e:a= -((n:Nat):Int):=by omega
   rw [e,Int.neg_tdiv,td]
   have:=Nat.div_le_self n m
   generalize n / m=q at this ⊢
   omega
 rw [IntWalk.i64_in _ hb]
theorem bR9 (z:PSm):0≤aMw z∧aMw z<4294967296:=by
 unfold aMw
 split
 ·omega
 ·split<;>omega
abbrev zTx:List Value:= [.int .u32 0,.slice none 0 0,.slice none 0 0,.int .u32 0]
set_option maxHeartbeats 4000000 in
theorem bAg {M:List Nat} {v:Value} {cs:List Value} {V:List En} {z:PSm} {B:Int} (w:World) (hv:SlE cQ w v V) (hz:bSf.rel M w cs z) (hn:V.length≤1100000) (hV:∀e∈V,0≤e.2.v∧e.2.v≤B) (hB:0≤B∧B≤1000000000000000) (hi:∀e∈V,fN e.1.i) (hM:∀b∈M,b<w.heap.size):
  K.Spec Tryz.prog F.kedgeref17_Make [v,.agg cs.toArray] w fun r w'=>∃cs',r=.agg cs'.toArray∧txO w.heap.size M w' cs' (aBh V z)∧Ext w w':=by
 obtain ⟨fv,rfl,hfr,hf1,hf2⟩:=hz
 have hsum:∀i,0≤(((z.spends.take 4).take i).map (xO V)).sum∧(((z.spends.take 4).take i).map (xO V)).sum≤4000000000000000:=fun i=>by
  have h:=aLa hB.1 hV ((z.spends.take 4).take i)
  have h2:((z.spends.take 4).take i).length≤4:=by rw [List.length_take,List.length_take];omega
  refine ⟨h.1,Int.le_trans h.2 ?_⟩
  have:B*(((z.spends.take 4).take i).length:Nat)≤B*4:=Int.mul_le_mul_of_nonneg_left (by omega) hB.1
  omega
 have hseq:=bR9 z
 refine aH3 rfl ?_
 unfold vZ
 refine oy ?_
 refine goR ?_
 refine zD rfl rfl (fun bp wp xp ap rp hp0=>?_)
 refine goR ?_
 refine zH (fun b4 w4 x4 a4 hb4=>?_)
 repeat (first|refine dF (d:=some 16) rfl rfl (aUz z.mark.toNat 3 (by decide)) ?_|refine aL (d:=some 17) (.int .u32 ((z.mark.toNat%3:Nat):Int)) rfl (congrArg (fun n=>some (Value.int .u32 n)) (by have:=z.mark.toNat_lt;rw [wrap32];omega)) ?_|(first|refine go2 ?_|fail))
 refine zE (fun _=>rfl) rfl rfl rfl (fun b5 w5 x5 a5 r5 hb5=>?_)
 have lp:=ap.lt
 have l4:=a4.lt
 have l5:=a5.lt
 have sp:=xp.size
 have s4:=x4.size
 have s5:=x5.size
 obtain ⟨M1,hM1⟩:∃M1,M1= [b4,b5]++M:=⟨_,rfl⟩
 have hM1b:∀b∈M1,b<w5.heap.size:=by
  intro y hy;rw [hM1] at hy;simp at hy
  rcases hy with h|h|h
  ·omega
  ·omega
  ·have:=hM y h;omega
 have m4:b4∈M1:=by rw [hM1];simp
 have m5:b5∈M1:=by rw [hM1];simp
 have mM:∀b∈M,b∈M1:=by intro y hy;rw [hM1];simp [hy]
 have a4':At w5 b4 (.cells zTx.toArray T.api_Tx (0,0)):=At.ext x5 a4
 have a5':At w5 b5 (.cells [Value.int .u32 2,.slice none 0 0,.slice none 0 0,.int .u32 ((z.mark.toNat%3:Nat):Int)].toArray T.api_Tx (0,0)):=a5
 have ap':At w5 bp (.cells (aHp z fv).toArray T.kedgeref17_Small (0,0)):=At.ext x5 (At.ext x4 ap)
 have xw:Unit→Ext w w5:=fun _=>(xp.trans x4).trans x5
 have h40:(z.spends.take 4).length=min 4 z.spends.length:=List.length_take
 repeat' (first|refine dF (d:=some 32) rfl rfl (bQ1 z.tag 3 (by decide)) ?_|refine dF (d:=some 97) rfl rfl (aUz z.pays.toNat 3 (by decide)) ?_|refine aL (d:=some 98) (.int .i64 ((z.pays.toNat%3:Nat):Int)) rfl (congrArg (fun n=>some (Value.int .i64 n)) (vG (by omega))) ?_|refine aL (d:=some 99) (.int .i64 ((1+z.pays.toNat%3:Nat):Int)) rfl (congrArg (fun n=>some (Value.int .i64 n)) (IntWalk.i64_in _ (by omega))) ?_|refine aL (d:=some 103) (.int .i64 z.fee) rfl (congrArg (fun n=>some (Value.int .i64 n)) (IntWalk.i64_in _ (by omega))) ?_|(first|refine go2 ?_|fail)|refine zJ rfl (fun h=>?_) (fun h=>?_)|refine zL rfl (fun h=>?_) (fun h=>?_)|refine zG (E:=u8R) (M:=M) rfl (SlR.ext (w:=w) hfr (by exact fx)) ?_|(refine aJ (fun (p:Nat × Value) w'=>Ext w w'∧w5.heap.size≤w'.heap.size∧At w' bp (.cells (aHp z fv).toArray T.kedgeref17_Small (0,0))∧p.1≤z.spends.length∧p.1≤4∧At w' b4 (.cells zTx.toArray T.api_Tx (0,0))∧At w' b5 (.cells [Value.int .u32 2,p.2,.slice none 0 0,.int .u32 ((z.mark.toNat%3:Nat):Int)].toArray T.api_Tx (0,0))∧bH inR T.api_In w5.heap.size M1 w' p.2 (((z.spends.take 4).take p.1).map (inP V z))) (fun p=> [(0,v),(3,.pointer (some ⟨bp,0,none⟩)),(4,.pointer (some ⟨b4,0,none⟩)),(5,.pointer (some ⟨b5,0,none⟩)),(6,.int .i64 (((z.spends.take 4).take p.1).map (xO V)).sum),(7,.int .i64 p.1)]) (fun p=>4 - p.1) (0,.slice none 0 0) ⟨rfl,rfl,rfl,rfl,rfl,rfl,trivial⟩ ⟨xw (),Nat.le_refl _,ap',by simp,by simp,a4',a5',bH.nil _ _ _ _⟩ ?_;rintro ⟨i,vi⟩ ρ w6 ⟨x6,s56,q3,hi1,hi2,q4,q5,o1⟩;simp only at hi1 hi2 q5 o1;dsimp only;have q3r:=Row.of_at q3;have hsi:=hsum i))
 ·have hif:i<z.spends.length:=by omega
  have hi4:i<(z.spends.take 4).length:=by omega
  have hgi:(z.spends.take 4)[i]=z.spends[i]:=List.getElem_take
  have q5r:Row w6 ⟨b5,0,none⟩ [Value.int .u32 2,vi,.slice none 0 0,.int .u32 ((z.mark.toNat%3:Nat):Int)]:=Row.of_at q5
  have x56:Unit→Ext w w6:=fun _=>x6
  clear x6
  have hsi1:=hsum (i+1)
  rw [List.take_succ_eq_append_getElem hi4,List.map_append,List.sum_append,hgi,List.map_cons,List.map_nil,List.sum_cons,List.sum_nil,Int.add_zero] at hsi1
  have hv6:=hv.ext (x56 ())
  have hfr6:=hfr.ext (x56 ())
  obtain ⟨s,hs⟩:∃s,s=z.spends[i]:=⟨_,rfl⟩
  rw [←hs] at hsi1 hgi
  repeat (first|refine dF (d:=some 32) rfl rfl (bQ1 z.tag 3 (by decide)) ?_|refine zI (d:=some 33) rfl (fun b33 w7 x7 a33 hb33=>?_)|refine aAh (d:=some 34) (l:= [0,UInt8.ofNat (z.tag.toNat%3),0]) rfl (SlE.new (E:=u8E) a33 rfl (Nat.le_refl _)) ?_|refine zI (d:=some 35) (cs:= [.string (aVo z)]) rfl (fun b35 w8 x8 a35 hb35=>?_)|refine aZ (d:=some 36) (cs:=fS ⟨⟨⟨#[]⟩,0⟩,4294967293, []⟩ (.slice (some ⟨b35,0,none⟩) 1 1)) rfl ?_|(refine zE (d':=8) (fun _=>rfl) rfl rfl rfl (fun b8 w9 x9 a8 (r8:Row w9 ⟨b8,0,none⟩ (fS ⟨⟨⟨#[]⟩,0⟩,4294967293, []⟩ (.slice (some ⟨b35,0,none⟩) 1 1))) hb8=>?_))|(refine aR (d:=some 40) (E:=u8R) (M:=M) rfl rfl (n:=i) (l:=z.spends) (hfr6.ext (by exact fx)) rfl hif (fun ad cs r7 he=>?_);subst he)|refine aL (d:=some 42) (.int .i64 (z.spends[i].toNat:Nat)) rfl (congrArg (fun n=>some (Value.int .i64 n)) (wrap_u8 z.spends[i])) ?_|(refine zC (d:=some 43) rfl (bJx z.spends[i].toNat _) ?_;rintro _ w10 ⟨rfl,x10⟩)|(first|refine go2 ?_|fail))
  rw [←hs]
  have l35:=a35.lt
  have s9:=x9.size
  have s10:=x10.size
  have s69:w6.heap.size≤b8:=nTr (x7.size) (nTr x8.size hb8)
  have x610:Unit→Ext w6 w10:=fun _=>x7.trans (x8.trans (x9.trans x10))
  obtain ⟨wv,hwv⟩:∃wv,wv=Value.slice (some ⟨b35,0,none⟩) 1 1:=⟨_,rfl⟩
  have hw10:SlE bB w10 wv [aVo z]:=by rw [hwv];exact SlE.new (E:=bB) (At.ext x10 (At.ext x9 a35)) rfl (Nat.le_refl _)
  have hbw:∀b∈aC wv,b≠b8∧w6.heap.size≤b:=by
   rw [hwv];intro b hb;simp [aC] at hb;subst hb
   have:=x7.size
   omega
  rw [←hwv] at r8 a8
  have h1w:wv.oneCell'=true:=by rw [hwv];rfl
  clear a35 a33 r8 r7
  refine bC (b:=b8) (o:=0) (cur:=fS ⟨⟨⟨#[]⟩,0⟩,4294967293, []⟩ wv) rfl rfl rfl (At.ext x10 a8) (Nat.le_of_ble_eq_true rfl) (fun w11 c11 a11=>?_)
  have x611:Unit→Ext w6 w11:=fun _=>(Ext.chg (x610 ()) c11).mono (by intro y hy;simp at hy;right;omega)
  have s11:=c11.size
  have a11:At w11 b8 (.cells (fS ⟨⟨idN s.toNat,0⟩,4294967293, []⟩ wv).toArray T.api_In (0,0)):=a11
  have hw11:SlE bB w11 wv [aVo z]:=hw10.chg c11 (fun a m c e hm=>by simp at hm;exact (hbw a.block (by rw [e];simp [aC])).1 hm)
  clear x7 x8 x9 x10 a8 hw10 x610 c11
  have hfr11:=hfr6.ext (x611 ())
  have hv11:=hv6.ext (x611 ())
  have q11:Row w11 ⟨bp,0,none⟩ (aHp z fv):=Row.ext (x611 ()) q3r
  have r11:Row w11 ⟨b8,0,none⟩ _:=Row.of_at a11
  apply z1
  refine rH (a:=.seq (.reg false (.cons ⟨some 46,_,none⟩ _)) _) (fun (_:Unit) w'=>Ext w6 w'∧At w' b8 (.cells (fS ⟨ptP V s,4294967293, []⟩ wv).toArray T.api_In (0,0))∧SlE bB w' wv [aVo z]) (fun _=> [(0,v),(3,.pointer (some ⟨bp,0,none⟩)),(4,.pointer (some ⟨b4,0,none⟩)),(5,.pointer (some ⟨b5,0,none⟩)),(6,.int .i64 ((((z.spends.take 4).take i).map (xO V)).sum+xO V s)),(7,.int .i64 i),(8,.pointer (some ⟨b8,0,none⟩))]) ?_ ?_
  ·have hno:(¬(s.toNat<250∧0<V.length))→aE5 V s=none:=fun h=>by unfold aE5;rw [if_neg h]
   repeat' (first|(refine aR (d:=some 49) (E:=u8R) (M:=M) rfl rfl (n:=i) (l:=z.spends) hfr11 rfl hif (fun ad cs r7 he=>?_);subst he;rw [←hs] at r7)|refine bL (d:=some 54) rfl hv11 ?_|(refine aR (d:=some 61) (E:=u8R) (M:=M) rfl rfl (n:=i) (l:=z.spends) hfr11 rfl hif (fun ad8 cs8 r17 he=>?_);subst he;rw [←hs] at r17)|refine aL (d:=some 63) (.int .i64 (s.toNat:Nat)) rfl (congrArg (fun n=>some (Value.int .i64 n)) (wrap_u8 s)) ?_|refine bL (d:=some 65) rfl hv11 ?_|refine aN5 (d:=some 66) (n:=s.toNat) (m:=V.length) rfl rfl (by omega) ?_|(have h9:=Nat.mod_lt s.toNat (show 0<V.length by omega);have hpk:aE5 V s=some V[s.toNat%V.length]:=(by unfold aE5;rw [if_pos ⟨by omega,by omega⟩,List.getElem?_eq_getElem h9]);generalize s.toNat%V.length=n9 at h9 hpk ⊢;refine aT (d:=some 67) (E:=cQ) rfl rfl (n:=n9) (l:=V) hv11 rfl h9 (fun ad9 r9=>?_))|refine zE (d':=9) (fun _=>rfl) rfl rfl rfl (fun b9 w12 x12 a12 (r12:Row w12 ⟨b9,0,none⟩ (cQ.f V[n9])) hb9=>?_)|(refine sO (b:=b8) (o:=0) (cur:=fS ⟨⟨idN s.toNat,0⟩,4294967293, []⟩ wv) (vs:=(V[n9].1).cs) rfl rfl rfl (by intro x hx;simp [Pt.cs] at hx;rcases hx with rfl|rfl<;>rfl) (At.ext x12 a11) (Nat.le_of_ble_eq_true rfl) (fun w13 c13 a13=>?_);have r13:Row w13 ⟨b9,0,none⟩ (cQ.f V[n9]):=Row.of_at (At.chg c13 a12 (by have:=a11.lt;simp;omega));have hv9:xO V s=V[n9].2.v:=(by unfold xO;rw [hpk]);have hp9:ptP V s=V[n9].1:=(by unfold ptP;rw [hpk]);rw [hv9] at hsi1)|(first|refine go2 ?_|fail)|refine zJ rfl (fun h=>?_) (fun h=>?_)|refine zL rfl (fun h=>?_) (fun h=>?_))
   ·exact ⟨(),⟨rfl,rfl,rfl,rfl,congrArg (Value.int .i64) (by rw [hv9]),rfl,rfl,trivial⟩,(Ext.chg ((x611 ()).trans x12) c13).mono (by intro y hy;simp at hy;right;omega),by rw [hp9];exact a13,(hw11.ext x12).chg c13 (fun a m c e hm=>by simp at hm;exact (hbw a.block (by rw [e];simp [aC])).1 hm)⟩
   all_goals
    have hpn:=hno (by omega)
    have hv9:xO V s=0:=by unfold xO;rw [hpn]
    have hp9:ptP V s=⟨idN s.toNat,0⟩:=by unfold ptP;rw [hpn]
    exact ⟨(),⟨rfl,rfl,rfl,rfl,congrArg (Value.int .i64) (by rw [hv9,Int.add_zero]),rfl,rfl,trivial⟩,x611 (),by rw [hp9];exact a11,hw11⟩
  clear q11 r11 a11 hw11 hfr11 hv11 x611 s11
  rintro _ ρ w12 ⟨x612,a12,hw12⟩
  have q12:Row w12 ⟨bp,0,none⟩ (aHp z fv):=Row.ext x612 q3r
  have x612':Unit→Ext w6 w12:=fun _=>x612
  clear x612
  refine rH (a:=.seq (.reg false (.cons ⟨some 78,_,none⟩ _)) _) (fun (_:Unit) w'=>Ext w6 w'∧At w' b8 (.cells (fS ⟨ptP V s,if z.final then 4294967294 else 4294967293, []⟩ wv).toArray T.api_In (0,0))∧SlE bB w' wv [aVo z]) (fun _=> [(0,v),(3,.pointer (some ⟨bp,0,none⟩)),(4,.pointer (some ⟨b4,0,none⟩)),(5,.pointer (some ⟨b5,0,none⟩)),(6,.int .i64 ((((z.spends.take 4).take i).map (xO V)).sum+xO V s)),(7,.int .i64 i),(8,.pointer (some ⟨b8,0,none⟩))]) ?_ ?_
  ·repeat' (first|refine bC (b:=b8) (o:=2) (cur:=fS ⟨ptP V s,4294967293, []⟩ wv) rfl rfl rfl a12 (Nat.le_of_ble_eq_true rfl) (fun w13 c13 a13=>?_)|(first|refine go2 ?_|fail)|refine zM rfl (fun h=>?_) (fun h=>?_))
   ·exact ⟨(),⟨rfl,rfl,rfl,rfl,rfl,rfl,rfl,trivial⟩,(Ext.chg (x612' ()) c13).mono (by intro y hy;simp at hy;right;omega),by rw [if_pos h];exact a13,hw12.chg c13 (fun a m c e hm=>by simp at hm;exact (hbw a.block (by rw [e];simp [aC])).1 hm)⟩
   ·exact ⟨(),⟨rfl,rfl,rfl,rfl,rfl,rfl,rfl,trivial⟩,x612' (),by rw [if_neg (by rw [h];decide)];exact a12,hw12⟩
  clear q12 a12 hw12 x612'
  clear ρ w12
  rintro _ ρ w12 ⟨x612,a12,hw12⟩
  have q12:Row w12 ⟨bp,0,none⟩ (aHp z fv):=Row.ext x612 q3r
  have x612':Unit→Ext w6 w12:=fun _=>x612
  clear x612
  have hwt:=z.wait.toNat_lt
  refine rH (a:=.seq (.reg false (.cons ⟨some 81,_,none⟩ _)) _) (fun (_:Unit) w'=>Ext w6 w'∧At w' b8 (.cells (fS ⟨ptP V s,aMw z, []⟩ wv).toArray T.api_In (0,0))∧SlE bB w' wv [aVo z]) (fun _=> [(0,v),(3,.pointer (some ⟨bp,0,none⟩)),(4,.pointer (some ⟨b4,0,none⟩)),(5,.pointer (some ⟨b5,0,none⟩)),(6,.int .i64 ((((z.spends.take 4).take i).map (xO V)).sum+xO V s)),(7,.int .i64 i),(8,.pointer (some ⟨b8,0,none⟩))]) ?_ ?_
  ·repeat' (first|refine dF (d:=some 86) rfl rfl (aUz z.wait.toNat 8 (by decide)) ?_|refine aL (d:=some 87) (.int .u32 ((z.wait.toNat%8:Nat):Int)) rfl (congrArg (fun n=>some (Value.int .u32 n)) (by rw [wrap32];omega)) ?_|refine bC (b:=b8) (o:=2) (cur:=fS ⟨ptP V s,if z.final then 4294967294 else 4294967293, []⟩ wv) rfl rfl rfl a12 (Nat.le_of_ble_eq_true rfl) (fun w13 c13 a13=>?_)|(first|refine go2 ?_|fail)|refine zL rfl (fun h=>?_) (fun h=>?_))
   ·have e:aMw z=((z.wait.toNat%8:Nat):Int):=by unfold aMw;rw [if_pos (by omega)]
    exact ⟨(),⟨rfl,rfl,rfl,rfl,rfl,rfl,rfl,trivial⟩,(Ext.chg (x612' ()) c13).mono (by intro y hy;simp at hy;right;omega),by rw [e];exact a13,hw12.chg c13 (fun a m c e hm=>by simp at hm;exact (hbw a.block (by rw [e];simp [aC])).1 hm)⟩
   ·have e:aMw z=if z.final then 4294967294 else 4294967293:=by unfold aMw;rw [if_neg (by omega)]
    exact ⟨(),⟨rfl,rfl,rfl,rfl,rfl,rfl,rfl,trivial⟩,x612' (),by rw [e];exact a12,hw12⟩
  clear q12 a12 hw12 x612'
  clear ρ w12
  rintro _ ρ w12 ⟨x612,a12,hw12⟩
  have r12:Row w12 ⟨b8,0,none⟩ (fS ⟨ptP V s,aMw z, []⟩ wv):=Row.of_at a12
  have q512:Row w12 ⟨b5,0,none⟩ [Value.int .u32 2,vi,.slice none 0 0,.int .u32 ((z.mark.toNat%3:Nat):Int)]:=Row.ext x612 q5r
  have o12:=o1.ext x612
  have s612:=x612.size
  have hpi:=bLm hi s
  have hLen:(((z.spends.take 4).take i).map (inP V z)).length≤4:=by rw [List.length_map,List.length_take,List.length_take];omega
  have hsl:SlR nM (aC vi++M1) w12 wv [aVo z]:=SlE.toR hw12 (fun b hb hm=>by
   have h1:=(hbw b hb).2
   rcases List.mem_append.1 hm with h2|h2
   ·have:=o1.lt b h2;omega
   ·have:=hM1b b h2;omega)
  repeat' (first|refine zI (d:=some 92) (cs:=fS ⟨ptP V s,aMw z, []⟩ wv) rfl (fun b w13 x13 a13 hb=>?_)|refine eM (d:=some 93) (E:=inR) (M:=M1) (v:=vi) (cs:=fS ⟨ptP V s,aMw z, []⟩ wv) (a:=inP V z s) rfl rfl (o12.ext x13) (by have:=x13.size;omega) rfl rfl a13 ⟨wv,rfl,hsl.ext x13,hpi,hseq⟩ (by omega) (fun v14 w14 o14 c14 hb14=>?_)|(first|refine go2 ?_|fail))
  have g1:=o1.base
  have l1:=o1.lt
  have h4v:b4∉aC vi:=fun h=>by have:=g1 _ h;omega
  have h5v:b5∉aC vi:=fun h=>by have:=g1 _ h;omega
  have hpv:bp∉aC vi:=fun h=>by have:=g1 _ h;omega
  have x613:=x612.trans x13
  have q3':=At.chg c14 (q3.ext x613) hpv
  have q4':=At.chg c14 (q4.ext x613) h4v
  have q5':=At.chg c14 (q5.ext x613) h5v
  have l14:=o14.lt
  have g14:=o14.base
  have hone:=o14.one
  refine bC (d:=none) (b:=b5) (o:=1) (cur:= [Value.int .u32 2,vi,.slice none 0 0,.int .u32 ((z.mark.toNat%3:Nat):Int)]) rfl rfl hone q5' (Nat.le_of_ble_eq_true rfl) (fun w15 c15 a15=>?_)
  have h5w:b5∉aC v14:=fun h=>by have:=g14 _ h;omega
  have o15:=o14.step c15 (M':=M1) (by intro y hy;simp at hy;subst hy;exact ⟨h5w,.inl m5⟩) (fun _ h=>.inl h)
  have s14:=c14.size
  have s15:=c15.size
  have x015:Ext w w15:=(Ext.chg ((x56 ()).trans x613) (c14.trans c15)).mono (by
   intro y hy
   rcases List.mem_append.1 hy with h|h
   ·have:=g1 _ h;right;omega
   ·simp at h;right;omega)
  have s013:=x613.size
  clear x612 x13 x613
  repeat (first|refine go2 ?_|fail)
  refine ⟨(i+1,v14),⟨rfl,rfl,rfl,rfl,congrArg (Value.int .i64) ?_,rfl,trivial⟩,⟨x015,by omega,At.chg c15 q3' (by simp;omega),by omega,by omega,At.chg c15 q4' (by simp;omega),a15,?_⟩,by simp;omega⟩
  ·rw [List.take_succ_eq_append_getElem hi4,List.map_append,List.sum_append,hgi,List.map_cons,List.map_nil,List.sum_cons,List.sum_nil,Int.add_zero]
  ·rw [List.take_succ_eq_append_getElem hi4,List.map_append,hgi];exact o15
 all_goals
  have e4:(z.spends.take 4).take i=z.spends.take 4:=tLe (by omega)
  rw [e4] at o1 hsi
  have hI0:=o1.base
  have hI1:=o1.lt
  have hp8:z.pays.toNat%3<3:=Nat.mod_lt _ (by decide)
  obtain ⟨n,hn0⟩:∃n,n=1+z.pays.toNat%3:=⟨_,rfl⟩
  rw [←hn0]
  have hL0:bC4 V z=((z.spends.take 4).map (xO V)).sum:=rfl
  have x6':Unit→Ext w w6:=fun _=>x6
  clear xw x6
  refine aJ (fun (p:Nat × Int × Value × List TOut) w'=>Ext w w'∧w6.heap.size≤w'.heap.size∧At w' bp (.cells (aHp z fv).toArray T.kedgeref17_Small (0,0))∧p.1≤n∧p.2.2.2.length=p.1∧p.2.2.2++xF (aM4 z) (n - p.1) p.2.1=xF (aM4 z) n (bC4 V z - z.fee)∧(-100000≤p.2.1∧p.2.1≤4000000000000000)∧At w' b4 (.cells zTx.toArray T.api_Tx (0,0))∧At w' b5 (.cells [Value.int .u32 2,vi,p.2.2.1,.int .u32 ((z.mark.toNat%3:Nat):Int)].toArray T.api_Tx (0,0))∧bH inR T.api_In w5.heap.size (aC p.2.2.1++M1) w' vi ((z.spends.take 4).map (inP V z))∧bH gF T.api_Out w6.heap.size (aC vi++M1) w' p.2.2.1 p.2.2.2) (fun p=> [(3,.pointer (some ⟨bp,0,none⟩)),(4,.pointer (some ⟨b4,0,none⟩)),(5,.pointer (some ⟨b5,0,none⟩)),(10,.int .i64 (n:Nat)),(11,.int .i64 p.2.1),(12,.int .i64 p.1)]) (fun p=>n - p.1) (0,bC4 V z - z.fee,.slice none 0 0, []) ⟨rfl,rfl,rfl,rfl,congrArg (Value.int .i64) (by rw [e4];rfl),rfl,trivial⟩ ⟨x6' (),Nat.le_refl _,q3,by simp,rfl,by simp,⟨by show -100000≤bC4 V z - z.fee;omega,by show bC4 V z - z.fee≤_;omega⟩,q4,q5,o1,bH.nil _ _ _ _⟩ ?_
  clear q3 q3r q4 q5 o1
  clear ρ h
  rintro ⟨k,left,vo,O⟩ ρ7 w7 ⟨x7,s67,t3,hk1,hO,hOP,hlb,t4,t5,u1,u2⟩
  simp only at hk1 hO hOP hlb t5 u1 u2
  dsimp only
  have t3r:=Row.of_at t3
  have t5r:Row w7 ⟨b5,0,none⟩ [Value.int .u32 2,vi,vo,.int .u32 ((z.mark.toNat%3:Nat):Int)]:=Row.of_at t5
  have x7':Unit→Ext w w7:=fun _=>x7
  clear x7
  repeat' (first|refine aL (d:=some 113) (.int .i64 ((n - k:Nat):Int)) rfl (congrArg (fun n=>some (Value.int .i64 n)) (by rw [IntWalk.i64_in _ (by omega)];omega)) ?_|refine dF (d:=some 114) rfl rfl (bO7 left (n - k) (by omega) (by omega)) ?_|(have hcb:=bB9 (left:=left) (k:=n - k) (by omega) hlb.1 hlb.2 (by decide);refine rH (a:=.seq (.reg false (.cons ⟨some 115,_,none⟩ _)) _) (fun (_:Unit) w'=>w'=w7) (fun _=> [(3,.pointer (some ⟨bp,0,none⟩)),(4,.pointer (some ⟨b4,0,none⟩)),(5,.pointer (some ⟨b5,0,none⟩)),(10,.int .i64 (n:Nat)),(11,.int .i64 left),(12,.int .i64 k),(13,.int .i64 (aKq left (n - k)))]) ?_ ?_)|refine zL (x:=.tmp 107) (p:=((k:Nat):Int)<((n:Nat):Int)) rfl (fun h=>?_) (fun h=>?_)|(first|refine go2 ?_|fail))
  ·refine zL (p:=left.tdiv ((n - k:Nat):Int)<0) rfl (fun h2=>?_) (fun h2=>?_)
   ·repeat' (first|refine go2 ?_|fail)
    exact ⟨(),⟨rfl,rfl,rfl,rfl,rfl,rfl,congrArg (Value.int .i64) (by unfold aKq;rw [if_pos h2]),trivial⟩,rfl⟩
   ·repeat' (first|refine go2 ?_|fail)
    exact ⟨(),⟨rfl,rfl,rfl,rfl,rfl,rfl,congrArg (Value.int .i64) (by unfold aKq;rw [if_neg h2]),trivial⟩,rfl⟩
  ·rintro _ ρ8 w8 rfl
   have hstep:xF (aM4 z) (n - k) left=⟨aKq left (n - k),aM4 z⟩::xF (aM4 z) (n - (k+1)) (left - aKq left (n - k)):=by
    have:n - k=(n - (k+1))+1:=by omega
    rw [this];rfl
   rw [hstep] at hOP
   generalize hcut:aKq left (n - k)=cv at hcb hOP ⊢
   have hz1:(str [UInt8.ofNat (z.pays.toNat / 64)]).size=1:=jF _
   have hz3:(⟨#[1,1,0]⟩:ByteArray).size=3:=rfl
   have hz5:(⟨#[0,0,0,0,0]⟩:ByteArray).size=5:=rfl
   have hz2:((⟨#[1,1,0]⟩:ByteArray)++str [UInt8.ofNat (z.pays.toNat / 64)]).size=4:=by rw [ByteArray.size_append,hz1,hz3]
   repeat' (first|refine dF (d:=some 125) rfl rfl (bR7 z.pays 64 (by decide)) ?_|refine zI (d:=some 126) rfl (fun b26 w9 x9 a26 hb26=>?_)|refine aAh (d:=some 127) (l:= [UInt8.ofNat (z.pays.toNat / 64)]) rfl (SlE.new (E:=u8E) a26 rfl (Nat.le_refl _)) ?_|refine lK (d:=some 128) rfl rfl (by rw [hz1,hz3];decide) ?_|refine lK (d:=some 129) rfl rfl (by rw [hz2,hz5];decide) ?_|refine aZ (d:=some 130) (cs:=gI ⟨cv,aM4 z⟩) rfl ?_|refine zI (d:=some 131) (cs:=gI ⟨cv,aM4 z⟩) rfl (fun b w10 x10 a10 hb=>?_)|(refine eM (d:=some 132) (E:=gF) (M:=aC vi++M1) (v:=vo) (cs:=gI ⟨cv,aM4 z⟩) (a:=⟨cv,aM4 z⟩) rfl rfl ((u2.ext x9).ext x10) (by have:=x9.size;have:=x10.size;omega) rfl rfl a10 ⟨rfl,by show rT cv;unfold rT;omega⟩ (by omega) (fun v11 w11 o11 c11 hb11=>?_))|(first|refine go2 ?_|fail))
   have g2:=u2.base
   have l2:=u2.lt
   have x710:=x9.trans x10
   have s710:=x710.size
   have h3o:bp∉aC vo:=fun h=>by have:=g2 _ h;have:=t3.lt;have:=x9.size;omega
   have h4o:b4∉aC vo:=fun h=>by have:=g2 _ h;omega
   have h5o:b5∉aC vo:=fun h=>by have:=g2 _ h;omega
   have hvo:∀b∈aC vo,b∉aC vi:=fun b h h'=>by have:=g2 _ h;have:=hI1 _ h';omega
   have u1':=(u1.ext x710).step c11 (M':=aC v11++M1) (fun b h=>⟨hvo b h,.inl (by simp [h])⟩) (fun b h=>by
    rcases List.mem_append.1 h with h|h
    ·rcases hb11 b h with h|h
     ·exact .inl (by simp [h])
     ·exact .inr h
    ·exact .inl (by simp [h]))
   have t3':=At.chg c11 (t3.ext x710) h3o
   have t4':=At.chg c11 (t4.ext x710) h4o
   have t5':=At.chg c11 (t5.ext x710) h5o
   have g11:=o11.base
   have s11:=c11.size
   have xwx:Unit→Chg (aC vo) w w11:=fun _=>Ext.chg ((x7' ()).trans x710) c11
   clear x9 x10 x710
   refine bC (d:=none) (b:=b5) (o:=2) (cur:= [Value.int .u32 2,vi,vo,.int .u32 ((z.mark.toNat%3:Nat):Int)]) rfl rfl o11.one t5' (Nat.le_of_ble_eq_true rfl) (fun w12 c12 a12=>?_)
   have h5v:b5∉aC vi:=fun h=>by have:=hI0 _ h;omega
   have h5w:b5∉aC v11:=fun h=>by have:=g11 _ h;omega
   have u12:=u1'.step c12 (M':=aC v11++M1) (by intro y hy;simp at hy;subst hy;exact ⟨h5v,.inl (by simp [m5])⟩) (fun _ h=>.inl h)
   have o12:=o11.step c12 (M':=aC vi++M1) (by intro y hy;simp at hy;subst hy;exact ⟨h5w,.inl (by simp [m5])⟩) (fun _ h=>.inl h)
   have s12:=c12.size
   have x12:Unit→Ext w w12:=fun _=>((xwx ()).trans c12).mono (by
    intro y hy
    rcases List.mem_append.1 hy with h|h
    ·have:=g2 _ h;right;omega
    ·simp at h;right;omega)
   repeat (first|refine go2 ?_|fail)
   exact ⟨(k+1,left - cv,v11,O++ [⟨cv,aM4 z⟩]),⟨rfl,rfl,rfl,rfl,rfl,rfl,trivial⟩,⟨x12 (),by omega,At.chg c12 t3' (by simp;omega),by omega,by simp;omega,by simp only [List.append_assoc,List.singleton_append];exact hOP,by simp only;omega,At.chg c12 t4' (by simp;omega),a12,u12,o12⟩,by simp;omega⟩
  ·have hkn:k=n:=by omega
   subst hkn
   rw [Nat.sub_self] at hOP
   have hOP:O=xF (aM4 z) k (bC4 V z - z.fee):=by rw [←hOP];simp [xF]
   repeat' (first|refine go2 ?_|fail)
   refine aW (w0:=w) (vs:= [Value.int .u32 2,vi,vo,.int .u32 ((z.mark.toNat%3:Nat):Int)]) (x7' ()) (by omega) t4 rfl rfl rfl rfl ?_ (fun w12 x12 c12 a12 r12=>?_)
   ·have e1:=u1.one
    have e2:=u2.one
    simp [e1,e2];exact ⟨rfl,rfl⟩
   repeat (first|refine go2 ?_|fail)
   have g2:=u2.base
   have h4i:b4∉aC vi:=fun h=>by have:=hI0 _ h;omega
   have h4o:b4∉aC vo:=fun h=>by have:=g2 _ h;omega
   have p1:=(u1.step (M':=M1) c12 (by intro y hy;simp at hy;subst hy;exact ⟨h4i,.inl (by simp [m4])⟩) (fun _ h=>.inl (by simp [h]))).sub (M':=M) (fun b hb=>.inl (mM b hb))
   have p2:=(u2.step (M':=M1) c12 (by intro y hy;simp at hy;subst hy;exact ⟨h4o,.inl (by simp [m4])⟩) (fun _ h=>.inl (by simp [h]))).sub (M':=M) (fun b hb=>.inl (mM b hb))
   have hm3:fN ((z.mark.toNat%3:Nat):Int):=by have:=Nat.mod_lt z.mark.toNat (show 0<3 by decide);unfold fN;omega
   refine aA (aEo (bA r12 rfl rfl)) ⟨_,rfl,⟨vi,vo,rfl,p1.lower (by omega),?_,⟨by show (0:Int)≤2;decide,by show (2:Int)<4294967296;decide⟩,hm3⟩,x12⟩
   have e:(aBh V z).outs=O:=by rw [hOP,hn0];rfl
   rw [e]
   exact p2.lower (by omega)
end
end Go.Proofs.YteceapipdhnhdaaGreatDoor
namespace Go.K
section
open Go Go.Proofs.YteceapipdhnhdaaGreatDoor
section
variable {m:List En} {t:Tx} {i:Nat} {h:Int}
end
section
variable {l0:List En} {h:Int}
theorem aXn {t:Tx} {ts:List Tx} {i:Nat} {m:List En} (h0:(kG l0 h i (t::ts) m).2.1=0):(gG m t i h).2.1=0∧kG l0 h i (t::ts) m=kG l0 h (i+1) ts (gG m t i h).1:=by
 rw [kG] at*
 by_cases h1:(gG m t i h).2.1≠0
 ·rw [if_pos h1] at h0;exact absurd h0 h1
 ·rw [if_neg h1];exact ⟨by simpa using h1,rfl⟩
end
end
end Go.K
namespace Go.Proofs.YteceapipdhnhdaaGreatDoor
section
open Go Go.K Go.ChangeShapes Go.WideShapes Go.ChangeAt Go.RowKit
set_option maxRecDepth 100000
theorem own:ownKnob Tryz.prog.godebug=none:=by kernel_rfl
theorem laidOut:laidOutB Tryz.prog=true:=by kernel_rfl
theorem bRd:Tryz.prog.cellsOf 3=1:=by kernel_rfl
theorem bKy:Tryz.prog.cellsOf 22=1:=by kernel_rfl
theorem aZ4:Tryz.prog.cellsOf 9=1:=by kernel_rfl
theorem bEq:Tryz.prog.cellsOf 28=2:=by kernel_rfl
theorem aR1 {W:World} {c:List Value} (h:Reads Tryz.prog W 3 c):∃n:Int,c= [.int .i64 n]∧rT n:=by
 obtain ⟨n,e,h1,h2⟩:=aTs Tryz.underlying3 h
 have h1: -9223372036854775808≤n:=h1
 have h2:n≤9223372036854775807:=h2
 exact ⟨n,e,by unfold rT;omega⟩
theorem aEa {W:World} {c:List Value} (h:Reads Tryz.prog W 22 c):∃n:Int,c= [.int .u32 n]∧fN n:=by
 obtain ⟨n,e,h1,h2⟩:=aTs Tryz.underlying22 h
 have h1:0≤n:=h1
 have h2:n≤4294967295:=h2
 exact ⟨n,e,by unfold fN;omega⟩
theorem aLg {W:World} {c:List Value} (h:Reads Tryz.prog W 28 c):∃p:Pt,c=p.cs∧fN p.i:=by
 obtain ⟨h1,h2⟩:=sE Tryz.underlying28 h
 have l:c.length=2:=h1.trans bEq
 match c,l with
 | [c0,c1],_=>
  have g0:=h2 _ (List.mem_of_getElem? (i:=0) rfl)
  have g1:=h2 _ (List.mem_of_getElem? (i:=1) rfl)
  obtain ⟨s,e0,_⟩:=zS Tryz.underlying9 g0
  obtain ⟨i,e1,hi⟩:=aEa g1
  simp only [aZ4,bKy,List.drop_zero,List.drop_succ_cons,List.take_succ_cons,List.take_zero,List.cons.injEq,and_true] at e0 e1
  exact ⟨⟨s,i⟩,by rw [e0,e1];rfl,hi⟩
end
end Go.Proofs.YteceapipdhnhdaaGreatDoor
