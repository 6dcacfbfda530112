/- Contracts: the document's transactions over coins. The engine, part 23: steps that tell what was drawn. Contracts: numbers in bytes, and locks, by the document. -/
import Derived.Test.YtfebcajheojodaaGreatDoorDc35
set_option linter.unusedVariables false
set_option linter.unusedSimpArgs false
section
namespace Go.Proofs.YtfebcajheojodaaGreatDoor
open Go Go.K
attribute [local irreducible] regK codeK retK KOp.wp K.Spec u32 leS vnS str zero32 sha2 encT idT sizeT checkT grantB idN
theorem rem8 (b:UInt8) (m:Nat) (h:0<m):binVal .rem (.int .u8 (b.toNat:Nat)) (.int .u8 (m:Nat))=some (.int .u8 ((UInt8.ofNat (b.toNat%m)).toNat:Nat)):=by
 have h1:=b.toNat_lt
 have h2:b.toNat%m≤b.toNat:=Nat.mod_le _ _
 have e:(UInt8.ofNat (b.toNat%m)).toNat=b.toNat%m:=by rw [UInt8.toNat_ofNat'];omega
 rw [rem_u8 _ _ h,e]
theorem quo8 (b:UInt8) (m:Nat) (h:0<m):binVal .quo (.int .u8 (b.toNat:Nat)) (.int .u8 (m:Nat))=some (.int .u8 ((UInt8.ofNat (b.toNat / m)).toNat:Nat)):=by
 have h1:=b.toNat_lt
 have h2:b.toNat / m≤b.toNat:=Nat.div_le_self _ _
 have e:(UInt8.ofNat (b.toNat / m)).toNat=b.toNat / m:=by
  rw [UInt8.toNat_ofNat']
  generalize b.toNat / m=q at h2 ⊢
  omega
 have hne:(m:Int)≠0:=by omega
 simp only [binVal,isShift,Bool.false_eq_true,if_false,if_true,intBin]
 rw [if_neg hne,td,e]
 have hw:IntKind.u8.wrap ((b.toNat / m:Nat):Int)=((b.toNat / m:Nat):Int)%256:=rfl
 rw [hw]
 congr 2
 generalize b.toNat / m=q at h2 ⊢
 omega
theorem quoN (a:Int) (m:Nat) (h:0<m) (ha: -9223372036854775808<a∧a<9223372036854775808):binVal .quo (.int .i64 a) (.int .i64 (m:Nat))=some (.int .i64 (a.tdiv (m:Nat))):=by
 have hne:(m:Int)≠0:=by omega
 simp only [binVal,isShift,Bool.false_eq_true,if_false,if_true,intBin]
 rw [if_neg hne]
 have hb: -9223372036854775808≤a.tdiv (m:Nat)∧a.tdiv (m:Nat)≤9223372036854775807:=by
  by_cases hn:0≤a
  ·obtain ⟨n,rfl⟩:=Int.eq_ofNat_of_zero_le hn
   rw [td]
   have:=Nat.div_le_self n m
   generalize n / m=q at this ⊢
   omega
  ·obtain ⟨n,hn2⟩:=Int.eq_ofNat_of_zero_le (show 0≤ -a by omega)
   have e:a= -((n:Nat):Int):=by omega
   rw [e,Int.neg_tdiv,td]
   have:=Nat.div_le_self n m
   generalize n / m=q at this ⊢
   omega
 rw [IntWalk.i64_in _ hb]
theorem seq8 (z:PSm):0≤seqP z∧seqP z<4294967296:=by
 unfold seqP
 split
 ·omega
 ·split<;>omega
abbrev zTx:List Value:= [.int .u32 0,.slice none 0 0,.slice none 0 0,.int .u32 0]
set_option maxHeartbeats 4000000 in
theorem make17_spec {M:List Nat} {v:Value} {cs:List Value} {V:List En} {z:PSm} {B:Int} (w:World) (hv:SlE entE w v V) (hz:psmR.rel M w cs z) (hn:V.length≤1100000) (hV:∀e∈V,0≤e.2.v∧e.2.v≤B) (hB:0≤B∧B≤1000000000000000) (hi:∀e∈V,is32 e.1.i) (hM:∀b∈M,b<w.heap.size):
  K.Spec Tryz.prog F.kedgeref17_Make [v,.agg cs.toArray] w fun r w'=>∃cs',r=.agg cs'.toArray∧txO w.heap.size M w' cs' (makeP V z)∧Ext w w':=by
 obtain ⟨fv,rfl,hfr,hf1,hf2⟩:=hz
 have hsum:∀i,0≤(((z.spends.take 4).take i).map (valP V)).sum∧(((z.spends.take 4).take i).map (valP V)).sum≤4000000000000000:=fun i=>by
  have h:=sum_take_le hB.1 hV ((z.spends.take 4).take i)
  have h2:((z.spends.take 4).take i).length≤4:=by rw [List.length_take,List.length_take];omega
  refine ⟨h.1,Int.le_trans h.2 ?_⟩
  have:B*(((z.spends.take 4).take i).length:Nat)≤B*4:=Int.mul_le_mul_of_nonneg_left (by omega) hB.1
  omega
 have hseq:=seq8 z
 refine s_kedgeref17_Make rfl ?_
 unfold k_kedgeref17_Make
 refine oy ?_
 repeat (first|refine go ?_|refine zg (fun _ _=>?_)|refine zi (fun _ _=>?_))
 refine zD rfl rfl (fun bp wp xp ap rp hp0=>?_)
 repeat (first|refine go ?_|refine zg (fun _ _=>?_)|refine zi (fun _ _=>?_))
 refine zH (fun b4 w4 x4 a4 hb4=>?_)
 repeat (first|(refine st_bin (d:=some 16) rfl rfl (rem_u8 z.mark.toNat 3 (by decide)) ?_)|(refine st_fixV (d:=some 17) (.int .u32 ((z.mark.toNat%3:Nat):Int)) rfl (congrArg (fun n=>some (Value.int .u32 n)) (by have:=z.mark.toNat_lt;rw [wrap32];omega)) ?_)|(first|refine go1 ?_|refine zg (fun _ _=>?_)|refine zi (fun _ _=>?_)))
 refine zE (fun _=>rfl) rfl rfl rfl (fun b5 w5 x5 a5 r5 hb5=>?_)
 have lp:=ap.lt
 have l4:=a4.lt
 have l5:=a5.lt
 have sp:=xp.size
 have s4:=x4.size
 have s5:=x5.size
 obtain ⟨M1,hM1⟩:∃M1,M1= [b4,b5]++M:=⟨_,rfl⟩
 have hM1b:∀b∈M1,b<w5.heap.size:=by
  intro y hy;rw [hM1] at hy;simp at hy
  rcases hy with h|h|h
  ·omega
  ·omega
  ·have:=hM y h;omega
 have m4:b4∈M1:=by rw [hM1];simp
 have m5:b5∈M1:=by rw [hM1];simp
 have mM:∀b∈M,b∈M1:=by intro y hy;rw [hM1];simp [hy]
 have a4':At w5 b4 (.cells zTx.toArray T.api_Tx (0,0)):=At.ext x5 a4
 have a5':At w5 b5 (.cells [Value.int .u32 2,.slice none 0 0,.slice none 0 0,.int .u32 ((z.mark.toNat%3:Nat):Int)].toArray T.api_Tx (0,0)):=a5
 have ap':At w5 bp (.cells (psmCs z fv).toArray T.kedgeref17_Small (0,0)):=At.ext x5 (At.ext x4 ap)
 have xw:Unit→Ext w w5:=fun _=>(xp.trans x4).trans x5
 have h40:(z.spends.take 4).length=min 4 z.spends.length:=List.length_take
 repeat' (first|(refine st_bin (d:=some 32) rfl rfl (rem8 z.tag 3 (by decide)) ?_)|(refine st_bin (d:=some 97) rfl rfl (rem_u8 z.pays.toNat 3 (by decide)) ?_)|(refine st_fixV (d:=some 98) (.int .i64 ((z.pays.toNat%3:Nat):Int)) rfl (congrArg (fun n=>some (Value.int .i64 n)) (wrap_n8 (by omega))) ?_)|(refine st_fixV (d:=some 99) (.int .i64 ((1+z.pays.toNat%3:Nat):Int)) rfl (congrArg (fun n=>some (Value.int .i64 n)) (IntWalk.i64_in _ (by omega))) ?_)|(refine st_fixV (d:=some 103) (.int .i64 z.fee) rfl (congrArg (fun n=>some (Value.int .i64 n)) (IntWalk.i64_in _ (by omega))) ?_)|(first|refine go1 ?_|refine zg (fun _ _=>?_)|refine zi (fun _ _=>?_))|refine zJ rfl (fun h=>?_) (fun h=>?_)|refine zL rfl (fun h=>?_) (fun h=>?_)|(refine zG (E:=u8R) (M:=M) rfl (SlR.ext (w:=w) hfr (by exact fx)) ?_)|(refine c_loopV (fun (p:Nat × Value) w'=>Ext w w'∧w5.heap.size≤w'.heap.size∧At w' bp (.cells (psmCs z fv).toArray T.kedgeref17_Small (0,0))∧p.1≤z.spends.length∧p.1≤4∧At w' b4 (.cells zTx.toArray T.api_Tx (0,0))∧At w' b5 (.cells [Value.int .u32 2,p.2,.slice none 0 0,.int .u32 ((z.mark.toNat%3:Nat):Int)].toArray T.api_Tx (0,0))∧OwnR inR T.api_In w5.heap.size M1 w' p.2 (((z.spends.take 4).take p.1).map (inP V z))) (fun p=> [(0,v),(3,.pointer (some ⟨bp,0,none⟩)),(4,.pointer (some ⟨b4,0,none⟩)),(5,.pointer (some ⟨b5,0,none⟩)),(6,.int .i64 (((z.spends.take 4).take p.1).map (valP V)).sum),(7,.int .i64 p.1)]) (fun p=>4 - p.1) (0,.slice none 0 0) ⟨rfl,rfl,rfl,rfl,rfl,rfl,trivial⟩ ⟨xw (),Nat.le_refl _,ap',by simp,by simp,a4',a5',OwnR.nil _ _ _ _⟩ ?_;rintro ⟨i,vi⟩ ρ w6 ⟨x6,s56,q3,hi1,hi2,q4,q5,o1⟩;simp only at hi1 hi2 q5 o1;dsimp only;have q3r:=Row.of_at q3;have hsi:=hsum i))
 ·have hif:i<z.spends.length:=by omega
  have hi4:i<(z.spends.take 4).length:=by omega
  have hgi:(z.spends.take 4)[i]=z.spends[i]:=List.getElem_take
  have q5r:Row w6 ⟨b5,0,none⟩ [Value.int .u32 2,vi,.slice none 0 0,.int .u32 ((z.mark.toNat%3:Nat):Int)]:=Row.of_at q5
  have x56:Unit→Ext w w6:=fun _=>x6
  clear x6
  have hsi1:=hsum (i+1)
  rw [List.take_succ_eq_append_getElem hi4,List.map_append,List.sum_append,hgi,List.map_cons,List.map_nil,List.sum_cons,List.sum_nil,Int.add_zero] at hsi1
  have hv6:=hv.ext (x56 ())
  have hfr6:=hfr.ext (x56 ())
  obtain ⟨s,hs⟩:∃s,s=z.spends[i]:=⟨_,rfl⟩
  rw [←hs] at hsi1 hgi
  repeat (first|(refine st_bin (d:=some 32) rfl rfl (rem8 z.tag 3 (by decide)) ?_)|(refine zI (d:=some 33) rfl (fun b33 w7 x7 a33 hb33=>?_))|(refine st_strU (d:=some 34) (l:= [0,UInt8.ofNat (z.tag.toNat%3),0]) rfl (SlE.new (E:=u8E) a33 rfl (Nat.le_refl _)) ?_)|(refine zI (d:=some 35) (cs:= [.string (witZ z)]) rfl (fun b35 w8 x8 a35 hb35=>?_))|(refine st_build (d:=some 36) (cs:=inCs ⟨⟨⟨#[]⟩,0⟩,4294967293, []⟩ (.slice (some ⟨b35,0,none⟩) 1 1)) rfl ?_)|(refine zE (d':=8) (fun _=>rfl) rfl rfl rfl (fun b8 w9 x9 a8 (r8:Row w9 ⟨b8,0,none⟩ (inCs ⟨⟨⟨#[]⟩,0⟩,4294967293, []⟩ (.slice (some ⟨b35,0,none⟩) 1 1))) hb8=>?_))|(refine st_elemR (d:=some 40) (E:=u8R) (M:=M) rfl rfl (n:=i) (l:=z.spends) (hfr6.ext (by exact fx)) rfl hif (fun ad cs r7 he=>?_);subst he)|(refine st_fixV (d:=some 42) (.int .i64 (z.spends[i].toNat:Nat)) rfl (congrArg (fun n=>some (Value.int .i64 n)) (wrap_u8 z.spends[i])) ?_)|(refine zC (d:=some 43) rfl (idn_spec z.spends[i].toNat _) ?_;rintro _ w10 ⟨rfl,x10⟩)|(first|refine go1 ?_|refine zg (fun _ _=>?_)|refine zi (fun _ _=>?_)))
  rw [←hs]
  have l35:=a35.lt
  have s9:=x9.size
  have s10:=x10.size
  have s69:w6.heap.size≤b8:=Nat.le_trans (x7.size) (Nat.le_trans x8.size hb8)
  have x610:Unit→Ext w6 w10:=fun _=>x7.trans (x8.trans (x9.trans x10))
  obtain ⟨wv,hwv⟩:∃wv,wv=Value.slice (some ⟨b35,0,none⟩) 1 1:=⟨_,rfl⟩
  have hw10:SlE strE w10 wv [witZ z]:=by rw [hwv];exact SlE.new (E:=strE) (At.ext x10 (At.ext x9 a35)) rfl (Nat.le_refl _)
  have hbw:∀b∈blkOf wv,b≠b8∧w6.heap.size≤b:=by
   rw [hwv];intro b hb;simp [blkOf] at hb;subst hb
   have:=x7.size
   omega
  rw [←hwv] at r8 a8
  have h1w:wv.oneCell'=true:=by rw [hwv];rfl
  clear a35 a33 r8 r7
  refine st_store (b:=b8) (o:=0) (cur:=inCs ⟨⟨⟨#[]⟩,0⟩,4294967293, []⟩ wv) rfl rfl rfl (At.ext x10 a8) (Nat.le_of_ble_eq_true rfl) (fun w11 c11 a11=>?_)
  have x611:Unit→Ext w6 w11:=fun _=>(Ext.chg (x610 ()) c11).mono (by intro y hy;simp at hy;right;omega)
  have s11:=c11.size
  have a11:At w11 b8 (.cells (inCs ⟨⟨idN s.toNat,0⟩,4294967293, []⟩ wv).toArray T.api_In (0,0)):=a11
  have hw11:SlE strE w11 wv [witZ z]:=hw10.chg c11 (fun a m c e hm=>by simp at hm;exact (hbw a.block (by rw [e];simp [blkOf])).1 hm)
  clear x7 x8 x9 x10 a8 hw10 x610 c11
  have hfr11:=hfr6.ext (x611 ())
  have hv11:=hv6.ext (x611 ())
  have q11:Row w11 ⟨bp,0,none⟩ (psmCs z fv):=Row.ext (x611 ()) q3r
  have r11:Row w11 ⟨b8,0,none⟩ _:=Row.of_at a11
  apply z1
  refine c_cutV (a:=.seq (.reg false (.cons ⟨some 46,_,none⟩ _)) _) (fun (_:Unit) w'=>Ext w6 w'∧At w' b8 (.cells (inCs ⟨ptP V s,4294967293, []⟩ wv).toArray T.api_In (0,0))∧SlE strE w' wv [witZ z]) (fun _=> [(0,v),(3,.pointer (some ⟨bp,0,none⟩)),(4,.pointer (some ⟨b4,0,none⟩)),(5,.pointer (some ⟨b5,0,none⟩)),(6,.int .i64 ((((z.spends.take 4).take i).map (valP V)).sum+valP V s)),(7,.int .i64 i),(8,.pointer (some ⟨b8,0,none⟩))]) ?_ ?_
  ·have hno:(¬(s.toNat<250∧0<V.length))→pickP V s=none:=fun h=>by unfold pickP;rw [if_neg h]
   repeat' (first|(refine st_elemR (d:=some 49) (E:=u8R) (M:=M) rfl rfl (n:=i) (l:=z.spends) hfr11 rfl hif (fun ad cs r7 he=>?_);subst he;rw [←hs] at r7)|(refine st_len (d:=some 54) rfl hv11 ?_)|(refine st_elemR (d:=some 61) (E:=u8R) (M:=M) rfl rfl (n:=i) (l:=z.spends) hfr11 rfl hif (fun ad8 cs8 r17 he=>?_);subst he;rw [←hs] at r17)|(refine st_fixV (d:=some 63) (.int .i64 (s.toNat:Nat)) rfl (congrArg (fun n=>some (Value.int .i64 n)) (wrap_u8 s)) ?_)|(refine st_len (d:=some 65) rfl hv11 ?_)|(refine st_rem (d:=some 66) (n:=s.toNat) (m:=V.length) rfl rfl (by omega) ?_)|(have h9:=Nat.mod_lt s.toNat (show 0<V.length by omega);have hpk:pickP V s=some V[s.toNat%V.length]:=(by unfold pickP;rw [if_pos ⟨by omega,by omega⟩,List.getElem?_eq_getElem h9]);generalize s.toNat%V.length=n9 at h9 hpk ⊢;refine st_elemE (d:=some 67) (E:=entE) rfl rfl (n:=n9) (l:=V) hv11 rfl h9 (fun ad9 r9=>?_))|(refine zE (d':=9) (fun _=>rfl) rfl rfl rfl (fun b9 w12 x12 a12 (r12:Row w12 ⟨b9,0,none⟩ (entE.f V[n9])) hb9=>?_))|(refine st_storeN (b:=b8) (o:=0) (cur:=inCs ⟨⟨idN s.toNat,0⟩,4294967293, []⟩ wv) (vs:=(V[n9].1).cs) rfl rfl rfl (by intro x hx;simp [Pt.cs] at hx;rcases hx with rfl|rfl<;>rfl) (At.ext x12 a11) (Nat.le_of_ble_eq_true rfl) (fun w13 c13 a13=>?_);have r13:Row w13 ⟨b9,0,none⟩ (entE.f V[n9]):=Row.of_at (At.chg c13 a12 (by have:=a11.lt;simp;omega));have hv9:valP V s=V[n9].2.v:=(by unfold valP;rw [hpk]);have hp9:ptP V s=V[n9].1:=(by unfold ptP;rw [hpk]);rw [hv9] at hsi1)|(first|refine go1 ?_|refine zg (fun _ _=>?_)|refine zi (fun _ _=>?_))|refine zJ rfl (fun h=>?_) (fun h=>?_)|refine zL rfl (fun h=>?_) (fun h=>?_))
   ·exact ⟨(),⟨rfl,rfl,rfl,rfl,congrArg (Value.int .i64) (by rw [hv9]),rfl,rfl,trivial⟩,(Ext.chg ((x611 ()).trans x12) c13).mono (by intro y hy;simp at hy;right;omega),by rw [hp9];exact a13,(hw11.ext x12).chg c13 (fun a m c e hm=>by simp at hm;exact (hbw a.block (by rw [e];simp [blkOf])).1 hm)⟩
   all_goals
    have hpn:=hno (by omega)
    have hv9:valP V s=0:=by unfold valP;rw [hpn]
    have hp9:ptP V s=⟨idN s.toNat,0⟩:=by unfold ptP;rw [hpn]
    exact ⟨(),⟨rfl,rfl,rfl,rfl,congrArg (Value.int .i64) (by rw [hv9,Int.add_zero]),rfl,rfl,trivial⟩,x611 (),by rw [hp9];exact a11,hw11⟩
  clear q11 r11 a11 hw11 hfr11 hv11 x611 s11
  rintro _ ρ w12 ⟨x612,a12,hw12⟩
  have q12:Row w12 ⟨bp,0,none⟩ (psmCs z fv):=Row.ext x612 q3r
  have x612':Unit→Ext w6 w12:=fun _=>x612
  clear x612
  refine c_cutV (a:=.seq (.reg false (.cons ⟨some 78,_,none⟩ _)) _) (fun (_:Unit) w'=>Ext w6 w'∧At w' b8 (.cells (inCs ⟨ptP V s,if z.final then 4294967294 else 4294967293, []⟩ wv).toArray T.api_In (0,0))∧SlE strE w' wv [witZ z]) (fun _=> [(0,v),(3,.pointer (some ⟨bp,0,none⟩)),(4,.pointer (some ⟨b4,0,none⟩)),(5,.pointer (some ⟨b5,0,none⟩)),(6,.int .i64 ((((z.spends.take 4).take i).map (valP V)).sum+valP V s)),(7,.int .i64 i),(8,.pointer (some ⟨b8,0,none⟩))]) ?_ ?_
  ·repeat' (first|(refine st_store (b:=b8) (o:=2) (cur:=inCs ⟨ptP V s,4294967293, []⟩ wv) rfl rfl rfl a12 (Nat.le_of_ble_eq_true rfl) (fun w13 c13 a13=>?_))|(first|refine go1 ?_|refine zg (fun _ _=>?_)|refine zi (fun _ _=>?_))|refine zM rfl (fun h=>?_) (fun h=>?_))
   ·exact ⟨(),⟨rfl,rfl,rfl,rfl,rfl,rfl,rfl,trivial⟩,(Ext.chg (x612' ()) c13).mono (by intro y hy;simp at hy;right;omega),by rw [if_pos h];exact a13,hw12.chg c13 (fun a m c e hm=>by simp at hm;exact (hbw a.block (by rw [e];simp [blkOf])).1 hm)⟩
   ·exact ⟨(),⟨rfl,rfl,rfl,rfl,rfl,rfl,rfl,trivial⟩,x612' (),by rw [if_neg (by rw [h];decide)];exact a12,hw12⟩
  clear q12 a12 hw12 x612'
  clear ρ w12
  rintro _ ρ w12 ⟨x612,a12,hw12⟩
  have q12:Row w12 ⟨bp,0,none⟩ (psmCs z fv):=Row.ext x612 q3r
  have x612':Unit→Ext w6 w12:=fun _=>x612
  clear x612
  have hwt:=z.wait.toNat_lt
  refine c_cutV (a:=.seq (.reg false (.cons ⟨some 81,_,none⟩ _)) _) (fun (_:Unit) w'=>Ext w6 w'∧At w' b8 (.cells (inCs ⟨ptP V s,seqP z, []⟩ wv).toArray T.api_In (0,0))∧SlE strE w' wv [witZ z]) (fun _=> [(0,v),(3,.pointer (some ⟨bp,0,none⟩)),(4,.pointer (some ⟨b4,0,none⟩)),(5,.pointer (some ⟨b5,0,none⟩)),(6,.int .i64 ((((z.spends.take 4).take i).map (valP V)).sum+valP V s)),(7,.int .i64 i),(8,.pointer (some ⟨b8,0,none⟩))]) ?_ ?_
  ·repeat' (first|(refine st_bin (d:=some 86) rfl rfl (rem_u8 z.wait.toNat 8 (by decide)) ?_)|(refine st_fixV (d:=some 87) (.int .u32 ((z.wait.toNat%8:Nat):Int)) rfl (congrArg (fun n=>some (Value.int .u32 n)) (by rw [wrap32];omega)) ?_)|(refine st_store (b:=b8) (o:=2) (cur:=inCs ⟨ptP V s,if z.final then 4294967294 else 4294967293, []⟩ wv) rfl rfl rfl a12 (Nat.le_of_ble_eq_true rfl) (fun w13 c13 a13=>?_))|(first|refine go1 ?_|refine zg (fun _ _=>?_)|refine zi (fun _ _=>?_))|refine zL rfl (fun h=>?_) (fun h=>?_))
   ·have e:seqP z=((z.wait.toNat%8:Nat):Int):=by unfold seqP;rw [if_pos (by omega)]
    exact ⟨(),⟨rfl,rfl,rfl,rfl,rfl,rfl,rfl,trivial⟩,(Ext.chg (x612' ()) c13).mono (by intro y hy;simp at hy;right;omega),by rw [e];exact a13,hw12.chg c13 (fun a m c e hm=>by simp at hm;exact (hbw a.block (by rw [e];simp [blkOf])).1 hm)⟩
   ·have e:seqP z=if z.final then 4294967294 else 4294967293:=by unfold seqP;rw [if_neg (by omega)]
    exact ⟨(),⟨rfl,rfl,rfl,rfl,rfl,rfl,rfl,trivial⟩,x612' (),by rw [e];exact a12,hw12⟩
  clear q12 a12 hw12 x612'
  clear ρ w12
  rintro _ ρ w12 ⟨x612,a12,hw12⟩
  have r12:Row w12 ⟨b8,0,none⟩ (inCs ⟨ptP V s,seqP z, []⟩ wv):=Row.of_at a12
  have q512:Row w12 ⟨b5,0,none⟩ [Value.int .u32 2,vi,.slice none 0 0,.int .u32 ((z.mark.toNat%3:Nat):Int)]:=Row.ext x612 q5r
  have o12:=o1.ext x612
  have s612:=x612.size
  have hpi:=ptP_is32 hi s
  have hLen:(((z.spends.take 4).take i).map (inP V z)).length≤4:=by rw [List.length_map,List.length_take,List.length_take];omega
  have hsl:SlR strR (blkOf vi++M1) w12 wv [witZ z]:=SlE.toR hw12 (fun b hb hm=>by
   have h1:=(hbw b hb).2
   rcases List.mem_append.1 hm with h2|h2
   ·have:=o1.lt b h2;omega
   ·have:=hM1b b h2;omega)
  repeat' (first|(refine zI (d:=some 92) (cs:=inCs ⟨ptP V s,seqP z, []⟩ wv) rfl (fun b w13 x13 a13 hb=>?_))|(refine st_append1 (d:=some 93) (E:=inR) (M:=M1) (v:=vi) (cs:=inCs ⟨ptP V s,seqP z, []⟩ wv) (a:=inP V z s) rfl rfl (o12.ext x13) (by have:=x13.size;omega) rfl rfl a13 ⟨wv,rfl,hsl.ext x13,hpi,hseq⟩ (by omega) (fun v14 w14 o14 c14 hb14=>?_))|(first|refine go1 ?_|refine zg (fun _ _=>?_)|refine zi (fun _ _=>?_)))
  have g1:=o1.base
  have l1:=o1.lt
  have h4v:b4∉blkOf vi:=fun h=>by have:=g1 _ h;omega
  have h5v:b5∉blkOf vi:=fun h=>by have:=g1 _ h;omega
  have hpv:bp∉blkOf vi:=fun h=>by have:=g1 _ h;omega
  have x613:=x612.trans x13
  have q3':=At.chg c14 (q3.ext x613) hpv
  have q4':=At.chg c14 (q4.ext x613) h4v
  have q5':=At.chg c14 (q5.ext x613) h5v
  have l14:=o14.lt
  have g14:=o14.base
  have hone:=o14.one
  refine st_store (d:=none) (b:=b5) (o:=1) (cur:= [Value.int .u32 2,vi,.slice none 0 0,.int .u32 ((z.mark.toNat%3:Nat):Int)]) rfl rfl hone q5' (Nat.le_of_ble_eq_true rfl) (fun w15 c15 a15=>?_)
  have h5w:b5∉blkOf v14:=fun h=>by have:=g14 _ h;omega
  have o15:=o14.step c15 (M':=M1) (by intro y hy;simp at hy;subst hy;exact ⟨h5w,.inl m5⟩) (fun _ h=>.inl h)
  have s14:=c14.size
  have s15:=c15.size
  have x015:Ext w w15:=(Ext.chg ((x56 ()).trans x613) (c14.trans c15)).mono (by
   intro y hy
   rcases List.mem_append.1 hy with h|h
   ·have:=g1 _ h;right;omega
   ·simp at h;right;omega)
  have s013:=x613.size
  clear x612 x13 x613
  repeat (first|refine go1 ?_|refine zg (fun _ _=>?_)|refine zi (fun _ _=>?_))
  refine ⟨(i+1,v14),⟨rfl,rfl,rfl,rfl,congrArg (Value.int .i64) ?_,rfl,trivial⟩,⟨x015,by omega,At.chg c15 q3' (by simp;omega),by omega,by omega,At.chg c15 q4' (by simp;omega),a15,?_⟩,by simp;omega⟩
  ·rw [List.take_succ_eq_append_getElem hi4,List.map_append,List.sum_append,hgi,List.map_cons,List.map_nil,List.sum_cons,List.sum_nil,Int.add_zero]
  ·rw [List.take_succ_eq_append_getElem hi4,List.map_append,hgi];exact o15
 all_goals
  have e4:(z.spends.take 4).take i=z.spends.take 4:=List.take_of_length_le (by omega)
  rw [e4] at o1 hsi
  have hI0:=o1.base
  have hI1:=o1.lt
  have hp8:z.pays.toNat%3<3:=Nat.mod_lt _ (by decide)
  obtain ⟨n,hn0⟩:∃n,n=1+z.pays.toNat%3:=⟨_,rfl⟩
  rw [←hn0]
  have hL0:sumP V z=((z.spends.take 4).map (valP V)).sum:=rfl
  have x6':Unit→Ext w w6:=fun _=>x6
  clear xw x6
  refine c_loopV (fun (p:Nat × Int × Value × List TOut) w'=>Ext w w'∧w6.heap.size≤w'.heap.size∧At w' bp (.cells (psmCs z fv).toArray T.kedgeref17_Small (0,0))∧p.1≤n∧p.2.2.2.length=p.1∧p.2.2.2++outsP (scrP z) (n - p.1) p.2.1=outsP (scrP z) n (sumP V z - z.fee)∧(-100000≤p.2.1∧p.2.1≤4000000000000000)∧At w' b4 (.cells zTx.toArray T.api_Tx (0,0))∧At w' b5 (.cells [Value.int .u32 2,vi,p.2.2.1,.int .u32 ((z.mark.toNat%3:Nat):Int)].toArray T.api_Tx (0,0))∧OwnR inR T.api_In w5.heap.size (blkOf p.2.2.1++M1) w' vi ((z.spends.take 4).map (inP V z))∧OwnR outR T.api_Out w6.heap.size (blkOf vi++M1) w' p.2.2.1 p.2.2.2) (fun p=> [(3,.pointer (some ⟨bp,0,none⟩)),(4,.pointer (some ⟨b4,0,none⟩)),(5,.pointer (some ⟨b5,0,none⟩)),(10,.int .i64 (n:Nat)),(11,.int .i64 p.2.1),(12,.int .i64 p.1)]) (fun p=>n - p.1) (0,sumP V z - z.fee,.slice none 0 0, []) ⟨rfl,rfl,rfl,rfl,congrArg (Value.int .i64) (by rw [e4];rfl),rfl,trivial⟩ ⟨x6' (),Nat.le_refl _,q3,by simp,rfl,by simp,⟨by show -100000≤sumP V z - z.fee;omega,by show sumP V z - z.fee≤_;omega⟩,q4,q5,o1,OwnR.nil _ _ _ _⟩ ?_
  clear q3 q3r q4 q5 o1
  clear ρ h
  rintro ⟨k,left,vo,O⟩ ρ7 w7 ⟨x7,s67,t3,hk1,hO,hOP,hlb,t4,t5,u1,u2⟩
  simp only at hk1 hO hOP hlb t5 u1 u2
  dsimp only
  have t3r:=Row.of_at t3
  have t5r:Row w7 ⟨b5,0,none⟩ [Value.int .u32 2,vi,vo,.int .u32 ((z.mark.toNat%3:Nat):Int)]:=Row.of_at t5
  have x7':Unit→Ext w w7:=fun _=>x7
  clear x7
  repeat' (first|(refine st_fixV (d:=some 113) (.int .i64 ((n - k:Nat):Int)) rfl (congrArg (fun n=>some (Value.int .i64 n)) (by rw [IntWalk.i64_in _ (by omega)];omega)) ?_)|(refine st_bin (d:=some 114) rfl rfl (quoN left (n - k) (by omega) (by omega)) ?_)|(have hcb:=cutP_bound (left:=left) (k:=n - k) (by omega) hlb.1 hlb.2 (by decide);refine c_cutV (a:=.seq (.reg false (.cons ⟨some 115,_,none⟩ _)) _) (fun (_:Unit) w'=>w'=w7) (fun _=> [(3,.pointer (some ⟨bp,0,none⟩)),(4,.pointer (some ⟨b4,0,none⟩)),(5,.pointer (some ⟨b5,0,none⟩)),(10,.int .i64 (n:Nat)),(11,.int .i64 left),(12,.int .i64 k),(13,.int .i64 (cutP left (n - k)))]) ?_ ?_)|(refine zL (x:=.tmp 107) (p:=((k:Nat):Int)<((n:Nat):Int)) rfl (fun h=>?_) (fun h=>?_))|(first|refine go1 ?_|refine zg (fun _ _=>?_)|refine zi (fun _ _=>?_)))
  ·refine zL (p:=left.tdiv ((n - k:Nat):Int)<0) rfl (fun h2=>?_) (fun h2=>?_)
   ·repeat' (first|refine go1 ?_|refine zg (fun _ _=>?_)|refine zi (fun _ _=>?_))
    exact ⟨(),⟨rfl,rfl,rfl,rfl,rfl,rfl,congrArg (Value.int .i64) (by unfold cutP;rw [if_pos h2]),trivial⟩,rfl⟩
   ·repeat' (first|refine go1 ?_|refine zg (fun _ _=>?_)|refine zi (fun _ _=>?_))
    exact ⟨(),⟨rfl,rfl,rfl,rfl,rfl,rfl,congrArg (Value.int .i64) (by unfold cutP;rw [if_neg h2]),trivial⟩,rfl⟩
  ·rintro _ ρ8 w8 rfl
   have hstep:outsP (scrP z) (n - k) left=⟨cutP left (n - k),scrP z⟩::outsP (scrP z) (n - (k+1)) (left - cutP left (n - k)):=by
    have:n - k=(n - (k+1))+1:=by omega
    rw [this];rfl
   rw [hstep] at hOP
   generalize hcut:cutP left (n - k)=cv at hcb hOP ⊢
   have hz1:(str [UInt8.ofNat (z.pays.toNat / 64)]).size=1:=str_size _
   have hz3:(⟨#[1,1,0]⟩:ByteArray).size=3:=rfl
   have hz5:(⟨#[0,0,0,0,0]⟩:ByteArray).size=5:=rfl
   have hz2:((⟨#[1,1,0]⟩:ByteArray)++str [UInt8.ofNat (z.pays.toNat / 64)]).size=4:=by rw [ByteArray.size_append,hz1,hz3]
   repeat' (first|(refine st_bin (d:=some 125) rfl rfl (quo8 z.pays 64 (by decide)) ?_)|(refine zI (d:=some 126) rfl (fun b26 w9 x9 a26 hb26=>?_))|(refine st_strU (d:=some 127) (l:= [UInt8.ofNat (z.pays.toNat / 64)]) rfl (SlE.new (E:=u8E) a26 rfl (Nat.le_refl _)) ?_)|(refine st_catS (d:=some 128) rfl rfl (by rw [hz1,hz3];decide) ?_)|(refine st_catS (d:=some 129) rfl rfl (by rw [hz2,hz5];decide) ?_)|(refine st_build (d:=some 130) (cs:=outCs ⟨cv,scrP z⟩) rfl ?_)|(refine zI (d:=some 131) (cs:=outCs ⟨cv,scrP z⟩) rfl (fun b w10 x10 a10 hb=>?_))|(refine st_append1 (d:=some 132) (E:=outR) (M:=blkOf vi++M1) (v:=vo) (cs:=outCs ⟨cv,scrP z⟩) (a:=⟨cv,scrP z⟩) rfl rfl ((u2.ext x9).ext x10) (by have:=x9.size;have:=x10.size;omega) rfl rfl a10 ⟨rfl,by show is64 cv;unfold is64;omega⟩ (by omega) (fun v11 w11 o11 c11 hb11=>?_))|(first|refine go1 ?_|refine zg (fun _ _=>?_)|refine zi (fun _ _=>?_)))
   have g2:=u2.base
   have l2:=u2.lt
   have x710:=x9.trans x10
   have s710:=x710.size
   have h3o:bp∉blkOf vo:=fun h=>by have:=g2 _ h;have:=t3.lt;have:=x9.size;omega
   have h4o:b4∉blkOf vo:=fun h=>by have:=g2 _ h;omega
   have h5o:b5∉blkOf vo:=fun h=>by have:=g2 _ h;omega
   have hvo:∀b∈blkOf vo,b∉blkOf vi:=fun b h h'=>by have:=g2 _ h;have:=hI1 _ h';omega
   have u1':=(u1.ext x710).step c11 (M':=blkOf v11++M1) (fun b h=>⟨hvo b h,.inl (by simp [h])⟩) (fun b h=>by
    rcases List.mem_append.1 h with h|h
    ·rcases hb11 b h with h|h
     ·exact .inl (by simp [h])
     ·exact .inr h
    ·exact .inl (by simp [h]))
   have t3':=At.chg c11 (t3.ext x710) h3o
   have t4':=At.chg c11 (t4.ext x710) h4o
   have t5':=At.chg c11 (t5.ext x710) h5o
   have g11:=o11.base
   have s11:=c11.size
   have xwx:Unit→Chg (blkOf vo) w w11:=fun _=>Ext.chg ((x7' ()).trans x710) c11
   clear x9 x10 x710
   refine st_store (d:=none) (b:=b5) (o:=2) (cur:= [Value.int .u32 2,vi,vo,.int .u32 ((z.mark.toNat%3:Nat):Int)]) rfl rfl o11.one t5' (Nat.le_of_ble_eq_true rfl) (fun w12 c12 a12=>?_)
   have h5v:b5∉blkOf vi:=fun h=>by have:=hI0 _ h;omega
   have h5w:b5∉blkOf v11:=fun h=>by have:=g11 _ h;omega
   have u12:=u1'.step c12 (M':=blkOf v11++M1) (by intro y hy;simp at hy;subst hy;exact ⟨h5v,.inl (by simp [m5])⟩) (fun _ h=>.inl h)
   have o12:=o11.step c12 (M':=blkOf vi++M1) (by intro y hy;simp at hy;subst hy;exact ⟨h5w,.inl (by simp [m5])⟩) (fun _ h=>.inl h)
   have s12:=c12.size
   have x12:Unit→Ext w w12:=fun _=>((xwx ()).trans c12).mono (by
    intro y hy
    rcases List.mem_append.1 hy with h|h
    ·have:=g2 _ h;right;omega
    ·simp at h;right;omega)
   repeat (first|refine go1 ?_|refine zg (fun _ _=>?_)|refine zi (fun _ _=>?_))
   exact ⟨(k+1,left - cv,v11,O++ [⟨cv,scrP z⟩]),⟨rfl,rfl,rfl,rfl,rfl,rfl,trivial⟩,⟨x12 (),by omega,At.chg c12 t3' (by simp;omega),by omega,by simp;omega,by simp only [List.append_assoc,List.singleton_append];exact hOP,by simp only;omega,At.chg c12 t4' (by simp;omega),a12,u12,o12⟩,by simp;omega⟩
  ·have hkn:k=n:=by omega
   subst hkn
   rw [Nat.sub_self] at hOP
   have hOP:O=outsP (scrP z) k (sumP V z - z.fee):=by rw [←hOP];simp [outsP]
   repeat' (first|refine go1 ?_|refine zg (fun _ _=>?_)|refine zi (fun _ _=>?_))
   refine st_setN (w0:=w) (vs:= [Value.int .u32 2,vi,vo,.int .u32 ((z.mark.toNat%3:Nat):Int)]) (x7' ()) (by omega) t4 rfl rfl rfl rfl ?_ (fun w12 x12 c12 a12 r12=>?_)
   ·have e1:=u1.one
    have e2:=u2.one
    simp [e1,e2];exact ⟨rfl,rfl⟩
   repeat (first|refine go1 ?_|refine zg (fun _ _=>?_)|refine zi (fun _ _=>?_))
   have g2:=u2.base
   have h4i:b4∉blkOf vi:=fun h=>by have:=hI0 _ h;omega
   have h4o:b4∉blkOf vo:=fun h=>by have:=g2 _ h;omega
   have p1:=(u1.step (M':=M1) c12 (by intro y hy;simp at hy;subst hy;exact ⟨h4i,.inl (by simp [m4])⟩) (fun _ h=>.inl (by simp [h]))).sub (M':=M) (fun b hb=>.inl (mM b hb))
   have p2:=(u2.step (M':=M1) c12 (by intro y hy;simp at hy;subst hy;exact ⟨h4o,.inl (by simp [m4])⟩) (fun _ h=>.inl (by simp [h]))).sub (M':=M) (fun b hb=>.inl (mM b hb))
   have hm3:is32 ((z.mark.toNat%3:Nat):Int):=by have:=Nat.mod_lt z.mark.toNat (show 0<3 by decide);unfold is32;omega
   refine x_ret (ret1 (rv_cell r12 rfl rfl)) ⟨_,rfl,⟨vi,vo,rfl,p1.lower (by omega),?_,⟨by show (0:Int)≤2;decide,by show (2:Int)<4294967296;decide⟩,hm3⟩,x12⟩
   have e:(makeP V z).outs=O:=by rw [hOP,hn0];rfl
   rw [e]
   exact p2.lower (by omega)
end Go.Proofs.YtfebcajheojodaaGreatDoor
end
section
namespace Go.K
open Go
section
variable {P:Program} {d:Option Tmp} {r:KR} {K:Env→World→Prop} {ρ:Env} {w:World}
end
theorem g_splitN {P:Program} {r:KR} {K:Env→World→Prop} {ρ:Env} {w:World} {d:Option Tmp} {o:KOp} {t:Tmp} {b:Bool} {p:Prop} [Decidable p] (h:ρ t=.bool (!decide p)) (h1:¬p→regK P (.cons ⟨d,o,some (t,b)⟩ r) K (upd ρ t (.bool true)) w) (h2:p→regK P (.cons ⟨d,o,some (t,b)⟩ r) K (upd ρ t (.bool false)) w):regK P (.cons ⟨d,o,some (t,b)⟩ r) K ρ w:=by
 by_cases hp:p
 ·have:=h2 hp;rwa [upd_eq (by rw [h];simp [hp])] at this
 ·have:=h1 hp;rwa [upd_eq (by rw [h];simp [hp])] at this
end Go.K
end
section
namespace Go.Proofs.YtfebcajheojodaaGreatDoor
open Go Go.K
attribute [local irreducible] regK codeK retK KOp.wp K.Spec u32 leS vnS str zero32 numAt byteAt lockL signL brsL chosenB
theorem u64_in {n:Nat} (h:n<18446744073709551616):IntKind.u64.wrap ((n:Nat):Int)=((n:Nat):Int):=u64_wrap (by omega) (by omega)
theorem rget_spec (s:ByteArray) (a k:Nat) (hk:k=2∨k=4) (hs:a+k≤s.size) (hm:s.size≤100000000) (w:World):K.Spec Tryz.prog F.kedgeref02_Get [.string s,.int .i64 (a:Nat),.int .i64 (k:Nat)] w fun r w'=>r=.tuple #[.int .u64 (numAt s a k:Nat),.bool true]∧Ext w w':=by
 have hk4:k≤4:=by omega
 rcases hk with hk|hk
 all_goals
  refine s_kedgeref02_Get rfl ?_
  unfold k_kedgeref02_Get
  refine oy ?_
  repeat' (first|(refine c_loopV (fun (i:Nat) w'=>Ext w w'∧i≤k) (fun i=> [(0,.string s),(1,.int .i64 (a:Nat)),(2,.int .i64 (k:Nat)),(8,.int .u64 (numAt s a i:Nat)),(9,.int .u64 (256^i:Nat)),(10,.int .i64 (i:Nat))]) (fun i=>k - i) 0 ⟨rfl,rfl,rfl,(by unfold numAt;rfl),rfl,rfl,trivial⟩ ⟨Ext.refl _,by omega⟩ ?_;rintro i ρ w3 ⟨x3,hi⟩)|(first|refine go1 ?_|refine zg (fun _ _=>?_)|refine zi (fun _ _=>?_))|(first|refine zJ rfl (fun hh=>absurd hh (by omega)) (fun hh=>?_)|refine zJ rfl (fun hh=>?_) (fun hh=>absurd hh (by omega))|refine zJ rfl (fun hh=>?_) (fun hh=>?_)|refine g_splitN rfl (fun hh=>absurd hh (by omega)) (fun hh=>?_)|refine g_splitN rfl (fun hh=>?_) (fun hh=>absurd hh (by omega))|refine g_splitN rfl (fun hh=>?_) (fun hh=>?_))|(first|refine zL rfl (fun hh=>absurd hh (by omega)) (fun _=>?_)|refine zN rfl (fun hh=>absurd hh (by omega)) (fun _=>?_)|refine zz rfl ?_))
  refine zL (x:=.tmp 39) (p:=((i:Nat):Int)<((k:Nat):Int)) rfl (fun h=>?_) (fun h=>?_)
  ·have hik:i<k:=by omega
   have hlt:=numAt_lt s i a
   have hp:256^i≤256^3:=Nat.pow_le_pow_right (by decide) (by omega)
   have hsn:=numAt_snoc s i a
   have hpow:256^(i+1)=256*256^i:=by rw [Nat.pow_succ];omega
   have hj:a+i<s.size:=by omega
   have hb:=s[a+i].toNat_lt
   rw [byteAt_get hj] at hsn
   generalize hP:256^i=p at hp hsn hlt hpow ⊢
   generalize hB:s[a+i].toNat=b at hb hsn
   generalize hN:numAt s a i=n at hlt hsn ⊢
   have hbp:b*p≤255*16777216:=Nat.mul_le_mul (by omega) (by omega)
   generalize hbP:b*p=q at hbp hsn
   repeat (first|(refine st_idxS (d:=some 47) (k:=.i64) (n:=a+i) rfl (congrArg (Value.int .i64) (by omega)) hj ?_;rw [hB])|(refine st_fixV (d:=some 48) (.int .u64 ((b:Nat):Int)) rfl (congrArg (fun n=>some (Value.int .u64 n)) (u64_in (by omega))) ?_)|(refine st_fixV (d:=some 50) (.int .u64 ((q:Nat):Int)) rfl (congrArg (fun n=>some (Value.int .u64 n)) (by rw [show ((b:Nat):Int)*((p:Nat):Int)=((q:Nat):Int) by rw [←hbP];push_cast;rfl];exact u64_in (by omega))) ?_)|(refine st_fixV (d:=some 51) (.int .u64 ((n+q:Nat):Int)) rfl (congrArg (fun n=>some (Value.int .u64 n)) (by rw [show ((n:Nat):Int)+((q:Nat):Int)=((n+q:Nat):Int) by omega];exact u64_in (by omega))) ?_)|(refine st_fixV (d:=some 53) (.int .u64 ((256*p:Nat):Int)) rfl (congrArg (fun n=>some (Value.int .u64 n)) (by rw [show ((p:Nat):Int)*256=((256*p:Nat):Int) by omega];exact u64_in (by omega))) ?_)|(first|refine go1 ?_|refine zg (fun _ _=>?_)|refine zi (fun _ _=>?_)))
   exact ⟨i+1,⟨rfl,rfl,rfl,congrArg (fun n:Nat=>Value.int .u64 n) hsn.symm,congrArg (fun n:Nat=>Value.int .u64 n) hpow.symm,rfl,trivial⟩,⟨x3,by omega⟩,by omega⟩
  ·have e:i=k:=by omega
   subst e
   repeat (first|refine go1 ?_|refine zg (fun _ _=>?_)|refine zi (fun _ _=>?_))
   exact x_ret rfl ⟨rfl,x3⟩
theorem lock_no {s:ByteArray} (h:¬(s.size=9∨s.size=17∨s.size=25)):lockL s= []:=by
 unfold lockL lockForm
 simp only [not_or] at h
 simp [h.1,h.2.1,h.2.2]
theorem lock_first {s:ByteArray} (h:byteAt s 0≠lockN s):lockL s= []:=by
 unfold lockL lockForm
 simp [h]
theorem lock_high {s:ByteArray} {j:Nat} (hj:j<lockN s) (h:1000000<numAt s (5+8*j) 4):lockL s= []:=by
 have:(brsL s).all lowB=false:=by
  rw [List.all_eq_false]
  refine ⟨brAt s j,?_,?_⟩
  ·unfold brsL
   exact List.mem_map_of_mem (List.mem_range.2 hj)
  ·show ¬decide ((brAt s j).height≤1000000)=true
   rw [decide_eq_true_eq]
   exact Nat.not_le.2 h
 unfold lockL
 rw [this];simp
theorem lock_yes {s:ByteArray} (h:s.size=9∨s.size=17∨s.size=25) (h0:byteAt s 0=lockN s) (hl:∀j,j<lockN s→numAt s (5+8*j) 4≤1000000):lockL s=(List.range (lockN s)).map (brAt s):=by
 have h1:lockForm s=true:=by
  unfold lockForm
  rw [decide_eq_true h0]
  rcases h with h|h|h<;>simp [h]
 have h2:(brsL s).all lowB=true:=by
  rw [List.all_eq_true]
  intro b hb
  unfold brsL at hb
  obtain ⟨j,hj,rfl⟩:=List.mem_map.1 hb
  exact decide_eq_true (hl j (List.mem_range.1 hj))
 unfold lockL
 rw [h1,h2];unfold brsL;rfl
set_option maxHeartbeats 1000000 in
theorem g8_spec (s:ByteArray) (hm:s.size≤1000000) (w:World):K.Spec Tryz.prog F.kedgeref08_Get [.string s] w fun r w'=>SlE brE w' r (lockL s)∧(∀b∈blkOf r,w.heap.size≤b)∧Ext w w':=by
 have bad:∀{w':World},Ext w w'→lockL s= []→SlE brE w' (.slice none 0 0) (lockL s)∧(∀b∈blkOf (.slice none 0 0),w.heap.size≤b)∧Ext w w':=fun x e=>⟨by rw [e];exact SlE.nil _,fun b hb=>absurd hb (by simp [blkOf]),x⟩
 by_cases hz:s.size=9∨s.size=17∨s.size=25
 ·have hbase:∀n:Nat,s.size=1+8*n→1≤n→n≤3→lockN s=n∧binVal .quo (.int .i64 ((s.size:Int) - 1)) (.int .i64 8)=some (.int .i64 (n:Nat)):=fun n hn hn1 hn3=>by
   refine ⟨by unfold lockN;omega,?_⟩
   have e:=quoN ((s.size:Int) - 1) 8 (by decide) (by omega)
   rw [show ((s.size:Nat):Int) - 1=((8*n:Nat):Int) by omega,td,show 8*n / 8=n by omega] at e
   rw [show ((s.size:Nat):Int) - 1=((8*n:Nat):Int) by omega]
   exact e
  have h0s:0<s.size:=by omega
  have hb0:=byteAt_get h0s
  have hb8:=s[0].toNat_lt
  generalize hB:s[0].toNat=b at hb0 hb8
  have hz0:=hz
  rcases hz with hz|hz|hz
  all_goals
   obtain ⟨n,hn,hn1,hn3⟩:∃n:Nat,s.size=1+8*n∧1≤n∧n≤3:=by
    first
     |exact ⟨1,by omega,by omega,by omega⟩
     |exact ⟨2,by omega,by omega,by omega⟩
     |exact ⟨3,by omega,by omega,by omega⟩
   obtain ⟨hN,hq⟩:=hbase n hn hn1 hn3
   refine s_kedgeref08_Get rfl ?_
   unfold k_kedgeref08_Get
   refine oy ?_
   repeat' (first|(refine st_mul (d:=some 42) (a:=8) (b:=(i:Nat)) rfl rfl (by omega) ?_)|(refine st_bin (d:=some 28) rfl rfl hq ?_)|(refine st_idxS (d:=some 30) (k:=.i64) (n:=0) rfl rfl h0s ?_;rw [hB])|(refine st_fixV (d:=some 31) (.int .i64 (b:Nat)) rfl (congrArg (fun n=>some (Value.int .i64 n)) (wrap_n8 (by omega))) ?_)|(refine zN (x:=.tmp 33) (p:=((b:Nat):Int)=((n:Nat):Int)) rfl (fun h=>?_) (fun h=>?_))|(refine c_loopV (fun (p:Nat × Value) w'=>Ext w w'∧p.1≤n∧Own brE T.api_Branch w.heap.size w' p.2 ((List.range p.1).map (brAt s))∧∀j,j<p.1→numAt s (5+8*j) 4≤1000000) (fun p=> [(0,.string s),(3,.int .i64 (n:Nat)),(4,p.2),(5,.int .i64 (p.1:Nat))]) (fun p=>n - p.1) (0,.slice none 0 0) ⟨rfl,rfl,rfl,rfl,trivial⟩ ⟨Ext.refl _,by simp,Own.nil _ _ _,fun j hj=>absurd hj (by simp)⟩ ?_;rintro ⟨i,v4⟩ ρ w3 ⟨x3,hi,ho,hlow⟩;simp only at hi ho hlow;dsimp only)|(refine zL (x:=.tmp 36) (p:=((i:Nat):Int)<((n:Nat):Int)) rfl (fun h=>?_) (fun h=>?_))|(first|refine go1 ?_|refine zg (fun _ _=>?_)|refine zi (fun _ _=>?_))|(first|refine zJ rfl (fun hh=>absurd hh (by omega)) (fun hh=>?_)|refine zJ rfl (fun hh=>?_) (fun hh=>absurd hh (by omega))|refine zJ rfl (fun hh=>?_) (fun hh=>?_)|refine g_splitN rfl (fun hh=>absurd hh (by omega)) (fun hh=>?_)|refine g_splitN rfl (fun hh=>?_) (fun hh=>absurd hh (by omega))|refine g_splitN rfl (fun hh=>?_) (fun hh=>?_))|(first|refine zL rfl (fun hh=>absurd hh (by omega)) (fun _=>?_)|refine zN rfl (fun hh=>absurd hh (by omega)) (fun _=>?_)|refine zz rfl ?_))
   ·exact x_ret rfl (bad (Ext.refl _) (lock_first (by rw [hb0,hN];omega)))
   ·have hin:i<n:=by omega
    have q1:=numAt_lt s 2 (1+8*i)
    have q2:=numAt_lt s 2 (3+8*i)
    have q3:=numAt_lt s 4 (5+8*i)
    repeat' (first|(refine st_mul (d:=some 42) (a:=8) (b:=(i:Nat)) rfl rfl (by omega) ?_)|(refine st_mul (d:=some 50) (a:=8) (b:=(i:Nat)) rfl rfl (by omega) ?_)|(refine st_mul (d:=some 58) (a:=8) (b:=(i:Nat)) rfl rfl (by omega) ?_)|(refine zC (d:=some 44) (congrArg (fun z=> [Value.string s,Value.int .i64 z,Value.int .i64 2]) (by omega)) (rget_spec s (1+8*i) 2 (by decide) (by omega) (by omega) _) ?_;rintro _ w4 ⟨rfl,x4⟩)|(refine zC (d:=some 52) (congrArg (fun z=> [Value.string s,Value.int .i64 z,Value.int .i64 2]) (by omega)) (rget_spec s (3+8*i) 2 (by decide) (by omega) (by omega) _) ?_;rintro _ w5 ⟨rfl,x5⟩)|(refine zC (d:=some 60) (congrArg (fun z=> [Value.string s,Value.int .i64 z,Value.int .i64 4]) (by omega)) (rget_spec s (5+8*i) 4 (by decide) (by omega) (by omega) _) ?_;rintro _ w6 ⟨rfl,x6⟩)|(refine zL (x:=.tmp 64) (p:=((numAt s (5+8*i) 4:Nat):Int)>1000000) rfl (fun h6=>?_) (fun h6=>?_))|(refine st_fixV (d:=some 67) (.int .u16 (numAt s (1+8*i) 2:Nat)) rfl (congrArg (fun n=>some (Value.int .u16 n)) (u16_wrap q1)) ?_)|(refine st_fixV (d:=some 69) (.int .u16 (numAt s (3+8*i) 2:Nat)) rfl (congrArg (fun n=>some (Value.int .u16 n)) (u16_wrap q2)) ?_)|(refine st_fixV (d:=some 71) (.int .u32 (numAt s (5+8*i) 4:Nat)) rfl (congrArg (fun n=>some (Value.int .u32 n)) (u32_wrap q3)) ?_)|(refine st_build (d:=some 72) (cs:=brE.f (brAt s i)) rfl ?_)|(refine zI (d:=some 73) (cs:=brE.f (brAt s i)) rfl (fun b9 w9 x9 a9 hb9=>?_))|(refine st_append (d:=some 74) (E:=brE) (v:=v4) (l2:= [brAt s i]) rfl (ho.ext (by exact fx)) (Ext.size (w:=w) (by exact fx)) rfl rfl (sl_new a9 rfl) rfl rfl (by simp;omega) (fun v10 w10 o10 c10=>?_))|(first|refine go1 ?_|refine zg (fun _ _=>?_)|refine zi (fun _ _=>?_)))
    ·exact x_ret rfl (bad (by exact fx) (lock_high (by rw [hN];exact hin) (by omega)))
    ·refine ⟨(i+1,v10),⟨rfl,rfl,rfl,rfl,trivial⟩,⟨(Ext.chg (w:=w) (by exact fx) c10).mono (fun b hb=>.inr (ho.base b hb)),by simp only;omega,by simp only;rw [brs_take];exact o10,fun j hj=>?_⟩,by simp only;omega⟩
     simp only at hj
     rcases Nat.lt_or_ge j i with h7|h7
     ·exact hlow j h7
     ·have:j=i:=by omega
      subst this;omega
   ·have ei:i=n:=by omega
    subst ei
    have e:=lock_yes hz0 (by rw [hb0,hN];omega) (fun j hj=>hlow j (by omega))
    rw [hN] at e
    rw [e]
    repeat' (first|refine go1 ?_|refine zg (fun _ _=>?_)|refine zi (fun _ _=>?_))
    exact x_ret rfl ⟨ho.sl,ho.base,x3⟩
 ·have e:=lock_no hz
  simp only [not_or] at hz
  refine s_kedgeref08_Get rfl ?_
  unfold k_kedgeref08_Get
  refine oy ?_
  repeat' (first|(first|refine go1 ?_|refine zg (fun _ _=>?_)|refine zi (fun _ _=>?_))|(first|refine zJ rfl (fun hh=>absurd hh (by omega)) (fun hh=>?_)|refine zJ rfl (fun hh=>?_) (fun hh=>absurd hh (by omega))|refine zJ rfl (fun hh=>?_) (fun hh=>?_)|refine g_splitN rfl (fun hh=>absurd hh (by omega)) (fun hh=>?_)|refine g_splitN rfl (fun hh=>?_) (fun hh=>absurd hh (by omega))|refine g_splitN rfl (fun hh=>?_) (fun hh=>?_))|(first|refine zL rfl (fun _=>?_) (fun hh=>absurd (by omega) hh)|refine zN rfl (fun _=>?_) (fun hh=>absurd hh (by omega))|refine zy rfl ?_))
  all_goals exact x_ret rfl (bad (Ext.refl _) e)
theorem sign_no {l:List ByteArray} (h:¬(l.length=1∧(l.headD default).size=3∧byteAt (l.headD default) 0<3)):signL l=none:=by unfold signL;rw [if_neg h]
def sgV (l:List ByteArray):Value:=match signL l with
 |none=>.tuple #[.int .i64 (-1),.int .i64 0]
 |some p=>.tuple #[.int .i64 (p.1:Nat),.int .i64 (p.2:Nat)]
theorem s8_spec {v:Value} {l:List ByteArray} (w:World) (hv:SlE strE w v l) (hz:∀z∈l,z.size≤1000000):K.Spec Tryz.prog F.kedgeref08_Signed [v] w fun r w'=>r=sgV l∧Ext w w':=by
 have bad:signL l=none→sgV l=.tuple #[.int .i64 (-1),.int .i64 0]:=fun e=>by unfold sgV;rw [e]
 by_cases h1:l.length=1
 ·obtain ⟨z,rfl⟩:=List.length_eq_one_iff.1 h1
  by_cases h3:z.size=3
  ·have b0:=byteAt_get (s:=z) (i:=0) (by omega)
   have b1:=byteAt_get (s:=z) (i:=1) (by omega)
   have b2:=byteAt_get (s:=z) (i:=2) (by omega)
   have l0:=z[0].toNat_lt
   have l1:=z[1].toNat_lt
   have l2:=z[2].toNat_lt
   by_cases h0:byteAt z 0<3
   ·have e:sgV [z]=.tuple #[.int .i64 (byteAt z 0:Nat),.int .i64 (numAt z 1 2:Nat)]:=by
     unfold sgV
     have:signL [z]=some (byteAt z 0,numAt z 1 2):=by unfold signL;rw [if_pos ⟨rfl,h3,h0⟩];rfl
     rw [this]
    have hn2:=numAt_two z 1
    rw [e,hn2,b0,b1,show 1+1=2 by rfl,b2]
    rw [b0] at h0
    generalize hc0:z[0].toNat=c0 at*
    generalize hc1:z[1].toNat=c1 at*
    generalize hc2:z[2].toNat=c2 at*
    refine s_kedgeref08_Signed rfl ?_
    unfold k_kedgeref08_Signed
    refine oy ?_
    repeat' (first|(refine st_len (d:=some 5) rfl (SlE.ext (w:=w) (by exact fx) hv) ?_)|(refine st_elemE (d:=some 9) (E:=strE) rfl rfl (n:=0) (l:= [z]) (SlE.ext (w:=w) (by exact fx) hv) rfl (by simp) (fun ad9 (r9:Row _ ad9 [Value.string z])=>?_))|(refine st_elemE (d:=some 16) (E:=strE) rfl rfl (n:=0) (l:= [z]) (SlE.ext (w:=w) (by exact fx) hv) rfl (by simp) (fun ad16 (r16:Row _ ad16 [Value.string z])=>?_))|(refine st_elemE (d:=some 22) (E:=strE) rfl rfl (n:=0) (l:= [z]) (SlE.ext (w:=w) (by exact fx) hv) rfl (by simp) (fun ad22 (r22:Row _ ad22 [Value.string z])=>?_))|(refine st_elemE (d:=some 27) (E:=strE) rfl rfl (n:=0) (l:= [z]) (SlE.ext (w:=w) (by exact fx) hv) rfl (by simp) (fun ad27 (r27:Row _ ad27 [Value.string z])=>?_))|(refine st_elemE (d:=some 32) (E:=strE) rfl rfl (n:=0) (l:= [z]) (SlE.ext (w:=w) (by exact fx) hv) rfl (by simp) (fun ad32 (r32:Row _ ad32 [Value.string z])=>?_))|(refine st_idxS (d:=some 18) (k:=.i64) (n:=0) rfl rfl (by omega) ?_;rw [hc0])|(refine st_idxS (d:=some 24) (k:=.i64) (n:=0) rfl rfl (by omega) ?_;rw [hc0])|(refine st_idxS (d:=some 29) (k:=.i64) (n:=1) rfl rfl (by omega) ?_;rw [hc1])|(refine st_idxS (d:=some 34) (k:=.i64) (n:=2) rfl rfl (by omega) ?_;rw [hc2])|(refine st_fixV (d:=some 25) (.int .i64 (c0:Nat)) rfl (congrArg (fun n=>some (Value.int .i64 n)) (wrap_n8 (by omega))) ?_)|(refine st_fixV (d:=some 30) (.int .i64 (c1:Nat)) rfl (congrArg (fun n=>some (Value.int .i64 n)) (wrap_n8 (by omega))) ?_)|(refine st_fixV (d:=some 35) (.int .i64 (c2:Nat)) rfl (congrArg (fun n=>some (Value.int .i64 n)) (wrap_n8 (by omega))) ?_)|(refine st_mul (d:=some 36) (a:=256) (b:=(c2:Nat)) rfl rfl (by omega) ?_)|(refine st_fixV (d:=some 37) (.int .i64 ((c1+256*c2:Nat):Int)) rfl (congrArg (fun n=>some (Value.int .i64 n)) (by rw [show ((c1:Nat):Int)+256*((c2:Nat):Int)=((c1+256*c2:Nat):Int) by omega];exact IntWalk.i64_in _ (by omega))) ?_)|(first|refine go1 ?_|refine zg (fun _ _=>?_)|refine zi (fun _ _=>?_))|(first|refine zJ rfl (fun hh=>absurd hh (by omega)) (fun hh=>?_)|refine zJ rfl (fun hh=>?_) (fun hh=>absurd hh (by omega))|refine zJ rfl (fun hh=>?_) (fun hh=>?_)|refine g_splitN rfl (fun hh=>absurd hh (by omega)) (fun hh=>?_)|refine g_splitN rfl (fun hh=>?_) (fun hh=>absurd hh (by omega))|refine g_splitN rfl (fun hh=>?_) (fun hh=>?_))|(first|refine zL rfl (fun hh=>absurd hh (by omega)) (fun _=>?_)|refine zN rfl (fun hh=>absurd hh (by omega)) (fun _=>?_)|refine zz rfl ?_))
    exact x_ret rfl ⟨rfl,by exact fx⟩
   ·have e:=bad (sign_no (fun q=>h0 q.2.2))
    rw [e]
    rw [b0] at h0
    generalize hc0:z[0].toNat=c0 at*
    refine s_kedgeref08_Signed rfl ?_
    unfold k_kedgeref08_Signed
    refine oy ?_
    repeat' (first|(refine st_len (d:=some 5) rfl (SlE.ext (w:=w) (by exact fx) hv) ?_)|(refine st_elemE (d:=some 9) (E:=strE) rfl rfl (n:=0) (l:= [z]) (SlE.ext (w:=w) (by exact fx) hv) rfl (by simp) (fun ad9 (r9:Row _ ad9 [Value.string z])=>?_))|(refine st_elemE (d:=some 16) (E:=strE) rfl rfl (n:=0) (l:= [z]) (SlE.ext (w:=w) (by exact fx) hv) rfl (by simp) (fun ad16 (r16:Row _ ad16 [Value.string z])=>?_))|(refine st_idxS (d:=some 18) (k:=.i64) (n:=0) rfl rfl (by omega) ?_;rw [hc0])|(first|refine go1 ?_|refine zg (fun _ _=>?_)|refine zi (fun _ _=>?_))|(first|refine zJ rfl (fun hh=>absurd hh (by omega)) (fun hh=>?_)|refine zJ rfl (fun hh=>?_) (fun hh=>absurd hh (by omega))|refine zJ rfl (fun hh=>?_) (fun hh=>?_)|refine g_splitN rfl (fun hh=>absurd hh (by omega)) (fun hh=>?_)|refine g_splitN rfl (fun hh=>?_) (fun hh=>absurd hh (by omega))|refine g_splitN rfl (fun hh=>?_) (fun hh=>?_))|(first|refine zL rfl (fun _=>?_) (fun hh=>absurd (by omega) hh)|refine zN rfl (fun _=>?_) (fun hh=>absurd hh (by omega))|refine zy rfl ?_))
    exact x_ret rfl ⟨rfl,by exact fx⟩
  ·have e:=bad (sign_no (l:= [z]) (fun q=>h3 q.2.1))
   rw [e]
   refine s_kedgeref08_Signed rfl ?_
   unfold k_kedgeref08_Signed
   refine oy ?_
   repeat' (first|(refine st_len (d:=some 5) rfl (SlE.ext (w:=w) (by exact fx) hv) ?_)|(refine st_elemE (d:=some 9) (E:=strE) rfl rfl (n:=0) (l:= [z]) (SlE.ext (w:=w) (by exact fx) hv) rfl (by simp) (fun ad9 (r9:Row _ ad9 [Value.string z])=>?_))|(first|refine go1 ?_|refine zg (fun _ _=>?_)|refine zi (fun _ _=>?_))|(first|refine zJ rfl (fun hh=>absurd hh (by omega)) (fun hh=>?_)|refine zJ rfl (fun hh=>?_) (fun hh=>absurd hh (by omega))|refine zJ rfl (fun hh=>?_) (fun hh=>?_)|refine g_splitN rfl (fun hh=>absurd hh (by omega)) (fun hh=>?_)|refine g_splitN rfl (fun hh=>?_) (fun hh=>absurd hh (by omega))|refine g_splitN rfl (fun hh=>?_) (fun hh=>?_))|(first|refine zL rfl (fun _=>?_) (fun hh=>absurd (by omega) hh)|refine zN rfl (fun _=>?_) (fun hh=>absurd hh (by omega))|refine zy rfl ?_))
   all_goals exact x_ret rfl ⟨rfl,by exact fx⟩
 ·have e:=bad (sign_no (fun q=>h1 q.1))
  rw [e]
  refine s_kedgeref08_Signed rfl ?_
  unfold k_kedgeref08_Signed
  refine oy ?_
  repeat' (first|(refine st_len (d:=some 5) rfl (SlE.ext (w:=w) (by exact fx) hv) ?_)|(first|refine go1 ?_|refine zg (fun _ _=>?_)|refine zi (fun _ _=>?_))|(first|refine zJ rfl (fun hh=>absurd hh (by omega)) (fun hh=>?_)|refine zJ rfl (fun hh=>?_) (fun hh=>absurd hh (by omega))|refine zJ rfl (fun hh=>?_) (fun hh=>?_)|refine g_splitN rfl (fun hh=>absurd hh (by omega)) (fun hh=>?_)|refine g_splitN rfl (fun hh=>?_) (fun hh=>absurd hh (by omega))|refine g_splitN rfl (fun hh=>?_) (fun hh=>?_))|(first|refine zL rfl (fun _=>?_) (fun hh=>absurd (by omega) hh)|refine zN rfl (fun _=>?_) (fun hh=>absurd hh (by omega))|refine zy rfl ?_))
  all_goals exact x_ret rfl ⟨rfl,by exact fx⟩
end Go.Proofs.YtfebcajheojodaaGreatDoor
end
