/- Contracts: the reference's list of entries, with one more or -/
import Derived.Test.YtgloknkcfchnlaaGreatZ19
set_option linter.unusedVariables false
set_option linter.unusedSimpArgs false
namespace Go.Proofs.YtgloknkcfchnlaaGreat
section
open Go Go.K
attribute [local irreducible] aF aP bG KOp.wp K.Spec u32 leS vnS str aR dE bS idT aO aE aQ
theorem aG2 {α:Type} {l:List α} {n i:Nat} (h:i<l.length):(l.take (i+1)).eraseIdx n=if i=n then (l.take i).eraseIdx n else (l.take i).eraseIdx n++ [l[i]]:=by
 rw [List.take_succ_eq_append_getElem h]
 by_cases e:i=n
 ·subst e
  rw [if_pos rfl,List.eraseIdx_append_of_length_le (by rw [List.length_take];omega)]
  rw [List.length_take,Nat.min_eq_left (by omega),Nat.sub_self]
  rw [List.eraseIdx_of_length_le (l:=l.take i) (by rw [List.length_take];omega)]
  simp
 ·rw [if_neg e]
  rcases Nat.lt_or_ge n i with h1|h1
  ·rw [List.eraseIdx_append_of_lt_length (by rw [List.length_take];omega)]
  ·rw [List.eraseIdx_of_length_le (l:=l.take i) (by rw [List.length_take];omega),List.eraseIdx_of_length_le (by simp;omega)]
theorem aLz {t:Tx} (h:aE t=0):jX t=true∧aA3 t=false∧kU t=true∧aBq t=false∧lM (values t)=0:=by
 unfold aE at h
 by_cases h1:jX t=true
 ·by_cases h2:aA3 t=true
  ·rw [h1,h2] at h;simp at h
  ·by_cases h3:kU t=true
   ·by_cases h4:aBq t=true
    ·rw [h1,h3,h4] at h;simp at h;exact absurd h (by split<;>decide)
    ·simp only [Bool.not_eq_true] at h2 h4
     rw [h1,h2,h3,h4] at h
     exact ⟨h1,h2,h3,h4,by simpa using h⟩
   ·simp only [Bool.not_eq_true] at h2 h3
    rw [h1,h2,h3] at h;simp at h
 ·simp only [Bool.not_eq_true] at h1
  rw [h1] at h;simp at h
theorem lE {t:Tx} (h:aE t=0):t.Sm:=by
 have h1:=(aLz h).1
 unfold jX at h1
 simp only [Bool.and_eq_true,decide_eq_true_eq,Bool.not_eq_true',List.any_eq_false,Int.not_lt,gt_iff_lt] at h1
 exact ⟨by omega,by omega,fun x hx=>by have:=h1.2 x hx;omega⟩
theorem aPk {t:Tx} (h:aE t=0):∃hi:0<t.ins.length,lJ t.ins[0].p=aQ t:=by
 have hp:=aLz h
 have h1:=hp.1
 unfold jX at h1
 simp only [Bool.and_eq_true,decide_eq_true_eq] at h1
 have hi:0<t.ins.length:=by omega
 refine ⟨hi,?_⟩
 unfold aQ
 by_cases hl:t.ins.length=1
 ·rw [dTr hl,Bool.true_and,bFx hi]
 ·rw [dFa hl,Bool.false_and]
  have h3:=hp.2.2.1
  unfold kU at h3
  simp only [Bool.not_eq_true',List.any_eq_false] at h3
  have h4:=h3 _ (gMe hi)
  unfold aAd at h4
  simp only [Bool.or_eq_true,not_or,Bool.and_eq_true,decide_eq_true_eq,not_and] at h4
  by_cases hb:lJ t.ins[0].p=true
  ·exact absurd (by omega) (h4.2 hb)
  ·simpa using hb
end
section
open Go Go.K
attribute [local irreducible] aF aP bG KOp.wp K.Spec u32 leS vnS str aR dE bS idT aO aE aQ
theorem u8_xor (a b:UInt8):bZ .xor (.int .u8 (a.toNat:Nat)) (.int .u8 (b.toNat:Nat))=some (.int .u8 ((a^^^b).toNat:Nat)):=by
 have e:∀x:UInt8,BitVec.ofInt 8 (x.toNat:Nat)=x.toBitVec:=fun x=>by
  apply BitVec.eq_of_toNat_eq
  have:=x.toNat_lt
  simp [BitVec.toNat_ofInt]
 simp only [bZ,dY,Bool.false_eq_true,if_false,if_true,dS,IntKind.bits]
 rw [e,e]
 refine congrArg some (congrArg (Value.int .u8) ?_)
 have h:IntKind.u8.wrap ((a.toBitVec^^^b.toBitVec).toNat:Nat)=(((a^^^b).toNat:Nat):Int)%256:=rfl
 refine h.trans ?_
 have:=(a^^^b).toNat_lt
 omega
theorem bSa (n i:Nat):bZ .shr (.int .i64 (n:Nat)) (.int .i64 ((i%8:Nat):Int))=some (.int .i64 ((n / 2^(i%8):Nat):Int)):=by
 simp only [bZ,dY,if_true]
 rw [if_neg (by omega)]
 have e:min ((i%8:Nat):Int).toNat IntKind.i64.bits=i%8:=by simp [IntKind.bits];omega
 rw [e,Int.fdiv_eq_ediv_of_nonneg _ (by exact_mod_cast Nat.zero_le _)]
 norm_cast
section
variable {P:Program} {d:Option Tmp} {r:KR} {K:Env→World→Prop} {ρ:Env} {w:World}
theorem bRi {x:Operand} {n:Nat} (hx:ev ρ x=.int .i64 (n:Nat)) (k:aF P r K (put ρ d (.int .u8 ((UInt8.ofNat n).toNat:Nat))) w):aF P (.cons ⟨d,.conv .u8 x,none⟩ r) K ρ w:=
 dH rfl (by simp only [KOp.fix,hx];rw [aFg]) k
end
theorem aZp (n:Nat) (w:World):K.Spec Tryz.prog F.kedgeref05_ID [.int .i64 (n:Nat)] w fun r w'=>r=.string (idN n)∧Ext w w':=by
 refine aOc rfl ?_
 unfold aCq
 refine oy ?_
 repeat' (first|refine aD2 (n:=i) (m:=8) rfl rfl (by decide) ?_|refine cR rfl rfl (bSa n i) ?_|refine bRi rfl ?_|refine cR rfl rfl (u8_xor (UInt8.ofNat (n / 2^(i%8))) (UInt8.ofNat i)) ?_|refine go1 ?_|refine zg λ_ _=>?_|refine zi λ_ _=>?_|refine zL rfl (fun h=>?_) (fun h=>?_)|(refine aI (fun (i:Nat) w'=>Ext w w'∧i≤32) (fun i=> [(0,.int .i64 (n:Nat)),(3,.string (str (((List.range 32).map fun i=>UInt8.ofNat (n / 2^(i%8))^^^UInt8.ofNat i).take i))),(4,.int .i64 i)]) (fun i=>32 - i) 0 ⟨rfl,congrArg Value.string bF0.symm,rfl,trivial⟩ ⟨Ext.refl _,by omega⟩ ?_;rintro i ρ w1 ⟨x1,hi⟩)|refine zI rfl (fun b w2 x2 a2 hb=>?_)|refine tY (l:= [UInt8.ofNat (n / 2^(i%8))^^^UInt8.ofNat i]) rfl (SlE.new (E:=u8E) a2 rfl (Nat.le_refl _)) ?_|refine mE rfl rfl (by rw [iA,iA];simp;omega) ?_)
 ·exact ⟨i+1,⟨rfl,congrArg Value.string (bKs n i (by omega)).symm,rfl,trivial⟩,⟨by exact fx,by omega⟩,by omega⟩
 ·exact aA rfl ⟨congrArg Value.string (by rw [idN,tLe (by simp;omega)]),by exact fx⟩
set_option maxHeartbeats 1000000 in
theorem aU9 {M N:List Nat} {cs ds:List Value} {t:Tx} (w:World) (ht:txR.rel M w cs t) (hu:txR.rel N w ds t) (hs:t.Sm):K.Spec Tryz.prog F.kedgeref05_Same [.agg cs.toArray,.agg ds.toArray] w fun r w'=>r=.bool true∧Ext w w':=by
 obtain ⟨iv,ov,rfl,h1,h2,h3⟩:=ht
 obtain ⟨iv2,ov2,rfl,g1,g2,g3⟩:=hu
 have hq1:=hs.ins
 have hq2:=hs.outs
 refine aKa rfl ?_
 unfold xT
 refine oy ?_
 repeat' (first|refine go1 ?_|refine zg λ_ _=>?_|refine zi λ_ _=>?_|refine zD rfl rfl (fun bp wp xp ap (rp:Row wp ⟨bp,0,none⟩ (aJ t iv ov)) hp0=>?_)|refine zD rfl rfl (fun bq wq xq aq (rq:Row wq ⟨bq,0,none⟩ (aJ t iv2 ov2)) hq0=>?_)|refine zK rfl (fun h=>absurd h (by simp)) (fun _=>?_)|refine zN rfl (fun h=>absurd rfl h) (fun _=>?_)|refine zL rfl (fun h=>?_) (fun h=>?_)|refine aFn (E:=inR) (M:=M) (l:=t.ins) rfl (SlR.ext (w:=w) h1 (by exact fx)) ?_|refine aFn (E:=inR) (M:=N) (l:=t.ins) rfl (SlR.ext (w:=w) g1 (by exact fx)) ?_|refine aFn (E:=fS) (M:=M) (l:=t.outs) rfl (SlR.ext (w:=w) h2 (by exact fx)) ?_|refine aFn (E:=fS) (M:=N) (l:=t.outs) rfl (SlR.ext (w:=w) g2 (by exact fx)) ?_|(refine aI (fun (i:Nat) w'=>Ext wq w'∧i≤t.ins.length) (fun i=> [(2,.pointer (some ⟨bp,0,none⟩)),(3,.pointer (some ⟨bq,0,none⟩)),(5,.int .i64 i)]) (fun i=>t.ins.length - i) 0 ⟨rfl,rfl,rfl,trivial⟩ ⟨Ext.refl _,by omega⟩ ?_;rintro i ρ w1 ⟨x1,hi⟩)|(refine aM (d:=some 50) (E:=inR) (M:=M) rfl rfl (n:=i) (l:=t.ins) (SlR.ext (w:=w) h1 (by exact fx)) rfl (by omega) (fun ad cs r4 he=>?_);obtain ⟨wv,rfl,hw,_⟩:=he;obtain ⟨bs1,cp1,rfl⟩:=hw.form)|(refine aM (d:=some 55) (E:=inR) (M:=N) rfl rfl (n:=i) (l:=t.ins) (SlR.ext (w:=w) g1 (by exact fx)) rfl (by omega) (fun ad cs r4 he=>?_);obtain ⟨wv2,rfl,hw2,_⟩:=he;obtain ⟨bs2,cp2,rfl⟩:=hw2.form)|(refine aM (d:=some 117) (E:=fS) (M:=M) rfl rfl (n:=k) (l:=t.outs) (SlR.ext (w:=w) h2 (by exact fx)) rfl (by omega) (fun ad cs r4 he=>?_);obtain ⟨rfl,_⟩:=he)|(refine aM (d:=some 123) (E:=fS) (M:=N) rfl rfl (n:=k) (l:=t.outs) (SlR.ext (w:=w) g2 (by exact fx)) rfl (by omega) (fun ad cs r4 he=>?_);obtain ⟨rfl,_⟩:=he)|(refine aM (d:=some 131) (E:=fS) (M:=M) rfl rfl (n:=k) (l:=t.outs) (SlR.ext (w:=w) h2 (by exact fx)) rfl (by omega) (fun ad cs r4 he=>?_);obtain ⟨rfl,_⟩:=he)|(refine aM (d:=some 137) (E:=fS) (M:=N) rfl rfl (n:=k) (l:=t.outs) (SlR.ext (w:=w) g2 (by exact fx)) rfl (by omega) (fun ad cs r4 he=>?_);obtain ⟨rfl,_⟩:=he)|refine zE (fun _=>rfl) rfl rfl rfl (fun b6 w6 x6 a6 (r6:Row w6 ⟨b6,0,none⟩ (eJ t.ins[i] (.slice bs1 t.ins[i].wit.length cp1))) hb6=>?_)|(refine zE (fun _=>rfl) rfl rfl rfl (fun b7 w7 x7 a7 (r7:Row w7 ⟨b7,0,none⟩ (eJ t.ins[i] (.slice bs2 t.ins[i].wit.length cp2))) hb7=>?_);have hwl:=hs.wit _ (gMe (show i<t.ins.length by omega)))|(refine aI (fun (j:Nat) w'=>Ext w7 w'∧j≤t.ins[i].wit.length) (fun j=> [(2,.pointer (some ⟨bp,0,none⟩)),(3,.pointer (some ⟨bq,0,none⟩)),(5,.int .i64 i),(6,.pointer (some ⟨b6,0,none⟩)),(7,.pointer (some ⟨b7,0,none⟩)),(8,.int .i64 j)]) (fun j=>t.ins[i].wit.length - j) 0 ⟨rfl,rfl,rfl,rfl,rfl,rfl,trivial⟩ ⟨Ext.refl _,by omega⟩ ?_;rintro j ρ8 w8 ⟨x8,hj⟩)|refine aFn (E:=pP) (l:=t.ins[i].wit) rfl (by exact fx) ?_|(refine aM (d:=some 99) (E:=pP) rfl rfl (n:=j) (l:=t.ins[i].wit) (SlR.ext hw (by exact fx)) rfl (by omega) (fun ad cs r4 he=>?_);subst he)|(refine aM (d:=some 104) (E:=pP) rfl rfl (n:=j) (l:=t.ins[i].wit) (SlR.ext hw2 (by exact fx)) rfl (by omega) (fun ad cs r4 he=>?_);subst he)|(refine aI (fun (k:Nat) w'=>Ext wq w'∧k≤t.outs.length) (fun k=> [(2,.pointer (some ⟨bp,0,none⟩)),(3,.pointer (some ⟨bq,0,none⟩)),(9,.int .i64 k)]) (fun k=>t.outs.length - k) 0 ⟨rfl,rfl,rfl,trivial⟩ ⟨by exact fx,by omega⟩ ?_;rintro k ρ9 w9 ⟨x9,hk⟩))
 all_goals first
  |exact ⟨i+1,⟨rfl,rfl,rfl,trivial⟩,⟨by exact fx,by omega⟩,by omega⟩
  |exact ⟨j+1,⟨rfl,rfl,rfl,rfl,rfl,rfl,trivial⟩,⟨by exact fx,by omega⟩,by omega⟩
  |exact ⟨k+1,⟨rfl,rfl,rfl,trivial⟩,⟨by exact fx,by omega⟩,by omega⟩
  |exact aA rfl ⟨rfl,by exact fx⟩
  |trace_state
end
section
open Go Go.K
attribute [local irreducible] aF aP bG KOp.wp K.Spec u32 leS vnS str aR dE bS idT aO aE aQ idN oW bB bT spends
abbrev dV (l:List Ent) (id:ByteArray):Ent:=(l.find? fun x=>decide (x.id=id)).getD default
abbrev eU (l:List Ent) (id:ByteArray):Bool:=l.any fun x=>decide (x.id=id)
theorem aEm {α:Type} {p:α→Bool} {l:List α}:(l.find? p).isSome=l.any p:=by
 rw [Bool.eq_iff_iff,List.find?_isSome,List.any_eq_true]
theorem aKn {l:List Ent} {id:ByteArray} {y:Ent} (h:(l.find? fun x=>decide (x.id=id))=some y):eU l id=true∧dV l id=y∧y∈l∧y.id=id:=by
 have h1:=aEm (p:=fun x:Ent=>decide (x.id=id)) (l:=l)
 rw [h] at h1
 exact ⟨h1.symm,by unfold dV;rw [h];rfl,List.mem_of_find?_eq_some h,by simpa using List.find?_some h⟩
theorem bK1 {l:List Ent} {id:ByteArray} (h:(l.find? fun x=>decide (x.id=id))=none):eU l id=false∧dV l id=default:=by
 have h1:=aEm (p:=fun x:Ent=>decide (x.id=id)) (l:=l)
 rw [h] at h1
 exact ⟨h1.symm,by unfold dV;rw [h];rfl⟩
theorem aXr:dM 0:=by unfold dM;omega
theorem bMe:sG 0:=by unfold sG;omega
set_option maxHeartbeats 2000000 in
theorem lQ {g:Nat} {M:List Nat} {l:List Ent} (id:ByteArray) (w:World) (hG:GrR w g M l) (hlt:∀b∈M,b<w.heap.size):K.Spec Tryz.prog F.graph_Graph_Get [.pointer (some ⟨g,0,none⟩),.string id] w fun r w'=>
  ∃ds,r=.tuple #[.agg ds.toArray,.bool (eU l id)]∧aOq w.heap.size M w' ds (dV l id)∧Ext w w':=by
 obtain ⟨b1,vo,b2,m,sp,hP⟩:=hG
 have rg:Row w ⟨g,0,none⟩ [.map (some b1),vo,.map (some b2)]:=Row.of_at hP.at_
 have hinv:=hP.inv
 refine xM rfl ?_
 unfold qP
 refine oy ?_
 repeat (first|refine go ?_|refine zg λ_ _=>?_|refine zi λ_ _=>?_)
 refine zH (fun b4 w4 x4 a4 hb4=>?_)
 have l4:=a4.lt
 have hmap:pO sK dC ([b4]++M) w4 b1 m:=hP.ents.step x4 (by simp) (by simp) (aCa (fun b hb=>by simp at hb;omega))
 repeat' (first|refine go1 ?_|refine zg λ_ _=>?_|refine zi λ_ _=>?_|refine wC (z:=.agg (bC default (.slice none 0 0) (.slice none 0 0)).toArray) (KE:=sK) (F:=dC) (k:=id) rfl rfl hmap rfl rfl (fun y cs hy hr=>?_) (fun hn=>?_))
 ·rw [hinv.ent] at hy
  obtain ⟨e1,e2,e3,e4⟩:=aKn hy
  rw [e1,e2]
  have hsm:y.tx.Sm:=lE (hinv.ok y e3).check
  obtain ⟨iv,ov,rfl,h1,h2,h3⟩:=hr
  repeat (first|refine go ?_|refine zg λ_ _=>?_|refine zi λ_ _=>?_)
  refine zE (fun _=>rfl) rfl rfl (by show (bC y iv ov).all _=true;simp [bC,h1.one,h2.one];exact ⟨rfl,rfl,rfl,rfl,rfl⟩) (fun b6 w6 x6 a6 (r6:Row w6 ⟨b6,0,none⟩ (bC y iv ov)) hb6=>?_)
  have l6:=a6.lt
  have s4:=x4.size
  have s6:=x6.size
  have hmem:∀b∈ [b6]++([b4]++M),b∈ [b4]++M∨w4.heap.size≤b:=aCa (fun b hb=>by simp at hb;omega)
  have h16:SlR inR ([b6]++([b4]++M)) w6 iv y.tx.ins:=h1.step x6 (by simp) hmem
  have h26:SlR fS ([b6]++([b4]++M)) w6 ov y.tx.outs:=h2.step x6 (by simp) hmem
  have hM6:∀b∈ [b6]++([b4]++M),b<w6.heap.size:=fun b hb=>by
   simp only [List.mem_append,List.mem_singleton] at hb
   rcases hb with h|h|h
   ·omega
   ·omega
   ·have:=hlt b h;omega
  repeat (first|refine go ?_|refine zg λ_ _=>?_|refine zi λ_ _=>?_)
  refine zC rfl (xQ (M:= [b6]++([b4]++M)) (cs:=aJ y.tx iv ov) (t:=y.tx) _ ⟨iv,ov,rfl,h16,h26,h3.1,h3.2.1⟩ hsm hM6) ?_
  rintro _ w7 ⟨cs7,rfl,⟨iv7,ov7,rfl,o1,o2,o3⟩,x7⟩
  repeat (first|refine go ?_|refine zg λ_ _=>?_|refine zi λ_ _=>?_)
  have g1:=o1.base
  have g2:=o2.base
  have e1:=o1.one
  have e2:=o2.one
  have s7:=x7.size
  refine aFw (o:=0) (b:=b6) (cur:=bC y iv ov) (vs:=aJ y.tx iv7 ov7) rfl rfl rfl (iK (by simp [aJ,e1,e2];exact ⟨rfl,rfl⟩)) (At.ext x7 a6) (Nat.le_of_ble_eq_true rfl) (fun w8 c8 a8=>?_)
  have a8:At w8 b6 (.cells (bC y iv7 ov7).toArray T.api_Entry (0,0)):=a8
  have r8:Row w8 ⟨b6,0,none⟩ (bC y iv7 ov7):=Row.of_at a8
  have x8:Unit→Ext w w8:=fun _=>(Ext.chg ((x4.trans x6).trans x7) c8).mono (by intro q hq;simp at hq;right;omega)
  have s8:=c8.size
  have a48:=At.chg c8 (At.ext x7 (At.ext x6 a4)) (by simp;omega)
  have h61:b6∉aB iv7:=fun h=>by have:=g1 _ h;omega
  have h62:b6∉aB ov7:=fun h=>by have:=g2 _ h;omega
  have p1:=o1.step (M':= [b4]++M) c8 (by intro q hq;simp at hq;subst hq;exact ⟨h61,.inl (by simp)⟩) (fun _ h=>.inl (List.mem_append_right _ h))
  have p2:=o2.step (M':= [b4]++M) c8 (by intro q hq;simp at hq;subst hq;exact ⟨h62,.inl (by simp)⟩) (fun _ h=>.inl (List.mem_append_right _ h))
  clear c8 x7 x6
  repeat (first|refine go ?_|refine zg λ_ _=>?_|refine zi λ_ _=>?_)
  refine aU (w0:=w) (vs:=bC y iv7 ov7) (x8 ()) (by omega) a48 rfl rfl rfl rfl (by simp [bC,e1,e2];exact ⟨rfl,rfl,rfl,rfl,rfl⟩) (fun w9 x9 c9 a9 r9=>?_)
  repeat (first|refine go ?_|refine zg λ_ _=>?_|refine zi λ_ _=>?_)
  have h41:b4∉aB iv7:=fun h=>by have:=g1 _ h;omega
  have h42:b4∉aB ov7:=fun h=>by have:=g2 _ h;omega
  have q1:=p1.step (M':=M) c9 (by intro q hq;simp at hq;subst hq;exact ⟨h41,.inl (by simp)⟩) (fun _ h=>.inl (List.mem_append_right _ h))
  have q2:=p2.step (M':=M) c9 (by intro q hq;simp at hq;subst hq;exact ⟨h42,.inl (by simp)⟩) (fun _ h=>.inl (List.mem_append_right _ h))
  exact aA (iR (bD r9 rfl rfl) bJ) ⟨_,rfl,⟨iv7,ov7,rfl,q1.lower (by omega),q2.lower (by omega),h3⟩,x9⟩
 ·rw [hinv.ent] at hn
  obtain ⟨e1,e2⟩:=bK1 hn
  rw [e1,e2]
  generalize hy:(default:Ent)=y
  generalize hq:bC y (.slice none 0 0) (.slice none 0 0)=cq
  have hsm:y.tx.Sm:=by subst hy;exact ⟨by decide,by decide,fun x hx=>by cases hx⟩
  obtain ⟨iv,hiv⟩:∃iv:Value,iv=.slice none 0 0:=⟨_,rfl⟩
  obtain ⟨ov,hov⟩:∃ov:Value,ov=.slice none 0 0:=⟨_,rfl⟩
  have h1:SlR inR ([b4]++M) w4 iv y.tx.ins:=by subst hy hiv;exact SlR.nil _ _
  have h2:SlR fS ([b4]++M) w4 ov y.tx.outs:=by subst hy hov;exact SlR.nil _ _
  have h3:dM y.tx.ver∧dM y.tx.lock∧sG y.fee∧sG y.size:=by subst hy;exact ⟨aXr,aXr,bMe,bMe⟩
  have hcq:cq=bC y iv ov:=by rw [←hq,hiv,hov]
  rw [hcq]
  clear hy hiv hov hq hcq
  repeat (first|refine go ?_|refine zg λ_ _=>?_|refine zi λ_ _=>?_)
  refine zE (fun _=>rfl) rfl rfl (by show (bC y iv ov).all _=true;simp [bC,h1.one,h2.one];exact ⟨rfl,rfl,rfl,rfl,rfl⟩) (fun b6 w6 x6 a6 (r6:Row w6 ⟨b6,0,none⟩ (bC y iv ov)) hb6=>?_)
  have l6:=a6.lt
  have s4:=x4.size
  have s6:=x6.size
  have hmem:∀b∈ [b6]++([b4]++M),b∈ [b4]++M∨w4.heap.size≤b:=aCa (fun b hb=>by simp at hb;omega)
  have h16:SlR inR ([b6]++([b4]++M)) w6 iv y.tx.ins:=h1.step x6 (by simp) hmem
  have h26:SlR fS ([b6]++([b4]++M)) w6 ov y.tx.outs:=h2.step x6 (by simp) hmem
  have hM6:∀b∈ [b6]++([b4]++M),b<w6.heap.size:=fun b hb=>by
   simp only [List.mem_append,List.mem_singleton] at hb
   rcases hb with h|h|h
   ·omega
   ·omega
   ·have:=hlt b h;omega
  repeat (first|refine go ?_|refine zg λ_ _=>?_|refine zi λ_ _=>?_)
  refine zC rfl (xQ (M:= [b6]++([b4]++M)) (cs:=aJ y.tx iv ov) (t:=y.tx) _ ⟨iv,ov,rfl,h16,h26,h3.1,h3.2.1⟩ hsm hM6) ?_
  rintro _ w7 ⟨cs7,rfl,⟨iv7,ov7,rfl,o1,o2,o3⟩,x7⟩
  repeat (first|refine go ?_|refine zg λ_ _=>?_|refine zi λ_ _=>?_)
  have g1:=o1.base
  have g2:=o2.base
  have e1:=o1.one
  have e2:=o2.one
  have s7:=x7.size
  refine aFw (o:=0) (b:=b6) (cur:=bC y iv ov) (vs:=aJ y.tx iv7 ov7) rfl rfl rfl (iK (by simp [aJ,e1,e2];exact ⟨rfl,rfl⟩)) (At.ext x7 a6) (Nat.le_of_ble_eq_true rfl) (fun w8 c8 a8=>?_)
  have a8:At w8 b6 (.cells (bC y iv7 ov7).toArray T.api_Entry (0,0)):=a8
  have r8:Row w8 ⟨b6,0,none⟩ (bC y iv7 ov7):=Row.of_at a8
  have x8:Unit→Ext w w8:=fun _=>(Ext.chg ((x4.trans x6).trans x7) c8).mono (by intro q hq;simp at hq;right;omega)
  have s8:=c8.size
  have a48:=At.chg c8 (At.ext x7 (At.ext x6 a4)) (by simp;omega)
  have h61:b6∉aB iv7:=fun h=>by have:=g1 _ h;omega
  have h62:b6∉aB ov7:=fun h=>by have:=g2 _ h;omega
  have p1:=o1.step (M':= [b4]++M) c8 (by intro q hq;simp at hq;subst hq;exact ⟨h61,.inl (by simp)⟩) (fun _ h=>.inl (List.mem_append_right _ h))
  have p2:=o2.step (M':= [b4]++M) c8 (by intro q hq;simp at hq;subst hq;exact ⟨h62,.inl (by simp)⟩) (fun _ h=>.inl (List.mem_append_right _ h))
  clear c8 x7 x6
  repeat (first|refine go ?_|refine zg λ_ _=>?_|refine zi λ_ _=>?_)
  refine aU (w0:=w) (vs:=bC y iv7 ov7) (x8 ()) (by omega) a48 rfl rfl rfl rfl (by simp [bC,e1,e2];exact ⟨rfl,rfl,rfl,rfl,rfl⟩) (fun w9 x9 c9 a9 r9=>?_)
  repeat (first|refine go ?_|refine zg λ_ _=>?_|refine zi λ_ _=>?_)
  have h41:b4∉aB iv7:=fun h=>by have:=g1 _ h;omega
  have h42:b4∉aB ov7:=fun h=>by have:=g2 _ h;omega
  have q1:=p1.step (M':=M) c9 (by intro q hq;simp at hq;subst hq;exact ⟨h41,.inl (by simp)⟩) (fun _ h=>.inl (List.mem_append_right _ h))
  have q2:=p2.step (M':=M) c9 (by intro q hq;simp at hq;subst hq;exact ⟨h42,.inl (by simp)⟩) (fun _ h=>.inl (List.mem_append_right _ h))
  exact aA (iR (bD r9 rfl rfl) bJ) ⟨_,rfl,⟨iv7,ov7,rfl,q1.lower (by omega),q2.lower (by omega),h3⟩,x9⟩
end
section
open Go Go.K
attribute [local irreducible] aF aP bG KOp.wp K.Spec u32 leS vnS str aR dE bS idT aO aE aQ idN oW bB bT spends
abbrev spE (l:List Ent) (p:Pt):Option Ent:=l.find? fun x=>spends x p
abbrev aGa (l:List Ent) (p:Pt):ByteArray:=((spE l p).map (·.id)).getD ⟨#[]⟩
theorem aIl {g:Nat} {M:List Nat} {l:List Ent} (p:Pt) (w:World) (hG:GrR w g M l):K.Spec Tryz.prog F.graph_Graph_Spender [.pointer (some ⟨g,0,none⟩),.agg p.cs.toArray] w fun r w'=>
  r=.tuple #[.string (aGa l p),.bool (spE l p).isSome]∧Ext w w':=by
 obtain ⟨b1,vo,b2,m,sp,hP⟩:=hG
 have rg:Row w ⟨g,0,none⟩ [.map (some b1),vo,.map (some b2)]:=Row.of_at hP.at_
 have hinv:=hP.inv
 refine aC2 rfl ?_
 unfold rA
 refine oy ?_
 repeat' (first|refine go1 ?_|refine zg λ_ _=>?_|refine zi λ_ _=>?_|refine zD rfl rfl (fun bp wp xp ap (rp:Row wp ⟨bp,0,none⟩ p.cs) hp0=>?_)|refine lU (E:=ptK) (fv:=Value.string) (k:=p) rfl rfl (hP.pts.ext (by exact fx)) rfl rfl (fun y hy=>?_) (fun hn=>?_))
 ·rw [hinv.spt] at hy
  obtain ⟨e,he,rfl⟩:=Option.map_eq_some_iff.1 hy
  have e1:aGa l p=e.id:=by unfold aGa spE;rw [he];rfl
  have e2:(spE l p).isSome=true:=by unfold spE;rw [he];rfl
  rw [e1,e2]
  exact aA rfl ⟨rfl,by exact fx⟩
 ·rw [hinv.spt,Option.map_eq_none_iff] at hn
  have e1:aGa l p=⟨#[]⟩:=by unfold aGa spE;rw [hn];rfl
  have e2:(spE l p).isSome=false:=by unfold spE;rw [hn];rfl
  rw [e1,e2]
  exact aA rfl ⟨rfl,by exact fx⟩
abbrev cV (l:List Ent) (p:Pt):Bool:=eU l p.s&&decide (p.i<((dV l p.s).tx.outs.length:Int))
theorem aA9 {g:Nat} {M:List Nat} {l:List Ent} (p:Pt) (hp:dM p.i) (w:World) (hG:GrR w g M l) (hM:∀b∈M,b<w.heap.size):K.Spec Tryz.prog F.graph_Graph_Out [.pointer (some ⟨g,0,none⟩),.agg p.cs.toArray] w fun r w'=>
  ∃o:TOut,r=.tuple #[.agg (iI o).toArray,.bool (cV l p)]∧(cV l p=true→(dV l p.s).tx.outs[p.i.toNat]? =some o)∧Ext w w':=by
 have hp9:0≤p.i∧p.i<4294967296:=hp
 refine yA rfl ?_
 unfold pS
 refine oy ?_
 repeat' (first|refine aD (d:=some 20) (.int .i64 p.i) rfl (congrArg (fun n=>some (Value.int .i64 n)) (bQf hp)) ?_|(refine aM (d:=some 33) (E:=fS) (M:= []) rfl (n:=p.i.toNat) (congrArg (Value.int .u32) (by unfold dM at hp;omega)) (l:=(dV l p.s).tx.outs) ((o26.sub (M':= []) (by simp)).sl (by simp)) rfl (by omega) (fun ad cs r7 he=>?_);obtain ⟨rfl,hv7⟩:=he)|refine go1 ?_|refine zg λ_ _=>?_|refine zi λ_ _=>?_|refine zD rfl rfl (fun bp wp xp ap (rp:Row wp ⟨bp,0,none⟩ p.cs) hp0=>?_)|refine zK rfl (fun h=>?_) (fun h=>?_)|refine zL rfl (fun h=>?_) (fun h=>?_)|refine zM rfl (fun h=>?_) (fun h=>?_)|refine zH (d:=some 4) (fun b4 w4 x4 a4 hb4=>?_)|(refine zC rfl (lQ (M:=M) p.s _ (hG.ext (by exact fx)) (fun b hb=>nLt (hM b hb) (Ext.size (by exact fx)))) ?_;rintro _ w5 ⟨ds,rfl,⟨iv,ov,rfl,o1,o2,o3⟩,x5⟩;have e1:=o1.one;have e2:=o2.one)|(refine zE (d':=6) (fun _=>rfl) rfl rfl (by show (bC (dV l p.s) iv ov).all _=true;simp [bC,e1,e2];exact ⟨rfl,rfl,rfl,rfl,rfl⟩) (fun b6 w6 x6 a6 (r6:Row w6 ⟨b6,0,none⟩ (bC (dV l p.s) iv ov)) hb6=>?_);have o26:=o2.ext x6)|refine zG (E:=fS) (M:= []) (l:=(dV l p.s).tx.outs) rfl ((o26.sub (M':= []) (by simp)).sl (by simp)) ?_|refine aT (d:=some 27) (cs:=iI ⟨0,⟨#[]⟩⟩) rfl ?_)
 ·have hh:eU l p.s=false:=by simpa using h
  have e:cV l p=false:=by unfold cV;rw [hh];rfl
  rw [e]
  refine aU (w0:=wp) (vs:=iI ⟨0,⟨#[]⟩⟩) (by exact fx) hb4 (by focus (repeat (first|assumption|(apply At.ext;assumption)))) rfl rfl rfl rfl rfl (fun w9 x9 c9 a9 r9=>?_)
  repeat (first|refine go ?_|refine zg λ_ _=>?_|refine zi λ_ _=>?_)
  exact aA (iR (bD r9 rfl rfl) bJ) ⟨⟨0,⟨#[]⟩⟩,rfl,(fun hf=>by cases hf),xp.trans x9⟩
 ·have e:cV l p=false:=by unfold cV;rw [dFa (by omega),Bool.and_false]
  rw [e]
  refine aU (w0:=wp) (vs:=iI ⟨0,⟨#[]⟩⟩) (by exact fx) hb4 (by focus (repeat (first|assumption|(apply At.ext;assumption)))) rfl rfl rfl rfl rfl (fun w9 x9 c9 a9 r9=>?_)
  repeat (first|refine go ?_|refine zg λ_ _=>?_|refine zi λ_ _=>?_)
  exact aA (iR (bD r9 rfl rfl) bJ) ⟨⟨0,⟨#[]⟩⟩,rfl,(fun hf=>by cases hf),xp.trans x9⟩
 ·have hh:eU l p.s=true:=by simpa using ‹(!eU l p.s)=false›
  have e:cV l p=true:=by unfold cV;rw [hh,dTr (by omega)];rfl
  rw [e]
  have hil:p.i.toNat<(dV l p.s).tx.outs.length:=by omega
  refine aU (w0:=wp) (vs:=iI (dV l p.s).tx.outs[p.i.toNat]) (by exact fx) hb4 (by focus (repeat (first|assumption|(apply At.ext;assumption)))) rfl rfl rfl rfl rfl (fun w9 x9 c9 a9 r9=>?_)
  repeat (first|refine go ?_|refine zg λ_ _=>?_|refine zi λ_ _=>?_)
  exact aA (iR (bD r9 rfl rfl) bJ) ⟨_,rfl,fun _=>List.getElem?_eq_getElem hil,xp.trans x9⟩
theorem bGm {w:World} {g:Nat} {M:List Nat} {l:List Ent} (hG:GrR w g M l) {x:Ent} (hx:x∈l):dV l x.id=x∧eU l x.id=true:=by
 cases h:l.find? fun y=>decide (y.id=x.id) with
 |none=>exact absurd (List.find?_eq_none.1 h x hx) (by simp)
 |some y=>
  obtain ⟨e1,e2,e3,e4⟩:=aKn h
  refine ⟨?_,e1⟩
  rw [e2]
  have hn:=hG.nodup
  clear h e1 e2 hG
  induction l with
  |nil=>simp at hx
  |cons z l ih=>
   rw [List.map_cons,List.nodup_cons] at hn
   rcases List.mem_cons.1 hx with h1|h1
   ·rcases List.mem_cons.1 e3 with h2|h2
    ·rw [h1,h2]
    ·exact absurd (List.mem_map.2 ⟨y,h2,by rw [e4,h1]⟩) hn.1
   ·rcases List.mem_cons.1 e3 with h2|h2
    ·exact absurd (List.mem_map.2 ⟨x,h1,by rw [←e4,h2]⟩) hn.1
    ·exact ih h1 h2 hn.2
def bIv (B:Nat):R Ent where
 k:=7
 pos:=by decide
 ag:=true
 rel:=fun M w cs x=>∃iv ov,cs=bC x iv ov∧bR inR T.api_In B M w iv x.tx.ins∧bR fS T.api_Out B M w ov x.tx.outs∧(dM x.tx.ver∧dM x.tx.lock∧sG x.fee∧sG x.size)∧∀b∈M,b∉aB iv∧b∉aB ov
 len:=fun ⟨_,_,h,_⟩=>by rw [h];rfl
 one:=fun ⟨iv,ov,h,hi,ho,_⟩ v hv=>by
  have h1:=hi.one
  have h2:=ho.one
  subst h;simp [bC] at hv;rcases hv with rfl|rfl|rfl|rfl|rfl|rfl|rfl<;>first|exact h1|exact h2|rfl
 step:=fun {M M' L w w' _ _} ⟨iv,ov,h,hi,ho,h2,hd⟩ c hL hM=>by
  have k1:∀b∈L,(b∉aB iv∧b∉aB ov)∧(b∈M∨w.heap.size≤b):=fun b hb=>⟨by
   rcases hL b hb with h|h
   ·exact hd b h
   ·exact ⟨fun q=>by have:=hi.lt b q;omega,fun q=>by have:=ho.lt b q;omega⟩,hL b hb⟩
  refine ⟨iv,ov,h,hi.step c (fun b hb=>⟨(k1 b hb).1.1,(k1 b hb).2⟩) hM,ho.step c (fun b hb=>⟨(k1 b hb).1.2,(k1 b hb).2⟩) hM,h2,fun b hb=>?_⟩
  rcases hM b hb with h|h
  ·exact hd b h
  ·exact ⟨fun q=>by have:=hi.lt b q;omega,fun q=>by have:=ho.lt b q;omega⟩
theorem bIv.r {B:Nat} {M:List Nat} {w:World} {cs:List Value} {x:Ent} (h:(bIv B).rel M w cs x):dC.rel M w cs x:=by
 obtain ⟨iv,ov,e,h1,h2,h3,hd⟩:=h
 exact ⟨iv,ov,e,h1.sl fun b hb=>(hd b hb).1,h2.sl fun b hb=>(hd b hb).2,h3⟩
set_option maxHeartbeats 1000000 in
theorem bP1 {g:Nat} {M:List Nat} {l:List Ent} (w:World) (hG:GrR w g M l) (hlt:∀b∈M,b<w.heap.size) (hn:l.length≤100000):K.Spec Tryz.prog F.graph_Graph_All [.pointer (some ⟨g,0,none⟩)] w fun r w'=>bR (bIv w.heap.size) T.api_Entry w.heap.size M w' r l∧Ext w w':=by
 have hG0:=hG
 obtain ⟨b1,vo,b2,m,sp,hP⟩:=hG
 have rg:Row w ⟨g,0,none⟩ [.map (some b1),vo,.map (some b2)]:=Row.of_at hP.at_
 have hord:=hP.ord
 have hml:(l.map (·.id)).length=l.length:=by simp
 refine xF rfl ?_
 unfold qC
 refine oy ?_
 repeat' (first|refine go1 ?_|refine zg λ_ _=>?_|refine zi λ_ _=>?_|refine zL rfl (fun h=>?_) (fun h=>?_)|(refine aY rfl (SlE.ext (w:=w) (by exact fx) hord) ?_;rw [hml])|(refine aI (fun (p:Nat × Value) w'=>Ext w w'∧p.1≤l.length∧bR (bIv w.heap.size) T.api_Entry w.heap.size M w' p.2 (l.take p.1)) (fun p=> [(0,.pointer (some ⟨g,0,none⟩)),(3,p.2),(13,vo),(14,.int .i64 (l.length:Nat)),(15,.int .i64 p.1)]) (fun p=>l.length - p.1) (0,.slice none 0 0) ⟨rfl,rfl,rfl,rfl,rfl,trivial⟩ ⟨Ext.refl _,by simp,bR.nil _ _ _ _⟩ ?_;rintro ⟨i,vr⟩ ρ w3 ⟨x3,hi,ho⟩;simp only at hi ho;dsimp only))
 ·have hil:i<l.length:=by omega
  refine aS (d:=some 17) (E:=bL) rfl rfl (n:=i) (l:=l.map (fun x:Ent=>x.id)) (SlE.ext (w:=w) x3 hord) rfl (by omega) (fun ad r4=>?_)
  have r4:Row w3 ad [Value.string l[i].id]:=by simpa [bL] using r4
  have hN:∀b∈aB vr++M,b∈M∨w.heap.size≤b:=aCa ho.base
  have hN2:∀b∈aB vr++M,b<w3.heap.size:=fun b hb=>by
   rcases List.mem_append.1 hb with h|h
   ·exact ho.lt b h
   ·exact nLt (hlt b h) x3.size
  repeat' (first|refine go1 ?_|refine zg λ_ _=>?_|refine zi λ_ _=>?_|(refine zC rfl (lQ (M:=aB vr++M) l[i].id _ (hG0.more x3 hN) hN2) ?_;rintro _ w5 ⟨ds,rfl,he0,x5⟩;have hge:=(bGm hG0 (gMe hil)).1;rw [hge] at he0;have hone:=dC.one (he0.rel hN2);obtain ⟨iv,ov,rfl,g1,g2,g3⟩:=he0)|refine zE (d':=6) (fun _=>rfl) rfl rfl (by rw [List.all_eq_true];exact hone) (fun b6 w6 x6 a6 (r6:Row w6 ⟨b6,0,none⟩ (bC l[i] iv ov)) hb6=>?_)|refine zI (cs:=bC l[i] iv ov) rfl (fun b w7 x7 a7 hb=>?_)|(refine gB (E:=bIv w.heap.size) (M:=M) (v:=vr) (cs:=bC l[i] iv ov) (a:=l[i]) rfl rfl (ho.ext (by exact fx)) (Ext.size (w:=w) (by exact fx)) rfl rfl a7 ⟨iv,ov,rfl,(g1.ext (by exact fx)).lower x3.size,(g2.ext (by exact fx)).lower x3.size,g3,fun b hb=>⟨fun h=>absurd (g1.base b h) (by have:=hN2 b hb;omega),fun h=>absurd (g2.base b h) (by have:=hN2 b hb;omega)⟩⟩ (by have:(l.take i).length≤l.length:=(by rw [List.length_take];omega);omega) (fun v8 w8 o8 c8 hb8=>?_)))
  exact ⟨(i+1,v8),⟨rfl,rfl,rfl,rfl,rfl,trivial⟩,⟨(Ext.chg (w:=w) (by exact fx) c8).mono (fun b hb=>.inr (ho.base b hb)),by simp;omega,by show bR _ _ _ _ _ _ (l.take (i+1));rw [List.take_succ_eq_append_getElem hil];exact o8⟩,by simp;omega⟩
 ·rw [tLe (by omega)] at ho
  exact aA rfl ⟨ho,x3⟩
theorem eK {g:Nat} {M:List Nat} {l:List Ent} (w:World) (hG:GrR w g M l) (hlt:∀b∈M,b<w.heap.size) (hn:l.length≤100000):K.Spec Tryz.prog F.graph_Graph_All [.pointer (some ⟨g,0,none⟩)] w fun r w'=>bR dC T.api_Entry w.heap.size M w' r l∧Ext w w':=by
 refine eZ (bP1 w hG hlt hn) fun r w' ⟨⟨css,h1,h2⟩,x⟩=>⟨⟨css,h1,h2.mono fun _ _ h=>bIv.r h⟩,x⟩
end
section
open Go Go.K
attribute [local irreducible] aF aP bG KOp.wp K.Spec u32 leS vnS str aR dE bS idT aO aE aQ idN oW bB bT spends
def eX (l:List Ent) (ins:List TIn):List ByteArray:=(ins.filter fun i=>cV l i.p).map fun i=>i.p.s
def kJ (l:List Ent) (id:ByteArray):Nat→List ByteArray
 |0=> []
 |n+1=>kJ l id n++(match spE l ⟨id,(n:Nat)⟩ with|some e=> [e.id]|none=> [])
theorem yR (l:List Ent) (id:ByteArray):∀n,(kJ l id n).length≤n
 |0=>by simp [kJ]
 |n+1=>by
  have:=yR l id n
  unfold kJ
  rw [List.length_append]
  split<;>simp<;>omega
theorem tJ (l:List Ent) (ins:List TIn):(eX l ins).length≤ins.length:=by
 unfold eX;rw [List.length_map];exact List.length_filter_le _ _
theorem aGi {l:List Ent} {ins:List TIn} {i:Nat} (h:i<ins.length):eX l (ins.take (i+1))=eX l (ins.take i)++(if cV l ins[i].p then [ins[i].p.s] else []):=by
 rw [List.take_succ_eq_append_getElem h]
 unfold eX
 rw [List.filter_append,List.map_append]
 congr 1
 by_cases h2:cV l ins[i].p=true
 ·rw [if_pos h2,List.filter_cons_of_pos (p:=fun i:TIn=>cV l i.p) h2];rfl
 ·rw [if_neg h2,List.filter_cons_of_neg (p:=fun i:TIn=>cV l i.p) h2];rfl
theorem aJy {g : Nat} {M N : List Nat} {l : List Ent} {cs : List Value} {t : Tx} (w : World) (hG : GrR w g M l) (hM : ∀ b ∈ M, b < w.heap.size) (ht : txR.rel N w cs t) (hs : t.ins.length ≤ 100000) : K.Spec Tryz.prog F.graph_Graph_parents [.pointer (some ⟨g, 0, none⟩), .agg cs.toArray] w fun r w' =>
    Own bL T.string w.heap.size w' r (eX l t.ins) ∧ Ext w w' := by
  obtain ⟨iv, ov, rfl, h1, h2, h3⟩ := ht
  refine aC9 rfl ?_
  unfold rB
  refine oy ?_
  repeat' (first|refine go1 ?_|refine zg λ_ _=>?_|refine zi λ_ _=>?_|refine zD rfl rfl (fun bp wp xp ap (rp : Row wp ⟨bp, 0, none⟩ (aJ t iv ov)) hp0=>?_)|refine zL rfl (fun h => ?_) (fun h => ?_)|refine zM rfl (fun h => ?_) (fun h => ?_)|refine zG (E := inR) (M := N) (l := t.ins) rfl (SlR.ext h1 (by exact fx)) ?_|(refine aI (fun (p : Nat × Value) w' => Ext w w' ∧ p.1 ≤ t.ins.length ∧ Own bL T.string w.heap.size w' p.2 (eX l (t.ins.take p.1))) (fun p => [(0, .pointer (some ⟨g, 0, none⟩)), (5, p.2), (11, iv), (12, .int .i64 (t.ins.length : Nat)), (13, .int .i64 p.1)]) (fun p => t.ins.length - p.1) (0, .slice none 0 0) ⟨rfl, rfl, rfl, rfl, rfl, trivial⟩ ⟨by exact fx, by simp, Own.nil _ _ _⟩ ?_; clear rp ap; rintro ⟨i, vr⟩ ρ w3 ⟨x3, hi, ho⟩; simp only at hi ho; dsimp only)|(refine aM (d := some 15) (E := inR) (M := N) rfl rfl (n := i) (l := t.ins) (SlR.ext h1 x3) rfl (by omega) (fun ad cs r4 he => ?_); obtain ⟨wv, rfl, hw, hp5, hp6⟩ := he; obtain ⟨bs1, cp1, rfl⟩ := hw.form; have hil : i < t.ins.length := (by omega))|refine zE (d' := 7) (fun _=>rfl) rfl rfl rfl (fun b7 w7 x7 a7 (r7 : Row w7 ⟨b7, 0, none⟩ (eJ t.ins[i] (.slice bs1 t.ins[i].wit.length cp1))) hb7=>?_)|(refine zC rfl (aA9 (M := M) t.ins[i].p hp5 _ (hG.ext (Ext.trans x3 (by exact fx))) (fun b hb => nLt (hM b hb) (Ext.size (by exact fx)))) ?_; rintro _ w8 ⟨o, rfl, ho8, x8⟩)|refine zE (d' := 8) (fun _=>rfl) rfl rfl rfl (fun b9 w9 x9 a9 r9 hb9=>?_)|refine zI (d := some 29) (cs := [.string t.ins[i].p.s]) rfl (fun b w10 x10 a10 hb => ?_)|refine cA (E := bL) (v := vr) (l2 := [t.ins[i].p.s]) rfl (ho.ext (by exact fx)) (Ext.size (w := w) (by exact fx)) rfl rfl (dX a10 rfl) rfl rfl (by have := tJ l (t.ins.take i); have : (t.ins.take i).length ≤ t.ins.length := (by rw [List.length_take]; omega); simp only [List.length_cons, List.length_nil]; omega) (fun v11 w11 o11 c11 => ?_))
  all_goals first
    | exact ⟨(i + 1, v11), ⟨rfl, rfl, rfl, rfl, rfl, trivial⟩, ⟨(Ext.chg (w := w) (by exact fx) c11).mono (fun b hb => .inr (ho.base b (by simpa using hb))), by simp; omega, by show Own _ _ _ _ _ (eX l (t.ins.take (i + 1))); rw [aGi hil, if_pos h]; exact o11⟩, by simp; omega⟩
    | exact ⟨(i + 1, vr), ⟨rfl, rfl, rfl, rfl, rfl, trivial⟩, ⟨by exact fx, by simp; omega, by show Own _ _ _ _ _ (eX l (t.ins.take (i + 1))); rw [aGi hil, if_neg (by rw [h]; decide), List.append_nil]; exact Own.ext (w := w3) (by exact fx) ho⟩, by simp; omega⟩
    | (rw [tLe (by omega)] at ho
       exact aA rfl ⟨ho, by exact fx⟩)
    | trace_state
theorem bPx {n:Nat} (h:n<4294967296):IntKind.u32.wrap (n:Nat)=(n:Nat):=by
 have e:IntKind.u32.wrap (n:Nat)=(n:Nat)%4294967296:=rfl
 rw [e];omega
theorem aS4 {g : Nat} {M N : List Nat} {l : List Ent} {cs : List Value} {x : Ent} (w : World) (hG : GrR w g M l) (hx : dC.rel N w cs x) (hs : x.tx.outs.length ≤ 100000) : K.Spec Tryz.prog F.graph_Graph_children [.pointer (some ⟨g, 0, none⟩), .agg cs.toArray] w fun r w' =>
    Own bL T.string w.heap.size w' r (kJ l x.id x.tx.outs.length) ∧ Ext w w' := by
  obtain ⟨iv, ov, rfl, h1, h2, h3⟩ := hx
  refine aBy rfl ?_
  unfold qH
  refine oy ?_
  repeat' (first|refine aD (d := some 21) (.int .u32 (i : Nat)) rfl (congrArg (fun n => some (Value.int .u32 n)) (bPx (by omega))) ?_|refine aT (d := some 22) (cs := (⟨x.id, (i : Nat)⟩ : Pt).cs) rfl ?_|refine go1 ?_|refine zg λ_ _=>?_|refine zi λ_ _=>?_|refine zD rfl rfl (fun bp wp xp ap (rp : Row wp ⟨bp, 0, none⟩ (bC x iv ov)) hp0=>?_)|refine zL rfl (fun h => ?_) (fun h => ?_)|refine zM rfl (fun h => ?_) (fun h => ?_)|refine zG (E := fS) (M := N) (l := x.tx.outs) rfl (SlR.ext h2 (by exact fx)) ?_|(refine aI (fun (p : Nat × Value) w' => Ext wp w' ∧ p.1 ≤ x.tx.outs.length ∧ Own bL T.string wp.heap.size w' p.2 (kJ l x.id p.1)) (fun p => [(0, .pointer (some ⟨g, 0, none⟩)), (3, .pointer (some ⟨bp, 0, none⟩)), (5, p.2), (12, .int .i64 (x.tx.outs.length : Nat)), (13, .int .i64 p.1)]) (fun p => x.tx.outs.length - p.1) (0, .slice none 0 0) ⟨rfl, rfl, rfl, rfl, rfl, trivial⟩ ⟨by exact fx, by simp, Own.nil _ _ _⟩ ?_; rintro ⟨i, vr⟩ ρ w3 ⟨x3, hi, ho⟩; simp only at hi ho; dsimp only; have hlen := yR l x.id i)|(refine zC rfl (aIl (M := M) ⟨x.id, (i : Nat)⟩ _ (hG.ext (by exact fx))) ?_; rintro _ w8 ⟨rfl, x8⟩)|refine zI (d := some 29) (cs := [.string (aGa l ⟨x.id, (i : Nat)⟩)]) rfl (fun b w10 x10 a10 hb => ?_)|refine cA (E := bL) (v := vr) (l2 := [aGa l ⟨x.id, (i : Nat)⟩]) rfl (ho.ext (by exact fx)) (Ext.size (w := wp) (by exact fx)) rfl rfl (dX a10 rfl) rfl rfl (by simp only [List.length_cons, List.length_nil]; omega) (fun v11 w11 o11 c11 => ?_))
  all_goals first
    | (obtain ⟨e, he⟩ := Option.isSome_iff_exists.1 h
       have e1 : aGa l ⟨x.id, (i : Nat)⟩ = e.id := by unfold aGa; rw [he]; rfl
       rw [e1] at o11
       exact ⟨(i + 1, v11), ⟨rfl, rfl, rfl, rfl, rfl, trivial⟩, ⟨(Ext.chg (w := wp) (by exact fx) c11).mono (fun b hb => .inr (ho.base b (by simpa using hb))), by simp; omega, by show Own _ _ _ _ _ (kJ l x.id (i + 1)); unfold kJ; rw [he]; exact o11⟩, by simp; omega⟩)
    | (have he : spE l ⟨x.id, (i : Nat)⟩ = none := by simpa using h
       exact ⟨(i + 1, vr), ⟨rfl, rfl, rfl, rfl, rfl, trivial⟩, ⟨by exact fx, by simp; omega, by show Own _ _ _ _ _ (kJ l x.id (i + 1)); unfold kJ; rw [he, List.append_nil]; exact Own.ext (w := w3) (by exact fx) ho⟩, by simp; omega⟩)
    | (have ei : i = x.tx.outs.length := by omega
       subst ei
       exact aA rfl ⟨ho.lower xp.size, xp.trans x3⟩)
    | trace_state
end
section
open Go Go.K
attribute [local irreducible] aF aP bG KOp.wp K.Spec u32 leS vnS str aR dE bS idT aO aE aQ idN oW bB bT
theorem aP7 {base:Nat→Bool} {edge:Nat→Nat→Bool} {n:Nat} (h:∀i,i<n→base i=false):∀(r i:Nat),i<n→bB base edge n r i=false
 |0,i,_=>by unfold bB;rfl
 |r+1,i,hi=>by
  rw [←Bool.not_eq_true,jW]
  rintro (h1|⟨k,h1,h2,h3⟩)
  ·rw [h i hi] at h1;cases h1
  ·rw [aP7 h r k h1] at h2;cases h2
end
section
open Go Go.K
attribute [local irreducible] aF aP bG KOp.wp K.Spec u32 leS vnS str aR dE bS idT aO aE aQ idN oW bB bT spends bY cH
section
variable {P:Program} {d:Option Tmp} {r:KR} {K:Env→World→Prop} {ρ:Env} {w:World}
theorem aX1 {α:Type} {E:Enc α} {size:Nat} {x a:Operand} {v:Value} {l:List α} {ka:IntKind} {lo:Nat} (hx:ev ρ x=v) (ha:ev ρ a=.int ka (lo:Nat)) (hs:SlE E w v l) (h1:lo≤l.length) (hk:size=E.k)
  (k:∀v',SlE E w v' (l.drop lo)→aF P r K (put ρ d v') w):aF P (.cons ⟨d,.sliceSl size x (some a) none,none⟩ r) K ρ w:=by
 subst hk
 obtain ⟨hl,base,cap,rfl,hc,hr⟩:=hs
 have h2:=SlE.cut (E:=E) (lo:=lo) (hi:=l.length) ⟨hl,base,cap,rfl,hc,hr⟩ h1 (Nat.le_refl _) (cap - lo) (by omega)
 rw [tLe (by rw [List.length_drop];omega)] at h2
 refine dH rfl (v:=.slice (if cap=lo then base else base.map fun ad:Addr=>ad.add (lo*E.k)) (l.length - lo) (cap - lo)) ?_ (k _ h2)
 simp only [KOp.fix,hx,ha,Option.bind_some,Option.map_some]
 rw [if_pos (by omega)]
 simp only [Option.bind_some,Int.toNat_natCast]
 simp
end
theorem SlE.offmap {α:Type} {F:Enc α} {w w':World} {v:Value} {l:List α} {b ck:Nat} {es:Array MapEntry} (h:SlE F w v l) (hm:At w b (.map es ck)) (c:Chg [b] w w'):SlE F w' v l:=by
 by_cases hp:0<l.length
 ·refine h.chg c (fun a m k e hmem=>?_)
  simp only [List.mem_singleton] at hmem
  obtain ⟨h1,base,cap,hv,hc,h2⟩:=h
  have hpos:0<(F.flat l).length:=by rw [F.flat_length];exact Nat.mul_pos hp F.pos
  obtain ⟨a',ha,hr⟩:=h2 hpos
  rw [e,ha] at hv
  injection hv with hv1
  injection hv1 with hv2
  subst hv2
  have h3:=hr 0 _ (List.getElem?_eq_getElem hpos)
  unfold World.cell? at h3
  rw [add_block,hmem,show w.heap[b]? =some (.map es ck) from hm] at h3
  simp at h3
 ·have hl:l= []:=List.length_eq_zero_iff.1 (by omega)
  subst hl
  exact h.anyw
def bP6 (fv:Value) (l:List Ent) (M:List Nat) (w:World) (nxt:Ent→List ByteArray):Prop:=
 ∃f first cap,fv=.func (.func f) first cap∧cK Tryz.prog f=true∧∀x∈l,∀w' cs,Ext w w'→dC.rel M w' cs x→K.Spec Tryz.prog f (first.toList++ [.agg cs.toArray]++cap.toList) w' fun r w''=>Own bL T.string w'.heap.size w'' r (nxt x)∧Ext w' w''
theorem bH7:cK Tryz.prog F.graph_Graph_reach_1=true:=by kernel_rfl
theorem bAg {b7 bm:Nat} {met:List (ByteArray × Nat)} (id:ByteArray) (w:World) (h7:At w b7 (.cells [.map (some bm)].toArray T.map_string_int (0,0))) (hm:dI sK (fun n:Nat=>Value.int .i64 (n:Nat)) w bm met) (hp:∀s c,aL met s=some c→1≤c):K.Spec Tryz.prog F.graph_Graph_reach_1 [.string id,.pointer (some ⟨b7,0,none⟩)] w fun r w'=>r=.bool (!pR met id)∧w'=w:=by
 have r7:Row w ⟨b7,0,none⟩ [.map (some bm)]:=Row.of_at h7
 refine aC4 rfl ?_
 unfold qX
 refine oy ?_
 repeat' (first|refine go1 ?_|refine zg λ_ _=>?_|refine zi λ_ _=>?_|refine eY (E:=sK) (fv:=fun n:Nat=>Value.int .i64 (n:Nat)) (k:=id) rfl rfl hm rfl rfl (fun c hc=>?_) (fun hn=>?_))
 ·have h1:=hp _ _ hc
  have e:pR met id=true:=by unfold pR;rw [hc];rfl
  rw [e]
  exact aA rfl ⟨congrArg Value.bool (dFa (by omega)),rfl⟩
 ·have e:pR met id=false:=by unfold pR;rw [hn];rfl
  rw [e]
  exact aA rfl ⟨rfl,rfl⟩
set_option maxHeartbeats 2000000 in
theorem aR9 {g:Nat} {M:List Nat} {l:List Ent} {vf fv:Value} {frm:List ByteArray} {nxt:Ent→List ByteArray} (w:World) (hG:GrR w g M l) (hlt:∀b∈M,b<w.heap.size) (hF:SlE bL w vf frm) (hN:bP6 fv l M w nxt) (hn:l.length≤1000) (hfl:frm.length≤1000)
  (hin0:∀s∈frm,∃j,j<l.length∧(eN l j).id=s) (hin:∀i,i<l.length→∀s∈nxt (eN l i),∃j,j<l.length∧(eN l j).id=s) (hnl:∀x∈l,(nxt x).length≤1000):
  K.Spec Tryz.prog F.graph_Graph_reach [.pointer (some ⟨g,0,none⟩),vf,fv] w fun r w'=>Own bL T.string w.heap.size w' r (aK l (bY l frm nxt))∧Ext w w':=by
 have hG0:=hG
 have hnd:=hG.nodup
 obtain ⟨b1,vo,b2,m,sp,hP⟩:=hG
 have rg:Row w ⟨g,0,none⟩ [.map (some b1),vo,.map (some b2)]:=Row.of_at hP.at_
 have hinv:=hP.inv
 obtain ⟨f,first,cap,rfl,hfb,hnx⟩:=hN
 have hW0:cH [] nxt l≤1000*l.length:=bAd [] nxt l hnl
 refine aF9 rfl ?_
 unfold tN
 refine oy ?_
 repeat' (first|refine go1 ?_|refine zg λ_ _=>?_|refine zi λ_ _=>?_|refine zL rfl (fun h=>?_) (fun h=>?_)|(refine iQ (E:=sK) (fv:=fun n:Nat=>Value.int .i64 (n:Nat)) (fun bm w1 x1 m1 hb1=>?_);have lm:=m1.lt)|(refine zH (fun b7 w2 x2 a2 hb2=>?_);have l7:=a2.lt)|refine aU1 (b:=b7) (v:=.map (some bm)) rfl rfl rfl a2 (by decide) (fun w3 c3 a3=>?_)|refine aY rfl hT ?_|refine aI (fun (p:Value × List ByteArray × List (ByteArray × Nat)) w'=>Ext w w'∧w3.heap.size≤w'.heap.size∧SlE bL w' p.1 p.2.1∧At w' b7 (.cells [.map (some bm)].toArray T.map_string_int (0,0))∧dI sK (fun n:Nat=>Value.int .i64 (n:Nat)) w' bm p.2.2∧BInv l frm nxt p.2.1 p.2.2∧p.2.1.length+cH p.2.2 nxt l≤2000000∧∀s c,aL p.2.2 s=some c→c+(p.2.1.length+cH p.2.2 nxt l)≤2000000) (fun p=> [(0,.pointer (some ⟨g,0,none⟩)),(2,.func (.func f) first cap),(7,.pointer (some ⟨b7,0,none⟩)),(8,p.1)]) (fun p=>p.2.1.length+cH p.2.2 nxt l) (vf,frm, []) ⟨rfl,rfl,rfl,rfl,trivial⟩ ?_ ?_)
 ·have x3:Ext w w3:=((x1.trans x2).chg c3).mono (by intro y hy;simp at hy;have:=x1.size;right;omega)
  exact ⟨x3,Nat.le_refl _,hF.ext x3,a3,(m1.ext x2).chg c3 (by simp;omega),BInv.start hin0,by simp only;omega,fun s c hc=>by simp [aL] at hc⟩
 ·rintro ⟨v,T,met⟩ ρ w4 ⟨x4,s34,hT,q7,qm,hB,hw,hc⟩
  simp only at hT qm hB hw hc
  dsimp only
  have r7:Row w4 ⟨b7,0,none⟩ [.map (some bm)]:=Row.of_at q7
  have s23:=c3.size
  have s12:=x2.size
  clear c3 a3 a2 x1 x2 m1
  repeat' (first|refine zi (fun w5 x5=>?_)|refine zg (fun w5 x5=>?_)|refine go1 ?_|refine zg λ_ _=>?_|refine zi λ_ _=>?_|refine zL rfl (fun h=>?_) (fun h=>?_)|refine aY rfl hT ?_)
  ·obtain ⟨id,T',rfl⟩:∃id T',T=id::T':=by
    cases T with
    |nil=>simp at h
    |cons a b=>exact ⟨a,b,rfl⟩
   have hlenT:(id::T').length=T'.length+1:=rfl
   refine aS rfl rfl (n:=0) (l:=id::T') (hT.ext x5) rfl (by simp) (fun ad r5=>?_)
   have r5:Row w5 ad [Value.string id]:=r5
   have hT5:=hT.ext x5
   have qm5:=qm.ext x5
   have q75:=q7.ext x5
   have r75:=r7.ext x5
   have x05:Unit→Ext w w5:=fun _=>x4.trans x5
   have s45:=x5.size
   clear x5 hT qm q7 r7 x4
   repeat' (first|refine go1 ?_|refine zg λ_ _=>?_|refine zi λ_ _=>?_|refine eY (d:=some 20) (E:=sK) (fv:=fun n:Nat=>Value.int .i64 (n:Nat)) (k:=id) rfl rfl qm5 rfl rfl (fun c hcc=>have hcc2:=hc id c hcc;?_) (fun hcn=>?_))
   ·have hp1:=hB.pos id c hcc
    refine eQ (E:=sK) (fv:=fun n:Nat=>Value.int .i64 (n:Nat)) (k:=id) (v:=c+1) rfl rfl rfl qm5 rfl rfl (fun w6 c6 m6=>?_)
    have lm6:=m6.lt
    have q76:=At.chg c6 q75 (by simp;omega)
    have r76:Row w6 ⟨b7,0,none⟩ [.map (some bm)]:=Row.of_at q76
    have x06:Ext w w6:=(Ext.chg (x05 ()) c6).mono (by intro y hy;simp at hy;right;omega)
    have s6:=c6.size
    have hT6:SlE bL w6 v (id::T'):=by
     obtain ⟨es,ck,hat,_⟩:=qm5
     exact SlE.offmap hT5 hat c6
    clear r5
    repeat' (first|refine zi (fun w7 x7=>?_)|refine zg (fun w7 x7=>?_)|refine go1 ?_|refine zg λ_ _=>?_|refine zi λ_ _=>?_|(refine aS (d:=some 24) rfl rfl (n:=0) (l:=id::T') (hT6.ext x7) rfl (by simp) (fun ad r5=>?_);have r5:Row w7 ad [Value.string id]:=r5)|refine eY (d:=some 26) (E:=sK) (fv:=fun n:Nat=>Value.int .i64 (n:Nat)) (k:=id) rfl rfl (m6.ext x7) rfl rfl (fun c2 hc2=>?_) (fun hcn=>?_)|refine zL rfl (fun h2=>?_) (fun h2=>?_)|refine aX1 (d:=some 15) (E:=bL) (lo:=1) rfl rfl (hT6.ext x7) (by simp) rfl (fun v8 hT8=>?_))
    ·rw [dG,if_pos rfl] at hc2;injection hc2 with hc2;omega
    ·rw [dG,if_pos rfl] at hc2;injection hc2 with hc2
     refine ⟨(v8,T',fQ met id (c+1)),⟨rfl,rfl,rfl,rfl,trivial⟩,⟨x06.trans x7,by have:=x7.size;omega,hT8,q76.ext x7,m6.ext x7,hB.again hcc,?_,fun s d hd=>?_⟩,?_⟩
     ·have:=aA7 (met:=met) (nxt:=nxt) (id:=id) (c:=c+1) l;simp only;omega
     ·have:=aA7 (met:=met) (nxt:=nxt) (id:=id) (c:=c+1) l
      rw [dG] at hd
      simp only
      split at hd
      ·injection hd with hd;omega
      ·have:=hc s d hd;omega
     ·have:=aA7 (met:=met) (nxt:=nxt) (id:=id) (c:=c+1) l;simp only;omega
    ·rw [dG,if_pos rfl] at hcn;cases hcn
   ·obtain ⟨i,hi,ei,hsi⟩:=hB.todo id (by simp)
    subst ei
    refine eQ (E:=sK) (fv:=fun n:Nat=>Value.int .i64 (n:Nat)) (k:=(eN l i).id) (v:=1) rfl rfl rfl qm5 rfl rfl (fun w6 c6 m6=>?_)
    have lm6:=m6.lt
    have q76:=At.chg c6 q75 (by simp;omega)
    have r76:Row w6 ⟨b7,0,none⟩ [.map (some bm)]:=Row.of_at q76
    have x06:Ext w w6:=(Ext.chg (x05 ()) c6).mono (by intro y hy;simp at hy;right;omega)
    have s6:=c6.size
    have hT6:SlE bL w6 v ((eN l i).id::T'):=by
     obtain ⟨es,ck,hat,_⟩:=qm5
     exact SlE.offmap hT5 hat c6
    clear r5
    repeat' (first|refine zi (fun w7 x7=>?_)|refine zg (fun w7 x7=>?_)|refine go1 ?_|refine zg λ_ _=>?_|refine zi λ_ _=>?_|(refine aS (d:=some 24) rfl rfl (n:=0) (l:=(eN l i).id::T') (hT6.ext x7) rfl (by simp) (fun ad r5=>?_);have r5:Row w7 ad [Value.string (eN l i).id]:=r5)|refine eY (d:=some 26) (E:=sK) (fv:=fun n:Nat=>Value.int .i64 (n:Nat)) (k:=(eN l i).id) rfl rfl (m6.ext x7) rfl rfl (fun c2 hc2=>have hT7:=hT6.ext x7;have m7:=m6.ext x7;have q77:=q76.ext x7;have x07:Unit→Ext w w7:=fun _=>x06.trans x7;have s67:=x7.size;?_) (fun hcn=>?_)|refine zL rfl (fun h2=>?_) (fun h2=>?_)|(refine aS (d:=some 35) rfl rfl (n:=0) (l:=(eN l i).id::T') (hT7.ext x7) rfl (by simp) (fun ad r5=>?_);have r5:Row w7 ad [Value.string (eN l i).id]:=r5)|refine bBj (d:=some 37) (KE:=sK) (F:=dC) (k:=(eN l i).id) rfl rfl (hP.ents.ext ((x07 ()).trans x7)) rfl rfl (fun y cs hy hr=>?_) (fun hn=>?_))
    ·rw [hinv.ent] at hy
     obtain ⟨e1,e2,e3,e4⟩:=aKn hy
     have hye:y=eN l i:=by
      have h9:=(bGm hG0 (show eN l i∈l by rw [cL hi];exact gMe hi)).1
      rw [e2] at h9;exact h9
     subst hye
     have hnl9:=hnl _ e3
     refine fI rfl hfb rfl (hnx _ e3 _ cs ((x07 ()).trans x7) hr) ?_
     rintro v9 w9 ⟨o9,x9⟩
     obtain ⟨bv,cv,rfl⟩:=hT7.form
     obtain ⟨bu,cu,rfl⟩:=o9.sl.form
     refine zI (d:=some 39) (cs:= [.slice bv _ cv,.slice bu _ cu]) rfl (fun b w10 x10 a10 hb=>?_)
     refine zC rfl (aZw (l1:=(eN l i).id::T') (l2:=nxt (eN l i)) _ a10 ((hT7.ext x7).ext (x9.trans x10)) (o9.sl.ext x10) (by omega)) ?_
     rintro v11 w11 ⟨o11,x11⟩
     repeat' (first|refine go1 ?_|refine zg λ_ _=>?_|refine zi λ_ _=>?_|refine aX1 (d:=some 15) (E:=bL) (lo:=1) rfl rfl o11.sl (by simp) rfl (fun v8 hT8=>?_))
     have x711:=(x7.trans (x9.trans x10)).trans x11
     have hwf:=aMm (nxt:=nxt) (met:=met) (c:=1) e3 (by unfold pR;rw [hcn];rfl)
     have hln:(T'++nxt (eN l i)).length=T'.length+(nxt (eN l i)).length:=List.length_append
     refine ⟨(v8,T'++nxt (eN l i),fQ met (eN l i).id 1),⟨rfl,rfl,rfl,rfl,trivial⟩,⟨(x07 ()).trans x711,by have:=x711.size;omega,hT8,q77.ext x711,m7.ext x711,hB.first hnd hi hcn (hin i hi),?_,fun s d hd=>?_⟩,?_⟩
     ·simp only;omega
     ·rw [dG] at hd
      simp only
      split at hd
      ·injection hd with hd;omega
      ·have:=hc s d hd;omega
     ·simp only;omega
    ·rw [hinv.ent] at hn
     exact absurd (List.find?_eq_none.1 hn _ (show eN l i∈l by rw [cL hi];exact gMe hi)) (by simp)
    ·rw [dG,if_pos rfl] at hc2;injection hc2 with hc2;omega
    ·rw [dG,if_pos rfl] at hcn;cases hcn
  ·have hT0:T= []:=List.length_eq_zero_iff.1 (by omega)
   subst hT0
   have hml:(l.map (·.id)).length=l.length:=by simp
   have hord:SlR pP [] w4 vo (l.map (·.id)):=SlE.toR (F:=bL) (ag:=false) (hP.ord.ext x4) (by simp)
   refine zC rfl (wU (M:= []) (v:=vo) (l:=l.map (fun x:Ent=>x.id)) _ hord (by omega) (by simp)) ?_
   rintro v5 w5 ⟨o5,x5⟩
   have o5:=bR.toOwn o5
   have g5:=o5.base
   have lm4:=qm.lt
   have l74:=q7.lt
   have h7v:b7∉aB v5:=fun h=>by have:=g5 _ h;omega
   have hmv:bm∉aB v5:=fun h=>by have:=g5 _ h;omega
   repeat (first|refine go1 ?_|refine zg λ_ _=>?_|refine zi λ_ _=>?_)
   refine zC rfl (aQ6 (g:=F.graph_Graph_reach_1) (capl:= [.pointer (some ⟨b7,0,none⟩)]) (l:=l.map (fun x:Ent=>x.id)) _ (fun s=>!pR met s) bH7 o5 (by omega) (fun W s hW=>bAg s W (At.chg hW (q7.ext x5) h7v) ((qm.ext x5).chg hW hmv) hB.pos)) ?_
   rintro v6 w6 ⟨o6,c6,hb6⟩
   repeat (first|refine go1 ?_|refine zg λ_ _=>?_|refine zi λ_ _=>?_)
   have e:(l.map (·.id)).filter (fun x=>!!pR met x)=aK l (bY l frm nxt):=by
    unfold bY nW
    refine bD3 fun i hi=>?_
    rw [Bool.not_not]
    have:=hB.done i hi hnd
    rw [cL hi] at this
    exact this
   rw [e] at o6
   exact aA rfl ⟨o6.lower x4.size,((x4.trans x5).chg c6).mono (fun b hb=>.inr (nTr x4.size (g5 b hb)))⟩
end
end Go.Proofs.YtgloknkcfchnlaaGreat
