/- Contracts: digests. -/
import Derived.Test.YteceapipdhnhdaaGreatDoorNa15
import Derived.Test.YteceapipdhnhdaaGreatDoorNa16
set_option linter.unusedVariables false
set_option linter.unusedSimpArgs false
namespace Go.Proofs.YteceapipdhnhdaaGreatDoor
section
open Go Go.K
attribute [local irreducible] aH aM aY KOp.wp K.Spec u32 leS vnS str aP jK wCs oJ mX lV gM wAt pM jW dZ yW addN bDz dV
theorem bC9 (w:World):K.Spec Tryz.prog F.sha_begin [] w fun r w'=>r=.agg (wCs aCp.l).toArray∧Ext w w':=by
 refine aXr rfl ?_
 unfold aMb
 refine oy ?_
 repeat' (first|refine aZ (cs:=aCp.cs) (by kernel_rfl) ?_|(first|refine go2 ?_|fail)|refine zH (fun b w1 x1 a1 hb=>?_)|refine aW (w0:=w) (vs:=aCp.cs) (by exact fx) (nTr (by exact fx) hb) (by exact atx) rfl rfl rfl rfl (bDl _) (fun w5 x5 c5 a5 r5=>?_))
 exact aA (aEo (bA r5 rfl rfl)) ⟨by rw [S8.cs_eq],x5⟩
theorem bHj (w:World):K.Spec Tryz.prog F.sha_keys [] w fun r w'=>r=.agg (wCs pM).toArray∧Ext w w':=by
 refine bB1 rfl ?_
 unfold aPy
 refine oy ?_
 repeat' (first|refine aZ (cs:=wCs pM) (by kernel_rfl) ?_|(first|refine go2 ?_|fail)|refine zH (fun b w1 x1 a1 hb=>?_)|refine aW (w0:=w) (vs:=wCs pM) (by exact fx) (nTr (by exact fx) hb) (by exact atx) rfl rfl (by kernel_rfl) (by kernel_rfl) (lJ _) (fun w5 x5 c5 a5 r5=>?_))
 exact aA (aEo (bA r5 rfl (by kernel_rfl))) ⟨rfl,x5⟩
abbrev ZR (n:Nat):List Value:=List.replicate n (Value.int .u32 0)
theorem l8 (s:S8):s.l.length=8:=rfl
theorem bDh (x:W32) (w:World):K.Spec Tryz.prog F.sha_high [.int .u64 (x.toNat:Nat),.int .i64 4] w fun r w'=>r=.string (str (leL x.toNat 4).reverse)∧Ext w w':=aRz x.toNat 4 (by decide) w
theorem bOw (m:List UInt8):dZ m 0=aCp:=by unfold dZ;rfl
theorem bQv {m:List UInt8} {N n:Nat} (hN:m.length=64*N) (hn:n≤N):(str (m.drop (64*n))).size=64*(N - n):=by
 rw [jF,List.length_drop];omega
theorem bI9 {m:List UInt8} {N n:Nat} (hN:m.length=64*N) (hn:n≤N) (h:¬str (m.drop (64*n))=⟨#[]⟩):n<N:=by
 rcases Nat.lt_or_ge n N with h1|h1
 ·exact h1
 ·exact absurd (by rw [List.drop_eq_nil_of_le (by omega),bEm]) h
theorem bAt (s:S8) (k x:W32) (w:World):K.Spec Tryz.prog F.sha_round [.agg (wCs s.l).toArray,u32 k,u32 x] w fun r w'=>r=.agg (wCs (rnd s k x).l).toArray∧Ext w w':=by
 rw [←S8.cs_eq,←S8.cs_eq];exact bAx s k x w
theorem bKe (W:List W32) (H:S8):jW W H 0=H:=by unfold jW;rfl
theorem bLh (W:List W32) (H:S8) (i:Nat):jW W H (i+1)=rnd (jW W H i) (wAt pM i) (wAt W i):=by conv=>lhs;unfold jW
theorem aXz:pM.length=64:=by unfold pM;rfl
theorem bJn (s t:S8):addN s.l t.l 0=s.l:=bFr s t
theorem bOt (m:List UInt8) (n:Nat):dZ m (n+1)=aZi (dZ m n) (jW (jK (lV (m.drop (64*n))) 64) (dZ m n) 64):=by conv=>lhs;unfold dZ;unfold aV0
section
variable {P:Program} {d:Option Tmp} {r:KR} {K:Env→World→Prop} {ρ:Env} {w:World}
theorem bCl {x l:Operand} {s:ByteArray} {kl:IntKind} {lo:Nat} (hx:ev ρ x=.string s) (hl:ev ρ l=.int kl (lo:Nat)) (h2:lo≤s.size) (k:aH P r K (put ρ d (.string (s.extract lo s.size))) w):aH P (.cons ⟨d,.sliceStr x (some l) none,none⟩ r) K ρ w:=
 cS rfl (by
  simp only [KOp.fix,hx,hl]
  rw [Option.bind_some,if_pos (by omega),Option.map_some,Int.toNat_natCast]) k
end
set_option maxHeartbeats 4000000 in
theorem aYu (s:ByteArray) (hs:s.size≤4000000) (w:World):K.Spec Tryz.prog F.sha_Sum [.string s] w fun r w'=>r=.string (aRb s)∧Ext w w':=by
 obtain ⟨N,hN⟩:∃N,(yW s.data.toList).length=64*N:=⟨_,aYw s⟩
 have hl:=bE4 s
 generalize hm:yW s.data.toList=m at hN hl
 refine bHr rfl ?_
 unfold aR8
 refine oy ?_
 repeat' (first|(first|refine go2 ?_|fail)|(refine zC rfl (bC9 _) ?_;rintro _ w1 ⟨rfl,x1⟩)|(refine zC rfl (bHj _) ?_;rintro _ w2 ⟨rfl,x2⟩)|(refine zH (fun b3 w3 x3 (a3:At w3 b3 (.cells (ZR 8).toArray T.n_8_uint32 (0,0))) hb3=>?_);have l3:=a3.lt)|(refine zH (fun b4 w4 x4 (a4:At w4 b4 (.cells (ZR 64).toArray T.n_64_uint32 (0,0))) hb4=>?_);have l4:=a4.lt)|(refine cE (vs:=wCs aCp.l) rfl rfl (by rw [cJ];rfl) (gQ (lJ _)) (cur:=ZR 8) (by exact atx) rfl (fun w5 c5 a5=>?_);have a6:=At.chg c5 a4 (by simp;omega))|(refine cE (vs:=wCs pM) rfl rfl (by unfold wCs pM;rfl) (gQ (lJ _)) (cur:=ZR 64) a6 rfl (fun w6 c6 a7=>?_);have a8:=At.chg c6 a5 (by simp;omega);have x6:Ext w w6:=(Ext.chg (w:=w) (by exact fx) (c5.trans c6)).mono (by have:=x1.size;have:=x2.size;have:=x3.size;intro y hy;simp at hy;right;omega))|(refine zC rfl (aYo s hs _) ?_;rintro _ w7 ⟨rfl,x7⟩;rw [hm]))
 repeat' (first|(refine dN (b:=.cons ⟨none,.storeN 8 (t 6) (t 22),none⟩ .nil) (fun (p:Nat × Nat) w'=>Ext w8 w'∧w8.heap.size≤p.1∧w8.heap.size≤p.2∧p.1≠p.2∧At w' p.1 (.cells (wCs (jK (lV (m.drop (64*n))) 64)).toArray T.n_64_uint32 (0,0))∧At w' p.2 (.cells (ZR 8).toArray T.n_8_uint32 (0,0))) (fun p=> [(0,.string (str (m.drop (64*n)))),(2,.string ⟨#[]⟩),(3,.pointer (some ⟨b3,0,none⟩)),(4,.pointer (some ⟨b4,0,none⟩)),(5,.pointer (some ⟨p.1,0,none⟩)),(6,.pointer (some ⟨p.2,0,none⟩)),(22,.agg (wCs (dZ m n).l).toArray)]) ?_ ?_)|(rintro ⟨b5,b6⟩ ρ2 w9 ⟨x9,(g5:w8.heap.size≤b5),(g6:w8.heap.size≤b6),(g56:b5≠b6),(d5:At w9 b5 (.cells (wCs (jK (lV (m.drop (64*n))) 64)).toArray T.n_64_uint32 (0,0))),(d6:At w9 b6 (.cells (ZR 8).toArray T.n_8_uint32 (0,0)))⟩;dsimp only)|(first|refine go2 ?_|fail)|(refine aJ (fun (n:Nat) w'=>Ext w w'∧n≤N∧At w' b3 (.cells (wCs (dZ m n).l).toArray T.n_8_uint32 (0,0))∧At w' b4 (.cells (wCs pM).toArray T.n_64_uint32 (0,0))) (fun n=> [(0,.string (str (m.drop (64*n)))),(2,.string ⟨#[]⟩),(3,.pointer (some ⟨b3,0,none⟩)),(4,.pointer (some ⟨b4,0,none⟩))]) (fun n=>N - n) 0 ⟨rfl,rfl,rfl,rfl,trivial⟩ ⟨by exact fx,by omega,by rw [bOw];exact atx,by exact atx⟩ ?_;rintro n ρ w8 ⟨x8,hn,h3,h4⟩;have hsz:=bQv hN hn)|refine zN rfl (fun h=>?_) (fun h=>?_)|refine zB ?_ ?_|(refine zC rfl (bCd _ (by rw [hsz];have:=bI9 hN hn h;omega) (by omega) _) ?_;rintro _ w9 ⟨rfl,x9⟩;have s9:=x9.size)|refine tN (n:=8) (l:=wCs (dZ m n).l) rfl (Row.of_at (t:=T.n_8_uint32) (f:=(0,0)) (by first|(exact atx;done)|exact h3.ext z10)) (by rw [cJ];exact Nat.le_refl _) (by rw [tLe];rw [cJ];exact Nat.le_refl _) ?_|(refine zH (fun b6 w6 y6 (d6:At w6 b6 (.cells (ZR 8).toArray T.n_8_uint32 (0,0))) hb6=>?_);have s6:=y6.size;have l6:=d6.lt;have g6:w8.heap.size≤b6:=nTr (Ext.size (by exact fx)) hb6)|(refine zH (fun b5 w5 y5 (d5:At w5 b5 (.cells (ZR 64).toArray T.n_64_uint32 (0,0))) hb5=>?_);have s5:=y5.size;have l5:=d5.lt;have g5:w8.heap.size≤b5:=nTr (Ext.size (by exact fx)) hb5)|(refine cE (vs:=wCs (jK (lV (m.drop (64*n))) 64)) rfl (congrArg (fun l:List UInt8=>Value.agg (wCs (jK (lV l) 64)).toArray) (aY9 _)) (by rw [cJ,gL]) (gQ (lJ _)) (cur:=ZR 64) (by exact atx) rfl (fun w10 c10 d10=>?_);have z10:Ext w8 w10:=(Ext.chg (w:=w8) (by exact fx) c10).mono (by intro y hy;simp at hy;right;omega)))
 all_goals first
  |(exact ⟨(b5,b6),⟨rfl,rfl,rfl,rfl,rfl,rfl,rfl,trivial⟩,by exact fx,by omega,by omega,by show b5≠b6;omega,by exact atx,by first|(exact atx;done)|exact At.chg c10 (by exact atx) (by simp;omega)⟩)
  |skip
 ·generalize hW:jK (lV (m.drop (64*n))) 64=W at*
  have lW:W.length=64:=by rw [←hW,gL]
  refine cE (vs:=wCs (dZ m n).l) rfl rfl (by rw [cJ];rfl) (gQ (lJ _)) (cur:=ZR 8) d6 rfl (fun w10 c10 d10=>?_)
  have e5:=At.chg c10 d5 (by simp;omega)
  have z10:Ext w8 w10:=(Ext.chg x9 c10).mono (by intro y hy;simp at hy;right;omega)
  repeat' (first|(first|refine go2 ?_|fail)|refine zL rfl (fun h=>?_) (fun h=>?_)|(refine aJ (fun (i:Nat) w'=>Ext w8 w'∧i≤64∧At w' b5 (.cells (wCs W).toArray T.n_64_uint32 (0,0))∧At w' b6 (.cells (wCs (jW W (dZ m n) i).l).toArray T.n_8_uint32 (0,0))) (fun i=> [(0,.string (str (m.drop (64*n)))),(2,.string ⟨#[]⟩),(3,.pointer (some ⟨b3,0,none⟩)),(4,.pointer (some ⟨b4,0,none⟩)),(5,.pointer (some ⟨b5,0,none⟩)),(6,.pointer (some ⟨b6,0,none⟩)),(23,.int .i64 i)]) (fun i=>64 - i) 0 ⟨rfl,rfl,rfl,rfl,rfl,rfl,rfl,trivial⟩ ⟨z10,by omega,e5,by rw [bKe];exact d10⟩ ?_;rintro i ρ3 w11 ⟨x11,hi,q5,q6⟩)|(refine aJ (fun (j:Nat) w'=>Ext w w'∧j≤8∧At w' b4 (.cells (wCs pM).toArray T.n_64_uint32 (0,0))∧At w' b3 (.cells (wCs (addN (dZ m n).l (jW W (dZ m n) 64).l j)).toArray T.n_8_uint32 (0,0))∧At w' b6 (.cells (wCs (jW W (dZ m n) 64).l).toArray T.n_8_uint32 (0,0))) (fun j=> [(0,.string (str (m.drop (64*n)))),(2,.string ⟨#[]⟩),(3,.pointer (some ⟨b3,0,none⟩)),(4,.pointer (some ⟨b4,0,none⟩)),(6,.pointer (some ⟨b6,0,none⟩)),(35,.int .i64 j)]) (fun j=>8 - j) 0 ⟨rfl,rfl,rfl,rfl,rfl,rfl,trivial⟩ ⟨x8.trans x11,by omega,h4.ext x11,by rw [bJn];exact h3.ext x11,by rw [show 64=i by omega];exact q6⟩ ?_;rintro j ρ4 w12 ⟨x12,hj,q4,q3,q7⟩)|refine fQ i rfl rfl (by omega) ?_|refine fQ j rfl rfl (by omega) ?_|refine pV (l:=W) (ad:=⟨b5,0,none⟩) i rfl (Row.of_at (t:=T.n_64_uint32) (f:=(0,0)) (by exact atx)) (by omega) ?_|refine pV (l:=pM) (ad:=⟨b4,0,none⟩) i rfl (Row.of_at (t:=T.n_64_uint32) (f:=(0,0)) (by exact atx)) (by rw [aXz];omega) ?_|refine pV (l:=addN (dZ m n).l (jW W (dZ m n) 64).l j) (ad:=⟨b3,0,none⟩) j rfl (Row.of_at (t:=T.n_8_uint32) (f:=(0,0)) (by exact atx)) (by rw [wA];omega) ?_|refine pV (l:=(jW W (dZ m n) 64).l) (ad:=⟨b6,0,none⟩) j rfl (Row.of_at (t:=T.n_8_uint32) (f:=(0,0)) (by exact atx)) (by rw [l8];omega) ?_|refine tN (n:=8) (l:=wCs (jW W (dZ m n) i).l) rfl (Row.of_at (t:=T.n_8_uint32) (f:=(0,0)) (by exact atx)) (by rw [cJ];exact Nat.le_refl _) (by rw [tLe];rw [cJ];exact Nat.le_refl _) ?_|(refine zC rfl (bAt (jW W (dZ m n) i) (wAt pM i) (wAt W i) _) ?_;rintro _ w13 ⟨rfl,x13⟩)|(first|refine aD8 rfl rfl ?_|refine aDx rfl rfl ?_|refine aDy rfl rfl ?_|refine aJ1 rfl rfl ?_|refine aD5 rfl ?_|refine yF rfl ?_)|refine cE (vs:=wCs (rnd (jW W (dZ m n) i) (wAt pM i) (wAt W i)).l) rfl rfl (by rw [cJ];rfl) (gQ (lJ _)) (cur:=wCs (jW W (dZ m n) i).l) (by exact atx) (by rw [cJ];rfl) (fun w14 c14 d14=>?_)|refine bC rfl rfl (aAg _) (by exact atx) (by rw [cJ,wA];omega) (fun w15 c15 d15=>?_)|refine bCl (lo:=64) rfl rfl (by rw [hsz];have:=bI9 hN hn (by assumption);omega) ?_)
  ·exact ⟨i+1,⟨rfl,rfl,rfl,rfl,rfl,rfl,rfl,trivial⟩,⟨(Ext.chg (w:=w8) (by exact fx) c14).mono (by intro y hy;simp at hy;right;omega),by omega,At.chg c14 (by exact atx) (by simp;omega),by rw [bLh];exact d14⟩,by omega⟩
  ·have hl3:=h3.lt
   have z1:=x1.size
   have z2:=x2.size
   exact ⟨j+1,⟨rfl,rfl,rfl,rfl,rfl,rfl,trivial⟩,⟨(Ext.chg (w:=w) (by exact fx) c15).mono (by intro y hy;simp at hy;right;omega),by omega,At.chg c15 (by exact atx) (by simp;omega),by rw [←aXq (by omega)];exact d15,At.chg c15 (by exact atx) (by simp;omega)⟩,by omega⟩
  ·have hlt:=bI9 hN hn (by assumption)
   have ej:j=8:=by omega
   subst ej
   exact ⟨n+1,⟨congrArg Value.string (by rw [bKj,aY9,List.drop_drop];rfl),rfl,rfl,rfl,trivial⟩,⟨by exact fx,by omega,by rw [bOt,hW,←aQd];exact q3,q4⟩,by omega⟩
 ·have hn0:n=N:=by
   rcases Nat.lt_or_ge n N with h1|h1
   ·rw [h] at hsz
    have h0:(⟨#[]⟩:ByteArray).size=0:=rfl
    omega
   ·omega
  subst hn0
  have hout:∀j,(dV (fun x:W32=>str (leL x.toNat 4).reverse) ((dZ m n).l.take j)).size≤32:=fun j=>by
   have h1:=sN (fun x:W32=>str (leL x.toNat 4).reverse) 4 ((dZ m n).l.take j) fun x _=>by rw [jF,List.length_reverse,dE];exact Nat.le_refl _
   have h2:((dZ m n).l.take j).length≤8:=by rw [List.length_take,l8];omega
   omega
  repeat' (first|(first|refine go2 ?_|fail)|refine zL rfl (fun h=>?_) (fun h=>?_)|(refine zH (fun b w9 x9 a9 hb9=>?_);have hW:uG b b ⟨#[]⟩ w9:=(Bld.new (Nat.le_refl _) a9))|refine tN (n:=8) (l:=wCs (dZ m n).l) rfl (Row.of_at (t:=T.n_8_uint32) (f:=(0,0)) (h3.ext x9)) (by rw [cJ];exact Nat.le_refl _) (by rw [tLe];rw [cJ];exact Nat.le_refl _) ?_|(refine aJ (fun (j:Nat) w'=>Ext w8 w'∧j≤8∧uG b b (dV (fun x:W32=>str (leL x.toNat 4).reverse) ((dZ m n).l.take j)) w') (fun j=> [(9,.pointer (some ⟨b,0,none⟩)),(47,.agg (wCs (dZ m n).l).toArray),(48,.int .i64 j)]) (fun j=>8 - j) 0 ⟨rfl,rfl,rfl,trivial⟩ ⟨by exact fx,by omega,by rw [List.take_zero,uA];exact hW⟩ ?_;rintro j ρ4 w10 ⟨x10,hj,hB⟩;have hz:=hout j)|refine bNh (l:=(dZ m n).l) rfl rfl (by omega) (l8 _) ?_|refine bJm rfl ?_|(refine zC rfl (bDh (wAt (dZ m n).l j) _) ?_;rintro _ w11 ⟨rfl,x11⟩)|(refine zC rfl (aUp (str (leL (wAt (dZ m n).l j).toNat 4).reverse) _ (hB.ext x11) (by rw [jF,List.length_reverse,dE];omega)) ?_;rintro _ w12 ⟨hB2,hW2⟩)|(refine zC rfl (aKx _ hB) ?_;rintro _ w13 ⟨rfl,hB3,hW3⟩))
  ·refine ⟨j+1,⟨rfl,rfl,rfl,trivial⟩,⟨hW2.ext (x10.trans x11) hb9,by omega,?_⟩,by omega⟩
   have hjl:j<(dZ m n).l.length:=by rw [l8];omega
   rw [iB _ hjl]
   have e:wAt (dZ m n).l j=(dZ m n).l[j]:=by unfold wAt;rw [List.getD_eq_getElem?_getD,List.getElem?_eq_getElem hjl];rfl
   rw [←e];exact hB2
  ·refine aA rfl ⟨congrArg Value.string ?_,x8.trans (hW3.ext x10 hb9)⟩
   rw [tLe (by rw [l8];omega),aRb,hm,hN,Nat.mul_div_cancel_left _ (by decide),bDz]
theorem bA4 (s:ByteArray) (hs:s.size≤4000000) (w:World):K.Spec Tryz.prog F.sha_Twice [.string s] w fun r w'=>r=.string (cM s)∧Ext w w':=by
 refine aW7 rfl ?_
 unfold aLe
 refine oy ?_
 repeat' (first|(first|refine go2 ?_|fail)|(refine zC rfl (aYu s hs _) ?_;rintro _ w1 ⟨rfl,x1⟩)|(refine zC rfl (aYu (aRb s) (by rw [aSz];decide) _) ?_;rintro _ w2 ⟨rfl,x2⟩))
 exact aA rfl ⟨by rw [cM];rfl,by exact fx⟩
end
end Go.Proofs.YteceapipdhnhdaaGreatDoor
