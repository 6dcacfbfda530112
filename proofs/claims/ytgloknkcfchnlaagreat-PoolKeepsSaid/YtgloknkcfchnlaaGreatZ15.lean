/- Contracts: digests. -/
import Derived.Test.YtgloknkcfchnlaaGreatZ12
import Derived.Test.YtgloknkcfchnlaaGreatZ13
set_option linter.unusedVariables false
set_option linter.unusedSimpArgs false
namespace Go.Proofs.YtgloknkcfchnlaaGreat
section
open Go Go.K
attribute [local irreducible] aF aP bG KOp.wp K.Spec u32 leS vnS str aR jT wCs pW pN nY iG wAt rG kV fA yU addN bBu eM
theorem bEn (w:World):K.Spec Tryz.prog F.sha_begin [] w fun r w'=>r=.agg (wCs aEg.l).toArray∧Ext w w':=by
 refine aY8 rfl ?_
 unfold aNs
 refine oy ?_
 repeat' (first|refine aT (cs:=aEg.cs) (by kernel_rfl) ?_|refine go1 ?_|refine zg λ_ _=>?_|refine zi λ_ _=>?_|refine zH (fun b w1 x1 a1 hb=>?_)|refine aU (w0:=w) (vs:=aEg.cs) (by exact fx) (nTr (by exact fx) hb) (by focus (repeat (first|assumption|(apply At.ext;assumption)))) rfl rfl rfl rfl (bEx _) (fun w5 x5 c5 a5 r5=>?_))
 exact aA (aOp (bD r5 rfl rfl)) ⟨by rw [S8.cs_eq],x5⟩
theorem bIy (w:World):K.Spec Tryz.prog F.sha_keys [] w fun r w'=>r=.agg (wCs rG).toArray∧Ext w w':=by
 refine bDe rfl ?_
 unfold aRr
 refine oy ?_
 repeat' (first|refine aT (cs:=wCs rG) (by kernel_rfl) ?_|refine go1 ?_|refine zg λ_ _=>?_|refine zi λ_ _=>?_|refine zH (fun b w1 x1 a1 hb=>?_)|refine aU (w0:=w) (vs:=wCs rG) (by exact fx) (nTr (by exact fx) hb) (by focus (repeat (first|assumption|(apply At.ext;assumption)))) rfl rfl (by kernel_rfl) (by kernel_rfl) (nH _) (fun w5 x5 c5 a5 r5=>?_))
 exact aA (aOp (bD r5 rfl (by kernel_rfl))) ⟨rfl,x5⟩
abbrev ZR (n:Nat):List Value:=List.replicate n (Value.int .u32 0)
theorem l8 (s:S8):s.l.length=8:=rfl
theorem bEu (x:W32) (w:World):K.Spec Tryz.prog F.sha_high [.int .u64 (x.toNat:Nat),.int .i64 4] w fun r w'=>r=.string (str (leL x.toNat 4).reverse)∧Ext w w':=aTu x.toNat 4 (by decide) w
theorem bQc (m:List UInt8):fA m 0=aEg:=by unfold fA;rfl
theorem bR3 {m:List UInt8} {N n:Nat} (hN:m.length=64*N) (hn:n≤N):(str (m.drop (64*n))).size=64*(N - n):=by
 rw [iA,List.length_drop];omega
theorem bKr {m:List UInt8} {N n:Nat} (hN:m.length=64*N) (hn:n≤N) (h:¬str (m.drop (64*n))=⟨#[]⟩):n<N:=by
 rcases Nat.lt_or_ge n N with h1|h1
 ·exact h1
 ·exact absurd (by rw [List.drop_eq_nil_of_le (by omega),bF0]) h
theorem bCa (s:S8) (k x:W32) (w:World):K.Spec Tryz.prog F.sha_round [.agg (wCs s.l).toArray,u32 k,u32 x] w fun r w'=>r=.agg (wCs (rnd s k x).l).toArray∧Ext w w':=by
 rw [←S8.cs_eq,←S8.cs_eq];exact bCe s k x w
theorem bLw (W:List W32) (H:S8):kV W H 0=H:=by unfold kV;rfl
theorem bMw (W:List W32) (H:S8) (i:Nat):kV W H (i+1)=rnd (kV W H i) (wAt rG i) (wAt W i):=by conv=>lhs;unfold kV
theorem aZd:rG.length=64:=by unfold rG;rfl
theorem bK6 (s t:S8):addN s.l t.l 0=s.l:=bG4 s t
theorem bP7 (m:List UInt8) (n:Nat):fA m (n+1)=bAy (fA m n) (kV (jT (nY (m.drop (64*n))) 64) (fA m n) 64):=by conv=>lhs;unfold fA;unfold aXh
section
variable {P:Program} {d:Option Tmp} {r:KR} {K:Env→World→Prop} {ρ:Env} {w:World}
theorem bDz {x l:Operand} {s:ByteArray} {kl:IntKind} {lo:Nat} (hx:ev ρ x=.string s) (hl:ev ρ l=.int kl (lo:Nat)) (h2:lo≤s.size) (k:aF P r K (put ρ d (.string (s.extract lo s.size))) w):aF P (.cons ⟨d,.sliceStr x (some l) none,none⟩ r) K ρ w:=
 dH rfl (by
  simp only [KOp.fix,hx,hl]
  rw [Option.bind_some,if_pos (by omega),Option.map_some,Int.toNat_natCast]) k
end
set_option maxHeartbeats 4000000 in
theorem aZ9 (s:ByteArray) (hs:s.size≤4000000) (w:World):K.Spec Tryz.prog F.sha_Sum [.string s] w fun r w'=>r=.string (aQk s)∧Ext w w':=by
 obtain ⟨N,hN⟩:∃N,(yU s.data.toList).length=64*N:=⟨_,bAc s⟩
 have hl:=bGb s
 generalize hm:yU s.data.toList=m at hN hl
 refine bI5 rfl ?_
 unfold aTz
 refine oy ?_
 repeat' (first|refine go1 ?_|refine zg λ_ _=>?_|refine zi λ_ _=>?_|(refine zC rfl (bEn _) ?_;rintro _ w1 ⟨rfl,x1⟩)|(refine zC rfl (bIy _) ?_;rintro _ w2 ⟨rfl,x2⟩)|(refine zH (fun b3 w3 x3 (a3:At w3 b3 (.cells (ZR 8).toArray T.n_8_uint32 (0,0))) hb3=>?_);have l3:=a3.lt)|(refine zH (fun b4 w4 x4 (a4:At w4 b4 (.cells (ZR 64).toArray T.n_64_uint32 (0,0))) hb4=>?_);have l4:=a4.lt)|(refine bX (vs:=wCs aEg.l) rfl rfl (by rw [dA];rfl) (iK (nH _)) (cur:=ZR 8) (by focus (repeat (first|assumption|(apply At.ext;assumption)))) rfl (fun w5 c5 a5=>?_);have a6:=At.chg c5 a4 (by simp;omega))|(refine bX (vs:=wCs rG) rfl rfl (by unfold wCs rG;rfl) (iK (nH _)) (cur:=ZR 64) a6 rfl (fun w6 c6 a7=>?_);have a8:=At.chg c6 a5 (by simp;omega);have x6:Ext w w6:=(Ext.chg (w:=w) (by exact fx) (c5.trans c6)).mono (by have:=x1.size;have:=x2.size;have:=x3.size;intro y hy;simp at hy;right;omega))|(refine zC rfl (aZ2 s hs _) ?_;rintro _ w7 ⟨rfl,x7⟩;rw [hm]))
 repeat' (first|(refine dJ (b:=.cons ⟨none,.storeN 8 (t 6) (t 22),none⟩ .nil) (fun (p:Nat × Nat) w'=>Ext w8 w'∧w8.heap.size≤p.1∧w8.heap.size≤p.2∧p.1≠p.2∧At w' p.1 (.cells (wCs (jT (nY (m.drop (64*n))) 64)).toArray T.n_64_uint32 (0,0))∧At w' p.2 (.cells (ZR 8).toArray T.n_8_uint32 (0,0))) (fun p=> [(0,.string (str (m.drop (64*n)))),(2,.string ⟨#[]⟩),(3,.pointer (some ⟨b3,0,none⟩)),(4,.pointer (some ⟨b4,0,none⟩)),(5,.pointer (some ⟨p.1,0,none⟩)),(6,.pointer (some ⟨p.2,0,none⟩)),(22,.agg (wCs (fA m n).l).toArray)]) ?_ ?_)|(rintro ⟨b5,b6⟩ ρ2 w9 ⟨x9,(g5:w8.heap.size≤b5),(g6:w8.heap.size≤b6),(g56:b5≠b6),(d5:At w9 b5 (.cells (wCs (jT (nY (m.drop (64*n))) 64)).toArray T.n_64_uint32 (0,0))),(d6:At w9 b6 (.cells (ZR 8).toArray T.n_8_uint32 (0,0)))⟩;dsimp only)|refine go1 ?_|refine zg λ_ _=>?_|refine zi λ_ _=>?_|(refine aI (fun (n:Nat) w'=>Ext w w'∧n≤N∧At w' b3 (.cells (wCs (fA m n).l).toArray T.n_8_uint32 (0,0))∧At w' b4 (.cells (wCs rG).toArray T.n_64_uint32 (0,0))) (fun n=> [(0,.string (str (m.drop (64*n)))),(2,.string ⟨#[]⟩),(3,.pointer (some ⟨b3,0,none⟩)),(4,.pointer (some ⟨b4,0,none⟩))]) (fun n=>N - n) 0 ⟨rfl,rfl,rfl,rfl,trivial⟩ ⟨by exact fx,by omega,by rw [bQc];focus (repeat (first|assumption|(apply At.ext;assumption))),by focus (repeat (first|assumption|(apply At.ext;assumption)))⟩ ?_;rintro n ρ w8 ⟨x8,hn,h3,h4⟩;have hsz:=bR3 hN hn)|refine zN rfl (fun h=>?_) (fun h=>?_)|refine zB ?_ ?_|(refine zC rfl (bDs _ (by rw [hsz];have:=bKr hN hn h;omega) (by omega) _) ?_;rintro _ w9 ⟨rfl,x9⟩;have s9:=x9.size)|(refine vR (n:=8) (l:=wCs (fA m n).l) rfl (Row.of_at (t:=T.n_8_uint32) (f:=(0,0)) (by first|(focus (repeat (first|assumption|(apply At.ext;assumption)));done)|exact h3.ext z10)) (by rw [dA];exact Nat.le_refl _) (by rw [tLe];rw [dA];exact Nat.le_refl _) ?_)|(refine zH (fun b6 w6 y6 (d6:At w6 b6 (.cells (ZR 8).toArray T.n_8_uint32 (0,0))) hb6=>?_);have s6:=y6.size;have l6:=d6.lt;have g6:w8.heap.size≤b6:=nTr (Ext.size (by exact fx)) hb6)|(refine zH (fun b5 w5 y5 (d5:At w5 b5 (.cells (ZR 64).toArray T.n_64_uint32 (0,0))) hb5=>?_);have s5:=y5.size;have l5:=d5.lt;have g5:w8.heap.size≤b5:=nTr (Ext.size (by exact fx)) hb5)|(refine bX (vs:=wCs (jT (nY (m.drop (64*n))) 64)) rfl (congrArg (fun l:List UInt8=>Value.agg (wCs (jT (nY l) 64)).toArray) (bAp _)) (by rw [dA,iF]) (iK (nH _)) (cur:=ZR 64) (by focus (repeat (first|assumption|(apply At.ext;assumption)))) rfl (fun w10 c10 d10=>?_);have z10:Ext w8 w10:=(Ext.chg (w:=w8) (by exact fx) c10).mono (by intro y hy;simp at hy;right;omega)))
 all_goals first
  |(exact ⟨(b5,b6),⟨rfl,rfl,rfl,rfl,rfl,rfl,rfl,trivial⟩,by exact fx,by omega,by omega,by show b5≠b6;omega,by focus (repeat (first|assumption|(apply At.ext;assumption))),by first|(focus (repeat (first|assumption|(apply At.ext;assumption)));done)|exact At.chg c10 (by focus (repeat (first|assumption|(apply At.ext;assumption)))) (by simp;omega)⟩)
  |skip
 ·generalize hW:jT (nY (m.drop (64*n))) 64=W at*
  have lW:W.length=64:=by rw [←hW,iF]
  refine bX (vs:=wCs (fA m n).l) rfl rfl (by rw [dA];rfl) (iK (nH _)) (cur:=ZR 8) d6 rfl (fun w10 c10 d10=>?_)
  have e5:=At.chg c10 d5 (by simp;omega)
  have z10:Ext w8 w10:=(Ext.chg x9 c10).mono (by intro y hy;simp at hy;right;omega)
  repeat' (first|refine go1 ?_|refine zg λ_ _=>?_|refine zi λ_ _=>?_|refine zL rfl (fun h=>?_) (fun h=>?_)|(refine aI (fun (i:Nat) w'=>Ext w8 w'∧i≤64∧At w' b5 (.cells (wCs W).toArray T.n_64_uint32 (0,0))∧At w' b6 (.cells (wCs (kV W (fA m n) i).l).toArray T.n_8_uint32 (0,0))) (fun i=> [(0,.string (str (m.drop (64*n)))),(2,.string ⟨#[]⟩),(3,.pointer (some ⟨b3,0,none⟩)),(4,.pointer (some ⟨b4,0,none⟩)),(5,.pointer (some ⟨b5,0,none⟩)),(6,.pointer (some ⟨b6,0,none⟩)),(23,.int .i64 i)]) (fun i=>64 - i) 0 ⟨rfl,rfl,rfl,rfl,rfl,rfl,rfl,trivial⟩ ⟨z10,by omega,e5,by rw [bLw];exact d10⟩ ?_;rintro i ρ3 w11 ⟨x11,hi,q5,q6⟩)|(refine aI (fun (j:Nat) w'=>Ext w w'∧j≤8∧At w' b4 (.cells (wCs rG).toArray T.n_64_uint32 (0,0))∧At w' b3 (.cells (wCs (addN (fA m n).l (kV W (fA m n) 64).l j)).toArray T.n_8_uint32 (0,0))∧At w' b6 (.cells (wCs (kV W (fA m n) 64).l).toArray T.n_8_uint32 (0,0))) (fun j=> [(0,.string (str (m.drop (64*n)))),(2,.string ⟨#[]⟩),(3,.pointer (some ⟨b3,0,none⟩)),(4,.pointer (some ⟨b4,0,none⟩)),(6,.pointer (some ⟨b6,0,none⟩)),(35,.int .i64 j)]) (fun j=>8 - j) 0 ⟨rfl,rfl,rfl,rfl,rfl,rfl,trivial⟩ ⟨x8.trans x11,by omega,h4.ext x11,by rw [bK6];exact h3.ext x11,by rw [show 64=i by omega];exact q6⟩ ?_;rintro j ρ4 w12 ⟨x12,hj,q4,q3,q7⟩)|refine gM i rfl rfl (by omega) ?_|refine gM j rfl rfl (by omega) ?_|refine rP (l:=W) (ad:=⟨b5,0,none⟩) i rfl (Row.of_at (t:=T.n_64_uint32) (f:=(0,0)) (by focus (repeat (first|assumption|(apply At.ext;assumption))))) (by omega) ?_|refine rP (l:=rG) (ad:=⟨b4,0,none⟩) i rfl (Row.of_at (t:=T.n_64_uint32) (f:=(0,0)) (by focus (repeat (first|assumption|(apply At.ext;assumption))))) (by rw [aZd];omega) ?_|refine rP (l:=addN (fA m n).l (kV W (fA m n) 64).l j) (ad:=⟨b3,0,none⟩) j rfl (Row.of_at (t:=T.n_8_uint32) (f:=(0,0)) (by focus (repeat (first|assumption|(apply At.ext;assumption))))) (by rw [xZ];omega) ?_|refine rP (l:=(kV W (fA m n) 64).l) (ad:=⟨b6,0,none⟩) j rfl (Row.of_at (t:=T.n_8_uint32) (f:=(0,0)) (by focus (repeat (first|assumption|(apply At.ext;assumption))))) (by rw [l8];omega) ?_|refine vR (n:=8) (l:=wCs (kV W (fA m n) i).l) rfl (Row.of_at (t:=T.n_8_uint32) (f:=(0,0)) (by focus (repeat (first|assumption|(apply At.ext;assumption))))) (by rw [dA];exact Nat.le_refl _) (by rw [tLe];rw [dA];exact Nat.le_refl _) ?_|(refine zC rfl (bCa (kV W (fA m n) i) (wAt rG i) (wAt W i) _) ?_;rintro _ w13 ⟨rfl,x13⟩)|(first|refine aFs rfl rfl ?_|refine aFj rfl rfl ?_|refine aFk rfl rfl ?_|refine aLj rfl rfl ?_|refine aFq rfl ?_|refine aAv rfl ?_)|refine bX (vs:=wCs (rnd (kV W (fA m n) i) (wAt rG i) (wAt W i)).l) rfl rfl (by rw [dA];rfl) (iK (nH _)) (cur:=wCs (kV W (fA m n) i).l) (by focus (repeat (first|assumption|(apply At.ext;assumption)))) (by rw [dA];rfl) (fun w14 c14 d14=>?_)|refine bO rfl rfl (aB1 _) (by focus (repeat (first|assumption|(apply At.ext;assumption)))) (by rw [dA,xZ];omega) (fun w15 c15 d15=>?_)|refine bDz (lo:=64) rfl rfl (by rw [hsz];have:=bKr hN hn (by assumption);omega) ?_)
  ·exact ⟨i+1,⟨rfl,rfl,rfl,rfl,rfl,rfl,rfl,trivial⟩,⟨(Ext.chg (w:=w8) (by exact fx) c14).mono (by intro y hy;simp at hy;right;omega),by omega,At.chg c14 (by focus (repeat (first|assumption|(apply At.ext;assumption)))) (by simp;omega),by rw [bMw];exact d14⟩,by omega⟩
  ·have hl3:=h3.lt
   have z1:=x1.size
   have z2:=x2.size
   exact ⟨j+1,⟨rfl,rfl,rfl,rfl,rfl,rfl,trivial⟩,⟨(Ext.chg (w:=w) (by exact fx) c15).mono (by intro y hy;simp at hy;right;omega),by omega,At.chg c15 (by focus (repeat (first|assumption|(apply At.ext;assumption)))) (by simp;omega),by rw [←aY6 (by omega)];exact d15,At.chg c15 (by focus (repeat (first|assumption|(apply At.ext;assumption)))) (by simp;omega)⟩,by omega⟩
  ·have hlt:=bKr hN hn (by assumption)
   have ej:j=8:=by omega
   subst ej
   exact ⟨n+1,⟨congrArg Value.string (by rw [bL1,bAp,List.drop_drop];rfl),rfl,rfl,rfl,trivial⟩,⟨by exact fx,by omega,by rw [bP7,hW,←aSd];exact q3,q4⟩,by omega⟩
 ·have hn0:n=N:=by
   rcases Nat.lt_or_ge n N with h1|h1
   ·rw [h] at hsz
    have h0:(⟨#[]⟩:ByteArray).size=0:=rfl
    omega
   ·omega
  subst hn0
  have hout:∀j,(eM (fun x:W32=>str (leL x.toNat 4).reverse) ((fA m n).l.take j)).size≤32:=fun j=>by
   have h1:=rR (fun x:W32=>str (leL x.toNat 4).reverse) 4 ((fA m n).l.take j) fun x _=>by rw [iA,List.length_reverse,cY];exact Nat.le_refl _
   have h2:((fA m n).l.take j).length≤8:=by rw [List.length_take,l8];omega
   omega
  repeat' (first|refine go1 ?_|refine zg λ_ _=>?_|refine zi λ_ _=>?_|refine zL rfl (fun h=>?_) (fun h=>?_)|(refine zH (fun b w9 x9 a9 hb9=>?_);have hW:wJ b b ⟨#[]⟩ w9:=(Bld.new (Nat.le_refl _) a9))|refine vR (n:=8) (l:=wCs (fA m n).l) rfl (Row.of_at (t:=T.n_8_uint32) (f:=(0,0)) (h3.ext x9)) (by rw [dA];exact Nat.le_refl _) (by rw [tLe];rw [dA];exact Nat.le_refl _) ?_|(refine aI (fun (j:Nat) w'=>Ext w8 w'∧j≤8∧wJ b b (eM (fun x:W32=>str (leL x.toNat 4).reverse) ((fA m n).l.take j)) w') (fun j=> [(9,.pointer (some ⟨b,0,none⟩)),(47,.agg (wCs (fA m n).l).toArray),(48,.int .i64 j)]) (fun j=>8 - j) 0 ⟨rfl,rfl,rfl,trivial⟩ ⟨by exact fx,by omega,by rw [List.take_zero,wG];exact hW⟩ ?_;rintro j ρ4 w10 ⟨x10,hj,hB⟩;have hz:=hout j)|refine bOv (l:=(fA m n).l) rfl rfl (by omega) (l8 _) ?_|refine bK5 rfl ?_|(refine zC rfl (bEu (wAt (fA m n).l j) _) ?_;rintro _ w11 ⟨rfl,x11⟩)|(refine zC rfl (aWc (str (leL (wAt (fA m n).l j).toNat 4).reverse) _ (hB.ext x11) (by rw [iA,List.length_reverse,cY];omega)) ?_;rintro _ w12 ⟨hB2,hW2⟩)|(refine zC rfl (aMe _ hB) ?_;rintro _ w13 ⟨rfl,hB3,hW3⟩))
  ·refine ⟨j+1,⟨rfl,rfl,rfl,trivial⟩,⟨hW2.ext (x10.trans x11) hb9,by omega,?_⟩,by omega⟩
   have hjl:j<(fA m n).l.length:=by rw [l8];omega
   rw [iY _ hjl]
   have e:wAt (fA m n).l j=(fA m n).l[j]:=by unfold wAt;rw [List.getD_eq_getElem?_getD,List.getElem?_eq_getElem hjl];rfl
   rw [←e];exact hB2
  ·refine aA rfl ⟨congrArg Value.string ?_,x8.trans (hW3.ext x10 hb9)⟩
   rw [tLe (by rw [l8];omega),aQk,hm,hN,Nat.mul_div_cancel_left _ (by decide),bBu]
theorem bCl (s:ByteArray) (hs:s.size≤4000000) (w:World):K.Spec Tryz.prog F.sha_Twice [.string s] w fun r w'=>r=.string (dE s)∧Ext w w':=by
 refine aYn rfl ?_
 unfold aMt
 refine oy ?_
 repeat' (first|refine go1 ?_|refine zg λ_ _=>?_|refine zi λ_ _=>?_|(refine zC rfl (aZ9 s hs _) ?_;rintro _ w1 ⟨rfl,x1⟩)|(refine zC rfl (aZ9 (aQk s) (by rw [aUp];decide) _) ?_;rintro _ w2 ⟨rfl,x2⟩))
 exact aA rfl ⟨by rw [dE];rfl,by exact fx⟩
end
end Go.Proofs.YtgloknkcfchnlaaGreat
