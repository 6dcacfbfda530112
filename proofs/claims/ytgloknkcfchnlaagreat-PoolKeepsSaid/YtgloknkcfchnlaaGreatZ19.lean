/- Contracts: digests by the reference; ids and sizes of transa -/
import Derived.Test.YtgloknkcfchnlaaGreatZ17
import Derived.Test.YtgloknkcfchnlaaGreatZ18
set_option linter.unusedVariables false
set_option linter.unusedSimpArgs false
namespace Go.Proofs.YtgloknkcfchnlaaGreat
section
open Go Go.K
attribute [local irreducible] aF aP bG KOp.wp K.Spec u32 leS vnS str aR jT wCs pW pN nY iG rG kV fA yU aHg addN shN bBu eM leL aQk dE bS
section
variable {P:Program} {d:Option Tmp} {r:KR} {K:Env→World→Prop} {ρ:Env} {w:World}
theorem bKo {x y:Operand} {n m:Nat} (hx:ev ρ x=.int .i64 (n:Nat)) (hy:ev ρ y=.int .i64 (m:Nat)) (h0:0<m) (hn:n<9223372036854775808) (k:aF P r K (put ρ d (.int .i64 ((n / m:Nat):Int))) w):aF P (.cons ⟨d,.bin .quo x y,none⟩ r) K ρ w:=
 cR hx hy (by
  have hne:(m:Int)≠0:=by omega
  simp only [bZ,dY,Bool.false_eq_true,if_false,if_true,dS]
  rw [td,if_neg hne]
  have h1:n / m≤n:=Nat.div_le_self n m
  generalize n / m=q at h1 ⊢
  rw [IntWalk.i64_in _ (by omega)]) k
end
set_option maxHeartbeats 2000000 in
theorem aVl (s:ByteArray) (hs:s.size≤4000000) (w:World):K.Spec Tryz.prog F.kedgeref04_Sum [.string s] w fun r w'=>r=.string (aQk s)∧Ext w w':=by
 obtain ⟨N,hN⟩:∃N,(yU s.data.toList).length=64*N:=⟨_,bAc s⟩
 have hl:=bGb s
 generalize hm:yU s.data.toList=m at hN hl
 have hout:∀n j,(eM (fun x:W32=>str (leL x.toNat 4).reverse) ((fA m n).l.take j)).size≤32:=fun n j=>by
  have h1:=rR (fun x:W32=>str (leL x.toNat 4).reverse) 4 ((fA m n).l.take j) fun x _=>by rw [iA,List.length_reverse,cY];exact Nat.le_refl _
  have h2:((fA m n).l.take j).length≤8:=by rw [List.length_take,l8];omega
  omega
 refine aLt rfl ?_
 unfold aBe
 refine oy ?_
 repeat' (first|refine aT (cs:=aEg.cs) (by kernel_rfl) ?_|(refine rP (ad:=⟨b3,0,none⟩) (l:=(fA m n).l) j rfl (Row.of_at (t:=T.n_8_uint32) (f:=(0,0)) (by focus (repeat (first|assumption|(apply At.ext;assumption))))) (by rw [l8];omega) ?_;have hj8:j<8:=(by omega))|refine gM j rfl rfl (by omega) ?_|refine aBu 24 (by decide) rfl rfl ?_|refine aBu 16 (by decide) rfl rfl ?_|refine aBu 8 (by decide) rfl rfl ?_|refine bRg rfl ?_|refine go1 ?_|refine zg λ_ _=>?_|refine zi λ_ _=>?_|refine zL rfl (fun h=>?_) (fun h=>?_)|refine zH (fun b3 w1 x1 a1 hb3=>?_)|(refine bX (vs:=aEg.cs) rfl rfl rfl (iK (bEx _)) (cur:=ZR 8) a1 rfl (fun w2 c2 a2=>?_);have x2:Ext w w2:=(Ext.chg x1 c2).mono (by intro y hy;simp at hy;right;omega);rw [S8.cs_eq] at a2)|(refine zC rfl (bKm s hs _) ?_;rintro v w3 ⟨hv,x3,hvb⟩;rw [hm] at hv;have l3:=a2.lt)|refine aY rfl (SlE.ext (w:=w4) (by exact fx) hv4) ?_|(refine aI (fun (n:Nat) w'=>Ext w w'∧SlE u8E w' v m∧n≤N∧At w' b3 (.cells (wCs (fA m n).l).toArray T.n_8_uint32 (0,0))) (fun n=> [(2,.string ⟨#[]⟩),(3,.pointer (some ⟨b3,0,none⟩)),(4,v),(5,.int .i64 ((64*n:Nat):Int))]) (fun n=>N - n) 0 ⟨rfl,rfl,rfl,rfl,trivial⟩ ⟨by exact fx,hv,by omega,by rw [bQc];focus (repeat (first|assumption|(apply At.ext;assumption)))⟩ ?_;rintro n ρ w4 ⟨x4,hv4,hn,h3⟩)|(refine aI (fun (j:Nat) w'=>Ext w4 w'∧j≤8) (fun j=> [(3,.pointer (some ⟨b3,0,none⟩)),(6,.string (eM (fun x:W32=>str (leL x.toNat 4).reverse) ((fA m n).l.take j))),(7,.int .i64 j)]) (fun j=>8 - j) 0 ⟨rfl,congrArg Value.string (by rw [List.take_zero,wG]),rfl,trivial⟩ ⟨Ext.refl _,by omega⟩ ?_;rintro j ρ8 w8 ⟨x8,hj⟩;have hz:=hout n j)|refine vR (n:=8) (l:=wCs (fA m n).l) rfl (Row.of_at (t:=T.n_8_uint32) (f:=(0,0)) (by focus (repeat (first|assumption|(apply At.ext;assumption))))) (by rw [dA];exact Nat.le_refl _) (by rw [tLe];rw [dA];exact Nat.le_refl _) ?_)
 ·have hn2:n<N:=by omega
  refine bIi (lo:=64*n) (hi:=64*n+64) rfl rfl (congrArg (Value.int .i64) (by omega)) (SlE.ext (w:=w4) (by exact fx) hv4) (by omega) (by omega) rfl (fun v5 hv5 _=>?_)
  refine zC rfl (bCt (fA m n) (by rw [List.length_take,List.length_drop];omega) _ hv5) ?_
  rintro _ w6 ⟨rfl,x6⟩
  have e:aXh (fA m n) ((m.drop (64*n)).take (64*n+64 - 64*n))=fA m (n+1):=by
   rw [show 64*n+64 - 64*n=64 by omega,bHj,bP7,aXh]
  rw [e]
  refine bX (vs:=wCs (fA m (n+1)).l) rfl rfl (by rw [dA];rfl) (iK (nH _)) (cur:=wCs (fA m n).l) (by focus (repeat (first|assumption|(apply At.ext;assumption)))) (by rw [dA];rfl) (fun w7 c7 a7=>?_)
  repeat (first|refine go ?_|refine zg λ_ _=>?_|refine zi λ_ _=>?_)
  exact ⟨n+1,⟨rfl,rfl,rfl,congrArg (Value.int .i64) (by omega),trivial⟩,⟨(Ext.chg (w:=w) (by exact fx) c7).mono (by intro y hy;simp at hy;right;omega),SlE.chg c7 (SlE.ext (w:=w4) (by exact fx) hv4) (fun a m c e hm=>by have:=hvb a.block (by rw [e];simp [aB]);simp at hm;omega),by omega,a7⟩,by omega⟩
 ·refine zI rfl (fun b w9 x9 a9 hb9=>?_)
  refine tY (l:= [UInt8.ofNat (wAt (fA m n).l j>>>24).toNat,UInt8.ofNat (wAt (fA m n).l j>>>16).toNat,UInt8.ofNat (wAt (fA m n).l j>>>8).toNat,UInt8.ofNat (wAt (fA m n).l j).toNat]) rfl (SlE.new (E:=u8E) a9 rfl (Nat.le_refl _)) ?_
  rw [be4]
  refine mE rfl rfl (by rw [iA,List.length_reverse,cY];omega) ?_
  repeat (first|refine go ?_|refine zg λ_ _=>?_|refine zi λ_ _=>?_)
  refine ⟨j+1,⟨rfl,congrArg Value.string ?_,rfl,trivial⟩,⟨by exact fx,by omega⟩,by omega⟩
  have hjl:j<(fA m n).l.length:=by rw [l8];omega
  have e:wAt (fA m n).l j=(fA m n).l[j]:=by unfold wAt;rw [List.getD_eq_getElem?_getD,List.getElem?_eq_getElem hjl];rfl
  rw [iY _ hjl,←e]
 ·have hn2:n=N:=by omega
  subst hn2
  refine aA rfl ⟨congrArg Value.string ?_,by exact fx⟩
  rw [tLe (by rw [l8];omega),aQk,hm,hN,Nat.mul_div_cancel_left _ (by decide),bBu]
theorem aZh (s:ByteArray) (hs:s.size≤4000000) (w:World):K.Spec Tryz.prog F.kedgeref04_Twice [.string s] w fun r w'=>r=.string (dE s)∧Ext w w':=by
 refine aHz rfl ?_
 unfold vC
 refine oy ?_
 repeat' (first|refine go1 ?_|refine zg λ_ _=>?_|refine zi λ_ _=>?_|(refine zC rfl (aVl s hs _) ?_;rintro _ w1 ⟨rfl,x1⟩)|(refine zC rfl (aVl (aQk s) (by rw [aUp];decide) _) ?_;rintro _ w2 ⟨rfl,x2⟩))
 exact aA rfl ⟨by rw [dE];rfl,by exact fx⟩
theorem bPc {M:List Nat} {cs:List Value} {t:Tx} (w:World) (ht:txR.rel M w cs t) (hs:t.Sz):K.Spec Tryz.prog F.kedgeref06_Bytes [.agg cs.toArray,.bool true] w fun r w'=>r=.string (bS false t)∧Ext w w':=aZ1 true w ht hs
theorem bM3 {M:List Nat} {cs:List Value} {t:Tx} (w:World) (ht:txR.rel M w cs t) (hs:t.Sz):K.Spec Tryz.prog F.kedgeref07_ID [.agg cs.toArray] w fun r w'=>r=.string (idT t)∧Ext w w':=by
 have ht0:=ht
 obtain ⟨iv,ov,rfl,hi,ho,hv,hl⟩:=ht
 refine aOk rfl ?_
 unfold aCp
 refine oy ?_
 repeat' (first|refine go1 ?_|refine zg λ_ _=>?_|refine zi λ_ _=>?_|(first|refine zD rfl rfl (fun bp wp xp ap rp hp0=>?_)|refine zE (fun _=>rfl) rfl rfl rfl (fun bq wq xq aq rq hq0=>?_))|(refine zC rfl (bPc (M:=M) _ (cs:=aJ t iv ov) (by exact fx) hs) ?_;rintro _ w1 ⟨rfl,x1⟩)|(refine zC rfl (aZh (bS false t) (by have:=hs.all false;omega) _) ?_;rintro _ w2 ⟨rfl,x2⟩))
 exact aA rfl ⟨by rw [idT];rfl,by exact fx⟩
end
section
open Go Go.K
attribute [local irreducible] aF aP bG KOp.wp K.Spec u32 leS vnS str aR dE bS idT
def idV (t:Tx):Value:=if aE t=0 then .tuple #[.string (idT t),.int .i64 0] else .tuple #[.string ⟨#[]⟩,.int .i64 (aE t)]
def aJz (t:Tx):Value:=if aE t=0 then .tuple #[.int .i64 (xV t:Nat),.int .i64 0] else .tuple #[.int .i64 0,.int .i64 (aE t)]
def kQ (t:Tx):Value:=if aE t=0 then .tuple #[.int .i64 (aO t:Nat),.int .i64 0] else .tuple #[.int .i64 0,.int .i64 (aE t)]
theorem uD {M:List Nat} {cs:List Value} {t:Tx} (w:World) (ht:txR.rel M w cs t) (hs:t.Sm):K.Spec Tryz.prog F.ident_ID [.agg cs.toArray] w fun r w'=>r=idV t∧Ext w w':=by
 have ht0:=ht
 obtain ⟨iv,ov,rfl,hi,ho,hv,hl⟩:=ht
 by_cases hc:aE t=0
 ·have hz:=cB hs hc
  rw [idV,if_pos hc]
  refine aRq rfl ?_
  unfold aHw
  refine oy ?_
  repeat' (first|refine go1 ?_|refine zg λ_ _=>?_|refine zi λ_ _=>?_|(first|refine zD rfl rfl (fun bp wp xp ap rp hp0=>?_)|refine zE (fun _=>rfl) rfl rfl rfl (fun bq wq xq aq rq hq0=>?_))|refine zN rfl (fun h=>?_) (fun h=>?_)|(refine zC rfl (aF0 (M:=M) _ (cs:=aJ t iv ov) (by exact fx) hs) ?_;rintro _ w1 ⟨rfl,x1⟩;rw [aDp,if_pos hc])|(refine zC rfl (bCl (bS false t) (by have:=hz.all false;omega) _) ?_;rintro _ w2 ⟨rfl,x2⟩))
  all_goals first
   |exact aA rfl ⟨by rw [idT];rfl,by exact fx⟩
   |exact absurd rfl (by assumption)
 ·rw [idV,if_neg hc]
  refine aRq rfl ?_
  unfold aHw
  refine oy ?_
  repeat' (first|refine go1 ?_|refine zg λ_ _=>?_|refine zi λ_ _=>?_|(first|refine zD rfl rfl (fun bp wp xp ap rp hp0=>?_)|refine zE (fun _=>rfl) rfl rfl rfl (fun bq wq xq aq rq hq0=>?_))|refine zN rfl (fun h=>?_) (fun h=>?_)|(refine zC rfl (aF0 (M:=M) _ (cs:=aJ t iv ov) (by exact fx) hs) ?_;rintro _ w1 ⟨rfl,x1⟩;rw [aDp,if_neg hc]))
  all_goals first
   |exact aA rfl ⟨rfl,by exact fx⟩
   |exact absurd (by assumption) hc
theorem aNg {M:List Nat} {cs:List Value} {t:Tx} (w:World) (ht:txR.rel M w cs t) (hs:t.Sm):K.Spec Tryz.prog F.ident_Weight [.agg cs.toArray] w fun r w'=>r=aJz t∧Ext w w':=by
 have ht0:=ht
 obtain ⟨iv,ov,rfl,hi,ho,hv,hl⟩:=ht
 by_cases hc:aE t=0
 ·have hz:=cB hs hc
  have h1:=hz.all false
  have h2:=hz.all (aOj t)
  rw [aJz,if_pos hc]
  refine aDr rfl ?_
  unfold vG
  refine oy ?_
  repeat' (first|refine tH rfl rfl (by omega) ?_|refine go1 ?_|refine zg λ_ _=>?_|refine zi λ_ _=>?_|(first|refine zD rfl rfl (fun bp wp xp ap rp hp0=>?_)|refine zE (fun _=>rfl) rfl rfl rfl (fun bq wq xq aq rq hq0=>?_))|refine zN rfl (fun h=>?_) (fun h=>?_)|(refine zC rfl (aF0 (M:=M) _ (cs:=aJ t iv ov) (by exact fx) hs) ?_;rintro _ w1 ⟨rfl,x1⟩;rw [aDp,if_pos hc])|(refine zC rfl (aXb (M:=M) _ (cs:=aJ t iv ov) (by exact fx) hs) ?_;rintro _ w2 ⟨rfl,x2⟩;rw [aDp,if_pos hc]))
  all_goals first
   |exact aA rfl ⟨congrArg (fun n:Int=>Value.tuple #[.int .i64 n,.int .i64 0]) (by rw [xV];omega),by exact fx⟩
   |exact absurd rfl (by assumption)
 ·rw [aJz,if_neg hc]
  refine aDr rfl ?_
  unfold vG
  refine oy ?_
  repeat' (first|refine go1 ?_|refine zg λ_ _=>?_|refine zi λ_ _=>?_|(first|refine zD rfl rfl (fun bp wp xp ap rp hp0=>?_)|refine zE (fun _=>rfl) rfl rfl rfl (fun bq wq xq aq rq hq0=>?_))|refine zN rfl (fun h=>?_) (fun h=>?_)|(refine zC rfl (aF0 (M:=M) _ (cs:=aJ t iv ov) (by exact fx) hs) ?_;rintro _ w1 ⟨rfl,x1⟩;rw [aDp,if_neg hc]))
  all_goals first
   |exact aA rfl ⟨rfl,by exact fx⟩
   |exact absurd (by assumption) hc
theorem fZ {M:List Nat} {cs:List Value} {t:Tx} (w:World) (ht:txR.rel M w cs t) (hs:t.Sm):K.Spec Tryz.prog F.ident_Size [.agg cs.toArray] w fun r w'=>r=kQ t∧Ext w w':=by
 have ht0:=ht
 obtain ⟨iv,ov,rfl,hi,ho,hv,hl⟩:=ht
 by_cases hc:aE t=0
 ·have hz:=cB hs hc
  have h1:=hz.weight
  rw [kQ,if_pos hc]
  refine aIp rfl ?_
  unfold aBp
  refine oy ?_
  repeat' (first|refine bKo (n:=xV t+3) (m:=4) (congrArg (Value.int .i64) (by omega)) rfl (by decide) (by omega) ?_|refine go1 ?_|refine zg λ_ _=>?_|refine zi λ_ _=>?_|(first|refine zD rfl rfl (fun bp wp xp ap rp hp0=>?_)|refine zE (fun _=>rfl) rfl rfl rfl (fun bq wq xq aq rq hq0=>?_))|(refine zC rfl (aNg (M:=M) _ (cs:=aJ t iv ov) (by exact fx) hs) ?_;rintro _ w1 ⟨rfl,x1⟩;rw [aJz,if_pos hc]))
  exact aA rfl ⟨rfl,by exact fx⟩
 ·rw [kQ,if_neg hc]
  refine aIp rfl ?_
  unfold aBp
  refine oy ?_
  repeat' (first|refine go1 ?_|refine zg λ_ _=>?_|refine zi λ_ _=>?_|(first|refine zD rfl rfl (fun bp wp xp ap rp hp0=>?_)|refine zE (fun _=>rfl) rfl rfl rfl (fun bq wq xq aq rq hq0=>?_))|(refine zC rfl (aNg (M:=M) _ (cs:=aJ t iv ov) (by exact fx) hs) ?_;rintro _ w1 ⟨rfl,x1⟩;rw [aJz,if_neg hc]))
  exact aA rfl ⟨rfl,by exact fx⟩
theorem wU {M:List Nat} {v:Value} {l:List ByteArray} (w:World) (hs:SlR pP M w v l) (hn:l.length≤100000000) (hM:∀b∈M,b<w.heap.size):K.Spec Tryz.prog F.slices_Clone_L_string_string [v] w fun r w'=>bR pP T.string w.heap.size M w' r l∧Ext w w':=by
 have hs0:=hs
 obtain ⟨base,cap,rfl⟩:=hs.form
 cases base with
 |none=>
  have hl:=hs.nil_of
  subst hl
  refine iZ rfl ?_
  unfold fJ
  refine oy ?_
  repeat (first|refine go ?_|refine zg λ_ _=>?_|refine zi λ_ _=>?_)
  exact aA rfl ⟨bR.nil _ _ _ _,Ext.refl _⟩
 |some a=>
  refine iZ rfl ?_
  unfold fJ
  refine oy ?_
  repeat (first|refine go ?_|refine zg λ_ _=>?_|refine zi λ_ _=>?_)
  refine zI (cs:= []) rfl (fun b w1 x1 a1 hb=>?_)
  repeat (first|refine go ?_|refine zg λ_ _=>?_|refine zi λ_ _=>?_)
  obtain ⟨css,h1,h2,_⟩:=hs0
  have hown:bR pP T.string w.heap.size M w1 (.slice (some ⟨b,0,none⟩) 0 0) []:=bR.empty hb a1
  have hall:(pP).all (aB (.slice (some ⟨b,0,none⟩) 0 0)++M) w1 css l:=h2.mono fun _ _ hr=>(pP).step hr x1 (by simp) (fun c hc=>by
   rcases List.mem_append.1 hc with h|h
   ·simp [aB] at h;right;omega
   ·exact .inl h)
  refine aHs (E:=pP) (M:=M) (v:=.slice (some ⟨b,0,none⟩) 0 0) rfl hown x1.size rfl rfl (h1.ext x1).cells rfl hall h2.length (by simp;omega) (fun v2 w2 ho2 c2 hb2=>?_)
  repeat (first|refine go ?_|refine zg λ_ _=>?_|refine zi λ_ _=>?_)
  exact aA rfl ⟨ho2,(Ext.chg x1 c2).mono (by intro y hy;simp [aB] at hy;subst hy;exact .inr hb)⟩
theorem bA5 {M:List Nat} {v:Value} {l:List TIn} (w:World) (hs:SlR inR M w v l) (hn:l.length≤100000000) (hM:∀b∈M,b<w.heap.size):K.Spec Tryz.prog F.slices_Clone_L_api_In_api_In [v] w fun r w'=>bR inR T.api_In w.heap.size M w' r l∧Ext w w':=by
 have hs0:=hs
 obtain ⟨base,cap,rfl⟩:=hs.form
 cases base with
 |none=>
  have hl:=hs.nil_of
  subst hl
  refine jE rfl ?_
  unfold fK
  refine oy ?_
  repeat (first|refine go ?_|refine zg λ_ _=>?_|refine zi λ_ _=>?_)
  exact aA rfl ⟨bR.nil _ _ _ _,Ext.refl _⟩
 |some a=>
  refine jE rfl ?_
  unfold fK
  refine oy ?_
  repeat (first|refine go ?_|refine zg λ_ _=>?_|refine zi λ_ _=>?_)
  refine zI (cs:= []) rfl (fun b w1 x1 a1 hb=>?_)
  repeat (first|refine go ?_|refine zg λ_ _=>?_|refine zi λ_ _=>?_)
  obtain ⟨css,h1,h2,_⟩:=hs0
  have hown:bR inR T.api_In w.heap.size M w1 (.slice (some ⟨b,0,none⟩) 0 0) []:=bR.empty hb a1
  have hall:(inR).all (aB (.slice (some ⟨b,0,none⟩) 0 0)++M) w1 css l:=h2.mono fun _ _ hr=>(inR).step hr x1 (by simp) (fun c hc=>by
   rcases List.mem_append.1 hc with h|h
   ·simp [aB] at h;right;omega
   ·exact .inl h)
  refine aHs (E:=inR) (M:=M) (v:=.slice (some ⟨b,0,none⟩) 0 0) rfl hown x1.size rfl rfl (h1.ext x1).cells rfl hall h2.length (by simp;omega) (fun v2 w2 ho2 c2 hb2=>?_)
  repeat (first|refine go ?_|refine zg λ_ _=>?_|refine zi λ_ _=>?_)
  exact aA rfl ⟨ho2,(Ext.chg x1 c2).mono (by intro y hy;simp [aB] at hy;subst hy;exact .inr hb)⟩
theorem aNd {M:List Nat} {v:Value} {l:List TOut} (w:World) (hs:SlR fS M w v l) (hn:l.length≤100000000) (hM:∀b∈M,b<w.heap.size):K.Spec Tryz.prog F.slices_Clone_L_api_Out_api_Out [v] w fun r w'=>bR fS T.api_Out w.heap.size M w' r l∧Ext w w':=by
 have hs0:=hs
 obtain ⟨base,cap,rfl⟩:=hs.form
 cases base with
 |none=>
  have hl:=hs.nil_of
  subst hl
  refine iJ rfl ?_
  unfold eT
  refine oy ?_
  repeat (first|refine go ?_|refine zg λ_ _=>?_|refine zi λ_ _=>?_)
  exact aA rfl ⟨bR.nil _ _ _ _,Ext.refl _⟩
 |some a=>
  refine iJ rfl ?_
  unfold eT
  refine oy ?_
  repeat (first|refine go ?_|refine zg λ_ _=>?_|refine zi λ_ _=>?_)
  refine zI (cs:= []) rfl (fun b w1 x1 a1 hb=>?_)
  repeat (first|refine go ?_|refine zg λ_ _=>?_|refine zi λ_ _=>?_)
  obtain ⟨css,h1,h2,_⟩:=hs0
  have hown:bR fS T.api_Out w.heap.size M w1 (.slice (some ⟨b,0,none⟩) 0 0) []:=bR.empty hb a1
  have hall:(fS).all (aB (.slice (some ⟨b,0,none⟩) 0 0)++M) w1 css l:=h2.mono fun _ _ hr=>(fS).step hr x1 (by simp) (fun c hc=>by
   rcases List.mem_append.1 hc with h|h
   ·simp [aB] at h;right;omega
   ·exact .inl h)
  refine aHs (E:=fS) (M:=M) (v:=.slice (some ⟨b,0,none⟩) 0 0) rfl hown x1.size rfl rfl (h1.ext x1).cells rfl hall h2.length (by simp;omega) (fun v2 w2 ho2 c2 hb2=>?_)
  repeat (first|refine go ?_|refine zg λ_ _=>?_|refine zi λ_ _=>?_)
  exact aA rfl ⟨ho2,(Ext.chg x1 c2).mono (by intro y hy;simp [aB] at hy;subst hy;exact .inr hb)⟩
def txO (B:Nat) (M:List Nat) (w:World) (cs:List Value) (t:Tx):Prop:=∃iv ov,cs=aJ t iv ov∧bR inR T.api_In B M w iv t.ins∧bR fS T.api_Out B M w ov t.outs∧dM t.ver∧dM t.lock
theorem txO.rel {B:Nat} {M:List Nat} {w:World} {cs:List Value} {t:Tx} (h:txO B M w cs t) (hM:∀b∈M,b<B):txR.rel M w cs t:=by
 obtain ⟨iv,ov,rfl,h1,h2,h3⟩:=h
 exact ⟨iv,ov,rfl,h1.slB hM,h2.slB hM,h3⟩
theorem aCa {L M:List Nat} {w:World} (h:∀b∈L,w.heap.size≤b):∀b∈L++M,b∈M∨w.heap.size≤b:=fun b hb=>by
 rcases List.mem_append.1 hb with h1|h1
 ·exact .inr (h b h1)
 ·exact .inl h1
set_option maxHeartbeats 2000000 in
theorem xQ {M:List Nat} {cs:List Value} {t:Tx} (w:World) (ht:txR.rel M w cs t) (hs:t.Sm) (hM:∀b∈M,b<w.heap.size):K.Spec Tryz.prog F.tx_Copy [.agg cs.toArray] w fun r w'=>∃cs',r=.agg cs'.toArray∧txO w.heap.size M w' cs' t∧Ext w w':=by
 have ht0:=ht
 obtain ⟨iv,ov,rfl,hi,ho,hv,hl⟩:=ht
 have hs1:=hs.ins
 have hs2:=hs.outs
 refine bJe rfl ?_
 unfold aU4
 refine oy ?_
 repeat' (first|refine go1 ?_|refine zg λ_ _=>?_|refine zi λ_ _=>?_|(first|refine zD rfl rfl (fun bp wp xp ap rp hp0=>?_)|refine zE (fun _=>rfl) rfl rfl rfl (fun bq wq xq aq rq hq0=>?_)))
 refine zH (fun b2 w2 x2 a2 hb2=>?_)
 have lp:=ap.lt
 have l2:=a2.lt
 have sp:=xp.size
 have s2:=x2.size
 have xw:Unit→Ext w w2:=fun _=>xp.trans x2
 obtain ⟨M1,hM1⟩:∃M1,M1= [b2,bp]++M:=⟨_,rfl⟩
 have hmem:∀b∈M1,b∈M∨w.heap.size≤b:=by
  rw [hM1];exact aCa (fun y hy=>by simp at hy;omega)
 have hi1:SlR inR M1 w2 iv t.ins:=hi.step (xw ()) (by simp) hmem
 have ho1:SlR fS M1 w2 ov t.outs:=ho.step (xw ()) (by simp) hmem
 have hM1b:∀b∈M1,b<w2.heap.size:=by
  intro y hy;rw [hM1] at hy;simp at hy
  rcases hy with h|h|h
  ·omega
  ·omega
  ·have:=hM y h;omega
 have mb:bp∈M1:=by rw [hM1];simp
 have m2:b2∈M1:=by rw [hM1];simp
 have mM:∀b∈M,b∈M1:=by intro y hy;rw [hM1];simp [hy]
 repeat' (first|refine go1 ?_|refine zg λ_ _=>?_|refine zi λ_ _=>?_|refine zB ?_ ?_|(refine zC rfl (bA5 (M:=M1) (l:=t.ins) _ (by exact fx) (by omega) (fun b hb=>nLt (hM1b b hb) (Ext.size (by exact fx)))) ?_;rintro v1 w3 ⟨hv1,x3⟩;have l1:=hv1.lt;have hv1:=hv1.lower (B':=w2.heap.size) (by first|exact Nat.le_refl _|(apply Ext.size;assumption));have g1:=hv1.base;have x23:Ext w2 w3:=(by exact fx))|refine zC rfl (aNd (M:=aB v1++M1) (l:=t.outs) _ (ho1.step x23 (by simp) (aCa g1)) (by omega) (fun b hb=>?_)) ?_|(rcases List.mem_append.1 hb with h|h;exact l1 b h;exact nLt (hM1b b h) (Ext.size (by exact fx)))|(rintro v2 w4 ⟨hv2,x4⟩;have g2:=hv2.base;have x24:Ext w2 w4:=(by exact fx);have hv1:=hv1.ext x4;have ap:=At.ext x24 (At.ext x2 ap);have a2:=At.ext x24 a2;have s24:=x24.size))
 trace_state
 all_goals
  have hbp:bp∉aB v1:=fun h=>by have:=g1 _ h;omega
  have hb2':b2∉aB v1:=fun h=>by have:=g1 _ h;omega
  have s23:=x23.size
  have hbp2:bp∉aB v2:=fun h=>by have:=g2 _ h;omega
  have hb22:b2∉aB v2:=fun h=>by have:=g2 _ h;omega
  have h12:∀b∈aB v1,b∉aB v2:=fun b h h'=>by have:=g2 _ h';have:=l1 _ h;omega
  refine bO (b:=bp) (o:=1) (cur:=aJ t iv ov) rfl rfl hv1.one ap (Nat.le_of_ble_eq_true rfl) (fun w5 c5 a5=>?_)
  repeat (first|refine go ?_|refine zg λ_ _=>?_|refine zi λ_ _=>?_)
  refine bO (b:=bp) (o:=2) (cur:=aJ t v1 ov) rfl rfl hv2.one a5 (Nat.le_of_ble_eq_true rfl) (fun w6 c6 a6=>?_)
  have c56:Chg [bp] w4 w6:=(c5.trans c6).mono (by simp)
  have hv1:=hv1.step (M':=M1) c56 (by intro y hy;simp at hy;subst hy;exact ⟨hbp,.inl mb⟩) (fun _ h=>.inl h)
  have hv2:=hv2.step (M':=aB v1++M1) c56 (by intro y hy;simp at hy;subst hy;exact ⟨hbp2,.inl (by simp [mb])⟩) (fun _ h=>.inl h)
  have a6:At w6 bp (.cells (aJ t v1 v2).toArray T.api_Tx (0,0)):=a6
  have a2:=At.chg c56 a2 (by simp;omega)
  have x26:Ext w w6:=(Ext.chg ((xw ()).trans x24) c56).mono (by intro y hy;simp at hy;right;omega)
  have l1':=hv1.lt
  have r6:Row w6 ⟨bp,0,none⟩ (aJ t v1 v2):=Row.of_at a6
  clear c5 c6 c56 a5 ap x3 x4
  repeat' (first|refine go1 ?_|refine zg λ_ _=>?_|refine zi λ_ _=>?_|refine zB ?_ ?_|refine zL rfl (fun h=>?_) (fun h=>?_)|refine zG (l:=t.ins) rfl (hv1.slB (B:=w2.heap.size) hM1b) ?_|(refine aI (fun (k:Nat) w'=>Ext w w'∧k≤t.ins.length∧w6.heap.size≤w'.heap.size∧At w' bp (.cells (aJ t v1 v2).toArray T.api_Tx (0,0))∧At w' b2 (.cells [Value.int .u32 0,.slice none 0 0,.slice none 0 0,.int .u32 0].toArray T.api_Tx (0,0))∧bR inR T.api_In w2.heap.size M1 w' v1 t.ins∧bR fS T.api_Out w3.heap.size (aB v1++M1) w' v2 t.outs) (fun k=> [(1,.pointer (some ⟨bp,0,none⟩)),(2,.pointer (some ⟨b2,0,none⟩)),(13,v1),(14,.int .i64 (t.ins.length:Nat)),(15,.int .i64 k)]) (fun k=>t.ins.length - k) 0 ⟨rfl,rfl,rfl,rfl,rfl,trivial⟩ ⟨x26,Nat.zero_le _,Nat.le_refl _,a6,a2,hv1,hv2⟩ ?_;rintro k ρ w7 ⟨x7,hk,s7,a7,q2,o1,o2⟩;have r7:Row w7 ⟨bp,0,none⟩ (aJ t v1 v2):=Row.of_at a7))
  ·have hki:k<t.ins.length:=by omega
   have hwl:=hs.wit _ (gMe hki)
   obtain ⟨b1,cap,css,junk,rfl,hB,hat,hc,hln,hall,hsl⟩:=o1.open (by omega)
   obtain ⟨wv,hcs,hw,hp5,hp6⟩:=hall.get k (by omega) hki
   have hb1:b1<w7.heap.size:=hat.lt
   have hMb:∀b∈b1::M1,b<w7.heap.size:=fun b hb=>by
    rcases List.mem_cons.1 hb with h|h
    ·omega
    ·have:=hM1b b h;omega
   refine aS (d:=some 24) (E:=kA inR.k inR.pos) (l:=css) (n:=k) rfl rfl (by exact fx) rfl (by omega) (fun ad r8=>?_)
   have r8:Row _ ad css[k].1:=r8
   rw [hcs] at r8
   repeat' (first|refine go1 ?_|refine zg λ_ _=>?_|refine zi λ_ _=>?_|refine zB ?_ ?_|(refine zC rfl (wU (M:=b1::M1) (l:=t.ins[k].wit) _ (hw.ext (by exact fx)) (by omega) (fun b hb=>nLt (hMb b hb) (Ext.size (by exact fx)))) ?_;rintro v3 w9 ⟨hv3,x9⟩;have hv3:=hv3.lower (B':=w7.heap.size) (Ext.size (by exact fx));have s9:=Ext.size (w:=w7) (w':=w9) (by exact fx))|refine aQf (d:=some 28) rfl rfl (by omega) ?_)
   all_goals
    have hx79:Ext w7 w9:=by exact fx
    refine bHd (E:=inR) (M:=M1) (B:=w2.heap.size) (l:=t.ins) (i:=k) (o:=3) (a:=t.ins[k]) (css:=css) (junk:=junk) (cap:=cap) rfl rfl hv3.one hB (hat.ext hx79) hc hln (bN0 hall hx79) hki (by decide) (fun w10 c10=>?_) (fun w10 c10 o10=>?_)
    ·refine ⟨v3,by rw [hcs];rfl,?_,hp5,hp6⟩
     exact (hv3.slB hMb).step c10 (by intro y hy;simp at hy;subst hy;simp) (fun b hb=>.inl hb)
    ·have hbb:b1≠bp:=fun e=>hbp (by rw [←e];simp [aB])
     have hbb2:b1≠b2:=fun e=>hb2' (by rw [←e];simp [aB])
     have hbv:b1∉aB v2:=h12 b1 (by simp [aB])
     have a7':=At.chg c10 (a7.ext hx79) (by simp;omega)
     have q2':=At.chg c10 (q2.ext hx79) (by simp;omega)
     have hs10:=c10.size
     have hwb:w.heap.size≤b1:=by omega
     have o2':=(o2.ext hx79).step c10 (M':=aB (.slice (some ⟨b1,0,none⟩) t.ins.length cap)++M1) (by intro y hy;simp at hy;subst hy;exact ⟨hbv,.inl (by simp [aB])⟩) (fun _ h=>.inl h)
     have x10:Ext w w10:=((x7.trans hx79).chg c10).mono (by intro y hy;simp at hy;right;omega)
     rw [List.set_getElem_self] at o10
     clear hx79
     repeat (first|refine go1 ?_|refine zg λ_ _=>?_|refine zi λ_ _=>?_)
     exact ⟨k+1,⟨rfl,rfl,rfl,rfl,rfl,trivial⟩,⟨x10,by omega,by omega,a7',q2',o10,o2'⟩,by omega⟩
  ·refine aU (w0:=w) (vs:=aJ t v1 v2) x7 (by omega) q2 rfl rfl rfl rfl ?_ (fun w11 x11 c11 a11 r11=>?_)
   ·have e1:=hv1.one
    have e2:=hv2.one
    simp [aJ,e1,e2];exact ⟨rfl,rfl⟩
   repeat (first|refine go1 ?_|refine zg λ_ _=>?_|refine zi λ_ _=>?_)
   have p1:=(o1.step (M':=M1) c11 (by intro y hy;simp at hy;subst hy;exact ⟨hb2',.inl m2⟩) (fun _ h=>.inl h)).sub (M':=M) (fun b hb=>.inl (mM b hb))
   have p2:=(o2.step (M':=M1) c11 (by intro y hy;simp at hy;subst hy;exact ⟨hb22,.inl (by simp [m2])⟩) (fun _ h=>.inl (by simp [h]))).sub (M':=M) (fun b hb=>.inl (mM b hb))
   exact aA (aOp (bD r11 rfl rfl)) ⟨_,rfl,⟨v1,v2,rfl,p1.lower (by omega),p2.lower (by omega),hv,hl⟩,x11⟩
end
section
open Go Go.K
attribute [local irreducible] aF aP bG KOp.wp K.Spec u32 leS vnS str aR dE bS idT aO aE aQ
theorem bQf {n:Int} (h:dM n):IntKind.i64.wrap n=n:=IntWalk.i64_in _ (by unfold dM at h;omega)
end
section
open Go Go.K
section
variable {P:Program} {d:Option Tmp} {r:KR} {K:Env→World→Prop} {ρ:Env} {w:World}
end
attribute [local irreducible] aF aP bG KOp.wp K.Spec u32 leS vnS str aR dE bS idT aO aE aQ idN oW bB
section
variable {base:Nat→Bool} {edge:Nat→Nat→Bool} {n r i:Nat} {m:List Bool}
end
end
end Go.Proofs.YtgloknkcfchnlaaGreat
namespace Go.K
section
open Go
variable {P:Program}
def sK:KEnc ByteArray:=⟨Value.string,false, [.s],by intro a b;simp [aCv,cO,kH],by intro a;rfl⟩
section
variable {κ β:Type} [DecidableEq κ] {KE:KEnc κ} {F:R β} {M:List Nat} {w:World} {d:Option Tmp} {r:KR} {K:Env→World→Prop} {ρ:Env}
theorem wC {s:Bool} {ks:List CK} {z:Value} {m x:Operand} {b:Nat} {l:List (κ × β)} {k:κ} (hm:ev ρ m=.map (some b)) (hx:ev ρ x=KE.f k) (hM:pO KE F M w b l) (hs:s=KE.s) (hks:ks=KE.ks)
  (k1:∀y cs,aL l k=some y→F.rel M w cs y→aF P r K (put ρ d (.tuple #[F.val cs,.bool true])) w) (k2:aL l k=none→aF P r K (put ρ d (.tuple #[z,.bool false])) w):aF P (.cons ⟨d,.lookup s ks z true m x,none⟩ r) K ρ w:=by
 obtain ⟨mv,h1,h2⟩:=hM
 have ha:=aJr (r:=fun v y=>∃cs,v=F.val cs∧F.rel M w cs y) (k:=k) h2
 refine lU (E:=KE) (fv:=id) hm hx h1 hs hks (fun v hv=>?_) (fun hv=>?_)
 ·cases hg:aL l k with
  |none=>rw [ha.2 hg] at hv;cases hv
  |some y=>
   obtain ⟨v',e,cs,e2,hr⟩:=ha.1 y hg
   rw [e] at hv;injection hv with hv;subst hv;subst e2
   exact k1 y cs hg hr
 ·cases hg:aL l k with
  |none=>exact k2 hg
  |some y=>
   obtain ⟨v',e,_⟩:=ha.1 y hg
   rw [e] at hv;cases hv
theorem bBj {s:Bool} {ks:List CK} {z:Value} {m x:Operand} {b:Nat} {l:List (κ × β)} {k:κ} (hm:ev ρ m=.map (some b)) (hx:ev ρ x=KE.f k) (hM:pO KE F M w b l) (hs:s=KE.s) (hks:ks=KE.ks)
  (k1:∀y cs,aL l k=some y→F.rel M w cs y→aF P r K (put ρ d (F.val cs)) w) (k2:aL l k=none→aF P r K (put ρ d z) w):aF P (.cons ⟨d,.lookup s ks z false m x,none⟩ r) K ρ w:=by
 obtain ⟨mv,h1,h2⟩:=hM
 have ha:=aJr (r:=fun v y=>∃cs,v=F.val cs∧F.rel M w cs y) (k:=k) h2
 refine eY (E:=KE) (fv:=id) hm hx h1 hs hks (fun v hv=>?_) (fun hv=>?_)
 ·cases hg:aL l k with
  |none=>rw [ha.2 hg] at hv;cases hv
  |some y=>
   obtain ⟨v',e,cs,e2,hr⟩:=ha.1 y hg
   rw [e] at hv;injection hv with hv;subst hv;subst e2
   exact k1 y cs hg hr
 ·cases hg:aL l k with
  |none=>exact k2 hg
  |some y=>
   obtain ⟨v',e,_⟩:=ha.1 y hg
   rw [e] at hv;cases hv
theorem aGc {s:Bool} {ks:List CK} {m x y:Operand} {b:Nat} {l:List (κ × β)} {k:κ} {v:β} {cs:List Value} (hm:ev ρ m=.map (some b)) (hx:ev ρ x=KE.f k) (hy:ev ρ y=F.val cs) (hM:pO KE F M w b l) (hr:F.rel M w cs v) (hb:b∈M) (hs:s=KE.s) (hks:ks=KE.ks)
  (kk:∀w',Chg [b] w w'→pO KE F M w' b (fQ l k v)→aF P r K (put ρ d undef) w'):aF P (.cons ⟨d,.mapUpdate s ks m x y,none⟩ r) K ρ w:=by
 obtain ⟨mv,h1,h2⟩:=hM
 refine eQ (E:=KE) (fv:=id) (v:=F.val cs) hm hx hy h1 hs hks fun w' c hM'=>kk w' c ⟨_,hM',?_⟩
 have h3:All2 (fun (p:κ × Value) (q:κ × β)=>p.1=q.1∧∃cs,p.2=F.val cs∧F.rel M w' cs q.2) mv l:=h2.mono fun _ _ ⟨e,cs,e2,hr⟩=>⟨e,cs,e2,F.step hr c (by intro y hy;simp at hy;subst hy;exact .inl hb) (fun _ h=>.inl h)⟩
 exact bBa (r:=fun v y=>∃cs,v=F.val cs∧F.rel M w' cs y) ⟨cs,rfl,F.step hr c (by intro y hy;simp at hy;subst hy;exact .inl hb) (fun _ h=>.inl h)⟩ h3
theorem aQs {s:Bool} {ks:List CK} {m x:Operand} {b:Nat} {l:List (κ × β)} {k:κ} (hm:ev ρ m=.map (some b)) (hx:ev ρ x=KE.f k) (hM:pO KE F M w b l) (hb:b∈M) (hs:s=KE.s) (hks:ks=KE.ks)
  (kk:∀w',Chg [b] w w'→pO KE F M w' b (jL l k)→aF P r K (put ρ d (.tuple #[])) w'):aF P (.cons ⟨d,.delete s ks m x,none⟩ r) K ρ w:=by
 obtain ⟨mv,h1,h2⟩:=hM
 refine aFf (E:=KE) (fv:=id) hm hx h1 hs hks fun w' c hM'=>kk w' c ⟨_,hM',?_⟩
 have h3:All2 (fun (p:κ × Value) (q:κ × β)=>p.1=q.1∧∃cs,p.2=F.val cs∧F.rel M w' cs q.2) mv l:=h2.mono fun _ _ ⟨e,cs,e2,hr⟩=>⟨e,cs,e2,F.step hr c (by intro y hy;simp at hy;subst hy;exact .inl hb) (fun _ h=>.inl h)⟩
 exact bMh (r:=fun v y=>∃cs,v=F.val cs∧F.rel M w' cs y) h3
theorem pO.new {b:Nat} (h:dI KE id w b ([]:List (κ × Value))):pO KE F M w b []:=⟨[],h,.nil⟩
end
theorem aQi {κ β:Type} [DecidableEq κ] (m:List (κ × β)) (k k':κ):aL (jL m k) k'=if k=k' then none else aL m k':=by
 unfold aL jL
 rw [List.find?_filter]
 by_cases h:k=k'
 ·subst h
  rw [if_pos rfl]
  have:m.find? (fun p=>decide (decide (p.1≠k)=true∧decide (p.1=k)=true))=none:=List.find?_eq_none.2 fun p _=>by simp
  simp [this]
 ·rw [if_neg h]
  congr 2
  funext p
  by_cases h2:p.1=k'
  ·simp [h2,Ne.symm h]
  ·simp [h2]
end
section
open Go
structure GI (m:List (ByteArray × Ent)) (sp:List (Pt × ByteArray)) (l:List Ent):Prop where
 ent:∀id,aL m id=l.find? fun x=>decide (x.id=id)
 spt:∀p,aL sp p=(l.find? fun x=>spends x p).map (·.id)
 nodup:(l.map (·.id)).Nodup
 apart:l.Pairwise fun x y=>∀p,spends x p=true→spends y p=false
 ok:∀x∈l,EntOk x
theorem GI.nil:GI [] [] []:=⟨fun _=>rfl,fun _=>rfl,List.nodup_nil,.nil,fun _ h=>by simp at h⟩
def nM (sp:List (Pt × ByteArray)) (ins:List TIn) (id:ByteArray):List (Pt × ByteArray):=ins.foldl (fun s x=>fQ s x.p id) sp
def yF (sp:List (Pt × ByteArray)) (ins:List TIn):List (Pt × ByteArray):=ins.foldl (fun s x=>jL s x.p) sp
theorem dG {κ β:Type} [DecidableEq κ] (l:List (κ × β)) (k:κ) (v:β) (k':κ):aL (fQ l k v) k'=if k=k' then some v else aL l k':=by
 induction l with
 |nil=>unfold aL fQ;by_cases h:k=k'<;>simp [h]
 |cons p l ih=>
  have e:∀(q:κ × β) (m:List (κ × β)),aL (q::m) k'=if q.1=k' then some q.2 else aL m k':=by intro q m;unfold aL;rw [List.find?_cons];by_cases h:q.1=k'<;>simp [h]
  unfold fQ
  by_cases h:p.1=k
  ·rw [if_pos h,e,e]
   by_cases h2:k=k'
   ·simp [h2]
   ·rw [if_neg h2,if_neg h2,if_neg (by rw [h];exact h2)]
  ·rw [if_neg h,e,e,ih]
   by_cases h2:p.1=k'
   ·rw [if_pos h2,if_pos h2,if_neg (by rw [←h2];exact fun e=>h e.symm)]
   ·rw [if_neg h2,if_neg h2]
theorem aRy (id:ByteArray):∀(ins:List TIn) (sp:List (Pt × ByteArray)) (p:Pt),aL (nM sp ins id) p=if ins.any (fun i=>decide (i.p=p)) then some id else aL sp p
 | [],sp,p=>by simp [nM]
 |x::ins,sp,p=>by
  have:=aRy id ins (fQ sp x.p id) p
  simp only [nM,List.foldl_cons] at this ⊢
  rw [this,List.any_cons,dG]
  by_cases h1:ins.any (fun i=>decide (i.p=p))=true
  ·simp [h1]
  ·simp only [Bool.not_eq_true] at h1
   rw [h1]
   by_cases h2:x.p=p<;>simp [h2]
theorem aQw:∀(ins:List TIn) (sp:List (Pt × ByteArray)) (p:Pt),aL (yF sp ins) p=if ins.any (fun i=>decide (i.p=p)) then none else aL sp p
 | [],sp,p=>by simp [yF]
 |x::ins,sp,p=>by
  have:=aQw ins (jL sp x.p) p
  simp only [yF,List.foldl_cons] at this ⊢
  rw [this,List.any_cons,aQi]
  by_cases h1:ins.any (fun i=>decide (i.p=p))=true
  ·simp [h1]
  ·simp only [Bool.not_eq_true] at h1
   rw [h1]
   by_cases h2:x.p=p<;>simp [h2]
theorem aMu {sp:List (Pt × ByteArray)} {ins:List TIn} {id:ByteArray} {i:Nat} (h:i<ins.length):nM sp (ins.take (i+1)) id=fQ (nM sp (ins.take i) id) ins[i].p id:=by
 rw [nM,nM,List.take_succ_eq_append_getElem h,List.foldl_append];rfl
theorem aM6 {sp:List (Pt × ByteArray)} {ins:List TIn} {i:Nat} (h:i<ins.length):yF sp (ins.take (i+1))=jL (yF sp (ins.take i)) ins[i].p:=by
 rw [yF,yF,List.take_succ_eq_append_getElem h,List.foldl_append];rfl
theorem GI.add {m:List (ByteArray × Ent)} {sp:List (Pt × ByteArray)} {l:List Ent} (h:GI m sp l) {x:Ent} (hx:EntOk x) (h1:∀y∈l,y.id≠x.id) (h2:∀y∈l,∀p,spends x p=true→spends y p=false):GI (fQ m x.id x) (nM sp x.tx.ins x.id) (l++ [x]) where
 ent:=fun id=>by
  rw [dG,List.find?_append,h.ent]
  by_cases e:x.id=id
  ·subst e
   have:l.find? (fun y=>decide (y.id=x.id))=none:=List.find?_eq_none.2 fun y hy=>by simpa using h1 y hy
   rw [if_pos rfl,this];simp
  ·rw [if_neg e]
   simp [e]
 spt:=fun p=>by
  rw [aRy,List.find?_append,h.spt]
  by_cases e:spends x p=true
  ·have:l.find? (fun y=>spends y p)=none:=List.find?_eq_none.2 fun y hy=>by rw [h2 y hy p e];decide
   have e':x.tx.ins.any (fun i=>decide (i.p=p))=true:=e
   rw [if_pos e',this];simp [e]
  ·have e':¬x.tx.ins.any (fun i=>decide (i.p=p))=true:=e
   rw [if_neg e']
   simp [e]
 nodup:=by
  rw [List.map_append,List.nodup_append]
  exact ⟨h.nodup,by simp,fun a ha b hb=>by
   simp only [List.map_cons,List.map_nil,List.mem_singleton] at hb
   subst hb
   obtain ⟨y,hy,rfl⟩:=List.mem_map.1 ha
   exact h1 y hy⟩
 apart:=by
  rw [List.pairwise_append]
  exact ⟨h.apart,List.pairwise_singleton _ _,fun y hy z hz p hp=>by
   simp only [List.mem_singleton] at hz
   subst hz
   by_cases e:spends z p=true
   ·rw [h2 y hy p e] at hp;cases hp
   ·simpa using e⟩
 ok:=fun y hy=>by
  rcases List.mem_append.1 hy with h3|h3
  ·exact h.ok y h3
  ·simp only [List.mem_singleton] at h3;subst h3;exact hx
theorem aJl {l:List Ent} {x:Ent} {n:Nat} (hn:(l.map (·.id)).Nodup) (h:n<l.length) (hx:l[n]=x):l.eraseIdx n=l.filter fun y=>!decide (y.id=x.id):=by
 induction l generalizing n with
 |nil=>simp at h
 |cons y l ih=>
  rw [List.map_cons,List.nodup_cons] at hn
  cases n with
  |zero=>
   simp only [List.getElem_cons_zero] at hx
   subst hx
   rw [List.eraseIdx_cons_zero,List.filter_cons_of_neg (by simp)]
   symm
   rw [List.filter_eq_self]
   intro z hz
   simp only [Bool.not_eq_true',decide_eq_false_iff_not]
   intro e
   exact hn.1 (by rw [←e];exact List.mem_map.2 ⟨z,hz,rfl⟩)
  |succ n=>
   simp only [List.getElem_cons_succ] at hx
   have hxl:x∈l:=by rw [←hx];exact gMe _
   rw [List.eraseIdx_cons_succ,List.filter_cons_of_pos,ih hn.2 (by simpa using h) hx]
   simp only [Bool.not_eq_true',decide_eq_false_iff_not]
   intro e
   exact hn.1 (by rw [e];exact List.mem_map.2 ⟨x,hxl,rfl⟩)
theorem bMy {l:List Ent} (h:l.Pairwise fun x y=>∀p,spends x p=true→spends y p=false) (hn:(l.map (·.id)).Nodup) {x y:Ent} (hx:x∈l) (hy:y∈l) (hne:y.id≠x.id) {p:Pt} (hp:spends x p=true):spends y p=false:=by
 induction l with
 |nil=>simp at hx
 |cons z l ih=>
  rw [List.pairwise_cons] at h
  rw [List.map_cons,List.nodup_cons] at hn
  rcases List.mem_cons.1 hx with e1|hx1
  ·rcases List.mem_cons.1 hy with e2|hy1
   ·exact absurd (by rw [e1,e2]) hne
   ·rw [e1] at hp;exact h.1 y hy1 p hp
  ·rcases List.mem_cons.1 hy with e2|hy1
   ·rw [e2]
    by_cases e:spends z p=true
    ·rw [h.1 x hx1 p e] at hp;cases hp
    ·simpa using e
   ·exact ih h.2 hn.2 hx1 hy1
theorem GI.del {m:List (ByteArray × Ent)} {sp:List (Pt × ByteArray)} {l:List Ent} (h:GI m sp l) {x:Ent} (hx:x∈l):GI (jL m x.id) (yF sp x.tx.ins) (l.filter fun y=>!decide (y.id=x.id)) where
 ent:=fun id=>by
  rw [aQi,List.find?_filter,h.ent]
  by_cases e:x.id=id
  ·subst e
   rw [if_pos rfl]
   symm
   exact List.find?_eq_none.2 fun y _=>by simp
  ·rw [if_neg e]
   congr 1;funext y
   by_cases e2:y.id=id
   ·simp [e2,Ne.symm e]
   ·simp [e2]
 spt:=fun p=>by
  rw [aQw,List.find?_filter,h.spt]
  by_cases e:spends x p=true
  ·have e':x.tx.ins.any (fun i=>decide (i.p=p))=true:=e
   rw [if_pos e']
   symm
   have:l.find? (fun y=>decide ((!decide (y.id=x.id))=true∧spends y p=true))=none:=List.find?_eq_none.2 fun y hy=>by
    by_cases e2:y.id=x.id
    ·simp [e2]
    ·simp [bMy h.apart h.nodup hx hy e2 e]
   rw [this];rfl
  ·have e':¬x.tx.ins.any (fun i=>decide (i.p=p))=true:=e
   rw [if_neg e']
   congr 1
   have hd:∀y∈l,spends y p=true→y.id≠x.id:=fun y hy hs hid=>by
    have hyx:y=x:=by
     have hnd:=h.nodup
     clear h e e' hs
     induction l with
     |nil=>simp at hx
     |cons z l ih=>
      rw [List.map_cons,List.nodup_cons] at hnd
      rcases List.mem_cons.1 hx with e1|hx1
      ·rcases List.mem_cons.1 hy with e2|hy1
       ·rw [e1,e2]
       ·exact absurd (List.mem_map.2 ⟨y,hy1,by rw [hid,e1]⟩) hnd.1
      ·rcases List.mem_cons.1 hy with e2|hy1
       ·exact absurd (List.mem_map.2 ⟨x,hx1,by rw [←hid,e2]⟩) hnd.1
       ·exact ih hx1 hy1 hnd.2
    subst hyx;exact e hs
   clear h e e'
   induction l with
   |nil=>rfl
   |cons y l ih=>
    rw [List.find?_cons,List.find?_cons]
    by_cases hs:spends y p=true
    ·have:=hd y (by simp) hs
     simp [hs,this]
    ·simp only [Bool.not_eq_true] at hs
     rw [hs]
     simp only [Bool.false_eq_true,and_false,decide_false]
     by_cases hxl:x∈l
     ·exact ih hxl (fun z hz=>hd z (by simp [hz]))
     ·have hxy:x=y:=by
       rcases List.mem_cons.1 hx with h1|h1
       ·exact h1
       ·exact absurd h1 hxl
      clear ih
      have hd2:∀z∈l,spends z p=true→z.id≠x.id:=fun z hz=>hd z (by simp [hz])
      clear hx hxl hd hxy
      induction l with
      |nil=>rfl
      |cons z l ih2=>
       rw [List.find?_cons,List.find?_cons]
       by_cases hs2:spends z p=true
       ·have:=hd2 z (by simp) hs2
        simp [hs2,this]
       ·simp only [Bool.not_eq_true] at hs2
        rw [hs2]
        simp only [Bool.false_eq_true,and_false,decide_false]
        exact ih2 (fun q hq=>hd2 q (by simp [hq]))
 nodup:=List.Nodup.sublist (List.Sublist.map _ List.filter_sublist) h.nodup
 apart:=h.apart.sublist List.filter_sublist
 ok:=fun y hy=>h.ok y (List.mem_filter.1 hy).1
end
end Go.K
namespace Go.Proofs.YtgloknkcfchnlaaGreat
section
open Go Go.K
attribute [local irreducible] aF aP bG KOp.wp K.Spec u32 leS vnS str aR dE bS idT aO aE aQ idN oW bB bT spends
def aOq (B:Nat) (M:List Nat) (w:World) (cs:List Value) (x:Ent):Prop:=∃iv ov,cs=bC x iv ov∧bR inR T.api_In B M w iv x.tx.ins∧bR fS T.api_Out B M w ov x.tx.outs∧dM x.tx.ver∧dM x.tx.lock∧sG x.fee∧sG x.size
theorem aOq.rel {B:Nat} {M:List Nat} {w:World} {cs:List Value} {x:Ent} (h:aOq B M w cs x) (hM:∀b∈M,b<B):dC.rel M w cs x:=by
 obtain ⟨iv,ov,rfl,h1,h2,h3⟩:=h
 exact ⟨iv,ov,rfl,h1.slB hM,h2.slB hM,h3⟩
theorem aOq.ext {B:Nat} {M:List Nat} {w w':World} {cs:List Value} {x:Ent} (h:aOq B M w cs x) (c:Ext w w'):aOq B M w' cs x:=by
 obtain ⟨iv,ov,rfl,h1,h2,h3⟩:=h
 exact ⟨iv,ov,rfl,h1.ext c,h2.ext c,h3⟩
theorem aOq.lower {B B':Nat} {M:List Nat} {w:World} {cs:List Value} {x:Ent} (h:aOq B M w cs x) (hb:B'≤B):aOq B' M w cs x:=by
 obtain ⟨iv,ov,rfl,h1,h2,h3⟩:=h
 exact ⟨iv,ov,rfl,h1.lower hb,h2.lower hb,h3⟩
abbrev aDa:List Value:= [.int .u32 0,.slice none 0 0,.slice none 0 0,.int .u32 0,.string ⟨#[]⟩,.int .i64 0,.int .i64 0]
abbrev dT (g b1 b2:Nat) (vo:Value):List Nat:=g::b1::b2::aB vo
structure GrP (w:World) (B g b1:Nat) (vo:Value) (b2:Nat) (m:List (ByteArray × Ent)) (sp:List (Pt × ByteArray)) (l:List Ent):Prop where
 at_:At w g (.cells [.map (some b1),vo,.map (some b2)].toArray T.graph_Graph (0,0))
 ents:pO sK dC (dT g b1 b2 vo) w b1 m
 pts:dI ptK Value.string w b2 sp
 ord:Own bL T.string B w vo (l.map (·.id))
 inv:GI m sp l
 nd:(dT g b1 b2 vo).Nodup
 lo:B≤g∧B≤b1∧B≤b2
def Gr (w:World) (B g:Nat) (M:List Nat) (l:List Ent):Prop:=∃b1 vo b2 m sp,GrP w B g b1 vo b2 m sp l∧M=dT g b1 b2 vo
theorem GrP.ext {w w':World} {B g b1 b2:Nat} {vo:Value} {m:List (ByteArray × Ent)} {sp:List (Pt × ByteArray)} {l:List Ent} (h:GrP w B g b1 vo b2 m sp l) (c:Ext w w'):GrP w' B g b1 vo b2 m sp l:=
 ⟨h.at_.ext c,h.ents.ext c,h.pts.ext c,h.ord.ext c,h.inv,h.nd,h.lo⟩
theorem Gr.ext {w w':World} {B g:Nat} {M:List Nat} {l:List Ent} (h:Gr w B g M l) (c:Ext w w'):Gr w' B g M l:=by
 obtain ⟨b1,vo,b2,m,sp,h,e⟩:=h;exact ⟨b1,vo,b2,m,sp,h.ext c,e⟩
theorem Gr.ok {w:World} {B g:Nat} {M:List Nat} {l:List Ent} (h:Gr w B g M l):∀x∈l,EntOk x:=by
 obtain ⟨b1,vo,b2,m,sp,h,e⟩:=h;exact h.inv.ok
theorem Gr.nodup {w:World} {B g:Nat} {M:List Nat} {l:List Ent} (h:Gr w B g M l):(l.map (·.id)).Nodup:=by
 obtain ⟨b1,vo,b2,m,sp,h,e⟩:=h;exact h.inv.nodup
theorem Gr.lt {w:World} {B g:Nat} {M:List Nat} {l:List Ent} (h:Gr w B g M l):∀b∈M,b<w.heap.size:=by
 obtain ⟨b1,vo,b2,m,sp,h,rfl⟩:=h
 intro b hb
 simp only [List.mem_cons] at hb
 rcases hb with rfl|rfl|rfl|hb
 ·exact h.at_.lt
 ·exact h.ents.lt
 ·exact h.pts.lt
 ·rcases h.ord with ⟨e,_⟩|⟨b',cap,junk,e,hB,hat,hl⟩
  ·rw [e] at hb;simp [aB] at hb
  ·rw [e] at hb;simp [aB] at hb;subst hb;exact hat.lt
theorem Gr.base {w:World} {B g:Nat} {M:List Nat} {l:List Ent} (h:Gr w B g M l):∀b∈M,B≤b:=by
 obtain ⟨b1,vo,b2,m,sp,h,rfl⟩:=h
 intro b hb
 have:=h.lo
 simp only [List.mem_cons] at hb
 rcases hb with rfl|rfl|rfl|hb
 ·omega
 ·omega
 ·omega
 ·exact h.ord.base b hb
structure GrQ (w:World) (g b1:Nat) (vo:Value) (b2:Nat) (M:List Nat) (m:List (ByteArray × Ent)) (sp:List (Pt × ByteArray)) (l:List Ent):Prop where
 at_:At w g (.cells [.map (some b1),vo,.map (some b2)].toArray T.graph_Graph (0,0))
 ents:pO sK dC M w b1 m
 pts:dI ptK Value.string w b2 sp
 ord:SlE bL w vo (l.map (·.id))
 inv:GI m sp l
def GrR (w:World) (g:Nat) (M:List Nat) (l:List Ent):Prop:=∃b1 vo b2 m sp,GrQ w g b1 vo b2 M m sp l
theorem Gr.r {w:World} {B g:Nat} {M:List Nat} {l:List Ent} (h:Gr w B g M l):GrR w g M l:=by
 obtain ⟨b1,vo,b2,m,sp,h,rfl⟩:=h
 exact ⟨b1,vo,b2,m,sp,h.at_,h.ents,h.pts,h.ord.sl,h.inv⟩
theorem GrR.more {w w':World} {g:Nat} {M M':List Nat} {l:List Ent} (h:GrR w g M l) (c:Ext w w') (hm:∀b∈M',b∈M∨w.heap.size≤b):GrR w' g M' l:=by
 obtain ⟨b1,vo,b2,m,sp,h⟩:=h
 exact ⟨b1,vo,b2,m,sp,h.at_.ext c,h.ents.step c (by simp) (by simp) hm,h.pts.ext c,h.ord.ext c,h.inv⟩
theorem GrR.ext {w w':World} {g:Nat} {M:List Nat} {l:List Ent} (h:GrR w g M l) (c:Ext w w'):GrR w' g M l:=h.more c (fun _ h=>.inl h)
theorem GrR.ok {w:World} {g:Nat} {M:List Nat} {l:List Ent} (h:GrR w g M l):∀x∈l,EntOk x:=by
 obtain ⟨b1,vo,b2,m,sp,h⟩:=h;exact h.inv.ok
theorem GrR.nodup {w:World} {g:Nat} {M:List Nat} {l:List Ent} (h:GrR w g M l):(l.map (·.id)).Nodup:=by
 obtain ⟨b1,vo,b2,m,sp,h⟩:=h;exact h.inv.nodup
theorem aBh (w:World):K.Spec Tryz.prog F.graph_New [] w fun r w'=>∃g M,r=.pointer (some ⟨g,0,none⟩)∧Gr w' w.heap.size g M []∧Ext w w':=by
 refine bBi rfl ?_
 unfold aNc
 refine oy ?_
 repeat' (first|refine aT (cs:= [.map (some b1),.slice none 0 0,.map (some b2)]) rfl ?_|refine go1 ?_|refine zg λ_ _=>?_|refine zi λ_ _=>?_|refine zD (cs:= [.map (some b1),.slice none 0 0,.map (some b2)]) rfl rfl (fun bp wp xp ap rp hp0=>?_)|refine iQ (d:=some 1) (E:=sK) (fv:=id) (β:=Value) (fun b1 w1 x1 m1 hb1=>?_)|refine iQ (d:=some 2) (E:=ptK) (fv:=Value.string) (fun b2 w2 x2 m2 hb2=>?_))
 have l1:=m1.lt
 have l2:=m2.lt
 have lp:=ap.lt
 exact aA rfl ⟨bp,_,rfl,⟨b1,.slice none 0 0,b2, [], [],⟨ap,pO.new (m1.ext (x2.trans xp)),m2.ext xp,Own.nil _ _ _,GI.nil,by simp [aB];omega,by have:=x1.size;have:=x2.size;omega⟩,rfl⟩,by exact fx⟩
def lS (t:Tx) (fee:Int):Int:=if aE t≠0 then aE t else if aQ t then 4 else if !cD fee then 3 else 0
theorem bAs {M:List Nat} {cs:List Value} {t:Tx} (w:World) (ht:txR.rel M w cs t) (hs:t.Sm):K.Spec Tryz.prog F.tx_Base [.agg cs.toArray] w fun r w'=>r=.bool (aQ t)∧Ext w w':=lI w ht hs
set_option maxHeartbeats 1000000 in
theorem aB9 {M:List Nat} {cs:List Value} {t:Tx} (fee:Int) (w:World) (ht:txR.rel M w cs t) (hs:t.Sm) (hf:sG fee) (hM:∀b∈M,b<w.heap.size):K.Spec Tryz.prog F.graph_entry [.agg cs.toArray,.int .i64 fee] w fun r w'=>
  ∃ds,r=.tuple #[.agg ds.toArray,.int .i64 (lS t fee)]∧ds.length=7∧ds.all (fun v=>v.oneCell')=true∧(lS t fee=0→EntOk ⟨t,idT t,fee,(aO t:Nat)⟩∧aOq w.heap.size M w' ds ⟨t,idT t,fee,(aO t:Nat)⟩)∧Ext w w':=by
 have ht0:=ht
 obtain ⟨iv,ov,rfl,h1,h2,h3⟩:=ht
 have key:∀{w6:World} {b4:Nat},Ext w w6→w.heap.size≤b4→txR.rel (b4::M) w6 (aJ t iv ov) t:=fun x hb=>txR.step ht0 x (by simp) (by
  intro y hy
  rcases List.mem_cons.1 hy with h|h
  ·right;omega
  ·exact .inl h)
 by_cases hc:aE t=0
 ·have hz:=cB hs hc
  have hzs:=hz.size
  refine aGr rfl ?_
  unfold yL
  refine oy ?_
  repeat (first|refine go ?_|refine zg λ_ _=>?_|refine zi λ_ _=>?_)
  refine zD rfl rfl (fun bp wp xp ap rp hp0=>?_)
  repeat (first|refine go ?_|refine zg λ_ _=>?_|refine zi λ_ _=>?_)
  refine zH (fun b4 w4 x4 a4 hb4=>?_)
  have sp:=xp.size
  have l4:=a4.lt
  repeat' (first|refine aT (d:=some 18) (cs:=aDa) rfl ?_|refine aT (d:=some 23) (cs:=aDa) rfl ?_|refine aT (d:=some 28) (cs:=aDa) rfl ?_|refine go1 ?_|refine zg λ_ _=>?_|refine zi λ_ _=>?_|refine zM rfl (fun h=>?_) (fun h=>?_)|refine zN rfl (fun h=>?_) (fun h=>?_)|(refine zC rfl (uD (M:=M) _ (cs:=aJ t iv ov) (by exact fx) hs) ?_;rintro _ w5 ⟨rfl,x5⟩;rw [idV,if_pos hc])|(refine zC rfl (bAs (M:=M) _ (cs:=aJ t iv ov) (by exact fx) hs) ?_;rintro _ w6 ⟨rfl,x6⟩)|(refine zC rfl (fZ (M:=M) _ (cs:=aJ t iv ov) (by exact fx) hs) ?_;rintro _ w7 ⟨rfl,x7⟩;rw [kQ,if_pos hc])|refine aU (w0:=w) (vs:=aDa) (by exact fx) (by omega) (by focus (repeat (first|assumption|(apply At.ext;assumption)))) rfl rfl rfl rfl rfl (fun w9 x9 c9 a9 r9=>?_))
  ·exact aA (iR (bD r9 rfl rfl) bJ) ⟨aDa,by rw [lS,if_neg (by simpa using hc),if_pos h];rfl,rfl,rfl,fun e=>(by rw [lS,if_neg (by simpa using hc),if_pos h] at e;cases e),x9⟩
  ·exact aA (iR (bD r9 rfl rfl) bJ) ⟨aDa,by rw [lS,if_neg (by simpa using hc),if_neg (by simpa using ‹aQ t=false›),if_pos h];rfl,rfl,rfl,fun e=>(by rw [lS,if_neg (by simpa using hc),if_neg (by simpa using ‹aQ t=false›),if_pos h] at e;cases e),x9⟩
  ·have hg:aQ t=false:=by assumption
   have s47:=Ext.size (w:=w4) (w':=w7) (by exact fx)
   have a4':=At.ext (show Ext w4 w7 by exact fx) a4
   have xw7:Ext w w7:=by exact fx
   refine zC rfl (xQ (M:=b4::M) (cs:=aJ t iv ov) _ (key xw7 (by omega)) hs (fun b hb=>?_)) ?_
   ·rcases List.mem_cons.1 hb with e|e
    ·omega
    ·have:=hM b e;have:=xw7.size;omega
   rintro _ w8 ⟨cs8,rfl,⟨iv8,ov8,rfl,o1,o2,o3⟩,x8⟩
   repeat (first|refine aT (cs:=bC ⟨t,idT t,fee,(aO t:Nat)⟩ iv8 ov8) rfl ?_|refine go1 ?_|refine zg λ_ _=>?_|refine zi λ_ _=>?_)
   have g1:=o1.base
   have g2:=o2.base
   refine aU (w0:=w) (vs:=bC ⟨t,idT t,fee,(aO t:Nat)⟩ iv8 ov8) (xw7.trans x8) (by omega) (At.ext x8 a4') rfl rfl rfl rfl ?_ (fun w9 x9 c9 a9 r9=>?_)
   ·have e1:=o1.one
    have e2:=o2.one
    simp [bC,e1,e2];exact ⟨rfl,rfl,rfl,rfl,rfl⟩
   repeat (first|refine go1 ?_|refine zg λ_ _=>?_|refine zi λ_ _=>?_)
   have h41:b4∉aB iv8:=fun h=>by have:=g1 _ h;omega
   have h42:b4∉aB ov8:=fun h=>by have:=g2 _ h;omega
   have p1:=o1.step (M':=M) c9 (by intro y hy;simp at hy;subst hy;exact ⟨h41,.inl (by simp)⟩) (fun _ h=>.inl (by simp [h]))
   have p2:=o2.step (M':=M) c9 (by intro y hy;simp at hy;subst hy;exact ⟨h42,.inl (by simp)⟩) (fun _ h=>.inl (by simp [h]))
   have hgf:cD fee=true:=by simpa using h
   have e0:lS t fee=0:=by rw [lS,if_neg (by simpa using hc),if_neg (by rw [hg];decide),if_neg (by rw [hgf];decide)]
   rw [e0]
   have s7:=xw7.size
   refine aA (iR (bD r9 rfl rfl) bJ) ⟨_,rfl,rfl,?_,fun _=>⟨⟨hc,hg,hgf,rfl,rfl⟩,iv8,ov8,rfl,p1.lower s7,p2.lower s7,h3.1,h3.2,hf,by show sG ((aO t:Nat):Int);unfold sG;omega⟩,x9⟩
   have e1:=o1.one
   have e2:=o2.one
   simp [bC,e1,e2];exact ⟨rfl,rfl,rfl,rfl,rfl⟩
 ·refine aGr rfl ?_
  unfold yL
  refine oy ?_
  repeat (first|refine go ?_|refine zg λ_ _=>?_|refine zi λ_ _=>?_)
  refine zD rfl rfl (fun bp wp xp ap rp hp0=>?_)
  repeat (first|refine go ?_|refine zg λ_ _=>?_|refine zi λ_ _=>?_)
  refine zH (fun b4 w4 x4 a4 hb4=>?_)
  have sp:=xp.size
  repeat' (first|refine aT (d:=some 18) (cs:=aDa) rfl ?_|refine go1 ?_|refine zg λ_ _=>?_|refine zi λ_ _=>?_|refine zN rfl (fun h=>?_) (fun h=>?_)|(refine zC rfl (uD (M:=M) _ (cs:=aJ t iv ov) (by exact fx) hs) ?_;rintro _ w5 ⟨rfl,x5⟩;rw [idV,if_neg hc])|refine aU (w0:=w) (vs:=aDa) (by exact fx) (by omega) (by focus (repeat (first|assumption|(apply At.ext;assumption)))) rfl rfl rfl rfl rfl (fun w9 x9 c9 a9 r9=>?_))
  ·have e0:lS t fee=aE t:=by rw [lS,if_pos hc]
   rw [e0]
   exact aA (iR (bD r9 rfl rfl) bJ) ⟨aDa,rfl,rfl,rfl,fun e=>absurd e hc,x9⟩
  ·exact absurd (by assumption) hc
end
end Go.Proofs.YtgloknkcfchnlaaGreat
namespace Go.K
section
open Go
def named (l:List Ent) (ids:List ByteArray) (i:Nat):Bool:=ids.any fun s=>decide (s=(eN l i).id)
def bY (l:List Ent) (frm:List ByteArray) (nxt:Ent→List ByteArray):List Bool:=nW (named l frm) (fun k i=>named l (nxt (eN l k)) i) l.length
abbrev bLp (l:List Ent) (frm:List ByteArray) (nxt:Ent→List ByteArray) (i:Nat):Bool:=bB (named l frm) (fun k i=>named l (nxt (eN l k)) i) l.length l.length i
def pR (met:List (ByteArray × Nat)) (id:ByteArray):Bool:=(aL met id).isSome
def cH (met:List (ByteArray × Nat)) (nxt:Ent→List ByteArray) (l:List Ent):Nat:=(l.map fun x=>if pR met x.id then 0 else (nxt x).length).sum
structure BInv (l:List Ent) (frm:List ByteArray) (nxt:Ent→List ByteArray) (T:List ByteArray) (met:List (ByteArray × Nat)):Prop where
 todo:∀id∈T,∃i,i<l.length∧(eN l i).id=id∧bLp l frm nxt i=true
 seen:∀id,pR met id=true→∃i,i<l.length∧(eN l i).id=id∧bLp l frm nxt i=true
 pos:∀id c,aL met id=some c→1≤c
 from0:∀id∈frm,id∈T∨pR met id=true
 next0:∀i,i<l.length→pR met (eN l i).id=true→∀s∈nxt (eN l i),s∈T∨pR met s=true
section
variable {l:List Ent} {frm:List ByteArray} {nxt:Ent→List ByteArray} {T:List ByteArray} {met:List (ByteArray × Nat)}
theorem rQ {ids:List ByteArray} {i:Nat}:named l ids i=true↔(eN l i).id∈ids:=by
 unfold named
 rw [List.any_eq_true]
 constructor
 ·rintro ⟨s,h1,h2⟩;rw [←of_decide_eq_true h2];exact h1
 ·intro h;exact ⟨_,h,dTr rfl⟩
theorem qS {id s:ByteArray} {c:Nat}:pR (fQ met id c) s=(decide (id=s)||pR met s):=by
 unfold pR
 rw [dG]
 by_cases h:id=s<;>simp [h]
theorem BInv.start (h:∀id∈frm,∃i,i<l.length∧(eN l i).id=id):BInv l frm nxt frm [] where
 todo:=fun id hid=>by
  obtain ⟨i,h1,h2⟩:=h id hid
  exact ⟨i,h1,h2,vX h1 (rQ.2 (by rw [h2];exact hid))⟩
 seen:=fun id h=>by simp [pR,aL] at h
 pos:=fun id c h=>by simp [aL] at h
 from0:=fun id h=>.inl h
 next0:=fun i _ h=>by simp [pR,aL] at h
theorem BInv.again {id:ByteArray} {c:Nat} (h:BInv l frm nxt (id::T) met) (hc:aL met id=some c):BInv l frm nxt T (fQ met id (c+1)) where
 todo:=fun s hs=>h.todo s (by simp [hs])
 seen:=fun s hs=>by
  rw [qS] at hs
  by_cases e:id=s
  ·subst e;exact h.seen id (by unfold pR;rw [hc];rfl)
  ·simp [e] at hs;exact h.seen s hs
 pos:=fun s d hd=>by
  rw [dG] at hd
  split at hd
  ·injection hd with hd;omega
  ·exact h.pos s d hd
 from0:=fun s hs=>by
  rw [qS]
  rcases h.from0 s hs with h1|h1
  ·rcases List.mem_cons.1 h1 with rfl|h1
   ·exact .inr (by simp)
   ·exact .inl h1
  ·exact .inr (by simp [h1])
 next0:=fun i hi hm s hs=>by
  rw [qS] at hm
  have hm':pR met (eN l i).id=true:=by
   by_cases e:id=(eN l i).id
   ·rw [←e];unfold pR;rw [hc];rfl
   ·simpa [e] using hm
  rw [qS]
  rcases h.next0 i hi hm' s hs with h1|h1
  ·rcases List.mem_cons.1 h1 with rfl|h1
   ·exact .inr (by simp)
   ·exact .inl h1
  ·exact .inr (by simp [h1])
theorem mV (hn:(l.map (·.id)).Nodup) {i j:Nat} (hi:i<l.length) (hj:j<l.length) (h:(eN l i).id=(eN l j).id):i=j:=by
 rw [cL hi,cL hj] at h
 have key:=List.pairwise_iff_getElem.1 hn
 rcases Nat.lt_trichotomy i j with h1|h1|h1
 ·exact absurd (by rw [List.getElem_map,List.getElem_map];exact h) (key i j (by simpa using hi) (by simpa using hj) h1)
 ·exact h1
 ·exact absurd (by rw [List.getElem_map,List.getElem_map];exact h.symm) (key j i (by simpa using hj) (by simpa using hi) h1)
theorem BInv.first {i:Nat} (hn:(l.map (·.id)).Nodup) (hi:i<l.length) (h:BInv l frm nxt ((eN l i).id::T) met) (hc:aL met (eN l i).id=none) (hin:∀s∈nxt (eN l i),∃j,j<l.length∧(eN l j).id=s):BInv l frm nxt (T++nxt (eN l i)) (fQ met (eN l i).id 1) where
 todo:=fun s hs=>by
  rcases List.mem_append.1 hs with h1|h1
  ·exact h.todo s (by simp [h1])
  ·obtain ⟨j,hj,ej⟩:=hin s h1
   obtain ⟨i',hi',ei,hs'⟩:=h.todo (eN l i).id (by simp)
   have:i'=i:=mV hn hi' hi ei
   subst this
   exact ⟨j,hj,ej,lZ hj hi hs' (rQ.2 (by rw [ej];exact h1))⟩
 seen:=fun s hs=>by
  rw [qS] at hs
  by_cases e:(eN l i).id=s
  ·subst e;exact h.todo _ (by simp)
  ·simp [e] at hs;exact h.seen s hs
 pos:=fun s d hd=>by
  rw [dG] at hd
  split at hd
  ·injection hd with hd;omega
  ·exact h.pos s d hd
 from0:=fun s hs=>by
  rw [qS]
  rcases h.from0 s hs with h1|h1
  ·rcases List.mem_cons.1 h1 with rfl|h1
   ·exact .inr (by simp)
   ·exact .inl (by simp [h1])
  ·exact .inr (by simp [h1])
 next0:=fun j hj hm s hs=>by
  rw [qS] at hm ⊢
  by_cases e:(eN l i).id=(eN l j).id
  ·have:i=j:=mV hn hi hj e
   subst this
   exact .inl (by simp [hs])
  ·simp [e] at hm
   rcases h.next0 j hj hm s hs with h1|h1
   ·rcases List.mem_cons.1 h1 with rfl|h1
    ·exact .inr (by simp)
    ·exact .inl (by simp [h1])
   ·exact .inr (by simp [h1])
theorem BInv.done (h:BInv l frm nxt [] met) (i:Nat) (hi:i<l.length) (hn:(l.map (·.id)).Nodup):pR met (eN l i).id=bLp l frm nxt i:=by
 rw [Bool.eq_iff_iff]
 constructor
 ·intro hm
  obtain ⟨j,hj,ej,hs⟩:=h.seen _ hm
  rw [←mV hn hj hi ej];exact hs
 ·refine fun hs=>sV (p:=fun i=>pR met (eN l i).id=true) (fun j _ hb=>?_) (fun k j hk _ hm he=>?_) _ i hi hs
  ·rcases h.from0 _ (rQ.1 hb) with h1|h1
   ·simp at h1
   ·exact h1
  ·rcases h.next0 k hk hm _ (rQ.1 he) with h1|h1
   ·simp at h1
   ·exact h1
theorem vO (met:List (ByteArray × Nat)) (nxt:Ent→List ByteArray) (x:Ent) (l:List Ent):cH met nxt (x::l)=(if pR met x.id then 0 else (nxt x).length)+cH met nxt l:=by simp [cH]
theorem bAd (met:List (ByteArray × Nat)) (nxt:Ent→List ByteArray) {c:Nat}:∀(l:List Ent),(∀x∈l,(nxt x).length≤c)→cH met nxt l≤c*l.length
 | [],_=>by simp [cH]
 |x::l,h=>by
  have h1:=bAd met nxt l fun y hy=>h y (by simp [hy])
  have h2:=h x (by simp)
  rw [vO,List.length_cons,Nat.mul_add]
  split<;>omega
theorem aA7 {id:ByteArray} {c:Nat}:∀(l:List Ent),cH (fQ met id c) nxt l≤cH met nxt l
 | []=>by simp [cH]
 |x::l=>by
  have h1:=aA7 (id:=id) (c:=c) l
  rw [vO,vO,qS]
  refine Nat.add_le_add ?_ h1
  by_cases e:id=x.id<;>by_cases m:pR met x.id=true<;>simp [e,m]
theorem aMm {x:Ent} {c:Nat}:∀{l:List Ent},x∈l→pR met x.id=false→cH (fQ met x.id c) nxt l+(nxt x).length≤cH met nxt l
 |y::l,hx,hm=>by
  have h0:=aA7 (met:=met) (nxt:=nxt) (id:=x.id) (c:=c) l
  rw [vO,vO,qS]
  rcases List.mem_cons.1 hx with e|hx
  ·subst e
   rw [hm,dTr rfl]
   simp only [Bool.true_or,if_true,Bool.false_eq_true,if_false]
   omega
  ·have h1:=aMm (c:=c) hx hm
   have h2:(if (decide (x.id=y.id)||pR met y.id)=true then 0 else (nxt y).length)≤(if pR met y.id=true then 0 else (nxt y).length):=by
    by_cases e:x.id=y.id<;>by_cases m:pR met y.id=true<;>simp [e,m]
   omega
end
theorem bD3 {l:List Ent} {p:ByteArray→Bool} {q:Nat→Bool} (h:∀i (hi:i<l.length),p l[i].id=q i):(l.map (·.id)).filter p=aK l ((List.range l.length).map q):=by
 induction l generalizing q with
 |nil=>rfl
 |cons x l ih=>
  have h0:=h 0 (by simp)
  have h1:=ih (q:=fun i=>q (i+1)) (fun i hi=>h (i+1) (by simpa using hi))
  simp only [List.getElem_cons_zero] at h0
  rw [List.map_cons,List.filter_cons,h1,List.length_cons,List.range_succ_eq_map,List.map_cons,List.map_map,aK,h0]
  rfl
end
section
open Go
theorem aDl {base base':Nat→Bool} {edge edge':Nat→Nat→Bool} {n:Nat} (hb:∀i,i<n→base i=base' i) (he:∀k i,k<n→i<n→edge k i=edge' k i):∀(r i:Nat),i<n→bB base edge n r i=bB base' edge' n r i
 |0,_,_=>rfl
 |r+1,i,hi=>by
  rw [Bool.eq_iff_iff,jW,jW,hb i hi]
  refine or_congr Iff.rfl ⟨fun ⟨k,h1,h2,h3⟩=>⟨k,h1,?_,?_⟩,fun ⟨k,h1,h2,h3⟩=>⟨k,h1,?_,?_⟩⟩
  ·rw [←aDl hb he r k h1];exact h2
  ·rw [←he k i h1 hi];exact h3
  ·rw [aDl hb he r k h1];exact h2
  ·rw [he k i h1 hi];exact h3
theorem aI1 {base base':Nat→Bool} {edge edge':Nat→Nat→Bool} {n:Nat} (hb:∀i,i<n→base i=base' i) (he:∀k i,k<n→i<n→edge k i=edge' k i):nW base edge n=nW base' edge' n:=by
 unfold nW
 refine List.map_congr_left fun i hi=>aDl hb he n i (by simpa using hi)
theorem aIi {l:List Ent} (hn:(l.map (·.id)).Nodup) {i:Nat} (hi:i<l.length):(l.find? fun x=>decide (x.id=l[i].id))=some l[i]:=by
 cases h:l.find? fun y=>decide (y.id=l[i].id) with
 |none=>exact absurd (List.find?_eq_none.1 h _ (gMe hi)) (by simp)
 |some y=>
  have h1:=List.mem_of_find?_eq_some h
  have h2:y.id=l[i].id:=by simpa using List.find?_some h
  obtain ⟨j,hj,rfl⟩:=List.getElem_of_mem h1
  have:=mV hn hj hi (by rw [cL hj,cL hi];exact h2)
  subst this;rfl
theorem bOk {l:List Ent} (ha:l.Pairwise fun x y=>∀p,spends x p=true→spends y p=false) {i:Nat} (hi:i<l.length) {p:Pt} (hp:spends l[i] p=true):(l.find? fun x=>spends x p)=some l[i]:=by
 induction l generalizing i with
 |nil=>simp at hi
 |cons x l ih=>
  rw [List.pairwise_cons] at ha
  cases i with
  |zero=>
   simp only [List.getElem_cons_zero] at hp ⊢
   exact List.find?_cons_of_pos (p:=fun x=>spends x p) hp
  |succ i=>
   simp only [List.getElem_cons_succ] at hp ⊢
   have h1:¬spends x p=true:=fun h=>by
    rw [ha.1 _ (gMe (by simpa using hi)) p h] at hp;cases hp
   rw [List.find?_cons_of_neg (p:=fun x=>spends x p) h1]
   exact ih ha.2 (by simpa using hi) hp
theorem bCx {l:List Ent} {m:List Bool} (h:∀b∈m,b=false):aK l m= []:=by
 induction l generalizing m with
 |nil=>cases m<;>rfl
 |cons x l ih=>cases m with
  |nil=>rfl
  |cons b m=>
   rw [aK,h b (by simp)]
   exact ih fun c hc=>h c (by simp [hc])
end
section
open Go
structure Small where
 frm:List UInt8
 idx:UInt8
 outs:UInt8
 fee:Int
 mark:UInt8
 long:UInt8
instance:Inhabited Small:=⟨⟨[],0,0,0,0,0⟩⟩
def u8R:R UInt8:=R.flat u8E false
def u8V (b:UInt8):Value:=.int .u8 (b.toNat:Nat)
structure InMade (x:TIn):Prop where
 lo:0≤x.p.i
 hi:x.p.i<4
 q:x.q=4294967293
 wit:x.wit= []
 id:x.p.s.size=32
structure OutMade (y:TOut):Prop where
 lo:0≤y.v
 hi:y.v≤2000
 s:y.s.size≤40
structure Made (z:Small) (t:Tx):Prop where
 ver:t.ver=2
 lock:t.lock=(z.mark.toNat:Nat)
 ins:t.ins.length=min z.frm.length 4
 each:∀x∈t.ins,InMade x
 outs:t.outs.length=z.outs.toNat%3+1+z.long.toNat
 eacho:∀y∈t.outs,OutMade y
theorem wrap_u8 (b:UInt8):IntKind.i64.wrap (b.toNat:Nat)=(b.toNat:Nat):=IntWalk.i64_in _ (by have:=b.toNat_lt;omega)
theorem aEf (n m:Nat) (h:0<m):bZ .rem (.int .u8 (n:Nat)) (.int .u8 (m:Nat))=some (.int .u8 ((n%m:Nat):Int)):=by
 have hne:(m:Int)≠0:=by omega
 simp only [bZ,dY,Bool.false_eq_true,if_false,if_true,dS]
 rw [tm,if_neg hne]
theorem uA {n:Nat} (h:n<256):IntKind.i64.wrap (n:Nat)=(n:Nat):=IntWalk.i64_in _ (by omega)
theorem Made.sm {z:Small} {t:Tx} (h:Made z t):t.Sm:=by
 have h1:=h.ins;have h2:=h.outs;have h3:=z.long.toNat_lt
 exact ⟨by omega,by omega,fun x hx=>by rw [(h.each x hx).wit];simp⟩
end
section
open Go
end
section
open Go
abbrev sI (l:List Ent) (id:ByteArray):Ent:=(l.find? fun x=>decide (x.id=id)).getD default
def inB (l:List ByteArray) (x:ByteArray):Bool:=l.any fun y=>decide (y=x)
theorem bFs {l:List ByteArray} {x:ByteArray}:inB l x=true↔x∈l:=by
 unfold inB
 rw [List.any_eq_true]
 exact ⟨fun ⟨y,h1,h2⟩=>by rw [←of_decide_eq_true h2];exact h1,fun h=>⟨x,h,dTr rfl⟩⟩
def aDz:List ByteArray→List ByteArray
 | []=> []
 |x::l=>x::(aDz l).filter fun y=>decide (y≠x)
def kI (l:List Ent) (ids:List ByteArray):Int:=((aDz ids).map fun s=>(sI l s).fee).sum
def fP (l:List Ent) (ids:List ByteArray):Int:=((aDz ids).map fun s=>(sI l s).size).sum
theorem aVb (xs:List ByteArray) (x:ByteArray):aDz (xs++ [x])=if inB xs x then aDz xs else aDz xs++ [x]:=by
 induction xs with
 |nil=>rfl
 |cons a xs ih=>
  rw [List.cons_append,aDz,ih]
  have e:inB (a::xs) x=(decide (a=x)||inB xs x):=rfl
  by_cases h:inB xs x=true
  ·rw [if_pos h,e,h,Bool.or_true,if_pos rfl,aDz]
  ·rw [if_neg h,e]
   simp only [Bool.not_eq_true] at h
   rw [h,Bool.or_false,List.filter_append]
   by_cases h2:a=x
   ·subst h2;simp [aDz]
   ·have h3:x≠a:=fun e=>h2 e.symm
    simp [aDz,h2,h3]
theorem bA8 (ids:List ByteArray):(aDz ids).length≤ids.length:=by
 induction ids with
 |nil=>exact Nat.le_refl _
 |cons x l ih=>
  rw [aDz,List.length_cons,List.length_cons]
  have:=List.length_filter_le (fun y=>decide (y≠x)) (aDz l)
  omega
theorem bJc {l:List Ent} {ids:List ByteArray} {i:Nat} (h:i<ids.length):kI l (ids.take (i+1))=if inB (ids.take i) ids[i] then kI l (ids.take i) else kI l (ids.take i)+(sI l ids[i]).fee:=by
 unfold kI
 rw [List.take_succ_eq_append_getElem h,aVb]
 by_cases h2:inB (ids.take i) ids[i]=true
 ·rw [if_pos h2,if_pos h2]
 ·rw [if_neg h2,if_neg h2];simp
theorem bDl {l:List Ent} {ids:List ByteArray} {i:Nat} (h:i<ids.length):fP l (ids.take (i+1))=if inB (ids.take i) ids[i] then fP l (ids.take i) else fP l (ids.take i)+(sI l ids[i]).size:=by
 unfold fP
 rw [List.take_succ_eq_append_getElem h,aVb]
 by_cases h2:inB (ids.take i) ids[i]=true
 ·rw [if_pos h2,if_pos h2]
 ·rw [if_neg h2,if_neg h2];simp
theorem bFw {l:List Ent} (hl:∀x∈l,cD x.fee=true∧0≤x.size∧x.size≤100000000000) (s:ByteArray):(0≤(sI l s).fee∧(sI l s).fee≤2100000000000000)∧0≤(sI l s).size∧(sI l s).size≤100000000000:=by
 unfold sI
 cases h:l.find? fun x=>decide (x.id=s) with
 |none=>exact ⟨⟨Int.le_refl _,by show (0:Int)≤_;omega⟩,Int.le_refl _,by show (0:Int)≤_;omega⟩
 |some y=>
  have hy:=hl y (List.mem_of_find?_eq_some h)
  exact ⟨(bN _).1 hy.1,hy.2⟩
theorem aL8 {α:Type} {f:α→Int} {c:Nat} (hf:∀x,0≤f x∧f x≤c):∀l:List α,0≤(l.map f).sum∧(l.map f).sum≤c*l.length
 | []=>by simp
 |x::l=>by
  have h1:=aL8 hf l
  have h2:=hf x
  rw [List.map_cons,List.sum_cons,List.length_cons,Int.natCast_add,Int.mul_add]
  omega
theorem aHa {l:List Ent} (hl:∀x∈l,cD x.fee=true∧0≤x.size∧x.size≤100000000000) {ids:List ByteArray} (hn:ids.length≤4000):(0≤kI l ids∧kI l ids≤8400000000000000000)∧0≤fP l ids∧fP l ids≤400000000000000:=by
 have h1:=aL8 (c:=2100000000000000) (fun s=>(bFw hl s).1) (aDz ids)
 have h2:=aL8 (c:=100000000000) (fun s=>(bFw hl s).2) (aDz ids)
 have h3:=bA8 ids
 unfold kI fP
 omega
theorem bEc {ids:List ByteArray} (h:ids.Nodup):aDz ids=ids:=by
 induction ids with
 |nil=>rfl
 |cons x l ih=>
  rw [List.nodup_cons] at h
  rw [aDz,ih h.2,List.filter_eq_self.2 fun y hy=>dTr (show y≠x from fun e=>h.1 (by rw [←e];exact hy))]
theorem lV:∀(l:List Ent) (m:List Bool),(aK l m).Sublist (l.map (·.id))
 | [],m=>by cases m<;>exact List.Sublist.slnil
 |x::l, []=>by show ([]:List ByteArray).Sublist _;exact List.nil_sublist _
 |x::l,b::m=>by
  rw [aK,List.map_cons]
  cases b
  ·exact (lV l m).cons _
  ·exact (lV l m).cons_cons _
theorem bIw {x:Ent} {l:List Ent} (h:x.id∉l.map (·.id)) {s:ByteArray} (hs:s∈l.map (·.id)):sI (x::l) s=sI l s:=by
 unfold sI
 rw [List.find?_cons_of_neg (by
  have:x.id≠s:=fun e=>h (by rw [e];exact hs)
  simpa using this)]
theorem aT5:∀{l:List Ent} (_:(l.map (·.id)).Nodup) (m:List Bool),((aK l m).map fun s=>(sI l s).fee).sum=jR l m∧((aK l m).map fun s=>(sI l s).size).sum=bK4 l m
 | [],_,m=>by cases m<;>exact ⟨rfl,rfl⟩
 |x::l,_, []=>⟨rfl,rfl⟩
 |x::l,h,b::m=>by
  rw [List.map_cons,List.nodup_cons] at h
  have ih:=aT5 h.2 m
  have h0:sI (x::l) x.id=x:=by unfold sI;rw [List.find?_cons_of_pos (by simp)];rfl
  have h1:∀s∈aK l m,sI (x::l) s=sI l s:=fun s hs=>bIw h.1 ((lV l m).subset hs)
  have e1:((aK l m).map fun s=>(sI (x::l) s).fee)=(aK l m).map fun s=>(sI l s).fee:=List.map_congr_left fun s hs=>by rw [h1 s hs]
  have e2:((aK l m).map fun s=>(sI (x::l) s).size)=(aK l m).map fun s=>(sI l s).size:=List.map_congr_left fun s hs=>by rw [h1 s hs]
  cases b
  ·simp only [aK,jR,bK4,Bool.false_eq_true,if_false]
   constructor
   ·rw [←ih.1,←e1];simp
   ·rw [←ih.2,←e2];simp
  ·simp only [aK,jR,bK4,if_true]
   simp only [List.singleton_append,List.map_cons,List.sum_cons,h0,e1,e2,ih.1,ih.2]
   exact ⟨trivial,trivial⟩
end
section
open Go
def wiP (l:List Ent) (ids:List ByteArray) (more count size:Int):Bool:=decide ((ids.length:Int)+1≤count)&&decide (fP l ids+more≤size)
def hoP (l:List Ent) (line:List ByteArray) (more count size:Int):Bool:=line.all fun s=>wiP l (aK l (cI l s)) more count size
def gD (l:List Ent) (t:Tx):Int:=
 if aE t≠0 then aE t
 else if wiP l (aK l (bF l t)) (aO t:Nat) 25 101000=false then 14
 else if hoP l (aK l (bF l t)) (aO t:Nat) 25 101000 then 0
 else if ((aK l (bF l t)).length:Int)=1∧((aO t:Nat):Int)≤10000∧hoP l (aK l (bF l t)) (aO t:Nat) 26 111000=true then 0 else 14
end
section
open Go
end
section
open Go
variable {P:Program} {W:World} {t:TypeId}
theorem aTw {α:Type} (E:R α) {a:Addr}:∀(n:Nat),(∀i,i<n→∃c x,Row W (a.add (i*E.k)) c∧E.rel [] W c x)→∃(css:List (Vec E.k)) (l:List α),css.length=n∧Row W a ((kA E.k E.pos).flat css)∧E.all [] W css l
 |0,_=>⟨[], [],rfl,fun j v hj=>by simp [Enc.flat] at hj,.nil⟩
 |n+1,h=>by
  obtain ⟨css,l,h1,h2,h3⟩:=aTw E n fun i hi=>h i (by omega)
  obtain ⟨c,x,hc,hx⟩:=h n (by omega)
  refine ⟨css++ [R.vec hx],l++ [x],by simp [h1],?_,h3.append (.cons hx .nil)⟩
  rw [Enc.flat_append]
  refine bEz h2 ?_
  rw [Enc.flat_length,h1]
  have e:(kA E.k E.pos).flat [R.vec hx]=c:=by show c++ []=c;exact List.append_nil _
  rw [e];exact hc
theorem rV {α:Type} (E:R α) {e:TypeId} {v:Value} (hu:P.underlying t=some (.slice e)) (hk:P.cellsOf e=E.k) (he:∀c,Reads P W e c→∃x,E.rel [] W c x) (h:Reads P W t [v]):∃l,SlR E [] W v l∧l.length≤maxLen:=by
 rcases aYq hu h with h1|⟨a,len,cap,h1,hl,hm,hi⟩
 ·simp at h1;subst h1
  exact ⟨[],SlR.nil _ _,by simp⟩
 ·simp at h1;subst h1
  obtain ⟨css,l,h2,h3,h4⟩:=aTw (W:=W) E (a:=a) len fun i hil=>by
   obtain ⟨c,_,h4,h5⟩:=hi i hil
   obtain ⟨x,hx⟩:=he c h5
   exact ⟨c,x,by rw [←hk];exact h4,hx⟩
  subst h2
  exact ⟨l,⟨css,⟨Enc.flat_length _ css,some a,cap,rfl,hl,fun _=>⟨a,rfl,h3⟩⟩,h4,fun _ b _ hm=>by simp at hm⟩,by rw [←h4.length];omega⟩
def R.and {α:Type} (E:R α) (p:α→Prop):R α where
 k:=E.k
 pos:=E.pos
 ag:=E.ag
 rel:=fun M w cs x=>E.rel M w cs x∧p x
 len:=fun h=>E.len h.1
 one:=fun h=>E.one h.1
 step:=fun h c hL hM=>⟨E.step h.1 c hL hM,h.2⟩
theorem All2.right {α β:Type} {r:α→β→Prop} {q:β→Prop} (h:∀a b,r a b→q b):∀{l:List α} {m:List β},All2 r l m→∀b∈m,q b
 |_,_,.nil,b,hb=>by simp at hb
 |_,_,.cons h1 t,b,hb=>by
  rcases List.mem_cons.1 hb with rfl|hb
  ·exact h _ _ h1
  ·exact All2.right h t b hb
theorem SlR.both {α:Type} {E:R α} {p:α→Prop} {M:List Nat} {w:World} {v:Value} {l:List α} (h:SlR (E.and p) M w v l):SlR E M w v l∧∀x∈l,p x:=by
 obtain ⟨css,h1,h2,h3⟩:=h
 exact ⟨⟨css,h1,h2.mono fun _ _ h=>h.1,h3⟩,All2.right (fun _ _ h=>h.2) h2⟩
end
end Go.K
