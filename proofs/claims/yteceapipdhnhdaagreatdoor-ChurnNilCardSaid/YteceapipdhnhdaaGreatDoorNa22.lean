/- Contracts: digests by the reference; ids and sizes of transa -/
import Derived.Test.YteceapipdhnhdaaGreatDoorNa20
import Derived.Test.YteceapipdhnhdaaGreatDoorNa21
set_option linter.unusedVariables false
set_option linter.unusedSimpArgs false
namespace Go.Proofs.YteceapipdhnhdaaGreatDoor
section
open Go Go.K
attribute [local irreducible] aH aM aY KOp.wp K.Spec u32 leS vnS str aP jK wCs oJ mX lV gM pM jW dZ yW aFx addN shN bDz dV leL aRb cM bK
section
variable {P:Program} {d:Option Tmp} {r:KR} {K:Env→World→Prop} {ρ:Env} {w:World}
theorem bBh {x y:Operand} {n m:Nat} (hx:ev ρ x=.int .i64 (n:Nat)) (hy:ev ρ y=.int .i64 (m:Nat)) (h0:0<m) (hn:n<9223372036854775808) (k:aH P r K (put ρ d (.int .i64 ((n / m:Nat):Int))) w):aH P (.cons ⟨d,.bin .quo x y,none⟩ r) K ρ w:=
 dF hx hy (by
  have hne:(m:Int)≠0:=by omega
  simp only [bM,dK,Bool.false_eq_true,if_false,if_true,dG]
  rw [td,if_neg hne]
  have h1:n / m≤n:=Nat.div_le_self n m
  generalize n / m=q at h1 ⊢
  rw [IntWalk.i64_in _ (by omega)]) k
end
set_option maxHeartbeats 2000000 in
theorem aTz (s:ByteArray) (hs:s.size≤4000000) (w:World):K.Spec Tryz.prog F.kedgeref04_Sum [.string s] w fun r w'=>r=.string (aRb s)∧Ext w w':=by
 obtain ⟨N,hN⟩:∃N,(yW s.data.toList).length=64*N:=⟨_,aYw s⟩
 have hl:=bE4 s
 generalize hm:yW s.data.toList=m at hN hl
 have hout:∀n j,(dV (fun x:W32=>str (leL x.toNat 4).reverse) ((dZ m n).l.take j)).size≤32:=fun n j=>by
  have h1:=sN (fun x:W32=>str (leL x.toNat 4).reverse) 4 ((dZ m n).l.take j) fun x _=>by rw [jF,List.length_reverse,dE];exact Nat.le_refl _
  have h2:((dZ m n).l.take j).length≤8:=by rw [List.length_take,l8];omega
  omega
 refine aKe rfl ?_
 unfold yU
 refine oy ?_
 repeat' (first|refine aZ (cs:=aCp.cs) (by kernel_rfl) ?_|(refine pV (ad:=⟨b3,0,none⟩) (l:=(dZ m n).l) j rfl (Row.of_at (t:=T.n_8_uint32) (f:=(0,0)) (by exact atx)) (by rw [l8];omega) ?_;have hj8:j<8:=(by omega))|refine fQ j rfl rfl (by omega) ?_|refine zZ 24 (by decide) rfl rfl ?_|refine zZ 16 (by decide) rfl rfl ?_|refine zZ 8 (by decide) rfl rfl ?_|refine bP8 rfl ?_|(first|refine go2 ?_|fail)|refine zL rfl (fun h=>?_) (fun h=>?_)|refine zH (fun b3 w1 x1 a1 hb3=>?_)|(refine cE (vs:=aCp.cs) rfl rfl rfl (gQ (bDl _)) (cur:=ZR 8) a1 rfl (fun w2 c2 a2=>?_);have x2:Ext w w2:=(Ext.chg x1 c2).mono (by intro y hy;simp at hy;right;omega);rw [S8.cs_eq] at a2)|(refine zC rfl (bI4 s hs _) ?_;rintro v w3 ⟨hv,x3,hvb⟩;rw [hm] at hv;have l3:=a2.lt)|refine bL rfl (SlE.ext (w:=w4) (by exact fx) hv4) ?_|(refine aJ (fun (n:Nat) w'=>Ext w w'∧SlE u8E w' v m∧n≤N∧At w' b3 (.cells (wCs (dZ m n).l).toArray T.n_8_uint32 (0,0))) (fun n=> [(2,.string ⟨#[]⟩),(3,.pointer (some ⟨b3,0,none⟩)),(4,v),(5,.int .i64 ((64*n:Nat):Int))]) (fun n=>N - n) 0 ⟨rfl,rfl,rfl,rfl,trivial⟩ ⟨by exact fx,hv,by omega,by rw [bOw];exact atx⟩ ?_;rintro n ρ w4 ⟨x4,hv4,hn,h3⟩)|(refine aJ (fun (j:Nat) w'=>Ext w4 w'∧j≤8) (fun j=> [(3,.pointer (some ⟨b3,0,none⟩)),(6,.string (dV (fun x:W32=>str (leL x.toNat 4).reverse) ((dZ m n).l.take j))),(7,.int .i64 j)]) (fun j=>8 - j) 0 ⟨rfl,congrArg Value.string (by rw [List.take_zero,uA]),rfl,trivial⟩ ⟨Ext.refl _,by omega⟩ ?_;rintro j ρ8 w8 ⟨x8,hj⟩;have hz:=hout n j)|refine tN (n:=8) (l:=wCs (dZ m n).l) rfl (Row.of_at (t:=T.n_8_uint32) (f:=(0,0)) (by exact atx)) (by rw [cJ];exact Nat.le_refl _) (by rw [tLe];rw [cJ];exact Nat.le_refl _) ?_)
 ·have hn2:n<N:=by omega
  refine bG2 (lo:=64*n) (hi:=64*n+64) rfl rfl (congrArg (Value.int .i64) (by omega)) (SlE.ext (w:=w4) (by exact fx) hv4) (by omega) (by omega) rfl (fun v5 hv5 _=>?_)
  refine zC rfl (bBi (dZ m n) (by rw [List.length_take,List.length_drop];omega) _ hv5) ?_
  rintro _ w6 ⟨rfl,x6⟩
  have e:aV0 (dZ m n) ((m.drop (64*n)).take (64*n+64 - 64*n))=dZ m (n+1):=by
   rw [show 64*n+64 - 64*n=64 by omega,bF4,bOt,aV0]
  rw [e]
  refine cE (vs:=wCs (dZ m (n+1)).l) rfl rfl (by rw [cJ];rfl) (gQ (lJ _)) (cur:=wCs (dZ m n).l) (by exact atx) (by rw [cJ];rfl) (fun w7 c7 a7=>?_)
  refine goR ?_
  exact ⟨n+1,⟨rfl,rfl,rfl,congrArg (Value.int .i64) (by omega),trivial⟩,⟨(Ext.chg (w:=w) (by exact fx) c7).mono (by intro y hy;simp at hy;right;omega),SlE.chg c7 (SlE.ext (w:=w4) (by exact fx) hv4) (fun a m c e hm=>by have:=hvb a.block (by rw [e];simp [aC]);simp at hm;omega),by omega,a7⟩,by omega⟩
 ·refine zI rfl (fun b w9 x9 a9 hb9=>?_)
  refine aAh (l:= [UInt8.ofNat (wAt (dZ m n).l j>>>24).toNat,UInt8.ofNat (wAt (dZ m n).l j>>>16).toNat,UInt8.ofNat (wAt (dZ m n).l j>>>8).toNat,UInt8.ofNat (wAt (dZ m n).l j).toNat]) rfl (SlE.new (E:=u8E) a9 rfl (Nat.le_refl _)) ?_
  rw [be4]
  refine lK rfl rfl (by rw [jF,List.length_reverse,dE];omega) ?_
  refine goR ?_
  refine ⟨j+1,⟨rfl,congrArg Value.string ?_,rfl,trivial⟩,⟨by exact fx,by omega⟩,by omega⟩
  have hjl:j<(dZ m n).l.length:=by rw [l8];omega
  have e:wAt (dZ m n).l j=(dZ m n).l[j]:=by unfold wAt;rw [List.getD_eq_getElem?_getD,List.getElem?_eq_getElem hjl];rfl
  rw [iB _ hjl,←e]
 ·have hn2:n=N:=by omega
  subst hn2
  refine aA rfl ⟨congrArg Value.string ?_,by exact fx⟩
  rw [tLe (by rw [l8];omega),aRb,hm,hN,Nat.mul_div_cancel_left _ (by decide),bDz]
theorem aX1 (s:ByteArray) (hs:s.size≤4000000) (w:World):K.Spec Tryz.prog F.kedgeref04_Twice [.string s] w fun r w'=>r=.string (cM s)∧Ext w w':=by
 refine aGf rfl ?_
 unfold sU
 refine oy ?_
 repeat' (first|(first|refine go2 ?_|fail)|(refine zC rfl (aTz s hs _) ?_;rintro _ w1 ⟨rfl,x1⟩)|(refine zC rfl (aTz (aRb s) (by rw [aSz];decide) _) ?_;rintro _ w2 ⟨rfl,x2⟩))
 exact aA rfl ⟨by rw [cM];rfl,by exact fx⟩
theorem bNz {M:List Nat} {cs:List Value} {t:Tx} (w:World) (ht:txR.rel M w cs t) (hs:t.Sz):K.Spec Tryz.prog F.kedgeref06_Bytes [.agg cs.toArray,.bool true] w fun r w'=>r=.string (bK false t)∧Ext w w':=aYn true w ht hs
theorem aZ7 {M:List Nat} {cs:List Value} {t:Tx} (w:World) (ht:txR.rel M w cs t) (hs:t.Sz):K.Spec Tryz.prog F.kedgeref07_ID [.agg cs.toArray] w fun r w'=>r=.string (idT t)∧Ext w w':=by
 have ht0:=ht
 obtain ⟨iv,ov,rfl,hi,ho,hv,hl⟩:=ht
 refine aM1 rfl ?_
 unfold aA5
 refine oy ?_
 repeat' (first|(first|refine go2 ?_|fail)|(first|refine zD rfl rfl (fun bp wp xp ap rp hp0=>?_)|refine zE (fun _=>rfl) rfl rfl rfl (fun bq wq xq aq rq hq0=>?_))|(refine zC rfl (bNz (M:=M) _ (cs:=aK t iv ov) (by exact fx) hs) ?_;rintro _ w1 ⟨rfl,x1⟩)|(refine zC rfl (aX1 (bK false t) (by have:=hs.all false;omega) _) ?_;rintro _ w2 ⟨rfl,x2⟩))
 exact aA rfl ⟨by rw [idT];rfl,by exact fx⟩
end
section
open Go Go.K
attribute [local irreducible] aH aM aY KOp.wp K.Spec u32 leS vnS str aP cM bK idT
def idV (t:Tx):Value:=if aG t=0 then .tuple #[.string (idT t),.int .i64 0] else .tuple #[.string ⟨#[]⟩,.int .i64 (aG t)]
def aIj (t:Tx):Value:=if aG t=0 then .tuple #[.int .i64 (aAx t:Nat),.int .i64 0] else .tuple #[.int .i64 0,.int .i64 (aG t)]
def pG (t:Tx):Value:=if aG t=0 then .tuple #[.int .i64 (aQ t:Nat),.int .i64 0] else .tuple #[.int .i64 0,.int .i64 (aG t)]
theorem vK {M:List Nat} {cs:List Value} {t:Tx} (w:World) (ht:txR.rel M w cs t) (hs:t.Sm):K.Spec Tryz.prog F.ident_ID [.agg cs.toArray] w fun r w'=>r=idV t∧Ext w w':=by
 have ht0:=ht
 obtain ⟨iv,ov,rfl,hi,ho,hv,hl⟩:=ht
 by_cases hc:aG t=0
 ·have hz:=cI hs hc
  rw [idV,if_pos hc]
  refine aPx rfl ?_
  unfold aGb
  refine oy ?_
  repeat' (first|(first|refine go2 ?_|fail)|(first|refine zD rfl rfl (fun bp wp xp ap rp hp0=>?_)|refine zE (fun _=>rfl) rfl rfl rfl (fun bq wq xq aq rq hq0=>?_))|refine zN rfl (fun h=>?_) (fun h=>?_)|(refine zC rfl (aEg (M:=M) _ (cs:=aK t iv ov) (by exact fx) hs) ?_;rintro _ w1 ⟨rfl,x1⟩;rw [aB6,if_pos hc])|(refine zC rfl (bA4 (bK false t) (by have:=hz.all false;omega) _) ?_;rintro _ w2 ⟨rfl,x2⟩))
  all_goals first
   |exact aA rfl ⟨by rw [idT];rfl,by exact fx⟩
   |exact absurd rfl (by assumption)
 ·rw [idV,if_neg hc]
  refine aPx rfl ?_
  unfold aGb
  refine oy ?_
  repeat' (first|(first|refine go2 ?_|fail)|(first|refine zD rfl rfl (fun bp wp xp ap rp hp0=>?_)|refine zE (fun _=>rfl) rfl rfl rfl (fun bq wq xq aq rq hq0=>?_))|refine zN rfl (fun h=>?_) (fun h=>?_)|(refine zC rfl (aEg (M:=M) _ (cs:=aK t iv ov) (by exact fx) hs) ?_;rintro _ w1 ⟨rfl,x1⟩;rw [aB6,if_neg hc]))
  all_goals first
   |exact aA rfl ⟨rfl,by exact fx⟩
   |exact absurd (by assumption) hc
theorem aL0 {M:List Nat} {cs:List Value} {t:Tx} (w:World) (ht:txR.rel M w cs t) (hs:t.Sm):K.Spec Tryz.prog F.ident_Weight [.agg cs.toArray] w fun r w'=>r=aIj t∧Ext w w':=by
 have ht0:=ht
 obtain ⟨iv,ov,rfl,hi,ho,hv,hl⟩:=ht
 by_cases hc:aG t=0
 ·have hz:=cI hs hc
  have h1:=hz.all false
  have h2:=hz.all (aPs t)
  rw [aIj,if_pos hc]
  refine aB8 rfl ?_
  unfold tD
  refine oy ?_
  repeat' (first|refine tR rfl rfl (by omega) ?_|(first|refine go2 ?_|fail)|(first|refine zD rfl rfl (fun bp wp xp ap rp hp0=>?_)|refine zE (fun _=>rfl) rfl rfl rfl (fun bq wq xq aq rq hq0=>?_))|refine zN rfl (fun h=>?_) (fun h=>?_)|(refine zC rfl (aEg (M:=M) _ (cs:=aK t iv ov) (by exact fx) hs) ?_;rintro _ w1 ⟨rfl,x1⟩;rw [aB6,if_pos hc])|(refine zC rfl (aVt (M:=M) _ (cs:=aK t iv ov) (by exact fx) hs) ?_;rintro _ w2 ⟨rfl,x2⟩;rw [aB6,if_pos hc]))
  all_goals first
   |exact aA rfl ⟨congrArg (fun n:Int=>Value.tuple #[.int .i64 n,.int .i64 0]) (by rw [aAx];omega),by exact fx⟩
   |exact absurd rfl (by assumption)
 ·rw [aIj,if_neg hc]
  refine aB8 rfl ?_
  unfold tD
  refine oy ?_
  repeat' (first|(first|refine go2 ?_|fail)|(first|refine zD rfl rfl (fun bp wp xp ap rp hp0=>?_)|refine zE (fun _=>rfl) rfl rfl rfl (fun bq wq xq aq rq hq0=>?_))|refine zN rfl (fun h=>?_) (fun h=>?_)|(refine zC rfl (aEg (M:=M) _ (cs:=aK t iv ov) (by exact fx) hs) ?_;rintro _ w1 ⟨rfl,x1⟩;rw [aB6,if_neg hc]))
  all_goals first
   |exact aA rfl ⟨rfl,by exact fx⟩
   |exact absurd (by assumption) hc
theorem iK {M:List Nat} {cs:List Value} {t:Tx} (w:World) (ht:txR.rel M w cs t) (hs:t.Sm):K.Spec Tryz.prog F.ident_Size [.agg cs.toArray] w fun r w'=>r=pG t∧Ext w w':=by
 have ht0:=ht
 obtain ⟨iv,ov,rfl,hi,ho,hv,hl⟩:=ht
 by_cases hc:aG t=0
 ·have hz:=cI hs hc
  have h1:=hz.weight
  rw [pG,if_pos hc]
  refine aG1 rfl ?_
  unfold zW
  refine oy ?_
  repeat' (first|refine bBh (n:=aAx t+3) (m:=4) (congrArg (Value.int .i64) (by omega)) rfl (by decide) (by omega) ?_|(first|refine go2 ?_|fail)|(first|refine zD rfl rfl (fun bp wp xp ap rp hp0=>?_)|refine zE (fun _=>rfl) rfl rfl rfl (fun bq wq xq aq rq hq0=>?_))|(refine zC rfl (aL0 (M:=M) _ (cs:=aK t iv ov) (by exact fx) hs) ?_;rintro _ w1 ⟨rfl,x1⟩;rw [aIj,if_pos hc]))
  exact aA rfl ⟨rfl,by exact fx⟩
 ·rw [pG,if_neg hc]
  refine aG1 rfl ?_
  unfold zW
  refine oy ?_
  repeat' (first|(first|refine go2 ?_|fail)|(first|refine zD rfl rfl (fun bp wp xp ap rp hp0=>?_)|refine zE (fun _=>rfl) rfl rfl rfl (fun bq wq xq aq rq hq0=>?_))|(refine zC rfl (aL0 (M:=M) _ (cs:=aK t iv ov) (by exact fx) hs) ?_;rintro _ w1 ⟨rfl,x1⟩;rw [aIj,if_neg hc]))
  exact aA rfl ⟨rfl,by exact fx⟩
theorem uS {M:List Nat} {v:Value} {l:List ByteArray} (w:World) (hs:SlR nM M w v l) (hn:l.length≤100000000) (hM:∀b∈M,b<w.heap.size):K.Spec Tryz.prog F.slices_Clone_L_string_string [v] w fun r w'=>bH nM T.string w.heap.size M w' r l∧Ext w w':=by
 have hs0:=hs
 obtain ⟨base,cap,rfl⟩:=hs.form
 cases base with
 |none=>
  have hl:=hs.nil_of
  subst hl
  refine iC rfl ?_
  unfold eJ
  refine oy ?_
  refine goR ?_
  exact aA rfl ⟨bH.nil _ _ _ _,Ext.refl _⟩
 |some a=>
  refine iC rfl ?_
  unfold eJ
  refine oy ?_
  refine goR ?_
  refine zI (cs:= []) rfl (fun b w1 x1 a1 hb=>?_)
  refine goR ?_
  obtain ⟨css,h1,h2,_⟩:=hs0
  have hown:bH nM T.string w.heap.size M w1 (.slice (some ⟨b,0,none⟩) 0 0) []:=bH.empty hb a1
  have hall:(nM).all (aC (.slice (some ⟨b,0,none⟩) 0 0)++M) w1 css l:=h2.mono fun _ _ hr=>(nM).step hr x1 (by simp) (fun c hc=>by
   rcases List.mem_append.1 hc with h|h
   ·simp [aC] at h;right;omega
   ·exact .inl h)
  refine aAo (E:=nM) (M:=M) (v:=.slice (some ⟨b,0,none⟩) 0 0) rfl hown x1.size rfl rfl (h1.ext x1).cells rfl hall h2.length (by simp;omega) (fun v2 w2 ho2 c2 hb2=>?_)
  refine goR ?_
  exact aA rfl ⟨ho2,(Ext.chg x1 c2).mono (by intro y hy;simp [aC] at hy;subst hy;exact .inr hb)⟩
theorem aZp {M:List Nat} {v:Value} {l:List TIn} (w:World) (hs:SlR inR M w v l) (hn:l.length≤100000000) (hM:∀b∈M,b<w.heap.size):K.Spec Tryz.prog F.slices_Clone_L_api_In_api_In [v] w fun r w'=>bH inR T.api_In w.heap.size M w' r l∧Ext w w':=by
 have hs0:=hs
 obtain ⟨base,cap,rfl⟩:=hs.form
 cases base with
 |none=>
  have hl:=hs.nil_of
  subst hl
  refine iG rfl ?_
  unfold eO
  refine oy ?_
  refine goR ?_
  exact aA rfl ⟨bH.nil _ _ _ _,Ext.refl _⟩
 |some a=>
  refine iG rfl ?_
  unfold eO
  refine oy ?_
  refine goR ?_
  refine zI (cs:= []) rfl (fun b w1 x1 a1 hb=>?_)
  refine goR ?_
  obtain ⟨css,h1,h2,_⟩:=hs0
  have hown:bH inR T.api_In w.heap.size M w1 (.slice (some ⟨b,0,none⟩) 0 0) []:=bH.empty hb a1
  have hall:(inR).all (aC (.slice (some ⟨b,0,none⟩) 0 0)++M) w1 css l:=h2.mono fun _ _ hr=>(inR).step hr x1 (by simp) (fun c hc=>by
   rcases List.mem_append.1 hc with h|h
   ·simp [aC] at h;right;omega
   ·exact .inl h)
  refine aAo (E:=inR) (M:=M) (v:=.slice (some ⟨b,0,none⟩) 0 0) rfl hown x1.size rfl rfl (h1.ext x1).cells rfl hall h2.length (by simp;omega) (fun v2 w2 ho2 c2 hb2=>?_)
  refine goR ?_
  exact aA rfl ⟨ho2,(Ext.chg x1 c2).mono (by intro y hy;simp [aC] at hy;subst hy;exact .inr hb)⟩
theorem aLx {M:List Nat} {v:Value} {l:List TOut} (w:World) (hs:SlR gF M w v l) (hn:l.length≤100000000) (hM:∀b∈M,b<w.heap.size):K.Spec Tryz.prog F.slices_Clone_L_api_Out_api_Out [v] w fun r w'=>bH gF T.api_Out w.heap.size M w' r l∧Ext w w':=by
 have hs0:=hs
 obtain ⟨base,cap,rfl⟩:=hs.form
 cases base with
 |none=>
  have hl:=hs.nil_of
  subst hl
  refine gP rfl ?_
  unfold dW
  refine oy ?_
  refine goR ?_
  exact aA rfl ⟨bH.nil _ _ _ _,Ext.refl _⟩
 |some a=>
  refine gP rfl ?_
  unfold dW
  refine oy ?_
  refine goR ?_
  refine zI (cs:= []) rfl (fun b w1 x1 a1 hb=>?_)
  refine goR ?_
  obtain ⟨css,h1,h2,_⟩:=hs0
  have hown:bH gF T.api_Out w.heap.size M w1 (.slice (some ⟨b,0,none⟩) 0 0) []:=bH.empty hb a1
  have hall:(gF).all (aC (.slice (some ⟨b,0,none⟩) 0 0)++M) w1 css l:=h2.mono fun _ _ hr=>(gF).step hr x1 (by simp) (fun c hc=>by
   rcases List.mem_append.1 hc with h|h
   ·simp [aC] at h;right;omega
   ·exact .inl h)
  refine aAo (E:=gF) (M:=M) (v:=.slice (some ⟨b,0,none⟩) 0 0) rfl hown x1.size rfl rfl (h1.ext x1).cells rfl hall h2.length (by simp;omega) (fun v2 w2 ho2 c2 hb2=>?_)
  refine goR ?_
  exact aA rfl ⟨ho2,(Ext.chg x1 c2).mono (by intro y hy;simp [aC] at hy;subst hy;exact .inr hb)⟩
def txO (B:Nat) (M:List Nat) (w:World) (cs:List Value) (t:Tx):Prop:=∃iv ov,cs=aK t iv ov∧bH inR T.api_In B M w iv t.ins∧bH gF T.api_Out B M w ov t.outs∧fN t.ver∧fN t.lock
theorem txO.rel {B:Nat} {M:List Nat} {w:World} {cs:List Value} {t:Tx} (h:txO B M w cs t) (hM:∀b∈M,b<B):txR.rel M w cs t:=by
 obtain ⟨iv,ov,rfl,h1,h2,h3⟩:=h
 exact ⟨iv,ov,rfl,h1.slB hM,h2.slB hM,h3⟩
theorem aAq {L M:List Nat} {w:World} (h:∀b∈L,w.heap.size≤b):∀b∈L++M,b∈M∨w.heap.size≤b:=fun b hb=>by
 rcases List.mem_append.1 hb with h1|h1
 ·exact .inr (h b h1)
 ·exact .inl h1
set_option maxHeartbeats 2000000 in
theorem vU {M:List Nat} {cs:List Value} {t:Tx} (w:World) (ht:txR.rel M w cs t) (hs:t.Sm) (hM:∀b∈M,b<w.heap.size):K.Spec Tryz.prog F.tx_Copy [.agg cs.toArray] w fun r w'=>∃cs',r=.agg cs'.toArray∧txO w.heap.size M w' cs' t∧Ext w w':=by
 have ht0:=ht
 obtain ⟨iv,ov,rfl,hi,ho,hv,hl⟩:=ht
 have hs1:=hs.ins
 have hs2:=hs.outs
 refine bHz rfl ?_
 unfold aTg
 refine oy ?_
 repeat' (first|(first|refine go2 ?_|fail)|(first|refine zD rfl rfl (fun bp wp xp ap rp hp0=>?_)|refine zE (fun _=>rfl) rfl rfl rfl (fun bq wq xq aq rq hq0=>?_)))
 refine zH (fun b2 w2 x2 a2 hb2=>?_)
 have lp:=ap.lt
 have l2:=a2.lt
 have sp:=xp.size
 have s2:=x2.size
 have xw:Unit→Ext w w2:=fun _=>xp.trans x2
 obtain ⟨M1,hM1⟩:∃M1,M1= [b2,bp]++M:=⟨_,rfl⟩
 have hmem:∀b∈M1,b∈M∨w.heap.size≤b:=by
  rw [hM1];exact aAq (fun y hy=>by simp at hy;omega)
 have hi1:SlR inR M1 w2 iv t.ins:=hi.step (xw ()) (by simp) hmem
 have ho1:SlR gF M1 w2 ov t.outs:=ho.step (xw ()) (by simp) hmem
 have hM1b:∀b∈M1,b<w2.heap.size:=by
  intro y hy;rw [hM1] at hy;simp at hy
  rcases hy with h|h|h
  ·omega
  ·omega
  ·have:=hM y h;omega
 have mb:bp∈M1:=by rw [hM1];simp
 have m2:b2∈M1:=by rw [hM1];simp
 have mM:∀b∈M,b∈M1:=by intro y hy;rw [hM1];simp [hy]
 repeat' (first|(first|refine go2 ?_|fail)|refine zB ?_ ?_|(refine zC rfl (aZp (M:=M1) (l:=t.ins) _ (by exact fx) (by omega) (fun b hb=>nLt (hM1b b hb) (Ext.size (by exact fx)))) ?_;rintro v1 w3 ⟨hv1,x3⟩;have l1:=hv1.lt;have hv1:=hv1.lower (B':=w2.heap.size) (by first|exact Nat.le_refl _|(apply Ext.size;assumption));have g1:=hv1.base;have x23:Ext w2 w3:=(by exact fx))|refine zC rfl (aLx (M:=aC v1++M1) (l:=t.outs) _ (ho1.step x23 (by simp) (aAq g1)) (by omega) (fun b hb=>?_)) ?_|(rcases List.mem_append.1 hb with h|h;exact l1 b h;exact nLt (hM1b b h) (Ext.size (by exact fx)))|(rintro v2 w4 ⟨hv2,x4⟩;have g2:=hv2.base;have x24:Ext w2 w4:=(by exact fx);have hv1:=hv1.ext x4;have ap:=At.ext x24 (At.ext x2 ap);have a2:=At.ext x24 a2;have s24:=x24.size))
 trace_state
 all_goals
  have hbp:bp∉aC v1:=fun h=>by have:=g1 _ h;omega
  have hb2':b2∉aC v1:=fun h=>by have:=g1 _ h;omega
  have s23:=x23.size
  have hbp2:bp∉aC v2:=fun h=>by have:=g2 _ h;omega
  have hb22:b2∉aC v2:=fun h=>by have:=g2 _ h;omega
  have h12:∀b∈aC v1,b∉aC v2:=fun b h h'=>by have:=g2 _ h';have:=l1 _ h;omega
  refine bC (b:=bp) (o:=1) (cur:=aK t iv ov) rfl rfl hv1.one ap (Nat.le_of_ble_eq_true rfl) (fun w5 c5 a5=>?_)
  refine goR ?_
  refine bC (b:=bp) (o:=2) (cur:=aK t v1 ov) rfl rfl hv2.one a5 (Nat.le_of_ble_eq_true rfl) (fun w6 c6 a6=>?_)
  have c56:Chg [bp] w4 w6:=(c5.trans c6).mono (by simp)
  have hv1:=hv1.step (M':=M1) c56 (by intro y hy;simp at hy;subst hy;exact ⟨hbp,.inl mb⟩) (fun _ h=>.inl h)
  have hv2:=hv2.step (M':=aC v1++M1) c56 (by intro y hy;simp at hy;subst hy;exact ⟨hbp2,.inl (by simp [mb])⟩) (fun _ h=>.inl h)
  have a6:At w6 bp (.cells (aK t v1 v2).toArray T.api_Tx (0,0)):=a6
  have a2:=At.chg c56 a2 (by simp;omega)
  have x26:Ext w w6:=(Ext.chg ((xw ()).trans x24) c56).mono (by intro y hy;simp at hy;right;omega)
  have l1':=hv1.lt
  have r6:Row w6 ⟨bp,0,none⟩ (aK t v1 v2):=Row.of_at a6
  clear c5 c6 c56 a5 ap x3 x4
  repeat' (first|(first|refine go2 ?_|fail)|refine zB ?_ ?_|refine zL rfl (fun h=>?_) (fun h=>?_)|refine zG (l:=t.ins) rfl (hv1.slB (B:=w2.heap.size) hM1b) ?_|(refine aJ (fun (k:Nat) w'=>Ext w w'∧k≤t.ins.length∧w6.heap.size≤w'.heap.size∧At w' bp (.cells (aK t v1 v2).toArray T.api_Tx (0,0))∧At w' b2 (.cells [Value.int .u32 0,.slice none 0 0,.slice none 0 0,.int .u32 0].toArray T.api_Tx (0,0))∧bH inR T.api_In w2.heap.size M1 w' v1 t.ins∧bH gF T.api_Out w3.heap.size (aC v1++M1) w' v2 t.outs) (fun k=> [(1,.pointer (some ⟨bp,0,none⟩)),(2,.pointer (some ⟨b2,0,none⟩)),(13,v1),(14,.int .i64 (t.ins.length:Nat)),(15,.int .i64 k)]) (fun k=>t.ins.length - k) 0 ⟨rfl,rfl,rfl,rfl,rfl,trivial⟩ ⟨x26,Nat.zero_le _,Nat.le_refl _,a6,a2,hv1,hv2⟩ ?_;rintro k ρ w7 ⟨x7,hk,s7,a7,q2,o1,o2⟩;have r7:Row w7 ⟨bp,0,none⟩ (aK t v1 v2):=Row.of_at a7))
  ·have hki:k<t.ins.length:=by omega
   have hwl:=hs.wit _ (gMe hki)
   obtain ⟨b1,cap,css,junk,rfl,hB,hat,hc,hln,hall,hsl⟩:=o1.open (by omega)
   obtain ⟨wv,hcs,hw,hp5,hp6⟩:=hall.get k (by omega) hki
   have hb1:b1<w7.heap.size:=hat.lt
   have hMb:∀b∈b1::M1,b<w7.heap.size:=fun b hb=>by
    rcases List.mem_cons.1 hb with h|h
    ·omega
    ·have:=hM1b b h;omega
   refine aT (d:=some 24) (E:=jM inR.k inR.pos) (l:=css) (n:=k) rfl rfl (by exact fx) rfl (by omega) (fun ad r8=>?_)
   have r8:Row _ ad css[k].1:=r8
   rw [hcs] at r8
   repeat' (first|(first|refine go2 ?_|fail)|refine zB ?_ ?_|(refine zC rfl (uS (M:=b1::M1) (l:=t.ins[k].wit) _ (hw.ext (by exact fx)) (by omega) (fun b hb=>nLt (hMb b hb) (Ext.size (by exact fx)))) ?_;rintro v3 w9 ⟨hv3,x9⟩;have hv3:=hv3.lower (B':=w7.heap.size) (Ext.size (by exact fx));have s9:=Ext.size (w:=w7) (w':=w9) (by exact fx))|refine aOk (d:=some 28) rfl rfl (by omega) ?_)
   all_goals
    have hx79:Ext w7 w9:=by exact fx
    refine bFz (E:=inR) (M:=M1) (B:=w2.heap.size) (l:=t.ins) (i:=k) (o:=3) (a:=t.ins[k]) (css:=css) (junk:=junk) (cap:=cap) rfl rfl hv3.one hB (hat.ext hx79) hc hln (bMm hall hx79) hki (by decide) (fun w10 c10=>?_) (fun w10 c10 o10=>?_)
    ·refine ⟨v3,by rw [hcs];rfl,?_,hp5,hp6⟩
     exact (hv3.slB hMb).step c10 (by intro y hy;simp at hy;subst hy;simp) (fun b hb=>.inl hb)
    ·have hbb:b1≠bp:=fun e=>hbp (by rw [←e];simp [aC])
     have hbb2:b1≠b2:=fun e=>hb2' (by rw [←e];simp [aC])
     have hbv:b1∉aC v2:=h12 b1 (by simp [aC])
     have a7':=At.chg c10 (a7.ext hx79) (by simp;omega)
     have q2':=At.chg c10 (q2.ext hx79) (by simp;omega)
     have hs10:=c10.size
     have hwb:w.heap.size≤b1:=by omega
     have o2':=(o2.ext hx79).step c10 (M':=aC (.slice (some ⟨b1,0,none⟩) t.ins.length cap)++M1) (by intro y hy;simp at hy;subst hy;exact ⟨hbv,.inl (by simp [aC])⟩) (fun _ h=>.inl h)
     have x10:Ext w w10:=((x7.trans hx79).chg c10).mono (by intro y hy;simp at hy;right;omega)
     rw [List.set_getElem_self] at o10
     clear hx79
     repeat (first|refine go2 ?_|fail)
     exact ⟨k+1,⟨rfl,rfl,rfl,rfl,rfl,trivial⟩,⟨x10,by omega,by omega,a7',q2',o10,o2'⟩,by omega⟩
  ·refine aW (w0:=w) (vs:=aK t v1 v2) x7 (by omega) q2 rfl rfl rfl rfl ?_ (fun w11 x11 c11 a11 r11=>?_)
   ·have e1:=hv1.one
    have e2:=hv2.one
    simp [aK,e1,e2];exact ⟨rfl,rfl⟩
   repeat (first|refine go2 ?_|fail)
   have p1:=(o1.step (M':=M1) c11 (by intro y hy;simp at hy;subst hy;exact ⟨hb2',.inl m2⟩) (fun _ h=>.inl h)).sub (M':=M) (fun b hb=>.inl (mM b hb))
   have p2:=(o2.step (M':=M1) c11 (by intro y hy;simp at hy;subst hy;exact ⟨hb22,.inl (by simp [m2])⟩) (fun _ h=>.inl (by simp [h]))).sub (M':=M) (fun b hb=>.inl (mM b hb))
   exact aA (aEo (bA r11 rfl rfl)) ⟨_,rfl,⟨v1,v2,rfl,p1.lower (by omega),p2.lower (by omega),hv,hl⟩,x11⟩
end
section
open Go Go.K
attribute [local irreducible] aH aM aY KOp.wp K.Spec u32 leS vnS str aP cM bK idT aQ aG aN
theorem bO0 {n:Int} (h:fN n):IntKind.i64.wrap n=n:=IntWalk.i64_in _ (by unfold fN at h;omega)
end
section
open Go Go.K
section
variable {P:Program} {d:Option Tmp} {r:KR} {K:Env→World→Prop} {ρ:Env} {w:World}
end
attribute [local irreducible] aH aM aY KOp.wp K.Spec u32 leS vnS str aP cM bK idT aQ aG aN idN xL bG
section
variable {base:Nat→Bool} {edge:Nat→Nat→Bool} {n r i:Nat} {m:List Bool}
end
end
end Go.Proofs.YteceapipdhnhdaaGreatDoor
namespace Go.K
section
open Go
variable {P:Program}
def sK:KEnc ByteArray:=⟨Value.string,false, [.s],by grind [aBf,cU,kR],by intro a;rfl⟩
section
variable {κ β:Type} [DecidableEq κ] {KE:KEnc κ} {F:R β} {M:List Nat} {w:World} {d:Option Tmp} {r:KR} {K:Env→World→Prop} {ρ:Env}
theorem aAy {s:Bool} {ks:List CK} {z:Value} {m x:Operand} {b:Nat} {l:List (κ × β)} {k:κ} (hm:ev ρ m=.map (some b)) (hx:ev ρ x=KE.f k) (hM:nG KE F M w b l) (hs:s=KE.s) (hks:ks=KE.ks)
  (k1:∀y cs,aS l k=some y→F.rel M w cs y→aH P r K (put ρ d (.tuple #[F.val cs,.bool true])) w) (k2:aS l k=none→aH P r K (put ρ d (.tuple #[z,.bool false])) w):aH P (.cons ⟨d,.lookup s ks z true m x,none⟩ r) K ρ w:=by
 obtain ⟨mv,h1,h2⟩:=hM
 have ha:=aH8 (r:=fun v y=>∃cs,v=F.val cs∧F.rel M w cs y) (k:=k) h2
 refine mV (E:=KE) (fv:=id) hm hx h1 hs hks (fun v hv=>?_) (fun hv=>?_)
 ·cases hg:aS l k with
  |none=>rw [ha.2 hg] at hv;cases hv
  |some y=>
   obtain ⟨v',e,cs,e2,hr⟩:=ha.1 y hg
   rw [e] at hv;injection hv with hv;subst hv;subst e2
   exact k1 y cs hg hr
 ·cases hg:aS l k with
  |none=>exact k2 hg
  |some y=>
   obtain ⟨v',e,_⟩:=ha.1 y hg
   rw [e] at hv;cases hv
theorem aZ1 {s:Bool} {ks:List CK} {z:Value} {m x:Operand} {b:Nat} {l:List (κ × β)} {k:κ} (hm:ev ρ m=.map (some b)) (hx:ev ρ x=KE.f k) (hM:nG KE F M w b l) (hs:s=KE.s) (hks:ks=KE.ks)
  (k1:∀y cs,aS l k=some y→F.rel M w cs y→aH P r K (put ρ d (F.val cs)) w) (k2:aS l k=none→aH P r K (put ρ d z) w):aH P (.cons ⟨d,.lookup s ks z false m x,none⟩ r) K ρ w:=by
 obtain ⟨mv,h1,h2⟩:=hM
 have ha:=aH8 (r:=fun v y=>∃cs,v=F.val cs∧F.rel M w cs y) (k:=k) h2
 refine eQ (E:=KE) (fv:=id) hm hx h1 hs hks (fun v hv=>?_) (fun hv=>?_)
 ·cases hg:aS l k with
  |none=>rw [ha.2 hg] at hv;cases hv
  |some y=>
   obtain ⟨v',e,cs,e2,hr⟩:=ha.1 y hg
   rw [e] at hv;injection hv with hv;subst hv;subst e2
   exact k1 y cs hg hr
 ·cases hg:aS l k with
  |none=>exact k2 hg
  |some y=>
   obtain ⟨v',e,_⟩:=ha.1 y hg
   rw [e] at hv;cases hv
theorem aQv {s:Bool} {ks:List CK} {m x y:Operand} {b:Nat} {l:List (κ × β)} {k:κ} {v:β} {cs:List Value} (hm:ev ρ m=.map (some b)) (hx:ev ρ x=KE.f k) (hy:ev ρ y=F.val cs) (hM:nG KE F M w b l) (hr:F.rel M w cs v) (hb:b∈M) (hs:s=KE.s) (hks:ks=KE.ks)
  (kk:∀w',Chg [b] w w'→nG KE F M w' b (fV l k v)→aH P r K (put ρ d undef) w'):aH P (.cons ⟨d,.mapUpdate s ks m x y,none⟩ r) K ρ w:=by
 obtain ⟨mv,h1,h2⟩:=hM
 refine eY (E:=KE) (fv:=id) (v:=F.val cs) hm hx hy h1 hs hks fun w' c hM'=>kk w' c ⟨_,hM',?_⟩
 have h3:All2 (fun (p:κ × Value) (q:κ × β)=>p.1=q.1∧∃cs,p.2=F.val cs∧F.rel M w' cs q.2) mv l:=h2.mono fun _ _ ⟨e,cs,e2,hr⟩=>⟨e,cs,e2,F.step hr c (by intro y hy;simp at hy;subst hy;exact .inl hb) (fun _ h=>.inl h)⟩
 exact aZu (r:=fun v y=>∃cs,v=F.val cs∧F.rel M w' cs y) ⟨cs,rfl,F.step hr c (by simp [*]) (fun _ h=>.inl h)⟩ h3
theorem aOt {s:Bool} {ks:List CK} {m x:Operand} {b:Nat} {l:List (κ × β)} {k:κ} (hm:ev ρ m=.map (some b)) (hx:ev ρ x=KE.f k) (hM:nG KE F M w b l) (hb:b∈M) (hs:s=KE.s) (hks:ks=KE.ks)
  (kk:∀w',Chg [b] w w'→nG KE F M w' b (lE l k)→aH P r K (put ρ d (.tuple #[])) w'):aH P (.cons ⟨d,.delete s ks m x,none⟩ r) K ρ w:=by
 obtain ⟨mv,h1,h2⟩:=hM
 refine aDv (E:=KE) (fv:=id) hm hx h1 hs hks fun w' c hM'=>kk w' c ⟨_,hM',?_⟩
 have h3:All2 (fun (p:κ × Value) (q:κ × β)=>p.1=q.1∧∃cs,p.2=F.val cs∧F.rel M w' cs q.2) mv l:=h2.mono fun _ _ ⟨e,cs,e2,hr⟩=>⟨e,cs,e2,F.step hr c (by simp [*]) (fun _ h=>.inl h)⟩
 exact bK4 (r:=fun v y=>∃cs,v=F.val cs∧F.rel M w' cs y) h3
theorem nG.new {b:Nat} (h:dB KE id w b ([]:List (κ × Value))):nG KE F M w b []:=⟨[],h,.nil⟩
end
theorem aYf {κ β:Type} [DecidableEq κ] (m:List (κ × β)) (k k':κ):aS (lE m k) k'=if k=k' then none else aS m k':=by
 unfold aS lE
 grind
end
section
open Go
structure GI (m:List (ByteArray × Ent)) (sp:List (Pt × ByteArray)) (l:List Ent):Prop where
 ent:∀id,aS m id=l.find? fun x=>decide (x.id=id)
 spt:∀p,aS sp p=(l.find? fun x=>spends x p).map (·.id)
 nodup:(l.map (·.id)).Nodup
 apart:l.Pairwise fun x y=>∀p,spends x p=true→spends y p=false
 ok:∀x∈l,EntOk x
theorem GI.nil:GI [] [] []:=⟨fun _=>rfl,fun _=>rfl,List.nodup_nil,.nil,fun _ h=>by grind⟩
def wG (sp:List (Pt × ByteArray)) (ins:List TIn) (id:ByteArray):List (Pt × ByteArray):=ins.foldl (fun s x=>fV s x.p id) sp
def aBw (sp:List (Pt × ByteArray)) (ins:List TIn):List (Pt × ByteArray):=ins.foldl (fun s x=>lE s x.p) sp
theorem cP {κ β:Type} [DecidableEq κ] (l:List (κ × β)) (k:κ) (v:β) (k':κ):aS (fV l k v) k'=if k=k' then some v else aS l k':=by
 induction l with
 |nil=>grind [aS,fV]
 |cons p l ih=>
  have e:∀(q:κ × β) (m:List (κ × β)),aS (q::m) k'=if q.1=k' then some q.2 else aS m k':=by intro q m;unfold aS;rw [List.find?_cons];by_cases h:q.1=k'<;>simp [h]
  unfold fV
  grind
theorem aP5 (id:ByteArray):∀(ins:List TIn) (sp:List (Pt × ByteArray)) (p:Pt),aS (wG sp ins id) p=if ins.any (fun i=>decide (i.p=p)) then some id else aS sp p
 | [],sp,p=>by rfl
 |x::ins,sp,p=>by
  have:=aP5 id ins (fV sp x.p id) p
  simp only [wG,List.foldl_cons] at this ⊢
  rw [this,List.any_cons,cP]
  grind
theorem aOx:∀(ins:List TIn) (sp:List (Pt × ByteArray)) (p:Pt),aS (aBw sp ins) p=if ins.any (fun i=>decide (i.p=p)) then none else aS sp p
 | [],sp,p=>by rfl
 |x::ins,sp,p=>by
  have:=aOx ins (lE sp x.p) p
  simp only [aBw,List.foldl_cons] at this ⊢
  rw [this,List.any_cons,aYf]
  grind
theorem aW6 {sp:List (Pt × ByteArray)} {ins:List TIn} {id:ByteArray} {i:Nat} (h:i<ins.length):wG sp (ins.take (i+1)) id=fV (wG sp (ins.take i) id) ins[i].p id:=by
 grind [wG,List.take_succ_eq_append_getElem]
theorem aLr {sp:List (Pt × ByteArray)} {ins:List TIn} {i:Nat} (h:i<ins.length):aBw sp (ins.take (i+1))=lE (aBw sp (ins.take i)) ins[i].p:=by
 grind [aBw,List.take_succ_eq_append_getElem]
theorem GI.add {m:List (ByteArray × Ent)} {sp:List (Pt × ByteArray)} {l:List Ent} (h:GI m sp l) {x:Ent} (hx:EntOk x) (h1:∀y∈l,y.id≠x.id) (h2:∀y∈l,∀p,spends x p=true→spends y p=false):GI (fV m x.id x) (wG sp x.tx.ins x.id) (l++ [x]) where
 ent:=fun id=>by
  rw [cP,List.find?_append,h.ent]
  grind
 spt:=fun p=>by
  rw [aP5,List.find?_append,h.spt]
  by_cases e:spends x p=true
  ·have:l.find? (fun y=>spends y p)=none:=List.find?_eq_none.2 fun y hy=>by simp [*]
   have e':x.tx.ins.any (fun i=>decide (i.p=p))=true:=e
   simp [*]
  ·have e':¬x.tx.ins.any (fun i=>decide (i.p=p))=true:=e
   simp [*]
 nodup:=by
  rw [List.map_append,List.nodup_append]
  exact ⟨h.nodup,by simp,fun a ha b hb=>by
   grind⟩
 apart:=by
  rw [List.pairwise_append]
  exact ⟨h.apart,List.pairwise_singleton _ _,fun y hy z hz p hp=>by
   grind⟩
 ok:=fun y hy=>by
  rcases List.mem_append.1 hy with h3|h3
  ·exact h.ok y h3
  simp_all
theorem aH4 {l:List Ent} {x:Ent} {n:Nat} (hn:(l.map (·.id)).Nodup) (h:n<l.length) (hx:l[n]=x):l.eraseIdx n=l.filter fun y=>!decide (y.id=x.id):=by
 induction l generalizing n with
 |nil=>simp
 |cons y l ih=>
  rw [List.map_cons,List.nodup_cons] at hn
  cases n with
  |zero=>
   simp only [List.getElem_cons_zero] at hx
   subst hx
   rw [List.eraseIdx_cons_zero,List.filter_cons_of_neg (by simp)]
   symm
   simp_all
  |succ n=>
   grind
theorem bLi {l:List Ent} (h:l.Pairwise fun x y=>∀p,spends x p=true→spends y p=false) (hn:(l.map (·.id)).Nodup) {x y:Ent} (hx:x∈l) (hy:y∈l) (hne:y.id≠x.id) {p:Pt} (hp:spends x p=true):spends y p=false:=by
 induction l with
 |nil=>grind
 |cons z l ih=>
  grind [List.pairwise_cons]
theorem GI.del {m:List (ByteArray × Ent)} {sp:List (Pt × ByteArray)} {l:List Ent} (h:GI m sp l) {x:Ent} (hx:x∈l):GI (lE m x.id) (aBw sp x.tx.ins) (l.filter fun y=>!decide (y.id=x.id)) where
 ent:=fun id=>by
  rw [aYf,List.find?_filter,h.ent]
  grind
 spt:=fun p=>by
  rw [aOx,List.find?_filter,h.spt]
  by_cases e:spends x p=true
  ·have e':x.tx.ins.any (fun i=>decide (i.p=p))=true:=e
   rw [if_pos e']
   symm
   have:l.find? (fun y=>decide ((!decide (y.id=x.id))=true∧spends y p=true))=none:=List.find?_eq_none.2 fun y hy=>by
    by_cases e2:y.id=x.id
    ·grind
    ·simp [bLi h.apart h.nodup hx hy e2 e]
   simp_all
  ·have e':¬x.tx.ins.any (fun i=>decide (i.p=p))=true:=e
   rw [if_neg e']
   congr 1
   have hd:∀y∈l,spends y p=true→y.id≠x.id:=fun y hy hs hid=>by
    have hyx:y=x:=by
     have hnd:=h.nodup
     clear h e e' hs
     induction l with
     |nil=>grind
     |cons z l ih=>
      grind
    simp_all
   clear h e e'
   induction l with
   |nil=>rfl
   |cons y l ih=>
    rw [List.find?_cons,List.find?_cons]
    by_cases hs:spends y p=true
    ·simp [*]
    ·simp only [Bool.not_eq_true] at hs
     rw [hs]
     simp only [Bool.false_eq_true,and_false,decide_false]
     by_cases hxl:x∈l
     ·simp_all
     ·have hxy:x=y:=by
       rcases List.mem_cons.1 hx with h1|h1
       ·exact h1
       ·simp_all
      clear ih
      have hd2:∀z∈l,spends z p=true→z.id≠x.id:=fun z hz=>hd z (by grind)
      clear hx hxl hd hxy
      induction l with
      |nil=>rfl
      |cons z l ih2=>
       grind
 nodup:=List.Nodup.sublist (List.Sublist.map _ List.filter_sublist) h.nodup
 apart:=h.apart.sublist List.filter_sublist
 ok:=fun y hy=>h.ok y (List.mem_filter.1 hy).1
end
section
open Go
def named (l:List Ent) (ids:List ByteArray) (i:Nat):Bool:=ids.any fun s=>decide (s=(dM l i).id)
def cB (l:List Ent) (frm:List ByteArray) (nxt:Ent→List ByteArray):List Bool:=tJ (named l frm) (fun k i=>named l (nxt (dM l k)) i) l.length
abbrev bJ4 (l:List Ent) (frm:List ByteArray) (nxt:Ent→List ByteArray) (i:Nat):Bool:=bG (named l frm) (fun k i=>named l (nxt (dM l k)) i) l.length l.length i
def qN (met:List (ByteArray × Nat)) (id:ByteArray):Bool:=(aS met id).isSome
def cL (met:List (ByteArray × Nat)) (nxt:Ent→List ByteArray) (l:List Ent):Nat:=(l.map fun x=>if qN met x.id then 0 else (nxt x).length).sum
structure BInv (l:List Ent) (frm:List ByteArray) (nxt:Ent→List ByteArray) (T:List ByteArray) (met:List (ByteArray × Nat)):Prop where
 todo:∀id∈T,∃i,i<l.length∧(dM l i).id=id∧bJ4 l frm nxt i=true
 seen:∀id,qN met id=true→∃i,i<l.length∧(dM l i).id=id∧bJ4 l frm nxt i=true
 pos:∀id c,aS met id=some c→1≤c
 from0:∀id∈frm,id∈T∨qN met id=true
 next0:∀i,i<l.length→qN met (dM l i).id=true→∀s∈nxt (dM l i),s∈T∨qN met s=true
section
variable {l:List Ent} {frm:List ByteArray} {nxt:Ent→List ByteArray} {T:List ByteArray} {met:List (ByteArray × Nat)}
theorem pW {ids:List ByteArray} {i:Nat}:named l ids i=true↔(dM l i).id∈ids:=by
 unfold named
 simp
theorem nY {id s:ByteArray} {c:Nat}:qN (fV met id c) s=(decide (id=s)||qN met s):=by
 grind [qN,cP]
theorem BInv.start (h:∀id∈frm,∃i,i<l.length∧(dM l i).id=id):BInv l frm nxt frm [] where
 todo:=fun id hid=>by
  grind [aPn,pW]
 seen:=fun id h=>by simp [qN,aS] at h
 pos:=fun id c h=>by simp [aS] at h
 from0:=fun id h=>.inl h
 next0:=fun i _ h=>by simp [qN,aS] at h
theorem BInv.again {id:ByteArray} {c:Nat} (h:BInv l frm nxt (id::T) met) (hc:aS met id=some c):BInv l frm nxt T (fV met id (c+1)) where
 todo:=fun s hs=>h.todo s (by grind)
 seen:=fun s hs=>by
  rw [nY] at hs
  by_cases e:id=s
  ·subst e;exact h.seen id (by grind [qN])
  ·simp [e] at hs;exact h.seen s hs
 pos:=fun s d hd=>by
  rw [cP] at hd
  split at hd
  ·grind
  ·exact h.pos s d hd
 from0:=fun s hs=>by
  rw [nY]
  rcases h.from0 s hs with h1|h1
  ·grind
  simp [*]
 next0:=fun i hi hm s hs=>by
  rw [nY] at hm
  have hm':qN met (dM l i).id=true:=by
   by_cases e:id=(dM l i).id
   ·grind [qN]
   ·simp_all
  rw [nY]
  rcases h.next0 i hi hm' s hs with h1|h1
  ·grind
  simp [*]
theorem kX (hn:(l.map (·.id)).Nodup) {i j:Nat} (hi:i<l.length) (hj:j<l.length) (h:(dM l i).id=(dM l j).id):i=j:=by
 grind [bY,List.pairwise_iff_getElem]
theorem BInv.first {i:Nat} (hn:(l.map (·.id)).Nodup) (hi:i<l.length) (h:BInv l frm nxt ((dM l i).id::T) met) (hc:aS met (dM l i).id=none) (hin:∀s∈nxt (dM l i),∃j,j<l.length∧(dM l j).id=s):BInv l frm nxt (T++nxt (dM l i)) (fV met (dM l i).id 1) where
 todo:=fun s hs=>by
  rcases List.mem_append.1 hs with h1|h1
  ·exact h.todo s (by grind)
  ·obtain ⟨j,hj,ej⟩:=hin s h1
   obtain ⟨i',hi',ei,hs'⟩:=h.todo (dM l i).id (by simp)
   grind [kX,aAc,pW]
 seen:=fun s hs=>by
  rw [nY] at hs
  by_cases e:(dM l i).id=s
  ·subst e;exact h.todo _ (by simp)
  ·simp [e] at hs;exact h.seen s hs
 pos:=fun s d hd=>by
  rw [cP] at hd
  split at hd
  ·simp_all
  ·exact h.pos s d hd
 from0:=fun s hs=>by
  rw [nY]
  rcases h.from0 s hs with h1|h1
  ·grind
  simp [*]
 next0:=fun j hj hm s hs=>by
  rw [nY] at hm ⊢
  by_cases e:(dM l i).id=(dM l j).id
  ·grind [kX]
  ·simp [e] at hm
   rcases h.next0 j hj hm s hs with h1|h1
   ·grind
   simp [*]
theorem BInv.done (h:BInv l frm nxt [] met) (i:Nat) (hi:i<l.length) (hn:(l.map (·.id)).Nodup):qN met (dM l i).id=bJ4 l frm nxt i:=by
 rw [Bool.eq_iff_iff]
 constructor
 ·intro hm
  obtain ⟨j,hj,ej,hs⟩:=h.seen _ hm
  grind [kX]
 ·refine fun hs=>aC7 (p:=fun i=>qN met (dM l i).id=true) (fun j _ hb=>?_) (fun k j hk _ hm he=>?_) _ i hi hs
  ·rcases h.from0 _ (pW.1 hb) with h1|h1
   ·grind
   omega
  ·rcases h.next0 k hk hm _ (pW.1 he) with h1|h1
   ·grind
   omega
theorem tM (met:List (ByteArray × Nat)) (nxt:Ent→List ByteArray) (x:Ent) (l:List Ent):cL met nxt (x::l)=(if qN met x.id then 0 else (nxt x).length)+cL met nxt l:=by rfl
theorem aYx (met:List (ByteArray × Nat)) (nxt:Ent→List ByteArray) {c:Nat}:∀(l:List Ent),(∀x∈l,(nxt x).length≤c)→cL met nxt l≤c*l.length
 | [],_=>by simp [cL]
 |x::l,h=>by
  have h1:=aYx met nxt l fun y hy=>h y (by grind)
  grind [tM,Nat.mul_add]
theorem yR {id:ByteArray} {c:Nat}:∀(l:List Ent),cL (fV met id c) nxt l≤cL met nxt l
 | []=>by simp [cL]
 |x::l=>by
  have h1:=yR (id:=id) (c:=c) l
  rw [tM,tM,nY]
  refine Nat.add_le_add ?_ h1
  by_cases e:id=x.id<;>by_cases m:qN met x.id=true<;>simp [e,m]
theorem aK7 {x:Ent} {c:Nat}:∀{l:List Ent},x∈l→qN met x.id=false→cL (fV met x.id c) nxt l+(nxt x).length≤cL met nxt l
 |y::l,hx,hm=>by
  have h0:=yR (met:=met) (nxt:=nxt) (id:=x.id) (c:=c) l
  rw [tM,tM,nY]
  rcases List.mem_cons.1 hx with e|hx
  ·grind
  ·have h1:=aK7 (c:=c) hx hm
   grind
end
theorem bCp {l:List Ent} {p:ByteArray→Bool} {q:Nat→Bool} (h:∀i (hi:i<l.length),p l[i].id=q i):(l.map (·.id)).filter p=aO l ((List.range l.length).map q):=by
 induction l generalizing q with
 |nil=>rfl
 |cons x l ih=>
  have h0:=h 0 (by simp)
  have h1:=ih (q:=fun i=>q (i+1)) (fun i hi=>h (i+1) (by simp [*]))
  simp only [List.getElem_cons_zero] at h0
  rw [List.map_cons,List.filter_cons,h1,List.length_cons,List.range_succ_eq_map,List.map_cons,List.map_map,aO,h0]
  rfl
end
end Go.K
