/- Contracts: digests by the reference; ids and sizes of transa -/
import Derived.Test.YtgloknkcfchnlabGreatDoorZ20
import Derived.Test.YtgloknkcfchnlabGreatDoorZ21
set_option linter.unusedVariables false
set_option linter.unusedSimpArgs false
namespace Go.Proofs.YtgloknkcfchnlabGreatDoor
section
open Go Go.K
attribute [local irreducible] aG aK aU KOp.wp K.Spec u32 leS vnS str aN fO wCs jI iW iL eL jQ gF cY oZ xH addN shN aNa cW leL aFs cV bH
section
variable {P:Program} {d:Option Tmp} {r:KR} {K:Env→World→Prop} {ρ:Env} {w:World}
end
set_option maxHeartbeats 2000000 in
theorem aIq (s:ByteArray) (hs:s.size≤4000000) (w:World):K.Spec Tryz.prog F.kedgeref04_Sum [.string s] w fun r w'=>r=.string (aFs s)∧Ext w w':=by
 obtain ⟨N,hN⟩:∃N,(oZ s.data.toList).length=64*N:=⟨_,aKq s⟩
 have hl:=aP3 s
 generalize hm:oZ s.data.toList=m at hN hl
 have hout:∀n j,(cW (fun x:W32=>str (leL x.toNat 4).reverse) ((cY m n).l.take j)).size≤32:=fun n j=>by
  have h1:=lK (fun x:W32=>str (leL x.toNat 4).reverse) 4 ((cY m n).l.take j) fun x _=>by rw [gN,List.length_reverse,bV];exact Nat.le_refl _
  have h2:((cY m n).l.take j).length≤8:=by rw [List.length_take,l8];omega
  omega
 refine aA8 rfl ?_
 unfold qH
 refine oy ?_
 repeat' (first|refine bT (cs:=tY.cs) (by kernel_rfl) ?_|(refine jT (ad:=⟨b3,0,none⟩) (l:=(cY m n).l) j rfl (Row.of_at (t:=T.n_8_uint32) (f:=(0,0)) (by focus (repeat (first|assumption|(apply At.ext;assumption))))) (by rw [l8];omega) ?_;have hj8:j<8:=(by omega))|refine dU j rfl rfl (by omega) ?_|refine qX 24 (by decide) rfl rfl ?_|refine qX 16 (by decide) rfl rfl ?_|refine qX 8 (by decide) rfl rfl ?_|refine aYd rfl ?_|refine go1 ?_|refine zg λ_ _=>?_|refine zi λ_ _=>?_|refine zL rfl (fun h=>?_) (fun h=>?_)|refine zH (fun b3 w1 x1 a1 hb3=>?_)|(refine bG (vs:=tY.cs) rfl rfl rfl (fP (aOv _)) (cur:=ZR 8) a1 rfl (fun w2 c2 a2=>?_);have x2:Ext w w2:=(Ext.chg x1 c2).mono (by intro y hy;simp at hy;right;omega);rw [S8.cs_eq] at a2)|(refine zC rfl (aT8 s hs _) ?_;rintro v w3 ⟨hv,x3,hvb⟩;rw [hm] at hv;have l3:=a2.lt)|refine bP rfl (SlE.ext (w:=w4) (by exact fx) hv4) ?_|(refine aL (fun (n:Nat) w'=>Ext w w'∧SlE u8E w' v m∧n≤N∧At w' b3 (.cells (wCs (cY m n).l).toArray T.n_8_uint32 (0,0))) (fun n=> [(2,.string ⟨#[]⟩),(3,.pointer (some ⟨b3,0,none⟩)),(4,v),(5,.int .i64 ((64*n:Nat):Int))]) (fun n=>N - n) 0 ⟨rfl,rfl,rfl,rfl,trivial⟩ ⟨by exact fx,hv,by omega,by rw [aXy];focus (repeat (first|assumption|(apply At.ext;assumption)))⟩ ?_;rintro n ρ w4 ⟨x4,hv4,hn,h3⟩)|(refine aL (fun (j:Nat) w'=>Ext w4 w'∧j≤8) (fun j=> [(3,.pointer (some ⟨b3,0,none⟩)),(6,.string (cW (fun x:W32=>str (leL x.toNat 4).reverse) ((cY m n).l.take j))),(7,.int .i64 j)]) (fun j=>8 - j) 0 ⟨rfl,congrArg Value.string (by rw [List.take_zero,mQ]),rfl,trivial⟩ ⟨Ext.refl _,by omega⟩ ?_;rintro j ρ8 w8 ⟨x8,hj⟩;have hz:=hout n j)|refine lT (n:=8) (l:=wCs (cY m n).l) rfl (Row.of_at (t:=T.n_8_uint32) (f:=(0,0)) (by focus (repeat (first|assumption|(apply At.ext;assumption))))) (by rw [bW];exact Nat.le_refl _) (by rw [tLe];rw [bW];exact Nat.le_refl _) ?_)
 ·have hn2:n<N:=by omega
  refine aRc (lo:=64*n) (hi:=64*n+64) rfl rfl (congrArg (Value.int .i64) (by omega)) (SlE.ext (w:=w4) (by exact fx) hv4) (by omega) (by omega) rfl (fun v5 hv5 _=>?_)
  refine zC rfl (aOe (cY m n) (by rw [List.length_take,List.length_drop];omega) _ hv5) ?_
  rintro _ w6 ⟨rfl,x6⟩
  have e:aJh (cY m n) ((m.drop (64*n)).take (64*n+64 - 64*n))=cY m (n+1):=by
   rw [show 64*n+64 - 64*n=64 by omega,aR4,aXt,aJh]
  rw [e]
  refine bG (vs:=wCs (cY m (n+1)).l) rfl rfl (by rw [bW];rfl) (fP (iD _)) (cur:=wCs (cY m n).l) (by focus (repeat (first|assumption|(apply At.ext;assumption)))) (by rw [bW];rfl) (fun w7 c7 a7=>?_)
  repeat (first|refine go ?_|refine zg λ_ _=>?_|refine zi λ_ _=>?_)
  exact ⟨n+1,⟨rfl,rfl,rfl,congrArg (Value.int .i64) (by omega),trivial⟩,⟨(Ext.chg (w:=w) (by exact fx) c7).mono (by intro y hy;simp at hy;right;omega),SlE.chg c7 (SlE.ext (w:=w4) (by exact fx) hv4) (fun a m c e hm=>by have:=hvb a.block (by rw [e];simp [aH]);simp at hm;omega),by omega,a7⟩,by omega⟩
 ·refine zI rfl (fun b w9 x9 a9 hb9=>?_)
  refine vG (l:= [UInt8.ofNat (wAt (cY m n).l j>>>24).toNat,UInt8.ofNat (wAt (cY m n).l j>>>16).toNat,UInt8.ofNat (wAt (cY m n).l j>>>8).toNat,UInt8.ofNat (wAt (cY m n).l j).toNat]) rfl (SlE.new (E:=u8E) a9 rfl (Nat.le_refl _)) ?_
  rw [be4]
  refine kA rfl rfl (by rw [gN,List.length_reverse,bV];omega) ?_
  repeat (first|refine go ?_|refine zg λ_ _=>?_|refine zi λ_ _=>?_)
  refine ⟨j+1,⟨rfl,congrArg Value.string ?_,rfl,trivial⟩,⟨by exact fx,by omega⟩,by omega⟩
  have hjl:j<(cY m n).l.length:=by rw [l8];omega
  have e:wAt (cY m n).l j=(cY m n).l[j]:=by unfold wAt;rw [List.getD_eq_getElem?_getD,List.getElem?_eq_getElem hjl];rfl
  rw [fA _ hjl,←e]
 ·have hn2:n=N:=by omega
  subst hn2
  refine aB rfl ⟨congrArg Value.string ?_,by exact fx⟩
  rw [tLe (by rw [l8];omega),aFs,hm,hN,Nat.mul_div_cancel_left _ (by decide),aNa]
theorem aMq (s:ByteArray) (hs:s.size≤4000000) (w:World):K.Spec Tryz.prog F.kedgeref04_Twice [.string s] w fun r w'=>r=.string (cV s)∧Ext w w':=by
 refine xC rfl ?_
 unfold lX
 refine oy ?_
 repeat' (first|refine go1 ?_|refine zg λ_ _=>?_|refine zi λ_ _=>?_|(refine zC rfl (aIq s hs _) ?_;rintro _ w1 ⟨rfl,x1⟩)|(refine zC rfl (aIq (aFs s) (by rw [aHb];decide) _) ?_;rintro _ w2 ⟨rfl,x2⟩))
 exact aB rfl ⟨by rw [cV];rfl,by exact fx⟩
theorem aWv {M:List Nat} {cs:List Value} {t:Tx} (w:World) (ht:txR.rel M w cs t) (hs:t.Sz):K.Spec Tryz.prog F.kedgeref06_Bytes [.agg cs.toArray,.bool true] w fun r w'=>r=.string (bH false t)∧Ext w w':=aNc true w ht hs
theorem aVf {M:List Nat} {cs:List Value} {t:Tx} (w:World) (ht:txR.rel M w cs t) (hs:t.Sz):K.Spec Tryz.prog F.kedgeref07_ID [.agg cs.toArray] w fun r w'=>r=.string (idT t)∧Ext w w':=by
 have ht0:=ht
 obtain ⟨iv,ov,rfl,hi,ho,hv,hl⟩:=ht
 refine aDn rfl ?_
 unfold rK
 refine oy ?_
 repeat' (first|refine go1 ?_|refine zg λ_ _=>?_|refine zi λ_ _=>?_|(first|refine zD rfl rfl (fun bp wp xp ap rp hp0=>?_)|refine zE (fun _=>rfl) rfl rfl rfl (fun bq wq xq aq rq hq0=>?_))|(refine zC rfl (aWv (M:=M) _ (cs:=aT t iv ov) (by exact fx) hs) ?_;rintro _ w1 ⟨rfl,x1⟩)|(refine zC rfl (aMq (bH false t) (by have:=hs.all false;omega) _) ?_;rintro _ w2 ⟨rfl,x2⟩))
 exact aB rfl ⟨by rw [idT];rfl,by exact fx⟩
end
section
open Go Go.K
attribute [local irreducible] aG aK aU KOp.wp K.Spec u32 leS vnS str aN cV bH idT
def idV (t:Tx):Value:=if aJ t=0 then .tuple #[.string (idT t),.int .i64 0] else .tuple #[.string ⟨#[]⟩,.int .i64 (aJ t)]
theorem aP1 {M:List Nat} {cs:List Value} {t:Tx} (w:World) (ht:txR.rel M w cs t) (hs:t.Sm):K.Spec Tryz.prog F.ident_ID [.agg cs.toArray] w fun r w'=>r=idV t∧Ext w w':=by
 have ht0:=ht
 obtain ⟨iv,ov,rfl,hi,ho,hv,hl⟩:=ht
 by_cases hc:aJ t=0
 ·have hz:=mZ hs hc
  rw [idV,if_pos hc]
  refine aE5 rfl ?_
  unfold wT
  refine oy ?_
  repeat' (first|refine go1 ?_|refine zg λ_ _=>?_|refine zi λ_ _=>?_|(first|refine zD rfl rfl (fun bp wp xp ap rp hp0=>?_)|refine zE (fun _=>rfl) rfl rfl rfl (fun bq wq xq aq rq hq0=>?_))|refine zN rfl (fun h=>?_) (fun h=>?_)|(refine zC rfl (aIm (M:=M) _ (cs:=aT t iv ov) (by exact fx) hs) ?_;rintro _ w1 ⟨rfl,x1⟩;rw [aK8,if_pos hc])|(refine zC rfl (aN2 (bH false t) (by have:=hz.all false;omega) _) ?_;rintro _ w2 ⟨rfl,x2⟩))
  all_goals first
   |exact aB rfl ⟨by rw [idT];rfl,by exact fx⟩
   |exact absurd rfl (by assumption)
 ·rw [idV,if_neg hc]
  refine aE5 rfl ?_
  unfold wT
  refine oy ?_
  repeat' (first|refine go1 ?_|refine zg λ_ _=>?_|refine zi λ_ _=>?_|(first|refine zD rfl rfl (fun bp wp xp ap rp hp0=>?_)|refine zE (fun _=>rfl) rfl rfl rfl (fun bq wq xq aq rq hq0=>?_))|refine zN rfl (fun h=>?_) (fun h=>?_)|(refine zC rfl (aIm (M:=M) _ (cs:=aT t iv ov) (by exact fx) hs) ?_;rintro _ w1 ⟨rfl,x1⟩;rw [aK8,if_neg hc]))
  all_goals first
   |exact aB rfl ⟨rfl,by exact fx⟩
   |exact absurd (by assumption) hc
theorem aMd {M:List Nat} {v:Value} {l:List ByteArray} (w:World) (hs:SlR qS M w v l) (hn:l.length≤100000000) (hM:∀b∈M,b<w.heap.size):K.Spec Tryz.prog F.slices_Clone_L_string_string [v] w fun r w'=>bD qS T.string w.heap.size M w' r l∧Ext w w':=by
 have hs0:=hs
 obtain ⟨base,cap,rfl⟩:=hs.form
 cases base with
 |none=>
  have hl:=hs.nil_of
  subst hl
  refine fB rfl ?_
  unfold dC
  refine oy ?_
  repeat (first|refine go ?_|refine zg λ_ _=>?_|refine zi λ_ _=>?_)
  exact aB rfl ⟨bD.nil _ _ _ _,Ext.refl _⟩
 |some a=>
  refine fB rfl ?_
  unfold dC
  refine oy ?_
  repeat (first|refine go ?_|refine zg λ_ _=>?_|refine zi λ_ _=>?_)
  refine zI (cs:= []) rfl (fun b w1 x1 a1 hb=>?_)
  repeat (first|refine go ?_|refine zg λ_ _=>?_|refine zi λ_ _=>?_)
  obtain ⟨css,h1,h2,_⟩:=hs0
  have hown:bD qS T.string w.heap.size M w1 (.slice (some ⟨b,0,none⟩) 0 0) []:=bD.empty hb a1
  have hall:(qS).all (aH (.slice (some ⟨b,0,none⟩) 0 0)++M) w1 css l:=h2.mono fun _ _ hr=>(qS).step hr x1 (by simp) (fun c hc=>by
   rcases List.mem_append.1 hc with h|h
   ·simp [aH] at h;right;omega
   ·exact .inl h)
  refine wL (E:=qS) (M:=M) (v:=.slice (some ⟨b,0,none⟩) 0 0) rfl hown x1.size rfl rfl (h1.ext x1).cells rfl hall h2.length (by simp;omega) (fun v2 w2 ho2 c2 hb2=>?_)
  repeat (first|refine go ?_|refine zg λ_ _=>?_|refine zi λ_ _=>?_)
  exact aB rfl ⟨ho2,(Ext.chg x1 c2).mono (by intro y hy;simp [aH] at hy;subst hy;exact .inr hb)⟩
theorem aL6 {M:List Nat} {v:Value} {l:List TIn} (w:World) (hs:SlR inR M w v l) (hn:l.length≤100000000) (hM:∀b∈M,b<w.heap.size):K.Spec Tryz.prog F.slices_Clone_L_api_In_api_In [v] w fun r w'=>bD inR T.api_In w.heap.size M w' r l∧Ext w w':=by
 have hs0:=hs
 obtain ⟨base,cap,rfl⟩:=hs.form
 cases base with
 |none=>
  have hl:=hs.nil_of
  subst hl
  refine eY rfl ?_
  unfold dF
  refine oy ?_
  repeat (first|refine go ?_|refine zg λ_ _=>?_|refine zi λ_ _=>?_)
  exact aB rfl ⟨bD.nil _ _ _ _,Ext.refl _⟩
 |some a=>
  refine eY rfl ?_
  unfold dF
  refine oy ?_
  repeat (first|refine go ?_|refine zg λ_ _=>?_|refine zi λ_ _=>?_)
  refine zI (cs:= []) rfl (fun b w1 x1 a1 hb=>?_)
  repeat (first|refine go ?_|refine zg λ_ _=>?_|refine zi λ_ _=>?_)
  obtain ⟨css,h1,h2,_⟩:=hs0
  have hown:bD inR T.api_In w.heap.size M w1 (.slice (some ⟨b,0,none⟩) 0 0) []:=bD.empty hb a1
  have hall:(inR).all (aH (.slice (some ⟨b,0,none⟩) 0 0)++M) w1 css l:=h2.mono fun _ _ hr=>(inR).step hr x1 (by simp) (fun c hc=>by
   rcases List.mem_append.1 hc with h|h
   ·simp [aH] at h;right;omega
   ·exact .inl h)
  refine wL (E:=inR) (M:=M) (v:=.slice (some ⟨b,0,none⟩) 0 0) rfl hown x1.size rfl rfl (h1.ext x1).cells rfl hall h2.length (by simp;omega) (fun v2 w2 ho2 c2 hb2=>?_)
  repeat (first|refine go ?_|refine zg λ_ _=>?_|refine zi λ_ _=>?_)
  exact aB rfl ⟨ho2,(Ext.chg x1 c2).mono (by intro y hy;simp [aH] at hy;subst hy;exact .inr hb)⟩
theorem aCb {M:List Nat} {v:Value} {l:List TOut} (w:World) (hs:SlR cZ M w v l) (hn:l.length≤100000000) (hM:∀b∈M,b<w.heap.size):K.Spec Tryz.prog F.slices_Clone_L_api_Out_api_Out [v] w fun r w'=>bD cZ T.api_Out w.heap.size M w' r l∧Ext w w':=by
 have hs0:=hs
 obtain ⟨base,cap,rfl⟩:=hs.form
 cases base with
 |none=>
  have hl:=hs.nil_of
  subst hl
  refine eN rfl ?_
  unfold cU
  refine oy ?_
  repeat (first|refine go ?_|refine zg λ_ _=>?_|refine zi λ_ _=>?_)
  exact aB rfl ⟨bD.nil _ _ _ _,Ext.refl _⟩
 |some a=>
  refine eN rfl ?_
  unfold cU
  refine oy ?_
  repeat (first|refine go ?_|refine zg λ_ _=>?_|refine zi λ_ _=>?_)
  refine zI (cs:= []) rfl (fun b w1 x1 a1 hb=>?_)
  repeat (first|refine go ?_|refine zg λ_ _=>?_|refine zi λ_ _=>?_)
  obtain ⟨css,h1,h2,_⟩:=hs0
  have hown:bD cZ T.api_Out w.heap.size M w1 (.slice (some ⟨b,0,none⟩) 0 0) []:=bD.empty hb a1
  have hall:(cZ).all (aH (.slice (some ⟨b,0,none⟩) 0 0)++M) w1 css l:=h2.mono fun _ _ hr=>(cZ).step hr x1 (by simp) (fun c hc=>by
   rcases List.mem_append.1 hc with h|h
   ·simp [aH] at h;right;omega
   ·exact .inl h)
  refine wL (E:=cZ) (M:=M) (v:=.slice (some ⟨b,0,none⟩) 0 0) rfl hown x1.size rfl rfl (h1.ext x1).cells rfl hall h2.length (by simp;omega) (fun v2 w2 ho2 c2 hb2=>?_)
  repeat (first|refine go ?_|refine zg λ_ _=>?_|refine zi λ_ _=>?_)
  exact aB rfl ⟨ho2,(Ext.chg x1 c2).mono (by intro y hy;simp [aH] at hy;subst hy;exact .inr hb)⟩
def txO (B:Nat) (M:List Nat) (w:World) (cs:List Value) (t:Tx):Prop:=∃iv ov,cs=aT t iv ov∧bD inR T.api_In B M w iv t.ins∧bD cZ T.api_Out B M w ov t.outs∧jM t.ver∧jM t.lock
theorem txO.rel {B:Nat} {M:List Nat} {w:World} {cs:List Value} {t:Tx} (h:txO B M w cs t) (hM:∀b∈M,b<B):txR.rel M w cs t:=by
 obtain ⟨iv,ov,rfl,h1,h2,h3⟩:=h
 exact ⟨iv,ov,rfl,h1.slB hM,h2.slB hM,h3⟩
theorem aDv {L M:List Nat} {w:World} (h:∀b∈L,w.heap.size≤b):∀b∈L++M,b∈M∨w.heap.size≤b:=fun b hb=>by
 rcases List.mem_append.1 hb with h1|h1
 ·exact .inr (h b h1)
 ·exact .inl h1
set_option maxHeartbeats 2000000 in
theorem aL8 {M:List Nat} {cs:List Value} {t:Tx} (w:World) (ht:txR.rel M w cs t) (hs:t.Sm) (hM:∀b∈M,b<w.heap.size):K.Spec Tryz.prog F.tx_Copy [.agg cs.toArray] w fun r w'=>∃cs',r=.agg cs'.toArray∧txO w.heap.size M w' cs' t∧Ext w w':=by
 have ht0:=ht
 obtain ⟨iv,ov,rfl,hi,ho,hv,hl⟩:=ht
 have hs1:=hs.ins
 have hs2:=hs.outs
 refine aSn rfl ?_
 unfold aHt
 refine oy ?_
 repeat' (first|refine go1 ?_|refine zg λ_ _=>?_|refine zi λ_ _=>?_|(first|refine zD rfl rfl (fun bp wp xp ap rp hp0=>?_)|refine zE (fun _=>rfl) rfl rfl rfl (fun bq wq xq aq rq hq0=>?_)))
 refine zH (fun b2 w2 x2 a2 hb2=>?_)
 have lp:=ap.lt
 have l2:=a2.lt
 have sp:=xp.size
 have s2:=x2.size
 have xw:Unit→Ext w w2:=fun _=>xp.trans x2
 obtain ⟨M1,hM1⟩:∃M1,M1= [b2,bp]++M:=⟨_,rfl⟩
 have hmem:∀b∈M1,b∈M∨w.heap.size≤b:=by
  rw [hM1];exact aDv (fun y hy=>by simp at hy;omega)
 have hi1:SlR inR M1 w2 iv t.ins:=hi.step (xw ()) (by simp) hmem
 have ho1:SlR cZ M1 w2 ov t.outs:=ho.step (xw ()) (by simp) hmem
 have hM1b:∀b∈M1,b<w2.heap.size:=by
  intro y hy;rw [hM1] at hy;simp at hy
  rcases hy with h|h|h
  ·omega
  ·omega
  ·have:=hM y h;omega
 have mb:bp∈M1:=by rw [hM1];simp
 have m2:b2∈M1:=by rw [hM1];simp
 have mM:∀b∈M,b∈M1:=by intro y hy;rw [hM1];simp [hy]
 repeat' (first|refine go1 ?_|refine zg λ_ _=>?_|refine zi λ_ _=>?_|refine zB ?_ ?_|(refine zC rfl (aL6 (M:=M1) (l:=t.ins) _ (by exact fx) (by omega) (fun b hb=>nLt (hM1b b hb) (Ext.size (by exact fx)))) ?_;rintro v1 w3 ⟨hv1,x3⟩;have l1:=hv1.lt;have hv1:=hv1.lower (B':=w2.heap.size) (by first|exact Nat.le_refl _|(apply Ext.size;assumption));have g1:=hv1.base;have x23:Ext w2 w3:=(by exact fx))|refine zC rfl (aCb (M:=aH v1++M1) (l:=t.outs) _ (ho1.step x23 (by simp) (aDv g1)) (by omega) (fun b hb=>?_)) ?_|(rcases List.mem_append.1 hb with h|h;exact l1 b h;exact nLt (hM1b b h) (Ext.size (by exact fx)))|(rintro v2 w4 ⟨hv2,x4⟩;have g2:=hv2.base;have x24:Ext w2 w4:=(by exact fx);have hv1:=hv1.ext x4;have ap:=At.ext x24 (At.ext x2 ap);have a2:=At.ext x24 a2;have s24:=x24.size))
 trace_state
 all_goals
  have hbp:bp∉aH v1:=fun h=>by have:=g1 _ h;omega
  have hb2':b2∉aH v1:=fun h=>by have:=g1 _ h;omega
  have s23:=x23.size
  have hbp2:bp∉aH v2:=fun h=>by have:=g2 _ h;omega
  have hb22:b2∉aH v2:=fun h=>by have:=g2 _ h;omega
  have h12:∀b∈aH v1,b∉aH v2:=fun b h h'=>by have:=g2 _ h';have:=l1 _ h;omega
  refine bB (b:=bp) (o:=1) (cur:=aT t iv ov) rfl rfl hv1.one ap (Nat.le_of_ble_eq_true rfl) (fun w5 c5 a5=>?_)
  repeat (first|refine go ?_|refine zg λ_ _=>?_|refine zi λ_ _=>?_)
  refine bB (b:=bp) (o:=2) (cur:=aT t v1 ov) rfl rfl hv2.one a5 (Nat.le_of_ble_eq_true rfl) (fun w6 c6 a6=>?_)
  have c56:Chg [bp] w4 w6:=(c5.trans c6).mono (by simp)
  have hv1:=hv1.step (M':=M1) c56 (by intro y hy;simp at hy;subst hy;exact ⟨hbp,.inl mb⟩) (fun _ h=>.inl h)
  have hv2:=hv2.step (M':=aH v1++M1) c56 (by intro y hy;simp at hy;subst hy;exact ⟨hbp2,.inl (by simp [mb])⟩) (fun _ h=>.inl h)
  have a6:At w6 bp (.cells (aT t v1 v2).toArray T.api_Tx (0,0)):=a6
  have a2:=At.chg c56 a2 (by simp;omega)
  have x26:Ext w w6:=(Ext.chg ((xw ()).trans x24) c56).mono (by intro y hy;simp at hy;right;omega)
  have l1':=hv1.lt
  have r6:Row w6 ⟨bp,0,none⟩ (aT t v1 v2):=Row.of_at a6
  clear c5 c6 c56 a5 ap x3 x4
  repeat' (first|refine go1 ?_|refine zg λ_ _=>?_|refine zi λ_ _=>?_|refine zB ?_ ?_|refine zL rfl (fun h=>?_) (fun h=>?_)|refine zG (l:=t.ins) rfl (hv1.slB (B:=w2.heap.size) hM1b) ?_|(refine aL (fun (k:Nat) w'=>Ext w w'∧k≤t.ins.length∧w6.heap.size≤w'.heap.size∧At w' bp (.cells (aT t v1 v2).toArray T.api_Tx (0,0))∧At w' b2 (.cells [Value.int .u32 0,.slice none 0 0,.slice none 0 0,.int .u32 0].toArray T.api_Tx (0,0))∧bD inR T.api_In w2.heap.size M1 w' v1 t.ins∧bD cZ T.api_Out w3.heap.size (aH v1++M1) w' v2 t.outs) (fun k=> [(1,.pointer (some ⟨bp,0,none⟩)),(2,.pointer (some ⟨b2,0,none⟩)),(13,v1),(14,.int .i64 (t.ins.length:Nat)),(15,.int .i64 k)]) (fun k=>t.ins.length - k) 0 ⟨rfl,rfl,rfl,rfl,rfl,trivial⟩ ⟨x26,Nat.zero_le _,Nat.le_refl _,a6,a2,hv1,hv2⟩ ?_;rintro k ρ w7 ⟨x7,hk,s7,a7,q2,o1,o2⟩;have r7:Row w7 ⟨bp,0,none⟩ (aT t v1 v2):=Row.of_at a7))
  ·have hki:k<t.ins.length:=by omega
   have hwl:=hs.wit _ (gMe hki)
   obtain ⟨b1,cap,css,junk,rfl,hB,hat,hc,hln,hall,hsl⟩:=o1.open (by omega)
   obtain ⟨wv,hcs,hw,hp5,hp6⟩:=hall.get k (by omega) hki
   have hb1:b1<w7.heap.size:=hat.lt
   have hMb:∀b∈b1::M1,b<w7.heap.size:=fun b hb=>by
    rcases List.mem_cons.1 hb with h|h
    ·omega
    ·have:=hM1b b h;omega
   refine aQ (d:=some 24) (E:=fY inR.k inR.pos) (l:=css) (n:=k) rfl rfl (by exact fx) rfl (by omega) (fun ad r8=>?_)
   have r8:Row _ ad css[k].1:=r8
   rw [hcs] at r8
   repeat' (first|refine go1 ?_|refine zg λ_ _=>?_|refine zi λ_ _=>?_|refine zB ?_ ?_|(refine zC rfl (aMd (M:=b1::M1) (l:=t.ins[k].wit) _ (hw.ext (by exact fx)) (by omega) (fun b hb=>nLt (hMb b hb) (Ext.size (by exact fx)))) ?_;rintro v3 w9 ⟨hv3,x9⟩;have hv3:=hv3.lower (B':=w7.heap.size) (Ext.size (by exact fx));have s9:=Ext.size (w:=w7) (w':=w9) (by exact fx))|refine aMz (d:=some 28) rfl rfl (by omega) ?_)
   all_goals
    have hx79:Ext w7 w9:=by exact fx
    refine aRw (E:=inR) (M:=M1) (B:=w2.heap.size) (l:=t.ins) (i:=k) (o:=3) (a:=t.ins[k]) (css:=css) (junk:=junk) (cap:=cap) rfl rfl hv3.one hB (hat.ext hx79) hc hln (aWo hall hx79) hki (by decide) (fun w10 c10=>?_) (fun w10 c10 o10=>?_)
    ·refine ⟨v3,by rw [hcs];rfl,?_,hp5,hp6⟩
     exact (hv3.slB hMb).step c10 (by intro y hy;simp at hy;subst hy;simp) (fun b hb=>.inl hb)
    ·have hbb:b1≠bp:=fun e=>hbp (by rw [←e];simp [aH])
     have hbb2:b1≠b2:=fun e=>hb2' (by rw [←e];simp [aH])
     have hbv:b1∉aH v2:=h12 b1 (by simp [aH])
     have a7':=At.chg c10 (a7.ext hx79) (by simp;omega)
     have q2':=At.chg c10 (q2.ext hx79) (by simp;omega)
     have hs10:=c10.size
     have hwb:w.heap.size≤b1:=by omega
     have o2':=(o2.ext hx79).step c10 (M':=aH (.slice (some ⟨b1,0,none⟩) t.ins.length cap)++M1) (by intro y hy;simp at hy;subst hy;exact ⟨hbv,.inl (by simp [aH])⟩) (fun _ h=>.inl h)
     have x10:Ext w w10:=((x7.trans hx79).chg c10).mono (by intro y hy;simp at hy;right;omega)
     rw [List.set_getElem_self] at o10
     clear hx79
     repeat (first|refine go1 ?_|refine zg λ_ _=>?_|refine zi λ_ _=>?_)
     exact ⟨k+1,⟨rfl,rfl,rfl,rfl,rfl,trivial⟩,⟨x10,by omega,by omega,a7',q2',o10,o2'⟩,by omega⟩
  ·refine bA (w0:=w) (vs:=aT t v1 v2) x7 (by omega) q2 rfl rfl rfl rfl ?_ (fun w11 x11 c11 a11 r11=>?_)
   ·have e1:=hv1.one
    have e2:=hv2.one
    simp [aT,e1,e2];exact ⟨rfl,rfl⟩
   repeat (first|refine go1 ?_|refine zg λ_ _=>?_|refine zi λ_ _=>?_)
   have p1:=(o1.step (M':=M1) c11 (by intro y hy;simp at hy;subst hy;exact ⟨hb2',.inl m2⟩) (fun _ h=>.inl h)).sub (M':=M) (fun b hb=>.inl (mM b hb))
   have p2:=(o2.step (M':=M1) c11 (by intro y hy;simp at hy;subst hy;exact ⟨hb22,.inl (by simp [m2])⟩) (fun _ h=>.inl (by simp [h]))).sub (M':=M) (fun b hb=>.inl (mM b hb))
   exact aB (aFx (bK r11 rfl rfl)) ⟨_,rfl,⟨v1,v2,rfl,p1.lower (by omega),p2.lower (by omega),hv,hl⟩,x11⟩
end
section
open Go Go.K
attribute [local irreducible] aG aK aU KOp.wp K.Spec u32 leS vnS str aN cV bH idT aV aJ aO
end
section
open Go Go.K
section
variable {P:Program} {d:Option Tmp} {r:KR} {K:Env→World→Prop} {ρ:Env} {w:World}
end
attribute [local irreducible] aG aK aU KOp.wp K.Spec u32 leS vnS str aN cV bH idT aV aJ aO
section
variable {base:Nat→Bool} {edge:Nat→Nat→Bool} {n r i:Nat} {m:List Bool}
end
end
end Go.Proofs.YtgloknkcfchnlabGreatDoor
namespace Go.K
section
open Go
variable {P:Program}
section
variable {κ β:Type} [DecidableEq κ] {KE:KEnc κ} {F:R β} {M:List Nat} {w:World} {d:Option Tmp} {r:KR} {K:Env→World→Prop} {ρ:Env}
theorem aAe.new {b:Nat} (h:dW KE id w b ([]:List (κ × Value))):aAe KE F M w b []:=⟨[],h,.nil⟩
end
end
end Go.K
