/- Contracts: digests by the reference; ids and sizes of transa -/
import Derived.Test.YtgloknkcfchnlaaGreatDoorZ20
import Derived.Test.YtgloknkcfchnlaaGreatDoorZ21
set_option linter.unusedVariables false
set_option linter.unusedSimpArgs false
namespace Go.Proofs.YtgloknkcfchnlaaGreatDoor
section
open Go Go.K
attribute [local irreducible] aD aK aV KOp.wp K.Spec u32 leS vnS str aN fE wCs iY iP iF eC jJ fS cU oQ wW addN shN aMb cS leL aE5 cR bI
section
variable {P:Program} {d:Option Tmp} {r:KR} {K:Env→World→Prop} {ρ:Env} {w:World}
end
set_option maxHeartbeats 2000000 in
theorem aHy (s:ByteArray) (hs:s.size≤4000000) (w:World):K.Spec Tryz.prog F.kedgeref04_Sum [.string s] w fun r w'=>r=.string (aE5 s)∧Ext w w':=by
 obtain ⟨N,hN⟩:∃N,(oQ s.data.toList).length=64*N:=⟨_,aJy s⟩
 have hl:=aO6 s
 generalize hm:oQ s.data.toList=m at hN hl
 have hout:∀n j,(cS (fun x:W32=>str (leL x.toNat 4).reverse) ((cU m n).l.take j)).size≤32:=fun n j=>by
  have h1:=lD (fun x:W32=>str (leL x.toNat 4).reverse) 4 ((cU m n).l.take j) fun x _=>by rw [gC,List.length_reverse,bS];exact Nat.le_refl _
  have h2:((cU m n).l.take j).length≤8:=by rw [List.length_take,l8];omega
  omega
 refine aAp rfl ?_
 unfold qA
 refine oy ?_
 repeat' (first|refine bR (cs:=tR.cs) (by kernel_rfl) ?_|(refine jO (ad:=⟨b3,0,none⟩) (l:=(cU m n).l) j rfl (Row.of_at (t:=T.n_8_uint32) (f:=(0,0)) (by focus (repeat (first|assumption|(apply At.ext;assumption))))) (by rw [l8];omega) ?_;have hj8:j<8:=(by omega))|refine dP j rfl rfl (by omega) ?_|refine qT 24 (by decide) rfl rfl ?_|refine qT 16 (by decide) rfl rfl ?_|refine qT 8 (by decide) rfl rfl ?_|refine aW7 rfl ?_|refine go1 ?_|refine zg λ_ _=>?_|refine zi λ_ _=>?_|refine zL rfl (fun h=>?_) (fun h=>?_)|refine zH (fun b3 w1 x1 a1 hb3=>?_)|(refine bW (vs:=tR.cs) rfl rfl rfl (eM (aNz _)) (cur:=ZR 8) a1 rfl (fun w2 c2 a2=>?_);have x2:Ext w w2:=(Ext.chg x1 c2).mono (by intro y hy;simp at hy;right;omega);rw [S8.cs_eq] at a2)|(refine zC rfl (aTc s hs _) ?_;rintro v w3 ⟨hv,x3,hvb⟩;rw [hm] at hv;have l3:=a2.lt)|refine bN rfl (SlE.ext (w:=w4) (by exact fx) hv4) ?_|(refine aM (fun (n:Nat) w'=>Ext w w'∧SlE u8E w' v m∧n≤N∧At w' b3 (.cells (wCs (cU m n).l).toArray T.n_8_uint32 (0,0))) (fun n=> [(2,.string ⟨#[]⟩),(3,.pointer (some ⟨b3,0,none⟩)),(4,v),(5,.int .i64 ((64*n:Nat):Int))]) (fun n=>N - n) 0 ⟨rfl,rfl,rfl,rfl,trivial⟩ ⟨by exact fx,hv,by omega,by rw [aWp];focus (repeat (first|assumption|(apply At.ext;assumption)))⟩ ?_;rintro n ρ w4 ⟨x4,hv4,hn,h3⟩)|(refine aM (fun (j:Nat) w'=>Ext w4 w'∧j≤8) (fun j=> [(3,.pointer (some ⟨b3,0,none⟩)),(6,.string (cS (fun x:W32=>str (leL x.toNat 4).reverse) ((cU m n).l.take j))),(7,.int .i64 j)]) (fun j=>8 - j) 0 ⟨rfl,congrArg Value.string (by rw [List.take_zero,mJ]),rfl,trivial⟩ ⟨Ext.refl _,by omega⟩ ?_;rintro j ρ8 w8 ⟨x8,hj⟩;have hz:=hout n j)|refine lN (n:=8) (l:=wCs (cU m n).l) rfl (Row.of_at (t:=T.n_8_uint32) (f:=(0,0)) (by focus (repeat (first|assumption|(apply At.ext;assumption))))) (by rw [bT];exact Nat.le_refl _) (by rw [tLe];rw [bT];exact Nat.le_refl _) ?_)
 ·have hn2:n<N:=by omega
  refine aQe (lo:=64*n) (hi:=64*n+64) rfl rfl (congrArg (Value.int .i64) (by omega)) (SlE.ext (w:=w4) (by exact fx) hv4) (by omega) (by omega) rfl (fun v5 hv5 _=>?_)
  refine zC rfl (aNi (cU m n) (by rw [List.length_take,List.length_drop];omega) _ hv5) ?_
  rintro _ w6 ⟨rfl,x6⟩
  have e:aIo (cU m n) ((m.drop (64*n)).take (64*n+64 - 64*n))=cU m (n+1):=by
   rw [show 64*n+64 - 64*n=64 by omega,aQ9,aWl,aIo]
  rw [e]
  refine bW (vs:=wCs (cU m (n+1)).l) rfl rfl (by rw [bT];rfl) (eM (hU _)) (cur:=wCs (cU m n).l) (by focus (repeat (first|assumption|(apply At.ext;assumption)))) (by rw [bT];rfl) (fun w7 c7 a7=>?_)
  repeat (first|refine go ?_|refine zg λ_ _=>?_|refine zi λ_ _=>?_)
  exact ⟨n+1,⟨rfl,rfl,rfl,congrArg (Value.int .i64) (by omega),trivial⟩,⟨(Ext.chg (w:=w) (by exact fx) c7).mono (by intro y hy;simp at hy;right;omega),SlE.chg c7 (SlE.ext (w:=w4) (by exact fx) hv4) (fun a m c e hm=>by have:=hvb a.block (by rw [e];simp [aH]);simp at hm;omega),by omega,a7⟩,by omega⟩
 ·refine zI rfl (fun b w9 x9 a9 hb9=>?_)
  refine uY (l:= [UInt8.ofNat (wAt (cU m n).l j>>>24).toNat,UInt8.ofNat (wAt (cU m n).l j>>>16).toNat,UInt8.ofNat (wAt (cU m n).l j>>>8).toNat,UInt8.ofNat (wAt (cU m n).l j).toNat]) rfl (SlE.new (E:=u8E) a9 rfl (Nat.le_refl _)) ?_
  rw [be4]
  refine jY rfl rfl (by rw [gC,List.length_reverse,bS];omega) ?_
  repeat (first|refine go ?_|refine zg λ_ _=>?_|refine zi λ_ _=>?_)
  refine ⟨j+1,⟨rfl,congrArg Value.string ?_,rfl,trivial⟩,⟨by exact fx,by omega⟩,by omega⟩
  have hjl:j<(cU m n).l.length:=by rw [l8];omega
  have e:wAt (cU m n).l j=(cU m n).l[j]:=by unfold wAt;rw [List.getD_eq_getElem?_getD,List.getElem?_eq_getElem hjl];rfl
  rw [eO _ hjl,←e]
 ·have hn2:n=N:=by omega
  subst hn2
  refine aB rfl ⟨congrArg Value.string ?_,by exact fx⟩
  rw [tLe (by rw [l8];omega),aE5,hm,hN,Nat.mul_div_cancel_left _ (by decide),aMb]
theorem aLs (s:ByteArray) (hs:s.size≤4000000) (w:World):K.Spec Tryz.prog F.kedgeref04_Twice [.string s] w fun r w'=>r=.string (cR s)∧Ext w w':=by
 refine wT rfl ?_
 unfold lQ
 refine oy ?_
 repeat' (first|refine go1 ?_|refine zg λ_ _=>?_|refine zi λ_ _=>?_|(refine zC rfl (aHy s hs _) ?_;rintro _ w1 ⟨rfl,x1⟩)|(refine zC rfl (aHy (aE5 s) (by rw [aGj];decide) _) ?_;rintro _ w2 ⟨rfl,x2⟩))
 exact aB rfl ⟨by rw [cR];rfl,by exact fx⟩
theorem aVs {M:List Nat} {cs:List Value} {t:Tx} (w:World) (ht:txR.rel M w cs t) (hs:t.Sz):K.Spec Tryz.prog F.kedgeref06_Bytes [.agg cs.toArray,.bool true] w fun r w'=>r=.string (bI false t)∧Ext w w':=aMg true w ht hs
theorem aUf {M:List Nat} {cs:List Value} {t:Tx} (w:World) (ht:txR.rel M w cs t) (hs:t.Sz):K.Spec Tryz.prog F.kedgeref07_ID [.agg cs.toArray] w fun r w'=>r=.string (idT t)∧Ext w w':=by
 have ht0:=ht
 obtain ⟨iv,ov,rfl,hi,ho,hv,hl⟩:=ht
 refine aC1 rfl ?_
 unfold rG
 refine oy ?_
 repeat' (first|refine go1 ?_|refine zg λ_ _=>?_|refine zi λ_ _=>?_|(first|refine zD rfl rfl (fun bp wp xp ap rp hp0=>?_)|refine zE (fun _=>rfl) rfl rfl rfl (fun bq wq xq aq rq hq0=>?_))|(refine zC rfl (aVs (M:=M) _ (cs:=aZ t iv ov) (by exact fx) hs) ?_;rintro _ w1 ⟨rfl,x1⟩)|(refine zC rfl (aLs (bI false t) (by have:=hs.all false;omega) _) ?_;rintro _ w2 ⟨rfl,x2⟩))
 exact aB rfl ⟨by rw [idT];rfl,by exact fx⟩
end
section
open Go Go.K
attribute [local irreducible] aD aK aV KOp.wp K.Spec u32 leS vnS str aN cR bI idT
def idV (t:Tx):Value:=if aI t=0 then .tuple #[.string (idT t),.int .i64 0] else .tuple #[.string ⟨#[]⟩,.int .i64 (aI t)]
theorem aU4 {M:List Nat} {cs:List Value} {t:Tx} (w:World) (ht:txR.rel M w cs t) (hs:t.Sm):K.Spec Tryz.prog F.ident_ID [.agg cs.toArray] w fun r w'=>r=idV t∧Ext w w':=by
 have ht0:=ht
 obtain ⟨iv,ov,rfl,hi,ho,hv,hl⟩:=ht
 by_cases hc:aI t=0
 ·have hz:=mQ hs hc
  rw [idV,if_pos hc]
  refine aEj rfl ?_
  unfold wO
  refine oy ?_
  repeat' (first|refine go1 ?_|refine zg λ_ _=>?_|refine zi λ_ _=>?_|(first|refine zD rfl rfl (fun bp wp xp ap rp hp0=>?_)|refine zE (fun _=>rfl) rfl rfl rfl (fun bq wq xq aq rq hq0=>?_))|refine zN rfl (fun h=>?_) (fun h=>?_)|(refine zC rfl (aHv (M:=M) _ (cs:=aZ t iv ov) (by exact fx) hs) ?_;rintro _ w1 ⟨rfl,x1⟩;rw [aKf,if_pos hc])|(refine zC rfl (aM5 (bI false t) (by have:=hz.all false;omega) _) ?_;rintro _ w2 ⟨rfl,x2⟩))
  all_goals first
   |exact aB rfl ⟨by rw [idT];rfl,by exact fx⟩
   |exact absurd rfl (by assumption)
 ·rw [idV,if_neg hc]
  refine aEj rfl ?_
  unfold wO
  refine oy ?_
  repeat' (first|refine go1 ?_|refine zg λ_ _=>?_|refine zi λ_ _=>?_|(first|refine zD rfl rfl (fun bp wp xp ap rp hp0=>?_)|refine zE (fun _=>rfl) rfl rfl rfl (fun bq wq xq aq rq hq0=>?_))|refine zN rfl (fun h=>?_) (fun h=>?_)|(refine zC rfl (aHv (M:=M) _ (cs:=aZ t iv ov) (by exact fx) hs) ?_;rintro _ w1 ⟨rfl,x1⟩;rw [aKf,if_neg hc]))
  all_goals first
   |exact aB rfl ⟨rfl,by exact fx⟩
   |exact absurd (by assumption) hc
theorem aJr {M:List Nat} {v:Value} {l:List TOut} (w:World) (hs:SlR fT M w v l) (hn:l.length≤100000000) (hM:∀b∈M,b<w.heap.size):K.Spec Tryz.prog F.slices_Clone_L_api_Out_api_Out [v] w fun r w'=>bH fT T.api_Out w.heap.size M w' r l∧Ext w w':=by
 have hs0:=hs
 obtain ⟨base,cap,rfl⟩:=hs.form
 cases base with
 |none=>
  have hl:=hs.nil_of
  subst hl
  refine eD rfl ?_
  unfold cQ
  refine oy ?_
  repeat (first|refine go ?_|refine zg λ_ _=>?_|refine zi λ_ _=>?_)
  exact aB rfl ⟨bH.nil _ _ _ _,Ext.refl _⟩
 |some a=>
  refine eD rfl ?_
  unfold cQ
  refine oy ?_
  repeat (first|refine go ?_|refine zg λ_ _=>?_|refine zi λ_ _=>?_)
  refine zI (cs:= []) rfl (fun b w1 x1 a1 hb=>?_)
  repeat (first|refine go ?_|refine zg λ_ _=>?_|refine zi λ_ _=>?_)
  obtain ⟨css,h1,h2,_⟩:=hs0
  have hown:bH fT T.api_Out w.heap.size M w1 (.slice (some ⟨b,0,none⟩) 0 0) []:=bH.empty hb a1
  have hall:(fT).all (aH (.slice (some ⟨b,0,none⟩) 0 0)++M) w1 css l:=h2.mono fun _ _ hr=>(fT).step hr x1 (by simp) (fun c hc=>by
   rcases List.mem_append.1 hc with h|h
   ·simp [aH] at h;right;omega
   ·exact .inl h)
  refine aM8 (E:=fT) (M:=M) (v:=.slice (some ⟨b,0,none⟩) 0 0) rfl hown x1.size rfl rfl (h1.ext x1).cells rfl hall h2.length (by simp;omega) (fun v2 w2 ho2 c2 hb2=>?_)
  repeat (first|refine go ?_|refine zg λ_ _=>?_|refine zi λ_ _=>?_)
  exact aB rfl ⟨ho2,(Ext.chg x1 c2).mono (by intro y hy;simp [aH] at hy;subst hy;exact .inr hb)⟩
def txO (B:Nat) (M:List Nat) (w:World) (cs:List Value) (t:Tx):Prop:=∃iv ov,cs=aZ t iv ov∧bH inR T.api_In B M w iv t.ins∧bH fT T.api_Out B M w ov t.outs∧iA t.ver∧iA t.lock
theorem txO.rel {B:Nat} {M:List Nat} {w:World} {cs:List Value} {t:Tx} (h:txO B M w cs t) (hM:∀b∈M,b<B):txR.rel M w cs t:=by
 obtain ⟨iv,ov,rfl,h1,h2,h3⟩:=h
 exact ⟨iv,ov,rfl,h1.slB hM,h2.slB hM,h3⟩
theorem aO4 {L M:List Nat} {w:World} (h:∀b∈L,w.heap.size≤b):∀b∈L++M,b∈M∨w.heap.size≤b:=fun b hb=>by
 rcases List.mem_append.1 hb with h1|h1
 ·exact .inr (h b h1)
 ·exact .inl h1
end
section
open Go Go.K
attribute [local irreducible] aD aK aV KOp.wp K.Spec u32 leS vnS str aN cR bI idT aY aI aO
end
section
open Go Go.K
section
variable {P:Program} {d:Option Tmp} {r:KR} {K:Env→World→Prop} {ρ:Env} {w:World}
end
attribute [local irreducible] aD aK aV KOp.wp K.Spec u32 leS vnS str aN cR bI idT aY aI aO
section
variable {base:Nat→Bool} {edge:Nat→Nat→Bool} {n r i:Nat} {m:List Bool}
end
end
end Go.Proofs.YtgloknkcfchnlaaGreatDoor
