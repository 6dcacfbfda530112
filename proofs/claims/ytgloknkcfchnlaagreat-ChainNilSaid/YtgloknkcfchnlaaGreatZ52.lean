/- Plain: chains of empty blocks. The law ChainNil. -/
import Derived.Test.YtgloknkcfchnlaaGreatZ36
import Derived.Test.YtgloknkcfchnlaaGreatZ42
set_option linter.unusedVariables false
set_option linter.unusedSimpArgs false
namespace Go.K
section
open Go Go.Proofs.YtgloknkcfchnlaaGreat
def eC (k n:Nat):Ch:=⟨List.replicate k [],n⟩
theorem aCb (k n:Nat):(eC k n).bs.length=k:=List.length_replicate
theorem bLv (k n:Nat):(eC k n).top=n:=rfl
theorem bOg:eC 0 0=⟨[],0⟩:=rfl
theorem bE5 (l:List En) (h:Int):(bI l [] h).1=l:=by
 unfold bI
 split<;>rfl
theorem bO8 (k n j:Nat):(eC k n).bs.getD j []= []:=by
 rw [List.getD_eq_getElem?_getD]
 show ((List.replicate k ([]:List Tx))[j]?).getD []= []
 rw [List.getElem?_replicate]
 split<;>rfl
theorem aJ2 (k n:Nat):∀j,cM (eC k n).bs j= []
 |0=>rfl
 |j+1=>by
  unfold cM
  rw [aJ2 k n j,bO8,bE5]
theorem bGp {k:Nat} (hk:k<1000000):(kM (eC k k) []).1=0:=by
 unfold kM aZ
 rw [aJ2,aCb]
 unfold bI
 rw [if_neg (by omega)];rfl
theorem bN3 {k:Nat} (hk:k<1000000):cS (eC k k) []=eC (k+1) (k+1):=by
 unfold cS
 rw [if_neg (by rw [bGp hk];decide),aCb]
 show Ch.mk (List.replicate k []++ [[]]) (max k (k+1))=Ch.mk (List.replicate (k+1) []) (k+1)
 rw [List.replicate_succ']
 congr 1;omega
theorem bNf {m n:Nat} (h0:0<m) (h1:¬m+6≤n):fN (eC m n)=0∧eW (eC m n)=eC (m - 1) n:=by
 have e0:fN (eC m n)=0:=by
  unfold fN
  rw [aCb,if_neg (by omega),if_neg (show ¬m+6≤(eC m n).top from h1)]
 refine ⟨e0,?_⟩
 unfold eW
 rw [if_neg (by simp [e0]),aCb]
 show Ch.mk ((List.replicate m []).take (m - 1)) n=Ch.mk (List.replicate (m - 1) []) n
 rw [List.take_replicate]
 congr 2;omega
theorem bGe (n:Nat):fN (eC 0 n)=8∧eW (eC 0 n)=eC 0 n:=⟨rfl,rfl⟩
theorem bOd {m n:Nat} (h0:0<m) (h1:m+6≤n):fN (eC m n)=18∧eW (eC m n)=eC m n:=by
 have e0:fN (eC m n)=18:=by
  unfold fN
  rw [aCb,if_neg (by omega),if_pos (show m+6≤(eC m n).top from h1)]
 refine ⟨e0,?_⟩
 unfold eW
 rw [if_pos (by simp [e0])]
end
end Go.K
namespace Go.Proofs.YtgloknkcfchnlaaGreat
section
open Go Go.K
attribute [local irreducible] aF aP bG KOp.wp K.Spec u32 leS vnS str aR aE bI bS idT aO bsW eC
theorem bQv {k:Nat} (h:k<255):IntKind.u8.wrap (((k:Nat):Int)+1)=((k+1:Nat):Int):=by show (((k:Nat):Int)+1)%256=_;omega
theorem bMm (n:UInt8):IntKind.i64.wrap ((n.toNat:Nat):Int)=(n.toNat:Nat):=IntWalk.i64_in _ (by have:=n.toNat_lt;omega)
set_option maxHeartbeats 4000000 in
theorem aWy (p:Pt) (n:UInt8) (w:World):K.Spec Tryz.prog F.kedgelaw13_ChainNil [p.val,u8V n] w fun r w'=>r=.bool true∧Ext w w':=by
 have hn:=n.toNat_lt
 refine aC3 rfl ?_
 unfold qZ
 refine oy ?_
 repeat (first|refine zD (d:=some 2) (cs:=p.cs) rfl rfl (fun b2 w2 x2 a2 (r2:Row w2 ⟨b2,0,none⟩ p.cs) hb2=>?_)|refine go1 ?_|refine zg λ_ _=>?_|refine zi λ_ _=>?_)
 refine zC (d:=some 21) rfl (bG5 p _) ?_
 rintro _ w3 ⟨rfl,x3⟩
 repeat (first|refine zE (d':=6) (fun _=>rfl) rfl rfl rfl (fun b6 w4 x4 a4 r4 hb6=>?_)|refine go1 ?_|refine zg λ_ _=>?_|refine zi λ_ _=>?_)
 refine zC (d:=some 28) rfl (bDb p.s _) ?_
 rintro _ w5 ⟨rfl,x5⟩
 repeat (first|refine go1 ?_|refine zg λ_ _=>?_|refine zi λ_ _=>?_)
 refine zC (d:=some 34) rfl (bBd p _) ?_
 rintro _ w6 ⟨rfl,x6⟩
 repeat (first|refine go1 ?_|refine zg λ_ _=>?_|refine zi λ_ _=>?_)
 refine zC (d:=some 40) rfl (bCz _) ?_
 rintro _ w7 ⟨rfl,x7⟩
 repeat (first|refine go1 ?_|refine zg λ_ _=>?_|refine zi λ_ _=>?_)
 refine zC (d:=some 56) rfl (bDt (.slice none 0 0) _) ?_
 rintro _ w8 ⟨rfl,x8⟩
 repeat (first|(refine zC (d:=some 58) rfl (rT 1 _) ?_;rintro _ w9 ⟨rfl,x9⟩)|refine go1 ?_|refine zg λ_ _=>?_|refine zi λ_ _=>?_)
 refine zC (d:=some 63) rfl (aBt _) ?_
 rintro _ w10 ⟨rfl,x10⟩
 repeat (first|refine go1 ?_|refine zg λ_ _=>?_|refine zi λ_ _=>?_)
 refine zC (d:=some 68) rfl (aZt _) ?_
 rintro _ w11 ⟨rfl,x11⟩
 repeat (first|refine go1 ?_|refine zg λ_ _=>?_|refine zi λ_ _=>?_)
 have x0:Ext w w11:=x2.trans (x3.trans (x4.trans (x5.trans (x6.trans (x7.trans (x8.trans (x9▸x10.trans x11)))))))
 clear x2 x3 x4 x5 x6 x7 x8 x10 x11 a2 r2 a4 r4 hb2 hb6
 refine zC (d:=some 72) rfl (aCd (U:= []) _ (by simp)) ?_
 rintro _ w12 ⟨c,M1,rfl,C1, -,x12⟩
 have hB:w.heap.size≤w11.heap.size:=x0.size
 have C1':ChR [] w12 w11.heap.size c M1 (eC 0 0):=by rw [bOg];exact C1
 repeat (first|(refine aI (fun (p:Nat × List Nat) w'=>Ext w w'∧p.1≤n.toNat∧ChR [] w' w11.heap.size c p.2 (eC p.1 p.1)) (fun p=> [(1,u8V n),(5,.pointer (some ⟨c,0,none⟩)),(73,u8V n),(74,.int .u8 (p.1:Nat))]) (fun p=>n.toNat - p.1) (0,M1) ⟨rfl,rfl,rfl,rfl,trivial⟩ ⟨x0.trans x12,Nat.zero_le _,C1'⟩ ?_;rintro ⟨k,M⟩ ρ w2 ⟨x2,hk,C2⟩;simp only at hk C2;dsimp only)|refine go1 ?_|refine zg λ_ _=>?_|refine zi λ_ _=>?_)
 refine zL (x:=.tmp 75) (p:=((k:Nat):Int)<((n.toNat:Nat):Int)) rfl (fun h9=>?_) (fun h9=>?_)
 ·have hlt:=C2.lt
  have hbs:=C2.base
  have el:=aCb k k
  repeat (first|refine go1 ?_|refine zg λ_ _=>?_|refine zi λ_ _=>?_)
  refine zC (d:=some 77) rfl (pC (N:=M) (txs:= []) _ C2 (SlR.nil _ _) (fun y hy=>hy) (by simp) (by simp) (by simp) (by simp) (by unfold aZ;rw [aJ2];simp [fE]) (by omega) (by rw [bLv];omega)) ?_
  rintro e w6 ⟨⟨i,hE⟩,⟨M',C6,hM6⟩,c6⟩
  have he:e=.nilIface:=by
   rcases hE with ⟨_,h5⟩|⟨h5, -⟩
   ·exact h5
   ·exact absurd (bGp (by omega)) h5
  subst he
  rw [bN3 (by omega)] at C6
  repeat (first|refine go1 ?_|refine zg λ_ _=>?_|refine zi λ_ _=>?_)
  rw [bQv (show k<255 by omega)]
  exact ⟨(k+1,M'),⟨rfl,rfl,rfl,rfl,trivial⟩,⟨(Ext.chg x2 c6).mono (fun y hy=>.inr (nTr hB (hbs y hy))),by simp only;omega,C6⟩,by simp only;omega⟩
 ·have ek:k=n.toNat:=by omega
  subst ek
  clear h9
  repeat (first|(refine aI (fun (p:Nat × List Nat) w'=>Ext w w'∧p.1≤min n.toNat 6∧ChR [] w' w11.heap.size c p.2 (eC (n.toNat - p.1) n.toNat)) (fun p=> [(1,u8V n),(5,.pointer (some ⟨c,0,none⟩)),(15,.int .i64 (p.1:Nat))]) (fun p=>7 - p.1) (0,M) ⟨rfl,rfl,rfl,trivial⟩ ⟨x2,Nat.zero_le _,C2⟩ ?_;rintro ⟨j,M4⟩ ρ w4 ⟨x4,hj,C4⟩;simp only at hj C4;dsimp only)|refine aD (d:=some 82) (.int .i64 ((n.toNat:Nat):Int)) rfl (congrArg (fun n=>some (Value.int .i64 n)) (bMm n)) ?_|refine go1 ?_|refine zg λ_ _=>?_|refine zi λ_ _=>?_)
  have hbs:=C4.base
  have el:=aCb (n.toNat - j) n.toNat
  refine zL (x:=.tmp 83) (p:=((j:Nat):Int)≤((n.toNat:Nat):Int)) rfl (fun h9=>?_) (fun h9=>absurd (by omega) h9)
  repeat (first|refine go1 ?_|refine zg λ_ _=>?_|refine zi λ_ _=>?_)
  refine zC (d:=some 86) rfl (sO _ C4 (fun k _=>by rw [aJ2];simp) (by omega) (by rw [bLv];omega)) ?_
  rintro _ w5 ⟨tv,M',rfl,C5,hM5,c5, -, -⟩
  have x5:Ext w w5:=(Ext.chg x4 c5).mono (fun y hy=>.inr (nTr hB (hbs y hy)))
  by_cases hj6:j<min n.toNat 6
  ·obtain ⟨d1,d2⟩:=bNf (m:=n.toNat - j) (n:=n.toNat) (by omega) (by omega)
   rw [d1]
   rw [d2,show n.toNat - j - 1=n.toNat - (j+1) by omega] at C5
   repeat (first|refine go1 ?_|refine zg λ_ _=>?_|refine zi λ_ _=>?_)
   exact ⟨(j+1,M'),⟨rfl,rfl,rfl,trivial⟩,⟨x5,by simp only;omega,C5⟩,by simp only;omega⟩
  ·have hjm:j=min n.toNat 6:=by omega
   by_cases hn6:n.toNat≤6
   ·have e0:n.toNat - j=0:=by omega
    rw [e0] at C5 ⊢
    rw [(bGe n.toNat).1]
    rw [(bGe n.toNat).2] at C5
    repeat (first|refine aD (d:=some 92) (.bool false) rfl (congrArg (fun b=>some (Value.bool b)) (dFa (by omega))) ?_|refine aD (d:=some 99) (.bool true) rfl (congrArg (fun b=>some (Value.bool b)) (dTr (by omega))) ?_|refine go1 ?_|refine zg λ_ _=>?_|refine zi λ_ _=>?_)
    refine zC (d:=some 111) rfl (tX _) ?_
    rintro _ w6 ⟨rfl,x6⟩
    repeat (first|refine aD (d:=some 115) (.int .i64 ((n.toNat:Nat):Int)) rfl (congrArg (fun n=>some (Value.int .i64 n)) (bMm n)) ?_|refine aD (d:=some 117) (.bool true) rfl (congrArg (fun b=>some (Value.bool b)) (dTr (by omega))) ?_|refine go1 ?_|refine zg λ_ _=>?_|refine zi λ_ _=>?_)
    refine zC (d:=some 121) rfl (iN _ (C5.ext x6)) ?_
    rintro _ w7 ⟨rfl,x7⟩
    rw [aCb]
    repeat (first|refine aD (d:=some 123) (.int .i64 ((n.toNat:Nat):Int)) rfl (congrArg (fun n=>some (Value.int .i64 n)) (bMm n)) ?_|refine aD (d:=some 126) (.bool true) rfl (congrArg (fun b=>some (Value.bool b)) (dTr (by omega))) ?_|refine go1 ?_|refine zg λ_ _=>?_|refine zi λ_ _=>?_)
    exact aA rfl ⟨rfl,x5.trans (x6.trans x7)⟩
   ·obtain ⟨d1,d2⟩:=bOd (m:=n.toNat - j) (n:=n.toNat) (by omega) (by omega)
    rw [d1]
    rw [d2] at C5
    repeat (first|refine aD (d:=some 92) (.bool true) rfl (congrArg (fun b=>some (Value.bool b)) (dTr (by omega))) ?_|refine aD (d:=some 99) (.bool false) rfl (congrArg (fun b=>some (Value.bool b)) (dFa (by omega))) ?_|refine go1 ?_|refine zg λ_ _=>?_|refine zi λ_ _=>?_)
    refine zC (d:=some 111) rfl (tX _) ?_
    rintro _ w6 ⟨rfl,x6⟩
    repeat (first|refine aD (d:=some 115) (.int .i64 ((n.toNat:Nat):Int)) rfl (congrArg (fun n=>some (Value.int .i64 n)) (bMm n)) ?_|refine aD (d:=some 117) (.bool true) rfl (congrArg (fun b=>some (Value.bool b)) (dTr (by omega))) ?_|refine go1 ?_|refine zg λ_ _=>?_|refine zi λ_ _=>?_)
    refine zC (d:=some 121) rfl (iN _ (C5.ext x6)) ?_
    rintro _ w7 ⟨rfl,x7⟩
    rw [aCb]
    repeat (first|refine aD (d:=some 123) (.int .i64 ((n.toNat:Nat):Int)) rfl (congrArg (fun n=>some (Value.int .i64 n)) (bMm n)) ?_|refine aD (d:=some 126) (.bool true) rfl (congrArg (fun b=>some (Value.bool b)) (dTr (by omega))) ?_|refine go1 ?_|refine zg λ_ _=>?_|refine zi λ_ _=>?_)
    exact aA rfl ⟨rfl,x5.trans (x6.trans x7)⟩
end
end Go.Proofs.YtgloknkcfchnlaaGreat
