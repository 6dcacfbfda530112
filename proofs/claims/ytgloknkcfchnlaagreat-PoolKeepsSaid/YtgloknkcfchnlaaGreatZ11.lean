/- Contracts: amounts, numbers in bytes. Contracts: checks of a -/
import Derived.Test.YtgloknkcfchnlaaGreatZ8
import Derived.Test.YtgloknkcfchnlaaGreatZ9
import Derived.Test.YtgloknkcfchnlaaGreatZ10
set_option linter.unusedVariables false
set_option linter.unusedSimpArgs false
namespace Go.Proofs.YtgloknkcfchnlaaGreat
section
open Go Go.K
attribute [local irreducible] aF aP bG KOp.wp K.Spec leS vnS str
theorem bAu (a b:Int) (w:World):K.Spec Tryz.prog F.amount_Add [.int .i64 a,.int .i64 b] w fun v w'=>v=.tuple #[.int .i64 (if jO a b then a+b else 0),.int .i64 (if jO a b then 0 else 3)]∧w'=w:=by
 refine aXd rfl ?_
 unfold aJg
 refine oy ?_
 have fl:jO a b=false→Value.tuple #[.int .i64 0,.int .i64 3]=.tuple #[.int .i64 (if jO a b then a+b else 0),.int .i64 (if jO a b then 0 else 3)]:=fun h=>by rw [h];rfl
 have tr:jO a b=true→Value.tuple #[.int .i64 (a+b),.int .i64 0]=.tuple #[.int .i64 (if jO a b then a+b else 0),.int .i64 (if jO a b then 0 else 3)]:=fun h=>by rw [h];rfl
 repeat (first|refine go ?_|refine zg λ_ _=>?_|refine zi λ_ _=>?_)
 refine zK rfl (fun h=>?_) (fun h=>?_)
 ·repeat (first|refine go ?_|refine zg λ_ _=>?_|refine zi λ_ _=>?_)
  exact aA rfl ⟨fl (by simp at h;simp [jO,h]),rfl⟩
 ·have ha:=(bN a).1 (by simpa using h)
  repeat (first|refine go ?_|refine zg λ_ _=>?_|refine zi λ_ _=>?_)
  refine zK rfl (fun h2=>?_) (fun h2=>?_)
  ·repeat (first|refine go ?_|refine zg λ_ _=>?_|refine zi λ_ _=>?_)
   exact aA rfl ⟨fl (by simp at h2;simp [jO,h2]),rfl⟩
  ·have hb:=(bN b).1 (by simpa using h2)
   repeat (first|refine go ?_|refine zg λ_ _=>?_|refine zi λ_ _=>?_)
   refine zM rfl (fun h3=>?_) (fun h3=>?_)
   ·repeat (first|refine go ?_|refine zg λ_ _=>?_|refine zi λ_ _=>?_)
    exact aA rfl ⟨fl (by simp at h3;simp [jO,h3]),rfl⟩
   ·repeat (first|refine go ?_|refine zg λ_ _=>?_|refine zi λ_ _=>?_)
    exact aA rfl ⟨tr (by simp at h h2 h3;simp [jO,h,h2,h3]),rfl⟩
theorem aIn {v:Value} {l:List Int} (w:World) (hs:SlE aAj w v l) (hn:l.length≤1000000000000):K.Spec Tryz.prog F.amount_Sum [v] w fun r w'=>r=.tuple #[.int .i64 (fG l),.int .i64 (lM l)]∧w'=w:=by
 refine aW2 rfl ?_
 unfold aKe
 refine oy ?_
 repeat (first|refine go ?_|refine zg λ_ _=>?_|refine zi λ_ _=>?_)
 refine aY rfl hs ?_
 repeat (first|refine go ?_|refine zg λ_ _=>?_|refine zi λ_ _=>?_)
 refine aI (fun (s:Nat × Int) w'=>w'=w∧s.1≤l.length∧kC 0 (l.take s.1)=some s.2) (fun s=> [(4,.int .i64 s.2),(8,v),(9,.int .i64 (l.length:Nat)),(10,.int .i64 s.1)]) (fun s=>l.length - s.1) (0,0) ⟨rfl,rfl,rfl,rfl,trivial⟩ ⟨rfl,by simp,rfl⟩ ?_
 rintro ⟨i,s⟩ ρ w1 ⟨rfl,hi,hk⟩
 simp only at hi hk
 dsimp only
 have hg:=vH _ _ _ (by decide) hk
 repeat (first|refine go ?_|refine zg λ_ _=>?_|refine zi λ_ _=>?_)
 refine zL rfl (fun h=>?_) (fun h=>?_)
 ·have hil:i<l.length:=by omega
  have ht:=aSe hil
  rw [hk,Option.bind_some] at ht
  repeat (first|refine go ?_|refine zg λ_ _=>?_|refine zi λ_ _=>?_)
  refine aS rfl rfl hs rfl hil (fun ad r1=>?_)
  repeat (first|refine go ?_|refine zg λ_ _=>?_|refine zi λ_ _=>?_)
  refine zC rfl (bAu s l[i] _) ?_
  rintro _ _ ⟨rfl,rfl⟩
  repeat (first|refine go ?_|refine zg λ_ _=>?_|refine zi λ_ _=>?_)
  have e:jO s l[i]=(cD l[i]&&cD (s+l[i])):=by rw [jO,hg];rfl
  refine aO3 rfl (fun h2=>?_) (fun h2=>?_)
  ·have ho:jO s l[i]=false:=by
    cases ho:jO s l[i]
    ·rfl
    ·rw [ho] at h2;exact absurd rfl h2
   repeat (first|refine go ?_|refine zg λ_ _=>?_|refine zi λ_ _=>?_)
   have hno:=aHi (show kC 0 (l.take (i+1))=none by rw [ht,←e,ho];rfl)
   refine aA rfl ⟨?_,rfl⟩
   rw [fG,lM,hno,ho];rfl
  ·have ho:jO s l[i]=true:=by
    cases ho:jO s l[i]
    ·rw [ho] at h2;exact absurd h2 (by decide)
    ·rfl
   repeat (first|refine go ?_|refine zg λ_ _=>?_|refine zi λ_ _=>?_)
   refine ⟨(i+1,s+l[i]),⟨by rw [ho];rfl,rfl,rfl,rfl,trivial⟩,⟨rfl,by simp;omega,?_⟩,by simp;omega⟩
   rw [ht,←e,ho];rfl
 ·repeat (first|refine go ?_|refine zg λ_ _=>?_|refine zi λ_ _=>?_)
  have e:l.take i=l:=tLe (by omega)
  rw [e] at hk
  refine aA rfl ⟨?_,rfl⟩
  rw [fG,lM,hk];rfl
theorem aFc {v:Value} {l:List Int} (w:World) (hs:SlE aAj w v l) (hn:l.length≤1000000000000):K.Spec Tryz.prog F.kedgeref01_Sum [v] w fun r w'=>r=.tuple #[.int .i64 (fG l),.int .i64 (lM l)]∧w'=w:=by
 refine aLl rfl ?_
 unfold aBg
 refine oy ?_
 repeat (first|refine go ?_|refine zg λ_ _=>?_|refine zi λ_ _=>?_)
 refine aI (fun (s:Nat × Int) w'=>w'=w∧s.1≤l.length∧kC 0 (l.take s.1)=some s.2) (fun s=> [(0,v),(4,.int .i64 s.2),(5,.int .i64 s.1)]) (fun s=>l.length - s.1) (0,0) ⟨rfl,rfl,rfl,trivial⟩ ⟨rfl,by simp,rfl⟩ ?_
 rintro ⟨i,s⟩ ρ w1 ⟨rfl,hi,hk⟩
 simp only at hi hk
 dsimp only
 have hg:=(bN _).1 (vH _ _ _ (by decide) hk)
 repeat (first|refine go ?_|refine zg λ_ _=>?_|refine zi λ_ _=>?_)
 refine aY rfl hs ?_
 repeat (first|refine go ?_|refine zg λ_ _=>?_|refine zi λ_ _=>?_)
 refine zL rfl (fun h=>?_) (fun h=>?_)
 ·have hil:i<l.length:=by omega
  have ht:=aSe hil
  rw [hk,Option.bind_some] at ht
  repeat (first|refine go ?_|refine zg λ_ _=>?_|refine zi λ_ _=>?_)
  refine aS rfl rfl hs rfl hil (fun ad r1=>?_)
  repeat (first|refine go ?_|refine zg λ_ _=>?_|refine zi λ_ _=>?_)
  refine zM rfl (fun h2=>?_) (fun h2=>?_)
  ·repeat (first|refine go ?_|refine zg λ_ _=>?_|refine zi λ_ _=>?_)
   have ho:cD l[i]=false:=by simpa using h2
   have hno:=aHi (show kC 0 (l.take (i+1))=none by rw [ht,ho];rfl)
   refine aA rfl ⟨?_,rfl⟩
   rw [fG,lM,hno];rfl
  ·have hgl:cD l[i]=true:=by simpa using h2
   have hgl':=(bN _).1 hgl
   repeat (first|refine go ?_|refine zg λ_ _=>?_|refine zi λ_ _=>?_)
   refine aS rfl rfl hs rfl hil (fun ad2 r2=>?_)
   repeat (first|refine go ?_|refine zg λ_ _=>?_|refine zi λ_ _=>?_)
   refine zM rfl (fun h3=>?_) (fun h3=>?_)
   ·repeat (first|refine go ?_|refine zg λ_ _=>?_|refine zi λ_ _=>?_)
    have ho:cD (s+l[i])=false:=by simpa using h3
    have hno:=aHi (show kC 0 (l.take (i+1))=none by rw [ht,ho,hgl];rfl)
    refine aA rfl ⟨?_,rfl⟩
    rw [fG,lM,hno];rfl
   ·have ho:cD (s+l[i])=true:=by simpa using h3
    repeat (first|refine go ?_|refine zg λ_ _=>?_|refine zi λ_ _=>?_)
    refine ⟨(i+1,s+l[i]),⟨rfl,rfl,rfl,trivial⟩,⟨rfl,by simp;omega,?_⟩,by simp;omega⟩
    rw [ht,ho,hgl];rfl
 ·repeat (first|refine go ?_|refine zg λ_ _=>?_|refine zi λ_ _=>?_)
  have e:l.take i=l:=tLe (by omega)
  rw [e] at hk
  refine aA rfl ⟨?_,rfl⟩
  rw [fG,lM,hk];rfl
theorem bAj {v:Value} {l:List Int} (a:Int) (w:World) (hs:SlE aAj w v l) (hn:l.length≤1000000000000):K.Spec Tryz.prog F.slices_Index_L_int_int [v,.int .i64 a] w fun r w'=>r=.int .i64 (idxOf (fun x=>decide (a=x)) l)∧w'=w:=by
 refine yJ rfl ?_
 unfold nD
 refine oy ?_
 repeat (first|refine go ?_|refine zg λ_ _=>?_|refine zi λ_ _=>?_)
 refine aY rfl hs ?_
 repeat (first|refine go ?_|refine zg λ_ _=>?_|refine zi λ_ _=>?_)
 refine aI (fun (i:Nat) w'=>w'=w∧i≤l.length∧∀j,j<i→∀h:j<l.length,a≠l[j]) (fun i=> [(0,v),(1,.int .i64 a),(6,v),(7,.int .i64 (l.length:Nat)),(8,.int .i64 i)]) (fun i=>l.length - i) 0 ⟨rfl,rfl,rfl,rfl,rfl,trivial⟩ ⟨rfl,by omega,by omega⟩ ?_
 rintro i ρ w1 ⟨rfl,hi,hk⟩
 repeat (first|refine go ?_|refine zg λ_ _=>?_|refine zi λ_ _=>?_)
 refine zL rfl (fun h=>?_) (fun h=>?_)
 ·have hil:i<l.length:=by omega
  repeat (first|refine go ?_|refine zg λ_ _=>?_|refine zi λ_ _=>?_)
  refine aS rfl rfl hs rfl hil (fun ad r1=>?_)
  repeat (first|refine go ?_|refine zg λ_ _=>?_|refine zi λ_ _=>?_)
  refine zL rfl (fun h2=>?_) (fun h2=>?_)
  ·repeat (first|refine go ?_|refine zg λ_ _=>?_|refine zi λ_ _=>?_)
   exact aA rfl ⟨congrArg (Value.int .i64) (idxOf_hit hil (by simpa using h2) (fun j hj=>by simpa using hk j hj (by omega))).symm,rfl⟩
  ·repeat (first|refine go ?_|refine zg λ_ _=>?_|refine zi λ_ _=>?_)
   refine ⟨i+1,⟨rfl,rfl,rfl,rfl,rfl,trivial⟩,⟨rfl,by omega,fun j hj hl=>?_⟩,by omega⟩
   by_cases hji:j=i
   ·subst hji;exact h2
   ·exact hk j (by omega) hl
 ·repeat (first|refine go ?_|refine zg λ_ _=>?_|refine zi λ_ _=>?_)
  exact aA rfl ⟨congrArg (Value.int .i64) (idxOf_miss (fun j hj=>by simpa using hk j (by omega) hj)).symm,rfl⟩
theorem aSf {v:Value} {l:List Int} (a:Int) (w:World) (hs:SlE aAj w v l) (hn:l.length≤1000000000000):K.Spec Tryz.prog F.slices_Contains_L_int_int [v,.int .i64 a] w fun r w'=>r=.bool (l.any fun x=>decide (a=x))∧w'=w:=by
 refine uL rfl ?_
 unfold kO
 refine oy ?_
 repeat (first|refine go ?_|refine zg λ_ _=>?_|refine zi λ_ _=>?_)
 refine zC rfl (bAj a _ hs hn) ?_
 rintro _ _ ⟨rfl,rfl⟩
 repeat (first|refine go ?_|refine zg λ_ _=>?_|refine zi λ_ _=>?_)
 exact aA rfl ⟨congrArg Value.bool pK,rfl⟩
theorem aPz (k:Nat) (hk:k=1∨k=2∨k=4∨k=8) (w:World):K.Spec Tryz.prog F.octet_known [.int .i64 (k:Nat)] w fun r w'=>r=.bool true∧Ext w w':=by
 refine aSz rfl ?_
 unfold aGu
 refine oy ?_
 repeat (first|refine go ?_|refine zg λ_ _=>?_|refine zi λ_ _=>?_)
 refine zI rfl (fun b w1 x1 a1 hb=>?_)
 repeat (first|refine go ?_|refine zg λ_ _=>?_|refine zi λ_ _=>?_)
 refine zC rfl (aSf (l:= [1,2,4,8]) (k:Nat) _ (SlE.new (E:=aAj) a1 rfl (Nat.le_refl _)) (by decide)) ?_
 rintro _ _ ⟨rfl,rfl⟩
 repeat (first|refine go ?_|refine zg λ_ _=>?_|refine zi λ_ _=>?_)
 refine aA rfl ⟨congrArg Value.bool ?_,x1⟩
 rcases hk with rfl|rfl|rfl|rfl<;>rfl
theorem aDm (n k:Nat) (hk:k=1∨k=2∨k=4∨k=8) (hn:n<18446744073709551616) (w:World):K.Spec Tryz.prog F.octet_Put [.int .u64 (n:Nat),.int .i64 (k:Nat)] w fun r w'=>r=.string (leS n k)∧Ext w w':=by
 refine aYk rfl ?_
 unfold aMp
 refine oy ?_
 repeat (first|refine go ?_|refine zg λ_ _=>?_|refine zi λ_ _=>?_)
 refine zC rfl (aPz k hk _) ?_
 rintro _ w1 ⟨rfl,x1⟩
 repeat (first|refine go ?_|refine zg λ_ _=>?_|refine zi λ_ _=>?_)
 refine aI (fun (s:Nat × Value) w'=>Ext w w'∧s.1≤k∧Own u8E T.uint8 w.heap.size w' s.2 (leL n s.1)) (fun s=> [(0,.int .u64 ((n / 256^s.1:Nat):Int)),(5,s.2),(9,.int .i64 (k:Nat)),(10,.int .i64 s.1)]) (fun s=>k - s.1) (0,.slice none 0 0) ⟨by simp;rfl,rfl,rfl,rfl,trivial⟩ ⟨x1,by simp,Own.nil _ _ _⟩ ?_
 rintro ⟨i,vo⟩ ρ w2 ⟨x2,hi,ho⟩
 simp only at hi ho
 dsimp only
 repeat (first|refine go ?_|refine zg λ_ _=>?_|refine zi λ_ _=>?_)
 refine zL rfl (fun h=>?_) (fun h=>?_)
 ·repeat (first|refine go ?_|refine zg λ_ _=>?_|refine zi λ_ _=>?_)
  refine zI rfl (fun b w3 x3 a3 hb=>?_)
  repeat (first|refine go ?_|refine zg λ_ _=>?_|refine zi λ_ _=>?_)
  refine cA (E:=u8E) (v:=vo) (l2:= [UInt8.ofNat (n / 256^i)]) rfl (ho.ext x3) (nTr x2.size x3.size) rfl rfl (dX a3 rfl) (by rw [aFg];rfl) rfl (by rw [cY];simp;omega) (fun vo' w4 ho4 c4=>?_)
  repeat (first|refine go ?_|refine zg λ_ _=>?_|refine zi λ_ _=>?_)
  refine ⟨(i+1,vo'),⟨?_,rfl,rfl,rfl,trivial⟩,⟨((x2.trans x3).chg c4).mono (fun b hb=>.inr (ho.base b (by simpa using hb))),by simp;omega,ho4⟩,by simp;omega⟩
  show Value.int .u64 (Int.fdiv ((n / 256^i:Nat):Int) (2^(min (8:Int).toNat IntKind.u64.bits)))=_
  congr 1
  rw [Nat.pow_succ,←Nat.div_div_eq_div_mul]
  rw [Int.fdiv_eq_ediv_of_nonneg _ (by decide)]
  rfl
 ·repeat (first|refine go ?_|refine zg λ_ _=>?_|refine zi λ_ _=>?_)
  have e:i=k:=by omega
  subst e
  refine tY rfl ho.sl ?_
  repeat (first|refine go ?_|refine zg λ_ _=>?_|refine zi λ_ _=>?_)
  exact aA rfl ⟨by rw [leS];rfl,x2⟩
theorem aUn (n k:Nat) (hk:k=1∨k=2∨k=4∨k=8) (hn:n<18446744073709551616) (w:World):K.Spec Tryz.prog F.kedgeref02_Put [.int .u64 (n:Nat),.int .i64 (k:Nat)] w fun r w'=>r=.string (leS n k)∧Ext w w':=by
 refine aMa rfl ?_
 unfold aBi
 refine oy ?_
 have hk4:k≤8:=by omega
 apply zf;apply z0;apply z1;apply zf;apply z0;apply z1
 refine lD (fun (_:Unit) w'=>w'=w) (fun _=> [(0,.int .u64 (n:Nat)),(1,.int .i64 (k:Nat)),(5,.string ⟨#[]⟩)]) ?_ ?_
 ·repeat (first|refine go ?_|refine zg λ_ _=>?_|refine zi λ_ _=>?_)
  rcases hk with rfl|rfl|rfl|rfl
  all_goals
   repeat (first|refine go ?_|refine zg λ_ _=>?_|refine zi λ_ _=>?_)
   exact ⟨(),⟨rfl,rfl,rfl,trivial⟩,rfl⟩
 rintro _ ρ w rfl
 repeat (first|refine go ?_|refine zg λ_ _=>?_|refine zi λ_ _=>?_)
 refine aI (fun (s:Nat) w'=>Ext w w'∧s≤k) (fun s=> [(0,.int .u64 ((n / 256^s:Nat):Int)),(1,.int .i64 (k:Nat)),(5,.string (leS n s)),(6,.int .i64 s)]) (fun s=>k - s) 0 ⟨by simp;rfl,rfl,by rw [bMc];rfl,rfl,trivial⟩ ⟨Ext.refl _,Nat.zero_le _⟩ ?_
 rintro i ρ w2 ⟨x2,hi⟩
 repeat (first|refine go ?_|refine zg λ_ _=>?_|refine zi λ_ _=>?_)
 refine zL rfl (fun h=>?_) (fun h=>?_)
 ·repeat (first|refine go ?_|refine zg λ_ _=>?_|refine zi λ_ _=>?_)
  refine zI rfl (fun b w3 x3 a3 hb=>?_)
  repeat (first|refine go ?_|refine zg λ_ _=>?_|refine zi λ_ _=>?_)
  have em:Int.tmod ((n / 256^i:Nat):Int) 256=((n / 256^i%256:Nat):Int):=tm _ 256
  have a4:At w3 b (.cells [Value.int .u8 (IntKind.u8.wrap ((n / 256^i%256:Nat):Int))].toArray T.uint8 (0,0)):=by rw [←em];exact a3
  refine bNi rfl a4 ?_
  repeat (first|refine go ?_|refine zg λ_ _=>?_|refine zi λ_ _=>?_)
  have e1:UInt8.ofNat (n / 256^i%256)=UInt8.ofNat (n / 256^i):=by apply UInt8.toNat_inj.1;simp
  refine mE rfl rfl (by rw [cQ,iA];simp;omega) ?_
  repeat (first|refine go ?_|refine zg λ_ _=>?_|refine zi λ_ _=>?_)
  refine ⟨i+1,⟨?_,rfl,?_,rfl,trivial⟩,⟨x2.trans x3,by omega⟩,by omega⟩
  ·show Value.int .u64 (IntKind.u64.wrap (Int.tdiv ((n / 256^i:Nat):Int) 256))=_
   have hlt:n / 256^i<18446744073709551616:=Nat.lt_of_le_of_lt (Nat.div_le_self _ _) hn
   have e2:Int.tdiv ((n / 256^i:Nat):Int) 256=((n / 256^(i+1):Nat):Int):=by
    rw [Nat.pow_succ,←Nat.div_div_eq_div_mul];exact td _ 256
   have h8:=Nat.div_le_self n (256^(i+1))
   rw [e2,fT (Int.natCast_nonneg _) (by omega)]
  ·show Value.string (leS n i++str [UInt8.ofNat (n / 256^i%256)])=Value.string (leS n (i+1))
   rw [e1,bMq]
 ·repeat (first|refine go ?_|refine zg λ_ _=>?_|refine zi λ_ _=>?_)
  have e:i=k:=by omega
  subst e
  exact aA rfl ⟨rfl,x2⟩
theorem aVi (n:Nat) (hn:n<18446744073709551616) (w:World):K.Spec Tryz.prog F.vint_Put [.int .u64 (n:Nat)] w fun r w'=>r=.string (vnS n)∧Ext w w':=by
 refine bE0 rfl ?_
 unfold aQh
 refine oy ?_
 repeat' (first|refine go1 ?_|refine zg λ_ _=>?_|refine zi λ_ _=>?_|refine zL rfl (fun h=>?_) (fun h=>?_)|(refine zC rfl (aDm _ _ (by decide) (by first|exact hn|decide) _) ?_;rintro _ _ ⟨rfl,_⟩)|refine mE rfl rfl (by rw [cQ,cQ];decide) ?_)
 ·exact aA rfl ⟨congrArg Value.string (by rw [vnS,if_pos (by omega)]),by repeat (first|assumption|exact Ext.refl _|refine Ext.trans ?_ (by assumption))⟩
 ·exact aA rfl ⟨congrArg Value.string (by rw [vnS,if_neg (by omega),if_pos (by omega)]),by repeat (first|assumption|exact Ext.refl _|refine Ext.trans ?_ (by assumption))⟩
 ·exact aA rfl ⟨congrArg Value.string (by rw [vnS,if_neg (by omega),if_neg (by omega),if_pos (by omega)]),by repeat (first|assumption|exact Ext.refl _|refine Ext.trans ?_ (by assumption))⟩
 ·exact aA rfl ⟨congrArg Value.string (by rw [vnS,if_neg (by omega),if_neg (by omega),if_neg (by omega)]),by repeat (first|assumption|exact Ext.refl _|refine Ext.trans ?_ (by assumption))⟩
theorem bE8 (n:Nat) (hn:n<18446744073709551616) (w:World):K.Spec Tryz.prog F.kedgeref03_Put [.int .u64 (n:Nat)] w fun r w'=>r=.string (vnS n)∧Ext w w':=by
 refine aLo rfl ?_
 unfold aBf
 refine oy ?_
 repeat' (first|refine go1 ?_|refine zg λ_ _=>?_|refine zi λ_ _=>?_|refine zL rfl (fun h=>?_) (fun h=>?_)|(refine zC rfl (aUn _ _ (by decide) hn _) ?_;rintro _ _ ⟨rfl,_⟩)|refine mE rfl rfl (by rw [cQ];decide) ?_)
 ·exact aA rfl ⟨congrArg Value.string (by rw [vnS,if_pos (by omega)]),by repeat (first|assumption|exact Ext.refl _|refine Ext.trans ?_ (by assumption))⟩
 ·exact aA rfl ⟨congrArg Value.string (by rw [vnS,if_neg (by omega),if_pos (by omega),bRh]),by repeat (first|assumption|exact Ext.refl _|refine Ext.trans ?_ (by assumption))⟩
 ·exact aA rfl ⟨congrArg Value.string (by rw [vnS,if_neg (by omega),if_neg (by omega),if_pos (by omega),bQ6]),by repeat (first|assumption|exact Ext.refl _|refine Ext.trans ?_ (by assumption))⟩
 ·exact aA rfl ⟨congrArg Value.string (by rw [vnS,if_neg (by omega),if_neg (by omega),if_neg (by omega),bQ8]),by repeat (first|assumption|exact Ext.refl _|refine Ext.trans ?_ (by assumption))⟩
theorem qA (n:Nat) (hn:n<9223372036854775808) (w:World):K.Spec Tryz.prog F.wire_counted [.int .i64 (n:Nat)] w fun r w'=>r=.string (vnS n)∧Ext w w':=by
 refine aSu rfl ?_
 unfold aE2
 refine oy ?_
 repeat (first|refine go ?_|refine zg λ_ _=>?_|refine zi λ_ _=>?_)
 rw [fT (by omega) (by omega)]
 refine zC rfl (aVi n (by omega) _) ?_
 rintro _ w1 ⟨rfl,x1⟩
 repeat (first|refine go ?_|refine zg λ_ _=>?_|refine zi λ_ _=>?_)
 exact aA rfl ⟨rfl,x1⟩
theorem pT (n:Nat) (hn:n<9223372036854775808) (w:World):K.Spec Tryz.prog F.kedgeref06_length [.int .i64 (n:Nat)] w fun r w'=>r=.string (vnS n)∧Ext w w':=by
 refine aF7 rfl ?_
 unfold tS
 refine oy ?_
 repeat (first|refine go ?_|refine zg λ_ _=>?_|refine zi λ_ _=>?_)
 rw [fT (by omega) (by omega)]
 refine zC rfl (bE8 n (by omega) _) ?_
 rintro _ w1 ⟨rfl,x1⟩
 repeat (first|refine go ?_|refine zg λ_ _=>?_|refine zi λ_ _=>?_)
 exact aA rfl ⟨rfl,x1⟩
theorem aO9 (s:ByteArray) (hs:s.size≤1000000) (w:World):K.Spec Tryz.prog F.wire_sized [.string s] w fun r w'=>r=.string (vnS s.size++s)∧Ext w w':=by
 refine aVp rfl ?_
 unfold aIy
 refine oy ?_
 repeat (first|refine go ?_|refine zg λ_ _=>?_|refine zi λ_ _=>?_)
 refine zC rfl (qA s.size (by omega) _) ?_
 rintro _ w1 ⟨rfl,x1⟩
 repeat (first|refine go ?_|refine zg λ_ _=>?_|refine zi λ_ _=>?_)
 have:=fH s.size
 refine mE rfl rfl (by omega) ?_
 repeat (first|refine go ?_|refine zg λ_ _=>?_|refine zi λ_ _=>?_)
 exact aA rfl ⟨rfl,x1⟩
end
section
open Go Go.K
attribute [local irreducible] aF aP bG KOp.wp K.Spec leS vnS str
theorem aEl {M:List Nat} {cs:List Value} {t:Tx} (w:World) (ht:txR.rel M w cs t) (hs:t.Sm):K.Spec Tryz.prog F.kedgeref05_Total [.agg cs.toArray] w fun r w'=>r=.tuple #[.int .i64 (fG (values t)),.int .i64 (lM (values t))]∧Ext w w':=by
 obtain ⟨iv,ov,rfl,hi,ho,hv,hl⟩:=ht
 have h1:=hs.outs
 refine aHn rfl ?_
 unfold vM
 refine oy ?_
 repeat' (first|refine go1 ?_|refine zg λ_ _=>?_|refine zi λ_ _=>?_|(first|refine zD rfl rfl (fun bp wp xp ap rp hp0=>?_)|refine zE (fun _=>rfl) rfl rfl rfl (fun bq wq xq aq rq hq0=>?_))|refine zG rfl (by exact fx) ?_|refine zL rfl (fun h=>?_) (fun h=>?_)|(refine aI (fun (s:Nat × Value) w'=>Ext wp w'∧s.1≤t.outs.length∧Own aAj T.int wp.heap.size w' s.2 ((values t).take s.1)) (fun s=> [(1,.pointer (some ⟨bp,0,none⟩)),(4,s.2),(5,.int .i64 s.1)]) (fun s=>t.outs.length - s.1) (0,.slice none 0 0) ⟨rfl,rfl,rfl,trivial⟩ ⟨by exact fx,by simp,Own.nil _ _ _⟩ ?_;rintro ⟨i,vo⟩ ρ w1 ⟨x1,hi1,hO⟩;simp only at hi1 hO;dsimp only)|(refine aM rfl rfl (n:=i) (l:=t.outs) (by exact fx) rfl (by omega) (fun ad cs r2 he=>?_);obtain ⟨rfl,_⟩:=he;have hil:i<t.outs.length:=by omega)|refine zI rfl (fun b w3 x3 a3 hb=>?_)|refine cA (E:=aAj) (v:=vo) (l2:= [t.outs[i].v]) rfl (hO.ext (by exact fx)) (Ext.size (w:=wp) (by exact fx)) rfl rfl (dX a3 rfl) rfl rfl (by simp;omega) (fun vo' w4 ho4 c4=>?_)|(refine zC rfl (aFc (l:=(values t).take i) _ hO.sl (by simp;omega)) ?_;rintro _ _ ⟨rfl,rfl⟩))
 ·refine ⟨(i+1,vo'),⟨rfl,rfl,rfl,trivial⟩,⟨(Chg.ext (l:= []) (Ext.chg (w:=wp) (by exact fx) c4 |>.mono (fun b hb=>.inr (hO.base b (by simpa using hb)))) (Ext.refl _)),by simp;omega,?_⟩,by simp;omega⟩
  have e:(values t).take (i+1)=(values t).take i++ [t.outs[i].v]:=by
   rw [List.take_succ_eq_append_getElem (by simpa [values] using hil)];simp [values]
  show Own _ _ _ _ _ ((values t).take (i+1))
  rw [e];exact ho4
 ·have e:(values t).take i=values t:=tLe (by simp [values];omega)
  refine aA rfl ⟨?_,xp.trans x1⟩
  show Value.tuple #[.int .i64 (fG ((values t).take i)),.int .i64 (lM ((values t).take i))]=_
  rw [e]
theorem aK7 {α:Type} {p:α→Bool} {l:List α} {i:Nat} (h:i<l.length) (hp:p l[i]=true):l.any p=true:=List.any_eq_true.2 ⟨_,gMe h,hp⟩
theorem aDf {α:Type} {p:α→Bool} {l:List α} (hp:∀j (h:j<l.length),p l[j]=false):l.any p=false:=List.any_eq_false.2 fun x hx=>by
 obtain ⟨j,h,rfl⟩:=List.getElem_of_mem hx
 rw [hp j h];simp
theorem bD7 {M:List Nat} {cs:List Value} {t:Tx} (w:World) (ht:txR.rel M w cs t) (hs:t.Sm):K.Spec Tryz.prog F.kedgeref05_long [.agg cs.toArray] w fun r w'=>r=.bool (aA3 t)∧Ext w w':=by
 obtain ⟨iv,ov,rfl,hi,ho,hv,hl⟩:=ht
 have h1:=hs.outs
 have h2:=hs.ins
 have h3:=hs.wit
 refine aIo rfl ?_
 unfold wP
 refine oy ?_
 repeat' (first|refine go1 ?_|refine zg λ_ _=>?_|refine zi λ_ _=>?_|(first|refine zD rfl rfl (fun bp wp xp ap rp hp0=>?_)|refine zE (fun _=>rfl) rfl rfl rfl (fun bq wq xq aq rq hq0=>?_))|refine zG rfl (by exact fx) ?_|refine zL rfl (fun h=>?_) (fun h=>?_)|(refine aI (fun (i:Nat) w'=>wp=w'∧i≤t.outs.length∧∀j,j<i→∀h:j<t.outs.length,wM t.outs[j]=false) (fun i=> [(1,.pointer (some ⟨bp,0,none⟩)),(3,.int .i64 i)]) (fun i=>t.outs.length - i) 0 ⟨rfl,rfl,trivial⟩ ⟨rfl,by omega,by omega⟩ ?_;rintro i ρ _ ⟨rfl,hi1,hk⟩)|(have hal:a<t.ins.length:=(by omega);refine aI (fun (k:Nat) w'=>wp=w'∧k≤t.ins[a].wit.length∧∀j,j<k→∀h:j<t.ins[a].wit.length,vF t.ins[a].wit[j]=false) (fun k=> [(1,.pointer (some ⟨bp,0,none⟩)),(4,.int .i64 a),(5,.int .i64 k)]) (fun k=>t.ins[a].wit.length - k) 0 ⟨rfl,rfl,rfl,trivial⟩ ⟨rfl,by omega,by omega⟩ ?_;rintro k ρ3 _ ⟨rfl,hk1,hkk⟩)|(refine aI (fun (a:Nat) w'=>wp=w'∧a≤t.ins.length∧∀j,j<a→∀h:j<t.ins.length,aLk t.ins[j]=false) (fun a=> [(1,.pointer (some ⟨bp,0,none⟩)),(4,.int .i64 a)]) (fun a=>t.ins.length - a) 0 ⟨rfl,rfl,trivial⟩ ⟨rfl,by omega,by omega⟩ ?_;rintro a ρ2 _ ⟨rfl,ha1,hka⟩)|(refine aM rfl rfl (n:=k) (l:=t.ins[a].wit) (by exact fx) rfl (by omega) (fun ad cs r4 he=>?_);have hq:cs= [Value.string t.ins[a].wit[k]]:=he;rw [hq] at r4)|(refine aM rfl rfl (n:=a) (l:=t.ins) (by exact fx) rfl (by omega) (fun ad cs r2 he=>?_);obtain ⟨wv,rfl,hw,_⟩:=he;have hm:=h3 _ (gMe hal))|(refine aM rfl rfl (n:=i) (l:=t.outs) (by exact fx) rfl (by omega) (fun ad cs r2 he=>?_);obtain ⟨rfl,_⟩:=he;have hil:i<t.outs.length:=by omega))
 ·refine aA rfl ⟨congrArg Value.bool ?_,by exact fx⟩
  rw [aA3,aK7 hil (by simpa [wM] using h)];rfl
 ·exact ⟨i+1,⟨rfl,rfl,trivial⟩,⟨rfl,by omega,fun j hj hl=>by
   rcases Nat.lt_succ_iff_lt_or_eq.1 hj with hj|rfl
   ·exact hk j hj hl
   ·simpa [wM] using h⟩,by omega⟩
 ·refine aA rfl ⟨congrArg Value.bool ?_,by exact fx⟩
  have hkl:k<t.ins[a].wit.length:=by omega
  have e1:aLk t.ins[a]=true:=aK7 hkl (by simpa [vF] using h)
  rw [aA3,aK7 (l:=t.ins) hal e1,Bool.or_true]
 ·exact ⟨k+1,⟨rfl,rfl,rfl,trivial⟩,⟨rfl,by omega,fun j hj hl=>by
   rcases Nat.lt_succ_iff_lt_or_eq.1 hj with hj|rfl
   ·exact hkk j hj hl
   ·simpa [vF] using h⟩,by omega⟩
 ·exact ⟨a+1,⟨rfl,rfl,trivial⟩,⟨rfl,by omega,fun j hj hl=>by
   rcases Nat.lt_succ_iff_lt_or_eq.1 hj with hj|rfl
   ·exact hka j hj hl
   ·exact aDf fun k' hk'=>hkk k' (by omega) hk'⟩,by omega⟩
 ·refine aA rfl ⟨congrArg Value.bool ?_,by exact fx⟩
  rw [aA3,aDf fun j hj=>hk j (by omega) hj,aDf fun j hj=>hka j (by omega) hj];rfl
theorem jS {P:Program} {d:Option Tmp} {r:KR} {K:Env→World→Prop} {ρ:Env} {w:World} {x i:Operand} {s:ByteArray} {k:IntKind} {n:Nat} (hx:ev ρ x=.string s) (hi:ev ρ i=.int k n) (h:n<s.size) (kk:aF P r K (put ρ d (.int .u8 (s[n].toNat:Nat))) w):aF P (.cons ⟨d,.indexStr x i,none⟩ r) K ρ w:=dH rfl (by simp [KOp.fix,hx,hi,h]) kk
theorem aLm:aR.data=Array.replicate 32 0:=by
 unfold aR str;rfl
theorem bMz {s:ByteArray} (hs:s.size=32) (h:∀j (hj:j<s.size),s[j].toNat=0):s=aR:=by
 apply ByteArray.ext
 rw [aLm]
 apply Array.ext
 ·rw [Array.size_replicate];exact hs
 ·intro i h1 h2
  rw [Array.getElem_replicate]
  exact UInt8.toNat_inj.1 (h i h1)
theorem bH2:aR.size=32:=by
 show aR.data.size=32
 rw [aLm,Array.size_replicate]
theorem bL6 {s:ByteArray} (e:s=aR) {j:Nat} (hj:j<s.size):s[j].toNat=0:=by
 subst e
 show (aR.data[j]'hj).toNat=0
 have:∀(a:Array UInt8) (h:j<a.size),a=Array.replicate 32 0→(a[j]'h).toNat=0:=by
  intro a h e
  subst e
  rw [Array.getElem_replicate];rfl
 exact this _ _ aLm
theorem bAz {p:Prop} [Decidable p] (h:(!decide p)=true):¬p:=by simpa using h
theorem aNy {p:Prop} [Decidable p] (h:(!decide p)=false):p:=by simpa using h
theorem aBx (p:Pt) (w:World):K.Spec Tryz.prog F.kedgeref05_Base [.agg p.cs.toArray] w fun r w'=>r=.bool (lJ p)∧Ext w w':=by
 refine aJh rfl ?_
 unfold xE
 refine oy ?_
 repeat' (first|refine go1 ?_|refine zg λ_ _=>?_|refine zi λ_ _=>?_|(first|refine zD rfl rfl (fun bp wp xp ap rp hp0=>?_)|refine zE (fun _=>rfl) rfl rfl rfl (fun bq wq xq aq rq hq0=>?_))|refine zG rfl (by exact fx) ?_|refine zL rfl (fun h=>?_) (fun h=>?_)|refine zK rfl (fun h1=>?_) (fun h1=>?_)|refine zM rfl (fun h2=>?_) (fun h2=>?_)|(have hs:p.s.size=32:=(by have:=aNy h1;omega);refine jS (n:=i) rfl rfl (by omega) ?_)|(refine aI (fun (i:Nat) w'=>wp=w'∧i≤32∧∀j,j<i→∀h:j<p.s.size,p.s[j].toNat=0) (fun i=> [(1,.pointer (some ⟨bp,0,none⟩)),(3,.int .i64 i)]) (fun i=>32 - i) 0 ⟨rfl,rfl,trivial⟩ ⟨rfl,by omega,by omega⟩ ?_;rintro i ρ _ ⟨rfl,hi1,hk⟩))
 ·refine aA rfl ⟨congrArg Value.bool ?_,by exact fx⟩
  have h:p.s≠aR:=fun e=>bAz h1 (by rw [e,bH2];rfl)
  rw [lJ,dFa (p:=p.s=xA.s) h];rfl
 ·refine aA rfl ⟨congrArg Value.bool ?_,by exact fx⟩
  have h:=bAz h2
  rw [lJ,dFa (p:=p.i=xA.i) h,Bool.and_false]
 ·refine aA rfl ⟨congrArg Value.bool ?_,by exact fx⟩
  have h:p.s≠aR:=fun e=>bAz h2 (by rw [bL6 e];rfl)
  rw [lJ,dFa (p:=p.s=xA.s) h];rfl
 ·exact ⟨i+1,⟨rfl,rfl,trivial⟩,⟨rfl,by omega,fun j hj hl=>by
   rcases Nat.lt_succ_iff_lt_or_eq.1 hj with hj|rfl
   ·exact hk j hj hl
   ·have:=aNy h2;omega⟩,by omega⟩
 ·refine aA rfl ⟨congrArg Value.bool ?_,by exact fx⟩
  have hs:p.s.size=32:=by have:=aNy h1;omega
  have h:p.s=xA.s:=bMz hs fun j hj=>hk j (by omega) hj
  rw [lJ,dTr h,dTr (p:=p.i=xA.i) (aNy h2)];rfl
end
section
open Go Go.K
attribute [local irreducible] aF aP bG KOp.wp K.Spec leS vnS str aR
theorem bJy {t:Tx} (h:¬(1≤(t.ins.length:Int)∧(t.ins.length:Int)≤256∧1≤(t.outs.length:Int)∧(t.outs.length:Int)≤256)):aE t=6:=by
 have:jX t=false:=by
  unfold jX
  by_cases h1:1≤(t.ins.length:Int)∧(t.ins.length:Int)≤256
  ·have h2:¬(1≤(t.outs.length:Int)∧(t.outs.length:Int)≤256):=by omega
   rw [dFa h2];simp
  ·rw [dFa h1];simp
 rw [aE,this];rfl
theorem bL4 {t:Tx} {j:Nat} (h:j<t.ins.length) (hw:(t.ins[j].wit.length:Int)>4):aE t=6:=by
 have:jX t=false:=by
  unfold jX
  rw [aK7 h (by simpa using hw)];simp
 rw [aE,this];rfl
theorem bKl {t:Tx} (h:1≤(t.ins.length:Int)∧(t.ins.length:Int)≤256∧1≤(t.outs.length:Int)∧(t.outs.length:Int)≤256) (hw:∀j (h:j<t.ins.length),¬(t.ins[j].wit.length:Int)>4):jX t=true:=by
 unfold jX
 rw [aDf (p:=fun x:TIn=>decide ((x.wit.length:Int)>4)) fun j h=>dFa (hw j h),dTr (p:=1≤(t.ins.length:Int)∧(t.ins.length:Int)≤256) (by omega),dTr (p:=1≤(t.outs.length:Int)∧(t.outs.length:Int)≤256) (by omega)];rfl
theorem bKx {t:Tx} {j:Nat} (h:j<t.ins.length) (hb:aAd t t.ins[j]=true):kU t=false:=by
 rw [kU,aK7 h hb];rfl
theorem bLh {t:Tx} (h:∀j (h:j<t.ins.length),aAd t t.ins[j]=false):kU t=true:=by
 rw [kU,aDf h];rfl
theorem bNh {t:Tx} {a b:Nat} (ha:a<t.ins.length) (hb:b<a) (h:t.ins[a].p=t.ins[b].p):aBq t=true:=by
 have hpl:(bA t).length=t.ins.length:=by simp [bA]
 refine aUg (i:=a+1) ?_
 rw [aL2 (by omega)]
 have:((bA t).take a).contains (bA t)[a]=true:=by
  rw [List.contains_iff_mem]
  refine List.mem_take_iff_getElem.2 ⟨b,by omega,?_⟩
  simp only [bA,List.getElem_map]
  exact h.symm
 rw [this];rfl
theorem bO7 {t:Tx} {a:Nat} (ha:a<(bA t).length) (hd:yI ((bA t).take a).reverse=false) (h:∀j (hj:j<a),(bA t)[j]≠(bA t)[a]):yI ((bA t).take (a+1)).reverse=false:=by
 rw [aL2 ha,hd,Bool.or_false]
 rw [←Bool.not_eq_true,List.contains_iff_mem,List.mem_take_iff_getElem]
 rintro ⟨j,hj,e⟩
 exact h j (by omega) e
theorem bPm {t:Tx} {a:Nat} (h:t.ins.length≤a) (hd:yI ((bA t).take a).reverse=false):aBq t=false:=by
 rw [tLe (by simp [bA];omega)] at hd;exact hd
theorem bD2 {p q:Pt} (h1:p.s=q.s) (h2:p.i=q.i):p=q:=by cases p;cases q;simp_all
set_option maxHeartbeats 2000000 in
theorem sN {M : List Nat} {cs : List Value} {t : Tx} (w : World) (ht : txR.rel M w cs t) (hs : t.Sm) : K.Spec Tryz.prog F.kedgeref05_Check [.agg cs.toArray] w fun r w' => r = .int .i64 (aE t) ∧ Ext w w' := by
  have ht0 := ht
  obtain ⟨iv, ov, rfl, hi, ho, hv, hl⟩ := ht
  have h1 := hs.outs
  have h2 := hs.ins
  have h3 := hs.wit
  have hpl : (bA t).length = t.ins.length := by simp [bA]
  have hpg : ∀ i (h : i < t.ins.length), (bA t)[i]'(by rw [hpl]; exact h) = t.ins[i].p := fun i h => by simp [bA]
  refine aHx rfl ?_
  unfold wA
  refine oy ?_
  repeat' (first|refine go1 ?_|refine zg λ_ _=>?_|refine zi λ_ _=>?_|(first|refine zD rfl rfl (fun bp wp xp ap rp hp0=>?_)|refine zE (fun _=>rfl) rfl rfl rfl (fun bq wq xq aq rq hq0=>?_))|refine zG rfl (by exact fx) ?_|refine zL rfl (fun h => ?_) (fun h => ?_)|refine zK rfl (fun h => ?_) (fun h => ?_)|refine zM rfl (fun h => ?_) (fun h => ?_)|(refine zC rfl (bD7 (M := M) _ (cs := aJ t iv ov) (by exact fx) hs) ?_; rintro _ w3 ⟨rfl, x3⟩)|(refine zC rfl (aEl (M := M) _ (cs := aJ t iv ov) (by exact fx) hs) ?_; rintro _ w4 ⟨rfl, x4⟩)|(refine aI (fun (i : Nat) w' => wp = w' ∧ i ≤ t.ins.length ∧ ∀ j, j < i → ∀ h : j < t.ins.length, ¬ (t.ins[j].wit.length : Int) > 4) (fun i => [(1, .pointer (some ⟨bp, 0, none⟩)), (3, .int .i64 i)]) (fun i => t.ins.length - i) 0 ⟨rfl, rfl, trivial⟩ ⟨rfl, by omega, by omega⟩ ?_; rintro i ρ _ ⟨rfl, hi1, hk⟩)|(refine aI (fun (u : Nat) w' => Ext wp w' ∧ u ≤ t.ins.length ∧ ∀ j, j < u → ∀ h : j < t.ins.length, aAd t t.ins[j] = false) (fun u => [(1, .pointer (some ⟨bp, 0, none⟩)), (5, .int .i64 u)]) (fun u => t.ins.length - u) 0 ⟨rfl, rfl, trivial⟩ ⟨by exact fx, by omega, by omega⟩ ?_; rintro u ρ2 w5 ⟨x5, hu1, hku⟩)|(refine aI (fun (b : Nat) w' => Ext w6 w' ∧ b ≤ a ∧ ∀ j (hj : j < b) (hl : j < (bA t).length) (ha : a < (bA t).length), (bA t)[j] ≠ (bA t)[a]) (fun b => [(1, .pointer (some ⟨bp, 0, none⟩)), (7, .int .i64 a), (8, .int .i64 b)]) (fun b => a - b) 0 ⟨rfl, rfl, rfl, trivial⟩ ⟨Ext.refl _, by omega, by omega⟩ ?_; rintro b ρ4 w8 ⟨x8, hb1, hkb⟩)|(refine aI (fun (a : Nat) w' => Ext wp w' ∧ a ≤ t.ins.length ∧ yI ((bA t).take a).reverse = false) (fun a => [(1, .pointer (some ⟨bp, 0, none⟩)), (7, .int .i64 a)]) (fun a => t.ins.length - a) 0 ⟨rfl, rfl, trivial⟩ ⟨by exact fx, by omega, by simp [yI]⟩ ?_; rintro a ρ3 w6 ⟨x6, ha1, hd⟩)|(refine zC rfl (aBx _ _) ?_; rintro _ w7 ⟨rfl, x7⟩)|(refine aM rfl rfl (n := b) (l := t.ins) (by exact fx) rfl (by omega) (fun ad cs r2 he => ?_); obtain ⟨wv, rfl, hw, _⟩ := he; obtain ⟨_, _, rfl⟩ := hw.form; have hbl : b < t.ins.length := (by omega))|(refine aM rfl rfl (n := a) (l := t.ins) (by exact fx) rfl (by omega) (fun ad cs r2 he => ?_); obtain ⟨wv, rfl, hw, _⟩ := he; obtain ⟨_, _, rfl⟩ := hw.form; have hal : a < t.ins.length := (by omega))|(refine aM rfl rfl (n := u) (l := t.ins) (by exact fx) rfl (by omega) (fun ad cs r2 he => ?_); obtain ⟨wv, rfl, hw, _⟩ := he; obtain ⟨_, _, rfl⟩ := hw.form; have hul : u < t.ins.length := (by omega))|(refine aM rfl rfl (n := i) (l := t.ins) (by exact fx) rfl (by omega) (fun ad cs r2 he => ?_); obtain ⟨wv, rfl, hw, _⟩ := he; obtain ⟨_, _, rfl⟩ := hw.form; have hil : i < t.ins.length := (by omega)))
  all_goals try simp only [decide_eq_true_eq, decide_eq_false_iff_not] at *
  all_goals first
    | (refine aA rfl ⟨congrArg (Value.int .i64) ?_, by exact fx⟩
       first
       | (refine (bJy ?_).symm; omega)
       | exact (bL4 (j := i) (by omega) (by assumption)).symm
       | (have c1 := bKl (t := t) (by omega) (fun j hj => hk j (by omega) hj)
          rw [aE, c1]
          first
          | (have hlong : aA3 t = true := by assumption
             rw [hlong]; rfl)
          | (have hlong : aA3 t = false := by assumption
             rw [hlong]
             first
             | (rw [bKx (j := u) (by omega) (by simp_all [aAd, lJ])]; rfl)
             | (rw [bLh fun j hj => hku j (by omega) hj]
                first
                | (rw [bNh (a := a) (b := b) (by omega) (by omega) (bD2 (by simp_all) (by simp_all))]; rfl)
                | (rw [bPm (a := a) (by omega) hd]; rfl)))))
    | exact ⟨i + 1, ⟨rfl, rfl, trivial⟩, ⟨by trivial, by omega, fun j hj hl => by
        rcases Nat.lt_succ_iff_lt_or_eq.1 hj with hj | rfl
        · exact hk j hj hl
        · assumption⟩, by omega⟩
    | (refine ⟨u + 1, ⟨rfl, rfl, trivial⟩, ⟨by exact fx, by omega, fun j hj hl => ?_⟩, by omega⟩
       by_cases hji : j = u
       · subst hji; simp_all [aAd, lJ]; done
       · exact hku j (by omega) hl)
    | (refine ⟨b + 1, ⟨rfl, rfl, rfl, trivial⟩, ⟨by exact fx, by omega, fun j hj hl ha => ?_⟩, by omega⟩
       by_cases hji : j = b
       · subst hji; rw [hpg _ hbl, hpg _ hal]; intro e; simp_all; done
       · exact hkb j (by omega) hl ha)
    | exact ⟨a + 1, ⟨rfl, rfl, trivial⟩, ⟨by exact fx, by omega, bO7 (by omega) hd fun j hj => hkb j (by omega) (by omega) (by omega)⟩, by omega⟩
    | trace_state
end
section
open Go Go.K
attribute [local irreducible] aF aP bG KOp.wp K.Spec
theorem aV8 (p:Pt) (c:Cn) (w:World):K.Spec Tryz.prog F.coins_formed [p.val,c.val] w fun v w'=>v=.bool (dR p c)∧Ext w w':=by
 refine aRu rfl ?_
 unfold aEk
 refine oy ?_
 repeat (first|refine go ?_|refine zg λ_ _=>?_|refine zi λ_ _=>?_)
 refine qN rfl rfl (fun b1 w1 x1 _ r1 _=>?_)
 repeat (first|refine go ?_|refine zg λ_ _=>?_|refine zi λ_ _=>?_)
 refine qN rfl rfl (fun b2 w2 x2 _ r2 _=>?_)
 repeat (first|refine go ?_|refine zg λ_ _=>?_|refine zi λ_ _=>?_)
 have e32:((p.s.size:Int)=32)↔p.s.size=32:=by omega
 refine sA rfl (fun h1=>?_) (fun h1=>?_)
 ·repeat (first|refine go ?_|refine zg λ_ _=>?_|refine zi λ_ _=>?_)
  refine sA rfl (fun h2=>?_) (fun h2=>?_)
  ·repeat (first|refine go ?_|refine zg λ_ _=>?_|refine zi λ_ _=>?_)
   refine sA rfl (fun h3=>?_) (fun h3=>?_)
   ·repeat (first|refine go ?_|refine zg λ_ _=>?_|refine zi λ_ _=>?_)
    refine aA rfl ⟨congrArg Value.bool ?_,x1.trans x2⟩
    simp [dR,e32.1 h1,h2,h3]
   ·repeat (first|refine go ?_|refine zg λ_ _=>?_|refine zi λ_ _=>?_)
    refine aA rfl ⟨congrArg Value.bool ?_,x1.trans x2⟩
    simp [dR,h3]
  ·repeat (first|refine go ?_|refine zg λ_ _=>?_|refine zi λ_ _=>?_)
   refine aA rfl ⟨congrArg Value.bool ?_,x1.trans x2⟩
   simp [dR,h2]
 ·repeat (first|refine go ?_|refine zg λ_ _=>?_|refine zi λ_ _=>?_)
  refine aA rfl ⟨congrArg Value.bool ?_,x1.trans x2⟩
  have h1':¬p.s.size=32:=fun h=>h1 (e32.2 h)
  simp [dR,h1']
theorem aLw (w:World):K.Spec Tryz.prog F.coins_New [] w fun v w'=>∃b mb,v=.pointer (some ⟨b,0,none⟩)∧mD T.coins_Set w' b mb []∧w.heap.size≤b∧w.heap.size≤mb∧Ext w w':=by
 refine aYh rfl ?_
 unfold aMx
 refine oy ?_
 repeat (first|refine go ?_|refine zg λ_ _=>?_|refine zi λ_ _=>?_)
 refine iQ (E:=ptK) (fv:=Cn.val) (fun mb w1 x1 hm hmb=>?_)
 repeat (first|refine go ?_|refine zg λ_ _=>?_|refine zi λ_ _=>?_)
 refine qN rfl rfl (fun b w2 x2 a2 r2 hb=>?_)
 repeat (first|refine go ?_|refine zg λ_ _=>?_|refine zi λ_ _=>?_)
 exact aA rfl ⟨b,mb,rfl,⟨a2,hm.ext x2,Mon.nil⟩,nTr x1.size hb,hmb,x1.trans x2⟩
theorem aL7 {t:TypeId} {b mb:Nat} {m:List En} (p:Pt) (w:World) (h:mD t w b mb m):K.Spec Tryz.prog F.coins_Set_Get [.pointer (some ⟨b,0,none⟩),p.val] w fun v w'=>v=.tuple #[(lR m p).val,.bool (aL m p).isSome]∧Ext w w':=by
 have r:=h.row
 have hM:=h.2.1
 refine aOi rfl ?_
 unfold aCx
 refine oy ?_
 repeat' (first|refine zD (d:=some 3) rfl rfl (fun b1 w1 x1 a1 (r1:Row w1 ⟨b1,0,none⟩ p.cs) hb1=>?_)|(refine zH (d:=some 4) (fun b2 w2 x2 a2 hb2=>?_);have s2:w.heap.size≤b2:=nTr x1.size hb2)|refine lU (d:=some 17) (E:=ptK) (fv:=Cn.val) (k:=p) rfl rfl (dI.ext (w:=w) (by exact fx) hM) rfl rfl (fun c hc=>?_) (fun hc=>?_)|(refine zH (d:=some 6) (fun b6 w6 x6 a6 hb6=>?_);have s6:w.heap.size≤b6:=nTr (Ext.size (w:=w) (by exact fx)) hb6;have s26:w2.heap.size≤b6:=nTr (Ext.size (w:=w2) (by exact fx)) hb6)|refine go1 ?_|refine zg λ_ _=>?_|refine zi λ_ _=>?_)
 ·refine aU (w0:=w) (vs:=c.cs) (by exact fx) s6 a6 rfl rfl rfl rfl rfl (fun w7 x7 c7 a7 r7=>?_)
  have a2':=At.chg c7 (At.ext (w:=w2) (by exact fx) a2) (by have:=a2.lt;simp;omega)
  repeat (first|refine go1 ?_|refine zg λ_ _=>?_|refine zi λ_ _=>?_)
  refine aU (w0:=w) (vs:=c.cs) (by exact fx) s2 a2' rfl rfl rfl rfl rfl (fun w9 x9 c9 a9 r9=>?_)
  repeat (first|refine go1 ?_|refine zg λ_ _=>?_|refine zi λ_ _=>?_)
  exact aA (iR (bD r9 rfl rfl) bJ) ⟨by rw [lR,hc];rfl,x9⟩
 ·refine aU (w0:=w) (vs:=cn0.cs) (by exact fx) s6 a6 rfl rfl rfl rfl rfl (fun w7 x7 c7 a7 r7=>?_)
  have a2':=At.chg c7 (At.ext (w:=w2) (by exact fx) a2) (by have:=a2.lt;simp;omega)
  repeat (first|refine go1 ?_|refine zg λ_ _=>?_|refine zi λ_ _=>?_)
  refine aU (w0:=w) (vs:=cn0.cs) (by exact fx) s2 a2' rfl rfl rfl rfl rfl (fun w9 x9 c9 a9 r9=>?_)
  repeat (first|refine go1 ?_|refine zg λ_ _=>?_|refine zi λ_ _=>?_)
  exact aA (iR (bD r9 rfl rfl) bJ) ⟨by rw [lR,hc];rfl,x9⟩
set_option maxHeartbeats 1000000 in
theorem aL3 {t:TypeId} {b mb:Nat} {m:List En} (p:Pt) (c:Cn) (w:World) (h:mD t w b mb m):K.Spec Tryz.prog F.coins_Set_Put [.pointer (some ⟨b,0,none⟩),p.val,c.val] w fun v w'=>
  v=.int .i64 (gK m p c)∧mD t w' b mb (vQ m p c)∧Chg [b,mb] w w':=by
 have r:=h.row
 have hne:=h.ne
 have hb:=h.1.lt
 have hmb:=h.2.1.lt
 have hM:=h.2.1
 have fail:∀{w':World} {n:Int},Ext w w'→n≠0→gK m p c=n→Value.int .i64 n=.int .i64 (gK m p c)∧mD t w' b mb (vQ m p c)∧Chg [b,mb] w w':=by
  intro w' n x hn hc
  refine ⟨by rw [hc],?_,Chg.mono x (by simp)⟩
  rw [vQ,if_neg (by rw [hc];exact hn)];exact h.ext x
 refine aOa rfl ?_
 unfold aCz
 refine oy ?_
 repeat' (first|refine zD (d:=some 4) rfl rfl (fun b1 w1 x1 a1 (r1:Row w1 ⟨b1,0,none⟩ p.cs) hb1=>?_)|refine zD (d:=some 5) rfl rfl (fun b2 w2 x2 a2 (r2:Row w2 ⟨b2,0,none⟩ c.cs) hb2=>?_)|(refine zC (d:=some 17) rfl (aV8 p c _) ?_;rintro _ w3 ⟨rfl,x3⟩)|refine tZ (x:=.tmp 14) rfl (fun hf=>?_) (fun hf=>?_)|refine lU (d:=some 25) (E:=ptK) (fv:=Cn.val) (k:=p) rfl rfl (dI.ext (w:=w) (by exact fx) hM) rfl rfl (fun d hd=>?_) (fun hd=>?_)|(refine zH (d:=some 7) (fun b6 w6 x6 a6 hb6=>?_);have s6:w.heap.size≤b6:=nTr (Ext.size (w:=w) (by exact fx)) hb6;have s26:w2.heap.size≤b6:=nTr (Ext.size (w:=w2) (by exact fx)) hb6)|refine aU (w0:=w) (n:=3) (vs:=d.cs) (by exact fx) s6 a6 rfl rfl rfl rfl rfl (fun w7 x7 c7 a7 r7=>?_)|(refine aU (w0:=w) (n:=3) (vs:=cn0.cs) (by exact fx) s6 a6 rfl rfl rfl rfl rfl (fun w7 x7 c7 a7 r7=>?_);replace r1:Row w7 ⟨b1,0,none⟩ p.cs:=Row.chg c7 (Row.ext (w:=w1) (by exact fx) r1) (by have:=a1.lt;have:=x2.size;simp;omega);replace r2:Row w7 ⟨b2,0,none⟩ c.cs:=Row.chg c7 (Row.ext (w:=w2) (by exact fx) r2) (by have:=a2.lt;simp;omega);have s01:=x1.size;clear x1 x2 x3 x6 c7 a6)|(refine zC (d:=some 37) rfl (bAu (tot m) c.v _) ?_;rintro _ w8 ⟨rfl,rfl⟩)|refine zN (p:=(if jO (tot m) c.v=true then (0:Int) else 3)=0) rfl (fun he=>?_) (fun he=>?_)|refine fD ?_ ?_|refine go1 ?_|refine zg λ_ _=>?_|refine zi λ_ _=>?_)
 ·exact aA rfl (fail (by exact fx) (by decide) (bKy (by simpa using hf)))
 ·exact aA rfl (fail x7 (by decide) (bLi (by simpa using hf) hd))
 ·have hP:=aY0 (by simpa using hf) hd h.2.2
  have ho:jO (tot m) c.v=false:=by
   cases hx:jO (tot m) c.v
   ·rfl
   ·rw [hx] at he;exact absurd rfl he
  rw [ho] at hP
  refine aA (v:=.int .i64 3) ?_ (fail (by exact fx) (by decide) hP)
  rw [ho];rfl
 all_goals
  have ho:jO (tot m) c.v=true:=by
   cases hx:jO (tot m) c.v
   ·rw [hx] at he;exact absurd he (by decide)
   ·rfl
  have hP:gK m p c=0:=by rw [aY0 (by simpa using hf) hd h.2.2,ho];rfl
  have hn:∀{w' w'':World},At w' b (.cells ([Value.map (some mb),.int .i64 (tot m)].set 1 (.int .i64 (if jO (tot m) c.v=true then tot m+c.v else 0))).toArray t (0,0))→dI ptK Cn.val w' mb (fQ m p c)→Ext w' w''→mD t w'' b mb (vQ m p c):=by
   intro w' w'' ha hM x
   rw [vQ,if_pos hP]
   rw [bG0 hd] at hM
   refine ⟨?_,hM.ext x,h.2.2.put hP⟩
   have:=ha.ext x
   rw [ho] at this
   have e:tot (m++ [(p,c)])=tot m+c.v:=by simp
   rw [e];exact this
  rename_i x78 w9 x89
  have x79:Ext w7 w9:=x78.trans x89
  have x09:Ext w w9:=x7.trans x79
  have h9:=h.ext x09
  have r19:=r1.ext x79
  have r29:=r2.ext x79
  have r9:=h9.row
  clear x7 x78 x89 x79 r1 r2 r r7 a7
  repeat' (first|(refine aZa (d:=some 51) (E:=ptK) (fv:=Cn.val) (k:=p) rfl rfl h9.2.1 rfl rfl (fun st w10 c10 hM10=>?_);have r210:Row w10 ⟨b2,0,none⟩ c.cs:=r29.chg c10 (by simp;omega);have a10:=h9.1.chg c10 (by simp;omega))|(refine yK (E:=ptK) (fv:=Cn.val) (k:=p) (v:=c) rfl rfl rfl hM10 (fun w11 c11 hM11=>?_);have a11:=a10.chg c11 (by simp;omega))|refine go1 ?_|refine zg λ_ _=>?_|refine zi λ_ _=>?_)
  refine bO (b:=b) (o:=1) rfl rfl rfl a11 (by simp) (fun w12 c12 a12=>?_)
  repeat (first|refine go1 ?_|refine zg λ_ _=>?_|refine zi λ_ _=>?_)
  refine aA rfl ⟨by rw [hP];rfl,hn a12 (hM11.chg c12 (by simp;omega)) (Ext.refl _),?_⟩
  refine (x09.chg (c10.trans (c11.trans c12))).mono ?_
  intro y hy
  simp at hy ⊢
  omega
end
end Go.Proofs.YtgloknkcfchnlaaGreat
