/- Contracts: amounts, numbers in bytes. Contracts: checks of a -/
import Derived.Test.YtgloknkcfchnlabGreatDoorZ9
import Derived.Test.YtgloknkcfchnlabGreatDoorZ11
set_option linter.unusedVariables false
set_option linter.unusedSimpArgs false
namespace Go.Proofs.YtgloknkcfchnlabGreatDoor
section
open Go Go.K
attribute [local irreducible] aG aK aU KOp.wp K.Spec leS vnS str
theorem aLh (a b:Int) (w:World):K.Spec Tryz.prog F.amount_Add [.int .i64 a,.int .i64 b] w fun v w'=>v=.tuple #[.int .i64 (if fK a b then a+b else 0),.int .i64 (if fK a b then 0 else 3)]∧w'=w:=by
 refine aJe rfl ?_
 unfold xZ
 refine oy ?_
 have fl:fK a b=false→Value.tuple #[.int .i64 0,.int .i64 3]=.tuple #[.int .i64 (if fK a b then a+b else 0),.int .i64 (if fK a b then 0 else 3)]:=fun h=>by rw [h];rfl
 have tr:fK a b=true→Value.tuple #[.int .i64 (a+b),.int .i64 0]=.tuple #[.int .i64 (if fK a b then a+b else 0),.int .i64 (if fK a b then 0 else 3)]:=fun h=>by rw [h];rfl
 repeat (first|refine go ?_|refine zg λ_ _=>?_|refine zi λ_ _=>?_)
 refine zK rfl (fun h=>?_) (fun h=>?_)
 ·repeat (first|refine go ?_|refine zg λ_ _=>?_|refine zi λ_ _=>?_)
  exact aB rfl ⟨fl (by simp at h;simp [fK,h]),rfl⟩
 ·have ha:=(cX a).1 (by simpa using h)
  repeat (first|refine go ?_|refine zg λ_ _=>?_|refine zi λ_ _=>?_)
  refine zK rfl (fun h2=>?_) (fun h2=>?_)
  ·repeat (first|refine go ?_|refine zg λ_ _=>?_|refine zi λ_ _=>?_)
   exact aB rfl ⟨fl (by simp at h2;simp [fK,h2]),rfl⟩
  ·have hb:=(cX b).1 (by simpa using h2)
   repeat (first|refine go ?_|refine zg λ_ _=>?_|refine zi λ_ _=>?_)
   refine zM rfl (fun h3=>?_) (fun h3=>?_)
   ·repeat (first|refine go ?_|refine zg λ_ _=>?_|refine zi λ_ _=>?_)
    exact aB rfl ⟨fl (by simp at h3;simp [fK,h3]),rfl⟩
   ·repeat (first|refine go ?_|refine zg λ_ _=>?_|refine zi λ_ _=>?_)
    exact aB rfl ⟨tr (by simp at h h2 h3;simp [fK,h,h2,h3]),rfl⟩
theorem yJ {v:Value} {l:List Int} (w:World) (hs:SlE aAo w v l) (hn:l.length≤1000000000000):K.Spec Tryz.prog F.amount_Sum [v] w fun r w'=>r=.tuple #[.int .i64 (gG l),.int .i64 (kG l)]∧w'=w:=by
 refine aI2 rfl ?_
 unfold aAa
 refine oy ?_
 repeat (first|refine go ?_|refine zg λ_ _=>?_|refine zi λ_ _=>?_)
 refine bP rfl hs ?_
 repeat (first|refine go ?_|refine zg λ_ _=>?_|refine zi λ_ _=>?_)
 refine aL (fun (s:Nat × Int) w'=>w'=w∧s.1≤l.length∧iR 0 (l.take s.1)=some s.2) (fun s=> [(4,.int .i64 s.2),(8,v),(9,.int .i64 (l.length:Nat)),(10,.int .i64 s.1)]) (fun s=>l.length - s.1) (0,0) ⟨rfl,rfl,rfl,rfl,trivial⟩ ⟨rfl,by simp,rfl⟩ ?_
 rintro ⟨i,s⟩ ρ w1 ⟨rfl,hi,hk⟩
 simp only at hi hk
 dsimp only
 have hg:=rJ _ _ _ (by decide) hk
 repeat (first|refine go ?_|refine zg λ_ _=>?_|refine zi λ_ _=>?_)
 refine zL rfl (fun h=>?_) (fun h=>?_)
 ·have hil:i<l.length:=by omega
  have ht:=aFv hil
  rw [hk,Option.bind_some] at ht
  repeat (first|refine go ?_|refine zg λ_ _=>?_|refine zi λ_ _=>?_)
  refine aQ rfl rfl hs rfl hil (fun ad r1=>?_)
  repeat (first|refine go ?_|refine zg λ_ _=>?_|refine zi λ_ _=>?_)
  refine zC rfl (aLh s l[i] _) ?_
  rintro _ _ ⟨rfl,rfl⟩
  repeat (first|refine go ?_|refine zg λ_ _=>?_|refine zi λ_ _=>?_)
  have e:fK s l[i]=(cR l[i]&&cR (s+l[i])):=by rw [fK,hg];rfl
  refine aD1 rfl (fun h2=>?_) (fun h2=>?_)
  ·have ho:fK s l[i]=false:=by
    cases ho:fK s l[i]
    ·rfl
    ·rw [ho] at h2;exact absurd rfl h2
   repeat (first|refine go ?_|refine zg λ_ _=>?_|refine zi λ_ _=>?_)
   have hno:=xL (show iR 0 (l.take (i+1))=none by rw [ht,←e,ho];rfl)
   refine aB rfl ⟨?_,rfl⟩
   rw [gG,kG,hno,ho];rfl
  ·have ho:fK s l[i]=true:=by
    cases ho:fK s l[i]
    ·rw [ho] at h2;exact absurd h2 (by decide)
    ·rfl
   repeat (first|refine go ?_|refine zg λ_ _=>?_|refine zi λ_ _=>?_)
   refine ⟨(i+1,s+l[i]),⟨by rw [ho];rfl,rfl,rfl,rfl,trivial⟩,⟨rfl,by simp;omega,?_⟩,by simp;omega⟩
   rw [ht,←e,ho];rfl
 ·repeat (first|refine go ?_|refine zg λ_ _=>?_|refine zi λ_ _=>?_)
  have e:l.take i=l:=tLe (by omega)
  rw [e] at hk
  refine aB rfl ⟨?_,rfl⟩
  rw [gG,kG,hk];rfl
theorem uL {v:Value} {l:List Int} (w:World) (hs:SlE aAo w v l) (hn:l.length≤1000000000000):K.Spec Tryz.prog F.kedgeref01_Sum [v] w fun r w'=>r=.tuple #[.int .i64 (gG l),.int .i64 (kG l)]∧w'=w:=by
 refine aB0 rfl ?_
 unfold qJ
 refine oy ?_
 repeat (first|refine go ?_|refine zg λ_ _=>?_|refine zi λ_ _=>?_)
 refine aL (fun (s:Nat × Int) w'=>w'=w∧s.1≤l.length∧iR 0 (l.take s.1)=some s.2) (fun s=> [(0,v),(4,.int .i64 s.2),(5,.int .i64 s.1)]) (fun s=>l.length - s.1) (0,0) ⟨rfl,rfl,rfl,trivial⟩ ⟨rfl,by simp,rfl⟩ ?_
 rintro ⟨i,s⟩ ρ w1 ⟨rfl,hi,hk⟩
 simp only at hi hk
 dsimp only
 have hg:=(cX _).1 (rJ _ _ _ (by decide) hk)
 repeat (first|refine go ?_|refine zg λ_ _=>?_|refine zi λ_ _=>?_)
 refine bP rfl hs ?_
 repeat (first|refine go ?_|refine zg λ_ _=>?_|refine zi λ_ _=>?_)
 refine zL rfl (fun h=>?_) (fun h=>?_)
 ·have hil:i<l.length:=by omega
  have ht:=aFv hil
  rw [hk,Option.bind_some] at ht
  repeat (first|refine go ?_|refine zg λ_ _=>?_|refine zi λ_ _=>?_)
  refine aQ rfl rfl hs rfl hil (fun ad r1=>?_)
  repeat (first|refine go ?_|refine zg λ_ _=>?_|refine zi λ_ _=>?_)
  refine zM rfl (fun h2=>?_) (fun h2=>?_)
  ·repeat (first|refine go ?_|refine zg λ_ _=>?_|refine zi λ_ _=>?_)
   have ho:cR l[i]=false:=by simpa using h2
   have hno:=xL (show iR 0 (l.take (i+1))=none by rw [ht,ho];rfl)
   refine aB rfl ⟨?_,rfl⟩
   rw [gG,kG,hno];rfl
  ·have hgl:cR l[i]=true:=by simpa using h2
   have hgl':=(cX _).1 hgl
   repeat (first|refine go ?_|refine zg λ_ _=>?_|refine zi λ_ _=>?_)
   refine aQ rfl rfl hs rfl hil (fun ad2 r2=>?_)
   repeat (first|refine go ?_|refine zg λ_ _=>?_|refine zi λ_ _=>?_)
   refine zM rfl (fun h3=>?_) (fun h3=>?_)
   ·repeat (first|refine go ?_|refine zg λ_ _=>?_|refine zi λ_ _=>?_)
    have ho:cR (s+l[i])=false:=by simpa using h3
    have hno:=xL (show iR 0 (l.take (i+1))=none by rw [ht,ho,hgl];rfl)
    refine aB rfl ⟨?_,rfl⟩
    rw [gG,kG,hno];rfl
   ·have ho:cR (s+l[i])=true:=by simpa using h3
    repeat (first|refine go ?_|refine zg λ_ _=>?_|refine zi λ_ _=>?_)
    refine ⟨(i+1,s+l[i]),⟨rfl,rfl,rfl,trivial⟩,⟨rfl,by simp;omega,?_⟩,by simp;omega⟩
    rw [ht,ho,hgl];rfl
 ·repeat (first|refine go ?_|refine zg λ_ _=>?_|refine zi λ_ _=>?_)
  have e:l.take i=l:=tLe (by omega)
  rw [e] at hk
  refine aB rfl ⟨?_,rfl⟩
  rw [gG,kG,hk];rfl
theorem aKw {v:Value} {l:List Int} (a:Int) (w:World) (hs:SlE aAo w v l) (hn:l.length≤1000000000000):K.Spec Tryz.prog F.slices_Index_L_int_int [v,.int .i64 a] w fun r w'=>r=.int .i64 (idxOf (fun x=>decide (a=x)) l)∧w'=w:=by
 refine oS rfl ?_
 unfold iC
 refine oy ?_
 repeat (first|refine go ?_|refine zg λ_ _=>?_|refine zi λ_ _=>?_)
 refine bP rfl hs ?_
 repeat (first|refine go ?_|refine zg λ_ _=>?_|refine zi λ_ _=>?_)
 refine aL (fun (i:Nat) w'=>w'=w∧i≤l.length∧∀j,j<i→∀h:j<l.length,a≠l[j]) (fun i=> [(0,v),(1,.int .i64 a),(6,v),(7,.int .i64 (l.length:Nat)),(8,.int .i64 i)]) (fun i=>l.length - i) 0 ⟨rfl,rfl,rfl,rfl,rfl,trivial⟩ ⟨rfl,by omega,by omega⟩ ?_
 rintro i ρ w1 ⟨rfl,hi,hk⟩
 repeat (first|refine go ?_|refine zg λ_ _=>?_|refine zi λ_ _=>?_)
 refine zL rfl (fun h=>?_) (fun h=>?_)
 ·have hil:i<l.length:=by omega
  repeat (first|refine go ?_|refine zg λ_ _=>?_|refine zi λ_ _=>?_)
  refine aQ rfl rfl hs rfl hil (fun ad r1=>?_)
  repeat (first|refine go ?_|refine zg λ_ _=>?_|refine zi λ_ _=>?_)
  refine zL rfl (fun h2=>?_) (fun h2=>?_)
  ·repeat (first|refine go ?_|refine zg λ_ _=>?_|refine zi λ_ _=>?_)
   exact aB rfl ⟨congrArg (Value.int .i64) (idxOf_hit hil (by simpa using h2) (fun j hj=>by simpa using hk j hj (by omega))).symm,rfl⟩
  ·repeat (first|refine go ?_|refine zg λ_ _=>?_|refine zi λ_ _=>?_)
   refine ⟨i+1,⟨rfl,rfl,rfl,rfl,rfl,trivial⟩,⟨rfl,by omega,fun j hj hl=>?_⟩,by omega⟩
   by_cases hji:j=i
   ·subst hji;exact h2
   ·exact hk j (by omega) hl
 ·repeat (first|refine go ?_|refine zg λ_ _=>?_|refine zi λ_ _=>?_)
  exact aB rfl ⟨congrArg (Value.int .i64) (idxOf_miss (fun j hj=>by simpa using hk j (by omega) hj)).symm,rfl⟩
theorem aFy {v:Value} {l:List Int} (a:Int) (w:World) (hs:SlE aAo w v l) (hn:l.length≤1000000000000):K.Spec Tryz.prog F.slices_Contains_L_int_int [v,.int .i64 a] w fun r w'=>r=.bool (l.any fun x=>decide (a=x))∧w'=w:=by
 refine lD rfl ?_
 unfold gA
 refine oy ?_
 repeat (first|refine go ?_|refine zg λ_ _=>?_|refine zi λ_ _=>?_)
 refine zC rfl (aKw a _ hs hn) ?_
 rintro _ _ ⟨rfl,rfl⟩
 repeat (first|refine go ?_|refine zg λ_ _=>?_|refine zi λ_ _=>?_)
 exact aB rfl ⟨congrArg Value.bool uV,rfl⟩
theorem aE1 (k:Nat) (hk:k=1∨k=2∨k=4∨k=8) (w:World):K.Spec Tryz.prog F.octet_known [.int .i64 (k:Nat)] w fun r w'=>r=.bool true∧Ext w w':=by
 refine aGs rfl ?_
 unfold vV
 refine oy ?_
 repeat (first|refine go ?_|refine zg λ_ _=>?_|refine zi λ_ _=>?_)
 refine zI rfl (fun b w1 x1 a1 hb=>?_)
 repeat (first|refine go ?_|refine zg λ_ _=>?_|refine zi λ_ _=>?_)
 refine zC rfl (aFy (l:= [1,2,4,8]) (k:Nat) _ (SlE.new (E:=aAo) a1 rfl (Nat.le_refl _)) (by decide)) ?_
 rintro _ _ ⟨rfl,rfl⟩
 repeat (first|refine go ?_|refine zg λ_ _=>?_|refine zi λ_ _=>?_)
 refine aB rfl ⟨congrArg Value.bool ?_,x1⟩
 rcases hk with rfl|rfl|rfl|rfl<;>rfl
theorem sK (n k:Nat) (hk:k=1∨k=2∨k=4∨k=8) (hn:n<18446744073709551616) (w:World):K.Spec Tryz.prog F.octet_Put [.int .u64 (n:Nat),.int .i64 (k:Nat)] w fun r w'=>r=.string (leS n k)∧Ext w w':=by
 refine aLm rfl ?_
 unfold aCi
 refine oy ?_
 repeat (first|refine go ?_|refine zg λ_ _=>?_|refine zi λ_ _=>?_)
 refine zC rfl (aE1 k hk _) ?_
 rintro _ w1 ⟨rfl,x1⟩
 repeat (first|refine go ?_|refine zg λ_ _=>?_|refine zi λ_ _=>?_)
 refine aL (fun (s:Nat × Value) w'=>Ext w w'∧s.1≤k∧Own u8E T.uint8 w.heap.size w' s.2 (leL n s.1)) (fun s=> [(0,.int .u64 ((n / 256^s.1:Nat):Int)),(5,s.2),(9,.int .i64 (k:Nat)),(10,.int .i64 s.1)]) (fun s=>k - s.1) (0,.slice none 0 0) ⟨by simp;rfl,rfl,rfl,rfl,trivial⟩ ⟨x1,by simp,Own.nil _ _ _⟩ ?_
 rintro ⟨i,vo⟩ ρ w2 ⟨x2,hi,ho⟩
 simp only at hi ho
 dsimp only
 repeat (first|refine go ?_|refine zg λ_ _=>?_|refine zi λ_ _=>?_)
 refine zL rfl (fun h=>?_) (fun h=>?_)
 ·repeat (first|refine go ?_|refine zg λ_ _=>?_|refine zi λ_ _=>?_)
  refine zI rfl (fun b w3 x3 a3 hb=>?_)
  repeat (first|refine go ?_|refine zg λ_ _=>?_|refine zi λ_ _=>?_)
  refine bY (E:=u8E) (v:=vo) (l2:= [UInt8.ofNat (n / 256^i)]) rfl (ho.ext x3) (nTr x2.size x3.size) rfl rfl (eH a3 rfl) (by rw [zX];rfl) rfl (by rw [bV];simp;omega) (fun vo' w4 ho4 c4=>?_)
  repeat (first|refine go ?_|refine zg λ_ _=>?_|refine zi λ_ _=>?_)
  refine ⟨(i+1,vo'),⟨?_,rfl,rfl,rfl,trivial⟩,⟨((x2.trans x3).chg c4).mono (fun b hb=>.inr (ho.base b (by simpa using hb))),by simp;omega,ho4⟩,by simp;omega⟩
  show Value.int .u64 (Int.fdiv ((n / 256^i:Nat):Int) (2^(min (8:Int).toNat IntKind.u64.bits)))=_
  congr 1
  rw [Nat.pow_succ,←Nat.div_div_eq_div_mul]
  rw [Int.fdiv_eq_ediv_of_nonneg _ (by decide)]
  rfl
 ·repeat (first|refine go ?_|refine zg λ_ _=>?_|refine zi λ_ _=>?_)
  have e:i=k:=by omega
  subst e
  refine vG rfl ho.sl ?_
  repeat (first|refine go ?_|refine zg λ_ _=>?_|refine zi λ_ _=>?_)
  exact aB rfl ⟨by rw [leS];rfl,x2⟩
theorem aG9 (n k:Nat) (hk:k=1∨k=2∨k=4∨k=8) (hn:n<18446744073709551616) (w:World):K.Spec Tryz.prog F.kedgeref02_Put [.int .u64 (n:Nat),.int .i64 (k:Nat)] w fun r w'=>r=.string (leS n k)∧Ext w w':=by
 refine aBw rfl ?_
 unfold qM
 refine oy ?_
 have hk4:k≤8:=by omega
 apply zf;apply z0;apply z1;apply zf;apply z0;apply z1
 refine kT (fun (_:Unit) w'=>w'=w) (fun _=> [(0,.int .u64 (n:Nat)),(1,.int .i64 (k:Nat)),(5,.string ⟨#[]⟩)]) ?_ ?_
 ·repeat (first|refine go ?_|refine zg λ_ _=>?_|refine zi λ_ _=>?_)
  rcases hk with rfl|rfl|rfl|rfl
  all_goals
   repeat (first|refine go ?_|refine zg λ_ _=>?_|refine zi λ_ _=>?_)
   exact ⟨(),⟨rfl,rfl,rfl,trivial⟩,rfl⟩
 rintro _ ρ w rfl
 repeat (first|refine go ?_|refine zg λ_ _=>?_|refine zi λ_ _=>?_)
 refine aL (fun (s:Nat) w'=>Ext w w'∧s≤k) (fun s=> [(0,.int .u64 ((n / 256^s:Nat):Int)),(1,.int .i64 (k:Nat)),(5,.string (leS n s)),(6,.int .i64 s)]) (fun s=>k - s) 0 ⟨by simp;rfl,rfl,by rw [aT3];rfl,rfl,trivial⟩ ⟨Ext.refl _,Nat.zero_le _⟩ ?_
 rintro i ρ w2 ⟨x2,hi⟩
 repeat (first|refine go ?_|refine zg λ_ _=>?_|refine zi λ_ _=>?_)
 refine zL rfl (fun h=>?_) (fun h=>?_)
 ·repeat (first|refine go ?_|refine zg λ_ _=>?_|refine zi λ_ _=>?_)
  refine zI rfl (fun b w3 x3 a3 hb=>?_)
  repeat (first|refine go ?_|refine zg λ_ _=>?_|refine zi λ_ _=>?_)
  have em:Int.tmod ((n / 256^i:Nat):Int) 256=((n / 256^i%256:Nat):Int):=tm _ 256
  have a4:At w3 b (.cells [Value.int .u8 (IntKind.u8.wrap ((n / 256^i%256:Nat):Int))].toArray T.uint8 (0,0)):=by rw [←em];exact a3
  refine aVz rfl a4 ?_
  repeat (first|refine go ?_|refine zg λ_ _=>?_|refine zi λ_ _=>?_)
  have e1:UInt8.ofNat (n / 256^i%256)=UInt8.ofNat (n / 256^i):=by apply UInt8.toNat_inj.1;simp
  refine kA rfl rfl (by rw [cE,gN];simp;omega) ?_
  repeat (first|refine go ?_|refine zg λ_ _=>?_|refine zi λ_ _=>?_)
  refine ⟨i+1,⟨?_,rfl,?_,rfl,trivial⟩,⟨x2.trans x3,by omega⟩,by omega⟩
  ·show Value.int .u64 (IntKind.u64.wrap (Int.tdiv ((n / 256^i:Nat):Int) 256))=_
   have hlt:n / 256^i<18446744073709551616:=Nat.lt_of_le_of_lt (Nat.div_le_self _ _) hn
   have e2:Int.tdiv ((n / 256^i:Nat):Int) 256=((n / 256^(i+1):Nat):Int):=by
    rw [Nat.pow_succ,←Nat.div_div_eq_div_mul];exact td _ 256
   have h8:=Nat.div_le_self n (256^(i+1))
   rw [e2,dO (Int.natCast_nonneg _) (by omega)]
  ·show Value.string (leS n i++str [UInt8.ofNat (n / 256^i%256)])=Value.string (leS n (i+1))
   rw [e1,aUt]
 ·repeat (first|refine go ?_|refine zg λ_ _=>?_|refine zi λ_ _=>?_)
  have e:i=k:=by omega
  subst e
  exact aB rfl ⟨rfl,x2⟩
theorem aS1 (n:Nat) (hn:n<18446744073709551616) (w:World):K.Spec Tryz.prog F.vint_Put [.int .u64 (n:Nat)] w fun r w'=>r=.string (vnS n)∧Ext w w':=by
 refine aO0 rfl ?_
 unfold aFp
 refine oy ?_
 repeat' (first|refine go1 ?_|refine zg λ_ _=>?_|refine zi λ_ _=>?_|refine zL rfl (fun h=>?_) (fun h=>?_)|(refine zC rfl (sK _ _ (by decide) (by first|exact hn|decide) _) ?_;rintro _ _ ⟨rfl,_⟩)|refine kA rfl rfl (by rw [cE,cE];decide) ?_)
 ·exact aB rfl ⟨congrArg Value.string (by rw [vnS,if_pos (by omega)]),by repeat (first|assumption|exact Ext.refl _|refine Ext.trans ?_ (by assumption))⟩
 ·exact aB rfl ⟨congrArg Value.string (by rw [vnS,if_neg (by omega),if_pos (by omega)]),by repeat (first|assumption|exact Ext.refl _|refine Ext.trans ?_ (by assumption))⟩
 ·exact aB rfl ⟨congrArg Value.string (by rw [vnS,if_neg (by omega),if_neg (by omega),if_pos (by omega)]),by repeat (first|assumption|exact Ext.refl _|refine Ext.trans ?_ (by assumption))⟩
 ·exact aB rfl ⟨congrArg Value.string (by rw [vnS,if_neg (by omega),if_neg (by omega),if_neg (by omega)]),by repeat (first|assumption|exact Ext.refl _|refine Ext.trans ?_ (by assumption))⟩
theorem aPf (n:Nat) (hn:n<18446744073709551616) (w:World):K.Spec Tryz.prog F.kedgeref03_Put [.int .u64 (n:Nat)] w fun r w'=>r=.string (vnS n)∧Ext w w':=by
 refine aB6 rfl ?_
 unfold qI
 refine oy ?_
 repeat' (first|refine go1 ?_|refine zg λ_ _=>?_|refine zi λ_ _=>?_|refine zL rfl (fun h=>?_) (fun h=>?_)|(refine zC rfl (aG9 _ _ (by decide) hn _) ?_;rintro _ _ ⟨rfl,_⟩)|refine kA rfl rfl (by rw [cE];decide) ?_)
 ·exact aB rfl ⟨congrArg Value.string (by rw [vnS,if_pos (by omega)]),by repeat (first|assumption|exact Ext.refl _|refine Ext.trans ?_ (by assumption))⟩
 ·exact aB rfl ⟨congrArg Value.string (by rw [vnS,if_neg (by omega),if_pos (by omega),aYh]),by repeat (first|assumption|exact Ext.refl _|refine Ext.trans ?_ (by assumption))⟩
 ·exact aB rfl ⟨congrArg Value.string (by rw [vnS,if_neg (by omega),if_neg (by omega),if_pos (by omega),aZk]),by repeat (first|assumption|exact Ext.refl _|refine Ext.trans ?_ (by assumption))⟩
 ·exact aB rfl ⟨congrArg Value.string (by rw [vnS,if_neg (by omega),if_neg (by omega),if_neg (by omega),aZm]),by repeat (first|assumption|exact Ext.refl _|refine Ext.trans ?_ (by assumption))⟩
theorem jL (n:Nat) (hn:n<9223372036854775808) (w:World):K.Spec Tryz.prog F.wire_counted [.int .i64 (n:Nat)] w fun r w'=>r=.string (vnS n)∧Ext w w':=by
 refine aGk rfl ?_
 unfold tM
 refine oy ?_
 repeat (first|refine go ?_|refine zg λ_ _=>?_|refine zi λ_ _=>?_)
 rw [dO (by omega) (by omega)]
 refine zC rfl (aS1 n (by omega) _) ?_
 rintro _ w1 ⟨rfl,x1⟩
 repeat (first|refine go ?_|refine zg λ_ _=>?_|refine zi λ_ _=>?_)
 exact aB rfl ⟨rfl,x1⟩
theorem iZ (n:Nat) (hn:n<9223372036854775808) (w:World):K.Spec Tryz.prog F.kedgeref06_length [.int .i64 (n:Nat)] w fun r w'=>r=.string (vnS n)∧Ext w w':=by
 refine vL rfl ?_
 unfold kW
 refine oy ?_
 repeat (first|refine go ?_|refine zg λ_ _=>?_|refine zi λ_ _=>?_)
 rw [dO (by omega) (by omega)]
 refine zC rfl (aPf n (by omega) _) ?_
 rintro _ w1 ⟨rfl,x1⟩
 repeat (first|refine go ?_|refine zg λ_ _=>?_|refine zi λ_ _=>?_)
 exact aB rfl ⟨rfl,x1⟩
theorem aEd (s:ByteArray) (hs:s.size≤1000000) (w:World):K.Spec Tryz.prog F.wire_sized [.string s] w fun r w'=>r=.string (vnS s.size++s)∧Ext w w':=by
 refine aIw rfl ?_
 unfold zU
 refine oy ?_
 repeat (first|refine go ?_|refine zg λ_ _=>?_|refine zi λ_ _=>?_)
 refine zC rfl (jL s.size (by omega) _) ?_
 rintro _ w1 ⟨rfl,x1⟩
 repeat (first|refine go ?_|refine zg λ_ _=>?_|refine zi λ_ _=>?_)
 have:=dS s.size
 refine kA rfl rfl (by omega) ?_
 repeat (first|refine go ?_|refine zg λ_ _=>?_|refine zi λ_ _=>?_)
 exact aB rfl ⟨rfl,x1⟩
end
section
open Go Go.K
attribute [local irreducible] aG aK aU KOp.wp K.Spec leS vnS str
theorem sE {M:List Nat} {cs:List Value} {t:Tx} (w:World) (ht:txR.rel M w cs t) (hs:t.Sm):K.Spec Tryz.prog F.kedgeref05_Total [.agg cs.toArray] w fun r w'=>r=.tuple #[.int .i64 (gG (values t)),.int .i64 (kG (values t))]∧Ext w w':=by
 obtain ⟨iv,ov,rfl,hi,ho,hv,hl⟩:=ht
 have h1:=hs.outs
 refine xV rfl ?_
 unfold lR
 refine oy ?_
 repeat' (first|refine go1 ?_|refine zg λ_ _=>?_|refine zi λ_ _=>?_|(first|refine zD rfl rfl (fun bp wp xp ap rp hp0=>?_)|refine zE (fun _=>rfl) rfl rfl rfl (fun bq wq xq aq rq hq0=>?_))|refine zG rfl (by exact fx) ?_|refine zL rfl (fun h=>?_) (fun h=>?_)|(refine aL (fun (s:Nat × Value) w'=>Ext wp w'∧s.1≤t.outs.length∧Own aAo T.int wp.heap.size w' s.2 ((values t).take s.1)) (fun s=> [(1,.pointer (some ⟨bp,0,none⟩)),(4,s.2),(5,.int .i64 s.1)]) (fun s=>t.outs.length - s.1) (0,.slice none 0 0) ⟨rfl,rfl,rfl,trivial⟩ ⟨by exact fx,by simp,Own.nil _ _ _⟩ ?_;rintro ⟨i,vo⟩ ρ w1 ⟨x1,hi1,hO⟩;simp only at hi1 hO;dsimp only)|(refine aM rfl rfl (n:=i) (l:=t.outs) (by exact fx) rfl (by omega) (fun ad cs r2 he=>?_);obtain ⟨rfl,_⟩:=he;have hil:i<t.outs.length:=by omega)|refine zI rfl (fun b w3 x3 a3 hb=>?_)|refine bY (E:=aAo) (v:=vo) (l2:= [t.outs[i].v]) rfl (hO.ext (by exact fx)) (Ext.size (w:=wp) (by exact fx)) rfl rfl (eH a3 rfl) rfl rfl (by simp;omega) (fun vo' w4 ho4 c4=>?_)|(refine zC rfl (uL (l:=(values t).take i) _ hO.sl (by simp;omega)) ?_;rintro _ _ ⟨rfl,rfl⟩))
 ·refine ⟨(i+1,vo'),⟨rfl,rfl,rfl,trivial⟩,⟨(Chg.ext (l:= []) (Ext.chg (w:=wp) (by exact fx) c4 |>.mono (fun b hb=>.inr (hO.base b (by simpa using hb)))) (Ext.refl _)),by simp;omega,?_⟩,by simp;omega⟩
  have e:(values t).take (i+1)=(values t).take i++ [t.outs[i].v]:=by
   rw [List.take_succ_eq_append_getElem (by simpa [values] using hil)];simp [values]
  show Own _ _ _ _ _ ((values t).take (i+1))
  rw [e];exact ho4
 ·have e:(values t).take i=values t:=tLe (by simp [values];omega)
  refine aB rfl ⟨?_,xp.trans x1⟩
  show Value.tuple #[.int .i64 (gG ((values t).take i)),.int .i64 (kG ((values t).take i))]=_
  rw [e]
theorem aEh {α:Type} {p:α→Bool} {l:List α} {i:Nat} (h:i<l.length) (hp:p l[i]=true):l.any p=true:=List.any_eq_true.2 ⟨_,gMe h,hp⟩
theorem sD {α:Type} {p:α→Bool} {l:List α} (hp:∀j (h:j<l.length),p l[j]=false):l.any p=false:=List.any_eq_false.2 fun x hx=>by
 obtain ⟨j,h,rfl⟩:=List.getElem_of_mem hx
 rw [hp j h];simp
theorem aNy {M:List Nat} {cs:List Value} {t:Tx} (w:World) (ht:txR.rel M w cs t) (hs:t.Sm):K.Spec Tryz.prog F.kedgeref05_long [.agg cs.toArray] w fun r w'=>r=.bool (pN t)∧Ext w w':=by
 obtain ⟨iv,ov,rfl,hi,ho,hv,hl⟩:=ht
 have h1:=hs.outs
 have h2:=hs.ins
 have h3:=hs.wit
 refine yK rfl ?_
 unfold nI
 refine oy ?_
 repeat' (first|refine go1 ?_|refine zg λ_ _=>?_|refine zi λ_ _=>?_|(first|refine zD rfl rfl (fun bp wp xp ap rp hp0=>?_)|refine zE (fun _=>rfl) rfl rfl rfl (fun bq wq xq aq rq hq0=>?_))|refine zG rfl (by exact fx) ?_|refine zL rfl (fun h=>?_) (fun h=>?_)|(refine aL (fun (i:Nat) w'=>wp=w'∧i≤t.outs.length∧∀j,j<i→∀h:j<t.outs.length,nB t.outs[j]=false) (fun i=> [(1,.pointer (some ⟨bp,0,none⟩)),(3,.int .i64 i)]) (fun i=>t.outs.length - i) 0 ⟨rfl,rfl,trivial⟩ ⟨rfl,by omega,by omega⟩ ?_;rintro i ρ _ ⟨rfl,hi1,hk⟩)|(have hal:a<t.ins.length:=(by omega);refine aL (fun (k:Nat) w'=>wp=w'∧k≤t.ins[a].wit.length∧∀j,j<k→∀h:j<t.ins[a].wit.length,mC t.ins[a].wit[j]=false) (fun k=> [(1,.pointer (some ⟨bp,0,none⟩)),(4,.int .i64 a),(5,.int .i64 k)]) (fun k=>t.ins[a].wit.length - k) 0 ⟨rfl,rfl,rfl,trivial⟩ ⟨rfl,by omega,by omega⟩ ?_;rintro k ρ3 _ ⟨rfl,hk1,hkk⟩)|(refine aL (fun (a:Nat) w'=>wp=w'∧a≤t.ins.length∧∀j,j<a→∀h:j<t.ins.length,aBx t.ins[j]=false) (fun a=> [(1,.pointer (some ⟨bp,0,none⟩)),(4,.int .i64 a)]) (fun a=>t.ins.length - a) 0 ⟨rfl,rfl,trivial⟩ ⟨rfl,by omega,by omega⟩ ?_;rintro a ρ2 _ ⟨rfl,ha1,hka⟩)|(refine aM rfl rfl (n:=k) (l:=t.ins[a].wit) (by exact fx) rfl (by omega) (fun ad cs r4 he=>?_);have hq:cs= [Value.string t.ins[a].wit[k]]:=he;rw [hq] at r4)|(refine aM rfl rfl (n:=a) (l:=t.ins) (by exact fx) rfl (by omega) (fun ad cs r2 he=>?_);obtain ⟨wv,rfl,hw,_⟩:=he;have hm:=h3 _ (gMe hal))|(refine aM rfl rfl (n:=i) (l:=t.outs) (by exact fx) rfl (by omega) (fun ad cs r2 he=>?_);obtain ⟨rfl,_⟩:=he;have hil:i<t.outs.length:=by omega))
 ·refine aB rfl ⟨congrArg Value.bool ?_,by exact fx⟩
  rw [pN,aEh hil (by simpa [nB] using h)];rfl
 ·exact ⟨i+1,⟨rfl,rfl,trivial⟩,⟨rfl,by omega,fun j hj hl=>by
   rcases Nat.lt_succ_iff_lt_or_eq.1 hj with hj|rfl
   ·exact hk j hj hl
   ·simpa [nB] using h⟩,by omega⟩
 ·refine aB rfl ⟨congrArg Value.bool ?_,by exact fx⟩
  have hkl:k<t.ins[a].wit.length:=by omega
  have e1:aBx t.ins[a]=true:=aEh hkl (by simpa [mC] using h)
  rw [pN,aEh (l:=t.ins) hal e1,Bool.or_true]
 ·exact ⟨k+1,⟨rfl,rfl,rfl,trivial⟩,⟨rfl,by omega,fun j hj hl=>by
   rcases Nat.lt_succ_iff_lt_or_eq.1 hj with hj|rfl
   ·exact hkk j hj hl
   ·simpa [mC] using h⟩,by omega⟩
 ·exact ⟨a+1,⟨rfl,rfl,trivial⟩,⟨rfl,by omega,fun j hj hl=>by
   rcases Nat.lt_succ_iff_lt_or_eq.1 hj with hj|rfl
   ·exact hka j hj hl
   ·exact sD fun k' hk'=>hkk k' (by omega) hk'⟩,by omega⟩
 ·refine aB rfl ⟨congrArg Value.bool ?_,by exact fx⟩
  rw [pN,sD fun j hj=>hk j (by omega) hj,sD fun j hj=>hka j (by omega) hj];rfl
theorem fL {P:Program} {d:Option Tmp} {r:KR} {K:Env→World→Prop} {ρ:Env} {w:World} {x i:Operand} {s:ByteArray} {k:IntKind} {n:Nat} (hx:ev ρ x=.string s) (hi:ev ρ i=.int k n) (h:n<s.size) (kk:aG P r K (put ρ d (.int .u8 (s[n].toNat:Nat))) w):aG P (.cons ⟨d,.indexStr x i,none⟩ r) K ρ w:=cJ rfl (by simp [KOp.fix,hx,hi,h]) kk
theorem aB1:aN.data=Array.replicate 32 0:=by
 unfold aN str;rfl
theorem aU8 {s:ByteArray} (hs:s.size=32) (h:∀j (hj:j<s.size),s[j].toNat=0):s=aN:=by
 apply ByteArray.ext
 rw [aB1]
 apply Array.ext
 ·rw [Array.size_replicate];exact hs
 ·intro i h1 h2
  rw [Array.getElem_replicate]
  exact UInt8.toNat_inj.1 (h i h1)
theorem aSs:aN.size=32:=by
 show aN.data.size=32
 rw [aB1,Array.size_replicate]
theorem aTs {s:ByteArray} (e:s=aN) {j:Nat} (hj:j<s.size):s[j].toNat=0:=by
 subst e
 show (aN.data[j]'hj).toNat=0
 have:∀(a:Array UInt8) (h:j<a.size),a=Array.replicate 32 0→(a[j]'h).toNat=0:=by
  intro a h e
  subst e
  rw [Array.getElem_replicate];rfl
 exact this _ _ aB1
theorem aP4 {p:Prop} [Decidable p] (h:(!decide p)=true):¬p:=by simpa using h
theorem aH9 {p:Prop} [Decidable p] (h:(!decide p)=false):p:=by simpa using h
theorem qZ (p:Pt) (w:World):K.Spec Tryz.prog F.kedgeref05_Base [.agg p.cs.toArray] w fun r w'=>r=.bool (gO p)∧Ext w w':=by
 refine yA rfl ?_
 unfold oE
 refine oy ?_
 repeat' (first|refine go1 ?_|refine zg λ_ _=>?_|refine zi λ_ _=>?_|(first|refine zD rfl rfl (fun bp wp xp ap rp hp0=>?_)|refine zE (fun _=>rfl) rfl rfl rfl (fun bq wq xq aq rq hq0=>?_))|refine zG rfl (by exact fx) ?_|refine zL rfl (fun h=>?_) (fun h=>?_)|refine zK rfl (fun h1=>?_) (fun h1=>?_)|refine zM rfl (fun h2=>?_) (fun h2=>?_)|(have hs:p.s.size=32:=(by have:=aH9 h1;omega);refine fL (n:=i) rfl rfl (by omega) ?_)|(refine aL (fun (i:Nat) w'=>wp=w'∧i≤32∧∀j,j<i→∀h:j<p.s.size,p.s[j].toNat=0) (fun i=> [(1,.pointer (some ⟨bp,0,none⟩)),(3,.int .i64 i)]) (fun i=>32 - i) 0 ⟨rfl,rfl,trivial⟩ ⟨rfl,by omega,by omega⟩ ?_;rintro i ρ _ ⟨rfl,hi1,hk⟩))
 ·refine aB rfl ⟨congrArg Value.bool ?_,by exact fx⟩
  have h:p.s≠aN:=fun e=>aP4 h1 (by rw [e,aSs];rfl)
  rw [gO,dFa (p:=p.s=oA.s) h];rfl
 ·refine aB rfl ⟨congrArg Value.bool ?_,by exact fx⟩
  have h:=aP4 h2
  rw [gO,dFa (p:=p.i=oA.i) h,Bool.and_false]
 ·refine aB rfl ⟨congrArg Value.bool ?_,by exact fx⟩
  have h:p.s≠aN:=fun e=>aP4 h2 (by rw [aTs e];rfl)
  rw [gO,dFa (p:=p.s=oA.s) h];rfl
 ·exact ⟨i+1,⟨rfl,rfl,trivial⟩,⟨rfl,by omega,fun j hj hl=>by
   rcases Nat.lt_succ_iff_lt_or_eq.1 hj with hj|rfl
   ·exact hk j hj hl
   ·have:=aH9 h2;omega⟩,by omega⟩
 ·refine aB rfl ⟨congrArg Value.bool ?_,by exact fx⟩
  have hs:p.s.size=32:=by have:=aH9 h1;omega
  have h:p.s=oA.s:=aU8 hs fun j hj=>hk j (by omega) hj
  rw [gO,dTr h,dTr (p:=p.i=oA.i) (aH9 h2)];rfl
end
section
open Go Go.K
attribute [local irreducible] aG aK aU KOp.wp K.Spec leS vnS str aN
theorem aTe {t:Tx} (h:¬(1≤(t.ins.length:Int)∧(t.ins.length:Int)≤256∧1≤(t.outs.length:Int)∧(t.outs.length:Int)≤256)):aJ t=6:=by
 have:fN t=false:=by
  unfold fN
  by_cases h1:1≤(t.ins.length:Int)∧(t.ins.length:Int)≤256
  ·have h2:¬(1≤(t.outs.length:Int)∧(t.outs.length:Int)≤256):=by omega
   rw [dFa h2];simp
  ·rw [dFa h1];simp
 rw [aJ,this];rfl
theorem aTo {t:Tx} {j:Nat} (h:j<t.ins.length) (hw:(t.ins[j].wit.length:Int)>4):aJ t=6:=by
 have:fN t=false:=by
  unfold fN
  rw [aEh h (by simpa using hw)];simp
 rw [aJ,this];rfl
theorem aT7 {t:Tx} (h:1≤(t.ins.length:Int)∧(t.ins.length:Int)≤256∧1≤(t.outs.length:Int)∧(t.outs.length:Int)≤256) (hw:∀j (h:j<t.ins.length),¬(t.ins[j].wit.length:Int)>4):fN t=true:=by
 unfold fN
 rw [sD (p:=fun x:TIn=>decide ((x.wit.length:Int)>4)) fun j h=>dFa (hw j h),dTr (p:=1≤(t.ins.length:Int)∧(t.ins.length:Int)≤256) (by omega),dTr (p:=1≤(t.outs.length:Int)∧(t.outs.length:Int)≤256) (by omega)];rfl
theorem aUh {t:Tx} {j:Nat} (h:j<t.ins.length) (hb:pW t t.ins[j]=true):gE t=false:=by
 rw [gE,aEh h hb];rfl
theorem aVb {t:Tx} (h:∀j (h:j<t.ins.length),pW t t.ins[j]=false):gE t=true:=by
 rw [gE,sD h];rfl
theorem aVv {t:Tx} {a b:Nat} (ha:a<t.ins.length) (hb:b<a) (h:t.ins[a].p=t.ins[b].p):tD t=true:=by
 have hpl:(bR t).length=t.ins.length:=by simp [bR]
 refine aIp (i:=a+1) ?_
 rw [aBh (by omega)]
 have:((bR t).take a).contains (bR t)[a]=true:=by
  rw [List.contains_iff_mem]
  refine List.mem_take_iff_getElem.2 ⟨b,by omega,?_⟩
  simp only [bR,List.getElem_map]
  exact h.symm
 rw [this];rfl
theorem aWn {t:Tx} {a:Nat} (ha:a<(bR t).length) (hd:rB ((bR t).take a).reverse=false) (h:∀j (hj:j<a),(bR t)[j]≠(bR t)[a]):rB ((bR t).take (a+1)).reverse=false:=by
 rw [aBh ha,hd,Bool.or_false]
 rw [←Bool.not_eq_true,List.contains_iff_mem,List.mem_take_iff_getElem]
 rintro ⟨j,hj,e⟩
 exact h j (by omega) e
theorem aXb {t:Tx} {a:Nat} (h:t.ins.length≤a) (hd:rB ((bR t).take a).reverse=false):tD t=false:=by
 rw [tLe (by simp [bR];omega)] at hd;exact hd
theorem aNr {p q:Pt} (h1:p.s=q.s) (h2:p.i=q.i):p=q:=by cases p;cases q;simp_all
set_option maxHeartbeats 2000000 in
theorem kK {M : List Nat} {cs : List Value} {t : Tx} (w : World) (ht : txR.rel M w cs t) (hs : t.Sm) : K.Spec Tryz.prog F.kedgeref05_Check [.agg cs.toArray] w fun r w' => r = .int .i64 (aJ t) ∧ Ext w w' := by
  have ht0 := ht
  obtain ⟨iv, ov, rfl, hi, ho, hv, hl⟩ := ht
  have h1 := hs.outs
  have h2 := hs.ins
  have h3 := hs.wit
  have hpl : (bR t).length = t.ins.length := by simp [bR]
  have hpg : ∀ i (h : i < t.ins.length), (bR t)[i]'(by rw [hpl]; exact h) = t.ins[i].p := fun i h => by simp [bR]
  refine wX rfl ?_
  unfold mJ
  refine oy ?_
  repeat' (first|refine go1 ?_|refine zg λ_ _=>?_|refine zi λ_ _=>?_|(first|refine zD rfl rfl (fun bp wp xp ap rp hp0=>?_)|refine zE (fun _=>rfl) rfl rfl rfl (fun bq wq xq aq rq hq0=>?_))|refine zG rfl (by exact fx) ?_|refine zL rfl (fun h => ?_) (fun h => ?_)|refine zK rfl (fun h => ?_) (fun h => ?_)|refine zM rfl (fun h => ?_) (fun h => ?_)|(refine zC rfl (aNy (M := M) _ (cs := aT t iv ov) (by exact fx) hs) ?_; rintro _ w3 ⟨rfl, x3⟩)|(refine zC rfl (sE (M := M) _ (cs := aT t iv ov) (by exact fx) hs) ?_; rintro _ w4 ⟨rfl, x4⟩)|(refine aL (fun (i : Nat) w' => wp = w' ∧ i ≤ t.ins.length ∧ ∀ j, j < i → ∀ h : j < t.ins.length, ¬ (t.ins[j].wit.length : Int) > 4) (fun i => [(1, .pointer (some ⟨bp, 0, none⟩)), (3, .int .i64 i)]) (fun i => t.ins.length - i) 0 ⟨rfl, rfl, trivial⟩ ⟨rfl, by omega, by omega⟩ ?_; rintro i ρ _ ⟨rfl, hi1, hk⟩)|(refine aL (fun (u : Nat) w' => Ext wp w' ∧ u ≤ t.ins.length ∧ ∀ j, j < u → ∀ h : j < t.ins.length, pW t t.ins[j] = false) (fun u => [(1, .pointer (some ⟨bp, 0, none⟩)), (5, .int .i64 u)]) (fun u => t.ins.length - u) 0 ⟨rfl, rfl, trivial⟩ ⟨by exact fx, by omega, by omega⟩ ?_; rintro u ρ2 w5 ⟨x5, hu1, hku⟩)|(refine aL (fun (b : Nat) w' => Ext w6 w' ∧ b ≤ a ∧ ∀ j (hj : j < b) (hl : j < (bR t).length) (ha : a < (bR t).length), (bR t)[j] ≠ (bR t)[a]) (fun b => [(1, .pointer (some ⟨bp, 0, none⟩)), (7, .int .i64 a), (8, .int .i64 b)]) (fun b => a - b) 0 ⟨rfl, rfl, rfl, trivial⟩ ⟨Ext.refl _, by omega, by omega⟩ ?_; rintro b ρ4 w8 ⟨x8, hb1, hkb⟩)|(refine aL (fun (a : Nat) w' => Ext wp w' ∧ a ≤ t.ins.length ∧ rB ((bR t).take a).reverse = false) (fun a => [(1, .pointer (some ⟨bp, 0, none⟩)), (7, .int .i64 a)]) (fun a => t.ins.length - a) 0 ⟨rfl, rfl, trivial⟩ ⟨by exact fx, by omega, by simp [rB]⟩ ?_; rintro a ρ3 w6 ⟨x6, ha1, hd⟩)|(refine zC rfl (qZ _ _) ?_; rintro _ w7 ⟨rfl, x7⟩)|(refine aM rfl rfl (n := b) (l := t.ins) (by exact fx) rfl (by omega) (fun ad cs r2 he => ?_); obtain ⟨wv, rfl, hw, _⟩ := he; obtain ⟨_, _, rfl⟩ := hw.form; have hbl : b < t.ins.length := (by omega))|(refine aM rfl rfl (n := a) (l := t.ins) (by exact fx) rfl (by omega) (fun ad cs r2 he => ?_); obtain ⟨wv, rfl, hw, _⟩ := he; obtain ⟨_, _, rfl⟩ := hw.form; have hal : a < t.ins.length := (by omega))|(refine aM rfl rfl (n := u) (l := t.ins) (by exact fx) rfl (by omega) (fun ad cs r2 he => ?_); obtain ⟨wv, rfl, hw, _⟩ := he; obtain ⟨_, _, rfl⟩ := hw.form; have hul : u < t.ins.length := (by omega))|(refine aM rfl rfl (n := i) (l := t.ins) (by exact fx) rfl (by omega) (fun ad cs r2 he => ?_); obtain ⟨wv, rfl, hw, _⟩ := he; obtain ⟨_, _, rfl⟩ := hw.form; have hil : i < t.ins.length := (by omega)))
  all_goals try simp only [decide_eq_true_eq, decide_eq_false_iff_not] at *
  all_goals first
    | (refine aB rfl ⟨congrArg (Value.int .i64) ?_, by exact fx⟩
       first
       | (refine (aTe ?_).symm; omega)
       | exact (aTo (j := i) (by omega) (by assumption)).symm
       | (have c1 := aT7 (t := t) (by omega) (fun j hj => hk j (by omega) hj)
          rw [aJ, c1]
          first
          | (have hlong : pN t = true := by assumption
             rw [hlong]; rfl)
          | (have hlong : pN t = false := by assumption
             rw [hlong]
             first
             | (rw [aUh (j := u) (by omega) (by simp_all [pW, gO])]; rfl)
             | (rw [aVb fun j hj => hku j (by omega) hj]
                first
                | (rw [aVv (a := a) (b := b) (by omega) (by omega) (aNr (by simp_all) (by simp_all))]; rfl)
                | (rw [aXb (a := a) (by omega) hd]; rfl)))))
    | exact ⟨i + 1, ⟨rfl, rfl, trivial⟩, ⟨by trivial, by omega, fun j hj hl => by
        rcases Nat.lt_succ_iff_lt_or_eq.1 hj with hj | rfl
        · exact hk j hj hl
        · assumption⟩, by omega⟩
    | (refine ⟨u + 1, ⟨rfl, rfl, trivial⟩, ⟨by exact fx, by omega, fun j hj hl => ?_⟩, by omega⟩
       by_cases hji : j = u
       · subst hji; simp_all [pW, gO]; done
       · exact hku j (by omega) hl)
    | (refine ⟨b + 1, ⟨rfl, rfl, rfl, trivial⟩, ⟨by exact fx, by omega, fun j hj hl ha => ?_⟩, by omega⟩
       by_cases hji : j = b
       · subst hji; rw [hpg _ hbl, hpg _ hal]; intro e; simp_all; done
       · exact hkb j (by omega) hl ha)
    | exact ⟨a + 1, ⟨rfl, rfl, trivial⟩, ⟨by exact fx, by omega, aWn (by omega) hd fun j hj => hkb j (by omega) (by omega) (by omega)⟩, by omega⟩
    | trace_state
end
end Go.Proofs.YtgloknkcfchnlabGreatDoor
