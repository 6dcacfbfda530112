/- Contracts: amounts, numbers in bytes. Contracts: checks of a -/
import Derived.Shelf.Strings.Builder1
import Derived.Shelf.Strings.Builder2
import Derived.Shelf.Strings.BuilderF
import Derived.Shelf.Strings.BuilderK
import Derived.Shelf.Strings.Prefix
import Derived.Shelf.Bits.Mul64
import Derived.Shelf.Strings.Repeat
import Derived.Ground.SlgnProg
import Derived.Ground.SlgfProg
import Derived.Test.YtfebcajheojodaaGreatDoorProg
import Derived.Ground.SlmcProg
import Derived.Shelf.SlMaps.Clone
import Derived.Shelf.SlicesE.DeleteFunc
import Derived.Test.YtfebcajheojodaaGreatDoorZ11
set_option linter.unusedVariables false
set_option linter.unusedSimpArgs false
namespace Go.Proofs.YtfebcajheojodaaGreatDoor
section
open Go Go.K
attribute [local irreducible] aO aU bQ KOp.wp K.Spec leS vnS str
theorem aX4 (a b:Int) (w:World):K.Spec Tryz.prog F.amount_Add [.int .i64 a,.int .i64 b] w fun v w'=>v=.tuple #[.int .i64 (if iQ a b then a+b else 0),.int .i64 (if iQ a b then 0 else 3)]∧w'=w:=by
 refine aVa rfl ?_
 unfold aHd
 refine oy ?_
 have fl:iQ a b=false→Value.tuple #[.int .i64 0,.int .i64 3]=.tuple #[.int .i64 (if iQ a b then a+b else 0),.int .i64 (if iQ a b then 0 else 3)]:=fun h=>by rw [h];rfl
 have tr:iQ a b=true→Value.tuple #[.int .i64 (a+b),.int .i64 0]=.tuple #[.int .i64 (if iQ a b then a+b else 0),.int .i64 (if iQ a b then 0 else 3)]:=fun h=>by rw [h];rfl
 repeat (first|refine go ?_|refine zg λ_ _=>?_|refine zi λ_ _=>?_)
 refine zK rfl (fun h=>?_) (fun h=>?_)
 ·repeat (first|refine go ?_|refine zg λ_ _=>?_|refine zi λ_ _=>?_)
  exact aC rfl ⟨fl (by simp at h;simp [iQ,h]),rfl⟩
 ·have ha:=(bG a).1 (by simpa using h)
  repeat (first|refine go ?_|refine zg λ_ _=>?_|refine zi λ_ _=>?_)
  refine zK rfl (fun h2=>?_) (fun h2=>?_)
  ·repeat (first|refine go ?_|refine zg λ_ _=>?_|refine zi λ_ _=>?_)
   exact aC rfl ⟨fl (by simp at h2;simp [iQ,h2]),rfl⟩
  ·have hb:=(bG b).1 (by simpa using h2)
   repeat (first|refine go ?_|refine zg λ_ _=>?_|refine zi λ_ _=>?_)
   refine zM rfl (fun h3=>?_) (fun h3=>?_)
   ·repeat (first|refine go ?_|refine zg λ_ _=>?_|refine zi λ_ _=>?_)
    exact aC rfl ⟨fl (by simp at h3;simp [iQ,h3]),rfl⟩
   ·repeat (first|refine go ?_|refine zg λ_ _=>?_|refine zi λ_ _=>?_)
    exact aC rfl ⟨tr (by simp at h h2 h3;simp [iQ,h,h2,h3]),rfl⟩
theorem aH8 {v:Value} {l:List Int} (w:World) (hs:SlE aJf w v l) (hn:l.length≤1000000000000):K.Spec Tryz.prog F.amount_Sum [v] w fun r w'=>r=.tuple #[.int .i64 (fX l),.int .i64 (kB l)]∧w'=w:=by
 refine aUk rfl ?_
 unfold aHr
 refine oy ?_
 repeat (first|refine go ?_|refine zg λ_ _=>?_|refine zi λ_ _=>?_)
 refine bY rfl hs ?_
 repeat (first|refine go ?_|refine zg λ_ _=>?_|refine zi λ_ _=>?_)
 refine aQ (fun (s:Nat × Int) w'=>w'=w∧s.1≤l.length∧jP 0 (l.take s.1)=some s.2) (fun s=> [(4,.int .i64 s.2),(8,v),(9,.int .i64 (l.length:Nat)),(10,.int .i64 s.1)]) (fun s=>l.length - s.1) (0,0) ⟨rfl,rfl,rfl,rfl,trivial⟩ ⟨rfl,by simp,rfl⟩ ?_
 rintro ⟨i,s⟩ ρ w1 ⟨rfl,hi,hk⟩
 simp only at hi hk
 dsimp only
 have hg:=zS _ _ _ (by decide) hk
 repeat (first|refine go ?_|refine zg λ_ _=>?_|refine zi λ_ _=>?_)
 refine zL rfl (fun h=>?_) (fun h=>?_)
 ·have hil:i<l.length:=by omega
  have ht:=aP9 hil
  rw [hk,Option.bind_some] at ht
  repeat (first|refine go ?_|refine zg λ_ _=>?_|refine zi λ_ _=>?_)
  refine aT rfl rfl hs rfl hil (fun ad r1=>?_)
  repeat (first|refine go ?_|refine zg λ_ _=>?_|refine zi λ_ _=>?_)
  refine zC rfl (aX4 s l[i] _) ?_
  rintro _ _ ⟨rfl,rfl⟩
  repeat (first|refine go ?_|refine zg λ_ _=>?_|refine zi λ_ _=>?_)
  have e:iQ s l[i]=(bX l[i]&&bX (s+l[i])):=by rw [iQ,hg];rfl
  refine bCn rfl (fun h2=>?_) (fun h2=>?_)
  ·have ho:iQ s l[i]=false:=by
    cases ho:iQ s l[i]
    ·rfl
    ·rw [ho] at h2;exact absurd rfl h2
   repeat (first|refine go ?_|refine zg λ_ _=>?_|refine zi λ_ _=>?_)
   have hno:=aF8 (show jP 0 (l.take (i+1))=none by rw [ht,←e,ho];rfl)
   refine aC rfl ⟨?_,rfl⟩
   rw [fX,kB,hno,ho];rfl
  ·have ho:iQ s l[i]=true:=by
    cases ho:iQ s l[i]
    ·rw [ho] at h2;exact absurd h2 (by decide)
    ·rfl
   repeat (first|refine go ?_|refine zg λ_ _=>?_|refine zi λ_ _=>?_)
   refine ⟨(i+1,s+l[i]),⟨by rw [ho];rfl,rfl,rfl,rfl,trivial⟩,⟨rfl,by simp;omega,?_⟩,by simp;omega⟩
   rw [ht,←e,ho];rfl
 ·repeat (first|refine go ?_|refine zg λ_ _=>?_|refine zi λ_ _=>?_)
  have e:l.take i=l:=tLe (by omega)
  rw [e] at hk
  refine aC rfl ⟨?_,rfl⟩
  rw [fX,kB,hk];rfl
theorem aEc {v:Value} {l:List Int} (w:World) (hs:SlE aJf w v l) (hn:l.length≤1000000000000):K.Spec Tryz.prog F.kedgeref01_Sum [v] w fun r w'=>r=.tuple #[.int .i64 (fX l),.int .i64 (kB l)]∧w'=w:=by
 refine aK0 rfl ?_
 unfold yM
 refine oy ?_
 repeat (first|refine go ?_|refine zg λ_ _=>?_|refine zi λ_ _=>?_)
 refine aQ (fun (s:Nat × Int) w'=>w'=w∧s.1≤l.length∧jP 0 (l.take s.1)=some s.2) (fun s=> [(0,v),(4,.int .i64 s.2),(5,.int .i64 s.1)]) (fun s=>l.length - s.1) (0,0) ⟨rfl,rfl,rfl,trivial⟩ ⟨rfl,by simp,rfl⟩ ?_
 rintro ⟨i,s⟩ ρ w1 ⟨rfl,hi,hk⟩
 simp only at hi hk
 dsimp only
 have hg:=(bG _).1 (zS _ _ _ (by decide) hk)
 repeat (first|refine go ?_|refine zg λ_ _=>?_|refine zi λ_ _=>?_)
 refine bY rfl hs ?_
 repeat (first|refine go ?_|refine zg λ_ _=>?_|refine zi λ_ _=>?_)
 refine zL rfl (fun h=>?_) (fun h=>?_)
 ·have hil:i<l.length:=by omega
  have ht:=aP9 hil
  rw [hk,Option.bind_some] at ht
  repeat (first|refine go ?_|refine zg λ_ _=>?_|refine zi λ_ _=>?_)
  refine aT rfl rfl hs rfl hil (fun ad r1=>?_)
  repeat (first|refine go ?_|refine zg λ_ _=>?_|refine zi λ_ _=>?_)
  refine zM rfl (fun h2=>?_) (fun h2=>?_)
  ·repeat (first|refine go ?_|refine zg λ_ _=>?_|refine zi λ_ _=>?_)
   have ho:bX l[i]=false:=by simpa using h2
   have hno:=aF8 (show jP 0 (l.take (i+1))=none by rw [ht,ho];rfl)
   refine aC rfl ⟨?_,rfl⟩
   rw [fX,kB,hno];rfl
  ·have hgl:bX l[i]=true:=by simpa using h2
   have hgl':=(bG _).1 hgl
   repeat (first|refine go ?_|refine zg λ_ _=>?_|refine zi λ_ _=>?_)
   refine aT rfl rfl hs rfl hil (fun ad2 r2=>?_)
   repeat (first|refine go ?_|refine zg λ_ _=>?_|refine zi λ_ _=>?_)
   refine zM rfl (fun h3=>?_) (fun h3=>?_)
   ·repeat (first|refine go ?_|refine zg λ_ _=>?_|refine zi λ_ _=>?_)
    have ho:bX (s+l[i])=false:=by simpa using h3
    have hno:=aF8 (show jP 0 (l.take (i+1))=none by rw [ht,ho,hgl];rfl)
    refine aC rfl ⟨?_,rfl⟩
    rw [fX,kB,hno];rfl
   ·have ho:bX (s+l[i])=true:=by simpa using h3
    repeat (first|refine go ?_|refine zg λ_ _=>?_|refine zi λ_ _=>?_)
    refine ⟨(i+1,s+l[i]),⟨rfl,rfl,rfl,trivial⟩,⟨rfl,by simp;omega,?_⟩,by simp;omega⟩
    rw [ht,ho,hgl];rfl
 ·repeat (first|refine go ?_|refine zg λ_ _=>?_|refine zi λ_ _=>?_)
  have e:l.take i=l:=tLe (by omega)
  rw [e] at hk
  refine aC rfl ⟨?_,rfl⟩
  rw [fX,kB,hk];rfl
theorem aYz {v:Value} {l:List Int} (a:Int) (w:World) (hs:SlE aJf w v l) (hn:l.length≤1000000000000):K.Spec Tryz.prog F.slices_Index_L_int_int [v,.int .i64 a] w fun r w'=>r=.int .i64 (idxOf (fun x=>decide (a=x)) l)∧w'=w:=by
 refine wO rfl ?_
 unfold lP
 refine oy ?_
 repeat (first|refine go ?_|refine zg λ_ _=>?_|refine zi λ_ _=>?_)
 refine bY rfl hs ?_
 repeat (first|refine go ?_|refine zg λ_ _=>?_|refine zi λ_ _=>?_)
 refine aQ (fun (i:Nat) w'=>w'=w∧i≤l.length∧∀j,j<i→∀h:j<l.length,a≠l[j]) (fun i=> [(0,v),(1,.int .i64 a),(6,v),(7,.int .i64 (l.length:Nat)),(8,.int .i64 i)]) (fun i=>l.length - i) 0 ⟨rfl,rfl,rfl,rfl,rfl,trivial⟩ ⟨rfl,by omega,by omega⟩ ?_
 rintro i ρ w1 ⟨rfl,hi,hk⟩
 repeat (first|refine go ?_|refine zg λ_ _=>?_|refine zi λ_ _=>?_)
 refine zL rfl (fun h=>?_) (fun h=>?_)
 ·have hil:i<l.length:=by omega
  repeat (first|refine go ?_|refine zg λ_ _=>?_|refine zi λ_ _=>?_)
  refine aT rfl rfl hs rfl hil (fun ad r1=>?_)
  repeat (first|refine go ?_|refine zg λ_ _=>?_|refine zi λ_ _=>?_)
  refine zL rfl (fun h2=>?_) (fun h2=>?_)
  ·repeat (first|refine go ?_|refine zg λ_ _=>?_|refine zi λ_ _=>?_)
   exact aC rfl ⟨congrArg (Value.int .i64) (idxOf_hit hil (by simpa using h2) (fun j hj=>by simpa using hk j hj (by omega))).symm,rfl⟩
  ·repeat (first|refine go ?_|refine zg λ_ _=>?_|refine zi λ_ _=>?_)
   refine ⟨i+1,⟨rfl,rfl,rfl,rfl,rfl,trivial⟩,⟨rfl,by omega,fun j hj hl=>?_⟩,by omega⟩
   by_cases hji:j=i
   ·subst hji;exact h2
   ·exact hk j (by omega) hl
 ·repeat (first|refine go ?_|refine zg λ_ _=>?_|refine zi λ_ _=>?_)
  exact aC rfl ⟨congrArg (Value.int .i64) (idxOf_miss (fun j hj=>by simpa using hk j (by omega) hj)).symm,rfl⟩
theorem aPi {v:Value} {l:List Int} (a:Int) (w:World) (hs:SlE aJf w v l) (hn:l.length≤1000000000000):K.Spec Tryz.prog F.slices_Contains_L_int_int [v,.int .i64 a] w fun r w'=>r=.bool (l.any fun x=>decide (a=x))∧w'=w:=by
 refine sE rfl ?_
 unfold jT
 refine oy ?_
 repeat (first|refine go ?_|refine zg λ_ _=>?_|refine zi λ_ _=>?_)
 refine zC rfl (aYz a _ hs hn) ?_
 rintro _ _ ⟨rfl,rfl⟩
 repeat (first|refine go ?_|refine zg λ_ _=>?_|refine zi λ_ _=>?_)
 exact aC rfl ⟨congrArg Value.bool jI,rfl⟩
theorem aP6 (k:Nat) (hk:k=1∨k=2∨k=4∨k=8) (w:World):K.Spec Tryz.prog F.octet_known [.int .i64 (k:Nat)] w fun r w'=>r=.bool true∧Ext w w':=by
 refine aRl rfl ?_
 unfold aE7
 refine oy ?_
 repeat (first|refine go ?_|refine zg λ_ _=>?_|refine zi λ_ _=>?_)
 refine zI rfl (fun b w1 x1 a1 hb=>?_)
 repeat (first|refine go ?_|refine zg λ_ _=>?_|refine zi λ_ _=>?_)
 refine zC rfl (aPi (l:= [1,2,4,8]) (k:Nat) _ (SlE.new (E:=aJf) a1 rfl (Nat.le_refl _)) (by decide)) ?_
 rintro _ _ ⟨rfl,rfl⟩
 repeat (first|refine go ?_|refine zg λ_ _=>?_|refine zi λ_ _=>?_)
 refine aC rfl ⟨congrArg Value.bool ?_,x1⟩
 rcases hk with rfl|rfl|rfl|rfl<;>rfl
theorem aDm (n k:Nat) (hk:k=1∨k=2∨k=4∨k=8) (hn:n<18446744073709551616) (w:World):K.Spec Tryz.prog F.octet_Put [.int .u64 (n:Nat),.int .i64 (k:Nat)] w fun r w'=>r=.string (leS n k)∧Ext w w':=by
 refine aW2 rfl ?_
 unfold aMk
 refine oy ?_
 repeat (first|refine go ?_|refine zg λ_ _=>?_|refine zi λ_ _=>?_)
 refine zC rfl (aP6 k hk _) ?_
 rintro _ w1 ⟨rfl,x1⟩
 repeat (first|refine go ?_|refine zg λ_ _=>?_|refine zi λ_ _=>?_)
 refine aQ (fun (s:Nat × Value) w'=>Ext w w'∧s.1≤k∧Own u8E T.uint8 w.heap.size w' s.2 (leL n s.1)) (fun s=> [(0,.int .u64 ((n / 256^s.1:Nat):Int)),(5,s.2),(9,.int .i64 (k:Nat)),(10,.int .i64 s.1)]) (fun s=>k - s.1) (0,.slice none 0 0) ⟨by simp;rfl,rfl,rfl,rfl,trivial⟩ ⟨x1,by simp,Own.nil _ _ _⟩ ?_
 rintro ⟨i,vo⟩ ρ w2 ⟨x2,hi,ho⟩
 simp only at hi ho
 dsimp only
 repeat (first|refine go ?_|refine zg λ_ _=>?_|refine zi λ_ _=>?_)
 refine zL rfl (fun h=>?_) (fun h=>?_)
 ·repeat (first|refine go ?_|refine zg λ_ _=>?_|refine zi λ_ _=>?_)
  refine zI rfl (fun b w3 x3 a3 hb=>?_)
  repeat (first|refine go ?_|refine zg λ_ _=>?_|refine zi λ_ _=>?_)
  refine cK (E:=u8E) (v:=vo) (l2:= [UInt8.ofNat (n / 256^i)]) rfl (ho.ext x3) (nTr x2.size x3.size) rfl rfl (eS a3 rfl) (by rw [aEf];rfl) rfl (by rw [cY];simp;omega) (fun vo' w4 ho4 c4=>?_)
  repeat (first|refine go ?_|refine zg λ_ _=>?_|refine zi λ_ _=>?_)
  refine ⟨(i+1,vo'),⟨?_,rfl,rfl,rfl,trivial⟩,⟨((x2.trans x3).chg c4).mono (fun b hb=>.inr (ho.base b (by simpa using hb))),by simp;omega,ho4⟩,by simp;omega⟩
  show Value.int .u64 (Int.fdiv ((n / 256^i:Nat):Int) (2^(min (8:Int).toNat IntKind.u64.bits)))=_
  congr 1
  rw [Nat.pow_succ,←Nat.div_div_eq_div_mul]
  rw [Int.fdiv_eq_ediv_of_nonneg _ (by decide)]
  rfl
 ·repeat (first|refine go ?_|refine zg λ_ _=>?_|refine zi λ_ _=>?_)
  have e:i=k:=by omega
  subst e
  refine aAp rfl ho.sl ?_
  repeat (first|refine go ?_|refine zg λ_ _=>?_|refine zi λ_ _=>?_)
  exact aC rfl ⟨by rw [leS];rfl,x2⟩
theorem aSd (n k:Nat) (hk:k=1∨k=2∨k=4∨k=8) (hn:n<18446744073709551616) (w:World):K.Spec Tryz.prog F.kedgeref02_Put [.int .u64 (n:Nat),.int .i64 (k:Nat)] w fun r w'=>r=.string (leS n k)∧Ext w w':=by
 refine aJ5 rfl ?_
 unfold yL
 refine oy ?_
 have hk4:k≤8:=by omega
 apply zf;apply z0;apply z1;apply zf;apply z0;apply z1
 refine rJ (fun (_:Unit) w'=>w'=w) (fun _=> [(0,.int .u64 (n:Nat)),(1,.int .i64 (k:Nat)),(5,.string ⟨#[]⟩)]) ?_ ?_
 ·repeat (first|refine go ?_|refine zg λ_ _=>?_|refine zi λ_ _=>?_)
  rcases hk with rfl|rfl|rfl|rfl
  all_goals
   repeat (first|refine go ?_|refine zg λ_ _=>?_|refine zi λ_ _=>?_)
   exact ⟨(),⟨rfl,rfl,rfl,trivial⟩,rfl⟩
 rintro _ ρ w rfl
 repeat (first|refine go ?_|refine zg λ_ _=>?_|refine zi λ_ _=>?_)
 refine aQ (fun (s:Nat) w'=>Ext w w'∧s≤k) (fun s=> [(0,.int .u64 ((n / 256^s:Nat):Int)),(1,.int .i64 (k:Nat)),(5,.string (leS n s)),(6,.int .i64 s)]) (fun s=>k - s) 0 ⟨by simp;rfl,rfl,by rw [bG4];rfl,rfl,trivial⟩ ⟨Ext.refl _,Nat.zero_le _⟩ ?_
 rintro i ρ w2 ⟨x2,hi⟩
 repeat (first|refine go ?_|refine zg λ_ _=>?_|refine zi λ_ _=>?_)
 refine zL rfl (fun h=>?_) (fun h=>?_)
 ·repeat (first|refine go ?_|refine zg λ_ _=>?_|refine zi λ_ _=>?_)
  refine zI rfl (fun b w3 x3 a3 hb=>?_)
  repeat (first|refine go ?_|refine zg λ_ _=>?_|refine zi λ_ _=>?_)
  have em:Int.tmod ((n / 256^i:Nat):Int) 256=((n / 256^i%256:Nat):Int):=tm _ 256
  have a4:At w3 b (.cells [Value.int .u8 (IntKind.u8.wrap ((n / 256^i%256:Nat):Int))].toArray T.uint8 (0,0)):=by rw [←em];exact a3
  refine bMd rfl a4 ?_
  repeat (first|refine go ?_|refine zg λ_ _=>?_|refine zi λ_ _=>?_)
  have e1:UInt8.ofNat (n / 256^i%256)=UInt8.ofNat (n / 256^i):=by apply UInt8.toNat_inj.1;simp
  refine lZ rfl rfl (by rw [cR,gZ];simp;omega) ?_
  repeat (first|refine go ?_|refine zg λ_ _=>?_|refine zi λ_ _=>?_)
  refine ⟨i+1,⟨?_,rfl,?_,rfl,trivial⟩,⟨x2.trans x3,by omega⟩,by omega⟩
  ·show Value.int .u64 (IntKind.u64.wrap (Int.tdiv ((n / 256^i:Nat):Int) 256))=_
   have hlt:n / 256^i<18446744073709551616:=Nat.lt_of_le_of_lt (Nat.div_le_self _ _) hn
   have e2:Int.tdiv ((n / 256^i:Nat):Int) 256=((n / 256^(i+1):Nat):Int):=by
    rw [Nat.pow_succ,←Nat.div_div_eq_div_mul];exact td _ 256
   have h8:=Nat.div_le_self n (256^(i+1))
   rw [e2,fF (Int.natCast_nonneg _) (by omega)]
  ·show Value.string (leS n i++str [UInt8.ofNat (n / 256^i%256)])=Value.string (leS n (i+1))
   rw [e1,bI7]
 ·repeat (first|refine go ?_|refine zg λ_ _=>?_|refine zi λ_ _=>?_)
  have e:i=k:=by omega
  subst e
  exact aC rfl ⟨rfl,x2⟩
theorem aTc (n:Nat) (hn:n<18446744073709551616) (w:World):K.Spec Tryz.prog F.vint_Put [.int .u64 (n:Nat)] w fun r w'=>r=.string (vnS n)∧Ext w w':=by
 refine bAf rfl ?_
 unfold aOs
 refine oy ?_
 repeat' (first|refine go1 ?_|refine zg λ_ _=>?_|refine zi λ_ _=>?_|refine zL rfl (fun h=>?_) (fun h=>?_)|(refine zC rfl (aDm _ _ (by decide) (by first|exact hn|decide) _) ?_;rintro _ _ ⟨rfl,_⟩)|refine lZ rfl rfl (by rw [cR,cR];decide) ?_)
 ·exact aC rfl ⟨congrArg Value.string (by rw [vnS,if_pos (by omega)]),by repeat (first|assumption|exact Ext.refl _|refine Ext.trans ?_ (by assumption))⟩
 ·exact aC rfl ⟨congrArg Value.string (by rw [vnS,if_neg (by omega),if_pos (by omega)]),by repeat (first|assumption|exact Ext.refl _|refine Ext.trans ?_ (by assumption))⟩
 ·exact aC rfl ⟨congrArg Value.string (by rw [vnS,if_neg (by omega),if_neg (by omega),if_pos (by omega)]),by repeat (first|assumption|exact Ext.refl _|refine Ext.trans ?_ (by assumption))⟩
 ·exact aC rfl ⟨congrArg Value.string (by rw [vnS,if_neg (by omega),if_neg (by omega),if_neg (by omega)]),by repeat (first|assumption|exact Ext.refl _|refine Ext.trans ?_ (by assumption))⟩
theorem aN9 (n:Nat) (hn:n<18446744073709551616) (w:World):K.Spec Tryz.prog F.kedgeref03_Put [.int .u64 (n:Nat)] w fun r w'=>r=.string (vnS n)∧Ext w w':=by
 refine aK2 rfl ?_
 unfold xM
 refine oy ?_
 repeat' (first|refine go1 ?_|refine zg λ_ _=>?_|refine zi λ_ _=>?_|refine zL rfl (fun h=>?_) (fun h=>?_)|(refine zC rfl (aSd _ _ (by decide) hn _) ?_;rintro _ _ ⟨rfl,_⟩)|refine lZ rfl rfl (by rw [cR];decide) ?_)
 ·exact aC rfl ⟨congrArg Value.string (by rw [vnS,if_pos (by omega)]),by repeat (first|assumption|exact Ext.refl _|refine Ext.trans ?_ (by assumption))⟩
 ·exact aC rfl ⟨congrArg Value.string (by rw [vnS,if_neg (by omega),if_pos (by omega),bNp]),by repeat (first|assumption|exact Ext.refl _|refine Ext.trans ?_ (by assumption))⟩
 ·exact aC rfl ⟨congrArg Value.string (by rw [vnS,if_neg (by omega),if_neg (by omega),if_pos (by omega),bNl]),by repeat (first|assumption|exact Ext.refl _|refine Ext.trans ?_ (by assumption))⟩
 ·exact aC rfl ⟨congrArg Value.string (by rw [vnS,if_neg (by omega),if_neg (by omega),if_neg (by omega),bNn]),by repeat (first|assumption|exact Ext.refl _|refine Ext.trans ?_ (by assumption))⟩
theorem nU (n:Nat) (hn:n<9223372036854775808) (w:World):K.Spec Tryz.prog F.wire_counted [.int .i64 (n:Nat)] w fun r w'=>r=.string (vnS n)∧Ext w w':=by
 refine aP1 rfl ?_
 unfold aCw
 refine oy ?_
 repeat (first|refine go ?_|refine zg λ_ _=>?_|refine zi λ_ _=>?_)
 rw [fF (by omega) (by omega)]
 refine zC rfl (aTc n (by omega) _) ?_
 rintro _ w1 ⟨rfl,x1⟩
 repeat (first|refine go ?_|refine zg λ_ _=>?_|refine zi λ_ _=>?_)
 exact aC rfl ⟨rfl,x1⟩
theorem nM (n:Nat) (hn:n<9223372036854775808) (w:World):K.Spec Tryz.prog F.kedgeref06_length [.int .i64 (n:Nat)] w fun r w'=>r=.string (vnS n)∧Ext w w':=by
 refine aEt rfl ?_
 unfold rR
 refine oy ?_
 repeat (first|refine go ?_|refine zg λ_ _=>?_|refine zi λ_ _=>?_)
 rw [fF (by omega) (by omega)]
 refine zC rfl (aN9 n (by omega) _) ?_
 rintro _ w1 ⟨rfl,x1⟩
 repeat (first|refine go ?_|refine zg λ_ _=>?_|refine zi λ_ _=>?_)
 exact aC rfl ⟨rfl,x1⟩
theorem aQh (s:ByteArray) (hs:s.size≤1000000) (w:World):K.Spec Tryz.prog F.wire_sized [.string s] w fun r w'=>r=.string (vnS s.size++s)∧Ext w w':=by
 refine aU3 rfl ?_
 unfold aHq
 refine oy ?_
 repeat (first|refine go ?_|refine zg λ_ _=>?_|refine zi λ_ _=>?_)
 refine zC rfl (nU s.size (by omega) _) ?_
 rintro _ w1 ⟨rfl,x1⟩
 repeat (first|refine go ?_|refine zg λ_ _=>?_|refine zi λ_ _=>?_)
 have:=dY s.size
 refine lZ rfl rfl (by omega) ?_
 repeat (first|refine go ?_|refine zg λ_ _=>?_|refine zi λ_ _=>?_)
 exact aC rfl ⟨rfl,x1⟩
end
section
open Go Go.K
attribute [local irreducible] aO aU bQ KOp.wp K.Spec leS vnS str
theorem aDg {M:List Nat} {cs:List Value} {t:Tx} (w:World) (ht:txR.rel M w cs t) (hs:t.Sm):K.Spec Tryz.prog F.kedgeref05_Total [.agg cs.toArray] w fun r w'=>r=.tuple #[.int .i64 (fX (values t)),.int .i64 (kB (values t))]∧Ext w w':=by
 obtain ⟨iv,ov,rfl,hi,ho,hv,hl⟩:=ht
 have h1:=hs.outs
 refine aG6 rfl ?_
 unfold sV
 refine oy ?_
 repeat' (first|refine go1 ?_|refine zg λ_ _=>?_|refine zi λ_ _=>?_|(first|refine zD rfl rfl (fun bp wp xp ap rp hp0=>?_)|refine zE (fun _=>rfl) rfl rfl rfl (fun bq wq xq aq rq hq0=>?_))|refine zG rfl (by exact fx) ?_|refine zL rfl (fun h=>?_) (fun h=>?_)|(refine aQ (fun (s:Nat × Value) w'=>Ext wp w'∧s.1≤t.outs.length∧Own aJf T.int wp.heap.size w' s.2 ((values t).take s.1)) (fun s=> [(1,.pointer (some ⟨bp,0,none⟩)),(4,s.2),(5,.int .i64 s.1)]) (fun s=>t.outs.length - s.1) (0,.slice none 0 0) ⟨rfl,rfl,rfl,trivial⟩ ⟨by exact fx,by simp,Own.nil _ _ _⟩ ?_;rintro ⟨i,vo⟩ ρ w1 ⟨x1,hi1,hO⟩;simp only at hi1 hO;dsimp only)|(refine aL rfl rfl (n:=i) (l:=t.outs) (by exact fx) rfl (by omega) (fun ad cs r2 he=>?_);obtain ⟨rfl,_⟩:=he;have hil:i<t.outs.length:=by omega)|refine zI rfl (fun b w3 x3 a3 hb=>?_)|refine cK (E:=aJf) (v:=vo) (l2:= [t.outs[i].v]) rfl (hO.ext (by exact fx)) (Ext.size (w:=wp) (by exact fx)) rfl rfl (eS a3 rfl) rfl rfl (by simp;omega) (fun vo' w4 ho4 c4=>?_)|(refine zC rfl (aEc (l:=(values t).take i) _ hO.sl (by simp;omega)) ?_;rintro _ _ ⟨rfl,rfl⟩))
 ·refine ⟨(i+1,vo'),⟨rfl,rfl,rfl,trivial⟩,⟨(Chg.ext (l:= []) (Ext.chg (w:=wp) (by exact fx) c4 |>.mono (fun b hb=>.inr (hO.base b (by simpa using hb)))) (Ext.refl _)),by simp;omega,?_⟩,by simp;omega⟩
  have e:(values t).take (i+1)=(values t).take i++ [t.outs[i].v]:=by
   rw [List.take_succ_eq_append_getElem (by simpa [values] using hil)];simp [values]
  show Own _ _ _ _ _ ((values t).take (i+1))
  rw [e];exact ho4
 ·have e:(values t).take i=values t:=tLe (by simp [values];omega)
  refine aC rfl ⟨?_,xp.trans x1⟩
  show Value.tuple #[.int .i64 (fX ((values t).take i)),.int .i64 (kB ((values t).take i))]=_
  rw [e]
theorem aC9 {α:Type} {p:α→Bool} {l:List α} {i:Nat} (h:i<l.length) (hp:p l[i]=true):l.any p=true:=List.any_eq_true.2 ⟨_,gMe h,hp⟩
theorem qT {α:Type} {p:α→Bool} {l:List α} (hp:∀j (h:j<l.length),p l[j]=false):l.any p=false:=List.any_eq_false.2 fun x hx=>by
 obtain ⟨j,h,rfl⟩:=List.getElem_of_mem hx
 rw [hp j h];simp
theorem aZs {M:List Nat} {cs:List Value} {t:Tx} (w:World) (ht:txR.rel M w cs t) (hs:t.Sm):K.Spec Tryz.prog F.kedgeref05_long [.agg cs.toArray] w fun r w'=>r=.bool (aBe t)∧Ext w w':=by
 obtain ⟨iv,ov,rfl,hi,ho,hv,hl⟩:=ht
 have h1:=hs.outs
 have h2:=hs.ins
 have h3:=hs.wit
 refine aJe rfl ?_
 unfold vI
 refine oy ?_
 repeat' (first|refine go1 ?_|refine zg λ_ _=>?_|refine zi λ_ _=>?_|(first|refine zD rfl rfl (fun bp wp xp ap rp hp0=>?_)|refine zE (fun _=>rfl) rfl rfl rfl (fun bq wq xq aq rq hq0=>?_))|refine zG rfl (by exact fx) ?_|refine zL rfl (fun h=>?_) (fun h=>?_)|(refine aQ (fun (i:Nat) w'=>wp=w'∧i≤t.outs.length∧∀j,j<i→∀h:j<t.outs.length,aAl t.outs[j]=false) (fun i=> [(1,.pointer (some ⟨bp,0,none⟩)),(3,.int .i64 i)]) (fun i=>t.outs.length - i) 0 ⟨rfl,rfl,trivial⟩ ⟨rfl,by omega,by omega⟩ ?_;rintro i ρ _ ⟨rfl,hi1,hk⟩)|(have hal:a<t.ins.length:=(by omega);refine aQ (fun (k:Nat) w'=>wp=w'∧k≤t.ins[a].wit.length∧∀j,j<k→∀h:j<t.ins[a].wit.length,uG t.ins[a].wit[j]=false) (fun k=> [(1,.pointer (some ⟨bp,0,none⟩)),(4,.int .i64 a),(5,.int .i64 k)]) (fun k=>t.ins[a].wit.length - k) 0 ⟨rfl,rfl,rfl,trivial⟩ ⟨rfl,by omega,by omega⟩ ?_;rintro k ρ3 _ ⟨rfl,hk1,hkk⟩)|(refine aQ (fun (a:Nat) w'=>wp=w'∧a≤t.ins.length∧∀j,j<a→∀h:j<t.ins.length,aLg t.ins[j]=false) (fun a=> [(1,.pointer (some ⟨bp,0,none⟩)),(4,.int .i64 a)]) (fun a=>t.ins.length - a) 0 ⟨rfl,rfl,trivial⟩ ⟨rfl,by omega,by omega⟩ ?_;rintro a ρ2 _ ⟨rfl,ha1,hka⟩)|(refine aL rfl rfl (n:=k) (l:=t.ins[a].wit) (by exact fx) rfl (by omega) (fun ad cs r4 he=>?_);have hq:cs= [Value.string t.ins[a].wit[k]]:=he;rw [hq] at r4)|(refine aL rfl rfl (n:=a) (l:=t.ins) (by exact fx) rfl (by omega) (fun ad cs r2 he=>?_);obtain ⟨wv,rfl,hw,_⟩:=he;have hm:=h3 _ (gMe hal))|(refine aL rfl rfl (n:=i) (l:=t.outs) (by exact fx) rfl (by omega) (fun ad cs r2 he=>?_);obtain ⟨rfl,_⟩:=he;have hil:i<t.outs.length:=by omega))
 ·refine aC rfl ⟨congrArg Value.bool ?_,by exact fx⟩
  rw [aBe,aC9 hil (by simpa [aAl] using h)];rfl
 ·exact ⟨i+1,⟨rfl,rfl,trivial⟩,⟨rfl,by omega,fun j hj hl=>by
   rcases Nat.lt_succ_iff_lt_or_eq.1 hj with hj|rfl
   ·exact hk j hj hl
   ·simpa [aAl] using h⟩,by omega⟩
 ·refine aC rfl ⟨congrArg Value.bool ?_,by exact fx⟩
  have hkl:k<t.ins[a].wit.length:=by omega
  have e1:aLg t.ins[a]=true:=aC9 hkl (by simpa [uG] using h)
  rw [aBe,aC9 (l:=t.ins) hal e1,Bool.or_true]
 ·exact ⟨k+1,⟨rfl,rfl,rfl,trivial⟩,⟨rfl,by omega,fun j hj hl=>by
   rcases Nat.lt_succ_iff_lt_or_eq.1 hj with hj|rfl
   ·exact hkk j hj hl
   ·simpa [uG] using h⟩,by omega⟩
 ·exact ⟨a+1,⟨rfl,rfl,trivial⟩,⟨rfl,by omega,fun j hj hl=>by
   rcases Nat.lt_succ_iff_lt_or_eq.1 hj with hj|rfl
   ·exact hka j hj hl
   ·exact qT fun k' hk'=>hkk k' (by omega) hk'⟩,by omega⟩
 ·refine aC rfl ⟨congrArg Value.bool ?_,by exact fx⟩
  rw [aBe,qT fun j hj=>hk j (by omega) hj,qT fun j hj=>hka j (by omega) hj];rfl
theorem iY {P:Program} {d:Option Tmp} {r:KR} {K:Env→World→Prop} {ρ:Env} {w:World} {x i:Operand} {s:ByteArray} {k:IntKind} {n:Nat} (hx:ev ρ x=.string s) (hi:ev ρ i=.int k n) (h:n<s.size) (kk:aO P r K (put ρ d (.int .u8 (s[n].toNat:Nat))) w):aO P (.cons ⟨d,.indexStr x i,none⟩ r) K ρ w:=dK rfl (by simp [KOp.fix,hx,hi,h]) kk
theorem aKk:aV.data=Array.replicate 32 0:=by
 unfold aV str;rfl
theorem bHb {s:ByteArray} (hs:s.size=32) (h:∀j (hj:j<s.size),s[j].toNat=0):s=aV:=by
 apply ByteArray.ext
 rw [aKk]
 apply Array.ext
 ·rw [Array.size_replicate];exact hs
 ·intro i h1 h2
  rw [Array.getElem_replicate]
  exact UInt8.toNat_inj.1 (h i h1)
theorem bFv:aV.size=32:=by
 show aV.data.size=32
 rw [aKk,Array.size_replicate]
theorem bJ1 {s:ByteArray} (e:s=aV) {j:Nat} (hj:j<s.size):s[j].toNat=0:=by
 subst e
 show (aV.data[j]'hj).toNat=0
 have:∀(a:Array UInt8) (h:j<a.size),a=Array.replicate 32 0→(a[j]'h).toNat=0:=by
  intro a h e
  subst e
  rw [Array.getElem_replicate];rfl
 exact this _ _ aKk
theorem aYt {p:Prop} [Decidable p] (h:(!decide p)=true):¬p:=by simpa using h
theorem aLr {p:Prop} [Decidable p] (h:(!decide p)=false):p:=by simpa using h
theorem aA3 (p:Pt) (w:World):K.Spec Tryz.prog F.kedgeref05_Base [.agg p.cs.toArray] w fun r w'=>r=.bool (mP p)∧Ext w w':=by
 refine aI1 rfl ?_
 unfold uP
 refine oy ?_
 repeat' (first|refine go1 ?_|refine zg λ_ _=>?_|refine zi λ_ _=>?_|(first|refine zD rfl rfl (fun bp wp xp ap rp hp0=>?_)|refine zE (fun _=>rfl) rfl rfl rfl (fun bq wq xq aq rq hq0=>?_))|refine zG rfl (by exact fx) ?_|refine zL rfl (fun h=>?_) (fun h=>?_)|refine zK rfl (fun h1=>?_) (fun h1=>?_)|refine zM rfl (fun h2=>?_) (fun h2=>?_)|(have hs:p.s.size=32:=(by have:=aLr h1;omega);refine iY (n:=i) rfl rfl (by omega) ?_)|(refine aQ (fun (i:Nat) w'=>wp=w'∧i≤32∧∀j,j<i→∀h:j<p.s.size,p.s[j].toNat=0) (fun i=> [(1,.pointer (some ⟨bp,0,none⟩)),(3,.int .i64 i)]) (fun i=>32 - i) 0 ⟨rfl,rfl,trivial⟩ ⟨rfl,by omega,by omega⟩ ?_;rintro i ρ _ ⟨rfl,hi1,hk⟩))
 ·refine aC rfl ⟨congrArg Value.bool ?_,by exact fx⟩
  have h:p.s≠aV:=fun e=>aYt h1 (by rw [e,bFv];rfl)
  rw [mP,dFa (p:=p.s=aIz.s) h];rfl
 ·refine aC rfl ⟨congrArg Value.bool ?_,by exact fx⟩
  have h:=aYt h2
  rw [mP,dFa (p:=p.i=aIz.i) h,Bool.and_false]
 ·refine aC rfl ⟨congrArg Value.bool ?_,by exact fx⟩
  have h:p.s≠aV:=fun e=>aYt h2 (by rw [bJ1 e];rfl)
  rw [mP,dFa (p:=p.s=aIz.s) h];rfl
 ·exact ⟨i+1,⟨rfl,rfl,trivial⟩,⟨rfl,by omega,fun j hj hl=>by
   rcases Nat.lt_succ_iff_lt_or_eq.1 hj with hj|rfl
   ·exact hk j hj hl
   ·have:=aLr h2;omega⟩,by omega⟩
 ·refine aC rfl ⟨congrArg Value.bool ?_,by exact fx⟩
  have hs:p.s.size=32:=by have:=aLr h1;omega
  have h:p.s=aIz.s:=bHb hs fun j hj=>hk j (by omega) hj
  rw [mP,dTr h,dTr (p:=p.i=aIz.i) (aLr h2)];rfl
end
section
open Go Go.K
attribute [local irreducible] aO aU bQ KOp.wp K.Spec leS vnS str aV
theorem bJc {t:Tx} (h:¬(1≤(t.ins.length:Int)∧(t.ins.length:Int)≤256∧1≤(t.outs.length:Int)∧(t.outs.length:Int)≤256)):aG t=6:=by
 have:jR t=false:=by
  unfold jR
  by_cases h1:1≤(t.ins.length:Int)∧(t.ins.length:Int)≤256
  ·have h2:¬(1≤(t.outs.length:Int)∧(t.outs.length:Int)≤256):=by omega
   rw [dFa h2];simp
  ·rw [dFa h1];simp
 rw [aG,this];rfl
theorem bHy {t:Tx} {j:Nat} (h:j<t.ins.length) (hw:(t.ins[j].wit.length:Int)>4):aG t=6:=by
 have:jR t=false:=by
  unfold jR
  rw [aC9 h (by simpa using hw)];simp
 rw [aG,this];rfl
theorem bI3 {t:Tx} (h:1≤(t.ins.length:Int)∧(t.ins.length:Int)≤256∧1≤(t.outs.length:Int)∧(t.outs.length:Int)≤256) (hw:∀j (h:j<t.ins.length),¬(t.ins[j].wit.length:Int)>4):jR t=true:=by
 unfold jR
 rw [qT (p:=fun x:TIn=>decide ((x.wit.length:Int)>4)) fun j h=>dFa (hw j h),dTr (p:=1≤(t.ins.length:Int)∧(t.ins.length:Int)≤256) (by omega),dTr (p:=1≤(t.outs.length:Int)∧(t.outs.length:Int)≤256) (by omega)];rfl
theorem bJv {t:Tx} {j:Nat} (h:j<t.ins.length) (hb:yB t t.ins[j]=true):jN t=false:=by
 rw [jN,aC9 h hb];rfl
theorem bId {t:Tx} (h:∀j (h:j<t.ins.length),yB t t.ins[j]=false):jN t=true:=by
 rw [jN,qT h];rfl
theorem bMg {t:Tx} {a b:Nat} (ha:a<t.ins.length) (hb:b<a) (h:t.ins[a].p=t.ins[b].p):yY t=true:=by
 have hpl:(bK t).length=t.ins.length:=by simp [bK]
 refine aRr (i:=a+1) ?_
 rw [aLh (by omega)]
 have:((bK t).take a).contains (bK t)[a]=true:=by
  rw [List.contains_iff_mem]
  refine List.mem_take_iff_getElem.2 ⟨b,by omega,?_⟩
  simp only [bK,List.getElem_map]
  exact h.symm
 rw [this];rfl
theorem bLl {t:Tx} {a:Nat} (ha:a<(bK t).length) (hd:wT ((bK t).take a).reverse=false) (h:∀j (hj:j<a),(bK t)[j]≠(bK t)[a]):wT ((bK t).take (a+1)).reverse=false:=by
 rw [aLh ha,hd,Bool.or_false]
 rw [←Bool.not_eq_true,List.contains_iff_mem,List.mem_take_iff_getElem]
 rintro ⟨j,hj,e⟩
 exact h j (by omega) e
theorem bL7 {t:Tx} {a:Nat} (h:t.ins.length≤a) (hd:wT ((bK t).take a).reverse=false):yY t=false:=by
 rw [tLe (by simp [bK];omega)] at hd;exact hd
theorem aUj {p q:Pt} (h1:p.s=q.s) (h2:p.i=q.i):p=q:=by cases p;cases q;simp_all
set_option maxHeartbeats 2000000 in
theorem fC {M : List Nat} {cs : List Value} {t : Tx} (w : World) (ht : txR.rel M w cs t) (hs : t.Sm) : K.Spec Tryz.prog F.kedgeref05_Check [.agg cs.toArray] w fun r w' => r = .int .i64 (aG t) ∧ Ext w w' := by
  have ht0 := ht
  obtain ⟨iv, ov, rfl, hi, ho, hv, hl⟩ := ht
  have h1 := hs.outs
  have h2 := hs.ins
  have h3 := hs.wit
  have hpl : (bK t).length = t.ins.length := by simp [bK]
  have hpg : ∀ i (h : i < t.ins.length), (bK t)[i]'(by rw [hpl]; exact h) = t.ins[i].p := fun i h => by simp [bK]
  refine aGi rfl ?_
  unfold tH
  refine oy ?_
  repeat' (first|refine go1 ?_|refine zg λ_ _=>?_|refine zi λ_ _=>?_|(first|refine zD rfl rfl (fun bp wp xp ap rp hp0=>?_)|refine zE (fun _=>rfl) rfl rfl rfl (fun bq wq xq aq rq hq0=>?_))|refine zG rfl (by exact fx) ?_|refine zL rfl (fun h => ?_) (fun h => ?_)|refine zK rfl (fun h => ?_) (fun h => ?_)|refine zM rfl (fun h => ?_) (fun h => ?_)|(refine zC rfl (aZs (M := M) _ (cs := aK t iv ov) (by exact fx) hs) ?_; rintro _ w3 ⟨rfl, x3⟩)|(refine zC rfl (aDg (M := M) _ (cs := aK t iv ov) (by exact fx) hs) ?_; rintro _ w4 ⟨rfl, x4⟩)|(refine aQ (fun (i : Nat) w' => wp = w' ∧ i ≤ t.ins.length ∧ ∀ j, j < i → ∀ h : j < t.ins.length, ¬ (t.ins[j].wit.length : Int) > 4) (fun i => [(1, .pointer (some ⟨bp, 0, none⟩)), (3, .int .i64 i)]) (fun i => t.ins.length - i) 0 ⟨rfl, rfl, trivial⟩ ⟨rfl, by omega, by omega⟩ ?_; rintro i ρ _ ⟨rfl, hi1, hk⟩)|(refine aQ (fun (u : Nat) w' => Ext wp w' ∧ u ≤ t.ins.length ∧ ∀ j, j < u → ∀ h : j < t.ins.length, yB t t.ins[j] = false) (fun u => [(1, .pointer (some ⟨bp, 0, none⟩)), (5, .int .i64 u)]) (fun u => t.ins.length - u) 0 ⟨rfl, rfl, trivial⟩ ⟨by exact fx, by omega, by omega⟩ ?_; rintro u ρ2 w5 ⟨x5, hu1, hku⟩)|(refine aQ (fun (b : Nat) w' => Ext w6 w' ∧ b ≤ a ∧ ∀ j (hj : j < b) (hl : j < (bK t).length) (ha : a < (bK t).length), (bK t)[j] ≠ (bK t)[a]) (fun b => [(1, .pointer (some ⟨bp, 0, none⟩)), (7, .int .i64 a), (8, .int .i64 b)]) (fun b => a - b) 0 ⟨rfl, rfl, rfl, trivial⟩ ⟨Ext.refl _, by omega, by omega⟩ ?_; rintro b ρ4 w8 ⟨x8, hb1, hkb⟩)|(refine aQ (fun (a : Nat) w' => Ext wp w' ∧ a ≤ t.ins.length ∧ wT ((bK t).take a).reverse = false) (fun a => [(1, .pointer (some ⟨bp, 0, none⟩)), (7, .int .i64 a)]) (fun a => t.ins.length - a) 0 ⟨rfl, rfl, trivial⟩ ⟨by exact fx, by omega, by simp [wT]⟩ ?_; rintro a ρ3 w6 ⟨x6, ha1, hd⟩)|(refine zC rfl (aA3 _ _) ?_; rintro _ w7 ⟨rfl, x7⟩)|(refine aL rfl rfl (n := b) (l := t.ins) (by exact fx) rfl (by omega) (fun ad cs r2 he => ?_); obtain ⟨wv, rfl, hw, _⟩ := he; obtain ⟨_, _, rfl⟩ := hw.form; have hbl : b < t.ins.length := (by omega))|(refine aL rfl rfl (n := a) (l := t.ins) (by exact fx) rfl (by omega) (fun ad cs r2 he => ?_); obtain ⟨wv, rfl, hw, _⟩ := he; obtain ⟨_, _, rfl⟩ := hw.form; have hal : a < t.ins.length := (by omega))|(refine aL rfl rfl (n := u) (l := t.ins) (by exact fx) rfl (by omega) (fun ad cs r2 he => ?_); obtain ⟨wv, rfl, hw, _⟩ := he; obtain ⟨_, _, rfl⟩ := hw.form; have hul : u < t.ins.length := (by omega))|(refine aL rfl rfl (n := i) (l := t.ins) (by exact fx) rfl (by omega) (fun ad cs r2 he => ?_); obtain ⟨wv, rfl, hw, _⟩ := he; obtain ⟨_, _, rfl⟩ := hw.form; have hil : i < t.ins.length := (by omega)))
  all_goals try simp only [decide_eq_true_eq, decide_eq_false_iff_not] at *
  all_goals first
    | (refine aC rfl ⟨congrArg (Value.int .i64) ?_, by exact fx⟩
       first
       | (refine (bJc ?_).symm; omega)
       | exact (bHy (j := i) (by omega) (by assumption)).symm
       | (have c1 := bI3 (t := t) (by omega) (fun j hj => hk j (by omega) hj)
          rw [aG, c1]
          first
          | (have hlong : aBe t = true := by assumption
             rw [hlong]; rfl)
          | (have hlong : aBe t = false := by assumption
             rw [hlong]
             first
             | (rw [bJv (j := u) (by omega) (by simp_all [yB, mP])]; rfl)
             | (rw [bId fun j hj => hku j (by omega) hj]
                first
                | (rw [bMg (a := a) (b := b) (by omega) (by omega) (aUj (by simp_all) (by simp_all))]; rfl)
                | (rw [bL7 (a := a) (by omega) hd]; rfl)))))
    | exact ⟨i + 1, ⟨rfl, rfl, trivial⟩, ⟨by trivial, by omega, fun j hj hl => by
        rcases Nat.lt_succ_iff_lt_or_eq.1 hj with hj | rfl
        · exact hk j hj hl
        · assumption⟩, by omega⟩
    | (refine ⟨u + 1, ⟨rfl, rfl, trivial⟩, ⟨by exact fx, by omega, fun j hj hl => ?_⟩, by omega⟩
       by_cases hji : j = u
       · subst hji; simp_all [yB, mP]; done
       · exact hku j (by omega) hl)
    | (refine ⟨b + 1, ⟨rfl, rfl, rfl, trivial⟩, ⟨by exact fx, by omega, fun j hj hl ha => ?_⟩, by omega⟩
       by_cases hji : j = b
       · subst hji; rw [hpg _ hbl, hpg _ hal]; intro e; simp_all; done
       · exact hkb j (by omega) hl ha)
    | exact ⟨a + 1, ⟨rfl, rfl, trivial⟩, ⟨by exact fx, by omega, bLl (by omega) hd fun j hj => hkb j (by omega) (by omega) (by omega)⟩, by omega⟩
    | trace_state
end
end Go.Proofs.YtfebcajheojodaaGreatDoor
namespace Go.Proofs
section
open Go.Shelf
def Tryz.lays105_ren:Go.Shelf.Ren:=⟨fun|105=>209|212=>225|99=>226|165=>227|166=>185|170=>228|169=>189|263=>234|264=>171|206=>235|240=>216|241=>236|276=>229|277=>239|n=>n,fun|9=>9|3=>3|4=>4|20=>20|0=>0|46=>280|109=>296|5=>5|72=>264|76=>63|51=>22|146=>305|53=>248|148=>255|70=>262|37=>33|75=>41|127=>289|164=>179|80=>267|n=>n,fun|n=>n⟩
theorem Tryz.lays105 : Go.Proofs.Lays.n105 Tryz.prog Tryz.lays105_ren := {
  mixed := by kernel_rfl
  f99 := Tryz.func226.trans (congrArg some (by kernel_rfl))
  f105 := Tryz.func209.trans (congrArg some (by kernel_rfl))
  f165 := Tryz.func227.trans (congrArg some (by kernel_rfl))
  f166 := Tryz.func185.trans (congrArg some (by kernel_rfl))
  f169 := Tryz.func189.trans (congrArg some (by kernel_rfl))
  f170 := Tryz.func228.trans (congrArg some (by kernel_rfl))
  f206 := Tryz.func235.trans (congrArg some (by kernel_rfl))
  f212 := Tryz.func225.trans (congrArg some (by kernel_rfl))
  f240 := Tryz.func216.trans (congrArg some (by kernel_rfl))
  f241 := Tryz.func236.trans (congrArg some (by kernel_rfl))
  f263 := Tryz.func234.trans (congrArg some (by kernel_rfl))
  f264 := Tryz.func171.trans (congrArg some (by kernel_rfl))
  f276 := Tryz.func229.trans (congrArg some (by kernel_rfl))
  f277 := Tryz.func239.trans (congrArg some (by kernel_rfl))
  t0 := Tryz.underlying0
  a0 := Tryz.isAgg0
  z0 := Tryz.sizeOf0
  v0 := Tryz.zeroValue0
  t3 := Tryz.underlying3
  a3 := Tryz.isAgg3
  z3 := Tryz.sizeOf3
  v3 := Tryz.zeroValue3
  t4 := Tryz.underlying4
  a4 := Tryz.isAgg4
  z4 := Tryz.sizeOf4
  v4 := Tryz.zeroValue4
  t5 := Tryz.underlying5
  a5 := Tryz.isAgg5
  z5 := Tryz.sizeOf5
  v5 := Tryz.zeroValue5
  t9 := Tryz.underlying9
  a9 := Tryz.isAgg9
  z9 := Tryz.sizeOf9
  v9 := Tryz.zeroValue9
  t20 := Tryz.underlying20
  a20 := Tryz.isAgg20
  z20 := Tryz.sizeOf20
  v20 := Tryz.zeroValue20
  t37 := Tryz.underlying33
  a37 := Tryz.isAgg33
  z37 := Tryz.sizeOf33
  v37 := Tryz.zeroValue33
  t46 := Tryz.underlying280
  a46 := Tryz.isAgg280
  z46 := Tryz.sizeOf280
  v46 := Tryz.zeroValue280
  t51 := Tryz.underlying22
  a51 := Tryz.isAgg22
  z51 := Tryz.sizeOf22
  v51 := Tryz.zeroValue22
  t53 := Tryz.underlying248
  a53 := Tryz.isAgg248
  z53 := Tryz.sizeOf248
  v53 := Tryz.zeroValue248
  t70 := Tryz.underlying262
  a70 := Tryz.isAgg262
  z70 := Tryz.sizeOf262
  v70 := Tryz.zeroValue262
  t72 := Tryz.underlying264
  a72 := Tryz.isAgg264
  z72 := Tryz.sizeOf264
  v72 := Tryz.zeroValue264
  t75 := Tryz.underlying41
  a75 := Tryz.isAgg41
  z75 := Tryz.sizeOf41
  v75 := Tryz.zeroValue41
  t76 := Tryz.underlying63
  a76 := Tryz.isAgg63
  z76 := Tryz.sizeOf63
  v76 := Tryz.zeroValue63
  t109 := Tryz.underlying296
  a109 := Tryz.isAgg296
  z109 := Tryz.sizeOf296
  v109 := Tryz.zeroValue296
  t127 := Tryz.underlying289
  a127 := Tryz.isAgg289
  z127 := Tryz.sizeOf289
  v127 := Tryz.zeroValue289
  t146 := Tryz.underlying305
  a146 := Tryz.isAgg305
  z146 := Tryz.sizeOf305
  v146 := Tryz.zeroValue305
  t148 := Tryz.underlying255
  a148 := Tryz.isAgg255
  z148 := Tryz.sizeOf255
  v148 := Tryz.zeroValue255
  t164 := Tryz.underlying179
  a164 := Tryz.isAgg179
  z164 := Tryz.sizeOf179
  v164 := Tryz.zeroValue179 }
theorem Tryz.Builder_Extra_105 : Builder.Extra Tryz.prog Tryz.lays105_ren := {
  sizeBuilder := by kernel_rfl
  liesBuilder := by kernel_rfl
  t5 := Tryz.underlying5
  a5 := Tryz.isAgg5
  z5 := Tryz.sizeOf5
  v5 := Tryz.zeroValue5
  infoByte := by kernel_rfl
  cellsByte := by kernel_rfl
  sizeByte := by kernel_rfl
  neB5 := by decide }
open Go.RowKit Go.Lib in
theorem Tryz.strings_Repeat (s:ByteArray) (c:Nat) (w:World) (hc:c≤9223372036854775807) (hlen:s.size*c≤140737488355328):
  Calls Tryz.prog 209 #[.string s,.int .i64 c] w fun e w'=>e=.returned (.string ⟨(Lib.repeatL s.data.toList c).toArray⟩)∧Below w.heap.size w w':=Any.strings_Repeat Tryz.lays105 Tryz.Builder_Extra_105 s c w hc hlen
open Go.RowKit in
theorem Tryz.Builder_WriteString_k (B b:Nat) (bs:List Value) (s:ByteArray) (w:World) (h:Lib.IsBuilderF 264 5 B b bs w) (hlen:bs.length+s.size≤140737488355328) (hBw:B≤w.heap.size):
  Calls Tryz.prog 185 #[.pointer (some ⟨b,0,none⟩),.string s] w fun e w'=>e=.returned (.tuple #[.int .i64 s.size,.nilIface])∧(Lib.BuilderAtF 264 5 B b (.pointer (some ⟨b,0,none⟩)) (bs++Lib.strCells s) w'∧Below B w w'∧Lib.OthersKept 5 (some b) w w'):=Any.Builder_WriteString_k {Tryz.lays105 with} Tryz.Builder_Extra_105 B b bs s w h hlen hBw
open Go.RowKit in
theorem Tryz.Builder_String_any_k (B b:Nat) (l:List UInt8) (w:World) (h:Lib.IsBuilderF 264 5 B b (Lib.byteCells l) w) (hBw:B≤w.heap.size):
  Calls Tryz.prog 189 #[.pointer (some ⟨b,0,none⟩)] w fun e w'=>e=.returned (.string ⟨l.toArray⟩)∧(Lib.IsBuilderF 264 5 B b (Lib.byteCells l) w'∧Below B w w'∧Lib.OthersKept 5 (some b) w w'):=Any.Builder_String_any_k {Tryz.lays105 with} Tryz.Builder_Extra_105 B b l w h hBw
def Tryz.deleteFunc_ren:Go.Shelf.Ren:=⟨fun|10=>89|6=>139|n=>n,fun|22=>39|23=>9|25=>156|3=>3|4=>4|0=>0|n=>n,fun|n=>n⟩
theorem Tryz.deleteFunc : Go.Proofs.SlLaysH.n10 Tryz.prog Tryz.deleteFunc_ren := {
  mixed := by kernel_rfl
  f6 := ⟨Tryz.f139.name, by decide, Tryz.func139.trans (congrArg some (by kernel_rfl))⟩
  f10 := ⟨Tryz.f89.name, by decide, Tryz.func89.trans (congrArg some (by kernel_rfl))⟩
  t0 := Tryz.underlying0
  a0 := Tryz.isAgg0
  z0 := Tryz.sizeOf0
  v0 := Tryz.zeroValue0
  t3 := Tryz.underlying3
  a3 := Tryz.isAgg3
  z3 := Tryz.sizeOf3
  v3 := Tryz.zeroValue3
  t4 := Tryz.underlying4
  a4 := Tryz.isAgg4
  z4 := Tryz.sizeOf4
  v4 := Tryz.zeroValue4
  t22 := Tryz.underlying39
  a22 := Tryz.isAgg39
  z22 := Tryz.sizeOf39
  v22 := Tryz.zeroValue39
  a23 := Tryz.isAgg9
  z23 := Tryz.sizeOf9
  t25 := Tryz.underlying156
  a25 := Tryz.isAgg156
  z25 := Tryz.sizeOf156
  v25 := Tryz.zeroValue156 }
def Tryz.cloneMap128_ren:Go.Shelf.Ren:=⟨fun|5=>128|7=>169|n=>n,fun|23=>95|25=>9|3=>75|4=>4|20=>20|n=>n,fun|n=>n⟩
theorem Tryz.cloneMap128 : Go.Proofs.SlLaysW.n5 Tryz.prog Tryz.cloneMap128_ren := {
  mixed := by kernel_rfl
  f5 := ⟨Tryz.f128.name, by decide, Tryz.func128.trans (congrArg some (by kernel_rfl))⟩
  f7 := Tryz.func169.trans (congrArg some (by kernel_rfl))
  t4 := Tryz.underlying4
  a4 := Tryz.isAgg4
  z4 := Tryz.sizeOf4
  v4 := Tryz.zeroValue4
  t20 := Tryz.underlying20
  a20 := Tryz.isAgg20
  z20 := Tryz.sizeOf20
  v20 := Tryz.zeroValue20
  t23 := Tryz.underlying95
  a23 := Tryz.isAgg95
  z23 := Tryz.sizeOf95
  v23 := Tryz.zeroValue95 }
def Tryz.cloneMap130_ren:Go.Shelf.Ren:=⟨fun|5=>130|7=>169|n=>n,fun|23=>96|25=>83|3=>9|4=>4|20=>20|n=>n,fun|n=>n⟩
theorem Tryz.cloneMap130 : Go.Proofs.SlLaysW.n5 Tryz.prog Tryz.cloneMap130_ren := {
  mixed := by kernel_rfl
  f5 := ⟨Tryz.f130.name, by decide, Tryz.func130.trans (congrArg some (by kernel_rfl))⟩
  f7 := Tryz.func169.trans (congrArg some (by kernel_rfl))
  t4 := Tryz.underlying4
  a4 := Tryz.isAgg4
  z4 := Tryz.sizeOf4
  v4 := Tryz.zeroValue4
  t20 := Tryz.underlying20
  a20 := Tryz.isAgg20
  z20 := Tryz.sizeOf20
  v20 := Tryz.zeroValue20
  t23 := Tryz.underlying96
  a23 := Tryz.isAgg96
  z23 := Tryz.sizeOf96
  v23 := Tryz.zeroValue96 }
end
end Go.Proofs
