/- Contracts: amounts, numbers in bytes. Contracts: checks of a -/
import Derived.Test.YteceapipdhnhdaaGreatDoorNa9
import Derived.Test.YteceapipdhnhdaaGreatDoorNa10
import Derived.Test.YteceapipdhnhdaaGreatDoorNa11
set_option linter.unusedVariables false
set_option linter.unusedSimpArgs false
namespace Go.Proofs.YteceapipdhnhdaaGreatDoor
section
open Go Go.K
attribute [local irreducible] aH aM aY KOp.wp K.Spec leS vnS str
theorem aZd (a b:Int) (w:World):K.Spec Tryz.prog F.amount_Add [.int .i64 a,.int .i64 b] w fun v w'=>v=.tuple #[.int .i64 (if iP a b then a+b else 0),.int .i64 (if iP a b then 0 else 3)]∧w'=w:=by
 refine aVw rfl ?_
 unfold aHy
 refine oy ?_
 have fl:iP a b=false→Value.tuple #[.int .i64 0,.int .i64 3]=.tuple #[.int .i64 (if iP a b then a+b else 0),.int .i64 (if iP a b then 0 else 3)]:=fun h=>by rw [h];rfl
 have tr:iP a b=true→Value.tuple #[.int .i64 (a+b),.int .i64 0]=.tuple #[.int .i64 (if iP a b then a+b else 0),.int .i64 (if iP a b then 0 else 3)]:=fun h=>by rw [h];rfl
 refine goR ?_
 refine zK rfl (fun h=>?_) (fun h=>?_)
 ·refine goR ?_
  exact aA rfl ⟨fl (by simp at h;simp [iP,h]),rfl⟩
 ·have ha:=(bR a).1 (by simpa using h)
  refine goR ?_
  refine zK rfl (fun h2=>?_) (fun h2=>?_)
  ·refine goR ?_
   exact aA rfl ⟨fl (by simp at h2;simp [iP,h2]),rfl⟩
  ·have hb:=(bR b).1 (by simpa using h2)
   refine goR ?_
   refine zM rfl (fun h3=>?_) (fun h3=>?_)
   ·refine goR ?_
    exact aA rfl ⟨fl (by simp at h3;simp [iP,h3]),rfl⟩
   ·refine goR ?_
    exact aA rfl ⟨tr (by simp at h h2 h3;simp [iP,h,h2,h3]),rfl⟩
theorem aGz {v:Value} {l:List Int} (w:World) (hs:SlE aCl w v l) (hn:l.length≤1000000000000):K.Spec Tryz.prog F.amount_Sum [v] w fun r w'=>r=.tuple #[.int .i64 (gX l),.int .i64 (nO l)]∧w'=w:=by
 refine aVk rfl ?_
 unfold aIu
 refine oy ?_
 refine goR ?_
 refine bL rfl hs ?_
 refine goR ?_
 refine aJ (fun (s:Nat × Int) w'=>w'=w∧s.1≤l.length∧mN 0 (l.take s.1)=some s.2) (fun s=> [(4,.int .i64 s.2),(8,v),(9,.int .i64 (l.length:Nat)),(10,.int .i64 s.1)]) (fun s=>l.length - s.1) (0,0) ⟨rfl,rfl,rfl,rfl,trivial⟩ ⟨rfl,by simp,rfl⟩ ?_
 rintro ⟨i,s⟩ ρ w1 ⟨rfl,hi,hk⟩
 simp only at hi hk
 dsimp only
 have hg:=aAj _ _ _ (by decide) hk
 refine goR ?_
 refine zL rfl (fun h=>?_) (fun h=>?_)
 ·have hil:i<l.length:=by omega
  have ht:=aQe hil
  rw [hk,Option.bind_some] at ht
  refine goR ?_
  refine aT rfl rfl hs rfl hil (fun ad r1=>?_)
  refine goR ?_
  refine zC rfl (aZd s l[i] _) ?_
  rintro _ _ ⟨rfl,rfl⟩
  refine goR ?_
  have e:iP s l[i]=(bT l[i]&&bT (s+l[i])):=by rw [iP,hg];rfl
  refine aNj rfl (fun h2=>?_) (fun h2=>?_)
  ·have ho:iP s l[i]=false:=by
    cases ho:iP s l[i]
    ·rfl
    ·rw [ho] at h2;exact absurd rfl h2
   refine goR ?_
   have hno:=aFy (show mN 0 (l.take (i+1))=none by rw [ht,←e,ho];rfl)
   refine aA rfl ⟨?_,rfl⟩
   rw [gX,nO,hno,ho];rfl
  ·have ho:iP s l[i]=true:=by
    cases ho:iP s l[i]
    ·rw [ho] at h2;exact absurd h2 (by decide)
    ·rfl
   refine goR ?_
   refine ⟨(i+1,s+l[i]),⟨by rw [ho];rfl,rfl,rfl,rfl,trivial⟩,⟨rfl,by simp;omega,?_⟩,by simp;omega⟩
   rw [ht,←e,ho];rfl
 ·refine goR ?_
  have e:l.take i=l:=tLe (by omega)
  rw [e] at hk
  refine aA rfl ⟨?_,rfl⟩
  rw [gX,nO,hk];rfl
theorem aDt {v:Value} {l:List Int} (w:World) (hs:SlE aCl w v l) (hn:l.length≤1000000000000):K.Spec Tryz.prog F.kedgeref01_Sum [v] w fun r w'=>r=.tuple #[.int .i64 (gX l),.int .i64 (nO l)]∧w'=w:=by
 refine aJ4 rfl ?_
 unfold yX
 refine oy ?_
 refine goR ?_
 refine aJ (fun (s:Nat × Int) w'=>w'=w∧s.1≤l.length∧mN 0 (l.take s.1)=some s.2) (fun s=> [(0,v),(4,.int .i64 s.2),(5,.int .i64 s.1)]) (fun s=>l.length - s.1) (0,0) ⟨rfl,rfl,rfl,trivial⟩ ⟨rfl,by simp,rfl⟩ ?_
 rintro ⟨i,s⟩ ρ w1 ⟨rfl,hi,hk⟩
 simp only at hi hk
 dsimp only
 have hg:=(bR _).1 (aAj _ _ _ (by decide) hk)
 refine goR ?_
 refine bL rfl hs ?_
 refine goR ?_
 refine zL rfl (fun h=>?_) (fun h=>?_)
 ·have hil:i<l.length:=by omega
  have ht:=aQe hil
  rw [hk,Option.bind_some] at ht
  refine goR ?_
  refine aT rfl rfl hs rfl hil (fun ad r1=>?_)
  refine goR ?_
  refine zM rfl (fun h2=>?_) (fun h2=>?_)
  ·refine goR ?_
   have ho:bT l[i]=false:=by simpa using h2
   have hno:=aFy (show mN 0 (l.take (i+1))=none by rw [ht,ho];rfl)
   refine aA rfl ⟨?_,rfl⟩
   rw [gX,nO,hno];rfl
  ·have hgl:bT l[i]=true:=by simpa using h2
   have hgl':=(bR _).1 hgl
   refine goR ?_
   refine aT rfl rfl hs rfl hil (fun ad2 r2=>?_)
   refine goR ?_
   refine zM rfl (fun h3=>?_) (fun h3=>?_)
   ·refine goR ?_
    have ho:bT (s+l[i])=false:=by simpa using h3
    have hno:=aFy (show mN 0 (l.take (i+1))=none by rw [ht,ho,hgl];rfl)
    refine aA rfl ⟨?_,rfl⟩
    rw [gX,nO,hno];rfl
   ·have ho:bT (s+l[i])=true:=by simpa using h3
    refine goR ?_
    refine ⟨(i+1,s+l[i]),⟨rfl,rfl,rfl,trivial⟩,⟨rfl,by simp;omega,?_⟩,by simp;omega⟩
    rw [ht,ho,hgl];rfl
 ·refine goR ?_
  have e:l.take i=l:=tLe (by omega)
  rw [e] at hk
  refine aA rfl ⟨?_,rfl⟩
  rw [gX,nO,hk];rfl
theorem aY3 {v:Value} {l:List Int} (a:Int) (w:World) (hs:SlE aCl w v l) (hn:l.length≤1000000000000):K.Spec Tryz.prog F.slices_Index_L_int_int [v,.int .i64 a] w fun r w'=>r=.int .i64 (idxOf (fun x=>decide (a=x)) l)∧w'=w:=by
 refine wM rfl ?_
 unfold lH
 refine oy ?_
 refine goR ?_
 refine bL rfl hs ?_
 refine goR ?_
 refine aJ (fun (i:Nat) w'=>w'=w∧i≤l.length∧∀j,j<i→∀h:j<l.length,a≠l[j]) (fun i=> [(0,v),(1,.int .i64 a),(6,v),(7,.int .i64 (l.length:Nat)),(8,.int .i64 i)]) (fun i=>l.length - i) 0 ⟨rfl,rfl,rfl,rfl,rfl,trivial⟩ ⟨rfl,by omega,by omega⟩ ?_
 rintro i ρ w1 ⟨rfl,hi,hk⟩
 refine goR ?_
 refine zL rfl (fun h=>?_) (fun h=>?_)
 ·have hil:i<l.length:=by omega
  refine goR ?_
  refine aT rfl rfl hs rfl hil (fun ad r1=>?_)
  refine goR ?_
  refine zL rfl (fun h2=>?_) (fun h2=>?_)
  ·refine goR ?_
   exact aA rfl ⟨congrArg (Value.int .i64) (idxOf_hit hil (by simpa using h2) (fun j hj=>by simpa using hk j hj (by omega))).symm,rfl⟩
  ·refine goR ?_
   refine ⟨i+1,⟨rfl,rfl,rfl,rfl,rfl,trivial⟩,⟨rfl,by omega,fun j hj hl=>?_⟩,by omega⟩
   by_cases hji:j=i
   ·subst hji;exact h2
   ·exact hk j (by omega) hl
 ·refine goR ?_
  exact aA rfl ⟨congrArg (Value.int .i64) (idxOf_miss (fun j hj=>by simpa using hk j (by omega) hj)).symm,rfl⟩
theorem aQf {v:Value} {l:List Int} (a:Int) (w:World) (hs:SlE aCl w v l) (hn:l.length≤1000000000000):K.Spec Tryz.prog F.slices_Contains_L_int_int [v,.int .i64 a] w fun r w'=>r=.bool (l.any fun x=>decide (a=x))∧w'=w:=by
 refine sD rfl ?_
 unfold jT
 refine oy ?_
 refine goR ?_
 refine zC rfl (aY3 a _ hs hn) ?_
 rintro _ _ ⟨rfl,rfl⟩
 refine goR ?_
 exact aA rfl ⟨congrArg Value.bool mS,rfl⟩
theorem aN4 (k:Nat) (hk:k=1∨k=2∨k=4∨k=8) (w:World):K.Spec Tryz.prog F.octet_known [.int .i64 (k:Nat)] w fun r w'=>r=.bool true∧Ext w w':=by
 refine aQz rfl ?_
 unfold aE7
 refine oy ?_
 refine goR ?_
 refine zI rfl (fun b w1 x1 a1 hb=>?_)
 refine goR ?_
 refine zC rfl (aQf (l:= [1,2,4,8]) (k:Nat) _ (SlE.new (E:=aCl) a1 rfl (Nat.le_refl _)) (by decide)) ?_
 rintro _ _ ⟨rfl,rfl⟩
 refine goR ?_
 refine aA rfl ⟨congrArg Value.bool ?_,x1⟩
 rcases hk with rfl|rfl|rfl|rfl<;>rfl
theorem aB3 (n k:Nat) (hk:k=1∨k=2∨k=4∨k=8) (hn:n<18446744073709551616) (w:World):K.Spec Tryz.prog F.octet_Put [.int .u64 (n:Nat),.int .i64 (k:Nat)] w fun r w'=>r=.string (leS n k)∧Ext w w':=by
 refine aW4 rfl ?_
 unfold aLb
 refine oy ?_
 refine goR ?_
 refine zC rfl (aN4 k hk _) ?_
 rintro _ w1 ⟨rfl,x1⟩
 refine goR ?_
 refine aJ (fun (s:Nat × Value) w'=>Ext w w'∧s.1≤k∧Own u8E T.uint8 w.heap.size w' s.2 (leL n s.1)) (fun s=> [(0,.int .u64 ((n / 256^s.1:Nat):Int)),(5,s.2),(9,.int .i64 (k:Nat)),(10,.int .i64 s.1)]) (fun s=>k - s.1) (0,.slice none 0 0) ⟨by simp;rfl,rfl,rfl,rfl,trivial⟩ ⟨x1,by simp,Own.nil _ _ _⟩ ?_
 rintro ⟨i,vo⟩ ρ w2 ⟨x2,hi,ho⟩
 simp only at hi ho
 dsimp only
 refine goR ?_
 refine zL rfl (fun h=>?_) (fun h=>?_)
 ·refine goR ?_
  refine zI rfl (fun b w3 x3 a3 hb=>?_)
  refine goR ?_
  refine bZ (E:=u8E) (v:=vo) (l2:= [UInt8.ofNat (n / 256^i)]) rfl (ho.ext x3) (nTr x2.size x3.size) rfl rfl (dR a3 rfl) (by rw [aDw];rfl) rfl (by rw [dE];simp;omega) (fun vo' w4 ho4 c4=>?_)
  refine goR ?_
  refine ⟨(i+1,vo'),⟨?_,rfl,rfl,rfl,trivial⟩,⟨((x2.trans x3).chg c4).mono (fun b hb=>.inr (ho.base b (by simpa using hb))),by simp;omega,ho4⟩,by simp;omega⟩
  show Value.int .u64 (Int.fdiv ((n / 256^i:Nat):Int) (2^(min (8:Int).toNat IntKind.u64.bits)))=_
  congr 1
  rw [Nat.pow_succ,←Nat.div_div_eq_div_mul]
  rw [Int.fdiv_eq_ediv_of_nonneg _ (by decide)]
  rfl
 ·refine goR ?_
  have e:i=k:=by omega
  subst e
  refine aAh rfl ho.sl ?_
  refine goR ?_
  exact aA rfl ⟨by rw [leS];rfl,x2⟩
theorem aSx (n k:Nat) (hk:k=1∨k=2∨k=4∨k=8) (hn:n<18446744073709551616) (w:World):K.Spec Tryz.prog F.kedgeref02_Put [.int .u64 (n:Nat),.int .i64 (k:Nat)] w fun r w'=>r=.string (leS n k)∧Ext w w':=by
 refine aKu rfl ?_
 unfold yZ
 refine oy ?_
 have hk4:k≤8:=by omega
 apply zf;apply z0;apply z1;apply zf;apply z0;apply z1
 refine rH (fun (_:Unit) w'=>w'=w) (fun _=> [(0,.int .u64 (n:Nat)),(1,.int .i64 (k:Nat)),(5,.string ⟨#[]⟩)]) ?_ ?_
 ·refine goR ?_
  rcases hk with rfl|rfl|rfl|rfl
  all_goals
   refine goR ?_
   exact ⟨(),⟨rfl,rfl,rfl,trivial⟩,rfl⟩
 rintro _ ρ w rfl
 refine goR ?_
 refine aJ (fun (s:Nat) w'=>Ext w w'∧s≤k) (fun s=> [(0,.int .u64 ((n / 256^s:Nat):Int)),(1,.int .i64 (k:Nat)),(5,.string (leS n s)),(6,.int .i64 s)]) (fun s=>k - s) 0 ⟨by simp;rfl,rfl,by rw [bKv];rfl,rfl,trivial⟩ ⟨Ext.refl _,Nat.zero_le _⟩ ?_
 rintro i ρ w2 ⟨x2,hi⟩
 refine goR ?_
 refine zL rfl (fun h=>?_) (fun h=>?_)
 ·refine goR ?_
  refine zI rfl (fun b w3 x3 a3 hb=>?_)
  refine goR ?_
  have em:Int.tmod ((n / 256^i:Nat):Int) 256=((n / 256^i%256:Nat):Int):=tm _ 256
  have a4:At w3 b (.cells [Value.int .u8 (IntKind.u8.wrap ((n / 256^i%256:Nat):Int))].toArray T.uint8 (0,0)):=by rw [←em];exact a3
  refine bL0 rfl a4 ?_
  refine goR ?_
  have e1:UInt8.ofNat (n / 256^i%256)=UInt8.ofNat (n / 256^i):=by apply UInt8.toNat_inj.1;simp
  refine lK rfl rfl (by rw [cN,jF];simp;omega) ?_
  refine goR ?_
  refine ⟨i+1,⟨?_,rfl,?_,rfl,trivial⟩,⟨x2.trans x3,by omega⟩,by omega⟩
  ·show Value.int .u64 (IntKind.u64.wrap (Int.tdiv ((n / 256^i:Nat):Int) 256))=_
   have hlt:n / 256^i<18446744073709551616:=Nat.lt_of_le_of_lt (Nat.div_le_self _ _) hn
   have e2:Int.tdiv ((n / 256^i:Nat):Int) 256=((n / 256^(i+1):Nat):Int):=by
    rw [Nat.pow_succ,←Nat.div_div_eq_div_mul];exact td _ 256
   have h8:=Nat.div_le_self n (256^(i+1))
   rw [e2,eZ (Int.natCast_nonneg _) (by omega)]
  ·show Value.string (leS n i++str [UInt8.ofNat (n / 256^i%256)])=Value.string (leS n (i+1))
   rw [e1,bK9]
 ·refine goR ?_
  have e:i=k:=by omega
  subst e
  exact aA rfl ⟨rfl,x2⟩
theorem aTy (n:Nat) (hn:n<18446744073709551616) (w:World):K.Spec Tryz.prog F.vint_Put [.int .u64 (n:Nat)] w fun r w'=>r=.string (vnS n)∧Ext w w':=by
 refine bDp rfl ?_
 unfold aOm
 refine oy ?_
 repeat' (first|(first|refine go2 ?_|fail)|refine zL rfl (fun h=>?_) (fun h=>?_)|(refine zC rfl (aB3 _ _ (by decide) (by first|exact hn|decide) _) ?_;rintro _ _ ⟨rfl,_⟩)|refine lK rfl rfl (by rw [cN,cN];decide) ?_)
 ·exact aA rfl ⟨congrArg Value.string (by rw [vnS,if_pos (by omega)]),by repeat (first|assumption|exact Ext.refl _|refine Ext.trans ?_ (by assumption))⟩
 ·exact aA rfl ⟨congrArg Value.string (by rw [vnS,if_neg (by omega),if_pos (by omega)]),by repeat (first|assumption|exact Ext.refl _|refine Ext.trans ?_ (by assumption))⟩
 ·exact aA rfl ⟨congrArg Value.string (by rw [vnS,if_neg (by omega),if_neg (by omega),if_pos (by omega)]),by repeat (first|assumption|exact Ext.refl _|refine Ext.trans ?_ (by assumption))⟩
 ·exact aA rfl ⟨congrArg Value.string (by rw [vnS,if_neg (by omega),if_neg (by omega),if_neg (by omega)]),by repeat (first|assumption|exact Ext.refl _|refine Ext.trans ?_ (by assumption))⟩
theorem bDv (n:Nat) (hn:n<18446744073709551616) (w:World):K.Spec Tryz.prog F.kedgeref03_Put [.int .u64 (n:Nat)] w fun r w'=>r=.string (vnS n)∧Ext w w':=by
 refine aJ9 rfl ?_
 unfold yV
 refine oy ?_
 repeat' (first|(first|refine go2 ?_|fail)|refine zL rfl (fun h=>?_) (fun h=>?_)|(refine zC rfl (aSx _ _ (by decide) hn _) ?_;rintro _ _ ⟨rfl,_⟩)|refine lK rfl rfl (by rw [cN];decide) ?_)
 ·exact aA rfl ⟨congrArg Value.string (by rw [vnS,if_pos (by omega)]),by repeat (first|assumption|exact Ext.refl _|refine Ext.trans ?_ (by assumption))⟩
 ·exact aA rfl ⟨congrArg Value.string (by rw [vnS,if_neg (by omega),if_pos (by omega),bP9]),by repeat (first|assumption|exact Ext.refl _|refine Ext.trans ?_ (by assumption))⟩
 ·exact aA rfl ⟨congrArg Value.string (by rw [vnS,if_neg (by omega),if_neg (by omega),if_pos (by omega),bPx]),by repeat (first|assumption|exact Ext.refl _|refine Ext.trans ?_ (by assumption))⟩
 ·exact aA rfl ⟨congrArg Value.string (by rw [vnS,if_neg (by omega),if_neg (by omega),if_neg (by omega),bPz]),by repeat (first|assumption|exact Ext.refl _|refine Ext.trans ?_ (by assumption))⟩
theorem nJ (n:Nat) (hn:n<9223372036854775808) (w:World):K.Spec Tryz.prog F.wire_counted [.int .i64 (n:Nat)] w fun r w'=>r=.string (vnS n)∧Ext w w':=by
 refine aQs rfl ?_
 unfold aDf
 refine oy ?_
 refine goR ?_
 rw [eZ (by omega) (by omega)]
 refine zC rfl (aTy n (by omega) _) ?_
 rintro _ w1 ⟨rfl,x1⟩
 refine goR ?_
 exact aA rfl ⟨rfl,x1⟩
theorem nA (n:Nat) (hn:n<9223372036854775808) (w:World):K.Spec Tryz.prog F.kedgeref06_length [.int .i64 (n:Nat)] w fun r w'=>r=.string (vnS n)∧Ext w w':=by
 refine aEl rfl ?_
 unfold rR
 refine oy ?_
 refine goR ?_
 rw [eZ (by omega) (by omega)]
 refine zC rfl (bDv n (by omega) _) ?_
 rintro _ w1 ⟨rfl,x1⟩
 refine goR ?_
 exact aA rfl ⟨rfl,x1⟩
theorem aNo (s:ByteArray) (hs:s.size≤1000000) (w:World):K.Spec Tryz.prog F.wire_sized [.string s] w fun r w'=>r=.string (vnS s.size++s)∧Ext w w':=by
 refine aT2 rfl ?_
 unfold aHd
 refine oy ?_
 refine goR ?_
 refine zC rfl (nJ s.size (by omega) _) ?_
 rintro _ w1 ⟨rfl,x1⟩
 refine goR ?_
 have:=eG s.size
 refine lK rfl rfl (by omega) ?_
 refine goR ?_
 exact aA rfl ⟨rfl,x1⟩
end
section
open Go Go.K
attribute [local irreducible] aH aM aY KOp.wp K.Spec leS vnS str
theorem aCu {M:List Nat} {cs:List Value} {t:Tx} (w:World) (ht:txR.rel M w cs t) (hs:t.Sm):K.Spec Tryz.prog F.kedgeref05_Total [.agg cs.toArray] w fun r w'=>r=.tuple #[.int .i64 (gX (values t)),.int .i64 (nO (values t))]∧Ext w w':=by
 obtain ⟨iv,ov,rfl,hi,ho,hv,hl⟩:=ht
 have h1:=hs.outs
 refine aF3 rfl ?_
 unfold tK
 refine oy ?_
 repeat' (first|(first|refine go2 ?_|fail)|(first|refine zD rfl rfl (fun bp wp xp ap rp hp0=>?_)|refine zE (fun _=>rfl) rfl rfl rfl (fun bq wq xq aq rq hq0=>?_))|refine zG rfl (by exact fx) ?_|refine zL rfl (fun h=>?_) (fun h=>?_)|(refine aJ (fun (s:Nat × Value) w'=>Ext wp w'∧s.1≤t.outs.length∧Own aCl T.int wp.heap.size w' s.2 ((values t).take s.1)) (fun s=> [(1,.pointer (some ⟨bp,0,none⟩)),(4,s.2),(5,.int .i64 s.1)]) (fun s=>t.outs.length - s.1) (0,.slice none 0 0) ⟨rfl,rfl,rfl,trivial⟩ ⟨by exact fx,by simp,Own.nil _ _ _⟩ ?_;rintro ⟨i,vo⟩ ρ w1 ⟨x1,hi1,hO⟩;simp only at hi1 hO;dsimp only)|(refine aR rfl rfl (n:=i) (l:=t.outs) (by exact fx) rfl (by omega) (fun ad cs r2 he=>?_);obtain ⟨rfl,_⟩:=he;have hil:i<t.outs.length:=by omega)|refine zI rfl (fun b w3 x3 a3 hb=>?_)|refine bZ (E:=aCl) (v:=vo) (l2:= [t.outs[i].v]) rfl (hO.ext (by exact fx)) (Ext.size (w:=wp) (by exact fx)) rfl rfl (dR a3 rfl) rfl rfl (by simp;omega) (fun vo' w4 ho4 c4=>?_)|(refine zC rfl (aDt (l:=(values t).take i) _ hO.sl (by simp;omega)) ?_;rintro _ _ ⟨rfl,rfl⟩))
 ·refine ⟨(i+1,vo'),⟨rfl,rfl,rfl,trivial⟩,⟨(Chg.ext (l:= []) (Ext.chg (w:=wp) (by exact fx) c4 |>.mono (fun b hb=>.inr (hO.base b (by simpa using hb)))) (Ext.refl _)),by simp;omega,?_⟩,by simp;omega⟩
  have e:(values t).take (i+1)=(values t).take i++ [t.outs[i].v]:=by
   rw [List.take_succ_eq_append_getElem (by simpa [values] using hil)];simp [values]
  show Own _ _ _ _ _ ((values t).take (i+1))
  rw [e];exact ho4
 ·have e:(values t).take i=values t:=tLe (by simp [values];omega)
  refine aA rfl ⟨?_,xp.trans x1⟩
  show Value.tuple #[.int .i64 (gX ((values t).take i)),.int .i64 (nO ((values t).take i))]=_
  rw [e]
theorem aJp {α:Type} {p:α→Bool} {l:List α} {i:Nat} (h:i<l.length) (hp:p l[i]=true):l.any p=true:=List.any_eq_true.2 ⟨_,gMe h,hp⟩
theorem aBy {α:Type} {p:α→Bool} {l:List α} (hp:∀j (h:j<l.length),p l[j]=false):l.any p=false:=List.any_eq_false.2 fun x hx=>by
 obtain ⟨j,h,rfl⟩:=List.getElem_of_mem hx
 rw [hp j h];simp
theorem bCv {M:List Nat} {cs:List Value} {t:Tx} (w:World) (ht:txR.rel M w cs t) (hs:t.Sm):K.Spec Tryz.prog F.kedgeref05_long [.agg cs.toArray] w fun r w'=>r=.bool (yM t)∧Ext w w':=by
 obtain ⟨iv,ov,rfl,hi,ho,hv,hl⟩:=ht
 have h1:=hs.outs
 have h2:=hs.ins
 have h3:=hs.wit
 refine aG0 rfl ?_
 unfold uP
 refine oy ?_
 repeat' (first|(first|refine go2 ?_|fail)|(first|refine zD rfl rfl (fun bp wp xp ap rp hp0=>?_)|refine zE (fun _=>rfl) rfl rfl rfl (fun bq wq xq aq rq hq0=>?_))|refine zG rfl (by exact fx) ?_|refine zL rfl (fun h=>?_) (fun h=>?_)|(refine aJ (fun (i:Nat) w'=>wp=w'∧i≤t.outs.length∧∀j,j<i→∀h:j<t.outs.length,uH t.outs[j]=false) (fun i=> [(1,.pointer (some ⟨bp,0,none⟩)),(3,.int .i64 i)]) (fun i=>t.outs.length - i) 0 ⟨rfl,rfl,trivial⟩ ⟨rfl,by omega,by omega⟩ ?_;rintro i ρ _ ⟨rfl,hi1,hk⟩)|(have hal:a<t.ins.length:=(by omega);refine aJ (fun (k:Nat) w'=>wp=w'∧k≤t.ins[a].wit.length∧∀j,j<k→∀h:j<t.ins[a].wit.length,sX t.ins[a].wit[j]=false) (fun k=> [(1,.pointer (some ⟨bp,0,none⟩)),(4,.int .i64 a),(5,.int .i64 k)]) (fun k=>t.ins[a].wit.length - k) 0 ⟨rfl,rfl,rfl,trivial⟩ ⟨rfl,by omega,by omega⟩ ?_;rintro k ρ3 _ ⟨rfl,hk1,hkk⟩)|(refine aJ (fun (a:Nat) w'=>wp=w'∧a≤t.ins.length∧∀j,j<a→∀h:j<t.ins.length,aJ3 t.ins[j]=false) (fun a=> [(1,.pointer (some ⟨bp,0,none⟩)),(4,.int .i64 a)]) (fun a=>t.ins.length - a) 0 ⟨rfl,rfl,trivial⟩ ⟨rfl,by omega,by omega⟩ ?_;rintro a ρ2 _ ⟨rfl,ha1,hka⟩)|(refine aR rfl rfl (n:=k) (l:=t.ins[a].wit) (by exact fx) rfl (by omega) (fun ad cs r4 he=>?_);have hq:cs= [Value.string t.ins[a].wit[k]]:=he;rw [hq] at r4)|(refine aR rfl rfl (n:=a) (l:=t.ins) (by exact fx) rfl (by omega) (fun ad cs r2 he=>?_);obtain ⟨wv,rfl,hw,_⟩:=he;have hm:=h3 _ (gMe hal))|(refine aR rfl rfl (n:=i) (l:=t.outs) (by exact fx) rfl (by omega) (fun ad cs r2 he=>?_);obtain ⟨rfl,_⟩:=he;have hil:i<t.outs.length:=by omega))
 ·refine aA rfl ⟨congrArg Value.bool ?_,by exact fx⟩
  rw [yM,aJp hil (by simpa [uH] using h)];rfl
 ·exact ⟨i+1,⟨rfl,rfl,trivial⟩,⟨rfl,by omega,fun j hj hl=>by
   rcases Nat.lt_succ_iff_lt_or_eq.1 hj with hj|rfl
   ·exact hk j hj hl
   ·simpa [uH] using h⟩,by omega⟩
 ·refine aA rfl ⟨congrArg Value.bool ?_,by exact fx⟩
  have hkl:k<t.ins[a].wit.length:=by omega
  have e1:aJ3 t.ins[a]=true:=aJp hkl (by simpa [sX] using h)
  rw [yM,aJp (l:=t.ins) hal e1,Bool.or_true]
 ·exact ⟨k+1,⟨rfl,rfl,rfl,trivial⟩,⟨rfl,by omega,fun j hj hl=>by
   rcases Nat.lt_succ_iff_lt_or_eq.1 hj with hj|rfl
   ·exact hkk j hj hl
   ·simpa [sX] using h⟩,by omega⟩
 ·exact ⟨a+1,⟨rfl,rfl,trivial⟩,⟨rfl,by omega,fun j hj hl=>by
   rcases Nat.lt_succ_iff_lt_or_eq.1 hj with hj|rfl
   ·exact hka j hj hl
   ·exact aBy fun k' hk'=>hkk k' (by omega) hk'⟩,by omega⟩
 ·refine aA rfl ⟨congrArg Value.bool ?_,by exact fx⟩
  rw [yM,aBy fun j hj=>hk j (by omega) hj,aBy fun j hj=>hka j (by omega) hj];rfl
theorem iT {P:Program} {d:Option Tmp} {r:KR} {K:Env→World→Prop} {ρ:Env} {w:World} {x i:Operand} {s:ByteArray} {k:IntKind} {n:Nat} (hx:ev ρ x=.string s) (hi:ev ρ i=.int k n) (h:n<s.size) (kk:aH P r K (put ρ d (.int .u8 (s[n].toNat:Nat))) w):aH P (.cons ⟨d,.indexStr x i,none⟩ r) K ρ w:=cS rfl (by simp [KOp.fix,hx,hi,h]) kk
theorem aJ6:aP.data=Array.replicate 32 0:=by
 unfold aP str;rfl
theorem bLj {s:ByteArray} (hs:s.size=32) (h:∀j (hj:j<s.size),s[j].toNat=0):s=aP:=by
 apply ByteArray.ext
 rw [aJ6]
 apply Array.ext
 ·rw [Array.size_replicate];exact hs
 ·intro i h1 h2
  rw [Array.getElem_replicate]
  exact UInt8.toNat_inj.1 (h i h1)
theorem bGn:aP.size=32:=by
 show aP.data.size=32
 rw [aJ6,Array.size_replicate]
theorem bKo {s:ByteArray} (e:s=aP) {j:Nat} (hj:j<s.size):s[j].toNat=0:=by
 subst e
 show (aP.data[j]'hj).toNat=0
 have:∀(a:Array UInt8) (h:j<a.size),a=Array.replicate 32 0→(a[j]'h).toNat=0:=by
  intro a h e
  subst e
  rw [Array.getElem_replicate];rfl
 exact this _ _ aJ6
theorem aZj {p:Prop} [Decidable p] (h:(!decide p)=true):¬p:=by simpa using h
theorem aMg {p:Prop} [Decidable p] (h:(!decide p)=false):p:=by simpa using h
theorem aAb (p:Pt) (w:World):K.Spec Tryz.prog F.kedgeref05_Base [.agg p.cs.toArray] w fun r w'=>r=.bool (kB p)∧Ext w w':=by
 refine aH0 rfl ?_
 unfold vC
 refine oy ?_
 repeat' (first|(first|refine go2 ?_|fail)|(first|refine zD rfl rfl (fun bp wp xp ap rp hp0=>?_)|refine zE (fun _=>rfl) rfl rfl rfl (fun bq wq xq aq rq hq0=>?_))|refine zG rfl (by exact fx) ?_|refine zL rfl (fun h=>?_) (fun h=>?_)|refine zK rfl (fun h1=>?_) (fun h1=>?_)|refine zM rfl (fun h2=>?_) (fun h2=>?_)|(have hs:p.s.size=32:=(by have:=aMg h1;omega);refine iT (n:=i) rfl rfl (by omega) ?_)|(refine aJ (fun (i:Nat) w'=>wp=w'∧i≤32∧∀j,j<i→∀h:j<p.s.size,p.s[j].toNat=0) (fun i=> [(1,.pointer (some ⟨bp,0,none⟩)),(3,.int .i64 i)]) (fun i=>32 - i) 0 ⟨rfl,rfl,trivial⟩ ⟨rfl,by omega,by omega⟩ ?_;rintro i ρ _ ⟨rfl,hi1,hk⟩))
 ·refine aA rfl ⟨congrArg Value.bool ?_,by exact fx⟩
  have h:p.s≠aP:=fun e=>aZj h1 (by rw [e,bGn];rfl)
  rw [kB,dFa (p:=p.s=uZ.s) h];rfl
 ·refine aA rfl ⟨congrArg Value.bool ?_,by exact fx⟩
  have h:=aZj h2
  rw [kB,dFa (p:=p.i=uZ.i) h,Bool.and_false]
 ·refine aA rfl ⟨congrArg Value.bool ?_,by exact fx⟩
  have h:p.s≠aP:=fun e=>aZj h2 (by rw [bKo e];rfl)
  rw [kB,dFa (p:=p.s=uZ.s) h];rfl
 ·exact ⟨i+1,⟨rfl,rfl,trivial⟩,⟨rfl,by omega,fun j hj hl=>by
   rcases Nat.lt_succ_iff_lt_or_eq.1 hj with hj|rfl
   ·exact hk j hj hl
   ·have:=aMg h2;omega⟩,by omega⟩
 ·refine aA rfl ⟨congrArg Value.bool ?_,by exact fx⟩
  have hs:p.s.size=32:=by have:=aMg h1;omega
  have h:p.s=uZ.s:=bLj hs fun j hj=>hk j (by omega) hj
  rw [kB,dTr h,dTr (p:=p.i=uZ.i) (aMg h2)];rfl
end
section
open Go Go.K
attribute [local irreducible] aH aM aY KOp.wp K.Spec leS vnS str aP
theorem bIk {t:Tx} (h:¬(1≤(t.ins.length:Int)∧(t.ins.length:Int)≤256∧1≤(t.outs.length:Int)∧(t.outs.length:Int)≤256)):aG t=6:=by
 have:iW t=false:=by
  unfold iW
  by_cases h1:1≤(t.ins.length:Int)∧(t.ins.length:Int)≤256
  ·have h2:¬(1≤(t.outs.length:Int)∧(t.outs.length:Int)≤256):=by omega
   rw [dFa h2];simp
  ·rw [dFa h1];simp
 rw [aG,this];rfl
theorem bKm {t:Tx} {j:Nat} (h:j<t.ins.length) (hw:(t.ins[j].wit.length:Int)>4):aG t=6:=by
 have:iW t=false:=by
  unfold iW
  rw [aJp h (by simpa using hw)];simp
 rw [aG,this];rfl
theorem bI3 {t:Tx} (h:1≤(t.ins.length:Int)∧(t.ins.length:Int)≤256∧1≤(t.outs.length:Int)∧(t.outs.length:Int)≤256) (hw:∀j (h:j<t.ins.length),¬(t.ins[j].wit.length:Int)>4):iW t=true:=by
 unfold iW
 rw [aBy (p:=fun x:TIn=>decide ((x.wit.length:Int)>4)) fun j h=>dFa (hw j h),dTr (p:=1≤(t.ins.length:Int)∧(t.ins.length:Int)≤256) (by omega),dTr (p:=1≤(t.outs.length:Int)∧(t.outs.length:Int)≤256) (by omega)];rfl
theorem bJe {t:Tx} {j:Nat} (h:j<t.ins.length) (hb:xU t t.ins[j]=true):jV t=false:=by
 rw [jV,aJp h hb];rfl
theorem bJw {t:Tx} (h:∀j (h:j<t.ins.length),xU t t.ins[j]=false):jV t=true:=by
 rw [jV,aBy h];rfl
theorem bLz {t:Tx} {a b:Nat} (ha:a<t.ins.length) (hb:b<a) (h:t.ins[a].p=t.ins[b].p):aCf t=true:=by
 have hpl:(cC t).length=t.ins.length:=by simp [cC]
 refine aSq (i:=a+1) ?_
 rw [aKi (by omega)]
 have:((cC t).take a).contains (cC t)[a]=true:=by
  rw [List.contains_iff_mem]
  refine List.mem_take_iff_getElem.2 ⟨b,by omega,?_⟩
  simp only [cC,List.getElem_map]
  exact h.symm
 rw [this];rfl
theorem bNu {t:Tx} {a:Nat} (ha:a<(cC t).length) (hd:aAe ((cC t).take a).reverse=false) (h:∀j (hj:j<a),(cC t)[j]≠(cC t)[a]):aAe ((cC t).take (a+1)).reverse=false:=by
 rw [aKi ha,hd,Bool.or_false]
 rw [←Bool.not_eq_true,List.contains_iff_mem,List.mem_take_iff_getElem]
 rintro ⟨j,hj,e⟩
 exact h j (by omega) e
theorem bOa {t:Tx} {a:Nat} (h:t.ins.length≤a) (hd:aAe ((cC t).take a).reverse=false):aCf t=false:=by
 rw [tLe (by simp [cC];omega)] at hd;exact hd
theorem bCo {p q:Pt} (h1:p.s=q.s) (h2:p.i=q.i):p=q:=by cases p;cases q;simp_all
set_option maxHeartbeats 2000000 in
theorem qU {M : List Nat} {cs : List Value} {t : Tx} (w : World) (ht : txR.rel M w cs t) (hs : t.Sm) : K.Spec Tryz.prog F.kedgeref05_Check [.agg cs.toArray] w fun r w' => r = .int .i64 (aG t) ∧ Ext w w' := by
  have ht0 := ht
  obtain ⟨iv, ov, rfl, hi, ho, hv, hl⟩ := ht
  have h1 := hs.outs
  have h2 := hs.ins
  have h3 := hs.wit
  have hpl : (cC t).length = t.ins.length := by simp [cC]
  have hpg : ∀ i (h : i < t.ins.length), (cC t)[i]'(by rw [hpl]; exact h) = t.ins[i].p := fun i h => by simp [cC]
  refine aGd rfl ?_
  unfold tX
  refine oy ?_
  repeat' (first|(first|refine go2 ?_|fail)|(first|refine zD rfl rfl (fun bp wp xp ap rp hp0=>?_)|refine zE (fun _=>rfl) rfl rfl rfl (fun bq wq xq aq rq hq0=>?_))|refine zG rfl (by exact fx) ?_|refine zL rfl (fun h => ?_) (fun h => ?_)|refine zK rfl (fun h => ?_) (fun h => ?_)|refine zM rfl (fun h => ?_) (fun h => ?_)|(refine zC rfl (bCv (M := M) _ (cs := aK t iv ov) (by exact fx) hs) ?_; rintro _ w3 ⟨rfl, x3⟩)|(refine zC rfl (aCu (M := M) _ (cs := aK t iv ov) (by exact fx) hs) ?_; rintro _ w4 ⟨rfl, x4⟩)|(refine aJ (fun (i : Nat) w' => wp = w' ∧ i ≤ t.ins.length ∧ ∀ j, j < i → ∀ h : j < t.ins.length, ¬ (t.ins[j].wit.length : Int) > 4) (fun i => [(1, .pointer (some ⟨bp, 0, none⟩)), (3, .int .i64 i)]) (fun i => t.ins.length - i) 0 ⟨rfl, rfl, trivial⟩ ⟨rfl, by omega, by omega⟩ ?_; rintro i ρ _ ⟨rfl, hi1, hk⟩)|(refine aJ (fun (u : Nat) w' => Ext wp w' ∧ u ≤ t.ins.length ∧ ∀ j, j < u → ∀ h : j < t.ins.length, xU t t.ins[j] = false) (fun u => [(1, .pointer (some ⟨bp, 0, none⟩)), (5, .int .i64 u)]) (fun u => t.ins.length - u) 0 ⟨rfl, rfl, trivial⟩ ⟨by exact fx, by omega, by omega⟩ ?_; rintro u ρ2 w5 ⟨x5, hu1, hku⟩)|(refine aJ (fun (b : Nat) w' => Ext w6 w' ∧ b ≤ a ∧ ∀ j (hj : j < b) (hl : j < (cC t).length) (ha : a < (cC t).length), (cC t)[j] ≠ (cC t)[a]) (fun b => [(1, .pointer (some ⟨bp, 0, none⟩)), (7, .int .i64 a), (8, .int .i64 b)]) (fun b => a - b) 0 ⟨rfl, rfl, rfl, trivial⟩ ⟨Ext.refl _, by omega, by omega⟩ ?_; rintro b ρ4 w8 ⟨x8, hb1, hkb⟩)|(refine aJ (fun (a : Nat) w' => Ext wp w' ∧ a ≤ t.ins.length ∧ aAe ((cC t).take a).reverse = false) (fun a => [(1, .pointer (some ⟨bp, 0, none⟩)), (7, .int .i64 a)]) (fun a => t.ins.length - a) 0 ⟨rfl, rfl, trivial⟩ ⟨by exact fx, by omega, by simp [aAe]⟩ ?_; rintro a ρ3 w6 ⟨x6, ha1, hd⟩)|(refine zC rfl (aAb _ _) ?_; rintro _ w7 ⟨rfl, x7⟩)|(refine aR rfl rfl (n := b) (l := t.ins) (by exact fx) rfl (by omega) (fun ad cs r2 he => ?_); obtain ⟨wv, rfl, hw, _⟩ := he; obtain ⟨_, _, rfl⟩ := hw.form; have hbl : b < t.ins.length := (by omega))|(refine aR rfl rfl (n := a) (l := t.ins) (by exact fx) rfl (by omega) (fun ad cs r2 he => ?_); obtain ⟨wv, rfl, hw, _⟩ := he; obtain ⟨_, _, rfl⟩ := hw.form; have hal : a < t.ins.length := (by omega))|(refine aR rfl rfl (n := u) (l := t.ins) (by exact fx) rfl (by omega) (fun ad cs r2 he => ?_); obtain ⟨wv, rfl, hw, _⟩ := he; obtain ⟨_, _, rfl⟩ := hw.form; have hul : u < t.ins.length := (by omega))|(refine aR rfl rfl (n := i) (l := t.ins) (by exact fx) rfl (by omega) (fun ad cs r2 he => ?_); obtain ⟨wv, rfl, hw, _⟩ := he; obtain ⟨_, _, rfl⟩ := hw.form; have hil : i < t.ins.length := (by omega)))
  all_goals try simp only [decide_eq_true_eq, decide_eq_false_iff_not] at *
  all_goals first
    | (refine aA rfl ⟨congrArg (Value.int .i64) ?_, by exact fx⟩
       first
       | (refine (bIk ?_).symm; omega)
       | exact (bKm (j := i) (by omega) (by assumption)).symm
       | (have c1 := bI3 (t := t) (by omega) (fun j hj => hk j (by omega) hj)
          rw [aG, c1]
          first
          | (have hlong : yM t = true := by assumption
             rw [hlong]; rfl)
          | (have hlong : yM t = false := by assumption
             rw [hlong]
             first
             | (rw [bJe (j := u) (by omega) (by simp_all [xU, kB])]; rfl)
             | (rw [bJw fun j hj => hku j (by omega) hj]
                first
                | (rw [bLz (a := a) (b := b) (by omega) (by omega) (bCo (by simp_all) (by simp_all))]; rfl)
                | (rw [bOa (a := a) (by omega) hd]; rfl)))))
    | exact ⟨i + 1, ⟨rfl, rfl, trivial⟩, ⟨by trivial, by omega, fun j hj hl => by
        rcases Nat.lt_succ_iff_lt_or_eq.1 hj with hj | rfl
        · exact hk j hj hl
        · assumption⟩, by omega⟩
    | (refine ⟨u + 1, ⟨rfl, rfl, trivial⟩, ⟨by exact fx, by omega, fun j hj hl => ?_⟩, by omega⟩
       by_cases hji : j = u
       · subst hji; simp_all [xU, kB]; done
       · exact hku j (by omega) hl)
    | (refine ⟨b + 1, ⟨rfl, rfl, rfl, trivial⟩, ⟨by exact fx, by omega, fun j hj hl ha => ?_⟩, by omega⟩
       by_cases hji : j = b
       · subst hji; rw [hpg _ hbl, hpg _ hal]; intro e; simp_all; done
       · exact hkb j (by omega) hl ha)
    | exact ⟨a + 1, ⟨rfl, rfl, trivial⟩, ⟨by exact fx, by omega, bNu (by omega) hd fun j hj => hkb j (by omega) (by omega) (by omega)⟩, by omega⟩
    | trace_state
end
end Go.Proofs.YteceapipdhnhdaaGreatDoor
