/- Contracts: the document's dust. Contracts: the document's fe -/
import Derived.Test.YtfebcajheojodaaGreatDoorZ33
set_option linter.unusedVariables false
set_option linter.unusedSimpArgs false
namespace Go.Proofs.YtfebcajheojodaaGreatDoor
section
open Go Go.K
attribute [local irreducible] aO aU bQ KOp.wp K.Spec u32 leS vnS str aV aG idT aR
abbrev fD (y:TOut):List Value:= [.int .i64 y.v,.string y.s]
theorem bB3 (y:TOut) (hy:y.s.size≤1000000000) (w:World):K.Spec Tryz.prog F.kedgeref09_Size [.agg (fD y).toArray] w fun r w'=>r=.tuple #[.int .i64 (if y.s.size≤40 then ((oA y:Nat):Int) else 0),.int .i64 (if y.s.size≤40 then 0 else 20)]∧Ext w w':=by
 have hvs:=dY y.s.size
 refine aJr rfl ?_
 unfold wG
 refine oy ?_
 by_cases h40:y.s.size≤40
 ·rw [if_pos h40,if_pos h40]
  repeat (first|refine zD (d:=some 1) (cs:=fD y) rfl rfl (fun b1 w1 x1 a1 (r1:Row w1 ⟨b1,0,none⟩ (fD y)) hb1=>?_)|refine aJ (d:=some 8) (.bool false) rfl (congrArg (fun b=>some (Value.bool b)) (dFa (by omega))) ?_|refine aJ (d:=some 12) (.int .u64 ((y.s.size:Nat):Int)) rfl (congrArg (fun n=>some (Value.int .u64 n)) (u64_in (by omega))) ?_|refine go1 ?_|refine zg λ_ _=>?_|refine zi λ_ _=>?_)
  refine zC (d:=some 13) rfl (aN9 y.s.size (by omega) _) ?_
  rintro _ w2 ⟨rfl,x2⟩
  have r2:=Row.ext x2 r1
  have e:((8:Int)+((vnS y.s.size).size:Nat))+(y.s.size:Nat)=((oA y:Nat):Int):=by unfold oA;omega
  repeat (first|refine go1 ?_|refine zg λ_ _=>?_|refine zi λ_ _=>?_)
  rw [←e]
  exact aC rfl ⟨rfl,x1.trans x2⟩
 ·rw [if_neg h40,if_neg h40]
  repeat (first|refine zD (d:=some 1) (cs:=fD y) rfl rfl (fun b1 w1 x1 a1 (r1:Row w1 ⟨b1,0,none⟩ (fD y)) hb1=>?_)|refine aJ (d:=some 8) (.bool true) rfl (congrArg (fun b=>some (Value.bool b)) (dTr (by omega))) ?_|refine go1 ?_|refine zg λ_ _=>?_|refine zi λ_ _=>?_)
  exact aC rfl ⟨rfl,x1⟩
def aQp (y:TOut):Int:=if y.s.size≤40 then (((3000*(oA y+67)+999) / 1000:Nat):Int) else 0
theorem aXt (y:TOut) (hy:y.s.size≤1000000000) (w:World):K.Spec Tryz.prog F.kedgeref09_Least [.agg (fD y).toArray] w fun r w'=>r=.tuple #[.int .i64 (aQp y),.int .i64 (if y.s.size≤40 then 0 else 20)]∧Ext w w':=by
 have hvs:=dY y.s.size
 unfold aQp
 refine aFt rfl ?_
 unfold sQ
 refine oy ?_
 repeat (first|refine zD (d:=some 1) (cs:=fD y) rfl rfl (fun b1 w1 x1 a1 (r1:Row w1 ⟨b1,0,none⟩ (fD y)) hb1=>?_)|refine go1 ?_|refine zg λ_ _=>?_|refine zi λ_ _=>?_)
 refine zC (d:=some 10) rfl (bB3 y hy _) ?_
 rintro _ w2 ⟨rfl,x2⟩
 by_cases h40:y.s.size≤40
 ·rw [if_pos h40,if_pos h40,if_pos h40]
  have hsz:oA y≤100:=by unfold oA;omega
  have e:((oA y:Nat):Int)+67=((oA y+67:Nat):Int):=by omega
  repeat (first|refine go1 ?_|refine zg λ_ _=>?_|refine zi λ_ _=>?_)
  rw [e]
  refine zC (d:=some 19) rfl (yN 3000 (oA y+67) (by decide) (by omega) _) ?_
  rintro _ w3 ⟨rfl,x3⟩
  repeat (first|refine go1 ?_|refine zg λ_ _=>?_|refine zi λ_ _=>?_)
  exact aC rfl ⟨rfl,x1.trans (x2.trans x3)⟩
 ·rw [if_neg h40,if_neg h40,if_neg h40]
  repeat (first|refine go1 ?_|refine zg λ_ _=>?_|refine zi λ_ _=>?_)
  exact aC rfl ⟨rfl,x1.trans x2⟩
theorem bBx (y:TOut):aFa y=(decide (y.s.size≤40)&&decide (y.v<aQp y)):=by
 unfold aFa aQp
 by_cases h:y.s.size≤40
 ·rw [if_pos h]
  have:(y.s.size:Int)≤40:=by omega
  simp [h,this]
 ·have:¬(y.s.size:Int)≤40:=by omega
  simp [h,this]
set_option maxHeartbeats 1000000 in
theorem aYa {M:List Nat} {cs:List Value} {t:Tx} (w:World) (ht:txR.rel M w cs t) (hs:t.Sm) (ho:∀y∈t.outs,y.s.size≤1000000000):K.Spec Tryz.prog F.kedgeref09_First [.agg cs.toArray] w fun r w'=>r=.int .i64 (fL t)∧Ext w w':=by
 have hon:=hs.outs
 obtain ⟨iv,ov,rfl,h1,h2,h3,h4⟩:=ht
 refine aFw rfl ?_
 unfold sM
 refine oy ?_
 repeat (first|refine zD (d:=some 1) (cs:=aK t iv ov) rfl rfl (fun b1 w1 x1 a1 (r1:Row w1 ⟨b1,0,none⟩ (aK t iv ov)) hb1=>?_)|refine go1 ?_|refine zg λ_ _=>?_|refine zi λ_ _=>?_)
 refine aQ (fun (i:Nat) w'=>Ext w1 w'∧i≤t.outs.length∧∀j (h:j<t.outs.length),j<i→aFa t.outs[j]=false) (fun i=> [(1,.pointer (some ⟨b1,0,none⟩)),(3,.int .i64 (i:Nat))]) (fun i=>t.outs.length - i) 0 ⟨rfl,rfl,trivial⟩ ⟨Ext.refl _,by simp,fun j _ h=>absurd h (by omega)⟩ ?_
 rintro i ρ w2 ⟨x2,hi,hd⟩
 have r2:=Row.ext x2 r1
 have h2':=h2.ext (x1.trans x2)
 repeat (first|refine zG (d:=some 9) (E:=eX) (M:=M) (l:=t.outs) rfl h2' ?_|refine go1 ?_|refine zg λ_ _=>?_|refine zi λ_ _=>?_)
 refine zL (x:=.tmp 10) (p:=((i:Nat):Int)<((t.outs.length:Nat):Int)) rfl (fun h5=>?_) (fun h5=>?_)
 ·have hil:i<t.outs.length:=by omega
  obtain ⟨y,hy⟩:∃y,y=t.outs[i]:=⟨_,rfl⟩
  have hoy:=ho _ (gMe hil)
  rw [←hy] at hoy
  have hdy:=bBx y
  repeat (first|(refine aL (d:=some 17) (E:=eX) (M:=M) rfl rfl (n:=i) (l:=t.outs) h2' rfl hil (fun ad cs r3 he=>?_);rw [←hy] at he;obtain ⟨rfl,hv⟩:=id he)|refine go1 ?_|refine zg λ_ _=>?_|refine zi λ_ _=>?_)
  refine zC (d:=some 19) rfl (aXt y hoy _) ?_
  rintro _ w3 ⟨rfl,x3⟩
  have r4:=Row.ext x3 r2
  have h3':=h2'.ext x3
  by_cases h40:y.s.size≤40
  ·rw [if_pos h40]
   by_cases hlt:y.v<aQp y
   ·repeat (first|(refine aL (d:=some 28) (E:=eX) (M:=M) rfl rfl (n:=i) (l:=t.outs) h3' rfl hil (fun ad5 cs5 r5 he5=>?_);rw [←hy] at he5;obtain ⟨rfl,hv5⟩:=id he5)|refine aJ (d:=some 32) (.bool true) rfl (congrArg (fun b=>some (Value.bool b)) (dTr hlt)) ?_|refine go1 ?_|refine zg λ_ _=>?_|refine zi λ_ _=>?_)
    have e:fL t=(i:Nat):=idxOf_hit hil (by rw [←hy,hdy];simp [h40,hlt]) (fun j hj=>hd j (by omega) hj)
    rw [e]
    exact aC rfl ⟨rfl,x1.trans (x2.trans x3)⟩
   ·repeat (first|(refine aL (d:=some 28) (E:=eX) (M:=M) rfl rfl (n:=i) (l:=t.outs) h3' rfl hil (fun ad5 cs5 r5 he5=>?_);rw [←hy] at he5;obtain ⟨rfl,hv5⟩:=id he5)|refine aJ (d:=some 32) (.bool false) rfl (congrArg (fun b=>some (Value.bool b)) (dFa hlt)) ?_|refine go1 ?_|refine zg λ_ _=>?_|refine zi λ_ _=>?_)
    refine ⟨i+1,⟨rfl,rfl,trivial⟩,⟨x2.trans x3,by omega,fun j h hj=>?_⟩,by omega⟩
    rcases Nat.lt_or_ge j i with h6|h6
    ·exact hd j h h6
    ·obtain rfl:j=i:=by omega
     rw [←hy,hdy];simp [hlt]
  ·rw [if_neg h40]
   repeat (first|refine go1 ?_|refine zg λ_ _=>?_|refine zi λ_ _=>?_)
   refine ⟨i+1,⟨rfl,rfl,trivial⟩,⟨x2.trans x3,by omega,fun j h hj=>?_⟩,by omega⟩
   rcases Nat.lt_or_ge j i with h6|h6
   ·exact hd j h h6
   ·obtain rfl:j=i:=by omega
    rw [←hy,hdy];simp [h40]
 ·have e:fL t= -1:=idxOf_miss (fun j h=>hd j h (by omega))
  rw [e]
  repeat (first|refine go1 ?_|refine zg λ_ _=>?_|refine zi λ_ _=>?_)
  exact aC rfl ⟨rfl,x1.trans x2⟩
end
end Go.Proofs.YtfebcajheojodaaGreatDoor
section
namespace Go.K
open Go Go.Proofs.YtfebcajheojodaaGreatDoor
theorem aSe:∀{l:List Ent} {m:List Bool} {i:Nat} (hm:l.length=m.length) (h:i<l.length),dC (l.take (i+1)) (m.take (i+1))=if m[i] then dC (l.take i) (m.take i) else dC (l.take i) (m.take i)++ [l[i]]
 | [],_,_,_,h=>absurd h (by simp)
 |x::l, [],_,hm,_=>absurd hm (by simp)
 |x::l,b::m,0,_,_=>by
  cases b<;>simp [dC]
 |x::l,b::m,i+1,hm,h=>by
  have ih:=aSe (l:=l) (m:=m) (i:=i) (by simpa using hm) (by simpa using h)
  simp only [List.take_succ_cons,List.getElem_cons_succ]
  cases b
  ·simp only [dC,Bool.false_eq_true,if_false]
   rw [ih]
   split<;>simp
  ·simp only [dC,if_true]
   exact ih
theorem bIe:∀(l:List Ent) (m:List Bool),(dC l m).length≤l.length:=fun l m=>(gR l m).length_le
end Go.K
namespace Go.Proofs.YtfebcajheojodaaGreatDoor
open Go Go.K
attribute [local irreducible] aO aU bQ KOp.wp K.Spec u32 leS vnS str aV aG idT aR
theorem aIu (rate:Int) (S:Nat) (hS:S≤1000000) (w:World):K.Spec Tryz.prog F.kedgeref17_Asked [.int .i64 rate,.int .i64 (S:Nat)] w fun r w'=>r=.int .i64 (dA rate S)∧Ext w w':=by
 obtain ⟨R,hR,hR2,e⟩:∃R:Nat,((R:Nat):Int)=min (max rate 1000) 100000000∧R≤100000000∧dA rate S=(((R*S+999) / 1000:Nat):Int):=⟨(min (max rate 1000) 100000000).toNat,by omega,by omega,rfl⟩
 rw [e]
 refine aGq rfl ?_
 unfold sY
 refine oy ?_
 repeat (first|refine go1 ?_|refine zg λ_ _=>?_|refine zi λ_ _=>?_)
 refine zL (x:=.tmp 10) (p:=rate<1000) rfl (fun h1=>?_) (fun h1=>?_)
 ·repeat (first|refine aJ (d:=some 12) (.bool false) rfl (congrArg (fun b=>some (Value.bool b)) (dFa (by omega))) ?_|refine go1 ?_|refine zg λ_ _=>?_|refine zi λ_ _=>?_)
  rw [show (1000:Int)=(R:Nat) by omega]
  refine zC (d:=some 16) rfl (yN R S hR2 hS _) ?_
  rintro _ w1 ⟨rfl,x1⟩
  repeat (first|refine go1 ?_|refine zg λ_ _=>?_|refine zi λ_ _=>?_)
  exact aC rfl ⟨rfl,x1⟩
 ·repeat (first|refine go1 ?_|refine zg λ_ _=>?_|refine zi λ_ _=>?_)
  refine zL (x:=.tmp 12) (p:=rate>100000000) rfl (fun h2=>?_) (fun h2=>?_)
  ·repeat (first|refine go1 ?_|refine zg λ_ _=>?_|refine zi λ_ _=>?_)
   rw [show (100000000:Int)=(R:Nat) by omega]
   refine zC (d:=some 16) rfl (yN R S hR2 hS _) ?_
   rintro _ w1 ⟨rfl,x1⟩
   repeat (first|refine go1 ?_|refine zg λ_ _=>?_|refine zi λ_ _=>?_)
   exact aC rfl ⟨rfl,x1⟩
  ·repeat (first|refine go1 ?_|refine zg λ_ _=>?_|refine zi λ_ _=>?_)
   rw [show rate=(R:Nat) by omega]
   refine zC (d:=some 16) rfl (yN R S hR2 hS _) ?_
   rintro _ w1 ⟨rfl,x1⟩
   repeat (first|refine go1 ?_|refine zg λ_ _=>?_|refine zi λ_ _=>?_)
   exact aC rfl ⟨rfl,x1⟩
set_option maxHeartbeats 1000000 in
theorem aOr {M:List Nat} {v u:Value} {l:List Ent} {m:List Bool} (w:World) (hl:SlR bF M w v l) (hm:SlE dJ w u m) (hlm:l.length=m.length) (hn:l.length≤100000):K.Spec Tryz.prog F.kedgeref17_Without [v,u] w fun r w'=>cJ bF T.api_Entry w.heap.size M w' r (dC l m)∧Ext w w':=by
 refine aCr rfl ?_
 unfold qS
 refine oy ?_
 repeat (first|refine go1 ?_|refine zg λ_ _=>?_|refine zi λ_ _=>?_)
 refine aQ (fun (p:Nat × Value) w'=>Ext w w'∧p.1≤l.length∧cJ bF T.api_Entry w.heap.size M w' p.2 (dC (l.take p.1) (m.take p.1))) (fun p=> [(0,v),(1,u),(5,p.2),(6,.int .i64 (p.1:Nat))]) (fun p=>l.length - p.1) (0,.slice none 0 0) ⟨rfl,rfl,rfl,rfl,trivial⟩ ⟨Ext.refl _,by simp,by simpa [dC] using cJ.nil _ _ _ _⟩ ?_
 rintro ⟨i,vo⟩ ρ w3 ⟨x3,hi,ho⟩
 simp only at hi ho
 dsimp only
 repeat (first|refine zG (d:=some 9) (E:=bF) (M:=M) (l:=l) rfl (hl.ext x3) ?_|refine go1 ?_|refine zg λ_ _=>?_|refine zi λ_ _=>?_)
 refine zL (x:=.tmp 10) (p:=((i:Nat):Int)<((l.length:Nat):Int)) rfl (fun h5=>?_) (fun h5=>?_)
 ·have hil:i<l.length:=by omega
  have him:i<m.length:=by omega
  have hlt:=aSe hlm hil
  have hll:=bIe (l.take i) (m.take i)
  have htk:(l.take i).length≤l.length:=by rw [List.length_take];omega
  repeat (first|refine aT (d:=some 15) (E:=dJ) rfl rfl (n:=i) (l:=m) (hm.ext x3) rfl him (fun ad8 r8=>?_)|refine go1 ?_|refine zg λ_ _=>?_|refine zi λ_ _=>?_)
  cases hb:m[i] with
  |true=>
   rw [hb,if_pos rfl] at hlt
   rw [hb] at*
   repeat (first|refine go1 ?_|refine zg λ_ _=>?_|refine zi λ_ _=>?_)
   exact ⟨(i+1,vo),⟨rfl,rfl,rfl,rfl,trivial⟩,⟨x3,by simp only;omega,by rw [hlt];exact ho⟩,by simp only;omega⟩
  |false=>
   rw [hb,if_neg (by decide)] at hlt
   rw [hb] at*
   repeat (first|(refine aL (d:=some 21) (E:=bF) (M:=aP vo++M) rfl rfl (n:=i) (l:=l) (hl.step x3 (by simp) (vH ho.base)) rfl hil (fun ad cs r4 he=>?_);obtain ⟨iv,ov,rfl,g1,g2,g3⟩:=he)|refine zI (d:=some 23) rfl (fun b w5 x5 a5 hb5=>?_)|refine iW (E:=bF) (M:=M) (v:=vo) (cs:=bN l[i] iv ov) (a:=l[i]) rfl rfl (ho.ext x5) (nTr x3.size x5.size) rfl rfl a5 ⟨iv,ov,rfl,g1.ext x5,g2.ext x5,g3⟩ (by omega) (fun v6 w6 ho6 c6 hb6=>?_)|refine go1 ?_|refine zg λ_ _=>?_|refine zi λ_ _=>?_)
   exact ⟨(i+1,v6),⟨rfl,rfl,rfl,rfl,trivial⟩,⟨((x3.trans x5).chg c6).mono (fun b hb=>.inr (ho.base b hb)),by simp only;omega,by rw [hlt];exact ho6⟩,by simp only;omega⟩
 ·rw [tLe (by omega),tLe (by omega)] at ho
  repeat (first|refine go1 ?_|refine zg λ_ _=>?_|refine zi λ_ _=>?_)
  exact aC rfl ⟨ho,x3⟩
end Go.Proofs.YtfebcajheojodaaGreatDoor
end
namespace Go.Proofs.YtfebcajheojodaaGreatDoor
section
open Go Go.K
attribute [local irreducible] aO aU bQ KOp.wp K.Spec u32 leS vnS str aV cB bS cS gG kT cW
theorem bOo {q:Int} (h:dV q):cC .rem (.int .u32 q) (.int .u32 65536)=some (.int .u32 (q%65536)):=by
 obtain ⟨n,rfl⟩:∃n:Nat,q=(n:Nat):=⟨q.toNat,by have:=h.1;omega⟩
 have hne:((65536:Nat):Int)≠0:=by omega
 show cC .rem (.int .u32 (n:Nat)) (.int .u32 ((65536:Nat):Int))=_
 simp only [cC,dX,Bool.false_eq_true,if_false,if_true,dL]
 rw [tm,if_neg hne]
 exact congrArg (fun x=>some (Value.int .u32 x)) (by omega)
theorem aMx {M:List Nat} {cs:List Value} {t:Tx} (i:Nat) (hi:i<t.ins.length) (w:World) (ht:txR.rel M w cs t):K.Spec Tryz.prog F.kedgeref08_Waits [.agg cs.toArray,.int .i64 (i:Nat)] w fun r w'=>r=.int .i64 (gI t t.ins[i])∧Ext w w':=by
 obtain ⟨iv,ov,rfl,h1,h2,h3,h4⟩:=ht
 refine aFr rfl ?_
 unfold sN
 refine oy ?_
 repeat' (first|refine zD rfl rfl (fun bp wp xp ap (rp:Row wp ⟨bp,0,none⟩ (aK t iv ov)) hp0=>?_)|(refine aL (d:=some 9) (E:=inR) (M:=M) rfl rfl (n:=i) (l:=t.ins) (SlR.ext h1 (by exact fx)) rfl hi (fun ad cs r4 he=>?_);obtain ⟨wv,rfl,hw,hp5,hp6⟩:=he)|refine zJ (t:=14) (p:=t.ins[i].q≥2147483648) rfl (fun h=>?_) (fun h=>?_)|refine zL (x:=.tmp 18) (p:=t.ver<2) rfl (fun h=>?_) (fun h=>?_)|refine dS (d:=some 20) rfl rfl (bOo hp6) ?_|refine aJ (d:=some 21) (.int .i64 (t.ins[i].q%65536)) rfl (congrArg (fun n=>some (Value.int .i64 n)) (IntWalk.i64_in _ (by omega))) ?_|refine go1 ?_|refine zg λ_ _=>?_|refine zi λ_ _=>?_)
 ·exact aC rfl ⟨by rw [gI,if_neg (fun hh=>by omega)];rfl,by exact fx⟩
 ·exact aC rfl ⟨by rw [gI,if_neg (fun hh=>by omega)];rfl,by exact fx⟩
 ·exact aC rfl ⟨by rw [gI,if_pos ⟨by omega,by omega⟩];rfl,by exact fx⟩
theorem aX7 {s:ByteArray} {wit:List ByteArray} (h:gG wit=none):cW s wit=none:=by unfold cW;rw [h];rfl
theorem bA3 {s:ByteArray} {wit:List ByteArray} {p:Nat × Nat} (h:gG wit=some p) (hp:(cS s).length≤p.1):cW s wit=none:=by
 unfold cW
 rw [h,Option.bind_some,List.getElem?_eq_none hp];rfl
theorem bF2 {s:ByteArray} {wit:List ByteArray} {p:Nat × Nat} (h:gG wit=some p) (hp:p.1<(cS s).length):cW s wit=if (cS s)[p.1].tag=0∨(cS s)[p.1].tag=p.2 then some (cS s)[p.1] else none:=by
 unfold cW
 rw [h,Option.bind_some,List.getElem?_eq_getElem hp];rfl
theorem bFf (s:ByteArray):(cS s).length≤3:=by
 unfold cS
 split
 ·rename_i h
  simp only [Bool.and_eq_true] at h
  have:=h.1
  unfold jF at this
  simp only [Bool.and_eq_true,Bool.or_eq_true,decide_eq_true_eq] at this
  unfold kT yK
  rw [List.length_map,List.length_range];omega
 ·simp
attribute [local irreducible] sgV
set_option maxHeartbeats 2000000 in
theorem aFs {M:List Nat} {cs:List Value} {t:Tx} (s:ByteArray) (hm:s.size≤1000000) (i:Nat) (hi:i<t.ins.length) (hs:t.ins.length≤1000) (hz:∀z∈t.ins[i].wit,z.size≤1000000) (w:World) (ht:txR.rel M w cs t):K.Spec Tryz.prog F.kedgeref08_Open [.string s,.agg cs.toArray,.int .i64 (i:Nat)] w fun r w'=>r=.int .i64 (gL s t t.ins[i])∧Ext w w':=by
 have ht0:=ht
 obtain ⟨iv,ov,rfl,h1,h2,h3,h4⟩:=ht
 have none9:cW s t.ins[i].wit=none→gL s t t.ins[i]=9:=fun e=>by unfold gL;rw [e]
 have hfew:=bFf s
 refine aIi rfl ?_
 unfold uX
 refine oy ?_
 repeat' (first|refine zD rfl rfl (fun bp wp xp ap (rp:Row wp ⟨bp,0,none⟩ (aK t iv ov)) hp0=>?_)|refine zG (d:=some 18) (E:=inR) (M:=M) (l:=t.ins) rfl (SlR.ext h1 (by exact fx)) ?_|(refine zC (d:=some 22) rfl (bKw s hm _) ?_;rintro v7 w2 ⟨hv7,hb7,x2⟩)|(refine aL (d:=some 27) (E:=inR) (M:=M) rfl rfl (n:=i) (l:=t.ins) (SlR.ext h1 (by exact fx)) rfl hi (fun ad cs r4 he=>?_);obtain ⟨wv,rfl,hw,hp5,hp6⟩:=he)|refine aJ (d:=some 13) (.bool false) rfl (congrArg (fun b=>some (Value.bool b)) (dFa (by omega))) ?_|refine aJ (d:=some 19) (.bool false) rfl (congrArg (fun b=>some (Value.bool b)) (dFa (by omega))) ?_|refine zL (x:=.tmp 20) rfl (fun h=>absurd h (by omega)) (fun _=>?_)|refine zz (x:=.tmp 20) rfl ?_|refine go1 ?_|refine zg λ_ _=>?_|refine zi λ_ _=>?_)
 refine zC (d:=some 30) rfl (bLu _ (SlR.toE (F:=bO) (ag:=false) (SlR.ext hw (by exact fx))) hz) ?_
 rintro _ w5 ⟨rfl,x5⟩
 cases hsg:gG t.ins[i].wit with
 |none=>
  rw [show sgV t.ins[i].wit=.tuple #[.int .i64 (-1),.int .i64 0] by rw [show sgV t.ins[i].wit=(match gG t.ins[i].wit with|none=>.tuple #[.int .i64 (-1),.int .i64 0]|some p=>.tuple #[.int .i64 (p.1:Nat),.int .i64 (p.2:Nat)]) by unfold sgV;rfl,hsg],none9 (aX7 hsg)]
  repeat' (first|refine go1 ?_|refine zg λ_ _=>?_|refine zi λ_ _=>?_)
  exact aC rfl ⟨rfl,by exact fx⟩
 |some p=>
  rw [show sgV t.ins[i].wit=.tuple #[.int .i64 (p.1:Nat),.int .i64 (p.2:Nat)] by rw [show sgV t.ins[i].wit=(match gG t.ins[i].wit with|none=>.tuple #[.int .i64 (-1),.int .i64 0]|some p=>.tuple #[.int .i64 (p.1:Nat),.int .i64 (p.2:Nat)]) by unfold sgV;rfl,hsg]]
  by_cases hp:p.1<(cS s).length
  ·have hch:=bF2 hsg hp
   have hok:=aX9 (gMe hp)
   obtain ⟨b,hb⟩:∃b,b=(cS s)[p.1]:=⟨_,rfl⟩
   rw [←hb] at hch hok
   have g1:=hok.tag
   have g2:=hok.delay
   have g3:=hok.height
   have hwb:=vC (t:=t) hp6
   clear h2 hfew r4
   by_cases htag:b.tag=0∨b.tag=p.2
   ·rw [if_pos htag] at hch
    have e:gL s t t.ins[i]=if gI t t.ins[i]<(b.delay:Int) then 10 else if b.height>0∧(t.lock<(b.height:Int)∨t.ins[i].q=4294967295) then 10 else 0:=by unfold gL;rw [hch]
    repeat (first|refine bY (d:=some 38) rfl (SlE.ext (w:=w2) (by exact fx) hv7) ?_|(refine aT (d:=some 43) (E:=brE) rfl rfl (n:=p.1) (l:=cS s) (SlE.ext (w:=w2) (by exact fx) hv7) rfl hp (fun ad43 r43=>?_);rw [←hb] at r43)|refine zE (d':=10) (fun _=>rfl) rfl rfl rfl (fun b7 w7 x7 a7 (r7:Row w7 ⟨b7,0,none⟩ [.int .u16 (b.tag:Nat),.int .u16 (b.delay:Nat),.int .u32 (b.height:Nat)]) hb7=>?_)|refine aJ (d:=some 34) (.bool false) rfl (congrArg (fun b=>some (Value.bool b)) (dFa (by omega))) ?_|refine aJ (d:=some 39) (.bool false) rfl (congrArg (fun b=>some (Value.bool b)) (dFa (by omega))) ?_|refine zL (x:=.tmp 40) rfl (fun h=>absurd h (by omega)) (fun _=>?_)|refine go1 ?_|refine zg λ_ _=>?_|refine zi λ_ _=>?_)
    repeat' (first|refine aJ (d:=some 51) (.int .i64 (b.tag:Nat)) rfl (congrArg (fun n=>some (Value.int .i64 n)) (IntWalk.i64_in _ (by omega))) ?_|refine cG (t:=48) (p:=((b.tag:Nat):Int)=0) rfl (fun ht1=>?_) (fun ht1=>?_)|refine zN (x:=.tmp 54) (p:=((b.tag:Nat):Int)=((p.2:Nat):Int)) rfl (fun ht2=>absurd ht2 (fun q=>by omega)) (fun ht2=>?_)|(refine zC (d:=some 57) rfl (aMx (M:=M) (t:=t) (cs:=aK t iv ov) i hi _ (R.ext ht0 (by exact fx))) ?_;rintro _ w9 ⟨rfl,x9⟩)|refine aJ (d:=some 61) (.int .i64 (b.delay:Nat)) rfl (congrArg (fun n=>some (Value.int .i64 n)) (IntWalk.i64_in _ (by omega))) ?_|refine zL (x:=.tmp 62) (p:=gI t t.ins[i]<(b.delay:Int)) rfl (fun h5=>?_) (fun h5=>?_)|refine zJ (t:=66) (p:=((b.height:Nat):Int)>0) rfl (fun h6=>?_) (fun h6=>?_)|refine zJ (t:=72) (p:=t.lock<((b.height:Nat):Int)) rfl (fun h7=>?_) (fun h7=>?_)|(refine aL (d:=some 76) (E:=inR) (M:=M) rfl rfl (n:=i) (l:=t.ins) (SlR.ext h1 (by exact fx)) rfl hi (fun ad cs r4 he=>?_);obtain ⟨wv2,rfl, -, -, -⟩:=he)|refine zL (x:=.tmp 81) (p:=t.ins[i].q=4294967295) rfl (fun h8=>?_) (fun h8=>?_)|refine go1 ?_|refine zg λ_ _=>?_|refine zi λ_ _=>?_)
    all_goals
     rw [e]
     first
      |(rw [if_pos (by assumption)];exact aC rfl ⟨rfl,by exact fx⟩)
      |(rw [if_neg (by assumption),if_pos ⟨by omega,.inl (by assumption)⟩];exact aC rfl ⟨rfl,by exact fx⟩)
      |(rw [if_neg (by assumption),if_pos ⟨by omega,.inr (by assumption)⟩];exact aC rfl ⟨rfl,by exact fx⟩)
      |(rw [if_neg (by assumption),if_neg (fun hh=>by omega)];exact aC rfl ⟨rfl,by exact fx⟩)
   ·rw [if_neg htag] at hch
    rw [none9 hch]
    repeat (first|refine bY (d:=some 38) rfl (SlE.ext (w:=w2) (by exact fx) hv7) ?_|(refine aT (d:=some 43) (E:=brE) rfl rfl (n:=p.1) (l:=cS s) (SlE.ext (w:=w2) (by exact fx) hv7) rfl hp (fun ad43 r43=>?_);rw [←hb] at r43)|refine zE (d':=10) (fun _=>rfl) rfl rfl rfl (fun b7 w7 x7 a7 (r7:Row w7 ⟨b7,0,none⟩ [.int .u16 (b.tag:Nat),.int .u16 (b.delay:Nat),.int .u32 (b.height:Nat)]) hb7=>?_)|refine aJ (d:=some 34) (.bool false) rfl (congrArg (fun b=>some (Value.bool b)) (dFa (by omega))) ?_|refine aJ (d:=some 39) (.bool false) rfl (congrArg (fun b=>some (Value.bool b)) (dFa (by omega))) ?_|refine zL (x:=.tmp 40) rfl (fun h=>absurd h (by omega)) (fun _=>?_)|refine aJ (d:=some 51) (.int .i64 (b.tag:Nat)) rfl (congrArg (fun n=>some (Value.int .i64 n)) (IntWalk.i64_in _ (by omega))) ?_|refine cG (t:=48) (p:=((b.tag:Nat):Int)=0) rfl (fun ht1=>?_) (fun ht1=>absurd ht1 (fun q=>by omega))|refine zN (x:=.tmp 54) (p:=((b.tag:Nat):Int)=((p.2:Nat):Int)) rfl (fun ht2=>?_) (fun ht2=>absurd ht2 (fun q=>by omega))|refine go1 ?_|refine zg λ_ _=>?_|refine zi λ_ _=>?_)
    exact aC rfl ⟨rfl,by exact fx⟩
  ·rw [none9 (bA3 hsg (by omega))]
   repeat' (first|refine bY (d:=some 38) rfl (SlE.ext (w:=w2) (by exact fx) hv7) ?_|refine zL (x:=.tmp 40) rfl (fun _=>?_) (fun h=>absurd (by omega) h)|refine zy (x:=.tmp 40) rfl ?_|refine go1 ?_|refine zg λ_ _=>?_|refine zi λ_ _=>?_|(first|refine zJ rfl (fun hh=>absurd hh (by omega)) (fun hh=>?_)|refine zJ rfl (fun hh=>?_) (fun hh=>absurd hh (by omega))|refine zJ rfl (fun hh=>?_) (fun hh=>?_)|refine cG rfl (fun hh=>absurd hh (by omega)) (fun hh=>?_)|refine cG rfl (fun hh=>?_) (fun hh=>absurd hh (by omega))|refine cG rfl (fun hh=>?_) (fun hh=>?_)))
   exact aC rfl ⟨rfl,by exact fx⟩
set_option maxHeartbeats 2000000 in
theorem aQk {M:List Nat} {cs:List Value} {t:Tx} (i:Nat) (hi:i<t.ins.length) (hs:t.ins.length≤1000) (c bl:Int) (w:World) (ht:txR.rel M w cs t):K.Spec Tryz.prog F.kedgeref08_Ripe [.agg cs.toArray,.int .i64 (i:Nat),.int .i64 c,.int .i64 bl] w fun r w'=>r=.bool (gN t t.ins[i] c bl)∧Ext w w':=by
 have ht0:=ht
 obtain ⟨iv,ov,rfl,h1,h2,h3,h4⟩:=ht
 have hq:dV t.ins[i].q:=by
  obtain ⟨css,hsl,hall,_⟩:=h1
  obtain ⟨_,_,_,_,hq⟩:=All2.get hall i (by rw [hall.length];exact hi) hi
  exact hq
 have hwb:=vC (t:=t) hq
 have h42:=h4.2
 have h41:=h4.1
 have fail1:¬(0≤c∧c≤1000000∧0≤bl∧bl≤1000000)→gN t t.ins[i] c bl=false:=fun e=>by
  unfold gN kQ
  by_cases hc:0≤c∧c≤1000000
  ·rw [dFa (show ¬(0≤bl∧bl≤1000000) by omega)];simp
  ·rw [dFa hc];rfl
 have fail3:¬c+gI t t.ins[i]≤bl→gN t t.ins[i] c bl=false:=fun e=>by unfold gN;rw [dFa e];simp
 have good:0≤c∧c≤1000000∧0≤bl∧bl≤1000000→c+gI t t.ins[i]≤bl→gN t t.ins[i] c bl=(decide (t.lock<bl)||t.ins.all fun y=>decide (y.q=4294967295)):=fun e1 e3=>by
  unfold gN kQ
  rw [dTr (show 0≤c∧c≤1000000 by omega),dTr (show 0≤bl∧bl≤1000000 by omega),dTr e3];rfl
 refine aH4 rfl ?_
 unfold uU
 refine oy ?_
 by_cases hr:0≤c∧c≤1000000∧0≤bl∧bl≤1000000
 ·repeat' (first|refine zD rfl rfl (fun bp wp xp ap (rp:Row wp ⟨bp,0,none⟩ (aK t iv ov)) hp0=>?_)|refine zG (d:=some 17) (E:=inR) (M:=M) (l:=t.ins) rfl (SlR.ext h1 (by exact fx)) ?_|refine zL (x:=.tmp 35) rfl (fun h=>absurd h (by omega)) (fun _=>?_)|refine zz (x:=.tmp 35) rfl ?_|(refine zC (d:=some 38) rfl (aMx (M:=M) (t:=t) (cs:=aK t iv ov) i hi _ (R.ext ht0 (by exact fx))) ?_;rintro _ w5 ⟨rfl,x5⟩)|refine zL (x:=.tmp 43) (p:=bl<c+gI t t.ins[i]) rfl (fun h7=>?_) (fun h7=>?_)|refine aJ (d:=some 46) (.int .i64 t.lock) rfl (congrArg (fun n=>some (Value.int .i64 n)) (IntWalk.i64_in _ (by omega))) ?_|refine zL (x:=.tmp 48) (p:=t.lock<bl) rfl (fun h8=>?_) (fun h8=>?_)|(refine aQ (fun (k:Nat) w'=>Ext w5 w'∧k≤t.ins.length∧∀j,j<k→∀hj:j<t.ins.length,t.ins[j].q=4294967295) (fun k=> [(4,.pointer (some ⟨bp,0,none⟩)),(10,.int .i64 (k:Nat))]) (fun k=>t.ins.length - k) 0 ⟨rfl,rfl,trivial⟩ ⟨Ext.refl _,by simp,fun j hj=>absurd hj (by simp)⟩ ?_;rintro k ρ w6 ⟨x6,hk,hall⟩)|refine zG (d:=some 52) (E:=inR) (M:=M) (l:=t.ins) rfl (SlR.ext h1 (by exact fx)) ?_|refine zL (x:=.tmp 53) (p:=((k:Nat):Int)<((t.ins.length:Nat):Int)) rfl (fun h9=>?_) (fun h9=>?_)|refine go1 ?_|refine zg λ_ _=>?_|refine zi λ_ _=>?_|(first|refine zJ rfl (fun hh=>absurd hh (by omega)) (fun hh=>?_)|refine zJ rfl (fun hh=>?_) (fun hh=>absurd hh (by omega))|refine zJ rfl (fun hh=>?_) (fun hh=>?_)|refine cG rfl (fun hh=>absurd hh (by omega)) (fun hh=>?_)|refine cG rfl (fun hh=>?_) (fun hh=>absurd hh (by omega))|refine cG rfl (fun hh=>?_) (fun hh=>?_)))
  ·rw [fail3 (by omega)];exact aC rfl ⟨rfl,by exact fx⟩
  ·rw [good hr (by omega),dTr h8];exact aC rfl ⟨rfl,by exact fx⟩
  ·have hkl:k<t.ins.length:=by omega
   repeat' (first|(refine aL (d:=some 59) (E:=inR) (M:=M) rfl rfl (n:=k) (l:=t.ins) (SlR.ext h1 (by exact fx)) rfl hkl (fun ad cs r4 he=>?_);obtain ⟨wv,rfl, -, -, -⟩:=he)|refine zN (x:=.tmp 62) (p:=t.ins[k].q=4294967295) rfl (fun h6=>?_) (fun h6=>?_)|refine go1 ?_|refine zg λ_ _=>?_|refine zi λ_ _=>?_)
   ·have e:(t.ins.all fun y=>decide (y.q=4294967295))=false:=by
     rw [List.all_eq_false]
     exact ⟨_,gMe hkl,by simpa using h6⟩
    rw [good hr (by omega),dFa h8,e];exact aC rfl ⟨rfl,by exact fx⟩
   ·refine ⟨k+1,⟨rfl,rfl,trivial⟩,⟨by exact fx,by omega,fun j hj hjl=>?_⟩,by omega⟩
    rcases Nat.lt_or_ge j k with h|h
    ·exact hall j h hjl
    ·have:j=k:=by omega
     subst this;exact h6
  ·have e:(t.ins.all fun y=>decide (y.q=4294967295))=true:=by
    rw [List.all_eq_true]
    intro y hy
    obtain ⟨j,hj,rfl⟩:=List.getElem_of_mem hy
    exact dTr (hall j (by omega) hj)
   rw [good hr (by omega),e,Bool.or_true]
   repeat' (first|refine go1 ?_|refine zg λ_ _=>?_|refine zi λ_ _=>?_)
   exact aC rfl ⟨rfl,by exact fx⟩
 ·rw [fail1 hr]
  repeat' (first|refine zD rfl rfl (fun bp wp xp ap (rp:Row wp ⟨bp,0,none⟩ (aK t iv ov)) hp0=>?_)|refine zG (d:=some 17) (E:=inR) (M:=M) (l:=t.ins) rfl (SlR.ext h1 (by exact fx)) ?_|refine zL (x:=.tmp 35) rfl (fun _=>?_) (fun h=>absurd (by omega) h)|refine zy (x:=.tmp 35) rfl ?_|refine go1 ?_|refine zg λ_ _=>?_|refine zi λ_ _=>?_|(first|refine zJ rfl (fun hh=>absurd hh (by omega)) (fun hh=>?_)|refine zJ rfl (fun hh=>?_) (fun hh=>absurd hh (by omega))|refine zJ rfl (fun hh=>?_) (fun hh=>?_)|refine cG rfl (fun hh=>absurd hh (by omega)) (fun hh=>?_)|refine cG rfl (fun hh=>?_) (fun hh=>absurd hh (by omega))|refine cG rfl (fun hh=>?_) (fun hh=>?_)))
  all_goals exact aC rfl ⟨rfl,by exact fx⟩
end
end Go.Proofs.YtfebcajheojodaaGreatDoor
