/- Contracts: what is wrong with a block, by its number and pla -/
import Derived.Test.YtgloknkcfchnlaaGreatDoorZ41
import Derived.Test.YtgloknkcfchnlaaGreatDoorZ42
set_option linter.unusedVariables false
set_option linter.unusedSimpArgs false
namespace Go.Proofs.YtgloknkcfchnlaaGreatDoor
section
open Go Go.K
attribute [local irreducible] aD aK aV KOp.wp K.Spec u32 leS vnS str aN aI aP bI idT aY EtR
theorem yJ.errR {w:World} {v:Value} {c a i:Int} (h:yJ w v c a i) (h0:c=0→a= -1):dM w 2 v c a:=by
 rcases h with ⟨h1,h2⟩|⟨h1,⟨h2,h3, -⟩|⟨h2,b,u,h3,h4,h5⟩⟩
 ·subst h1;subst h2;rw [h0 rfl];exact dM.none_ _ _
 ·subst h2;rw [h3];exact dM.num _ _ h1
 ·exact .inr ⟨h1,h2,b,u,i,h3,h4,h5⟩
theorem yJ.nilD {w:World} {v:Value} {c a i:Int} (h:yJ w v c a i):(c=0→v=.nilIface)∧(c≠0→∃t u,v=.iface t u):=by
 rcases h with ⟨h1,h2⟩|⟨h1,⟨h2, -⟩|⟨-,_,_,h2, -⟩⟩
 ·exact ⟨fun _=>h2,fun h=>absurd h1 h⟩
 ·exact ⟨fun h=>absurd h h1,fun _=>⟨_,_,h2⟩⟩
 ·exact ⟨fun h=>absurd h h1,fun _=>⟨_,_,h2⟩⟩
theorem qO {w:World} {v:Value} {c a i:Int} (hg:EtR w) (h:yJ w v c a i) (h0:c=0→i= -1):K.Spec Tryz.prog F.kedgelaw12_inner [v] w fun r w'=>r=.int .i64 i∧Ext w w':=by
 refine wF rfl ?_
 unfold lL
 refine oy ?_
 repeat (first|refine zH (d:=some 3) (fun b3 w1 x1 a3 hb3=>?_)|refine go1 ?_|refine zg λ_ _=>?_|refine zi λ_ _=>?_)
 rcases h with ⟨h1,rfl⟩|⟨h1,⟨rfl,h3,rfl⟩|⟨h2,b,u,rfl,h4,h5⟩⟩
 ·rw [h0 h1]
  refine zC (d:=some 6) rfl (aOr _ w1) ?_
  rintro _ w2 ⟨rfl,rfl⟩
  repeat (first|refine go1 ?_|refine zg λ_ _=>?_|refine zi λ_ _=>?_)
  exact aB rfl ⟨rfl,x1⟩
 ·refine zC (d:=some 6) rfl (aGu c b3 w1 (hg.ext x1)) ?_
  rintro _ w2 ⟨rfl,x2⟩
  repeat (first|refine go1 ?_|refine zg λ_ _=>?_|refine zi λ_ _=>?_)
  exact aB rfl ⟨rfl,x1.trans x2⟩
 ·refine zC (d:=some 6) rfl (aMc b b3 _ w1 (hg.ext x1) (mZ (o:=0) a3 rfl) (aIq a3 (by simp))) ?_
  rintro _ w2 ⟨rfl,c2,e2⟩
  have hb2:=(At.ext x1 h4).chg c2 (by have:=h4.lt;simp;omega)
  have r2:=Row.of_at hb2
  have x02:Ext w w2:=(Ext.chg x1 c2).mono (fun y hy=>.inr (by simp at hy;omega))
  repeat (first|refine rC (d:=some 8) rfl e2 ?_|refine go1 ?_|refine zg λ_ _=>?_|refine zi λ_ _=>?_)
  refine zC (d:=some 12) rfl (mC (hg.ext x02) (.inl (dM.ext x02 h5))) ?_
  rintro _ w3 ⟨rfl,x3⟩
  repeat (first|refine go1 ?_|refine zg λ_ _=>?_|refine zi λ_ _=>?_)
  exact aB rfl ⟨rfl,x02.trans x3⟩
theorem aWs (p:Pt):(Option.map (fun b=>Value.bool (if true then !b else b)) (bL [.s,.i] p.cs p.cs))=some (.bool false):=by
 simp [bL,fL,Pt.cs]
theorem aWo (c:Cn):(Option.map (fun b=>Value.bool (if true then !b else b)) (bL [.i,.s,.i] c.cs c.cs))=some (.bool false):=by
 simp [bL,fL,Cn.cs]
set_option maxHeartbeats 2000000 in
theorem sZ {b mb:Nat} {lv:Value} {l:List En} (w:World) (hS:cH T.coins_Set w b mb l) (hl:SlE aU w lv l) (hn:l.length≤100000):K.Spec Tryz.prog F.kedgelaw12_same [.pointer (some ⟨b,0,none⟩),lv] w fun r w'=>r=.bool true∧Ext w w':=by
 refine zX rfl ?_
 unfold nU
 refine oy ?_
 repeat (first|(refine zC (d:=some 9) rfl (lE _ hS hn) ?_;rintro av w1 ⟨hav,hab,x1⟩)|refine bN (d:=some 11) rfl hav ?_|refine bN (d:=some 13) rfl (hl.ext x1) ?_|refine aG (d:=some 14) (.bool false) rfl (congrArg (fun b=>some (Value.bool (!b))) (dTr rfl)) ?_|refine bN (d:=some 16) rfl hav ?_|refine go1 ?_|refine zg λ_ _=>?_|refine zi λ_ _=>?_)
 refine aM (fun (p:Nat) w'=>Ext w1 w'∧p≤l.length) (fun p=> [(1,lv),(15,av),(16,.int .i64 (l.length:Nat)),(17,.int .i64 (p:Nat))]) (fun p=>l.length - p) 0 ⟨rfl,rfl,rfl,rfl,trivial⟩ ⟨Ext.refl _,by simp⟩ ?_
 rintro k ρ w2 ⟨x2,hk⟩
 repeat (first|refine go1 ?_|refine zg λ_ _=>?_|refine zi λ_ _=>?_)
 refine zL (x:=.tmp 18) (p:=((k:Nat):Int)<((l.length:Nat):Int)) rfl (fun h7=>?_) (fun h7=>?_)
 ·have hkl:k<l.length:=by omega
  have hl2:=hl.ext (x1.trans x2)
  repeat (first|refine aL (d:=some 20) (E:=aU) rfl rfl (n:=k) (l:=l) (hav.ext x2) rfl hkl (fun ad1 ra=>?_)|refine aA8 (d':=7) (e:=6) (fun _=>rfl) (fun _=>rfl) rfl rfl rfl rfl (fun b7 w3 x3 a7 (r7:Row w3 ⟨b7,0,none⟩ (aU.f l[k])) hb7=>?_)|refine aL (d:=some 26) (E:=aU) rfl rfl (n:=k) (l:=l) (SlE.ext (w:=w2) (by exact fx) hl2) rfl hkl (fun ad2 rb=>?_)|refine aL (d:=some 35) (E:=aU) rfl rfl (n:=k) (l:=l) (SlE.ext (w:=w2) (by exact fx) hl2) rfl hkl (fun ad3 rc=>?_)|refine aG (d:=some 29) (.bool false) rfl (aWs l[k].1) ?_|refine aG (d:=some 38) (.bool false) rfl (aWo l[k].2) ?_|refine go1 ?_|refine zg λ_ _=>?_|refine zi λ_ _=>?_)
  exact ⟨k+1,⟨rfl,rfl,rfl,rfl,trivial⟩,⟨by exact fx,by omega⟩,by omega⟩
 ·repeat (first|refine go1 ?_|refine zg λ_ _=>?_|refine zi λ_ _=>?_)
  exact aB rfl ⟨rfl,x1.trans x2⟩
set_option maxHeartbeats 2000000 in
theorem vU {av lv:Value} {l:List En} (w:World) (hav:SlE aU w av l) (hl:SlE aU w lv l) (hn:l.length≤100000):K.Spec Tryz.prog F.kedgelaw12_listed [av,lv] w fun r w'=>r=.bool true∧Ext w w':=by
 refine vC rfl ?_
 unfold kM
 refine oy ?_
 repeat (first|refine bN (d:=some 8) rfl hav ?_|refine bN (d:=some 10) rfl hl ?_|refine aG (d:=some 11) (.bool false) rfl (congrArg (fun b=>some (Value.bool (!b))) (dTr rfl)) ?_|refine bN (d:=some 13) rfl hav ?_|refine go1 ?_|refine zg λ_ _=>?_|refine zi λ_ _=>?_)
 refine aM (fun (p:Nat) w'=>Ext w w'∧p≤l.length) (fun p=> [(1,lv),(12,av),(13,.int .i64 (l.length:Nat)),(14,.int .i64 (p:Nat))]) (fun p=>l.length - p) 0 ⟨rfl,rfl,rfl,rfl,trivial⟩ ⟨Ext.refl _,by simp⟩ ?_
 rintro k ρ w2 ⟨x2,hk⟩
 repeat (first|refine go1 ?_|refine zg λ_ _=>?_|refine zi λ_ _=>?_)
 refine zL (x:=.tmp 15) (p:=((k:Nat):Int)<((l.length:Nat):Int)) rfl (fun h7=>?_) (fun h7=>?_)
 ·have hkl:k<l.length:=by omega
  have hl2:=hl.ext x2
  repeat (first|refine aL (d:=some 17) (E:=aU) rfl rfl (n:=k) (l:=l) (hav.ext x2) rfl hkl (fun ad1 ra=>?_)|refine aA8 (d':=6) (e:=5) (fun _=>rfl) (fun _=>rfl) rfl rfl rfl rfl (fun b7 w3 x3 a7 (r7:Row w3 ⟨b7,0,none⟩ (aU.f l[k])) hb7=>?_)|refine aL (d:=some 23) (E:=aU) rfl rfl (n:=k) (l:=l) (SlE.ext (w:=w2) (by exact fx) hl2) rfl hkl (fun ad2 rb=>?_)|refine aL (d:=some 32) (E:=aU) rfl rfl (n:=k) (l:=l) (SlE.ext (w:=w2) (by exact fx) hl2) rfl hkl (fun ad3 rc=>?_)|refine aG (d:=some 26) (.bool false) rfl (aWs l[k].1) ?_|refine aG (d:=some 35) (.bool false) rfl (aWo l[k].2) ?_|refine go1 ?_|refine zg λ_ _=>?_|refine zi λ_ _=>?_)
  exact ⟨k+1,⟨rfl,rfl,rfl,rfl,trivial⟩,⟨by exact fx,by omega⟩,by omega⟩
 ·repeat (first|refine go1 ?_|refine zg λ_ _=>?_|refine zi λ_ _=>?_)
  exact aB rfl ⟨rfl,x2⟩
end
end Go.Proofs.YtgloknkcfchnlaaGreatDoor
section
namespace Go.K
open Go Go.Proofs.YtgloknkcfchnlaaGreatDoor
theorem aQh {a b:List En} {k:Nat} (hk:k<a.length):bA (a.take (k+1)) b=bA (a.take k) b++(if aT b a[k].1=some a[k].2 then [] else [a[k]]):=by
 unfold bA
 rw [List.take_succ_eq_append_getElem hk,List.filter_append]
 congr 1
 by_cases h:aT b a[k].1=some a[k].2
 ·simp [h]
 ·simp [h]
theorem aRg {b:List En} {p:Pt} (h:cF b p=none):aT b p=none:=by
 cases ha:aT b p with
 |none=>rfl
 |some c=>
  have:=jP b p
  rw [ha,h] at this;cases this
theorem aQs {b:List En} (hn:(b.map (·.1)).Nodup) {p:Pt} {n:Nat} (h:cF b p=some n):∃hl:n<b.length,aT b p=some b[n].2:=by
 obtain ⟨hl,hp, -⟩:=nW.1 h
 refine ⟨hl,?_⟩
 have hm:(p,b[n].2)∈b:=by
  have:b[n]=(p,b[n].2):=by rw [←hp]
  rw [←this];exact gMe hl
 exact (bC hn).1 hm
end Go.K
namespace Go.Proofs.YtgloknkcfchnlaaGreatDoor
open Go Go.K
attribute [local irreducible] aD aK aV KOp.wp K.Spec u32 leS vnS str aN aI aP bI idT aY EtR bA
theorem aXv {c d:Cn} (h1:c.v=d.v) (h2:c.s=d.s) (h3:c.h=d.h):c=d:=by
 cases c;cases d;simp_all
set_option maxHeartbeats 4000000 in
theorem aCc {av bv:Value} {a b:List En} (w:World) (ha:SlE aU w av a) (hb:SlE aU w bv b) (hna:a.length≤90000) (hnb:b.length≤90000) (hg:(b.map (·.1)).Nodup):K.Spec Tryz.prog F.kedgeref12_Less [av,bv] w fun r w'=>Own aU T.kedgeref10_Entry w.heap.size w' r (bA a b)∧Ext w w':=by
 refine yX rfl ?_
 unfold nE
 refine oy ?_
 repeat (first|refine go1 ?_|refine zg λ_ _=>?_|refine zi λ_ _=>?_)
 refine aM (fun (p:Nat × Value) w'=>Ext w w'∧p.1≤a.length∧Own aU T.kedgeref10_Entry w.heap.size w' p.2 (bA (a.take p.1) b)) (fun p=> [(0,av),(1,bv),(5,p.2),(6,.int .i64 (p.1:Nat))]) (fun p=>a.length - p.1) (0,.slice none 0 0) ⟨rfl,rfl,rfl,rfl,trivial⟩ ⟨Ext.refl _,by simp,by unfold bA;exact Own.nil _ _ _⟩ ?_
 rintro ⟨k,vo⟩ ρ w1 ⟨x1,hk,o1⟩
 simp only at hk o1
 dsimp only
 have ha1:=ha.ext x1
 have hb1:=hb.ext x1
 repeat (first|refine bN (d:=some 10) rfl ha1 ?_|refine go1 ?_|refine zg λ_ _=>?_|refine zi λ_ _=>?_)
 refine zL (x:=.tmp 11) (p:=((k:Nat):Int)<((a.length:Nat):Int)) rfl (fun h7=>?_) (fun h7=>?_)
 ·have hkl:k<a.length:=by omega
  have hsn:=aQh (b:=b) hkl
  have hll:(bA (a.take k) b).length≤90000:=by
   unfold bA
   refine nTr (List.length_filter_le _ _) ?_
   rw [List.length_take];omega
  repeat (first|refine aL (d:=some 17) (E:=aU) rfl rfl (n:=k) (l:=a) ha1 rfl hkl (fun ad1 ra=>?_)|refine go1 ?_|refine zg λ_ _=>?_|refine zi λ_ _=>?_)
  refine zC (d:=some 20) rfl (nO a[k].1 _ hb1 (by omega)) ?_
  rintro _ w2 ⟨rfl,x2⟩
  cases hi:cF b a[k].1 with
  |none=>
   have hf:dY b a[k].1= -1:=by rw [dY,hi]
   have hne:aT b a[k].1≠some a[k].2:=by rw [aRg hi];exact fun h=>by cases h
   rw [if_neg hne] at hsn
   rw [hf]
   repeat (first|refine aL (d:=some 75) (E:=aU) rfl rfl (n:=k) (l:=a) (SlE.ext (w:=w1) (by exact fx) ha1) rfl hkl (fun ad5 rd=>?_)|refine zI (d:=some 77) (cs:=aU.f a[k]) rfl (fun b7 w7 x7 a7 hb7=>?_)|refine bK (d:=some 78) (E:=aU) (v:=vo) (l2:= [a[k]]) rfl (o1.ext (by exact fx)) (nTr (Ext.size (show Ext w w1 by exact fx)) (Ext.size (show Ext w1 _ by exact fx))) rfl rfl (dG a7 rfl) rfl rfl (by simp only [List.length_cons,List.length_nil];omega) (fun v9 w9 o9 c9=>?_)|refine go1 ?_|refine zg λ_ _=>?_|refine zi λ_ _=>?_)
   exact ⟨(k+1,v9),⟨rfl,rfl,rfl,rfl,trivial⟩,⟨(Ext.chg (show Ext w w7 by exact fx) c9).mono (fun y hy=>.inr (o1.base y hy)),by simp only;omega,by simp only;rw [hsn];exact o9⟩,by simp only;omega⟩
  |some n=>
   obtain ⟨hnl,hag⟩:=aQs hg hi
   have hf:dY b a[k].1=(n:Int):=by rw [dY,hi]
   rw [hf]
   have hb2:=hb1.ext x2
   by_cases e1:b[n].2.h=a[k].2.h
   ·by_cases e2:b[n].2.v=a[k].2.v
    ·by_cases e3:b[n].2.s=a[k].2.s
     ·have heq:aT b a[k].1=some a[k].2:=by rw [hag,aXv e2 e3 e1]
      rw [if_pos heq,List.append_nil] at hsn
      repeat (first|refine aG (d:=some 22) (.bool false) rfl (congrArg (fun b=>some (Value.bool b)) (dFa (by omega))) ?_|refine aL (d:=some 26) (E:=aU) rfl rfl (n:=n) (l:=b) (SlE.ext (w:=w2) (by exact fx) hb2) rfl hnl (fun ad2 rb=>?_)|refine aL (d:=some 32) (E:=aU) rfl rfl (n:=k) (l:=a) (SlE.ext (w:=w1) (by exact fx) ha1) rfl hkl (fun ad3 rc=>?_)|refine aL (d:=some 41) (E:=aU) rfl rfl (n:=n) (l:=b) (SlE.ext (w:=w2) (by exact fx) hb2) rfl hnl (fun ad2 rb=>?_)|refine aL (d:=some 48) (E:=aU) rfl rfl (n:=k) (l:=a) (SlE.ext (w:=w1) (by exact fx) ha1) rfl hkl (fun ad3 rc=>?_)|refine aL (d:=some 58) (E:=aU) rfl rfl (n:=n) (l:=b) (SlE.ext (w:=w2) (by exact fx) hb2) rfl hnl (fun ad2 rb=>?_)|refine aL (d:=some 65) (E:=aU) rfl rfl (n:=k) (l:=a) (SlE.ext (w:=w1) (by exact fx) ha1) rfl hkl (fun ad3 rc=>?_)|refine aG (d:=some 36) (.bool false) rfl (congrArg (fun b=>some (Value.bool (!b))) (dTr e1)) ?_|refine aG (d:=some 53) (.bool false) rfl (congrArg (fun b=>some (Value.bool (!b))) (dTr e2)) ?_|refine aG (d:=some 70) (.bool false) rfl (congrArg (fun b=>some (Value.bool (!b))) (dTr e3)) ?_|refine go1 ?_|refine zg λ_ _=>?_|refine zi λ_ _=>?_)
      exact ⟨(k+1,vo),⟨rfl,rfl,rfl,rfl,trivial⟩,⟨by exact fx,by simp only;omega,by simp only;rw [hsn];exact o1.ext (by exact fx)⟩,by simp only;omega⟩
     ·have hne:aT b a[k].1≠some a[k].2:=by rw [hag];exact fun h=>e3 (by injection h with h;rw [h])
      rw [if_neg hne] at hsn
      repeat (first|refine aG (d:=some 22) (.bool false) rfl (congrArg (fun b=>some (Value.bool b)) (dFa (by omega))) ?_|refine aL (d:=some 26) (E:=aU) rfl rfl (n:=n) (l:=b) (SlE.ext (w:=w2) (by exact fx) hb2) rfl hnl (fun ad2 rb=>?_)|refine aL (d:=some 32) (E:=aU) rfl rfl (n:=k) (l:=a) (SlE.ext (w:=w1) (by exact fx) ha1) rfl hkl (fun ad3 rc=>?_)|refine aL (d:=some 41) (E:=aU) rfl rfl (n:=n) (l:=b) (SlE.ext (w:=w2) (by exact fx) hb2) rfl hnl (fun ad2 rb=>?_)|refine aL (d:=some 48) (E:=aU) rfl rfl (n:=k) (l:=a) (SlE.ext (w:=w1) (by exact fx) ha1) rfl hkl (fun ad3 rc=>?_)|refine aL (d:=some 58) (E:=aU) rfl rfl (n:=n) (l:=b) (SlE.ext (w:=w2) (by exact fx) hb2) rfl hnl (fun ad2 rb=>?_)|refine aL (d:=some 65) (E:=aU) rfl rfl (n:=k) (l:=a) (SlE.ext (w:=w1) (by exact fx) ha1) rfl hkl (fun ad3 rc=>?_)|refine aG (d:=some 36) (.bool false) rfl (congrArg (fun b=>some (Value.bool (!b))) (dTr e1)) ?_|refine aG (d:=some 53) (.bool false) rfl (congrArg (fun b=>some (Value.bool (!b))) (dTr e2)) ?_|refine aG (d:=some 70) (.bool true) rfl (congrArg (fun b=>some (Value.bool (!b))) (dFa e3)) ?_|refine aL (d:=some 75) (E:=aU) rfl rfl (n:=k) (l:=a) (SlE.ext (w:=w1) (by exact fx) ha1) rfl hkl (fun ad5 rd=>?_)|refine zI (d:=some 77) (cs:=aU.f a[k]) rfl (fun b7 w7 x7 a7 hb7=>?_)|refine bK (d:=some 78) (E:=aU) (v:=vo) (l2:= [a[k]]) rfl (o1.ext (by exact fx)) (nTr (Ext.size (show Ext w w1 by exact fx)) (Ext.size (show Ext w1 _ by exact fx))) rfl rfl (dG a7 rfl) rfl rfl (by simp only [List.length_cons,List.length_nil];omega) (fun v9 w9 o9 c9=>?_)|refine go1 ?_|refine zg λ_ _=>?_|refine zi λ_ _=>?_)
      exact ⟨(k+1,v9),⟨rfl,rfl,rfl,rfl,trivial⟩,⟨(Ext.chg (show Ext w w7 by exact fx) c9).mono (fun y hy=>.inr (o1.base y hy)),by simp only;omega,by simp only;rw [hsn];exact o9⟩,by simp only;omega⟩
    ·have hne:aT b a[k].1≠some a[k].2:=by rw [hag];exact fun h=>e2 (by injection h with h;rw [h])
     rw [if_neg hne] at hsn
     repeat (first|refine aG (d:=some 22) (.bool false) rfl (congrArg (fun b=>some (Value.bool b)) (dFa (by omega))) ?_|refine aL (d:=some 26) (E:=aU) rfl rfl (n:=n) (l:=b) (SlE.ext (w:=w2) (by exact fx) hb2) rfl hnl (fun ad2 rb=>?_)|refine aL (d:=some 32) (E:=aU) rfl rfl (n:=k) (l:=a) (SlE.ext (w:=w1) (by exact fx) ha1) rfl hkl (fun ad3 rc=>?_)|refine aL (d:=some 41) (E:=aU) rfl rfl (n:=n) (l:=b) (SlE.ext (w:=w2) (by exact fx) hb2) rfl hnl (fun ad2 rb=>?_)|refine aL (d:=some 48) (E:=aU) rfl rfl (n:=k) (l:=a) (SlE.ext (w:=w1) (by exact fx) ha1) rfl hkl (fun ad3 rc=>?_)|refine aG (d:=some 36) (.bool false) rfl (congrArg (fun b=>some (Value.bool (!b))) (dTr e1)) ?_|refine aG (d:=some 53) (.bool true) rfl (congrArg (fun b=>some (Value.bool (!b))) (dFa e2)) ?_|refine aL (d:=some 75) (E:=aU) rfl rfl (n:=k) (l:=a) (SlE.ext (w:=w1) (by exact fx) ha1) rfl hkl (fun ad5 rd=>?_)|refine zI (d:=some 77) (cs:=aU.f a[k]) rfl (fun b7 w7 x7 a7 hb7=>?_)|refine bK (d:=some 78) (E:=aU) (v:=vo) (l2:= [a[k]]) rfl (o1.ext (by exact fx)) (nTr (Ext.size (show Ext w w1 by exact fx)) (Ext.size (show Ext w1 _ by exact fx))) rfl rfl (dG a7 rfl) rfl rfl (by simp only [List.length_cons,List.length_nil];omega) (fun v9 w9 o9 c9=>?_)|refine go1 ?_|refine zg λ_ _=>?_|refine zi λ_ _=>?_)
     exact ⟨(k+1,v9),⟨rfl,rfl,rfl,rfl,trivial⟩,⟨(Ext.chg (show Ext w w7 by exact fx) c9).mono (fun y hy=>.inr (o1.base y hy)),by simp only;omega,by simp only;rw [hsn];exact o9⟩,by simp only;omega⟩
   ·have hne:aT b a[k].1≠some a[k].2:=by rw [hag];exact fun h=>e1 (by injection h with h;rw [h])
    rw [if_neg hne] at hsn
    repeat (first|refine aG (d:=some 22) (.bool false) rfl (congrArg (fun b=>some (Value.bool b)) (dFa (by omega))) ?_|refine aL (d:=some 26) (E:=aU) rfl rfl (n:=n) (l:=b) (SlE.ext (w:=w2) (by exact fx) hb2) rfl hnl (fun ad2 rb=>?_)|refine aL (d:=some 32) (E:=aU) rfl rfl (n:=k) (l:=a) (SlE.ext (w:=w1) (by exact fx) ha1) rfl hkl (fun ad3 rc=>?_)|refine aG (d:=some 36) (.bool true) rfl (congrArg (fun b=>some (Value.bool (!b))) (dFa e1)) ?_|refine aL (d:=some 75) (E:=aU) rfl rfl (n:=k) (l:=a) (SlE.ext (w:=w1) (by exact fx) ha1) rfl hkl (fun ad5 rd=>?_)|refine zI (d:=some 77) (cs:=aU.f a[k]) rfl (fun b7 w7 x7 a7 hb7=>?_)|refine bK (d:=some 78) (E:=aU) (v:=vo) (l2:= [a[k]]) rfl (o1.ext (by exact fx)) (nTr (Ext.size (show Ext w w1 by exact fx)) (Ext.size (show Ext w1 _ by exact fx))) rfl rfl (dG a7 rfl) rfl rfl (by simp only [List.length_cons,List.length_nil];omega) (fun v9 w9 o9 c9=>?_)|refine go1 ?_|refine zg λ_ _=>?_|refine zi λ_ _=>?_)
    exact ⟨(k+1,v9),⟨rfl,rfl,rfl,rfl,trivial⟩,⟨(Ext.chg (show Ext w w7 by exact fx) c9).mono (fun y hy=>.inr (o1.base y hy)),by simp only;omega,by simp only;rw [hsn];exact o9⟩,by simp only;omega⟩
 ·have ek:a.take k=a:=tLe (by omega)
  rw [ek] at o1
  repeat (first|refine go1 ?_|refine zg λ_ _=>?_|refine zi λ_ _=>?_)
  exact aB rfl ⟨o1,x1⟩
end Go.Proofs.YtgloknkcfchnlaaGreatDoor
end
