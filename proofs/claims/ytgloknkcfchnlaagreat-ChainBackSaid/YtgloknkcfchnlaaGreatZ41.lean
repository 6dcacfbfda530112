/- DERIVED: THE SHELF's CONTRACTS AT THIS DUMP, IN PLAIN WORDS  -/
import Derived.Shelf.SlSortCmp.NoneTotal
import Derived.Shelf.SlSortCmp.WholeK
import Derived.Ground.SlsfProg
import Derived.Test.YtgloknkcfchnlaaGreatProg
import Derived.Test.YtgloknkcfchnlaaGreatZ34
set_option linter.unusedVariables false
set_option linter.unusedSimpArgs false
namespace Go.Proofs
section
open Go.Shelf
def Tryz.sortEntry_ren:Go.Shelf.Ren:=⟨fun|6=>135|15=>184|14=>183|28=>221|29=>222|20=>213|21=>214|22=>215|23=>216|24=>217|25=>218|26=>219|27=>220|46=>243|47=>244|48=>245|49=>246|50=>247|57=>256|n=>n,fun|22=>109|24=>114|25=>242|3=>3|39=>283|0=>0|53=>24|55=>265|4=>4|46=>303|45=>302|50=>126|5=>5|9=>9|66=>323|70=>327|76=>337|77=>194|n=>n,fun|n=>n⟩
theorem Tryz.sortEntry : Go.Proofs.SlLaysF0.n6 Tryz.prog Tryz.sortEntry_ren := {
  mixed := by kernel_rfl
  f6 := ⟨Tryz.f135.name, by decide, Tryz.func135.trans (congrArg some (by kernel_rfl))⟩
  f14 := ⟨Tryz.f183.name, by decide, Tryz.func183.trans (congrArg some (by kernel_rfl))⟩
  f15 := Tryz.func184.trans (congrArg some (by kernel_rfl))
  f20 := ⟨Tryz.f213.name, by decide, Tryz.func213.trans (congrArg some (by kernel_rfl))⟩
  f21 := ⟨Tryz.f214.name, by decide, Tryz.func214.trans (congrArg some (by kernel_rfl))⟩
  f22 := ⟨Tryz.f215.name, by decide, Tryz.func215.trans (congrArg some (by kernel_rfl))⟩
  f23 := ⟨Tryz.f216.name, by decide, Tryz.func216.trans (congrArg some (by kernel_rfl))⟩
  f24 := ⟨Tryz.f217.name, by decide, Tryz.func217.trans (congrArg some (by kernel_rfl))⟩
  f25 := ⟨Tryz.f218.name, by decide, Tryz.func218.trans (congrArg some (by kernel_rfl))⟩
  f26 := ⟨Tryz.f219.name, by decide, Tryz.func219.trans (congrArg some (by kernel_rfl))⟩
  f27 := ⟨Tryz.f220.name, by decide, Tryz.func220.trans (congrArg some (by kernel_rfl))⟩
  f28 := Tryz.func221.trans (congrArg some (by kernel_rfl))
  f29 := Tryz.func222.trans (congrArg some (by kernel_rfl))
  f46 := ⟨Tryz.f243.name, by decide, Tryz.func243.trans (congrArg some (by kernel_rfl))⟩
  f47 := Tryz.func244.trans (congrArg some (by kernel_rfl))
  f48 := Tryz.func245.trans (congrArg some (by kernel_rfl))
  f49 := ⟨Tryz.f246.name, by decide, Tryz.func246.trans (congrArg some (by kernel_rfl))⟩
  f50 := ⟨Tryz.f247.name, by decide, Tryz.func247.trans (congrArg some (by kernel_rfl))⟩
  f57 := ⟨Tryz.f256.name, by decide, Tryz.func256.trans (congrArg some (by kernel_rfl))⟩
  t0 := Tryz.underlying0
  a0 := Tryz.isAgg0
  z0 := Tryz.sizeOf0
  v0 := Tryz.zeroValue0
  t3 := Tryz.underlying3
  a3 := Tryz.isAgg3
  z3 := Tryz.sizeOf3
  v3 := Tryz.zeroValue3
  t4 := Tryz.underlying4
  a4 := Tryz.isAgg4
  z4 := Tryz.sizeOf4
  v4 := Tryz.zeroValue4
  t5 := Tryz.underlying5
  a5 := Tryz.isAgg5
  z5 := Tryz.sizeOf5
  v5 := Tryz.zeroValue5
  t9 := Tryz.underlying9
  a9 := Tryz.isAgg9
  z9 := Tryz.sizeOf9
  v9 := Tryz.zeroValue9
  t22 := Tryz.underlying109
  a22 := Tryz.isAgg109
  z22 := Tryz.sizeOf109
  v22 := Tryz.zeroValue109
  t25 := Tryz.underlying242
  a25 := Tryz.isAgg242
  z25 := Tryz.sizeOf242
  v25 := Tryz.zeroValue242
  t39 := Tryz.underlying283
  a39 := Tryz.isAgg283
  z39 := Tryz.sizeOf283
  v39 := Tryz.zeroValue283
  t45 := Tryz.underlying302
  a45 := Tryz.isAgg302
  z45 := Tryz.sizeOf302
  v45 := Tryz.zeroValue302
  t46 := Tryz.underlying303
  a46 := Tryz.isAgg303
  z46 := Tryz.sizeOf303
  v46 := Tryz.zeroValue303
  t50 := Tryz.underlying126
  a50 := Tryz.isAgg126
  z50 := Tryz.sizeOf126
  v50 := Tryz.zeroValue126
  t53 := Tryz.underlying24
  a53 := Tryz.isAgg24
  z53 := Tryz.sizeOf24
  v53 := Tryz.zeroValue24
  t55 := Tryz.underlying265
  a55 := Tryz.isAgg265
  z55 := Tryz.sizeOf265
  v55 := Tryz.zeroValue265
  t66 := Tryz.underlying323
  a66 := Tryz.isAgg323
  z66 := Tryz.sizeOf323
  v66 := Tryz.zeroValue323
  t70 := Tryz.underlying327
  a70 := Tryz.isAgg327
  z70 := Tryz.sizeOf327
  v70 := Tryz.zeroValue327
  t76 := Tryz.underlying337
  a76 := Tryz.isAgg337
  z76 := Tryz.sizeOf337
  v76 := Tryz.zeroValue337
  t77 := Tryz.underlying194
  a77 := Tryz.isAgg194
  z77 := Tryz.sizeOf194
  v77 := Tryz.zeroValue194 }
end
end Go.Proofs
namespace Go.K
section
open Go Go.Proofs.YtgloknkcfchnlaaGreat
structure CG (l:List En):Prop where
 srt:Srt l
 mon:Mon l
 fm:∀e∈l,dR e.1 e.2=true
theorem CG.nil:CG []:=⟨.nil,Mon.nil,by simp⟩
theorem CG.nodup {l:List En} (h:CG l):(l.map (·.1)).Nodup:=pE h.srt
theorem nB {l:List En} (h:(l.map (·.1)).Nodup):l.Nodup:=(List.pairwise_map.1 h).imp fun hne e=>hne (by rw [e])
theorem bPw {l:List En} (h:Srt l):l.Pairwise (fun a b=>lK b.1 a.1=false):=by
 refine List.Pairwise.imp (fun {a b} hab=>?_) h
 cases h2:lK b.1 a.1
 ·rfl
 ·have:=aBv hab h2
  rw [aDb] at this;cases this
theorem bPh {l m:List En} (hl:Srt l) (hm:Srt m) (h:∀e,e∈l↔e∈m):l=m:=
 aK5 ((List.perm_ext_iff_of_nodup (nB (pE hl)) (nB (pE hm))).2 h) (bPw hl) hm
theorem eP {l:List En} (h:(l.map (·.1)).Nodup) {e:En}:e∈l↔aL l e.1=some e.2:=⟨fun he=>vN h (by cases e;exact he),fun he=>by have:=lF he;cases e;exact this⟩
theorem CG.take {l:List En} (h:CG l) (p:Pt):CG (cP l p):=by
 have e:=mN h.srt p
 refine ⟨(aPn (List.Perm.refl l) h.srt p).2.1,by rw [e];exact h.mon.del p,fun x hx=>?_⟩
 rw [e] at hx
 exact h.fm x (List.mem_filter.1 hx).1
theorem aJ9 {l:List En} (h:Srt l) {p:Pt} {c:Cn} (h0:aX l p c=0):(dD l p c).Perm (l++ [(p,c)]):=by
 have:=(aFb (List.Perm.refl l) h p c).1
 have e:gK l p c=0:=by rw [aSr (List.Perm.refl l) h p c];exact h0
 unfold vQ at this
 rw [if_pos e] at this
 exact this.symm
theorem bLq {l:List En} {p:Pt} {c:Cn} (h0:aX l p c=0):dR p c=true∧aL l p=none∧cD (tot l+c.v)=true:=by
 unfold aX at h0
 split at h0
 ·rename_i hf
  split at h0
  ·cases h0
  ·rename_i hi
   split at h0
   ·rename_i hg
    refine ⟨hf,?_,hg⟩
    cases ha:aL l p
    ·rfl
    ·have:=aCg l p
     rw [ha] at this;simp at this
     rw [←this] at hi;simp at hi
   ·cases h0
 ·cases h0
theorem CG.put {l:List En} (h:CG l) (p:Pt) (c:Cn):CG (dD l p c):=by
 by_cases h0:aX l p c=0
 ·have hp:=aJ9 h.srt h0
  obtain ⟨z1,z2,z3⟩:=bLq h0
  refine ⟨(aFb (List.Perm.refl l) h.srt p c).2.1,⟨fun e he=>?_,?_⟩,fun e he=>?_⟩
  ·rcases List.mem_append.1 (hp.mem_iff.1 he) with he|he
   ·exact h.mon.1 e he
   ·simp at he;subst he
    simp only [dR,Bool.and_eq_true] at z1
    exact ((bN _).1 z1.2).1
  ·rw [zW hp]
   have:=((bN _).1 z3).2
   simp;omega
  ·rcases List.mem_append.1 (hp.mem_iff.1 he) with he|he
   ·exact h.fm e he
   ·simp at he;subst he;exact z1
 ·unfold dD;rw [if_neg h0];exact h
theorem aQo (l:List En) (p:Pt) (c:Cn) (h:Srt l):(dD l p c).length≤l.length+1:=(aFb (List.Perm.refl l) h p c).2.2
theorem aZm (l:List En) (p:Pt):(cP l p).length≤l.length:=by
 unfold cP
 split
 ·exact List.length_eraseIdx_le _ _
 ·exact Nat.le_refl _
def eF (l:List En) (ins:List TIn):List En:=ins.foldl (fun m x=>cP m x.p) l
def outC (o:TOut) (h:Int):Cn:=⟨o.v,o.s,h⟩
def jJ (s:ByteArray) (h:Int):Nat→List TOut→List En→List En × Int
 |_, [],m=>(m,0)
 |i,o::os,m=>if aX m ⟨s,(i:Nat)⟩ (outC o h)≠0 then (m,aX m ⟨s,(i:Nat)⟩ (outC o h)) else jJ s h (i+1) os (dD m ⟨s,(i:Nat)⟩ (outC o h))
def nP (l:List En) (t:Tx) (at_:Nat) (h:Int):Int × Int:=
 if aQ t then (if aE t≠0 then (aE t, -1) else if 0<at_∨t.lock≠h then (4, -1) else (0, -1)) else (dZ (aL l) t h).2
def mT (l:List En) (t:Tx):List En:=if aQ t then l else eF l t.ins
def fB (l:List En) (t:Tx) (at_:Nat) (h:Int):List En × Int × Int:=
 if (nP l t at_ h).1≠0 then (l,nP l t at_ h) else if (jJ (idT t) h 0 t.outs (mT l t)).2≠0 then (l,(jJ (idT t) h 0 t.outs (mT l t)).2, -1) else ((jJ (idT t) h 0 t.outs (mT l t)).1,0, -1)
def nR (l0:List En) (h:Int):Nat→List Tx→List En→List En × Int × Int × Int
 |_, [],m=>(m,0, -1, -1)
 |i,t::ts,m=>if (fB m t i h).2.1≠0 then (l0,(fB m t i h).2.1,(i:Nat),(fB m t i h).2.2) else nR l0 h (i+1) ts (fB m t i h).1
def bI (l:List En) (txs:List Tx) (h:Int):List En × Int × Int × Int:=if h<0∨h>1000000 then (l,3, -1, -1) else nR l h 0 txs l
def fF (a b:List En):List En:=a.filter fun e=>!decide (aL b e.1=some e.2)
theorem aQr:∀(ins:List TIn) {l:List En},CG l→CG (eF l ins)
 | [],_,h=>h
 |x::xs,_,h=>aQr xs (h.take x.p)
theorem aE3:∀(ins:List TIn) (l:List En),(eF l ins).length≤l.length
 | [],_=>Nat.le_refl _
 |x::xs,l=>nTr (aE3 xs _) (aZm l x.p)
theorem aBl {l:List En} {ins:List TIn} {i:Nat} (h:i<ins.length):eF l (ins.take (i+1))=cP (eF l (ins.take i)) ins[i].p:=by
 rw [List.take_succ_eq_append_getElem h]
 unfold eF
 rw [List.foldl_append];rfl
theorem bFy {s:ByteArray} {h:Int}:∀(os:List TOut) (i:Nat) {m:List En},CG m→CG (jJ s h i os m).1
 | [],_,_,hm=>hm
 |o::os,i,m,hm=>by
  unfold jJ
  split
  ·exact hm
  ·exact bFy os (i+1) (hm.put _ _)
theorem bB6 {s:ByteArray} {h:Int}:∀(os:List TOut) (i:Nat) {m:List En},CG m→(jJ s h i os m).1.length≤m.length+os.length
 | [],_,_,_=>Nat.le_refl _
 |o::os,i,m,hm=>by
  unfold jJ
  split
  ·simp
  ·have:=bB6 (s:=s) (h:=h) os (i+1) (hm.put ⟨s,(i:Nat)⟩ (outC o h))
   have:=aQo m ⟨s,(i:Nat)⟩ (outC o h) hm.srt
   simp only [List.length_cons];omega
def aGv (s:ByteArray) (h:Int) (os:List TOut) (m:List En) (k:Nat) (m':List En):Prop:=jJ s h 0 os m=jJ s h k (os.drop k) m'
theorem aQe {s:ByteArray} {h:Int} {os:List TOut} {m:List En}:aGv s h os m 0 m:=rfl
theorem aUm {s:ByteArray} {h:Int} {os:List TOut} {m m':List En} {k:Nat} (hk:k<os.length) (ho:aGv s h os m k m') (hc:aX m' ⟨s,(k:Nat)⟩ (outC os[k] h)≠0):jJ s h 0 os m=(m',aX m' ⟨s,(k:Nat)⟩ (outC os[k] h)):=by
 unfold aGv at ho
 rw [ho,List.drop_eq_getElem_cons hk,jJ,if_pos hc]
theorem aSk {s:ByteArray} {h:Int} {os:List TOut} {m m':List En} {k:Nat} (hk:k<os.length) (ho:aGv s h os m k m') (hc:aX m' ⟨s,(k:Nat)⟩ (outC os[k] h)=0):aGv s h os m (k+1) (dD m' ⟨s,(k:Nat)⟩ (outC os[k] h)):=by
 unfold aGv at ho ⊢
 rw [ho,List.drop_eq_getElem_cons hk,jJ,if_neg (by rw [hc];decide)]
theorem aTr {s:ByteArray} {h:Int} {os:List TOut} {m m':List En} {k:Nat} (hk:os.length≤k) (ho:aGv s h os m k m'):jJ s h 0 os m=(m',0):=by
 unfold aGv at ho
 rw [ho,List.drop_eq_nil_of_le hk];rfl
theorem aKi {l:List En} (h:CG l) (t:Tx):CG (mT l t):=by
 unfold mT
 split
 ·exact h
 ·exact aQr _ h
theorem bBm (l:List En) (t:Tx):(mT l t).length≤l.length:=by
 unfold mT
 split
 ·exact Nat.le_refl _
 ·exact aE3 _ _
theorem sC {l:List En} (h:CG l) (t:Tx) (i:Nat) (b:Int):CG (fB l t i b).1:=by
 unfold fB
 split
 ·exact h
 ·split
  ·exact h
  ·exact bFy _ _ (aKi h t)
theorem aD7 {l:List En} (h:CG l) (t:Tx) (i:Nat) (b:Int):(fB l t i b).1.length≤l.length+t.outs.length:=by
 unfold fB
 split
 ·simp
 ·split
  ·simp
  ·have:=bB6 (s:=idT t) (h:=b) t.outs 0 (aKi h t)
   have:=bBm l t
   simp only;omega
theorem bF7 {l0:List En} {h:Int} (h0:CG l0):∀(txs:List Tx) (i:Nat) {m:List En},CG m→CG (nR l0 h i txs m).1
 | [],_,_,hm=>hm
 |t::ts,i,m,hm=>by
  unfold nR
  split
  ·exact h0
  ·exact bF7 h0 ts (i+1) (sC hm t i h)
theorem bJl {l:List En} (h:CG l) (txs:List Tx) (b:Int):CG (bI l txs b).1:=by
 unfold bI
 split
 ·exact h
 ·exact bF7 h txs 0 h
def fE (txs:List Tx):Nat:=(txs.map fun t=>t.outs.length).sum
theorem bB4 {l0:List En} {h:Int}:∀(txs:List Tx) (i:Nat) {m:List En},CG m→l0.length≤m.length+fE txs→(nR l0 h i txs m).1.length≤max l0.length (m.length+fE txs)
 | [],_,m,_,_=>by unfold nR;simp only [fE,List.map_nil,List.sum_nil];omega
 |t::ts,i,m,hm,h5=>by
  unfold nR
  split
  ·simp only;omega
  ·have h1:=aD7 hm t i h
   have h6:fE (t::ts)=t.outs.length+fE ts:=by simp [fE]
   by_cases h7:l0.length≤(fB m t i h).1.length+fE ts
   ·have:=bB4 (l0:=l0) (h:=h) ts (i+1) (sC hm t i h) h7
    omega
   ·have h8:=runL_len' (l0:=l0) (h:=h) ts (i+1) (sC hm t i h)
    omega
where
 runL_len' {l0:List En} {h:Int}:∀(txs:List Tx) (i:Nat) {m:List En},CG m→(nR l0 h i txs m).1.length≤max l0.length (m.length+fE txs)
 | [],_,m,_=>by unfold nR;simp only [fE,List.map_nil,List.sum_nil];omega
 |t::ts,i,m,hm=>by
  unfold nR
  split
  ·simp only;omega
  ·have h1:=aD7 hm t i h
   have h6:fE (t::ts)=t.outs.length+fE ts:=by simp [fE]
   have h8:=runL_len' (l0:=l0) (h:=h) ts (i+1) (sC hm t i h)
   omega
def aGn (l0:List En) (h:Int) (txs:List Tx) (k:Nat) (m:List En):Prop:=nR l0 h 0 txs l0=nR l0 h k (txs.drop k) m
theorem aPe {l0:List En} {h:Int} {txs:List Tx}:aGn l0 h txs 0 l0:=rfl
theorem aTy {l0 m:List En} {h:Int} {txs:List Tx} {k:Nat} (hk:k<txs.length) (ho:aGn l0 h txs k m) (hc:(fB m txs[k] k h).2.1≠0):nR l0 h 0 txs l0=(l0,(fB m txs[k] k h).2.1,((k:Nat):Int),(fB m txs[k] k h).2.2):=by
 unfold aGn at ho
 rw [ho,List.drop_eq_getElem_cons hk,nR,if_pos hc]
theorem aPu {l0 m:List En} {h:Int} {txs:List Tx} {k:Nat} (hk:k<txs.length) (ho:aGn l0 h txs k m) (hc:(fB m txs[k] k h).2.1=0):aGn l0 h txs (k+1) (fB m txs[k] k h).1:=by
 unfold aGn at ho ⊢
 rw [ho,List.drop_eq_getElem_cons hk,nR,if_neg (by rw [hc];decide)]
theorem aVf {l0 m:List En} {h:Int} {txs:List Tx} {k:Nat} (hk:txs.length≤k) (ho:aGn l0 h txs k m):nR l0 h 0 txs l0=(m,0, -1, -1):=by
 unfold aGn at ho
 rw [ho,List.drop_eq_nil_of_le hk];rfl
def nC:List En→List En→Bool × List En
 | [],m=>(true,m)
 |x::xs,m=>if cW m x.1=0∧eV m x.1=x.2 then nC xs (cP m x.1) else (false,cP m x.1)
def aAm:List En→List En→Bool × List En
 | [],m=>(true,m)
 |x::xs,m=>if aX m x.1 x.2=0 then aAm xs (dD m x.1 x.2) else (false,m)
def zU (m out inn:List En):Bool × List En:=if (nC out m).1 then aAm inn (nC out m).2 else (false,(nC out m).2)
theorem aY4:∀(xs:List En) {m:List En},CG m→CG (nC xs m).2
 | [],_,h=>h
 |x::xs,m,h=>by
  unfold nC
  split
  ·exact aY4 xs (h.take x.1)
  ·exact h.take x.1
theorem bGf:∀(xs:List En) {m:List En},CG m→CG (aAm xs m).2
 | [],_,h=>h
 |x::xs,m,h=>by
  unfold aAm
  split
  ·exact bGf xs (h.put x.1 x.2)
  ·exact h
theorem take_at {m:List En} (h:Srt m) {x:En} (hx:x∈m):cW m x.1=0∧eV m x.1=x.2:=by
 have ha:=(eP (pE h)).1 hx
 have h1:=aUb (List.Perm.refl m) h x.1
 have h2:=aFo (List.Perm.refl m) h x.1
 constructor
 ·rw [←h1];unfold aBd;rw [ha];rfl
 ·rw [←h2];unfold lR;rw [ha];rfl
theorem aUr:∀(xs:List En) {m:List En},CG m→(xs.map (·.1)).Nodup→(∀x∈xs,x∈m)→(nC xs m).1=true∧∀e,e∈(nC xs m).2↔e∈m∧e.1∉xs.map (·.1)
 | [],m,_,_,_=>⟨rfl,fun e=>by simp [nC]⟩
 |x::xs,m,h,hn,hs=>by
  have hn':=List.nodup_cons.1 hn
  have hx:=hs x (by simp)
  unfold nC
  rw [if_pos (take_at h.srt hx)]
  have hm:∀e,e∈cP m x.1↔e∈m∧e.1≠x.1:=fun e=>by
   rw [mN h.srt]
   unfold jL
   rw [List.mem_filter];simp
  obtain ⟨h1,h2⟩:=aUr xs (h.take x.1) hn'.2 fun y hy=>(hm y).2 ⟨hs y (by simp [hy]),fun e=>hn'.1 (List.mem_map.2 ⟨y,hy,e⟩)⟩
  refine ⟨h1,fun e=>?_⟩
  rw [h2,hm]
  simp only [List.map_cons,List.mem_cons,not_or]
  constructor
  ·rintro ⟨⟨a,b⟩,c⟩;exact ⟨a,b,c⟩
  ·rintro ⟨a,b,c⟩;exact ⟨⟨a,b⟩,c⟩
theorem bBq:∀(xs:List En) {m:List En},CG m→(xs.map (·.1)).Nodup→(∀x∈xs,aL m x.1=none)→(∀x∈xs,dR x.1 x.2=true)→(∀x∈xs,0≤x.2.v)→tot m+tot xs≤2100000000000000→(aAm xs m).1=true∧(aAm xs m).2.Perm (m++xs)
 | [],m,_,_,_,_,_,_=>⟨rfl,by simp [aAm]⟩
 |x::xs,m,h,hn,h1,h2,h3,h4=>by
  have hn':=List.nodup_cons.1 hn
  have hv:=Mon.pos (m:=xs) fun y hy=>h3 y (by simp [hy])
  have hv0:=h3 x (by simp)
  have hm0:=Mon.pos h.mon.1
  simp only [yY] at h4
  have hc:aX m x.1 x.2=0:=by
   rw [aM2 (h2 x (by simp)) (by
    cases hi:eD m x.1
    ·rfl
    ·have:=aCg m x.1
     rw [h1 x (by simp),hi] at this;cases this),if_pos ((bN _).2 ⟨by omega,by omega⟩)]
  have hp:=aJ9 h.srt hc
  unfold aAm
  rw [if_pos hc]
  have hk:∀y∈xs,aL (dD m x.1 x.2) y.1=none:=fun y hy=>by
   cases ha:aL (dD m x.1 x.2) y.1 with
   |none=>rfl
   |some c=>
    rcases List.mem_append.1 (hp.mem_iff.1 (lF ha)) with h5|h5
    ·have:=(eP h.nodup).1 h5
     rw [h1 y (by simp [hy])] at this;cases this
    ·simp only [List.mem_singleton] at h5
     have e:y.1=x.1:=congrArg (·.1) h5
     exact absurd (List.mem_map.2 ⟨y,hy,e⟩) hn'.1
  obtain ⟨g1,g2⟩:=bBq xs (h.put x.1 x.2) hn'.2 hk (fun y hy=>h2 y (by simp [hy])) (fun y hy=>h3 y (by simp [hy])) (by rw [zW hp];simp;omega)
  refine ⟨g1,g2.trans ?_⟩
  have:=hp.append_right xs
  refine this.trans ?_
  rw [List.append_assoc];exact List.Perm.refl _
theorem mG {a b:List En} {e:En}:e∈fF a b↔e∈a∧aL b e.1≠some e.2:=by
 unfold fF
 rw [List.mem_filter];simp
theorem aDw {a b:List En} (h:(a.map (·.1)).Nodup):((fF a b).map (·.1)).Nodup:=List.Nodup.sublist (List.Sublist.map _ List.filter_sublist) h
theorem aU3 {a b:List En} (ha:CG a) (hb:CG b):zU a (fF a b) (fF b a)=(true,b):=by
 obtain ⟨h1,h2⟩:=aUr (fF a b) ha (aDw ha.nodup) fun x hx=>(mG.1 hx).1
 have hg:=aY4 (fF a b) ha
 generalize hq:nC (fF a b) a=q at h1 h2 hg
 obtain ⟨qt,m⟩:=q
 simp only at h1 h2 hg
 subst h1
 have hm:∀e,e∈m↔e∈a∧e∈b:=fun e=>by
  rw [h2]
  refine and_congr_right fun hea=>?_
  constructor
  ·intro hn
   by_cases hb2:aL b e.1=some e.2
   ·exact (eP hb.nodup).2 hb2
   ·exact absurd (List.mem_map_of_mem (f:=(·.1)) (mG.2 ⟨hea,hb2⟩)) hn
  ·intro heb hn
   obtain ⟨y,hy,e1⟩:=List.mem_map.1 hn
   obtain ⟨y1,y2⟩:=mG.1 hy
   have e2:=(eP ha.nodup).1 y1
   have e3:=(eP ha.nodup).1 hea
   have e4:=(eP hb.nodup).1 heb
   rw [e1] at e2 y2
   rw [e3] at e2
   exact y2 (e4.trans e2)
 have hpb:(m++fF b a).Perm b:=by
  refine (List.perm_ext_iff_of_nodup ?_ (nB hb.nodup)).2 fun e=>?_
  ·rw [List.nodup_append]
   refine ⟨nB hg.nodup,nB (aDw hb.nodup),fun x hx y hy e=>?_⟩
   subst e
   have:=((hm _).1 hx).1
   exact (mG.1 hy).2 ((eP ha.nodup).1 this)
  ·rw [List.mem_append,hm,mG]
   constructor
   ·rintro (h|h)
    ·exact h.2
    ·exact h.1
   ·intro h
    by_cases h3:aL a e.1=some e.2
    ·exact .inl ⟨(eP ha.nodup).2 h3,h⟩
    ·exact .inr ⟨h,h3⟩
 have ht:tot m+tot (fF b a)=tot b:=by rw [←iM,zW hpb]
 obtain ⟨g1,g2⟩:=bBq (fF b a) hg (aDw hb.nodup) (fun x hx=>by
   cases hx2:aL m x.1 with
   |none=>rfl
   |some c=>
    have h5:=(hm _).1 (lF hx2)
    have h6:=(eP hb.nodup).1 h5.2
    have h7:=(eP hb.nodup).1 (mG.1 hx).1
    simp only at h6
    rw [h6] at h7
    cases h7
    exact absurd ((eP ha.nodup).1 h5.1) (mG.1 hx).2)
  (fun x hx=>hb.fm x (mG.1 hx).1) (fun x hx=>hb.mon.1 x (mG.1 hx).1) (by rw [ht];exact hb.mon.2)
 unfold zU
 rw [hq]
 simp only [if_true]
 have e:(aAm (fF b a) m).2=b:=bPh (bGf _ hg).srt hb.srt fun x=>(g2.trans hpb).mem_iff
 exact Prod.ext g1 e
end
section
open Go Go.Proofs.YtgloknkcfchnlaaGreat
def SC (l:List En):Prop:=∀e∈l,e.2.s.size≤40∧dM e.1.i
theorem SC.nil:SC []:=by simp [SC]
theorem SC.take {l:List En} (h:SC l) (hs:Srt l) (p:Pt):SC (cP l p):=fun e he=>by
 rw [mN hs] at he
 exact h e (List.mem_filter.1 he).1
theorem SC.put {l:List En} (h:SC l) (hs:Srt l) {p:Pt} {c:Cn} (hc:c.s.size≤40∧dM p.i):SC (dD l p c):=fun e he=>by
 by_cases h0:aX l p c=0
 ·rcases List.mem_append.1 ((aJ9 hs h0).mem_iff.1 he) with he|he
  ·exact h e he
  ·simp at he;subst he;exact hc
 ·unfold dD at he;rw [if_neg h0] at he;exact h e he
theorem aSm:∀(ins:List TIn) {l:List En},CG l→SC l→SC (eF l ins)
 | [],_,_,h=>h
 |x::xs,_,hg,h=>aSm xs (hg.take x.p) (h.take hg.srt x.p)
theorem bGa {s:ByteArray} {h:Int}:∀(os:List TOut) (i:Nat) {m:List En},i+os.length≤4294967296→CG m→(∀o∈os,o.s.size≤40)→SC m→SC (jJ s h i os m).1
 | [],_,_,_,_,_,hm=>hm
 |o::os,i,m,hi,hg,ho,hm=>by
  rw [List.length_cons] at hi
  unfold jJ
  split
  ·exact hm
  ·exact bGa os (i+1) (by omega) (hg.put _ _) (fun y hy=>ho y (by simp [hy])) (hm.put hg.srt ⟨ho o (by simp),by show dM ((i:Nat):Int);unfold dM;omega⟩)
theorem bIh {f:Pt→Option Cn} {t:Tx} {h:Int} (h0:(dZ f t h).2.1=0):aE t=0:=by
 unfold dZ at h0
 split at h0
 ·exact h0
 ·rename_i hc;simpa using hc
theorem aFe {l:List En} {t:Tx} {i:Nat} {h:Int} (h0:(nP l t i h).1=0):aE t=0:=by
 unfold nP at h0
 split at h0
 ·split at h0
  ·exact h0
  ·rename_i hc;simpa using hc
 ·exact bIh h0
theorem bIj {t:Tx} (h:aE t=0):∀o∈t.outs,o.s.size≤40:=by
 intro o ho
 unfold aE at h
 split at h
 ·cases h
 ·split at h
  ·cases h
  ·rename_i hl
   simp only [aA3,Bool.or_eq_true,not_or,List.any_eq_true,not_exists,not_and] at hl
   have:=hl.1 o ho
   simp only [wM,decide_eq_true_eq] at this
   omega
theorem bCu {t:Tx} (h:aE t=0):t.outs.length≤256:=by
 unfold aE at h
 split at h
 ·cases h
 ·rename_i hc
  simp only [Bool.not_eq_true',Bool.not_eq_false] at hc
  simp only [jX,Bool.and_eq_true,decide_eq_true_eq] at hc
  omega
theorem bN5 {l:List En} (hg:CG l) (h:SC l) (t:Tx):SC (mT l t):=by
 unfold mT
 split
 ·exact h
 ·exact aSm _ hg h
theorem aIs {l:List En} (hg:CG l) (h:SC l) (t:Tx) (i:Nat) (b:Int):SC (fB l t i b).1:=by
 unfold fB
 split
 ·exact h
 ·rename_i hm
  split
  ·exact h
  ·have hc:=aFe (l:=l) (t:=t) (i:=i) (h:=b) (by simpa using hm)
   exact bGa _ _ (by have:=bCu hc;omega) (aKi hg t) (bIj hc) (bN5 hg h t)
theorem bFz {l0:List En} {h:Int} (h0:SC l0):∀(txs:List Tx) (i:Nat) {m:List En},CG m→SC m→SC (nR l0 h i txs m).1
 | [],_,_,_,hm=>hm
 |t::ts,i,m,hg,hm=>by
  unfold nR
  split
  ·exact h0
  ·exact bFz h0 ts (i+1) (sC hg t i h) (aIs hg hm t i h)
theorem bJs {l:List En} (hg:CG l) (h:SC l) (txs:List Tx) (b:Int):SC (bI l txs b).1:=by
 unfold bI
 split
 ·exact h
 ·exact bFz h txs 0 hg h
theorem aPc {l:List En} (hg:CG l) (txs:List Tx) (b:Int):(bI l txs b).1.length≤l.length+fE txs:=by
 unfold bI
 split
 ·simp
 ·have:=bB4 (l0:=l) (h:=b) txs 0 hg (by omega)
  omega
structure Ch where
 bs:List (List Tx)
 top:Nat
def cM (bs:List (List Tx)):Nat→List En
 |0=> []
 |k+1=>(bI (cM bs k) (bs.getD k []) ((k+1:Nat):Int)).1
def aZ (bs:List (List Tx)):List En:=cM bs bs.length
theorem gA (bs:List (List Tx)):∀k,CG (cM bs k)
 |0=>CG.nil
 |k+1=>bJl (gA bs k) _ _
theorem pF (bs:List (List Tx)):∀k,SC (cM bs k)
 |0=>SC.nil
 |k+1=>bJs (gA bs k) (pF bs k) _ _
theorem aHk {bs:List (List Tx)} {n:Nat} (h:∀b∈bs,fE b≤n):∀k,(cM bs k).length≤n*k
 |0=>by simp [cM]
 |k+1=>by
  have h1:=aHk h k
  have h2:=aPc (gA bs k) (bs.getD k []) ((k+1:Nat):Int)
  have h3:fE (bs.getD k [])≤n:=by
   rw [List.getD_eq_getElem?_getD]
   cases hk:bs[k]? with
   |none=>simp [fE]
   |some b=>exact h b (List.mem_of_getElem? hk)
  have e:cM bs (k+1)=(bI (cM bs k) (bs.getD k []) ((k+1:Nat):Int)).1:=rfl
  rw [e,Nat.mul_succ];omega
theorem kZ (bs:List (List Tx)) (x:List Tx):∀k,k≤bs.length→cM (bs++ [x]) k=cM bs k
 |0,_=>rfl
 |k+1,h=>by
  have e1:(bs++ [x]).getD k []=bs.getD k []:=by
   rw [List.getD_eq_getElem?_getD,List.getD_eq_getElem?_getD,List.getElem?_append_left (by omega)]
  unfold cM
  rw [kZ bs x k (by omega),e1]
theorem aEs (bs:List (List Tx)) (x:List Tx):aZ (bs++ [x])=(bI (aZ bs) x ((bs.length+1:Nat):Int)).1:=by
 unfold aZ
 rw [List.length_append]
 show (bI (cM (bs++ [x]) bs.length) ((bs++ [x]).getD bs.length []) ((bs.length+1:Nat):Int)).1=_
 rw [kZ bs x _ (Nat.le_refl _)]
 have e:(bs++ [x]).getD bs.length []=x:=by simp [List.getD_eq_getElem?_getD]
 rw [e]
theorem sR (bs:List (List Tx)):∀(k n:Nat),k≤n→n≤bs.length→cM (bs.take n) k=cM bs k
 |0,_,_,_=>rfl
 |k+1,n,h,hn=>by
  have e1:(bs.take n).getD k []=bs.getD k []:=by
   rw [List.getD_eq_getElem?_getD,List.getD_eq_getElem?_getD,List.getElem?_take_of_lt (by omega)]
  unfold cM
  rw [sR bs k n (by omega) hn,e1]
theorem aMr {bs:List (List Tx)} {n:Nat} (hn:n≤bs.length):aZ (bs.take n)=cM bs n:=by
 unfold aZ
 rw [List.length_take,Nat.min_eq_left hn]
 exact sR bs n n (Nat.le_refl _) hn
def aYt (c:Ch):Prop:=(∀k,k<c.bs.length→(bI (cM c.bs k) (c.bs.getD k []) ((k+1:Nat):Int)).2.1=0)∧c.bs.length≤c.top
def kM (c:Ch) (x:List Tx):Int × Int:=((bI (aZ c.bs) x ((c.bs.length+1:Nat):Int)).2.1,(bI (aZ c.bs) x ((c.bs.length+1:Nat):Int)).2.2.1)
def cS (c:Ch) (x:List Tx):Ch:=if (kM c x).1≠0 then c else ⟨c.bs++ [x],max c.top (c.bs.length+1)⟩
def fN (c:Ch):Int:=if c.bs.length=0 then 8 else if c.bs.length+6≤c.top then 18 else 0
def eW (c:Ch):Ch:=if fN c≠0 then c else ⟨c.bs.take (c.bs.length - 1),c.top⟩
theorem aYt.new:aYt ⟨[],0⟩:=⟨fun k h=>absurd h (by simp),by simp⟩
theorem aYt.conn {c:Ch} (h:aYt c) (x:List Tx):aYt (cS c x):=by
 unfold cS
 by_cases h0:(kM c x).1=0
 ·rw [if_neg (by rw [h0];decide)]
  refine ⟨fun k hk=>?_,by simp;omega⟩
  simp only [List.length_append,List.length_cons,List.length_nil] at hk
  simp only
  rw [kZ _ _ k (by omega)]
  by_cases hk2:k<c.bs.length
  ·have e1:(c.bs++ [x]).getD k []=c.bs.getD k []:=by
    rw [List.getD_eq_getElem?_getD,List.getD_eq_getElem?_getD,List.getElem?_append_left hk2]
   rw [e1];exact h.1 k hk2
  ·have:k=c.bs.length:=by omega
   subst this
   have e:(c.bs++ [x]).getD c.bs.length []=x:=by simp [List.getD_eq_getElem?_getD]
   rw [e];exact h0
 ·rw [if_pos h0];exact h
structure Lk where
 txs:List Tx
 spent:List En
 made:List En
def lkN (bs:List (List Tx)) (k:Nat):Lk:=⟨bs.getD k [],fF (cM bs k) (cM bs (k+1)),fF (cM bs (k+1)) (cM bs k)⟩
def cU (bs:List (List Tx)):List Lk:=(List.range bs.length).map (lkN bs)
theorem aCe (bs:List (List Tx)):(cU bs).length=bs.length:=by simp [cU]
theorem aX6 (bs:List (List Tx)) (x:List Tx):cU (bs++ [x])=cU bs++ [⟨x,fF (aZ bs) (bI (aZ bs) x ((bs.length+1:Nat):Int)).1,fF (bI (aZ bs) x ((bs.length+1:Nat):Int)).1 (aZ bs)⟩]:=by
 unfold cU
 rw [List.length_append,List.length_singleton,List.range_succ,List.map_append]
 congr 1
 ·refine List.map_congr_left fun k hk=>?_
  have hk:=List.mem_range.1 hk
  unfold lkN
  rw [kZ _ _ k (by omega),kZ _ _ (k+1) (by omega)]
  have e1:(bs++ [x]).getD k []=bs.getD k []:=by
   rw [List.getD_eq_getElem?_getD,List.getD_eq_getElem?_getD,List.getElem?_append_left hk]
  rw [e1]
 ·simp only [List.map_cons,List.map_nil]
  unfold lkN
  have e:(bs++ [x]).getD bs.length []=x:=by simp [List.getD_eq_getElem?_getD]
  have e2:=aEs bs x
  unfold aZ at e2
  rw [List.length_append,List.length_singleton] at e2
  rw [e,kZ _ _ _ (Nat.le_refl _),e2];rfl
theorem bAw {bs:List (List Tx)} {n:Nat} (h:n≤bs.length):cU (bs.take n)=(cU bs).take n:=by
 unfold cU
 rw [←List.map_take,List.take_range,List.length_take,Nat.min_eq_left h]
 refine List.map_congr_left fun k hk=>?_
 have hk:=List.mem_range.1 hk
 unfold lkN
 rw [sR _ k _ (by omega) h,sR _ (k+1) _ (by omega) h]
 have e1:(bs.take n).getD k []=bs.getD k []:=by
  rw [List.getD_eq_getElem?_getD,List.getD_eq_getElem?_getD,List.getElem?_take_of_lt (by omega)]
 rw [e1]
theorem bIc {bs:List (List Tx)} {k:Nat} (h:k<bs.length):(cU bs)[k]'(by rw [aCe];exact h)=lkN bs k:=by
 unfold cU
 rw [List.getElem_map,List.getElem_range]
theorem aUo {bs:List (List Tx)} {k:Nat}:zU (cM bs (k+1)) (lkN bs k).made (lkN bs k).spent=(true,cM bs k):=aU3 (gA bs (k+1)) (gA bs k)
end
section
open Go Go.Proofs.YtgloknkcfchnlaaGreat
theorem bIt {l:List En} (h:Srt l) {p:Pt} {c:Cn} (hc:aL l p=some c):tot (cP l p)=tot l - c.v:=by
 rw [mN h,aOv (pE h) hc]
theorem bIf {κ β:Type} [DecidableEq κ] (m:List (κ × β)) (k k':κ):aL (jL m k) k'=if k=k' then none else aL m k':=by
 unfold aL jL
 rw [List.find?_filter]
 by_cases h:k=k'
 ·subst h
  rw [if_pos rfl]
  have:m.find? (fun p=>decide (decide (p.1≠k)=true∧decide (p.1=k)=true))=none:=List.find?_eq_none.2 fun p _=>by simp
  simp [this]
 ·rw [if_neg h]
  congr 2
  funext p
  by_cases h2:p.1=k'
  ·simp [h2,Ne.symm h]
  ·simp [h2]
theorem bHg {l:List En} (h:Srt l) {p q:Pt} (hne:q≠p):aL (cP l p) q=aL l q:=by
 rw [mN h,bIf,if_neg (Ne.symm hne)]
theorem aNm:∀(ins:List TIn) {l:List En},CG l→(ins.map (·.p)).Nodup→(∀x∈ins,(aL l x.p).isSome=true)→tot (eF l ins)=tot l - (ins.map (inV (aL l))).sum
 | [],l,_,_,_=>by simp [eF]
 |x::xs,l,hg,hn,hs=>by
  have hn':=List.nodup_cons.1 hn
  obtain ⟨c,hc⟩:=Option.isSome_iff_exists.1 (hs x (by simp))
  have hk:∀y∈xs,aL (cP l x.p) y.p=aL l y.p:=fun y hy=>bHg hg.srt fun e=>hn'.1 (List.mem_map.2 ⟨y,hy,e⟩)
  have ih:=aNm xs (hg.take x.p) hn'.2 fun y hy=>by rw [hk y hy];exact hs y (by simp [hy])
  have e:xs.map (inV (aL (cP l x.p)))=xs.map (inV (aL l)):=List.map_congr_left fun y hy=>by unfold inV;rw [hk y hy]
  show tot (eF (cP l x.p) xs)=_
  rw [ih,e,bIt hg.srt hc,List.map_cons,List.sum_cons]
  have:inV (aL l) x=c.v:=by unfold inV;rw [hc];rfl
  rw [this];omega
theorem aXz {s:ByteArray} {h:Int}:∀(os:List TOut) (i:Nat) {m:List En},CG m→(jJ s h i os m).2=0→tot (jJ s h i os m).1=tot m+(os.map (·.v)).sum
 | [],_,_,_,_=>by simp [jJ]
 |o::os,i,m,hg,h0=>by
  unfold jJ at h0 ⊢
  split at h0
  ·rename_i hc;exact absurd h0 hc
  ·rename_i hc
   have hc:aX m ⟨s,(i:Nat)⟩ (outC o h)=0:=by simpa using hc
   rw [if_neg (by rw [hc];decide),aXz os (i+1) (hg.put _ _) h0,zW (aJ9 hg.srt hc)]
   simp [outC];omega
theorem bKu {l:List En} {t:Tx} {i:Nat} {h:Int} (h0:(fB l t i h).2.1=0):(nP l t i h).1=0∧(jJ (idT t) h 0 t.outs (mT l t)).2=0∧(fB l t i h).1=(jJ (idT t) h 0 t.outs (mT l t)).1:=by
 by_cases h1:(nP l t i h).1=0
 ·by_cases h2:(jJ (idT t) h 0 t.outs (mT l t)).2=0
  ·refine ⟨h1,h2,?_⟩
   unfold fB
   rw [if_neg (by rw [h1];decide),if_neg (by rw [h2];decide)]
  ·unfold fB at h0
   rw [if_neg (by rw [h1];decide),if_pos h2] at h0
   exact absurd h0 h2
 ·unfold fB at h0
  rw [if_pos h1] at h0
  exact absurd h0 h1
theorem bPl {l:List En} {t:Tx} {i:Nat} {h:Int} (hg:CG l) (h0:(fB l t i h).2.1=0):tot (fB l t i h).1=if aQ t then tot l+fG (values t) else tot l - (dZ (aL l) t h).1:=by
 obtain ⟨h1,h2,h3⟩:=bKu h0
 have hc:=aFe h1
 have hv:=aEb (uS hc)
 rw [h3,aXz _ _ (aKi hg t) h2]
 have hv1:(t.outs.map (·.v)).sum=fG (values t):=hv.1.symm
 rw [hv1]
 by_cases hb:aQ t=true
 ·rw [if_pos hb]
  unfold mT
  rw [if_pos hb]
 ·rw [if_neg hb]
  unfold mT
  rw [if_neg hb]
  unfold nP at h1
  rw [if_neg hb] at h1
  obtain ⟨s1,s2,s3⟩:=aWt hc h1
  have hd:(t.ins.map (·.p)).Nodup:=aH5 hc
  rw [aNm _ hg hd s1,s3,(aEb s2).1]
  omega
end
section
open Go Go.Proofs.YtgloknkcfchnlaaGreat
def grT (h:Int) (outs:List TOut):Tx:=⟨2, [⟨xA,4294967295, []⟩],outs,h⟩
def o5:List TOut:= [⟨5,⟨#[]⟩⟩]
def gw (h:Nat):Tx:=grT (h:Nat) o5
def bsW:List (List Tx):=(List.range 7).map fun i=> [gw (i+1)]
theorem bPv:((List.range 7).all fun k=>decide ((kM ⟨bsW.take k,k⟩ (bsW.getD k [])).1=0))=true:=by kernel_rfl
theorem bOb:decide ((cM bsW 1).length=1)=true:=by kernel_rfl
theorem bF1:bsW.length=7:=rfl
theorem bE1 {k:Nat} (hk:k<7):bsW.getD k []= [gw (k+1)]:=by
 rw [List.getD_eq_getElem?_getD]
 unfold bsW
 rw [List.getElem?_map,List.getElem?_range hk];rfl
theorem bBh {k:Nat} (hk:k<7):(kM ⟨bsW.take k,k⟩ [gw (k+1)]).1=0:=by
 have:=List.all_eq_true.1 bPv k (List.mem_range.2 hk)
 rw [bE1 hk] at this
 exact of_decide_eq_true this
theorem wF {k:Nat} (hk:k≤7):(bsW.take k).length=k:=by rw [List.length_take,bF1];omega
theorem bKf {k:Nat} (hk:k<7):bsW.take (k+1)=bsW.take k++ [[gw (k+1)]]:=by
 have h:k<bsW.length:=by rw [bF1];exact hk
 have e:=bE1 hk
 rw [List.getD_eq_getElem?_getD,List.getElem?_eq_getElem h] at e
 rw [List.take_succ_eq_append_getElem h]
 exact congrArg (fun x=>bsW.take k++ [x]) e
theorem bJx {k:Nat} (hk:k<7):cS ⟨bsW.take k,k⟩ [gw (k+1)]=⟨bsW.take (k+1),k+1⟩:=by
 unfold cS
 rw [if_neg (by rw [bBh hk];decide),bKf hk,wF (by omega)]
 show Ch.mk _ (max k (k+1))=_
 congr 1;omega
theorem bLd {j:Nat} (hj:j<6):fN ⟨bsW.take (7 - j),7⟩=0∧eW ⟨bsW.take (7 - j),7⟩=⟨bsW.take (7 - (j+1)),7⟩:=by
 have hl:=wF (k:=7 - j) (by omega)
 have e0:fN ⟨bsW.take (7 - j),7⟩=0:=by
  unfold fN
  simp only [hl]
  rw [if_neg (by omega),if_neg (by omega)]
 refine ⟨e0,?_⟩
 unfold eW
 rw [if_neg (by simp [e0])]
 simp only [hl,List.take_take]
 congr 2;omega
theorem bMk:fN ⟨bsW.take 1,7⟩=18:=rfl
theorem bNc:eW ⟨bsW.take 1,7⟩=⟨bsW.take 1,7⟩:=rfl
theorem bFo:(aZ (bsW.take 1)).length=1:=of_decide_eq_true bOb
theorem bL0 {n:Nat}:∀b∈bsW.take n,fE b≤1:=fun b hb=>by
 have hb:=List.mem_of_mem_take hb
 unfold bsW at hb
 obtain ⟨i, -,rfl⟩:=List.mem_map.1 hb
 exact Nat.le_refl 1
theorem aVn {n k:Nat} (hk:k≤7):(cM (bsW.take n) k).length≤7:=by
 have:=aHk (bL0 (n:=n)) k
 omega
theorem bSr (h:Nat):(gw h).Sm:=⟨by simp [gw,grT],by simp [gw,grT,o5],by simp [gw,grT]⟩
end
section
open Go Go.Proofs.YtgloknkcfchnlaaGreat
structure BSm where
 spends:List UInt8
 tag:UInt8
 fee:Int
 outs:Int
 pays:UInt8
 delay:UInt8
 height:UInt8
 grant:Bool
 odd:Bool
instance:Inhabited BSm:=⟨⟨[],0,0,0,0,0,0,false,false⟩⟩
def aAg (z:BSm) (fv:Value):List Value:= [fv,u8V z.tag,.int .u16 z.fee,.int .u16 z.outs,u8V z.pays,u8V z.delay,u8V z.height,.bool z.grant,.bool z.odd]
def aSn:R BSm where
 k:=9
 pos:=by decide
 ag:=true
 rel:=fun M w cs z=>∃fv,cs=aAg z fv∧SlR u8R M w fv z.spends∧(0≤z.fee∧z.fee≤65535)∧0≤z.outs∧z.outs≤65535
 len:=fun ⟨_,h,_⟩=>by rw [h];rfl
 one:=fun ⟨fv,h,hs,_⟩ v hv=>by
  obtain ⟨b,c,rfl⟩:=hs.form
  subst h;simp [aAg] at hv;rcases hv with rfl|rfl|rfl|rfl|rfl|rfl|rfl|rfl|rfl<;>rfl
 step:=fun ⟨fv,h,hs,h2⟩ c hL hM=>⟨fv,h,hs.step c hL hM,h2⟩
structure BAct where
 act:UInt8
 txs:List BSm
instance:Inhabited BAct:=⟨⟨0, []⟩⟩
def nG:R BAct where
 k:=2
 pos:=by decide
 ag:=true
 rel:=fun M w cs a=>∃tv,cs= [u8V a.act,tv]∧SlR aSn M w tv a.txs
 len:=fun ⟨_,h,_⟩=>by rw [h];rfl
 one:=fun ⟨tv,h,hs⟩ v hv=>by
  obtain ⟨b,c,rfl⟩:=hs.form
  subst h;simp at hv;rcases hv with rfl|rfl<;>rfl
 step:=fun ⟨tv,h,hs⟩ c hL hM=>⟨tv,h,hs.step c hL hM⟩
structure MkOk (t:Tx):Prop where
 ins:t.ins.length≤4
 outs:t.outs.length≤3
 wit:∀x∈t.ins,x.wit.length≤1
 vals:∀o∈t.outs,0≤o.v∧o.v≤8400000000000000
theorem MkOk.sm {t:Tx} (h:MkOk t):t.Sm:=⟨by have:=h.ins;omega,by have:=h.outs;omega,fun x hx=>by have:=h.wit x hx;omega⟩
end
end Go.K
namespace Go.Proofs.YtgloknkcfchnlaaGreat
section
open Go Go.K Go.ChangeShapes Go.WideShapes Go.ChangeAt Go.RowKit
set_option maxRecDepth 100000
theorem bQh:Tryz.prog.cellsOf 100=1:=by kernel_rfl
theorem bG6 {W:World} {c:List Value} (h:Reads Tryz.prog W 175 c):∃z:BSm,aSn.rel [] W c z:=by
 obtain ⟨h1,h2⟩:=qR Tryz.underlying175 h
 have l:c.length=9:=h1.trans (by kernel_rfl)
 match c,l with
 | [c0,c1,c2,c3,c4,c5,c6,c7,c8],_=>
  have g0:=h2 _ (List.mem_of_getElem? (i:=0) rfl)
  have g1:=h2 _ (List.mem_of_getElem? (i:=1) rfl)
  have g2:=h2 _ (List.mem_of_getElem? (i:=2) rfl)
  have g3:=h2 _ (List.mem_of_getElem? (i:=3) rfl)
  have g4:=h2 _ (List.mem_of_getElem? (i:=4) rfl)
  have g5:=h2 _ (List.mem_of_getElem? (i:=5) rfl)
  have g6:=h2 _ (List.mem_of_getElem? (i:=6) rfl)
  have g7:=h2 _ (List.mem_of_getElem? (i:=7) rfl)
  have g8:=h2 _ (List.mem_of_getElem? (i:=8) rfl)
  simp only [bP3,List.drop_zero,List.drop_succ_cons,List.take_succ_cons,List.take_zero] at g0
  obtain ⟨frm,hf,hfl⟩:=rV u8R Tryz.underlying37 (by kernel_rfl) (fun c hc=>by
   obtain ⟨b,e⟩:=jA hc
   exact ⟨b,by subst e;rfl⟩) g0
  obtain ⟨b1,e1⟩:=jA g1
  obtain ⟨n2,e2,hn2⟩:=rJ g2
  obtain ⟨n3,e3,hn3⟩:=rJ g3
  obtain ⟨b4,e4⟩:=jA g4
  obtain ⟨b5,e5⟩:=jA g5
  obtain ⟨b6,e6⟩:=jA g6
  obtain ⟨o7,e7⟩:=aCn Tryz.underlying4 g7
  obtain ⟨o8,e8⟩:=aCn Tryz.underlying4 g8
  simp only [bPq,bL2,bC8,List.drop_zero,List.drop_succ_cons,List.take_succ_cons,List.take_zero,List.cons.injEq,and_true] at e1 e2 e3 e4 e5 e6 e7 e8
  exact ⟨⟨frm,b1,n2,n3,b4,b5,b6,o7,o8⟩,c0,by rw [e1,e2,e3,e4,e5,e6,e7,e8];rfl,hf,hn2,hn3⟩
theorem bDn {W:World} {v:Value} (h:Reads Tryz.prog W 100 [v]):∃l,SlR aSn [] W v l∧l.length≤maxLen:=
 rV aSn Tryz.underlying100 (by kernel_rfl) (fun _ h=>bG6 h) h
theorem bCd {W:World} {c:List Value} (h:Reads Tryz.prog W 102 c):∃z:BAct,nG.rel [] W c z:=by
 obtain ⟨h1,h2⟩:=qR Tryz.underlying102 h
 have l:c.length=2:=h1.trans (by kernel_rfl)
 match c,l with
 | [c0,c1],_=>
  have g0:=h2 _ (List.mem_of_getElem? (i:=0) rfl)
  have g1:=h2 _ (List.mem_of_getElem? (i:=1) rfl)
  obtain ⟨b0,e0⟩:=jA g0
  simp only [bQh,List.drop_zero,List.drop_succ_cons,List.take_succ_cons,List.take_zero] at g1
  obtain ⟨l,hl,_⟩:=bDn g1
  simp only [bPq,List.drop_zero,List.drop_succ_cons,List.take_succ_cons,List.take_zero,List.cons.injEq,and_true] at e0
  exact ⟨⟨b0,l⟩,c1,by rw [e0],hl⟩
theorem aDt {W:World} {v:Value} (h:Reads Tryz.prog W 94 [v]):∃l,SlR nG [] W v l∧l.length≤maxLen:=
 rV nG Tryz.underlying94 (by kernel_rfl) (fun _ h=>bCd h) h
end
end Go.Proofs.YtgloknkcfchnlaaGreat
