/- Contracts: rates, and how they are compared, by the program  -/
import Derived.Test.YtgloknkcfchnlaaGreatDoorZ29
set_option linter.unusedVariables false
set_option linter.unusedSimpArgs false
namespace Go.Proofs.YtgloknkcfchnlaaGreatDoor
section
open Go Go.K
attribute [local irreducible] aD aK aV KOp.wp K.Spec u32 leS vnS str aN cR
def zZ:Enc Int:=⟨fun n=> [.int .i64 n],1,fun _=>rfl,by decide,by intro x v hv;simp at hv;subst hv;rfl⟩
end
section
open Go Go.K
attribute [local irreducible] aD aK aV KOp.wp K.Spec u32 leS vnS str aN cR bI idT aY aI aO
end
section
open Go Go.K
attribute [local irreducible] aD aK aV KOp.wp K.Spec u32 leS vnS str aN cR bI idT aY aI aO
end
section
open Go Go.K
section
variable {P:Program} {d:Option Tmp} {r:KR} {K:Env→World→Prop} {ρ:Env} {w:World}
end
theorem Own.blk_lt {α:Type} {E:Enc α} {t:TypeId} {B:Nat} {w:World} {v:Value} {l:List α} (h:Own E t B w v l):∀b∈aH v,b<w.heap.size:=by
 rcases h with ⟨rfl,rfl⟩|⟨b,cap,junk,rfl,hB,hat,hl⟩<;>simp [aH]
 exact hat.lt
attribute [local irreducible] aD aK aV KOp.wp K.Spec u32 leS vnS str aN cR bI idT aY aI aO
end
end Go.Proofs.YtgloknkcfchnlaaGreatDoor
namespace Go.K
section
open Go Go.Proofs.YtgloknkcfchnlaaGreatDoor
structure CG (l:List En):Prop where
 srt:Srt l
 mon:Mon l
 fm:∀e∈l,cE e.1 e.2=true
theorem CG.nil:CG []:=⟨.nil,Mon.nil,by simp⟩
theorem CG.nodup {l:List En} (h:CG l):(l.map (·.1)).Nodup:=gL h.srt
theorem gR {l:List En} (h:(l.map (·.1)).Nodup):l.Nodup:=(List.pairwise_map.1 h).imp fun hne e=>hne (by rw [e])
theorem aWi {l:List En} (h:Srt l):l.Pairwise (fun a b=>fV b.1 a.1=false):=by
 refine List.Pairwise.imp (fun {a b} hab=>?_) h
 cases h2:fV b.1 a.1
 ·rfl
 ·have:=qU hab h2
  rw [rR] at this;cases this
theorem aPg {l m:List En} (hl:Srt l) (hm:Srt m) (h:∀e,e∈l↔e∈m):l=m:=
 aAr ((List.perm_ext_iff_of_nodup (gR (gL hl)) (gR (gL hm))).2 h) (aWi hl) hm
theorem bC {l:List En} (h:(l.map (·.1)).Nodup) {e:En}:e∈l↔aT l e.1=some e.2:=⟨fun he=>aD0 h (by cases e;exact he),fun he=>by have:=gB he;cases e;exact this⟩
theorem aMh {l m:List En} (hl:Srt l) (hm:Srt m) (h:∀p,aT l p=aT m p):l=m:=
 aPg hl hm fun e=>by rw [bC (gL hl),bC (gL hm),h]
theorem CG.take {l:List En} (h:CG l) (p:Pt):CG (aX l p):=by
 have e:=fG h.srt p
 refine ⟨(aD2 (List.Perm.refl l) h.srt p).2.1,by rw [e];exact h.mon.del p,fun x hx=>?_⟩
 rw [e] at hx
 exact h.fm x (List.mem_filter.1 hx).1
theorem sT {l:List En} (h:Srt l) {p:Pt} {c:Cn} (h0:aQ l p c=0):(bG l p c).Perm (l++ [(p,c)]):=by
 have:=(xZ (List.Perm.refl l) h p c).1
 have e:eL l p c=0:=by rw [aFo (List.Perm.refl l) h p c];exact h0
 unfold sL at this
 rw [if_pos e] at this
 exact this.symm
theorem aMe {l:List En} {p:Pt} {c:Cn} (h0:aQ l p c=0):cE p c=true∧aT l p=none∧cP (tot l+c.v)=true:=by
 unfold aQ at h0
 split at h0
 ·rename_i hf
  split at h0
  ·cases h0
  ·rename_i hi
   split at h0
   ·rename_i hg
    refine ⟨hf,?_,hg⟩
    cases ha:aT l p
    ·rfl
    ·have:=jP l p
     rw [ha] at this;simp at this
     rw [←this] at hi;simp at hi
   ·cases h0
 ·cases h0
theorem CG.put {l:List En} (h:CG l) (p:Pt) (c:Cn):CG (bG l p c):=by
 by_cases h0:aQ l p c=0
 ·have hp:=sT h.srt h0
  obtain ⟨z1,z2,z3⟩:=aMe h0
  refine ⟨(xZ (List.Perm.refl l) h.srt p c).2.1,⟨fun e he=>?_,?_⟩,fun e he=>?_⟩
  ·rcases List.mem_append.1 (hp.mem_iff.1 he) with he|he
   ·exact h.mon.1 e he
   ·simp at he;subst he
    simp only [cE,Bool.and_eq_true] at z1
    exact ((cA _).1 z1.2).1
  ·rw [lK hp]
   have:=((cA _).1 z3).2
   simp;omega
  ·rcases List.mem_append.1 (hp.mem_iff.1 he) with he|he
   ·exact h.fm e he
   ·simp at he;subst he;exact z1
 ·unfold bG;rw [if_neg h0];exact h
theorem xC (l:List En) (p:Pt) (c:Cn) (h:Srt l):(bG l p c).length≤l.length+1:=(xZ (List.Perm.refl l) h p c).2.2
theorem aCg (l:List En) (p:Pt):(aX l p).length≤l.length:=by
 unfold aX
 split
 ·exact List.length_eraseIdx_le _ _
 ·exact Nat.le_refl _
def cI (l:List En) (ins:List TIn):List En:=ins.foldl (fun m x=>aX m x.p) l
def outC (o:TOut) (h:Int):Cn:=⟨o.v,o.s,h⟩
def fD (s:ByteArray) (h:Int):Nat→List TOut→List En→List En × Int
 |_, [],m=>(m,0)
 |i,o::os,m=>if aQ m ⟨s,(i:Nat)⟩ (outC o h)≠0 then (m,aQ m ⟨s,(i:Nat)⟩ (outC o h)) else fD s h (i+1) os (bG m ⟨s,(i:Nat)⟩ (outC o h))
def iB (l:List En) (t:Tx) (at_:Nat) (h:Int):Int × Int:=
 if aO t then (if aI t≠0 then (aI t, -1) else if 0<at_∨t.lock≠h then (4, -1) else (0, -1)) else (fR (aT l) t h).2
def gP (l:List En) (t:Tx):List En:=if aO t then l else cI l t.ins
def cW (l:List En) (t:Tx) (at_:Nat) (h:Int):List En × Int × Int:=
 if (iB l t at_ h).1≠0 then (l,iB l t at_ h) else if (fD (idT t) h 0 t.outs (gP l t)).2≠0 then (l,(fD (idT t) h 0 t.outs (gP l t)).2, -1) else ((fD (idT t) h 0 t.outs (gP l t)).1,0, -1)
def gF (l0:List En) (h:Int):Nat→List Tx→List En→List En × Int × Int × Int
 |_, [],m=>(m,0, -1, -1)
 |i,t::ts,m=>if (cW m t i h).2.1≠0 then (l0,(cW m t i h).2.1,(i:Nat),(cW m t i h).2.2) else gF l0 h (i+1) ts (cW m t i h).1
def aP (l:List En) (txs:List Tx) (h:Int):List En × Int × Int × Int:=if h<0∨h>1000000 then (l,3, -1, -1) else gF l h 0 txs l
def bA (a b:List En):List En:=a.filter fun e=>!decide (aT b e.1=some e.2)
theorem aFj:∀(ins:List TIn) {l:List En},CG l→CG (cI l ins)
 | [],_,h=>h
 |x::xs,_,h=>aFj xs (h.take x.p)
theorem tK:∀(ins:List TIn) (l:List En),(cI l ins).length≤l.length
 | [],_=>Nat.le_refl _
 |x::xs,l=>nTr (tK xs _) (aCg l x.p)
theorem qK {l:List En} {ins:List TIn} {i:Nat} (h:i<ins.length):cI l (ins.take (i+1))=aX (cI l (ins.take i)) ins[i].p:=by
 rw [List.take_succ_eq_append_getElem h]
 unfold cI
 rw [List.foldl_append];rfl
theorem aPc {s:ByteArray} {h:Int}:∀(os:List TOut) (i:Nat) {m:List En},CG m→CG (fD s h i os m).1
 | [],_,_,hm=>hm
 |o::os,i,m,hm=>by
  unfold fD
  split
  ·exact hm
  ·exact aPc os (i+1) (hm.put _ _)
theorem aMp {s:ByteArray} {h:Int}:∀(os:List TOut) (i:Nat) {m:List En},CG m→(fD s h i os m).1.length≤m.length+os.length
 | [],_,_,_=>Nat.le_refl _
 |o::os,i,m,hm=>by
  unfold fD
  split
  ·simp
  ·have:=aMp (s:=s) (h:=h) os (i+1) (hm.put ⟨s,(i:Nat)⟩ (outC o h))
   have:=xC m ⟨s,(i:Nat)⟩ (outC o h) hm.srt
   simp only [List.length_cons];omega
def vP (s:ByteArray) (h:Int) (os:List TOut) (m:List En) (k:Nat) (m':List En):Prop:=fD s h 0 os m=fD s h k (os.drop k) m'
theorem aEw {s:ByteArray} {h:Int} {os:List TOut} {m:List En}:vP s h os m 0 m:=rfl
theorem aGh {s:ByteArray} {h:Int} {os:List TOut} {m m':List En} {k:Nat} (hk:k<os.length) (ho:vP s h os m k m') (hc:aQ m' ⟨s,(k:Nat)⟩ (outC os[k] h)≠0):fD s h 0 os m=(m',aQ m' ⟨s,(k:Nat)⟩ (outC os[k] h)):=by
 unfold vP at ho
 rw [ho,List.drop_eq_getElem_cons hk,fD,if_pos hc]
theorem aFi {s:ByteArray} {h:Int} {os:List TOut} {m m':List En} {k:Nat} (hk:k<os.length) (ho:vP s h os m k m') (hc:aQ m' ⟨s,(k:Nat)⟩ (outC os[k] h)=0):vP s h os m (k+1) (bG m' ⟨s,(k:Nat)⟩ (outC os[k] h)):=by
 unfold vP at ho ⊢
 rw [ho,List.drop_eq_getElem_cons hk,fD,if_neg (by rw [hc];decide)]
theorem aGo {s:ByteArray} {h:Int} {os:List TOut} {m m':List En} {k:Nat} (hk:os.length≤k) (ho:vP s h os m k m'):fD s h 0 os m=(m',0):=by
 unfold vP at ho
 rw [ho,List.drop_eq_nil_of_le hk];rfl
theorem zR {l:List En} (h:CG l) (t:Tx):CG (gP l t):=by
 unfold gP
 split
 ·exact h
 ·exact aFj _ h
theorem aLt (l:List En) (t:Tx):(gP l t).length≤l.length:=by
 unfold gP
 split
 ·exact Nat.le_refl _
 ·exact tK _ _
theorem jV {l:List En} (h:CG l) (t:Tx) (i:Nat) (b:Int):CG (cW l t i b).1:=by
 unfold cW
 split
 ·exact h
 ·split
  ·exact h
  ·exact aPc _ _ (zR h t)
theorem yW {l:List En} (h:CG l) (t:Tx) (i:Nat) (b:Int):(cW l t i b).1.length≤l.length+t.outs.length:=by
 unfold cW
 split
 ·simp
 ·split
  ·simp
  ·have:=aMp (s:=idT t) (h:=b) t.outs 0 (zR h t)
   have:=aLt l t
   simp only;omega
theorem aPu {l0:List En} {h:Int} (h0:CG l0):∀(txs:List Tx) (i:Nat) {m:List En},CG m→CG (gF l0 h i txs m).1
 | [],_,_,hm=>hm
 |t::ts,i,m,hm=>by
  unfold gF
  split
  ·exact h0
  ·exact aPu h0 ts (i+1) (jV hm t i h)
theorem pZ {l:List En} (h:CG l) (txs:List Tx) (b:Int):CG (aP l txs b).1:=by
 unfold aP
 split
 ·exact h
 ·exact aPu h txs 0 h
def cZ (txs:List Tx):Nat:=(txs.map fun t=>t.outs.length).sum
theorem aMm {l0:List En} {h:Int}:∀(txs:List Tx) (i:Nat) {m:List En},CG m→l0.length≤m.length+cZ txs→(gF l0 h i txs m).1.length≤max l0.length (m.length+cZ txs)
 | [],_,m,_,_=>by unfold gF;simp only [cZ,List.map_nil,List.sum_nil];omega
 |t::ts,i,m,hm,h5=>by
  unfold gF
  split
  ·simp only;omega
  ·have h1:=yW hm t i h
   have h6:cZ (t::ts)=t.outs.length+cZ ts:=by simp [cZ]
   by_cases h7:l0.length≤(cW m t i h).1.length+cZ ts
   ·have:=aMm (l0:=l0) (h:=h) ts (i+1) (jV hm t i h) h7
    omega
   ·have h8:=runL_len' (l0:=l0) (h:=h) ts (i+1) (jV hm t i h)
    omega
where
 runL_len' {l0:List En} {h:Int}:∀(txs:List Tx) (i:Nat) {m:List En},CG m→(gF l0 h i txs m).1.length≤max l0.length (m.length+cZ txs)
 | [],_,m,_=>by unfold gF;simp only [cZ,List.map_nil,List.sum_nil];omega
 |t::ts,i,m,hm=>by
  unfold gF
  split
  ·simp only;omega
  ·have h1:=yW hm t i h
   have h6:cZ (t::ts)=t.outs.length+cZ ts:=by simp [cZ]
   have h8:=runL_len' (l0:=l0) (h:=h) ts (i+1) (jV hm t i h)
   omega
def vW (l0:List En) (h:Int) (txs:List Tx) (k:Nat) (m:List En):Prop:=gF l0 h 0 txs l0=gF l0 h k (txs.drop k) m
theorem aDw {l0:List En} {h:Int} {txs:List Tx}:vW l0 h txs 0 l0:=rfl
theorem aG5 {l0 m:List En} {h:Int} {txs:List Tx} {k:Nat} (hk:k<txs.length) (ho:vW l0 h txs k m) (hc:(cW m txs[k] k h).2.1≠0):gF l0 h 0 txs l0=(l0,(cW m txs[k] k h).2.1,((k:Nat):Int),(cW m txs[k] k h).2.2):=by
 unfold vW at ho
 rw [ho,List.drop_eq_getElem_cons hk,gF,if_pos hc]
theorem aD8 {l0 m:List En} {h:Int} {txs:List Tx} {k:Nat} (hk:k<txs.length) (ho:vW l0 h txs k m) (hc:(cW m txs[k] k h).2.1=0):vW l0 h txs (k+1) (cW m txs[k] k h).1:=by
 unfold vW at ho ⊢
 rw [ho,List.drop_eq_getElem_cons hk,gF,if_neg (by rw [hc];decide)]
theorem aHn {l0 m:List En} {h:Int} {txs:List Tx} {k:Nat} (hk:txs.length≤k) (ho:vW l0 h txs k m):gF l0 h 0 txs l0=(m,0, -1, -1):=by
 unfold vW at ho
 rw [ho,List.drop_eq_nil_of_le hk];rfl
def fW:List En→List En→Bool × List En
 | [],m=>(true,m)
 |x::xs,m=>if bP m x.1=0∧cJ m x.1=x.2 then fW xs (aX m x.1) else (false,aX m x.1)
def pY:List En→List En→Bool × List En
 | [],m=>(true,m)
 |x::xs,m=>if aQ m x.1 x.2=0 then pY xs (bG m x.1 x.2) else (false,m)
def jF (m out inn:List En):Bool × List En:=if (fW out m).1 then pY inn (fW out m).2 else (false,(fW out m).2)
theorem aLa:∀(xs:List En) {m:List En},CG m→CG (fW xs m).2
 | [],_,h=>h
 |x::xs,m,h=>by
  unfold fW
  split
  ·exact aLa xs (h.take x.1)
  ·exact h.take x.1
theorem aPf:∀(xs:List En) {m:List En},CG m→CG (pY xs m).2
 | [],_,h=>h
 |x::xs,m,h=>by
  unfold pY
  split
  ·exact aPf xs (h.put x.1 x.2)
  ·exact h
theorem take_at {m:List En} (h:Srt m) {x:En} (hx:x∈m):bP m x.1=0∧cJ m x.1=x.2:=by
 have ha:=(bC (gL h)).1 hx
 have h1:=aBl (List.Perm.refl m) h x.1
 have h2:=oX (List.Perm.refl m) h x.1
 constructor
 ·rw [←h1];unfold mD;rw [ha];rfl
 ·rw [←h2];unfold fZ;rw [ha];rfl
theorem aGm:∀(xs:List En) {m:List En},CG m→(xs.map (·.1)).Nodup→(∀x∈xs,x∈m)→(fW xs m).1=true∧∀e,e∈(fW xs m).2↔e∈m∧e.1∉xs.map (·.1)
 | [],m,_,_,_=>⟨rfl,fun e=>by simp [fW]⟩
 |x::xs,m,h,hn,hs=>by
  have hn':=List.nodup_cons.1 hn
  have hx:=hs x (by simp)
  unfold fW
  rw [if_pos (take_at h.srt hx)]
  have hm:∀e,e∈aX m x.1↔e∈m∧e.1≠x.1:=fun e=>by
   rw [fG h.srt]
   unfold kT
   rw [List.mem_filter];simp
  obtain ⟨h1,h2⟩:=aGm xs (h.take x.1) hn'.2 fun y hy=>(hm y).2 ⟨hs y (by simp [hy]),fun e=>hn'.1 (List.mem_map.2 ⟨y,hy,e⟩)⟩
  refine ⟨h1,fun e=>?_⟩
  rw [h2,hm]
  simp only [List.map_cons,List.mem_cons,not_or]
  constructor
  ·rintro ⟨⟨a,b⟩,c⟩;exact ⟨a,b,c⟩
  ·rintro ⟨a,b,c⟩;exact ⟨⟨a,b⟩,c⟩
theorem aL6:∀(xs:List En) {m:List En},CG m→(xs.map (·.1)).Nodup→(∀x∈xs,aT m x.1=none)→(∀x∈xs,cE x.1 x.2=true)→(∀x∈xs,0≤x.2.v)→tot m+tot xs≤2100000000000000→(pY xs m).1=true∧(pY xs m).2.Perm (m++xs)
 | [],m,_,_,_,_,_,_=>⟨rfl,by simp [pY]⟩
 |x::xs,m,h,hn,h1,h2,h3,h4=>by
  have hn':=List.nodup_cons.1 hn
  have hv:=Mon.pos (m:=xs) fun y hy=>h3 y (by simp [hy])
  have hv0:=h3 x (by simp)
  have hm0:=Mon.pos h.mon.1
  simp only [aSm] at h4
  have hc:aQ m x.1 x.2=0:=by
   rw [tH (h2 x (by simp)) (by
    cases hi:cF m x.1
    ·rfl
    ·have:=jP m x.1
     rw [h1 x (by simp),hi] at this;cases this),if_pos ((cA _).2 ⟨by omega,by omega⟩)]
  have hp:=sT h.srt hc
  unfold pY
  rw [if_pos hc]
  have hk:∀y∈xs,aT (bG m x.1 x.2) y.1=none:=fun y hy=>by
   cases ha:aT (bG m x.1 x.2) y.1 with
   |none=>rfl
   |some c=>
    rcases List.mem_append.1 (hp.mem_iff.1 (gB ha)) with h5|h5
    ·have:=(bC h.nodup).1 h5
     rw [h1 y (by simp [hy])] at this;cases this
    ·simp only [List.mem_singleton] at h5
     have e:y.1=x.1:=congrArg (·.1) h5
     exact absurd (List.mem_map.2 ⟨y,hy,e⟩) hn'.1
  obtain ⟨g1,g2⟩:=aL6 xs (h.put x.1 x.2) hn'.2 hk (fun y hy=>h2 y (by simp [hy])) (fun y hy=>h3 y (by simp [hy])) (by rw [lK hp];simp;omega)
  refine ⟨g1,g2.trans ?_⟩
  have:=hp.append_right xs
  refine this.trans ?_
  rw [List.append_assoc];exact List.Perm.refl _
theorem gE {a b:List En} {e:En}:e∈bA a b↔e∈a∧aT b e.1≠some e.2:=by
 unfold bA
 rw [List.mem_filter];simp
theorem sQ {a b:List En} (h:(a.map (·.1)).Nodup):((bA a b).map (·.1)).Nodup:=List.Nodup.sublist (List.Sublist.map _ List.filter_sublist) h
theorem uG {a b:List En} (ha:CG a) (hb:CG b):jF a (bA a b) (bA b a)=(true,b):=by
 obtain ⟨h1,h2⟩:=aGm (bA a b) ha (sQ ha.nodup) fun x hx=>(gE.1 hx).1
 have hg:=aLa (bA a b) ha
 generalize hq:fW (bA a b) a=q at h1 h2 hg
 obtain ⟨qt,m⟩:=q
 simp only at h1 h2 hg
 subst h1
 have hm:∀e,e∈m↔e∈a∧e∈b:=fun e=>by
  rw [h2]
  refine and_congr_right fun hea=>?_
  constructor
  ·intro hn
   by_cases hb2:aT b e.1=some e.2
   ·exact (bC hb.nodup).2 hb2
   ·exact absurd (List.mem_map_of_mem (f:=(·.1)) (gE.2 ⟨hea,hb2⟩)) hn
  ·intro heb hn
   obtain ⟨y,hy,e1⟩:=List.mem_map.1 hn
   obtain ⟨y1,y2⟩:=gE.1 hy
   have e2:=(bC ha.nodup).1 y1
   have e3:=(bC ha.nodup).1 hea
   have e4:=(bC hb.nodup).1 heb
   rw [e1] at e2 y2
   rw [e3] at e2
   exact y2 (e4.trans e2)
 have hpb:(m++bA b a).Perm b:=by
  refine (List.perm_ext_iff_of_nodup ?_ (gR hb.nodup)).2 fun e=>?_
  ·rw [List.nodup_append]
   refine ⟨gR hg.nodup,gR (sQ hb.nodup),fun x hx y hy e=>?_⟩
   subst e
   have:=((hm _).1 hx).1
   exact (gE.1 hy).2 ((bC ha.nodup).1 this)
  ·rw [List.mem_append,hm,gE]
   constructor
   ·rintro (h|h)
    ·exact h.2
    ·exact h.1
   ·intro h
    by_cases h3:aT a e.1=some e.2
    ·exact .inl ⟨(bC ha.nodup).2 h3,h⟩
    ·exact .inr ⟨h,h3⟩
 have ht:tot m+tot (bA b a)=tot b:=by rw [←wM,lK hpb]
 obtain ⟨g1,g2⟩:=aL6 (bA b a) hg (sQ hb.nodup) (fun x hx=>by
   cases hx2:aT m x.1 with
   |none=>rfl
   |some c=>
    have h5:=(hm _).1 (gB hx2)
    have h6:=(bC hb.nodup).1 h5.2
    have h7:=(bC hb.nodup).1 (gE.1 hx).1
    simp only at h6
    rw [h6] at h7
    cases h7
    exact absurd ((bC ha.nodup).1 h5.1) (gE.1 hx).2)
  (fun x hx=>hb.fm x (gE.1 hx).1) (fun x hx=>hb.mon.1 x (gE.1 hx).1) (by rw [ht];exact hb.mon.2)
 unfold jF
 rw [hq]
 simp only [if_true]
 have e:(pY (bA b a) m).2=b:=aPg (aPf _ hg).srt hb.srt fun x=>(g2.trans hpb).mem_iff
 exact Prod.ext g1 e
end
section
open Go Go.Proofs.YtgloknkcfchnlaaGreatDoor
def SC (l:List En):Prop:=∀e∈l,e.2.s.size≤40∧iA e.1.i
theorem SC.nil:SC []:=by simp [SC]
theorem SC.take {l:List En} (h:SC l) (hs:Srt l) (p:Pt):SC (aX l p):=fun e he=>by
 rw [fG hs] at he
 exact h e (List.mem_filter.1 he).1
theorem SC.put {l:List En} (h:SC l) (hs:Srt l) {p:Pt} {c:Cn} (hc:c.s.size≤40∧iA p.i):SC (bG l p c):=fun e he=>by
 by_cases h0:aQ l p c=0
 ·rcases List.mem_append.1 ((sT hs h0).mem_iff.1 he) with he|he
  ·exact h e he
  ·simp at he;subst he;exact hc
 ·unfold bG at he;rw [if_neg h0] at he;exact h e he
theorem aFl:∀(ins:List TIn) {l:List En},CG l→SC l→SC (cI l ins)
 | [],_,_,h=>h
 |x::xs,_,hg,h=>aFl xs (hg.take x.p) (h.take hg.srt x.p)
theorem aPy {s:ByteArray} {h:Int}:∀(os:List TOut) (i:Nat) {m:List En},i+os.length≤4294967296→CG m→(∀o∈os,o.s.size≤40)→SC m→SC (fD s h i os m).1
 | [],_,_,_,_,_,hm=>hm
 |o::os,i,m,hi,hg,ho,hm=>by
  rw [List.length_cons] at hi
  unfold fD
  split
  ·exact hm
  ·exact aPy os (i+1) (by omega) (hg.put _ _) (fun y hy=>ho y (by simp [hy])) (hm.put hg.srt ⟨ho o (by simp),by show iA ((i:Nat):Int);unfold iA;omega⟩)
theorem aQd {f:Pt→Option Cn} {t:Tx} {h:Int} (h0:(fR f t h).2.1=0):aI t=0:=by
 unfold fR at h0
 split at h0
 ·exact h0
 ·rename_i hc;simpa using hc
theorem pF {l:List En} {t:Tx} {i:Nat} {h:Int} (h0:(iB l t i h).1=0):aI t=0:=by
 unfold iB at h0
 split at h0
 ·split at h0
  ·exact h0
  ·rename_i hc;simpa using hc
 ·exact aQd h0
theorem aQf {t:Tx} (h:aI t=0):∀o∈t.outs,o.s.size≤40:=by
 intro o ho
 unfold aI at h
 split at h
 ·cases h
 ·split at h
  ·cases h
  ·rename_i hl
   simp only [pH,Bool.or_eq_true,not_or,List.any_eq_true,not_exists,not_and] at hl
   have:=hl.1 o ho
   simp only [mS,decide_eq_true_eq] at this
   omega
theorem aNj {t:Tx} (h:aI t=0):t.outs.length≤256:=by
 unfold aI at h
 split at h
 ·cases h
 ·rename_i hc
  simp only [Bool.not_eq_true',Bool.not_eq_false] at hc
  simp only [fC,Bool.and_eq_true,decide_eq_true_eq] at hc
  omega
theorem aVn {l:List En} (hg:CG l) (h:SC l) (t:Tx):SC (gP l t):=by
 unfold gP
 split
 ·exact h
 ·exact aFl _ hg h
theorem aDa {l:List En} (hg:CG l) (h:SC l) (t:Tx) (i:Nat) (b:Int):SC (cW l t i b).1:=by
 unfold cW
 split
 ·exact h
 ·rename_i hm
  split
  ·exact h
  ·have hc:=pF (l:=l) (t:=t) (i:=i) (h:=b) (by simpa using hm)
   exact aPy _ _ (by have:=aNj hc;omega) (zR hg t) (aQf hc) (aVn hg h t)
theorem aPd {l0:List En} {h:Int} (h0:SC l0):∀(txs:List Tx) (i:Nat) {m:List En},CG m→SC m→SC (gF l0 h i txs m).1
 | [],_,_,_,hm=>hm
 |t::ts,i,m,hg,hm=>by
  unfold gF
  split
  ·exact h0
  ·exact aPd h0 ts (i+1) (jV hg t i h) (aDa hg hm t i h)
theorem vA {l:List En} (hg:CG l) (h:SC l) (txs:List Tx) (b:Int):SC (aP l txs b).1:=by
 unfold aP
 split
 ·exact h
 ·exact aPd h txs 0 hg h
theorem jL {l:List En} (hg:CG l) (txs:List Tx) (b:Int):(aP l txs b).1.length≤l.length+cZ txs:=by
 unfold aP
 split
 ·simp
 ·have:=aMm (l0:=l) (h:=b) txs 0 hg (by omega)
  omega
end
section
open Go Go.Proofs.YtgloknkcfchnlaaGreatDoor
def grT (h:Int) (outs:List TOut):Tx:=⟨2, [⟨nS,4294967295, []⟩],outs,h⟩
def o5:List TOut:= [⟨5,⟨#[]⟩⟩]
def gw (h:Nat):Tx:=grT (h:Nat) o5
theorem aWu (h:Nat):(gw h).Sm:=⟨by simp [gw,grT],by simp [gw,grT,o5],by simp [gw,grT]⟩
end
section
open Go Go.Proofs.YtgloknkcfchnlaaGreatDoor
def lU:List En:=(aP [] [gw 3] 3).1
theorem aA1:decide ((aP [] [gw 3] 3).2=(0, -1, -1)∧lU.length=1∧tot lU=5)=true:=by kernel_rfl
theorem aN0:decide ((aP lU [gw 3] 4).2=(4,0, -1))=true:=by kernel_rfl
theorem aYt:(aP [] [gw 3] 3).2=(0, -1, -1):=(of_decide_eq_true aA1).1
theorem aYd:(aP lU [gw 3] 4).2=(4,0, -1):=of_decide_eq_true aN0
theorem aJg:lU.length=1:=(of_decide_eq_true aA1).2.1
theorem aWc:tot lU=5:=(of_decide_eq_true aA1).2.2
theorem yT (l:List En):bA [] l= []:=rfl
theorem yF (l:List En):bA l []=l:=by
 unfold bA
 refine List.filter_eq_self.2 fun e _=>?_
 simp [aT]
end
end Go.K
