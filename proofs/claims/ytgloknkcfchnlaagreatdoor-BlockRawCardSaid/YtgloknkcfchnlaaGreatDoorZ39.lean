/- Contracts: the rules of replacing, by the program. Contracts -/
import Derived.Test.YtgloknkcfchnlaaGreatDoorZ35
import Derived.Test.YtgloknkcfchnlaaGreatDoorZ36
set_option linter.unusedVariables false
set_option linter.unusedSimpArgs false
namespace Go.Proofs.YtgloknkcfchnlaaGreatDoor
section
open Go Go.K
attribute [local irreducible] aD aK aV KOp.wp K.Spec u32 leS vnS str aN cR bI idT aY aI aO
end
section
open Go Go.K
attribute [local irreducible] aD aK aV KOp.wp K.Spec u32 leS vnS str aN cR bI idT aY aI aO fR bM bE
section
variable {f:Pt→Option Cn} {l:List Ent} {t:Tx} {h:Int}
end
end
section
open Go Go.K
attribute [local irreducible] aD aK aV KOp.wp K.Spec u32 leS vnS str aN cR bI idT aY aI aO fR bM bE
end
section
open Go Go.K
attribute [local irreducible] aD aK aV KOp.wp K.Spec u32 leS vnS str aN cR bI idT aY aI aO aYc idL
attribute [local irreducible] eA
end
section
open Go Go.K
section
attribute [local irreducible] aI aO inE dH gT values
end
section
variable {f:Pt→Option Cn} {l:List Ent} {t:Tx} {h rate:Int}
end
end
section
open Go Go.K
attribute [local irreducible] aD aK aV KOp.wp K.Spec u32 leS vnS str aN cR bI idT aY aI aO
end
end Go.Proofs.YtgloknkcfchnlaaGreatDoor
namespace Go.K
section
open Go Go.Proofs.YtgloknkcfchnlaaGreatDoor
section
variable {f:Pt→Option Cn} {l:List Ent} {t:Tx} {h rate:Int}
theorem aWk (hc:aI t=0) (h0:(fR f t h).2.1=0):(∀x∈t.ins,(f x.p).isSome=true)∧gT (t.ins.map (inV f))=0∧(fR f t h).1=dH (t.ins.map (inV f)) - dH (values t):=by
 cases hg:aO t with
 |true=>rw [aBa hc hg] at h0;exact absurd h0 (show ¬(4:Int)=0 by decide)
 |false=>
  by_cases hk:∀j,∀hj:j<t.ins.length,inE f t h t.ins[j]=0
  ·refine ⟨fun x hx=>?_,?_⟩
   ·obtain ⟨j,hj,rfl⟩:=List.getElem_of_mem hx
    have:=hk j hj
    unfold inE at this
    cases hf:f t.ins[j].p with
    |none=>rw [hf] at this;exact absurd this (show ¬(8:Int)=0 by decide)
    |some c=>rfl
   ·rw [aI3 hc hg hk] at h0 ⊢
    by_cases h1:gT (t.ins.map (inV f))=0
    ·rw [if_neg (show ¬gT (t.ins.map (inV f))≠0 from fun q=>q h1)] at h0 ⊢
     by_cases h2:dH (values t)>dH (t.ins.map (inV f))
     ·rw [if_pos h2] at h0;exact absurd h0 (show ¬(12:Int)=0 by decide)
     ·rw [if_neg h2];exact ⟨h1,rfl⟩
    ·rw [if_pos (show gT (t.ins.map (inV f))≠0 from h1)] at h0;exact absurd h0 h1
  ·exfalso
   have:∃i,(t.ins.findIdx? fun x=>decide (inE f t h x≠0))=some i:=by
    cases hq:t.ins.findIdx? fun x=>decide (inE f t h x≠0) with
    |some i=>exact ⟨i,rfl⟩
    |none=>
     refine absurd (fun j hj=>?_) hk
     have:=List.findIdx?_eq_none_iff.1 hq _ (gMe hj)
     simpa using this
   obtain ⟨i,hi⟩:=this
   obtain ⟨h1,h2,h3⟩:=List.findIdx?_eq_some_iff_getElem.1 hi
   have he:inE f t h t.ins[i]≠0:=of_decide_eq_true h2
   rw [aN8 hc hg h1 (fun j hj hjl=>by have:=h3 j hj;simpa using this) he] at h0
   exact he h0
end
theorem aGz:∀{l:List Pt},oK l=false→l.Nodup
 | [],_=>List.nodup_nil
 |p::l,h=>by
  unfold oK at h
  rw [Bool.or_eq_false_iff] at h
  exact List.nodup_cons.2 ⟨fun hm=>(by rw [List.contains_iff_mem.2 hm] at h;exact absurd h.1 (by decide)),aGz h.2⟩
theorem aOf {t:Tx} (h:aI t=0):(bO t).Nodup:=by
 have h1:=(aAy h).2.2.2.1
 unfold qP at h1
 have:=aGz h1
 exact (List.pairwise_reverse.1 this).imp fun h=>Ne.symm h
theorem aGg:∀(l:List Int) (s r:Int),fI s l=some r→r=s+l.sum∧∀a∈l,0≤a
 | [],s,r,h=>by simp [fI] at h;simp [h]
 |a::l,s,r,h=>by
  simp only [fI] at h
  split at h
  ·rename_i hc
   simp only [Bool.and_eq_true] at hc
   obtain ⟨h1,h2⟩:=aGg l _ r h
   refine ⟨by rw [h1,List.sum_cons];omega,fun b hb=>?_⟩
   rcases List.mem_cons.1 hb with rfl|hb
   ·exact ((cA _).1 hc.1).1
   ·exact h2 b hb
  ·cases h
theorem aLu {l:List Int} (h:gT l=0):dH l=l.sum∧∀a∈l,0≤a:=by
 unfold gT at h
 cases hs:fI 0 l with
 |none=>rw [hs] at h;exact absurd h (show ¬(3:Int)=0 by decide)
 |some r=>
  obtain ⟨h1,h2⟩:=aGg l 0 r hs
  exact ⟨by unfold dH;rw [hs];show r=_;omega,h2⟩
end
section
open Go Go.Proofs.YtgloknkcfchnlaaGreatDoor
def aI4 (left:Int) (k:Nat):Int:=if left.tdiv (k:Nat)<0 then 0 else left.tdiv (k:Nat)
theorem aOi {left:Int} {k:Nat} (hk:0<k) (hl: -100000≤left) {C:Int} (hC:left≤C) (h0:0≤C):0≤aI4 left k∧aI4 left k≤C∧ -100000≤left - aI4 left k∧left - aI4 left k≤C:=by
 unfold aI4
 by_cases hn:0≤left
 ·obtain ⟨n,rfl⟩:=Int.eq_ofNat_of_zero_le hn
  have e:((n:Nat):Int).tdiv (k:Nat)=((n / k:Nat):Int):=by
   rw [Int.tdiv_eq_ediv_of_nonneg (by omega)];rfl
  have:=Nat.div_le_self n k
  rw [e]
  generalize n / k=q at this ⊢
  rw [if_neg (by omega)];omega
 ·have e:left.tdiv (k:Nat)≤0:=by
   obtain ⟨n,hn2⟩:=Int.eq_ofNat_of_zero_le (show 0≤ -left by omega)
   have:left= -((n:Nat):Int):=by omega
   rw [this,Int.neg_tdiv,Int.tdiv_eq_ediv_of_nonneg (by omega)]
   have:(0:Int)≤((n:Nat):Int) / ((k:Nat):Int):=Int.ediv_nonneg (by omega) (by omega)
   omega
  split<;>omega
end
section
open Go Go.Proofs.YtgloknkcfchnlaaGreatDoor
theorem aG0 {l:List En} (h:Srt l) {p:Pt} {c:Cn} (hc:aT l p=some c):tot (aX l p)=tot l - c.v:=by
 rw [fG h,aI8 (gL h) hc]
theorem aGl {κ β:Type} [DecidableEq κ] (m:List (κ × β)) (k k':κ):aT (kT m k) k'=if k=k' then none else aT m k':=by
 unfold aT kT
 rw [List.find?_filter]
 by_cases h:k=k'
 ·subst h
  rw [if_pos rfl]
  have:m.find? (fun p=>decide (decide (p.1≠k)=true∧decide (p.1=k)=true))=none:=List.find?_eq_none.2 fun p _=>by simp
  simp [this]
 ·rw [if_neg h]
  congr 2
  funext p
  by_cases h2:p.1=k'
  ·simp [h2,Ne.symm h]
  ·simp [h2]
theorem uC {l:List En} (h:Srt l) {p q:Pt} (hne:q≠p):aT (aX l p) q=aT l q:=by
 rw [fG h,aGl,if_neg (Ne.symm hne)]
theorem aB0:∀(ins:List TIn) {l:List En},CG l→(ins.map (·.p)).Nodup→(∀x∈ins,(aT l x.p).isSome=true)→tot (cI l ins)=tot l - (ins.map (inV (aT l))).sum
 | [],l,_,_,_=>by simp [cI]
 |x::xs,l,hg,hn,hs=>by
  have hn':=List.nodup_cons.1 hn
  obtain ⟨c,hc⟩:=Option.isSome_iff_exists.1 (hs x (by simp))
  have hk:∀y∈xs,aT (aX l x.p) y.p=aT l y.p:=fun y hy=>uC hg.srt fun e=>hn'.1 (List.mem_map.2 ⟨y,hy,e⟩)
  have ih:=aB0 xs (hg.take x.p) hn'.2 fun y hy=>by rw [hk y hy];exact hs y (by simp [hy])
  have e:xs.map (inV (aT (aX l x.p)))=xs.map (inV (aT l)):=List.map_congr_left fun y hy=>by unfold inV;rw [hk y hy]
  show tot (cI (aX l x.p) xs)=_
  rw [ih,e,aG0 hg.srt hc,List.map_cons,List.sum_cons]
  have:inV (aT l) x=c.v:=by unfold inV;rw [hc];rfl
  rw [this];omega
theorem aJv {s:ByteArray} {h:Int}:∀(os:List TOut) (i:Nat) {m:List En},CG m→(fD s h i os m).2=0→tot (fD s h i os m).1=tot m+(os.map (·.v)).sum
 | [],_,_,_,_=>by simp [fD]
 |o::os,i,m,hg,h0=>by
  unfold fD at h0 ⊢
  split at h0
  ·rename_i hc;exact absurd h0 hc
  ·rename_i hc
   have hc:aQ m ⟨s,(i:Nat)⟩ (outC o h)=0:=by simpa using hc
   rw [if_neg (by rw [hc];decide),aJv os (i+1) (hg.put _ _) h0,lK (sT hg.srt hc)]
   simp [outC];omega
theorem aKy {l:List En} {t:Tx} {i:Nat} {h:Int} (h0:(cW l t i h).2.1=0):(iB l t i h).1=0∧(fD (idT t) h 0 t.outs (gP l t)).2=0∧(cW l t i h).1=(fD (idT t) h 0 t.outs (gP l t)).1:=by
 by_cases h1:(iB l t i h).1=0
 ·by_cases h2:(fD (idT t) h 0 t.outs (gP l t)).2=0
  ·refine ⟨h1,h2,?_⟩
   unfold cW
   rw [if_neg (by rw [h1];decide),if_neg (by rw [h2];decide)]
  ·unfold cW at h0
   rw [if_neg (by rw [h1];decide),if_pos h2] at h0
   exact absurd h0 h2
 ·unfold cW at h0
  rw [if_pos h1] at h0
  exact absurd h0 h1
theorem aPj {l:List En} {t:Tx} {i:Nat} {h:Int} (hg:CG l) (h0:(cW l t i h).2.1=0):tot (cW l t i h).1=if aO t then tot l+dH (values t) else tot l - (fR (aT l) t h).1:=by
 obtain ⟨h1,h2,h3⟩:=aKy h0
 have hc:=pF h1
 have hv:=aLu (aBr hc)
 rw [h3,aJv _ _ (zR hg t) h2]
 have hv1:(t.outs.map (·.v)).sum=dH (values t):=hv.1.symm
 rw [hv1]
 by_cases hb:aO t=true
 ·rw [if_pos hb]
  unfold gP
  rw [if_pos hb]
 ·rw [if_neg hb]
  unfold gP
  rw [if_neg hb]
  unfold iB at h1
  rw [if_neg hb] at h1
  obtain ⟨s1,s2,s3⟩:=aWk hc h1
  have hd:(t.ins.map (·.p)).Nodup:=aOf hc
  rw [aB0 _ hg hd s1,s3,(aLu s2).1]
  omega
end
section
open Go Go.Proofs.YtgloknkcfchnlaaGreatDoor
end
section
open Go Go.Proofs.YtgloknkcfchnlaaGreatDoor
def idS (t:Tx):ByteArray:=if aI t=0 then idT t else ⟨#[]⟩
theorem aXf (t:Tx):idV t=.tuple #[.string (idS t),.int .i64 (aI t)]:=by
 unfold idV idS
 split
 ·rename_i h;rw [h]
 ·rfl
section
variable {f:Pt→Option Cn} {l:List Ent} {a b:Tx} {h rate:Int}
end
end
end Go.K
namespace Go.Proofs.YtgloknkcfchnlaaGreatDoor
section
open Go Go.K
attribute [local irreducible] aD aK aV KOp.wp K.Spec u32 leS vnS str aN aI aO bI idT aY
end
section
open Go Go.K
attribute [local irreducible] aD aK aV KOp.wp K.Spec u32 leS vnS str aN aI aO bI idT aY
end
section
open Go Go.K
attribute [local irreducible] aD aK aV KOp.wp K.Spec u32 leS vnS str aN
end
end Go.Proofs.YtgloknkcfchnlaaGreatDoor
namespace Go.K
section
open Go Go.Proofs.YtgloknkcfchnlaaGreatDoor
structure BSm where
 spends:List UInt8
 tag:UInt8
 fee:Int
 outs:Int
 pays:UInt8
 delay:UInt8
 height:UInt8
 grant:Bool
 odd:Bool
instance:Inhabited BSm:=⟨⟨[],0,0,0,0,0,0,false,false⟩⟩
def pV (z:BSm) (fv:Value):List Value:= [fv,u8V z.tag,.int .u16 z.fee,.int .u16 z.outs,u8V z.pays,u8V z.delay,u8V z.height,.bool z.grant,.bool z.odd]
def hG:R BSm where
 k:=9
 pos:=by decide
 ag:=true
 rel:=fun M w cs z=>∃fv,cs=pV z fv∧SlR u8R M w fv z.spends∧(0≤z.fee∧z.fee≤65535)∧0≤z.outs∧z.outs≤65535
 len:=fun ⟨_,h,_⟩=>by rw [h];rfl
 one:=fun ⟨fv,h,hs,_⟩ v hv=>by
  obtain ⟨b,c,rfl⟩:=hs.form
  subst h;simp [pV] at hv;rcases hv with rfl|rfl|rfl|rfl|rfl|rfl|rfl|rfl|rfl<;>rfl
 step:=fun ⟨fv,h,hs,h2⟩ c hL hM=>⟨fv,h,hs.step c hL hM,h2⟩
structure MkOk (t:Tx):Prop where
 ins:t.ins.length≤4
 outs:t.outs.length≤3
 wit:∀x∈t.ins,x.wit.length≤1
 vals:∀o∈t.outs,0≤o.v∧o.v≤8400000000000000
theorem MkOk.sm {t:Tx} (h:MkOk t):t.Sm:=⟨by have:=h.ins;omega,by have:=h.outs;omega,fun x hx=>by have:=h.wit x hx;omega⟩
end
end Go.K
