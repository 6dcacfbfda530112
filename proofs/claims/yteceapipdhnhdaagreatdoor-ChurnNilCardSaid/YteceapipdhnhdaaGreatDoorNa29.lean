/- Contracts: the transaction of an act. Plain: what hangs on w -/
import Derived.KernelRfl
import Derived.Test.YteceapipdhnhdaaGreatDoorNa26
import Derived.Test.YteceapipdhnhdaaGreatDoorNa27
import Derived.Test.YteceapipdhnhdaaGreatDoorNa28
set_option linter.unusedVariables false
set_option linter.unusedSimpArgs false
namespace Go.Proofs.YteceapipdhnhdaaGreatDoor
section
open Go Go.K
attribute [local irreducible] aH aM aY KOp.wp K.Spec u32 leS vnS str aP cM bK idT aQ aG aN idN bG cL cB bQ
theorem txO.off {B b:Nat} {M:List Nat} {w w':World} {ds:List Value} {t:Tx} (h:txO B ([b]++M) w ds t) (hb:b<B) (c:Chg [b] w w'):txO B M w' ds t:=by
 obtain ⟨iv,ov,rfl,o1,o2,o3⟩:=h
 have g1:=o1.base
 have g2:=o2.base
 have n1:b∉aC iv:=fun h=>by have:=g1 _ h;omega
 have n2:b∉aC ov:=fun h=>by have:=g2 _ h;omega
 exact ⟨iv,ov,rfl,o1.step c (by intro q hq;simp at hq;subst hq;exact ⟨n1,.inl (by simp)⟩) (fun _ h=>.inl (List.mem_append_right _ h)),o2.step c (by intro q hq;simp at hq;subst hq;exact ⟨n2,.inl (by simp)⟩) (fun _ h=>.inl (List.mem_append_right _ h)),o3⟩
theorem txO.lower {B B':Nat} {M:List Nat} {w:World} {ds:List Value} {t:Tx} (h:txO B M w ds t) (hb:B'≤B):txO B' M w ds t:=by
 obtain ⟨iv,ov,rfl,o1,o2,o3⟩:=h
 exact ⟨iv,ov,rfl,o1.lower hb,o2.lower hb,o3⟩
theorem txO.ext {B:Nat} {M:List Nat} {w w':World} {ds:List Value} {t:Tx} (h:txO B M w ds t) (c:Ext w w'):txO B M w' ds t:=by
 obtain ⟨iv,ov,rfl,o1,o2,o3⟩:=h
 exact ⟨iv,ov,rfl,o1.ext c,o2.ext c,o3⟩
theorem txO.one {B:Nat} {M:List Nat} {w:World} {ds:List Value} {t:Tx} (h:txO B M w ds t):ds.all (fun v=>v.oneCell')=true:=by
 obtain ⟨iv,ov,rfl,o1,o2,o3⟩:=h
 have e1:=o1.one
 have e2:=o2.one
 simp [aK,e1,e2];exact ⟨rfl,rfl⟩
end
end Go.Proofs.YteceapipdhnhdaaGreatDoor
namespace Go.K
section
open Go
inductive Path (l:List Ent):Nat→Nat→Prop
 |one {i j:Nat}:i<l.length→j<l.length→aJa l i j=true→Path l i j
 |snoc {i k j:Nat}:Path l i k→k<l.length→j<l.length→aJa l k j=true→Path l i j
variable {l:List Ent}
theorem Path.lt {i j:Nat} (h:Path l i j):i<l.length:=by
 induction h with
 |one h _ _=>exact h
 |snoc _ _ _ _ ih=>exact ih
theorem Path.cons {i k j:Nat} (hi:i<l.length) (h:aJa l i k=true) (hp:Path l k j):Path l i j:=by
 induction hp with
 |one h1 h2 h3=>exact (Path.one hi h1 h).snoc h1 h2 h3
 |snoc _ h2 h3 h4 ih=>exact ih.snoc h2 h3 h4
theorem Path.trans {i k j:Nat} (h1:Path l i k) (h2:Path l k j):Path l i j:=by
 induction h2 with
 |one g1 g2 g3=>exact h1.snoc g1 g2 g3
 |snoc _ g2 g3 g4 ih=>exact ih.snoc g2 g3 g4
def aAv (l:List Ent) (id:ByteArray) (j:Nat):Bool:=bG (fun i=>decide ((i:Int)=bQ l id)) (fun k i=>aJa l i k) l.length l.length j
theorem bKw {j:Nat} (hn:(l.map (·.id)).Nodup) (hj:j<l.length):bQ l l[j].id=j:=by
 unfold bQ
 exact idxOf_hit hj (dTr rfl) (fun i hi=>dFa fun e=>by
  have:=kX hn (show i<l.length by omega) hj (by grind [bY])
  omega)
theorem bBa {i j:Nat} (hn:(l.map (·.id)).Nodup) (hi:i<l.length) (hj:j<l.length):aAv l l[j].id i=true↔i=j∨Path l i j:=by
 have hf:=bKw hn hj
 constructor
 ·intro h
  refine aC7 (p:=fun i=>i=j∨Path l i j) (fun k hk h=>.inl ?_) (fun k m hk hm h1 h2=>.inr ?_) _ _ hi h
  ·grind
  ·rcases h1 with rfl|h1
   ·exact .one hm hk h2
   grind [Path.cons]
 ·have h0:aAv l l[j].id j=true:=aPn hj (dTr hf.symm)
  rintro (rfl|h)
  ·exact h0
  ·have:∀{a m:Nat},Path l a m→aAv l l[j].id m=true→aAv l l[j].id a=true:=fun {a m} hp=>by
    induction hp with
    |one g1 g2 g3=>exact fun h=>aAc (k:=_) g1 g2 h g3
    |snoc h1 g2 g3 g4 ih=>exact fun h=>ih (aAc (k:=_) g2 g3 h g4)
   grind
theorem tS:∀{l:List Ent} {m:List Bool} {s:ByteArray},s∈aO l m↔∃i,∃h:i<l.length,m[i]? =some true∧l[i].id=s
 | [],m,s=>by
  grind [aO]
 |x::l, [],s=>by
  have:aO (x::l) []= []:=rfl
  simp [*]
 |x::l,b::m,s=>by
  have e:aO (x::l) (b::m)=if b then x.id::aO l m else aO l m:=rfl
  rw [e]
  constructor
  ·intro h
   by_cases hb:b=true
   ·rw [if_pos hb] at h
    rcases List.mem_cons.1 h with h|h
    ·exact ⟨0,by simp,by simp [hb],by simp [h]⟩
    ·obtain ⟨i,hi,h1,h2⟩:=tS.1 h
     exact ⟨i+1,by simp;omega,by simpa using h1,by simpa using h2⟩
   ·rw [if_neg hb] at h
    obtain ⟨i,hi,h1,h2⟩:=tS.1 h
    exact ⟨i+1,by simp;omega,by simpa using h1,by simpa using h2⟩
  ·rintro ⟨i,hi,h1,h2⟩
   cases i with
   |zero=>
    simp_all
   |succ i=>
    have h3:s∈aO l m:=tS.2 ⟨i,by simpa using hi,by simpa using h1,by simpa using h2⟩
    split
    ·exact List.mem_cons_of_mem _ h3
    ·exact h3
theorem aSs {p:Nat→Bool} {j:Nat} (hn:(l.map (·.id)).Nodup) (hj:j<l.length):l[j].id∈aO l ((List.range l.length).map p)↔p j=true:=by
 rw [tS]
 constructor
 ·grind [kX,bY]
 grind
def inS (ids:List ByteArray) (s:ByteArray):Bool:=ids.any fun x=>decide (s=x)
theorem aNi {ids:List ByteArray} {s:ByteArray}:inS ids s=true↔s∈ids:=by
 unfold inS
 simp
theorem aR4 {i:Nat} (hn:(l.map (·.id)).Nodup) (hi:i<l.length):inS (aO l (bV l l[i].id)) l[i].id=true:=by
 have h2:l[i].id∈aO l (bV l l[i].id)↔aAv l l[i].id i=true:=aSs hn hi
 rw [aNi,h2,bBa hn hi hi]
 omega
end
section
open Go
end
section
open Go
def cD (f s:Int):Bool:=bT f&&decide (1≤s∧s≤1000000)
def aDk (f s o i:Int):Int:=if cD f s&&cD o i then (if f*i<o*s then -1 else if o*s<f*i then 1 else 0) else 0
def yN (f s:Int):Int:=if cD f s then f*1000 / s else 0
def eT (l:List Ent) (x:Ent):Int × Int:=
 if aDk (lI l (bV l x.id)) (aUq l (bV l x.id)) x.fee x.size>0 then (lI l (bV l x.id),aUq l (bV l x.id)) else (x.fee,x.size)
def eE (l:List Ent):Nat→Int
 |0=> -1
 |i+1=>if eE l i<0∨aDk (eT l (dM l i)).1 (eT l (dM l i)).2 (eT l (dM l (eE l i).toNat)).1 (eT l (dM l (eE l i).toNat)).2≤0 then i else eE l i
theorem aD9 (l:List Ent):∀i, -1≤eE l i∧eE l i<i∧(0<i→0≤eE l i)
 |0=>⟨by rw [eE];omega,by rw [eE];omega,by omega⟩
 |i+1=>by
  have ih:=aD9 l i
  grind [eE]
def jA (l:List Ent):Int:=(l.map (·.size)).sum
def fA:List Ent→List Bool→List Ent
 |x::l,b::m=>if b then fA l m else x::fA l m
 |l,_=>l
theorem qC:∀(l:List Ent) (m:List Bool),(fA l m).Sublist l
 | [], []=>List.Sublist.slnil
 | [],_::_=>List.Sublist.slnil
 |_::_, []=>List.Sublist.refl _
 |x::l,b::m=>by
  rw [fA]
  cases b
  ·exact (qC l m).cons_cons _
  ·exact (qC l m).cons _
theorem yY:∀(l:List Ent) (m:List Bool),(fA l m).length+(aO l m).length=l.length
 | [], []=>rfl
 | [],_::_=>rfl
 |_::_, []=>rfl
 |x::l,b::m=>by
  have:=yY l m
  rw [fA,aO,List.length_cons]
  grind
theorem aJl:∀(l:List Ent) (m:List Bool) {x:Ent},(l.map (·.id)).Nodup→x∈fA l m→x.id∉aO l m
 | [],m,_,_,h=>by cases m<;>cases h
 |_::_, [],_,_,_=>by simp [aO]
 |y::l,b::m,x,hn,h=>by
  rw [List.map_cons,List.nodup_cons] at hn
  rw [fA] at h
  rw [aO]
  cases b
  ·simp only [Bool.false_eq_true,if_false] at h ⊢
   rcases List.mem_cons.1 h with rfl|h
   ·grind [jG]
   ·exact aJl l m hn.2 h
  ·simp only [if_true] at h ⊢
   intro e
   rcases List.mem_cons.1 e with e|e
   ·exact hn.1 (by rw [←e];exact List.mem_map_of_mem ((qC l m).subset h))
   ·exact aJl l m hn.2 h e
theorem aRe {x:Ent} {l:List Ent}:bQ (x::l) x.id=0:=by
 unfold bQ
 exact idxOf_hit (i:=0) (by simp) (dTr rfl) (fun j hj=>by omega)
theorem aRr {x:Ent} {l:List Ent} {s:ByteArray} (h:x.id≠s):bQ (x::l) s=if bQ l s<0 then -1 else bQ l s+1:=by
 unfold bQ idxOf
 grind
theorem aRq {x:Ent} {l:List Ent}:(cF (x::l) x.id).1=l:=by
 unfold cF
 rw [aRe,if_neg (by omega)];rfl
theorem aQw {x:Ent} {l:List Ent} {s:ByteArray} (h:x.id≠s):(cF (x::l) s).1=x::(cF l s).1:=by
 unfold cF
 rw [aRr h]
 by_cases h1:bQ l s<0
 ·rw [if_pos h1,if_pos h1,if_pos (by omega)]
 ·rw [if_neg h1,if_neg h1,if_neg (by omega)]
  have:(bQ l s+1).toNat=(bQ l s).toNat+1:=by omega
  simp [*]
def bN (l:List Ent) (ids:List ByteArray):List Ent:=ids.foldl (fun l s=>(cF l s).1) l
theorem rZ {l:List Ent} {ids:List ByteArray} {i:Nat} (h:i<ids.length):bN l (ids.take (i+1))=(cF (bN l (ids.take i)) ids[i]).1:=by
 grind [bN,List.take_succ_eq_append_getElem]
theorem aHv:∀(ids:List ByteArray) {x:Ent} {l:List Ent},x.id∉ids→bN (x::l) ids=x::bN l ids
 | [],_,_,_=>rfl
 |s::ids,x,l,h=>by
  simp only [List.mem_cons,not_or] at h
  show bN (cF (x::l) s).1 ids=x::bN (cF l s).1 ids
  rw [aQw h.1,aHv ids h.2]
theorem zT:∀(l:List Ent) (m:List Bool),(l.map (·.id)).Nodup→bN l (aO l m)=fA l m
 | [], [],_=>rfl
 | [],_::_,_=>rfl
 |_::_, [],_=>rfl
 |x::l,b::m,hn=>by
  rw [List.map_cons,List.nodup_cons] at hn
  have ih:=zT l m hn.2
  rw [aO,fA]
  cases b
  ·simp only [Bool.false_eq_true,if_false]
   grind [aHv,jG]
  ·simp only [if_true]
   grind [bN,aRq]
def iA (l:List Ent):Ent:=dM l (eE l l.length).toNat
def mG (l:List Ent):List Bool:=bV l (iA l).id
def bD7 (p:Int × Int):Int:=min (yN p.1 p.2+1000) 100000000
theorem aId (f s:Int):0≤yN f s:=by
 unfold yN cD
 split
 ·rename_i h
  rw [Bool.and_eq_true,bR,decide_eq_true_eq] at h
  exact Int.ediv_nonneg (by omega) (by omega)
 ·omega
theorem bKx (p:Int × Int):1≤bD7 p∧bD7 p≤100000000:=by
 have:=aId p.1 p.2
 unfold bD7;omega
theorem bAn {l:List Ent} (h:0<l.length):(eE l l.length).toNat<l.length:=by
 have:=aD9 l l.length
 omega
theorem bHn {l:List Ent} (h:0<l.length):iA l∈l:=by
 grind [iA,bY,bAn]
theorem bK1 {l:List Ent} (hn:(l.map (·.id)).Nodup) (h:0<l.length):(iA l).id∈aO l (mG l):=by
 grind [mG,iA,bY,bAn,aNi,aR4]
theorem aD2 {l:List Ent} (hn:(l.map (·.id)).Nodup) (h:0<l.length):(fA l (mG l)).length<l.length:=by
 grind [yY,bK1]
def trimF:Nat→Int→List Ent→List Ent × List ByteArray × Int
 |0,_,l=>(l, [],0)
 |k+1,m,l=>if l.length=0∨jA l≤m then (l, [],0) else
  ((trimF k m (fA l (mG l))).1,aO l (mG l)++(trimF k m (fA l (mG l))).2.1,max (bD7 (eT l (iA l))) (trimF k m (fA l (mG l))).2.2)
def bU (m:Int) (l:List Ent):List Ent × List ByteArray × Int:=trimF l.length m l
theorem aGm {l:List Ent} (hn:(l.map (·.id)).Nodup) (m:List Bool):((fA l m).map (·.id)).Nodup:=((qC l m).map _).nodup hn
theorem bDd (m:Int):∀(k:Nat) (l:List Ent),(l.map (·.id)).Nodup→l.length≤k→trimF k m l=bU m l:=by
 intro k
 induction k using Nat.strongRecOn with
 |_ k ih=>
  intro l hn hk
  unfold bU
  cases h:l.length with
  |zero=>
   cases k with
   |zero=>rfl
   |succ k=>rw [trimF,trimF,if_pos (.inl h)]
  |succ j=>
   cases k with
   |zero=>omega
   |succ k=>
    grind [trimF,aD2,aGm]
theorem pR {m:Int} {l:List Ent} (h:l.length=0∨jA l≤m):bU m l=(l, [],0):=by
 unfold bU
 cases e:l.length with
 |zero=>rfl
 |succ j=>rw [trimF,if_pos h]
theorem aAf {m:Int} {l:List Ent} (hn:(l.map (·.id)).Nodup) (h:¬(l.length=0∨jA l≤m)):
  bU m l=((bU m (fA l (mG l))).1,aO l (mG l)++(bU m (fA l (mG l))).2.1,max (bD7 (eT l (iA l))) (bU m (fA l (mG l))).2.2):=by
 have h1:=aD2 hn (by omega)
 have h3:bU m l=trimF l.length m l:=rfl
 rw [h3]
 cases e:l.length with
 |zero=>omega
 |succ j=>
  rw [trimF,if_neg h,bDd m j _ (aGm hn _) (by omega)]
theorem aPg {P:List Ent→Prop} (m:Int) (stop:∀l,l.length=0∨jA l≤m→P l) (step:∀l,(l.map (·.id)).Nodup→¬(l.length=0∨jA l≤m)→P (fA l (mG l))→P l) (l:List Ent) (hn:(l.map (·.id)).Nodup):P l:=by
 generalize e:l.length=n
 induction n using Nat.strongRecOn generalizing l with
 |_ n ih=>
  by_cases h:l.length=0∨jA l≤m
  ·grind
  ·exact step l hn h (ih _ (by grind [aD2]) _ (aGm hn _) rfl)
theorem bGc {m:Int} {l:List Ent} (hn:(l.map (·.id)).Nodup):0≤(bU m l).2.2∧(bU m l).2.2≤100000000:=by
 refine aPg (P:=fun l=>0≤(bU m l).2.2∧(bU m l).2.2≤100000000) m (fun l h=>?_) (fun l hn h ih=>?_) l hn
 ·rw [pR h];simp
 ·rw [aAf hn h]
  have:=bKx (eT l (iA l))
  grind
theorem bKu {m:Int} {l:List Ent} (hn:(l.map (·.id)).Nodup):(bU m l).1.Sublist l:=by
 refine aPg (P:=fun l=>(bU m l).1.Sublist l) m (fun l h=>?_) (fun l hn h ih=>?_) l hn
 ·grind [pR]
 ·rw [aAf hn h]
  exact ih.trans (qC _ _)
end
section
open Go Go.Proofs.YteceapipdhnhdaaGreatDoor
theorem aTm {l:List Ent} (h:(l.map (·.id)).Nodup) (m:List Bool):kZ l (aO l m)=lI l m:=by
 grind [kZ,aO8,jG,aJ0]
def wY (l:List Ent) (id:ByteArray):Int × Int:=if iM l id=true then eT l (dI l id) else (0,0)
theorem aWb {l:List Ent} {id:ByteArray} (h:iM l id=true):dI l id∈l∧(dI l id).id=id:=by
 unfold iM at h
 rw [←aH9,Option.isSome_iff_exists] at h
 grind
theorem get_mem {l:List Ent} (hn:(l.map (·.id)).Nodup) {x:Ent} (hx:x∈l):iM l x.id=true∧dI l x.id=x:=by
 obtain ⟨i,hi,rfl⟩:=List.getElem_of_mem hx
 have h:=aGu hn hi
 grind
theorem aPt {l:List Ent} (hn:(l.map (·.id)).Nodup) {x:Ent} (hx:x∈l):wY l x.id=eT l x:=by
 obtain ⟨h1,h2⟩:=get_mem hn hx
 unfold wY
 simp [*]
theorem aPf {l:List Ent} (hn:(l.map (·.id)).Nodup) {id:ByteArray} (h:iM l id=true):
  wY l id=if aDk (kZ l (aO l (bV l id))) (fL l (aO l (bV l id))) (dI l id).fee (dI l id).size>0 then (kZ l (aO l (bV l id)),fL l (aO l (bV l id))) else ((dI l id).fee,(dI l id).size):=by
 unfold wY
 rw [if_pos h]
 unfold eT
 rw [(aWb h).2,aTm hn,bFk hn]
def wS (l:List Ent) (i:Nat):ByteArray:=if i=0 then ⟨#[]⟩ else (dM l (eE l i).toNat).id
def wP (l:List Ent) (i:Nat):Int × Int:=if i=0 then (0,0) else eT l (dM l (eE l i).toNat)
theorem bOp {l:List Ent} (hid:∀x∈l,x.id.size=32) {i:Nat} (h0:0<i) (hi:i≤l.length):wS l i≠⟨#[]⟩:=by
 have h1:=aD9 l i
 have h2:=h1.2.2 h0
 unfold wS
 rw [if_neg (by omega),bY (by omega)]
 intro e
 have:=hid _ (gMe (show (eE l i).toNat<l.length by omega))
 rw [e] at this
 exact absurd this (by decide)
theorem bI0 {l:List Ent} (hid:∀x∈l,x.id.size=32) {i:Nat} (hi:i<l.length) (h:wS l i=⟨#[]⟩∨aDk (eT l l[i]).1 (eT l l[i]).2 (wP l i).1 (wP l i).2≤0):
  eE l (i+1)=(i:Nat)∧wS l (i+1)=l[i].id∧wP l (i+1)=eT l l[i]:=by
 have e:eE l (i+1)=(i:Nat):=by
  rw [eE]
  by_cases h0:i=0
  ·subst h0;rfl
  ·rcases h with h|h
   ·grind [bOp]
   ·unfold wP at h
    rw [if_neg h0] at h
    rw [if_pos (.inr (by grind [bY]))]
 refine ⟨e,?_,?_⟩
 ·unfold wS
  rw [if_neg (by omega),e,Int.toNat_natCast,bY hi]
 ·unfold wP
  rw [if_neg (by omega),e,Int.toNat_natCast,bY hi]
theorem bQs {l:List Ent} {i:Nat} (hi:i<l.length) (h:wS l i≠⟨#[]⟩) (hc:¬aDk (eT l l[i]).1 (eT l l[i]).2 (wP l i).1 (wP l i).2≤0):
  eE l (i+1)=eE l i∧wS l (i+1)=wS l i∧wP l (i+1)=wP l i:=by
 have h0:i≠0:=fun e=>h (by unfold wS;simp [*])
 have h1:=(aD9 l i).2.2 (by omega)
 have e:eE l (i+1)=eE l i:=by
  rw [eE,if_neg]
  unfold wP at hc
  rw [if_neg h0] at hc
  rw [bY hi]
  rintro (h2|h2)
  ·omega
  ·omega
 refine ⟨e,?_,?_⟩
 ·unfold wS
  simp [*]
 ·unfold wP
  simp [*]
theorem bC0 {l:List Ent} {i:Nat} (h:i<l.length):jA (l.take (i+1))=jA (l.take i)+l[i].size:=by
 unfold jA
 rw [List.take_succ_eq_append_getElem h,List.map_append,List.sum_append_int]
 simp
theorem aK3 {c:Nat}:∀{l:List Ent},(∀x∈l,0≤x.size∧x.size≤c)→0≤jA l∧jA l≤c*l.length
 | [],_=>by simp [jA]
 |x::l,h=>by
  have h1:=aK3 fun y hy=>h y (List.mem_cons_of_mem _ hy)
  have h2:=h x (by simp)
  unfold jA at*
  rw [List.map_cons,List.sum_cons,List.length_cons,Int.natCast_add,Int.mul_add]
  omega
theorem qJ {l:List Ent} {ids:List ByteArray}:(bN l ids).length≤l.length:=by
 unfold bN
 induction ids generalizing l with
 |nil=>simp
 |cons s ids ih=>
  rw [List.foldl_cons]
  refine nTr ih ?_
  unfold cF
  grind
theorem aVh {m:Int} {l:List Ent} (hn:(l.map (·.id)).Nodup):(bU m l).2.1.length+(bU m l).1.length=l.length:=by
 refine aPg (P:=fun l=>(bU m l).2.1.length+(bU m l).1.length=l.length) m (fun l h=>?_) (fun l hn h ih=>?_) l hn
 ·rw [pR h];simp
 grind [aAf,yY]
theorem Tx.Sz.sizeM {t:Tx} (h:t.Sz):1≤aQ t∧aQ t≤1000000:=by
 have a1:=h.e3 false
 have a2:=h.e3 true
 have a3:=h.witC t.ins.length
 rw [List.take_length] at a3
 have e1:(bK false t).size=(enc3 false t).size+4:=by
  unfold bK enc4
  simp only [Bool.false_eq_true,if_false,ByteArray.size_append,cN]
  have h0:(⟨#[]⟩:ByteArray).size=0:=rfl
  omega
 have e2:(bK true t).size=(enc3 true t).size+(dV lP t.ins).size+4:=by
  unfold bK enc4
  simp only [if_true,ByteArray.size_append,cN]
 grind [aQ,aAx,aPs]
end
section
open Go
def aF6 (a b:Nat):Int:=if a<b then -1 else if b<a then 1 else 0
theorem bL6 {a b:Nat} (h:a<b):aF6 a b= -1:=if_pos h
theorem bM5 {a b:Nat} (h:b<a):aF6 a b=1:=by unfold aF6;omega
def orU (a b:Int):Int:=if a=0 then b else a
theorem bJ5 {a b:Nat}:orU (aF6 (a / 18446744073709551616) (b / 18446744073709551616)) (aF6 (a%18446744073709551616) (b%18446744073709551616))=aF6 a b:=by
 grind [orU,aF6]
theorem aLz {f s:Int}:cD f s=true↔(0≤f∧f≤2100000000000000)∧1≤s∧s≤1000000:=by
 unfold cD
 rw [Bool.and_eq_true,bR,decide_eq_true_eq]
theorem qR {f s:Int} (h:cD f s=true):∃F S:Nat,f=(F:Nat)∧s=(S:Nat)∧F≤2100000000000000∧1≤S∧S≤1000000:=by
 rw [aLz] at h
 exact ⟨f.toNat,s.toNat,by omega,by omega,by omega,by omega,by omega⟩
theorem bJh {F S O I:Nat} (h1:cD (F:Nat) (S:Nat)=true) (h2:cD (O:Nat) (I:Nat)=true):aDk (F:Nat) (S:Nat) (O:Nat) (I:Nat)=aF6 (F*I) (O*S):=by
 unfold aDk aF6
 grind
theorem bE3 {f s o i:Int} (h:cD f s=false∨cD o i=false):aDk f s o i=0:=by
 unfold aDk
 grind
end
section
open Go Go.Proofs.YteceapipdhnhdaaGreatDoor
def gW (t:Tx) (x:Ent):Bool:=x.tx.ins.any fun a=>t.ins.any fun b=>decide (a.p=b.p)
def bP (l:List Ent) (t:Tx):List Bool:=l.map (gW t)
def orB (a b:List Bool):List Bool:=List.zipWith (·||·) a b
def evI (l:List Ent) (t:Tx):Nat→List Bool
 |0=>List.replicate l.length false
 |i+1=>if gW t (dM l i)=true then orB (evI l t i) (bV l (dM l i).id) else evI l t i
def evL (l:List Ent) (t:Tx):List Bool:=evI l t l.length
def bLt (t:Tx):Bool:=t.ins.any fun x=>decide (x.q<4294967294)
def uE (l:List Ent) (x:Ent):Bool:=bLt x.tx||(aO l (dC l x.tx)).any fun s=>bLt (dI l s).tx
def nH (l:List Ent) (t:Tx):Bool:=t.ins.any fun b=>fH l b.p&&(inB (aO l (evL l t)) b.p.s||!inB (aO l (bP l t)) (aEn l b.p))
def mT (l:List Ent) (S n:Int) (ids:List ByteArray):Int:=ids.foldl (fun a s=>max a ((dI l s).fee*S / (dI l s).size+1)) n
def xN (l:List Ent) (t:Tx):Int:=lI l (evL l t)
def iI (l:List Ent) (t:Tx):Int:=mT l (aQ t:Nat) (xN l t+(aQ t:Nat)) (aO l (bP l t))
def aIb (l:List Ent) (t:Tx) (fee:Int):Bool:=l.all (fun x=>!gW t x||decide (aDk fee (aQ t:Nat) x.fee x.size>0))&&(!l.any (gW t)||decide (xN l t+(aQ t:Nat)≤fee))
def fB (l:List Ent) (t:Tx) (fee:Int):Int:=
 if aG t≠0 then aG t
 else if bT fee=false then 3
 else if l.any (fun x=>gW t x&&!uE l x)=true then 15
 else if l.any (gW t)=false then 0
 else if (aO l (evL l t)).length>100 then 15
 else if nH l t=true then 15
 else if aIb l t fee=true then 0 else 11
theorem aKl {l:List Ent} {t:Tx}:l.length=(bP l t).length:=by simp [bP]
theorem bM7 {a b:List Bool} (h:a.length=b.length):(orB a b).length=a.length:=by simp [orB,h]
theorem aIn {l:List Ent} {t:Tx}:∀i,(evI l t i).length=l.length
 |0=>by simp [evI]
 |i+1=>by
  rw [evI]
  split
  ·rw [bM7 (by rw [aIn i];exact aNq _ _),aIn i]
  ·exact aIn i
theorem aAw {l:List Ent} {t:Tx}:l.length=(evL l t).length:=(aIn _).symm
theorem bNe {a b:List Bool} {k:Nat} (h:a.length=b.length):(orB a b)[k]? =some true↔a[k]? =some true∨b[k]? =some true:=by
 grind [orB]
theorem bHe {l:List Ent} {s:ByteArray} {k:Nat} (hk:k<l.length):(bV l s)[k]? =some true↔aAv l s k=true:=by
 grind [bV,aAv,tJ]
theorem aNc {l:List Ent} {t:Tx} {k:Nat} (hk:k<l.length):∀{i:Nat},i≤l.length→((evI l t i)[k]? =some true↔∃j,∃h:j<l.length,j<i∧gW t l[j]=true∧aAv l l[j].id k=true)
 |0,_=>by
  grind [evI]
 |i+1,hi=>by
  have ih:=aNc (t:=t) hk (show i≤l.length by omega)
  have hil:i<l.length:=by omega
  rw [evI,bY hil]
  by_cases h:gW t l[i]=true
  ·rw [if_pos h,bNe (by grind [aIn,aNq]),ih,bHe hk]
   grind
  grind
section
variable {l:List Ent} {t:Tx}
theorem rF {s:ByteArray}:s∈aO l (bP l t)↔∃x∈l,gW t x=true∧x.id=s:=by
 rw [tS]
 constructor
 ·grind [bP]
 ·rintro ⟨x,hx,h1,h2⟩
  obtain ⟨i,hi,rfl⟩:=List.getElem_of_mem hx
  grind [bP]
theorem aEb (hn:(l.map (·.id)).Nodup) {s:ByteArray} {k:Nat} (hk:k<l.length):l[k].id∈aO l (bV l s)↔aAv l s k=true:=aSs hn hk
theorem bQt (hn:(l.map (·.id)).Nodup) {s:ByteArray}:s∈aO l (evL l t)↔∃x∈l,gW t x=true∧s∈aO l (bV l x.id):=by
 rw [tS]
 constructor
 ·rintro ⟨k,hk,h1,rfl⟩
  obtain ⟨j,h2,_,h3,h4⟩:=(aNc hk (Nat.le_refl _)).1 h1
  grind [aEb]
 ·rintro ⟨x,hx,h1,h2⟩
  obtain ⟨j,hj,rfl⟩:=List.getElem_of_mem hx
  obtain ⟨k,hk,_,rfl⟩:=tS.1 h2
  exact ⟨k,hk,(aNc hk (Nat.le_refl _)).2 ⟨j,hj,hj,h1,(aEb hn hk).1 h2⟩,rfl⟩
theorem bNm (hn:(l.map (·.id)).Nodup) {x:Ent} (hx:x∈l) (h:gW t x=true):x.id∈aO l (evL l t):=by
 obtain ⟨i,hi,rfl⟩:=List.getElem_of_mem hx
 grind [bQt,aNi,aR4]
theorem bIg (h:l.any (gW t)=false):aO l (bP l t)= []:=by
 rw [List.any_eq_false] at h
 refine bLp fun b hb=>?_
 unfold bP at hb
 grind
theorem aD1:(aO l (bP l t)).length=0↔l.any (gW t)=false:=by
 constructor
 ·intro h
  rw [List.any_eq_false]
  intro x hx hh
  have:=rF.2 ⟨x,hx,hh,rfl⟩
  simp_all
 grind [bIg]
end
theorem aVi {l:List Ent} {S:Int}:∀{ids:List ByteArray} {n m:Int},mT l S n ids≤m↔n≤m∧∀s∈ids,(dI l s).fee*S / (dI l s).size+1≤m
 | [],n,m=>by simp [mT]
 |s::ids,n,m=>by
  have ih:=aVi (l:=l) (S:=S) (ids:=ids) (n:=max n ((dI l s).fee*S / (dI l s).size+1)) (m:=m)
  unfold mT at ih ⊢
  rw [List.foldl_cons,ih]
  simp only [List.mem_cons,forall_eq_or_imp]
  grind
theorem bIc {l:List Ent} {S n:Int} {ids:List ByteArray} {i:Nat} (h:i<ids.length):mT l S n (ids.take (i+1))=max (mT l S n (ids.take i)) ((dI l ids[i]).fee*S / (dI l ids[i]).size+1):=by
 grind [mT,List.take_succ_eq_append_getElem]
theorem bGo {l:List Ent} {S n:Int} {ids:List ByteArray}:n≤mT l S n ids:=(aVi.1 (Int.le_refl _)).1
theorem aYg {f s o i:Int} (h1:cD f s=true) (h2:cD o i=true):aDk f s o i>0↔o*s / i+1≤f:=by
 have h2':=h2
 unfold cD at h2'
 rw [Bool.and_eq_true,bR,decide_eq_true_eq] at h2'
 unfold aDk
 rw [h1,h2,Bool.and_self,if_pos rfl]
 have e:o*s / i+1≤f↔o*s<f*i:=by
  rw [←Int.ediv_lt_iff_lt_mul (by omega)];omega
 omega
end
end Go.K
namespace Go.Proofs.YteceapipdhnhdaaGreatDoor
section
open Go Go.K
attribute [local irreducible] aH aM aY KOp.wp K.Spec u32 leS vnS str aP cM bK idT aQ aG aN idN bG cL cB bQ
end
section
open Go Go.K
attribute [local irreducible] aH aM aY KOp.wp K.Spec u32 leS vnS str aP cM bK idT aQ aG aN idN bG cL cB bQ
theorem SlR.one1 {α:Type} {E:R α} {M:List Nat} {w:World} {b:Nat} {t:TypeId} {cs:List Value} {a:α} (h:At w b (.cells cs.toArray t (0,0))) (hr:E.rel M w cs a) (hb:b∉M):SlR E M w (.slice (some ⟨b,0,none⟩) 1 1) [a]:=
 ⟨[R.vec hr],SlE.new (E:=jM E.k E.pos) (l:= [R.vec hr]) (t:=t) (by have e:(jM E.k E.pos).flat [R.vec hr]=cs:=(by show cs++ []=cs;exact List.append_nil _);rw [e];exact h) rfl (Nat.le_refl _),.cons hr .nil,fun _ c hc hm=>by simp [aC] at hc;subst hc;exact hb hm⟩
end
section
open Go Go.K
attribute [local irreducible] aH aM aY KOp.wp K.Spec u32 leS vnS str aP cM bK idT aQ aG aN idN bG cL cB bQ cF fM
section
variable {P:Program} {d:Option Tmp} {r:KR} {K:Env→World→Prop} {ρ:Env} {w:World}
theorem bLs {α:Type} {E:R α} {M:List Nat} {size:Nat} {x h:Operand} {v:Value} {l:List α} {kd:IntKind} {n:Nat} {m:Int} {w1:World} (hx:ev ρ x=v) (hh:ev ρ h=.int kd m) (hm:m=(n:Nat)) (hs:SlR E M w1 v l) (hn:n≤l.length) (hk:size=E.k)
  (k:∀v',SlR E M w1 v' (l.take n)→aH P r K (put ρ d v') w):aH P (.cons ⟨d,.sliceSl size x none (some h),none⟩ r) K ρ w:=by
 subst hm
 obtain ⟨css,h1,h2,h3⟩:=hs
 have hl:=h2.length
 refine bIr (E:=jM E.k E.pos) hx hh h1 (by rw [hl];exact hn) hk fun v' h4 h5=>k v' ⟨css.take n,h4,?_,fun hp b hb=>h3 (by rw [List.length_take] at hp;omega) b (h5 b hb)⟩
 have:=h2.take n
 exact All2.take n h2
end
end
section
open Go Go.K
attribute [local irreducible] aH aM aY KOp.wp K.Spec u32 leS vnS str aP cM bK idT aQ aG aN idN bG cL cB bQ cF fM spends
end
end Go.Proofs.YteceapipdhnhdaaGreatDoor
namespace Go.K
section
open Go Go.Proofs.YteceapipdhnhdaaGreatDoor
section
variable {l:List Ent} {t:Tx}
abbrev bCx (l:List Ent):Prop:=∀x∈l,cD x.fee x.size=true
theorem bA3 (hn:(l.map (·.id)).Nodup) (hp:bCx l) (hh:l.any (gW t)=true) {f:Int} (hf:cD f (aQ t:Nat)=true):aIb l t f=true↔iI l t≤f:=by
 unfold aIb iI
 rw [aVi,hh,Bool.and_eq_true,List.all_eq_true]
 simp only [Bool.not_true,Bool.false_or,decide_eq_true_eq,Bool.or_eq_true,Bool.not_eq_true']
 constructor
 ·rintro ⟨h1,h2⟩
  refine ⟨h2,fun s hs=>?_⟩
  obtain ⟨x,hx,h3,rfl⟩:=rF.1 hs
  grind [get_mem,aYg]
 ·rintro ⟨h1,h2⟩
  refine ⟨fun x hx=>?_,h1⟩
  by_cases h3:gW t x=true
  ·have:=h2 x.id (rF.2 ⟨x,hx,h3,rfl⟩)
   rw [(get_mem hn hx).2] at this
   exact .inr ((aYg hf (hp x hx)).2 this)
  simp [*]
theorem bIy {c:Nat} {l:List Ent} (hl:∀x∈l,0≤x.fee∧x.fee≤c) (m:List Bool):0≤lI l m∧lI l m≤c*l.length:=by
 induction l generalizing m with
 |nil=>simp [lI]
 |cons x l ih=>cases m with
  |nil=>simp only [lI];grind
  |cons b m=>
   have h1:=ih (fun y hy=>hl y (List.mem_cons_of_mem _ hy)) m
   have h2:=hl x (by simp)
   simp only [lI,List.length_cons,Int.natCast_add,Int.mul_add]
   omega
theorem aOy {c:Nat} (hf:∀x∈l,0≤x.fee∧x.fee≤c):0≤xN l t∧xN l t≤c*l.length:=bIy hf _
theorem bH5 (hg:0≤xN l t) (hs:1≤aQ t):1≤iI l t:=by
 have h:=bGo (l:=l) (S:=(aQ t:Nat)) (n:=xN l t+(aQ t:Nat)) (ids:=aO l (bP l t))
 grind [iI]
theorem bDn (hn:(l.map (·.id)).Nodup) (hp:bCx l) (hh:l.any (gW t)=true) {f need:Int} (hf:cD f (aQ t:Nat)=true) (hneed:need=if bT (iI l t)=true then iI l t else 2100000000000001) (h0:0≤iI l t):
  (if f<need then (11:Int) else 0)=if aIb l t f=true then 0 else 11:=by
 have h1:=bA3 hn hp hh hf
 have h2:=(aLz.1 hf).1
 by_cases h3:iI l t≤f
 ·rw [if_pos (h1.2 h3),if_neg]
  rw [hneed,if_pos ((bR _).2 (by omega))];omega
 grind
theorem bNc:(aO l (bP l t)).any (fun s=>!uE l (dI l s))=l.any fun x=>gW t x&&!uE l (dI l x.id):=by
 rw [Bool.eq_iff_iff,List.any_eq_true,List.any_eq_true]
 constructor
 ·rintro ⟨s,hs,h⟩
  obtain ⟨x,hx,h3,rfl⟩:=rF.1 hs
  grind
 ·rintro ⟨x,hx,h⟩
  rw [Bool.and_eq_true] at h
  exact ⟨x.id,rF.2 ⟨x,hx,h.1,rfl⟩,h.2⟩
theorem aX2 (hn:(l.map (·.id)).Nodup):(aO l (bP l t)).any (fun s=>!uE l (dI l s))=l.any fun x=>gW t x&&!uE l x:=by
 rw [bNc,Bool.eq_iff_iff,List.any_eq_true,List.any_eq_true]
 constructor<;>rintro ⟨x,hx,h⟩<;>exact ⟨x,hx,by rw [(get_mem hn hx).2] at*;exact h⟩
end
end
section
open Go Go.Proofs.YteceapipdhnhdaaGreatDoor
def bS (s:ByteArray) (i:Nat):Nat:=(s.data.toList.getD i 0).toNat
theorem bGm (s:ByteArray) (i:Nat):bS s i<256:=(s.data.toList.getD i 0).toNat_lt
def cA (s:ByteArray) (a:Nat):Nat→Nat
 |0=>0
 |k+1=>bS s a+256*cA s (a+1) k
theorem gR (s:ByteArray):∀(k a:Nat),cA s a k<256^k
 |0,a=>by simp [cA]
 |k+1,a=>by
  have h1:=bGm s a
  have h2:=gR s k (a+1)
  grind [cA]
theorem aOa (s:ByteArray):∀(k a:Nat),cA s a (k+1)=cA s a k+bS s (a+k)*256^k
 |0,a=>by simp [cA]
 |k+1,a=>by
  rw [cA,aOa s k (a+1),cA,show a+1+k=a+(k+1) by omega,Nat.pow_succ,Nat.mul_add,Nat.add_assoc,Nat.mul_left_comm,Nat.mul_comm 256 (256^k)]
theorem bHc (s:ByteArray) (a:Nat):cA s a 2=bS s a+256*bS s (a+1):=by rfl
structure Br where
 tag:Nat
 delay:Nat
 height:Nat
deriving DecidableEq
def aCv (s:ByteArray) (i:Nat):Br:=⟨cA s (1+8*i) 2,cA s (3+8*i) 2,cA s (5+8*i) 4⟩
structure BrOk (b:Br):Prop where
 tag:b.tag<65536
 delay:b.delay<65536
 height:b.height<4294967296
theorem bEy (s:ByteArray) (i:Nat):BrOk (aCv s i):=⟨gR s 2 _,gR s 2 _,gR s 4 _⟩
def brE:Enc Br:=⟨fun b=> [.int .u16 (b.tag:Nat),.int .u16 (b.delay:Nat),.int .u32 (b.height:Nat)],3,fun _=>rfl,by decide,by
 intro x v hv
 simp at hv
 rcases hv with rfl|rfl|rfl<;>rfl⟩
def xK (s:ByteArray):Nat:=(s.size - 1) / 8
def jC (s:ByteArray):Bool:=(decide (s.size=9)||decide (s.size=17)||decide (s.size=25))&&decide (bS s 0=xK s)
def lL (s:ByteArray):List Br:=(List.range (xK s)).map (aCv s)
def aX4 (b:Br):Bool:=decide (b.height≤1000000)
def cO (s:ByteArray):List Br:=if jC s&&(lL s).all aX4 then lL s else []
def gU (l:List ByteArray):Option (Nat × Nat):=if l.length=1∧(l.headD default).size=3∧bS (l.headD default) 0<3 then some (bS (l.headD default) 0,cA (l.headD default) 1 2) else none
def cX (s:ByteArray) (wit:List ByteArray):Option Br:=(gU wit).bind fun p=>((cO s)[p.1]?).bind fun b=>if b.tag=0∨b.tag=p.2 then some b else none
def fW (t:Tx) (x:TIn):Int:=if x.q<2147483648∧t.ver≥2 then x.q%65536 else 0
def hZ (s:ByteArray) (t:Tx) (x:TIn):Int:=match cX s x.wit with
 |none=>9
 |some b=>if fW t x<(b.delay:Int) then 10 else if b.height>0∧(t.lock<(b.height:Int)∨x.q=4294967295) then 10 else 0
def kI (n:Int):Bool:=decide (0≤n∧n≤1000000)
def iD (t:Tx) (x:TIn) (coin block:Int):Bool:=kI coin&&kI block&&decide (coin+fW t x≤block)&&(decide (t.lock<block)||t.ins.all fun y=>decide (y.q=4294967295))
def inE (v:Pt→Option Cn) (t:Tx) (h:Int) (x:TIn):Int:=match v x.p with
 |none=>8
 |some c=>if hZ c.s t x≠0 then hZ c.s t x else if iD t x c.h h then 0 else 10
def inV (v:Pt→Option Cn) (x:TIn):Int:=((v x.p).getD cn0).v
def gJ (v:Pt→Option Cn) (t:Tx) (h:Int):Int × Int × Int:=
 if aG t≠0 then (0,aG t, -1) else if aN t then (0,4, -1) else
 match t.ins.findIdx? fun x=>decide (inE v t h x≠0) with
 |some i=>(0,inE v t h (t.ins.getD i default),(i:Nat))
 |none=>if nO (t.ins.map (inV v))≠0 then (0,nO (t.ins.map (inV v)), -1) else
  if gX (values t)>gX (t.ins.map (inV v)) then (0,12, -1) else (gX (t.ins.map (inV v)) - gX (values t),0, -1)
def aFc (y:TOut):Nat:=8+(vnS y.s.size).size+y.s.size
def aOn (y:TOut):Bool:=decide ((y.s.size:Int)≤40)&&decide (y.v<(((3000*(aFc y+67)+999) / 1000:Nat):Int))
def pD (t:Tx):Int:=idxOf aOn t.outs
def aZ5 (l:List Ent) (h:Int) (p:Pt):Option Cn:=if fH l p then ((dI l p.s).tx.outs[p.i.toNat]?).map fun o=>⟨o.v,o.s,h⟩ else none
def mF (f:Pt→Option Cn) (l:List Ent) (h:Int) (p:Pt):Option Cn:=(f p).or (aZ5 l h p)
def aU (f:Pt→Option Cn) (l:List Ent) (t:Tx) (h:Int):Int × Int × Int:=
 if aG t≠0 then (0,aG t, -1) else if iM l (idT t) then (0,7, -1) else
 if (gJ (mF f l h) t h).2.1≠0 then (0,(gJ (mF f l h) t h).2) else if 0≤pD t then (0,13,pD t) else ((gJ (mF f l h) t h).1,0, -1)
def pU (rate:Int) (size:Nat):Int:=((((min (max rate 1000) 100000000).toNat*size+999) / 1000:Nat):Int)
def tA (l:List Ent) (t:Tx):List Ent:=bN l (aO l (evL l t))
def eX (f:Pt→Option Cn) (l:List Ent) (t:Tx) (h rate:Int):Int × Int:=
 if (aU f l t h).2.1≠0 then (aU f l t h).2 else if (aU f l t h).1<pU rate (aQ t) then (11, -1) else
 if fB l t (aU f l t h).1≠0 then (fB l t (aU f l t h).1, -1) else if iN (tA l t) t≠0 then (iN (tA l t) t, -1) else (0, -1)
def eV (f:Pt→Option Cn) (l:List Ent) (t:Tx) (h rate:Int):List ByteArray:=if (eX f l t h rate).1=0 then aO l (evL l t) else []
def iS (f:Pt→Option Cn) (l:List Ent) (t:Tx) (h rate:Int):List Ent:=if (eX f l t h rate).1=0 then (fM (tA l t) t (aU f l t h).1).1 else l
end
end Go.K
namespace Go.Proofs.YteceapipdhnhdaaGreatDoor
section
open Go Go.K
attribute [local irreducible] aH aM aY KOp.wp K.Spec u32 leS vnS str aP cA bS
theorem kD {s:ByteArray} {i:Nat} (h:i<s.size):bS s i=s[i].toNat:=by
 unfold bS
 rw [List.getD_eq_getElem?_getD,List.getElem?_eq_getElem (by simpa using h)]
 rfl
theorem bR3 {n:Nat} (h:n<256^7):bM .shl (.int .u64 (n:Nat)) (.int .u64 8)=some (.int .u64 ((n*256:Nat):Int)):=by
 simp only [bM,dK,if_true]
 rw [if_neg (by decide)]
 show some (Value.int .u64 (IntKind.u64.wrap ((n:Int)*256)))=_
 rw [eZ (by omega) (by omega)];rfl
theorem or8 {n b:Nat} (h:n<256^7) (hb:b<256):bM .or (.int .u64 ((n*256:Nat):Int)) (.int .u64 (b:Nat))=some (.int .u64 ((b+256*n:Nat):Int)):=by
 simp only [bM,dK,Bool.false_eq_true,if_false,if_true,dG,IntKind.bits]
 have e:(BitVec.ofInt 64 ((n*256:Nat):Int)|||BitVec.ofInt 64 (b:Nat)).toNat=b+256*n:=by
  rw [BitVec.toNat_or,BitVec.toNat_ofInt,BitVec.toNat_ofInt]
  rw [show (((n*256:Nat):Int)%((2^64:Nat):Int)).toNat=n<<<8 by rw [Nat.shiftLeft_eq];omega,show (((b:Nat):Int)%((2^64:Nat):Int)).toNat=b by omega]
  rw [←Nat.shiftLeft_add_eq_or_of_lt (by omega:b<2^8),Nat.shiftLeft_eq];omega
 exact (congrArg (fun x:Nat=>some (Value.int .u64 (IntKind.u64.wrap (x:Int)))) e).trans (congrArg (fun x=>some (Value.int .u64 x)) (eZ (by omega) (by omega)))
set_option maxHeartbeats 400000 in
theorem bGl (s:ByteArray) (a k:Nat) (hk:k=1∨k=2∨k=4∨k=8) (hs:a+k≤s.size) (hm:s.size≤100000000) (w:World):K.Spec Tryz.prog F.octet_Get [.string s,.int .i64 (a:Nat),.int .i64 (k:Nat)] w fun r w'=>r=.tuple #[.int .u64 (cA s a k:Nat),.bool true]∧Ext w w':=by
 have hk8:k≤8:=by omega
 refine aXi rfl ?_
 unfold aLu
 refine oy ?_
 repeat' (first|(first|refine go2 ?_|fail)|(refine zC (d:=some 11) rfl (aN4 k hk _) ?_;rintro _ w1 ⟨rfl,x1⟩)|refine zJ (p:=(a:Int)<0) rfl (fun h=>absurd h (by omega)) (fun _=>?_)|refine zL (p:=(a:Int)>(s.size:Int) - (k:Int)) rfl (fun h=>absurd h (by omega)) (fun _=>?_)|(refine aJ (fun (j:Nat) w'=>Ext w w'∧j≤k) (fun j=> [(0,.string s),(1,.int .i64 (a:Nat)),(8,.int .u64 (cA s (a+k - j) j:Nat)),(9,.int .i64 ((a:Int)+(k:Int) - 1 - (j:Int)))]) (fun j=>k - j) 0 ⟨rfl,rfl,(by unfold cA;rfl),congrArg (Value.int .i64) (by omega),trivial⟩ ⟨x1,by omega⟩ ?_;rintro j ρ w3 ⟨x3,hj⟩))
 refine zL (p:=(a:Int)+(k:Int) - 1 - (j:Int)≥(a:Int)) rfl (fun h=>?_) (fun h=>?_)
 ·have hjk:j<k:=by omega
  have hlt:=gR s j (a+k - j)
  have hp:256^j≤256^7:=Nat.pow_le_pow_right (by decide) (by omega)
  have hn7:cA s (a+k - j) j<256^7:=nLt hlt hp
  have hi:a+k - 1 - j<s.size:=by omega
  have hb:=s[a+k - 1 - j].toNat_lt
  have e:cA s (a+k - (j+1)) (j+1)=s[a+k - 1 - j].toNat+256*cA s (a+k - j) j:=by
   conv=>lhs;unfold cA
   rw [show a+k - (j+1)=a+k - 1 - j by omega,kD hi,show a+k - 1 - j+1=a+k - j by omega]
  generalize hN:cA s (a+k - j) j=n at hn7 e hlt ⊢
  generalize hB:s[a+k - 1 - j].toNat=b at hb e
  have f35:=bR3 hn7
  have f40:=or8 hn7 hb
  repeat (first|refine aL (d:=some 35) (.int .u64 ((n*256:Nat):Int)) rfl f35 ?_|(refine iT (d:=some 38) (k:=.i64) (n:=a+k - 1 - j) rfl (congrArg (Value.int .i64) (by omega)) hi ?_;rw [hB])|refine aL (d:=some 39) (.int .u64 (b:Nat)) rfl (congrArg (fun n=>some (Value.int .u64 n)) (eZ (by omega) (by omega))) ?_|refine aL (d:=some 40) (.int .u64 ((b+256*n:Nat):Int)) rfl f40 ?_|(first|refine go2 ?_|fail))
  exact ⟨j+1,⟨rfl,rfl,congrArg (fun n:Nat=>Value.int .u64 n) e.symm,congrArg (Value.int .i64) (by omega),trivial⟩,⟨x3,by omega⟩,by omega⟩
 ·have e:j=k:=by omega
  subst e
  repeat (first|refine go2 ?_|fail)
  exact aA rfl ⟨congrArg (fun n:Nat=>Value.tuple #[.int .u64 (n:Int),.bool true]) (congrArg (fun z=>cA s z j) (show a+j - j=a by omega)),x3⟩
theorem wD (s:ByteArray) (a k:Nat) (hk:k=1∨k=2∨k=4∨k=8) (hs:a+k≤s.size) (hm:s.size≤100000000) (w:World):K.Spec Tryz.prog F.lock_number [.string s,.int .i64 (a:Nat),.int .i64 (k:Nat)] w fun r w'=>r=.int .u64 (cA s a k:Nat)∧Ext w w':=by
 refine aRn rfl ?_
 unfold aFa
 refine oy ?_
 repeat' (first|(first|refine go2 ?_|fail)|(refine zC (d:=some 13) rfl (bGl s a k hk hs hm _) ?_;rintro _ w1 ⟨rfl,x1⟩))
 exact aA rfl ⟨rfl,x1⟩
end
section
open Go Go.K
attribute [local irreducible] aH aM aY KOp.wp K.Spec u32 leS vnS str aP cA bS
theorem bH2 (n:Nat) (hn:n<18446744073709551616) (w:World):K.Spec Tryz.prog F.octet_Put [.int .u64 (n:Nat),.int .i64 1] w fun r w'=>r=.string (leS n 1)∧Ext w w':=aB3 n 1 (by decide) hn w
theorem aSl (n:Nat) (hn:n<18446744073709551616) (w:World):K.Spec Tryz.prog F.octet_Put [.int .u64 (n:Nat),.int .i64 2] w fun r w'=>r=.string (leS n 2)∧Ext w w':=aB3 n 2 (by decide) hn w
theorem bGz (n:Nat) (hn:n<18446744073709551616) (w:World):K.Spec Tryz.prog F.octet_Put [.int .u64 (n:Nat),.int .i64 4] w fun r w'=>r=.string (leS n 4)∧Ext w w':=aB3 n 4 (by decide) hn w
def aHm (l:List Br):Int:=if l.length<1∨3<l.length then 6 else if l.all aX4 then 0 else 3
set_option maxHeartbeats 1000000 in
theorem bHb {v : Value} {l : List Br} (w : World) (hv : SlE brE w v l) (ho : ∀ b ∈ l, BrOk b) : K.Spec Tryz.prog F.lock_Put [v] w fun r w' => ∃ s, r = .tuple #[.string s, .int .i64 (aHm l)] ∧ Ext w w' := by
  refine bDx rfl ?_
  unfold aNn
  refine oy ?_
  repeat' (first|refine bL (E := brE) (l := l) rfl (SlE.ext (w := w) (by exact fx) hv) ?_|refine zJ (p := ((l.length : Nat) : Int) < 1) rfl (fun h => ?_) (fun h => ?_)|refine zL (p := ((l.length : Nat) : Int) > 3) rfl (fun h => ?_) (fun h => ?_)|(refine zH (d := some 4) (fun b w0 x0 a0 hb0 => ?_); have hW : uG b b ⟨#[]⟩ w0 := (Bld.new (Nat.le_refl _) a0))|refine aL (d := some 17) (.int .u64 (l.length : Nat)) rfl (congrArg (fun n => some (Value.int .u64 n)) (eZ (by omega) (by omega))) ?_|(refine zC (d := some 18) rfl (bH2 l.length (by omega) _) ?_; rintro _ w1 ⟨rfl, x1⟩)|(refine zC (d := some 19) rfl (fJ (leS l.length 1) _ (by exact fx) (by decide) (by rw [cN]; decide)) ?_; rintro _ w2 ⟨hW2, rW, hS⟩; have xW := rW.ext (w0 := w) (by exact fx) hb0; replace hS : ((⟨#[]⟩ : ByteArray) ++ leS l.length 1).size ≤ 2000000 := (nTr hS (by decide)); clear hW x0 x1)|(refine aJ (fun (p : Nat × ByteArray) w' => Ext w w' ∧ p.1 ≤ l.length ∧ uG b b p.2 w' ∧ p.2.size ≤ 2000000 + 1000000 * p.1 ∧ (l.take p.1).all aX4 = true) (fun p => [(4, .pointer (some ⟨b, 0, none⟩)), (20, v), (21, .int .i64 (l.length : Nat)), (22, .int .i64 p.1)]) (fun p => l.length - p.1) (0, _) ⟨rfl, rfl, rfl, rfl, trivial⟩ ⟨by exact fx, by simp, by exact fx, by simpa using hS, by simp⟩ ?_; rintro ⟨i, s⟩ ρ w3 ⟨x3, hi, hW3, hS3, ha⟩; simp only at hi hW3 hS3 ha; dsimp only)|refine zL (p := ((i : Nat) : Int) < ((l.length : Nat) : Int)) rfl (fun h => ?_) (fun h => ?_)|(first|refine go2 ?_|fail))
  · exact aA rfl ⟨_, by rw [aHm, if_pos (by omega)]; rfl, by exact fx⟩
  · exact aA rfl ⟨_, by rw [aHm, if_pos (by omega)]; rfl, by exact fx⟩
  · have hil : i < l.length := by omega
    have hok := ho _ (gMe hil)
    have h1 := hok.tag
    have h2 := hok.delay
    have h3 := hok.height
    refine aT (d := some 24) (E := brE) rfl rfl (n := i) (l := l) (hv.ext x3) rfl hil (fun ad r4 => ?_)
    have r4 : Row w3 ad [.int .u16 (l[i].tag : Nat), .int .u16 (l[i].delay : Nat), .int .u32 (l[i].height : Nat)] := r4
    have hb3 : w.heap.size ≤ b := hb0
    repeat' (first|(refine zE (d' := 6) (fun _=>rfl) rfl rfl rfl (fun b6 w6 x6 a6 (r6 : Row w6 ⟨b6, 0, none⟩ [.int .u16 (l[i].tag : Nat), .int .u16 (l[i].delay : Nat), .int .u32 (l[i].height : Nat)]) hb6=>?_); have hne : b6 ≠ b := (by have := hW3.lt; omega))|(first|refine go2 ?_|fail))
    refine zL (p := ((l[i].height : Nat) : Int) > 1000000) rfl (fun h => ?_) (fun h => ?_)
    · repeat (first|refine go2 ?_|fail)
      refine aA rfl ⟨⟨#[]⟩, ?_, Ext.trans x3 x6⟩
      have e : aHm l = 3 := by
       rw [aHm, if_neg (by omega), if_neg]
       rw [List.all_eq_true]
       intro hall
       have := hall _ (gMe hil)
       unfold aX4 at this
       have := of_decide_eq_true this
       omega
      rw [e]; rfl
    · have hlow : (l.take (i + 1)).all aX4 = true := by
        rw [List.take_succ_eq_append_getElem hil, List.all_append, ha]
        simp only [List.all_cons, List.all_nil, Bool.and_true, Bool.true_and]
        exact dTr (by omega)
      have hW6 : uG b b s w6 := hW3.ext x6
      have x06 : Ext w w6 := x3.trans x6
      clear hW3 hW2 x6 x3 r4 xW rW
      repeat' (first|refine zg (fun w7 x7 => ?_)|refine zA ?_|refine fG ?_ ?_|refine aL (d := some 31) (.int .u64 (l[i].tag : Nat)) rfl (congrArg (fun n => some (Value.int .u64 n)) (eZ (by omega) (by omega))) ?_|refine aL (d := some 35) (.int .u64 (l[i].delay : Nat)) rfl (congrArg (fun n => some (Value.int .u64 n)) (eZ (by omega) (by omega))) ?_|refine aL (d := some 40) (.int .u64 (l[i].height : Nat)) rfl (congrArg (fun n => some (Value.int .u64 n)) (eZ (by omega) (by omega))) ?_|(refine zC (d := some 32) rfl (aSl l[i].tag (by omega) _) ?_; rintro _ w8 ⟨rfl, x8⟩)|(refine zC (d := some 36) rfl (aSl l[i].delay (by omega) _) ?_; rintro _ w9 ⟨rfl, x9⟩)|(refine zC (d := some 41) rfl (bGz l[i].height (by omega) _) ?_; rintro _ w10 ⟨rfl, x10⟩)|refine lK (d := some 37) rfl rfl (by rw [cN, cN]; decide) ?_|refine lK (d := some 42) rfl rfl (by rw [ByteArray.size_append, cN, cN, cN]; decide) ?_|(refine zC (d := some 43) rfl (fJ (leS l[i].tag 2 ++ leS l[i].delay 2 ++ leS l[i].height 4) _ (by exact fx) (by omega) (by rw [ByteArray.size_append, ByteArray.size_append, cN, cN, cN]; decide)) ?_; rintro _ w11 ⟨hW11, rW11, hS11⟩; have xW11 := rW11.ext (w0 := w) (by exact fx) hb3)|(first|refine go2 ?_|fail))
      all_goals exact ⟨(i + 1, _), ⟨rfl, rfl, rfl, rfl, trivial⟩, ⟨xW11, hil, hW11, nTr hS11 (by omega), hlow⟩, by show l.length - (i + 1) < l.length - i; omega⟩
  · have ei : i = l.length := by omega
    subst ei
    rw [List.take_length] at ha
    repeat' (first|(first|refine go2 ?_|fail)|(refine zC (d := some 45) rfl (aKx _ (by exact fx)) ?_; rintro _ w9 ⟨rfl, hW9, rW9⟩; have xW9 := rW9.ext (w0 := w) (by exact fx) hb0))
    exact aA rfl ⟨_, by rw [aHm, if_neg (by omega), if_pos ha]; rfl, by exact fx⟩
end
section
open Go Go.K
attribute [local irreducible] aH aM aY KOp.wp K.Spec u32 leS vnS str aP cA bS
theorem aN3 {s:ByteArray} (h:¬(s.size=1+8*bS s 0∧bS s 0≤3)):cO s= []:=by
 unfold cO
 rw [if_neg]
 intro h2
 apply h
 simp only [jC,Bool.and_eq_true,Bool.or_eq_true,decide_eq_true_eq] at h2
 obtain ⟨⟨h3,h4⟩,_⟩:=h2
 have h4:bS s 0=(s.size - 1) / 8:=h4
 omega
theorem bJs {s:ByteArray} (h:s.size=1+8*bS s 0) (h3:bS s 0≤3):xK s=bS s 0∧cO s=if aHm (lL s)=0 then lL s else []:=by
 have hn:xK s=bS s 0:=by unfold xK;omega
 refine ⟨hn,?_⟩
 have hl:(lL s).length=bS s 0:=by simp [lL,hn]
 unfold cO aHm
 by_cases h0:bS s 0=0
 ·have e:jC s=false:=by
   cases hf:jC s with
   |false=>rfl
   |true=>
    simp only [jC,Bool.and_eq_true,Bool.or_eq_true,decide_eq_true_eq] at hf
    omega
  rw [e,if_pos (by omega:(lL s).length<1∨3<(lL s).length)];rfl
 ·have hf:jC s=true:=by
   simp only [jC,Bool.and_eq_true,Bool.or_eq_true,decide_eq_true_eq]
   omega
  rw [hf,Bool.true_and,if_neg (by omega:¬((lL s).length<1∨3<(lL s).length))]
  cases hb:(lL s).all aX4<;>rfl
theorem aW3 {s:ByteArray} {i:Nat}:(List.range (i+1)).map (aCv s)=(List.range i).map (aCv s)++ [aCv s i]:=by rw [List.range_succ,List.map_append];rfl
theorem aCi {n:Nat} (h:n<65536):IntKind.u16.wrap (n:Int)=(n:Int):=by show (n:Int)%65536=n;omega
theorem aQn {n:Nat} (h:n<4294967296):IntKind.u32.wrap (n:Int)=(n:Int):=by show (n:Int)%4294967296=n;omega
theorem bFi {P:Program} {d:Option Tmp} {r:KR} {K:Env→World→Prop} {ρ:Env} {w:World} {α:Type} {E:Enc α} {size:Nat} {x i:Operand} {v:Value} {l:List α} {kd:IntKind} {n:Nat} (hx:ev ρ x=v) (hi:ev ρ i=.int kd (n:Nat)) (hs:SlE E w v l) (hk:size=E.k) (hr:n<l.length) (k:∀ad,Row w ad (E.f l[n])→ad.block∈aC v→aH P r K (put ρ d (.pointer (some ad))) w):aH P (.cons ⟨d,.indexAddr size x i,none⟩ r) K ρ w:=by
 subst hk
 obtain ⟨a,cap,hv,hrow⟩:=Sl.at_ hs E.pos hr
 subst hv
 exact cS rfl (by simp [KOp.fix,hx,hi,hr]) (k (a.add (n*E.k)) (by rw [E.flat_at l n hr] at hrow;exact hrow) (by simp [aC,add_block]))
set_option maxHeartbeats 1000000 in
theorem bGh (s:ByteArray) (hm:s.size≤1000000) (w:World):K.Spec Tryz.prog F.lock_Get [.string s] w fun r w'=>∃v e,r=.tuple #[v,.int .i64 e]∧SlE brE w' v (cO s)∧(e≠0→cO s= [])∧(∀b∈aC v,w.heap.size≤b)∧Ext w w':=by
 refine bD6 rfl ?_
 unfold aPj
 refine oy ?_
 by_cases h0:s=⟨#[]⟩
 ·have hb:cO s= []:=aN3 (by subst h0;have:(⟨#[]⟩:ByteArray).size=0:=rfl;omega)
  rw [hb]
  repeat' (first|refine aL (d:=some 9) (.bool true) rfl (congrArg (fun b=>some (Value.bool b)) (dTr h0)) ?_|(first|refine go2 ?_|fail))
  exact aA rfl ⟨.slice none 0 0,_,rfl,SlE.nil _,fun _=>rfl,(fun b hb=>absurd hb (by simp [aC])),Ext.refl _⟩
 have hsz:0<s.size:=by
  rcases Nat.eq_zero_or_pos s.size with h|h
  ·exact absurd (ByteArray.ext (Array.eq_empty_of_size_eq_zero (by simpa using h))) h0
  ·exact h
 have hb0:=kD hsz
 have hb8:=s[0].toNat_lt
 obtain ⟨n,hn⟩:∃n:Nat,n=s[0].toNat:=⟨_,rfl⟩
 rw [←hn] at hb0 hb8
 have pre:s.size=1+8*bS s 0∧bS s 0≤3∨¬(s.size=1+8*bS s 0∧bS s 0≤3):=by omega
 repeat' (first|refine aL (d:=some 9) (.bool false) rfl (congrArg (fun b=>some (Value.bool b)) (dFa h0)) ?_|(refine iT (d:=some 12) (k:=.i64) (n:=0) rfl rfl hsz ?_;rw [←hn])|refine aL (d:=some 13) (.int .i64 (n:Nat)) rfl (congrArg (fun n=>some (Value.int .i64 n)) (vG (by omega))) ?_|refine zJ (p:=((n:Nat):Int)>3) rfl (fun h=>?_) (fun h=>?_)|(refine iT (d:=some 20) (k:=.i64) (n:=0) rfl rfl hsz ?_;rw [←hn])|refine aL (d:=some 21) (.int .i64 (n:Nat)) rfl (congrArg (fun n=>some (Value.int .i64 n)) (vG (by omega))) ?_|refine tR (d:=some 22) (a:=8) (b:=(n:Nat)) rfl rfl (by omega) ?_|refine zN (p:=((s.size:Nat):Int)=1+8*((n:Nat):Int)) rfl (fun h=>?_) (fun h=>?_)|(refine aJ (fun (p:Nat × Value) w'=>Ext w w'∧p.1≤n∧Own brE T.api_Branch w.heap.size w' p.2 ((List.range p.1).map (aCv s))) (fun p=> [(0,.string s),(4,p.2),(5,.int .i64 (1+8*(p.1:Int)))]) (fun p=>n - p.1) (0,.slice none 0 0) ⟨rfl,rfl,rfl,trivial⟩ ⟨Ext.refl _,by simp,Own.nil _ _ _⟩ ?_;rintro ⟨i,v4⟩ ρ w3 ⟨x3,hi,ho⟩;simp only at hi ho;dsimp only)|refine zL (p:=1+8*((i:Nat):Int)<((s.size:Nat):Int)) rfl (fun h=>?_) (fun h=>?_)|(first|refine go2 ?_|fail))
 ·rw [aN3 (by omega)]
  exact aA rfl ⟨.slice none 0 0,_,rfl,SlE.nil _,fun _=>rfl,(fun b hb=>absurd hb (by simp [aC])),Ext.refl _⟩
 ·rw [aN3 (by omega)]
  exact aA rfl ⟨.slice none 0 0,_,rfl,SlE.nil _,fun _=>rfl,(fun b hb=>absurd hb (by simp [aC])),Ext.refl _⟩
 ·have hin:i<n:=by omega
  have q1:=gR s 2 (1+8*i)
  have q2:=gR s 2 (3+8*i)
  have q3:=gR s 4 (5+8*i)
  repeat' (first|(refine zC (d:=some 35) (congrArg (fun z=> [Value.string s,Value.int .i64 z,Value.int .i64 2]) (by omega)) (wD s (1+8*i) 2 (by decide) (by omega) (by omega) _) ?_;rintro _ w4 ⟨rfl,x4⟩)|refine aL (d:=some 36) (.int .u16 (cA s (1+8*i) 2:Nat)) rfl (congrArg (fun n=>some (Value.int .u16 n)) (aCi q1)) ?_|(refine zC (d:=some 40) (congrArg (fun z=> [Value.string s,Value.int .i64 z,Value.int .i64 2]) (by omega)) (wD s (3+8*i) 2 (by decide) (by omega) (by omega) _) ?_;rintro _ w5 ⟨rfl,x5⟩)|refine aL (d:=some 41) (.int .u16 (cA s (3+8*i) 2:Nat)) rfl (congrArg (fun n=>some (Value.int .u16 n)) (aCi q2)) ?_|(refine zC (d:=some 45) (congrArg (fun z=> [Value.string s,Value.int .i64 z,Value.int .i64 4]) (by omega)) (wD s (5+8*i) 4 (by decide) (by omega) (by omega) _) ?_;rintro _ w6 ⟨rfl,x6⟩)|refine aL (d:=some 46) (.int .u32 (cA s (5+8*i) 4:Nat)) rfl (congrArg (fun n=>some (Value.int .u32 n)) (aQn q3)) ?_|refine aZ (d:=some 47) (cs:=brE.f (aCv s i)) rfl ?_|refine zI (d:=some 48) (cs:=brE.f (aCv s i)) rfl (fun b9 w9 x9 a9 hb9=>?_)|refine bZ (d:=some 49) (E:=brE) (v:=v4) (l2:= [aCv s i]) rfl (ho.ext (by exact fx)) (Ext.size (w:=w) (by exact fx)) rfl rfl (dR a9 rfl) rfl rfl (by simp;omega) (fun v10 w10 o10 c10=>?_)|(first|refine go2 ?_|fail))
  exact ⟨(i+1,v10),⟨rfl,rfl,congrArg (Value.int .i64) (by simp only;omega),trivial⟩,⟨(Ext.chg (w:=w) (by exact fx) c10).mono (fun b hb=>.inr (ho.base b hb)),by simp only;omega,by simp only;rw [aW3];exact o10⟩,by simp only;omega⟩
 ·have ei:i=n:=by omega
  subst ei
  have hp:=bJs (s:=s) (by omega) (by omega)
  have hl:(List.range i).map (aCv s)=lL s:=by unfold lL;rw [hp.1,hb0]
  rw [hl] at ho
  have hok:∀b∈lL s,BrOk b:=fun b hb=>by
   unfold lL at hb
   obtain ⟨j,_,rfl⟩:=List.mem_map.1 hb
   exact bEy s j
  rw [hp.2]
  repeat' (first|(refine zC (d:=some 52) rfl (bHb _ (SlE.ext (w:=w3) (by exact fx) ho.sl) hok) ?_;rintro _ w4 ⟨z,rfl,x4⟩)|refine zN (p:=aHm (lL s)=0) rfl (fun h=>?_) (fun h=>?_)|(first|refine go2 ?_|fail))
  ·rw [if_neg h]
   exact aA rfl ⟨.slice none 0 0,_,rfl,SlE.nil _,fun _=>rfl,(fun b hb=>absurd hb (by simp [aC])),by exact fx⟩
  ·rw [if_pos h]
   exact aA rfl ⟨_,_,rfl,SlE.ext x4 ho.sl,fun he=>absurd rfl he,ho.base,by exact fx⟩
def xP (l:List ByteArray):Value:=match gU l with
 |some (a,t)=>.tuple #[.int .i64 (a:Nat),.int .u16 (t:Nat),.int .i64 0]
 |none=>.tuple #[.int .i64 0,.int .u16 0,.int .i64 4]
theorem aYt {v:Value} {l:List ByteArray} (w:World) (hv:SlE bB w v l) (hz:∀z∈l,z.size≤1000000):K.Spec Tryz.prog F.lock_Signed [v] w fun r w'=>r=xP l∧Ext w w':=by
 refine aQ1 rfl ?_
 unfold aEu
 refine oy ?_
 by_cases h1:l.length=1
 ·obtain ⟨z,rfl⟩:∃z,l= [z]:=by
   match l,h1 with
   | [z],_=>exact ⟨z,rfl⟩
  have hzm:=hz z (by simp)
  by_cases h3:z.size=3
  ·have hb0:=kD (s:=z) (i:=0) (by omega)
   have hb8:=z[0].toNat_lt
   obtain ⟨n,hn⟩:∃n:Nat,n=z[0].toNat:=⟨_,rfl⟩
   rw [←hn] at hb0 hb8
   have q1:=gR z 2 1
   by_cases h4:n<3
   ·have e:xP [z]=.tuple #[.int .i64 (n:Nat),.int .u16 (cA z 1 2:Nat),.int .i64 0]:=by
     unfold xP gU
     rw [if_pos ⟨rfl,h3,by show bS z 0<3;omega⟩]
     show Value.tuple #[.int .i64 (bS z 0:Nat),_,_]=_
     rw [hb0];rfl
    rw [e]
    repeat' (first|refine bL (d:=some 6) (E:=bB) (l:= [z]) rfl (SlE.ext (w:=w) (by exact fx) hv) ?_|refine aL (d:=some 7) (.bool false) rfl rfl ?_|(refine aT (d:=some 10) (E:=bB) rfl rfl (n:=0) (l:= [z]) (SlE.ext (w:=w) (by exact fx) hv) rfl (by simp) (fun ad r4=>?_);have r4:Row _ ad [Value.string z]:=r4)|(refine aL (d:=some 13) (.bool false) rfl (by show some (Value.bool (!decide (((z.size:Nat):Int)=3)))=_;rw [dTr (by omega)];rfl) ?_)|(refine aT (d:=some 17) (E:=bB) rfl rfl (n:=0) (l:= [z]) (SlE.ext (w:=w) (by exact fx) hv) rfl (by simp) (fun ad r5=>?_);have r5:Row _ ad [Value.string z]:=r5)|(refine iT (d:=some 19) (k:=.i64) (n:=0) rfl rfl (by omega) ?_;rw [←hn])|refine aL (d:=some 20) (.bool false) rfl (congrArg (fun b=>some (Value.bool b)) (dFa (by omega))) ?_|refine zg (fun w7 x7=>?_)|refine fG ?_ ?_|(refine aT (d:=some 23) (E:=bB) rfl rfl (n:=0) (l:= [z]) (SlE.ext (w:=w) (by exact fx) hv) rfl (by simp) (fun ad r6=>?_);have r6:Row _ ad [Value.string z]:=r6)|(refine aT (d:=some 28) (E:=bB) rfl rfl (n:=0) (l:= [z]) (SlE.ext (w:=w) (by exact fx) hv) rfl (by simp) (fun ad r7=>?_);have r7:Row _ ad [Value.string z]:=r7)|(refine iT (d:=some 25) (k:=.i64) (n:=0) rfl rfl (by omega) ?_;rw [←hn])|refine aL (d:=some 26) (.int .i64 (n:Nat)) rfl (congrArg (fun n=>some (Value.int .i64 n)) (vG (by omega))) ?_|(refine zC (d:=some 30) rfl (wD z 1 2 (by decide) (by omega) (by omega) _) ?_;rintro _ w8 ⟨rfl,x8⟩)|refine aL (d:=some 31) (.int .u16 (cA z 1 2:Nat)) rfl (congrArg (fun n=>some (Value.int .u16 n)) (aCi q1)) ?_|(first|refine go2 ?_|fail))
    all_goals exact aA rfl ⟨rfl,by exact fx⟩
   ·have e:xP [z]=.tuple #[.int .i64 0,.int .u16 0,.int .i64 4]:=by
     unfold xP gU
     rw [if_neg]
     rintro ⟨_,_,h⟩
     have h:bS z 0<3:=h
     omega
    rw [e]
    repeat' (first|refine bL (d:=some 6) (E:=bB) (l:= [z]) rfl (SlE.ext (w:=w) (by exact fx) hv) ?_|refine aL (d:=some 7) (.bool false) rfl rfl ?_|(refine aT (d:=some 10) (E:=bB) rfl rfl (n:=0) (l:= [z]) (SlE.ext (w:=w) (by exact fx) hv) rfl (by simp) (fun ad r4=>?_);have r4:Row _ ad [Value.string z]:=r4)|(refine aL (d:=some 13) (.bool false) rfl (by show some (Value.bool (!decide (((z.size:Nat):Int)=3)))=_;rw [dTr (by omega)];rfl) ?_)|(refine aT (d:=some 17) (E:=bB) rfl rfl (n:=0) (l:= [z]) (SlE.ext (w:=w) (by exact fx) hv) rfl (by simp) (fun ad r5=>?_);have r5:Row _ ad [Value.string z]:=r5)|(refine iT (d:=some 19) (k:=.i64) (n:=0) rfl rfl (by omega) ?_;rw [←hn])|refine aL (d:=some 20) (.bool true) rfl (congrArg (fun b=>some (Value.bool b)) (dTr (by omega))) ?_|(first|refine go2 ?_|fail))
    exact aA rfl ⟨rfl,by exact fx⟩
  ·have e:xP [z]=.tuple #[.int .i64 0,.int .u16 0,.int .i64 4]:=by
    unfold xP gU
    rw [if_neg]
    rintro ⟨_,h,_⟩
    exact h3 h
   rw [e]
   repeat' (first|refine bL (d:=some 6) (E:=bB) (l:= [z]) rfl (SlE.ext (w:=w) (by exact fx) hv) ?_|refine aL (d:=some 7) (.bool false) rfl rfl ?_|(refine aT (d:=some 10) (E:=bB) rfl rfl (n:=0) (l:= [z]) (SlE.ext (w:=w) (by exact fx) hv) rfl (by simp) (fun ad r4=>?_);have r4:Row _ ad [Value.string z]:=r4)|(refine aL (d:=some 13) (.bool true) rfl (by show some (Value.bool (!decide (((z.size:Nat):Int)=3)))=_;rw [dFa (by omega)];rfl) ?_)|(first|refine go2 ?_|fail))
   exact aA rfl ⟨rfl,by exact fx⟩
 ·have e:xP l=.tuple #[.int .i64 0,.int .u16 0,.int .i64 4]:=by
   unfold xP gU
   rw [if_neg]
   rintro ⟨h,_⟩
   exact h1 h
  rw [e]
  repeat' (first|refine bL (d:=some 6) (E:=bB) (l:=l) rfl (SlE.ext (w:=w) (by exact fx) hv) ?_|(refine aL (d:=some 7) (.bool true) rfl (by show some (Value.bool (!decide (((l.length:Nat):Int)=1)))=_;rw [dFa (by omega)];rfl) ?_)|(first|refine go2 ?_|fail))
  exact aA rfl ⟨rfl,by exact fx⟩
end
end Go.Proofs.YteceapipdhnhdaaGreatDoor
namespace Go.K
section
open Go
variable {l:List Ent}
end
end Go.K
namespace Go.Proofs.YteceapipdhnhdaaGreatDoor
section
open Go Go.K
attribute [local irreducible] aH aM aY KOp.wp K.Spec u32 leS vnS str aP cM bK idT aQ aG aN idN bG cL cB bQ cF fM dC bV inS aO kZ fL
theorem GrR.apart {w:World} {g:Nat} {M:List Nat} {l:List Ent} (h:GrR w g M l):l.Pairwise fun x y=>∀p,spends x p=true→spends y p=false:=by
 obtain ⟨b1,vo,b2,m,sp,hP⟩:=h;exact hP.inv.apart
end
end Go.Proofs.YteceapipdhnhdaaGreatDoor
namespace Go.K
section
open Go Go.Proofs.YteceapipdhnhdaaGreatDoor
section
variable {l:List Ent} {t:Tx}
theorem bD8 {s:ByteArray}:iM l s=true↔∃x∈l,x.id=s:=by
 simp
theorem aVb {x:Ent}:gW t x=true↔∃b∈t.ins,spends x b.p=true:=by
 unfold gW spends
 grind
theorem bIu {x:Ent} (h:0<x.tx.ins.length):gW x.tx x=true:=by
 rw [aVb]
 refine ⟨x.tx.ins[0],gMe h,?_⟩
 unfold spends
 grind
theorem bG5 (hn:(l.map (·.id)).Nodup) (hc:aG t=0) (hi:0<t.ins.length) (hg:aN t=false) {f:Int} (hf:bT f=true):
  (fM (fA l (evL l t)) t f).2=0∨((fM (fA l (evL l t)) t f).2=7∧iM (fA l (evL l t)) (idT t)=true∧(dI (fA l (evL l t)) (idT t)).tx≠t):=by
 have none:∀x∈fA l (evL l t),gW t x=false:=fun x hx=>by
  rw [←Bool.not_eq_true]
  exact fun h=>aJl l _ hn hx (bNm hn ((qC _ _).subset hx) h)
 unfold fM
 rw [if_neg (by omega),if_neg (by grind),if_neg (by grind)]
 by_cases h7:((fA l (evL l t)).any fun x=>decide (x.id=idT t))=true
 ·rw [if_pos h7]
  refine .inr ⟨rfl,h7,fun e=>?_⟩
  have hm:=(aWb (l:=fA l (evL l t)) h7).1
  grind [bIu]
 ·rw [if_neg h7]
  have h8:(t.ins.any fun i=>(fA l (evL l t)).any fun x=>spends x i.p)=false:=by
   rw [List.any_eq_false]
   intro b hb h
   obtain ⟨x,hx,h2⟩:=List.any_eq_true.1 h
   have h3:=none x hx
   rw [aVb.2 ⟨b,hb,h2⟩] at h3
   cases h3
  simp [*]
end
end
section
open Go Go.Proofs.YteceapipdhnhdaaGreatDoor
def wF (P:List ByteArray) (s:ByteArray):Nat:=(P.filter fun x=>decide (x=s)).length
theorem bHy (P:List ByteArray) (x s:ByteArray):wF (P++ [x]) s=wF P s+if x=s then 1 else 0:=by
 unfold wF
 grind
theorem bK6 {P:List ByteArray} {s:ByteArray}:0<wF P s↔s∈P:=by
 unfold wF
 simp
theorem bNv (P:List ByteArray) (s:ByteArray):wF P s≤P.length:=List.length_filter_le _ _
def Cnt (met:List (ByteArray × Nat)) (P:List ByteArray):Prop:=∀s,aS met s=if wF P s=0 then none else some (wF P s)
theorem Cnt.nil:Cnt [] []:=fun s=>rfl
theorem Cnt.add {met:List (ByteArray × Nat)} {P:List ByteArray} (h:Cnt met P) (s:ByteArray):Cnt (fV met s (wF P s+1)) (P++ [s]):=fun k=>by
 rw [cP,bHy]
 by_cases e:s=k
 ·simp [*]
 ·rw [if_neg e,if_neg e,h k,Nat.add_zero]
theorem Cnt.found {met:List (ByteArray × Nat)} {P:List ByteArray} (h:Cnt met P) {s:ByteArray} {c:Nat} (hc:aS met s=some c):wF P s=c∧0<c:=by
 have:=h s
 grind
theorem Cnt.none_ {met:List (ByteArray × Nat)} {P:List ByteArray} (h:Cnt met P) {s:ByteArray} (hc:aS met s=none):wF P s=0:=by
 have:=h s
 simp_all
def qP (l:List Ent) (ids:List ByteArray):List ByteArray:=ids.flatMap fun s=>aO l (bV l s)
theorem bHi {l:List Ent} {ids:List ByteArray} {i:Nat} (h:i<ids.length):qP l (ids.take (i+1))=qP l (ids.take i)++aO l (bV l ids[i]):=by
 grind [qP,List.take_succ_eq_append_getElem]
theorem aXy {l:List Ent}:∀(ids:List ByteArray),(qP l ids).length≤l.length*ids.length
 | []=>by simp [qP]
 |s::ids=>by
  have ih:=aXy (l:=l) ids
  grind [jG,qP,Nat.mul_add]
theorem bRc {l:List Ent} {t:Tx} (hn:(l.map (·.id)).Nodup) {i:Nat} (hi:i<l.length):((evL l t)[i]'(by grind [aAw]))=true↔0<wF (qP l (aO l (bP l t))) l[i].id:=by
 rw [bK6]
 have h1:=aNc (l:=l) (t:=t) hi (Nat.le_refl _)
 have e:(evI l t l.length)[i]? =some ((evL l t)[i]'(by grind [aAw])):=List.getElem?_eq_getElem _
 rw [e] at h1
 simp only [Option.some.injEq] at h1
 rw [h1]
 unfold qP
 rw [List.mem_flatMap]
 constructor
 ·rintro ⟨j,hj,_,h2,h3⟩
  exact ⟨l[j].id,rF.2 ⟨l[j],gMe hj,h2,rfl⟩,(aEb hn hi).2 h3⟩
 ·rintro ⟨s,hs,h2⟩
  obtain ⟨x,hx,h3,rfl⟩:=rF.1 hs
  obtain ⟨j,hj,rfl⟩:=List.getElem_of_mem hx
  grind [aEb]
theorem aWo {l:List Ent} {t:Tx} {i:Nat} (h:i<l.length):aO (l.take (i+1)) ((evL l t).take (i+1))=aO (l.take i) ((evL l t).take i)++if (evL l t)[i]'(by grind [aAw])=true then [l[i].id] else []:=aOg aAw h
end
end Go.K
namespace Go.Proofs.YteceapipdhnhdaaGreatDoor
section
open Go Go.K
section
variable {P:Program} {d:Option Tmp} {r:KR} {K:Env→World→Prop} {ρ:Env} {w:World}
theorem aSn {x:Operand} {name:String} {args:List Operand} {t:TypeId} {u rv:Value} {fn:FuncId} {vs:List Value} {R:Value→World→Prop} (hx:ev ρ x=.iface t u) (hm:sY P t u name=some (fn,rv)) (hb:bW P fn=true) (ha:rv::args.map (ev ρ)=vs)
  (h:Go.K.Spec P fn vs w R) (k:∀v w',R v w'→aH P r K (put ρ d v) w'):aH P (.cons ⟨d,.invoke x name args,none⟩ r) K ρ w:=
 fX ⟨t,u,fn,rv,hx,hm,hb,by subst ha;exact h.mono fun e w' ⟨v,hv,hR⟩=>⟨v,hv,k v w' hR⟩⟩
theorem bNi {f:TypeId→Value→String→Bool} {x:Operand} {name:String} {t:TypeId} {u:Value} (hx:ev ρ x=.func (.method name) #[.iface t u] #[]) (hm:f t u name=true) (k:aH P r K (put ρ d (.func (.method name) #[.iface t u] #[])) w):aH P (.cons ⟨d,.nilM f x,none⟩ r) K ρ w:=
 cS rfl (by simp [KOp.fix,hx,hm]) k
end
theorem bRm {t:TypeId} {u:Value} {s:String} (h:aYb Tryz.prog t u s=true):mo t u s=true:=by unfold mo;exact h
abbrev qO (c:Int):Value:=.iface T.api_Errno (.int .i64 c)
def dD (w:World):Nat→Value→Int→Int→Prop
 |0,v,c,a=>a= -1∧(c=0∧v=.nilIface∨c≠0∧v=qO c)
 |d+1,v,c,a=>dD w d v c a∨c≠0∧0≤a∧∃b u a',v=.iface T.P_api_Fault (.pointer (some ⟨b,0,none⟩))∧At w b (.cells [.int .i64 a,u].toArray T.api_Fault (0,0))∧dD w d u c a'
theorem dD.ext {w w':World} (x:Ext w w'):∀{d:Nat} {v:Value} {c a:Int},dD w d v c a→dD w' d v c a
 |0,_,_,_,h=>h
 |_+1,_,_,_,.inl h=>.inl (dD.ext x h)
 |_+1,_,_,_,.inr ⟨h1,h2,b,u,a',h3,h4,h5⟩=>.inr ⟨h1,h2,b,u,a',h3,h4.ext x,dD.ext x h5⟩
theorem dD.none_ (w:World) (d:Nat):dD w d .nilIface 0 (-1):=by
 induction d with
 |zero=>exact ⟨rfl,.inl ⟨rfl,rfl⟩⟩
 |succ d ih=>exact .inl ih
theorem dD.num (w:World) (d:Nat) {c:Int} (h:c≠0):dD w d (qO c) c (-1):=by
 induction d with
 |zero=>exact ⟨rfl,.inr ⟨h,rfl⟩⟩
 |succ d ih=>exact .inl ih
theorem dD.nil_iff {w:World}:∀{d:Nat} {v:Value} {c a:Int},dD w d v c a→(c=0→v=.nilIface∧a= -1)∧(c≠0→∃t u,v=.iface t u)
 |0,_,_,_,⟨h1,h2⟩=>by
  rcases h2 with ⟨h2,h3⟩|⟨h2,h3⟩
  ·exact ⟨fun _=>⟨h3,h1⟩,fun h=>absurd h2 h⟩
  ·exact ⟨fun h=>absurd h h2,fun _=>⟨_,_,h3⟩⟩
 |_+1,_,_,_,.inl h=>dD.nil_iff h
 |_+1,_,_,_,.inr ⟨h1,_,_,_,_,h3,_⟩=>⟨fun h=>absurd h h1,fun _=>⟨_,_,h3⟩⟩
def gV (w:World) (v:Value) (f:Pt→Option Cn):Prop:=(∃t u,v=.iface t u∧∀p:Pt,fN p.i→∀w1,Ext w w1→∃fn rv,aYb Tryz.prog t u "Get" =true∧sY Tryz.prog t u "Get" =some (fn,rv)∧bW Tryz.prog fn=true∧
  K.Spec Tryz.prog fn [rv,.agg p.cs.toArray] w1 fun r w2=>∃c:Cn,r=.tuple #[.agg c.cs.toArray,.bool (f p).isSome]∧(f p).getD cn0=c∧Ext w1 w2)∧∀p c,f p=some c→c.s.size≤1000000
theorem gV.ext {w w':World} {v:Value} {f:Pt→Option Cn} (h:gV w v f) (x:Ext w w'):gV w' v f:=by
 obtain ⟨⟨t,u,e,h⟩,h2⟩:=h
 exact ⟨⟨t,u,e,fun p hp w1 x1=>h p hp w1 (x.trans x1)⟩,h2⟩
theorem gV.of_set {w:World} {b mb:Nat} {m:List En} (h:rI T.coins_Set w b mb m) (hs:∀e∈m,e.2.s.size≤1000000):gV w (.iface T.P_coins_Set (.pointer (some ⟨b,0,none⟩))) (aS m):=by
 refine ⟨⟨_,_,rfl,fun p hp w1 x1=>⟨F.coins_Set_Get,.pointer (some ⟨b,0,none⟩),by kernel_rfl,by kernel_rfl,by kernel_rfl,?_⟩⟩,fun p c hc=>hs _ (nI hc)⟩
 have:=aTk p w1 (h.ext x1)
 unfold K.Spec at this ⊢
 exact this.mono fun e w2 ⟨v,e1,e2,x2⟩=>⟨v,e1,lF m p,e2,rfl,x2⟩
end
end Go.Proofs.YteceapipdhnhdaaGreatDoor
namespace Go.K
section
open Go
def eA (f:Int):Ent:=⟨bOg (idL 8) 0,str r80,f,69⟩
def eB (f:Int):Ent:=⟨bOg (idL 9) 0,str r90,f,69⟩
end
end Go.K
