/- Contracts: the transaction of an act. Plain: what hangs on w -/
import Derived.Test.YtgloknkcfchnlaaGreatZ21
import Derived.Test.YtgloknkcfchnlaaGreatZ23
import Derived.Test.YtgloknkcfchnlaaGreatZ24
import Derived.Test.YtgloknkcfchnlaaGreatZ25
set_option linter.unusedVariables false
set_option linter.unusedSimpArgs false
namespace Go.Proofs.YtgloknkcfchnlaaGreat
section
open Go Go.K
attribute [local irreducible] aF aP bG KOp.wp K.Spec u32 leS vnS str aR dE bS idT aO aE aQ idN bB cH bY bT
theorem txO.off {B b:Nat} {M:List Nat} {w w':World} {ds:List Value} {t:Tx} (h:txO B ([b]++M) w ds t) (hb:b<B) (c:Chg [b] w w'):txO B M w' ds t:=by
 obtain ⟨iv,ov,rfl,o1,o2,o3⟩:=h
 have g1:=o1.base
 have g2:=o2.base
 have n1:b∉aB iv:=fun h=>by have:=g1 _ h;omega
 have n2:b∉aB ov:=fun h=>by have:=g2 _ h;omega
 exact ⟨iv,ov,rfl,o1.step c (by intro q hq;simp at hq;subst hq;exact ⟨n1,.inl (by simp)⟩) (fun _ h=>.inl (List.mem_append_right _ h)),o2.step c (by intro q hq;simp at hq;subst hq;exact ⟨n2,.inl (by simp)⟩) (fun _ h=>.inl (List.mem_append_right _ h)),o3⟩
theorem txO.lower {B B':Nat} {M:List Nat} {w:World} {ds:List Value} {t:Tx} (h:txO B M w ds t) (hb:B'≤B):txO B' M w ds t:=by
 obtain ⟨iv,ov,rfl,o1,o2,o3⟩:=h
 exact ⟨iv,ov,rfl,o1.lower hb,o2.lower hb,o3⟩
theorem txO.ext {B:Nat} {M:List Nat} {w w':World} {ds:List Value} {t:Tx} (h:txO B M w ds t) (c:Ext w w'):txO B M w' ds t:=by
 obtain ⟨iv,ov,rfl,o1,o2,o3⟩:=h
 exact ⟨iv,ov,rfl,o1.ext c,o2.ext c,o3⟩
theorem txO.one {B:Nat} {M:List Nat} {w:World} {ds:List Value} {t:Tx} (h:txO B M w ds t):ds.all (fun v=>v.oneCell')=true:=by
 obtain ⟨iv,ov,rfl,o1,o2,o3⟩:=h
 have e1:=o1.one
 have e2:=o2.one
 simp [aJ,e1,e2];exact ⟨rfl,rfl⟩
end
end Go.Proofs.YtgloknkcfchnlaaGreat
namespace Go.K
section
open Go
inductive Path (l:List Ent):Nat→Nat→Prop
 |one {i j:Nat}:i<l.length→j<l.length→aBc l i j=true→Path l i j
 |snoc {i k j:Nat}:Path l i k→k<l.length→j<l.length→aBc l k j=true→Path l i j
variable {l:List Ent}
theorem Path.lt {i j:Nat} (h:Path l i j):i<l.length:=by
 induction h with
 |one h _ _=>exact h
 |snoc _ _ _ _ ih=>exact ih
theorem Path.cons {i k j:Nat} (hi:i<l.length) (h:aBc l i k=true) (hp:Path l k j):Path l i j:=by
 induction hp with
 |one h1 h2 h3=>exact (Path.one hi h1 h).snoc h1 h2 h3
 |snoc _ h2 h3 h4 ih=>exact ih.snoc h2 h3 h4
theorem Path.trans {i k j:Nat} (h1:Path l i k) (h2:Path l k j):Path l i j:=by
 induction h2 with
 |one g1 g2 g3=>exact h1.snoc g1 g2 g3
 |snoc _ g2 g3 g4 ih=>exact ih.snoc g2 g3 g4
def aRb (l:List Ent) (t:Tx) (j:Nat):Bool:=bB (fun i=>oW t (eN l i)) (aBc l) l.length l.length j
def aCi (l:List Ent) (id:ByteArray) (j:Nat):Bool:=bB (fun i=>decide ((i:Int)=bT l id)) (fun k i=>aBc l i k) l.length l.length j
theorem bMd {j:Nat} (hn:(l.map (·.id)).Nodup) (hj:j<l.length):bT l l[j].id=j:=by
 unfold bT
 exact idxOf_hit hj (dTr rfl) (fun i hi=>dFa fun e=>by
  have:=mV hn (show i<l.length by omega) hj (by rw [cL (by omega),cL hj];exact e)
  omega)
theorem aBn {i j:Nat} (hn:(l.map (·.id)).Nodup) (hi:i<l.length) (hj:j<l.length):aCi l l[j].id i=true↔i=j∨Path l i j:=by
 have hf:=bMd hn hj
 constructor
 ·intro h
  refine sV (p:=fun i=>i=j∨Path l i j) (fun k hk h=>.inl ?_) (fun k m hk hm h1 h2=>.inr ?_) _ _ hi h
  ·have:=of_decide_eq_true h;rw [hf] at this;omega
  ·rcases h1 with rfl|h1
   ·exact .one hm hk h2
   ·exact Path.cons hm h2 h1
 ·have h0:aCi l l[j].id j=true:=vX hj (dTr hf.symm)
  rintro (rfl|h)
  ·exact h0
  ·have:∀{a m:Nat},Path l a m→aCi l l[j].id m=true→aCi l l[j].id a=true:=fun {a m} hp=>by
    induction hp with
    |one g1 g2 g3=>exact fun h=>lZ (k:=_) g1 g2 h g3
    |snoc h1 g2 g3 g4 ih=>exact fun h=>ih (lZ (k:=_) g2 g3 h g4)
   exact this h h0
theorem sX:∀{l:List Ent} {m:List Bool} {s:ByteArray},s∈aK l m↔∃i,∃h:i<l.length,m[i]? =some true∧l[i].id=s
 | [],m,s=>by
  have:aK [] m= []:=by cases m<;>rfl
  rw [this];simp
 |x::l, [],s=>by
  have:aK (x::l) []= []:=rfl
  rw [this];simp
 |x::l,b::m,s=>by
  have e:aK (x::l) (b::m)=if b then x.id::aK l m else aK l m:=rfl
  rw [e]
  constructor
  ·intro h
   by_cases hb:b=true
   ·rw [if_pos hb] at h
    rcases List.mem_cons.1 h with h|h
    ·exact ⟨0,by simp,by simp [hb],by simp [h]⟩
    ·obtain ⟨i,hi,h1,h2⟩:=sX.1 h
     exact ⟨i+1,by simp;omega,by simpa using h1,by simpa using h2⟩
   ·rw [if_neg hb] at h
    obtain ⟨i,hi,h1,h2⟩:=sX.1 h
    exact ⟨i+1,by simp;omega,by simpa using h1,by simpa using h2⟩
  ·rintro ⟨i,hi,h1,h2⟩
   cases i with
   |zero=>
    simp at h1 h2
    rw [if_pos h1,h2];simp
   |succ i=>
    have h3:s∈aK l m:=sX.2 ⟨i,by simpa using hi,by simpa using h1,by simpa using h2⟩
    split
    ·exact List.mem_cons_of_mem _ h3
    ·exact h3
theorem aLs {p:Nat→Bool} {j:Nat} (hn:(l.map (·.id)).Nodup) (hj:j<l.length):l[j].id∈aK l ((List.range l.length).map p)↔p j=true:=by
 rw [sX]
 constructor
 ·rintro ⟨i,hi,h1,h2⟩
  have:=mV hn hi hj (by rw [cL hi,cL hj];exact h2)
  subst this
  simpa [hi] using h1
 ·intro h
  exact ⟨j,hj,by simp [hj,h],rfl⟩
def inS (ids:List ByteArray) (s:ByteArray):Bool:=ids.any fun x=>decide (s=x)
theorem aXo {ids:List ByteArray} {s:ByteArray}:inS ids s=true↔s∈ids:=by
 unfold inS
 rw [List.any_eq_true]
 exact ⟨fun ⟨y,h1,h2⟩=>by rw [of_decide_eq_true h2];exact h1,fun h=>⟨s,h,dTr rfl⟩⟩
theorem bHf {i:Nat} (hn:(l.map (·.id)).Nodup) (hi:i<l.length):inS (aK l (cI l l[i].id)) l[i].id=true:=by
 have h2:l[i].id∈aK l (cI l l[i].id)↔aCi l l[i].id i=true:=aLs hn hi
 rw [aXo,h2,aBn hn hi hi]
 exact .inl rfl
end
section
open Go
def upI (q j:Nat):Nat:=if j<q then j else j+1
def dnI (q i:Nat):Nat:=if i<q then i else i - 1
theorem bCi {q i:Nat} (h:i≠q):upI q (dnI q i)=i:=by unfold upI dnI;split<;>(try split)<;>omega
theorem aV9 {q j n:Nat} (h:j<n - 1):upI q j<n:=by unfold upI;split<;>omega
theorem bEm {q i n:Nat} (hi:i<n) (hq:q<n) (h:i≠q):dnI q i<n - 1:=by unfold dnI;split<;>omega
theorem bCg {base base':Nat→Bool} {edge edge':Nat→Nat→Bool} {n q:Nat} (hq:q<n) (hb:∀j,j<n - 1→base' j=base (upI q j)) (he:∀k j,k<n - 1→j<n - 1→edge' k j=edge (upI q k) (upI q j))
  (ho:∀i,i<n→i≠q→bB base edge n n q=true→edge q i=false) {j:Nat} (hj:j<n - 1):bB base' edge' (n - 1) (n - 1) j=bB base edge n n (upI q j):=by
 rw [Bool.eq_iff_iff]
 constructor
 ·intro h
  refine sV (p:=fun j=>bB base edge n n (upI q j)=true) (fun i hi h=>?_) (fun k i hk hi h1 h2=>?_) _ _ hj h
  ·exact vX (aV9 hi) (by rw [←hb i hi];exact h)
  ·exact lZ (aV9 hi) (aV9 hk) h1 (by rw [←he k i hk hi];exact h2)
 ·intro h
  have:=sV (base:=base) (edge:=edge) (n:=n) (p:=fun i=>bB base edge n n i=true∧(i≠q→bB base' edge' (n - 1) (n - 1) (dnI q i)=true)) (fun i hi h=>⟨vX hi h,fun hne=>?_⟩) (fun k i hk hi h1 h2=>⟨lZ hi hk h1.1 h2,fun hne=>?_⟩) _ _ (aV9 hj) h
  ·have h1:=this.2 (by unfold upI;split<;>omega)
   have e:dnI q (upI q j)=j:=by unfold dnI upI;split<;>(try split)<;>omega
   rwa [e] at h1
  ·have hl:=bEm hi hq hne
   exact vX hl (by rw [hb _ hl,bCi hne];exact h)
  ·by_cases hkq:k=q
   ·subst hkq
    rw [ho i hi hne h1.1] at h2;cases h2
   ·have hl:=bEm hi hq hne
    have hl2:=bEm hk hq hkq
    exact lZ hl hl2 (h1.2 hkq) (by rw [he _ _ hl2 hl,bCi hne,bCi hkq];exact h2)
theorem bA7 {base base':Nat→Bool} {edge edge':Nat→Nat→Bool} {n q:Nat} (hq:q<n) (hb:∀j,j<n - 1→base' j=base (upI q j)) (he:∀k j,k<n - 1→j<n - 1→edge' k j=edge (upI q k) (upI q j))
  (ho:∀i,i<n→i≠q→bB base edge n n q=true→edge q i=false):nW base' edge' (n - 1)=(nW base edge n).eraseIdx q:=by
 apply List.ext_getElem
 ·rw [mZ,List.length_eraseIdx,mZ,if_pos hq]
 ·intro j h1 h2
  rw [mZ] at h1
  have e:=bCg hq hb he ho h1
  rw [List.getElem_eraseIdx]
  simp only [nW,List.getElem_map,List.getElem_range]
  rw [e]
  unfold upI
  split<;>rfl
theorem aMz:∀{l:List Ent} {m:List Bool} {q:Nat} (_:q<l.length) (h:q<m.length),m[q]=false→aK (l.eraseIdx q) (m.eraseIdx q)=aK l m
 |x::l,b::m,0,_,_,hb=>by simp only [List.getElem_cons_zero] at hb;subst hb;simp [aK]
 |x::l,b::m,q+1,hl,h,hb=>by
  have:=aMz (l:=l) (m:=m) (q:=q) (by simpa using hl) (by simpa using h) (by simpa using hb)
  simp only [List.eraseIdx_cons_succ,aK,this]
theorem aHm {l:List Ent} {q j:Nat} (h:j<l.length - 1):eN (l.eraseIdx q) j=eN l (upI q j):=by
 unfold eN
 rw [List.getD_eq_getElem?_getD,List.getD_eq_getElem?_getD,List.getElem?_eraseIdx]
 unfold upI
 split<;>rfl
end
section
open Go
def iW (f s:Int):Bool:=cD f&&decide (1≤s∧s≤1000000)
def bFb (f s o i:Int):Int:=if iW f s&&iW o i then (if f*i<o*s then -1 else if o*s<f*i then 1 else 0) else 0
def gZ:List Ent→List Bool→List Ent
 |x::l,b::m=>if b then gZ l m else x::gZ l m
 |l,_=>l
theorem jI:∀(l:List Ent) (m:List Bool),(gZ l m).Sublist l
 | [], []=>List.Sublist.slnil
 | [],_::_=>List.Sublist.slnil
 |_::_, []=>List.Sublist.refl _
 |x::l,b::m=>by
  rw [gZ]
  cases b
  ·exact (jI l m).cons_cons _
  ·exact (jI l m).cons _
theorem aVj:∀(l:List Ent) (m:List Bool),(gZ l m).length+(aK l m).length=l.length
 | [], []=>rfl
 | [],_::_=>rfl
 |_::_, []=>rfl
 |x::l,b::m=>by
  have:=aVj l m
  rw [gZ,aK,List.length_cons]
  cases b
  ·simp only [Bool.false_eq_true,if_false,List.length_cons];omega
  ·simp only [if_true,List.length_cons];omega
theorem aZl:∀(l:List Ent) (m:List Bool) {x:Ent},x∈l→x∈gZ l m∨x.id∈aK l m
 | [],_,_,h=>by cases h
 |_::_, [],_,h=>.inl h
 |y::l,b::m,x,h=>by
  rw [gZ,aK]
  rcases List.mem_cons.1 h with rfl|h
  ·cases b<;>simp
  ·rcases aZl l m h with h|h<;>cases b<;>simp [h]
theorem yW:∀(l:List Ent) (m:List Bool) {x:Ent},(l.map (·.id)).Nodup→x∈gZ l m→x.id∉aK l m
 | [],m,_,_,h=>by cases m<;>cases h
 |_::_, [],_,_,_=>by simp [aK]
 |y::l,b::m,x,hn,h=>by
  rw [List.map_cons,List.nodup_cons] at hn
  rw [gZ] at h
  rw [aK]
  cases b
  ·simp only [Bool.false_eq_true,if_false] at h ⊢
   rcases List.mem_cons.1 h with rfl|h
   ·exact fun e=>hn.1 ((lV l m).subset e)
   ·exact yW l m hn.2 h
  ·simp only [if_true] at h ⊢
   intro e
   rcases List.mem_cons.1 e with e|e
   ·exact hn.1 (by rw [←e];exact List.mem_map_of_mem ((jI l m).subset h))
   ·exact yW l m hn.2 h e
theorem aTb {x:Ent} {l:List Ent}:bT (x::l) x.id=0:=by
 unfold bT
 exact idxOf_hit (i:=0) (by simp) (dTr rfl) (fun j hj=>by omega)
theorem aTl {x:Ent} {l:List Ent} {s:ByteArray} (h:x.id≠s):bT (x::l) s=if bT l s<0 then -1 else bT l s+1:=by
 unfold bT idxOf
 rw [List.findIdx?_cons,if_neg (by simpa using h)]
 cases l.findIdx? fun x=>decide (x.id=s) with
 |none=>rfl
 |some i=>simp;omega
theorem aTk {x:Ent} {l:List Ent}:(cE (x::l) x.id).1=l:=by
 unfold cE
 rw [aTb,if_neg (by omega)];rfl
theorem aSx {x:Ent} {l:List Ent} {s:ByteArray} (h:x.id≠s):(cE (x::l) s).1=x::(cE l s).1:=by
 unfold cE
 rw [aTl h]
 by_cases h1:bT l s<0
 ·rw [if_pos h1,if_pos h1,if_pos (by omega)]
 ·rw [if_neg h1,if_neg h1,if_neg (by omega)]
  have:(bT l s+1).toNat=(bT l s).toNat+1:=by omega
  rw [this];rfl
def bK (l:List Ent) (ids:List ByteArray):List Ent:=ids.foldl (fun l s=>(cE l s).1) l
theorem uE {l:List Ent} {ids:List ByteArray} {i:Nat} (h:i<ids.length):bK l (ids.take (i+1))=(cE (bK l (ids.take i)) ids[i]).1:=by
 unfold bK
 rw [List.take_succ_eq_append_getElem h,List.foldl_append];rfl
theorem aJd:∀(ids:List ByteArray) {x:Ent} {l:List Ent},x.id∉ids→bK (x::l) ids=x::bK l ids
 | [],_,_,_=>rfl
 |s::ids,x,l,h=>by
  simp only [List.mem_cons,not_or] at h
  show bK (cE (x::l) s).1 ids=x::bK (cE l s).1 ids
  rw [aSx h.1,aJd ids h.2]
theorem aIj:∀(l:List Ent) (m:List Bool),(l.map (·.id)).Nodup→bK l (aK l m)=gZ l m
 | [], [],_=>rfl
 | [],_::_,_=>rfl
 |_::_, [],_=>rfl
 |x::l,b::m,hn=>by
  rw [List.map_cons,List.nodup_cons] at hn
  have ih:=aIj l m hn.2
  rw [aK,gZ]
  cases b
  ·simp only [Bool.false_eq_true,if_false]
   rw [aJd _ (fun e=>hn.1 ((lV l m).subset e)),ih]
  ·simp only [if_true]
   show bK (cE (x::l) x.id).1 (aK l m)=_
   rw [aTk,ih]
theorem bFh {l:List Ent} (hn:(l.map (·.id)).Nodup) (m:List Bool):((gZ l m).map (·.id)).Nodup:=((jI l m).map _).nodup hn
end
section
open Go Go.Proofs.YtgloknkcfchnlaaGreat
theorem bJa {l:List Ent} (h:(l.map (·.id)).Nodup) (m:List Bool):kI l (aK l m)=jR l m:=by
 unfold kI
 rw [bEc ((lV l m).nodup h)]
 exact (aT5 h m).1
theorem bGn {l:List Ent} {id:ByteArray} (h:eU l id=true):dV l id∈l∧(dV l id).id=id:=by
 unfold eU at h
 rw [←aEm,Option.isSome_iff_exists] at h
 obtain ⟨y,hy⟩:=h
 have h1:=List.mem_of_find?_eq_some hy
 have h2:=List.find?_some hy
 unfold dV
 rw [hy]
 exact ⟨h1,by simpa using h2⟩
theorem get_mem {l:List Ent} (hn:(l.map (·.id)).Nodup) {x:Ent} (hx:x∈l):eU l x.id=true∧dV l x.id=x:=by
 obtain ⟨i,hi,rfl⟩:=List.getElem_of_mem hx
 have h:=aIi hn hi
 unfold eU dV
 rw [←aEm,h]
 exact ⟨rfl,rfl⟩
theorem oJ {l:List Ent} {ids:List ByteArray}:(bK l ids).length≤l.length:=by
 unfold bK
 induction ids generalizing l with
 |nil=>exact Nat.le_refl _
 |cons s ids ih=>
  rw [List.foldl_cons]
  refine nTr ih ?_
  unfold cE
  split
  ·exact Nat.le_refl _
  ·rw [List.length_eraseIdx];split<;>omega
theorem Tx.Sz.sizeM {t:Tx} (h:t.Sz):1≤aO t∧aO t≤1000000:=by
 have a1:=h.e3 false
 have a2:=h.e3 true
 have a3:=h.witC t.ins.length
 rw [List.take_length] at a3
 have e1:(bS false t).size=(enc3 false t).size+4:=by
  unfold bS enc4
  simp only [Bool.false_eq_true,if_false,ByteArray.size_append,cQ]
  have h0:(⟨#[]⟩:ByteArray).size=0:=rfl
  omega
 have e2:(bS true t).size=(enc3 true t).size+(eM lA t.ins).size+4:=by
  unfold bS enc4
  simp only [if_true,ByteArray.size_append,cQ]
 unfold aO xV
 cases aOj t
 ·rw [e1];omega
 ·rw [e1,e2];omega
end
end Go.K
namespace Go.Proofs.YtgloknkcfchnlaaGreat
section
open Go Go.K
attribute [local irreducible] aF aP bG KOp.wp K.Spec u32 leS vnS str aR dE bS idT aO aE aQ idN bB cH bY bT cE eO
section
variable {P:Program} {d:Option Tmp} {r:KR} {K:Env→World→Prop} {ρ:Env} {w:World}
theorem tE {α:Type} {E:R α} {M:List Nat} {size:Nat} {x h:Operand} {v:Value} {l:List α} {kd:IntKind} {n:Nat} {m:Int} {w1:World} (hx:ev ρ x=v) (hh:ev ρ h=.int kd m) (hm:m=(n:Nat)) (hs:SlR E M w1 v l) (hn:n≤l.length) (hk:size=E.k)
  (k:∀v',SlR E M w1 v' (l.take n)→aF P r K (put ρ d v') w):aF P (.cons ⟨d,.sliceSl size x none (some h),none⟩ r) K ρ w:=by
 subst hm
 obtain ⟨css,h1,h2,h3⟩:=hs
 have hl:=h2.length
 refine bJ6 (E:=kA E.k E.pos) hx hh h1 (by rw [hl];exact hn) hk fun v' h4 h5=>k v' ⟨css.take n,h4,?_,fun hp b hb=>h3 (by rw [List.length_take] at hp;omega) b (h5 b hb)⟩
 have:=h2.take n
 exact All2.take n h2
end
end
end Go.Proofs.YtgloknkcfchnlaaGreat
namespace Go.K
section
open Go
theorem aNf {f s:Int}:iW f s=true↔(0≤f∧f≤2100000000000000)∧1≤s∧s≤1000000:=by
 unfold iW
 rw [Bool.and_eq_true,bN,decide_eq_true_eq]
theorem aY7 {f s:Int} (h:iW f s=true):∃F S:Nat,f=(F:Nat)∧s=(S:Nat)∧F≤2100000000000000∧1≤S∧S≤1000000:=by
 rw [aNf] at h
 exact ⟨f.toNat,s.toNat,by omega,by omega,by omega,by omega,by omega⟩
end
section
open Go Go.Proofs.YtgloknkcfchnlaaGreat
def gJ (t:Tx) (x:Ent):Bool:=x.tx.ins.any fun a=>t.ins.any fun b=>decide (a.p=b.p)
def bV (l:List Ent) (t:Tx):List Bool:=l.map (gJ t)
def orB (a b:List Bool):List Bool:=List.zipWith (·||·) a b
def evI (l:List Ent) (t:Tx):Nat→List Bool
 |0=>List.replicate l.length false
 |i+1=>if gJ t (eN l i)=true then orB (evI l t i) (cI l (eN l i).id) else evI l t i
def evL (l:List Ent) (t:Tx):List Bool:=evI l t l.length
def bNb (t:Tx):Bool:=t.ins.any fun x=>decide (x.q<4294967294)
def nU (l:List Ent) (x:Ent):Bool:=bNb x.tx||(aK l (bF l x.tx)).any fun s=>bNb (dV l s).tx
def gC (l:List Ent) (t:Tx):Bool:=t.ins.any fun b=>cV l b.p&&(inB (aK l (evL l t)) b.p.s||!inB (aK l (bV l t)) (aGa l b.p))
def jH (l:List Ent) (S n:Int) (ids:List ByteArray):Int:=ids.foldl (fun a s=>max a ((dV l s).fee*S / (dV l s).size+1)) n
def zY (l:List Ent) (t:Tx):Int:=jR l (evL l t)
def fY (l:List Ent) (t:Tx):Int:=jH l (aO t:Nat) (zY l t+(aO t:Nat)) (aK l (bV l t))
def aB8 (l:List Ent) (t:Tx) (fee:Int):Bool:=l.all (fun x=>!gJ t x||decide (bFb fee (aO t:Nat) x.fee x.size>0))&&(!l.any (gJ t)||decide (zY l t+(aO t:Nat)≤fee))
def dN (l:List Ent) (t:Tx) (fee:Int):Int:=
 if aE t≠0 then aE t
 else if cD fee=false then 3
 else if l.any (fun x=>gJ t x&&!nU l x)=true then 15
 else if l.any (gJ t)=false then 0
 else if (aK l (evL l t)).length>100 then 15
 else if gC l t=true then 15
 else if aB8 l t fee=true then 0 else 11
theorem aL5 {l:List Ent} {t:Tx}:l.length=(bV l t).length:=by simp [bV]
theorem bOo {a b:List Bool} (h:a.length=b.length):(orB a b).length=a.length:=by simp [orB,h]
theorem aJ6 {l:List Ent} {t:Tx}:∀i,(evI l t i).length=l.length
 |0=>by simp [evI]
 |i+1=>by
  rw [evI]
  split
  ·rw [bOo (by rw [aJ6 i];exact aPa _ _),aJ6 i]
  ·exact aJ6 i
theorem aCh {l:List Ent} {t:Tx}:l.length=(evL l t).length:=(aJ6 _).symm
theorem bOs {a b:List Bool} {k:Nat} (h:a.length=b.length):(orB a b)[k]? =some true↔a[k]? =some true∨b[k]? =some true:=by
 unfold orB
 rw [List.getElem?_zipWith]
 by_cases hk:k<a.length
 ·rw [List.getElem?_eq_getElem hk,List.getElem?_eq_getElem (by omega:k<b.length)]
  simp
 ·rw [List.getElem?_eq_none (by omega),List.getElem?_eq_none (by omega)];simp
theorem bIs {l:List Ent} {s:ByteArray} {k:Nat} (hk:k<l.length):(cI l s)[k]? =some true↔aCi l s k=true:=by
 have e:(cI l s)[k]? =some (aCi l s k):=by
  unfold cI nW
  rw [List.getElem?_map,List.getElem?_range hk];rfl
 rw [e];simp
theorem aOu {l:List Ent} {t:Tx} {k:Nat} (hk:k<l.length):∀{i:Nat},i≤l.length→((evI l t i)[k]? =some true↔∃j,∃h:j<l.length,j<i∧gJ t l[j]=true∧aCi l l[j].id k=true)
 |0,_=>by
  rw [evI,List.getElem?_replicate]
  simp
 |i+1,hi=>by
  have ih:=aOu (t:=t) hk (show i≤l.length by omega)
  have hil:i<l.length:=by omega
  rw [evI,cL hil]
  by_cases h:gJ t l[i]=true
  ·rw [if_pos h,bOs (by rw [aJ6];exact aPa _ _),ih,bIs hk]
   constructor
   ·rintro (⟨j,h1,h2,h3,h4⟩|h2)
    ·exact ⟨j,h1,by omega,h3,h4⟩
    ·exact ⟨i,hil,by omega,h,h2⟩
   ·rintro ⟨j,h1,h2,h3,h4⟩
    by_cases e:j=i
    ·subst e;exact .inr h4
    ·exact .inl ⟨j,h1,by omega,h3,h4⟩
  ·rw [if_neg h,ih]
   constructor
   ·rintro ⟨j,h1,h2,h3,h4⟩
    exact ⟨j,h1,by omega,h3,h4⟩
   ·rintro ⟨j,h1,h2,h3,h4⟩
    by_cases e:j=i
    ·subst e;exact absurd h3 h
    ·exact ⟨j,h1,by omega,h3,h4⟩
section
variable {l:List Ent} {t:Tx}
theorem sZ {s:ByteArray}:s∈aK l (bV l t)↔∃x∈l,gJ t x=true∧x.id=s:=by
 rw [sX]
 constructor
 ·rintro ⟨i,hi,h1,h2⟩
  refine ⟨l[i],gMe hi,?_,h2⟩
  unfold bV at h1
  rw [List.getElem?_map,List.getElem?_eq_getElem hi] at h1
  simpa using h1
 ·rintro ⟨x,hx,h1,h2⟩
  obtain ⟨i,hi,rfl⟩:=List.getElem_of_mem hx
  refine ⟨i,hi,?_,h2⟩
  unfold bV
  rw [List.getElem?_map,List.getElem?_eq_getElem hi]
  simpa using h1
theorem rO (hn:(l.map (·.id)).Nodup) {s:ByteArray} {k:Nat} (hk:k<l.length):l[k].id∈aK l (cI l s)↔aCi l s k=true:=aLs hn hk
theorem aSa (hn:(l.map (·.id)).Nodup) {s:ByteArray}:s∈aK l (evL l t)↔∃x∈l,gJ t x=true∧s∈aK l (cI l x.id):=by
 rw [sX]
 constructor
 ·rintro ⟨k,hk,h1,rfl⟩
  obtain ⟨j,h2,_,h3,h4⟩:=(aOu hk (Nat.le_refl _)).1 h1
  exact ⟨l[j],gMe h2,h3,(rO hn hk).2 h4⟩
 ·rintro ⟨x,hx,h1,h2⟩
  obtain ⟨j,hj,rfl⟩:=List.getElem_of_mem hx
  obtain ⟨k,hk,_,rfl⟩:=sX.1 h2
  exact ⟨k,hk,(aOu hk (Nat.le_refl _)).2 ⟨j,hj,hj,h1,(rO hn hk).1 h2⟩,rfl⟩
theorem bO0 (hn:(l.map (·.id)).Nodup) {x:Ent} (hx:x∈l) (h:gJ t x=true):x.id∈aK l (evL l t):=by
 obtain ⟨i,hi,rfl⟩:=List.getElem_of_mem hx
 exact (aSa hn).2 ⟨l[i],hx,h,aXo.1 (bHf hn hi)⟩
theorem bJq (h:l.any (gJ t)=false):aK l (bV l t)= []:=by
 rw [List.any_eq_false] at h
 refine bM9 fun b hb=>?_
 unfold bV at hb
 obtain ⟨x,hx,rfl⟩:=List.mem_map.1 hb
 simpa using h x hx
theorem aAp:(aK l (bV l t)).length=0↔l.any (gJ t)=false:=by
 constructor
 ·intro h
  rw [List.any_eq_false]
  intro x hx hh
  have:=sZ.2 ⟨x,hx,hh,rfl⟩
  have:=List.length_pos_of_mem this
  omega
 ·intro h;rw [bJq h];rfl
theorem bNo (hn:(l.map (·.id)).Nodup) (h:l.any (gJ t)=false):aK l (evL l t)= []:=by
 rw [List.eq_nil_iff_forall_not_mem]
 intro s hs
 obtain ⟨x,hx,h1,_⟩:=(aSa hn).1 hs
 rw [List.any_eq_false] at h
 exact h x hx h1
theorem bGz (hn:(l.map (·.id)).Nodup) {i j:Nat} (hi:i<l.length) (hj:j<l.length) (hp:Path l i j) (h:l[j].id∈aK l (evL l t)):l[i].id∈aK l (evL l t):=by
 obtain ⟨x,hx,h1,h2⟩:=(aSa hn).1 h
 obtain ⟨k,hk,rfl⟩:=List.getElem_of_mem hx
 refine (aSa hn).2 ⟨l[k],hx,h1,(rO hn hi).2 ?_⟩
 rw [rO hn hj,aBn hn hj hk] at h2
 rw [aBn hn hi hk]
 rcases h2 with rfl|h2
 ·exact .inr hp
 ·exact .inr (hp.trans h2)
end
theorem aW1 {l:List Ent} {S:Int}:∀{ids:List ByteArray} {n m:Int},jH l S n ids≤m↔n≤m∧∀s∈ids,(dV l s).fee*S / (dV l s).size+1≤m
 | [],n,m=>by simp [jH]
 |s::ids,n,m=>by
  have ih:=aW1 (l:=l) (S:=S) (ids:=ids) (n:=max n ((dV l s).fee*S / (dV l s).size+1)) (m:=m)
  unfold jH at ih ⊢
  rw [List.foldl_cons,ih]
  simp only [List.mem_cons,forall_eq_or_imp]
  constructor
  ·rintro ⟨h1,h2⟩;exact ⟨by omega,by omega,h2⟩
  ·rintro ⟨h1,h2,h3⟩;exact ⟨by omega,h3⟩
theorem bJn {l:List Ent} {S n:Int} {ids:List ByteArray} {i:Nat} (h:i<ids.length):jH l S n (ids.take (i+1))=max (jH l S n (ids.take i)) ((dV l ids[i]).fee*S / (dV l ids[i]).size+1):=by
 unfold jH
 rw [List.take_succ_eq_append_getElem h,List.foldl_append];rfl
theorem bH5 {l:List Ent} {S n:Int} {ids:List ByteArray}:n≤jH l S n ids:=(aW1.1 (Int.le_refl _)).1
theorem aZv {f s o i:Int} (h1:iW f s=true) (h2:iW o i=true):bFb f s o i>0↔o*s / i+1≤f:=by
 have h2':=h2
 unfold iW at h2'
 rw [Bool.and_eq_true,bN,decide_eq_true_eq] at h2'
 unfold bFb
 rw [h1,h2,Bool.and_self,if_pos rfl]
 have e:o*s / i+1≤f↔o*s<f*i:=by
  rw [←Int.ediv_lt_iff_lt_mul (by omega)];omega
 rw [e]
 split
 ·omega
 ·split<;>omega
end
end Go.K
namespace Go.Proofs.YtgloknkcfchnlaaGreat
section
open Go Go.K
attribute [local irreducible] aF aP bG KOp.wp K.Spec u32 leS vnS str aR dE bS idT aO aE aQ idN bB cH bY bT
theorem SlR.one1 {α:Type} {E:R α} {M:List Nat} {w:World} {b:Nat} {t:TypeId} {cs:List Value} {a:α} (h:At w b (.cells cs.toArray t (0,0))) (hr:E.rel M w cs a) (hb:b∉M):SlR E M w (.slice (some ⟨b,0,none⟩) 1 1) [a]:=
 ⟨[R.vec hr],SlE.new (E:=kA E.k E.pos) (l:= [R.vec hr]) (t:=t) (by have e:(kA E.k E.pos).flat [R.vec hr]=cs:=(by show cs++ []=cs;exact List.append_nil _);rw [e];exact h) rfl (Nat.le_refl _),.cons hr .nil,fun _ c hc hm=>by simp [aB] at hc;subst hc;exact hb hm⟩
theorem bCm {v u:Value} {l m:List ByteArray} (w:World) (hl:SlE bL w v l) (hm:SlE bL w u m) (he:l=m) (hn:l.length≤100000000):K.Spec Tryz.prog F.slices_Equal_L_string_string [v,u] w fun r w'=>r=.bool true∧Ext w w':=
 eZ (aHf w hl hm hn) fun r w' ⟨h1,h2⟩=>⟨by rw [h1,dTr he],h2⟩
end
section
open Go Go.K
attribute [local irreducible] aF aP bG KOp.wp K.Spec u32 leS vnS str aR dE bS idT aO aE aQ idN bB cH bY bT
end
section
open Go Go.K
attribute [local irreducible] aF aP bG KOp.wp K.Spec u32 leS vnS str aR dE bS idT aO aE aQ idN bB cH bY bT cE eO spends
end
end Go.Proofs.YtgloknkcfchnlaaGreat
namespace Go.K
section
open Go Go.Proofs.YtgloknkcfchnlaaGreat
section
variable {l:List Ent} {t:Tx}
abbrev bEb (l:List Ent):Prop:=∀x∈l,iW x.fee x.size=true
theorem bCk (hn:(l.map (·.id)).Nodup) (hp:bEb l) (hh:l.any (gJ t)=true) {f:Int} (hf:iW f (aO t:Nat)=true):aB8 l t f=true↔fY l t≤f:=by
 unfold aB8 fY
 rw [aW1,hh,Bool.and_eq_true,List.all_eq_true]
 simp only [Bool.not_true,Bool.false_or,decide_eq_true_eq,Bool.or_eq_true,Bool.not_eq_true']
 constructor
 ·rintro ⟨h1,h2⟩
  refine ⟨h2,fun s hs=>?_⟩
  obtain ⟨x,hx,h3,rfl⟩:=sZ.1 hs
  rw [(get_mem hn hx).2]
  rcases h1 x hx with h|h
  ·rw [h3] at h;cases h
  ·exact (aZv hf (hp x hx)).1 h
 ·rintro ⟨h1,h2⟩
  refine ⟨fun x hx=>?_,h1⟩
  by_cases h3:gJ t x=true
  ·have:=h2 x.id (sZ.2 ⟨x,hx,h3,rfl⟩)
   rw [(get_mem hn hx).2] at this
   exact .inr ((aZv hf (hp x hx)).2 this)
  ·exact .inl (by simpa using h3)
theorem bKg {c:Nat} {l:List Ent} (hl:∀x∈l,0≤x.fee∧x.fee≤c) (m:List Bool):0≤jR l m∧jR l m≤c*l.length:=by
 induction l generalizing m with
 |nil=>simp [jR]
 |cons x l ih=>cases m with
  |nil=>simp only [jR];exact ⟨Int.le_refl _,Int.mul_nonneg (by omega) (by omega)⟩
  |cons b m=>
   have h1:=ih (fun y hy=>hl y (List.mem_cons_of_mem _ hy)) m
   have h2:=hl x (by simp)
   simp only [jR,List.length_cons,Int.natCast_add,Int.mul_add]
   split<;>omega
theorem aQx {c:Nat} (hf:∀x∈l,0≤x.fee∧x.fee≤c):0≤zY l t∧zY l t≤c*l.length:=bKg hf _
theorem bJi (hg:0≤zY l t) (hs:1≤aO t):1≤fY l t:=by
 have h:=bH5 (l:=l) (S:=(aO t:Nat)) (n:=zY l t+(aO t:Nat)) (ids:=aK l (bV l t))
 unfold fY
 omega
theorem bEy (hn:(l.map (·.id)).Nodup) (hp:bEb l) (hh:l.any (gJ t)=true) {f need:Int} (hf:iW f (aO t:Nat)=true) (hneed:need=if cD (fY l t)=true then fY l t else 2100000000000001) (h0:0≤fY l t):
  (if f<need then (11:Int) else 0)=if aB8 l t f=true then 0 else 11:=by
 have h1:=bCk hn hp hh hf
 have h2:=(aNf.1 hf).1
 by_cases h3:fY l t≤f
 ·rw [if_pos (h1.2 h3),if_neg]
  rw [hneed,if_pos ((bN _).2 (by omega))];omega
 ·rw [if_neg (fun h=>h3 (h1.1 h)),if_pos]
  rw [hneed]
  split<;>omega
theorem bOq:(aK l (bV l t)).any (fun s=>!nU l (dV l s))=l.any fun x=>gJ t x&&!nU l (dV l x.id):=by
 rw [Bool.eq_iff_iff,List.any_eq_true,List.any_eq_true]
 constructor
 ·rintro ⟨s,hs,h⟩
  obtain ⟨x,hx,h3,rfl⟩:=sZ.1 hs
  exact ⟨x,hx,by rw [h3,h];rfl⟩
 ·rintro ⟨x,hx,h⟩
  rw [Bool.and_eq_true] at h
  exact ⟨x.id,sZ.2 ⟨x,hx,h.1,rfl⟩,h.2⟩
theorem aZi (hn:(l.map (·.id)).Nodup):(aK l (bV l t)).any (fun s=>!nU l (dV l s))=l.any fun x=>gJ t x&&!nU l x:=by
 rw [bOq,Bool.eq_iff_iff,List.any_eq_true,List.any_eq_true]
 constructor<;>rintro ⟨x,hx,h⟩<;>exact ⟨x,hx,by rw [(get_mem hn hx).2] at*;exact h⟩
theorem bFc {f:Int} (h:dN l t f=0):aE t=0∧cD f=true∧(l.any (gJ t)=false∨(l.any (gJ t)=true∧l.any (fun x=>gJ t x&&!nU l x)=false∧(aK l (evL l t)).length≤100∧gC l t=false∧aB8 l t f=true)):=by
 unfold dN at h
 by_cases h1:aE t=0
 ·rw [if_neg (by simpa using h1)] at h
  by_cases h2:cD f=true
  ·rw [if_neg (by simp [h2])] at h
   refine ⟨h1,h2,?_⟩
   by_cases h3:l.any (fun x=>gJ t x&&!nU l x)=true
   ·rw [if_pos h3] at h;omega
   ·rw [if_neg h3] at h
    by_cases h4:l.any (gJ t)=true
    ·rw [if_neg (by simp [h4])] at h
     refine .inr ⟨h4,by simpa using h3,?_⟩
     by_cases h5:(aK l (evL l t)).length>100
     ·rw [if_pos h5] at h;omega
     ·rw [if_neg h5] at h
      by_cases h6:gC l t=true
      ·rw [if_pos h6] at h;omega
      ·rw [if_neg h6] at h
       by_cases h7:aB8 l t f=true
       ·exact ⟨by omega,by simpa using h6,h7⟩
       ·rw [if_neg h7] at h;omega
    ·exact .inl (by simpa using h4)
  ·rw [if_pos (by simpa using h2)] at h;omega
 ·rw [if_pos h1] at h;exact absurd h h1
theorem bI9 (hn:(l.map (·.id)).Nodup) {x:Ent} (hx:x∈l) (h:oW t x=true):∃b∈t.ins,b.p.s=x.id∧cV l b.p=true:=by
 unfold oW at h
 obtain ⟨b,hb,h1⟩:=List.any_eq_true.1 h
 rw [Bool.and_eq_true,decide_eq_true_eq,decide_eq_true_eq] at h1
 refine ⟨b,hb,h1.1,?_⟩
 unfold cV
 rw [h1.1,(get_mem hn hx).1,(get_mem hn hx).2]
 exact dTr h1.2
theorem aV1 (hn:(l.map (·.id)).Nodup) (hf:gC l t=false) {x:Ent} (hx:x∈l) (h:oW t x=true):x.id∉aK l (evL l t):=by
 obtain ⟨b,hb,h1,h2⟩:=bI9 hn hx h
 unfold gC at hf
 rw [List.any_eq_false] at hf
 have h3:=hf b hb
 rw [h2,h1] at h3
 intro h4
 apply h3
 rw [bFs.2 h4];rfl
end
end
section
open Go Go.Proofs.YtgloknkcfchnlaaGreat
def bU (s:ByteArray) (i:Nat):Nat:=(s.data.toList.getD i 0).toNat
theorem bH0 (s:ByteArray) (i:Nat):bU s i<256:=(s.data.toList.getD i 0).toNat_lt
def cF (s:ByteArray) (a:Nat):Nat→Nat
 |0=>0
 |k+1=>bU s a+256*cF s (a+1) k
theorem iL (s:ByteArray):∀(k a:Nat),cF s a k<256^k
 |0,a=>by simp [cF]
 |k+1,a=>by
  have h1:=bH0 s a
  have h2:=iL s k (a+1)
  simp only [cF,Nat.pow_succ];omega
theorem aP5 (s:ByteArray):∀(k a:Nat),cF s a (k+1)=cF s a k+bU s (a+k)*256^k
 |0,a=>by simp [cF]
 |k+1,a=>by
  rw [cF,aP5 s k (a+1),cF,show a+1+k=a+(k+1) by omega,Nat.pow_succ,Nat.mul_add,Nat.add_assoc,Nat.mul_left_comm,Nat.mul_comm 256 (256^k)]
theorem bIr (s:ByteArray) (a:Nat):cF s a 2=bU s a+256*bU s (a+1):=by simp [cF]
structure Br where
 tag:Nat
 delay:Nat
 height:Nat
deriving DecidableEq
def aEn (s:ByteArray) (i:Nat):Br:=⟨cF s (1+8*i) 2,cF s (3+8*i) 2,cF s (5+8*i) 4⟩
structure BrOk (b:Br):Prop where
 tag:b.tag<65536
 delay:b.delay<65536
 height:b.height<4294967296
theorem bF9 (s:ByteArray) (i:Nat):BrOk (aEn s i):=⟨iL s 2 _,iL s 2 _,iL s 4 _⟩
def brE:Enc Br:=⟨fun b=> [.int .u16 (b.tag:Nat),.int .u16 (b.delay:Nat),.int .u32 (b.height:Nat)],3,fun _=>rfl,by decide,by
 intro x v hv
 simp at hv
 rcases hv with rfl|rfl|rfl<;>rfl⟩
def zV (s:ByteArray):Nat:=(s.size - 1) / 8
def kB (s:ByteArray):Bool:=(decide (s.size=9)||decide (s.size=17)||decide (s.size=25))&&decide (bU s 0=zV s)
def nL (s:ByteArray):List Br:=(List.range (zV s)).map (aEn s)
def aZk (b:Br):Bool:=decide (b.height≤1000000)
def dF (s:ByteArray):List Br:=if kB s&&(nL s).all aZk then nL s else []
def iT (l:List ByteArray):Option (Nat × Nat):=if l.length=1∧(l.headD default).size=3∧bU (l.headD default) 0<3 then some (bU (l.headD default) 0,cF (l.headD default) 1 2) else none
def dQ (s:ByteArray) (wit:List ByteArray):Option Br:=(iT wit).bind fun p=>((dF s)[p.1]?).bind fun b=>if b.tag=0∨b.tag=p.2 then some b else none
def gS (t:Tx) (x:TIn):Int:=if x.q<2147483648∧t.ver≥2 then x.q%65536 else 0
def iX (s:ByteArray) (t:Tx) (x:TIn):Int:=match dQ s x.wit with
 |none=>9
 |some b=>if gS t x<(b.delay:Int) then 10 else if b.height>0∧(t.lock<(b.height:Int)∨x.q=4294967295) then 10 else 0
def mA (n:Int):Bool:=decide (0≤n∧n≤1000000)
def jD (t:Tx) (x:TIn) (coin block:Int):Bool:=mA coin&&mA block&&decide (coin+gS t x≤block)&&(decide (t.lock<block)||t.ins.all fun y=>decide (y.q=4294967295))
def inE (v:Pt→Option Cn) (t:Tx) (h:Int) (x:TIn):Int:=match v x.p with
 |none=>8
 |some c=>if iX c.s t x≠0 then iX c.s t x else if jD t x c.h h then 0 else 10
def inV (v:Pt→Option Cn) (x:TIn):Int:=((v x.p).getD cn0).v
def dZ (v:Pt→Option Cn) (t:Tx) (h:Int):Int × Int × Int:=
 if aE t≠0 then (0,aE t, -1) else if aQ t then (0,4, -1) else
 match t.ins.findIdx? fun x=>decide (inE v t h x≠0) with
 |some i=>(0,inE v t h (t.ins.getD i default),(i:Nat))
 |none=>if lM (t.ins.map (inV v))≠0 then (0,lM (t.ins.map (inV v)), -1) else
  if fG (values t)>fG (t.ins.map (inV v)) then (0,12, -1) else (fG (t.ins.map (inV v)) - fG (values t),0, -1)
def aGz (y:TOut):Nat:=8+(vnS y.s.size).size+y.s.size
def aQm (y:TOut):Bool:=decide ((y.s.size:Int)≤40)&&decide (y.v<(((3000*(aGz y+67)+999) / 1000:Nat):Int))
def jN (t:Tx):Int:=idxOf aQm t.outs
def rC (l:List Ent) (h:Int) (p:Pt):Option Cn:=if cV l p then ((dV l p.s).tx.outs[p.i.toNat]?).map fun o=>⟨o.v,o.s,h⟩ else none
def gU (f:Pt→Option Cn) (l:List Ent) (h:Int) (p:Pt):Option Cn:=(f p).or (rC l h p)
def aV (f:Pt→Option Cn) (l:List Ent) (t:Tx) (h:Int):Int × Int × Int:=
 if aE t≠0 then (0,aE t, -1) else if eU l (idT t) then (0,7, -1) else
 if (dZ (gU f l h) t h).2.1≠0 then (0,(dZ (gU f l h) t h).2) else if 0≤jN t then (0,13,jN t) else ((dZ (gU f l h) t h).1,0, -1)
def dB (rate:Int) (size:Nat):Int:=((((min (max rate 1000) 100000000).toNat*size+999) / 1000:Nat):Int)
def pU (l:List Ent) (t:Tx):List Ent:=bK l (aK l (evL l t))
def dU (f:Pt→Option Cn) (l:List Ent) (t:Tx) (h rate:Int):Int × Int:=
 if (aV f l t h).2.1≠0 then (aV f l t h).2 else if (aV f l t h).1<dB rate (aO t) then (11, -1) else
 if dN l t (aV f l t h).1≠0 then (dN l t (aV f l t h).1, -1) else if gD (pU l t) t≠0 then (gD (pU l t) t, -1) else (0, -1)
def cG (f:Pt→Option Cn) (l:List Ent) (t:Tx) (h rate:Int):List ByteArray:=if (dU f l t h rate).1=0 then aK l (evL l t) else []
def cN (f:Pt→Option Cn) (l:List Ent) (t:Tx) (h rate:Int):List Ent:=if (dU f l t h rate).1=0 then (eO (pU l t) t (aV f l t h).1).1 else l
end
end Go.K
namespace Go.Proofs.YtgloknkcfchnlaaGreat
section
open Go Go.K
attribute [local irreducible] aF aP bG KOp.wp K.Spec u32 leS vnS str aR cF bU
theorem lO {s:ByteArray} {i:Nat} (h:i<s.size):bU s i=s[i].toNat:=by
 unfold bU
 rw [List.getD_eq_getElem?_getD,List.getElem?_eq_getElem (by simpa using h)]
 rfl
theorem bTa {n:Nat} (h:n<256^7):bZ .shl (.int .u64 (n:Nat)) (.int .u64 8)=some (.int .u64 ((n*256:Nat):Int)):=by
 simp only [bZ,dY,if_true]
 rw [if_neg (by decide)]
 show some (Value.int .u64 (IntKind.u64.wrap ((n:Int)*256)))=_
 rw [fT (by omega) (by omega)];rfl
theorem or8 {n b:Nat} (h:n<256^7) (hb:b<256):bZ .or (.int .u64 ((n*256:Nat):Int)) (.int .u64 (b:Nat))=some (.int .u64 ((b+256*n:Nat):Int)):=by
 simp only [bZ,dY,Bool.false_eq_true,if_false,if_true,dS,IntKind.bits]
 have e:(BitVec.ofInt 64 ((n*256:Nat):Int)|||BitVec.ofInt 64 (b:Nat)).toNat=b+256*n:=by
  rw [BitVec.toNat_or,BitVec.toNat_ofInt,BitVec.toNat_ofInt]
  rw [show (((n*256:Nat):Int)%((2^64:Nat):Int)).toNat=n<<<8 by rw [Nat.shiftLeft_eq];omega,show (((b:Nat):Int)%((2^64:Nat):Int)).toNat=b by omega]
  rw [←Nat.shiftLeft_add_eq_or_of_lt (by omega:b<2^8),Nat.shiftLeft_eq];omega
 exact (congrArg (fun x:Nat=>some (Value.int .u64 (IntKind.u64.wrap (x:Int)))) e).trans (congrArg (fun x=>some (Value.int .u64 x)) (fT (by omega) (by omega)))
set_option maxHeartbeats 400000 in
theorem bHz (s:ByteArray) (a k:Nat) (hk:k=1∨k=2∨k=4∨k=8) (hs:a+k≤s.size) (hm:s.size≤100000000) (w:World):K.Spec Tryz.prog F.octet_Get [.string s,.int .i64 (a:Nat),.int .i64 (k:Nat)] w fun r w'=>r=.tuple #[.int .u64 (cF s a k:Nat),.bool true]∧Ext w w':=by
 have hk8:k≤8:=by omega
 refine aYy rfl ?_
 unfold aNa
 refine oy ?_
 repeat' (first|refine go1 ?_|refine zg λ_ _=>?_|refine zi λ_ _=>?_|(refine zC (d:=some 11) rfl (aPz k hk _) ?_;rintro _ w1 ⟨rfl,x1⟩)|refine zJ (p:=(a:Int)<0) rfl (fun h=>absurd h (by omega)) (fun _=>?_)|refine zL (p:=(a:Int)>(s.size:Int) - (k:Int)) rfl (fun h=>absurd h (by omega)) (fun _=>?_)|(refine aI (fun (j:Nat) w'=>Ext w w'∧j≤k) (fun j=> [(0,.string s),(1,.int .i64 (a:Nat)),(8,.int .u64 (cF s (a+k - j) j:Nat)),(9,.int .i64 ((a:Int)+(k:Int) - 1 - (j:Int)))]) (fun j=>k - j) 0 ⟨rfl,rfl,(by unfold cF;rfl),congrArg (Value.int .i64) (by omega),trivial⟩ ⟨x1,by omega⟩ ?_;rintro j ρ w3 ⟨x3,hj⟩))
 refine zL (p:=(a:Int)+(k:Int) - 1 - (j:Int)≥(a:Int)) rfl (fun h=>?_) (fun h=>?_)
 ·have hjk:j<k:=by omega
  have hlt:=iL s j (a+k - j)
  have hp:256^j≤256^7:=Nat.pow_le_pow_right (by decide) (by omega)
  have hn7:cF s (a+k - j) j<256^7:=nLt hlt hp
  have hi:a+k - 1 - j<s.size:=by omega
  have hb:=s[a+k - 1 - j].toNat_lt
  have e:cF s (a+k - (j+1)) (j+1)=s[a+k - 1 - j].toNat+256*cF s (a+k - j) j:=by
   conv=>lhs;unfold cF
   rw [show a+k - (j+1)=a+k - 1 - j by omega,lO hi,show a+k - 1 - j+1=a+k - j by omega]
  generalize hN:cF s (a+k - j) j=n at hn7 e hlt ⊢
  generalize hB:s[a+k - 1 - j].toNat=b at hb e
  have f35:=bTa hn7
  have f40:=or8 hn7 hb
  repeat (first|refine aD (d:=some 35) (.int .u64 ((n*256:Nat):Int)) rfl f35 ?_|(refine jS (d:=some 38) (k:=.i64) (n:=a+k - 1 - j) rfl (congrArg (Value.int .i64) (by omega)) hi ?_;rw [hB])|refine aD (d:=some 39) (.int .u64 (b:Nat)) rfl (congrArg (fun n=>some (Value.int .u64 n)) (fT (by omega) (by omega))) ?_|refine aD (d:=some 40) (.int .u64 ((b+256*n:Nat):Int)) rfl f40 ?_|refine go1 ?_|refine zg λ_ _=>?_|refine zi λ_ _=>?_)
  exact ⟨j+1,⟨rfl,rfl,congrArg (fun n:Nat=>Value.int .u64 n) e.symm,congrArg (Value.int .i64) (by omega),trivial⟩,⟨x3,by omega⟩,by omega⟩
 ·have e:j=k:=by omega
  subst e
  repeat (first|refine go1 ?_|refine zg λ_ _=>?_|refine zi λ_ _=>?_)
  exact aA rfl ⟨congrArg (fun n:Nat=>Value.tuple #[.int .u64 (n:Int),.bool true]) (congrArg (fun z=>cF s z j) (show a+j - j=a by omega)),x3⟩
theorem yC (s:ByteArray) (a k:Nat) (hk:k=1∨k=2∨k=4∨k=8) (hs:a+k≤s.size) (hm:s.size≤100000000) (w:World):K.Spec Tryz.prog F.lock_number [.string s,.int .i64 (a:Nat),.int .i64 (k:Nat)] w fun r w'=>r=.int .u64 (cF s a k:Nat)∧Ext w w':=by
 refine aTi rfl ?_
 unfold aGx
 refine oy ?_
 repeat' (first|refine go1 ?_|refine zg λ_ _=>?_|refine zi λ_ _=>?_|(refine zC (d:=some 13) rfl (bHz s a k hk hs hm _) ?_;rintro _ w1 ⟨rfl,x1⟩))
 exact aA rfl ⟨rfl,x1⟩
end
section
open Go Go.K
attribute [local irreducible] aF aP bG KOp.wp K.Spec u32 leS vnS str aR cF bU
theorem bJf (n:Nat) (hn:n<18446744073709551616) (w:World):K.Spec Tryz.prog F.octet_Put [.int .u64 (n:Nat),.int .i64 1] w fun r w'=>r=.string (leS n 1)∧Ext w w':=aDm n 1 (by decide) hn w
theorem aUd (n:Nat) (hn:n<18446744073709551616) (w:World):K.Spec Tryz.prog F.octet_Put [.int .u64 (n:Nat),.int .i64 2] w fun r w'=>r=.string (leS n 2)∧Ext w w':=aDm n 2 (by decide) hn w
theorem bIe (n:Nat) (hn:n<18446744073709551616) (w:World):K.Spec Tryz.prog F.octet_Put [.int .u64 (n:Nat),.int .i64 4] w fun r w'=>r=.string (leS n 4)∧Ext w w':=aDm n 4 (by decide) hn w
def aI5 (l:List Br):Int:=if l.length<1∨3<l.length then 6 else if l.all aZk then 0 else 3
set_option maxHeartbeats 1000000 in
theorem bIq {v : Value} {l : List Br} (w : World) (hv : SlE brE w v l) (ho : ∀ b ∈ l, BrOk b) : K.Spec Tryz.prog F.lock_Put [v] w fun r w' => ∃ s, r = .tuple #[.string s, .int .i64 (aI5 l)] ∧ Ext w w' := by
  refine bFa rfl ?_
  unfold aO7
  refine oy ?_
  repeat' (first|refine aY (E := brE) (l := l) rfl (SlE.ext (w := w) (by exact fx) hv) ?_|refine zJ (p := ((l.length : Nat) : Int) < 1) rfl (fun h => ?_) (fun h => ?_)|refine zL (p := ((l.length : Nat) : Int) > 3) rfl (fun h => ?_) (fun h => ?_)|(refine zH (d := some 4) (fun b w0 x0 a0 hb0 => ?_); have hW : wJ b b ⟨#[]⟩ w0 := (Bld.new (Nat.le_refl _) a0))|refine aD (d := some 17) (.int .u64 (l.length : Nat)) rfl (congrArg (fun n => some (Value.int .u64 n)) (fT (by omega) (by omega))) ?_|(refine zC (d := some 18) rfl (bJf l.length (by omega) _) ?_; rintro _ w1 ⟨rfl, x1⟩)|(refine zC (d := some 19) rfl (gG (leS l.length 1) _ (by exact fx) (by decide) (by rw [cQ]; decide)) ?_; rintro _ w2 ⟨hW2, rW, hS⟩; have xW := rW.ext (w0 := w) (by exact fx) hb0; replace hS : ((⟨#[]⟩ : ByteArray) ++ leS l.length 1).size ≤ 2000000 := (nTr hS (by decide)); clear hW x0 x1)|(refine aI (fun (p : Nat × ByteArray) w' => Ext w w' ∧ p.1 ≤ l.length ∧ wJ b b p.2 w' ∧ p.2.size ≤ 2000000 + 1000000 * p.1 ∧ (l.take p.1).all aZk = true) (fun p => [(4, .pointer (some ⟨b, 0, none⟩)), (20, v), (21, .int .i64 (l.length : Nat)), (22, .int .i64 p.1)]) (fun p => l.length - p.1) (0, _) ⟨rfl, rfl, rfl, rfl, trivial⟩ ⟨by exact fx, by simp, by exact fx, by simpa using hS, by simp⟩ ?_; rintro ⟨i, s⟩ ρ w3 ⟨x3, hi, hW3, hS3, ha⟩; simp only at hi hW3 hS3 ha; dsimp only)|refine zL (p := ((i : Nat) : Int) < ((l.length : Nat) : Int)) rfl (fun h => ?_) (fun h => ?_)|refine go1 ?_|refine zg λ_ _=>?_|refine zi λ_ _=>?_)
  · exact aA rfl ⟨_, by rw [aI5, if_pos (by omega)]; rfl, by exact fx⟩
  · exact aA rfl ⟨_, by rw [aI5, if_pos (by omega)]; rfl, by exact fx⟩
  · have hil : i < l.length := by omega
    have hok := ho _ (gMe hil)
    have h1 := hok.tag
    have h2 := hok.delay
    have h3 := hok.height
    refine aS (d := some 24) (E := brE) rfl rfl (n := i) (l := l) (hv.ext x3) rfl hil (fun ad r4 => ?_)
    have r4 : Row w3 ad [.int .u16 (l[i].tag : Nat), .int .u16 (l[i].delay : Nat), .int .u32 (l[i].height : Nat)] := r4
    have hb3 : w.heap.size ≤ b := hb0
    repeat' (first|(refine zE (d' := 6) (fun _=>rfl) rfl rfl rfl (fun b6 w6 x6 a6 (r6 : Row w6 ⟨b6, 0, none⟩ [.int .u16 (l[i].tag : Nat), .int .u16 (l[i].delay : Nat), .int .u32 (l[i].height : Nat)]) hb6=>?_); have hne : b6 ≠ b := (by have := hW3.lt; omega))|refine go1 ?_|refine zg λ_ _=>?_|refine zi λ_ _=>?_)
    refine zL (p := ((l[i].height : Nat) : Int) > 1000000) rfl (fun h => ?_) (fun h => ?_)
    · repeat (first|refine go1 ?_|refine zg λ_ _=>?_|refine zi λ_ _=>?_)
      refine aA rfl ⟨⟨#[]⟩, ?_, Ext.trans x3 x6⟩
      have e : aI5 l = 3 := by
       rw [aI5, if_neg (by omega), if_neg]
       rw [List.all_eq_true]
       intro hall
       have := hall _ (gMe hil)
       unfold aZk at this
       have := of_decide_eq_true this
       omega
      rw [e]; rfl
    · have hlow : (l.take (i + 1)).all aZk = true := by
        rw [List.take_succ_eq_append_getElem hil, List.all_append, ha]
        simp only [List.all_cons, List.all_nil, Bool.and_true, Bool.true_and]
        exact dTr (by omega)
      have hW6 : wJ b b s w6 := hW3.ext x6
      have x06 : Ext w w6 := x3.trans x6
      clear hW3 hW2 x6 x3 r4 xW rW
      repeat' (first|refine zg (fun w7 x7 => ?_)|refine zA ?_|refine fD ?_ ?_|refine aD (d := some 31) (.int .u64 (l[i].tag : Nat)) rfl (congrArg (fun n => some (Value.int .u64 n)) (fT (by omega) (by omega))) ?_|refine aD (d := some 35) (.int .u64 (l[i].delay : Nat)) rfl (congrArg (fun n => some (Value.int .u64 n)) (fT (by omega) (by omega))) ?_|refine aD (d := some 40) (.int .u64 (l[i].height : Nat)) rfl (congrArg (fun n => some (Value.int .u64 n)) (fT (by omega) (by omega))) ?_|(refine zC (d := some 32) rfl (aUd l[i].tag (by omega) _) ?_; rintro _ w8 ⟨rfl, x8⟩)|(refine zC (d := some 36) rfl (aUd l[i].delay (by omega) _) ?_; rintro _ w9 ⟨rfl, x9⟩)|(refine zC (d := some 41) rfl (bIe l[i].height (by omega) _) ?_; rintro _ w10 ⟨rfl, x10⟩)|refine mE (d := some 37) rfl rfl (by rw [cQ, cQ]; decide) ?_|refine mE (d := some 42) rfl rfl (by rw [ByteArray.size_append, cQ, cQ, cQ]; decide) ?_|(refine zC (d := some 43) rfl (gG (leS l[i].tag 2 ++ leS l[i].delay 2 ++ leS l[i].height 4) _ (by exact fx) (by omega) (by rw [ByteArray.size_append, ByteArray.size_append, cQ, cQ, cQ]; decide)) ?_; rintro _ w11 ⟨hW11, rW11, hS11⟩; have xW11 := rW11.ext (w0 := w) (by exact fx) hb3)|refine go1 ?_|refine zg λ_ _=>?_|refine zi λ_ _=>?_)
      all_goals exact ⟨(i + 1, _), ⟨rfl, rfl, rfl, rfl, trivial⟩, ⟨xW11, hil, hW11, nTr hS11 (by omega), hlow⟩, by show l.length - (i + 1) < l.length - i; omega⟩
  · have ei : i = l.length := by omega
    subst ei
    rw [List.take_length] at ha
    repeat' (first|refine go1 ?_|refine zg λ_ _=>?_|refine zi λ_ _=>?_|(refine zC (d := some 45) rfl (aMe _ (by exact fx)) ?_; rintro _ w9 ⟨rfl, hW9, rW9⟩; have xW9 := rW9.ext (w0 := w) (by exact fx) hb0))
    exact aA rfl ⟨_, by rw [aI5, if_neg (by omega), if_pos ha]; rfl, by exact fx⟩
end
section
open Go Go.K
attribute [local irreducible] aF aP bG KOp.wp K.Spec u32 leS vnS str aR cF bU
theorem aPx {s:ByteArray} (h:¬(s.size=1+8*bU s 0∧bU s 0≤3)):dF s= []:=by
 unfold dF
 rw [if_neg]
 intro h2
 apply h
 simp only [kB,Bool.and_eq_true,Bool.or_eq_true,decide_eq_true_eq] at h2
 obtain ⟨⟨h3,h4⟩,_⟩:=h2
 have h4:bU s 0=(s.size - 1) / 8:=h4
 omega
theorem bLc {s:ByteArray} (h:s.size=1+8*bU s 0) (h3:bU s 0≤3):zV s=bU s 0∧dF s=if aI5 (nL s)=0 then nL s else []:=by
 have hn:zV s=bU s 0:=by unfold zV;omega
 refine ⟨hn,?_⟩
 have hl:(nL s).length=bU s 0:=by simp [nL,hn]
 unfold dF aI5
 by_cases h0:bU s 0=0
 ·have e:kB s=false:=by
   cases hf:kB s with
   |false=>rfl
   |true=>
    simp only [kB,Bool.and_eq_true,Bool.or_eq_true,decide_eq_true_eq] at hf
    omega
  rw [e,if_pos (by omega:(nL s).length<1∨3<(nL s).length)];rfl
 ·have hf:kB s=true:=by
   simp only [kB,Bool.and_eq_true,Bool.or_eq_true,decide_eq_true_eq]
   omega
  rw [hf,Bool.true_and,if_neg (by omega:¬((nL s).length<1∨3<(nL s).length))]
  cases hb:(nL s).all aZk<;>rfl
theorem aYj {s:ByteArray} {i:Nat}:(List.range (i+1)).map (aEn s)=(List.range i).map (aEn s)++ [aEn s i]:=by rw [List.range_succ,List.map_append];rfl
theorem aD9 {n:Nat} (h:n<65536):IntKind.u16.wrap (n:Int)=(n:Int):=by show (n:Int)%65536=n;omega
theorem aSq {n:Nat} (h:n<4294967296):IntKind.u32.wrap (n:Int)=(n:Int):=by show (n:Int)%4294967296=n;omega
theorem bGv {P:Program} {d:Option Tmp} {r:KR} {K:Env→World→Prop} {ρ:Env} {w:World} {α:Type} {E:Enc α} {size:Nat} {x i:Operand} {v:Value} {l:List α} {kd:IntKind} {n:Nat} (hx:ev ρ x=v) (hi:ev ρ i=.int kd (n:Nat)) (hs:SlE E w v l) (hk:size=E.k) (hr:n<l.length) (k:∀ad,Row w ad (E.f l[n])→ad.block∈aB v→aF P r K (put ρ d (.pointer (some ad))) w):aF P (.cons ⟨d,.indexAddr size x i,none⟩ r) K ρ w:=by
 subst hk
 obtain ⟨a,cap,hv,hrow⟩:=Sl.at_ hs E.pos hr
 subst hv
 exact dH rfl (by simp [KOp.fix,hx,hi,hr]) (k (a.add (n*E.k)) (by rw [E.flat_at l n hr] at hrow;exact hrow) (by simp [aB,add_block]))
set_option maxHeartbeats 1000000 in
theorem bHx (s:ByteArray) (hm:s.size≤1000000) (w:World):K.Spec Tryz.prog F.lock_Get [.string s] w fun r w'=>∃v e,r=.tuple #[v,.int .i64 e]∧SlE brE w' v (dF s)∧(e≠0→dF s= [])∧(∀b∈aB v,w.heap.size≤b)∧Ext w w':=by
 refine bFl rfl ?_
 unfold aRf
 refine oy ?_
 by_cases h0:s=⟨#[]⟩
 ·have hb:dF s= []:=aPx (by subst h0;have:(⟨#[]⟩:ByteArray).size=0:=rfl;omega)
  rw [hb]
  repeat' (first|refine aD (d:=some 9) (.bool true) rfl (congrArg (fun b=>some (Value.bool b)) (dTr h0)) ?_|refine go1 ?_|refine zg λ_ _=>?_|refine zi λ_ _=>?_)
  exact aA rfl ⟨.slice none 0 0,_,rfl,SlE.nil _,fun _=>rfl,(fun b hb=>absurd hb (by simp [aB])),Ext.refl _⟩
 have hsz:0<s.size:=by
  rcases Nat.eq_zero_or_pos s.size with h|h
  ·exact absurd (ByteArray.ext (Array.eq_empty_of_size_eq_zero (by simpa using h))) h0
  ·exact h
 have hb0:=lO hsz
 have hb8:=s[0].toNat_lt
 obtain ⟨n,hn⟩:∃n:Nat,n=s[0].toNat:=⟨_,rfl⟩
 rw [←hn] at hb0 hb8
 have pre:s.size=1+8*bU s 0∧bU s 0≤3∨¬(s.size=1+8*bU s 0∧bU s 0≤3):=by omega
 repeat' (first|refine aD (d:=some 9) (.bool false) rfl (congrArg (fun b=>some (Value.bool b)) (dFa h0)) ?_|(refine jS (d:=some 12) (k:=.i64) (n:=0) rfl rfl hsz ?_;rw [←hn])|refine aD (d:=some 13) (.int .i64 (n:Nat)) rfl (congrArg (fun n=>some (Value.int .i64 n)) (uA (by omega))) ?_|refine zJ (p:=((n:Nat):Int)>3) rfl (fun h=>?_) (fun h=>?_)|(refine jS (d:=some 20) (k:=.i64) (n:=0) rfl rfl hsz ?_;rw [←hn])|refine aD (d:=some 21) (.int .i64 (n:Nat)) rfl (congrArg (fun n=>some (Value.int .i64 n)) (uA (by omega))) ?_|refine tH (d:=some 22) (a:=8) (b:=(n:Nat)) rfl rfl (by omega) ?_|refine zN (p:=((s.size:Nat):Int)=1+8*((n:Nat):Int)) rfl (fun h=>?_) (fun h=>?_)|(refine aI (fun (p:Nat × Value) w'=>Ext w w'∧p.1≤n∧Own brE T.api_Branch w.heap.size w' p.2 ((List.range p.1).map (aEn s))) (fun p=> [(0,.string s),(4,p.2),(5,.int .i64 (1+8*(p.1:Int)))]) (fun p=>n - p.1) (0,.slice none 0 0) ⟨rfl,rfl,rfl,trivial⟩ ⟨Ext.refl _,by simp,Own.nil _ _ _⟩ ?_;rintro ⟨i,v4⟩ ρ w3 ⟨x3,hi,ho⟩;simp only at hi ho;dsimp only)|refine zL (p:=1+8*((i:Nat):Int)<((s.size:Nat):Int)) rfl (fun h=>?_) (fun h=>?_)|refine go1 ?_|refine zg λ_ _=>?_|refine zi λ_ _=>?_)
 ·rw [aPx (by omega)]
  exact aA rfl ⟨.slice none 0 0,_,rfl,SlE.nil _,fun _=>rfl,(fun b hb=>absurd hb (by simp [aB])),Ext.refl _⟩
 ·rw [aPx (by omega)]
  exact aA rfl ⟨.slice none 0 0,_,rfl,SlE.nil _,fun _=>rfl,(fun b hb=>absurd hb (by simp [aB])),Ext.refl _⟩
 ·have hin:i<n:=by omega
  have q1:=iL s 2 (1+8*i)
  have q2:=iL s 2 (3+8*i)
  have q3:=iL s 4 (5+8*i)
  repeat' (first|(refine zC (d:=some 35) (congrArg (fun z=> [Value.string s,Value.int .i64 z,Value.int .i64 2]) (by omega)) (yC s (1+8*i) 2 (by decide) (by omega) (by omega) _) ?_;rintro _ w4 ⟨rfl,x4⟩)|refine aD (d:=some 36) (.int .u16 (cF s (1+8*i) 2:Nat)) rfl (congrArg (fun n=>some (Value.int .u16 n)) (aD9 q1)) ?_|(refine zC (d:=some 40) (congrArg (fun z=> [Value.string s,Value.int .i64 z,Value.int .i64 2]) (by omega)) (yC s (3+8*i) 2 (by decide) (by omega) (by omega) _) ?_;rintro _ w5 ⟨rfl,x5⟩)|refine aD (d:=some 41) (.int .u16 (cF s (3+8*i) 2:Nat)) rfl (congrArg (fun n=>some (Value.int .u16 n)) (aD9 q2)) ?_|(refine zC (d:=some 45) (congrArg (fun z=> [Value.string s,Value.int .i64 z,Value.int .i64 4]) (by omega)) (yC s (5+8*i) 4 (by decide) (by omega) (by omega) _) ?_;rintro _ w6 ⟨rfl,x6⟩)|refine aD (d:=some 46) (.int .u32 (cF s (5+8*i) 4:Nat)) rfl (congrArg (fun n=>some (Value.int .u32 n)) (aSq q3)) ?_|refine aT (d:=some 47) (cs:=brE.f (aEn s i)) rfl ?_|refine zI (d:=some 48) (cs:=brE.f (aEn s i)) rfl (fun b9 w9 x9 a9 hb9=>?_)|refine cA (d:=some 49) (E:=brE) (v:=v4) (l2:= [aEn s i]) rfl (ho.ext (by exact fx)) (Ext.size (w:=w) (by exact fx)) rfl rfl (dX a9 rfl) rfl rfl (by simp;omega) (fun v10 w10 o10 c10=>?_)|refine go1 ?_|refine zg λ_ _=>?_|refine zi λ_ _=>?_)
  exact ⟨(i+1,v10),⟨rfl,rfl,congrArg (Value.int .i64) (by simp only;omega),trivial⟩,⟨(Ext.chg (w:=w) (by exact fx) c10).mono (fun b hb=>.inr (ho.base b hb)),by simp only;omega,by simp only;rw [aYj];exact o10⟩,by simp only;omega⟩
 ·have ei:i=n:=by omega
  subst ei
  have hp:=bLc (s:=s) (by omega) (by omega)
  have hl:(List.range i).map (aEn s)=nL s:=by unfold nL;rw [hp.1,hb0]
  rw [hl] at ho
  have hok:∀b∈nL s,BrOk b:=fun b hb=>by
   unfold nL at hb
   obtain ⟨j,_,rfl⟩:=List.mem_map.1 hb
   exact bF9 s j
  rw [hp.2]
  repeat' (first|(refine zC (d:=some 52) rfl (bIq _ (SlE.ext (w:=w3) (by exact fx) ho.sl) hok) ?_;rintro _ w4 ⟨z,rfl,x4⟩)|refine zN (p:=aI5 (nL s)=0) rfl (fun h=>?_) (fun h=>?_)|refine go1 ?_|refine zg λ_ _=>?_|refine zi λ_ _=>?_)
  ·rw [if_neg h]
   exact aA rfl ⟨.slice none 0 0,_,rfl,SlE.nil _,fun _=>rfl,(fun b hb=>absurd hb (by simp [aB])),by exact fx⟩
  ·rw [if_pos h]
   exact aA rfl ⟨_,_,rfl,SlE.ext x4 ho.sl,fun he=>absurd rfl he,ho.base,by exact fx⟩
def aAa (l:List ByteArray):Value:=match iT l with
 |some (a,t)=>.tuple #[.int .i64 (a:Nat),.int .u16 (t:Nat),.int .i64 0]
 |none=>.tuple #[.int .i64 0,.int .u16 0,.int .i64 4]
theorem aZ7 {v:Value} {l:List ByteArray} (w:World) (hv:SlE bL w v l) (hz:∀z∈l,z.size≤1000000):K.Spec Tryz.prog F.lock_Signed [v] w fun r w'=>r=aAa l∧Ext w w':=by
 refine aS1 rfl ?_
 unfold aGg
 refine oy ?_
 by_cases h1:l.length=1
 ·obtain ⟨z,rfl⟩:∃z,l= [z]:=by
   match l,h1 with
   | [z],_=>exact ⟨z,rfl⟩
  have hzm:=hz z (by simp)
  by_cases h3:z.size=3
  ·have hb0:=lO (s:=z) (i:=0) (by omega)
   have hb8:=z[0].toNat_lt
   obtain ⟨n,hn⟩:∃n:Nat,n=z[0].toNat:=⟨_,rfl⟩
   rw [←hn] at hb0 hb8
   have q1:=iL z 2 1
   by_cases h4:n<3
   ·have e:aAa [z]=.tuple #[.int .i64 (n:Nat),.int .u16 (cF z 1 2:Nat),.int .i64 0]:=by
     unfold aAa iT
     rw [if_pos ⟨rfl,h3,by show bU z 0<3;omega⟩]
     show Value.tuple #[.int .i64 (bU z 0:Nat),_,_]=_
     rw [hb0];rfl
    rw [e]
    repeat' (first|refine aY (d:=some 6) (E:=bL) (l:= [z]) rfl (SlE.ext (w:=w) (by exact fx) hv) ?_|refine aD (d:=some 7) (.bool false) rfl rfl ?_|(refine aS (d:=some 10) (E:=bL) rfl rfl (n:=0) (l:= [z]) (SlE.ext (w:=w) (by exact fx) hv) rfl (by simp) (fun ad r4=>?_);have r4:Row _ ad [Value.string z]:=r4)|(refine aD (d:=some 13) (.bool false) rfl (by show some (Value.bool (!decide (((z.size:Nat):Int)=3)))=_;rw [dTr (by omega)];rfl) ?_)|(refine aS (d:=some 17) (E:=bL) rfl rfl (n:=0) (l:= [z]) (SlE.ext (w:=w) (by exact fx) hv) rfl (by simp) (fun ad r5=>?_);have r5:Row _ ad [Value.string z]:=r5)|(refine jS (d:=some 19) (k:=.i64) (n:=0) rfl rfl (by omega) ?_;rw [←hn])|refine aD (d:=some 20) (.bool false) rfl (congrArg (fun b=>some (Value.bool b)) (dFa (by omega))) ?_|refine zg (fun w7 x7=>?_)|refine fD ?_ ?_|(refine aS (d:=some 23) (E:=bL) rfl rfl (n:=0) (l:= [z]) (SlE.ext (w:=w) (by exact fx) hv) rfl (by simp) (fun ad r6=>?_);have r6:Row _ ad [Value.string z]:=r6)|(refine aS (d:=some 28) (E:=bL) rfl rfl (n:=0) (l:= [z]) (SlE.ext (w:=w) (by exact fx) hv) rfl (by simp) (fun ad r7=>?_);have r7:Row _ ad [Value.string z]:=r7)|(refine jS (d:=some 25) (k:=.i64) (n:=0) rfl rfl (by omega) ?_;rw [←hn])|refine aD (d:=some 26) (.int .i64 (n:Nat)) rfl (congrArg (fun n=>some (Value.int .i64 n)) (uA (by omega))) ?_|(refine zC (d:=some 30) rfl (yC z 1 2 (by decide) (by omega) (by omega) _) ?_;rintro _ w8 ⟨rfl,x8⟩)|refine aD (d:=some 31) (.int .u16 (cF z 1 2:Nat)) rfl (congrArg (fun n=>some (Value.int .u16 n)) (aD9 q1)) ?_|refine go1 ?_|refine zg λ_ _=>?_|refine zi λ_ _=>?_)
    all_goals exact aA rfl ⟨rfl,by exact fx⟩
   ·have e:aAa [z]=.tuple #[.int .i64 0,.int .u16 0,.int .i64 4]:=by
     unfold aAa iT
     rw [if_neg]
     rintro ⟨_,_,h⟩
     have h:bU z 0<3:=h
     omega
    rw [e]
    repeat' (first|refine aY (d:=some 6) (E:=bL) (l:= [z]) rfl (SlE.ext (w:=w) (by exact fx) hv) ?_|refine aD (d:=some 7) (.bool false) rfl rfl ?_|(refine aS (d:=some 10) (E:=bL) rfl rfl (n:=0) (l:= [z]) (SlE.ext (w:=w) (by exact fx) hv) rfl (by simp) (fun ad r4=>?_);have r4:Row _ ad [Value.string z]:=r4)|(refine aD (d:=some 13) (.bool false) rfl (by show some (Value.bool (!decide (((z.size:Nat):Int)=3)))=_;rw [dTr (by omega)];rfl) ?_)|(refine aS (d:=some 17) (E:=bL) rfl rfl (n:=0) (l:= [z]) (SlE.ext (w:=w) (by exact fx) hv) rfl (by simp) (fun ad r5=>?_);have r5:Row _ ad [Value.string z]:=r5)|(refine jS (d:=some 19) (k:=.i64) (n:=0) rfl rfl (by omega) ?_;rw [←hn])|refine aD (d:=some 20) (.bool true) rfl (congrArg (fun b=>some (Value.bool b)) (dTr (by omega))) ?_|refine go1 ?_|refine zg λ_ _=>?_|refine zi λ_ _=>?_)
    exact aA rfl ⟨rfl,by exact fx⟩
  ·have e:aAa [z]=.tuple #[.int .i64 0,.int .u16 0,.int .i64 4]:=by
    unfold aAa iT
    rw [if_neg]
    rintro ⟨_,h,_⟩
    exact h3 h
   rw [e]
   repeat' (first|refine aY (d:=some 6) (E:=bL) (l:= [z]) rfl (SlE.ext (w:=w) (by exact fx) hv) ?_|refine aD (d:=some 7) (.bool false) rfl rfl ?_|(refine aS (d:=some 10) (E:=bL) rfl rfl (n:=0) (l:= [z]) (SlE.ext (w:=w) (by exact fx) hv) rfl (by simp) (fun ad r4=>?_);have r4:Row _ ad [Value.string z]:=r4)|(refine aD (d:=some 13) (.bool true) rfl (by show some (Value.bool (!decide (((z.size:Nat):Int)=3)))=_;rw [dFa (by omega)];rfl) ?_)|refine go1 ?_|refine zg λ_ _=>?_|refine zi λ_ _=>?_)
   exact aA rfl ⟨rfl,by exact fx⟩
 ·have e:aAa l=.tuple #[.int .i64 0,.int .u16 0,.int .i64 4]:=by
   unfold aAa iT
   rw [if_neg]
   rintro ⟨h,_⟩
   exact h1 h
  rw [e]
  repeat' (first|refine aY (d:=some 6) (E:=bL) (l:=l) rfl (SlE.ext (w:=w) (by exact fx) hv) ?_|(refine aD (d:=some 7) (.bool true) rfl (by show some (Value.bool (!decide (((l.length:Nat):Int)=1)))=_;rw [dFa (by omega)];rfl) ?_)|refine go1 ?_|refine zg λ_ _=>?_|refine zi λ_ _=>?_)
  exact aA rfl ⟨rfl,by exact fx⟩
end
section
open Go Go.K
theorem bFf (x y:Nat) (hx:x<18446744073709551616) (hy:y<18446744073709551616) (w:World):K.Spec Tryz.prog F.math_bits_Mul64 [.int .u64 (x:Nat),.int .u64 (y:Nat)] w fun v w'=>v=.tuple #[.int .u64 ((x*y / 18446744073709551616:Nat):Int),.int .u64 ((x*y%18446744073709551616:Nat):Int)]∧Ext w w':=
 (Tryz.bits_Mul64 x y hx hy w).mono fun e w' ⟨he,hw⟩=>⟨_,he,rfl,by rw [hw];exact Ext.refl _⟩
attribute [local irreducible] aF aP bG KOp.wp K.Spec u32 leS vnS str aR dE
def aAj:Enc Int:=⟨fun n=> [.int .i64 n],1,fun _=>rfl,by decide,by intro x v hv;simp at hv;subst hv;rfl⟩
theorem bMu {n:Nat} (h:n≤2100000000000000):IntKind.u64.wrap (n:Int)=(n:Nat):=by
 have e:∀m:Int,IntKind.u64.wrap m=m%18446744073709551616:=fun _=>rfl
 rw [e];omega
end
end Go.Proofs.YtgloknkcfchnlaaGreat
namespace Go.K
section
open Go
variable {l:List Ent}
end
end Go.K
