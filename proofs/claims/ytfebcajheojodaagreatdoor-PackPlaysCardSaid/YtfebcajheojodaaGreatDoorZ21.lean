/- Plain: what the walks of trimming lean on. Plain: transactio -/
import Derived.Test.YtfebcajheojodaaGreatDoorZ20
set_option linter.unusedVariables false
set_option linter.unusedSimpArgs false
namespace Go.K
section
open Go Go.Proofs.YtfebcajheojodaaGreatDoor
theorem bEc {l:List Ent} (h:(l.map (·.id)).Nodup) (m:List Bool):iC l (aM l m)=dN l m:=by
 unfold iC
 rw [aQx ((jJ l m).nodup h)]
 exact (aKx h m).1
theorem bDg {l:List Ent} {id:ByteArray} (h:dO l id=true):dR l id∈l∧(dR l id).id=id:=by
 unfold dO at h
 rw [←aB6,Option.isSome_iff_exists] at h
 obtain ⟨y,hy⟩:=h
 have h1:=List.mem_of_find?_eq_some hy
 have h2:=List.find?_some hy
 unfold dR
 rw [hy]
 exact ⟨h1,by simpa using h2⟩
theorem get_mem {l:List Ent} (hn:(l.map (·.id)).Nodup) {x:Ent} (hx:x∈l):dO l x.id=true∧dR l x.id=x:=by
 obtain ⟨i,hi,rfl⟩:=List.getElem_of_mem hx
 have h:=aIn hn hi
 unfold dO dR
 rw [←aB6,h]
 exact ⟨rfl,rfl⟩
theorem wA {l:List Ent} {ids:List ByteArray}:(bU l ids).length≤l.length:=by
 unfold bU
 induction ids generalizing l with
 |nil=>exact Nat.le_refl _
 |cons s ids ih=>
  rw [List.foldl_cons]
  refine nTr ih ?_
  unfold cA
  split
  ·exact Nat.le_refl _
  ·rw [List.length_eraseIdx];split<;>omega
theorem Tx.Sz.sizeM {t:Tx} (h:t.Sz):1≤aR t∧aR t≤1000000:=by
 have a1:=h.e3 false
 have a2:=h.e3 true
 have a3:=h.witC t.ins.length
 rw [List.take_length] at a3
 have e1:(cD false t).size=(enc3 false t).size+4:=by
  unfold cD enc4
  simp only [Bool.false_eq_true,if_false,ByteArray.size_append,cR]
  have h0:(⟨#[]⟩:ByteArray).size=0:=rfl
  omega
 have e2:(cD true t).size=(enc3 true t).size+(eC kG t.ins).size+4:=by
  unfold cD enc4
  simp only [if_true,ByteArray.size_append,cR]
 unfold aR lX
 cases aIb t
 ·rw [e1];omega
 ·rw [e1,e2];omega
end
section
open Go Go.Proofs.YtfebcajheojodaaGreatDoor
def cE (t:Tx) (x:Ent):Bool:=x.tx.ins.any fun a=>t.ins.any fun b=>decide (a.p=b.p)
def bC (l:List Ent) (t:Tx):List Bool:=l.map (cE t)
def orB (a b:List Bool):List Bool:=List.zipWith (·||·) a b
def evI (l:List Ent) (t:Tx):Nat→List Bool
 |0=>List.replicate l.length false
 |i+1=>if cE t (cP l i)=true then orB (evI l t i) (bA l (cP l i).id) else evI l t i
def evL (l:List Ent) (t:Tx):List Bool:=evI l t l.length
def aBk (a b:List Bool) (k:Nat):List Bool:=(orB a b).take k++a.drop k
def aEx (t:Tx):Bool:=t.ins.any fun x=>decide (x.q<4294967294)
def gP (l:List Ent) (x:Ent):Bool:=aEx x.tx||(aM l (aZ l x.tx)).any fun s=>aEx (dR l s).tx
def eQ (l:List Ent) (t:Tx):Bool:=t.ins.any fun b=>dM l b.p&&(inB (aM l (evL l t)) b.p.s||!inB (aM l (bC l t)) (uN l b.p))
def iG (l:List Ent) (S n:Int) (ids:List ByteArray):Int:=ids.foldl (fun a s=>max a ((dR l s).fee*S / (dR l s).size+1)) n
def qY (l:List Ent) (t:Tx):Int:=dN l (evL l t)
def fH (l:List Ent) (t:Tx):Int:=iG l (aR t:Nat) (qY l t+(aR t:Nat)) (aM l (bC l t))
def kX (l:List Ent) (t:Tx) (fee:Int):Bool:=l.all (fun x=>!cE t x||decide (aCp fee (aR t:Nat) x.fee x.size>0))&&(!l.any (cE t)||decide (qY l t+(aR t:Nat)≤fee))
def cH (l:List Ent) (t:Tx) (fee:Int):Int:=
 if aG t≠0 then aG t
 else if bX fee=false then 3
 else if l.any (fun x=>cE t x&&!gP l x)=true then 15
 else if l.any (cE t)=false then 0
 else if (aM l (evL l t)).length>100 then 15
 else if eQ l t=true then 15
 else if kX l t fee=true then 0 else 11
theorem kR {l:List Ent} {t:Tx}:l.length=(bC l t).length:=by simp [bC]
theorem aI4 {a b:List Bool} (h:a.length=b.length):(orB a b).length=a.length:=by simp [orB,h]
theorem aD1 {l:List Ent} {t:Tx}:∀i,(evI l t i).length=l.length
 |0=>by simp [evI]
 |i+1=>by
  rw [evI]
  split
  ·rw [aI4 (by rw [aD1 i];exact aAi _ _),aD1 i]
  ·exact aD1 i
theorem jV {l:List Ent} {t:Tx}:l.length=(evL l t).length:=(aD1 _).symm
theorem bEi {a b:List Bool}:aBk a b 0=a:=by simp [aBk]
theorem bH0 {a b:List Bool} {k:Nat} (h:a.length=b.length) (hk:a.length≤k):aBk a b k=orB a b:=by
 unfold aBk
 rw [tLe (by rw [aI4 h];exact hk),List.drop_of_length_le hk,List.append_nil]
theorem aYh {a b:List Bool} {k:Nat} (h:a.length=b.length):(aBk a b k).length=a.length:=by
 unfold aBk
 rw [List.length_append,List.length_take,List.length_drop,aI4 h];omega
theorem bJ7 {a b:List Bool} {k:Nat} (h:a.length=b.length) (hk:k<a.length):(aBk a b k)[k]? =a[k]? :=by
 unfold aBk
 rw [List.getElem?_append_right (by rw [List.length_take];omega),List.length_take,aI4 h,Nat.min_eq_left (by omega),List.getElem?_drop];simp
theorem bI2 {a b:List Bool} {k:Nat} (h:a.length=b.length) (hk:k<a.length):(aBk a b k).set k (a[k]||b[k])=aBk a b (k+1):=by
 have hb:=aI4 h
 apply List.ext_getElem?
 intro i
 have e1:(orB a b)[k]? =some (a[k]||b[k]):=by
  unfold orB
  rw [List.getElem?_zipWith,List.getElem?_eq_getElem hk,List.getElem?_eq_getElem (by omega:k<b.length)]
 rw [List.getElem?_set,aYh h,if_pos (show k<a.length from hk)]
 unfold aBk
 by_cases e:k=i
 ·subst e
  rw [if_pos rfl,List.getElem?_append_left (by rw [List.length_take];omega),List.getElem?_take,if_pos (by omega),e1]
 ·rw [if_neg e]
  by_cases h3:i<k
  ·rw [List.getElem?_append_left (by rw [List.length_take];omega),List.getElem?_append_left (by rw [List.length_take];omega),List.getElem?_take,List.getElem?_take,if_pos h3,if_pos (by omega)]
  ·rw [List.getElem?_append_right (by rw [List.length_take];omega),List.getElem?_append_right (by rw [List.length_take];omega),List.getElem?_drop,List.getElem?_drop,List.length_take,List.length_take,hb]
   congr 1;omega
theorem bKe {a b:List Bool} {k:Nat} (h:a.length=b.length):(orB a b)[k]? =some true↔a[k]? =some true∨b[k]? =some true:=by
 unfold orB
 rw [List.getElem?_zipWith]
 by_cases hk:k<a.length
 ·rw [List.getElem?_eq_getElem hk,List.getElem?_eq_getElem (by omega:k<b.length)]
  simp
 ·rw [List.getElem?_eq_none (by omega),List.getElem?_eq_none (by omega)];simp
theorem bFi {l:List Ent} {s:ByteArray} {k:Nat} (hk:k<l.length):(bA l s)[k]? =some true↔aAc l s k=true:=by
 have e:(bA l s)[k]? =some (aAc l s k):=by
  unfold bA nS
  rw [List.getElem?_map,List.getElem?_range hk];rfl
 rw [e];simp
theorem aNh {l:List Ent} {t:Tx} {k:Nat} (hk:k<l.length):∀{i:Nat},i≤l.length→((evI l t i)[k]? =some true↔∃j,∃h:j<l.length,j<i∧cE t l[j]=true∧aAc l l[j].id k=true)
 |0,_=>by
  rw [evI,List.getElem?_replicate]
  simp
 |i+1,hi=>by
  have ih:=aNh (t:=t) hk (show i≤l.length by omega)
  have hil:i<l.length:=by omega
  rw [evI,bJ hil]
  by_cases h:cE t l[i]=true
  ·rw [if_pos h,bKe (by rw [aD1];exact aAi _ _),ih,bFi hk]
   constructor
   ·rintro (⟨j,h1,h2,h3,h4⟩|h2)
    ·exact ⟨j,h1,by omega,h3,h4⟩
    ·exact ⟨i,hil,by omega,h,h2⟩
   ·rintro ⟨j,h1,h2,h3,h4⟩
    by_cases e:j=i
    ·subst e;exact .inr h4
    ·exact .inl ⟨j,h1,by omega,h3,h4⟩
  ·rw [if_neg h,ih]
   constructor
   ·rintro ⟨j,h1,h2,h3,h4⟩
    exact ⟨j,h1,by omega,h3,h4⟩
   ·rintro ⟨j,h1,h2,h3,h4⟩
    by_cases e:j=i
    ·subst e;exact absurd h3 h
    ·exact ⟨j,h1,by omega,h3,h4⟩
section
variable {l:List Ent} {t:Tx}
theorem qX {s:ByteArray}:s∈aM l (bC l t)↔∃x∈l,cE t x=true∧x.id=s:=by
 rw [jD]
 constructor
 ·rintro ⟨i,hi,h1,h2⟩
  refine ⟨l[i],gMe hi,?_,h2⟩
  unfold bC at h1
  rw [List.getElem?_map,List.getElem?_eq_getElem hi] at h1
  simpa using h1
 ·rintro ⟨x,hx,h1,h2⟩
  obtain ⟨i,hi,rfl⟩:=List.getElem_of_mem hx
  refine ⟨i,hi,?_,h2⟩
  unfold bC
  rw [List.getElem?_map,List.getElem?_eq_getElem hi]
  simpa using h1
theorem sL (hn:(l.map (·.id)).Nodup) {s:ByteArray} {k:Nat} (hk:k<l.length):l[k].id∈aM l (bA l s)↔aAc l s k=true:=aR9 hn hk
theorem aT2 (hn:(l.map (·.id)).Nodup) {s:ByteArray}:s∈aM l (evL l t)↔∃x∈l,cE t x=true∧s∈aM l (bA l x.id):=by
 rw [jD]
 constructor
 ·rintro ⟨k,hk,h1,rfl⟩
  obtain ⟨j,h2,_,h3,h4⟩:=(aNh hk (Nat.le_refl _)).1 h1
  exact ⟨l[j],gMe h2,h3,(sL hn hk).2 h4⟩
 ·rintro ⟨x,hx,h1,h2⟩
  obtain ⟨j,hj,rfl⟩:=List.getElem_of_mem hx
  obtain ⟨k,hk,_,rfl⟩:=jD.1 h2
  exact ⟨k,hk,(aNh hk (Nat.le_refl _)).2 ⟨j,hj,hj,h1,(sL hn hk).1 h2⟩,rfl⟩
theorem bKx (hn:(l.map (·.id)).Nodup) {x:Ent} (hx:x∈l) (h:cE t x=true):x.id∈aM l (evL l t):=by
 obtain ⟨i,hi,rfl⟩:=List.getElem_of_mem hx
 exact (aT2 hn).2 ⟨l[i],hx,h,aUp.1 (bGn hn hi)⟩
theorem bGg (h:l.any (cE t)=false):aM l (bC l t)= []:=by
 rw [List.any_eq_false] at h
 refine bAv fun b hb=>?_
 unfold bC at hb
 obtain ⟨x,hx,rfl⟩:=List.mem_map.1 hb
 simpa using h x hx
theorem aDp:(aM l (bC l t)).length=0↔l.any (cE t)=false:=by
 constructor
 ·intro h
  rw [List.any_eq_false]
  intro x hx hh
  have:=qX.2 ⟨x,hx,hh,rfl⟩
  have:=List.length_pos_of_mem this
  omega
 ·intro h;rw [bGg h];rfl
theorem bK6 (hn:(l.map (·.id)).Nodup) (h:l.any (cE t)=false):aM l (evL l t)= []:=by
 rw [List.eq_nil_iff_forall_not_mem]
 intro s hs
 obtain ⟨x,hx,h1,_⟩:=(aT2 hn).1 hs
 rw [List.any_eq_false] at h
 exact h x hx h1
theorem bDx (hn:(l.map (·.id)).Nodup) {i j:Nat} (hi:i<l.length) (hj:j<l.length) (hp:Path l i j) (h:l[j].id∈aM l (evL l t)):l[i].id∈aM l (evL l t):=by
 obtain ⟨x,hx,h1,h2⟩:=(aT2 hn).1 h
 obtain ⟨k,hk,rfl⟩:=List.getElem_of_mem hx
 refine (aT2 hn).2 ⟨l[k],hx,h1,(sL hn hi).2 ?_⟩
 rw [sL hn hj,aG4 hn hj hk] at h2
 rw [aG4 hn hi hk]
 rcases h2 with rfl|h2
 ·exact .inr hp
 ·exact .inr (hp.trans h2)
end
theorem aUy {l:List Ent} {S:Int}:∀{ids:List ByteArray} {n m:Int},iG l S n ids≤m↔n≤m∧∀s∈ids,(dR l s).fee*S / (dR l s).size+1≤m
 | [],n,m=>by simp [iG]
 |s::ids,n,m=>by
  have ih:=aUy (l:=l) (S:=S) (ids:=ids) (n:=max n ((dR l s).fee*S / (dR l s).size+1)) (m:=m)
  unfold iG at ih ⊢
  rw [List.foldl_cons,ih]
  simp only [List.mem_cons,forall_eq_or_imp]
  constructor
  ·rintro ⟨h1,h2⟩;exact ⟨by omega,by omega,h2⟩
  ·rintro ⟨h1,h2,h3⟩;exact ⟨by omega,h3⟩
theorem bGe {l:List Ent} {S n:Int} {ids:List ByteArray} {i:Nat} (h:i<ids.length):iG l S n (ids.take (i+1))=max (iG l S n (ids.take i)) ((dR l ids[i]).fee*S / (dR l ids[i]).size+1):=by
 unfold iG
 rw [List.take_succ_eq_append_getElem h,List.foldl_append];rfl
theorem bE5 {l:List Ent} {S n:Int} {ids:List ByteArray}:n≤iG l S n ids:=(aUy.1 (Int.le_refl _)).1
theorem aVu {f s o i:Int} (h1:dZ f s=true) (h2:dZ o i=true):aCp f s o i>0↔o*s / i+1≤f:=by
 have h2':=h2
 unfold dZ at h2'
 rw [Bool.and_eq_true,bG,decide_eq_true_eq] at h2'
 unfold aCp
 rw [h1,h2,Bool.and_self,if_pos rfl]
 have e:o*s / i+1≤f↔o*s<f*i:=by
  rw [←Int.ediv_lt_iff_lt_mul (by omega)];omega
 rw [e]
 split
 ·omega
 ·split<;>omega
end
section
open Go
def bLa (a b:Nat):Int:=if a<b then -1 else if b<a then 1 else 0
theorem wH {f s:Int}:dZ f s=true↔(0≤f∧f≤2100000000000000)∧1≤s∧s≤1000000:=by
 unfold dZ
 rw [Bool.and_eq_true,bG,decide_eq_true_eq]
theorem aBp {f s:Int} (h:dZ f s=true):∃F S:Nat,f=(F:Nat)∧s=(S:Nat)∧F≤2100000000000000∧1≤S∧S≤1000000:=by
 rw [wH] at h
 exact ⟨f.toNat,s.toNat,by omega,by omega,by omega,by omega,by omega⟩
theorem bJj {F S O I:Nat} (h1:dZ (F:Nat) (S:Nat)=true) (h2:dZ (O:Nat) (I:Nat)=true):aCp (F:Nat) (S:Nat) (O:Nat) (I:Nat)=bLa (F*I) (O*S):=by
 unfold aCp bLa
 rw [h1,h2,Bool.and_self,if_pos rfl,←Int.natCast_mul,←Int.natCast_mul]
 generalize F*I=a
 generalize O*S=b
 split<;>(try split)<;>(try split)<;>(try split)<;>omega
theorem bLk {f s o i:Int} (h:dZ f s=false∨dZ o i=false):aCp f s o i=0:=by
 unfold aCp
 rw [if_neg]
 rcases h with h|h<;>rw [h]<;>simp
theorem bEw (a b:Nat):a / 1000000*b+a%1000000*b / 1000000=a*b / 1000000∧a%1000000*b%1000000=a*b%1000000:=by
 have e:a*b=1000000*(a / 1000000*b)+a%1000000*b:=by
  conv=>lhs;rw [←Nat.div_add_mod a 1000000]
  rw [Nat.add_mul,Nat.mul_assoc]
 rw [e]
 generalize a / 1000000*b=x
 generalize a%1000000*b=y
 omega
theorem bBz {a b:Nat}:bLa a b=if a / 1000000<b / 1000000∨a / 1000000=b / 1000000∧a%1000000<b%1000000 then -1 else if b / 1000000<a / 1000000∨b%1000000<a%1000000 then 1 else 0:=by
 unfold bLa
 split<;>split<;>(try split)<;>(try split)<;>omega
end
end Go.K
namespace Go.Proofs.YtfebcajheojodaaGreatDoor
section
open Go Go.K
attribute [local irreducible] aO aU bQ KOp.wp K.Spec u32 leS vnS str aV cU cD idT aR aG aX idN bD cF bT bH
end
section
open Go Go.K
attribute [local irreducible] aO aU bQ KOp.wp K.Spec u32 leS vnS str aV cU cD idT aR aG aX idN dG bD bH
abbrev aOx (l:List Ent) (id:ByteArray) (i:Nat):Bool:=decide ((i:Int)=bH l id)
abbrev aRx (l:List Ent) (k i:Nat):Bool:=gY l i k
theorem aGs {base:Nat→Bool} {edge:Nat→Nat→Bool} {n:Nat} (h:∀i,i<n→base i=false):∀(r i:Nat),i<n→bD base edge n r i=false
 |0,i,_=>by unfold bD;rfl
 |r+1,i,hi=>by
  rw [←Bool.not_eq_true,hY]
  rintro (h1|⟨k,h1,h2,h3⟩)
  ·rw [h i hi] at h1;cases h1
  ·rw [aGs h r k h1] at h2;cases h2
set_option maxHeartbeats 2000000 in
theorem aOb {M : List Nat} {v : Value} {l : List Ent} (id : ByteArray) (w : World) (hl : SlR bF M w v l) (hn : l.length ≤ 1000) (hE : ∀ x ∈ l, x.tx.Sm) : K.Spec Tryz.prog F.kedgeref14_Below [v, .string id] w fun r w' => SlE dJ w' r (bA l id) ∧ Ext w w' ∧ ∀ b ∈ aP r, w.heap.size ≤ b := by
  have hqe : ∀ x ∈ l, x.tx.ins.length ≤ 1000 := fun x hx => (hE x hx).ins
  have hf1 := bH7 (l := l) (id := id)
  refine aGt rfl ?_
  unfold tP
  refine oy ?_
  repeat' (first|refine go1 ?_|refine zg λ_ _=>?_|refine zi λ_ _=>?_|refine zL rfl (fun h => ?_) (fun h => ?_)|refine zG (E := bF) (M := M) (l := l) rfl (SlR.ext hl (by exact fx)) ?_|refine aEd rfl rfl (by omega) (fun b w2 x2 a2 hb2 => ?_)|(refine zC rfl (kZ (M := M) (l := l) id _ (by exact fx) (by omega)) ?_; rintro _ w3 ⟨rfl, hw3⟩; subst hw3))
  · have hfn : ∀ i, i < l.length → aOx l id i = false := fun i hi => dFa (by omega)
    have e : bA l id = List.replicate l.length false := by
      unfold bA nS
      refine List.ext_getElem (by simp) fun i h1 h2 => ?_
      simp only [List.getElem_map, List.getElem_range, List.getElem_replicate]
      exact aGs hfn _ _ (by simpa using h1)
    rw [e]
    exact aC rfl ⟨AtB.sl a2 (by simp), by exact fx, by intro y hy; have hy : y ∈ [b] := hy; simp at hy; omega⟩
  · obtain ⟨n0, hn0⟩ : ∃ n0 : Nat, bH l id = n0 := ⟨(bH l id).toNat, by omega⟩
    have hnl : n0 < l.length := by omega
    rw [hn0]
    refine lR rfl rfl (by omega) ?_
    refine mT (m := List.replicate l.length false) (o := n0) (v := true) rfl rfl a2 (by simpa using hnl) (fun w4 c4 a4 => ?_)
    have x4 : Ext w w4 := (x2.chg c4).mono (by intro y hy; simp at hy; right; omega)
    have hm0 : Marks (aOx l id) (aRx l) l.length ((List.replicate l.length false).set n0 true) := ⟨by simp, fun i hi hm => by
      rw [List.getElem_set] at hm
      split at hm
      · rename_i e; subst e
        exact tK hnl (dTr hn0.symm)
      · simp at hm⟩
    have hs0 : has ((List.replicate l.length false).set n0 true) n0 := by
      unfold has; rw [List.getElem?_set_self (by simpa using hnl)]
    clear a2 x2 c4
    generalize (List.replicate l.length false).set n0 true = m0 at a4 hm0 hs0
    repeat' (first|refine go1 ?_|refine zg λ_ _=>?_|refine zi λ_ _=>?_|refine zL rfl (fun h => ?_) (fun h => ?_)|refine zK (d := some 58) rfl (fun hmi => ?_) (fun hmi => ?_)|refine zK (d := some 63) rfl (fun hmk => ?_) (fun hmk => ?_)|refine zG (E := bF) (M := M) (l := l) rfl (SlR.ext hl (by exact fx)) ?_|(refine aQ (fun (p : Nat × List Bool) w' => Ext w w' ∧ p.1 ≤ l.length + 1 ∧ AtB w' b p.2 ∧ has p.2 n0 ∧ RInv (aOx l id) (aRx l) l.length p.1 0 p.2) (fun p => [(0, v), (5, .slice (some ⟨b, 0, none⟩) l.length l.length), (7, .int .i64 p.1)]) (fun p => l.length + 1 - p.1) (0, m0) ⟨rfl, rfl, rfl, trivial⟩ ⟨x4, by simp, a4, hs0, RInv.zero hm0⟩ ?_; rintro ⟨r, m⟩ ρ w3 ⟨x3, hr, a3, hs3, hI⟩; simp only at hr a3 hs3 hI; dsimp only)|(refine aQ (fun (p : Nat × List Bool) w' => Ext w w' ∧ p.1 ≤ l.length ∧ AtB w' b p.2 ∧ has p.2 n0 ∧ RInv (aOx l id) (aRx l) l.length r p.1 p.2) (fun p => [(0, v), (5, .slice (some ⟨b, 0, none⟩) l.length l.length), (7, .int .i64 r), (8, .int .i64 p.1)]) (fun p => l.length - p.1) (0, m) ⟨rfl, rfl, rfl, rfl, trivial⟩ ⟨by exact fx, by simp, by focus (repeat (first | assumption | (apply At.ext; assumption))), hs3, hI⟩ ?_; clear a3 hI x3 hs3; clear m; rintro ⟨i, m⟩ ρ4 w5 ⟨x5, hi, a5, hs5, hI⟩; simp only at hi a5 hs5 hI; dsimp only)|(have hil : i < l.length := (by omega); refine aQ (fun (p : Nat × List Bool) w' => Ext w w' ∧ p.1 ≤ l.length ∧ AtB w' b p.2 ∧ has p.2 n0 ∧ RInv (aOx l id) (aRx l) l.length r i p.2 ∧ ∀ k, k < p.1 → bD (aOx l id) (aRx l) l.length r k = true → gY l i k = true → has p.2 i) (fun p => [(0, v), (5, .slice (some ⟨b, 0, none⟩) l.length l.length), (7, .int .i64 r), (8, .int .i64 i), (9, .int .i64 p.1)]) (fun p => l.length - p.1) (0, m) ⟨rfl, rfl, rfl, rfl, rfl, trivial⟩ ⟨by exact fx, by simp, a5, hs5, hI, fun k hk => absurd hk (by simp)⟩ ?_; rintro ⟨k, m7⟩ ρ7 w7 ⟨x7, hk, a7, hs7, hK, hE7⟩; simp only at hk a7 hs7 hK hE7; dsimp only; have hml7 := hK.mks.len)|(refine aL (d := some 43) (E := bF) (M := M) rfl rfl (n := i) (l := l) (SlR.ext hl (by exact fx)) rfl hil (fun ad cs r5 he => ?_); obtain ⟨iv2, ov2, rfl, g1, g2, g3⟩ := he)|(refine aL (d := some 48) (E := bF) (M := M) rfl rfl (n := k) (l := l) (SlR.ext hl (by exact fx)) rfl (by omega) (fun ad cs r8 he => ?_); have hkl : k < l.length := (by omega))|refine mD (d := some 49) (n := 7) (l := cs) rfl r8 (by rw [bF.len he]; exact Nat.le_refl _) (tLe (by rw [bF.len he]; exact Nat.le_refl _)) ?_|(refine zC rfl (aAj (M := M) (cs := aK l[i].tx iv2 ov2) (t := l[i].tx) (x := l[k]) _ ⟨iv2, ov2, rfl, by exact fx, by exact fx, g3.1, g3.2.1⟩ he (by have := hqe _ (gMe hil); omega)) ?_; rintro _ w8 ⟨rfl, x8⟩)|refine aT (d := some 55) (E := dJ) rfl rfl (n := i) (l := m7) (AtB.sl (by focus (repeat (first | assumption | (apply At.ext; assumption)))) hml7.symm) rfl (by omega) (fun ad r6 => ?_)|refine aT (d := some 60) (E := dJ) rfl rfl (n := k) (l := m7) (AtB.sl (by focus (repeat (first | assumption | (apply At.ext; assumption)))) hml7.symm) rfl (by omega) (fun ad r6 => ?_)|refine lR (d := some 66) rfl rfl (by omega) ?_|refine mT (m := m7) (o := i) (v := (m7[i]'(by omega) || (m7[k]'(by omega) && dG l[i].tx l[k]))) rfl (congrArg Value.bool (by first | (rw [hmi]; rfl) | (rw [hmi, hmk]; rfl) | (rw [hmi, hmk]; simp))) (by focus (repeat (first | assumption | (apply At.ext; assumption)))) (by omega) (fun w9 c9 a9 => ?_))
    all_goals first
      | (have hx7 : Unit → Ext w w9 := fun _ => (Ext.chg (w := w) (by exact fx) c9).mono (by intro y hy; simp at hy; right; omega)
         have he : gY l i k = dG l[i].tx l[k] := by rw [gY, bJ hkl, bJ hil]
         have hx : (m7[k] && dG l[i].tx l[k]) = true → bD (aOx l id) (aRx l) l.length l.length i = true := fun hh => by
           rw [Bool.and_eq_true] at hh
           exact lA hil hkl (hK.mks.sound k (by omega) hh.1) (by rw [← he] at hh; exact hh.2)
         exact ⟨(k + 1, _), ⟨rfl, rfl, rfl, rfl, rfl, trivial⟩, ⟨hx7 (), by simp; omega, a9, vO (by omega) hs7, hK.set (by omega) hx, fun q hq hs2 hh => by
           by_cases e : q = k
           · subst e
             exact aJx (by omega) (by rw [Bool.and_eq_true]; exact ⟨aUn (hK.all q hkl hs2) (by omega), by rw [← he]; exact hh⟩)
           · exact vO (by omega) (hE7 q (by simp at hq; omega) hs2 hh)⟩, by simp; omega⟩)
      | exact ⟨(i + 1, m7), ⟨rfl, rfl, rfl, rfl, trivial⟩, ⟨by exact fx, by simp; omega, by focus (repeat (first | assumption | (apply At.ext; assumption))), hs7, hK.next (fun hb => by have : i = n0 := (by have := of_decide_eq_true hb; omega); rw [this]; exact hs7) (fun q hq => hE7 q (by omega))⟩, by simp; omega⟩
      | exact ⟨(r + 1, m), ⟨rfl, rfl, rfl, trivial⟩, ⟨by exact fx, by simp; omega, by focus (repeat (first | assumption | (apply At.ext; assumption))), hs5, hI.round (by omega)⟩, by simp; omega⟩
      | (have hd := hI.mks.done (fun q hq hs2 => hI.all q hq (aJc hs2 (by omega)))
         subst hd
         exact aC rfl ⟨AtB.sl (by focus (repeat (first | assumption | (apply At.ext; assumption)))) (lO _ _ _).symm, by exact fx, by intro y hy; have hy : y ∈ [b] := hy; simp at hy; omega⟩)
      | trace_state
end
section
open Go Go.K
attribute [local irreducible] aO aU bQ KOp.wp K.Spec u32 leS vnS str aV cU cD idT aR aG aX idN dG bD bH spends bT cF
section
variable {P:Program} {d:Option Tmp} {r:KR} {K:Env→World→Prop} {ρ:Env} {w:World}
theorem aZd {α:Type} {E:Enc α} {size:Nat} {x a:Operand} {v:Value} {l:List α} {ka:IntKind} {lo:Nat} (hx:ev ρ x=v) (ha:ev ρ a=.int ka (lo:Nat)) (hs:SlE E w v l) (h1:lo≤l.length) (hk:size=E.k)
  (k:∀v',SlE E w v' (l.drop lo)→aO P r K (put ρ d v') w):aO P (.cons ⟨d,.sliceSl size x (some a) none,none⟩ r) K ρ w:=by
 subst hk
 obtain ⟨hl,base,cap,rfl,hc,hr⟩:=hs
 have h2:=SlE.cut (E:=E) (lo:=lo) (hi:=l.length) ⟨hl,base,cap,rfl,hc,hr⟩ h1 (Nat.le_refl _) (cap - lo) (by omega)
 rw [tLe (by rw [List.length_drop];omega)] at h2
 refine dK rfl (v:=.slice (if cap=lo then base else base.map fun ad:Addr=>ad.add (lo*E.k)) (l.length - lo) (cap - lo)) ?_ (k _ h2)
 simp only [KOp.fix,hx,ha,Option.bind_some,Option.map_some]
 rw [if_pos (by omega)]
 simp only [Option.bind_some,Int.toNat_natCast]
 simp
end
theorem SlE.offmap {α:Type} {F:Enc α} {w w':World} {v:Value} {l:List α} {b ck:Nat} {es:Array MapEntry} (h:SlE F w v l) (hm:At w b (.map es ck)) (c:Chg [b] w w'):SlE F w' v l:=by
 by_cases hp:0<l.length
 ·refine h.chg c (fun a m k e hmem=>?_)
  simp only [List.mem_singleton] at hmem
  obtain ⟨h1,base,cap,hv,hc,h2⟩:=h
  have hpos:0<(F.flat l).length:=by rw [F.flat_length];exact Nat.mul_pos hp F.pos
  obtain ⟨a',ha,hr⟩:=h2 hpos
  rw [e,ha] at hv
  injection hv with hv1
  injection hv1 with hv2
  subst hv2
  have h3:=hr 0 _ (List.getElem?_eq_getElem hpos)
  unfold World.cell? at h3
  rw [add_block,hmem,show w.heap[b]? =some (.map es ck) from hm] at h3
  simp at h3
 ·have hl:l= []:=List.length_eq_zero_iff.1 (by omega)
  subst hl
  exact h.anyw
def bMm (fv:Value) (l:List Ent) (M:List Nat) (w:World) (nxt:Ent→List ByteArray):Prop:=
 ∃f first cap,fv=.func (.func f) first cap∧cM Tryz.prog f=true∧∀x∈l,∀w' cs,Ext w w'→bF.rel M w' cs x→K.Spec Tryz.prog f (first.toList++ [.agg cs.toArray]++cap.toList) w' fun r w''=>Own bO T.string w'.heap.size w'' r (nxt x)∧Ext w' w''
theorem bEf:cM Tryz.prog F.graph_Graph_reach_1=true:=by kernel_rfl
theorem aW0 {b7 bm:Nat} {met:List (ByteArray × Nat)} (id:ByteArray) (w:World) (h7:At w b7 (.cells [.map (some bm)].toArray T.map_string_int (0,0))) (hm:dW sK (fun n:Nat=>Value.int .i64 (n:Nat)) w bm met) (hp:∀s c,aS met s=some c→1≤c):K.Spec Tryz.prog F.graph_Graph_reach_1 [.string id,.pointer (some ⟨b7,0,none⟩)] w fun r w'=>r=.bool (!pA met id)∧w'=w:=by
 have r7:Row w ⟨b7,0,none⟩ [.map (some bm)]:=Row.of_at h7
 refine aBf rfl ?_
 unfold pF
 refine oy ?_
 repeat' (first|refine go1 ?_|refine zg λ_ _=>?_|refine zi λ_ _=>?_|refine eR (E:=sK) (fv:=fun n:Nat=>Value.int .i64 (n:Nat)) (k:=id) rfl rfl hm rfl rfl (fun c hc=>?_) (fun hn=>?_))
 ·have h1:=hp _ _ hc
  have e:pA met id=true:=by unfold pA;rw [hc];rfl
  rw [e]
  exact aC rfl ⟨congrArg Value.bool (dFa (by omega)),rfl⟩
 ·have e:pA met id=false:=by unfold pA;rw [hn];rfl
  rw [e]
  exact aC rfl ⟨rfl,rfl⟩
set_option maxHeartbeats 2000000 in
theorem aO1 {g:Nat} {M:List Nat} {l:List Ent} {vf fv:Value} {frm:List ByteArray} {nxt:Ent→List ByteArray} (w:World) (hG:GrR w g M l) (hlt:∀b∈M,b<w.heap.size) (hF:SlE bO w vf frm) (hN:bMm fv l M w nxt) (hn:l.length≤1000) (hfl:frm.length≤1000)
  (hin0:∀s∈frm,∃j,j<l.length∧(cP l j).id=s) (hin:∀i,i<l.length→∀s∈nxt (cP l i),∃j,j<l.length∧(cP l j).id=s) (hnl:∀x∈l,(nxt x).length≤1000):
  K.Spec Tryz.prog F.graph_Graph_reach [.pointer (some ⟨g,0,none⟩),vf,fv] w fun r w'=>Own bO T.string w.heap.size w' r (aM l (bT l frm nxt))∧Ext w w':=by
 have hG0:=hG
 have hnd:=hG.nodup
 obtain ⟨b1,vo,b2,m,sp,hP⟩:=hG
 have rg:Row w ⟨g,0,none⟩ [.map (some b1),vo,.map (some b2)]:=Row.of_at hP.at_
 have hinv:=hP.inv
 obtain ⟨f,first,cap,rfl,hfb,hnx⟩:=hN
 have hW0:cF [] nxt l≤1000*l.length:=aYs [] nxt l hnl
 refine aEp rfl ?_
 unfold rV
 refine oy ?_
 repeat' (first|refine go1 ?_|refine zg λ_ _=>?_|refine zi λ_ _=>?_|refine zL rfl (fun h=>?_) (fun h=>?_)|(refine kI (E:=sK) (fv:=fun n:Nat=>Value.int .i64 (n:Nat)) (fun bm w1 x1 m1 hb1=>?_);have lm:=m1.lt)|(refine zH (fun b7 w2 x2 a2 hb2=>?_);have l7:=a2.lt)|refine aSf (b:=b7) (v:=.map (some bm)) rfl rfl rfl a2 (by decide) (fun w3 c3 a3=>?_)|refine bY rfl hT ?_|refine aQ (fun (p:Value × List ByteArray × List (ByteArray × Nat)) w'=>Ext w w'∧w3.heap.size≤w'.heap.size∧SlE bO w' p.1 p.2.1∧At w' b7 (.cells [.map (some bm)].toArray T.map_string_int (0,0))∧dW sK (fun n:Nat=>Value.int .i64 (n:Nat)) w' bm p.2.2∧BInv l frm nxt p.2.1 p.2.2∧p.2.1.length+cF p.2.2 nxt l≤2000000∧∀s c,aS p.2.2 s=some c→c+(p.2.1.length+cF p.2.2 nxt l)≤2000000) (fun p=> [(0,.pointer (some ⟨g,0,none⟩)),(2,.func (.func f) first cap),(7,.pointer (some ⟨b7,0,none⟩)),(8,p.1)]) (fun p=>p.2.1.length+cF p.2.2 nxt l) (vf,frm, []) ⟨rfl,rfl,rfl,rfl,trivial⟩ ?_ ?_)
 ·have x3:Ext w w3:=((x1.trans x2).chg c3).mono (by intro y hy;simp at hy;have:=x1.size;right;omega)
  exact ⟨x3,Nat.le_refl _,hF.ext x3,a3,(m1.ext x2).chg c3 (by simp;omega),BInv.start hin0,by simp only;omega,fun s c hc=>by simp [aS] at hc⟩
 ·rintro ⟨v,T,met⟩ ρ w4 ⟨x4,s34,hT,q7,qm,hB,hw,hc⟩
  simp only at hT qm hB hw hc
  dsimp only
  have r7:Row w4 ⟨b7,0,none⟩ [.map (some bm)]:=Row.of_at q7
  have s23:=c3.size
  have s12:=x2.size
  clear c3 a3 a2 x1 x2 m1
  repeat' (first|refine zi (fun w5 x5=>?_)|refine zg (fun w5 x5=>?_)|refine go1 ?_|refine zg λ_ _=>?_|refine zi λ_ _=>?_|refine zL rfl (fun h=>?_) (fun h=>?_)|refine bY rfl hT ?_)
  ·obtain ⟨id,T',rfl⟩:∃id T',T=id::T':=by
    cases T with
    |nil=>simp at h
    |cons a b=>exact ⟨a,b,rfl⟩
   have hlenT:(id::T').length=T'.length+1:=rfl
   refine aT rfl rfl (n:=0) (l:=id::T') (hT.ext x5) rfl (by simp) (fun ad r5=>?_)
   have r5:Row w5 ad [Value.string id]:=r5
   have hT5:=hT.ext x5
   have qm5:=qm.ext x5
   have q75:=q7.ext x5
   have r75:=r7.ext x5
   have x05:Unit→Ext w w5:=fun _=>x4.trans x5
   have s45:=x5.size
   clear x5 hT qm q7 r7 x4
   repeat' (first|refine go1 ?_|refine zg λ_ _=>?_|refine zi λ_ _=>?_|refine eR (d:=some 20) (E:=sK) (fv:=fun n:Nat=>Value.int .i64 (n:Nat)) (k:=id) rfl rfl qm5 rfl rfl (fun c hcc=>have hcc2:=hc id c hcc;?_) (fun hcn=>?_))
   ·have hp1:=hB.pos id c hcc
    refine fA (E:=sK) (fv:=fun n:Nat=>Value.int .i64 (n:Nat)) (k:=id) (v:=c+1) rfl rfl rfl qm5 rfl rfl (fun w6 c6 m6=>?_)
    have lm6:=m6.lt
    have q76:=At.chg c6 q75 (by simp;omega)
    have r76:Row w6 ⟨b7,0,none⟩ [.map (some bm)]:=Row.of_at q76
    have x06:Ext w w6:=(Ext.chg (x05 ()) c6).mono (by intro y hy;simp at hy;right;omega)
    have s6:=c6.size
    have hT6:SlE bO w6 v (id::T'):=by
     obtain ⟨es,ck,hat,_⟩:=qm5
     exact SlE.offmap hT5 hat c6
    clear r5
    repeat' (first|refine zi (fun w7 x7=>?_)|refine zg (fun w7 x7=>?_)|refine go1 ?_|refine zg λ_ _=>?_|refine zi λ_ _=>?_|(refine aT (d:=some 24) rfl rfl (n:=0) (l:=id::T') (hT6.ext x7) rfl (by simp) (fun ad r5=>?_);have r5:Row w7 ad [Value.string id]:=r5)|refine eR (d:=some 26) (E:=sK) (fv:=fun n:Nat=>Value.int .i64 (n:Nat)) (k:=id) rfl rfl (m6.ext x7) rfl rfl (fun c2 hc2=>?_) (fun hcn=>?_)|refine zL rfl (fun h2=>?_) (fun h2=>?_)|refine aZd (d:=some 15) (E:=bO) (lo:=1) rfl rfl (hT6.ext x7) (by simp) rfl (fun v8 hT8=>?_))
    ·rw [dB,if_pos rfl] at hc2;injection hc2 with hc2;omega
    ·rw [dB,if_pos rfl] at hc2;injection hc2 with hc2
     refine ⟨(v8,T',fN met id (c+1)),⟨rfl,rfl,rfl,rfl,trivial⟩,⟨x06.trans x7,by have:=x7.size;omega,hT8,q76.ext x7,m6.ext x7,hB.again hcc,?_,fun s d hd=>?_⟩,?_⟩
     ·have:=xK (met:=met) (nxt:=nxt) (id:=id) (c:=c+1) l;simp only;omega
     ·have:=xK (met:=met) (nxt:=nxt) (id:=id) (c:=c+1) l
      rw [dB] at hd
      simp only
      split at hd
      ·injection hd with hd;omega
      ·have:=hc s d hd;omega
     ·have:=xK (met:=met) (nxt:=nxt) (id:=id) (c:=c+1) l;simp only;omega
    ·rw [dB,if_pos rfl] at hcn;cases hcn
   ·obtain ⟨i,hi,ei,hsi⟩:=hB.todo id (by simp)
    subst ei
    refine fA (E:=sK) (fv:=fun n:Nat=>Value.int .i64 (n:Nat)) (k:=(cP l i).id) (v:=1) rfl rfl rfl qm5 rfl rfl (fun w6 c6 m6=>?_)
    have lm6:=m6.lt
    have q76:=At.chg c6 q75 (by simp;omega)
    have r76:Row w6 ⟨b7,0,none⟩ [.map (some bm)]:=Row.of_at q76
    have x06:Ext w w6:=(Ext.chg (x05 ()) c6).mono (by intro y hy;simp at hy;right;omega)
    have s6:=c6.size
    have hT6:SlE bO w6 v ((cP l i).id::T'):=by
     obtain ⟨es,ck,hat,_⟩:=qm5
     exact SlE.offmap hT5 hat c6
    clear r5
    repeat' (first|refine zi (fun w7 x7=>?_)|refine zg (fun w7 x7=>?_)|refine go1 ?_|refine zg λ_ _=>?_|refine zi λ_ _=>?_|(refine aT (d:=some 24) rfl rfl (n:=0) (l:=(cP l i).id::T') (hT6.ext x7) rfl (by simp) (fun ad r5=>?_);have r5:Row w7 ad [Value.string (cP l i).id]:=r5)|refine eR (d:=some 26) (E:=sK) (fv:=fun n:Nat=>Value.int .i64 (n:Nat)) (k:=(cP l i).id) rfl rfl (m6.ext x7) rfl rfl (fun c2 hc2=>have hT7:=hT6.ext x7;have m7:=m6.ext x7;have q77:=q76.ext x7;have x07:Unit→Ext w w7:=fun _=>x06.trans x7;have s67:=x7.size;?_) (fun hcn=>?_)|refine zL rfl (fun h2=>?_) (fun h2=>?_)|(refine aT (d:=some 35) rfl rfl (n:=0) (l:=(cP l i).id::T') (hT7.ext x7) rfl (by simp) (fun ad r5=>?_);have r5:Row w7 ad [Value.string (cP l i).id]:=r5)|refine aZi (d:=some 37) (KE:=sK) (F:=bF) (k:=(cP l i).id) rfl rfl (hP.ents.ext ((x07 ()).trans x7)) rfl rfl (fun y cs hy hr=>?_) (fun hn=>?_))
    ·rw [hinv.ent] at hy
     obtain ⟨e1,e2,e3,e4⟩:=aDh hy
     have hye:y=cP l i:=by
      have h9:=(bC1 hG0 (show cP l i∈l by rw [bJ hi];exact gMe hi)).1
      rw [e2] at h9;exact h9
     subst hye
     have hnl9:=hnl _ e3
     refine eN rfl hfb rfl (hnx _ e3 _ cs ((x07 ()).trans x7) hr) ?_
     rintro v9 w9 ⟨o9,x9⟩
     obtain ⟨bv,cv,rfl⟩:=hT7.form
     obtain ⟨bu,cu,rfl⟩:=o9.sl.form
     refine zI (d:=some 39) (cs:= [.slice bv _ cv,.slice bu _ cu]) rfl (fun b w10 x10 a10 hb=>?_)
     refine zC rfl (aW6 (l1:=(cP l i).id::T') (l2:=nxt (cP l i)) _ a10 ((hT7.ext x7).ext (x9.trans x10)) (o9.sl.ext x10) (by omega)) ?_
     rintro v11 w11 ⟨o11,x11⟩
     repeat' (first|refine go1 ?_|refine zg λ_ _=>?_|refine zi λ_ _=>?_|refine aZd (d:=some 15) (E:=bO) (lo:=1) rfl rfl o11.sl (by simp) rfl (fun v8 hT8=>?_))
     have x711:=(x7.trans (x9.trans x10)).trans x11
     have hwf:=aMy (nxt:=nxt) (met:=met) (c:=1) e3 (by unfold pA;rw [hcn];rfl)
     have hln:(T'++nxt (cP l i)).length=T'.length+(nxt (cP l i)).length:=List.length_append
     refine ⟨(v8,T'++nxt (cP l i),fN met (cP l i).id 1),⟨rfl,rfl,rfl,rfl,trivial⟩,⟨(x07 ()).trans x711,by have:=x711.size;omega,hT8,q77.ext x711,m7.ext x711,hB.first hnd hi hcn (hin i hi),?_,fun s d hd=>?_⟩,?_⟩
     ·simp only;omega
     ·rw [dB] at hd
      simp only
      split at hd
      ·injection hd with hd;omega
      ·have:=hc s d hd;omega
     ·simp only;omega
    ·rw [hinv.ent] at hn
     exact absurd (List.find?_eq_none.1 hn _ (show cP l i∈l by rw [bJ hi];exact gMe hi)) (by simp)
    ·rw [dB,if_pos rfl] at hc2;injection hc2 with hc2;omega
    ·rw [dB,if_pos rfl] at hcn;cases hcn
  ·have hT0:T= []:=List.length_eq_zero_iff.1 (by omega)
   subst hT0
   have hml:(l.map (·.id)).length=l.length:=by simp
   have hord:SlR lL [] w4 vo (l.map (·.id)):=SlE.toR (F:=bO) (ag:=false) (hP.ord.ext x4) (by simp)
   refine zC rfl (aCk (M:= []) (v:=vo) (l:=l.map (fun x:Ent=>x.id)) _ hord (by omega) (by simp)) ?_
   rintro v5 w5 ⟨o5,x5⟩
   have o5:=cJ.toOwn o5
   have g5:=o5.base
   have lm4:=qm.lt
   have l74:=q7.lt
   have h7v:b7∉aP v5:=fun h=>by have:=g5 _ h;omega
   have hmv:bm∉aP v5:=fun h=>by have:=g5 _ h;omega
   repeat (first|refine go1 ?_|refine zg λ_ _=>?_|refine zi λ_ _=>?_)
   refine zC rfl (aNt (g:=F.graph_Graph_reach_1) (capl:= [.pointer (some ⟨b7,0,none⟩)]) (l:=l.map (fun x:Ent=>x.id)) _ (fun s=>!pA met s) bEf o5 (by omega) (fun W s hW=>aW0 s W (At.chg hW (q7.ext x5) h7v) ((qm.ext x5).chg hW hmv) hB.pos)) ?_
   rintro v6 w6 ⟨o6,c6,hb6⟩
   repeat (first|refine go1 ?_|refine zg λ_ _=>?_|refine zi λ_ _=>?_)
   have e:(l.map (·.id)).filter (fun x=>!!pA met x)=aM l (bT l frm nxt):=by
    unfold bT nS
    refine bAz fun i hi=>?_
    rw [Bool.not_not]
    have:=hB.done i hi hnd
    rw [bJ hi] at this
    exact this
   rw [e] at o6
   exact aC rfl ⟨o6.lower x4.size,((x4.trans x5).chg c6).mono (fun b hb=>.inr (nTr x4.size (g5 b hb)))⟩
end
end Go.Proofs.YtfebcajheojodaaGreatDoor
