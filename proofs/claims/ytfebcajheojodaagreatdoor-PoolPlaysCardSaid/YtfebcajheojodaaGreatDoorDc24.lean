/- Plain: what the walks of trimming lean on. Plain: transactions in place of others. Plain: rates are compared by products. Contracts: has a graph just some entries? Contracts: what hangs on an entry, by the reference. Contracts: what is reached in a graph. -/
import Derived.Test.YtfebcajheojodaaGreatDoorDc23
set_option linter.unusedVariables false
set_option linter.unusedSimpArgs false
section
namespace Go.K
open Go Go.Proofs.YtfebcajheojodaaGreatDoor
theorem feeD_once {l:List Ent} (h:(l.map (·.id)).Nodup) (m:List Bool):feeD l (idsOf l m)=feeOf l m:=by
 unfold feeD
 rw [dist_nodup ((idsOf_sub l m).nodup h)]
 exact (sums_mask h m).1
theorem has_mem {l:List Ent} {id:ByteArray} (h:hasE l id=true):getE l id∈l∧(getE l id).id=id:=by
 unfold hasE at h
 rw [←find_any,Option.isSome_iff_exists] at h
 obtain ⟨y,hy⟩:=h
 have h1:=List.mem_of_find?_eq_some hy
 have h2:=List.find?_some hy
 unfold getE
 rw [hy]
 exact ⟨h1,by simpa using h2⟩
theorem get_mem {l:List Ent} (hn:(l.map (·.id)).Nodup) {x:Ent} (hx:x∈l):hasE l x.id=true∧getE l x.id=x:=by
 obtain ⟨i,hi,rfl⟩:=List.getElem_of_mem hx
 have h:=getE_get hn hi
 unfold hasE getE
 rw [←find_any,h]
 exact ⟨rfl,rfl⟩
theorem dropAll_len {l:List Ent} {ids:List ByteArray}:(dropAll l ids).length≤l.length:=by
 unfold dropAll
 induction ids generalizing l with
 |nil=>exact Nat.le_refl _
 |cons s ids ih=>
  rw [List.foldl_cons]
  refine Nat.le_trans ih ?_
  unfold dropG
  split
  ·exact Nat.le_refl _
  ·rw [List.length_eraseIdx];split<;>omega
theorem Tx.Sz.sizeM {t:Tx} (h:t.Sz):1≤sizeT t∧sizeT t≤1000000:=by
 have a1:=h.e3 false
 have a2:=h.e3 true
 have a3:=h.witC t.ins.length
 rw [List.take_length] at a3
 have e1:(encT false t).size=(enc3 false t).size+4:=by
  unfold encT enc4
  simp only [Bool.false_eq_true,if_false,ByteArray.size_append,leS_size]
  have h0:(⟨#[]⟩:ByteArray).size=0:=rfl
  omega
 have e2:(encT true t).size=(enc3 true t).size+(catB encWit t.ins).size+4:=by
  unfold encT enc4
  simp only [if_true,ByteArray.size_append,leS_size]
 unfold sizeT weightT
 cases witB t
 ·rw [e1];omega
 ·rw [e1,e2];omega
end Go.K
end
section
namespace Go.K
open Go Go.Proofs.YtfebcajheojodaaGreatDoor
def hitE (t:Tx) (x:Ent):Bool:=x.tx.ins.any fun a=>t.ins.any fun b=>decide (a.p=b.p)
def confL (l:List Ent) (t:Tx):List Bool:=l.map (hitE t)
def orB (a b:List Bool):List Bool:=List.zipWith (·||·) a b
def evI (l:List Ent) (t:Tx):Nat→List Bool
 |0=>List.replicate l.length false
 |i+1=>if hitE t (entD l i)=true then orB (evI l t i) (belowL l (entD l i).id) else evI l t i
def evL (l:List Ent) (t:Tx):List Bool:=evI l t l.length
def orTo (a b:List Bool) (k:Nat):List Bool:=(orB a b).take k++a.drop k
def sigT (t:Tx):Bool:=t.ins.any fun x=>decide (x.q<4294967294)
def mayE (l:List Ent) (x:Ent):Bool:=sigT x.tx||(idsOf l (aboveL l x.tx)).any fun s=>sigT (getE l s).tx
def freshP (l:List Ent) (t:Tx):Bool:=t.ins.any fun b=>outHas l b.p&&(inB (idsOf l (evL l t)) b.p.s||!inB (idsOf l (confL l t)) (spId l b.p))
def needI (l:List Ent) (S n:Int) (ids:List ByteArray):Int:=ids.foldl (fun a s=>max a ((getE l s).fee*S / (getE l s).size+1)) n
def goneF (l:List Ent) (t:Tx):Int:=feeOf l (evL l t)
def needL (l:List Ent) (t:Tx):Int:=needI l (sizeT t:Nat) (goneF l t+(sizeT t:Nat)) (idsOf l (confL l t))
def enoughL (l:List Ent) (t:Tx) (fee:Int):Bool:=l.all (fun x=>!hitE t x||decide (cmpR fee (sizeT t:Nat) x.fee x.size>0))&&(!l.any (hitE t)||decide (goneF l t+(sizeT t:Nat)≤fee))
def rulesL (l:List Ent) (t:Tx) (fee:Int):Int:=
 if checkT t≠0 then checkT t
 else if goodB fee=false then 3
 else if l.any (fun x=>hitE t x&&!mayE l x)=true then 15
 else if l.any (hitE t)=false then 0
 else if (idsOf l (evL l t)).length>100 then 15
 else if freshP l t=true then 15
 else if enoughL l t fee=true then 0 else 11
theorem confL_len {l:List Ent} {t:Tx}:l.length=(confL l t).length:=by simp [confL]
theorem orB_len {a b:List Bool} (h:a.length=b.length):(orB a b).length=a.length:=by simp [orB,h]
theorem evI_len {l:List Ent} {t:Tx}:∀i,(evI l t i).length=l.length
 |0=>by simp [evI]
 |i+1=>by
  rw [evI]
  split
  ·rw [orB_len (by rw [evI_len i];exact belowL_len _ _),evI_len i]
  ·exact evI_len i
theorem evL_len {l:List Ent} {t:Tx}:l.length=(evL l t).length:=(evI_len _).symm
theorem orTo_zero {a b:List Bool}:orTo a b 0=a:=by simp [orTo]
theorem orTo_all {a b:List Bool} {k:Nat} (h:a.length=b.length) (hk:a.length≤k):orTo a b k=orB a b:=by
 unfold orTo
 rw [List.take_of_length_le (by rw [orB_len h];exact hk),List.drop_of_length_le hk,List.append_nil]
theorem orTo_len {a b:List Bool} {k:Nat} (h:a.length=b.length):(orTo a b k).length=a.length:=by
 unfold orTo
 rw [List.length_append,List.length_take,List.length_drop,orB_len h];omega
theorem orTo_at {a b:List Bool} {k:Nat} (h:a.length=b.length) (hk:k<a.length):(orTo a b k)[k]? =a[k]? :=by
 unfold orTo
 rw [List.getElem?_append_right (by rw [List.length_take];omega),List.length_take,orB_len h,Nat.min_eq_left (by omega),List.getElem?_drop];simp
theorem orTo_set {a b:List Bool} {k:Nat} (h:a.length=b.length) (hk:k<a.length):(orTo a b k).set k (a[k]||b[k])=orTo a b (k+1):=by
 have hb:=orB_len h
 apply List.ext_getElem?
 intro i
 have e1:(orB a b)[k]? =some (a[k]||b[k]):=by
  unfold orB
  rw [List.getElem?_zipWith,List.getElem?_eq_getElem hk,List.getElem?_eq_getElem (by omega:k<b.length)]
 rw [List.getElem?_set,orTo_len h,if_pos (show k<a.length from hk)]
 unfold orTo
 by_cases e:k=i
 ·subst e
  rw [if_pos rfl,List.getElem?_append_left (by rw [List.length_take];omega),List.getElem?_take,if_pos (by omega),e1]
 ·rw [if_neg e]
  by_cases h3:i<k
  ·rw [List.getElem?_append_left (by rw [List.length_take];omega),List.getElem?_append_left (by rw [List.length_take];omega),List.getElem?_take,List.getElem?_take,if_pos h3,if_pos (by omega)]
  ·rw [List.getElem?_append_right (by rw [List.length_take];omega),List.getElem?_append_right (by rw [List.length_take];omega),List.getElem?_drop,List.getElem?_drop,List.length_take,List.length_take,hb]
   congr 1;omega
theorem orB_iff {a b:List Bool} {k:Nat} (h:a.length=b.length):(orB a b)[k]? =some true↔a[k]? =some true∨b[k]? =some true:=by
 unfold orB
 rw [List.getElem?_zipWith]
 by_cases hk:k<a.length
 ·rw [List.getElem?_eq_getElem hk,List.getElem?_eq_getElem (by omega:k<b.length)]
  simp
 ·rw [List.getElem?_eq_none (by omega),List.getElem?_eq_none (by omega)];simp
theorem belowL_at {l:List Ent} {s:ByteArray} {k:Nat} (hk:k<l.length):(belowL l s)[k]? =some true↔belowS l s k=true:=by
 have e:(belowL l s)[k]? =some (belowS l s k):=by
  unfold belowL reachL
  rw [List.getElem?_map,List.getElem?_range hk];rfl
 rw [e];simp
theorem evI_iff {l:List Ent} {t:Tx} {k:Nat} (hk:k<l.length):∀{i:Nat},i≤l.length→((evI l t i)[k]? =some true↔∃j,∃h:j<l.length,j<i∧hitE t l[j]=true∧belowS l l[j].id k=true)
 |0,_=>by
  rw [evI,List.getElem?_replicate]
  simp
 |i+1,hi=>by
  have ih:=evI_iff (t:=t) hk (show i≤l.length by omega)
  have hil:i<l.length:=by omega
  rw [evI,entD_get hil]
  by_cases h:hitE t l[i]=true
  ·rw [if_pos h,orB_iff (by rw [evI_len];exact belowL_len _ _),ih,belowL_at hk]
   constructor
   ·rintro (⟨j,h1,h2,h3,h4⟩|h2)
    ·exact ⟨j,h1,by omega,h3,h4⟩
    ·exact ⟨i,hil,by omega,h,h2⟩
   ·rintro ⟨j,h1,h2,h3,h4⟩
    by_cases e:j=i
    ·subst e;exact .inr h4
    ·exact .inl ⟨j,h1,by omega,h3,h4⟩
  ·rw [if_neg h,ih]
   constructor
   ·rintro ⟨j,h1,h2,h3,h4⟩
    exact ⟨j,h1,by omega,h3,h4⟩
   ·rintro ⟨j,h1,h2,h3,h4⟩
    by_cases e:j=i
    ·subst e;exact absurd h3 h
    ·exact ⟨j,h1,by omega,h3,h4⟩
section
variable {l:List Ent} {t:Tx}
theorem mem_conf {s:ByteArray}:s∈idsOf l (confL l t)↔∃x∈l,hitE t x=true∧x.id=s:=by
 rw [mem_mask]
 constructor
 ·rintro ⟨i,hi,h1,h2⟩
  refine ⟨l[i],List.getElem_mem hi,?_,h2⟩
  unfold confL at h1
  rw [List.getElem?_map,List.getElem?_eq_getElem hi] at h1
  simpa using h1
 ·rintro ⟨x,hx,h1,h2⟩
  obtain ⟨i,hi,rfl⟩:=List.getElem_of_mem hx
  refine ⟨i,hi,?_,h2⟩
  unfold confL
  rw [List.getElem?_map,List.getElem?_eq_getElem hi]
  simpa using h1
theorem mem_below (hn:(l.map (·.id)).Nodup) {s:ByteArray} {k:Nat} (hk:k<l.length):l[k].id∈idsOf l (belowL l s)↔belowS l s k=true:=mem_reach hn hk
theorem mem_ev (hn:(l.map (·.id)).Nodup) {s:ByteArray}:s∈idsOf l (evL l t)↔∃x∈l,hitE t x=true∧s∈idsOf l (belowL l x.id):=by
 rw [mem_mask]
 constructor
 ·rintro ⟨k,hk,h1,rfl⟩
  obtain ⟨j,h2,_,h3,h4⟩:=(evI_iff hk (Nat.le_refl _)).1 h1
  exact ⟨l[j],List.getElem_mem h2,h3,(mem_below hn hk).2 h4⟩
 ·rintro ⟨x,hx,h1,h2⟩
  obtain ⟨j,hj,rfl⟩:=List.getElem_of_mem hx
  obtain ⟨k,hk,_,rfl⟩:=mem_mask.1 h2
  exact ⟨k,hk,(evI_iff hk (Nat.le_refl _)).2 ⟨j,hj,hj,h1,(mem_below hn hk).1 h2⟩,rfl⟩
theorem conf_ev (hn:(l.map (·.id)).Nodup) {x:Ent} (hx:x∈l) (h:hitE t x=true):x.id∈idsOf l (evL l t):=by
 obtain ⟨i,hi,rfl⟩:=List.getElem_of_mem hx
 exact (mem_ev hn).2 ⟨l[i],hx,h,inS_iff.1 (both_self hn hi)⟩
theorem conf_none (h:l.any (hitE t)=false):idsOf l (confL l t)= []:=by
 rw [List.any_eq_false] at h
 refine ids_no fun b hb=>?_
 unfold confL at hb
 obtain ⟨x,hx,rfl⟩:=List.mem_map.1 hb
 simpa using h x hx
theorem conf_len0:(idsOf l (confL l t)).length=0↔l.any (hitE t)=false:=by
 constructor
 ·intro h
  rw [List.any_eq_false]
  intro x hx hh
  have:=mem_conf.2 ⟨x,hx,hh,rfl⟩
  have:=List.length_pos_of_mem this
  omega
 ·intro h;rw [conf_none h];rfl
end
theorem need_le {l:List Ent} {S:Int}:∀{ids:List ByteArray} {n m:Int},needI l S n ids≤m↔n≤m∧∀s∈ids,(getE l s).fee*S / (getE l s).size+1≤m
 | [],n,m=>by simp [needI]
 |s::ids,n,m=>by
  have ih:=need_le (l:=l) (S:=S) (ids:=ids) (n:=max n ((getE l s).fee*S / (getE l s).size+1)) (m:=m)
  unfold needI at ih ⊢
  rw [List.foldl_cons,ih]
  simp only [List.mem_cons,forall_eq_or_imp]
  constructor
  ·rintro ⟨h1,h2⟩;exact ⟨by omega,by omega,h2⟩
  ·rintro ⟨h1,h2,h3⟩;exact ⟨by omega,h3⟩
theorem need_take {l:List Ent} {S n:Int} {ids:List ByteArray} {i:Nat} (h:i<ids.length):needI l S n (ids.take (i+1))=max (needI l S n (ids.take i)) ((getE l ids[i]).fee*S / (getE l ids[i]).size+1):=by
 unfold needI
 rw [List.take_succ_eq_append_getElem h,List.foldl_append];rfl
theorem need_base {l:List Ent} {S n:Int} {ids:List ByteArray}:n≤needI l S n ids:=(need_le.1 (Int.le_refl _)).1
theorem more_iff {f s o i:Int} (h1:pricedB f s=true) (h2:pricedB o i=true):cmpR f s o i>0↔o*s / i+1≤f:=by
 have h2':=h2
 unfold pricedB at h2'
 rw [Bool.and_eq_true,goodB_iff,decide_eq_true_eq] at h2'
 unfold cmpR
 rw [h1,h2,Bool.and_self,if_pos rfl]
 have e:o*s / i+1≤f↔o*s<f*i:=by
  rw [←Int.ediv_lt_iff_lt_mul (by omega)];omega
 rw [e]
 split
 ·omega
 ·split<;>omega
end Go.K
end
section
namespace Go.K
open Go
def cmpU (a b:Nat):Int:=if a<b then -1 else if b<a then 1 else 0
theorem pricedB_iff {f s:Int}:pricedB f s=true↔(0≤f∧f≤2100000000000000)∧1≤s∧s≤1000000:=by
 unfold pricedB
 rw [Bool.and_eq_true,goodB_iff,decide_eq_true_eq]
theorem pricedB_nat {f s:Int} (h:pricedB f s=true):∃F S:Nat,f=(F:Nat)∧s=(S:Nat)∧F≤2100000000000000∧1≤S∧S≤1000000:=by
 rw [pricedB_iff] at h
 exact ⟨f.toNat,s.toNat,by omega,by omega,by omega,by omega,by omega⟩
theorem cmpR_nat {F S O I:Nat} (h1:pricedB (F:Nat) (S:Nat)=true) (h2:pricedB (O:Nat) (I:Nat)=true):cmpR (F:Nat) (S:Nat) (O:Nat) (I:Nat)=cmpU (F*I) (O*S):=by
 unfold cmpR cmpU
 rw [h1,h2,Bool.and_self,if_pos rfl,←Int.natCast_mul,←Int.natCast_mul]
 generalize F*I=a
 generalize O*S=b
 split<;>(try split)<;>(try split)<;>(try split)<;>omega
theorem cmpR_no {f s o i:Int} (h:pricedB f s=false∨pricedB o i=false):cmpR f s o i=0:=by
 unfold cmpR
 rw [if_neg]
 rcases h with h|h<;>rw [h]<;>simp
theorem parts_nat (a b:Nat):a / 1000000*b+a%1000000*b / 1000000=a*b / 1000000∧a%1000000*b%1000000=a*b%1000000:=by
 have e:a*b=1000000*(a / 1000000*b)+a%1000000*b:=by
  conv=>lhs;rw [←Nat.div_add_mod a 1000000]
  rw [Nat.add_mul,Nat.mul_assoc]
 rw [e]
 generalize a / 1000000*b=x
 generalize a%1000000*b=y
 omega
theorem cmpU_parts {a b:Nat}:cmpU a b=if a / 1000000<b / 1000000∨a / 1000000=b / 1000000∧a%1000000<b%1000000 then -1 else if b / 1000000<a / 1000000∨b%1000000<a%1000000 then 1 else 0:=by
 unfold cmpU
 split<;>split<;>(try split)<;>(try split)<;>omega
end Go.K
end
section
namespace Go.Proofs.YtfebcajheojodaaGreatDoor
open Go Go.K
attribute [local irreducible] regK codeK retK KOp.wp K.Spec u32 leS vnS str zero32 sha2 encT idT sizeT checkT grantB idN stepR workL reachE findI
end Go.Proofs.YtfebcajheojodaaGreatDoor
end
section
namespace Go.Proofs.YtfebcajheojodaaGreatDoor
open Go Go.K
attribute [local irreducible] regK codeK retK KOp.wp K.Spec u32 leS vnS str zero32 sha2 encT idT sizeT checkT grantB idN hangs stepR findI
abbrev bBase (l:List Ent) (id:ByteArray) (i:Nat):Bool:=decide ((i:Int)=findI l id)
abbrev bEdge (l:List Ent) (k i:Nat):Bool:=hangE l i k
theorem stepR_none {base:Nat→Bool} {edge:Nat→Nat→Bool} {n:Nat} (h:∀i,i<n→base i=false):∀(r i:Nat),i<n→stepR base edge n r i=false
 |0,i,_=>by unfold stepR;rfl
 |r+1,i,hi=>by
  rw [←Bool.not_eq_true,stepR_succ]
  rintro (h1|⟨k,h1,h2,h3⟩)
  ·rw [h i hi] at h1;cases h1
  ·rw [stepR_none h r k h1] at h2;cases h2
set_option maxHeartbeats 2000000 in
theorem below_spec {M : List Nat} {v : Value} {l : List Ent} (id : ByteArray) (w : World) (hl : SlR entR M w v l) (hn : l.length ≤ 1000) (hE : ∀ x ∈ l, x.tx.Sm) : K.Spec Tryz.prog F.kedgeref14_Below [v, .string id] w fun r w' => SlE boolE w' r (belowL l id) ∧ Ext w w' ∧ ∀ b ∈ blkOf r, w.heap.size ≤ b := by
  have hqe : ∀ x ∈ l, x.tx.ins.length ≤ 1000 := fun x hx => (hE x hx).ins
  have hf1 := findI_lt (l := l) (id := id)
  refine s_kedgeref14_Below rfl ?_
  unfold k_kedgeref14_Below
  refine oy ?_
  repeat' (first|(first|refine go1 ?_|refine zg (fun _ _=>?_)|refine zi (fun _ _=>?_))|refine zL rfl (fun h => ?_) (fun h => ?_)|(refine zG (E := entR) (M := M) (l := l) rfl (SlR.ext hl (by exact fx)) ?_)|(refine st_mkBool rfl rfl (by omega) (fun b w2 x2 a2 hb2 => ?_))|(refine zC rfl (find_spec (M := M) (l := l) id _ (by exact fx) (by omega)) ?_; rintro _ w3 ⟨rfl, hw3⟩; subst hw3))
  · have hfn : ∀ i, i < l.length → bBase l id i = false := fun i hi => decide_eq_false (by omega)
    have e : belowL l id = List.replicate l.length false := by
      unfold belowL reachL
      refine List.ext_getElem (by simp) fun i h1 h2 => ?_
      simp only [List.getElem_map, List.getElem_range, List.getElem_replicate]
      exact stepR_none hfn _ _ (by simpa using h1)
    rw [e]
    exact x_ret rfl ⟨AtB.sl a2 (by simp), by exact fx, by intro y hy; have hy : y ∈ [b] := hy; simp at hy; omega⟩
  · obtain ⟨n0, hn0⟩ : ∃ n0 : Nat, findI l id = n0 := ⟨(findI l id).toNat, by omega⟩
    have hnl : n0 < l.length := by omega
    rw [hn0]
    refine st_index rfl rfl (by omega) ?_
    refine st_storeB (m := List.replicate l.length false) (o := n0) (v := true) rfl rfl a2 (by simpa using hnl) (fun w4 c4 a4 => ?_)
    have x4 : Ext w w4 := (x2.chg c4).mono (by intro y hy; simp at hy; right; omega)
    have hm0 : Marks (bBase l id) (bEdge l) l.length ((List.replicate l.length false).set n0 true) := ⟨by simp, fun i hi hm => by
      rw [List.getElem_set] at hm
      split at hm
      · rename_i e; subst e
        exact stepR_base hnl (decide_eq_true hn0.symm)
      · simp at hm⟩
    have hs0 : has ((List.replicate l.length false).set n0 true) n0 := by
      unfold has; rw [List.getElem?_set_self (by simpa using hnl)]
    clear a2 x2 c4
    generalize (List.replicate l.length false).set n0 true = m0 at a4 hm0 hs0
    repeat' (first|(first|refine go1 ?_|refine zg (fun _ _=>?_)|refine zi (fun _ _=>?_))|refine zL rfl (fun h => ?_) (fun h => ?_)|refine zK (d := some 58) rfl (fun hmi => ?_) (fun hmi => ?_)|refine zK (d := some 63) rfl (fun hmk => ?_) (fun hmk => ?_)|(refine zG (E := entR) (M := M) (l := l) rfl (SlR.ext hl (by exact fx)) ?_)|(refine c_loopV (fun (p : Nat × List Bool) w' => Ext w w' ∧ p.1 ≤ l.length + 1 ∧ AtB w' b p.2 ∧ has p.2 n0 ∧ RInv (bBase l id) (bEdge l) l.length p.1 0 p.2) (fun p => [(0, v), (5, .slice (some ⟨b, 0, none⟩) l.length l.length), (7, .int .i64 p.1)]) (fun p => l.length + 1 - p.1) (0, m0) ⟨rfl, rfl, rfl, trivial⟩ ⟨x4, by simp, a4, hs0, RInv.zero hm0⟩ ?_; rintro ⟨r, m⟩ ρ w3 ⟨x3, hr, a3, hs3, hI⟩; simp only at hr a3 hs3 hI; dsimp only)|(refine c_loopV (fun (p : Nat × List Bool) w' => Ext w w' ∧ p.1 ≤ l.length ∧ AtB w' b p.2 ∧ has p.2 n0 ∧ RInv (bBase l id) (bEdge l) l.length r p.1 p.2) (fun p => [(0, v), (5, .slice (some ⟨b, 0, none⟩) l.length l.length), (7, .int .i64 r), (8, .int .i64 p.1)]) (fun p => l.length - p.1) (0, m) ⟨rfl, rfl, rfl, rfl, trivial⟩ ⟨by exact fx, by simp, by focus (repeat (first | assumption | (apply At.ext; assumption))), hs3, hI⟩ ?_; clear a3 hI x3 hs3; clear m; rintro ⟨i, m⟩ ρ4 w5 ⟨x5, hi, a5, hs5, hI⟩; simp only at hi a5 hs5 hI; dsimp only)|(have hil : i < l.length := (by omega); refine c_loopV (fun (p : Nat × List Bool) w' => Ext w w' ∧ p.1 ≤ l.length ∧ AtB w' b p.2 ∧ has p.2 n0 ∧ RInv (bBase l id) (bEdge l) l.length r i p.2 ∧ ∀ k, k < p.1 → stepR (bBase l id) (bEdge l) l.length r k = true → hangE l i k = true → has p.2 i) (fun p => [(0, v), (5, .slice (some ⟨b, 0, none⟩) l.length l.length), (7, .int .i64 r), (8, .int .i64 i), (9, .int .i64 p.1)]) (fun p => l.length - p.1) (0, m) ⟨rfl, rfl, rfl, rfl, rfl, trivial⟩ ⟨by exact fx, by simp, a5, hs5, hI, fun k hk => absurd hk (by simp)⟩ ?_; rintro ⟨k, m7⟩ ρ7 w7 ⟨x7, hk, a7, hs7, hK, hE7⟩; simp only at hk a7 hs7 hK hE7; dsimp only; have hml7 := hK.mks.len)|(refine st_elemR (d := some 43) (E := entR) (M := M) rfl rfl (n := i) (l := l) (SlR.ext hl (by exact fx)) rfl hil (fun ad cs r5 he => ?_); obtain ⟨iv2, ov2, rfl, g1, g2, g3⟩ := he)|(refine st_elemR (d := some 48) (E := entR) (M := M) rfl rfl (n := k) (l := l) (SlR.ext hl (by exact fx)) rfl (by omega) (fun ad cs r8 he => ?_); have hkl : k < l.length := (by omega))|(refine st_lN0 (d := some 49) (n := 7) (l := cs) rfl r8 (by rw [entR.len he]; exact Nat.le_refl _) (List.take_of_length_le (by rw [entR.len he]; exact Nat.le_refl _)) ?_)|(refine zC rfl (hangs_spec (M := M) (cs := txCs l[i].tx iv2 ov2) (t := l[i].tx) (x := l[k]) _ ⟨iv2, ov2, rfl, by exact fx, by exact fx, g3.1, g3.2.1⟩ he (by have := hqe _ (List.getElem_mem hil); omega)) ?_; rintro _ w8 ⟨rfl, x8⟩)|(refine st_elemE (d := some 55) (E := boolE) rfl rfl (n := i) (l := m7) (AtB.sl (by focus (repeat (first | assumption | (apply At.ext; assumption)))) hml7.symm) rfl (by omega) (fun ad r6 => ?_))|(refine st_elemE (d := some 60) (E := boolE) rfl rfl (n := k) (l := m7) (AtB.sl (by focus (repeat (first | assumption | (apply At.ext; assumption)))) hml7.symm) rfl (by omega) (fun ad r6 => ?_))|(refine st_index (d := some 66) rfl rfl (by omega) ?_)|(refine st_storeB (m := m7) (o := i) (v := (m7[i]'(by omega) || (m7[k]'(by omega) && hangs l[i].tx l[k]))) rfl (congrArg Value.bool (by first | (rw [hmi]; rfl) | (rw [hmi, hmk]; rfl) | (rw [hmi, hmk]; simp))) (by focus (repeat (first | assumption | (apply At.ext; assumption)))) (by omega) (fun w9 c9 a9 => ?_)))
    all_goals first
      | (have hx7 : Unit → Ext w w9 := fun _ => (Ext.chg (w := w) (by exact fx) c9).mono (by intro y hy; simp at hy; right; omega)
         have he : hangE l i k = hangs l[i].tx l[k] := by rw [hangE, entD_get hkl, entD_get hil]
         have hx : (m7[k] && hangs l[i].tx l[k]) = true → stepR (bBase l id) (bEdge l) l.length l.length i = true := fun hh => by
           rw [Bool.and_eq_true] at hh
           exact stepR_closed hil hkl (hK.mks.sound k (by omega) hh.1) (by rw [← he] at hh; exact hh.2)
         exact ⟨(k + 1, _), ⟨rfl, rfl, rfl, rfl, rfl, trivial⟩, ⟨hx7 (), by simp; omega, a9, has_set (by omega) hs7, hK.set (by omega) hx, fun q hq hs2 hh => by
           by_cases e : q = k
           · subst e
             exact has_new (by omega) (by rw [Bool.and_eq_true]; exact ⟨has_get (hK.all q hkl hs2) (by omega), by rw [← he]; exact hh⟩)
           · exact has_set (by omega) (hE7 q (by simp at hq; omega) hs2 hh)⟩, by simp; omega⟩)
      | exact ⟨(i + 1, m7), ⟨rfl, rfl, rfl, rfl, trivial⟩, ⟨by exact fx, by simp; omega, by focus (repeat (first | assumption | (apply At.ext; assumption))), hs7, hK.next (fun hb => by have : i = n0 := (by have := of_decide_eq_true hb; omega); rw [this]; exact hs7) (fun q hq => hE7 q (by omega))⟩, by simp; omega⟩
      | exact ⟨(r + 1, m), ⟨rfl, rfl, rfl, trivial⟩, ⟨by exact fx, by simp; omega, by focus (repeat (first | assumption | (apply At.ext; assumption))), hs5, hI.round (by omega)⟩, by simp; omega⟩
      | (have hd := hI.mks.done (fun q hq hs2 => hI.all q hq (stepR_le hs2 (by omega)))
         subst hd
         exact x_ret rfl ⟨AtB.sl (by focus (repeat (first | assumption | (apply At.ext; assumption)))) (reachL_length _ _ _).symm, by exact fx, by intro y hy; have hy : y ∈ [b] := hy; simp at hy; omega⟩)
      | trace_state
end Go.Proofs.YtfebcajheojodaaGreatDoor
end
section
namespace Go.Proofs.YtfebcajheojodaaGreatDoor
open Go Go.K
attribute [local irreducible] regK codeK retK KOp.wp K.Spec u32 leS vnS str zero32 sha2 encT idT sizeT checkT grantB idN hangs stepR findI spends reachE workL
section
variable {P:Program} {d:Option Tmp} {r:KR} {K:Env→World→Prop} {ρ:Env} {w:World}
theorem st_dropE {α:Type} {E:Enc α} {size:Nat} {x a:Operand} {v:Value} {l:List α} {ka:IntKind} {lo:Nat} (hx:ev ρ x=v) (ha:ev ρ a=.int ka (lo:Nat)) (hs:SlE E w v l) (h1:lo≤l.length) (hk:size=E.k)
  (k:∀v',SlE E w v' (l.drop lo)→regK P r K (put ρ d v') w):regK P (.cons ⟨d,.sliceSl size x (some a) none,none⟩ r) K ρ w:=by
 subst hk
 obtain ⟨hl,base,cap,rfl,hc,hr⟩:=hs
 have h2:=SlE.cut (E:=E) (lo:=lo) (hi:=l.length) ⟨hl,base,cap,rfl,hc,hr⟩ h1 (Nat.le_refl _) (cap - lo) (by omega)
 rw [List.take_of_length_le (by rw [List.length_drop];omega)] at h2
 refine st_fix rfl (v:=.slice (if cap=lo then base else base.map fun ad:Addr=>ad.add (lo*E.k)) (l.length - lo) (cap - lo)) ?_ (k _ h2)
 simp only [KOp.fix,hx,ha,Option.bind_some,Option.map_some]
 rw [if_pos (by omega)]
 simp only [Option.bind_some,Int.toNat_natCast]
 simp
end
theorem SlE.offmap {α:Type} {F:Enc α} {w w':World} {v:Value} {l:List α} {b ck:Nat} {es:Array MapEntry} (h:SlE F w v l) (hm:At w b (.map es ck)) (c:Chg [b] w w'):SlE F w' v l:=by
 by_cases hp:0<l.length
 ·refine h.chg c (fun a m k e hmem=>?_)
  simp only [List.mem_singleton] at hmem
  obtain ⟨h1,base,cap,hv,hc,h2⟩:=h
  have hpos:0<(F.flat l).length:=by rw [F.flat_length];exact Nat.mul_pos hp F.pos
  obtain ⟨a',ha,hr⟩:=h2 hpos
  rw [e,ha] at hv
  injection hv with hv1
  injection hv1 with hv2
  subst hv2
  have h3:=hr 0 _ (List.getElem?_eq_getElem hpos)
  unfold World.cell? at h3
  rw [add_block,hmem,show w.heap[b]? =some (.map es ck) from hm] at h3
  simp at h3
 ·have hl:l= []:=List.length_eq_zero_iff.1 (by omega)
  subst hl
  exact h.anyw
def Nexts (fv:Value) (l:List Ent) (M:List Nat) (w:World) (nxt:Ent→List ByteArray):Prop:=
 ∃f first cap,fv=.func (.func f) first cap∧hasBody Tryz.prog f=true∧∀x∈l,∀w' cs,Ext w w'→entR.rel M w' cs x→K.Spec Tryz.prog f (first.toList++ [.agg cs.toArray]++cap.toList) w' fun r w''=>Own strE T.string w'.heap.size w'' r (nxt x)∧Ext w' w''
theorem reach1_hb:hasBody Tryz.prog F.graph_Graph_reach_1=true:=by kernel_rfl
theorem reach1_spec {b7 bm:Nat} {met:List (ByteArray × Nat)} (id:ByteArray) (w:World) (h7:At w b7 (.cells [.map (some bm)].toArray T.map_string_int (0,0))) (hm:MapE sK (fun n:Nat=>Value.int .i64 (n:Nat)) w bm met) (hp:∀s c,aget met s=some c→1≤c):K.Spec Tryz.prog F.graph_Graph_reach_1 [.string id,.pointer (some ⟨b7,0,none⟩)] w fun r w'=>r=.bool (!metB met id)∧w'=w:=by
 have r7:Row w ⟨b7,0,none⟩ [.map (some bm)]:=Row.of_at h7
 refine s_graph_Graph_reach_1 rfl ?_
 unfold k_graph_Graph_reach_1
 refine oy ?_
 repeat' (first|(first|refine go1 ?_|refine zg (fun _ _=>?_)|refine zi (fun _ _=>?_))|(refine st_lookup (E:=sK) (fv:=fun n:Nat=>Value.int .i64 (n:Nat)) (k:=id) rfl rfl hm rfl rfl (fun c hc=>?_) (fun hn=>?_)))
 ·have h1:=hp _ _ hc
  have e:metB met id=true:=by unfold metB;rw [hc];rfl
  rw [e]
  exact x_ret rfl ⟨congrArg Value.bool (decide_eq_false (by omega)),rfl⟩
 ·have e:metB met id=false:=by unfold metB;rw [hn];rfl
  rw [e]
  exact x_ret rfl ⟨rfl,rfl⟩
set_option maxHeartbeats 2000000 in
theorem reach_spec {g:Nat} {M:List Nat} {l:List Ent} {vf fv:Value} {frm:List ByteArray} {nxt:Ent→List ByteArray} (w:World) (hG:GrR w g M l) (hlt:∀b∈M,b<w.heap.size) (hF:SlE strE w vf frm) (hN:Nexts fv l M w nxt) (hn:l.length≤1000) (hfl:frm.length≤1000)
  (hin0:∀s∈frm,∃j,j<l.length∧(entD l j).id=s) (hin:∀i,i<l.length→∀s∈nxt (entD l i),∃j,j<l.length∧(entD l j).id=s) (hnl:∀x∈l,(nxt x).length≤1000):
  K.Spec Tryz.prog F.graph_Graph_reach [.pointer (some ⟨g,0,none⟩),vf,fv] w fun r w'=>Own strE T.string w.heap.size w' r (idsOf l (reachE l frm nxt))∧Ext w w':=by
 have hG0:=hG
 have hnd:=hG.nodup
 obtain ⟨b1,vo,b2,m,sp,hP⟩:=hG
 have rg:Row w ⟨g,0,none⟩ [.map (some b1),vo,.map (some b2)]:=Row.of_at hP.at_
 have hinv:=hP.inv
 obtain ⟨f,first,cap,rfl,hfb,hnx⟩:=hN
 have hW0:workL [] nxt l≤1000*l.length:=workL_le [] nxt l hnl
 refine s_graph_Graph_reach rfl ?_
 unfold k_graph_Graph_reach
 refine oy ?_
 repeat' (first|(first|refine go1 ?_|refine zg (fun _ _=>?_)|refine zi (fun _ _=>?_))|refine zL rfl (fun h=>?_) (fun h=>?_)|(refine st_makeMap (E:=sK) (fv:=fun n:Nat=>Value.int .i64 (n:Nat)) (fun bm w1 x1 m1 hb1=>?_);have lm:=m1.lt)|(refine zH (fun b7 w2 x2 a2 hb2=>?_);have l7:=a2.lt)|(refine st_store0 (b:=b7) (v:=.map (some bm)) rfl rfl rfl a2 (by decide) (fun w3 c3 a3=>?_))|(refine st_len rfl hT ?_)|(refine c_loopV (fun (p:Value × List ByteArray × List (ByteArray × Nat)) w'=>Ext w w'∧w3.heap.size≤w'.heap.size∧SlE strE w' p.1 p.2.1∧At w' b7 (.cells [.map (some bm)].toArray T.map_string_int (0,0))∧MapE sK (fun n:Nat=>Value.int .i64 (n:Nat)) w' bm p.2.2∧BInv l frm nxt p.2.1 p.2.2∧p.2.1.length+workL p.2.2 nxt l≤2000000∧∀s c,aget p.2.2 s=some c→c+(p.2.1.length+workL p.2.2 nxt l)≤2000000) (fun p=> [(0,.pointer (some ⟨g,0,none⟩)),(2,.func (.func f) first cap),(7,.pointer (some ⟨b7,0,none⟩)),(8,p.1)]) (fun p=>p.2.1.length+workL p.2.2 nxt l) (vf,frm, []) ⟨rfl,rfl,rfl,rfl,trivial⟩ ?_ ?_))
 ·have x3:Ext w w3:=((x1.trans x2).chg c3).mono (by intro y hy;simp at hy;have:=x1.size;right;omega)
  exact ⟨x3,Nat.le_refl _,hF.ext x3,a3,(m1.ext x2).chg c3 (by simp;omega),BInv.start hin0,by simp only;omega,fun s c hc=>by simp [aget] at hc⟩
 ·rintro ⟨v,T,met⟩ ρ w4 ⟨x4,s34,hT,q7,qm,hB,hw,hc⟩
  simp only at hT qm hB hw hc
  dsimp only
  have r7:Row w4 ⟨b7,0,none⟩ [.map (some bm)]:=Row.of_at q7
  have s23:=c3.size
  have s12:=x2.size
  clear c3 a3 a2 x1 x2 m1
  repeat' (first|(refine zi (fun w5 x5=>?_))|(refine zg (fun w5 x5=>?_))|(first|refine go1 ?_|refine zg (fun _ _=>?_)|refine zi (fun _ _=>?_))|refine zL rfl (fun h=>?_) (fun h=>?_)|(refine st_len rfl hT ?_))
  ·obtain ⟨id,T',rfl⟩:∃id T',T=id::T':=by
    cases T with
    |nil=>simp at h
    |cons a b=>exact ⟨a,b,rfl⟩
   have hlenT:(id::T').length=T'.length+1:=rfl
   refine st_elemE rfl rfl (n:=0) (l:=id::T') (hT.ext x5) rfl (by simp) (fun ad r5=>?_)
   have r5:Row w5 ad [Value.string id]:=r5
   have hT5:=hT.ext x5
   have qm5:=qm.ext x5
   have q75:=q7.ext x5
   have r75:=r7.ext x5
   have x05:Unit→Ext w w5:=fun _=>x4.trans x5
   have s45:=x5.size
   clear x5 hT qm q7 r7 x4
   repeat' (first|(first|refine go1 ?_|refine zg (fun _ _=>?_)|refine zi (fun _ _=>?_))|(refine st_lookup (d:=some 20) (E:=sK) (fv:=fun n:Nat=>Value.int .i64 (n:Nat)) (k:=id) rfl rfl qm5 rfl rfl (fun c hcc=>have hcc2:=hc id c hcc;?_) (fun hcn=>?_)))
   ·have hp1:=hB.pos id c hcc
    refine st_mapUpdate (E:=sK) (fv:=fun n:Nat=>Value.int .i64 (n:Nat)) (k:=id) (v:=c+1) rfl rfl rfl qm5 rfl rfl (fun w6 c6 m6=>?_)
    have lm6:=m6.lt
    have q76:=At.chg c6 q75 (by simp;omega)
    have r76:Row w6 ⟨b7,0,none⟩ [.map (some bm)]:=Row.of_at q76
    have x06:Ext w w6:=(Ext.chg (x05 ()) c6).mono (by intro y hy;simp at hy;right;omega)
    have s6:=c6.size
    have hT6:SlE strE w6 v (id::T'):=by
     obtain ⟨es,ck,hat,_⟩:=qm5
     exact SlE.offmap hT5 hat c6
    clear r5
    repeat' (first|(refine zi (fun w7 x7=>?_))|(refine zg (fun w7 x7=>?_))|(first|refine go1 ?_|refine zg (fun _ _=>?_)|refine zi (fun _ _=>?_))|(refine st_elemE (d:=some 24) rfl rfl (n:=0) (l:=id::T') (hT6.ext x7) rfl (by simp) (fun ad r5=>?_);have r5:Row w7 ad [Value.string id]:=r5)|(refine st_lookup (d:=some 26) (E:=sK) (fv:=fun n:Nat=>Value.int .i64 (n:Nat)) (k:=id) rfl rfl (m6.ext x7) rfl rfl (fun c2 hc2=>?_) (fun hcn=>?_))|(refine zL rfl (fun h2=>?_) (fun h2=>?_))|(refine st_dropE (d:=some 15) (E:=strE) (lo:=1) rfl rfl (hT6.ext x7) (by simp) rfl (fun v8 hT8=>?_)))
    ·rw [aget_set',if_pos rfl] at hc2;injection hc2 with hc2;omega
    ·rw [aget_set',if_pos rfl] at hc2;injection hc2 with hc2
     refine ⟨(v8,T',aset met id (c+1)),⟨rfl,rfl,rfl,rfl,trivial⟩,⟨x06.trans x7,by have:=x7.size;omega,hT8,q76.ext x7,m6.ext x7,hB.again hcc,?_,fun s d hd=>?_⟩,?_⟩
     ·have:=workL_set (met:=met) (nxt:=nxt) (id:=id) (c:=c+1) l;simp only;omega
     ·have:=workL_set (met:=met) (nxt:=nxt) (id:=id) (c:=c+1) l
      rw [aget_set'] at hd
      simp only
      split at hd
      ·injection hd with hd;omega
      ·have:=hc s d hd;omega
     ·have:=workL_set (met:=met) (nxt:=nxt) (id:=id) (c:=c+1) l;simp only;omega
    ·rw [aget_set',if_pos rfl] at hcn;cases hcn
   ·obtain ⟨i,hi,ei,hsi⟩:=hB.todo id (by simp)
    subst ei
    refine st_mapUpdate (E:=sK) (fv:=fun n:Nat=>Value.int .i64 (n:Nat)) (k:=(entD l i).id) (v:=1) rfl rfl rfl qm5 rfl rfl (fun w6 c6 m6=>?_)
    have lm6:=m6.lt
    have q76:=At.chg c6 q75 (by simp;omega)
    have r76:Row w6 ⟨b7,0,none⟩ [.map (some bm)]:=Row.of_at q76
    have x06:Ext w w6:=(Ext.chg (x05 ()) c6).mono (by intro y hy;simp at hy;right;omega)
    have s6:=c6.size
    have hT6:SlE strE w6 v ((entD l i).id::T'):=by
     obtain ⟨es,ck,hat,_⟩:=qm5
     exact SlE.offmap hT5 hat c6
    clear r5
    repeat' (first|(refine zi (fun w7 x7=>?_))|(refine zg (fun w7 x7=>?_))|(first|refine go1 ?_|refine zg (fun _ _=>?_)|refine zi (fun _ _=>?_))|(refine st_elemE (d:=some 24) rfl rfl (n:=0) (l:=(entD l i).id::T') (hT6.ext x7) rfl (by simp) (fun ad r5=>?_);have r5:Row w7 ad [Value.string (entD l i).id]:=r5)|(refine st_lookup (d:=some 26) (E:=sK) (fv:=fun n:Nat=>Value.int .i64 (n:Nat)) (k:=(entD l i).id) rfl rfl (m6.ext x7) rfl rfl (fun c2 hc2=>have hT7:=hT6.ext x7;have m7:=m6.ext x7;have q77:=q76.ext x7;have x07:Unit→Ext w w7:=fun _=>x06.trans x7;have s67:=x7.size;?_) (fun hcn=>?_))|(refine zL rfl (fun h2=>?_) (fun h2=>?_))|(refine st_elemE (d:=some 35) rfl rfl (n:=0) (l:=(entD l i).id::T') (hT7.ext x7) rfl (by simp) (fun ad r5=>?_);have r5:Row w7 ad [Value.string (entD l i).id]:=r5)|(refine st_lookupR1 (d:=some 37) (KE:=sK) (F:=entR) (k:=(entD l i).id) rfl rfl (hP.ents.ext ((x07 ()).trans x7)) rfl rfl (fun y cs hy hr=>?_) (fun hn=>?_)))
    ·rw [hinv.ent] at hy
     obtain ⟨e1,e2,e3,e4⟩:=has_some hy
     have hye:y=entD l i:=by
      have h9:=(getE_id hG0 (show entD l i∈l by rw [entD_get hi];exact List.getElem_mem hi)).1
      rw [e2] at h9;exact h9
     subst hye
     have hnl9:=hnl _ e3
     refine st_callV rfl hfb rfl (hnx _ e3 _ cs ((x07 ()).trans x7) hr) ?_
     rintro v9 w9 ⟨o9,x9⟩
     obtain ⟨bv,cv,rfl⟩:=hT7.form
     obtain ⟨bu,cu,rfl⟩:=o9.sl.form
     refine zI (d:=some 39) (cs:= [.slice bv _ cv,.slice bu _ cu]) rfl (fun b w10 x10 a10 hb=>?_)
     refine zC rfl (concat_spec (l1:=(entD l i).id::T') (l2:=nxt (entD l i)) _ a10 ((hT7.ext x7).ext (x9.trans x10)) (o9.sl.ext x10) (by omega)) ?_
     rintro v11 w11 ⟨o11,x11⟩
     repeat' (first|(first|refine go1 ?_|refine zg (fun _ _=>?_)|refine zi (fun _ _=>?_))|(refine st_dropE (d:=some 15) (E:=strE) (lo:=1) rfl rfl o11.sl (by simp) rfl (fun v8 hT8=>?_)))
     have x711:=(x7.trans (x9.trans x10)).trans x11
     have hwf:=workL_first (nxt:=nxt) (met:=met) (c:=1) e3 (by unfold metB;rw [hcn];rfl)
     have hln:(T'++nxt (entD l i)).length=T'.length+(nxt (entD l i)).length:=List.length_append
     refine ⟨(v8,T'++nxt (entD l i),aset met (entD l i).id 1),⟨rfl,rfl,rfl,rfl,trivial⟩,⟨(x07 ()).trans x711,by have:=x711.size;omega,hT8,q77.ext x711,m7.ext x711,hB.first hnd hi hcn (hin i hi),?_,fun s d hd=>?_⟩,?_⟩
     ·simp only;omega
     ·rw [aget_set'] at hd
      simp only
      split at hd
      ·injection hd with hd;omega
      ·have:=hc s d hd;omega
     ·simp only;omega
    ·rw [hinv.ent] at hn
     exact absurd (List.find?_eq_none.1 hn _ (show entD l i∈l by rw [entD_get hi];exact List.getElem_mem hi)) (by simp)
    ·rw [aget_set',if_pos rfl] at hc2;injection hc2 with hc2;omega
    ·rw [aget_set',if_pos rfl] at hcn;cases hcn
  ·have hT0:T= []:=List.length_eq_zero_iff.1 (by omega)
   subst hT0
   have hml:(l.map (·.id)).length=l.length:=by simp
   have hord:SlR strR [] w4 vo (l.map (·.id)):=SlE.toR (F:=strE) (ag:=false) (hP.ord.ext x4) (by simp)
   refine zC rfl (cloneS_spec (M:= []) (v:=vo) (l:=l.map (fun x:Ent=>x.id)) _ hord (by omega) (by simp)) ?_
   rintro v5 w5 ⟨o5,x5⟩
   have o5:=OwnR.toOwn o5
   have g5:=o5.base
   have lm4:=qm.lt
   have l74:=q7.lt
   have h7v:b7∉blkOf v5:=fun h=>by have:=g5 _ h;omega
   have hmv:bm∉blkOf v5:=fun h=>by have:=g5 _ h;omega
   repeat (first|refine go1 ?_|refine zg (fun _ _=>?_)|refine zi (fun _ _=>?_))
   refine zC rfl (del_spec (g:=F.graph_Graph_reach_1) (capl:= [.pointer (some ⟨b7,0,none⟩)]) (l:=l.map (fun x:Ent=>x.id)) _ (fun s=>!metB met s) reach1_hb o5 (by omega) (fun W s hW=>reach1_spec s W (At.chg hW (q7.ext x5) h7v) ((qm.ext x5).chg hW hmv) hB.pos)) ?_
   rintro v6 w6 ⟨o6,c6,hb6⟩
   repeat (first|refine go1 ?_|refine zg (fun _ _=>?_)|refine zi (fun _ _=>?_))
   have e:(l.map (·.id)).filter (fun x=>!!metB met x)=idsOf l (reachE l frm nxt):=by
    unfold reachE reachL
    refine filter_ids fun i hi=>?_
    rw [Bool.not_not]
    have:=hB.done i hi hnd
    rw [entD_get hi] at this
    exact this
   rw [e] at o6
   exact x_ret rfl ⟨o6.lower x4.size,((x4.trans x5).chg c6).mono (fun b hb=>.inr (Nat.le_trans x4.size (g5 b hb)))⟩
end Go.Proofs.YtfebcajheojodaaGreatDoor
end
