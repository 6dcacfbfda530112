/- Contracts: may a transaction hang on the entries of a graph? Contracts: a copy of a graph; nil graphs. Contracts: a pool, by the program. Contracts: what a pool accepts, by the program. Contracts: accepting a transaction, by the program. Plain: accepting step by step: what is there then, what stays, and the money of it. Plain: transactions over coins, made of small numbers. Plain: what the documen -/
import Derived.Test.YtbidkcjendncaaaGreatDoorDa21
set_option linter.unusedVariables false
set_option linter.unusedSimpArgs false
section
namespace Go.Proofs.YtbidkcjendncaaaGreatDoor
open Go Go.K
attribute [local irreducible] regK codeK retK KOp.wp K.Spec u32 leS vnS str zero32 sha2 encT idT sizeT checkT grantB
end Go.Proofs.YtbidkcjendncaaaGreatDoor
end
section
namespace Go.Proofs.YtbidkcjendncaaaGreatDoor
open Go Go.K
section
attribute [local irreducible] regK codeK retK KOp.wp u32 leS vnS str zero32 sha2 encT idT sizeT checkT grantB
end
attribute [local irreducible] regK codeK retK KOp.wp K.Spec u32 leS vnS str zero32 sha2 encT idT sizeT checkT grantB
end Go.Proofs.YtbidkcjendncaaaGreatDoor
end
section
namespace Go.Proofs.YtbidkcjendncaaaGreatDoor
open Go Go.K
attribute [local irreducible] regK codeK retK KOp.wp K.Spec u32 leS vnS str zero32 sha2 encT idT sizeT checkT grantB feeP numAt byteAt
section
variable {f:Pt→Option Cn} {l:List Ent} {t:Tx} {h:Int}
end
end Go.Proofs.YtbidkcjendncaaaGreatDoor
end
section
namespace Go.Proofs.YtbidkcjendncaaaGreatDoor
open Go Go.K
attribute [local irreducible] regK codeK retK KOp.wp K.Spec u32 leS vnS str zero32 sha2 encT idT sizeT checkT grantB feeP numAt byteAt
end Go.Proofs.YtbidkcjendncaaaGreatDoor
end
section
namespace Go.Proofs.YtbidkcjendncaaaGreatDoor
open Go Go.K
section
attribute [local irreducible] checkT grantB inE sumV sumE values
end
section
variable {f:Pt→Option Cn} {l:List Ent} {t:Tx} {h rate:Int}
end
end Go.Proofs.YtbidkcjendncaaaGreatDoor
end
section
namespace Go.K
open Go Go.Proofs.YtbidkcjendncaaaGreatDoor
section
variable {f:Pt→Option Cn} {l:List Ent} {t:Tx} {h rate:Int}
theorem fee_src (hc:checkT t=0) (h0:(feeP f t h).2.1=0):(∀x∈t.ins,(f x.p).isSome=true)∧sumE (t.ins.map (inV f))=0∧(feeP f t h).1=sumV (t.ins.map (inV f)) - sumV (values t):=by
 cases hg:grantB t with
 |true=>rw [fee_grant hc hg] at h0;exact absurd h0 (show ¬(4:Int)=0 by decide)
 |false=>
  by_cases hk:∀j,∀hj:j<t.ins.length,inE f t h t.ins[j]=0
  ·refine ⟨fun x hx=>?_,?_⟩
   ·obtain ⟨j,hj,rfl⟩:=List.getElem_of_mem hx
    have:=hk j hj
    unfold inE at this
    cases hf:f t.ins[j].p with
    |none=>rw [hf] at this;exact absurd this (show ¬(8:Int)=0 by decide)
    |some c=>rfl
   ·rw [fee_all hc hg hk] at h0 ⊢
    by_cases h1:sumE (t.ins.map (inV f))=0
    ·rw [if_neg (show ¬sumE (t.ins.map (inV f))≠0 from fun q=>q h1)] at h0 ⊢
     by_cases h2:sumV (values t)>sumV (t.ins.map (inV f))
     ·rw [if_pos h2] at h0;exact absurd h0 (show ¬(12:Int)=0 by decide)
     ·rw [if_neg h2];exact ⟨h1,rfl⟩
    ·rw [if_pos (show sumE (t.ins.map (inV f))≠0 from h1)] at h0;exact absurd h0 h1
  ·exfalso
   have:∃i,(t.ins.findIdx? fun x=>decide (inE f t h x≠0))=some i:=by
    cases hq:t.ins.findIdx? fun x=>decide (inE f t h x≠0) with
    |some i=>exact ⟨i,rfl⟩
    |none=>
     refine absurd (fun j hj=>?_) hk
     have:=List.findIdx?_eq_none_iff.1 hq _ (List.getElem_mem hj)
     simpa using this
   obtain ⟨i,hi⟩:=this
   obtain ⟨h1,h2,h3⟩:=List.findIdx?_eq_some_iff_getElem.1 hi
   have he:inE f t h t.ins[i]≠0:=of_decide_eq_true h2
   rw [fee_in hc hg h1 (fun j hj hjl=>by have:=h3 j hj;simpa using this) he] at h0
   exact he h0
end
theorem dup_nodup:∀{l:List Pt},dupB l=false→l.Nodup
 | [],_=>List.nodup_nil
 |p::l,h=>by
  unfold dupB at h
  rw [Bool.or_eq_false_iff] at h
  exact List.nodup_cons.2 ⟨fun hm=>(by rw [List.contains_iff_mem.2 hm] at h;exact absurd h.1 (by decide)),dup_nodup h.2⟩
theorem check_once {t:Tx} (h:checkT t=0):(points t).Nodup:=by
 have h1:=(chk_parts h).2.2.2.1
 unfold twiceB at h1
 have:=dup_nodup h1
 exact (List.pairwise_reverse.1 this).imp fun h=>Ne.symm h
theorem sumOk_sum:∀(l:List Int) (s r:Int),sumOk s l=some r→r=s+l.sum∧∀a∈l,0≤a
 | [],s,r,h=>by simp [sumOk] at h;simp [h]
 |a::l,s,r,h=>by
  simp only [sumOk] at h
  split at h
  ·rename_i hc
   simp only [Bool.and_eq_true] at hc
   obtain ⟨h1,h2⟩:=sumOk_sum l _ r h
   refine ⟨by rw [h1,List.sum_cons];omega,fun b hb=>?_⟩
   rcases List.mem_cons.1 hb with rfl|hb
   ·exact ((goodB_iff _).1 hc.1).1
   ·exact h2 b hb
  ·cases h
theorem sumV_sum {l:List Int} (h:sumE l=0):sumV l=l.sum∧∀a∈l,0≤a:=by
 unfold sumE at h
 cases hs:sumOk 0 l with
 |none=>rw [hs] at h;exact absurd h (show ¬(3:Int)=0 by decide)
 |some r=>
  obtain ⟨h1,h2⟩:=sumOk_sum l 0 r hs
  exact ⟨by unfold sumV;rw [hs];show r=_;omega,h2⟩
end Go.K
end
section
namespace Go.K
open Go Go.Proofs.YtbidkcjendncaaaGreatDoor
def cutP (left:Int) (k:Nat):Int:=if left.tdiv (k:Nat)<0 then 0 else left.tdiv (k:Nat)
theorem cutP_bound {left:Int} {k:Nat} (hk:0<k) (hl: -100000≤left) {C:Int} (hC:left≤C) (h0:0≤C):0≤cutP left k∧cutP left k≤C∧ -100000≤left - cutP left k∧left - cutP left k≤C:=by
 unfold cutP
 by_cases hn:0≤left
 ·obtain ⟨n,rfl⟩:=Int.eq_ofNat_of_zero_le hn
  have e:((n:Nat):Int).tdiv (k:Nat)=((n / k:Nat):Int):=by
   rw [Int.tdiv_eq_ediv_of_nonneg (by omega)];rfl
  have:=Nat.div_le_self n k
  rw [e]
  generalize n / k=q at this ⊢
  rw [if_neg (by omega)];omega
 ·have e:left.tdiv (k:Nat)≤0:=by
   obtain ⟨n,hn2⟩:=Int.eq_ofNat_of_zero_le (show 0≤ -left by omega)
   have:left= -((n:Nat):Int):=by omega
   rw [this,Int.neg_tdiv,Int.tdiv_eq_ediv_of_nonneg (by omega)]
   have:(0:Int)≤((n:Nat):Int) / ((k:Nat):Int):=Int.ediv_nonneg (by omega) (by omega)
   omega
  split<;>omega
end Go.K
end
section
namespace Go.K
open Go Go.Proofs.YtbidkcjendncaaaGreatDoor
end Go.K
end
section
namespace Go.K
open Go Go.Proofs.YtbidkcjendncaaaGreatDoor
def idS (t:Tx):ByteArray:=if checkT t=0 then idT t else ⟨#[]⟩
theorem idV_eq (t:Tx):idV t=.tuple #[.string (idS t),.int .i64 (checkT t)]:=by
 unfold idV idS
 split
 ·rename_i h;rw [h]
 ·rfl
section
variable {f:Pt→Option Cn} {l:List Ent} {a b:Tx} {h rate:Int}
end
end Go.K
end
section
namespace Go.Proofs.YtbidkcjendncaaaGreatDoor
open Go Go.K
attribute [local irreducible] regK codeK retK KOp.wp K.Spec u32 leS vnS str zero32 checkT grantB encT idT sizeT
end Go.Proofs.YtbidkcjendncaaaGreatDoor
end
section
namespace Go.Proofs.YtbidkcjendncaaaGreatDoor
open Go Go.K
attribute [local irreducible] regK codeK retK KOp.wp K.Spec u32 leS vnS str zero32 checkT grantB encT idT sizeT
end Go.Proofs.YtbidkcjendncaaaGreatDoor
end
section
namespace Go.Proofs.YtbidkcjendncaaaGreatDoor
open Go Go.K
attribute [local irreducible] regK codeK retK KOp.wp K.Spec u32 leS vnS str zero32
end Go.Proofs.YtbidkcjendncaaaGreatDoor
end
section
namespace Go.K
open Go Go.Proofs.YtbidkcjendncaaaGreatDoor
theorem tot_take1 {l:List En} (h:Srt l) {p:Pt} {c:Cn} (hc:aget l p=some c):tot (refTake l p)=tot l - c.v:=by
 rw [refTake_adel h,tot_del (srt_nodup h) hc]
theorem aget_del2 {κ β:Type} [DecidableEq κ] (m:List (κ × β)) (k k':κ):aget (adel m k) k'=if k=k' then none else aget m k':=by
 unfold aget adel
 rw [List.find?_filter]
 by_cases h:k=k'
 ·subst h
  rw [if_pos rfl]
  have:m.find? (fun p=>decide (decide (p.1≠k)=true∧decide (p.1=k)=true))=none:=List.find?_eq_none.2 fun p _=>by simp
  simp [this]
 ·rw [if_neg h]
  congr 2
  funext p
  by_cases h2:p.1=k'
  ·simp [h2,Ne.symm h]
  ·simp [h2]
theorem aget_take {l:List En} (h:Srt l) {p q:Pt} (hne:q≠p):aget (refTake l p) q=aget l q:=by
 rw [refTake_adel h,aget_del2,if_neg (Ne.symm hne)]
theorem tot_takeAll:∀(ins:List TIn) {l:List En},CG l→(ins.map (·.p)).Nodup→(∀x∈ins,(aget l x.p).isSome=true)→tot (takeAll l ins)=tot l - (ins.map (inV (aget l))).sum
 | [],l,_,_,_=>by simp [takeAll]
 |x::xs,l,hg,hn,hs=>by
  have hn':=List.nodup_cons.1 hn
  obtain ⟨c,hc⟩:=Option.isSome_iff_exists.1 (hs x (by simp))
  have hk:∀y∈xs,aget (refTake l x.p) y.p=aget l y.p:=fun y hy=>aget_take hg.srt fun e=>hn'.1 (List.mem_map.2 ⟨y,hy,e⟩)
  have ih:=tot_takeAll xs (hg.take x.p) hn'.2 fun y hy=>by rw [hk y hy];exact hs y (by simp [hy])
  have e:xs.map (inV (aget (refTake l x.p)))=xs.map (inV (aget l)):=List.map_congr_left fun y hy=>by unfold inV;rw [hk y hy]
  show tot (takeAll (refTake l x.p) xs)=_
  rw [ih,e,tot_take1 hg.srt hc,List.map_cons,List.sum_cons]
  have:inV (aget l) x=c.v:=by unfold inV;rw [hc];rfl
  rw [this];omega
theorem payL_tot {s:ByteArray} {h:Int}:∀(os:List TOut) (i:Nat) {m:List En},CG m→(payL s h i os m).2=0→tot (payL s h i os m).1=tot m+(os.map (·.v)).sum
 | [],_,_,_,_=>by simp [payL]
 |o::os,i,m,hg,h0=>by
  unfold payL at h0 ⊢
  split at h0
  ·rename_i hc;exact absurd h0 hc
  ·rename_i hc
   have hc:refPutCode m ⟨s,(i:Nat)⟩ (outC o h)=0:=by simpa using hc
   rw [if_neg (by rw [hc];decide),payL_tot os (i+1) (hg.put _ _) h0,tot_perm (put_perm hg.srt hc)]
   simp [outC];omega
theorem one_zero {l:List En} {t:Tx} {i:Nat} {h:Int} (h0:(oneL l t i h).2.1=0):(mayL l t i h).1=0∧(payL (idT t) h 0 t.outs (midL l t)).2=0∧(oneL l t i h).1=(payL (idT t) h 0 t.outs (midL l t)).1:=by
 by_cases h1:(mayL l t i h).1=0
 ·by_cases h2:(payL (idT t) h 0 t.outs (midL l t)).2=0
  ·refine ⟨h1,h2,?_⟩
   unfold oneL
   rw [if_neg (by rw [h1];decide),if_neg (by rw [h2];decide)]
  ·unfold oneL at h0
   rw [if_neg (by rw [h1];decide),if_pos h2] at h0
   exact absurd h0 h2
 ·unfold oneL at h0
  rw [if_pos h1] at h0
  exact absurd h0 h1
theorem one_tot {l:List En} {t:Tx} {i:Nat} {h:Int} (hg:CG l) (h0:(oneL l t i h).2.1=0):tot (oneL l t i h).1=if grantB t then tot l+sumV (values t) else tot l - (feeP (aget l) t h).1:=by
 obtain ⟨h1,h2,h3⟩:=one_zero h0
 have hc:=may_check h1
 have hv:=sumV_sum (check_sum hc)
 rw [h3,payL_tot _ _ (midL_cg hg t) h2]
 have hv1:(t.outs.map (·.v)).sum=sumV (values t):=hv.1.symm
 rw [hv1]
 by_cases hb:grantB t=true
 ·rw [if_pos hb]
  unfold midL
  rw [if_pos hb]
 ·rw [if_neg hb]
  unfold midL
  rw [if_neg hb]
  unfold mayL at h1
  rw [if_neg hb] at h1
  obtain ⟨s1,s2,s3⟩:=fee_src hc h1
  have hd:(t.ins.map (·.p)).Nodup:=check_once hc
  rw [tot_takeAll _ hg hd s1,s3,(sumV_sum s2).1]
  omega
end Go.K
end
section
namespace Go.K
open Go Go.Proofs.YtbidkcjendncaaaGreatDoor
theorem one_may {l:List En} {t:Tx} {i:Nat} {h:Int} (h1:(mayL l t i h).1≠0):oneL l t i h=(l,mayL l t i h):=by unfold oneL;rw [if_pos h1]
theorem one_pay {l:List En} {t:Tx} {i:Nat} {h:Int} (h1:(mayL l t i h).1=0) (h2:(payL (idT t) h 0 t.outs (midL l t)).2≠0):oneL l t i h=(l,(payL (idT t) h 0 t.outs (midL l t)).2, -1):=by unfold oneL;rw [if_neg (by rw [h1];decide),if_pos h2]
theorem one_ok {l:List En} {t:Tx} {i:Nat} {h:Int} (h1:(mayL l t i h).1=0) (h2:(payL (idT t) h 0 t.outs (midL l t)).2=0):oneL l t i h=((payL (idT t) h 0 t.outs (midL l t)).1,0, -1):=by unfold oneL;rw [if_neg (by rw [h1];decide),if_neg (by rw [h2];decide)]
theorem may_bad {l:List En} {t:Tx} {i:Nat} {h:Int} (hg:grantB t=true) (hc:checkT t≠0):mayL l t i h=(checkT t, -1):=by unfold mayL;rw [if_pos hg,if_pos hc]
theorem may_form {l:List En} {t:Tx} {i:Nat} {h:Int} (hg:grantB t=true) (hc:checkT t=0) (h1:0<i∨t.lock≠h):mayL l t i h=(4, -1):=by unfold mayL;rw [if_pos hg,if_neg (by rw [hc];decide),if_pos h1]
theorem may_ok {l:List En} {t:Tx} {i:Nat} {h:Int} (hg:grantB t=true) (hc:checkT t=0) (h1:¬(0<i∨t.lock≠h)):mayL l t i h=(0, -1):=by unfold mayL;rw [if_pos hg,if_neg (by rw [hc];decide),if_neg h1]
theorem may_fee {l:List En} {t:Tx} {i:Nat} {h:Int} (hg:grantB t=false):mayL l t i h=(feeP (aget l) t h).2:=by unfold mayL;rw [if_neg (by rw [hg];decide)]
end Go.K
namespace Go.Proofs.YtbidkcjendncaaaGreatDoor
open Go Go.K
attribute [local irreducible] regK codeK retK KOp.wp K.Spec u32 leS vnS str zero32 checkT grantB encT idT sizeT inE feeP mayL payL oneL takeAll refCoin refTake refPut refPutCode refTakeCode
set_option maxHeartbeats 1000000 in
theorem bmay_spec {b mb:Nat} {M:List Nat} {cs:List Value} {t:Tx} {l:List En} (i:Nat) (h:Int) (w:World) (hS:SetP T.coins_Set w b mb l) (hsc:SC l) (ht:txR.rel M w cs t) (hs:t.Sm):
  K.Spec Tryz.prog F.block_may [.pointer (some ⟨b,0,none⟩),.agg cs.toArray,.int .i64 (i:Nat),.int .i64 h] w fun r w'=>ErrR w' 1 r (mayL l t i h).1 (mayL l t i h).2∧Ext w w':=by
 have ht0:=ht
 have hl6:∀e∈l,e.2.s.size≤1000000:=fun e he=>by have:=(hsc e he).1;omega
 obtain ⟨iv,ov,rfl,h1,h2,h3,h4⟩:=ht
 have h41:=h4.1
 have h42:=h4.2
 refine s_block_may rfl ?_
 unfold k_block_may
 refine oy ?_
 cases hgr:grantB t with
 |true=>
  by_cases hc:checkT t=0
  ·repeat' (first|(refine zD (d:=some 5) rfl rfl (fun bp wp xp ap (rp:Row wp ⟨bp,0,none⟩ (txCs t iv ov)) hp0=>?_))|(refine zC (d:=some 13) rfl (tbase_spec (M:=M) (t:=t) (cs:=txCs t iv ov) _ (R.ext ht0 (by exact fx)) hs) ?_;rintro _ w1 ⟨rfl,x1⟩;rw [hgr])|(refine zC (d:=some 25) rfl (tcheck_spec (M:=M) (t:=t) (cs:=txCs t iv ov) _ (R.ext ht0 (by exact fx)) hs) ?_;rintro _ w2 ⟨rfl,x2⟩;rw [hc])|(refine st_fixV (d:=some 35) (.int .i64 t.lock) rfl (congrArg (fun n=>some (Value.int .i64 n)) (IntWalk.i64_in _ (by omega))) ?_)|(refine zJ (t:=32) (p:=((i:Nat):Int)>0) rfl (fun hi0=>?_) (fun hi0=>?_))|(refine zN (x:=.tmp 38) (p:=t.lock=h) rfl (fun hl0=>?_) (fun hl0=>?_))|(first|refine go1 ?_|refine zg (fun _ _=>?_)|refine zi (fun _ _=>?_)))
   ·exact x_ret rfl ⟨by rw [may_form (l:=l) hgr hc (h:=h) (i:=i) (.inl (by omega))];exact ErrR.num _ 1 (by decide),by exact fx⟩
   ·exact x_ret rfl ⟨by rw [may_form (l:=l) hgr hc (h:=h) (i:=i) (.inr hl0)];exact ErrR.num _ 1 (by decide),by exact fx⟩
   ·exact x_ret rfl ⟨by rw [may_ok (l:=l) hgr hc (h:=h) (i:=i) (by omega)];exact ErrR.none_ _ 1,by exact fx⟩
  ·repeat' (first|(refine zD (d:=some 5) rfl rfl (fun bp wp xp ap (rp:Row wp ⟨bp,0,none⟩ (txCs t iv ov)) hp0=>?_))|(refine zC (d:=some 13) rfl (tbase_spec (M:=M) (t:=t) (cs:=txCs t iv ov) _ (R.ext ht0 (by exact fx)) hs) ?_;rintro _ w1 ⟨rfl,x1⟩;rw [hgr])|(refine zC (d:=some 25) rfl (tcheck_spec (M:=M) (t:=t) (cs:=txCs t iv ov) _ (R.ext ht0 (by exact fx)) hs) ?_;rintro _ w2 ⟨rfl,x2⟩)|(refine zN (x:=.tmp 27) (p:=checkT t=0) rfl (fun _=>?_) (fun h=>absurd h hc))|(first|refine go1 ?_|refine zg (fun _ _=>?_)|refine zi (fun _ _=>?_)))
   exact x_ret rfl ⟨by rw [may_bad (l:=l) hgr hc (h:=h) (i:=i)];exact ErrR.num _ 1 hc,by exact fx⟩
 |false=>
  repeat' (first|(refine zD (d:=some 5) rfl rfl (fun bp wp xp ap (rp:Row wp ⟨bp,0,none⟩ (txCs t iv ov)) hp0=>?_))|(refine zC (d:=some 13) rfl (tbase_spec (M:=M) (t:=t) (cs:=txCs t iv ov) _ (R.ext ht0 (by exact fx)) hs) ?_;rintro _ w1 ⟨rfl,x1⟩;rw [hgr])|(refine zC (d:=some 20) rfl (fee_spec (M:=M) (t:=t) (cs:=txCs t iv ov) h _ (viewP (hS.ext (by exact fx)) hl6) (R.ext ht0 (by exact fx)) hs) ?_;rintro _ w2 ⟨e,rfl,he,x2⟩)|(first|refine go1 ?_|refine zg (fun _ _=>?_)|refine zi (fun _ _=>?_)))
  exact x_ret rfl ⟨by rw [may_fee (l:=l) (h:=h) (i:=i) hgr];exact he.ext (by exact fx),by exact fx⟩
set_option maxHeartbeats 1000000 in
theorem bpay_spec {b mb:Nat} {M:List Nat} {cs:List Value} {t:Tx} {m:List En} (h:Int) (w:World) (hS:SetP T.coins_Set w b mb m) (hb:b∈M) (hmb:mb∈M) (ht:txR.rel M w cs t) (hs:t.Sm) (hc:checkT t=0):
  K.Spec Tryz.prog F.block_pay [.pointer (some ⟨b,0,none⟩),.agg cs.toArray,.int .i64 h] w fun r w'=>(r=if (payL (idT t) h 0 t.outs m).2=0 then .nilIface else errno (payL (idT t) h 0 t.outs m).2)∧SetP T.coins_Set w' b mb (payL (idT t) h 0 t.outs m).1∧Chg [b,mb] w w':=by
 have ht0:=ht
 have hlt:=hS.lt
 have hout:=hs.outs
 obtain ⟨iv,ov,rfl,h1,h2,h3,h4⟩:=ht
 refine s_block_pay rfl ?_
 unfold k_block_pay
 refine oy ?_
 repeat' (first|(refine zD (d:=some 4) rfl rfl (fun bp wp xp ap (rp:Row wp ⟨bp,0,none⟩ (txCs t iv ov)) hp0=>?_))|(refine zC (d:=some 14) rfl (id_spec (M:=M) (t:=t) (cs:=txCs t iv ov) _ (R.ext ht0 (by exact fx)) hs) ?_;rintro _ w1 ⟨rfl,x1⟩;rw [idV_eq,show idS t=idT t by unfold idS;rw [if_pos hc]])|(refine zG (d:=some 19) (E:=outR) (M:=M) (l:=t.outs) rfl (SlR.ext h2 (by exact fx)) ?_)|(refine c_loopV (fun (p:Nat × List En) w'=>Chg [b,mb] w1 w'∧p.1≤t.outs.length∧SetP T.coins_Set w' b mb p.2∧payOk (idT t) h t.outs m p.1 p.2) (fun p=> [(0,.pointer (some ⟨b,0,none⟩)),(2,.int .i64 h),(7,.string (idT t)),(18,ov),(19,.int .i64 (t.outs.length:Nat)),(20,.int .i64 (p.1:Nat))]) (fun p=>t.outs.length - p.1) (0,m) ⟨rfl,rfl,rfl,rfl,rfl,rfl,trivial⟩ ⟨Chg.refl _ _,by simp,hS.ext (by exact fx),payOk_zero⟩ ?_;rintro ⟨k,mk⟩ ρ w4 ⟨c4,hk,hSk,hpk⟩;simp only at hk hSk hpk;dsimp only)|(refine zL (x:=.tmp 21) (p:=((k:Nat):Int)<((t.outs.length:Nat):Int)) rfl (fun h9=>?_) (fun h9=>?_))|(first|refine go1 ?_|refine zg (fun _ _=>?_)|refine zi (fun _ _=>?_)))
 ·have hkl:k<t.outs.length:=by omega
  have x01:Ext w w1:=xp.trans x1
  have c04:Chg [b,mb] w w4:=(Chg.trans x01 c4).mono (by simp)
  have h24:SlR outR M w4 ov t.outs:=h2.step c04 (fun y hy=>.inl (by simp at hy;rcases hy with rfl|rfl<;>assumption)) (fun y hy=>.inl hy)
  have s4:=c04.size
  have c14':Unit→Chg [b,mb] w1 w4:=fun _=>c4
  clear xp x1 c4 x01
  repeat (first|(refine st_elemR (d:=some 23) (E:=outR) (M:=M) rfl rfl (n:=k) (l:=t.outs) h24 rfl hkl (fun ad cs r4 he=>?_);obtain ⟨rfl,hv64⟩:=he)|(refine zH (d:=some 10) (fun b10 w5 x5 a5 hb5=>?_))|(first|refine go1 ?_|refine zg (fun _ _=>?_)|refine zi (fun _ _=>?_)))
  refine st_setN (w0:=w4) (n:=2) (vs:=outCs t.outs[k]) x5 hb5 a5 rfl rfl rfl rfl rfl (fun w6 x6 c6 a6 r6=>?_)
  repeat (first|(refine st_fixV (d:=some 28) (.int .u32 (k:Nat)) rfl (congrArg (fun n=>some (Value.int .u32 n)) (by rw [wrap32];omega)) ?_)|(refine st_build (d:=some 29) (cs:=(⟨idT t,(k:Nat)⟩:Pt).cs) rfl ?_)|(refine st_build (d:=some 32) (cs:=(outC t.outs[k] h).cs) rfl ?_)|(first|refine go1 ?_|refine zg (fun _ _=>?_)|refine zi (fun _ _=>?_)))
  refine zC (d:=some 33) rfl (pput_spec ⟨idT t,(k:Nat)⟩ (outC t.outs[k] h) _ (hSk.ext x6)) ?_
  rintro _ w7 ⟨rfl,S7,c7⟩
  have c17:Chg [b,mb] w w7:=(c04.trans (Chg.trans x6 c7)).mono (by simp)
  by_cases h6:refPutCode mk ⟨idT t,(k:Nat)⟩ (outC t.outs[k] h)=0
  ·rw [h6]
   repeat (first|refine go1 ?_|refine zg (fun _ _=>?_)|refine zi (fun _ _=>?_))
   exact ⟨(k+1,refPut mk ⟨idT t,(k:Nat)⟩ (outC t.outs[k] h)),⟨rfl,rfl,rfl,rfl,rfl,rfl,trivial⟩,⟨((c14' ()).trans (Chg.trans x6 c7)).mono (by simp),by simp only;omega,S7,payOk_next hkl hpk h6⟩,by simp only;omega⟩
  ·repeat (first|(refine zN (x:=.tmp 35) (p:=refPutCode mk ⟨idT t,(k:Nat)⟩ (outC t.outs[k] h)=0) rfl (fun _=>?_) (fun h=>absurd h h6))|(first|refine go1 ?_|refine zg (fun _ _=>?_)|refine zi (fun _ _=>?_)))
   have e:=payOk_bad hkl hpk h6
   have e3:refPut mk ⟨idT t,(k:Nat)⟩ (outC t.outs[k] h)=mk:=by unfold refPut;rw [if_neg h6]
   rw [e3] at S7
   exact x_ret rfl ⟨by rw [e];simp only;rw [if_neg h6];rfl,by rw [e];exact S7,c17⟩
 ·have e:=payOk_end (by omega) hpk
  repeat (first|refine go1 ?_|refine zg (fun _ _=>?_)|refine zi (fun _ _=>?_))
  exact x_ret rfl ⟨by rw [e];rfl,by rw [e];exact hSk,(Chg.trans (show Ext w w1 from xp.trans x1) c4).mono (by simp)⟩
end Go.Proofs.YtbidkcjendncaaaGreatDoor
end
section
namespace Go.K
open Go Go.Proofs.YtbidkcjendncaaaGreatDoor
theorem cn_dec (c d:Cn):(decide (c.v=d.v)&&(decide (c.s=d.s)&&(decide (c.h=d.h)&&true)))=decide (c=d):=by
 cases c;cases d
 simp [Cn.mk.injEq,Bool.decide_and]
theorem lessL_take {a b:List En} {i:Nat} (h:i<a.length):lessL (a.take (i+1)) b=lessL (a.take i) b++if aget b a[i].1=some a[i].2 then [] else [a[i]]:=by
 unfold lessL
 rw [List.take_succ_eq_append_getElem h,List.filter_append]
 congr 1
 by_cases hx:aget b a[i].1=some a[i].2<;>simp [hx]
theorem lessL_len (a b:List En):(lessL a b).length≤a.length:=List.length_filter_le _ _
theorem refCoin_get {l:List En} (h:Srt l) (p:Pt):refCoin l p=(aget l p).getD cn0:=(take_coin (List.Perm.refl l) h p).symm
end Go.K
namespace Go.Proofs.YtbidkcjendncaaaGreatDoor
open Go Go.K
attribute [local irreducible] regK codeK retK KOp.wp K.Spec refCoin refTake refPut refPutCode refTakeCode lessL outsL insL
set_option maxHeartbeats 1000000 in
theorem bmiss_spec {a ma b mb:Nat} {la lb:List En} (w:World) (ha:SetP T.coins_Set w a ma la) (hb:SetP T.coins_Set w b mb lb) (hn:la.length≤90000):K.Spec Tryz.prog F.block_missing [.pointer (some ⟨a,0,none⟩),.pointer (some ⟨b,0,none⟩)] w fun r w'=>Own entE T.coins_Entry w.heap.size w' r (lessL la lb)∧Ext w w':=by
 have hsb:=hb.1
 refine s_block_missing rfl ?_
 unfold k_block_missing
 refine oy ?_
 repeat' (first|(refine zC (d:=some 11) rfl (pall_spec _ ha (by omega)) ?_;rintro v11 w1 ⟨hv1,hb1,x1⟩)|(refine st_len (d:=some 12) rfl (SlE.ext (w:=w1) (by exact fx) hv1) ?_)|(refine c_loopV (fun (p:Nat × Value) w'=>Ext w1 w'∧p.1≤la.length∧Own entE T.coins_Entry w1.heap.size w' p.2 (lessL (la.take p.1) lb)) (fun p=> [(0,.pointer (some ⟨a,0,none⟩)),(1,.pointer (some ⟨b,0,none⟩)),(5,p.2),(11,v11),(12,.int .i64 (la.length:Nat)),(13,.int .i64 (p.1:Nat))]) (fun p=>la.length - p.1) (0,.slice none 0 0) ⟨rfl,rfl,rfl,rfl,rfl,rfl,trivial⟩ ⟨Ext.refl _,by simp,by unfold lessL;exact Own.nil _ _ _⟩ ?_;rintro ⟨i,v5⟩ ρ w2 ⟨x2,hi,ho⟩;simp only at hi ho;dsimp only)|(refine zL (x:=.tmp 14) (p:=((i:Nat):Int)<((la.length:Nat):Int)) rfl (fun h6=>?_) (fun h6=>?_))|(first|refine go1 ?_|refine zg (fun _ _=>?_)|refine zi (fun _ _=>?_)))
 ·have hil:i<la.length:=by omega
  have ht:=lessL_take (b:=lb) hil
  have hll:=lessL_len (la.take i) lb
  have hll2:(la.take i).length≤i:=by rw [List.length_take];omega
  have x02':Unit→Ext w w2:=fun _=>x1.trans x2
  have hv2:=hv1.ext x2
  have hb2:=hb.ext (x02' ())
  have hs2:=x2.size
  have x12':Unit→Ext w1 w2:=fun _=>x2
  obtain ⟨x,hx⟩:∃x,x=la[i]:=⟨_,rfl⟩
  rw [←hx] at ht
  clear x1 x2
  repeat (first|(refine st_elemE (d:=some 15) (E:=entE) rfl rfl (n:=i) (l:=la) (SlE.ext (w:=w2) (by exact fx) hv2) rfl hil (fun ad3 r3=>?_);rw [←hx] at r3)|(refine zE (d':=7) (fun _=>rfl) rfl rfl rfl (fun b7 w7 x7 a7 (r7:Row w7 ⟨b7,0,none⟩ (entE.f x)) hb7=>?_))|(refine zC (d:=some 21) rfl (pget_spec x.1 _ (hb2.ext (by exact fx))) ?_;rintro _ w8 ⟨rfl,x8⟩)|(first|refine go1 ?_|refine zg (fun _ _=>?_)|refine zi (fun _ _=>?_)))
  by_cases hsame:aget lb x.1=some x.2
  ·have e1:refCoin lb x.1=x.2:=by rw [refCoin_get hsb,hsame];rfl
   rw [if_pos hsame,List.append_nil] at ht
   rw [e1,hsame,Option.isSome_some]
   repeat (first|(refine zE (d':=8) (fun _=>rfl) rfl rfl rfl (fun b9 w9 x9 a9 (r9:Row w9 ⟨b9,0,none⟩ x.2.cs) hb9=>?_))|(refine st_fixV (d:=some 30) (.bool false) rfl (congrArg (fun b=>some (Value.bool (!b))) ((cn_dec x.2 x.2).trans (decide_eq_true rfl))) ?_)|(first|refine go1 ?_|refine zg (fun _ _=>?_)|refine zi (fun _ _=>?_)))
   exact ⟨(i+1,v5),⟨rfl,rfl,rfl,rfl,rfl,rfl,trivial⟩,⟨(x12' ()).trans (by exact fx),by simp only;omega,by simp only;rw [ht];exact ho.ext (by exact fx)⟩,by simp only;omega⟩
  ·rw [if_neg hsame] at ht
   cases hg:aget lb x.1 with
   |none=>
    rw [Option.isSome_none]
    repeat (first|(refine zE (d':=8) (fun _=>rfl) rfl rfl rfl (fun b9 w9 x9 a9 (r9:Row w9 ⟨b9,0,none⟩ (refCoin lb x.1).cs) hb9=>?_))|(refine zI (d:=some 34) (cs:=entE.f x) rfl (fun b10 w10 x10 a10 hb10=>?_))|(refine st_append (d:=some 35) (E:=entE) (v:=v5) (l2:= [x]) rfl (ho.ext (by exact fx)) (Nat.le_trans hs2 (Ext.size (w:=w2) (by exact fx))) rfl rfl (sl_new a10 rfl) rfl rfl (by simp only [List.length_cons,List.length_nil];omega) (fun v12 w12 o12 c12=>?_))|(first|refine go1 ?_|refine zg (fun _ _=>?_)|refine zi (fun _ _=>?_)))
    exact ⟨(i+1,v12),⟨rfl,rfl,rfl,rfl,rfl,rfl,trivial⟩,⟨(Ext.chg ((x12' ()).trans (show Ext w2 _ by exact fx)) c12).mono (fun y hy=>.inr (ho.base y hy)),by simp only;omega,by simp only;rw [ht];exact o12⟩,by simp only;omega⟩
   |some d=>
    have hd:d≠x.2:=fun e=>hsame (by rw [hg,e])
    have e1:refCoin lb x.1=d:=by rw [refCoin_get hsb,hg];rfl
    rw [e1,Option.isSome_some]
    repeat (first|(refine zE (d':=8) (fun _=>rfl) rfl rfl rfl (fun b9 w9 x9 a9 (r9:Row w9 ⟨b9,0,none⟩ d.cs) hb9=>?_))|(refine st_fixV (d:=some 30) (.bool true) rfl (congrArg (fun b=>some (Value.bool (!b))) ((cn_dec d x.2).trans (decide_eq_false hd))) ?_)|(refine zI (d:=some 34) (cs:=entE.f x) rfl (fun b10 w10 x10 a10 hb10=>?_))|(refine st_append (d:=some 35) (E:=entE) (v:=v5) (l2:= [x]) rfl (ho.ext (by exact fx)) (Nat.le_trans hs2 (Ext.size (w:=w2) (by exact fx))) rfl rfl (sl_new a10 rfl) rfl rfl (by simp only [List.length_cons,List.length_nil];omega) (fun v12 w12 o12 c12=>?_))|(first|refine go1 ?_|refine zg (fun _ _=>?_)|refine zi (fun _ _=>?_)))
    exact ⟨(i+1,v12),⟨rfl,rfl,rfl,rfl,rfl,rfl,trivial⟩,⟨(Ext.chg ((x12' ()).trans (show Ext w2 _ by exact fx)) c12).mono (fun y hy=>.inr (ho.base y hy)),by simp only;omega,by simp only;rw [ht];exact o12⟩,by simp only;omega⟩
 ·have e:la.take i=la:=List.take_of_length_le (by omega)
  rw [e] at ho
  repeat (first|refine go1 ?_|refine zg (fun _ _=>?_)|refine zi (fun _ _=>?_))
  exact x_ret rfl ⟨ho.lower x1.size,x1.trans x2⟩
end Go.Proofs.YtbidkcjendncaaaGreatDoor
end
section
namespace Go.K
open Go Go.Proofs.YtbidkcjendncaaaGreatDoor
theorem outsL_step {xs:List En} {m:List En} {i:Nat} (h:i<xs.length):outsL (xs.drop i) m=if refTakeCode m xs[i].1=0∧refCoin m xs[i].1=xs[i].2 then outsL (xs.drop (i+1)) (refTake m xs[i].1) else (false,refTake m xs[i].1):=by
 rw [List.drop_eq_getElem_cons h,outsL]
theorem insL_step {xs:List En} {m:List En} {i:Nat} (h:i<xs.length):insL (xs.drop i) m=if refPutCode m xs[i].1 xs[i].2=0 then insL (xs.drop (i+1)) (refPut m xs[i].1 xs[i].2) else (false,m):=by
 rw [List.drop_eq_getElem_cons h,insL]
end Go.K
namespace Go.Proofs.YtbidkcjendncaaaGreatDoor
open Go Go.K
attribute [local irreducible] regK codeK retK KOp.wp K.Spec refCoin refTake refPut refPutCode refTakeCode lessL outsL insL
set_option maxHeartbeats 2000000 in
theorem bswap_spec {b mb:Nat} {l out inn:List En} {vo vi:Value} (w:World) (hS:SetP T.coins_Set w b mb l) (ho:SlR enR [b,mb] w vo out) (hi:SlR enR [b,mb] w vi inn) (hn1:out.length≤100000) (hn2:inn.length≤100000):K.Spec Tryz.prog F.block_swap [.pointer (some ⟨b,0,none⟩),vo,vi] w fun r w'=>r=.bool (swapL l out inn).1∧SetP T.coins_Set w' b mb (swapL l out inn).2∧Chg [b,mb] w w':=by
 have hlt:=hS.lt
 refine s_block_swap rfl ?_
 unfold k_block_swap
 refine oy ?_
 repeat' (first|(refine zG (d:=some 14) (E:=enR) (M:= [b,mb]) (l:=out) rfl ho ?_)|(refine c_loopV (fun (p:Nat × List En) w'=>Chg [b,mb] w w'∧p.1≤out.length∧SetP T.coins_Set w' b mb p.2∧outsL out l=outsL (out.drop p.1) p.2) (fun p=> [(0,.pointer (some ⟨b,0,none⟩)),(2,vi),(13,vo),(14,.int .i64 (out.length:Nat)),(15,.int .i64 (p.1:Nat))]) (fun p=>out.length - p.1) (0,l) ⟨rfl,rfl,rfl,rfl,rfl,trivial⟩ ⟨Chg.refl _ _,by simp,hS,rfl⟩ ?_;rintro ⟨i,m⟩ ρ w2 ⟨c2,hi2,hS2,hk⟩;simp only at hi2 hS2 hk;dsimp only)|(refine zL (x:=.tmp 16) (p:=((i:Nat):Int)<((out.length:Nat):Int)) rfl (fun h6=>?_) (fun h6=>?_))|(first|refine go1 ?_|refine zg (fun _ _=>?_)|refine zi (fun _ _=>?_)))
 ·have hil:i<out.length:=by omega
  rw [outsL_step hil] at hk
  have ho2:SlR enR [b,mb] w2 vo out:=ho.step c2 (fun y hy=>.inl hy) (fun y hy=>.inl hy)
  have s2:=c2.size
  obtain ⟨x,hx⟩:∃x,x=out[i]:=⟨_,rfl⟩
  rw [←hx] at hk
  repeat (first|(refine st_elemR (d:=some 17) (E:=enR) (M:= [b,mb]) rfl rfl (n:=i) (l:=out) ho2 rfl hil (fun ad cs r4 he=>?_);rw [←hx] at he;obtain rfl:cs=entE.f x:=he)|(refine zE (d':=8) (fun _=>rfl) rfl rfl rfl (fun b7 w7 x7 a7 (r7:Row w7 ⟨b7,0,none⟩ (entE.f x)) hb7=>?_))|(first|refine go1 ?_|refine zg (fun _ _=>?_)|refine zi (fun _ _=>?_)))
  have l7:=a7.lt
  refine zC (d:=some 23) rfl (ptake_spec x.1 _ (hS2.ext x7)) ?_
  rintro _ w8 ⟨rfl,S8,c8⟩
  have r8:Row w8 ⟨b7,0,none⟩ (entE.f x):=Row.chg c8 r7 (by simp;omega)
  have c08:Unit→Chg [b,mb] w w8:=fun _=>(c2.trans (Chg.trans x7 c8)).mono (by simp)
  clear x7 a7 r7 c8 r4 c2
  repeat (first|(refine zE (d':=9) (fun _=>rfl) rfl rfl rfl (fun b9 w9 x9 a9 (r9:Row w9 ⟨b9,0,none⟩ (refCoin m x.1).cs) hb9=>?_))|(first|refine go1 ?_|refine zg (fun _ _=>?_)|refine zi (fun _ _=>?_)))
  have fin:∀{w':World},Ext w8 w'→Chg [b,mb] w w':=fun y=>((c08 ()).trans y).mono (by simp)
  by_cases h1:refTakeCode m x.1=0
  ·by_cases h2:refCoin m x.1=x.2
   ·rw [if_pos ⟨h1,h2⟩] at hk
    rw [h2] at r9
    rw [h1]
    repeat (first|(refine st_fixV (d:=some 32) (.bool false) rfl (congrArg (fun b=>some (Value.bool (!b))) ((cn_dec x.2 x.2).trans (decide_eq_true rfl))) ?_)|(first|refine go1 ?_|refine zg (fun _ _=>?_)|refine zi (fun _ _=>?_)))
    exact ⟨(i+1,refTake m x.1),⟨rfl,rfl,rfl,rfl,rfl,trivial⟩,⟨fin (by exact fx),by simp only;omega,S8.ext (by exact fx),hk⟩,by simp only;omega⟩
   ·rw [if_neg (fun q=>h2 q.2)] at hk
    rw [h1]
    repeat (first|(refine st_fixV (d:=some 32) (.bool true) rfl (congrArg (fun b=>some (Value.bool (!b))) ((cn_dec (refCoin m x.1) x.2).trans (decide_eq_false h2))) ?_)|(first|refine go1 ?_|refine zg (fun _ _=>?_)|refine zi (fun _ _=>?_)))
    refine x_ret rfl ⟨?_,?_,fin (by exact fx)⟩
    ·unfold swapL;rw [hk];rfl
    ·unfold swapL;rw [hk];exact S8.ext (by exact fx)
  ·rw [if_neg (fun q=>h1 q.1)] at hk
   repeat (first|(refine g_splitN (t:=28) (p:=refTakeCode m x.1=0) rfl (fun _=>?_) (fun h=>absurd h h1))|(first|refine go1 ?_|refine zg (fun _ _=>?_)|refine zi (fun _ _=>?_)))
   refine x_ret rfl ⟨?_,?_,fin (by exact fx)⟩
   ·unfold swapL;rw [hk];rfl
   ·unfold swapL;rw [hk];exact S8.ext (by exact fx)
 ·have ei:i=out.length:=by omega
  subst ei
  rw [List.drop_length,outsL] at hk
  have hi3:SlR enR [b,mb] w2 vi inn:=hi.step c2 (fun y hy=>.inl hy) (fun y hy=>.inl hy)
  have hsw:swapL l out inn=insL inn m:=by unfold swapL;rw [hk];rfl
  rw [hsw]
  have s2:=c2.size
  repeat' (first|(refine zG (d:=some 36) (E:=enR) (M:= [b,mb]) (l:=inn) rfl hi3 ?_)|(refine c_loopV (fun (p:Nat × List En) w'=>Chg [b,mb] w2 w'∧p.1≤inn.length∧SetP T.coins_Set w' b mb p.2∧insL inn m=insL (inn.drop p.1) p.2) (fun p=> [(0,.pointer (some ⟨b,0,none⟩)),(35,vi),(36,.int .i64 (inn.length:Nat)),(37,.int .i64 (p.1:Nat))]) (fun p=>inn.length - p.1) (0,m) ⟨rfl,rfl,rfl,rfl,trivial⟩ ⟨Chg.refl _ _,by simp,hS2,rfl⟩ ?_;rintro ⟨j,q⟩ ρ w3 ⟨c3,hj2,hS3,hk3⟩;simp only at hj2 hS3 hk3;dsimp only)|(refine zL (x:=.tmp 38) (p:=((j:Nat):Int)<((inn.length:Nat):Int)) rfl (fun h7=>?_) (fun h7=>?_))|(first|refine go1 ?_|refine zg (fun _ _=>?_)|refine zi (fun _ _=>?_)))
  ·have hjl:j<inn.length:=by omega
   rw [insL_step hjl] at hk3
   have hi4:SlR enR [b,mb] w3 vi inn:=hi3.step c3 (fun y hy=>.inl hy) (fun y hy=>.inl hy)
   have s3:=c3.size
   obtain ⟨x,hx⟩:∃x,x=inn[j]:=⟨_,rfl⟩
   rw [←hx] at hk3
   repeat (first|(refine st_elemR (d:=some 39) (E:=enR) (M:= [b,mb]) rfl rfl (n:=j) (l:=inn) hi4 rfl hjl (fun ad cs r4 he=>?_);rw [←hx] at he;obtain rfl:cs=entE.f x:=he)|(refine zE (d':=12) (fun _=>rfl) rfl rfl rfl (fun b7 w7 x7 a7 (r7:Row w7 ⟨b7,0,none⟩ (entE.f x)) hb7=>?_))|(first|refine go1 ?_|refine zg (fun _ _=>?_)|refine zi (fun _ _=>?_)))
   refine zC (d:=some 46) rfl (pput_spec x.1 x.2 _ (hS3.ext x7)) ?_
   rintro _ w8 ⟨rfl,S8,c8⟩
   have c08:Chg [b,mb] w2 w8:=(c3.trans (Chg.trans x7 c8)).mono (by simp)
   by_cases h1:refPutCode q x.1 x.2=0
   ·rw [if_pos h1] at hk3
    rw [h1]
    repeat (first|refine go1 ?_|refine zg (fun _ _=>?_)|refine zi (fun _ _=>?_))
    exact ⟨(j+1,refPut q x.1 x.2),⟨rfl,rfl,rfl,rfl,trivial⟩,⟨c08,by simp only;omega,S8,hk3⟩,by simp only;omega⟩
   ·rw [if_neg h1] at hk3
    have e:refPut q x.1 x.2=q:=by unfold refPut;rw [if_neg h1]
    rw [e] at S8
    repeat (first|(refine zN (x:=.tmp 47) (p:=refPutCode q x.1 x.2=0) rfl (fun _=>?_) (fun h=>absurd h h1))|(first|refine go1 ?_|refine zg (fun _ _=>?_)|refine zi (fun _ _=>?_)))
    exact x_ret rfl ⟨by rw [hk3];rfl,by rw [hk3];exact S8,(c2.trans c08).mono (by simp)⟩
  ·have ej:j=inn.length:=by omega
   subst ej
   rw [List.drop_length,insL] at hk3
   repeat (first|refine go1 ?_|refine zg (fun _ _=>?_)|refine zi (fun _ _=>?_))
   exact x_ret rfl ⟨by rw [hk3];rfl,by rw [hk3];exact hS3,(c2.trans c3).mono (by simp)⟩
set_option maxHeartbeats 1000000 in
theorem brevert_spec {b mb:Nat} {l spent made:List En} {sv mv:Value} (w:World) (hS:SetP T.coins_Set w b mb l) (hs:SlR enR [b,mb] w sv spent) (hm:SlR enR [b,mb] w mv made) (hn1:spent.length≤100000) (hn2:made.length≤100000) (h1:(swapL l made spent).1=true):K.Spec Tryz.prog F.block_Revert [.pointer (some ⟨b,0,none⟩),.agg #[sv,mv]] w fun r w'=>r=.int .i64 0∧SetP T.coins_Set w' b mb (swapL l made spent).2∧Chg [b,mb] w w':=by
 have hlt:=hS.lt
 have o1:sv.oneCell'=true:=by obtain ⟨_,_,rfl⟩:=hs.form;rfl
 have o2:mv.oneCell'=true:=by obtain ⟨_,_,rfl⟩:=hm.form;rfl
 refine s_block_Revert rfl ?_
 unfold k_block_Revert
 refine oy ?_
 repeat' (first|(refine zg (fun w1 x1=>?_))|(refine zi (fun w1 x1=>?_))|(refine st_joinV (b:=.cons ⟨some 13,_,_⟩ _) (fun (p:Nat × Nat) w'=>Ext w w'∧SetP T.coins_Set w' p.1 p.2 l∧w0.heap.size≤p.1∧w0.heap.size≤p.2∧Ext w0 w') (fun p=> [(0,.pointer (some ⟨b,0,none⟩)),(3,.pointer (some ⟨b3,0,none⟩)),(8,.pointer (some ⟨p.1,0,none⟩)),(10,mv),(12,sv)]) ?_ ?_)|(refine zD (d:=some 3) (cs:= [sv,mv]) rfl rfl (fun b3 w0 x0 a3 (r3:Row w0 ⟨b3,0,none⟩ [sv,mv]) hb3=>?_))|(refine zC (d:=some 8) rfl (pcopy_spec _ (hS.ext (by exact fx))) ?_;rintro _ w2 ⟨b8,mb8,rfl,hS8,hb8,hmb8,x2⟩)|(exact ⟨(b8,mb8),⟨rfl,rfl,rfl,rfl,rfl,trivial⟩,by exact fx,hS8.ext (by exact fx),Nat.le_trans (Ext.size (show Ext w0 _ by exact fx)) hb8,Nat.le_trans (Ext.size (show Ext w0 _ by exact fx)) hmb8,by exact fx⟩)|(first|refine go1 ?_|refine zg (fun _ _=>?_)|refine zi (fun _ _=>?_))|(refine zB ?_ ?_))
 rintro ⟨b8,mb8⟩ ρ w3 ⟨x3,S8,hb80,hmb80,x03⟩
 simp only at S8 hb80 hmb80
 have l3:=a3.lt
 have s00:=x0.size
 have r33:Row w3 ⟨b3,0,none⟩ [sv,mv]:=Row.ext x03 r3
 have hb8:w.heap.size≤b8:=by omega
 have hmb8:w.heap.size≤mb8:=by omega
 have nin:∀y∈ [b8,mb8],w.heap.size≤y:=by intro y hy;simp at hy;rcases hy with rfl|rfl<;>assumption
 refine zC (d:=some 13) rfl (bswap_spec (b:=b8) (mb:=mb8) (l:=l) (out:=made) (inn:=spent) _ S8 (hm.step x3 (by simp) (fun y hy=>.inr (nin y hy))) (hs.step x3 (by simp) (fun y hy=>.inr (nin y hy))) hn2 hn1) ?_
 rintro _ w4 ⟨rfl,S4,c4⟩
 rw [h1]
 have x04:Ext w w4:=(Ext.chg x3 c4).mono (fun y hy=>.inr (nin y hy))
 have r34:Row w4 ⟨b3,0,none⟩ [sv,mv]:=Row.chg c4 r33 (by simp;omega)
 repeat (first|refine go1 ?_|refine zg (fun _ _=>?_)|refine zi (fun _ _=>?_))
 refine zC (d:=some 20) rfl (bswap_spec (l:=l) (out:=made) (inn:=spent) _ (hS.ext x04) (hm.ext x04) (hs.ext x04) hn2 hn1) ?_
 rintro _ w5 ⟨rfl,S5,c5⟩
 repeat (first|refine go1 ?_|refine zg (fun _ _=>?_)|refine zi (fun _ _=>?_))
 exact x_ret rfl ⟨rfl,S5,(Chg.trans x04 c5).mono (by simp)⟩
end Go.Proofs.YtbidkcjendncaaaGreatDoor
end
section
namespace Go.Proofs.YtbidkcjendncaaaGreatDoor
open Go Go.K
attribute [local irreducible] regK codeK retK KOp.wp K.Spec u32 leS vnS str zero32 checkT grantB encT idT sizeT inE feeP mayL payL oneL takeAll refCoin refTake refPut refPutCode refTakeCode lessL outsL insL
set_option maxHeartbeats 2000000 in
theorem bapp_spec {b mb:Nat} {M:List Nat} {cs:List Value} {t:Tx} {l:List En} (i:Nat) (h:Int) (w:World) (hS:SetP T.coins_Set w b mb l) (hg:CG l) (hsc:SC l) (hb:b∈M) (hmb:mb∈M) (ht:txR.rel M w cs t) (hs:t.Sm):
  K.Spec Tryz.prog F.block_apply [.pointer (some ⟨b,0,none⟩),.agg cs.toArray,.int .i64 (i:Nat),.int .i64 h] w fun r w'=>ErrR w' 1 r (oneL l t i h).2.1 (oneL l t i h).2.2∧(∃l',SetP T.coins_Set w' b mb l'∧((oneL l t i h).2.1=0→l'=(oneL l t i h).1))∧Chg [b,mb] w w':=by
 have ht0:=ht
 have hlt:=hS.lt
 have hin:=hs.ins
 obtain ⟨iv,ov,rfl,h1,h2,h3,h4⟩:=ht
 have sub:∀y∈ [b,mb],y∈M:=by intro y hy;simp at hy;rcases hy with rfl|rfl<;>assumption
 refine s_block_apply rfl ?_
 unfold k_block_apply
 refine oy ?_
 repeat (first|(refine zD (d:=some 5) rfl rfl (fun bp wp xp ap (rp:Row wp ⟨bp,0,none⟩ (txCs t iv ov)) hp0=>?_))|(first|refine go1 ?_|refine zg (fun _ _=>?_)|refine zi (fun _ _=>?_)))
 refine zC (d:=some 16) rfl (bmay_spec (M:=M) (t:=t) (cs:=txCs t iv ov) (l:=l) i h _ (hS.ext xp) hsc (R.ext ht0 xp) hs) ?_
 rintro e w1 ⟨he,x1⟩
 have x01:=xp.trans x1
 have lp:=ap.lt
 have rp1:Row w1 ⟨bp,0,none⟩ (txCs t iv ov):=Row.ext x1 rp
 by_cases hm:(mayL l t i h).1=0
 ·obtain ⟨rfl, -⟩:=he.nil_iff.1 hm
  have hc:=may_check hm
  have S1:=hS.ext x01
  have ht1:=R.ext ht0 x01
  have s01:=x01.size
  have lbp:bp<w1.heap.size:=Nat.lt_of_lt_of_le lp x1.size
  have hbn:bp∉ [b,mb]:=by simp;omega
  clear xp x1 ap rp he
  cases hgr:grantB t with
  |true=>
   have hmid:midL l t=l:=by unfold midL;rw [if_pos hgr]
   repeat (first|(refine zC (d:=some 21) rfl (tbase_spec (M:=M) (t:=t) (cs:=txCs t iv ov) _ (R.ext ht1 (by exact fx)) hs) ?_;rintro _ w2 ⟨rfl,x2⟩;rw [hgr])|(first|refine go1 ?_|refine zg (fun _ _=>?_)|refine zi (fun _ _=>?_)))
   refine zC (d:=some 38) rfl (bpay_spec (M:=M) (t:=t) (cs:=txCs t iv ov) (m:=l) h _ (S1.ext x2) hb hmb (R.ext ht1 x2) hs hc) ?_
   rintro _ w3 ⟨rfl,S3,c3⟩
   rw [←hmid] at S3
   have c03:Chg [b,mb] w w3:=(Chg.trans x01 (Chg.trans x2 c3)).mono (by simp)
   by_cases hp:(payL (idT t) h 0 t.outs (midL l t)).2=0
   ·rw [hmid] at hp
    rw [if_pos hp]
    rw [←hmid] at hp
    have e:=one_ok hm hp
    repeat (first|refine go1 ?_|refine zg (fun _ _=>?_)|refine zi (fun _ _=>?_))
    exact x_ret rfl ⟨by rw [e];exact ErrR.none_ _ 1,⟨_,S3,fun _=>by rw [e]⟩,c03⟩
   ·rw [hmid] at hp
    rw [if_neg hp]
    rw [←hmid] at hp
    have e:=one_pay hm hp
    repeat (first|refine go1 ?_|refine zg (fun _ _=>?_)|refine zi (fun _ _=>?_))
    exact x_ret rfl ⟨by rw [e,hmid];rw [hmid] at hp;exact ErrR.num _ 1 hp,⟨_,S3,fun q=>absurd (by rw [e] at q;exact q) hp⟩,c03⟩
  |false=>
   have hmid:midL l t=takeAll l t.ins:=by unfold midL;rw [if_neg (by rw [hgr];decide)]
   have h11:SlR inR M w1 iv t.ins:=h1.ext x01
   repeat' (first|(refine zC (d:=some 21) rfl (tbase_spec (M:=M) (t:=t) (cs:=txCs t iv ov) _ (R.ext ht1 (by exact fx)) hs) ?_;rintro _ w2 ⟨rfl,x2⟩;rw [hgr])|(refine zG (d:=some 25) (E:=inR) (M:=M) (l:=t.ins) rfl (SlR.ext h11 (by exact fx)) ?_)|(refine c_loopV (fun (p:Nat) w'=>Chg [b,mb] w1 w'∧p≤t.ins.length∧SetP T.coins_Set w' b mb (takeAll l (t.ins.take p))) (fun p=> [(0,.pointer (some ⟨b,0,none⟩)),(3,.int .i64 h),(5,.pointer (some ⟨bp,0,none⟩)),(24,iv),(25,.int .i64 (t.ins.length:Nat)),(26,.int .i64 (p:Nat))]) (fun p=>t.ins.length - p) 0 ⟨rfl,rfl,rfl,rfl,rfl,rfl,trivial⟩ ⟨Chg.mono x2 (by simp),by simp,by unfold takeAll;exact S1.ext (by exact fx)⟩ ?_;rintro k ρ w4 ⟨c4,hk,S4⟩)|(refine zL (x:=.tmp 27) (p:=((k:Nat):Int)<((t.ins.length:Nat):Int)) rfl (fun h9=>?_) (fun h9=>?_))|(first|refine go1 ?_|refine zg (fun _ _=>?_)|refine zi (fun _ _=>?_)))
   ·have hkl:k<t.ins.length:=by omega
    have h14:SlR inR M w4 iv t.ins:=h11.step c4 (fun y hy=>.inl (sub y hy)) (fun y hy=>.inl hy)
    have s4:=c4.size
    repeat (first|(refine st_elemR (d:=some 28) (E:=inR) (M:=M) rfl rfl (n:=k) (l:=t.ins) h14 rfl hkl (fun ad cs r4 he=>?_);obtain ⟨wv,rfl,hwv,hp5,hp6⟩:=he)|(refine zE (d':=11) (fun _=>rfl) rfl rfl (by have:=hwv.one;simp [inCs,this];exact ⟨rfl,rfl,rfl⟩) (fun b7 w7 x7 a7 (r7:Row w7 ⟨b7,0,none⟩ (inCs t.ins[k] wv)) hb7=>?_))|(first|refine go1 ?_|refine zg (fun _ _=>?_)|refine zi (fun _ _=>?_)))
    refine zC (d:=some 33) rfl (ptake_spec t.ins[k].p _ (S4.ext x7)) ?_
    rintro _ w8 ⟨rfl,S8,c8⟩
    repeat (first|refine go1 ?_|refine zg (fun _ _=>?_)|refine zi (fun _ _=>?_))
    exact ⟨k+1,⟨rfl,rfl,rfl,rfl,rfl,rfl,trivial⟩,⟨(c4.trans (Chg.trans x7 c8)).mono (by simp),by omega,by rw [takeAll_snoc hkl];exact S8⟩,by omega⟩
   ·have e:t.ins.take k=t.ins:=List.take_of_length_le (by omega)
    rw [e] at S4
    have ht4:txR.rel M w4 (txCs t iv ov) t:=R.step txR ht1 c4 (fun y hy=>.inl (sub y hy)) (fun y hy=>.inl hy)
    have rp4:Row w4 ⟨bp,0,none⟩ (txCs t iv ov):=Row.chg c4 rp1 hbn
    rw [←hmid] at S4
    repeat (first|refine go1 ?_|refine zg (fun _ _=>?_)|refine zi (fun _ _=>?_))
    refine zC (d:=some 38) rfl (bpay_spec (M:=M) (t:=t) (cs:=txCs t iv ov) (m:=midL l t) h _ S4 hb hmb ht4 hs hc) ?_
    rintro _ w5 ⟨rfl,S5,c5⟩
    have c05:Chg [b,mb] w w5:=(Chg.trans x01 (c4.trans c5)).mono (by simp)
    by_cases hp:(payL (idT t) h 0 t.outs (midL l t)).2=0
    ·rw [if_pos hp]
     have e:=one_ok hm hp
     repeat (first|refine go1 ?_|refine zg (fun _ _=>?_)|refine zi (fun _ _=>?_))
     exact x_ret rfl ⟨by rw [e];exact ErrR.none_ _ 1,⟨_,S5,fun _=>by rw [e]⟩,c05⟩
    ·rw [if_neg hp]
     have e:=one_pay hm hp
     repeat (first|refine go1 ?_|refine zg (fun _ _=>?_)|refine zi (fun _ _=>?_))
     exact x_ret rfl ⟨by rw [e];exact ErrR.num _ 1 hp,⟨_,S5,fun q=>absurd (by rw [e] at q;exact q) hp⟩,c05⟩
 ·obtain ⟨et,eu,rfl⟩:=he.nil_iff.2 hm
  have e:=one_may hm
  repeat (first|refine go1 ?_|refine zg (fun _ _=>?_)|refine zi (fun _ _=>?_))
  exact x_ret rfl ⟨by rw [e];exact he,⟨l,hS.ext x01,fun q=>absurd (by rw [e] at q;exact q) hm⟩,Chg.mono x01 (by simp)⟩
end Go.Proofs.YtbidkcjendncaaaGreatDoor
end
