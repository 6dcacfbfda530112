/- Contracts: a transaction against coins. Contracts: the fee of a transaction. Contracts: may a transaction hang on the entries of a graph? Contracts: a copy of a graph; nil graphs. Contracts: a pool, by the program. Contracts: what a pool accepts, by the program. Contracts: accepting a transaction, by the program. Plain: accepting step by step: what is there then, what stays, and the money of it. P -/
import Derived.Test.YtbidkcjendncaaaGreatCa19
set_option linter.unusedVariables false
set_option linter.unusedSimpArgs false
section
namespace Go.Proofs.YtbidkcjendncaaaGreat
open Go Go.K
attribute [local irreducible] regK codeK retK KOp.wp K.Spec u32 leS vnS str zero32 numAt byteAt lockL signL brsL chosenB openE ripeB checkT grantB encT idT sizeT
theorem wit_size {t:Tx} (hc:checkT t=0) {i:Nat} (hi:i<t.ins.length):∀z∈t.ins[i].wit,z.size≤1000000:=fun z hz=>by
 have:=(sz_of_check (chk_sm hc) hc).item _ (List.getElem_mem hi) z hz
 omega
section
variable {d:Option Tmp} {r:KR} {K:Env→World→Prop} {ρ:Env} {w w0:World} {v:Value} {f:Pt→Option Cn}
theorem st_view {x:Operand} {args:List Operand} (hV:ViewR w0 v f) (xx:Ext w0 w) (p:Pt) (hp:is32 p.i) (hx:ev ρ x=v) (ha:args.map (ev ρ)= [.agg p.cs.toArray])
  (k:∀c w',(f p).getD cn0=c→Ext w w'→regK Tryz.prog r K (put ρ d (.tuple #[.agg c.cs.toArray,.bool (f p).isSome])) w'):regK Tryz.prog (.cons ⟨d,.invoke x "Get" args,none⟩ r) K ρ w:=by
 obtain ⟨⟨t,u,rfl,hv⟩,_⟩:=hV
 obtain ⟨fn,rv,_,hm,hb,hS⟩:=hv p hp w xx
 exact st_invoke hx hm hb (by rw [ha]) hS fun _ w' ⟨c,e,hc,x⟩=>by subst e;exact k c w' hc x
theorem ViewR.mo_get {t:TypeId} {u:Value} (hV:ViewR w0 (.iface t u) f) {p:Pt} (hp:is32 p.i):mo t u "Get" =true:=by
 obtain ⟨⟨t',u',e,hv⟩,_⟩:=hV
 cases e
 obtain ⟨_,_,h,_⟩:=hv p hp w0 (Ext.refl w0)
 exact mo_of h
theorem in_is32 {M:List Nat} {iv:Value} {l:List TIn} (h:SlR inR M w iv l) {i:Nat} (hi:i<l.length):is32 l[i].p.i:=by
 obtain ⟨css,hsl,hall,_⟩:=h
 obtain ⟨_,_,_,hq,_⟩:=All2.get hall i (by rw [hall.length];exact hi) hi
 exact hq
end
set_option maxHeartbeats 1000000 in
theorem spent_spec {M:List Nat} {cs:List Value} {t:Tx} {v:Value} {f:Pt→Option Cn} (i:Nat) (hi:i<t.ins.length) (hc:checkT t=0) (h:Int) (w:World) (hV:ViewR w v f) (ht:txR.rel M w cs t):K.Spec Tryz.prog F.check_spent [v,.agg cs.toArray,.int .i64 (i:Nat),.int .i64 h] w fun r w'=>
  ∃c:Cn,r=.tuple #[.agg c.cs.toArray,.int .i64 (inE f t h t.ins[i])]∧c=(f t.ins[i].p).getD cn0∧Ext w w':=by
 have hs:=chk_sm hc
 have hn:=hs.ins
 have hwz:=wit_size hc hi
 have ht0:=ht
 obtain ⟨iv,ov,rfl,h1,h2,h3,h4⟩:=ht
 have hp5:=in_is32 h1 hi
 have hz:=hV.2
 obtain ⟨vt,vu,rfl⟩:∃vt vu,v=.iface vt vu:=by obtain ⟨⟨a,b,e,_⟩,_⟩:=hV;exact ⟨a,b,e⟩
 have hmo:=hV.mo_get hp5
 refine s_check_spent rfl ?_
 unfold k_check_spent
 refine oy ?_
 repeat' (first|(refine zD rfl rfl (fun bp wp xp ap (rp:Row wp ⟨bp,0,none⟩ (txCs t iv ov)) hp0=>?_))|(refine zH (d:=some 8) (fun b8 w8 x8 a8 hb8=>?_);have h08:w.heap.size≤b8:=Nat.le_trans xp.size hb8)|(refine st_elemR (d:=some 18) (E:=inR) (M:=M) rfl rfl (n:=i) (l:=t.ins) (SlR.ext h1 (by exact fx)) rfl hi (fun ad cs r4 he=>?_);obtain ⟨wv,rfl, -, -, -⟩:=he)|(refine st_nilM (d:=some 22) rfl hmo ?_)|(refine st_both ?_ ?_)|(refine st_view (d:=some 24) hV (by exact fx) t.ins[i].p hp5 rfl rfl (fun c w6 hcc x6=>?_))|(refine zH (d:=some 10) (fun b10 w10 x10 a10 hb10=>?_);have h10:w8.heap.size≤b10:=Nat.le_trans (Ext.size (w:=w8) (by exact fx)) hb10)|(first|refine go1 ?_|refine zg (fun _ _=>?_)|refine zi (fun _ _=>?_)))
 all_goals
  have l8:=a8.lt
  have s08:w.heap.size≤w8.heap.size:=Ext.size (w:=w) (by exact fx)
  refine st_setN (w0:=w) (vs:=c.cs) (by exact fx) (Nat.le_trans s08 h10) (by focus (repeat (first|assumption|(apply At.ext;assumption)))) rfl rfl rfl rfl rfl (fun w7 x7 c7 a7 r7=>?_)
  have a7':At w7 b8 _:=At.chg c7 (At.ext (w:=w8) (by exact fx) a8) (by simp;omega)
  have rp7:Row w7 ⟨bp,0,none⟩ (txCs t iv ov):=Row.chg c7 (Row.ext (w:=wp) (by exact fx) rp) (by have:=ap.lt;have:=x8.size;simp;omega)
  have ht7:=R.ext ht0 x7
  clear c7 a8 rp x8 xp x6 x10
  cases hf:f t.ins[i].p with
  |none=>
   have e:inE f t h t.ins[i]=8:=by unfold inE;rw [hf]
   rw [e]
   rw [hf] at hcc
   repeat' (first|(refine st_setN (w0:=w) (vs:=c.cs) (by exact fx) h08 (by focus (repeat (first|assumption|(apply At.ext;assumption)))) rfl rfl rfl rfl rfl (fun w9 x9 c9 a9 r9=>?_))|(first|refine go1 ?_|refine zg (fun _ _=>?_)|refine zi (fun _ _=>?_)))
   exact x_ret (ret2 (rv_cell r9 rfl rfl) rv_tmp) ⟨c,rfl,hcc.symm,x9⟩
  |some d=>
   have ec:d=c:=by rw [hf] at hcc;exact hcc
   subst ec
   have e:inE f t h t.ins[i]=if openE d.s t t.ins[i]≠0 then openE d.s t t.ins[i] else if ripeB t t.ins[i] d.h h then 0 else 10:=by unfold inE;rw [hf]
   rw [e]
   repeat' (first|(refine c_false (x:=.tmp 28) rfl ?_)|(refine zC (d:=some 35) rfl (open_spec (M:=M) (t:=t) (cs:=txCs t iv ov) d.s (hz _ _ hf) i hi hn hwz _ (R.ext ht7 (by exact fx))) ?_;rintro _ w2 ⟨rfl,x2⟩)|(refine zN (p:=openE d.s t t.ins[i]=0) rfl (fun ho=>?_) (fun ho=>?_))|(refine zC (d:=some 45) rfl (ripe_spec (M:=M) (t:=t) (cs:=txCs t iv ov) i hi hn d.h h _ (R.ext ht7 (by exact fx))) ?_;rintro _ w3 ⟨rfl,x3⟩)|(refine c_condB (x:=.tmp 46) rfl (fun hr=>?_) (fun hr=>?_))|(refine st_setN (w0:=w) (vs:=d.cs) (by exact fx) h08 (by focus (repeat (first|assumption|(apply At.ext;assumption)))) rfl rfl rfl rfl rfl (fun w9 x9 c9 a9 r9=>?_))|(first|refine go1 ?_|refine zg (fun _ _=>?_)|refine zi (fun _ _=>?_)))
   ·rw [if_pos (by assumption)]
    exact x_ret (ret2 (rv_cell r9 rfl rfl) rv_tmp) ⟨d,rfl,rfl,x9⟩
   ·rw [if_neg (by simpa using ‹openE d.s t t.ins[i]=0›),if_neg (by simpa using ‹(!ripeB t t.ins[i] d.h h)=true›)]
    exact x_ret (ret2 (rv_cell r9 rfl rfl) rv_tmp) ⟨d,rfl,rfl,x9⟩
   ·rw [if_neg (by simpa using ‹openE d.s t t.ins[i]=0›),if_pos (by simpa using ‹(!ripeB t t.ins[i] d.h h)=false›)]
    exact x_ret (ret2 (rv_cell r9 rfl rfl) rv_tmp) ⟨d,rfl,rfl,x9⟩
theorem formed_spec {M:List Nat} {cs:List Value} {t:Tx} {vt:TypeId} {vu:Value} (w:World) (ht:txR.rel M w cs t) (hs:t.Sm):K.Spec Tryz.prog F.check_formed [.iface vt vu,.agg cs.toArray] w fun r w'=>r=.int .i64 (if checkT t≠0 then checkT t else if grantB t then 4 else 0)∧Ext w w':=by
 have ht0:=ht
 obtain ⟨iv,ov,rfl,h1,h2,h3,h4⟩:=ht
 refine s_check_formed rfl ?_
 unfold k_check_formed
 refine oy ?_
 repeat' (first|(refine zD rfl rfl (fun bp wp xp ap (rp:Row wp ⟨bp,0,none⟩ (txCs t iv ov)) hp0=>?_))|(refine zC (d:=some 9) rfl (tcheck_spec (M:=M) (t:=t) (cs:=txCs t iv ov) _ (R.ext ht0 (by exact fx)) hs) ?_;rintro _ w2 ⟨rfl,x2⟩)|(refine zN (p:=checkT t=0) rfl (fun h=>?_) (fun h=>?_))|(refine zC (d:=some 14) rfl (tbase_spec (M:=M) (t:=t) (cs:=txCs t iv ov) _ (R.ext ht0 (by exact fx)) hs) ?_;rintro _ w3 ⟨rfl,x3⟩)|(refine c_false (x:=.tmp 7) rfl ?_)|(refine zM (x:=.tmp 14) rfl (fun h=>?_) (fun h=>?_))|(first|refine go1 ?_|refine zg (fun _ _=>?_)|refine zi (fun _ _=>?_)))
 ·exact x_ret rfl ⟨by rw [if_pos (show checkT t≠0 from h)];rfl,by exact fx⟩
 ·exact x_ret rfl ⟨by rw [if_neg (show ¬checkT t≠0 from fun q=>q ‹checkT t=0›),if_pos ‹grantB t=true›];rfl,by exact fx⟩
 ·exact x_ret rfl ⟨by rw [if_neg (show ¬checkT t≠0 from fun q=>q ‹checkT t=0›),if_neg (show ¬grantB t=true by rw [‹grantB t=false›];simp)];rfl,by exact fx⟩
theorem told_zero (w:World):K.Spec Tryz.prog F.check_told [.int .i64 0] w fun r w'=>r=.nilIface∧Ext w w':=by
 refine s_check_told rfl ?_
 unfold k_check_told
 refine oy ?_
 repeat' (first|(first|refine go1 ?_|refine zg (fun _ _=>?_)|refine zi (fun _ _=>?_)))
 exact x_ret rfl ⟨rfl,Ext.refl _⟩
end Go.Proofs.YtbidkcjendncaaaGreat
end
section
namespace Go.Proofs.YtbidkcjendncaaaGreat
open Go Go.K
attribute [local irreducible] regK codeK retK KOp.wp K.Spec u32 leS vnS str zero32 numAt byteAt lockL signL brsL chosenB openE ripeB checkT grantB encT idT sizeT inE
section
variable {f:Pt→Option Cn} {t:Tx} {h:Int}
theorem fee_bad (hc:checkT t≠0):feeP f t h=(0,checkT t, -1):=by unfold feeP;rw [if_pos hc]
theorem fee_grant (hc:checkT t=0) (hg:grantB t=true):feeP f t h=(0,4, -1):=by unfold feeP;rw [if_neg (by simpa using hc),if_pos hg]
theorem fee_in (hc:checkT t=0) (hg:grantB t=false) {i:Nat} (hi:i<t.ins.length) (hk:∀j,j<i→∀hj:j<t.ins.length,inE f t h t.ins[j]=0) (he:inE f t h t.ins[i]≠0):feeP f t h=(0,inE f t h t.ins[i],((i:Nat):Int)):=by
 unfold feeP
 have e:(t.ins.findIdx? fun x=>decide (inE f t h x≠0))=some i:=List.findIdx?_eq_some_iff_getElem.2 ⟨hi,decide_eq_true he,fun j hj=>by rw [hk j hj (by omega)];simp⟩
 rw [if_neg (by simpa using hc),if_neg (by rw [hg];simp),e]
 simp only
 rw [List.getD_eq_getElem?_getD,List.getElem?_eq_getElem hi];rfl
theorem fee_all (hc:checkT t=0) (hg:grantB t=false) (hk:∀j,∀hj:j<t.ins.length,inE f t h t.ins[j]=0):
  feeP f t h=if sumE (t.ins.map (inV f))≠0 then (0,sumE (t.ins.map (inV f)), -1) else if sumV (values t)>sumV (t.ins.map (inV f)) then (0,12, -1) else (sumV (t.ins.map (inV f)) - sumV (values t),0, -1):=by
 unfold feeP
 have e:(t.ins.findIdx? fun x=>decide (inE f t h x≠0))=none:=List.findIdx?_eq_none_iff.2 fun x hx=>by
  obtain ⟨j,hj,rfl⟩:=List.getElem_of_mem hx
  rw [hk j hj];simp
 rw [if_neg (by simpa using hc),if_neg (by rw [hg];simp),e]
end
theorem sumE_good {l:List Int} (h:sumE l=0):goodB (sumV l)=true:=by
 unfold sumE at h
 unfold sumV
 cases hs:sumOk 0 l with
 |none=>rw [hs] at h;cases h
 |some s=>exact sumOk_good l 0 s (by decide) hs
theorem check_sum {t:Tx} (h:checkT t=0):sumE (values t)=0:=by
 unfold checkT at h
 repeat' split at h
 all_goals first|exact h|cases h
set_option maxHeartbeats 2000000 in
theorem fee_spec {M:List Nat} {cs:List Value} {t:Tx} {v:Value} {f:Pt→Option Cn} (bl:Int) (w:World) (hV:ViewR w v f) (ht:txR.rel M w cs t) (hs:t.Sm):K.Spec Tryz.prog F.check_Fee [v,.agg cs.toArray,.int .i64 bl] w fun r w'=>
  ∃e,r=.tuple #[.int .i64 (feeP f t bl).1,e]∧ErrR w' 1 e (feeP f t bl).2.1 (feeP f t bl).2.2∧Ext w w':=by
 have hn:=hs.ins
 have ht0:=ht
 obtain ⟨iv,ov,rfl,h1,h2,h3,h4⟩:=ht
 have hV0:=hV
 obtain ⟨⟨vt,vu,rfl,_⟩,_⟩:=hV
 refine s_check_Fee rfl ?_
 unfold k_check_Fee
 refine oy ?_
 by_cases hc:checkT t=0
 ·cases hg:grantB t with
  |true=>
   rw [fee_grant hc hg]
   repeat' (first|(refine zD rfl rfl (fun bp wp xp ap (rp:Row wp ⟨bp,0,none⟩ (txCs t iv ov)) hp0=>?_))|(refine zC (d:=some 20) rfl (formed_spec (M:=M) (t:=t) (cs:=txCs t iv ov) _ (R.ext ht0 (by exact fx)) hs) ?_;rintro _ w2 ⟨rfl,x2⟩;rw [if_neg (by simpa using hc),if_pos hg])|(first|refine go1 ?_|refine zg (fun _ _=>?_)|refine zi (fun _ _=>?_)))
   exact x_ret rfl ⟨_,rfl,ErrR.num _ _ (by decide),by exact fx⟩
  |false=>
   repeat' (first|(refine zD rfl rfl (fun bp wp xp ap (rp:Row wp ⟨bp,0,none⟩ (txCs t iv ov)) hp0=>?_))|(refine zC (d:=some 20) rfl (formed_spec (M:=M) (t:=t) (cs:=txCs t iv ov) _ (R.ext ht0 (by exact fx)) hs) ?_;rintro _ w2 ⟨rfl,x2⟩;rw [if_neg (by simpa using hc),if_neg (by rw [hg];simp)])|(refine zG (d:=some 27) (E:=inR) (M:=M) (l:=t.ins) rfl (SlR.ext h1 (by exact fx)) ?_)|(refine c_loopV (fun (p:Nat × Value) w'=>Ext w2 w'∧p.1≤t.ins.length∧Own intE T.int w2.heap.size w' p.2 ((t.ins.take p.1).map (inV f))∧∀j,j<p.1→∀hj:j<t.ins.length,inE f t bl t.ins[j]=0) (fun p=> [(0,.iface vt vu),(2,.int .i64 bl),(4,.pointer (some ⟨bp,0,none⟩)),(9,p.2),(27,.int .i64 (t.ins.length:Nat)),(28,.int .i64 (p.1:Nat))]) (fun p=>t.ins.length - p.1) (0,.slice none 0 0) ⟨rfl,rfl,rfl,rfl,rfl,rfl,trivial⟩ ⟨Ext.refl _,by simp,Own.nil _ _ _,fun j hj=>absurd hj (by simp)⟩ ?_;rintro ⟨i,v9⟩ ρ w3 ⟨x3,hi,ho,hk⟩;simp only at hi ho hk;dsimp only)|(refine zL (p:=((i:Nat):Int)<((t.ins.length:Nat):Int)) rfl (fun h=>?_) (fun h=>?_))|(first|refine go1 ?_|refine zg (fun _ _=>?_)|refine zi (fun _ _=>?_)))
   ·have hil:i<t.ins.length:=by omega
    have s2:wp.heap.size≤w2.heap.size:=x2.size
    have rp3:Row w3 ⟨bp,0,none⟩ (txCs t iv ov):=rp.ext (by exact fx)
    have ht3:=R.ext ht0 (show Ext w w3 by exact fx)
    have hV3:=hV0.ext (show Ext w w3 by exact fx)
    by_cases he:inE f t bl t.ins[i]=0
    ·repeat' (first|(refine zC (d:=some 36) rfl (spent_spec (M:=M) (t:=t) (cs:=txCs t iv ov) i hil hc bl _ (hV3.ext (by exact fx)) (R.ext ht3 (by exact fx))) ?_;rintro _ w4 ⟨c,rfl,hcc,x4⟩;rw [he])|(refine zE (d':=11) (fun _=>rfl) rfl rfl rfl (fun b7 w7 x7 a7 (r7:Row w7 ⟨b7,0,none⟩ c.cs) hb7=>?_))|(refine zI (d:=some 51) (cs:= [.int .i64 c.v]) rfl (fun b8 w8 x8 a8 hb8=>?_))|(refine st_append (d:=some 52) (E:=intE) (v:=v9) (l2:= [c.v]) rfl (ho.ext (by exact fx)) (Ext.size (w:=w2) (by exact fx)) rfl rfl (sl_new a8 rfl) rfl rfl (by simp;omega) (fun v10 w10 o10 c10=>?_))|(first|refine go1 ?_|refine zg (fun _ _=>?_)|refine zi (fun _ _=>?_)))
     exact ⟨(i+1,v10),⟨rfl,rfl,rfl,rfl,rfl,rfl,trivial⟩,⟨(Ext.chg (w:=w2) (by exact fx) c10).mono (fun b hb=>.inr (ho.base b hb)),by simp only;omega,by simp only;rw [List.take_succ_eq_append_getElem hil,List.map_append];subst hcc;exact o10,fun j hj hjl=>by
      simp only at hj
      by_cases e:j=i
      ·subst e;exact he
      ·exact hk j (by omega) hjl⟩,by simp only;omega⟩
    ·rw [fee_in hc hg hil hk he]
     repeat' (first|(refine zC (d:=some 36) rfl (spent_spec (M:=M) (t:=t) (cs:=txCs t iv ov) i hil hc bl _ (hV3.ext (by exact fx)) (R.ext ht3 (by exact fx))) ?_;rintro _ w4 ⟨c,rfl,hcc,x4⟩)|(refine zE (d':=11) (fun _=>rfl) rfl rfl rfl (fun b7 w7 x7 a7 (r7:Row w7 ⟨b7,0,none⟩ c.cs) hb7=>?_))|(refine zN (p:=inE f t bl t.ins[i]=0) rfl (fun _=>?_) (fun h=>absurd h he))|(refine st_build (d:=some 44) (cs:= [.int .i64 (i:Nat),errno (inE f t bl t.ins[i])]) rfl ?_)|(refine zD (d:=some 45) (cs:= [.int .i64 (i:Nat),errno (inE f t bl t.ins[i])]) rfl rfl (fun b8 w8 x8 a8 r8 hb8=>?_))|(first|refine go1 ?_|refine zg (fun _ _=>?_)|refine zi (fun _ _=>?_)))
     exact x_ret rfl ⟨_,rfl,.inr ⟨he,(show (0:Int)≤((i:Nat):Int) by omega),b8,_, -1,rfl,a8,ErrR.num _ _ he⟩,by exact fx⟩
   ·have ei:i=t.ins.length:=by omega
    subst ei
    rw [List.take_length] at ho
    have rp3:Row w3 ⟨bp,0,none⟩ (txCs t iv ov):=rp.ext (by exact fx)
    have ht3:=R.ext ht0 (show Ext w w3 by exact fx)
    rw [fee_all hc hg fun j hj=>hk j hj hj]
    by_cases hsum:sumE (t.ins.map (inV f))=0
    ·have hgood:=sumE_good hsum
     have hgv:=sumE_good (check_sum hc)
     rw [if_neg (by simpa using hsum)]
     by_cases hv:sumV (values t)>sumV (t.ins.map (inV f))
     ·rw [if_pos hv]
      repeat' (first|(refine zC (d:=some 56) rfl (sum_spec (l:=t.ins.map (inV f)) _ (SlE.ext (w:=w3) (by exact fx) ho.sl) (by simp;omega)) ?_;rintro _ _ ⟨rfl,rfl⟩;rw [hsum])|(refine zC (d:=some 65) rfl (ttotal_spec (M:=M) (t:=t) (cs:=txCs t iv ov) _ (R.ext ht3 (by exact fx)) hs) ?_;rintro _ w5 ⟨rfl,x5⟩)|(refine zL (p:=sumV (values t)>sumV (t.ins.map (inV f))) rfl (fun _=>?_) (fun h=>absurd hv h))|(first|refine go1 ?_|refine zg (fun _ _=>?_)|refine zi (fun _ _=>?_)))
      exact x_ret rfl ⟨_,rfl,ErrR.num _ _ (by decide),by exact fx⟩
     ·rw [if_neg hv]
      repeat' (first|(refine zC (d:=some 56) rfl (sum_spec (l:=t.ins.map (inV f)) _ (SlE.ext (w:=w3) (by exact fx) ho.sl) (by simp;omega)) ?_;rintro _ _ ⟨rfl,rfl⟩;rw [hsum])|(refine zC (d:=some 65) rfl (ttotal_spec (M:=M) (t:=t) (cs:=txCs t iv ov) _ (R.ext ht3 (by exact fx)) hs) ?_;rintro _ w5 ⟨rfl,x5⟩)|(refine zL (p:=sumV (values t)>sumV (t.ins.map (inV f))) rfl (fun h=>absurd h hv) (fun _=>?_))|(refine zC (d:=some 75) rfl (asub_spec _ _ hgood hgv (by omega) _) ?_;rintro _ w6 ⟨rfl,x6⟩)|(refine zC (d:=some 80) rfl (told_zero _) ?_;rintro _ w7 ⟨rfl,x7⟩)|(first|refine go1 ?_|refine zg (fun _ _=>?_)|refine zi (fun _ _=>?_)))
      exact x_ret rfl ⟨_,rfl,ErrR.none_ _ _,by exact fx⟩
    ·rw [if_pos hsum]
     repeat' (first|(refine zC (d:=some 56) rfl (sum_spec (l:=t.ins.map (inV f)) _ (SlE.ext (w:=w3) (by exact fx) ho.sl) (by simp;omega)) ?_;rintro _ _ ⟨rfl,rfl⟩)|(refine zN (p:=sumE (t.ins.map (inV f))=0) rfl (fun _=>?_) (fun h=>absurd h hsum))|(first|refine go1 ?_|refine zg (fun _ _=>?_)|refine zi (fun _ _=>?_)))
     exact x_ret rfl ⟨_,rfl,ErrR.num _ _ hsum,by exact fx⟩
 ·rw [fee_bad hc]
  repeat' (first|(refine zD rfl rfl (fun bp wp xp ap (rp:Row wp ⟨bp,0,none⟩ (txCs t iv ov)) hp0=>?_))|(refine zC (d:=some 20) rfl (formed_spec (M:=M) (t:=t) (cs:=txCs t iv ov) _ (R.ext ht0 (by exact fx)) hs) ?_;rintro _ w2 ⟨rfl,x2⟩;rw [if_pos hc])|(refine zN (p:=checkT t=0) rfl (fun _=>?_) (fun h=>absurd h hc))|(first|refine go1 ?_|refine zg (fun _ _=>?_)|refine zi (fun _ _=>?_)))
  exact x_ret rfl ⟨_,rfl,ErrR.num _ _ hc,by exact fx⟩
end Go.Proofs.YtbidkcjendncaaaGreat
end
section
namespace Go.Proofs.YtbidkcjendncaaaGreat
open Go Go.K
attribute [local irreducible] regK codeK retK KOp.wp K.Spec u32 leS vnS str zero32 sha2 encT idT sizeT checkT grantB
end Go.Proofs.YtbidkcjendncaaaGreat
end
section
namespace Go.Proofs.YtbidkcjendncaaaGreat
open Go Go.K
section
attribute [local irreducible] regK codeK retK KOp.wp u32 leS vnS str zero32 sha2 encT idT sizeT checkT grantB
end
attribute [local irreducible] regK codeK retK KOp.wp K.Spec u32 leS vnS str zero32 sha2 encT idT sizeT checkT grantB
end Go.Proofs.YtbidkcjendncaaaGreat
end
section
namespace Go.Proofs.YtbidkcjendncaaaGreat
open Go Go.K
attribute [local irreducible] regK codeK retK KOp.wp K.Spec u32 leS vnS str zero32 sha2 encT idT sizeT checkT grantB feeP numAt byteAt
section
variable {f:Pt→Option Cn} {l:List Ent} {t:Tx} {h:Int}
end
end Go.Proofs.YtbidkcjendncaaaGreat
end
section
namespace Go.Proofs.YtbidkcjendncaaaGreat
open Go Go.K
attribute [local irreducible] regK codeK retK KOp.wp K.Spec u32 leS vnS str zero32 sha2 encT idT sizeT checkT grantB feeP numAt byteAt
end Go.Proofs.YtbidkcjendncaaaGreat
end
section
namespace Go.Proofs.YtbidkcjendncaaaGreat
open Go Go.K
section
attribute [local irreducible] checkT grantB inE sumV sumE values
end
section
variable {f:Pt→Option Cn} {l:List Ent} {t:Tx} {h rate:Int}
end
end Go.Proofs.YtbidkcjendncaaaGreat
end
section
namespace Go.K
open Go Go.Proofs.YtbidkcjendncaaaGreat
section
variable {f:Pt→Option Cn} {l:List Ent} {t:Tx} {h rate:Int}
theorem fee_src (hc:checkT t=0) (h0:(feeP f t h).2.1=0):(∀x∈t.ins,(f x.p).isSome=true)∧sumE (t.ins.map (inV f))=0∧(feeP f t h).1=sumV (t.ins.map (inV f)) - sumV (values t):=by
 cases hg:grantB t with
 |true=>rw [fee_grant hc hg] at h0;exact absurd h0 (show ¬(4:Int)=0 by decide)
 |false=>
  by_cases hk:∀j,∀hj:j<t.ins.length,inE f t h t.ins[j]=0
  ·refine ⟨fun x hx=>?_,?_⟩
   ·obtain ⟨j,hj,rfl⟩:=List.getElem_of_mem hx
    have:=hk j hj
    unfold inE at this
    cases hf:f t.ins[j].p with
    |none=>rw [hf] at this;exact absurd this (show ¬(8:Int)=0 by decide)
    |some c=>rfl
   ·rw [fee_all hc hg hk] at h0 ⊢
    by_cases h1:sumE (t.ins.map (inV f))=0
    ·rw [if_neg (show ¬sumE (t.ins.map (inV f))≠0 from fun q=>q h1)] at h0 ⊢
     by_cases h2:sumV (values t)>sumV (t.ins.map (inV f))
     ·rw [if_pos h2] at h0;exact absurd h0 (show ¬(12:Int)=0 by decide)
     ·rw [if_neg h2];exact ⟨h1,rfl⟩
    ·rw [if_pos (show sumE (t.ins.map (inV f))≠0 from h1)] at h0;exact absurd h0 h1
  ·exfalso
   have:∃i,(t.ins.findIdx? fun x=>decide (inE f t h x≠0))=some i:=by
    cases hq:t.ins.findIdx? fun x=>decide (inE f t h x≠0) with
    |some i=>exact ⟨i,rfl⟩
    |none=>
     refine absurd (fun j hj=>?_) hk
     have:=List.findIdx?_eq_none_iff.1 hq _ (List.getElem_mem hj)
     simpa using this
   obtain ⟨i,hi⟩:=this
   obtain ⟨h1,h2,h3⟩:=List.findIdx?_eq_some_iff_getElem.1 hi
   have he:inE f t h t.ins[i]≠0:=of_decide_eq_true h2
   rw [fee_in hc hg h1 (fun j hj hjl=>by have:=h3 j hj;simpa using this) he] at h0
   exact he h0
end
theorem dup_nodup:∀{l:List Pt},dupB l=false→l.Nodup
 | [],_=>List.nodup_nil
 |p::l,h=>by
  unfold dupB at h
  rw [Bool.or_eq_false_iff] at h
  exact List.nodup_cons.2 ⟨fun hm=>(by rw [List.contains_iff_mem.2 hm] at h;exact absurd h.1 (by decide)),dup_nodup h.2⟩
theorem check_once {t:Tx} (h:checkT t=0):(points t).Nodup:=by
 have h1:=(chk_parts h).2.2.2.1
 unfold twiceB at h1
 have:=dup_nodup h1
 exact (List.pairwise_reverse.1 this).imp fun h=>Ne.symm h
theorem sumOk_sum:∀(l:List Int) (s r:Int),sumOk s l=some r→r=s+l.sum∧∀a∈l,0≤a
 | [],s,r,h=>by simp [sumOk] at h;simp [h]
 |a::l,s,r,h=>by
  simp only [sumOk] at h
  split at h
  ·rename_i hc
   simp only [Bool.and_eq_true] at hc
   obtain ⟨h1,h2⟩:=sumOk_sum l _ r h
   refine ⟨by rw [h1,List.sum_cons];omega,fun b hb=>?_⟩
   rcases List.mem_cons.1 hb with rfl|hb
   ·exact ((goodB_iff _).1 hc.1).1
   ·exact h2 b hb
  ·cases h
theorem sumV_sum {l:List Int} (h:sumE l=0):sumV l=l.sum∧∀a∈l,0≤a:=by
 unfold sumE at h
 cases hs:sumOk 0 l with
 |none=>rw [hs] at h;exact absurd h (show ¬(3:Int)=0 by decide)
 |some r=>
  obtain ⟨h1,h2⟩:=sumOk_sum l 0 r hs
  exact ⟨by unfold sumV;rw [hs];show r=_;omega,h2⟩
end Go.K
end
section
namespace Go.K
open Go Go.Proofs.YtbidkcjendncaaaGreat
def cutP (left:Int) (k:Nat):Int:=if left.tdiv (k:Nat)<0 then 0 else left.tdiv (k:Nat)
theorem cutP_bound {left:Int} {k:Nat} (hk:0<k) (hl: -100000≤left) {C:Int} (hC:left≤C) (h0:0≤C):0≤cutP left k∧cutP left k≤C∧ -100000≤left - cutP left k∧left - cutP left k≤C:=by
 unfold cutP
 by_cases hn:0≤left
 ·obtain ⟨n,rfl⟩:=Int.eq_ofNat_of_zero_le hn
  have e:((n:Nat):Int).tdiv (k:Nat)=((n / k:Nat):Int):=by
   rw [Int.tdiv_eq_ediv_of_nonneg (by omega)];rfl
  have:=Nat.div_le_self n k
  rw [e]
  generalize n / k=q at this ⊢
  rw [if_neg (by omega)];omega
 ·have e:left.tdiv (k:Nat)≤0:=by
   obtain ⟨n,hn2⟩:=Int.eq_ofNat_of_zero_le (show 0≤ -left by omega)
   have:left= -((n:Nat):Int):=by omega
   rw [this,Int.neg_tdiv,Int.tdiv_eq_ediv_of_nonneg (by omega)]
   have:(0:Int)≤((n:Nat):Int) / ((k:Nat):Int):=Int.ediv_nonneg (by omega) (by omega)
   omega
  split<;>omega
end Go.K
end
section
namespace Go.K
open Go Go.Proofs.YtbidkcjendncaaaGreat
structure CG (l:List En):Prop where
 srt:Srt l
 mon:Mon l
 fm:∀e∈l,formedB e.1 e.2=true
theorem CG.nil:CG []:=⟨.nil,Mon.nil,by simp⟩
theorem CG.nodup {l:List En} (h:CG l):(l.map (·.1)).Nodup:=srt_nodup h.srt
theorem nodup_of_keys {l:List En} (h:(l.map (·.1)).Nodup):l.Nodup:=(List.pairwise_map.1 h).imp fun hne e=>hne (by rw [e])
theorem srt_swo {l:List En} (h:Srt l):l.Pairwise (fun a b=>ptLt b.1 a.1=false):=by
 refine List.Pairwise.imp (fun {a b} hab=>?_) h
 cases h2:ptLt b.1 a.1
 ·rfl
 ·have:=ptLt_trans hab h2
  rw [ptLt_irrefl] at this;cases this
theorem srt_ext {l m:List En} (hl:Srt l) (hm:Srt m) (h:∀e,e∈l↔e∈m):l=m:=
 sorted_eq ((List.perm_ext_iff_of_nodup (nodup_of_keys (srt_nodup hl)) (nodup_of_keys (srt_nodup hm))).2 h) (srt_swo hl) hm
theorem mem_iff_aget {l:List En} (h:(l.map (·.1)).Nodup) {e:En}:e∈l↔aget l e.1=some e.2:=⟨fun he=>mem_aget h (by cases e;exact he),fun he=>by have:=aget_mem he;cases e;exact this⟩
theorem CG.take {l:List En} (h:CG l) (p:Pt):CG (refTake l p):=by
 have e:=refTake_adel h.srt p
 refine ⟨(take_sim (List.Perm.refl l) h.srt p).2.1,by rw [e];exact h.mon.del p,fun x hx=>?_⟩
 rw [e] at hx
 exact h.fm x (List.mem_filter.1 hx).1
theorem put_perm {l:List En} (h:Srt l) {p:Pt} {c:Cn} (h0:refPutCode l p c=0):(refPut l p c).Perm (l++ [(p,c)]):=by
 have:=(put_sim (List.Perm.refl l) h p c).1
 have e:putCode l p c=0:=by rw [put_code (List.Perm.refl l) h p c];exact h0
 unfold putMap at this
 rw [if_pos e] at this
 exact this.symm
theorem put_zero {l:List En} {p:Pt} {c:Cn} (h0:refPutCode l p c=0):formedB p c=true∧aget l p=none∧goodB (tot l+c.v)=true:=by
 unfold refPutCode at h0
 split at h0
 ·rename_i hf
  split at h0
  ·cases h0
  ·rename_i hi
   split at h0
   ·rename_i hg
    refine ⟨hf,?_,hg⟩
    cases ha:aget l p
    ·rfl
    ·have:=isSome_idx l p
     rw [ha] at this;simp at this
     rw [←this] at hi;simp at hi
   ·cases h0
 ·cases h0
theorem CG.put {l:List En} (h:CG l) (p:Pt) (c:Cn):CG (refPut l p c):=by
 by_cases h0:refPutCode l p c=0
 ·have hp:=put_perm h.srt h0
  obtain ⟨z1,z2,z3⟩:=put_zero h0
  refine ⟨(put_sim (List.Perm.refl l) h.srt p c).2.1,⟨fun e he=>?_,?_⟩,fun e he=>?_⟩
  ·rcases List.mem_append.1 (hp.mem_iff.1 he) with he|he
   ·exact h.mon.1 e he
   ·simp at he;subst he
    simp only [formedB,Bool.and_eq_true] at z1
    exact ((goodB_iff _).1 z1.2).1
  ·rw [tot_perm hp]
   have:=((goodB_iff _).1 z3).2
   simp;omega
  ·rcases List.mem_append.1 (hp.mem_iff.1 he) with he|he
   ·exact h.fm e he
   ·simp at he;subst he;exact z1
 ·unfold refPut;rw [if_neg h0];exact h
theorem refPut_len (l:List En) (p:Pt) (c:Cn) (h:Srt l):(refPut l p c).length≤l.length+1:=(put_sim (List.Perm.refl l) h p c).2.2
theorem refTake_len (l:List En) (p:Pt):(refTake l p).length≤l.length:=by
 unfold refTake
 split
 ·exact List.length_eraseIdx_le _ _
 ·exact Nat.le_refl _
def takeAll (l:List En) (ins:List TIn):List En:=ins.foldl (fun m x=>refTake m x.p) l
def outC (o:TOut) (h:Int):Cn:=⟨o.v,o.s,h⟩
def payL (s:ByteArray) (h:Int):Nat→List TOut→List En→List En × Int
 |_, [],m=>(m,0)
 |i,o::os,m=>if refPutCode m ⟨s,(i:Nat)⟩ (outC o h)≠0 then (m,refPutCode m ⟨s,(i:Nat)⟩ (outC o h)) else payL s h (i+1) os (refPut m ⟨s,(i:Nat)⟩ (outC o h))
def mayL (l:List En) (t:Tx) (at_:Nat) (h:Int):Int × Int:=
 if grantB t then (if checkT t≠0 then (checkT t, -1) else if 0<at_∨t.lock≠h then (4, -1) else (0, -1)) else (feeP (aget l) t h).2
def midL (l:List En) (t:Tx):List En:=if grantB t then l else takeAll l t.ins
def oneL (l:List En) (t:Tx) (at_:Nat) (h:Int):List En × Int × Int:=
 if (mayL l t at_ h).1≠0 then (l,mayL l t at_ h) else if (payL (idT t) h 0 t.outs (midL l t)).2≠0 then (l,(payL (idT t) h 0 t.outs (midL l t)).2, -1) else ((payL (idT t) h 0 t.outs (midL l t)).1,0, -1)
def runL (l0:List En) (h:Int):Nat→List Tx→List En→List En × Int × Int × Int
 |_, [],m=>(m,0, -1, -1)
 |i,t::ts,m=>if (oneL m t i h).2.1≠0 then (l0,(oneL m t i h).2.1,(i:Nat),(oneL m t i h).2.2) else runL l0 h (i+1) ts (oneL m t i h).1
def applyL (l:List En) (txs:List Tx) (h:Int):List En × Int × Int × Int:=if h<0∨h>1000000 then (l,3, -1, -1) else runL l h 0 txs l
def lessL (a b:List En):List En:=a.filter fun e=>!decide (aget b e.1=some e.2)
theorem takeAll_cg:∀(ins:List TIn) {l:List En},CG l→CG (takeAll l ins)
 | [],_,h=>h
 |x::xs,_,h=>takeAll_cg xs (h.take x.p)
theorem takeAll_len:∀(ins:List TIn) (l:List En),(takeAll l ins).length≤l.length
 | [],_=>Nat.le_refl _
 |x::xs,l=>Nat.le_trans (takeAll_len xs _) (refTake_len l x.p)
theorem takeAll_snoc {l:List En} {ins:List TIn} {i:Nat} (h:i<ins.length):takeAll l (ins.take (i+1))=refTake (takeAll l (ins.take i)) ins[i].p:=by
 rw [List.take_succ_eq_append_getElem h]
 unfold takeAll
 rw [List.foldl_append];rfl
theorem payL_cg {s:ByteArray} {h:Int}:∀(os:List TOut) (i:Nat) {m:List En},CG m→CG (payL s h i os m).1
 | [],_,_,hm=>hm
 |o::os,i,m,hm=>by
  unfold payL
  split
  ·exact hm
  ·exact payL_cg os (i+1) (hm.put _ _)
theorem payL_len {s:ByteArray} {h:Int}:∀(os:List TOut) (i:Nat) {m:List En},CG m→(payL s h i os m).1.length≤m.length+os.length
 | [],_,_,_=>Nat.le_refl _
 |o::os,i,m,hm=>by
  unfold payL
  split
  ·simp
  ·have:=payL_len (s:=s) (h:=h) os (i+1) (hm.put ⟨s,(i:Nat)⟩ (outC o h))
   have:=refPut_len m ⟨s,(i:Nat)⟩ (outC o h) hm.srt
   simp only [List.length_cons];omega
def payOk (s:ByteArray) (h:Int) (os:List TOut) (m:List En) (k:Nat) (m':List En):Prop:=payL s h 0 os m=payL s h k (os.drop k) m'
theorem payOk_zero {s:ByteArray} {h:Int} {os:List TOut} {m:List En}:payOk s h os m 0 m:=rfl
theorem payOk_bad {s:ByteArray} {h:Int} {os:List TOut} {m m':List En} {k:Nat} (hk:k<os.length) (ho:payOk s h os m k m') (hc:refPutCode m' ⟨s,(k:Nat)⟩ (outC os[k] h)≠0):payL s h 0 os m=(m',refPutCode m' ⟨s,(k:Nat)⟩ (outC os[k] h)):=by
 unfold payOk at ho
 rw [ho,List.drop_eq_getElem_cons hk,payL,if_pos hc]
theorem payOk_next {s:ByteArray} {h:Int} {os:List TOut} {m m':List En} {k:Nat} (hk:k<os.length) (ho:payOk s h os m k m') (hc:refPutCode m' ⟨s,(k:Nat)⟩ (outC os[k] h)=0):payOk s h os m (k+1) (refPut m' ⟨s,(k:Nat)⟩ (outC os[k] h)):=by
 unfold payOk at ho ⊢
 rw [ho,List.drop_eq_getElem_cons hk,payL,if_neg (by rw [hc];decide)]
theorem payOk_end {s:ByteArray} {h:Int} {os:List TOut} {m m':List En} {k:Nat} (hk:os.length≤k) (ho:payOk s h os m k m'):payL s h 0 os m=(m',0):=by
 unfold payOk at ho
 rw [ho,List.drop_eq_nil_of_le hk];rfl
theorem midL_cg {l:List En} (h:CG l) (t:Tx):CG (midL l t):=by
 unfold midL
 split
 ·exact h
 ·exact takeAll_cg _ h
theorem midL_len (l:List En) (t:Tx):(midL l t).length≤l.length:=by
 unfold midL
 split
 ·exact Nat.le_refl _
 ·exact takeAll_len _ _
theorem oneL_cg {l:List En} (h:CG l) (t:Tx) (i:Nat) (b:Int):CG (oneL l t i b).1:=by
 unfold oneL
 split
 ·exact h
 ·split
  ·exact h
  ·exact payL_cg _ _ (midL_cg h t)
theorem oneL_len {l:List En} (h:CG l) (t:Tx) (i:Nat) (b:Int):(oneL l t i b).1.length≤l.length+t.outs.length:=by
 unfold oneL
 split
 ·simp
 ·split
  ·simp
  ·have:=payL_len (s:=idT t) (h:=b) t.outs 0 (midL_cg h t)
   have:=midL_len l t
   simp only;omega
theorem runL_cg {l0:List En} {h:Int} (h0:CG l0):∀(txs:List Tx) (i:Nat) {m:List En},CG m→CG (runL l0 h i txs m).1
 | [],_,_,hm=>hm
 |t::ts,i,m,hm=>by
  unfold runL
  split
  ·exact h0
  ·exact runL_cg h0 ts (i+1) (oneL_cg hm t i h)
theorem applyL_cg {l:List En} (h:CG l) (txs:List Tx) (b:Int):CG (applyL l txs b).1:=by
 unfold applyL
 split
 ·exact h
 ·exact runL_cg h txs 0 h
def outsB (txs:List Tx):Nat:=(txs.map fun t=>t.outs.length).sum
theorem runL_len {l0:List En} {h:Int}:∀(txs:List Tx) (i:Nat) {m:List En},CG m→l0.length≤m.length+outsB txs→(runL l0 h i txs m).1.length≤max l0.length (m.length+outsB txs)
 | [],_,m,_,_=>by unfold runL;simp only [outsB,List.map_nil,List.sum_nil];omega
 |t::ts,i,m,hm,h5=>by
  unfold runL
  split
  ·simp only;omega
  ·have h1:=oneL_len hm t i h
   have h6:outsB (t::ts)=t.outs.length+outsB ts:=by simp [outsB]
   by_cases h7:l0.length≤(oneL m t i h).1.length+outsB ts
   ·have:=runL_len (l0:=l0) (h:=h) ts (i+1) (oneL_cg hm t i h) h7
    omega
   ·have h8:=runL_len' (l0:=l0) (h:=h) ts (i+1) (oneL_cg hm t i h)
    omega
where
 runL_len' {l0:List En} {h:Int}:∀(txs:List Tx) (i:Nat) {m:List En},CG m→(runL l0 h i txs m).1.length≤max l0.length (m.length+outsB txs)
 | [],_,m,_=>by unfold runL;simp only [outsB,List.map_nil,List.sum_nil];omega
 |t::ts,i,m,hm=>by
  unfold runL
  split
  ·simp only;omega
  ·have h1:=oneL_len hm t i h
   have h6:outsB (t::ts)=t.outs.length+outsB ts:=by simp [outsB]
   have h8:=runL_len' (l0:=l0) (h:=h) ts (i+1) (oneL_cg hm t i h)
   omega
def runOk (l0:List En) (h:Int) (txs:List Tx) (k:Nat) (m:List En):Prop:=runL l0 h 0 txs l0=runL l0 h k (txs.drop k) m
theorem runOk_zero {l0:List En} {h:Int} {txs:List Tx}:runOk l0 h txs 0 l0:=rfl
theorem runOk_bad {l0 m:List En} {h:Int} {txs:List Tx} {k:Nat} (hk:k<txs.length) (ho:runOk l0 h txs k m) (hc:(oneL m txs[k] k h).2.1≠0):runL l0 h 0 txs l0=(l0,(oneL m txs[k] k h).2.1,((k:Nat):Int),(oneL m txs[k] k h).2.2):=by
 unfold runOk at ho
 rw [ho,List.drop_eq_getElem_cons hk,runL,if_pos hc]
theorem runOk_next {l0 m:List En} {h:Int} {txs:List Tx} {k:Nat} (hk:k<txs.length) (ho:runOk l0 h txs k m) (hc:(oneL m txs[k] k h).2.1=0):runOk l0 h txs (k+1) (oneL m txs[k] k h).1:=by
 unfold runOk at ho ⊢
 rw [ho,List.drop_eq_getElem_cons hk,runL,if_neg (by rw [hc];decide)]
theorem runOk_end {l0 m:List En} {h:Int} {txs:List Tx} {k:Nat} (hk:txs.length≤k) (ho:runOk l0 h txs k m):runL l0 h 0 txs l0=(m,0, -1, -1):=by
 unfold runOk at ho
 rw [ho,List.drop_eq_nil_of_le hk];rfl
def outsL:List En→List En→Bool × List En
 | [],m=>(true,m)
 |x::xs,m=>if refTakeCode m x.1=0∧refCoin m x.1=x.2 then outsL xs (refTake m x.1) else (false,refTake m x.1)
def insL:List En→List En→Bool × List En
 | [],m=>(true,m)
 |x::xs,m=>if refPutCode m x.1 x.2=0 then insL xs (refPut m x.1 x.2) else (false,m)
def swapL (m out inn:List En):Bool × List En:=if (outsL out m).1 then insL inn (outsL out m).2 else (false,(outsL out m).2)
theorem outsL_cg:∀(xs:List En) {m:List En},CG m→CG (outsL xs m).2
 | [],_,h=>h
 |x::xs,m,h=>by
  unfold outsL
  split
  ·exact outsL_cg xs (h.take x.1)
  ·exact h.take x.1
theorem insL_cg:∀(xs:List En) {m:List En},CG m→CG (insL xs m).2
 | [],_,h=>h
 |x::xs,m,h=>by
  unfold insL
  split
  ·exact insL_cg xs (h.put x.1 x.2)
  ·exact h
theorem take_at {m:List En} (h:Srt m) {x:En} (hx:x∈m):refTakeCode m x.1=0∧refCoin m x.1=x.2:=by
 have ha:=(mem_iff_aget (srt_nodup h)).1 hx
 have h1:=take_code (List.Perm.refl m) h x.1
 have h2:=take_coin (List.Perm.refl m) h x.1
 constructor
 ·rw [←h1];unfold takeCode;rw [ha];rfl
 ·rw [←h2];unfold takeCoin;rw [ha];rfl
theorem outsL_all:∀(xs:List En) {m:List En},CG m→(xs.map (·.1)).Nodup→(∀x∈xs,x∈m)→(outsL xs m).1=true∧∀e,e∈(outsL xs m).2↔e∈m∧e.1∉xs.map (·.1)
 | [],m,_,_,_=>⟨rfl,fun e=>by simp [outsL]⟩
 |x::xs,m,h,hn,hs=>by
  have hn':=List.nodup_cons.1 hn
  have hx:=hs x (by simp)
  unfold outsL
  rw [if_pos (take_at h.srt hx)]
  have hm:∀e,e∈refTake m x.1↔e∈m∧e.1≠x.1:=fun e=>by
   rw [refTake_adel h.srt]
   unfold adel
   rw [List.mem_filter];simp
  obtain ⟨h1,h2⟩:=outsL_all xs (h.take x.1) hn'.2 fun y hy=>(hm y).2 ⟨hs y (by simp [hy]),fun e=>hn'.1 (List.mem_map.2 ⟨y,hy,e⟩)⟩
  refine ⟨h1,fun e=>?_⟩
  rw [h2,hm]
  simp only [List.map_cons,List.mem_cons,not_or]
  constructor
  ·rintro ⟨⟨a,b⟩,c⟩;exact ⟨a,b,c⟩
  ·rintro ⟨a,b,c⟩;exact ⟨⟨a,b⟩,c⟩
theorem insL_all:∀(xs:List En) {m:List En},CG m→(xs.map (·.1)).Nodup→(∀x∈xs,aget m x.1=none)→(∀x∈xs,formedB x.1 x.2=true)→(∀x∈xs,0≤x.2.v)→tot m+tot xs≤2100000000000000→(insL xs m).1=true∧(insL xs m).2.Perm (m++xs)
 | [],m,_,_,_,_,_,_=>⟨rfl,by simp [insL]⟩
 |x::xs,m,h,hn,h1,h2,h3,h4=>by
  have hn':=List.nodup_cons.1 hn
  have hv:=Mon.pos (m:=xs) fun y hy=>h3 y (by simp [hy])
  have hv0:=h3 x (by simp)
  have hm0:=Mon.pos h.mon.1
  simp only [tot_cons] at h4
  have hc:refPutCode m x.1 x.2=0:=by
   rw [refPutCode0 (h2 x (by simp)) (by
    cases hi:refIdx m x.1
    ·rfl
    ·have:=isSome_idx m x.1
     rw [h1 x (by simp),hi] at this;cases this),if_pos ((goodB_iff _).2 ⟨by omega,by omega⟩)]
  have hp:=put_perm h.srt hc
  unfold insL
  rw [if_pos hc]
  have hk:∀y∈xs,aget (refPut m x.1 x.2) y.1=none:=fun y hy=>by
   cases ha:aget (refPut m x.1 x.2) y.1 with
   |none=>rfl
   |some c=>
    rcases List.mem_append.1 (hp.mem_iff.1 (aget_mem ha)) with h5|h5
    ·have:=(mem_iff_aget h.nodup).1 h5
     rw [h1 y (by simp [hy])] at this;cases this
    ·simp only [List.mem_singleton] at h5
     have e:y.1=x.1:=congrArg (·.1) h5
     exact absurd (List.mem_map.2 ⟨y,hy,e⟩) hn'.1
  obtain ⟨g1,g2⟩:=insL_all xs (h.put x.1 x.2) hn'.2 hk (fun y hy=>h2 y (by simp [hy])) (fun y hy=>h3 y (by simp [hy])) (by rw [tot_perm hp];simp;omega)
  refine ⟨g1,g2.trans ?_⟩
  have:=hp.append_right xs
  refine this.trans ?_
  rw [List.append_assoc];exact List.Perm.refl _
theorem lessL_mem {a b:List En} {e:En}:e∈lessL a b↔e∈a∧aget b e.1≠some e.2:=by
 unfold lessL
 rw [List.mem_filter];simp
theorem lessL_nodup {a b:List En} (h:(a.map (·.1)).Nodup):((lessL a b).map (·.1)).Nodup:=List.Nodup.sublist (List.Sublist.map _ List.filter_sublist) h
theorem swap_less {a b:List En} (ha:CG a) (hb:CG b):swapL a (lessL a b) (lessL b a)=(true,b):=by
 obtain ⟨h1,h2⟩:=outsL_all (lessL a b) ha (lessL_nodup ha.nodup) fun x hx=>(lessL_mem.1 hx).1
 have hg:=outsL_cg (lessL a b) ha
 generalize hq:outsL (lessL a b) a=q at h1 h2 hg
 obtain ⟨qt,m⟩:=q
 simp only at h1 h2 hg
 subst h1
 have hm:∀e,e∈m↔e∈a∧e∈b:=fun e=>by
  rw [h2]
  refine and_congr_right fun hea=>?_
  constructor
  ·intro hn
   by_cases hb2:aget b e.1=some e.2
   ·exact (mem_iff_aget hb.nodup).2 hb2
   ·exact absurd (List.mem_map_of_mem (f:=(·.1)) (lessL_mem.2 ⟨hea,hb2⟩)) hn
  ·intro heb hn
   obtain ⟨y,hy,e1⟩:=List.mem_map.1 hn
   obtain ⟨y1,y2⟩:=lessL_mem.1 hy
   have e2:=(mem_iff_aget ha.nodup).1 y1
   have e3:=(mem_iff_aget ha.nodup).1 hea
   have e4:=(mem_iff_aget hb.nodup).1 heb
   rw [e1] at e2 y2
   rw [e3] at e2
   exact y2 (e4.trans e2)
 have hpb:(m++lessL b a).Perm b:=by
  refine (List.perm_ext_iff_of_nodup ?_ (nodup_of_keys hb.nodup)).2 fun e=>?_
  ·rw [List.nodup_append]
   refine ⟨nodup_of_keys hg.nodup,nodup_of_keys (lessL_nodup hb.nodup),fun x hx y hy e=>?_⟩
   subst e
   have:=((hm _).1 hx).1
   exact (lessL_mem.1 hy).2 ((mem_iff_aget ha.nodup).1 this)
  ·rw [List.mem_append,hm,lessL_mem]
   constructor
   ·rintro (h|h)
    ·exact h.2
    ·exact h.1
   ·intro h
    by_cases h3:aget a e.1=some e.2
    ·exact .inl ⟨(mem_iff_aget ha.nodup).2 h3,h⟩
    ·exact .inr ⟨h,h3⟩
 have ht:tot m+tot (lessL b a)=tot b:=by rw [←tot_append,tot_perm hpb]
 obtain ⟨g1,g2⟩:=insL_all (lessL b a) hg (lessL_nodup hb.nodup) (fun x hx=>by
   cases hx2:aget m x.1 with
   |none=>rfl
   |some c=>
    have h5:=(hm _).1 (aget_mem hx2)
    have h6:=(mem_iff_aget hb.nodup).1 h5.2
    have h7:=(mem_iff_aget hb.nodup).1 (lessL_mem.1 hx).1
    simp only at h6
    rw [h6] at h7
    cases h7
    exact absurd ((mem_iff_aget ha.nodup).1 h5.1) (lessL_mem.1 hx).2)
  (fun x hx=>hb.fm x (lessL_mem.1 hx).1) (fun x hx=>hb.mon.1 x (lessL_mem.1 hx).1) (by rw [ht];exact hb.mon.2)
 unfold swapL
 rw [hq]
 simp only [if_true]
 have e:(insL (lessL b a) m).2=b:=srt_ext (insL_cg _ hg).srt hb.srt fun x=>(g2.trans hpb).mem_iff
 exact Prod.ext g1 e
end Go.K
end
