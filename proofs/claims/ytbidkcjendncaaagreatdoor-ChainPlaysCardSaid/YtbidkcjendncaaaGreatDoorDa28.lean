/- Contracts: a block's transactions over the document's list of coins. Contracts: the document's blocks over a list of coins. Contracts: the document's chains. Contracts: a block's transactions over coins, each over those behind the ones ahead of it. Contracts: a block's transactions over coins, five at most; what can't be reverted. Plain: what the document fixes of blocks. Contracts: what the docum -/
import Derived.Test.YtbidkcjendncaaaGreatDoorDa24
import Derived.Test.YtbidkcjendncaaaGreatDoorDa27
set_option linter.unusedVariables false
set_option linter.unusedSimpArgs false
section
namespace Go.K
open Go Go.Proofs.YtbidkcjendncaaaGreatDoor
end Go.K
namespace Go.Proofs.YtbidkcjendncaaaGreatDoor
open Go Go.K
attribute [local irreducible] regK codeK retK KOp.wp K.Spec u32 leS vnS str zero32 numAt byteAt lockL signL brsL chosenB openE ripeB checkT grantB encT idT sizeT inE feeP mayL payL oneL takeAll
theorem head_get:∀{l:List TIn} (h:0<l.length),l[0]=l.headD default
 |_::_,_=>rfl
def oneV (vl:Value) (l:List En) (t:Tx) (i:Nat) (h:Int):Value:=.tuple #[vl,.int .i64 (oneL l t i h).2.1,.int .i64 (oneL l t i h).2.2]
set_option maxHeartbeats 4000000 in
theorem one12_spec {M:List Nat} {v:Value} {cs:List Value} {t:Tx} {l:List En} (i:Nat) (h:Int) (w:World) (hi:i≤100000) (hv:SlE entE w v l) (hg:CG l) (hsc:SC l) (ht:txR.rel M w cs t) (hs:t.Sm) (hn:l.length+t.outs.length≤90000):
  K.Spec Tryz.prog F.kedgeref12_One [v,.agg cs.toArray,.int .i64 (i:Nat),.int .i64 h] w fun r w'=>∃vl,r=oneV vl l t i h∧SlE entE w' vl (oneL l t i h).1∧NewOr v vl l (oneL l t i h).1 w.heap.size∧Ext w w':=by
 have ht0:=ht
 have hin:=hs.ins
 have hout:=hs.outs
 have hl6:∀e∈l,e.2.s.size≤1000000:=fun e he=>by have:=(hsc e he).1;omega
 obtain ⟨iv,ov,rfl,h1,h2,h3,h4⟩:=ht
 have h41:=h4.1
 have h42:=h4.2
 have fail:∀{w':World} {c p:Int},Ext w w'→oneL l t i h=(l,c,p)→∃vl,Value.tuple #[v,.int .i64 c,.int .i64 p]=oneV vl l t i h∧SlE entE w' vl (oneL l t i h).1∧NewOr v vl l (oneL l t i h).1 w.heap.size∧Ext w w':=fun x e=>⟨v,by unfold oneV;rw [e],by rw [e];exact hv.ext x,.inl ⟨rfl,by rw [e]⟩,x⟩
 refine s_kedgeref12_One rfl ?_
 unfold k_kedgeref12_One
 refine oy ?_
 repeat (first|(refine zD (d:=some 5) rfl rfl (fun bp wp xp ap (rp:Row wp ⟨bp,0,none⟩ (txCs t iv ov)) hp0=>?_))|(refine c_cutV (a:=.seq (.reg false (.cons ⟨some 21,_,none⟩ _)) _) (fun (_:Unit) w'=>Ext wp w') (fun _=> [(0,v),(2,.int .i64 (i:Nat)),(3,.int .i64 h),(5,.pointer (some ⟨bp,0,none⟩)),(11,.bool (grantB t))]) ?_ ?_)|(first|refine go1 ?_|refine zg (fun _ _=>?_)|refine zi (fun _ _=>?_)))
 ·by_cases hone:t.ins.length=1
  ·have hpos:0<t.ins.length:=by omega
   have hb:isBase t.ins[0].p=grantB t:=by
    rw [show grantB t=(decide (t.ins.length=1)&&isBase (t.ins.headD default).p) by unfold grantB;rfl,decide_eq_true hone,Bool.true_and]
    rw [head_get hpos]
   repeat' (first|(refine zG (d:=some 23) (E:=inR) (M:=M) (l:=t.ins) rfl (SlR.ext h1 (by exact fx)) ?_)|(refine zL (x:=.tmp 24) rfl (fun _=>?_) (fun h=>absurd (by omega) h))|(refine st_elemR (d:=some 27) (E:=inR) (M:=M) rfl rfl (n:=0) (l:=t.ins) (SlR.ext h1 (by exact fx)) rfl hpos (fun ad cs r4 he=>?_);obtain ⟨wv,rfl,hwv,hp5,hp6⟩:=he)|(refine zC (d:=some 30) rfl (rbase_spec t.ins[0].p _) ?_;rintro _ w3 ⟨rfl,x3⟩;rw [hb])|(first|refine go1 ?_|refine zg (fun _ _=>?_)|refine zi (fun _ _=>?_)))
   exact ⟨(),⟨rfl,rfl,rfl,rfl,rfl,trivial⟩,by exact fx⟩
  ·have hb:grantB t=false:=by
    rw [show grantB t=(decide (t.ins.length=1)&&isBase (t.ins.headD default).p) by unfold grantB;rfl,decide_eq_false hone,Bool.false_and]
   repeat' (first|(refine zG (d:=some 23) (E:=inR) (M:=M) (l:=t.ins) rfl (SlR.ext h1 (by exact fx)) ?_)|(refine zL (x:=.tmp 24) rfl (fun h=>absurd h (by omega)) (fun _=>?_))|(first|refine go1 ?_|refine zg (fun _ _=>?_)|refine zi (fun _ _=>?_)))
   exact ⟨(),⟨rfl,rfl,rfl,rfl,by rw [hb];rfl,trivial⟩,by exact fx⟩
 rintro _ ρ w1 x1
 refine c_cutV (a:=.seq (.reg false (.cons ⟨some 31,_,none⟩ _)) _) (fun (_:Unit) w'=>Ext wp w'∧(mayL l t i h).1=0) (fun _=> [(0,v),(3,.int .i64 h),(5,.pointer (some ⟨bp,0,none⟩)),(11,.bool (grantB t))]) ?_ ?_
 ·cases hgr:grantB t with
  |true=>
   by_cases hc:checkT t=0
   ·repeat' (first|(refine zC (d:=some 33) rfl (rcheck_spec (M:=M) (t:=t) (cs:=txCs t iv ov) _ (R.ext ht0 (by exact fx)) hs) ?_;rintro _ w2 ⟨rfl,x2⟩;rw [hc])|(refine st_fixV (d:=some 43) (.int .i64 t.lock) rfl (congrArg (fun n=>some (Value.int .i64 n)) (IntWalk.i64_in _ (by omega))) ?_)|(refine zJ (t:=40) (p:=((i:Nat):Int)>0) rfl (fun hi0=>?_) (fun hi0=>?_))|(refine zN (x:=.tmp 46) (p:=t.lock=h) rfl (fun hl0=>?_) (fun hl0=>?_))|(first|refine go1 ?_|refine zg (fun _ _=>?_)|refine zi (fun _ _=>?_)))
    ·exact x_ret rfl (fail (by exact fx) (by have e:=may_form (l:=l) hgr hc (h:=h) (i:=i) (.inl (by omega));rw [one_may (by rw [e];decide),e]))
    ·exact x_ret rfl (fail (by exact fx) (by have e:=may_form (l:=l) hgr hc (h:=h) (i:=i) (.inr hl0);rw [one_may (by rw [e];decide),e]))
    ·exact ⟨(),⟨rfl,rfl,rfl,rfl,trivial⟩,by exact fx,by rw [may_ok (l:=l) hgr hc (h:=h) (i:=i) (by omega)]⟩
   ·repeat' (first|(refine zC (d:=some 33) rfl (rcheck_spec (M:=M) (t:=t) (cs:=txCs t iv ov) _ (R.ext ht0 (by exact fx)) hs) ?_;rintro _ w2 ⟨rfl,x2⟩)|(refine zN (x:=.tmp 35) (p:=checkT t=0) rfl (fun _=>?_) (fun h=>absurd h hc))|(first|refine go1 ?_|refine zg (fun _ _=>?_)|refine zi (fun _ _=>?_)))
    exact x_ret rfl (fail (by exact fx) (by have e:=may_bad (l:=l) (h:=h) (i:=i) hgr hc;rw [one_may (by rw [e];exact hc),e]))
  |false=>
   have e:=may_fee (l:=l) (h:=h) (i:=i) hgr
   by_cases hf:(feeP (aget l) t h).2.1=0
   ·repeat' (first|(refine zC (d:=some 52) rfl (rfee_spec (M:=M) (t:=t) (cs:=txCs t iv ov) (l:=l) h _ (SlE.ext (w:=w) (by exact fx) hv) (R.ext ht0 (by exact fx)) hs (by omega) hl6) ?_;rintro _ w2 ⟨rfl,x2⟩;unfold feeV;rw [hf])|(first|refine go1 ?_|refine zg (fun _ _=>?_)|refine zi (fun _ _=>?_)))
    exact ⟨(),⟨rfl,rfl,rfl,rfl,trivial⟩,by exact fx,by rw [e];exact hf⟩
   ·repeat' (first|(refine zC (d:=some 52) rfl (rfee_spec (M:=M) (t:=t) (cs:=txCs t iv ov) (l:=l) h _ (SlE.ext (w:=w) (by exact fx) hv) (R.ext ht0 (by exact fx)) hs (by omega) hl6) ?_;rintro _ w2 ⟨rfl,x2⟩;unfold feeV)|(refine zN (x:=.tmp 57) (p:=(feeP (aget l) t h).2.1=0) rfl (fun _=>?_) (fun h=>absurd h hf))|(first|refine go1 ?_|refine zg (fun _ _=>?_)|refine zi (fun _ _=>?_)))
    exact x_ret rfl (fail (by exact fx) (by rw [one_may (by rw [e];exact hf),e]))
 clear x1
 rintro _ ρ w1 ⟨x1,hmay⟩
 have hc:=may_check hmay
 have hsz:=sz_of_check hs hc
 have rp1:Row w1 ⟨bp,0,none⟩ (txCs t iv ov):=Row.ext x1 rp
 have x01:Ext w w1:=xp.trans x1
 have hv1:=hv.ext x01
 have ht1:=R.ext ht0 x01
 have h11:=h1.ext x01
 have h21:=h2.ext x01
 have x01':Unit→Ext w w1:=fun _=>x01
 clear x01 x1 xp ap rp hv ht0 h1 h2
 repeat (first|(refine c_cutV (a:=.seq (.reg false (.cons ⟨some 17,_,none⟩ _)) _) (fun (vm:Value) w'=>Ext w1 w'∧SlE entE w' vm (midL l t)∧NewOr v vm l (midL l t) w.heap.size) (fun vm=> [(0,v),(3,.int .i64 h),(5,.pointer (some ⟨bp,0,none⟩)),(16,vm)]) ?_ ?_)|(first|refine go1 ?_|refine zg (fun _ _=>?_)|refine zi (fun _ _=>?_)))
 ·cases hgr:grantB t with
  |true=>
   repeat' (first|(refine c_loopV (fun (_:Unit) w'=>Ext w1 w') (fun _=> [(0,v),(3,.int .i64 h),(5,.pointer (some ⟨bp,0,none⟩)),(11,.bool true),(16,v),(17,.int .i64 0)]) (fun _=>0) () ⟨rfl,rfl,rfl,rfl,rfl,rfl,trivial⟩ (Ext.refl _) ?_;rintro _ ρ w2 x2)|(refine zG (d:=some 65) (E:=inR) (M:=M) (l:=t.ins) rfl (SlR.ext h11 (by exact fx)) ?_)|(refine zJ (t:=67) rfl (fun hh=>?_) (fun hh=>?_))|(first|refine go1 ?_|refine zg (fun _ _=>?_)|refine zi (fun _ _=>?_)))
   all_goals exact ⟨v,⟨rfl,rfl,rfl,rfl,trivial⟩,by exact fx,by unfold midL;rw [if_pos hgr];exact hv1.ext (by exact fx),.inl ⟨rfl,by unfold midL;rw [if_pos hgr]⟩⟩
  |false=>
   repeat' (first|(refine c_loopV (fun (p:Nat × Value) w'=>Ext w1 w'∧p.1≤t.ins.length∧SlE entE w' p.2 (takeAll l (t.ins.take p.1))∧NewOr v p.2 l (takeAll l (t.ins.take p.1)) w.heap.size) (fun p=> [(0,v),(3,.int .i64 h),(5,.pointer (some ⟨bp,0,none⟩)),(11,.bool false),(16,p.2),(17,.int .i64 (p.1:Nat))]) (fun p=>t.ins.length - p.1) (0,v) ⟨rfl,rfl,rfl,rfl,rfl,rfl,trivial⟩ ⟨Ext.refl _,by simp,by unfold takeAll;exact hv1,.inl ⟨rfl,by unfold takeAll;rfl⟩⟩ ?_;rintro ⟨k,vm⟩ ρ w2 ⟨x2,hk,hvm,hbm⟩;simp only at hk hvm hbm;dsimp only)|(refine zG (d:=some 65) (E:=inR) (M:=M) (l:=t.ins) rfl (SlR.ext h11 (by exact fx)) ?_)|(refine zJ (t:=67) (p:=((k:Nat):Int)<((t.ins.length:Nat):Int)) rfl (fun hh=>?_) (fun hh=>?_))|(first|refine go1 ?_|refine zg (fun _ _=>?_)|refine zi (fun _ _=>?_)))
   ·have hkl:k<t.ins.length:=by omega
    have hlen:=takeAll_len (t.ins.take k) l
    repeat' (first|(refine st_elemR (d:=some 78) (E:=inR) (M:=M) rfl rfl (n:=k) (l:=t.ins) (SlR.ext h11 (by exact fx)) rfl hkl (fun ad cs r4 he=>?_);obtain ⟨wv,rfl,hwv,hp5,hp6⟩:=he)|(refine zC (d:=some 81) rfl (rtake10_spec t.ins[k].p _ (SlE.ext (w:=w2) (by exact fx) hvm) (by omega)) ?_;rintro _ w3 ⟨vl,rfl,hvl,hbl,x3⟩)|(first|refine go1 ?_|refine zg (fun _ _=>?_)|refine zi (fun _ _=>?_)))
    exact ⟨(k+1,vl),⟨rfl,rfl,rfl,rfl,rfl,rfl,trivial⟩,⟨by exact fx,by simp only;omega,by simp only;rw [takeAll_snoc hkl];exact hvl,by simp only;rw [takeAll_snoc hkl];exact hbm.trans hbl (Ext.size (Ext.trans (x01' ()) (by exact fx)))⟩,by simp only;omega⟩
   ·have e:t.ins.take k=t.ins:=List.take_of_length_le (by omega)
    rw [e] at hvm
    exact ⟨vm,⟨rfl,rfl,rfl,rfl,trivial⟩,by exact fx,by unfold midL;rw [if_neg (by rw [hgr];decide)];exact hvm.ext (by exact fx),by unfold midL;rw [if_neg (by rw [hgr];decide)];rw [e] at hbm;exact hbm⟩
 rintro vm ρ w2 ⟨x2,hvm,hbm⟩
 have hgm:=midL_cg hg t
 have hlm:=midL_len l t
 repeat' (first|(refine zC (d:=some 86) rfl (rid_spec (M:=M) (cs:=txCs t iv ov) (t:=t) _ (R.ext ht1 (by exact fx)) hsz) ?_;rintro _ w3 ⟨rfl,x3⟩)|(refine c_loopV (fun (p:Nat × Value × List En) w'=>Ext w1 w'∧p.1≤t.outs.length∧SlE entE w' p.2.1 p.2.2∧CG p.2.2∧p.2.2.length≤l.length+p.1∧NewOr v p.2.1 l p.2.2 w.heap.size∧payOk (idT t) h t.outs (midL l t) p.1 p.2.2) (fun p=> [(0,v),(3,.int .i64 h),(5,.pointer (some ⟨bp,0,none⟩)),(16,p.2.1),(18,.string (idT t)),(19,.int .i64 (p.1:Nat))]) (fun p=>t.outs.length - p.1) (0,vm,midL l t) ⟨rfl,rfl,rfl,rfl,rfl,rfl,trivial⟩ ⟨by exact fx,by simp,hvm.ext (by exact fx),hgm,by simpa using hlm,hbm,payOk_zero⟩ ?_;rintro ⟨k,vk,mk⟩ ρ w4 ⟨x4,hk,hvk,hgk,hlk,hbk,hpk⟩;simp only at hk hvk hgk hlk hbk hpk;dsimp only)|(refine zG (d:=some 90) (E:=outR) (M:=M) (l:=t.outs) rfl (SlR.ext h21 (by exact fx)) ?_)|(first|refine go1 ?_|refine zg (fun _ _=>?_)|refine zi (fun _ _=>?_)))
 refine zL (x:=.tmp 91) (p:=((k:Nat):Int)<((t.outs.length:Nat):Int)) rfl (fun h9=>?_) (fun h9=>?_)
 ·have hkl:k<t.outs.length:=by omega
  clear x2 x3 hvm
  repeat' (first|(refine st_fixV (d:=some 98) (.int .u32 (k:Nat)) rfl (congrArg (fun n=>some (Value.int .u32 n)) (by rw [wrap32];omega)) ?_)|(refine st_build (d:=some 99) (cs:=(⟨idT t,(k:Nat)⟩:Pt).cs) rfl ?_)|(refine st_elemR (d:=some 103) (E:=outR) (M:=M) rfl rfl (n:=k) (l:=t.outs) (SlR.ext h21 (by exact fx)) rfl hkl (fun ad cs r4 he=>?_);obtain ⟨rfl, -⟩:=he)|(refine st_build (d:=some 106) (cs:=(outC t.outs[k] h).cs) rfl ?_)|(refine zC (d:=some 107) rfl (rput10_spec ⟨idT t,(k:Nat)⟩ (outC t.outs[k] h) _ (SlE.ext (w:=w4) (by exact fx) hvk) (by omega) hgk.mon) ?_;rintro _ w5 ⟨vl,rfl,hvl,hbl,x5⟩)|(refine zN (x:=.tmp 111) (p:=refPutCode mk ⟨idT t,(k:Nat)⟩ (outC t.outs[k] h)=0) rfl (fun h6=>?_) (fun h6=>?_))|(first|refine go1 ?_|refine zg (fun _ _=>?_)|refine zi (fun _ _=>?_)))
  ·have e:=payOk_bad hkl hpk h6
   exact x_ret rfl (fail ((x01' ()).trans (by exact fx)) (by rw [one_pay hmay (by rw [e];exact h6),e]))
  ·have hlp:=refPut_len mk ⟨idT t,(k:Nat)⟩ (outC t.outs[k] h) hgk.srt
   exact ⟨(k+1,vl,refPut mk ⟨idT t,(k:Nat)⟩ (outC t.outs[k] h)),⟨rfl,rfl,rfl,rfl,rfl,rfl,trivial⟩,⟨by exact fx,by simp only;omega,hvl,hgk.put _ _,by simp only;omega,hbk.trans hbl (Ext.size (Ext.trans (x01' ()) (by exact fx))),payOk_next hkl hpk h6⟩,by simp only;omega⟩
 ·have e:=payOk_end (by omega) hpk
  have e2:=one_ok (i:=i) hmay (by rw [e])
  rw [e] at e2
  repeat' (first|refine go1 ?_|refine zg (fun _ _=>?_)|refine zi (fun _ _=>?_))
  exact x_ret rfl ⟨vk,by unfold oneV;rw [e2];rfl,by rw [e2];exact hvk,by rw [e2];exact hbk,(x01' ()).trans (by exact fx)⟩
end Go.Proofs.YtbidkcjendncaaaGreatDoor
end
section
namespace Go.Proofs.YtbidkcjendncaaaGreatDoor
open Go Go.K
attribute [local irreducible] regK codeK retK KOp.wp K.Spec u32 leS vnS str zero32 checkT grantB encT idT sizeT inE feeP mayL payL oneL takeAll
set_option maxHeartbeats 4000000 in
theorem apply12n_spec {M:List Nat} {lv v:Value} {txs:List Tx} {l:List En} (h:Int) (w:World) (hv:SlE entE w lv l) (hg:CG l) (hsc:SC l) (hx:SlR txR M w v txs) (hs:∀t∈txs,t.Sm) (hn:l.length+outsB txs≤80000) (hk0:txs.length≤1000):
  K.Spec Tryz.prog F.kedgeref12_Apply [lv,v,.int .i64 h] w fun r w'=>∃vl,r=.tuple #[vl,.int .i64 (applyL l txs h).2.1,.int .i64 (applyL l txs h).2.2.1,.int .i64 (applyL l txs h).2.2.2]∧SlE entE w' vl (applyL l txs h).1∧NewOr lv vl l (applyL l txs h).1 w.heap.size∧Ext w w':=by
 refine s_kedgeref12_Apply rfl ?_
 unfold k_kedgeref12_Apply
 refine oy ?_
 by_cases hr:0≤h∧h≤1000000
 ·have eA:applyL l txs h=runL l h 0 txs l:=by unfold applyL;rw [if_neg (by omega)]
  rw [eA]
  repeat' (first|(refine st_fixV (d:=some 15) (.bool false) rfl (congrArg (fun b=>some (Value.bool b)) (decide_eq_false (by omega))) ?_)|(refine st_fixV (d:=some 18) (.bool false) rfl (congrArg (fun b=>some (Value.bool b)) (decide_eq_false (by omega))) ?_)|(refine c_loopV (fun (p:Nat × Value × List En) w'=>Ext w w'∧p.1≤txs.length∧SlE entE w' p.2.1 p.2.2∧CG p.2.2∧SC p.2.2∧runOk l h txs p.1 p.2.2∧p.2.2.length≤l.length+outsB (txs.take p.1)∧NewOr lv p.2.1 l p.2.2 w.heap.size) (fun p=> [(0,lv),(1,v),(2,.int .i64 h),(10,p.2.1),(11,.int .i64 (p.1:Nat))]) (fun p=>txs.length - p.1) (0,lv,l) ⟨rfl,rfl,rfl,rfl,rfl,trivial⟩ ⟨Ext.refl _,by simp,hv,hg,hsc,runOk_zero,by simp,.inl ⟨rfl,rfl⟩⟩ ?_;rintro ⟨k,mv,m⟩ ρ w3 ⟨x3,hk,hm3,g3,sc3,hok,hml,hnw⟩;simp only at hk hm3 g3 sc3 hok hml hnw;dsimp only)|(refine zG (d:=some 24) (E:=txR) (M:=M) (l:=txs) rfl (SlR.ext hx (by exact fx)) ?_)|(refine zL (x:=.tmp 25) (p:=((k:Nat):Int)<((txs.length:Nat):Int)) rfl (fun h6=>?_) (fun h6=>?_))|(first|refine go1 ?_|refine zg (fun _ _=>?_)|refine zi (fun _ _=>?_)))
  ·have hkl:k<txs.length:=by omega
   have hst:=hs _ (List.getElem_mem hkl)
   have ho:=outsB_next hkl
   have ho2:=outsB_take txs (k+1)
   have hol:=oneL_len g3 txs[k] k h
   repeat (first|(refine st_elemR (d:=some 32) (E:=txR) (M:=M) rfl rfl (n:=k) (l:=txs) (SlR.ext hx (by exact fx)) rfl hkl (fun ad cs r4 he=>?_);obtain ⟨iv,ov,rfl,p1,p2,p3⟩:=id he)|(first|refine go1 ?_|refine zg (fun _ _=>?_)|refine zi (fun _ _=>?_)))
   refine zC (d:=some 36) rfl (one12_spec (M:=M) (cs:=txCs txs[k] iv ov) (t:=txs[k]) (l:=m) k h _ (by omega) hm3 g3 sc3 he hst (by omega)) ?_
   rintro _ w4 ⟨vl,rfl,hvl,hn4,x4⟩
   unfold oneV
   by_cases h0:(oneL m txs[k] k h).2.1=0
   ·rw [h0]
    repeat (first|refine go1 ?_|refine zg (fun _ _=>?_)|refine zi (fun _ _=>?_))
    exact ⟨(k+1,vl,(oneL m txs[k] k h).1),⟨rfl,rfl,rfl,rfl,rfl,trivial⟩,⟨x3.trans x4,by simp only;omega,hvl,oneL_cg g3 _ _ _,oneL_sc g3 sc3 _ _ _,runOk_next hkl hok h0,by simp only;omega,hnw.trans hn4 x3.size⟩,by simp only;omega⟩
   ·have eR:=runOk_bad hkl hok h0
    rw [eR]
    repeat (first|(refine st_fixV (d:=some 41) (.bool true) rfl (congrArg (fun b=>some (Value.bool (!b))) (decide_eq_false h0)) ?_)|(first|refine go1 ?_|refine zg (fun _ _=>?_)|refine zi (fun _ _=>?_)))
    exact x_ret rfl ⟨lv,rfl,hv.ext (x3.trans x4),.inl ⟨rfl,rfl⟩,x3.trans x4⟩
  ·have ek:txs.length≤k:=by omega
   have eR:=runOk_end ek hok
   rw [eR]
   repeat (first|refine go1 ?_|refine zg (fun _ _=>?_)|refine zi (fun _ _=>?_))
   exact x_ret rfl ⟨mv,rfl,hm3,hnw,x3⟩
 ·have eA:applyL l txs h=(l,3, -1, -1):=by unfold applyL;rw [if_pos (by omega)]
  rw [eA]
  repeat' (first|(refine zJ (t:=16) (p:=h<0) rfl (fun hh=>?_) (fun hh=>?_))|(refine zL (x:=.tmp 19) rfl (fun _=>?_) (fun h=>absurd (by omega) h))|(first|refine go1 ?_|refine zg (fun _ _=>?_)|refine zi (fun _ _=>?_)))
  all_goals exact x_ret rfl ⟨lv,rfl,hv,.inl ⟨rfl,rfl⟩,Ext.refl _⟩
theorem apply12_spec {M:List Nat} {lv v:Value} {txs:List Tx} {l:List En} (h:Int) (w:World) (hv:SlE entE w lv l) (hg:CG l) (hsc:SC l) (hx:SlR txR M w v txs) (hs:∀t∈txs,t.Sm) (hn:l.length+outsB txs≤80000) (hk0:txs.length≤1000):
  K.Spec Tryz.prog F.kedgeref12_Apply [lv,v,.int .i64 h] w fun r w'=>∃vl,r=.tuple #[vl,.int .i64 (applyL l txs h).2.1,.int .i64 (applyL l txs h).2.2.1,.int .i64 (applyL l txs h).2.2.2]∧SlE entE w' vl (applyL l txs h).1∧Ext w w':=
 spec_mono (apply12n_spec h w hv hg hsc hx hs hn hk0) fun _ _ ⟨vl,h1,h2,_,h4⟩=>⟨vl,h1,h2,h4⟩
end Go.Proofs.YtbidkcjendncaaaGreatDoor
end
section
namespace Go.K
open Go Go.Proofs.YtbidkcjendncaaaGreatDoor
theorem runL_ok {l0:List En} {h:Int}:∀(txs:List Tx) (i:Nat) (m:List En),(runL l0 h i txs m).2.1=0→(runL l0 h i txs m).2.2.1= -1
 | [],_,_,_=>rfl
 |t::ts,i,m,h0=>by
  unfold runL at h0 ⊢
  split
  ·rename_i hc
   rw [if_pos hc] at h0
   exact absurd h0 hc
  ·rename_i hc
   rw [if_neg hc] at h0
   exact runL_ok ts (i+1) _ h0
theorem applyL_ok {l:List En} {txs:List Tx} {b:Int} (h0:(applyL l txs b).2.1=0):(applyL l txs b).2.2.1= -1:=by
 unfold applyL at h0 ⊢
 split
 ·rfl
 ·rename_i hc
  rw [if_neg hc] at h0
  exact runL_ok _ _ _ h0
end Go.K
namespace Go.Proofs.YtbidkcjendncaaaGreatDoor
open Go Go.K
attribute [local irreducible] regK codeK retK KOp.wp K.Spec u32 leS vnS str zero32 checkT grantB encT idT sizeT applyL
end Go.Proofs.YtbidkcjendncaaaGreatDoor
end
section
namespace Go.Proofs.YtbidkcjendncaaaGreatDoor
open Go Go.K
attribute [local irreducible] regK codeK retK KOp.wp K.Spec u32 leS vnS str zero32 checkT grantB encT idT sizeT inE feeP mayL payL oneL takeAll
theorem outsB_mk:∀{txs:List Tx},(∀t∈txs,MkOk t)→outsB txs≤3*txs.length
 | [],_=>by simp [outsB]
 |t::ts,h=>by
  have h1:=outsB_mk (txs:=ts) fun t ht=>h t (by simp [ht])
  have h2:=(h t (by simp)).outs
  have e:outsB (t::ts)=t.outs.length+outsB ts:=by simp [outsB]
  rw [e,List.length_cons];omega
theorem SlE.offO {α:Type} {F:Enc α} {w w':World} {v:Value} {l:List α} {L:List Nat} (h:SlE F w v l) (c:Chg L w w') (ho:0<l.length→∀y∈blkOf v,y∉L):SlE F w' v l:=by
 by_cases hp:0<l.length
 ·exact h.chg c fun a m k hv=>ho hp a.block (by rw [hv];simp [blkOf])
 ·have hl:l= []:=List.length_eq_zero_iff.1 (by omega)
  subst hl
  exact h.anyw
end Go.Proofs.YtbidkcjendncaaaGreatDoor
end
section
namespace Go.Proofs.YtbidkcjendncaaaGreatDoor
open Go Go.K
attribute [local irreducible] regK codeK retK KOp.wp K.Spec u32 leS vnS str zero32 checkT grantB encT idT sizeT inE feeP mayL payL oneL takeAll
set_option maxHeartbeats 8000000 in
theorem made12b_spec {M:List Nat} {lv sv:Value} {l:List En} {zs:List BSm} (h:Int) (w:World) (hv:SlE entE w lv l) (hg:CG l) (hsc:SC l) (hz:SlR bsmR M w sv zs) (hn:l.length≤70000) (hh:0≤h∧h≤1000000) (hM:∀b∈M,b<w.heap.size):
  K.Spec Tryz.prog F.kedgelaw12_made [lv,sv,.int .i64 h] w fun r w'=>∃txs,OwnR txR T.api_Tx w.heap.size M w' r txs∧txs.length≤5∧(∀t∈txs,MkOk t)∧Ext w w':=by
 refine s_kedgelaw12_made rfl ?_
 unfold k_kedgelaw12_made
 refine oy ?_
 repeat (first|(refine zG (d:=some 15) (E:=bsmR) (M:=M) (l:=zs) rfl hz ?_)|(refine st_takeR (d:=some 17) (E:=bsmR) (n:=min zs.length 5) rfl rfl (by omega) hz (by omega) rfl (fun v' hv'=>?_))|(refine zG (d:=some 18) (E:=bsmR) (M:=M) (l:=zs.take (min zs.length 5)) rfl hv' ?_)|(first|refine go1 ?_|refine zg (fun _ _=>?_)|refine zi (fun _ _=>?_)))
 have hSl:(zs.take (min zs.length 5)).length≤5:=by rw [List.length_take];omega
 generalize zs.take (min zs.length 5)=S at*
 clear hz
 refine c_loopV (fun (p:Nat × Value × List Tx × Value × List En) w'=>Ext w w'∧p.1≤S.length∧OwnR txR T.api_Tx w.heap.size M w' p.2.1 p.2.2.1∧p.2.2.1.length=p.1∧(∀t∈p.2.2.1,MkOk t)∧SlE entE w' p.2.2.2.1 p.2.2.2.2∧CG p.2.2.2.2∧SC p.2.2.2.2∧p.2.2.2.2.length≤l.length+3*p.1∧(0<p.2.2.2.2.length→∀y∈blkOf p.2.2.2.1,y∉blkOf p.2.1)) (fun p=> [(2,.int .i64 h),(7,p.2.1),(8,p.2.2.2.1),(17,v'),(18,.int .i64 (S.length:Nat)),(19,.int .i64 (p.1:Nat))]) (fun p=>S.length - p.1) (0,.slice none 0 0, [],lv,l) ⟨rfl,rfl,rfl,rfl,rfl,rfl,trivial⟩ ⟨Ext.refl _,by simp,OwnR.nil _ _ _ _,rfl,by simp,hv,hg,hsc,by simp,fun _ y _ hm=>by simp [blkOf] at hm⟩ ?_
 rintro ⟨k,vo,txs,vm,m⟩ ρ w1 ⟨x1,hk,o1,htl,hmk,hm1,g1,sc1,hml,hoff⟩
 simp only at hk o1 htl hmk hm1 g1 sc1 hml hoff
 dsimp only
 have s1:=x1.size
 repeat (first|refine go1 ?_|refine zg (fun _ _=>?_)|refine zi (fun _ _=>?_))
 refine zL (x:=.tmp 20) (p:=((k:Nat):Int)<((S.length:Nat):Int)) rfl (fun h5=>?_) (fun h5=>?_)
 ·have hkl:k<S.length:=by omega
  have hM1:∀b∈M,b<w1.heap.size:=fun b hb=>Nat.lt_of_lt_of_le (hM b hb) s1
  have o1b:=o1.base
  have o1l:=o1.lt
  have hM1':∀b∈blkOf vo++M,b<w1.heap.size:=fun b hb=>by
   rcases List.mem_append.1 hb with hb|hb
   ·exact o1l b hb
   ·exact hM1 b hb
  have hvz:SlR bsmR (blkOf vo++M) w1 v' S:=hv'.step x1 (by simp) (mem_app o1b)
  repeat (first|(refine st_elemR (d:=some 22) (E:=bsmR) (M:=blkOf vo++M) rfl rfl (n:=k) (l:=S) hvz rfl hkl (fun ad cs r4 he=>?_);obtain ⟨fv,rfl,hfr, -⟩:=id he;obtain ⟨q1,q2,efv⟩:=hfr.form)|(refine st_local2 (d':=10) (e:=9) (fun _=>rfl) (fun _=>rfl) rfl rfl rfl (by rw [efv];rfl) (fun b10 w2 x2 a2 (r2:Row w2 ⟨b10,0,none⟩ (bsmCs S[k] fv)) hb2=>?_))|(first|refine go1 ?_|refine zg (fun _ _=>?_)|refine zi (fun _ _=>?_)))
  have s2:=x2.size
  refine zC (d:=some 27) rfl (make12_spec (M:=blkOf vo++M) (cs:=bsmCs S[k] fv) (l:=m) (z:=S[k]) h _ (hm1.ext x2) g1 sc1 (R.ext he x2) (by omega) hh (fun b hb=>Nat.lt_of_lt_of_le (hM1' b hb) s2)) ?_
  rintro _ w3 ⟨cs',t,rfl,t3,mk3,x3⟩
  have ht3:=t3.rel (fun b hb=>Nat.lt_of_lt_of_le (hM1' b hb) s2)
  have ones:=txR.one ht3
  have hl4:=txR.len ht3
  obtain ⟨c0,c1,c2,c3,rfl⟩:∃c0 c1 c2 c3,cs'= [c0,c1,c2,c3]:=by
   match cs',hl4 with
   | [c0,c1,c2,c3],_=>exact ⟨c0,c1,c2,c3,rfl⟩
  repeat (first|(refine zE (d':=11) (fun _=>rfl) rfl rfl (List.all_eq_true.2 ones) (fun b11 w4 x4 a4 (r4:Row w4 ⟨b11,0,none⟩ [c0,c1,c2,c3]) hb4=>?_))|(refine zI (d:=some 30) (cs:= [c0,c1,c2,c3]) rfl (fun b30 w5 x5 a5 hb5=>?_))|(first|refine go1 ?_|refine zg (fun _ _=>?_)|refine zi (fun _ _=>?_)))
  have x35:Ext w3 w5:=x4.trans x5
  have x15:Ext w1 w5:=(x2.trans x3).trans x35
  refine st_append1 (d:=some 31) (E:=txR) (M:=M) (v:=vo) (cs:= [c0,c1,c2,c3]) (a:=t) rfl rfl (o1.ext x15) (Nat.le_trans s1 x15.size) rfl rfl a5 (R.ext ht3 x35) (by omega) (fun v6 w6 o6 c6 hb6=>?_)
  have s36:=x3.size
  have s45:=x4.size
  have s56:=x5.size
  have s66:=c6.size
  have ht6:txR.rel (blkOf vo++M) w6 [c0,c1,c2,c3] t:=txR.step (R.ext ht3 x35) c6 (fun y hy=>.inl (by simp [hy])) (fun y hy=>.inl hy)
  have r6:=Row.chg c6 (Row.ext x5 r4) (fun h=>by have:=o1l _ h;simp only at this;omega)
  have hm6:SlE entE w6 vm m:=SlE.offO (hm1.ext x15) c6 hoff
  have x06:Ext w w6:=(Ext.chg (x1.trans x15) c6).mono (fun y hy=>.inr (o1b y hy))
  have hol:=mk3.outs
  repeat (first|refine go1 ?_|refine zg (fun _ _=>?_)|refine zi (fun _ _=>?_))
  refine zC (d:=some 37) rfl (one12_spec (M:=blkOf vo++M) (cs:= [c0,c1,c2,c3]) (t:=t) (l:=m) k h _ (by omega) hm6 g1 sc1 ht6 mk3.sm (by omega)) ?_
  rintro _ w7 ⟨vl,rfl,hvl,hnew,x7⟩
  unfold oneV
  have hlo:=oneL_len g1 t k h
  repeat (first|refine go1 ?_|refine zg (fun _ _=>?_)|refine zi (fun _ _=>?_))
  refine ⟨(k+1,v6,txs++ [t],vl,(oneL m t k h).1),⟨rfl,rfl,rfl,rfl,rfl,rfl,trivial⟩,⟨x06.trans x7,by simp only;omega,o6.ext x7,by simp [htl],fun y hy=>?_,hvl,oneL_cg g1 _ _ _,oneL_sc g1 sc1 _ _ _,by simp only;omega,fun hp y hy hv6=>?_⟩,by simp only;omega⟩
  ·rcases List.mem_append.1 hy with hy|hy
   ·exact hmk y hy
   ·simp at hy;subst hy;exact mk3
  ·rcases hnew with ⟨rfl,e⟩|hf
   ·simp only [e] at hp
    have hlt:=SlE.blk_lt hm1 hp y hy
    rcases hb6 y hv6 with h|h
    ·exact hoff hp y hy h
    ·have:=x15.size;omega
   ·have:=hf y hy
    have:=o6.lt y hv6
    omega
 ·repeat (first|refine go1 ?_|refine zg (fun _ _=>?_)|refine zi (fun _ _=>?_))
  exact x_ret rfl ⟨txs,o1,by omega,hmk,x1⟩
set_option maxHeartbeats 1000000 in
theorem brevert_bad {b mb:Nat} {l spent made:List En} {sv mv:Value} (w:World) (hS:SetP T.coins_Set w b mb l) (hs:SlR enR [b,mb] w sv spent) (hm:SlR enR [b,mb] w mv made) (hn1:spent.length≤100000) (hn2:made.length≤100000) (h1:(swapL l made spent).1=false):K.Spec Tryz.prog F.block_Revert [.pointer (some ⟨b,0,none⟩),.agg #[sv,mv]] w fun r w'=>r=.int .i64 17∧Ext w w':=by
 have hlt:=hS.lt
 have o1:sv.oneCell'=true:=by obtain ⟨_,_,rfl⟩:=hs.form;rfl
 have o2:mv.oneCell'=true:=by obtain ⟨_,_,rfl⟩:=hm.form;rfl
 refine s_block_Revert rfl ?_
 unfold k_block_Revert
 refine oy ?_
 repeat' (first|(refine zg (fun w1 x1=>?_))|(refine zi (fun w1 x1=>?_))|(refine st_joinV (b:=.cons ⟨some 13,_,_⟩ _) (fun (p:Nat × Nat) w'=>Ext w w'∧SetP T.coins_Set w' p.1 p.2 l∧w0.heap.size≤p.1∧w0.heap.size≤p.2∧Ext w0 w') (fun p=> [(0,.pointer (some ⟨b,0,none⟩)),(3,.pointer (some ⟨b3,0,none⟩)),(8,.pointer (some ⟨p.1,0,none⟩)),(10,mv),(12,sv)]) ?_ ?_)|(refine zD (d:=some 3) (cs:= [sv,mv]) rfl rfl (fun b3 w0 x0 a3 (r3:Row w0 ⟨b3,0,none⟩ [sv,mv]) hb3=>?_))|(refine zC (d:=some 8) rfl (pcopy_spec _ (hS.ext (by exact fx))) ?_;rintro _ w2 ⟨b8,mb8,rfl,hS8,hb8,hmb8,x2⟩)|(exact ⟨(b8,mb8),⟨rfl,rfl,rfl,rfl,rfl,trivial⟩,by exact fx,hS8.ext (by exact fx),Nat.le_trans (Ext.size (show Ext w0 _ by exact fx)) hb8,Nat.le_trans (Ext.size (show Ext w0 _ by exact fx)) hmb8,by exact fx⟩)|(first|refine go1 ?_|refine zg (fun _ _=>?_)|refine zi (fun _ _=>?_))|(refine zB ?_ ?_))
 rintro ⟨b8,mb8⟩ ρ w3 ⟨x3,S8,hb80,hmb80,x03⟩
 simp only at S8 hb80 hmb80
 have l3:=a3.lt
 have s00:=x0.size
 have r33:Row w3 ⟨b3,0,none⟩ [sv,mv]:=Row.ext x03 r3
 have hb8:w.heap.size≤b8:=by omega
 have hmb8:w.heap.size≤mb8:=by omega
 have nin:∀y∈ [b8,mb8],w.heap.size≤y:=by intro y hy;simp at hy;rcases hy with rfl|rfl<;>assumption
 refine zC (d:=some 13) rfl (bswap_spec (b:=b8) (mb:=mb8) (l:=l) (out:=made) (inn:=spent) _ S8 (hm.step x3 (by simp) (fun y hy=>.inr (nin y hy))) (hs.step x3 (by simp) (fun y hy=>.inr (nin y hy))) hn2 hn1) ?_
 rintro _ w4 ⟨rfl,S4,c4⟩
 rw [h1]
 have x04:Ext w w4:=(Ext.chg x3 c4).mono (fun y hy=>.inr (nin y hy))
 have r34:Row w4 ⟨b3,0,none⟩ [sv,mv]:=Row.chg c4 r33 (by simp;omega)
 repeat (first|refine go1 ?_|refine zg (fun _ _=>?_)|refine zi (fun _ _=>?_))
 exact x_ret rfl ⟨rfl,x04⟩
theorem brevert_nil {sv mv:Value} (w:World) (o1:sv.oneCell'=true) (o2:mv.oneCell'=true):K.Spec Tryz.prog F.block_Revert [.pointer none,.agg #[sv,mv]] w fun r w'=>r=.int .i64 1∧Ext w w':=by
 refine s_block_Revert rfl ?_
 unfold k_block_Revert
 refine oy ?_
 repeat (first|(refine zD (d:=some 3) (cs:= [sv,mv]) rfl rfl (fun b3 w0 x0 a3 (r3:Row w0 ⟨b3,0,none⟩ [sv,mv]) hb3=>?_))|(first|refine go1 ?_|refine zg (fun _ _=>?_)|refine zi (fun _ _=>?_)))
 exact x_ret rfl ⟨rfl,x0⟩
end Go.Proofs.YtbidkcjendncaaaGreatDoor
end
section
namespace Go.K
open Go Go.Proofs.YtbidkcjendncaaaGreatDoor
def bwkL:List En:=(applyL [] [gw 3] 3).1
theorem bwk_first:decide ((applyL [] [gw 3] 3).2=(0, -1, -1)∧bwkL.length=1∧tot bwkL=5)=true:=by kernel_rfl
theorem bwk_second:decide ((applyL bwkL [gw 3] 4).2=(4,0, -1))=true:=by kernel_rfl
theorem bwk1:(applyL [] [gw 3] 3).2=(0, -1, -1):=(of_decide_eq_true bwk_first).1
theorem bwk2:(applyL bwkL [gw 3] 4).2=(4,0, -1):=of_decide_eq_true bwk_second
theorem bwk_len:bwkL.length=1:=(of_decide_eq_true bwk_first).2.1
theorem bwk_tot:tot bwkL=5:=(of_decide_eq_true bwk_first).2.2
theorem less_nil (l:List En):lessL [] l= []:=rfl
theorem less_all (l:List En):lessL l []=l:=by
 unfold lessL
 refine List.filter_eq_self.2 fun e _=>?_
 simp [aget]
end Go.K
end
section
namespace Go.Proofs.YtbidkcjendncaaaGreatDoor
open Go Go.K
attribute [local irreducible] regK codeK retK KOp.wp K.Spec u32 leS vnS str zero32 checkT applyL encT idT sizeT EtR bwkL lessL
theorem app_bad {l:List En} {txs:List Tx} {b:Int} (h0:(applyL l txs b).2.1≠0):(applyL l txs b).1=l:=applyL_bad h0
set_option maxHeartbeats 4000000 in
theorem wakes12_spec (w:World) (hg:EtR w):K.Spec Tryz.prog F.kedgelaw12_wakes [] w fun r w'=>r=.bool true∧Ext w w':=by
 refine s_kedgelaw12_wakes rfl ?_
 unfold k_kedgelaw12_wakes
 refine oy ?_
 repeat (first|refine go1 ?_|refine zg (fun _ _=>?_)|refine zi (fun _ _=>?_))
 refine zC (d:=some 8) rfl (pnew_spec _) ?_
 rintro _ w1 ⟨b,mb,rfl,S1,hb1,hb2,x1⟩
 have hlt:=S1.lt
 have hne:=S1.ne
 have hM1:∀y∈ [b,mb],y<w1.heap.size:=fun y hy=>by simp at hy;rcases hy with rfl|rfl;exact hlt.1;exact hlt.2
 repeat (first|(refine st_build (d:=some 11) (cs:= [.int .i64 5,.string ⟨#[]⟩]) rfl ?_)|(refine zI (d:=some 12) (cs:= [.int .i64 5,.string ⟨#[]⟩]) rfl (fun b3 w3 x3 a3 hb3=>?_))|(first|refine go1 ?_|refine zg (fun _ _=>?_)|refine zi (fun _ _=>?_)))
 have ho:SlR outR [b,mb] w3 (.slice (some ⟨b3,0,none⟩) 1 1) o5:=slAt1 (E:=outR) a3 ⟨rfl,⟨by decide,by decide⟩⟩ (fun hm=>by have:=hM1 _ hm;omega)
 have hM3:∀y∈ [b,mb],y<w3.heap.size:=fun y hy=>Nat.lt_of_lt_of_le (hM1 y hy) x3.size
 refine zC (d:=some 13) rfl (grant_spec (M:= [b,mb]) (outs:=o5) 3 _ ⟨by omega,by omega⟩ ho (by decide) hM3) ?_
 rintro _ w4 ⟨cs,rfl,t4,x4⟩
 obtain ⟨iv,ov,rfl, -⟩:=id t4
 have ones:=txR.one (t4.rel hM3)
 repeat (first|(refine zI (d:=some 14) (cs:=txCs (grT 3 o5) iv ov) rfl (fun b5 w5 x5 a5 hb5=>?_))|(first|refine go1 ?_|refine zg (fun _ _=>?_)|refine zi (fun _ _=>?_)))
 have hx5:=txO_one t4 hM3 x5 a5 hb5 (fun y hy=>Nat.lt_of_lt_of_le (hM3 y hy) x4.size)
 have x15:Ext w1 w5:=x3.trans (x4.trans x5)
 have hM5:∀y∈ [b,mb],y<w5.heap.size:=fun y hy=>Nat.lt_of_lt_of_le (hM1 y hy) x15.size
 refine zC (d:=some 15) rfl (bapply_spec (M:= [b,mb]) (txs:= [gw 3]) (l:= []) 3 _ (S1.ext x15) CG.nil SC.nil (by simp) (by simp) hM5 hx5 (by simp;exact gw_sm _) (by decide) (by simp)) ?_
 rintro _ w6 ⟨sv,mv,e,rfl,E6,S6,hA, -,c6⟩
 rw [bwk1] at E6
 obtain rfl:=(ErrA.nilD E6).1 rfl
 obtain ⟨hsv,hmv,hvb⟩:=hA (by rw [bwk1])
 rw [show (applyL [] [gw 3] 3).1=bwkL by unfold bwkL;rfl] at S6 hsv hmv
 have o1:sv.oneCell'=true:=by obtain ⟨_,_,q⟩:=hsv.form;rw [q];rfl
 have o2:mv.oneCell'=true:=by obtain ⟨_,_,q⟩:=hmv.form;rw [q];rfl
 have s15:=x15.size
 have s01:=x1.size
 have x06:Ext w w6:=(Ext.chg (x1.trans x15) c6).mono (fun y hy=>.inr (by simp at hy;omega))
 have hs6:SlR enR [b,mb] w6 sv (lessL [] bwkL):=hsv.en fun y hy hm=>by have:=hvb y (.inl hy);have:=hM5 y hm;omega
 have hm6:SlR enR [b,mb] w6 mv (lessL bwkL []):=hmv.en fun y hy hm=>by have:=hvb y (.inr hy);have:=hM5 y hm;omega
 have hM6:∀y∈ [b,mb],y<w6.heap.size:=fun y hy=>Nat.lt_of_lt_of_le (hM5 y hy) c6.size
 have ones2:([sv,mv]:List Value).all (fun v=>v.oneCell')=true:=by simp [o1,o2]
 repeat (first|(refine zE (d':=2) (fun _=>rfl) rfl rfl ones2 (fun b2 w7 x7 a7 (r7:Row w7 ⟨b2,0,none⟩ [sv,mv]) hb2'=>?_))|(first|refine go1 ?_|refine zg (fun _ _=>?_)|refine zi (fun _ _=>?_)))
 have l7:=a7.lt
 refine zC (d:=some 19) rfl (ptotal_spec _ (S6.ext x7)) ?_
 rintro _ w8 ⟨rfl,x8⟩
 rw [bwk_tot]
 have hM8:∀y∈ [b,mb],y<w8.heap.size:=fun y hy=>Nat.lt_of_lt_of_le (hM6 y hy) (Nat.le_trans x7.size x8.size)
 repeat (first|(refine st_build (d:=some 22) (cs:= [.int .i64 5,.string ⟨#[]⟩]) rfl ?_)|(refine zI (d:=some 23) (cs:= [.int .i64 5,.string ⟨#[]⟩]) rfl (fun b13 w13 x13 a13 hb13=>?_))|(first|refine go1 ?_|refine zg (fun _ _=>?_)|refine zi (fun _ _=>?_)))
 have ho3:SlR outR [b,mb] w13 (.slice (some ⟨b13,0,none⟩) 1 1) o5:=slAt1 (E:=outR) a13 ⟨rfl,⟨by decide,by decide⟩⟩ (fun hm=>by have:=hM8 _ hm;omega)
 have hM13:∀y∈ [b,mb],y<w13.heap.size:=fun y hy=>Nat.lt_of_lt_of_le (hM8 y hy) x13.size
 refine zC (d:=some 24) rfl (grant_spec (M:= [b,mb]) (outs:=o5) 3 _ ⟨by omega,by omega⟩ ho3 (by decide) hM13) ?_
 rintro _ w14 ⟨cs,rfl,t14,x14⟩
 obtain ⟨iv2,ov2,rfl, -⟩:=id t14
 have ones3:=txR.one (t14.rel hM13)
 repeat (first|(refine zI (d:=some 25) (cs:=txCs (grT 3 o5) iv2 ov2) rfl (fun b15 w15 x15 a15 hb15=>?_))|(first|refine go1 ?_|refine zg (fun _ _=>?_)|refine zi (fun _ _=>?_)))
 have hx15:=txO_one t14 hM13 x15 a15 hb15 (fun y hy=>Nat.lt_of_lt_of_le (hM13 y hy) x14.size)
 have x615:Ext w6 w15:=(x7.trans x8).trans (x13.trans (x14.trans x15))
 have x715:Ext w7 w15:=x8.trans (x13.trans (x14.trans x15))
 have hM15:∀y∈ [b,mb],y<w15.heap.size:=fun y hy=>Nat.lt_of_lt_of_le (hM6 y hy) x615.size
 have hcg:CG bwkL:=by
  have:CG (applyL [] [gw 3] 3).1:=applyL_cg CG.nil _ _
  unfold bwkL;exact this
 have hsc:SC bwkL:=by
  have:SC (applyL [] [gw 3] 3).1:=applyL_sc CG.nil SC.nil _ _
  unfold bwkL;exact this
 refine zC (d:=some 26) rfl (bapply_spec (M:= [b,mb]) (txs:= [gw 3]) (l:=bwkL) 4 _ (S6.ext x615) hcg hsc (by simp) (by simp) hM15 hx15 (by simp;exact gw_sm _) (by rw [bwk_len];decide) (by simp)) ?_
 rintro _ w16 ⟨sv2,mv2,e2,rfl,E16,S16, -,hB,c16⟩
 rw [bwk2] at E16
 obtain ⟨rfl,rfl⟩:=hB (by rw [bwk2];decide)
 rw [app_bad (by rw [bwk2];decide)] at S16
 have r16:Row w16 ⟨b2,0,none⟩ [sv,mv]:=Row.chg c16 (Row.ext x715 r7) (by have:=hM6 b (by simp);have:=hM6 mb (by simp);simp;omega)
 have c616:Chg [b,mb] w6 w16:=Chg.trans x615 c16
 have x016:Ext w w16:=(Ext.chg x06 c616).mono (fun y hy=>.inr (by simp at hy;omega))
 have hs16:SlR enR [b,mb] w16 sv (lessL [] bwkL):=hs6.step c616 (fun y hy=>.inl hy) (fun y hy=>.inl hy)
 have hm16:SlR enR [b,mb] w16 mv (lessL bwkL []):=hm6.step c616 (fun y hy=>.inl hy) (fun y hy=>.inl hy)
 obtain ⟨bF,uF,rfl,aF,eF⟩:∃bF u,e2=.iface T.P_api_Fault (.pointer (some ⟨bF,0,none⟩))∧At w16 bF (.cells [.int .i64 0,u].toArray T.api_Fault (0,0))∧ErrR w16 1 u 4 (-1):=by
  rcases E16 with ⟨h, -⟩|⟨-,⟨-,h, -⟩|⟨-,bF,u,h3,h4,h5⟩⟩
  ·exact absurd h (by decide)
  ·exact absurd h (by decide)
  ·exact ⟨bF,u,h3,h4,h5⟩
 have hu:uF=errno 4:=by
  rcases eF with h|⟨-,h, -⟩
  ·exact err_num h (by decide)
  ·exact absurd h (by decide)
 subst hu
 repeat (first|(refine zE (d':=5) (fun _=>rfl) rfl rfl rfl (fun b17 w17 x17 a17 (r17:Row w17 ⟨b17,0,none⟩ [.slice none 0 0,.slice none 0 0]) hb17=>?_))|(first|refine go1 ?_|refine zg (fun _ _=>?_)|refine zi (fun _ _=>?_)))
 have hsw:=swap_less hcg CG.nil
 refine zC (d:=some 31) rfl (brevert_spec (l:=bwkL) (spent:=lessL [] bwkL) (made:=lessL bwkL []) _ (S16.ext x17) (hs16.ext x17) (hm16.ext x17) (by rw [less_nil];simp) (by rw [less_all,bwk_len];decide) (by rw [hsw])) ?_
 rw [hsw]
 rintro _ w18 ⟨rfl,S18,c18⟩
 have c1618:Chg [b,mb] w16 w18:=Chg.trans x17 c18
 have hbF:bF∉ [b,mb]:=fun hm=>by
  obtain ⟨_,_,_,hS⟩:=S16
  simp at hm
  rcases hm with rfl|rfl
  ·have:=hS.1.inj aF
   simp only [Obj.cells.injEq] at this
   exact absurd this.2.1 (by decide)
  ·obtain ⟨es,ck,h1, -⟩:=hS.2.1
   have:=h1.inj aF
   cases this
 have r18:Row w18 ⟨b2,0,none⟩ [sv,mv]:=Row.chg c18 (Row.ext x17 r16) (by have:=hM6 b (by simp);have:=hM6 mb (by simp);simp;omega)
 have aF18:=aF.chg c1618 hbF
 have x018:Ext w w18:=(Ext.chg x016 c1618).mono (fun y hy=>.inr (by simp at hy;omega))
 have hs18:=hs16.step c1618 (fun y hy=>.inl hy) (fun y hy=>.inl hy) (M':= [b,mb])
 have hm18:=hm16.step c1618 (fun y hy=>.inl hy) (fun y hy=>.inl hy) (M':= [b,mb])
 have e18:ErrR w18 2 (.iface T.P_api_Fault (.pointer (some ⟨bF,0,none⟩))) 4 0:=.inr ⟨by decide,by decide,bF,_, -1,rfl,aF18,.inl ⟨rfl,.inr ⟨by decide,rfl⟩⟩⟩
 repeat (first|(refine zG (d:=some 41) (E:=enR) (M:= [b,mb]) (l:=lessL bwkL []) rfl hm18 ?_;rw [less_all,bwk_len])|(refine zG (d:=some 47) (E:=enR) (M:= [b,mb]) (l:=lessL [] bwkL) rfl hs18 ?_;rw [less_nil])|(first|refine go1 ?_|refine zg (fun _ _=>?_)|refine zi (fun _ _=>?_)))
 refine zC (d:=some 53) rfl (errIs_fault1 4 bF _ (at_cell aF18 rfl)) ?_
 rintro _ w19 ⟨rfl,rfl⟩
 repeat (first|refine go1 ?_|refine zg (fun _ _=>?_)|refine zi (fun _ _=>?_))
 refine zC (d:=some 57) rfl (place_spec (hg.ext x018) e18) ?_
 rintro _ w20 ⟨rfl,x20⟩
 repeat (first|refine go1 ?_|refine zg (fun _ _=>?_)|refine zi (fun _ _=>?_))
 refine zC (d:=some 66) rfl (plen_spec _ (S18.ext x20)) ?_
 rintro _ w21 ⟨rfl,x21⟩
 repeat (first|refine go1 ?_|refine zg (fun _ _=>?_)|refine zi (fun _ _=>?_))
 exact x_ret rfl ⟨rfl,x018.trans (x20.trans x21)⟩
end Go.Proofs.YtbidkcjendncaaaGreatDoor
end
section
namespace Go.K
open Go Go.Proofs.YtbidkcjendncaaaGreatDoor
theorem less_snoc {a b:List En} {k:Nat} (hk:k<a.length):lessL (a.take (k+1)) b=lessL (a.take k) b++(if aget b a[k].1=some a[k].2 then [] else [a[k]]):=by
 unfold lessL
 rw [List.take_succ_eq_append_getElem hk,List.filter_append]
 congr 1
 by_cases h:aget b a[k].1=some a[k].2
 ·simp [h]
 ·simp [h]
theorem ridx_none {b:List En} {p:Pt} (h:refIdx b p=none):aget b p=none:=by
 cases ha:aget b p with
 |none=>rfl
 |some c=>
  have:=isSome_idx b p
  rw [ha,h] at this;cases this
theorem ridx_some {b:List En} (hn:(b.map (·.1)).Nodup) {p:Pt} {n:Nat} (h:refIdx b p=some n):∃hl:n<b.length,aget b p=some b[n].2:=by
 obtain ⟨hl,hp, -⟩:=refIdx_some.1 h
 refine ⟨hl,?_⟩
 have hm:(p,b[n].2)∈b:=by
  have:b[n]=(p,b[n].2):=by rw [←hp]
  rw [←this];exact List.getElem_mem hl
 exact (mem_iff_aget hn).1 hm
end Go.K
namespace Go.Proofs.YtbidkcjendncaaaGreatDoor
open Go Go.K
attribute [local irreducible] regK codeK retK KOp.wp K.Spec u32 leS vnS str zero32 checkT applyL encT idT sizeT EtR lessL
theorem cn_ext {c d:Cn} (h1:c.v=d.v) (h2:c.s=d.s) (h3:c.h=d.h):c=d:=by
 cases c;cases d;simp_all
set_option maxHeartbeats 4000000 in
theorem less12_spec {av bv:Value} {a b:List En} (w:World) (ha:SlE entE w av a) (hb:SlE entE w bv b) (hna:a.length≤90000) (hnb:b.length≤90000) (hg:(b.map (·.1)).Nodup):K.Spec Tryz.prog F.kedgeref12_Less [av,bv] w fun r w'=>Own entE T.kedgeref10_Entry w.heap.size w' r (lessL a b)∧Ext w w':=by
 refine s_kedgeref12_Less rfl ?_
 unfold k_kedgeref12_Less
 refine oy ?_
 repeat (first|refine go1 ?_|refine zg (fun _ _=>?_)|refine zi (fun _ _=>?_))
 refine c_loopV (fun (p:Nat × Value) w'=>Ext w w'∧p.1≤a.length∧Own entE T.kedgeref10_Entry w.heap.size w' p.2 (lessL (a.take p.1) b)) (fun p=> [(0,av),(1,bv),(5,p.2),(6,.int .i64 (p.1:Nat))]) (fun p=>a.length - p.1) (0,.slice none 0 0) ⟨rfl,rfl,rfl,rfl,trivial⟩ ⟨Ext.refl _,by simp,by unfold lessL;exact Own.nil _ _ _⟩ ?_
 rintro ⟨k,vo⟩ ρ w1 ⟨x1,hk,o1⟩
 simp only at hk o1
 dsimp only
 have ha1:=ha.ext x1
 have hb1:=hb.ext x1
 repeat (first|(refine st_len (d:=some 10) rfl ha1 ?_)|(first|refine go1 ?_|refine zg (fun _ _=>?_)|refine zi (fun _ _=>?_)))
 refine zL (x:=.tmp 11) (p:=((k:Nat):Int)<((a.length:Nat):Int)) rfl (fun h7=>?_) (fun h7=>?_)
 ·have hkl:k<a.length:=by omega
  have hsn:=less_snoc (b:=b) hkl
  have hll:(lessL (a.take k) b).length≤90000:=by
   unfold lessL
   refine Nat.le_trans (List.length_filter_le _ _) ?_
   rw [List.length_take];omega
  repeat (first|(refine st_elemE (d:=some 17) (E:=entE) rfl rfl (n:=k) (l:=a) ha1 rfl hkl (fun ad1 ra=>?_))|(first|refine go1 ?_|refine zg (fun _ _=>?_)|refine zi (fun _ _=>?_)))
  refine zC (d:=some 20) rfl (find10_spec a[k].1 _ hb1 (by omega)) ?_
  rintro _ w2 ⟨rfl,x2⟩
  cases hi:refIdx b a[k].1 with
  |none=>
   have hf:refFind b a[k].1= -1:=by rw [refFind,hi]
   have hne:aget b a[k].1≠some a[k].2:=by rw [ridx_none hi];exact fun h=>by cases h
   rw [if_neg hne] at hsn
   rw [hf]
   repeat (first|(refine st_elemE (d:=some 75) (E:=entE) rfl rfl (n:=k) (l:=a) (SlE.ext (w:=w1) (by exact fx) ha1) rfl hkl (fun ad5 rd=>?_))|(refine zI (d:=some 77) (cs:=entE.f a[k]) rfl (fun b7 w7 x7 a7 hb7=>?_))|(refine st_append (d:=some 78) (E:=entE) (v:=vo) (l2:= [a[k]]) rfl (o1.ext (by exact fx)) (Nat.le_trans (Ext.size (show Ext w w1 by exact fx)) (Ext.size (show Ext w1 _ by exact fx))) rfl rfl (sl_new a7 rfl) rfl rfl (by simp only [List.length_cons,List.length_nil];omega) (fun v9 w9 o9 c9=>?_))|(first|refine go1 ?_|refine zg (fun _ _=>?_)|refine zi (fun _ _=>?_)))
   exact ⟨(k+1,v9),⟨rfl,rfl,rfl,rfl,trivial⟩,⟨(Ext.chg (show Ext w w7 by exact fx) c9).mono (fun y hy=>.inr (o1.base y hy)),by simp only;omega,by simp only;rw [hsn];exact o9⟩,by simp only;omega⟩
  |some n=>
   obtain ⟨hnl,hag⟩:=ridx_some hg hi
   have hf:refFind b a[k].1=(n:Int):=by rw [refFind,hi]
   rw [hf]
   have hb2:=hb1.ext x2
   by_cases e1:b[n].2.h=a[k].2.h
   ·by_cases e2:b[n].2.v=a[k].2.v
    ·by_cases e3:b[n].2.s=a[k].2.s
     ·have heq:aget b a[k].1=some a[k].2:=by rw [hag,cn_ext e2 e3 e1]
      rw [if_pos heq,List.append_nil] at hsn
      repeat (first|(refine st_fixV (d:=some 22) (.bool false) rfl (congrArg (fun b=>some (Value.bool b)) (decide_eq_false (by omega))) ?_)|(refine st_elemE (d:=some 26) (E:=entE) rfl rfl (n:=n) (l:=b) (SlE.ext (w:=w2) (by exact fx) hb2) rfl hnl (fun ad2 rb=>?_))|(refine st_elemE (d:=some 32) (E:=entE) rfl rfl (n:=k) (l:=a) (SlE.ext (w:=w1) (by exact fx) ha1) rfl hkl (fun ad3 rc=>?_))|(refine st_elemE (d:=some 41) (E:=entE) rfl rfl (n:=n) (l:=b) (SlE.ext (w:=w2) (by exact fx) hb2) rfl hnl (fun ad2 rb=>?_))|(refine st_elemE (d:=some 48) (E:=entE) rfl rfl (n:=k) (l:=a) (SlE.ext (w:=w1) (by exact fx) ha1) rfl hkl (fun ad3 rc=>?_))|(refine st_elemE (d:=some 58) (E:=entE) rfl rfl (n:=n) (l:=b) (SlE.ext (w:=w2) (by exact fx) hb2) rfl hnl (fun ad2 rb=>?_))|(refine st_elemE (d:=some 65) (E:=entE) rfl rfl (n:=k) (l:=a) (SlE.ext (w:=w1) (by exact fx) ha1) rfl hkl (fun ad3 rc=>?_))|(refine st_fixV (d:=some 36) (.bool false) rfl (congrArg (fun b=>some (Value.bool (!b))) (decide_eq_true e1)) ?_)|(refine st_fixV (d:=some 53) (.bool false) rfl (congrArg (fun b=>some (Value.bool (!b))) (decide_eq_true e2)) ?_)|(refine st_fixV (d:=some 70) (.bool false) rfl (congrArg (fun b=>some (Value.bool (!b))) (decide_eq_true e3)) ?_)|(first|refine go1 ?_|refine zg (fun _ _=>?_)|refine zi (fun _ _=>?_)))
      exact ⟨(k+1,vo),⟨rfl,rfl,rfl,rfl,trivial⟩,⟨by exact fx,by simp only;omega,by simp only;rw [hsn];exact o1.ext (by exact fx)⟩,by simp only;omega⟩
     ·have hne:aget b a[k].1≠some a[k].2:=by rw [hag];exact fun h=>e3 (by injection h with h;rw [h])
      rw [if_neg hne] at hsn
      repeat (first|(refine st_fixV (d:=some 22) (.bool false) rfl (congrArg (fun b=>some (Value.bool b)) (decide_eq_false (by omega))) ?_)|(refine st_elemE (d:=some 26) (E:=entE) rfl rfl (n:=n) (l:=b) (SlE.ext (w:=w2) (by exact fx) hb2) rfl hnl (fun ad2 rb=>?_))|(refine st_elemE (d:=some 32) (E:=entE) rfl rfl (n:=k) (l:=a) (SlE.ext (w:=w1) (by exact fx) ha1) rfl hkl (fun ad3 rc=>?_))|(refine st_elemE (d:=some 41) (E:=entE) rfl rfl (n:=n) (l:=b) (SlE.ext (w:=w2) (by exact fx) hb2) rfl hnl (fun ad2 rb=>?_))|(refine st_elemE (d:=some 48) (E:=entE) rfl rfl (n:=k) (l:=a) (SlE.ext (w:=w1) (by exact fx) ha1) rfl hkl (fun ad3 rc=>?_))|(refine st_elemE (d:=some 58) (E:=entE) rfl rfl (n:=n) (l:=b) (SlE.ext (w:=w2) (by exact fx) hb2) rfl hnl (fun ad2 rb=>?_))|(refine st_elemE (d:=some 65) (E:=entE) rfl rfl (n:=k) (l:=a) (SlE.ext (w:=w1) (by exact fx) ha1) rfl hkl (fun ad3 rc=>?_))|(refine st_fixV (d:=some 36) (.bool false) rfl (congrArg (fun b=>some (Value.bool (!b))) (decide_eq_true e1)) ?_)|(refine st_fixV (d:=some 53) (.bool false) rfl (congrArg (fun b=>some (Value.bool (!b))) (decide_eq_true e2)) ?_)|(refine st_fixV (d:=some 70) (.bool true) rfl (congrArg (fun b=>some (Value.bool (!b))) (decide_eq_false e3)) ?_)|(refine st_elemE (d:=some 75) (E:=entE) rfl rfl (n:=k) (l:=a) (SlE.ext (w:=w1) (by exact fx) ha1) rfl hkl (fun ad5 rd=>?_))|(refine zI (d:=some 77) (cs:=entE.f a[k]) rfl (fun b7 w7 x7 a7 hb7=>?_))|(refine st_append (d:=some 78) (E:=entE) (v:=vo) (l2:= [a[k]]) rfl (o1.ext (by exact fx)) (Nat.le_trans (Ext.size (show Ext w w1 by exact fx)) (Ext.size (show Ext w1 _ by exact fx))) rfl rfl (sl_new a7 rfl) rfl rfl (by simp only [List.length_cons,List.length_nil];omega) (fun v9 w9 o9 c9=>?_))|(first|refine go1 ?_|refine zg (fun _ _=>?_)|refine zi (fun _ _=>?_)))
      exact ⟨(k+1,v9),⟨rfl,rfl,rfl,rfl,trivial⟩,⟨(Ext.chg (show Ext w w7 by exact fx) c9).mono (fun y hy=>.inr (o1.base y hy)),by simp only;omega,by simp only;rw [hsn];exact o9⟩,by simp only;omega⟩
    ·have hne:aget b a[k].1≠some a[k].2:=by rw [hag];exact fun h=>e2 (by injection h with h;rw [h])
     rw [if_neg hne] at hsn
     repeat (first|(refine st_fixV (d:=some 22) (.bool false) rfl (congrArg (fun b=>some (Value.bool b)) (decide_eq_false (by omega))) ?_)|(refine st_elemE (d:=some 26) (E:=entE) rfl rfl (n:=n) (l:=b) (SlE.ext (w:=w2) (by exact fx) hb2) rfl hnl (fun ad2 rb=>?_))|(refine st_elemE (d:=some 32) (E:=entE) rfl rfl (n:=k) (l:=a) (SlE.ext (w:=w1) (by exact fx) ha1) rfl hkl (fun ad3 rc=>?_))|(refine st_elemE (d:=some 41) (E:=entE) rfl rfl (n:=n) (l:=b) (SlE.ext (w:=w2) (by exact fx) hb2) rfl hnl (fun ad2 rb=>?_))|(refine st_elemE (d:=some 48) (E:=entE) rfl rfl (n:=k) (l:=a) (SlE.ext (w:=w1) (by exact fx) ha1) rfl hkl (fun ad3 rc=>?_))|(refine st_fixV (d:=some 36) (.bool false) rfl (congrArg (fun b=>some (Value.bool (!b))) (decide_eq_true e1)) ?_)|(refine st_fixV (d:=some 53) (.bool true) rfl (congrArg (fun b=>some (Value.bool (!b))) (decide_eq_false e2)) ?_)|(refine st_elemE (d:=some 75) (E:=entE) rfl rfl (n:=k) (l:=a) (SlE.ext (w:=w1) (by exact fx) ha1) rfl hkl (fun ad5 rd=>?_))|(refine zI (d:=some 77) (cs:=entE.f a[k]) rfl (fun b7 w7 x7 a7 hb7=>?_))|(refine st_append (d:=some 78) (E:=entE) (v:=vo) (l2:= [a[k]]) rfl (o1.ext (by exact fx)) (Nat.le_trans (Ext.size (show Ext w w1 by exact fx)) (Ext.size (show Ext w1 _ by exact fx))) rfl rfl (sl_new a7 rfl) rfl rfl (by simp only [List.length_cons,List.length_nil];omega) (fun v9 w9 o9 c9=>?_))|(first|refine go1 ?_|refine zg (fun _ _=>?_)|refine zi (fun _ _=>?_)))
     exact ⟨(k+1,v9),⟨rfl,rfl,rfl,rfl,trivial⟩,⟨(Ext.chg (show Ext w w7 by exact fx) c9).mono (fun y hy=>.inr (o1.base y hy)),by simp only;omega,by simp only;rw [hsn];exact o9⟩,by simp only;omega⟩
   ·have hne:aget b a[k].1≠some a[k].2:=by rw [hag];exact fun h=>e1 (by injection h with h;rw [h])
    rw [if_neg hne] at hsn
    repeat (first|(refine st_fixV (d:=some 22) (.bool false) rfl (congrArg (fun b=>some (Value.bool b)) (decide_eq_false (by omega))) ?_)|(refine st_elemE (d:=some 26) (E:=entE) rfl rfl (n:=n) (l:=b) (SlE.ext (w:=w2) (by exact fx) hb2) rfl hnl (fun ad2 rb=>?_))|(refine st_elemE (d:=some 32) (E:=entE) rfl rfl (n:=k) (l:=a) (SlE.ext (w:=w1) (by exact fx) ha1) rfl hkl (fun ad3 rc=>?_))|(refine st_fixV (d:=some 36) (.bool true) rfl (congrArg (fun b=>some (Value.bool (!b))) (decide_eq_false e1)) ?_)|(refine st_elemE (d:=some 75) (E:=entE) rfl rfl (n:=k) (l:=a) (SlE.ext (w:=w1) (by exact fx) ha1) rfl hkl (fun ad5 rd=>?_))|(refine zI (d:=some 77) (cs:=entE.f a[k]) rfl (fun b7 w7 x7 a7 hb7=>?_))|(refine st_append (d:=some 78) (E:=entE) (v:=vo) (l2:= [a[k]]) rfl (o1.ext (by exact fx)) (Nat.le_trans (Ext.size (show Ext w w1 by exact fx)) (Ext.size (show Ext w1 _ by exact fx))) rfl rfl (sl_new a7 rfl) rfl rfl (by simp only [List.length_cons,List.length_nil];omega) (fun v9 w9 o9 c9=>?_))|(first|refine go1 ?_|refine zg (fun _ _=>?_)|refine zi (fun _ _=>?_)))
    exact ⟨(k+1,v9),⟨rfl,rfl,rfl,rfl,trivial⟩,⟨(Ext.chg (show Ext w w7 by exact fx) c9).mono (fun y hy=>.inr (o1.base y hy)),by simp only;omega,by simp only;rw [hsn];exact o9⟩,by simp only;omega⟩
 ·have ek:a.take k=a:=List.take_of_length_le (by omega)
  rw [ek] at o1
  repeat (first|refine go1 ?_|refine zg (fun _ _=>?_)|refine zi (fun _ _=>?_))
  exact x_ret rfl ⟨o1,x1⟩
end Go.Proofs.YtbidkcjendncaaaGreatDoor
end
section
namespace Go.Proofs.YtbidkcjendncaaaGreatDoor
open Go Go.K
theorem entry_off {w:World} {v:Value} {l m:List En} {b mb:Nat} {t:TypeId} (h:SlE entE w v l) (hS:SetP t w b mb m) (hp:0<l.length):∀y∈blkOf v,y∉ [b,mb]:=by
 obtain ⟨_,_,_,hE⟩:=hS
 obtain ⟨h1,base,cap,rfl,hc,h2⟩:=h
 have hpos:0<(entE.flat l).length:=by rw [Enc.flat_length];exact Nat.mul_pos hp entE.pos
 obtain ⟨a,rfl,hr⟩:=h2 hpos
 intro y hy hm
 simp only [blkOf,List.mem_singleton] at hy
 subst hy
 obtain ⟨e,es,rfl⟩:∃e es,l=e::es:=by
  cases l with
  |nil=>simp at hp
  |cons e es=>exact ⟨e,es,rfl⟩
 have hcell:=hr 0 (.string e.1.s) rfl
 rw [add_zero] at hcell
 simp only [List.mem_cons,List.not_mem_nil,or_false] at hm
 rcases hm with hm|hm
 ·have:=cell_in hE.1 hm hcell
  simp at this
 ·obtain ⟨es,ck,h3, -⟩:=hE.2.1
  unfold World.cell? at hcell
  unfold At at h3
  rw [hm,h3] at hcell
  simp at hcell
theorem SlE.offS {w w':World} {v:Value} {l m:List En} {b mb:Nat} {t:TypeId} (h:SlE entE w v l) (hS:SetP t w b mb m) (c:Chg [b,mb] w w'):SlE entE w' v l:=SlE.offO h c (fun hp=>entry_off h hS hp)
attribute [local irreducible] regK codeK retK KOp.wp K.Spec
theorem bapply_nil (v:Value) (h:Int) (w:World):K.Spec Tryz.prog F.block_Apply [.pointer none,v,.int .i64 h] w fun r w'=>r=.tuple #[.agg #[.slice none 0 0,.slice none 0 0],errno 1]∧Ext w w':=by
 refine s_block_Apply rfl ?_
 unfold k_block_Apply
 refine oy ?_
 repeat (first|(refine zH (d:=some 6) (fun b6 w1 x1 a1 hb6=>?_))|(first|refine go1 ?_|refine zg (fun _ _=>?_)|refine zi (fun _ _=>?_)))
 refine st_setN (w0:=w) (n:=2) (vs:= [.slice none 0 0,.slice none 0 0]) x1 hb6 a1 rfl rfl rfl rfl rfl (fun w5 x5 c5 a5 r5=>?_)
 repeat (first|refine go1 ?_|refine zg (fun _ _=>?_)|refine zi (fun _ _=>?_))
 exact x_ret (ret2 (rv_cell r5 rfl rfl) rv_tmp) ⟨rfl,x5⟩
theorem outsB_mk5 {txs:List Tx} (h:∀t∈txs,MkOk t) (hl:txs.length≤5):outsB txs≤15:=by have:=outsB_mk h;omega
end Go.Proofs.YtbidkcjendncaaaGreatDoor
namespace Go.K
open Go Go.Proofs.YtbidkcjendncaaaGreatDoor
theorem runL_ok2 {l0:List En} {h:Int}:∀(txs:List Tx) (i:Nat) (m:List En),(runL l0 h i txs m).2.1=0→(runL l0 h i txs m).2.2.2= -1
 | [],_,_,_=>rfl
 |t::ts,i,m,h0=>by
  unfold runL at h0 ⊢
  split
  ·rename_i hc
   rw [if_pos hc] at h0
   exact absurd h0 hc
  ·rename_i hc
   rw [if_neg hc] at h0
   exact runL_ok2 ts (i+1) _ h0
theorem applyL_ok2 {l:List En} {txs:List Tx} {b:Int} (h0:(applyL l txs b).2.1=0):(applyL l txs b).2.2.2= -1:=by
 unfold applyL at h0 ⊢
 split
 ·rfl
 ·rename_i hc
  rw [if_neg hc] at h0
  exact runL_ok2 _ _ _ h0
theorem apply_empty (l:List En) (h:Int):applyL l [] h=if h<0∨h>1000000 then (l,3, -1, -1) else (l,0, -1, -1):=by
 unfold applyL
 split<;>rfl
end Go.K
namespace Go.Proofs.YtbidkcjendncaaaGreatDoor
open Go Go.K
end Go.Proofs.YtbidkcjendncaaaGreatDoor
end
