/- Contracts: a block's transactions over the document's list of coins. Contracts: the document's blocks over a list of coins. Contracts: the document's chains. Contracts: a block's transactions over coins, each over those behind the ones ahead of it. Contracts: the document's chains, a block more. Contracts: the document's chains, a block less. Plain: what the document reckons of blocks; blocks take -/
import Derived.Test.YtbidkcjendncaaaGreatCa27
set_option linter.unusedVariables false
set_option linter.unusedSimpArgs false
section
namespace Go.K
open Go Go.Proofs.YtbidkcjendncaaaGreat
end Go.K
namespace Go.Proofs.YtbidkcjendncaaaGreat
open Go Go.K
attribute [local irreducible] regK codeK retK KOp.wp K.Spec u32 leS vnS str zero32 numAt byteAt lockL signL brsL chosenB openE ripeB checkT grantB encT idT sizeT inE feeP mayL payL oneL takeAll
theorem head_get:∀{l:List TIn} (h:0<l.length),l[0]=l.headD default
 |_::_,_=>rfl
def oneV (vl:Value) (l:List En) (t:Tx) (i:Nat) (h:Int):Value:=.tuple #[vl,.int .i64 (oneL l t i h).2.1,.int .i64 (oneL l t i h).2.2]
set_option maxHeartbeats 4000000 in
theorem one12_spec {M:List Nat} {v:Value} {cs:List Value} {t:Tx} {l:List En} (i:Nat) (h:Int) (w:World) (hi:i≤100000) (hv:SlE entE w v l) (hg:CG l) (hsc:SC l) (ht:txR.rel M w cs t) (hs:t.Sm) (hn:l.length+t.outs.length≤90000):
  K.Spec Tryz.prog F.kedgeref12_One [v,.agg cs.toArray,.int .i64 (i:Nat),.int .i64 h] w fun r w'=>∃vl,r=oneV vl l t i h∧SlE entE w' vl (oneL l t i h).1∧NewOr v vl l (oneL l t i h).1 w.heap.size∧Ext w w':=by
 have ht0:=ht
 have hin:=hs.ins
 have hout:=hs.outs
 have hl6:∀e∈l,e.2.s.size≤1000000:=fun e he=>by have:=(hsc e he).1;omega
 obtain ⟨iv,ov,rfl,h1,h2,h3,h4⟩:=ht
 have h41:=h4.1
 have h42:=h4.2
 have fail:∀{w':World} {c p:Int},Ext w w'→oneL l t i h=(l,c,p)→∃vl,Value.tuple #[v,.int .i64 c,.int .i64 p]=oneV vl l t i h∧SlE entE w' vl (oneL l t i h).1∧NewOr v vl l (oneL l t i h).1 w.heap.size∧Ext w w':=fun x e=>⟨v,by unfold oneV;rw [e],by rw [e];exact hv.ext x,.inl ⟨rfl,by rw [e]⟩,x⟩
 refine s_kedgeref12_One rfl ?_
 unfold k_kedgeref12_One
 refine oy ?_
 repeat (first|(refine zD (d:=some 5) rfl rfl (fun bp wp xp ap (rp:Row wp ⟨bp,0,none⟩ (txCs t iv ov)) hp0=>?_))|(refine c_cutV (a:=.seq (.reg false (.cons ⟨some 21,_,none⟩ _)) _) (fun (_:Unit) w'=>Ext wp w') (fun _=> [(0,v),(2,.int .i64 (i:Nat)),(3,.int .i64 h),(5,.pointer (some ⟨bp,0,none⟩)),(11,.bool (grantB t))]) ?_ ?_)|(first|refine go1 ?_|refine zg (fun _ _=>?_)|refine zi (fun _ _=>?_)))
 ·by_cases hone:t.ins.length=1
  ·have hpos:0<t.ins.length:=by omega
   have hb:isBase t.ins[0].p=grantB t:=by
    rw [show grantB t=(decide (t.ins.length=1)&&isBase (t.ins.headD default).p) by unfold grantB;rfl,decide_eq_true hone,Bool.true_and]
    rw [head_get hpos]
   repeat' (first|(refine zG (d:=some 23) (E:=inR) (M:=M) (l:=t.ins) rfl (SlR.ext h1 (by exact fx)) ?_)|(refine zL (x:=.tmp 24) rfl (fun _=>?_) (fun h=>absurd (by omega) h))|(refine st_elemR (d:=some 27) (E:=inR) (M:=M) rfl rfl (n:=0) (l:=t.ins) (SlR.ext h1 (by exact fx)) rfl hpos (fun ad cs r4 he=>?_);obtain ⟨wv,rfl,hwv,hp5,hp6⟩:=he)|(refine zC (d:=some 30) rfl (rbase_spec t.ins[0].p _) ?_;rintro _ w3 ⟨rfl,x3⟩;rw [hb])|(first|refine go1 ?_|refine zg (fun _ _=>?_)|refine zi (fun _ _=>?_)))
   exact ⟨(),⟨rfl,rfl,rfl,rfl,rfl,trivial⟩,by exact fx⟩
  ·have hb:grantB t=false:=by
    rw [show grantB t=(decide (t.ins.length=1)&&isBase (t.ins.headD default).p) by unfold grantB;rfl,decide_eq_false hone,Bool.false_and]
   repeat' (first|(refine zG (d:=some 23) (E:=inR) (M:=M) (l:=t.ins) rfl (SlR.ext h1 (by exact fx)) ?_)|(refine zL (x:=.tmp 24) rfl (fun h=>absurd h (by omega)) (fun _=>?_))|(first|refine go1 ?_|refine zg (fun _ _=>?_)|refine zi (fun _ _=>?_)))
   exact ⟨(),⟨rfl,rfl,rfl,rfl,by rw [hb];rfl,trivial⟩,by exact fx⟩
 rintro _ ρ w1 x1
 refine c_cutV (a:=.seq (.reg false (.cons ⟨some 31,_,none⟩ _)) _) (fun (_:Unit) w'=>Ext wp w'∧(mayL l t i h).1=0) (fun _=> [(0,v),(3,.int .i64 h),(5,.pointer (some ⟨bp,0,none⟩)),(11,.bool (grantB t))]) ?_ ?_
 ·cases hgr:grantB t with
  |true=>
   by_cases hc:checkT t=0
   ·repeat' (first|(refine zC (d:=some 33) rfl (rcheck_spec (M:=M) (t:=t) (cs:=txCs t iv ov) _ (R.ext ht0 (by exact fx)) hs) ?_;rintro _ w2 ⟨rfl,x2⟩;rw [hc])|(refine st_fixV (d:=some 43) (.int .i64 t.lock) rfl (congrArg (fun n=>some (Value.int .i64 n)) (IntWalk.i64_in _ (by omega))) ?_)|(refine zJ (t:=40) (p:=((i:Nat):Int)>0) rfl (fun hi0=>?_) (fun hi0=>?_))|(refine zN (x:=.tmp 46) (p:=t.lock=h) rfl (fun hl0=>?_) (fun hl0=>?_))|(first|refine go1 ?_|refine zg (fun _ _=>?_)|refine zi (fun _ _=>?_)))
    ·exact x_ret rfl (fail (by exact fx) (by have e:=may_form (l:=l) hgr hc (h:=h) (i:=i) (.inl (by omega));rw [one_may (by rw [e];decide),e]))
    ·exact x_ret rfl (fail (by exact fx) (by have e:=may_form (l:=l) hgr hc (h:=h) (i:=i) (.inr hl0);rw [one_may (by rw [e];decide),e]))
    ·exact ⟨(),⟨rfl,rfl,rfl,rfl,trivial⟩,by exact fx,by rw [may_ok (l:=l) hgr hc (h:=h) (i:=i) (by omega)]⟩
   ·repeat' (first|(refine zC (d:=some 33) rfl (rcheck_spec (M:=M) (t:=t) (cs:=txCs t iv ov) _ (R.ext ht0 (by exact fx)) hs) ?_;rintro _ w2 ⟨rfl,x2⟩)|(refine zN (x:=.tmp 35) (p:=checkT t=0) rfl (fun _=>?_) (fun h=>absurd h hc))|(first|refine go1 ?_|refine zg (fun _ _=>?_)|refine zi (fun _ _=>?_)))
    exact x_ret rfl (fail (by exact fx) (by have e:=may_bad (l:=l) (h:=h) (i:=i) hgr hc;rw [one_may (by rw [e];exact hc),e]))
  |false=>
   have e:=may_fee (l:=l) (h:=h) (i:=i) hgr
   by_cases hf:(feeP (aget l) t h).2.1=0
   ·repeat' (first|(refine zC (d:=some 52) rfl (rfee_spec (M:=M) (t:=t) (cs:=txCs t iv ov) (l:=l) h _ (SlE.ext (w:=w) (by exact fx) hv) (R.ext ht0 (by exact fx)) hs (by omega) hl6) ?_;rintro _ w2 ⟨rfl,x2⟩;unfold feeV;rw [hf])|(first|refine go1 ?_|refine zg (fun _ _=>?_)|refine zi (fun _ _=>?_)))
    exact ⟨(),⟨rfl,rfl,rfl,rfl,trivial⟩,by exact fx,by rw [e];exact hf⟩
   ·repeat' (first|(refine zC (d:=some 52) rfl (rfee_spec (M:=M) (t:=t) (cs:=txCs t iv ov) (l:=l) h _ (SlE.ext (w:=w) (by exact fx) hv) (R.ext ht0 (by exact fx)) hs (by omega) hl6) ?_;rintro _ w2 ⟨rfl,x2⟩;unfold feeV)|(refine zN (x:=.tmp 57) (p:=(feeP (aget l) t h).2.1=0) rfl (fun _=>?_) (fun h=>absurd h hf))|(first|refine go1 ?_|refine zg (fun _ _=>?_)|refine zi (fun _ _=>?_)))
    exact x_ret rfl (fail (by exact fx) (by rw [one_may (by rw [e];exact hf),e]))
 clear x1
 rintro _ ρ w1 ⟨x1,hmay⟩
 have hc:=may_check hmay
 have hsz:=sz_of_check hs hc
 have rp1:Row w1 ⟨bp,0,none⟩ (txCs t iv ov):=Row.ext x1 rp
 have x01:Ext w w1:=xp.trans x1
 have hv1:=hv.ext x01
 have ht1:=R.ext ht0 x01
 have h11:=h1.ext x01
 have h21:=h2.ext x01
 have x01':Unit→Ext w w1:=fun _=>x01
 clear x01 x1 xp ap rp hv ht0 h1 h2
 repeat (first|(refine c_cutV (a:=.seq (.reg false (.cons ⟨some 17,_,none⟩ _)) _) (fun (vm:Value) w'=>Ext w1 w'∧SlE entE w' vm (midL l t)∧NewOr v vm l (midL l t) w.heap.size) (fun vm=> [(0,v),(3,.int .i64 h),(5,.pointer (some ⟨bp,0,none⟩)),(16,vm)]) ?_ ?_)|(first|refine go1 ?_|refine zg (fun _ _=>?_)|refine zi (fun _ _=>?_)))
 ·cases hgr:grantB t with
  |true=>
   repeat' (first|(refine c_loopV (fun (_:Unit) w'=>Ext w1 w') (fun _=> [(0,v),(3,.int .i64 h),(5,.pointer (some ⟨bp,0,none⟩)),(11,.bool true),(16,v),(17,.int .i64 0)]) (fun _=>0) () ⟨rfl,rfl,rfl,rfl,rfl,rfl,trivial⟩ (Ext.refl _) ?_;rintro _ ρ w2 x2)|(refine zG (d:=some 65) (E:=inR) (M:=M) (l:=t.ins) rfl (SlR.ext h11 (by exact fx)) ?_)|(refine zJ (t:=67) rfl (fun hh=>?_) (fun hh=>?_))|(first|refine go1 ?_|refine zg (fun _ _=>?_)|refine zi (fun _ _=>?_)))
   all_goals exact ⟨v,⟨rfl,rfl,rfl,rfl,trivial⟩,by exact fx,by unfold midL;rw [if_pos hgr];exact hv1.ext (by exact fx),.inl ⟨rfl,by unfold midL;rw [if_pos hgr]⟩⟩
  |false=>
   repeat' (first|(refine c_loopV (fun (p:Nat × Value) w'=>Ext w1 w'∧p.1≤t.ins.length∧SlE entE w' p.2 (takeAll l (t.ins.take p.1))∧NewOr v p.2 l (takeAll l (t.ins.take p.1)) w.heap.size) (fun p=> [(0,v),(3,.int .i64 h),(5,.pointer (some ⟨bp,0,none⟩)),(11,.bool false),(16,p.2),(17,.int .i64 (p.1:Nat))]) (fun p=>t.ins.length - p.1) (0,v) ⟨rfl,rfl,rfl,rfl,rfl,rfl,trivial⟩ ⟨Ext.refl _,by simp,by unfold takeAll;exact hv1,.inl ⟨rfl,by unfold takeAll;rfl⟩⟩ ?_;rintro ⟨k,vm⟩ ρ w2 ⟨x2,hk,hvm,hbm⟩;simp only at hk hvm hbm;dsimp only)|(refine zG (d:=some 65) (E:=inR) (M:=M) (l:=t.ins) rfl (SlR.ext h11 (by exact fx)) ?_)|(refine zJ (t:=67) (p:=((k:Nat):Int)<((t.ins.length:Nat):Int)) rfl (fun hh=>?_) (fun hh=>?_))|(first|refine go1 ?_|refine zg (fun _ _=>?_)|refine zi (fun _ _=>?_)))
   ·have hkl:k<t.ins.length:=by omega
    have hlen:=takeAll_len (t.ins.take k) l
    repeat' (first|(refine st_elemR (d:=some 78) (E:=inR) (M:=M) rfl rfl (n:=k) (l:=t.ins) (SlR.ext h11 (by exact fx)) rfl hkl (fun ad cs r4 he=>?_);obtain ⟨wv,rfl,hwv,hp5,hp6⟩:=he)|(refine zC (d:=some 81) rfl (rtake10_spec t.ins[k].p _ (SlE.ext (w:=w2) (by exact fx) hvm) (by omega)) ?_;rintro _ w3 ⟨vl,rfl,hvl,hbl,x3⟩)|(first|refine go1 ?_|refine zg (fun _ _=>?_)|refine zi (fun _ _=>?_)))
    exact ⟨(k+1,vl),⟨rfl,rfl,rfl,rfl,rfl,rfl,trivial⟩,⟨by exact fx,by simp only;omega,by simp only;rw [takeAll_snoc hkl];exact hvl,by simp only;rw [takeAll_snoc hkl];exact hbm.trans hbl (Ext.size (Ext.trans (x01' ()) (by exact fx)))⟩,by simp only;omega⟩
   ·have e:t.ins.take k=t.ins:=List.take_of_length_le (by omega)
    rw [e] at hvm
    exact ⟨vm,⟨rfl,rfl,rfl,rfl,trivial⟩,by exact fx,by unfold midL;rw [if_neg (by rw [hgr];decide)];exact hvm.ext (by exact fx),by unfold midL;rw [if_neg (by rw [hgr];decide)];rw [e] at hbm;exact hbm⟩
 rintro vm ρ w2 ⟨x2,hvm,hbm⟩
 have hgm:=midL_cg hg t
 have hlm:=midL_len l t
 repeat' (first|(refine zC (d:=some 86) rfl (rid_spec (M:=M) (cs:=txCs t iv ov) (t:=t) _ (R.ext ht1 (by exact fx)) hsz) ?_;rintro _ w3 ⟨rfl,x3⟩)|(refine c_loopV (fun (p:Nat × Value × List En) w'=>Ext w1 w'∧p.1≤t.outs.length∧SlE entE w' p.2.1 p.2.2∧CG p.2.2∧p.2.2.length≤l.length+p.1∧NewOr v p.2.1 l p.2.2 w.heap.size∧payOk (idT t) h t.outs (midL l t) p.1 p.2.2) (fun p=> [(0,v),(3,.int .i64 h),(5,.pointer (some ⟨bp,0,none⟩)),(16,p.2.1),(18,.string (idT t)),(19,.int .i64 (p.1:Nat))]) (fun p=>t.outs.length - p.1) (0,vm,midL l t) ⟨rfl,rfl,rfl,rfl,rfl,rfl,trivial⟩ ⟨by exact fx,by simp,hvm.ext (by exact fx),hgm,by simpa using hlm,hbm,payOk_zero⟩ ?_;rintro ⟨k,vk,mk⟩ ρ w4 ⟨x4,hk,hvk,hgk,hlk,hbk,hpk⟩;simp only at hk hvk hgk hlk hbk hpk;dsimp only)|(refine zG (d:=some 90) (E:=outR) (M:=M) (l:=t.outs) rfl (SlR.ext h21 (by exact fx)) ?_)|(first|refine go1 ?_|refine zg (fun _ _=>?_)|refine zi (fun _ _=>?_)))
 refine zL (x:=.tmp 91) (p:=((k:Nat):Int)<((t.outs.length:Nat):Int)) rfl (fun h9=>?_) (fun h9=>?_)
 ·have hkl:k<t.outs.length:=by omega
  clear x2 x3 hvm
  repeat' (first|(refine st_fixV (d:=some 98) (.int .u32 (k:Nat)) rfl (congrArg (fun n=>some (Value.int .u32 n)) (by rw [wrap32];omega)) ?_)|(refine st_build (d:=some 99) (cs:=(⟨idT t,(k:Nat)⟩:Pt).cs) rfl ?_)|(refine st_elemR (d:=some 103) (E:=outR) (M:=M) rfl rfl (n:=k) (l:=t.outs) (SlR.ext h21 (by exact fx)) rfl hkl (fun ad cs r4 he=>?_);obtain ⟨rfl, -⟩:=he)|(refine st_build (d:=some 106) (cs:=(outC t.outs[k] h).cs) rfl ?_)|(refine zC (d:=some 107) rfl (rput10_spec ⟨idT t,(k:Nat)⟩ (outC t.outs[k] h) _ (SlE.ext (w:=w4) (by exact fx) hvk) (by omega) hgk.mon) ?_;rintro _ w5 ⟨vl,rfl,hvl,hbl,x5⟩)|(refine zN (x:=.tmp 111) (p:=refPutCode mk ⟨idT t,(k:Nat)⟩ (outC t.outs[k] h)=0) rfl (fun h6=>?_) (fun h6=>?_))|(first|refine go1 ?_|refine zg (fun _ _=>?_)|refine zi (fun _ _=>?_)))
  ·have e:=payOk_bad hkl hpk h6
   exact x_ret rfl (fail ((x01' ()).trans (by exact fx)) (by rw [one_pay hmay (by rw [e];exact h6),e]))
  ·have hlp:=refPut_len mk ⟨idT t,(k:Nat)⟩ (outC t.outs[k] h) hgk.srt
   exact ⟨(k+1,vl,refPut mk ⟨idT t,(k:Nat)⟩ (outC t.outs[k] h)),⟨rfl,rfl,rfl,rfl,rfl,rfl,trivial⟩,⟨by exact fx,by simp only;omega,hvl,hgk.put _ _,by simp only;omega,hbk.trans hbl (Ext.size (Ext.trans (x01' ()) (by exact fx))),payOk_next hkl hpk h6⟩,by simp only;omega⟩
 ·have e:=payOk_end (by omega) hpk
  have e2:=one_ok (i:=i) hmay (by rw [e])
  rw [e] at e2
  repeat' (first|refine go1 ?_|refine zg (fun _ _=>?_)|refine zi (fun _ _=>?_))
  exact x_ret rfl ⟨vk,by unfold oneV;rw [e2];rfl,by rw [e2];exact hvk,by rw [e2];exact hbk,(x01' ()).trans (by exact fx)⟩
end Go.Proofs.YtbidkcjendncaaaGreat
end
section
namespace Go.Proofs.YtbidkcjendncaaaGreat
open Go Go.K
attribute [local irreducible] regK codeK retK KOp.wp K.Spec u32 leS vnS str zero32 checkT grantB encT idT sizeT inE feeP mayL payL oneL takeAll
set_option maxHeartbeats 4000000 in
theorem apply12_spec {M:List Nat} {lv v:Value} {txs:List Tx} {l:List En} (h:Int) (w:World) (hv:SlE entE w lv l) (hg:CG l) (hsc:SC l) (hx:SlR txR M w v txs) (hs:∀t∈txs,t.Sm) (hn:l.length+outsB txs≤80000) (hk0:txs.length≤1000):
  K.Spec Tryz.prog F.kedgeref12_Apply [lv,v,.int .i64 h] w fun r w'=>∃vl,r=.tuple #[vl,.int .i64 (applyL l txs h).2.1,.int .i64 (applyL l txs h).2.2.1,.int .i64 (applyL l txs h).2.2.2]∧SlE entE w' vl (applyL l txs h).1∧Ext w w':=by
 refine s_kedgeref12_Apply rfl ?_
 unfold k_kedgeref12_Apply
 refine oy ?_
 by_cases hr:0≤h∧h≤1000000
 ·have eA:applyL l txs h=runL l h 0 txs l:=by unfold applyL;rw [if_neg (by omega)]
  rw [eA]
  repeat' (first|(refine st_fixV (d:=some 15) (.bool false) rfl (congrArg (fun b=>some (Value.bool b)) (decide_eq_false (by omega))) ?_)|(refine st_fixV (d:=some 18) (.bool false) rfl (congrArg (fun b=>some (Value.bool b)) (decide_eq_false (by omega))) ?_)|(refine c_loopV (fun (p:Nat × Value × List En) w'=>Ext w w'∧p.1≤txs.length∧SlE entE w' p.2.1 p.2.2∧CG p.2.2∧SC p.2.2∧runOk l h txs p.1 p.2.2∧p.2.2.length≤l.length+outsB (txs.take p.1)) (fun p=> [(0,lv),(1,v),(2,.int .i64 h),(10,p.2.1),(11,.int .i64 (p.1:Nat))]) (fun p=>txs.length - p.1) (0,lv,l) ⟨rfl,rfl,rfl,rfl,rfl,trivial⟩ ⟨Ext.refl _,by simp,hv,hg,hsc,runOk_zero,by simp⟩ ?_;rintro ⟨k,mv,m⟩ ρ w3 ⟨x3,hk,hm3,g3,sc3,hok,hml⟩;simp only at hk hm3 g3 sc3 hok hml;dsimp only)|(refine zG (d:=some 24) (E:=txR) (M:=M) (l:=txs) rfl (SlR.ext hx (by exact fx)) ?_)|(refine zL (x:=.tmp 25) (p:=((k:Nat):Int)<((txs.length:Nat):Int)) rfl (fun h6=>?_) (fun h6=>?_))|(first|refine go1 ?_|refine zg (fun _ _=>?_)|refine zi (fun _ _=>?_)))
  ·have hkl:k<txs.length:=by omega
   have hst:=hs _ (List.getElem_mem hkl)
   have ho:=outsB_next hkl
   have ho2:=outsB_take txs (k+1)
   have hol:=oneL_len g3 txs[k] k h
   repeat (first|(refine st_elemR (d:=some 32) (E:=txR) (M:=M) rfl rfl (n:=k) (l:=txs) (SlR.ext hx (by exact fx)) rfl hkl (fun ad cs r4 he=>?_);obtain ⟨iv,ov,rfl,p1,p2,p3⟩:=id he)|(first|refine go1 ?_|refine zg (fun _ _=>?_)|refine zi (fun _ _=>?_)))
   refine zC (d:=some 36) rfl (one12_spec (M:=M) (cs:=txCs txs[k] iv ov) (t:=txs[k]) (l:=m) k h _ (by omega) hm3 g3 sc3 he hst (by omega)) ?_
   rintro _ w4 ⟨vl,rfl,hvl, -,x4⟩
   unfold oneV
   by_cases h0:(oneL m txs[k] k h).2.1=0
   ·rw [h0]
    repeat (first|refine go1 ?_|refine zg (fun _ _=>?_)|refine zi (fun _ _=>?_))
    exact ⟨(k+1,vl,(oneL m txs[k] k h).1),⟨rfl,rfl,rfl,rfl,rfl,trivial⟩,⟨x3.trans x4,by simp only;omega,hvl,oneL_cg g3 _ _ _,oneL_sc g3 sc3 _ _ _,runOk_next hkl hok h0,by simp only;omega⟩,by simp only;omega⟩
   ·have eR:=runOk_bad hkl hok h0
    rw [eR]
    repeat (first|(refine st_fixV (d:=some 41) (.bool true) rfl (congrArg (fun b=>some (Value.bool (!b))) (decide_eq_false h0)) ?_)|(first|refine go1 ?_|refine zg (fun _ _=>?_)|refine zi (fun _ _=>?_)))
    exact x_ret rfl ⟨lv,rfl,hv.ext (x3.trans x4),x3.trans x4⟩
  ·have ek:txs.length≤k:=by omega
   have eR:=runOk_end ek hok
   rw [eR]
   repeat (first|refine go1 ?_|refine zg (fun _ _=>?_)|refine zi (fun _ _=>?_))
   exact x_ret rfl ⟨mv,rfl,hm3,x3⟩
 ·have eA:applyL l txs h=(l,3, -1, -1):=by unfold applyL;rw [if_pos (by omega)]
  rw [eA]
  repeat' (first|(refine zJ (t:=16) (p:=h<0) rfl (fun hh=>?_) (fun hh=>?_))|(refine zL (x:=.tmp 19) rfl (fun _=>?_) (fun h=>absurd (by omega) h))|(first|refine go1 ?_|refine zg (fun _ _=>?_)|refine zi (fun _ _=>?_)))
  all_goals exact x_ret rfl ⟨lv,rfl,hv,Ext.refl _⟩
end Go.Proofs.YtbidkcjendncaaaGreat
end
section
namespace Go.K
open Go Go.Proofs.YtbidkcjendncaaaGreat
def BkOk (b:List Tx):Prop:=b.length≤4∧outsB b≤12∧∀t∈b,t.Sm
theorem runL_ok {l0:List En} {h:Int}:∀(txs:List Tx) (i:Nat) (m:List En),(runL l0 h i txs m).2.1=0→(runL l0 h i txs m).2.2.1= -1
 | [],_,_,_=>rfl
 |t::ts,i,m,h0=>by
  unfold runL at h0 ⊢
  split
  ·rename_i hc
   rw [if_pos hc] at h0
   exact absurd h0 hc
  ·rename_i hc
   rw [if_neg hc] at h0
   exact runL_ok ts (i+1) _ h0
theorem applyL_ok {l:List En} {txs:List Tx} {b:Int} (h0:(applyL l txs b).2.1=0):(applyL l txs b).2.2.1= -1:=by
 unfold applyL at h0 ⊢
 split
 ·rfl
 ·rename_i hc
  rw [if_neg hc] at h0
  exact runL_ok _ _ _ h0
theorem coins_bound {bs:List (List Tx)} (h:∀b∈bs,BkOk b) (k:Nat):(coinsN bs k).length≤12*k:=coinsN_len (fun b hb=>(h b hb).2.1) k
end Go.K
namespace Go.Proofs.YtbidkcjendncaaaGreat
open Go Go.K
attribute [local irreducible] regK codeK retK KOp.wp K.Spec u32 leS vnS str zero32 checkT grantB encT idT sizeT applyL
set_option maxHeartbeats 4000000 in
theorem coins13_spec {M:List Nat} {bv:Value} {bs:List (List Tx)} (top:Int) (w:World) (hv:SlR (listR txR) M w bv bs) (hb:∀b∈bs,BkOk b) (hl:bs.length≤1000):
  K.Spec Tryz.prog F.kedgeref13_Coins [.agg #[bv,.int .i64 top]] w fun r w'=>SlE entE w' r (coinsC bs)∧Ext w w':=by
 obtain ⟨q1,q2,ebv⟩:=hv.form
 refine s_kedgeref13_Coins rfl ?_
 unfold k_kedgeref13_Coins
 refine oy ?_
 repeat' (first|(refine zD (d:=some 1) (cs:= [bv,.int .i64 top]) rfl (by rw [ebv];rfl) (fun b1 w1 x1 a1 (r1:Row w1 ⟨b1,0,none⟩ [bv,.int .i64 top]) hb1=>?_))|(refine c_loopV (fun (p:Nat × Value) w'=>Ext w1 w'∧p.1≤bs.length∧SlE entE w' p.2 (coinsN bs p.1)) (fun p=> [(1,.pointer (some ⟨b1,0,none⟩)),(3,p.2),(4,.int .i64 (p.1:Nat))]) (fun p=>bs.length - p.1) (0,.slice none 0 0) ⟨rfl,rfl,rfl,trivial⟩ ⟨Ext.refl _,by simp,SlE.nil _⟩ ?_;rintro ⟨k,lv⟩ ρ w3 ⟨x3,hk,hlv⟩;simp only at hk hlv;dsimp only)|(refine zG (d:=some 8) (E:=listR txR) (M:=M) (l:=bs) rfl (SlR.ext hv (by exact fx)) ?_)|(refine zL (x:=.tmp 9) (p:=((k:Nat):Int)<((bs.length:Nat):Int)) rfl (fun h6=>?_) (fun h6=>?_))|(first|refine go1 ?_|refine zg (fun _ _=>?_)|refine zi (fun _ _=>?_)))
 ·have hkl:k<bs.length:=by omega
  obtain ⟨hb1,hb2,hb3⟩:=hb _ (List.getElem_mem hkl)
  have hcb:=coins_bound hb k
  have ek:((k:Nat):Int)+1=((k+1:Nat):Int):=by omega
  have eg:bs.getD k []=bs[k]:=by rw [List.getD_eq_getElem?_getD,List.getElem?_eq_getElem hkl];rfl
  repeat (first|(refine st_elemR (d:=some 17) (E:=listR txR) (M:=M) rfl rfl (n:=k) (l:=bs) (SlR.ext hv (by exact fx)) rfl hkl (fun ad cs r4 he=>?_);obtain ⟨xv,rfl,hxv⟩:=he)|(first|refine go1 ?_|refine zg (fun _ _=>?_)|refine zi (fun _ _=>?_)))
  rw [ek]
  refine zC (d:=some 21) rfl (apply12_spec (M:=M) (l:=coinsN bs k) (txs:=bs[k]) ((k+1:Nat):Int) _ hlv (coinsN_cg bs k) (coinsN_sc bs k) hxv hb3 (by omega) (by omega)) ?_
  rintro _ w4 ⟨vl,rfl,hvl,x4⟩
  repeat (first|refine go1 ?_|refine zg (fun _ _=>?_)|refine zi (fun _ _=>?_))
  exact ⟨(k+1,vl),⟨rfl,rfl,rfl,trivial⟩,⟨x3.trans x4,by simp only;omega,by show SlE entE w4 vl (coinsN bs (k+1));unfold coinsN;rw [eg];exact hvl⟩,by simp only;omega⟩
 ·have ek:k=bs.length:=by omega
  subst ek
  repeat (first|refine go1 ?_|refine zg (fun _ _=>?_)|refine zi (fun _ _=>?_))
  exact x_ret rfl ⟨hlv,x1.trans x3⟩
end Go.Proofs.YtbidkcjendncaaaGreat
end
section
namespace Go.Proofs.YtbidkcjendncaaaGreat
open Go Go.K
attribute [local irreducible] regK codeK retK KOp.wp K.Spec u32 leS vnS str zero32 checkT grantB encT idT sizeT inE feeP mayL payL oneL takeAll
theorem outsB_mk:∀{txs:List Tx},(∀t∈txs,MkOk t)→outsB txs≤3*txs.length
 | [],_=>by simp [outsB]
 |t::ts,h=>by
  have h1:=outsB_mk (txs:=ts) fun t ht=>h t (by simp [ht])
  have h2:=(h t (by simp)).outs
  have e:outsB (t::ts)=t.outs.length+outsB ts:=by simp [outsB]
  rw [e,List.length_cons];omega
theorem BkOk.of_mk {txs:List Tx} (h:∀t∈txs,MkOk t) (hl:txs.length≤4):BkOk txs:=⟨hl,by have:=outsB_mk h;omega,fun t ht=>(h t ht).sm⟩
theorem SlE.offO {α:Type} {F:Enc α} {w w':World} {v:Value} {l:List α} {L:List Nat} (h:SlE F w v l) (c:Chg L w w') (ho:0<l.length→∀y∈blkOf v,y∉L):SlE F w' v l:=by
 by_cases hp:0<l.length
 ·exact h.chg c fun a m k hv=>ho hp a.block (by rw [hv];simp [blkOf])
 ·have hl:l= []:=List.length_eq_zero_iff.1 (by omega)
  subst hl
  exact h.anyw
set_option maxHeartbeats 8000000 in
theorem made13_spec {M:List Nat} {lv sv:Value} {l:List En} {zs:List BSm} (h:Int) (w:World) (hv:SlE entE w lv l) (hg:CG l) (hsc:SC l) (hz:SlR bsmR M w sv zs) (hn:l.length≤70000) (hh:0≤h∧h≤1000000) (hM:∀b∈M,b<w.heap.size):
  K.Spec Tryz.prog F.kedgelaw13_made [lv,sv,.int .i64 h] w fun r w'=>∃txs,OwnR txR T.api_Tx w.heap.size M w' r txs∧txs.length≤4∧(∀t∈txs,MkOk t)∧Ext w w':=by
 refine s_kedgelaw13_made rfl ?_
 unfold k_kedgelaw13_made
 refine oy ?_
 repeat (first|(refine zG (d:=some 15) (E:=bsmR) (M:=M) (l:=zs) rfl hz ?_)|(refine st_takeR (d:=some 17) (E:=bsmR) (n:=min zs.length 4) rfl rfl (by omega) hz (by omega) rfl (fun v' hv'=>?_))|(refine zG (d:=some 18) (E:=bsmR) (M:=M) (l:=zs.take (min zs.length 4)) rfl hv' ?_)|(first|refine go1 ?_|refine zg (fun _ _=>?_)|refine zi (fun _ _=>?_)))
 have hSl:(zs.take (min zs.length 4)).length≤4:=by rw [List.length_take];omega
 generalize zs.take (min zs.length 4)=S at*
 clear hz
 refine c_loopV (fun (p:Nat × Value × List Tx × Value × List En) w'=>Ext w w'∧p.1≤S.length∧OwnR txR T.api_Tx w.heap.size M w' p.2.1 p.2.2.1∧p.2.2.1.length=p.1∧(∀t∈p.2.2.1,MkOk t)∧SlE entE w' p.2.2.2.1 p.2.2.2.2∧CG p.2.2.2.2∧SC p.2.2.2.2∧p.2.2.2.2.length≤l.length+3*p.1∧(0<p.2.2.2.2.length→∀y∈blkOf p.2.2.2.1,y∉blkOf p.2.1)) (fun p=> [(2,.int .i64 h),(7,p.2.1),(8,p.2.2.2.1),(17,v'),(18,.int .i64 (S.length:Nat)),(19,.int .i64 (p.1:Nat))]) (fun p=>S.length - p.1) (0,.slice none 0 0, [],lv,l) ⟨rfl,rfl,rfl,rfl,rfl,rfl,trivial⟩ ⟨Ext.refl _,by simp,OwnR.nil _ _ _ _,rfl,by simp,hv,hg,hsc,by simp,fun _ y _ hm=>by simp [blkOf] at hm⟩ ?_
 rintro ⟨k,vo,txs,vm,m⟩ ρ w1 ⟨x1,hk,o1,htl,hmk,hm1,g1,sc1,hml,hoff⟩
 simp only at hk o1 htl hmk hm1 g1 sc1 hml hoff
 dsimp only
 have s1:=x1.size
 repeat (first|refine go1 ?_|refine zg (fun _ _=>?_)|refine zi (fun _ _=>?_))
 refine zL (x:=.tmp 20) (p:=((k:Nat):Int)<((S.length:Nat):Int)) rfl (fun h5=>?_) (fun h5=>?_)
 ·have hkl:k<S.length:=by omega
  have hM1:∀b∈M,b<w1.heap.size:=fun b hb=>Nat.lt_of_lt_of_le (hM b hb) s1
  have o1b:=o1.base
  have o1l:=o1.lt
  have hM1':∀b∈blkOf vo++M,b<w1.heap.size:=fun b hb=>by
   rcases List.mem_append.1 hb with hb|hb
   ·exact o1l b hb
   ·exact hM1 b hb
  have hvz:SlR bsmR (blkOf vo++M) w1 v' S:=hv'.step x1 (by simp) (mem_app o1b)
  repeat (first|(refine st_elemR (d:=some 22) (E:=bsmR) (M:=blkOf vo++M) rfl rfl (n:=k) (l:=S) hvz rfl hkl (fun ad cs r4 he=>?_);obtain ⟨fv,rfl,hfr, -⟩:=id he;obtain ⟨q1,q2,efv⟩:=hfr.form)|(refine st_local2 (d':=10) (e:=9) (fun _=>rfl) (fun _=>rfl) rfl rfl rfl (by rw [efv];rfl) (fun b10 w2 x2 a2 (r2:Row w2 ⟨b10,0,none⟩ (bsmCs S[k] fv)) hb2=>?_))|(first|refine go1 ?_|refine zg (fun _ _=>?_)|refine zi (fun _ _=>?_)))
  have s2:=x2.size
  refine zC (d:=some 27) rfl (make12_spec (M:=blkOf vo++M) (cs:=bsmCs S[k] fv) (l:=m) (z:=S[k]) h _ (hm1.ext x2) g1 sc1 (R.ext he x2) (by omega) hh (fun b hb=>Nat.lt_of_lt_of_le (hM1' b hb) s2)) ?_
  rintro _ w3 ⟨cs',t,rfl,t3,mk3,x3⟩
  have ht3:=t3.rel (fun b hb=>Nat.lt_of_lt_of_le (hM1' b hb) s2)
  have ones:=txR.one ht3
  have hl4:=txR.len ht3
  obtain ⟨c0,c1,c2,c3,rfl⟩:∃c0 c1 c2 c3,cs'= [c0,c1,c2,c3]:=by
   match cs',hl4 with
   | [c0,c1,c2,c3],_=>exact ⟨c0,c1,c2,c3,rfl⟩
  repeat (first|(refine zE (d':=11) (fun _=>rfl) rfl rfl (List.all_eq_true.2 ones) (fun b11 w4 x4 a4 (r4:Row w4 ⟨b11,0,none⟩ [c0,c1,c2,c3]) hb4=>?_))|(refine zI (d:=some 30) (cs:= [c0,c1,c2,c3]) rfl (fun b30 w5 x5 a5 hb5=>?_))|(first|refine go1 ?_|refine zg (fun _ _=>?_)|refine zi (fun _ _=>?_)))
  have x35:Ext w3 w5:=x4.trans x5
  have x15:Ext w1 w5:=(x2.trans x3).trans x35
  refine st_append1 (d:=some 31) (E:=txR) (M:=M) (v:=vo) (cs:= [c0,c1,c2,c3]) (a:=t) rfl rfl (o1.ext x15) (Nat.le_trans s1 x15.size) rfl rfl a5 (R.ext ht3 x35) (by omega) (fun v6 w6 o6 c6 hb6=>?_)
  have s36:=x3.size
  have s45:=x4.size
  have s56:=x5.size
  have s66:=c6.size
  have ht6:txR.rel (blkOf vo++M) w6 [c0,c1,c2,c3] t:=txR.step (R.ext ht3 x35) c6 (fun y hy=>.inl (by simp [hy])) (fun y hy=>.inl hy)
  have r6:=Row.chg c6 (Row.ext x5 r4) (fun h=>by have:=o1l _ h;simp only at this;omega)
  have hm6:SlE entE w6 vm m:=SlE.offO (hm1.ext x15) c6 hoff
  have x06:Ext w w6:=(Ext.chg (x1.trans x15) c6).mono (fun y hy=>.inr (o1b y hy))
  have hol:=mk3.outs
  repeat (first|refine go1 ?_|refine zg (fun _ _=>?_)|refine zi (fun _ _=>?_))
  refine zC (d:=some 37) rfl (one12_spec (M:=blkOf vo++M) (cs:= [c0,c1,c2,c3]) (t:=t) (l:=m) k h _ (by omega) hm6 g1 sc1 ht6 mk3.sm (by omega)) ?_
  rintro _ w7 ⟨vl,rfl,hvl,hnew,x7⟩
  unfold oneV
  have hlo:=oneL_len g1 t k h
  repeat (first|refine go1 ?_|refine zg (fun _ _=>?_)|refine zi (fun _ _=>?_))
  refine ⟨(k+1,v6,txs++ [t],vl,(oneL m t k h).1),⟨rfl,rfl,rfl,rfl,rfl,rfl,trivial⟩,⟨x06.trans x7,by simp only;omega,o6.ext x7,by simp [htl],fun y hy=>?_,hvl,oneL_cg g1 _ _ _,oneL_sc g1 sc1 _ _ _,by simp only;omega,fun hp y hy hv6=>?_⟩,by simp only;omega⟩
  ·rcases List.mem_append.1 hy with hy|hy
   ·exact hmk y hy
   ·simp at hy;subst hy;exact mk3
  ·rcases hnew with ⟨rfl,e⟩|hf
   ·simp only [e] at hp
    have hlt:=SlE.blk_lt hm1 hp y hy
    rcases hb6 y hv6 with h|h
    ·exact hoff hp y hy h
    ·have:=x15.size;omega
   ·have:=hf y hy
    have:=o6.lt y hv6
    omega
 ·repeat (first|refine go1 ?_|refine zg (fun _ _=>?_)|refine zi (fun _ _=>?_))
  exact x_ret rfl ⟨txs,o1,by omega,hmk,x1⟩
end Go.Proofs.YtbidkcjendncaaaGreat
end
section
namespace Go.Proofs.YtbidkcjendncaaaGreat
open Go Go.K
attribute [local irreducible] regK codeK retK KOp.wp K.Spec u32 leS vnS str zero32 checkT grantB encT idT sizeT applyL
set_option maxHeartbeats 8000000 in
theorem conn13_spec {M:List Nat} {bv v:Value} {ch:Ch} {txs:List Tx} (w:World) (hv:SlR (listR txR) M w bv ch.bs) (hx:SlR txR M w v txs) (hb:∀b∈ch.bs,BkOk b) (hbx:BkOk txs) (hl:ch.bs.length≤1000) (ht:ch.top≤1000) (hM:∀y∈M,y<w.heap.size):
  K.Spec Tryz.prog F.kedgeref13_Connect [.agg #[bv,.int .i64 (ch.top:Nat)],v] w fun r w'=>∃bv',r=.tuple #[.agg #[bv',.int .i64 ((connC ch txs).top:Nat)],.int .i64 (connE ch txs).1,.int .i64 (connE ch txs).2]∧SlR (listR txR) M w' bv' (connC ch txs).bs∧Ext w w':=by
 obtain ⟨q1,q2,ebv⟩:=hv.form
 obtain ⟨q3,q4,exw⟩:=hx.form
 have hcb:=coins_bound hb ch.bs.length
 have hcl:(coinsC ch.bs).length≤12*ch.bs.length:=hcb
 obtain ⟨hb1,hb2,hb3⟩:=hbx
 have ek:((ch.bs.length:Nat):Int)+1=((ch.bs.length+1:Nat):Int):=by omega
 refine s_kedgeref13_Connect rfl ?_
 unfold k_kedgeref13_Connect
 refine oy ?_
 repeat (first|(refine zD (d:=some 2) (cs:= [bv,.int .i64 (ch.top:Nat)]) rfl (by rw [ebv];rfl) (fun b2 w1 x1 a1 (r1:Row w1 ⟨b2,0,none⟩ [bv,.int .i64 (ch.top:Nat)]) hb2=>?_))|(refine zH (d:=some 4) (fun b4 w2 x2 a2 hb4=>?_))|(first|refine go1 ?_|refine zg (fun _ _=>?_)|refine zi (fun _ _=>?_)))
 refine zC (d:=some 15) rfl (coins13_spec (M:=M) ((ch.top:Nat):Int) _ (hv.ext (x1.trans x2)) hb hl) ?_
 rintro lv w3 ⟨hlv,x3⟩
 repeat (first|(refine zG (d:=some 21) (E:=listR txR) (M:=M) (l:=ch.bs) rfl (SlR.ext hv (by exact fx)) ?_)|(first|refine go1 ?_|refine zg (fun _ _=>?_)|refine zi (fun _ _=>?_)))
 rw [ek]
 have x03:Ext w w3:=x1.trans (x2.trans x3)
 refine zC (d:=some 23) rfl (apply12_spec (M:=M) (l:=coinsC ch.bs) (txs:=txs) ((ch.bs.length+1:Nat):Int) _ hlv (coinsN_cg _ _) (coinsN_sc _ _) (hx.ext x03) hb3 (by omega) (by omega)) ?_
 rintro _ w4 ⟨vl,rfl,hvl,x4⟩
 have x04:Ext w w4:=x03.trans x4
 have a24:=At.ext (x3.trans x4) a2
 have l2:=a1.lt
 have hb24:w.heap.size≤b4:=Nat.le_trans x1.size hb4
 have s12:=x1.size
 have s04:=x04.size
 have r14:Row w4 ⟨b2,0,none⟩ [bv,.int .i64 (ch.top:Nat)]:=Row.ext (x2.trans (x3.trans x4)) r1
 have l4:=a2.lt
 have s24:=(x3.trans x4).size
 clear x1 x2 x3 x4 a1 a2 r1 x03
 by_cases h0:(connE ch txs).1=0
 ·have e2:connC ch txs=⟨ch.bs++ [txs],max ch.top (ch.bs.length+1)⟩:=by
   unfold connC
   rw [if_neg (by simpa using h0)]
  have e1:(connE ch txs).2= -1:=applyL_ok h0
  have h0':(applyL (coinsC ch.bs) txs ((ch.bs.length+1:Nat):Int)).2.1=0:=h0
  rw [h0',e1,e2,h0]
  repeat (first|(refine zH (d:=some 12) (fun b12 w5 x5 a5 hb12=>?_))|(first|refine go1 ?_|refine zg (fun _ _=>?_)|refine zi (fun _ _=>?_)))
  have l12:=a5.lt
  have s45:=x5.size
  have hv4:=hv.ext x04
  have hx4:=hx.ext x04
  have hMl:∀y∈b12::b4::M,y<w5.heap.size:=fun y hy=>by
   simp only [List.mem_cons] at hy
   rcases hy with rfl|rfl|hy
   ·exact l12
   ·omega
   ·have:=hM y hy;omega
  have hM4:∀y∈b12::b4::M,y∈M∨w.heap.size≤y:=fun y hy=>by
   simp only [List.mem_cons] at hy
   rcases hy with rfl|rfl|hy
   ·exact .inr (by omega)
   ·exact .inr hb24
   ·exact .inl hy
  refine c_loopV (fun (p:Nat × Value) w'=>Chg [b12] w5 w'∧p.1≤ch.bs.length∧OwnR (listR txR) T.L_api_Tx w5.heap.size (b12::b4::M) w' p.2 (ch.bs.take p.1)∧At w' b12 (.cells [p.2,.int .i64 0].toArray T.kedgeref13_Chain (0,0))) (fun p=> [(1,v),(2,.pointer (some ⟨b2,0,none⟩)),(4,.pointer (some ⟨b4,0,none⟩)),(12,.pointer (some ⟨b12,0,none⟩)),(13,.int .i64 (p.1:Nat))]) (fun p=>ch.bs.length - p.1) (0,.slice none 0 0) ⟨rfl,rfl,rfl,rfl,rfl,trivial⟩ ⟨Chg.refl _ _,by simp,OwnR.nil _ _ _ _,a5⟩ ?_
  rintro ⟨k,dv⟩ ρ w6 ⟨c6,hk,o6,a6⟩
  simp only at hk o6 a6
  dsimp only
  have x06:Ext w w6:=(Ext.chg (x04.trans x5) c6).mono (fun y hy=>.inr (by simp at hy;omega))
  have x46:Ext w4 w6:=(Ext.chg x5 c6).mono (fun y hy=>.inr (by simp at hy;omega))
  have r16:=Row.ext x46 r14
  have r66:=Row.of_at a6
  have odv:dv.oneCell'=true:=o6.one
  have hlen:(ch.bs.take k).length=k:=by rw [List.length_take];omega
  have ob:=o6.base
  have s56:=c6.size
  have hdM:∀y∈blkOf dv++b12::b4::M,y∈M∨w.heap.size≤y:=fun y hy=>by
   rcases List.mem_append.1 hy with hy|hy
   ·exact .inr (by have:=ob y hy;omega)
   ·exact hM4 y hy
  repeat (first|(refine zG (d:=some 36) (E:=listR txR) (M:=M) (l:=ch.bs) rfl (hv.ext x06) ?_)|(first|refine go1 ?_|refine zg (fun _ _=>?_)|refine zi (fun _ _=>?_)))
  refine zL (x:=.tmp 37) (p:=((k:Nat):Int)<((ch.bs.length:Nat):Int)) rfl (fun h6=>?_) (fun h6=>?_)
  ·have hkl:k<ch.bs.length:=by omega
   repeat (first|(refine zi (fun w7 x7=>?_))|(refine st_joinV (b:=.cons ⟨some 48,_,_⟩ _) (fun (p:Nat × Value) w'=>Ext w6 w'∧At w' p.1 (.cells [p.2].toArray T.L_api_Tx (0,0))∧SlR txR (blkOf dv++b12::b4::M) w' p.2 ch.bs[k]) (fun p=> [(1,v),(2,.pointer (some ⟨b2,0,none⟩)),(4,.pointer (some ⟨b4,0,none⟩)),(12,.pointer (some ⟨b12,0,none⟩)),(13,.int .i64 (k:Nat)),(41,dv),(47,.slice (some ⟨p.1,0,none⟩) 1 1)]) ?_ ?_)|(first|refine go1 ?_|refine zg (fun _ _=>?_)|refine zi (fun _ _=>?_)))
   ·repeat' (first|(refine zB ?_ ?_)|(refine st_elemR (d:=some 45) (E:=listR txR) (M:=blkOf dv++b12::b4::M) rfl rfl (n:=k) (l:=ch.bs) (SlR.ext (hv.step x06 (by simp) hdM) (by exact fx)) rfl hkl (fun ad cs r4 he=>?_);obtain ⟨xv,rfl,hxv⟩:=he;obtain ⟨_,_,exv⟩:=hxv.form)|(refine zI (d:=some 47) (cs:= [xv]) (by rw [exv];rfl) (fun b8 w8 x8 a8 hb8=>?_))|(first|refine go1 ?_|refine zg (fun _ _=>?_)|refine zi (fun _ _=>?_)))
    all_goals exact ⟨(b8,xv),⟨rfl,rfl,rfl,rfl,rfl,rfl,rfl,trivial⟩,by exact fx,a8,hxv.ext (by exact fx)⟩
   ·rintro ⟨b8,xv⟩ ρ w8 ⟨x8,a8,hxv⟩
    dsimp only at x8 a8 hxv ⊢
    refine st_append1 (d:=some 48) (E:=listR txR) (M:=b12::b4::M) (v:=dv) (cs:= [xv]) (a:=ch.bs[k]) rfl rfl (o6.ext x8) (Nat.le_trans s56 x8.size) rfl rfl a8 ⟨xv,rfl,hxv⟩ (by omega) (fun v9 w9 o9 c9 hb9=>?_)
    have h12n:b12∉blkOf dv:=fun h=>by have:=ob _ h;omega
    have a9:=(a6.ext x8).chg c9 h12n
    have o9b:=o9.base
    repeat (first|refine go1 ?_|refine zg (fun _ _=>?_)|refine zi (fun _ _=>?_))
    refine st_store (b:=b12) (o:=0) (cur:= [dv,.int .i64 0]) rfl rfl o9.one a9 (Nat.le_of_ble_eq_true rfl) (fun w10 c10 a10=>?_)
    have o10:=o9.step c10 (M':=b12::b4::M) (fun y hy=>by
     simp at hy;subst hy
     exact ⟨fun h=>by have:=o9b _ h;omega,.inl (by simp)⟩) (fun y hy=>.inl hy)
    have c510:Chg [b12] w5 w10:=((c6.trans (Chg.trans x8 c9)).trans c10).mono (fun y hy=>by
     simp at hy
     rcases hy with rfl|hy|rfl
     ·exact .inl (by simp)
     ·exact .inr (ob y hy)
     ·exact .inl (by simp))
    repeat (first|refine go1 ?_|refine zg (fun _ _=>?_)|refine zi (fun _ _=>?_))
    exact ⟨(k+1,v9),⟨rfl,rfl,rfl,rfl,rfl,trivial⟩,⟨c510,by simp only;omega,by simp only;rw [List.take_succ_eq_append_getElem hkl];exact o10,a10⟩,by simp only;omega⟩
  ·have ekk:k=ch.bs.length:=by omega
   subst ekk
   rw [List.take_length] at o6
   repeat (first|(refine zI (d:=some 53) (cs:= [v]) (by rw [exw];rfl) (fun b8 w8 x8 a8 hb8=>?_))|(first|refine go1 ?_|refine zg (fun _ _=>?_)|refine zi (fun _ _=>?_)))
   have hx8:SlR txR (blkOf dv++b12::b4::M) w8 v txs:=hx.step (x06.trans x8) (by simp) hdM
   have ov:v.oneCell'=true:=hx.one
   refine st_append1 (d:=some 54) (E:=listR txR) (M:=b12::b4::M) (v:=dv) (cs:= [v]) (a:=txs) rfl rfl (o6.ext x8) (Nat.le_trans s56 x8.size) rfl rfl a8 ⟨v,rfl,hx8⟩ (by omega) (fun v9 w9 o9 c9 hb9=>?_)
   have h12n:b12∉blkOf dv:=fun h=>by have:=ob _ h;omega
   have h4n:b4∉blkOf dv:=fun h=>by have:=ob _ h;omega
   have h2n:b2∉blkOf dv:=fun h=>by have:=ob _ h;omega
   have a9:=(a6.ext x8).chg c9 h12n
   have r29:=Row.chg c9 (Row.ext x8 r16) h2n
   have o9b:=o9.base
   have a49:=(At.ext (x46.trans x8) a24).chg c9 h4n
   repeat (first|refine go1 ?_|refine zg (fun _ _=>?_)|refine zi (fun _ _=>?_))
   refine st_store (b:=b12) (o:=0) (cur:= [dv,.int .i64 0]) rfl rfl o9.one a9 (Nat.le_of_ble_eq_true rfl) (fun w10 c10 a10=>?_)
   have a10:At w10 b12 (.cells [v9,.int .i64 0].toArray T.kedgeref13_Chain (0,0)):=a10
   have h12v:b12∉blkOf v9:=fun h=>by have:=o9b _ h;omega
   have h4v:b4∉blkOf v9:=fun h=>by have:=o9b _ h;omega
   have o10:=o9.step c10 (M':=b12::b4::M) (fun y hy=>by simp at hy;subst hy;exact ⟨h12v,.inl (by simp)⟩) (fun y hy=>.inl hy)
   have r210:=Row.chg c10 r29 (by simp;omega)
   have a410:=a49.chg c10 (by simp;omega)
   have r1210:=Row.of_at a10
   have c510:Chg [b12] w5 w10:=((c6.trans (Chg.trans x8 c9)).trans c10).mono (fun y hy=>by
    simp at hy
    rcases hy with rfl|hy|rfl
    ·exact .inl (by simp)
    ·exact .inr (ob y hy)
    ·exact .inl (by simp))
   repeat (first|refine go1 ?_|refine zg (fun _ _=>?_)|refine zi (fun _ _=>?_))
   refine st_store (b:=b12) (o:=1) (cur:= [v9,.int .i64 0]) rfl rfl rfl a10 (Nat.le_of_ble_eq_true rfl) (fun w11 c11 a11=>?_)
   have a11:At w11 b12 (.cells [v9,.int .i64 (ch.top:Nat)].toArray T.kedgeref13_Chain (0,0)):=a11
   have o11:=o10.step c11 (M':=b12::b4::M) (fun y hy=>by simp at hy;subst hy;exact ⟨h12v,.inl (by simp)⟩) (fun y hy=>.inl hy)
   have a411:=a410.chg c11 (by simp;omega)
   have r1211:=Row.of_at a11
   have c511:Chg [b12] w5 w11:=(c510.trans c11).mono (by simp)
   have off:∀y∈b12::b4::M,y∉blkOf v9:=fun y hy hv=>by have:=o9b y hv;have:=hMl y hy;omega
   have sl11:=o11.sl off
   have ell:(ch.bs++ [txs]).length=ch.bs.length+1:=by simp
   have ov9:v9.oneCell'=true:=o9.one
   by_cases hgt:ch.top<ch.bs.length+1
   ·have em:max ch.top (ch.bs.length+1)=(ch.bs++ [txs]).length:=by rw [ell];omega
    rw [em]
    repeat (first|(refine zG (d:=some 61) (E:=listR txR) (M:=b12::b4::M) (l:=ch.bs++ [txs]) rfl sl11 ?_)|(refine st_fixV (d:=some 64) (.bool true) rfl (congrArg (fun b=>some (Value.bool b)) (decide_eq_true (by rw [ell];omega))) ?_)|(refine zG (d:=some 67) (E:=listR txR) (M:=b12::b4::M) (l:=ch.bs++ [txs]) rfl sl11 ?_)|(first|refine go1 ?_|refine zg (fun _ _=>?_)|refine zi (fun _ _=>?_)))
    refine st_store (b:=b12) (o:=1) (cur:= [v9,.int .i64 (ch.top:Nat)]) rfl rfl rfl a11 (Nat.le_of_ble_eq_true rfl) (fun w13 c13 a13=>?_)
    have a13:At w13 b12 (.cells [v9,.int .i64 ((ch.bs++ [txs]).length:Nat)].toArray T.kedgeref13_Chain (0,0)):=a13
    have r1213:=Row.of_at a13
    have a413:=a411.chg c13 (by simp;omega)
    have o13:=o11.step c13 (M':=b12::b4::M) (fun y hy=>by simp at hy;subst hy;exact ⟨h12v,.inl (by simp)⟩) (fun y hy=>.inl hy)
    have x13:Ext w w13:=(Ext.chg (x04.trans x5) (c511.trans c13)).mono (fun y hy=>.inr (by simp at hy;omega))
    repeat (first|refine go1 ?_|refine zg (fun _ _=>?_)|refine zi (fun _ _=>?_))
    refine st_setN (w0:=w) (n:=2) (vs:= [v9,.int .i64 ((ch.bs++ [txs]).length:Nat)]) x13 hb24 a413 rfl rfl rfl rfl (by simp [ov9];rfl) (fun w14 x14 c14 a14 r14=>?_)
    repeat (first|refine go1 ?_|refine zg (fun _ _=>?_)|refine zi (fun _ _=>?_))
    have o14:=o13.step c14 (M':=b12::b4::M) (fun y hy=>by simp at hy;subst hy;exact ⟨h4v,.inl (by simp)⟩) (fun y hy=>.inl hy)
    exact x_ret (ret3 (rv_cell r14 rfl rfl) rv_tmp rv_tmp) ⟨v9,rfl,(o14.sl off).sub (fun y hy=>.inl (by simp [hy])),x14⟩
   ·have em:max ch.top (ch.bs.length+1)=ch.top:=by omega
    rw [em]
    repeat (first|(refine zG (d:=some 61) (E:=listR txR) (M:=b12::b4::M) (l:=ch.bs++ [txs]) rfl sl11 ?_)|(refine st_fixV (d:=some 64) (.bool false) rfl (congrArg (fun b=>some (Value.bool b)) (decide_eq_false (by rw [ell];omega))) ?_)|(first|refine go1 ?_|refine zg (fun _ _=>?_)|refine zi (fun _ _=>?_)))
    have x13:Ext w w11:=(Ext.chg (x04.trans x5) c511).mono (fun y hy=>.inr (by simp at hy;omega))
    refine st_setN (w0:=w) (n:=2) (vs:= [v9,.int .i64 (ch.top:Nat)]) x13 hb24 a411 rfl rfl rfl rfl (by simp [ov9];rfl) (fun w14 x14 c14 a14 r14=>?_)
    repeat (first|refine go1 ?_|refine zg (fun _ _=>?_)|refine zi (fun _ _=>?_))
    have o14:=o11.step c14 (M':=b12::b4::M) (fun y hy=>by simp at hy;subst hy;exact ⟨h4v,.inl (by simp)⟩) (fun y hy=>.inl hy)
    exact x_ret (ret3 (rv_cell r14 rfl rfl) rv_tmp rv_tmp) ⟨v9,rfl,(o14.sl off).sub (fun y hy=>.inl (by simp [hy])),x14⟩
 ·have e2:connC ch txs=ch:=by unfold connC;rw [if_pos h0]
  have e1:(connE ch txs).2=(applyL (coinsC ch.bs) txs ((ch.bs.length+1:Nat):Int)).2.2.1:=rfl
  have e0:(connE ch txs).1=(applyL (coinsC ch.bs) txs ((ch.bs.length+1:Nat):Int)).2.1:=rfl
  rw [e2,e1,e0]
  repeat (first|(refine st_fixV (d:=some 29) (.bool true) rfl (congrArg (fun b=>some (Value.bool (!b))) (decide_eq_false h0)) ?_)|(first|refine go1 ?_|refine zg (fun _ _=>?_)|refine zi (fun _ _=>?_)))
  have ov:bv.oneCell'=true:=by rw [ebv];rfl
  refine st_setN (w0:=w) (n:=2) (vs:= [bv,.int .i64 (ch.top:Nat)]) x04 hb24 a24 rfl rfl rfl rfl (by simp [ov];rfl) (fun w14 x14 c14 a14 r14=>?_)
  repeat (first|refine go1 ?_|refine zg (fun _ _=>?_)|refine zi (fun _ _=>?_))
  exact x_ret (ret3 (rv_cell r14 rfl rfl) rv_tmp rv_tmp) ⟨bv,rfl,hv.ext x14,x14⟩
end Go.Proofs.YtbidkcjendncaaaGreat
end
section
namespace Go.K
open Go
theorem Sl.at_b {size:Nat} {w:World} {v:Value} {cs:List Value} {ln n:Nat} (hs:Sl w size v ln cs) (hk:0<size) (hr:n<ln):∃a cap,v=.slice (some a) ln cap∧Row w (a.add (n*size)) ((cs.drop (n*size)).take size)∧(a.add (n*size)).block∈blkOf v:=by
 obtain ⟨a,cap,rfl,hrow⟩:=hs.at_ hk hr
 exact ⟨a,cap,rfl,hrow,by rw [add_block];simp [blkOf]⟩
theorem st_elemB {α:Type} {E:R α} {M:List Nat} {P:Program} {d:Option Tmp} {r:KR} {K:Env→World→Prop} {ρ:Env} {w:World} {v:Value} {l:List α} {size:Nat} {x i:Operand} {kd:IntKind} {n:Nat} (hx:ev ρ x=v) (hi:ev ρ i=.int kd (n:Nat)) (hs:SlR E M w v l) (hk:size=E.k) (hr:n<l.length)
  (k:∀ad cs,Row w ad cs→E.rel M w cs l[n]→ad.block∉M→regK P r K (put ρ d (.pointer (some ad))) w):regK P (.cons ⟨d,.indexAddr size x i,none⟩ r) K ρ w:=by
 obtain ⟨css,h1,h2,h3⟩:=hs
 have hr':n<css.length:=by rw [h2.length];exact hr
 subst hk
 obtain ⟨a,cap,rfl,hrow,hb⟩:=Sl.at_b h1 E.pos hr'
 refine st_fix rfl (by simp [KOp.fix,hx,hi,hr'];rfl) (k _ _ ?_ (h2.get n hr' hr) (h3 (by omega) _ hb))
 have:=(vecE E.k E.pos).flat_at css n hr'
 rw [this] at hrow;exact hrow
end Go.K
namespace Go.Proofs.YtbidkcjendncaaaGreat
open Go Go.K
attribute [local irreducible] regK codeK retK KOp.wp K.Spec u32 leS vnS str zero32 checkT grantB encT idT sizeT applyL
set_option maxHeartbeats 8000000 in
theorem disc13_spec {M:List Nat} {bv:Value} {ch:Ch} (w:World) (hv:SlR (listR txR) M w bv ch.bs) (hl:ch.bs.length≤1000) (ht:ch.top≤1000) (hM:∀y∈M,y<w.heap.size):
  K.Spec Tryz.prog F.kedgeref13_Disconnect [.agg #[bv,.int .i64 (ch.top:Nat)]] w fun r w'=>∃bv' tv,r=.tuple #[.agg #[bv',.int .i64 ((discC ch).top:Nat)],tv,.int .i64 (discE ch)]∧SlR (listR txR) M w' bv' (discC ch).bs∧(discE ch=0→SlR txR M w' tv (ch.bs.getD (ch.bs.length - 1) []))∧(discE ch≠0→tv=.slice none 0 0)∧Ext w w':=by
 obtain ⟨q1,q2,ebv⟩:=hv.form
 have ov:bv.oneCell'=true:=by rw [ebv];rfl
 refine s_kedgeref13_Disconnect rfl ?_
 unfold k_kedgeref13_Disconnect
 refine oy ?_
 repeat (first|(refine zD (d:=some 1) (cs:= [bv,.int .i64 (ch.top:Nat)]) rfl (by rw [ebv];rfl) (fun b1 w1 x1 a1 (r1:Row w1 ⟨b1,0,none⟩ [bv,.int .i64 (ch.top:Nat)]) hb1=>?_))|(refine zH (d:=some 2) (fun b2 w2 x2 a2 hb2=>?_))|(first|refine go1 ?_|refine zg (fun _ _=>?_)|refine zi (fun _ _=>?_)))
 refine zG (d:=some 10) (E:=listR txR) (M:=M) (l:=ch.bs) rfl (SlR.ext hv (by exact fx)) ?_
 have x02:Ext w w2:=x1.trans x2
 have hb02:w.heap.size≤b2:=Nat.le_trans x1.size hb2
 have s02:=x02.size
 have s1:=x1.size
 have s2:=x2.size
 have l1:=a1.lt
 have l2:=a2.lt
 have r12:=Row.ext x2 r1
 by_cases q0:ch.bs.length=0
 ·have e0:discE ch=8:=by unfold discE;rw [if_pos q0]
  have e1:discC ch=ch:=by unfold discC;rw [if_pos (by rw [e0];decide)]
  rw [e0,e1]
  repeat (first|(refine st_fixV (d:=some 12) (.bool true) rfl (congrArg (fun b=>some (Value.bool b)) (decide_eq_true (by omega))) ?_)|(first|refine go1 ?_|refine zg (fun _ _=>?_)|refine zi (fun _ _=>?_)))
  refine st_setN (w0:=w) (n:=2) (vs:= [bv,.int .i64 (ch.top:Nat)]) x02 hb02 a2 rfl rfl rfl rfl (by simp [ov];rfl) (fun w14 x14 c14 a14 r14=>?_)
  repeat (first|refine go1 ?_|refine zg (fun _ _=>?_)|refine zi (fun _ _=>?_))
  exact x_ret (ret3 (rv_cell r14 rfl rfl) rv_tmp rv_tmp) ⟨bv,_,rfl,hv.ext x14,fun q=>absurd q (by decide),fun _=>rfl,x14⟩
 ·by_cases q1:ch.bs.length+6≤ch.top
  ·have e0:discE ch=18:=by unfold discE;rw [if_neg q0,if_pos q1]
   have e1:discC ch=ch:=by unfold discC;rw [if_pos (by rw [e0];decide)]
   rw [e0,e1]
   repeat (first|(refine st_fixV (d:=some 12) (.bool false) rfl (congrArg (fun b=>some (Value.bool b)) (decide_eq_false (by omega))) ?_)|(refine st_fixV (d:=some 18) (.bool true) rfl (congrArg (fun b=>some (Value.bool b)) (decide_eq_true (by omega))) ?_)|(first|refine go1 ?_|refine zg (fun _ _=>?_)|refine zi (fun _ _=>?_)))
   refine st_setN (w0:=w) (n:=2) (vs:= [bv,.int .i64 (ch.top:Nat)]) x02 hb02 a2 rfl rfl rfl rfl (by simp [ov];rfl) (fun w14 x14 c14 a14 r14=>?_)
   repeat (first|refine go1 ?_|refine zg (fun _ _=>?_)|refine zi (fun _ _=>?_))
   exact x_ret (ret3 (rv_cell r14 rfl rfl) rv_tmp rv_tmp) ⟨bv,_,rfl,hv.ext x14,fun q=>absurd q (by decide),fun _=>rfl,x14⟩
  ·have e0:discE ch=0:=by unfold discE;rw [if_neg q0,if_neg q1]
   have e1:discC ch=⟨ch.bs.take (ch.bs.length - 1),ch.top⟩:=by unfold discC;rw [if_neg (by simp [e0])]
   have hkl1:ch.bs.length - 1<ch.bs.length:=by omega
   have egl:ch.bs.getD (ch.bs.length - 1) []=ch.bs[ch.bs.length - 1]:=by rw [List.getD_eq_getElem?_getD,List.getElem?_eq_getElem hkl1];rfl
   rw [e0,e1,egl]
   repeat (first|(refine st_fixV (d:=some 12) (.bool false) rfl (congrArg (fun b=>some (Value.bool b)) (decide_eq_false (by omega))) ?_)|(refine st_fixV (d:=some 18) (.bool false) rfl (congrArg (fun b=>some (Value.bool b)) (decide_eq_false (by omega))) ?_)|(refine zH (d:=some 6) (fun b12 w5 x5 a5 hb12=>?_))|(first|refine go1 ?_|refine zg (fun _ _=>?_)|refine zi (fun _ _=>?_)))
   have l12:=a5.lt
   have s45:=x5.size
   have hMl:∀y∈b12::b2::M,y<w5.heap.size:=fun y hy=>by
    simp only [List.mem_cons] at hy
    rcases hy with rfl|rfl|hy
    ·exact l12
    ·omega
    ·have:=hM y hy;omega
   have hM4:∀y∈b12::b2::M,y∈M∨w.heap.size≤y:=fun y hy=>by
    simp only [List.mem_cons] at hy
    rcases hy with rfl|rfl|hy
    ·exact .inr (by omega)
    ·exact .inr hb02
    ·exact .inl hy
   refine c_loopV (fun (p:Nat × Value) w'=>Chg [b12] w5 w'∧p.1≤ch.bs.length - 1∧OwnR (listR txR) T.L_api_Tx w5.heap.size (b12::b2::M) w' p.2 (ch.bs.take p.1)∧At w' b12 (.cells [p.2,.int .i64 0].toArray T.kedgeref13_Chain (0,0))) (fun p=> [(1,.pointer (some ⟨b1,0,none⟩)),(2,.pointer (some ⟨b2,0,none⟩)),(5,.int .i64 (ch.bs.length:Nat)),(6,.pointer (some ⟨b12,0,none⟩)),(7,.int .i64 (p.1:Nat))]) (fun p=>ch.bs.length - p.1) (0,.slice none 0 0) ⟨rfl,rfl,rfl,rfl,rfl,trivial⟩ ⟨Chg.refl _ _,by simp,OwnR.nil _ _ _ _,a5⟩ ?_
   rintro ⟨k,dv⟩ ρ w6 ⟨c6,hk,o6,a6⟩
   simp only at hk o6 a6
   dsimp only
   have x06:Ext w w6:=(Ext.chg (x02.trans x5) c6).mono (fun y hy=>.inr (by simp at hy;omega))
   have x26:Ext w2 w6:=(Ext.chg x5 c6).mono (fun y hy=>.inr (by simp at hy;omega))
   have r16:=Row.ext x26 r12
   have r66:=Row.of_at a6
   have odv:dv.oneCell'=true:=o6.one
   have hlen:(ch.bs.take k).length=k:=by rw [List.length_take];omega
   have ob:=o6.base
   have s56:=c6.size
   have hdM:∀y∈blkOf dv++b12::b2::M,y∈M∨w.heap.size≤y:=fun y hy=>by
    rcases List.mem_append.1 hy with hy|hy
    ·exact .inr (by have:=ob y hy;omega)
    ·exact hM4 y hy
   repeat (first|refine go1 ?_|refine zg (fun _ _=>?_)|refine zi (fun _ _=>?_))
   refine zL (x:=.tmp 23) (p:=((k:Nat):Int)<((ch.bs.length:Nat):Int) - 1) rfl (fun h6=>?_) (fun h6=>?_)
   ·have hkl:k<ch.bs.length:=by omega
    repeat (first|(refine zi (fun w7 x7=>?_))|(refine st_joinV (b:=.cons ⟨some 34,_,_⟩ _) (fun (p:Nat × Value) w'=>Ext w6 w'∧At w' p.1 (.cells [p.2].toArray T.L_api_Tx (0,0))∧SlR txR (blkOf dv++b12::b2::M) w' p.2 ch.bs[k]) (fun p=> [(1,.pointer (some ⟨b1,0,none⟩)),(2,.pointer (some ⟨b2,0,none⟩)),(5,.int .i64 (ch.bs.length:Nat)),(6,.pointer (some ⟨b12,0,none⟩)),(7,.int .i64 (k:Nat)),(27,dv),(33,.slice (some ⟨p.1,0,none⟩) 1 1)]) ?_ ?_)|(first|refine go1 ?_|refine zg (fun _ _=>?_)|refine zi (fun _ _=>?_)))
    ·repeat' (first|(refine zB ?_ ?_)|(refine st_elemR (d:=some 31) (E:=listR txR) (M:=blkOf dv++b12::b2::M) rfl rfl (n:=k) (l:=ch.bs) (SlR.ext (hv.step x06 (by simp) hdM) (by exact fx)) rfl hkl (fun ad cs r4 he=>?_);obtain ⟨xv,rfl,hxv⟩:=he;obtain ⟨_,_,exv⟩:=hxv.form)|(refine zI (d:=some 33) (cs:= [xv]) (by rw [exv];rfl) (fun b8 w8 x8 a8 hb8=>?_))|(first|refine go1 ?_|refine zg (fun _ _=>?_)|refine zi (fun _ _=>?_)))
     all_goals exact ⟨(b8,xv),⟨rfl,rfl,rfl,rfl,rfl,rfl,rfl,trivial⟩,by exact fx,a8,hxv.ext (by exact fx)⟩
    ·rintro ⟨b8,xv⟩ ρ w8 ⟨x8,a8,hxv⟩
     dsimp only at x8 a8 hxv ⊢
     refine st_append1 (d:=some 34) (E:=listR txR) (M:=b12::b2::M) (v:=dv) (cs:= [xv]) (a:=ch.bs[k]) rfl rfl (o6.ext x8) (Nat.le_trans s56 x8.size) rfl rfl a8 ⟨xv,rfl,hxv⟩ (by omega) (fun v9 w9 o9 c9 hb9=>?_)
     have h12n:b12∉blkOf dv:=fun h=>by have:=ob _ h;omega
     have a9:=(a6.ext x8).chg c9 h12n
     have o9b:=o9.base
     repeat (first|refine go1 ?_|refine zg (fun _ _=>?_)|refine zi (fun _ _=>?_))
     refine st_store (b:=b12) (o:=0) (cur:= [dv,.int .i64 0]) rfl rfl o9.one a9 (Nat.le_of_ble_eq_true rfl) (fun w10 c10 a10=>?_)
     have o10:=o9.step c10 (M':=b12::b2::M) (fun y hy=>by
      simp at hy;subst hy
      exact ⟨fun h=>by have:=o9b _ h;omega,.inl (by simp)⟩) (fun y hy=>.inl hy)
     have c510:Chg [b12] w5 w10:=((c6.trans (Chg.trans x8 c9)).trans c10).mono (fun y hy=>by
      simp at hy
      rcases hy with rfl|hy|rfl
      ·exact .inl (by simp)
      ·exact .inr (ob y hy)
      ·exact .inl (by simp))
     repeat (first|refine go1 ?_|refine zg (fun _ _=>?_)|refine zi (fun _ _=>?_))
     exact ⟨(k+1,v9),⟨rfl,rfl,rfl,rfl,rfl,trivial⟩,⟨c510,by simp only;omega,by simp only;rw [List.take_succ_eq_append_getElem hkl];exact o10,a10⟩,by simp only;omega⟩
   ·have ekk:k=ch.bs.length - 1:=by omega
    subst ekk
    have h12v:b12∉blkOf dv:=fun h=>by have:=ob _ h;omega
    have h2v:b2∉blkOf dv:=fun h=>by have:=ob _ h;omega
    repeat (first|refine go1 ?_|refine zg (fun _ _=>?_)|refine zi (fun _ _=>?_))
    refine st_store (b:=b12) (o:=1) (cur:= [dv,.int .i64 0]) rfl rfl rfl a6 (Nat.le_of_ble_eq_true rfl) (fun w11 c11 a11=>?_)
    have a11:At w11 b12 (.cells [dv,.int .i64 (ch.top:Nat)].toArray T.kedgeref13_Chain (0,0)):=a11
    have o11:=o6.step c11 (M':=b12::b2::M) (fun y hy=>by simp at hy;subst hy;exact ⟨h12v,.inl (by simp)⟩) (fun y hy=>.inl hy)
    have a211:=(At.ext x26 a2).chg c11 (by simp;omega)
    have r1211:=Row.of_at a11
    have r111:=Row.chg c11 r16 (by simp;omega)
    have x11:Ext w w11:=(Ext.chg (x02.trans x5) (c6.trans c11)).mono (fun y hy=>.inr (by simp at hy;omega))
    have off:∀y∈b12::b2::M,y∉blkOf dv:=fun y hy hv=>by have:=ob y hv;have:=hMl y hy;omega
    have hMb:∀y∈b12::b2::M,y∈M∨w.heap.size≤y:=hM4
    have hv11:SlR (listR txR) (b12::b2::M) w11 bv ch.bs:=hv.step x11 (by simp) hM4
    clear x1 x2 x02 x06 x26 x5 c6 c11 a1 r1 r12 r16
    have m2:b2∈b12::b2::M:=by simp
    repeat' (first|(refine zg (fun w12 x12=>?_))|(refine zB ?_ ?_)|(refine st_predN (d:=some 43) (n:=ch.bs.length) rfl (by omega) (by omega) ?_)|(refine st_elemB (d:=some 44) (E:=listR txR) (M:=b12::b2::M) rfl rfl (n:=ch.bs.length - 1) (l:=ch.bs) (hv.step (show Ext w _ by exact fx) (by simp) hM4) rfl hkl1 (fun ad cs r4 he hab=>?_);obtain ⟨tv,rfl,hxv⟩:=he)|(refine st_setN (w0:=w) (n:=2) (vs:= [dv,.int .i64 (ch.top:Nat)]) (show Ext w _ by exact fx) hb02 (At.ext (show Ext w11 _ by exact fx) a211) rfl rfl rfl rfl (by simp [odv];rfl) (fun w14 x14 c14 a14 r14=>?_);have r114:=Row.chg c14 (Row.ext (show Ext w11 _ by exact fx) r111) (by simp;omega);have o14:=(o11.ext (show Ext w11 _ by exact fx)).step c14 (M':=b12::b2::M) (fun y hy=>by simp at hy;subst hy;exact ⟨h2v,.inl (by simp)⟩) (fun y hy=>.inl hy);(first|have r5:=Row.chg c14 r4 (fun h=>by simp at h;rw [h] at hab;exact hab m2)|skip);(first|have hxv:=hxv.step c14 (M':=b12::b2::M) (fun y hy=>.inl (by simp at hy;simp [hy])) (fun y hy=>.inl hy)|skip))|(first|refine go1 ?_|refine zg (fun _ _=>?_)|refine zi (fun _ _=>?_)))
    all_goals exact x_ret (ret3 (rv_cell r14 rfl rfl) rv_tmp rv_tmp) ⟨dv,tv,rfl,(o14.sl off).sub (fun y hy=>.inl (by simp [hy])),fun _=>hxv.sub (fun y hy=>.inl (by simp [hy])),fun q=>absurd rfl q,x14⟩
end Go.Proofs.YtbidkcjendncaaaGreat
end
section
namespace Go.K
open Go Go.Proofs.YtbidkcjendncaaaGreat
def feeI (l:List En) (t:Tx) (h:Int):Int:=if grantB t then sumV (values t) else -(feeP (aget l) t h).1
def reckL (h:Int):Nat→List Tx→Int→List En→Int
 |_, [],s,_=>s
 |i,t::ts,s,l=>reckL h (i+1) ts (s+feeI l t h) (oneL l t i h).1
theorem reck_tot {l0:List En} {h:Int}:∀(txs:List Tx) (i:Nat) {m:List En} (s:Int),CG m→(runL l0 h i txs m).2.1=0→reckL h i txs s m=s+tot (runL l0 h i txs m).1 - tot m
 | [],i,m,s,_,_=>by simp only [reckL,runL];omega
 |t::ts,i,m,s,hm,h0=>by
  unfold runL at h0 ⊢
  split at h0
  ·rename_i hc;exact absurd h0 hc
  ·rename_i hc
   rw [if_neg hc]
   have hc:(oneL m t i h).2.1=0:=by simpa using hc
   have:=reck_tot ts (i+1) (s+feeI m t h) (oneL_cg hm t i h) h0
   unfold reckL
   rw [this,one_tot hm hc]
   unfold feeI
   split<;>omega
def reckOk (h:Int) (txs:List Tx) (s0:Int) (l0:List En) (k:Nat) (s:Int) (l:List En):Prop:=reckL h 0 txs s0 l0=reckL h k (txs.drop k) s l
theorem reckOk_zero {h:Int} {txs:List Tx} {s0:Int} {l0:List En}:reckOk h txs s0 l0 0 s0 l0:=rfl
theorem reckOk_next {h:Int} {txs:List Tx} {s0 s:Int} {l0 l:List En} {k:Nat} (hk:k<txs.length) (ho:reckOk h txs s0 l0 k s l):reckOk h txs s0 l0 (k+1) (s+feeI l txs[k] h) (oneL l txs[k] k h).1:=by
 unfold reckOk at ho ⊢
 rw [ho,List.drop_eq_getElem_cons hk,reckL]
theorem reckOk_end {h:Int} {txs:List Tx} {s0 s:Int} {l0 l:List En} {k:Nat} (hk:txs.length≤k) (ho:reckOk h txs s0 l0 k s l):reckL h 0 txs s0 l0=s:=by
 unfold reckOk at ho
 rw [ho,List.drop_eq_nil_of_le hk];rfl
theorem reck_conn {ch:Ch} {txs:List Tx} (hl:ch.bs.length<1000000) (h0:(connE ch txs).1=0):reckL ((ch.bs.length+1:Nat):Int) 0 txs (tot (coinsC ch.bs)) (coinsC ch.bs)=tot (coinsC (connC ch txs).bs):=by
 have e:connC ch txs=⟨ch.bs++ [txs],max ch.top (ch.bs.length+1)⟩:=by
  unfold connC
  rw [if_neg (by rw [h0];decide)]
 rw [e]
 simp only
 rw [coinsC_snoc]
 unfold connE at h0
 have e2:applyL (coinsC ch.bs) txs ((ch.bs.length+1:Nat):Int)=runL (coinsC ch.bs) ((ch.bs.length+1:Nat):Int) 0 txs (coinsC ch.bs):=by
  unfold applyL
  rw [if_neg (by omega)]
 rw [e2] at h0 ⊢
 rw [reck_tot txs 0 (m:=coinsC ch.bs) _ (coinsN_cg _ _) h0]
 omega
theorem sumV_bnd (l:List Int):0≤sumV l∧sumV l≤2100000000000000:=by
 unfold sumV
 cases h:sumOk 0 l with
 |none=>simp
 |some t=>exact (goodB_iff _).1 (sumOk_good l 0 t (by decide) h)
theorem feeP_bnd (f:Pt→Option Cn) (t:Tx) (h:Int):0≤(feeP f t h).1∧(feeP f t h).1≤2100000000000000:=by
 have h1:=sumV_bnd (values t)
 have h2:=sumV_bnd (t.ins.map (inV f))
 unfold feeP
 split
 ·simp
 ·split
  ·simp
  ·split
   ·simp
   ·split
    ·simp
    ·split
     ·simp
     ·simp only;omega
theorem feeI_bnd (l:List En) (t:Tx) (h:Int): -2100000000000000≤feeI l t h∧feeI l t h≤2100000000000000:=by
 have h1:=sumV_bnd (values t)
 have h2:=feeP_bnd (aget l) t h
 unfold feeI
 split<;>omega
def sumsL (bs:List (List Tx)):List Int:=(List.range (bs.length+1)).map fun k=>tot (coinsN bs k)
theorem sumsL_len (bs:List (List Tx)):(sumsL bs).length=bs.length+1:=by simp [sumsL]
theorem sumsL_snoc (bs:List (List Tx)) (x:List Tx):sumsL (bs++ [x])=sumsL bs++ [tot (coinsC (bs++ [x]))]:=by
 unfold sumsL
 rw [List.length_append,List.length_singleton,List.range_succ,List.map_append]
 congr 1
 ·refine List.map_congr_left fun k hk=>?_
  have hk:=List.mem_range.1 hk
  rw [coinsN_more _ _ k (by omega)]
 ·simp [coinsC]
theorem sumsL_take {bs:List (List Tx)} {n:Nat} (h:n≤bs.length):sumsL (bs.take n)=(sumsL bs).take (n+1):=by
 unfold sumsL
 rw [←List.map_take,List.take_range,List.length_take,Nat.min_eq_left h,Nat.min_eq_left (by omega)]
 refine List.map_congr_left fun k hk=>?_
 have hk:=List.mem_range.1 hk
 rw [coinsN_take _ k _ (by omega) h]
theorem sumsL_last (bs:List (List Tx)):(sumsL bs)[bs.length]'(by rw [sumsL_len];omega)=tot (coinsC bs):=by
 unfold sumsL
 rw [List.getElem_map,List.getElem_range];rfl
theorem back_disc {bs:List (List Tx)} {j n:Nat} (hj:j<bs.length) (h6:j<6) (hn:n=bs.length):discE ⟨bs.take (n - j),n⟩=0∧discC ⟨bs.take (n - j),n⟩=⟨bs.take (n - (j+1)),n⟩:=by
 have hl:(bs.take (n - j)).length=n - j:=by rw [List.length_take];omega
 have e0:discE ⟨bs.take (n - j),n⟩=0:=by
  unfold discE
  simp only [hl]
  rw [if_neg (by omega),if_neg (by omega)]
 refine ⟨e0,?_⟩
 unfold discC
 rw [if_neg (by simp [e0])]
 simp only [hl,List.take_take]
 congr 2;omega
theorem again_conn {bs:List (List Tx)} {T k:Nat} (h:ChOk ⟨bs,T⟩) (hk:k<bs.length):(connE ⟨bs.take k,T⟩ (bs.getD k [])).1=0∧connC ⟨bs.take k,T⟩ (bs.getD k [])=⟨bs.take (k+1),T⟩:=by
 have hl:(bs.take k).length=k:=by rw [List.length_take];omega
 have e0:(connE ⟨bs.take k,T⟩ (bs.getD k [])).1=0:=by
  unfold connE
  simp only [hl]
  rw [coinsC_take (by omega)]
  exact h.1 k hk
 refine ⟨e0,?_⟩
 have hT:=h.2
 simp only at hT
 unfold connC
 rw [if_neg (by rw [e0];decide)]
 simp only [hl]
 have e:bs.take (k+1)=bs.take k++ [bs.getD k []]:=by
  rw [List.take_succ_eq_append_getElem hk,List.getD_eq_getElem?_getD,List.getElem?_eq_getElem hk];rfl
 rw [e]
 congr 1;omega
end Go.K
end
section
namespace Go.K
open Go
section
variable {α:Type} {E:Enc α} {t:TypeId} {B:Nat} {w:World}
theorem Own.form' {v:Value} {l:List α} (h:Own E t B w v l):(v=.slice none 0 0∧l= [])∨∃b cap,v=.slice (some ⟨b,0,none⟩) l.length cap∧l.length≤cap:=by
 rcases h with ⟨rfl,rfl⟩|⟨b,cap,junk,rfl,hB,hat,hln⟩
 ·exact .inl ⟨rfl,rfl⟩
 ·refine .inr ⟨b,cap,rfl,?_⟩
  rw [List.length_append,Enc.flat_length] at hln
  have h3:l.length*E.k≤cap*E.k:=by omega
  exact Nat.le_of_mul_le_mul_right h3 E.pos
theorem flat_splitE (l:List α) (n:Nat):E.flat l=E.flat (l.take n)++E.flat (l.drop n):=by
 conv=>lhs;rw [←List.take_append_drop n l]
 unfold Enc.flat
 rw [List.flatMap_append]
theorem Own.cut {b:Nat} {len cap n:Nat} {l:List α} (h:Own E t B w (.slice (some ⟨b,0,none⟩) len cap) l) (hn:n≤l.length):Own E t B w (.slice (some ⟨b,0,none⟩) n cap) (l.take n):=by
 rcases h with ⟨e, -⟩|⟨b',cap',junk,e,hB,hat,hln⟩
 ·cases e
 ·simp only [Value.slice.injEq,Option.some.injEq,Addr.mk.injEq,and_true] at e
  obtain ⟨rfl, -,rfl⟩:=e
  refine .inr ⟨b,cap,E.flat (l.drop n)++junk,?_,hB,?_,?_⟩
  ·rw [List.length_take,Nat.min_eq_left hn]
  ·rw [←List.append_assoc,←flat_splitE];exact hat
  ·rw [←List.append_assoc,←flat_splitE];exact hln
end
end Go.K
end
