/- Contracts: applying a block. The engine, part 24: what lies in a block by what it holds: a transaction's data aren't in a block that holds a transaction. Contracts: a chain, a block connected. Contracts: a chain, its last block taken back. Plain: what the document fixes of chains. Contracts: a grant; what the document fixes of chains. Contracts: what the document fixes of chains. Contracts: errors -/
import Derived.Test.YtbidkcjendncaaaGreatDoorChecked
import Derived.WalkKit
import Derived.LaidEql
import Derived.Lib.IfaceEq
import Derived.Stop.Asserts
import Derived.RowKitTokens
import Derived.Test.YtbidkcjendncaaaGreatDoorDa22
set_option linter.unusedVariables false
set_option linter.unusedSimpArgs false
section
namespace Go.Proofs.YtbidkcjendncaaaGreatDoor
open Go Go.K
attribute [local irreducible] regK codeK retK KOp.wp K.Spec u32 leS vnS str zero32 checkT grantB encT idT sizeT inE feeP mayL payL oneL takeAll refCoin refTake refPut refPutCode refTakeCode lessL outsL insL
def ErrA (w:World) (v:Value) (c a i:Int):Prop:=c=0∧v=.nilIface∨c≠0∧(v=errno c∧a= -1∧i= -1∨0≤a∧∃b u,v=.iface T.P_api_Fault (.pointer (some ⟨b,0,none⟩))∧At w b (.cells [.int .i64 a,u].toArray T.api_Fault (0,0))∧ErrR w 1 u c i)
theorem ErrR.off {w w':World} {b6:Nat} {z:Array Value} {t:TypeId} (ha:At w b6 (.cells z t (0,0))) (ht:t≠T.api_Fault) (cc:Chg [b6] w w'):∀{d:Nat} {v:Value} {c a:Int},ErrR w d v c a→ErrR w' d v c a
 |0,_,_,_,h=>h
 |_+1,_,_,_,.inl h=>.inl (ErrR.off ha ht cc h)
 |_+1,_,_,_,.inr ⟨h1,h2,b,u,a',h3,h4,h5⟩=>.inr ⟨h1,h2,b,u,a',h3,h4.chg cc (by
   simp only [List.mem_singleton]
   intro e
   subst e
   have:=h4.inj ha
   simp only [Obj.cells.injEq] at this
   exact ht this.2.1.symm),ErrR.off ha ht cc h5⟩
theorem outsB_take (txs:List Tx) (k:Nat):outsB (txs.take k)≤outsB txs:=by
 unfold outsB
 rw [List.map_take]
 have:=List.sum_append_nat (l₁:=(txs.map fun t=>t.outs.length).take k) (l₂:=(txs.map fun t=>t.outs.length).drop k)
 rw [List.take_append_drop] at this
 omega
theorem outsB_next {txs:List Tx} {k:Nat} (h:k<txs.length):outsB (txs.take (k+1))=outsB (txs.take k)+txs[k].outs.length:=by
 unfold outsB
 rw [List.take_succ_eq_append_getElem h,List.map_append,List.sum_append_nat];simp
set_option maxHeartbeats 4000000 in
theorem bapply_spec {b mb:Nat} {M:List Nat} {v:Value} {txs:List Tx} {l:List En} (h:Int) (w:World) (hS:SetP T.coins_Set w b mb l) (hg:CG l) (hsc:SC l) (hb:b∈M) (hmb:mb∈M) (hM:∀y∈M,y<w.heap.size) (hx:SlR txR M w v txs) (hs:∀t∈txs,t.Sm) (hn:l.length+outsB txs≤80000) (hk0:txs.length≤1000):
  K.Spec Tryz.prog F.block_Apply [.pointer (some ⟨b,0,none⟩),v,.int .i64 h] w fun r w'=>∃sv mv e,r=.tuple #[.agg #[sv,mv],e]∧ErrA w' e (applyL l txs h).2.1 (applyL l txs h).2.2.1 (applyL l txs h).2.2.2∧SetP T.coins_Set w' b mb (applyL l txs h).1∧
   ((applyL l txs h).2.1=0→SlE entE w' sv (lessL l (applyL l txs h).1)∧SlE entE w' mv (lessL (applyL l txs h).1 l)∧∀y,y∈blkOf sv∨y∈blkOf mv→w.heap.size≤y)∧((applyL l txs h).2.1≠0→sv=.slice none 0 0∧mv=.slice none 0 0)∧Chg [b,mb] w w':=by
 have hlt:=hS.lt
 have hbmb:=hS.ne
 refine s_block_Apply rfl ?_
 unfold k_block_Apply
 refine oy ?_
 by_cases hr:0≤h∧h≤1000000
 ·have eA:applyL l txs h=runL l h 0 txs l:=by unfold applyL;rw [if_neg (by omega)]
  rw [eA]
  repeat' (first|(refine zH (d:=some 6) (fun b6 w1 x1 a1 hb6=>?_))|(refine st_fixV (d:=some 20) (.bool false) rfl (congrArg (fun b=>some (Value.bool b)) (decide_eq_false (by omega))) ?_)|(refine st_fixV (d:=some 23) (.bool false) rfl (congrArg (fun b=>some (Value.bool b)) (decide_eq_false (by omega))) ?_)|(refine zC (d:=some 28) rfl (pcopy_spec _ (hS.ext (by exact fx))) ?_;rintro _ w2 ⟨nb,nmb,rfl,N2,hnb,hnmb,x2⟩)|(refine zG (d:=some 30) (E:=txR) (M:=M) (l:=txs) rfl (SlR.ext hx (by exact fx)) ?_)|(first|refine go1 ?_|refine zg (fun _ _=>?_)|refine zi (fun _ _=>?_)))
  have s1:=x1.size
  have s2:=x2.size
  have l6:=a1.lt
  have x02:Ext w w2:=x1.trans x2
  have a62:=At.ext x2 a1
  have nin:∀y∈ [nb,nmb],w1.heap.size≤y:=by intro y hy;simp at hy;rcases hy with rfl|rfl<;>assumption
  have x02':Unit→Ext w w2:=fun _=>x02
  have nlt:=N2.lt
  refine c_loopV (fun (p:Nat × List En) w'=>Ext w w'∧Ext w1 w'∧p.1≤txs.length∧SetP T.coins_Set w' nb nmb p.2∧CG p.2∧SC p.2∧runOk l h txs p.1 p.2) (fun p=> [(0,.pointer (some ⟨b,0,none⟩)),(2,.int .i64 h),(6,.pointer (some ⟨b6,0,none⟩)),(8,.pointer (some ⟨nb,0,none⟩)),(29,v),(30,.int .i64 (txs.length:Nat)),(31,.int .i64 (p.1:Nat))]) (fun p=>txs.length - p.1) (0,l) ⟨rfl,rfl,rfl,rfl,rfl,rfl,rfl,trivial⟩ ⟨x02,x2,by simp,N2,hg,hsc,runOk_zero⟩ ?_
  rintro ⟨k,m⟩ ρ w3 ⟨x3,x13,hk,N3,g3,sc3,hok⟩
  simp only at hk N3 g3 sc3 hok
  dsimp only
  have a63:=At.ext x13 a1
  have s13:=x13.size
  repeat (first|refine go1 ?_|refine zg (fun _ _=>?_)|refine zi (fun _ _=>?_))
  refine zL (x:=.tmp 32) (p:=((k:Nat):Int)<((txs.length:Nat):Int)) rfl (fun h6=>?_) (fun h6=>?_)
  ·have hkl:k<txs.length:=by omega
   have hst:=hs _ (List.getElem_mem hkl)
   have hx3:SlR txR (nb::nmb::M) w3 v txs:=hx.step x3 (by simp) (fun y hy=>by
    simp only [List.mem_cons] at hy
    rcases hy with rfl|rfl|hy
    ·exact .inr (by omega)
    ·exact .inr (by omega)
    ·exact .inl hy)
   have x03':Unit→Ext w w3:=fun _=>x3
   have x13':Unit→Ext w1 w3:=fun _=>x13
   clear x3 x13 x02 x1 x2
   repeat (first|(refine st_elemR (d:=some 34) (E:=txR) (M:=nb::nmb::M) rfl rfl (n:=k) (l:=txs) hx3 rfl hkl (fun ad cs r4 he=>?_);obtain ⟨iv,ov,rfl,p1,p2,p3⟩:=id he)|(refine zH (d:=some 10) (fun b10 w4 x4 a4 hb10=>?_))|(first|refine go1 ?_|refine zg (fun _ _=>?_)|refine zi (fun _ _=>?_)))
   have o1:=p1.one
   have o2:=p2.one
   refine st_setN (w0:=w3) (n:=4) (vs:=txCs txs[k] iv ov) x4 hb10 a4 rfl rfl rfl rfl (by simp [txCs,o1,o2];exact ⟨rfl,rfl⟩) (fun w5 x5 c5 a5 r5=>?_)
   repeat (first|refine go1 ?_|refine zg (fun _ _=>?_)|refine zi (fun _ _=>?_))
   refine zC (d:=some 40) rfl (bapp_spec (M:=nb::nmb::M) (cs:=txCs txs[k] iv ov) (t:=txs[k]) (l:=m) k h _ (N3.ext x5) g3 sc3 (by simp) (by simp) (R.ext he x5) hst) ?_
   rintro e w6 ⟨he6,⟨m',N6,hm'⟩,c6⟩
   have x06:Ext w w6:=(Ext.chg ((x03' ()).trans x5) c6).mono (fun y hy=>.inr (by have:=nin y hy;omega))
   have x16:Ext w1 w6:=(Ext.chg ((x13' ()).trans x5) c6).mono (fun y hy=>.inr (nin y hy))
   clear x4 x5 a4 c5 a5 r5 c6 p1 p2 r4
   by_cases h0:(oneL m txs[k] k h).2.1=0
   ·obtain ⟨rfl, -⟩:=he6.nil_iff.1 h0
    repeat (first|refine go1 ?_|refine zg (fun _ _=>?_)|refine zi (fun _ _=>?_))
    exact ⟨(k+1,m'),⟨rfl,rfl,rfl,rfl,rfl,rfl,rfl,trivial⟩,⟨x06,x16,by simp only;omega,N6,by rw [hm' h0];exact oneL_cg g3 _ _ _,by rw [hm' h0];exact oneL_sc g3 sc3 _ _ _,by rw [hm' h0];exact runOk_next hkl hok h0⟩,by simp only;omega⟩
   ·obtain ⟨et,eu,rfl⟩:=he6.nil_iff.2 h0
    have eR:=runOk_bad hkl hok h0
    rw [eR]
    have a66:=At.ext x16 a1
    repeat (first|(refine st_build (d:=some 46) (cs:= [.int .i64 (k:Nat),.iface et eu]) rfl ?_)|(refine zD (d:=some 47) (cs:= [.int .i64 (k:Nat),.iface et eu]) rfl rfl (fun b8 w8 x8 a8 r8 hb8=>?_))|(first|refine go1 ?_|refine zg (fun _ _=>?_)|refine zi (fun _ _=>?_)))
    refine st_setN (w0:=w) (n:=2) (vs:= [.slice none 0 0,.slice none 0 0]) (x06.trans x8) (by omega) (At.ext x8 a66) rfl rfl rfl rfl rfl (fun w9 x9 c9 a9 r9=>?_)
    repeat (first|refine go1 ?_|refine zg (fun _ _=>?_)|refine zi (fun _ _=>?_))
    have l8:=a8.lt
    have h68:w1.heap.size≤b8:=Nat.le_trans x16.size hb8
    exact x_ret (ret2 (rv_cell r9 rfl rfl) rv_tmp) ⟨.slice none 0 0,.slice none 0 0,_,rfl,.inr ⟨h0,.inr ⟨(show (0:Int)≤((k:Nat):Int) by omega),b8,_,rfl,At.chg c9 a8 (by simp;omega),ErrR.off (At.ext x8 a66) (by decide) c9 (he6.ext x8)⟩⟩,hS.ext x9,fun q=>absurd q h0,fun _=>⟨rfl,rfl⟩,Chg.mono x9 (by simp)⟩
  ·have ek:txs.length≤k:=by omega
   have eR:=runOk_end ek hok
   rw [eR]
   have S3:=hS.ext x3
   have hlm:m.length≤80000:=by
    have:=applyL_len hg txs h
    rw [eA,eR] at this
    simp only at this;omega
   have x03':Unit→Ext w w3:=fun _=>x3
   have s03:=x3.size
   clear x3 x02 x1 x2
   repeat (first|refine go1 ?_|refine zg (fun _ _=>?_)|refine zi (fun _ _=>?_))
   refine zC (d:=some 52) rfl (bmiss_spec _ S3 N3 (by omega)) ?_
   rintro sv w4 ⟨osv,x4⟩
   repeat (first|refine go1 ?_|refine zg (fun _ _=>?_)|refine zi (fun _ _=>?_))
   refine zC (d:=some 55) rfl (bmiss_spec _ (N3.ext x4) (S3.ext x4) (by omega)) ?_
   rintro mv w5 ⟨omv,x5⟩
   have osv5:=osv.ext x5
   obtain ⟨q1,q2,hsv⟩:=osv5.sl.form
   obtain ⟨q3,q4,hmv⟩:=omv.sl.form
   have one1:sv.oneCell'=true:=by obtain ⟨_,_,e⟩:=osv5.sl.form;rw [e];rfl
   have one2:mv.oneCell'=true:=by obtain ⟨_,_,e⟩:=omv.sl.form;rw [e];rfl
   have hl1:=lessL_len l m
   have hl2:=lessL_len m l
   have bs1:=osv5.base
   have bs2:=omv.base
   have s34:=x4.size
   have s45:=x5.size
   repeat (first|(refine st_build (d:=some 56) (cs:= [sv,mv]) (by rw [hsv,hmv];rfl) ?_)|(refine zE (d':=12) (fun _=>rfl) rfl rfl (by show List.all [sv,mv] _=true;simp only [List.all_cons,List.all_nil,one1,one2];rfl) (fun b12 w6 x6 a12 (r12:Row w6 ⟨b12,0,none⟩ [sv,mv]) hb12=>?_))|(first|refine go1 ?_|refine zg (fun _ _=>?_)|refine zi (fun _ _=>?_)))
   have x36:Ext w3 w6:=x4.trans (x5.trans x6)
   have osv6:=osv5.ext x6
   have omv6:=omv.ext x6
   have off1:SlR enR [b,mb,b6] w6 sv (lessL l m):=osv6.sl.en fun y hy hm=>by
    have:=bs1 y hy
    simp at hm
    omega
   have off2:SlR enR [b,mb,b6] w6 mv (lessL m l):=omv6.sl.en fun y hy hm=>by
    have:=bs2 y hy
    simp at hm
    omega
   refine zC (d:=some 62) rfl (bswap_spec (l:=l) (out:=lessL l m) (inn:=lessL m l) _ (S3.ext x36) (off1.sub (fun y hy=>.inl (by simp at hy ⊢;omega))) (off2.sub (fun y hy=>.inl (by simp at hy ⊢;omega))) (by omega) (by omega)) ?_
   rintro _ w7 ⟨rfl,S7,c7⟩
   rw [swap_less hg g3] at S7
   have r127:Row w7 ⟨b12,0,none⟩ [sv,mv]:=Row.chg c7 r12 (by simp;omega)
   have a67:=At.chg c7 (At.ext x36 a63) (by simp;omega)
   have off17:=off1.step c7 (M':= [b6]) (fun y hy=>.inl (by simp at hy ⊢;omega)) (fun y hy=>.inl (by simp at hy ⊢;omega))
   have off27:=off2.step c7 (M':= [b6]) (fun y hy=>.inl (by simp at hy ⊢;omega)) (fun y hy=>.inl (by simp at hy ⊢;omega))
   have c07:Chg [b,mb] w w7:=(Chg.trans ((x03' ()).trans x36) c7).mono (by simp)
   clear x4 x5 x6 x36 c7 a12 r12 off1 off2 osv6 omv6 osv5 osv omv
   repeat (first|refine go1 ?_|refine zg (fun _ _=>?_)|refine zi (fun _ _=>?_))
   refine st_storeN0 (b:=b6) (vs:= [sv,mv]) rfl rfl rfl (by simp [one1,one2]) a67 rfl (fun w8 c8 a8=>?_)
   repeat (first|refine go1 ?_|refine zg (fun _ _=>?_)|refine zi (fun _ _=>?_))
   have S8:SetP T.coins_Set w8 b mb m:=S7.chg c8 (by simp;omega) (by simp;omega)
   have fin1:=off17.step c8 (M':= []) (fun y hy=>.inl hy) (by simp)
   have fin2:=off27.step c8 (M':= []) (fun y hy=>.inl hy) (by simp)
   refine x_ret (ret2 (rv_cell (Row.of_at a8) rfl rfl) rv_tmp) ⟨sv,mv,_,rfl,.inl ⟨rfl,rfl⟩,S8,fun _=>⟨fin1.en,fin2.en,fun y hy=>?_⟩,fun q=>absurd rfl q,?_⟩
   ·rcases hy with hy|hy
    ·have:=bs1 y hy;omega
    ·have:=bs2 y hy;omega
   ·refine (c07.trans c8).mono ?_
    intro y hy
    simp at hy ⊢
    omega
 ·have eA:applyL l txs h=(l,3, -1, -1):=by unfold applyL;rw [if_pos (by omega)]
  rw [eA]
  repeat' (first|(refine zH (d:=some 6) (fun b6 w1 x1 a1 hb6=>?_))|(refine zJ (t:=21) (p:=h<0) rfl (fun hh=>?_) (fun hh=>?_))|(refine zL (x:=.tmp 18) rfl (fun _=>?_) (fun h=>absurd (by omega) h))|(first|refine go1 ?_|refine zg (fun _ _=>?_)|refine zi (fun _ _=>?_)))
  all_goals
   refine st_setN (w0:=w) (n:=2) (vs:= [.slice none 0 0,.slice none 0 0]) x1 hb6 a1 rfl rfl rfl rfl rfl (fun w9 x9 c9 a9 r9=>?_)
   repeat (first|refine go1 ?_|refine zg (fun _ _=>?_)|refine zi (fun _ _=>?_))
   exact x_ret (ret2 (rv_cell r9 rfl rfl) rv_tmp) ⟨.slice none 0 0,.slice none 0 0,_,rfl,.inr ⟨(show (3:Int)≠0 by decide),.inl ⟨rfl,rfl,rfl⟩⟩,hS.ext x9,fun q=>absurd q (show ¬(3:Int)=0 by decide),fun _=>⟨rfl,rfl⟩,Chg.mono x9 (by simp)⟩
end Go.Proofs.YtbidkcjendncaaaGreatDoor
end
section
namespace Go.K
open Go
variable {α:Type} {E:R α} {M:List Nat} {w:World}
theorem cell_in {b:Nat} {z:List Value} {t:TypeId} {a:Addr} {v:Value} (ha:At w b (.cells z.toArray t (0,0))) (hb:a.block=b) (h:w.cell? a=some v):v∈z:=by
 unfold World.cell? at h
 unfold At at ha
 rw [hb,ha] at h
 simp only [List.getElem?_toArray] at h
 have h:a.spot=none∧z[a.off]? =some v:=by simpa using h
 exact List.mem_of_getElem? h.2
theorem SlR.off {b:Nat} {z:List Value} {t:TypeId} {v:Value} {l:List α} (h:SlR E M w v l) (ha:At w b (.cells z.toArray t (0,0))) (hE:∀cs x,E.rel M w cs x→∃u r,cs=u::r∧u∉z) (hs:∀cs x,E.rel M w cs x→E.rel (b::M) w cs x):SlR E (b::M) w v l:=by
 obtain ⟨css,h1,h2,h3⟩:=h
 refine ⟨css,h1,h2.mono fun c x hr=>hs _ _ hr,fun hp b' hb' hm=>?_⟩
 rcases List.mem_cons.1 hm with rfl|hm
 ·have hlen:=h2.length
  have hc:0<css.length:=by omega
  obtain ⟨n,base,cap,rfl, -,hrow⟩:=h1
  have hk:=E.pos
  have hfl:0<((vecE E.k E.pos).flat css).length:=by
   rw [Enc.flat_length]
   exact Nat.mul_pos hc E.pos
  obtain ⟨a,rfl,hr⟩:=hrow hfl
  obtain ⟨u,r,e,hu⟩:=hE _ _ (h2.get 0 hc (by omega))
  have h0:((vecE E.k E.pos).flat css)[0]? =some u:=by
   cases css with
   |nil=>simp at hc
   |cons c css=>
    simp only [List.getElem_cons_zero] at e
    simp only [Enc.flat,List.flatMap_cons]
    show (c.1++_)[0]? =some u
    rw [e];rfl
  have hcell:=hr 0 u h0
  refine hu (cell_in ha ?_ hcell)
  rw [add_block]
  simp only [blkOf,List.mem_singleton] at hb'
  exact hb'.symm
 ·exact h3 hp b' hb' hm
end Go.K
end
section
namespace Go.Proofs.YtbidkcjendncaaaGreatDoor
open Go Go.K
attribute [local irreducible] regK codeK retK KOp.wp K.Spec u32 leS vnS str zero32 checkT applyL encT idT sizeT
theorem ErrA.off {w w':World} {b6:Nat} {z:Array Value} {t:TypeId} (ha:At w b6 (.cells z t (0,0))) (ht:t≠T.api_Fault) (cc:Chg [b6] w w') {v:Value} {c a i:Int} (h:ErrA w v c a i):ErrA w' v c a i:=by
 rcases h with h|⟨h1,h|⟨h2,b,u,h3,h4,h5⟩⟩
 ·exact .inl h
 ·exact .inr ⟨h1,.inl h⟩
 ·refine .inr ⟨h1,.inr ⟨h2,b,u,h3,h4.chg cc ?_,ErrR.off ha ht cc h5⟩⟩
  simp only [List.mem_singleton]
  intro e
  subst e
  have:=h4.inj ha
  simp only [Obj.cells.injEq] at this
  exact ht this.2.1.symm
theorem ErrA.ext {w w':World} {v:Value} {c a i:Int} (h:ErrA w v c a i) (x:Ext w w'):ErrA w' v c a i:=by
 rcases h with h|⟨h1,h|⟨h2,b,u,h3,h4,h5⟩⟩
 ·exact .inl h
 ·exact .inr ⟨h1,.inl h⟩
 ·exact .inr ⟨h1,.inr ⟨h2,b,u,h3,h4.ext x,h5.ext x⟩⟩
theorem runL_bad {l0:List En} {h:Int}:∀(txs:List Tx) (i:Nat) (m:List En),(runL l0 h i txs m).2.1≠0→(runL l0 h i txs m).1=l0
 | [],_,_,h0=>absurd rfl h0
 |t::ts,i,m,h0=>by
  unfold runL at h0 ⊢
  split
  ·rfl
  ·rename_i hc
   rw [if_neg hc] at h0
   exact runL_bad ts (i+1) _ h0
theorem applyL_bad {l:List En} {txs:List Tx} {b:Int} (h0:(applyL l txs b).2.1≠0):(applyL l txs b).1=l:=by
 unfold applyL at h0 ⊢
 split
 ·rfl
 ·rename_i hc
  rw [if_neg hc] at h0
  exact runL_bad _ _ _ h0
end Go.Proofs.YtbidkcjendncaaaGreatDoor
end
section
namespace Go.K
open Go
section
variable {P:Program} {d:Option Tmp} {r:KR} {K:Env→World→Prop} {ρ:Env} {w:World}
theorem st_elemO {α:Type} {E:R α} {t:TypeId} {B:Nat} {M:List Nat} {v:Value} {l:List α} {size:Nat} {x i:Operand} {kd:IntKind} {n:Nat} (hx:ev ρ x=v) (hi:ev ρ i=.int kd (n:Nat)) (hs:OwnR E t B M w v l) (hk:size=E.k) (hr:n<l.length)
  (k:∀ad cs,Row w ad cs→E.rel (blkOf v++M) w cs l[n]→regK P r K (put ρ d (.pointer (some ad))) w):regK P (.cons ⟨d,.indexAddr size x i,none⟩ r) K ρ w:=by
 obtain ⟨css,h1,h2⟩:=hs
 have hr':n<css.length:=by rw [h2.length];exact hr
 exact st_elemE (E:=vecE E.k E.pos) hx hi h1.sl hk hr' fun ad hrow=>k ad _ hrow (h2.get n hr' hr)
end
end Go.K
namespace Go.Proofs.YtbidkcjendncaaaGreatDoor
open Go Go.K
attribute [local irreducible] regK codeK retK KOp.wp K.Spec u32 leS vnS str zero32 checkT applyL encT idT sizeT
end Go.Proofs.YtbidkcjendncaaaGreatDoor
end
section
namespace Go.K
open Go Go.Proofs.YtbidkcjendncaaaGreatDoor
def grT (h:Int) (outs:List TOut):Tx:=⟨2, [⟨baseP,4294967295, []⟩],outs,h⟩
def o5:List TOut:= [⟨5,⟨#[]⟩⟩]
def gw (h:Nat):Tx:=grT (h:Nat) o5
theorem gw_sm (h:Nat):(gw h).Sm:=⟨by simp [gw,grT],by simp [gw,grT,o5],by simp [gw,grT]⟩
end Go.K
end
section
namespace Go.Proofs.YtbidkcjendncaaaGreatDoor
open Go Go.K
attribute [local irreducible] regK codeK retK KOp.wp K.Spec u32 leS vnS str zero32 checkT applyL encT idT sizeT
set_option maxHeartbeats 1000000 in
theorem grant_spec {M:List Nat} {v:Value} {outs:List TOut} (h:Int) (w:World) (hh:0≤h∧h≤1000000) (ho:SlR outR M w v outs) (hn:outs.length≤1000) (hM:∀y∈M,y<w.heap.size):K.Spec Tryz.prog F.tx_Grant [.int .i64 h,v] w fun r w'=>∃cs,r=.agg cs.toArray∧txO w.heap.size M w' cs (grT h outs)∧Ext w w':=by
 have ew:IntKind.u32.wrap h=h:=by show h%4294967296=h;omega
 refine s_tx_Grant rfl ?_
 unfold k_tx_Grant
 refine oy ?_
 repeat (first|(refine zH (d:=some 4) (fun b4 w1 x1 a1 hb4=>?_))|(refine zC (d:=some 5) rfl (base_spec _) ?_;rintro _ w2 ⟨rfl,x2⟩)|(refine st_build (d:=some 6) (cs:=inCs ⟨baseP,4294967295, []⟩ (.slice none 0 0)) rfl ?_)|(refine zI (d:=some 7) (cs:=inCs ⟨baseP,4294967295, []⟩ (.slice none 0 0)) rfl (fun b7 w3 x3 a3 hb7=>?_))|(refine zC (d:=some 9) rfl (cloneO_spec (M:=b4::b7::M) _ (ho.step (show Ext w _ by exact fx) (by simp) (fun y hy=>by simp only [List.mem_cons] at hy;rcases hy with rfl|rfl|hy;exact .inr hb4;exact .inr (by have:=Ext.size (show Ext w w2 by exact fx);omega);exact .inl hy)) (by omega) (fun y hy=>by simp only [List.mem_cons] at hy;rcases hy with rfl|rfl|hy;exact Nat.lt_of_lt_of_le a1.lt (Ext.size (by exact fx));exact a3.lt;exact Nat.lt_of_lt_of_le (hM y hy) (Ext.size (show Ext w w3 by exact fx)))) ?_;rintro ov w4 ⟨oo,x4⟩;obtain ⟨q1,q2,eov⟩:∃base cap,ov=.slice base outs.length cap:=(oo.sl (fun y hy hv=>by have:=oo.base y hv;simp only [List.mem_cons] at hy;rcases hy with rfl|rfl|hy;have:=a1.lt;have:=Ext.size (show Ext w1 w3 by exact fx);omega;have:=a3.lt;omega;have:=hM y hy;have:=Ext.size (show Ext w w3 by exact fx);omega)).form)|(rw [ew];refine st_build (d:=some 12) (cs:=txCs (grT h outs) (.slice (some ⟨b7,0,none⟩) 1 1) ov) (by rw [eov];rfl) ?_)|(first|refine go1 ?_|refine zg (fun _ _=>?_)|refine zi (fun _ _=>?_)))
 have x04:Ext w w4:=by exact fx
 have s03:=Ext.size (show Ext w w3 by exact fx)
 have s02:=Ext.size (show Ext w w2 by exact fx)
 have l3:=a3.lt
 refine st_setN (w0:=w) (n:=4) (vs:=txCs (grT h outs) (.slice (some ⟨b7,0,none⟩) 1 1) ov) x04 hb4 (At.ext x4 (At.ext x3 (At.ext x2 a1))) rfl rfl rfl rfl (by rw [eov];rfl) (fun w5 x5 c5 a5 r5=>?_)
 repeat (first|refine go1 ?_|refine zg (fun _ _=>?_)|refine zi (fun _ _=>?_))
 have hb74:b7≠b4:=by have:=a1.lt;have:=x2.size;omega
 have oib:OwnR inR T.api_In w.heap.size M w5 (.slice (some ⟨b7,0,none⟩) 1 1) [⟨baseP,4294967295, []⟩]:=
  ⟨[⟨inCs ⟨baseP,4294967295, []⟩ (.slice none 0 0),rfl,by intro v hv;simp [inCs] at hv;rcases hv with rfl|rfl|rfl|rfl<;>rfl⟩],.inr ⟨b7,1, [],rfl,by omega,(a3.ext x4).chg c5 (by simp;omega),rfl⟩,.cons ⟨_,rfl,SlR.nil _ _,⟨by decide,by decide⟩,⟨by decide,by decide⟩⟩ .nil⟩
 have oov:OwnR outR T.api_Out w.heap.size M w5 ov outs:=(oo.lower s03).step c5 (M':=M) (fun y hy=>by
  simp at hy;subst hy
  exact ⟨fun h=>by have:=oo.base _ h;have:=a1.lt;have:=Ext.size (show Ext w1 w3 by exact fx);omega,.inl (by simp)⟩) (fun y hy=>.inl (by simp [hy]))
 exact x_ret (ret1 (rv_cell r5 rfl rfl)) ⟨_,rfl,⟨_,_,rfl,oib,oov,(show is32 2 by unfold is32;omega),(show is32 h by unfold is32;omega)⟩,x5⟩
end Go.Proofs.YtbidkcjendncaaaGreatDoor
end
section
namespace Go.Proofs.YtbidkcjendncaaaGreatDoor
open Go Go.K
attribute [local irreducible] regK codeK retK KOp.wp K.Spec u32 leS vnS str zero32 checkT applyL encT idT sizeT
theorem slAt1 {α:Type} {E:R α} {M:List Nat} {w:World} {b:Nat} {t:TypeId} {cs:List Value} {a:α} (h:At w b (.cells cs.toArray t (0,0))) (ha:E.rel (b::M) w cs a) (hb:b∉M):SlR E M w (.slice (some ⟨b,0,none⟩) 1 1) [a]:=by
 have ef:(vecE E.k E.pos).flat [R.vec ha]=cs:=by simp only [Enc.flat,List.flatMap_cons,List.flatMap_nil,List.append_nil];rfl
 have o:OwnR E t 0 M w (.slice (some ⟨b,0,none⟩) 1 1) [a]:=⟨[R.vec ha],.inr ⟨b,1, [],rfl,Nat.zero_le _,by rw [ef,List.append_nil];exact h,by rw [List.append_nil,Enc.flat_length];rfl⟩,.cons ha .nil⟩
 exact o.sl fun b' hb' h'=>by
  simp [blkOf] at h'
  subst h';exact hb hb'
theorem txO_one {B:Nat} {M:List Nat} {w w':World} {cs:List Value} {t:Tx} {b:Nat} (h:txO B M w cs t) (hM:∀y∈M,y<B) (x:Ext w w') (a:At w' b (.cells cs.toArray T.api_Tx (0,0))) (hb:w.heap.size≤b) (hMl:∀y∈M,y<w.heap.size):SlR txR M w' (.slice (some ⟨b,0,none⟩) 1 1) [t]:=by
 have h2:txR.rel (b::M) w' cs t:=txR.step (h.rel hM) x (by simp) (fun y hy=>by simp only [List.mem_cons] at hy;rcases hy with rfl|hy;exact .inr hb;exact .inl hy)
 exact slAt1 (E:=txR) a h2 (fun hm=>by have:=hMl _ hm;omega)
end Go.Proofs.YtbidkcjendncaaaGreatDoor
end
section
namespace Go.Proofs.YtbidkcjendncaaaGreatDoor
open Go Go.RowKit Go.Extern.Stop Go.Stop Go.Extern
theorem isTypeOf (v:Value) (w:World):(Extern.ReflectliteType.typeOf #[.iface 40 v]).run Tryz.prog w=.ok (.iface 230 (.agg #[.pointer (some ⟨4,40,none⟩)])) w:=by kernel_rfl
theorem isMethodComparable (v:Value) (w:World):(Go.method 509 230 v "Comparable").run Tryz.prog w=.ok (324,v) w:=by kernel_rfl
theorem isComparable (w:World):((Extern.ReflectliteType.method fun t=>do Extern.Rtype.noPackHeld "Comparable" t;(fun a=>Value.bool a.comparable)<$>typeInfo t) #[.agg #[.pointer (some ⟨4,40,none⟩)]]).run Tryz.prog w=.ok (.bool true) w:=by kernel_rfl
theorem noUnwrapE (v:Value) (xT:TypeId) (w:World):(Instr.typeAssert (.iface 40 v) xT 235 true).run Tryz.prog w=.ok (.tuple #[.nilIface,.bool false]) w:=run_typeAssert_lacksB Tryz.underlying235 (by kernel_rfl) (by kernel_rfl) v xT w
theorem noUnwrapsE (v:Value) (xT:TypeId) (w:World):(Instr.typeAssert (.iface 40 v) xT 237 true).run Tryz.prog w=.ok (.tuple #[.nilIface,.bool false]) w:=run_typeAssert_lacksB Tryz.underlying237 (by kernel_rfl) (by kernel_rfl) v xT w
set_option maxRecDepth 20000 in
theorem is_same (a:Int) (w:World):
  Calls Tryz.prog 32 #[.iface 40 (.int .i64 a),.iface 40 (.int .i64 a)] w fun e w'=>e=.returned (.bool true)∧w'=w:=by
 have h8:=@run_callFunc_extern Tryz.prog 72 _ Extern.ReflectliteType.typeOf Tryz.func72 (by kernel_rfl) (by kernel_rfl) (by kernel_rfl) (by kernel_rfl)
 have h32:=@run_callFunc_extern Tryz.prog 324 _ (Extern.ReflectliteType.method fun t=>do Extern.Rtype.noPackHeld "Comparable" t;pure (.bool (←typeInfo t).comparable)) Tryz.func324 (by kernel_rfl) (by kernel_rfl) (by kernel_rfl) (by kernel_rfl)
 have tT:=isTypeOf
 have cT:=isComparable
 have mR:=isMethodComparable
 have heq:=Go.Lib.run_eql_iface_int (P:=Tryz.prog) w (t:=35) (tx:=40) (k:=.i64) (q:=.i64) a a Tryz.underlying35 (by kernel_rfl) Tryz.underlying40
 go_enter Tryz.func32,Tryz.ntmps32
 go_wp2
 refine wp_loop_rounds 1 ?_
 rw [rounds_succ]
 go_wp2
 go_ret
 exact ⟨rfl,rfl⟩
theorem errIs_same (a:Int) (w:World):K.Spec Tryz.prog 32 [.iface 40 (.int .i64 a),.iface 40 (.int .i64 a)] w fun v w'=>v=.bool true∧w'=w:=
 Calls.mono (is_same a w) fun _ _ h=>⟨_,h.1,rfl,h.2⟩
end Go.Proofs.YtbidkcjendncaaaGreatDoor
end
section
namespace Go.Proofs.YtbidkcjendncaaaGreatDoor
open Go Go.RowKit Go.Extern.Stop Go.Stop Go.Extern
abbrev hB:Nat:=4
theorem as_nil (t:Value) (w:World):Calls Tryz.prog 70 #[.nilIface,t] w fun e w'=>e=.returned (.bool false)∧w'=w:=by
 go_enter Tryz.func70,Tryz.ntmps70
 go_wp2
 go_ret
 exact ⟨rfl,rfl⟩
theorem asUnpackPE (t:Addr) (w:World):(ReflectliteValue.unpack (.iface 153 (.pointer (some t)))).run Tryz.prog w=.ok (.agg #[.pointer (some ⟨4,153,none⟩),.pointer (some ⟨w.heap.size,0,none⟩),.int .u64 150]) (w.alloc (.cells #[.pointer (some t)] 153)):=by kernel_rfl
theorem asTypePE (a:Addr) (w:World):(ReflectliteValue.methodAny (ReflectliteValue.valueError "reflectlite.Value.Type" 0) (fun t _ _ _=>ReflectliteType.toType t) #[.agg #[.pointer (some ⟨4,153,none⟩),.pointer (some a),.int .u64 150]]).run Tryz.prog w=.ok (.iface 230 (.agg #[.pointer (some ⟨4,153,none⟩)])) w:=by kernel_rfl
theorem asMKind (h:Value) (w:World):(Go.method 509 230 (.agg #[h]) "Kind").run Tryz.prog w=.ok (313,h) w:=by kernel_rfl
theorem asMElem (h:Value) (w:World):(Go.method 509 230 (.agg #[h]) "Elem").run Tryz.prog w=.ok (325,.agg #[h]) w:=by kernel_rfl
theorem asMImplements (h:Value) (w:World):(Go.method 509 230 (.agg #[h]) "Implements").run Tryz.prog w=.ok (326,.agg #[h]) w:=by kernel_rfl
theorem asMAssignable (h:Value) (w:World):(Go.method 509 230 (.agg #[h]) "AssignableTo").run Tryz.prog w=.ok (323,.agg #[h]) w:=by kernel_rfl
theorem asKindPE (w:World):((ReflectliteType.abiMethod fun t=>(fun a:Nat=>Value.int IntKind.u8 (a:Int))<$>Rtype.kind t) #[.pointer (some ⟨4,153,none⟩)]).run Tryz.prog w=.ok (.int .u8 22) w:=by kernel_rfl
theorem asKindE (w:World):((ReflectliteType.abiMethod fun t=>(fun a:Nat=>Value.int IntKind.u8 (a:Int))<$>Rtype.kind t) #[.pointer (some ⟨4,40,none⟩)]).run Tryz.prog w=.ok (.int .u8 2) w:=by kernel_rfl
theorem asElemPE (w:World):(ReflectliteType.method ReflectliteType.elem #[.agg #[.pointer (some ⟨4,153,none⟩)]]).run Tryz.prog w=.ok (.iface 230 (.agg #[.pointer (some ⟨4,40,none⟩)])) w:=by kernel_rfl
theorem asImplE (w:World):(ReflectliteType.relation "Implements" ReflectliteType.implements_ #[.agg #[.pointer (some ⟨4,40,none⟩)],.iface 230 (.agg #[.pointer (some ⟨4,35,none⟩)])]).run Tryz.prog w=.ok (.bool true) w:=by kernel_rfl
theorem asTypeOfE (v:Value) (w:World):(ReflectliteType.typeOf #[.iface 40 v]).run Tryz.prog w=.ok (.iface 230 (.agg #[.pointer (some ⟨4,40,none⟩)])) w:=by kernel_rfl
theorem asTypeOfF (v:Value) (w:World):(ReflectliteType.typeOf #[.iface 136 v]).run Tryz.prog w=.ok (.iface 230 (.agg #[.pointer (some ⟨4,136,none⟩)])) w:=by kernel_rfl
theorem asAssEE (w:World):(ReflectliteType.relation "AssignableTo" ReflectliteType.assignableTo #[.agg #[.pointer (some ⟨4,40,none⟩)],.iface 230 (.agg #[.pointer (some ⟨4,40,none⟩)])]).run Tryz.prog w=.ok (.bool true) w:=by kernel_rfl
theorem asAssFE (w:World):(ReflectliteType.relation "AssignableTo" ReflectliteType.assignableTo #[.agg #[.pointer (some ⟨4,136,none⟩)],.iface 230 (.agg #[.pointer (some ⟨4,40,none⟩)])]).run Tryz.prog w=.ok (.bool false) w:=by kernel_rfl
theorem asUnpackE (n:Int) (w:World):(ReflectliteValue.unpack (.iface 40 (.int .i64 n))).run Tryz.prog w=.ok (.agg #[.pointer (some ⟨4,40,none⟩),.pointer (some ⟨w.heap.size,0,none⟩),.int .u64 130]) (w.alloc (.cells #[.int .i64 n] 40)):=by kernel_rfl
theorem rlmA (z:Sem Value) (f:TypeId→Addr→Nat→Nat→Sem Value) (v:Value):ReflectliteValue.method z f #[v]=(do match ←ReflectliteValue.parts v with|none=>z|some (t,a,fl)=>f t a fl (fl%32)):=rfl
theorem asPartsPE (a:Addr) (w:World):(ReflectliteValue.parts (.agg #[.pointer (some ⟨4,153,none⟩),.pointer (some a),.int .u64 150])).run Tryz.prog w=.ok (some (153,a,150)) w:=by kernel_rfl
theorem asIsNilPE (a p:Addr) (W:World) (ha:W.cell? a=some (.pointer (some p))):
  (ReflectliteValue.method (ReflectliteValue.valueError "reflectlite.Value.IsNil" 0) ReflectliteValue.isNil #[.agg #[.pointer (some ⟨4,153,none⟩),.pointer (some a),.int .u64 150]]).run Tryz.prog W=.ok (.bool false) W:=by
 rw [rlmA]
 simp only [Sem.run_bind,asPartsPE,Result.andThen]
 simp [ReflectliteValue.isNil,loadVar,isAgg,underlying,Tryz.underlying153,ha,Result.andThen]
end Go.Proofs.YtbidkcjendncaaaGreatDoor
end
