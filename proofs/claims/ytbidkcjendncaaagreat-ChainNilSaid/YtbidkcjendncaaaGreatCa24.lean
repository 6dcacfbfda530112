/- Contracts: applying a block. The engine, part 24: what lies in a block by what it holds: a transaction's data aren't in a block that holds a transaction. Contracts: a chain, a block connected. -/
import Derived.Test.YtbidkcjendncaaaGreatCa23
set_option linter.unusedVariables false
set_option linter.unusedSimpArgs false
section
namespace Go.Proofs.YtbidkcjendncaaaGreat
open Go Go.K
attribute [local irreducible] regK codeK retK KOp.wp K.Spec u32 leS vnS str zero32 checkT grantB encT idT sizeT inE feeP mayL payL oneL takeAll refCoin refTake refPut refPutCode refTakeCode lessL outsL insL
def ErrA (w:World) (v:Value) (c a i:Int):Prop:=c=0∧v=.nilIface∨c≠0∧(v=errno c∧a= -1∧i= -1∨0≤a∧∃b u,v=.iface T.P_api_Fault (.pointer (some ⟨b,0,none⟩))∧At w b (.cells [.int .i64 a,u].toArray T.api_Fault (0,0))∧ErrR w 1 u c i)
theorem ErrR.off {w w':World} {b6:Nat} {z:Array Value} {t:TypeId} (ha:At w b6 (.cells z t (0,0))) (ht:t≠T.api_Fault) (cc:Chg [b6] w w'):∀{d:Nat} {v:Value} {c a:Int},ErrR w d v c a→ErrR w' d v c a
 |0,_,_,_,h=>h
 |_+1,_,_,_,.inl h=>.inl (ErrR.off ha ht cc h)
 |_+1,_,_,_,.inr ⟨h1,h2,b,u,a',h3,h4,h5⟩=>.inr ⟨h1,h2,b,u,a',h3,h4.chg cc (by
   simp only [List.mem_singleton]
   intro e
   subst e
   have:=h4.inj ha
   simp only [Obj.cells.injEq] at this
   exact ht this.2.1.symm),ErrR.off ha ht cc h5⟩
theorem outsB_take (txs:List Tx) (k:Nat):outsB (txs.take k)≤outsB txs:=by
 unfold outsB
 rw [List.map_take]
 have:=List.sum_append_nat (l₁:=(txs.map fun t=>t.outs.length).take k) (l₂:=(txs.map fun t=>t.outs.length).drop k)
 rw [List.take_append_drop] at this
 omega
theorem outsB_next {txs:List Tx} {k:Nat} (h:k<txs.length):outsB (txs.take (k+1))=outsB (txs.take k)+txs[k].outs.length:=by
 unfold outsB
 rw [List.take_succ_eq_append_getElem h,List.map_append,List.sum_append_nat];simp
set_option maxHeartbeats 4000000 in
theorem bapply_spec {b mb:Nat} {M:List Nat} {v:Value} {txs:List Tx} {l:List En} (h:Int) (w:World) (hS:SetP T.coins_Set w b mb l) (hg:CG l) (hsc:SC l) (hb:b∈M) (hmb:mb∈M) (hM:∀y∈M,y<w.heap.size) (hx:SlR txR M w v txs) (hs:∀t∈txs,t.Sm) (hn:l.length+outsB txs≤80000) (hk0:txs.length≤1000):
  K.Spec Tryz.prog F.block_Apply [.pointer (some ⟨b,0,none⟩),v,.int .i64 h] w fun r w'=>∃sv mv e,r=.tuple #[.agg #[sv,mv],e]∧ErrA w' e (applyL l txs h).2.1 (applyL l txs h).2.2.1 (applyL l txs h).2.2.2∧SetP T.coins_Set w' b mb (applyL l txs h).1∧
   ((applyL l txs h).2.1=0→SlE entE w' sv (lessL l (applyL l txs h).1)∧SlE entE w' mv (lessL (applyL l txs h).1 l)∧∀y,y∈blkOf sv∨y∈blkOf mv→w.heap.size≤y)∧((applyL l txs h).2.1≠0→sv=.slice none 0 0∧mv=.slice none 0 0)∧Chg [b,mb] w w':=by
 have hlt:=hS.lt
 have hbmb:=hS.ne
 refine s_block_Apply rfl ?_
 unfold k_block_Apply
 refine oy ?_
 by_cases hr:0≤h∧h≤1000000
 ·have eA:applyL l txs h=runL l h 0 txs l:=by unfold applyL;rw [if_neg (by omega)]
  rw [eA]
  repeat' (first|(refine zH (d:=some 6) (fun b6 w1 x1 a1 hb6=>?_))|(refine st_fixV (d:=some 20) (.bool false) rfl (congrArg (fun b=>some (Value.bool b)) (decide_eq_false (by omega))) ?_)|(refine st_fixV (d:=some 23) (.bool false) rfl (congrArg (fun b=>some (Value.bool b)) (decide_eq_false (by omega))) ?_)|(refine zC (d:=some 28) rfl (pcopy_spec _ (hS.ext (by exact fx))) ?_;rintro _ w2 ⟨nb,nmb,rfl,N2,hnb,hnmb,x2⟩)|(refine zG (d:=some 30) (E:=txR) (M:=M) (l:=txs) rfl (SlR.ext hx (by exact fx)) ?_)|(first|refine go1 ?_|refine zg (fun _ _=>?_)|refine zi (fun _ _=>?_)))
  have s1:=x1.size
  have s2:=x2.size
  have l6:=a1.lt
  have x02:Ext w w2:=x1.trans x2
  have a62:=At.ext x2 a1
  have nin:∀y∈ [nb,nmb],w1.heap.size≤y:=by intro y hy;simp at hy;rcases hy with rfl|rfl<;>assumption
  have x02':Unit→Ext w w2:=fun _=>x02
  have nlt:=N2.lt
  refine c_loopV (fun (p:Nat × List En) w'=>Ext w w'∧Ext w1 w'∧p.1≤txs.length∧SetP T.coins_Set w' nb nmb p.2∧CG p.2∧SC p.2∧runOk l h txs p.1 p.2) (fun p=> [(0,.pointer (some ⟨b,0,none⟩)),(2,.int .i64 h),(6,.pointer (some ⟨b6,0,none⟩)),(8,.pointer (some ⟨nb,0,none⟩)),(29,v),(30,.int .i64 (txs.length:Nat)),(31,.int .i64 (p.1:Nat))]) (fun p=>txs.length - p.1) (0,l) ⟨rfl,rfl,rfl,rfl,rfl,rfl,rfl,trivial⟩ ⟨x02,x2,by simp,N2,hg,hsc,runOk_zero⟩ ?_
  rintro ⟨k,m⟩ ρ w3 ⟨x3,x13,hk,N3,g3,sc3,hok⟩
  simp only at hk N3 g3 sc3 hok
  dsimp only
  have a63:=At.ext x13 a1
  have s13:=x13.size
  repeat (first|refine go1 ?_|refine zg (fun _ _=>?_)|refine zi (fun _ _=>?_))
  refine zL (x:=.tmp 32) (p:=((k:Nat):Int)<((txs.length:Nat):Int)) rfl (fun h6=>?_) (fun h6=>?_)
  ·have hkl:k<txs.length:=by omega
   have hst:=hs _ (List.getElem_mem hkl)
   have hx3:SlR txR (nb::nmb::M) w3 v txs:=hx.step x3 (by simp) (fun y hy=>by
    simp only [List.mem_cons] at hy
    rcases hy with rfl|rfl|hy
    ·exact .inr (by omega)
    ·exact .inr (by omega)
    ·exact .inl hy)
   have x03':Unit→Ext w w3:=fun _=>x3
   have x13':Unit→Ext w1 w3:=fun _=>x13
   clear x3 x13 x02 x1 x2
   repeat (first|(refine st_elemR (d:=some 34) (E:=txR) (M:=nb::nmb::M) rfl rfl (n:=k) (l:=txs) hx3 rfl hkl (fun ad cs r4 he=>?_);obtain ⟨iv,ov,rfl,p1,p2,p3⟩:=id he)|(refine zH (d:=some 10) (fun b10 w4 x4 a4 hb10=>?_))|(first|refine go1 ?_|refine zg (fun _ _=>?_)|refine zi (fun _ _=>?_)))
   have o1:=p1.one
   have o2:=p2.one
   refine st_setN (w0:=w3) (n:=4) (vs:=txCs txs[k] iv ov) x4 hb10 a4 rfl rfl rfl rfl (by simp [txCs,o1,o2];exact ⟨rfl,rfl⟩) (fun w5 x5 c5 a5 r5=>?_)
   repeat (first|refine go1 ?_|refine zg (fun _ _=>?_)|refine zi (fun _ _=>?_))
   refine zC (d:=some 40) rfl (bapp_spec (M:=nb::nmb::M) (cs:=txCs txs[k] iv ov) (t:=txs[k]) (l:=m) k h _ (N3.ext x5) g3 sc3 (by simp) (by simp) (R.ext he x5) hst) ?_
   rintro e w6 ⟨he6,⟨m',N6,hm'⟩,c6⟩
   have x06:Ext w w6:=(Ext.chg ((x03' ()).trans x5) c6).mono (fun y hy=>.inr (by have:=nin y hy;omega))
   have x16:Ext w1 w6:=(Ext.chg ((x13' ()).trans x5) c6).mono (fun y hy=>.inr (nin y hy))
   clear x4 x5 a4 c5 a5 r5 c6 p1 p2 r4
   by_cases h0:(oneL m txs[k] k h).2.1=0
   ·obtain ⟨rfl, -⟩:=he6.nil_iff.1 h0
    repeat (first|refine go1 ?_|refine zg (fun _ _=>?_)|refine zi (fun _ _=>?_))
    exact ⟨(k+1,m'),⟨rfl,rfl,rfl,rfl,rfl,rfl,rfl,trivial⟩,⟨x06,x16,by simp only;omega,N6,by rw [hm' h0];exact oneL_cg g3 _ _ _,by rw [hm' h0];exact oneL_sc g3 sc3 _ _ _,by rw [hm' h0];exact runOk_next hkl hok h0⟩,by simp only;omega⟩
   ·obtain ⟨et,eu,rfl⟩:=he6.nil_iff.2 h0
    have eR:=runOk_bad hkl hok h0
    rw [eR]
    have a66:=At.ext x16 a1
    repeat (first|(refine st_build (d:=some 46) (cs:= [.int .i64 (k:Nat),.iface et eu]) rfl ?_)|(refine zD (d:=some 47) (cs:= [.int .i64 (k:Nat),.iface et eu]) rfl rfl (fun b8 w8 x8 a8 r8 hb8=>?_))|(first|refine go1 ?_|refine zg (fun _ _=>?_)|refine zi (fun _ _=>?_)))
    refine st_setN (w0:=w) (n:=2) (vs:= [.slice none 0 0,.slice none 0 0]) (x06.trans x8) (by omega) (At.ext x8 a66) rfl rfl rfl rfl rfl (fun w9 x9 c9 a9 r9=>?_)
    repeat (first|refine go1 ?_|refine zg (fun _ _=>?_)|refine zi (fun _ _=>?_))
    have l8:=a8.lt
    have h68:w1.heap.size≤b8:=Nat.le_trans x16.size hb8
    exact x_ret (ret2 (rv_cell r9 rfl rfl) rv_tmp) ⟨.slice none 0 0,.slice none 0 0,_,rfl,.inr ⟨h0,.inr ⟨(show (0:Int)≤((k:Nat):Int) by omega),b8,_,rfl,At.chg c9 a8 (by simp;omega),ErrR.off (At.ext x8 a66) (by decide) c9 (he6.ext x8)⟩⟩,hS.ext x9,fun q=>absurd q h0,fun _=>⟨rfl,rfl⟩,Chg.mono x9 (by simp)⟩
  ·have ek:txs.length≤k:=by omega
   have eR:=runOk_end ek hok
   rw [eR]
   have S3:=hS.ext x3
   have hlm:m.length≤80000:=by
    have:=applyL_len hg txs h
    rw [eA,eR] at this
    simp only at this;omega
   have x03':Unit→Ext w w3:=fun _=>x3
   have s03:=x3.size
   clear x3 x02 x1 x2
   repeat (first|refine go1 ?_|refine zg (fun _ _=>?_)|refine zi (fun _ _=>?_))
   refine zC (d:=some 52) rfl (bmiss_spec _ S3 N3 (by omega)) ?_
   rintro sv w4 ⟨osv,x4⟩
   repeat (first|refine go1 ?_|refine zg (fun _ _=>?_)|refine zi (fun _ _=>?_))
   refine zC (d:=some 55) rfl (bmiss_spec _ (N3.ext x4) (S3.ext x4) (by omega)) ?_
   rintro mv w5 ⟨omv,x5⟩
   have osv5:=osv.ext x5
   obtain ⟨q1,q2,hsv⟩:=osv5.sl.form
   obtain ⟨q3,q4,hmv⟩:=omv.sl.form
   have one1:sv.oneCell'=true:=by obtain ⟨_,_,e⟩:=osv5.sl.form;rw [e];rfl
   have one2:mv.oneCell'=true:=by obtain ⟨_,_,e⟩:=omv.sl.form;rw [e];rfl
   have hl1:=lessL_len l m
   have hl2:=lessL_len m l
   have bs1:=osv5.base
   have bs2:=omv.base
   have s34:=x4.size
   have s45:=x5.size
   repeat (first|(refine st_build (d:=some 56) (cs:= [sv,mv]) (by rw [hsv,hmv];rfl) ?_)|(refine zE (d':=12) (fun _=>rfl) rfl rfl (by show List.all [sv,mv] _=true;simp only [List.all_cons,List.all_nil,one1,one2];rfl) (fun b12 w6 x6 a12 (r12:Row w6 ⟨b12,0,none⟩ [sv,mv]) hb12=>?_))|(first|refine go1 ?_|refine zg (fun _ _=>?_)|refine zi (fun _ _=>?_)))
   have x36:Ext w3 w6:=x4.trans (x5.trans x6)
   have osv6:=osv5.ext x6
   have omv6:=omv.ext x6
   have off1:SlR enR [b,mb,b6] w6 sv (lessL l m):=osv6.sl.en fun y hy hm=>by
    have:=bs1 y hy
    simp at hm
    omega
   have off2:SlR enR [b,mb,b6] w6 mv (lessL m l):=omv6.sl.en fun y hy hm=>by
    have:=bs2 y hy
    simp at hm
    omega
   refine zC (d:=some 62) rfl (bswap_spec (l:=l) (out:=lessL l m) (inn:=lessL m l) _ (S3.ext x36) (off1.sub (fun y hy=>.inl (by simp at hy ⊢;omega))) (off2.sub (fun y hy=>.inl (by simp at hy ⊢;omega))) (by omega) (by omega)) ?_
   rintro _ w7 ⟨rfl,S7,c7⟩
   rw [swap_less hg g3] at S7
   have r127:Row w7 ⟨b12,0,none⟩ [sv,mv]:=Row.chg c7 r12 (by simp;omega)
   have a67:=At.chg c7 (At.ext x36 a63) (by simp;omega)
   have off17:=off1.step c7 (M':= [b6]) (fun y hy=>.inl (by simp at hy ⊢;omega)) (fun y hy=>.inl (by simp at hy ⊢;omega))
   have off27:=off2.step c7 (M':= [b6]) (fun y hy=>.inl (by simp at hy ⊢;omega)) (fun y hy=>.inl (by simp at hy ⊢;omega))
   have c07:Chg [b,mb] w w7:=(Chg.trans ((x03' ()).trans x36) c7).mono (by simp)
   clear x4 x5 x6 x36 c7 a12 r12 off1 off2 osv6 omv6 osv5 osv omv
   repeat (first|refine go1 ?_|refine zg (fun _ _=>?_)|refine zi (fun _ _=>?_))
   refine st_storeN0 (b:=b6) (vs:= [sv,mv]) rfl rfl rfl (by simp [one1,one2]) a67 rfl (fun w8 c8 a8=>?_)
   repeat (first|refine go1 ?_|refine zg (fun _ _=>?_)|refine zi (fun _ _=>?_))
   have S8:SetP T.coins_Set w8 b mb m:=S7.chg c8 (by simp;omega) (by simp;omega)
   have fin1:=off17.step c8 (M':= []) (fun y hy=>.inl hy) (by simp)
   have fin2:=off27.step c8 (M':= []) (fun y hy=>.inl hy) (by simp)
   refine x_ret (ret2 (rv_cell (Row.of_at a8) rfl rfl) rv_tmp) ⟨sv,mv,_,rfl,.inl ⟨rfl,rfl⟩,S8,fun _=>⟨fin1.en,fin2.en,fun y hy=>?_⟩,fun q=>absurd rfl q,?_⟩
   ·rcases hy with hy|hy
    ·have:=bs1 y hy;omega
    ·have:=bs2 y hy;omega
   ·refine (c07.trans c8).mono ?_
    intro y hy
    simp at hy ⊢
    omega
 ·have eA:applyL l txs h=(l,3, -1, -1):=by unfold applyL;rw [if_pos (by omega)]
  rw [eA]
  repeat' (first|(refine zH (d:=some 6) (fun b6 w1 x1 a1 hb6=>?_))|(refine zJ (t:=21) (p:=h<0) rfl (fun hh=>?_) (fun hh=>?_))|(refine zL (x:=.tmp 18) rfl (fun _=>?_) (fun h=>absurd (by omega) h))|(first|refine go1 ?_|refine zg (fun _ _=>?_)|refine zi (fun _ _=>?_)))
  all_goals
   refine st_setN (w0:=w) (n:=2) (vs:= [.slice none 0 0,.slice none 0 0]) x1 hb6 a1 rfl rfl rfl rfl rfl (fun w9 x9 c9 a9 r9=>?_)
   repeat (first|refine go1 ?_|refine zg (fun _ _=>?_)|refine zi (fun _ _=>?_))
   exact x_ret (ret2 (rv_cell r9 rfl rfl) rv_tmp) ⟨.slice none 0 0,.slice none 0 0,_,rfl,.inr ⟨(show (3:Int)≠0 by decide),.inl ⟨rfl,rfl,rfl⟩⟩,hS.ext x9,fun q=>absurd q (show ¬(3:Int)=0 by decide),fun _=>⟨rfl,rfl⟩,Chg.mono x9 (by simp)⟩
end Go.Proofs.YtbidkcjendncaaaGreat
end
section
namespace Go.K
open Go
variable {α:Type} {E:R α} {M:List Nat} {w:World}
theorem cell_in {b:Nat} {z:List Value} {t:TypeId} {a:Addr} {v:Value} (ha:At w b (.cells z.toArray t (0,0))) (hb:a.block=b) (h:w.cell? a=some v):v∈z:=by
 unfold World.cell? at h
 unfold At at ha
 rw [hb,ha] at h
 simp only [List.getElem?_toArray] at h
 have h:a.spot=none∧z[a.off]? =some v:=by simpa using h
 exact List.mem_of_getElem? h.2
theorem SlR.off {b:Nat} {z:List Value} {t:TypeId} {v:Value} {l:List α} (h:SlR E M w v l) (ha:At w b (.cells z.toArray t (0,0))) (hE:∀cs x,E.rel M w cs x→∃u r,cs=u::r∧u∉z) (hs:∀cs x,E.rel M w cs x→E.rel (b::M) w cs x):SlR E (b::M) w v l:=by
 obtain ⟨css,h1,h2,h3⟩:=h
 refine ⟨css,h1,h2.mono fun c x hr=>hs _ _ hr,fun hp b' hb' hm=>?_⟩
 rcases List.mem_cons.1 hm with rfl|hm
 ·have hlen:=h2.length
  have hc:0<css.length:=by omega
  obtain ⟨n,base,cap,rfl, -,hrow⟩:=h1
  have hk:=E.pos
  have hfl:0<((vecE E.k E.pos).flat css).length:=by
   rw [Enc.flat_length]
   exact Nat.mul_pos hc E.pos
  obtain ⟨a,rfl,hr⟩:=hrow hfl
  obtain ⟨u,r,e,hu⟩:=hE _ _ (h2.get 0 hc (by omega))
  have h0:((vecE E.k E.pos).flat css)[0]? =some u:=by
   cases css with
   |nil=>simp at hc
   |cons c css=>
    simp only [List.getElem_cons_zero] at e
    simp only [Enc.flat,List.flatMap_cons]
    show (c.1++_)[0]? =some u
    rw [e];rfl
  have hcell:=hr 0 u h0
  refine hu (cell_in ha ?_ hcell)
  rw [add_block]
  simp only [blkOf,List.mem_singleton] at hb'
  exact hb'.symm
 ·exact h3 hp b' hb' hm
end Go.K
end
section
namespace Go.Proofs.YtbidkcjendncaaaGreat
open Go Go.K
attribute [local irreducible] regK codeK retK KOp.wp K.Spec u32 leS vnS str zero32 checkT applyL encT idT sizeT
theorem st_maxN {P:Program} {d:Option Tmp} {r:KR} {K:Env→World→Prop} {ρ:Env} {w:World} {x y:Operand} {a b:Nat} (hx:ev ρ x=.int .i64 (a:Nat)) (hy:ev ρ y=.int .i64 (b:Nat)) (k:regK P r K (put ρ d (.int .i64 (max a b:Nat))) w):regK P (.cons ⟨d,.minmax true x [y],none⟩ r) K ρ w:=
 st_fix rfl (by
  have e:(if (a:Int)<(b:Int) then (b:Int) else (a:Int))=((max a b:Nat):Int):=by split<;>omega
  simp only [KOp.fix,List.foldl_cons,List.foldl_nil,hx,hy,Option.bind_some,minmax2,if_true,e]) k
theorem ErrA.off {w w':World} {b6:Nat} {z:Array Value} {t:TypeId} (ha:At w b6 (.cells z t (0,0))) (ht:t≠T.api_Fault) (cc:Chg [b6] w w') {v:Value} {c a i:Int} (h:ErrA w v c a i):ErrA w' v c a i:=by
 rcases h with h|⟨h1,h|⟨h2,b,u,h3,h4,h5⟩⟩
 ·exact .inl h
 ·exact .inr ⟨h1,.inl h⟩
 ·refine .inr ⟨h1,.inr ⟨h2,b,u,h3,h4.chg cc ?_,ErrR.off ha ht cc h5⟩⟩
  simp only [List.mem_singleton]
  intro e
  subst e
  have:=h4.inj ha
  simp only [Obj.cells.injEq] at this
  exact ht this.2.1.symm
theorem ErrA.ext {w w':World} {v:Value} {c a i:Int} (h:ErrA w v c a i) (x:Ext w w'):ErrA w' v c a i:=by
 rcases h with h|⟨h1,h|⟨h2,b,u,h3,h4,h5⟩⟩
 ·exact .inl h
 ·exact .inr ⟨h1,.inl h⟩
 ·exact .inr ⟨h1,.inr ⟨h2,b,u,h3,h4.ext x,h5.ext x⟩⟩
theorem off_en {M:List Nat} {w:World} {b:Nat} {v:Value} {l:List En} {t:TypeId} (h:SlR enR M w v l) (ha:At w b (.cells [Value.slice none 0 0,.slice none 0 0].toArray t (0,0))):SlR enR (b::M) w v l:=
 SlR.off h ha (fun cs x hr=>⟨.string x.1.s,_,hr,by simp⟩) (fun cs x hr=>hr)
theorem runL_bad {l0:List En} {h:Int}:∀(txs:List Tx) (i:Nat) (m:List En),(runL l0 h i txs m).2.1≠0→(runL l0 h i txs m).1=l0
 | [],_,_,h0=>absurd rfl h0
 |t::ts,i,m,h0=>by
  unfold runL at h0 ⊢
  split
  ·rfl
  ·rename_i hc
   rw [if_neg hc] at h0
   exact runL_bad ts (i+1) _ h0
theorem applyL_bad {l:List En} {txs:List Tx} {b:Int} (h0:(applyL l txs b).2.1≠0):(applyL l txs b).1=l:=by
 unfold applyL at h0 ⊢
 split
 ·rfl
 ·rename_i hc
  rw [if_neg hc] at h0
  exact runL_bad _ _ _ h0
def AppR (w:World) (b mb:Nat) (l:List En) (x:List En × Int × Int × Int) (b5:Nat) (sv mv e:Value) (w':World):Prop:=
 ErrA w' e x.2.1 x.2.2.1 x.2.2.2∧SetP T.coins_Set w' b mb x.1∧(x.2.1=0→SlE entE w' sv (lessL l x.1)∧SlE entE w' mv (lessL x.1 l)∧∀y,y∈blkOf sv∨y∈blkOf mv→w.heap.size≤y)∧(x.2.1≠0→sv=.slice none 0 0∧mv=.slice none 0 0)∧Chg [b,mb] w w'∧
  At w' b5 (.cells [Value.slice none 0 0,.slice none 0 0].toArray T.block_Undo (0,0))∧w.heap.size≤b5
set_option maxHeartbeats 4000000 in
theorem chconn_spec {U:List Nat} {B c:Nat} {M N:List Nat} {ch:Ch} {v:Value} {txs:List Tx} (w:World) (h:ChR U w B c M ch) (hx:SlR txR N w v txs) (hMN:∀y∈M,y∈N) (hU:∀y∈U,y∈N) (hUl:∀y∈U,y<w.heap.size) (hs:∀t∈txs,t.Sm) (hk0:txs.length≤1000) (hn:(coinsC ch.bs).length+outsB txs≤80000) (hl:ch.bs.length≤100000) (ht:ch.top≤100000):
  K.Spec Tryz.prog F.chain_Chain_Connect [.pointer (some ⟨c,0,none⟩),v] w fun r w'=>(∃i,ErrA w' r (connE ch txs).1 (connE ch txs).2 i)∧(∃M',ChR U w' B c M' (connC ch txs)∧∀y∈M',y∈M∨w.heap.size≤y)∧Chg M w w':=by
 have hlt:=h.lt
 obtain ⟨b,mb,lv,h1,h2,h3,hM,g1,g2,g3,g4,g5,g6,g8⟩:=id h
 have hcM:c∈M:=by rw [hM];simp
 have hbM:b∈M:=by rw [hM];simp
 have hmM:mb∈M:=by rw [hM];simp
 have hlM:∀y∈blkOf lv,y∈M:=fun y hy=>by rw [hM];simp [hy]
 have g7:=h2.ne
 have lc:=hlt c hcM
 have lb:=hlt b hbM
 have lm:=hlt mb hmM
 have r1:=Row.of_at h1
 have sl:=h3.sl (fun y hy hv=>by
  rcases List.mem_append.1 hy with hy|hy
  ·have:=g6 y hv;simp at hy;omega
  ·exact g8 y (hlM y hv) hy)
 have hll:(linksL ch.bs).length=ch.bs.length:=linksL_len _
 have eI:(((linksL ch.bs).length:Nat):Int)+1=((ch.bs.length+1:Nat):Int):=by rw [hll];omega
 refine s_chain_Chain_Connect rfl ?_
 unfold k_chain_Chain_Connect
 refine oy ?_
 repeat (first|(refine zG (d:=some 16) (E:=lkR) (l:=linksL ch.bs) rfl sl ?_)|(refine st_fixV (d:=some 17) (.bool false) rfl (congrArg (fun b=>some (Value.bool b)) (decide_eq_false (by omega))) ?_)|(refine zG (d:=some 29) (E:=lkR) (l:=linksL ch.bs) rfl (SlR.ext sl (by exact fx)) ?_)|(refine zg (fun w1 x12=>?_);have s12:=x12.size)|(refine st_joinV (b:=.cons ⟨none,.storeN _ _ _,_⟩ _) (fun (p:Nat × Value × Value × Value) w'=>AppR w b mb (coinsC ch.bs) (applyL (coinsC ch.bs) txs ((ch.bs.length+1:Nat):Int)) p.1 p.2.1 p.2.2.1 p.2.2.2 w') (fun p=> [(0,.pointer (some ⟨c,0,none⟩)),(1,v),(5,.pointer (some ⟨p.1,0,none⟩)),(32,.agg #[p.2.1,p.2.2.1]),(33,p.2.2.2)]) ?_ ?_)|(first|refine go1 ?_|refine zg (fun _ _=>?_)|refine zi (fun _ _=>?_)))
 ·have hc0:=coinsN_cg ch.bs ch.bs.length
  have hs0:=coinsN_sc ch.bs ch.bs.length
  rw [eI]
  refine zB ?_ ?_
  ·repeat (first|(refine zi (fun w2 x2=>?_))|(refine zC (d:=some 31) rfl (bapply_spec (M:=M) (l:=coinsC ch.bs) ((ch.bs.length+1:Nat):Int) _ (h2.ext (by exact fx)) hc0 hs0 hbM hmM (fun y hy=>Nat.lt_of_lt_of_le (hlt y hy) (Ext.size (show Ext w _ by exact fx))) ((hx.sub (fun y hy=>.inl (hMN y hy))).ext (by exact fx)) hs hn hk0) ?_;rintro _ w6 ⟨sv,mv,e,rfl,hA1,hA2,hA3,hA4,hA5⟩)|(refine zH (d:=some 5) (fun b5 w5 x5 a5 hb5=>?_))|(first|refine go1 ?_|refine zg (fun _ _=>?_)|refine zi (fun _ _=>?_)))
   exact ⟨(b5,sv,mv,e),⟨rfl,rfl,rfl,rfl,rfl,trivial⟩,hA1.ext x5,hA2.ext x5,fun q=>⟨(hA3 q).1.ext x5,(hA3 q).2.1.ext x5,fun y hy=>Nat.le_trans s12 ((hA3 q).2.2 y hy)⟩,hA4,(Chg.trans x12 (hA5.trans x5)).mono (by simp),a5,Nat.le_trans (Nat.le_trans s12 hA5.size) hb5⟩
  ·repeat (first|(refine zi (fun w2 x2=>?_))|(refine zC (d:=some 31) rfl (bapply_spec (M:=M) (l:=coinsC ch.bs) ((ch.bs.length+1:Nat):Int) _ (h2.ext (by exact fx)) hc0 hs0 hbM hmM (fun y hy=>Nat.lt_of_lt_of_le (hlt y hy) (Ext.size (show Ext w _ by exact fx))) ((hx.sub (fun y hy=>.inl (hMN y hy))).ext (by exact fx)) hs hn hk0) ?_;rintro _ w6 ⟨sv,mv,e,rfl,hA1,hA2,hA3,hA4,hA5⟩)|(refine zH (d:=some 5) (fun b5 w5 x5 a5 hb5=>?_))|(first|refine go1 ?_|refine zg (fun _ _=>?_)|refine zi (fun _ _=>?_)))
   exact ⟨(b5,sv,mv,e),⟨rfl,rfl,rfl,rfl,rfl,trivial⟩,hA1,hA2,fun q=>⟨(hA3 q).1,(hA3 q).2.1,fun y hy=>Nat.le_trans (Nat.le_trans s12 x5.size) ((hA3 q).2.2 y hy)⟩,hA4,(Chg.trans x12 (Chg.trans x5 hA5)).mono (by simp),a5.chg hA5 (by simp;omega),Nat.le_trans s12 hb5⟩
 ·rintro ⟨b5,sv,mv,e⟩ ρ w3 ⟨hA1,hA2,hA3,hA4,hA5,a5,hb5⟩
  dsimp only
  simp only at hA1 hA2 hA3 hA4 hA5 a5 hb5
  have o1:sv.oneCell'=true:=by
   by_cases h0:(connE ch txs).1=0
   ·obtain ⟨_,_,_,q, -⟩:=(hA3 h0).1;rw [q];rfl
   ·rw [(hA4 h0).1];rfl
  have o2:mv.oneCell'=true:=by
   by_cases h0:(connE ch txs).1=0
   ·obtain ⟨_,_,_,q, -⟩:=(hA3 h0).2.1;rw [q];rfl
   ·rw [(hA4 h0).2];rfl
  refine st_storeN0 (b:=b5) (vs:= [sv,mv]) rfl rfl rfl (by simp [o1,o2]) a5 rfl (fun w4 c4 a4=>?_)
  by_cases h0:(connE ch txs).1=0
  ·obtain ⟨hsv,hmv,hsb⟩:=hA3 h0
   have he:e=.nilIface:=by
    rcases hA1 with ⟨_,h5⟩|⟨h5, -⟩
    ·exact h5
    ·exact absurd h0 h5
   subst he
   have e0:(connE ch txs).1=0:=h0
   have e2:connC ch txs=⟨ch.bs++ [txs],max ch.top (ch.bs.length+1)⟩:=by
    unfold connC
    rw [if_neg (by simpa using h0)]
   obtain ⟨lk,hlk⟩:∃lk:Lk,lk=⟨txs,lessL (coinsC ch.bs) (applyL (coinsC ch.bs) txs ((ch.bs.length+1:Nat):Int)).1,lessL (applyL (coinsC ch.bs) txs ((ch.bs.length+1:Nat):Int)).1 (coinsC ch.bs)⟩:=⟨_,rfl⟩
   have elk:(⟨txs,lk.spent,lk.made⟩:Lk)=lk:=by rw [hlk]
   have c04:Chg [b,mb,b5] w w4:=hA5.trans c4
   have s04:=c04.size
   have hin:∀y∈blkOf lv++([c,b,mb]++U),y∈M∨y∈U:=fun y hy=>by
    simp at hy
    rcases hy with hy|rfl|rfl|rfl|hy
    ·exact .inl (hlM y hy)
    ·exact .inl hcM
    ·exact .inl hbM
    ·exact .inl hmM
    ·exact .inr hy
   have hinl:∀y∈blkOf lv++([c,b,mb]++U),y<w.heap.size:=fun y hy=>(hin y hy).elim (hlt y) (hUl y)
   have hinN:∀y∈blkOf lv++([c,b,mb]++U),y∈N:=fun y hy=>(hin y hy).elim (hMN y) (hU y)
   have hsv4:SlR enR (blkOf lv++([c,b,mb]++U)) w4 sv lk.spent:=by
    have q1:SlR enR (blkOf lv++([c,b,mb]++U)) w3 sv _:=hsv.en fun y hy hm=>by have:=hsb y (.inl hy);have:=hinl y hm;omega
    rw [hlk]
    exact (off_en q1 a5).step c4 (fun y hy=>.inl (by simp at hy;simp [hy])) (fun y hy=>.inl (List.mem_cons_of_mem _ hy))
   have hmv4:SlR enR (blkOf lv++([c,b,mb]++U)) w4 mv lk.made:=by
    have q1:SlR enR (blkOf lv++([c,b,mb]++U)) w3 mv _:=hmv.en fun y hy hm=>by have:=hsb y (.inr hy);have:=hinl y hm;omega
    rw [hlk]
    exact (off_en q1 a5).step c4 (fun y hy=>.inl (by simp at hy;simp [hy])) (fun y hy=>.inl (List.mem_cons_of_mem _ hy))
   have hx4:SlR txR N w4 v txs:=hx.step c04 (fun y hy=>by
    simp at hy
    rcases hy with rfl|rfl|rfl
    ·exact .inl (hMN _ hbM)
    ·exact .inl (hMN _ hmM)
    ·exact .inr hb5) (fun y hy=>.inl hy)
   have own4:OwnR lkR T.chain_link B ([c,b,mb]++U) w4 lv (linksL ch.bs):=h3.step c04 (fun y hy=>by
    simp at hy
    rcases hy with rfl|rfl|rfl
    ·exact ⟨fun h=>(g6 _ h).2.1 rfl,.inl (by simp)⟩
    ·exact ⟨fun h=>(g6 _ h).2.2 rfl,.inl (by simp)⟩
    ·exact ⟨fun h=>by have:=hlt _ (hlM _ h);omega,.inr hb5⟩) (fun y hy=>.inl hy)
   have h14:At w4 c (.cells (chCs b lv ch.top).toArray T.chain_Chain (0,0)):=h1.chg c04 (by simp;omega)
   have S4:SetP T.coins_Set w4 b mb (coinsC (ch.bs++ [txs])):=by
    rw [coinsC_snoc]
    exact hA2.chg c4 (by simp;omega) (by simp;omega)
   have r14:=Row.of_at h14
   have r54:=Row.of_at a4
   have hlt4:∀y∈blkOf lv++([c,b,mb]++U),y<w4.heap.size:=fun y hy=>Nat.lt_of_lt_of_le (hinl y hy) s04
   have hB4:B≤w4.heap.size:=by omega
   have ow:lv.oneCell'=true:=h3.one
   clear hA1 hA2 hA3 hA4 hA5 a5 a4 c4 hsv hmv r1 sl h2 h3 h1 h
   repeat (first|(refine zg (fun w5 x5=>?_))|(refine st_joinV (b:=.cons ⟨some 46,_,_⟩ _) (fun (p:Nat × List Value) w'=>Ext w4 w'∧At w' p.1 (.cells p.2.toArray T.chain_link (0,0))∧lkR.rel (blkOf lv++([c,b,mb]++U)) w' p.2 lk) (fun p=> [(0,.pointer (some ⟨c,0,none⟩)),(37,.pointer (some ⟨c,0,none⟩)),(41,lv),(45,.slice (some ⟨p.1,0,none⟩) 1 1)]) ?_ ?_)|(first|refine go1 ?_|refine zg (fun _ _=>?_)|refine zi (fun _ _=>?_)))
   ·repeat' (first|(refine zB ?_ ?_)|(refine zC (d:=some 44) rfl (linked_spec (M:=blkOf lv++([c,b,mb]++U)) (N:=N) (txs:=txs) (spent:=lk.spent) (made:=lk.made) _ (hx4.ext (by exact fx)) hs (fun y hy=>hinN y hy) (fun y hy=>Nat.lt_of_lt_of_le (hlt4 y hy) (Ext.size (show Ext w4 _ by exact fx))) hk0 (SlR.ext hsv4 (by exact fx)) (SlR.ext hmv4 (by exact fx))) ?_;rintro _ w6 ⟨cs,rfl,rel6,x6⟩;obtain ⟨tv,iv,sv',mv',mp,rfl,z1,z2,z3,z4,z5⟩:=id rel6)|(refine zI (d:=some 45) (cs:= [tv,iv,sv',mv',mp]) rfl (fun b7 w7 x7 a7 hb7=>?_))|(first|refine go1 ?_|refine zg (fun _ _=>?_)|refine zi (fun _ _=>?_)))
    all_goals exact st_end ⟨(b7, [tv,iv,sv',mv',mp]),⟨rfl,rfl,rfl,rfl,trivial⟩,x5.trans (x6.trans x7),a7,(congrArg (lkR.rel (blkOf lv++([c,b,mb]++U)) _ _) elk).mp (R.ext rel6 x7)⟩
   ·rintro ⟨b7,cs⟩ ρ w8 ⟨x8,a7,rel8⟩
    dsimp only at x8 a7 rel8 ⊢
    have s8:=x8.size
    refine st_append1 (d:=some 46) (E:=lkR) (M:= [c,b,mb]++U) (v:=lv) (cs:=cs) (a:=lk) (B:=B) rfl rfl (own4.ext x8) (Nat.le_trans hB4 s8) rfl rfl a7 rel8 (by rw [hll];omega) (fun v9 w9 o9 c9 hb9=>?_)
    have s9:=c9.size
    have h19:At w9 c (.cells (chCs b lv ch.top).toArray T.chain_Chain (0,0)):=(h14.ext x8).chg c9 (fun h=>(g6 _ h).1 rfl)
    have S9:SetP T.coins_Set w9 b mb (coinsC (ch.bs++ [txs])):=(S4.ext x8).chg c9 (fun h=>(g6 _ h).2.1 rfl) (fun h=>(g6 _ h).2.2 rfl)
    have o9b:∀y∈blkOf v9,y≠c∧y≠b∧y≠mb:=fun y hy=>by
     rcases hb9 y hy with h|h
     ·exact g6 y h
     ·omega
    repeat (first|refine go1 ?_|refine zg (fun _ _=>?_)|refine zi (fun _ _=>?_))
    refine st_store (b:=c) (o:=1) (cur:=chCs b lv ch.top) rfl rfl o9.one h19 (Nat.le_of_ble_eq_true rfl) (fun w10 c10 a10=>?_)
    have o10:=o9.step c10 (M':= [c,b,mb]++U) (fun y hy=>by
     simp at hy;subst hy
     exact ⟨fun h=>(o9b _ h).1 rfl,.inl (by simp)⟩) (fun y hy=>.inl hy)
    have S10:=S9.chg c10 (by simp;omega) (by simp;omega)
    have a10':At w10 c (.cells (chCs b v9 ch.top).toArray T.chain_Chain (0,0)):=a10
    have r10:=Row.of_at a10'
    have o9u:∀y∈blkOf v9,y∉U:=fun y hy hu=>by
     rcases hb9 y hy with h|h
     ·exact g8 y (hlM y h) hu
     ·have:=hUl y hu;omega
    have sl10:=o10.sl (fun y hy hv=>by
     rcases List.mem_append.1 hy with hy|hy
     ·have:=o9b y hv;simp at hy;omega
     ·exact o9u y hv hy)
    have ell:(linksL ch.bs++ [lk]).length=ch.bs.length+1:=by simp [hll]
    repeat (first|(refine zg (fun w11 x11=>?_))|(refine zG (d:=some 58) (E:=lkR) (l:=linksL ch.bs++ [lk]) rfl (SlR.ext sl10 (by exact fx)) ?_)|(refine st_maxN (d:=some 59) (a:=ch.top) (b:=(linksL ch.bs++ [lk]).length) rfl rfl ?_)|(first|refine go1 ?_|refine zg (fun _ _=>?_)|refine zi (fun _ _=>?_)))
    refine st_store (b:=c) (o:=2) (cur:=chCs b v9 ch.top) rfl rfl rfl (a10'.ext x11) (Nat.le_of_ble_eq_true rfl) (fun w12 c12 a12=>?_)
    repeat (first|refine go1 ?_|refine zg (fun _ _=>?_)|refine zi (fun _ _=>?_))
    have o12:=(o10.ext x11).step c12 (M':= [c,b,mb]++U) (fun y hy=>by
     simp at hy;subst hy
     exact ⟨fun h=>(o9b _ h).1 rfl,.inl (by simp)⟩) (fun y hy=>.inl hy)
    have a12':At w12 c (.cells (chCs b v9 (max ch.top (ch.bs.length+1))).toArray T.chain_Chain (0,0)):=by rw [←ell];exact a12
    refine x_ret rfl ⟨⟨-1,.inl ⟨e0,rfl⟩⟩,⟨[c,b,mb]++blkOf v9,?_,fun y hy=>?_⟩,?_⟩
    ·rw [e2]
     refine ⟨b,mb,v9,a12',(S10.ext x11).chg c12 (by simp;omega) (by simp;omega),?_,rfl,g1,g2,g3,g4,g5,o9b,fun y hy hu=>by
      simp at hy
      rcases hy with rfl|rfl|rfl|hy
      ·exact g8 _ hcM hu
      ·exact g8 _ hbM hu
      ·exact g8 _ hmM hu
      ·exact o9u y hy hu⟩
     rw [linksL_snoc,←hlk]
     exact o12
    ·simp at hy
     rcases hy with rfl|rfl|rfl|hy
     ·exact .inl hcM
     ·exact .inl hbM
     ·exact .inl hmM
     ·exact (hb9 y hy).imp (hlM y) (fun h=>by omega)
    ·have q:=(((Chg.trans (c04.trans x8) c9).trans c10).trans x11).trans c12
     refine q.mono fun y hy=>?_
     simp at hy
     rcases hy with rfl|rfl|rfl|hy|rfl
     ·exact .inl hbM
     ·exact .inl hmM
     ·exact .inr hb5
     ·exact .inl (hlM y hy)
     ·exact .inl hcM
  ·have hA14:=hA1.off a5 (by decide) c4
   rcases hA14 with ⟨h5, -⟩|⟨-,h5⟩
   ·exact absurd h5 h0
   obtain ⟨et,eu,rfl⟩:∃et eu,e=.iface et eu:=by
    rcases h5 with ⟨h5, -⟩|⟨-,_,_,h5, -⟩
    ·exact ⟨_,_,h5⟩
    ·exact ⟨_,_,h5⟩
   repeat (first|refine go1 ?_|refine zg (fun _ _=>?_)|refine zi (fun _ _=>?_))
   refine x_ret rfl ⟨⟨_,hA1.off a5 (by decide) c4⟩,⟨M,?_,fun y hy=>.inl hy⟩,(hA5.trans c4).mono (fun y hy=>by
    simp at hy
    rcases hy with rfl|rfl|rfl
    ·exact .inl hbM
    ·exact .inl hmM
    ·exact .inr hb5)⟩
   have e1:connC ch txs=ch:=by unfold connC;rw [if_pos h0]
   rw [e1]
   rw [applyL_bad h0] at hA2
   exact ⟨b,mb,lv,h1.chg (hA5.trans c4) (by simp;omega),hA2.chg c4 (by simp;omega) (by simp;omega),h3.step (hA5.trans c4) (fun y hy=>by
    simp at hy
    rcases hy with rfl|rfl|rfl
    ·exact ⟨fun h=>(g6 _ h).2.1 rfl,.inl (by simp)⟩
    ·exact ⟨fun h=>(g6 _ h).2.2 rfl,.inl (by simp)⟩
    ·exact ⟨fun h=>by have:=hlt _ (hlM _ h);omega,.inr hb5⟩) (fun y hy=>.inl hy),hM,g1,g2,g3,g4,g5,g6,g8⟩
end Go.Proofs.YtbidkcjendncaaaGreat
end
