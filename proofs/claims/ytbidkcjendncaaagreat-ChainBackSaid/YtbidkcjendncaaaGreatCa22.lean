/- Contracts: sets of coins: length, total, taking; in order; copies. Contracts: a set of coins, as the document's list of them. Chains on the heap. Plain: what the document fixes of pools. Plain: a parent and a child that come together. Contracts: a block as a link of a chain. Contracts: a block as a link of a chain, the link. -/
import Derived.Test.YtbidkcjendncaaaGreatCa21
set_option linter.unusedVariables false
set_option linter.unusedSimpArgs false
section
namespace Go.Proofs.YtbidkcjendncaaaGreat
open Go Go.K
attribute [local irreducible] regK codeK retK KOp.wp
section
attribute [local irreducible] K.Spec
theorem ctake_spec {t:TypeId} {b mb:Nat} {m:List En} (p:Pt) (w:World) (h:SetE t w b mb m):K.Spec Tryz.prog F.coins_Set_Take [.pointer (some ⟨b,0,none⟩),p.val] w fun v w'=>
  v=.tuple #[(takeCoin m p).val,.int .i64 (takeCode m p)]∧SetE t w' b mb (takeMap m p)∧Chg [b,mb] w w':=by
 have r:=h.row
 have hM:=h.2.1
 have hne:=h.ne
 have hb:=h.1.lt
 have hmb:=h.2.1.lt
 refine s_coins_Set_Take rfl ?_
 unfold k_coins_Set_Take
 refine oy ?_
 repeat' (first|(refine zD (d:=some 3) rfl rfl (fun b1 w1 x1 a1 (r1:Row w1 ⟨b1,0,none⟩ p.cs) hb1=>?_))|(refine zH (d:=some 4) (fun b2 w2 x2 a2 hb2=>?_);have s2:w.heap.size≤b2:=Nat.le_trans x1.size hb2)|(refine st_lookupOk (d:=some 17) (E:=ptK) (fv:=Cn.val) (k:=p) rfl rfl (MapE.ext (w:=w) (by exact fx) hM) rfl rfl (fun c hc=>?_) (fun hc=>?_))|(refine zH (d:=some 6) (fun b6 w6 x6 a6 hb6=>?_);have s6:w.heap.size≤b6:=Nat.le_trans (Ext.size (w:=w) (by exact fx)) hb6;have s26:w2.heap.size≤b6:=Nat.le_trans (Ext.size (w:=w2) (by exact fx)) hb6;have s16:w1.heap.size≤b6:=Nat.le_trans (Ext.size (w:=w1) (by exact fx)) hb6)|(first|refine go1 ?_|refine zg (fun _ _=>?_)|refine zi (fun _ _=>?_)))
 ·have l1:=a1.lt
  have l2:=a2.lt
  refine st_setN (w0:=w) (n:=3) (vs:=c.cs) (by exact fx) s6 a6 rfl rfl rfl rfl rfl (fun w7 x7 c7 a7 r7=>?_)
  have a27:=At.chg c7 (At.ext (w:=w2) (by exact fx) a2) (by simp;omega)
  have r17:Row w7 ⟨b1,0,none⟩ p.cs:=Row.chg c7 (Row.ext (w:=w1) (by exact fx) r1) (by simp;omega)
  have h7:=h.ext x7
  have row7:=h7.row
  have l26:b2≠b6:=by omega
  clear x1 x2 x6 a1 r1 a2 a6 r c7 hM
  repeat (first|(refine zg (fun w8 x8=>?_))|(first|refine go1 ?_|refine zg (fun _ _=>?_)|refine zi (fun _ _=>?_)))
  have h8:=h7.ext x8
  refine st_delete (E:=ptK) (fv:=Cn.val) (k:=p) rfl rfl h8.2.1 rfl rfl (fun w9 c9 hM9=>?_)
  have a9:=h8.1.chg c9 (by simp;omega)
  have row9:=Row.of_at a9
  have r69:Row w9 ⟨b6,0,none⟩ c.cs:=Row.chg c9 (Row.ext x8 r7) (by simp;omega)
  have a29:=At.chg c9 (At.ext x8 a27) (by simp;omega)
  have x08:=x7.trans x8
  have hv:=Mon.le h.2.2.1 _ (aget_mem hc)
  have hv0:=h.2.2.1 _ (aget_mem hc)
  have hT:=h.2.2.2
  simp only at hv hv0
  clear x7 x8 h7 h8 row7 r7 r17 a27 a7
  repeat (first|(refine zg (fun w10 x10=>?_))|(first|refine go1 ?_|refine zg (fun _ _=>?_)|refine zi (fun _ _=>?_)))
  refine st_store (b:=b) (o:=1) rfl rfl rfl (a9.ext x10) (by simp) (fun w11 c11 a11=>?_)
  have r611:Row w11 ⟨b6,0,none⟩ c.cs:=Row.chg c11 (Row.ext x10 r69) (by simp;omega)
  have a211:=At.chg c11 (At.ext x10 a29) (by simp;omega)
  have hM11:=(hM9.ext x10).chg c11 (by simp;omega)
  have c011:=(Chg.trans x08 (c9.trans (Chg.trans x10 c11)))
  clear x10 c9 a9 row9 r69 a29
  repeat (first|refine go1 ?_|refine zg (fun _ _=>?_)|refine zi (fun _ _=>?_))
  refine st_storeN0 (b:=b2) (vs:=c.cs) rfl rfl rfl (all_one rfl) a211 rfl (fun w12 c12 a12=>?_)
  repeat (first|refine go1 ?_|refine zg (fun _ _=>?_)|refine zi (fun _ _=>?_))
  refine x_ret (ret2 (rv_cell (Row.of_at a12) rfl rfl) rv_tmp) ⟨by rw [takeCoin,takeCode,hc];rfl,⟨?_,?_,h.2.2.del p⟩,?_⟩
  ·rw [takeMap,tot_del h.2.1.nodup hc]
   exact a11.chg c12 (by simp;omega)
  ·exact hM11.chg c12 (by simp;omega)
  ·refine (c011.trans c12).mono ?_
   intro y hy
   simp at hy ⊢
   omega
 ·have l2:=a2.lt
  refine st_setN (w0:=w) (n:=3) (vs:=cn0.cs) (by exact fx) s6 a6 rfl rfl rfl rfl rfl (fun w7 x7 c7 a7 r7=>?_)
  have a27:=At.chg c7 (At.ext (w:=w2) (by exact fx) a2) (by simp;omega)
  repeat (first|refine go1 ?_|refine zg (fun _ _=>?_)|refine zi (fun _ _=>?_))
  refine st_setN (w0:=w) (n:=3) (vs:=cn0.cs) (by exact fx) s2 a27 rfl rfl rfl rfl rfl (fun w8 x8 c8 a8 r8=>?_)
  repeat (first|refine go1 ?_|refine zg (fun _ _=>?_)|refine zi (fun _ _=>?_))
  refine x_ret (ret2 (rv_cell r8 rfl rfl) rv_tmp) ⟨by rw [takeCoin,takeCode,hc];rfl,?_,Chg.mono x8 (by simp)⟩
  rw [takeMap,adel_none hc];exact h.ext x8
end
def ordC (a b:En):Int:=if ptLt a.1 b.1 then -1 else if ptLt b.1 a.1 then 1 else 0
theorem ordC_lt (a b:En):ltOf ordC a b=ptLt a.1 b.1:=by
 unfold ltOf ordC
 cases h:ptLt a.1 b.1
 ·cases h':ptLt b.1 a.1<;>simp
 ·simp
theorem ord_swo:Sort.SWO (ltOf ordC) where
 irrefl x:=by rw [ordC_lt,ptLt_irrefl]
 trans x y z h h':=by rw [ordC_lt] at*;exact ptLt_trans h h'
 ntrans x y z h h':=by
  rw [ordC_lt] at*
  cases h2:ptLt x.1 z.1
  ·rfl
  ·cases h3:ptLt y.1 x.1
   ·have e:=ptLt_tri h h3
    rw [e] at h2;rw [h2] at h';cases h'
   ·have:=ptLt_trans h3 h2
    rw [this] at h';cases h'
section
attribute [local irreducible] K.Spec
theorem corder_spec (a b:En) (w:World):K.Spec Tryz.prog F.coins_order [.agg (entE.f a).toArray,.agg (entE.f b).toArray] w fun v w'=>v=.int .i64 (ordC a b)∧Ext w w'∧w.drawn≤w'.drawn:=by
 refine s_coins_order rfl ?_
 unfold k_coins_order
 refine oy ?_
 repeat' (first|(refine st_boxD (d:=some 2) (cs:=entE.f a) rfl rfl (fun b1 w1 x1 d1 r1=>?_))|(refine st_boxD (d:=some 3) (cs:=entE.f b) rfl rfl (fun b2 w2 x2 d2 r2=>?_))|(refine st_call (d:=some 10) rfl (otless_spec a.1 b.1 _) ?_;rintro _ w3 ⟨rfl,x3,d3⟩)|(refine st_call (d:=some 16) rfl (otless_spec b.1 a.1 _) ?_;rintro _ w4 ⟨rfl,x4,d4⟩)|(refine c_condB (x:=.tmp 5) rfl (fun h=>?_) (fun h=>?_))|(refine c_condB (x:=.tmp 11) rfl (fun h2=>?_) (fun h2=>?_))|(first|refine go1 ?_|refine zg (fun _ _=>?_)|refine zi (fun _ _=>?_)))
 ·exact x_ret rfl ⟨congrArg (Value.int .i64) (by rw [ordC,h];rfl),by repeat (first|assumption|exact Ext.refl _|refine Ext.trans ?_ (by assumption)),by omega⟩
 ·exact x_ret rfl ⟨congrArg (Value.int .i64) (by rw [ordC,h,h2];rfl),by repeat (first|assumption|exact Ext.refl _|refine Ext.trans ?_ (by assumption)),by omega⟩
 ·exact x_ret rfl ⟨congrArg (Value.int .i64) (by rw [ordC,h,h2];rfl),by repeat (first|assumption|exact Ext.refl _|refine Ext.trans ?_ (by assumption)),by omega⟩
end
theorem order_lays (b n:Nat) (w:World):CmpLays Tryz.prog F.coins_order #[] entE.f entE.k ordC b 0 n w:=fun m os dk _ x y=>
 (corder_spec x y _).mono fun e w' ⟨v,he,hv,hx,hd⟩=>⟨by rw [he,hv],hx.grown hd⟩
theorem csort_spec {v:Value} {l:List En} {t:TypeId} {B:Nat} {w:World} (ho:Own entE t B w v l) (hl:l.length≤100000):
  K.Spec Tryz.prog F.slices_SortFunc_L_coins_Entry_coins_Entry [v,.func (.func F.coins_order) #[] #[]] w fun r w'=>r=.tuple #[]∧∃l':List En,l'.Perm l∧l'.Pairwise (fun a b=>ltOf ordC b a=false)∧SlE entE w' v l'∧Chg (blkOf v) w w':=by
 refine sort_at ho (fun cap=>?_) (fun b cap hv hH hb=>?_)
 ·exact (AnyF.slices_SortFunc_none Tryz.sortEntry none cap _ w).mono fun e w' ⟨he,hw⟩=>⟨_,he,rfl,hw⟩
 ·exact AnyQ.slices_SortFunc Tryz.sortEntry 5 Tryz.isAgg55 Tryz.sizeOf55 entE.f (fun _=>rfl) entE.one ordC ord_swo F.coins_order #[] b 0 cap l.toArray w (enters_of Tryz.func54 (by kernel_rfl) rfl) (order_lays b _ w) hH hb (by simp;omega)
attribute [local irreducible] K.Spec
theorem call_spec {t:TypeId} {b mb:Nat} {m:List En} (w:World) (h:SetE t w b mb m) (hn:m.length≤100000):K.Spec Tryz.prog F.coins_Set_All [.pointer (some ⟨b,0,none⟩)] w fun v w'=>
  ∃l':List En,l'.Perm m∧l'.Pairwise (fun a b=>ltOf ordC b a=false)∧SlE entE w' v l'∧(∀x∈blkOf v,w.heap.size≤x)∧Ext w w':=by
 refine s_coins_Set_All rfl ?_
 unfold k_coins_Set_All
 refine oy ?_
 have r:=h.row
 have hb:=h.1.lt
 have hmb:=h.2.1.lt
 repeat (first|refine go ?_|refine zg (fun _ _=>?_)|refine zi (fun _ _=>?_))
 refine st_range rfl h.2.1 (fun it w1 x1 i1 hit=>?_)
 repeat (first|refine go ?_|refine zg (fun _ _=>?_)|refine zi (fun _ _=>?_))
 refine c_loopV (fun (s:List En × Value × List En) w'=>Ext w w'∧IterE ptK Cn.val w' it mb s.1∧Own entE T.coins_Entry w.heap.size w' s.2.1 s.2.2∧(s.2.2++s.1).Perm m)
  (fun s=> [(3,s.2.1),(12,.pointer (some ⟨it,0,none⟩))]) (fun s=>s.1.length) (m,.slice none 0 0, []) ⟨rfl,rfl,trivial⟩ ⟨x1,i1,Own.nil _ _ _,by simp⟩ ?_
 rintro ⟨left,vo,out⟩ ρ w2 ⟨x2,i2,ho,hp⟩
 simp only at i2 ho hp
 repeat (first|refine go ?_|refine zg (fun _ _=>?_)|refine zi (fun _ _=>?_))
 have fit:∀{w':World} {left':List En},IterE ptK Cn.val w' it mb left'→∀{v':Value} {o':List En},Own entE T.coins_Entry w.heap.size w' v' o'→it∉blkOf v'∧mb∉blkOf v':=by
  intro w' left' hI v' o' hO
  obtain ⟨es,clock,seen,a1,a2,_⟩:=hI
  exact ⟨hO.free a1 (by simp),hO.free a2 (by simp)⟩
 have hlen:out.length+left.length≤100000:=by have:=hp.length_eq;simp at this;omega
 refine st_next rfl i2 (fun h0 w3 x3=>?_) (fun a p c hl w3 c3 i3 p3=>?_)
 ·repeat (first|refine go ?_|refine zg (fun _ _=>?_)|refine zi (fun _ _=>?_))
  subst h0
  rw [List.append_nil] at hp
  simp at hlen
  refine st_call rfl (csort_spec (ho.ext x3) hlen) ?_
  rintro _ w4 ⟨rfl,l',hp',hs',hsl,c4⟩
  repeat (first|refine go ?_|refine zg (fun _ _=>?_)|refine zi (fun _ _=>?_))
  exact x_ret rfl ⟨l',hp'.trans hp,hs',hsl,ho.base,(((Ext.trans x2 x3).chg (show Chg (blkOf vo) _ _ from c4)).mono (fun b hb=>.inr (ho.base b (by simpa using hb))))⟩
 ·have ho3:=ho.chg c3 (fun y hy=>by have:=(fit i2 ho).1;simp;rintro rfl;exact this hy)
  have x03:Unit→Ext w w3:=fun _=>(Ext.chg x2 c3).mono (by intro y hy;simp at hy ⊢;omega)
  repeat (first|refine go ?_|refine zg (fun _ _=>?_)|refine zi (fun _ _=>?_))
  refine st_entry rfl p3 ?_
  repeat (first|refine go ?_|refine zg (fun _ _=>?_)|refine zi (fun _ _=>?_))
  refine st_local22 rfl (fun _ _=>rfl) (fun _ _=>rfl) rfl rfl rfl rfl rfl rfl (fun b4 b5 w4 x4 r4 r5 hb4 hb5=>?_)
  repeat (first|refine go ?_|refine zg (fun _ _=>?_)|refine zi (fun _ _=>?_))
  refine st_buildSlice rfl (fun b6 w6 x6 a6 hb6=>?_)
  repeat (first|refine go ?_|refine zg (fun _ _=>?_)|refine zi (fun _ _=>?_))
  have hll:left.length=a.length+c.length+1:=by rw [hl];simp;omega
  refine st_append (E:=entE) (v:=vo) (l2:= [p]) rfl ((ho3.ext x4).ext x6) (((x03 ()).trans x4).trans x6).size rfl rfl (sl_new a6 rfl) rfl rfl (by simp;omega) (fun vo' w7 ho7 c7=>?_)
  repeat (first|refine go ?_|refine zg (fun _ _=>?_)|refine zi (fun _ _=>?_))
  have i6:=(i3.ext x4).ext x6
  have hf:=fit i6 ((ho3.ext x4).ext x6)
  refine ⟨(a++c,vo',out++ [p]),⟨rfl,rfl,trivial⟩,⟨((((x03 ()).trans x4).trans x6).chg c7).mono (fun y hy=>.inr (ho.base y (by simpa using hy))),i6.chg c7 hf.1 hf.2,ho7,?_⟩,by simp;omega⟩
  refine List.Perm.trans ?_ hp
  show ((out++ [p])++(a++c)).Perm (out++left)
  rw [hl,List.append_assoc]
  refine List.Perm.append_left _ ?_
  simpa using (List.perm_middle (a:=p) (l₁:=a) (l₂:=c)).symm
section
attribute [local semireducible] K.Spec
theorem cclone_spec {mb:Nat} {m:List En} (w:World) (h:MapE ptK Cn.val w mb m):K.Spec Tryz.prog F.maps_Clone_map_api_Point_api_Coin_api_Point_api_Coin [.map (some mb)] w fun v w'=>∃mb',v=.map (some mb')∧MapE ptK Cn.val w' mb' m∧w.heap.size≤mb'∧Ext w w':=by
 obtain ⟨es,clock,h1,h2⟩:=h
 refine (AnyW.maps_Clone Tryz.cloneMap68 mb es clock w h1).mono fun e w' ⟨he,hw⟩=>⟨_,he,_,rfl,?_⟩
 subst hw
 exact ⟨⟨es,clock,At.new _ _,h2⟩,Nat.le_refl _,Ext.alloc _ _⟩
end
theorem ccopy_spec {t:TypeId} {b mb:Nat} {m:List En} (w:World) (h:SetE t w b mb m):K.Spec Tryz.prog F.coins_Set_Copy [.pointer (some ⟨b,0,none⟩)] w fun v w'=>
  ∃b' mb',v=.pointer (some ⟨b',0,none⟩)∧SetE T.coins_Set w' b' mb' m∧w.heap.size≤b'∧w.heap.size≤mb'∧Ext w w':=by
 refine s_coins_Set_Copy rfl ?_
 unfold k_coins_Set_Copy
 refine oy ?_
 have r:=h.row
 repeat (first|refine go ?_|refine zg (fun _ _=>?_)|refine zi (fun _ _=>?_))
 rename_i w1 x1
 refine st_both ?_ ?_
 ·refine st_call rfl (cclone_spec _ (h.2.1.ext x1)) ?_
  rintro _ w2 ⟨mb',rfl,hM,hmb,x2⟩
  repeat (first|refine go ?_|refine zg (fun _ _=>?_)|refine zi (fun _ _=>?_))
  refine st_box rfl rfl (fun b3 w3 x3 a3 r3 hb3=>?_)
  repeat (first|refine go ?_|refine zg (fun _ _=>?_)|refine zi (fun _ _=>?_))
  have:=x1.size
  have:=x2.size
  exact x_ret rfl ⟨b3,mb',rfl,⟨a3,hM.ext x3,h.2.2⟩,by omega,by omega,by repeat (first|assumption|exact Ext.refl _|refine Ext.trans ?_ (by assumption))⟩
 ·repeat (first|refine go ?_|refine zg (fun _ _=>?_)|refine zi (fun _ _=>?_))
  refine st_call rfl (cclone_spec _ (h.2.1.ext x1)) ?_
  rintro _ w2 ⟨mb',rfl,hM,hmb,x2⟩
  repeat (first|refine go ?_|refine zg (fun _ _=>?_)|refine zi (fun _ _=>?_))
  refine st_box rfl rfl (fun b3 w3 x3 a3 r3 hb3=>?_)
  repeat (first|refine go ?_|refine zg (fun _ _=>?_)|refine zi (fun _ _=>?_))
  have:=x1.size
  have:=x2.size
  exact x_ret rfl ⟨b3,mb',rfl,⟨a3,hM.ext x3,h.2.2⟩,by omega,by omega,by repeat (first|assumption|exact Ext.refl _|refine Ext.trans ?_ (by assumption))⟩
end Go.Proofs.YtbidkcjendncaaaGreat
end
section
namespace Go.K
open Go Go.Proofs.YtbidkcjendncaaaGreat
def SetP (t:TypeId) (w:World) (b mb:Nat) (l:List En):Prop:=Srt l∧∃m:List En,m.Perm l∧SetE t w b mb m
theorem SetP.chg {t:TypeId} {w w':World} {b mb:Nat} {l:List En} {L:List Nat} (hc:Chg L w w') (h:SetP t w b mb l) (h1:b∉L) (h2:mb∉L):SetP t w' b mb l:=by
 obtain ⟨hs,m,hp,h⟩:=h
 exact ⟨hs,m,hp,h.chg hc h1 h2⟩
theorem SetP.ext {t:TypeId} {w w':World} {b mb:Nat} {l:List En} (hc:Ext w w') (h:SetP t w b mb l):SetP t w' b mb l:=h.chg hc (by simp) (by simp)
theorem SetP.lt {t:TypeId} {w:World} {b mb:Nat} {l:List En} (h:SetP t w b mb l):b<w.heap.size∧mb<w.heap.size:=by
 obtain ⟨_,m,_,h⟩:=h
 exact ⟨h.1.lt,h.2.1.lt⟩
theorem SetP.ne {t:TypeId} {w:World} {b mb:Nat} {l:List En} (h:SetP t w b mb l):b≠mb:=by
 obtain ⟨_,m,_,h⟩:=h
 exact h.ne
theorem SetP.mon {t:TypeId} {w:World} {b mb:Nat} {l:List En} (h:SetP t w b mb l):Mon l:=by
 obtain ⟨_,m,hp,h⟩:=h
 exact ⟨fun e he=>h.2.2.1 e (hp.mem_iff.2 he),by rw [←tot_perm hp];exact h.2.2.2⟩
end Go.K
namespace Go.Proofs.YtbidkcjendncaaaGreat
open Go Go.K
attribute [local irreducible] regK codeK retK KOp.wp K.Spec
theorem viewP {w:World} {b mb:Nat} {l:List En} (h:SetP T.coins_Set w b mb l) (hs:∀e∈l,e.2.s.size≤1000000):ViewR w (.iface T.P_coins_Set (.pointer (some ⟨b,0,none⟩))) (aget l):=by
 obtain ⟨hq,m,hp,h⟩:=h
 have e:aget m=aget l:=funext fun p=>aget_perm hp hq p
 rw [←e]
 exact ViewR.of_set h fun x hx=>hs x (hp.mem_iff.1 hx)
theorem pnew_spec (w:World):K.Spec Tryz.prog F.coins_New [] w fun v w'=>∃b mb,v=.pointer (some ⟨b,0,none⟩)∧SetP T.coins_Set w' b mb []∧w.heap.size≤b∧w.heap.size≤mb∧Ext w w':=
 spec_mono (cnew_spec w) fun v w' ⟨b,mb,e,h,h1,h2,x⟩=>⟨b,mb,e,⟨.nil, [],List.Perm.refl _,h⟩,h1,h2,x⟩
theorem pget_spec {b mb:Nat} {l:List En} (p:Pt) (w:World) (h:SetP T.coins_Set w b mb l):K.Spec Tryz.prog F.coins_Set_Get [.pointer (some ⟨b,0,none⟩),p.val] w fun v w'=>v=.tuple #[(refCoin l p).val,.bool (aget l p).isSome]∧Ext w w':=by
 obtain ⟨hs,m,hp,h⟩:=h
 refine spec_mono (cget_spec p w h) fun v w' ⟨e,x⟩=>⟨?_,x⟩
 rw [e,take_coin hp hs,aget_perm hp hs]
theorem pput_spec {b mb:Nat} {l:List En} (p:Pt) (c:Cn) (w:World) (h:SetP T.coins_Set w b mb l):K.Spec Tryz.prog F.coins_Set_Put [.pointer (some ⟨b,0,none⟩),p.val,c.val] w fun v w'=>
  v=.int .i64 (refPutCode l p c)∧SetP T.coins_Set w' b mb (refPut l p c)∧Chg [b,mb] w w':=by
 obtain ⟨hs,m,hp,h⟩:=h
 refine spec_mono (cput_spec p c w h) fun v w' ⟨e,h',x⟩=>⟨?_,⟨(put_sim hp hs p c).2.1,_,(put_sim hp hs p c).1,h'⟩,x⟩
 rw [e,put_code hp hs]
theorem ptake_spec {b mb:Nat} {l:List En} (p:Pt) (w:World) (h:SetP T.coins_Set w b mb l):K.Spec Tryz.prog F.coins_Set_Take [.pointer (some ⟨b,0,none⟩),p.val] w fun v w'=>
  v=.tuple #[(refCoin l p).val,.int .i64 (refTakeCode l p)]∧SetP T.coins_Set w' b mb (refTake l p)∧Chg [b,mb] w w':=by
 obtain ⟨hs,m,hp,h⟩:=h
 refine spec_mono (ctake_spec p w h) fun v w' ⟨e,h',x⟩=>⟨?_,⟨(take_sim hp hs p).2.1,_,(take_sim hp hs p).1,h'⟩,x⟩
 rw [e,take_coin hp hs,take_code hp hs]
theorem pall_spec {b mb:Nat} {l:List En} (w:World) (h:SetP T.coins_Set w b mb l) (hn:l.length≤100000):K.Spec Tryz.prog F.coins_Set_All [.pointer (some ⟨b,0,none⟩)] w fun v w'=>SlE entE w' v l∧(∀x∈blkOf v,w.heap.size≤x)∧Ext w w':=by
 obtain ⟨hs,m,hp,h⟩:=h
 refine spec_mono (call_spec w h (by rw [hp.length_eq];exact hn)) fun v w' ⟨l',hp',hs',hsl,hb,x⟩=>⟨?_,hb,x⟩
 have hp2:=hp'.trans hp
 have e:l'=l:=sorted_eq hp2 (hs'.imp fun {a b} q=>by rwa [ordC_lt] at q) hs
 rw [←e];exact hsl
theorem pcopy_spec {b mb:Nat} {l:List En} (w:World) (h:SetP T.coins_Set w b mb l):K.Spec Tryz.prog F.coins_Set_Copy [.pointer (some ⟨b,0,none⟩)] w fun v w'=>
  ∃b' mb',v=.pointer (some ⟨b',0,none⟩)∧SetP T.coins_Set w' b' mb' l∧w.heap.size≤b'∧w.heap.size≤mb'∧Ext w w':=by
 obtain ⟨hs,m,hp,h⟩:=h
 exact spec_mono (ccopy_spec w h) fun v w' ⟨b',mb',e,h',h1,h2,x⟩=>⟨b',mb',e,⟨hs,m,hp,h'⟩,h1,h2,x⟩
end Go.Proofs.YtbidkcjendncaaaGreat
end
section
namespace Go.K
open Go Go.Proofs.YtbidkcjendncaaaGreat
def lkR:R Lk where
 k:=5
 pos:=by decide
 ag:=true
 rel:=fun M w cs x=>∃tv iv sv mv mp,cs= [tv,iv,sv,mv,mp]∧SlR txR M w tv x.txs∧iv.oneCell'=true∧SlR enR M w sv x.spent∧SlR enR M w mv x.made∧mp.oneCell'=true
 len:=fun ⟨_,_,_,_,_,h,_⟩=>by rw [h];rfl
 one:=fun ⟨tv,iv,sv,mv,mp,h,h1,h2,h3,h4,h5⟩ v hv=>by
  obtain ⟨b,c,rfl⟩:=h1.form
  obtain ⟨b',c',rfl⟩:=h3.form
  obtain ⟨b'',c'',rfl⟩:=h4.form
  subst h;simp at hv;rcases hv with rfl|rfl|rfl|rfl|rfl
  ·rfl
  ·exact h2
  ·rfl
  ·rfl
  ·exact h5
 step:=fun ⟨tv,iv,sv,mv,mp,h,h1,h2,h3,h4,h5⟩ c hL hM=>⟨tv,iv,sv,mv,mp,h,h1.step c hL hM,h2,h3.step c hL hM,h4.step c hL hM,h5⟩
end Go.K
namespace Go.Proofs.YtbidkcjendncaaaGreat
open Go Go.K
def chCs (b:Nat) (lv:Value) (top:Nat):List Value:= [.pointer (some ⟨b,0,none⟩),lv,.int .i64 (top:Nat)]
def ChR (U:List Nat) (w:World) (B c:Nat) (M:List Nat) (ch:Ch):Prop:=∃b mb lv,At w c (.cells (chCs b lv ch.top).toArray T.chain_Chain (0,0))∧SetP T.coins_Set w b mb (coinsC ch.bs)∧OwnR lkR T.chain_link B ([c,b,mb]++U) w lv (linksL ch.bs)∧M= [c,b,mb]++blkOf lv∧B≤c∧B≤b∧B≤mb∧c≠b∧c≠mb∧(∀x∈blkOf lv,x≠c∧x≠b∧x≠mb)∧∀x∈M,x∉U
theorem ChR.ext {U:List Nat} {w w':World} {B c:Nat} {M:List Nat} {ch:Ch} (h:ChR U w B c M ch) (x:Ext w w'):ChR U w' B c M ch:=by
 obtain ⟨b,mb,lv,h1,h2,h3,h4⟩:=h
 exact ⟨b,mb,lv,h1.ext x,h2.ext x,h3.ext x,h4⟩
theorem ChR.lt {U:List Nat} {w:World} {B c:Nat} {M:List Nat} {ch:Ch} (h:ChR U w B c M ch):∀x∈M,x<w.heap.size:=by
 obtain ⟨b,mb,lv,h1,h2,h3,rfl, -⟩:=h
 intro x hx
 simp only [List.cons_append,List.nil_append,List.mem_cons] at hx
 rcases hx with rfl|rfl|rfl|hx
 ·exact h1.lt
 ·exact h2.lt.1
 ·exact h2.lt.2
 ·exact h3.lt x hx
theorem ChR.base {U:List Nat} {w:World} {B c:Nat} {M:List Nat} {ch:Ch} (h:ChR U w B c M ch):∀x∈M,B≤x:=by
 obtain ⟨b,mb,lv,h1,h2,h3,rfl,g1,g2,g3, -⟩:=h
 intro x hx
 simp only [List.cons_append,List.nil_append,List.mem_cons] at hx
 rcases hx with rfl|rfl|rfl|hx
 ·exact g1
 ·exact g2
 ·exact g3
 ·exact h3.base x hx
theorem ChR.off {U:List Nat} {w:World} {B c:Nat} {M:List Nat} {ch:Ch} (h:ChR U w B c M ch):∀x∈M,x∉U:=by
 obtain ⟨b,mb,lv,h1,h2,h3,h4,g1,g2,g3,g4,g5,g6,g7⟩:=h
 exact g7
theorem ChR.step {U L:List Nat} {w w':World} {B c:Nat} {M:List Nat} {ch:Ch} (h:ChR U w B c M ch) (cc:Chg L w w') (hL:∀y∈L,y∈U∨w.heap.size≤y):ChR U w' B c M ch:=by
 have hn:∀y∈L,y∉M:=fun y hy hm=>(hL y hy).elim (h.off y hm) (fun q=>by have:=h.lt y hm;omega)
 obtain ⟨b,mb,lv,h1,h2,h3,rfl,g⟩:=h
 exact ⟨b,mb,lv,h1.chg cc (fun q=>hn _ q (by simp)),h2.chg cc (fun q=>hn _ q (by simp)) (fun q=>hn _ q (by simp)),h3.step cc (fun y hy=>⟨fun q=>hn y hy (by simp [q]),(hL y hy).imp (fun q=>by simp [q]) id⟩) (fun y hy=>.inl hy),rfl,g⟩
theorem ChR.more {U U':List Nat} {w:World} {B c:Nat} {M:List Nat} {ch:Ch} (h:ChR U w B c M ch) (hU:∀y∈U',y∈U∨w.heap.size≤y):ChR U' w B c M ch:=by
 have hlt:=h.lt
 obtain ⟨b,mb,lv,h1,h2,h3,h4,g1,g2,g3,g4,g5,g6,g7⟩:=h
 refine ⟨b,mb,lv,h1,h2,h3.step (Chg.refl [] w) (by simp) (fun y hy=>?_),h4,g1,g2,g3,g4,g5,g6,fun x hx hu=>(hU x hu).elim (g7 x hx) (fun q=>by have:=hlt x hx;omega)⟩
 rcases List.mem_append.1 hy with hy|hy
 ·exact .inl (List.mem_append_left _ hy)
 ·exact (hU y hy).imp (fun q=>List.mem_append_right _ q) id
end Go.Proofs.YtbidkcjendncaaaGreat
end
section
namespace Go.K
open Go Go.Proofs.YtbidkcjendncaaaGreat
end Go.K
end
section
namespace Go.K
open Go Go.Proofs.YtbidkcjendncaaaGreat
def idS (t:Tx):ByteArray:=if checkT t=0 then idT t else ⟨#[]⟩
theorem idV_eq (t:Tx):idV t=.tuple #[.string (idS t),.int .i64 (checkT t)]:=by
 unfold idV idS
 split
 ·rename_i h;rw [h]
 ·rfl
section
variable {f:Pt→Option Cn} {l:List Ent} {a b:Tx} {h rate:Int}
end
end Go.K
end
section
namespace Go.Proofs.YtbidkcjendncaaaGreat
open Go Go.K
attribute [local irreducible] regK codeK retK KOp.wp K.Spec u32 leS vnS str zero32 checkT grantB encT idT sizeT
set_option maxHeartbeats 1000000 in
theorem copies_spec {M N:List Nat} {v:Value} {txs:List Tx} (w:World) (hx:SlR txR N w v txs) (hs:∀t∈txs,t.Sm) (hMN:∀b∈M,b∈N∨w.heap.size≤b) (hM:∀b∈M,b<w.heap.size) (hk0:txs.length≤1000):K.Spec Tryz.prog F.chain_copies [v] w fun r w'=>OwnR txR T.api_Tx w.heap.size M w' r txs∧Ext w w':=by
 refine s_chain_copies rfl ?_
 unfold k_chain_copies
 refine oy ?_
 repeat' (first|(refine zG (d:=some 7) (E:=txR) (M:=N) (l:=txs) rfl hx ?_)|(refine c_loopV (fun (p:Nat × Value) w'=>Ext w w'∧p.1≤txs.length∧OwnR txR T.api_Tx w.heap.size M w' p.2 (txs.take p.1)) (fun p=> [(3,p.2),(6,v),(7,.int .i64 (txs.length:Nat)),(8,.int .i64 (p.1:Nat))]) (fun p=>txs.length - p.1) (0,.slice none 0 0) ⟨rfl,rfl,rfl,rfl,trivial⟩ ⟨Ext.refl _,by simp,OwnR.nil _ _ _ _⟩ ?_;rintro ⟨k,v3⟩ ρ w2 ⟨x2,hk,ho⟩;simp only at hk ho;dsimp only)|(refine zL (x:=.tmp 9) (p:=((k:Nat):Int)<((txs.length:Nat):Int)) rfl (fun h9=>?_) (fun h9=>?_))|(first|refine go1 ?_|refine zg (fun _ _=>?_)|refine zi (fun _ _=>?_)))
 ·have hkl:k<txs.length:=by omega
  have hst:=hs _ (List.getElem_mem hkl)
  have hb3:=ho.base
  have hl3:=ho.lt
  have s2:=x2.size
  have hx2:SlR txR (blkOf v3++M) w2 v txs:=hx.step x2 (by simp) (fun b hb=>(List.mem_append.1 hb).elim (fun h=>.inr (hb3 b h)) (hMN b))
  have x02':Unit→Ext w w2:=fun _=>x2
  have hll:(txs.take k).length≤k:=by rw [List.length_take];omega
  obtain ⟨t,ht⟩:∃t,t=txs[k]:=⟨_,rfl⟩
  rw [←ht] at hst
  clear x2
  repeat (first|(refine st_elemR (d:=some 10) (E:=txR) (M:=blkOf v3++M) rfl rfl (n:=k) (l:=txs) hx2 rfl hkl (fun ad cs r4 he=>?_);rw [←ht] at he;obtain ⟨iv,ov,rfl,p1,p2,p3⟩:=id he;have o1:=p1.one;have o2:=p2.one)|(refine zE (d':=5) (fun _=>rfl) rfl rfl (txR.one he |> List.all_eq_true.2) (fun b5 w4 x4 a4 (r5:Row w4 ⟨b5,0,none⟩ (txCs t iv ov)) hb5=>?_))|(first|refine go1 ?_|refine zg (fun _ _=>?_)|refine zi (fun _ _=>?_)))
  refine zC (d:=some 14) rfl (txcopy_spec (M:=blkOf v3++M) (cs:=txCs t iv ov) (t:=t) _ (R.ext he x4) hst (fun b hb=>Nat.lt_of_lt_of_le ((List.mem_append.1 hb).elim (hl3 b) (fun h=>by have:=hM b h;omega)) x4.size)) ?_
  rintro _ w5 ⟨cs',rfl,tO,x5⟩
  have tO5:=tO.rel (fun b hb=>Nat.lt_of_lt_of_le ((List.mem_append.1 hb).elim (hl3 b) (fun h=>by have:=hM b h;omega)) x4.size)
  obtain ⟨iv',ov',rfl, -, -, -⟩:=id tO5
  repeat (first|(refine zI (d:=some 15) (cs:=txCs t iv' ov') rfl (fun b6 w6 x6 a6 hb6=>?_))|(refine st_append1 (d:=some 16) (E:=txR) (M:=M) (v:=v3) (cs:=txCs t iv' ov') (a:=t) rfl rfl (ho.ext (by exact fx)) (Nat.le_trans s2 (Ext.size (show Ext w2 _ by exact fx))) rfl rfl a6 (R.ext tO5 x6) (by omega) (fun v7 w7 o7 c7 hb7=>?_))|(first|refine go1 ?_|refine zg (fun _ _=>?_)|refine zi (fun _ _=>?_)))
  exact ⟨(k+1,v7),⟨rfl,rfl,rfl,rfl,trivial⟩,⟨(Ext.chg ((x02' ()).trans (show Ext w2 w6 by exact fx)) c7).mono (fun b hb=>.inr (hb3 b hb)),by simp only;omega,by simp only;rw [List.take_succ_eq_append_getElem hkl,←ht];exact o7⟩,by simp only;omega⟩
 ·have e:txs.take k=txs:=List.take_of_length_le (by omega)
  rw [e] at ho
  repeat (first|refine go1 ?_|refine zg (fun _ _=>?_)|refine zi (fun _ _=>?_))
  exact x_ret rfl ⟨ho,x2⟩
end Go.Proofs.YtbidkcjendncaaaGreat
end
section
namespace Go.Proofs.YtbidkcjendncaaaGreat
open Go Go.K
attribute [local irreducible] regK codeK retK KOp.wp K.Spec u32 leS vnS str zero32 checkT grantB encT idT sizeT
set_option maxHeartbeats 4000000 in
theorem linked_spec {M N:List Nat} {v sv mv:Value} {txs:List Tx} {spent made:List En} (w:World) (hx:SlR txR N w v txs) (hs:∀t∈txs,t.Sm) (hMN:∀b∈M,b∈N) (hM:∀b∈M,b<w.heap.size) (hk0:txs.length≤1000) (hsv:SlR enR M w sv spent) (hmv:SlR enR M w mv made):
  K.Spec Tryz.prog F.chain_linked [v,.agg #[sv,mv]] w fun r w'=>∃cs:List Value,r=.agg cs.toArray∧lkR.rel M w' cs ⟨txs,spent,made⟩∧Ext w w':=by
 obtain ⟨q1,q2,esv⟩:=hsv.form
 obtain ⟨q3,q4,emv⟩:=hmv.form
 have o1:sv.oneCell'=true:=by rw [esv];rfl
 have o2:mv.oneCell'=true:=by rw [emv];rfl
 refine s_chain_linked rfl ?_
 unfold k_chain_linked
 refine oy ?_
 repeat (first|(refine zD (d:=some 3) (cs:= [sv,mv]) rfl (by rw [esv,emv];rfl) (fun b3 w0 x0 a3 (r3:Row w0 ⟨b3,0,none⟩ [sv,mv]) hb3=>?_))|(refine zH (d:=some 4) (fun b4 w1 x1 a4 hb4=>?_))|(refine zg (fun w2 x2=>?_))|(refine zi (fun w2 x2=>?_))|(refine st_joinV (b:=.cons ⟨none,.storeN _ _ _,_⟩ _) (fun (p:Value × Nat × Nat) w'=>Ext w1 w'∧SlR txR (p.2.2::p.2.1::b4::M) w' p.1 txs∧MapE ptK Value.string w' p.2.1 []∧At w' p.2.2 (.cells [Value.slice none 0 0,.slice none 0 0,.slice none 0 0,.slice none 0 0,.map none].toArray T.chain_link (0,0))∧w1.heap.size≤p.2.1∧w1.heap.size≤p.2.2) (fun p=> [(0,v),(3,.pointer (some ⟨b3,0,none⟩)),(4,.pointer (some ⟨b4,0,none⟩)),(5,.pointer (some ⟨p.2.2,0,none⟩)),(16,.agg #[p.1,.slice none 0 0,sv,mv,.map (some p.2.1)])]) ?_ ?_)|(first|refine go1 ?_|refine zg (fun _ _=>?_)|refine zi (fun _ _=>?_)))
 ·have s01:=x0.size
  have s12:=x1.size
  have l4:=a4.lt
  clear a4 a3
  repeat' (first|(refine zB ?_ ?_)|(refine zH (d:=some 5) (fun b5 w5 x5 a5 hb5=>?_);have h15:w1.heap.size≤b5:=Nat.le_trans (Ext.size (show Ext w1 _ by exact fx)) hb5)|(refine st_makeMap (d:=some 15) (E:=ptK) (fv:=Value.string) (fun bm w6 x6 m6 hbm=>?_);have h16:w1.heap.size≤bm:=Nat.le_trans (Ext.size (show Ext w1 _ by exact fx)) hbm)|(refine zC (d:=some 13) rfl (copies_spec (M:=b5::bm::b4::M) (N:=b5::bm::b4::N) _ (hx.step (show Ext w _ by exact fx) (by simp) (fun y hy=>by simp only [List.mem_cons] at hy;rcases hy with rfl|rfl|rfl|hy;exact .inr (by omega);exact .inr (by omega);exact .inr (by omega);exact .inl hy)) hs (fun y hy=>by simp only [List.mem_cons] at hy;rcases hy with rfl|rfl|rfl|hy;exact .inl (by simp);exact .inl (by simp);exact .inl (by simp);exact .inl (by simp [hMN y hy])) (fun y hy=>by simp only [List.mem_cons] at hy;rcases hy with rfl|rfl|rfl|hy;exact Nat.lt_of_lt_of_le a5.lt (Ext.size (by exact fx));exact Nat.lt_of_lt_of_le m6.lt (Ext.size (by exact fx));exact Nat.lt_of_lt_of_le l4 (Ext.size (by exact fx));exact Nat.lt_of_lt_of_le (hM y hy) (Ext.size (by exact fx))) hk0) ?_;rintro tv w7 ⟨oT,x7⟩;have hT:=oT.slB (fun y hy=>by simp only [List.mem_cons] at hy;rcases hy with rfl|rfl|rfl|hy;exact Nat.lt_of_lt_of_le a5.lt (Ext.size (by exact fx));exact Nat.lt_of_lt_of_le m6.lt (Ext.size (by exact fx));exact Nat.lt_of_lt_of_le l4 (Ext.size (by exact fx));exact Nat.lt_of_lt_of_le (hM y hy) (Ext.size (by exact fx)));clear oT;obtain ⟨q5,q6,etv⟩:=hT.form)|(refine zC (d:=some 13) rfl (copies_spec (M:=b5::b4::M) (N:=b5::b4::N) _ (hx.step (show Ext w _ by exact fx) (by simp) (fun y hy=>by simp only [List.mem_cons] at hy;rcases hy with rfl|rfl|hy;exact .inr (by omega);exact .inr (by omega);exact .inl hy)) hs (fun y hy=>by simp only [List.mem_cons] at hy;rcases hy with rfl|rfl|hy;exact .inl (by simp);exact .inl (by simp);exact .inl (by simp [hMN y hy])) (fun y hy=>by simp only [List.mem_cons] at hy;rcases hy with rfl|rfl|hy;exact Nat.lt_of_lt_of_le a5.lt (Ext.size (by exact fx));exact Nat.lt_of_lt_of_le l4 (Ext.size (by exact fx));exact Nat.lt_of_lt_of_le (hM y hy) (Ext.size (by exact fx))) hk0) ?_;rintro tv w7 ⟨oT,x7⟩;have hT:=oT.slB (fun y hy=>by simp only [List.mem_cons] at hy;rcases hy with rfl|rfl|hy;exact Nat.lt_of_lt_of_le a5.lt (Ext.size (by exact fx));exact Nat.lt_of_lt_of_le l4 (Ext.size (by exact fx));exact Nat.lt_of_lt_of_le (hM y hy) (Ext.size (by exact fx)));clear oT;obtain ⟨q5,q6,etv⟩:=hT.form)|(refine zC (d:=some 13) rfl (copies_spec (M:=bm::b4::M) (N:=bm::b4::N) _ (hx.step (show Ext w _ by exact fx) (by simp) (fun y hy=>by simp only [List.mem_cons] at hy;rcases hy with rfl|rfl|hy;exact .inr (by omega);exact .inr (by omega);exact .inl hy)) hs (fun y hy=>by simp only [List.mem_cons] at hy;rcases hy with rfl|rfl|hy;exact .inl (by simp);exact .inl (by simp);exact .inl (by simp [hMN y hy])) (fun y hy=>by simp only [List.mem_cons] at hy;rcases hy with rfl|rfl|hy;exact Nat.lt_of_lt_of_le m6.lt (Ext.size (by exact fx));exact Nat.lt_of_lt_of_le l4 (Ext.size (by exact fx));exact Nat.lt_of_lt_of_le (hM y hy) (Ext.size (by exact fx))) hk0) ?_;rintro tv w7 ⟨oT,x7⟩;have hT:=oT.slB (fun y hy=>by simp only [List.mem_cons] at hy;rcases hy with rfl|rfl|hy;exact Nat.lt_of_lt_of_le m6.lt (Ext.size (by exact fx));exact Nat.lt_of_lt_of_le l4 (Ext.size (by exact fx));exact Nat.lt_of_lt_of_le (hM y hy) (Ext.size (by exact fx)));clear oT;obtain ⟨q5,q6,etv⟩:=hT.form)|(refine zC (d:=some 13) rfl (copies_spec (M:=b4::M) (N:=b4::N) _ (hx.step (show Ext w _ by exact fx) (by simp) (fun y hy=>by simp only [List.mem_cons] at hy;rcases hy with rfl|hy;exact .inr (by omega);exact .inl hy)) hs (fun y hy=>by simp only [List.mem_cons] at hy;rcases hy with rfl|hy;exact .inl (by simp);exact .inl (by simp [hMN y hy])) (fun y hy=>by simp only [List.mem_cons] at hy;rcases hy with rfl|hy;exact Nat.lt_of_lt_of_le l4 (Ext.size (by exact fx));exact Nat.lt_of_lt_of_le (hM y hy) (Ext.size (by exact fx))) hk0) ?_;rintro tv w7 ⟨oT,x7⟩;have hT:=oT.slB (fun y hy=>by simp only [List.mem_cons] at hy;rcases hy with rfl|hy;exact Nat.lt_of_lt_of_le l4 (Ext.size (by exact fx));exact Nat.lt_of_lt_of_le (hM y hy) (Ext.size (by exact fx)));clear oT;obtain ⟨q5,q6,etv⟩:=hT.form)|(refine st_build (d:=some 16) (cs:= [tv,.slice none 0 0,sv,mv,.map (some bm)]) (by rw [etv,esv,emv];rfl) ?_)|(first|refine go1 ?_|refine zg (fun _ _=>?_)|refine zi (fun _ _=>?_)))
  all_goals exact ⟨(tv,bm,b5),⟨rfl,rfl,rfl,rfl,rfl,trivial⟩,by exact fx,hT.step (show Ext w7 _ by exact fx) (by simp) (by
   intro y hy
   simp only [List.mem_cons] at hy
   rcases hy with rfl|rfl|rfl|hy
   ·first
     |exact .inl (List.Mem.head _)
     |exact .inl (List.Mem.tail _ (List.Mem.head _))
     |exact .inr (Nat.le_trans (Ext.size (show Ext w7 _ by exact fx)) hb5)
   ·first
     |exact .inl (List.Mem.head _)
     |exact .inl (List.Mem.tail _ (List.Mem.head _))
     |exact .inr (Nat.le_trans (Ext.size (show Ext w7 _ by exact fx)) hbm)
   ·first
     |exact .inl (List.Mem.head _)
     |exact .inl (List.Mem.tail _ (List.Mem.head _))
     |exact .inl (List.Mem.tail _ (List.Mem.tail _ (List.Mem.head _)))
   ·first
     |exact .inl hy
     |exact .inl (List.Mem.tail _ hy)
     |exact .inl (List.Mem.tail _ (List.Mem.tail _ hy))
     |exact .inl (List.Mem.tail _ (List.Mem.tail _ (List.Mem.tail _ hy)))),m6.ext (by exact fx),At.ext (by exact fx) a5,h16,h15⟩
 ·rintro ⟨tv,bm,b5⟩ ρ w3 ⟨x13,hT,m3,a5,hbm,hb5⟩
  simp only at hT m3 a5 hbm hb5
  dsimp only
  obtain ⟨q5,q6,etv⟩:=hT.form
  have o3:tv.oneCell'=true:=by rw [etv];rfl
  have lbm:=m3.lt
  have lb5:=a5.lt
  have hne:b5≠bm:=by
   obtain ⟨es,clock,h1,_⟩:=m3
   exact a5.ne h1 (by simp)
  have x01:Ext w w1:=x0.trans x1
  have s01:=x01.size
  have s00:=x0.size
  have x03:Ext w w3:=x01.trans x13
  have a4':=At.ext x13 a4
  have l4:=a4.lt
  have hx3:SlR txR (b5::bm::N) w3 v txs:=hx.step x03 (by simp) (fun y hy=>by
   simp only [List.mem_cons] at hy
   rcases hy with rfl|rfl|hy
   ·exact .inr (by omega)
   ·exact .inr (by omega)
   ·exact .inl hy)
  have hsv3:SlR enR (b5::bm::b4::M) w3 sv spent:=hsv.step x03 (by simp) (fun y hy=>by
   simp only [List.mem_cons] at hy
   rcases hy with rfl|rfl|rfl|hy
   ·exact .inr (by omega)
   ·exact .inr (by omega)
   ·exact .inr (by omega)
   ·exact .inl hy)
  have hmv3:SlR enR (b5::bm::b4::M) w3 mv made:=hmv.step x03 (by simp) (fun y hy=>by
   simp only [List.mem_cons] at hy
   rcases hy with rfl|rfl|rfl|hy
   ·exact .inr (by omega)
   ·exact .inr (by omega)
   ·exact .inr (by omega)
   ·exact .inl hy)
  refine st_storeN0 (b:=b5) (vs:= [tv,.slice none 0 0,sv,mv,.map (some bm)]) rfl rfl rfl (by simp [o1,o2,o3];exact ⟨rfl,rfl⟩) a5 rfl (fun w4 c4 a54=>?_)
  have s34:=c4.size
  clear x0 x1 x2 x01 a3 r3 a4
  have hx4:SlR txR (b5::bm::N) w4 v txs:=hx3.step c4 (fun y hy=>.inl (by simp at hy;simp [hy])) (fun y hy=>.inl hy)
  have hT4:SlR txR (b5::bm::b4::M) w4 tv txs:=hT.step c4 (fun y hy=>.inl (by simp at hy;simp [hy])) (fun y hy=>.inl hy)
  have hsv4:SlR enR (b5::bm::b4::M) w4 sv spent:=hsv3.step c4 (fun y hy=>.inl (by simp at hy;simp [hy])) (fun y hy=>.inl hy)
  have hmv4:SlR enR (b5::bm::b4::M) w4 mv made:=hmv3.step c4 (fun y hy=>.inl (by simp at hy;simp [hy])) (fun y hy=>.inl hy)
  have m4:=m3.chg c4 (by simp;omega)
  have a44:=At.chg c4 a4' (by simp;omega)
  have x04:Ext w w4:=(Ext.chg x03 c4).mono (fun y hy=>.inr (by simp at hy;omega))
  have sub:∀y∈ [b5,bm],∀L:List Nat,y∈b5::bm::L:=by
   intro y hy L
   simp at hy ⊢
   rcases hy with rfl|rfl
   ·exact .inl rfl
   ·exact .inr (.inl rfl)
  clear c4 x03 m3 a4' hT hx3 hsv3 hmv3 a5 x13
  repeat (first|(refine zG (d:=some 18) (E:=txR) (M:=b5::bm::N) (l:=txs) rfl hx4 ?_)|(refine c_loopV (fun (p:Nat × Value × List ByteArray × List (Pt × ByteArray)) w'=>Chg [b5,bm] w4 w'∧p.1≤txs.length∧At w' b5 (.cells [tv,p.2.1,sv,mv,.map (some bm)].toArray T.chain_link (0,0))∧Own strE T.string w4.heap.size w' p.2.1 p.2.2.1∧p.2.2.1.length≤p.1∧MapE ptK Value.string w' bm p.2.2.2) (fun p=> [(4,.pointer (some ⟨b4,0,none⟩)),(5,.pointer (some ⟨b5,0,none⟩)),(17,v),(18,.int .i64 (txs.length:Nat)),(19,.int .i64 (p.1:Nat))]) (fun p=>txs.length - p.1) (0,.slice none 0 0, [], []) ⟨rfl,rfl,rfl,rfl,rfl,trivial⟩ ⟨Chg.refl _ _,by simp,a54,Own.nil _ _ _,by simp,m4⟩ ?_;rintro ⟨k,idv,ids,sm⟩ ρ w5 ⟨c5,hk,a55,oi,hil,m5⟩;simp only at hk a55 oi hil m5;dsimp only)|(first|refine go1 ?_|refine zg (fun _ _=>?_)|refine zi (fun _ _=>?_)))
  refine zL (x:=.tmp 20) (p:=((k:Nat):Int)<((txs.length:Nat):Int)) rfl (fun h9=>?_) (fun h9=>?_)
  ·have hkl:k<txs.length:=by omega
   have hst:=hs _ (List.getElem_mem hkl)
   have x05:Ext w w5:=(Ext.chg x04 c5).mono (fun y hy=>.inr (by simp at hy;omega))
   have oib:=oi.base
   have s04:=x04.size
   have hx5:SlR txR (blkOf idv++b5::bm::N) w5 v txs:=hx.step x05 (by simp) (fun y hy=>by
    simp only [List.mem_append,List.mem_cons] at hy
    rcases hy with hy|rfl|rfl|hy
    ·exact .inr (by have:=oib y hy;omega)
    ·exact .inr (by omega)
    ·exact .inr (by omega)
    ·exact .inl hy)
   obtain ⟨t,ht⟩:∃t,t=txs[k]:=⟨_,rfl⟩
   rw [←ht] at hst
   have hins:=hst.ins
   have s45:=c5.size
   have row5:=Row.of_at a55
   have oione:idv.oneCell'=true:=by obtain ⟨_,_,e⟩:=oi.sl.form;rw [e];rfl
   have c45':Unit→Chg [b5,bm] w4 w5:=fun _=>c5
   clear c5
   repeat (first|(refine st_elemR (d:=some 21) (E:=txR) (M:=blkOf idv++b5::bm::N) rfl rfl (n:=k) (l:=txs) hx5 rfl hkl (fun ad cs r4 he=>?_);rw [←ht] at he;obtain ⟨iv,ov,rfl,p1,p2,p3⟩:=id he)|(refine zE (d':=7) (fun _=>rfl) rfl rfl (txR.one he |> List.all_eq_true.2) (fun b7 w6 x6 a7 (r7:Row w6 ⟨b7,0,none⟩ (txCs t iv ov)) hb7=>?_))|(refine zC (d:=some 25) rfl (id_spec (M:=blkOf idv++b5::bm::N) (cs:=txCs t iv ov) (t:=t) _ (R.ext he (by exact fx)) hst) ?_;rintro _ w7 ⟨rfl,x7⟩;rw [idV_eq])|(refine zI (d:=some 31) (cs:= [.string (idS t)]) rfl (fun b8 w8 x8 a8 hb8=>?_))|(refine st_append (d:=some 32) (E:=strE) (v:=idv) (l2:= [idS t]) rfl (oi.ext (by exact fx)) (Nat.le_trans s45 (Ext.size (show Ext w5 _ by exact fx))) rfl rfl (sl_new a8 rfl) rfl rfl (by simp only [List.length_cons,List.length_nil];omega) (fun v9 w9 o9 c9=>?_))|(first|refine go1 ?_|refine zg (fun _ _=>?_)|refine zi (fun _ _=>?_)))
   have x58:Ext w5 w8:=by exact fx
   have n5:b5∉blkOf idv:=fun h=>by have:=oib _ h;omega
   have n7:b7∉blkOf idv:=fun h=>by have:=Own.blk_lt oi _ h;have:=a7.lt;omega
   have nm:bm∉blkOf idv:=fun h=>by have:=oib _ h;omega
   have a59:=At.chg c9 (At.ext x58 a55) n5
   have r79:Row w9 ⟨b7,0,none⟩ (txCs t iv ov):=Row.chg c9 (Row.ext (x7.trans x8) r7) n7
   have m9:=(m5.ext x58).chg c9 nm
   have p19:SlR inR (b5::bm::N) w9 iv t.ins:=p1.step (Chg.trans x58 c9) (fun y hy=>.inl (by simp only [List.nil_append] at hy;exact List.mem_append_left _ hy)) (fun y hy=>.inl (List.mem_append_right _ hy))
   have c49:Chg [b5,bm] w4 w9:=((c45' ()).trans (Chg.trans x58 c9)).mono (fun y hy=>by
    simp only [List.nil_append] at hy
    exact (List.mem_append.1 hy).elim .inl (fun h=>.inr (oib y h)))
   have o9one:v9.oneCell'=true:=by obtain ⟨_,_,e⟩:=o9.sl.form;rw [e];rfl
   have o9b:=o9.base
   have s89:=c9.size
   have l7:=a7.lt
   have row9:=Row.of_at a59
   clear x6 x7 x8 x58 a8 r7 a7 c9
   repeat (first|refine go1 ?_|refine zg (fun _ _=>?_)|refine zi (fun _ _=>?_))
   refine st_store (b:=b5) (o:=1) (cur:= [tv,idv,sv,mv,.map (some bm)]) rfl rfl o9one a59 (Nat.le_of_ble_eq_true rfl) (fun w10 c10 a10=>?_)
   have m10:=m9.chg c10 (by simp;omega)
   have r710:=Row.chg c10 r79 (by simp;omega)
   have p110:SlR inR (b5::bm::N) w10 iv t.ins:=p19.step c10 (fun y hy=>.inl (by simp at hy;simp [hy])) (fun y hy=>.inl hy)
   have o910:=o9.chg c10 (fun y hy=>by have:=o9b y hy;simp;omega)
   have c410:Chg [b5,bm] w4 w10:=(c49.trans c10).mono (by simp)
   have s910:=c10.size
   clear c49 c10 m9 r79 p19 o9 a59 row9 m5 oi a55 row5
   repeat (first|(refine zG (d:=some 36) (E:=inR) (M:=b5::bm::N) (l:=t.ins) rfl p110 ?_)|(refine c_loopV (fun (p:Nat × List (Pt × ByteArray)) w'=>Chg [bm] w10 w'∧p.1≤t.ins.length∧MapE ptK Value.string w' bm p.2) (fun p=> [(4,.pointer (some ⟨b4,0,none⟩)),(5,.pointer (some ⟨b5,0,none⟩)),(8,.string (idS t)),(17,v),(18,.int .i64 (txs.length:Nat)),(19,.int .i64 (k:Nat)),(35,iv),(36,.int .i64 (t.ins.length:Nat)),(37,.int .i64 (p.1:Nat))]) (fun p=>t.ins.length - p.1) (0,sm) ⟨rfl,rfl,rfl,rfl,rfl,rfl,rfl,rfl,rfl,trivial⟩ ⟨Chg.refl _ _,by simp,m10⟩ ?_;rintro ⟨j,sm2⟩ ρ w11 ⟨c11,hj,m11⟩;simp only at hj m11;dsimp only)|(first|refine go1 ?_|refine zg (fun _ _=>?_)|refine zi (fun _ _=>?_)))
   have a11:=At.chg c11 a10 (by simp;omega)
   have row11:=Row.of_at a11
   refine zL (x:=.tmp 38) (p:=((j:Nat):Int)<((t.ins.length:Nat):Int)) rfl (fun h7=>?_) (fun h7=>?_)
   ·have hjl:j<t.ins.length:=by omega
    have p111:SlR inR (b5::bm::N) w11 iv t.ins:=p110.step c11 (fun y hy=>.inl (by simp at hy;simp [hy])) (fun y hy=>.inl hy)
    have lbm11:=m11.lt
    repeat (first|(refine st_elemR (d:=some 39) (E:=inR) (M:=b5::bm::N) rfl rfl (n:=j) (l:=t.ins) p111 rfl hjl (fun ad cs r4 he=>?_);obtain ⟨wv,rfl,hwv,hp5,hp6⟩:=he)|(refine zE (d':=11) (fun _=>rfl) rfl rfl (by have:=hwv.one;simp [inCs,this];exact ⟨rfl,rfl,rfl⟩) (fun b12 w12 x12 a12 (r12:Row w12 ⟨b12,0,none⟩ (inCs t.ins[j] wv)) hb12=>?_))|(refine st_mapUpdate (E:=ptK) (fv:=Value.string) (k:=t.ins[j].p) (v:=idS t) rfl rfl rfl (MapE.ext (w:=w11) (by exact fx) m11) rfl rfl (fun w13 c13 m13=>?_))|(first|refine go1 ?_|refine zg (fun _ _=>?_)|refine zi (fun _ _=>?_)))
    exact ⟨(j+1,aset sm2 t.ins[j].p (idS t)),⟨rfl,rfl,rfl,rfl,rfl,rfl,rfl,rfl,rfl,trivial⟩,⟨(c11.trans (Chg.trans x12 c13)).mono (by simp),by simp only;omega,m13⟩,by simp only;omega⟩
   ·repeat (first|refine go1 ?_|refine zg (fun _ _=>?_)|refine zi (fun _ _=>?_))
    exact ⟨(k+1,v9,ids++ [idS t],sm2),⟨rfl,rfl,rfl,rfl,rfl,trivial⟩,⟨(c410.trans c11).mono (by simp),by simp only;omega,a11,o910.chg c11 (fun y hy=>by have:=o9b y hy;simp;omega),by simp only [List.length_append,List.length_singleton];omega,m11⟩,by simp only;omega⟩
  ·have hkk:k=txs.length:=by omega
   have oione:idv.oneCell'=true:=by obtain ⟨_,_,e⟩:=oi.sl.form;rw [e];rfl
   have a45:=At.chg c5 a44 (by simp;omega)
   have row5:=Row.of_at a55
   repeat (first|refine go1 ?_|refine zg (fun _ _=>?_)|refine zi (fun _ _=>?_))
   refine st_storeN0 (b:=b4) (vs:= [tv,idv,sv,mv,.map (some bm)]) rfl rfl rfl (by simp [o1,o2,o3,oione];rfl) a45 rfl (fun w6 c6 a6=>?_)
   repeat (first|refine go1 ?_|refine zg (fun _ _=>?_)|refine zi (fun _ _=>?_))
   have c46:Chg [b5,bm,b4] w4 w6:=(c5.trans c6).mono (fun y hy=>.inl (by simp at hy ⊢;omega))
   have sub3:∀y∈ [b5,bm,b4],y∈b5::bm::b4::M:=by intro y hy;simp at hy ⊢;omega
   have sup:∀y∈M,y∈b5::bm::b4::M:=fun y hy=>by simp [hy]
   exact x_ret (ret1 (rv_cell (Row.of_at a6) rfl rfl)) ⟨_,rfl,⟨tv,idv,sv,mv,.map (some bm),rfl,hT4.step c46 (fun y hy=>.inl (sub3 y hy)) (fun y hy=>.inl (sup y hy)),oione,hsv4.step c46 (fun y hy=>.inl (sub3 y hy)) (fun y hy=>.inl (sup y hy)),hmv4.step c46 (fun y hy=>.inl (sub3 y hy)) (fun y hy=>.inl (sup y hy)),rfl⟩,(Ext.chg x04 c46).mono (fun y hy=>.inr (by simp at hy;omega))⟩
end Go.Proofs.YtbidkcjendncaaaGreat
end
