/- Contracts: sets of coins: length, total, taking; in order; copies. Errors, and views of coins, as they lie. Contracts: a set of coins, as the document's list of them. Chains on the heap. Contracts: sum. Plain: entries that are added anew, and dropped from the last one on. The walk of GraphAgain. Plain: what comes in place of others; what an entry conflicts with. Plain: what is left of a list of co -/
import Derived.RowKit
import Derived.OpenShut
import Derived.Deep.Slices
import Derived.ChangeSame
import Derived.Shelf.Bits.Mul64
import Derived.Ground.Names2Prog
import Derived.Ground.SlgnProg
import Derived.Ground.SlgfProg
import Derived.Test.YtbidkcjendncaaaGreatDoorProg
import Derived.Ground.NamesProg
import Derived.KernelRfl
import Derived.Test.YtbidkcjendncaaaGreatDoorDa18
set_option linter.unusedVariables false
set_option linter.unusedSimpArgs false
section
namespace Go.Proofs.YtbidkcjendncaaaGreatDoor
open Go Go.K
attribute [local irreducible] regK codeK retK KOp.wp
section
attribute [local irreducible] K.Spec
theorem ctotal_spec {t:TypeId} {b mb:Nat} {m:List En} (w:World) (h:SetE t w b mb m):K.Spec Tryz.prog F.coins_Set_Total [.pointer (some ⟨b,0,none⟩)] w fun v w'=>v=.int .i64 (tot m)∧Ext w w':=by
 refine s_coins_Set_Total rfl ?_
 unfold k_coins_Set_Total
 refine oy ?_
 have r:=h.row
 repeat (first|refine go ?_|refine zg (fun _ _=>?_)|refine zi (fun _ _=>?_))
 exact x_ret rfl ⟨rfl,Ext.refl _⟩
theorem ctake_spec {t:TypeId} {b mb:Nat} {m:List En} (p:Pt) (w:World) (h:SetE t w b mb m):K.Spec Tryz.prog F.coins_Set_Take [.pointer (some ⟨b,0,none⟩),p.val] w fun v w'=>
  v=.tuple #[(takeCoin m p).val,.int .i64 (takeCode m p)]∧SetE t w' b mb (takeMap m p)∧Chg [b,mb] w w':=by
 have r:=h.row
 have hM:=h.2.1
 have hne:=h.ne
 have hb:=h.1.lt
 have hmb:=h.2.1.lt
 refine s_coins_Set_Take rfl ?_
 unfold k_coins_Set_Take
 refine oy ?_
 repeat' (first|(refine zD (d:=some 3) rfl rfl (fun b1 w1 x1 a1 (r1:Row w1 ⟨b1,0,none⟩ p.cs) hb1=>?_))|(refine zH (d:=some 4) (fun b2 w2 x2 a2 hb2=>?_);have s2:w.heap.size≤b2:=Nat.le_trans x1.size hb2)|(refine st_lookupOk (d:=some 17) (E:=ptK) (fv:=Cn.val) (k:=p) rfl rfl (MapE.ext (w:=w) (by exact fx) hM) rfl rfl (fun c hc=>?_) (fun hc=>?_))|(refine zH (d:=some 6) (fun b6 w6 x6 a6 hb6=>?_);have s6:w.heap.size≤b6:=Nat.le_trans (Ext.size (w:=w) (by exact fx)) hb6;have s26:w2.heap.size≤b6:=Nat.le_trans (Ext.size (w:=w2) (by exact fx)) hb6;have s16:w1.heap.size≤b6:=Nat.le_trans (Ext.size (w:=w1) (by exact fx)) hb6)|(first|refine go1 ?_|refine zg (fun _ _=>?_)|refine zi (fun _ _=>?_)))
 ·have l1:=a1.lt
  have l2:=a2.lt
  refine st_setN (w0:=w) (n:=3) (vs:=c.cs) (by exact fx) s6 a6 rfl rfl rfl rfl rfl (fun w7 x7 c7 a7 r7=>?_)
  have a27:=At.chg c7 (At.ext (w:=w2) (by exact fx) a2) (by simp;omega)
  have r17:Row w7 ⟨b1,0,none⟩ p.cs:=Row.chg c7 (Row.ext (w:=w1) (by exact fx) r1) (by simp;omega)
  have h7:=h.ext x7
  have row7:=h7.row
  have l26:b2≠b6:=by omega
  clear x1 x2 x6 a1 r1 a2 a6 r c7 hM
  repeat (first|(refine zg (fun w8 x8=>?_))|(first|refine go1 ?_|refine zg (fun _ _=>?_)|refine zi (fun _ _=>?_)))
  have h8:=h7.ext x8
  refine st_delete (E:=ptK) (fv:=Cn.val) (k:=p) rfl rfl h8.2.1 rfl rfl (fun w9 c9 hM9=>?_)
  have a9:=h8.1.chg c9 (by simp;omega)
  have row9:=Row.of_at a9
  have r69:Row w9 ⟨b6,0,none⟩ c.cs:=Row.chg c9 (Row.ext x8 r7) (by simp;omega)
  have a29:=At.chg c9 (At.ext x8 a27) (by simp;omega)
  have x08:=x7.trans x8
  have hv:=Mon.le h.2.2.1 _ (aget_mem hc)
  have hv0:=h.2.2.1 _ (aget_mem hc)
  have hT:=h.2.2.2
  simp only at hv hv0
  clear x7 x8 h7 h8 row7 r7 r17 a27 a7
  repeat (first|(refine zg (fun w10 x10=>?_))|(first|refine go1 ?_|refine zg (fun _ _=>?_)|refine zi (fun _ _=>?_)))
  refine st_store (b:=b) (o:=1) rfl rfl rfl (a9.ext x10) (by simp) (fun w11 c11 a11=>?_)
  have r611:Row w11 ⟨b6,0,none⟩ c.cs:=Row.chg c11 (Row.ext x10 r69) (by simp;omega)
  have a211:=At.chg c11 (At.ext x10 a29) (by simp;omega)
  have hM11:=(hM9.ext x10).chg c11 (by simp;omega)
  have c011:=(Chg.trans x08 (c9.trans (Chg.trans x10 c11)))
  clear x10 c9 a9 row9 r69 a29
  repeat (first|refine go1 ?_|refine zg (fun _ _=>?_)|refine zi (fun _ _=>?_))
  refine st_storeN0 (b:=b2) (vs:=c.cs) rfl rfl rfl (all_one rfl) a211 rfl (fun w12 c12 a12=>?_)
  repeat (first|refine go1 ?_|refine zg (fun _ _=>?_)|refine zi (fun _ _=>?_))
  refine x_ret (ret2 (rv_cell (Row.of_at a12) rfl rfl) rv_tmp) ⟨by rw [takeCoin,takeCode,hc];rfl,⟨?_,?_,h.2.2.del p⟩,?_⟩
  ·rw [takeMap,tot_del h.2.1.nodup hc]
   exact a11.chg c12 (by simp;omega)
  ·exact hM11.chg c12 (by simp;omega)
  ·refine (c011.trans c12).mono ?_
   intro y hy
   simp at hy ⊢
   omega
 ·have l2:=a2.lt
  refine st_setN (w0:=w) (n:=3) (vs:=cn0.cs) (by exact fx) s6 a6 rfl rfl rfl rfl rfl (fun w7 x7 c7 a7 r7=>?_)
  have a27:=At.chg c7 (At.ext (w:=w2) (by exact fx) a2) (by simp;omega)
  repeat (first|refine go1 ?_|refine zg (fun _ _=>?_)|refine zi (fun _ _=>?_))
  refine st_setN (w0:=w) (n:=3) (vs:=cn0.cs) (by exact fx) s2 a27 rfl rfl rfl rfl rfl (fun w8 x8 c8 a8 r8=>?_)
  repeat (first|refine go1 ?_|refine zg (fun _ _=>?_)|refine zi (fun _ _=>?_))
  refine x_ret (ret2 (rv_cell r8 rfl rfl) rv_tmp) ⟨by rw [takeCoin,takeCode,hc];rfl,?_,Chg.mono x8 (by simp)⟩
  rw [takeMap,adel_none hc];exact h.ext x8
end
def ordC (a b:En):Int:=if ptLt a.1 b.1 then -1 else if ptLt b.1 a.1 then 1 else 0
theorem ordC_lt (a b:En):ltOf ordC a b=ptLt a.1 b.1:=by
 unfold ltOf ordC
 cases h:ptLt a.1 b.1
 ·cases h':ptLt b.1 a.1<;>simp
 ·simp
theorem ord_swo:Sort.SWO (ltOf ordC) where
 irrefl x:=by rw [ordC_lt,ptLt_irrefl]
 trans x y z h h':=by rw [ordC_lt] at*;exact ptLt_trans h h'
 ntrans x y z h h':=by
  rw [ordC_lt] at*
  cases h2:ptLt x.1 z.1
  ·rfl
  ·cases h3:ptLt y.1 x.1
   ·have e:=ptLt_tri h h3
    rw [e] at h2;rw [h2] at h';cases h'
   ·have:=ptLt_trans h3 h2
    rw [this] at h';cases h'
section
attribute [local irreducible] K.Spec
theorem corder_spec (a b:En) (w:World):K.Spec Tryz.prog F.coins_order [.agg (entE.f a).toArray,.agg (entE.f b).toArray] w fun v w'=>v=.int .i64 (ordC a b)∧Ext w w'∧w.drawn≤w'.drawn:=by
 refine s_coins_order rfl ?_
 unfold k_coins_order
 refine oy ?_
 repeat' (first|(refine st_boxD (d:=some 2) (cs:=entE.f a) rfl rfl (fun b1 w1 x1 d1 r1=>?_))|(refine st_boxD (d:=some 3) (cs:=entE.f b) rfl rfl (fun b2 w2 x2 d2 r2=>?_))|(refine st_call (d:=some 10) rfl (otless_spec a.1 b.1 _) ?_;rintro _ w3 ⟨rfl,x3,d3⟩)|(refine st_call (d:=some 16) rfl (otless_spec b.1 a.1 _) ?_;rintro _ w4 ⟨rfl,x4,d4⟩)|(refine c_condB (x:=.tmp 5) rfl (fun h=>?_) (fun h=>?_))|(refine c_condB (x:=.tmp 11) rfl (fun h2=>?_) (fun h2=>?_))|(first|refine go1 ?_|refine zg (fun _ _=>?_)|refine zi (fun _ _=>?_)))
 ·exact x_ret rfl ⟨congrArg (Value.int .i64) (by rw [ordC,h];rfl),by repeat (first|assumption|exact Ext.refl _|refine Ext.trans ?_ (by assumption)),by omega⟩
 ·exact x_ret rfl ⟨congrArg (Value.int .i64) (by rw [ordC,h,h2];rfl),by repeat (first|assumption|exact Ext.refl _|refine Ext.trans ?_ (by assumption)),by omega⟩
 ·exact x_ret rfl ⟨congrArg (Value.int .i64) (by rw [ordC,h,h2];rfl),by repeat (first|assumption|exact Ext.refl _|refine Ext.trans ?_ (by assumption)),by omega⟩
end
theorem order_lays (b n:Nat) (w:World):CmpLays Tryz.prog F.coins_order #[] entE.f entE.k ordC b 0 n w:=fun m os dk _ x y=>
 (corder_spec x y _).mono fun e w' ⟨v,he,hv,hx,hd⟩=>⟨by rw [he,hv],hx.grown hd⟩
theorem csort_spec {v:Value} {l:List En} {t:TypeId} {B:Nat} {w:World} (ho:Own entE t B w v l) (hl:l.length≤100000):
  K.Spec Tryz.prog F.slices_SortFunc_L_coins_Entry_coins_Entry [v,.func (.func F.coins_order) #[] #[]] w fun r w'=>r=.tuple #[]∧∃l':List En,l'.Perm l∧l'.Pairwise (fun a b=>ltOf ordC b a=false)∧SlE entE w' v l'∧Chg (blkOf v) w w':=by
 refine sort_at ho (fun cap=>?_) (fun b cap hv hH hb=>?_)
 ·exact (AnyF.slices_SortFunc_none Tryz.sortEntry none cap _ w).mono fun e w' ⟨he,hw⟩=>⟨_,he,rfl,hw⟩
 ·exact AnyQ.slices_SortFunc Tryz.sortEntry 5 Tryz.isAgg52 Tryz.sizeOf52 entE.f (fun _=>rfl) entE.one ordC ord_swo F.coins_order #[] b 0 cap l.toArray w (enters_of Tryz.func64 (by kernel_rfl) rfl) (order_lays b _ w) hH hb (by simp;omega)
attribute [local irreducible] K.Spec
theorem call_spec {t:TypeId} {b mb:Nat} {m:List En} (w:World) (h:SetE t w b mb m) (hn:m.length≤100000):K.Spec Tryz.prog F.coins_Set_All [.pointer (some ⟨b,0,none⟩)] w fun v w'=>
  ∃l':List En,l'.Perm m∧l'.Pairwise (fun a b=>ltOf ordC b a=false)∧SlE entE w' v l'∧(∀x∈blkOf v,w.heap.size≤x)∧Ext w w':=by
 refine s_coins_Set_All rfl ?_
 unfold k_coins_Set_All
 refine oy ?_
 have r:=h.row
 have hb:=h.1.lt
 have hmb:=h.2.1.lt
 repeat (first|refine go ?_|refine zg (fun _ _=>?_)|refine zi (fun _ _=>?_))
 refine st_range rfl h.2.1 (fun it w1 x1 i1 hit=>?_)
 repeat (first|refine go ?_|refine zg (fun _ _=>?_)|refine zi (fun _ _=>?_))
 refine c_loopV (fun (s:List En × Value × List En) w'=>Ext w w'∧IterE ptK Cn.val w' it mb s.1∧Own entE T.coins_Entry w.heap.size w' s.2.1 s.2.2∧(s.2.2++s.1).Perm m)
  (fun s=> [(3,s.2.1),(12,.pointer (some ⟨it,0,none⟩))]) (fun s=>s.1.length) (m,.slice none 0 0, []) ⟨rfl,rfl,trivial⟩ ⟨x1,i1,Own.nil _ _ _,by simp⟩ ?_
 rintro ⟨left,vo,out⟩ ρ w2 ⟨x2,i2,ho,hp⟩
 simp only at i2 ho hp
 repeat (first|refine go ?_|refine zg (fun _ _=>?_)|refine zi (fun _ _=>?_))
 have fit:∀{w':World} {left':List En},IterE ptK Cn.val w' it mb left'→∀{v':Value} {o':List En},Own entE T.coins_Entry w.heap.size w' v' o'→it∉blkOf v'∧mb∉blkOf v':=by
  intro w' left' hI v' o' hO
  obtain ⟨es,clock,seen,a1,a2,_⟩:=hI
  exact ⟨hO.free a1 (by simp),hO.free a2 (by simp)⟩
 have hlen:out.length+left.length≤100000:=by have:=hp.length_eq;simp at this;omega
 refine st_next rfl i2 (fun h0 w3 x3=>?_) (fun a p c hl w3 c3 i3 p3=>?_)
 ·repeat (first|refine go ?_|refine zg (fun _ _=>?_)|refine zi (fun _ _=>?_))
  subst h0
  rw [List.append_nil] at hp
  simp at hlen
  refine st_call rfl (csort_spec (ho.ext x3) hlen) ?_
  rintro _ w4 ⟨rfl,l',hp',hs',hsl,c4⟩
  repeat (first|refine go ?_|refine zg (fun _ _=>?_)|refine zi (fun _ _=>?_))
  exact x_ret rfl ⟨l',hp'.trans hp,hs',hsl,ho.base,(((Ext.trans x2 x3).chg (show Chg (blkOf vo) _ _ from c4)).mono (fun b hb=>.inr (ho.base b (by simpa using hb))))⟩
 ·have ho3:=ho.chg c3 (fun y hy=>by have:=(fit i2 ho).1;simp;rintro rfl;exact this hy)
  have x03:Unit→Ext w w3:=fun _=>(Ext.chg x2 c3).mono (by intro y hy;simp at hy ⊢;omega)
  repeat (first|refine go ?_|refine zg (fun _ _=>?_)|refine zi (fun _ _=>?_))
  refine st_entry rfl p3 ?_
  repeat (first|refine go ?_|refine zg (fun _ _=>?_)|refine zi (fun _ _=>?_))
  refine st_local22 rfl (fun _ _=>rfl) (fun _ _=>rfl) rfl rfl rfl rfl rfl rfl (fun b4 b5 w4 x4 r4 r5 hb4 hb5=>?_)
  repeat (first|refine go ?_|refine zg (fun _ _=>?_)|refine zi (fun _ _=>?_))
  refine st_buildSlice rfl (fun b6 w6 x6 a6 hb6=>?_)
  repeat (first|refine go ?_|refine zg (fun _ _=>?_)|refine zi (fun _ _=>?_))
  have hll:left.length=a.length+c.length+1:=by rw [hl];simp;omega
  refine st_append (E:=entE) (v:=vo) (l2:= [p]) rfl ((ho3.ext x4).ext x6) (((x03 ()).trans x4).trans x6).size rfl rfl (sl_new a6 rfl) rfl rfl (by simp;omega) (fun vo' w7 ho7 c7=>?_)
  repeat (first|refine go ?_|refine zg (fun _ _=>?_)|refine zi (fun _ _=>?_))
  have i6:=(i3.ext x4).ext x6
  have hf:=fit i6 ((ho3.ext x4).ext x6)
  refine ⟨(a++c,vo',out++ [p]),⟨rfl,rfl,trivial⟩,⟨((((x03 ()).trans x4).trans x6).chg c7).mono (fun y hy=>.inr (ho.base y (by simpa using hy))),i6.chg c7 hf.1 hf.2,ho7,?_⟩,by simp;omega⟩
  refine List.Perm.trans ?_ hp
  show ((out++ [p])++(a++c)).Perm (out++left)
  rw [hl,List.append_assoc]
  refine List.Perm.append_left _ ?_
  simpa using (List.perm_middle (a:=p) (l₁:=a) (l₂:=c)).symm
section
attribute [local semireducible] K.Spec
theorem cclone_spec {mb:Nat} {m:List En} (w:World) (h:MapE ptK Cn.val w mb m):K.Spec Tryz.prog F.maps_Clone_map_api_Point_api_Coin_api_Point_api_Coin [.map (some mb)] w fun v w'=>∃mb',v=.map (some mb')∧MapE ptK Cn.val w' mb' m∧w.heap.size≤mb'∧Ext w w':=by
 obtain ⟨es,clock,h1,h2⟩:=h
 refine (AnyW.maps_Clone Tryz.cloneMap59 mb es clock w h1).mono fun e w' ⟨he,hw⟩=>⟨_,he,_,rfl,?_⟩
 subst hw
 exact ⟨⟨es,clock,At.new _ _,h2⟩,Nat.le_refl _,Ext.alloc _ _⟩
end
theorem ccopy_spec {t:TypeId} {b mb:Nat} {m:List En} (w:World) (h:SetE t w b mb m):K.Spec Tryz.prog F.coins_Set_Copy [.pointer (some ⟨b,0,none⟩)] w fun v w'=>
  ∃b' mb',v=.pointer (some ⟨b',0,none⟩)∧SetE T.coins_Set w' b' mb' m∧w.heap.size≤b'∧w.heap.size≤mb'∧Ext w w':=by
 refine s_coins_Set_Copy rfl ?_
 unfold k_coins_Set_Copy
 refine oy ?_
 have r:=h.row
 repeat (first|refine go ?_|refine zg (fun _ _=>?_)|refine zi (fun _ _=>?_))
 rename_i w1 x1
 refine st_both ?_ ?_
 ·refine st_call rfl (cclone_spec _ (h.2.1.ext x1)) ?_
  rintro _ w2 ⟨mb',rfl,hM,hmb,x2⟩
  repeat (first|refine go ?_|refine zg (fun _ _=>?_)|refine zi (fun _ _=>?_))
  refine st_box rfl rfl (fun b3 w3 x3 a3 r3 hb3=>?_)
  repeat (first|refine go ?_|refine zg (fun _ _=>?_)|refine zi (fun _ _=>?_))
  have:=x1.size
  have:=x2.size
  exact x_ret rfl ⟨b3,mb',rfl,⟨a3,hM.ext x3,h.2.2⟩,by omega,by omega,by repeat (first|assumption|exact Ext.refl _|refine Ext.trans ?_ (by assumption))⟩
 ·repeat (first|refine go ?_|refine zg (fun _ _=>?_)|refine zi (fun _ _=>?_))
  refine st_call rfl (cclone_spec _ (h.2.1.ext x1)) ?_
  rintro _ w2 ⟨mb',rfl,hM,hmb,x2⟩
  repeat (first|refine go ?_|refine zg (fun _ _=>?_)|refine zi (fun _ _=>?_))
  refine st_box rfl rfl (fun b3 w3 x3 a3 r3 hb3=>?_)
  repeat (first|refine go ?_|refine zg (fun _ _=>?_)|refine zi (fun _ _=>?_))
  have:=x1.size
  have:=x2.size
  exact x_ret rfl ⟨b3,mb',rfl,⟨a3,hM.ext x3,h.2.2⟩,by omega,by omega,by repeat (first|assumption|exact Ext.refl _|refine Ext.trans ?_ (by assumption))⟩
end Go.Proofs.YtbidkcjendncaaaGreatDoor
end
section
namespace Go.Proofs.YtbidkcjendncaaaGreatDoor
open Go Go.K
section
variable {P:Program} {d:Option Tmp} {r:KR} {K:Env→World→Prop} {ρ:Env} {w:World}
theorem st_invoke {x:Operand} {name:String} {args:List Operand} {t:TypeId} {u rv:Value} {fn:FuncId} {vs:List Value} {R:Value→World→Prop} (hx:ev ρ x=.iface t u) (hm:methodOf P t u name=some (fn,rv)) (hb:hasBody P fn=true) (ha:rv::args.map (ev ρ)=vs)
  (h:Go.K.Spec P fn vs w R) (k:∀v w',R v w'→regK P r K (put ρ d v) w'):regK P (.cons ⟨d,.invoke x name args,none⟩ r) K ρ w:=
 st_wp ⟨t,u,fn,rv,hx,hm,hb,by subst ha;exact h.mono fun e w' ⟨v,hv,hR⟩=>⟨v,hv,k v w' hR⟩⟩
theorem st_nilM {f:TypeId→Value→String→Bool} {x:Operand} {name:String} {t:TypeId} {u:Value} (hx:ev ρ x=.func (.method name) #[.iface t u] #[]) (hm:f t u name=true) (k:regK P r K (put ρ d (.func (.method name) #[.iface t u] #[])) w):regK P (.cons ⟨d,.nilM f x,none⟩ r) K ρ w:=
 st_fix rfl (by simp [KOp.fix,hx,hm]) k
end
theorem mo_of {t:TypeId} {u:Value} {s:String} (h:metOk Tryz.prog t u s=true):mo t u s=true:=by unfold mo;exact h
abbrev errno (c:Int):Value:=.iface T.api_Errno (.int .i64 c)
def ErrR (w:World):Nat→Value→Int→Int→Prop
 |0,v,c,a=>a= -1∧(c=0∧v=.nilIface∨c≠0∧v=errno c)
 |d+1,v,c,a=>ErrR w d v c a∨c≠0∧0≤a∧∃b u a',v=.iface T.P_api_Fault (.pointer (some ⟨b,0,none⟩))∧At w b (.cells [.int .i64 a,u].toArray T.api_Fault (0,0))∧ErrR w d u c a'
theorem ErrR.ext {w w':World} (x:Ext w w'):∀{d:Nat} {v:Value} {c a:Int},ErrR w d v c a→ErrR w' d v c a
 |0,_,_,_,h=>h
 |_+1,_,_,_,.inl h=>.inl (ErrR.ext x h)
 |_+1,_,_,_,.inr ⟨h1,h2,b,u,a',h3,h4,h5⟩=>.inr ⟨h1,h2,b,u,a',h3,h4.ext x,ErrR.ext x h5⟩
theorem ErrR.none_ (w:World) (d:Nat):ErrR w d .nilIface 0 (-1):=by
 induction d with
 |zero=>exact ⟨rfl,.inl ⟨rfl,rfl⟩⟩
 |succ d ih=>exact .inl ih
theorem ErrR.num (w:World) (d:Nat) {c:Int} (h:c≠0):ErrR w d (errno c) c (-1):=by
 induction d with
 |zero=>exact ⟨rfl,.inr ⟨h,rfl⟩⟩
 |succ d ih=>exact .inl ih
theorem ErrR.nil_iff {w:World}:∀{d:Nat} {v:Value} {c a:Int},ErrR w d v c a→(c=0→v=.nilIface∧a= -1)∧(c≠0→∃t u,v=.iface t u)
 |0,_,_,_,⟨h1,h2⟩=>by
  rcases h2 with ⟨h2,h3⟩|⟨h2,h3⟩
  ·exact ⟨fun _=>⟨h3,h1⟩,fun h=>absurd h2 h⟩
  ·exact ⟨fun h=>absurd h h2,fun _=>⟨_,_,h3⟩⟩
 |_+1,_,_,_,.inl h=>ErrR.nil_iff h
 |_+1,_,_,_,.inr ⟨h1,_,_,_,_,h3,_⟩=>⟨fun h=>absurd h h1,fun _=>⟨_,_,h3⟩⟩
def ViewR (w:World) (v:Value) (f:Pt→Option Cn):Prop:=(∃t u,v=.iface t u∧∀p:Pt,is32 p.i→∀w1,Ext w w1→∃fn rv,metOk Tryz.prog t u "Get" =true∧methodOf Tryz.prog t u "Get" =some (fn,rv)∧hasBody Tryz.prog fn=true∧
  K.Spec Tryz.prog fn [rv,.agg p.cs.toArray] w1 fun r w2=>∃c:Cn,r=.tuple #[.agg c.cs.toArray,.bool (f p).isSome]∧(f p).getD cn0=c∧Ext w1 w2)∧∀p c,f p=some c→c.s.size≤1000000
theorem ViewR.ext {w w':World} {v:Value} {f:Pt→Option Cn} (h:ViewR w v f) (x:Ext w w'):ViewR w' v f:=by
 obtain ⟨⟨t,u,e,h⟩,h2⟩:=h
 exact ⟨⟨t,u,e,fun p hp w1 x1=>h p hp w1 (x.trans x1)⟩,h2⟩
theorem ViewR.of_set {w:World} {b mb:Nat} {m:List En} (h:SetE T.coins_Set w b mb m) (hs:∀e∈m,e.2.s.size≤1000000):ViewR w (.iface T.P_coins_Set (.pointer (some ⟨b,0,none⟩))) (aget m):=by
 refine ⟨⟨_,_,rfl,fun p hp w1 x1=>⟨F.coins_Set_Get,.pointer (some ⟨b,0,none⟩),by kernel_rfl,by kernel_rfl,by kernel_rfl,?_⟩⟩,fun p c hc=>hs _ (aget_mem hc)⟩
 have:=cget_spec p w1 (h.ext x1)
 unfold K.Spec at this ⊢
 exact this.mono fun e w2 ⟨v,e1,e2,x2⟩=>⟨v,e1,takeCoin m p,e2,rfl,x2⟩
end Go.Proofs.YtbidkcjendncaaaGreatDoor
end
section
namespace Go.K
open Go Go.Proofs.YtbidkcjendncaaaGreatDoor
def SetP (t:TypeId) (w:World) (b mb:Nat) (l:List En):Prop:=Srt l∧∃m:List En,m.Perm l∧SetE t w b mb m
theorem SetP.chg {t:TypeId} {w w':World} {b mb:Nat} {l:List En} {L:List Nat} (hc:Chg L w w') (h:SetP t w b mb l) (h1:b∉L) (h2:mb∉L):SetP t w' b mb l:=by
 obtain ⟨hs,m,hp,h⟩:=h
 exact ⟨hs,m,hp,h.chg hc h1 h2⟩
theorem SetP.ext {t:TypeId} {w w':World} {b mb:Nat} {l:List En} (hc:Ext w w') (h:SetP t w b mb l):SetP t w' b mb l:=h.chg hc (by simp) (by simp)
theorem SetP.lt {t:TypeId} {w:World} {b mb:Nat} {l:List En} (h:SetP t w b mb l):b<w.heap.size∧mb<w.heap.size:=by
 obtain ⟨_,m,_,h⟩:=h
 exact ⟨h.1.lt,h.2.1.lt⟩
theorem SetP.ne {t:TypeId} {w:World} {b mb:Nat} {l:List En} (h:SetP t w b mb l):b≠mb:=by
 obtain ⟨_,m,_,h⟩:=h
 exact h.ne
theorem SetP.mon {t:TypeId} {w:World} {b mb:Nat} {l:List En} (h:SetP t w b mb l):Mon l:=by
 obtain ⟨_,m,hp,h⟩:=h
 exact ⟨fun e he=>h.2.2.1 e (hp.mem_iff.2 he),by rw [←tot_perm hp];exact h.2.2.2⟩
end Go.K
namespace Go.Proofs.YtbidkcjendncaaaGreatDoor
open Go Go.K
attribute [local irreducible] regK codeK retK KOp.wp K.Spec
theorem viewP {w:World} {b mb:Nat} {l:List En} (h:SetP T.coins_Set w b mb l) (hs:∀e∈l,e.2.s.size≤1000000):ViewR w (.iface T.P_coins_Set (.pointer (some ⟨b,0,none⟩))) (aget l):=by
 obtain ⟨hq,m,hp,h⟩:=h
 have e:aget m=aget l:=funext fun p=>aget_perm hp hq p
 rw [←e]
 exact ViewR.of_set h fun x hx=>hs x (hp.mem_iff.1 hx)
theorem pnew_spec (w:World):K.Spec Tryz.prog F.coins_New [] w fun v w'=>∃b mb,v=.pointer (some ⟨b,0,none⟩)∧SetP T.coins_Set w' b mb []∧w.heap.size≤b∧w.heap.size≤mb∧Ext w w':=
 spec_mono (cnew_spec w) fun v w' ⟨b,mb,e,h,h1,h2,x⟩=>⟨b,mb,e,⟨.nil, [],List.Perm.refl _,h⟩,h1,h2,x⟩
theorem pget_spec {b mb:Nat} {l:List En} (p:Pt) (w:World) (h:SetP T.coins_Set w b mb l):K.Spec Tryz.prog F.coins_Set_Get [.pointer (some ⟨b,0,none⟩),p.val] w fun v w'=>v=.tuple #[(refCoin l p).val,.bool (aget l p).isSome]∧Ext w w':=by
 obtain ⟨hs,m,hp,h⟩:=h
 refine spec_mono (cget_spec p w h) fun v w' ⟨e,x⟩=>⟨?_,x⟩
 rw [e,take_coin hp hs,aget_perm hp hs]
theorem pput_spec {b mb:Nat} {l:List En} (p:Pt) (c:Cn) (w:World) (h:SetP T.coins_Set w b mb l):K.Spec Tryz.prog F.coins_Set_Put [.pointer (some ⟨b,0,none⟩),p.val,c.val] w fun v w'=>
  v=.int .i64 (refPutCode l p c)∧SetP T.coins_Set w' b mb (refPut l p c)∧Chg [b,mb] w w':=by
 obtain ⟨hs,m,hp,h⟩:=h
 refine spec_mono (cput_spec p c w h) fun v w' ⟨e,h',x⟩=>⟨?_,⟨(put_sim hp hs p c).2.1,_,(put_sim hp hs p c).1,h'⟩,x⟩
 rw [e,put_code hp hs]
theorem ptake_spec {b mb:Nat} {l:List En} (p:Pt) (w:World) (h:SetP T.coins_Set w b mb l):K.Spec Tryz.prog F.coins_Set_Take [.pointer (some ⟨b,0,none⟩),p.val] w fun v w'=>
  v=.tuple #[(refCoin l p).val,.int .i64 (refTakeCode l p)]∧SetP T.coins_Set w' b mb (refTake l p)∧Chg [b,mb] w w':=by
 obtain ⟨hs,m,hp,h⟩:=h
 refine spec_mono (ctake_spec p w h) fun v w' ⟨e,h',x⟩=>⟨?_,⟨(take_sim hp hs p).2.1,_,(take_sim hp hs p).1,h'⟩,x⟩
 rw [e,take_coin hp hs,take_code hp hs]
theorem ptotal_spec {b mb:Nat} {l:List En} (w:World) (h:SetP T.coins_Set w b mb l):K.Spec Tryz.prog F.coins_Set_Total [.pointer (some ⟨b,0,none⟩)] w fun v w'=>v=.int .i64 (tot l)∧Ext w w':=by
 obtain ⟨hs,m,hp,h⟩:=h
 refine spec_mono (ctotal_spec w h) fun v w' ⟨e,x⟩=>⟨?_,x⟩
 rw [e,tot_perm hp]
theorem pall_spec {b mb:Nat} {l:List En} (w:World) (h:SetP T.coins_Set w b mb l) (hn:l.length≤100000):K.Spec Tryz.prog F.coins_Set_All [.pointer (some ⟨b,0,none⟩)] w fun v w'=>SlE entE w' v l∧(∀x∈blkOf v,w.heap.size≤x)∧Ext w w':=by
 obtain ⟨hs,m,hp,h⟩:=h
 refine spec_mono (call_spec w h (by rw [hp.length_eq];exact hn)) fun v w' ⟨l',hp',hs',hsl,hb,x⟩=>⟨?_,hb,x⟩
 have hp2:=hp'.trans hp
 have e:l'=l:=sorted_eq hp2 (hs'.imp fun {a b} q=>by rwa [ordC_lt] at q) hs
 rw [←e];exact hsl
theorem pcopy_spec {b mb:Nat} {l:List En} (w:World) (h:SetP T.coins_Set w b mb l):K.Spec Tryz.prog F.coins_Set_Copy [.pointer (some ⟨b,0,none⟩)] w fun v w'=>
  ∃b' mb',v=.pointer (some ⟨b',0,none⟩)∧SetP T.coins_Set w' b' mb' l∧w.heap.size≤b'∧w.heap.size≤mb'∧Ext w w':=by
 obtain ⟨hs,m,hp,h⟩:=h
 exact spec_mono (ccopy_spec w h) fun v w' ⟨b',mb',e,h',h1,h2,x⟩=>⟨b',mb',e,⟨hs,m,hp,h'⟩,h1,h2,x⟩
end Go.Proofs.YtbidkcjendncaaaGreatDoor
end
section
namespace Go.K
open Go Go.Proofs.YtbidkcjendncaaaGreatDoor
end Go.K
namespace Go.Proofs.YtbidkcjendncaaaGreatDoor
open Go Go.K
end Go.Proofs.YtbidkcjendncaaaGreatDoor
end
section
namespace Go.Proofs.YtbidkcjendncaaaGreatDoor
open Go Go.K
attribute [local irreducible] regK codeK retK KOp.wp K.Spec u32 leS vnS str zero32 sha2 encT idT sizeT checkT grantB
end Go.Proofs.YtbidkcjendncaaaGreatDoor
end
section
namespace Go.K
open Go
variable {l:List Ent}
end Go.K
end
section
namespace Go.Proofs.YtbidkcjendncaaaGreatDoor
open Go Go.K
attribute [local irreducible] regK codeK retK KOp.wp K.Spec u32 leS vnS str zero32 sha2 encT idT sizeT checkT grantB
end Go.Proofs.YtbidkcjendncaaaGreatDoor
end
section
namespace Go.K
open Go Go.Proofs.YtbidkcjendncaaaGreatDoor
section
variable {l:List Ent} {t:Tx}
end
end Go.K
end
section
namespace Go.K
open Go Go.Proofs.YtbidkcjendncaaaGreatDoor
end Go.K
end
section
namespace Go.K
open Go
def Reads (P:Program) (W:World) (t:TypeId) (cs:List Value):Prop:=
 ∃(H:Type) (enc:TypeId × Value→H) (base:Nat) (spare:Nat→Bool) (held:Bool) (fuel:Nat) (x:DataW H × List MemPlace),DataW.trod enc P W base spare held fuel t cs=some x
variable {P:Program} {W:World} {t:TypeId} {cs:List Value}
theorem reads_int {k:IntKind} (hu:P.underlying t=some (.int k)) (h:Reads P W t cs):∃n,cs= [.int k n]∧k.min≤n∧n≤k.max:=by
 obtain ⟨H,enc,base,spare,held,fuel,x,h⟩:=h
 obtain ⟨n,h1,_,h2⟩:=DataW.trod_int hu h
 exact ⟨n,h1,by simpa [Lit.wf] using h2⟩
theorem reads_bool (hu:P.underlying t=some .bool) (h:Reads P W t cs):∃b,cs= [.bool b]:=by
 obtain ⟨H,enc,base,spare,held,fuel,x,h⟩:=h
 obtain ⟨b,h1,_⟩:=DataW.trod_bool hu h
 exact ⟨b,h1⟩
theorem reads_string (hu:P.underlying t=some .string) (h:Reads P W t cs):∃s,cs= [.string s]∧s.size≤maxLen:=by
 obtain ⟨H,enc,base,spare,held,fuel,x,h⟩:=h
 obtain ⟨b,h1,_,h2⟩:=DataW.trod_string hu h
 exact ⟨b,h1,h2⟩
theorem reads_struct {fs:Array Field} (hu:P.underlying t=some (.struct fs)) (h:Reads P W t cs):cs.length=P.cellsOf t∧∀f∈fs.toList,Reads P W f.type ((cs.drop f.offset).take (P.cellsOf f.type)):=by
 obtain ⟨H,enc,base,spare,held,fuel,x,h⟩:=h
 obtain ⟨xs,n,_,rfl,hl,hlen,hf⟩:=DataW.trod_struct hu h
 refine ⟨hl,fun f hm=>?_⟩
 obtain ⟨i,hi,rfl⟩:=List.getElem_of_mem hm
 have h1:=hf i fs.toList[i] (by simp)
 cases hx:xs[i]? with
 |none=>exact absurd (List.getElem?_eq_none_iff.1 hx) (by simp at hi;omega)
 |some y=>rw [hx] at h1;exact ⟨H,enc,base,spare,held,n,y,h1⟩
theorem cells_row {base n:Nat} {a:Addr} {l:List Value} (h:W.cells? base a n=some l):l.length=n∧Row W a l:=by
 obtain ⟨_,h1,h2⟩:=World.cells?_some h
 refine ⟨h1,fun j v hj=>?_⟩
 rw [h2 j (by have:=(List.getElem?_eq_some_iff.1 hj).1;omega)];exact hj
theorem reads_slice {e:TypeId} (hu:P.underlying t=some (.slice e)) (h:Reads P W t cs):
  cs= [.slice none 0 0]∨∃(a:Addr) (len cap:Nat),cs= [.slice (some a) len cap]∧len≤cap∧cap≤maxLen∧∀i,i<len→∃c,c.length=P.cellsOf e∧Row W (a.add (i*P.cellsOf e)) c∧Reads P W e c:=by
 obtain ⟨H,enc,base,spare,held,fuel,x,h⟩:=h
 rcases Go.Deep.open_slice hu h with ⟨h1,_⟩|⟨a,len,cap,m,n,D,Pl,h1,_,hl,hm,rfl,_,hi⟩
 ·exact .inl h1
 ·refine .inr ⟨a,len,cap,h1,hl,hm,fun i hil=>?_⟩
  obtain ⟨c,h2,h3⟩:=hi i (by split<;>omega)
  have h4:=cells_row h2
  exact ⟨c,h4.1,h4.2,H,enc,base,spare,held,n,_,h3⟩
theorem row_append {a:Addr} {l l':List Value} (h:Row W a l) (h':Row W (a.add l.length) l'):Row W a (l++l'):=by
 intro j v hj
 by_cases hl:j<l.length
 ·rw [List.getElem?_append_left hl] at hj;exact h j v hj
 ·rw [List.getElem?_append_right (by omega)] at hj
  have:=h' _ v hj
  rwa [add_add,show l.length+(j - l.length)=j by omega] at this
end Go.K
end
section
namespace Go.K
open Go
variable {P:Program} {W:World} {t:TypeId}
theorem build_rel {α:Type} (E:R α) {a:Addr}:∀(n:Nat),(∀i,i<n→∃c x,Row W (a.add (i*E.k)) c∧E.rel [] W c x)→∃(css:List (Vec E.k)) (l:List α),css.length=n∧Row W a ((vecE E.k E.pos).flat css)∧E.all [] W css l
 |0,_=>⟨[], [],rfl,fun j v hj=>by simp [Enc.flat] at hj,.nil⟩
 |n+1,h=>by
  obtain ⟨css,l,h1,h2,h3⟩:=build_rel E n fun i hi=>h i (by omega)
  obtain ⟨c,x,hc,hx⟩:=h n (by omega)
  refine ⟨css++ [R.vec hx],l++ [x],by simp [h1],?_,h3.append (.cons hx .nil)⟩
  rw [Enc.flat_append]
  refine row_append h2 ?_
  rw [Enc.flat_length,h1]
  have e:(vecE E.k E.pos).flat [R.vec hx]=c:=by show c++ []=c;exact List.append_nil _
  rw [e];exact hc
theorem reads_slR {α:Type} (E:R α) {e:TypeId} {v:Value} (hu:P.underlying t=some (.slice e)) (hk:P.cellsOf e=E.k) (he:∀c,Reads P W e c→∃x,E.rel [] W c x) (h:Reads P W t [v]):∃l,SlR E [] W v l∧l.length≤maxLen:=by
 rcases reads_slice hu h with h1|⟨a,len,cap,h1,hl,hm,hi⟩
 ·simp at h1;subst h1
  exact ⟨[],SlR.nil _ _,by simp⟩
 ·simp at h1;subst h1
  obtain ⟨css,l,h2,h3,h4⟩:=build_rel (W:=W) E (a:=a) len fun i hil=>by
   obtain ⟨c,_,h4,h5⟩:=hi i hil
   obtain ⟨x,hx⟩:=he c h5
   exact ⟨c,x,by rw [←hk];exact h4,hx⟩
  subst h2
  exact ⟨l,⟨css,⟨Enc.flat_length _ css,some a,cap,rfl,hl,fun _=>⟨a,rfl,h3⟩⟩,h4,fun _ b _ hm=>by simp at hm⟩,by rw [←h4.length];omega⟩
def R.and {α:Type} (E:R α) (p:α→Prop):R α where
 k:=E.k
 pos:=E.pos
 ag:=E.ag
 rel:=fun M w cs x=>E.rel M w cs x∧p x
 len:=fun h=>E.len h.1
 one:=fun h=>E.one h.1
 step:=fun h c hL hM=>⟨E.step h.1 c hL hM,h.2⟩
theorem All2.right {α β:Type} {r:α→β→Prop} {q:β→Prop} (h:∀a b,r a b→q b):∀{l:List α} {m:List β},All2 r l m→∀b∈m,q b
 |_,_,.nil,b,hb=>by simp at hb
 |_,_,.cons h1 t,b,hb=>by
  rcases List.mem_cons.1 hb with rfl|hb
  ·exact h _ _ h1
  ·exact All2.right h t b hb
theorem SlR.both {α:Type} {E:R α} {p:α→Prop} {M:List Nat} {w:World} {v:Value} {l:List α} (h:SlR (E.and p) M w v l):SlR E M w v l∧∀x∈l,p x:=by
 obtain ⟨css,h1,h2,h3⟩:=h
 exact ⟨⟨css,h1,h2.mono fun _ _ h=>h.1,h3⟩,All2.right (fun _ _ h=>h.2) h2⟩
end Go.K
end
section
namespace Go.Proofs.YtbidkcjendncaaaGreatDoor
open Go Go.K
attribute [local irreducible] regK codeK retK KOp.wp K.Spec u32 leS vnS str zero32 sha2 encT idT sizeT checkT grantB
end Go.Proofs.YtbidkcjendncaaaGreatDoor
end
section
namespace Go.Proofs.YtbidkcjendncaaaGreatDoor
open Go Go.K
attribute [local irreducible] regK codeK retK KOp.wp K.Spec u32 leS vnS str zero32 sha2 encT idT sizeT checkT grantB
theorem OwnR.outs {t:TypeId} {B:Nat} {M M':List Nat} {w:World} {v:Value} {l:List TOut} (h:OwnR outR t B M w v l):OwnR outR t B M' w v l:=by
 obtain ⟨css,h1,h2⟩:=h
 exact ⟨css,h1,h2.mono fun _ _ hr=>hr⟩
end Go.Proofs.YtbidkcjendncaaaGreatDoor
end
section
namespace Go.Proofs.YtbidkcjendncaaaGreatDoor
open Go Go.K
attribute [local irreducible] regK codeK retK KOp.wp K.Spec u32 leS vnS str zero32 sha2 encT idT sizeT checkT grantB
end Go.Proofs.YtbidkcjendncaaaGreatDoor
end
section
namespace Go.Proofs.YtbidkcjendncaaaGreatDoor
open Go Go.K
attribute [local irreducible] regK codeK retK KOp.wp K.Spec u32 leS vnS str zero32 sha2 encT idT sizeT checkT grantB
end Go.Proofs.YtbidkcjendncaaaGreatDoor
end
section
namespace Go.Proofs
open Go.Shelf
def Tryz.lays264_ren:Go.Shelf.Ren:=⟨fun|264=>241|n=>n,fun|53=>288|46=>214|n=>n,fun|n=>n⟩
theorem Tryz.lays264 : Go.Proofs.Lays.n264 Tryz.prog Tryz.lays264_ren := {
  mixed := by kernel_rfl
  f264 := Tryz.func241.trans (congrArg some (by kernel_rfl))
  t46 := Tryz.underlying214
  a46 := Tryz.isAgg214
  z46 := Tryz.sizeOf214
  v46 := Tryz.zeroValue214
  t53 := Tryz.underlying288
  a53 := Tryz.isAgg288
  z53 := Tryz.sizeOf288
  v53 := Tryz.zeroValue288 }
open Go.RowKit Go.Lib in
theorem Tryz.bits_Mul64 (x y:Nat) (hx:x<18446744073709551616) (hy:y<18446744073709551616) (w:World):
  Calls Tryz.prog 241 #[.int .u64 x,.int .u64 y] w fun e w'=>e=.returned (.tuple #[.int .u64 ((x*y / 18446744073709551616:Nat):Int),.int .u64 ((x*y%18446744073709551616:Nat):Int)])∧w'=w:=Any.bits_Mul64 Tryz.lays264 x y hx hy w
end Go.Proofs
end
section
namespace Go.Proofs.YtbidkcjendncaaaGreatDoor
open Go Go.K
attribute [local irreducible] regK codeK retK KOp.wp K.Spec u32 leS vnS str zero32 sha2
def intE:Enc Int:=⟨fun n=> [.int .i64 n],1,fun _=>rfl,by decide,by intro x v hv;simp at hv;subst hv;rfl⟩
end Go.Proofs.YtbidkcjendncaaaGreatDoor
end
section
namespace Go.Proofs.YtbidkcjendncaaaGreatDoor
open Go Go.K
attribute [local irreducible] regK codeK retK KOp.wp K.Spec u32 leS vnS str zero32 sha2 encT idT sizeT checkT grantB
end Go.Proofs.YtbidkcjendncaaaGreatDoor
end
section
namespace Go.Proofs.YtbidkcjendncaaaGreatDoor
open Go Go.K
section
variable {P:Program} {d:Option Tmp} {r:KR} {K:Env→World→Prop} {ρ:Env} {w:World}
end
theorem Own.blk_lt {α:Type} {E:Enc α} {t:TypeId} {B:Nat} {w:World} {v:Value} {l:List α} (h:Own E t B w v l):∀b∈blkOf v,b<w.heap.size:=by
 rcases h with ⟨rfl,rfl⟩|⟨b,cap,junk,rfl,hB,hat,hl⟩<;>simp [blkOf]
 exact hat.lt
attribute [local irreducible] regK codeK retK KOp.wp K.Spec u32 leS vnS str zero32 sha2 encT idT sizeT checkT grantB
end Go.Proofs.YtbidkcjendncaaaGreatDoor
end
section
namespace Go.Proofs.YtbidkcjendncaaaGreatDoor
open Go Go.K
attribute [local irreducible] regK codeK retK KOp.wp K.Spec u32 leS vnS str zero32 sha2 encT idT sizeT checkT grantB
def s9:ByteArray:=⟨#[1,1,0,0,0,0,0,0,0]⟩
end Go.Proofs.YtbidkcjendncaaaGreatDoor
end
section
namespace Go.K
open Go
end Go.K
end
section
namespace Go.K
open Go
end Go.K
end
section
namespace Go.K
open Go
end Go.K
end
section
namespace Go.K
open Go
def sc9:List UInt8:= [1,1,0,0,0,0,0,0,0]
def oneM (L:List UInt8) (m:Nat):Tx:=⟨2, [⟨⟨str L,0⟩,4294967293, []⟩], [⟨1000,str sc9⟩],(m:Nat)⟩
def idL (n:Nat):List UInt8:=(List.range 32).map fun i=>UInt8.ofNat (n / 2^(i%8))^^^UInt8.ofNat i
def r80:List UInt8:= [25,42,22,115,193,51,64,181,222,26,82,10,253,151,117,98,228,107,119,5,141,58,45,0,248,199,16,181,194,251,33,230]
end Go.K
end
section
namespace Go.K
open Go
def eA (f:Int):Ent:=⟨oneM (idL 8) 0,str r80,f,69⟩
end Go.K
end
section
namespace Go.Proofs.YtbidkcjendncaaaGreatDoor
open Go Go.K
attribute [local irreducible] regK codeK retK KOp.wp K.Spec u32 leS vnS str zero32 sha2 encT idT sizeT checkT grantB oneM idL
attribute [local irreducible] eA
end Go.Proofs.YtbidkcjendncaaaGreatDoor
end
section
namespace Go.Proofs.YtbidkcjendncaaaGreatDoor
open Go Go.K
attribute [local irreducible] regK codeK retK KOp.wp K.Spec u32 leS vnS str zero32 sha2 encT idT sizeT checkT grantB
end Go.Proofs.YtbidkcjendncaaaGreatDoor
end
section
namespace Go.K
open Go Go.Proofs.YtbidkcjendncaaaGreatDoor
end Go.K
end
