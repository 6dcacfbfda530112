/- What is needed beyond the others. -/
import Derived.WalkKit
import Derived.Orders
import Derived.Still
import Derived.Laws.IdiomStrings
import Derived.Laws.BytesString
import Derived.Below
import Derived.Sort.Grow
import Derived.Deep.Draws
import Derived.Lib.OthersKept
import Derived.Lib.Bytealg
import Derived.Test.YtbidkcjendncaaaGreatDoorProg
import Derived.KernelRfl
import Derived.Shelf.Strings.Builder1
import Derived.Shelf.Strings.Builder2
import Derived.Shelf.Small.Strs
import Derived.Shelf.Strings.BuilderF
import Derived.Shelf.Strings.BuilderK
import Derived.Shelf.Strings.Prefix
import Derived.Shelf.Bits.Mul64
import Derived.Shelf.Strings.Repeat
import Derived.Ground.Names2Prog
import Derived.Ground.SlgnProg
import Derived.Ground.SlgfProg
import Derived.Ground.SlmcProg
import Derived.Shelf.SlMaps.Clone
import Derived.Shelf.SlicesE.DeleteFunc
import Derived.Shelf.Spec.SlicesGrow
import Derived.Shelf.SlSortCmp.WholeK
import Derived.Shelf.SlSortCmp.NoneTotal
import Derived.Ground.SlsfProg
import Derived.RowKit
import Derived.OpenShut
import Derived.Deep.Slices
import Derived.ChangeSame
import Derived.Ground.NamesProg
import Derived.Test.YtbidkcjendncaaaGreatDoorChecked
import Derived.LaidEql
import Derived.Lib.IfaceEq
import Derived.Stop.Asserts
import Derived.RowKitTokens
import Derived.Test.YtbidkcjendncaaaGreatDoorRows
import Derived.ProofKit
import Derived.ShutString
import Derived.ChangeOld
import Derived.ChangeVars
import Derived.JoinedOf
import Derived.LaidLaws
import Derived.LaidHandle
import Derived.Stop.Joined
import Derived.Test.YtbidkcjendncaaaGreatDoorDa30
set_option linter.unusedVariables false
set_option linter.unusedSimpArgs false
section
namespace Go.Proofs.YtbidkcjendncaaaGreatDoor
open Go Go.K
namespace F
abbrev kedgelaw13_ChainPlays:Nat:=11
abbrev chain_New:Nat:=46
abbrev chain_Chain_Disconnect:Nat:=47
abbrev kedgeref13_Disconnect:Nat:=48
abbrev kedgelaw13_sameTxs:Nat:=49
abbrev kedgelaw13_made:Nat:=50
abbrev kedgeref13_Coins:Nat:=51
abbrev chain_Chain_Connect:Nat:=52
abbrev kedgeref13_Connect:Nat:=53
abbrev chain_Chain_Height:Nat:=54
abbrev kedgelaw13_same:Nat:=55
abbrev kedgelaw13_wakes:Nat:=56
abbrev kedgeref05_Same:Nat:=93
abbrev chain_linked:Nat:=104
abbrev chain_Chain_Coins:Nat:=105
abbrev chain_Chain_Get:Nat:=106
abbrev tx_Copy:Nat:=155
abbrev chain_copies:Nat:=170
abbrev slices_Clone_L_string_string:Nat:=211
abbrev slices_Clone_L_api_In_api_In:Nat:=218
end F
namespace T
abbrev L_api_Tx:Nat:=29
abbrev kedgeref13_Chain:Nat:=112
abbrev chain_Chain:Nat:=202
abbrev chain_link:Nat:=204
end T
end Go.Proofs.YtbidkcjendncaaaGreatDoor
end
section
namespace Go.Proofs.YtbidkcjendncaaaGreatDoor
open Go Go.K
noncomputable def k_kedgelaw13_ChainPlays:KC:=kS Tryz.prog [(12,.j (.b [0,2,4] (.l [1,3,5,6,7]) (.b [] (.b [3] (.l [1,5,6,7]) (.l [5,6,7,1])) (.b [5,6,7] (.l [1,3]) (.l [3,1])))) (.l [8,9])),(18,.j (.b [0,2] (.l [1,3,4,5,6,7]) (.l [3,4,1,5,6,7])) (.l [8,9,10,11,12]))] [] (bodyOf Tryz.f11)
theorem s_kedgelaw13_ChainPlays:CS 105 k_kedgelaw13_ChainPlays [.tmp 2] F.kedgelaw13_ChainPlays:=cs Tryz.func11 (by kernel_rfl) (by kernel_rfl)
noncomputable def k_chain_New:KC:=kS Tryz.prog [] [] (bodyOf Tryz.f46)
theorem s_chain_New:CS 4 k_chain_New [.tmp 0] F.chain_New:=cs Tryz.func46 (by kernel_rfl) (by kernel_rfl)
noncomputable def k_chain_Chain_Disconnect:KC:=kS Tryz.prog [(5,.l [0,1,2,3,4,5,6,7,8,9,10,11]),(7,.j (.l [0,1,2,3,4,5,6,7,8,9,10,11,12]) (.l [13])),(8,.j (.l [0,1,2,3,4,5]) (.l [6,7])),(11,.j (.l [0,1,2,3,4,5,6,7,8,9,10,11,12,13]) (.l [14]))] [] (bodyOf Tryz.f47)
theorem s_chain_Chain_Disconnect:CS 66 k_chain_Chain_Disconnect [.tmp 2,.tmp 3] F.chain_Chain_Disconnect:=cs Tryz.func47 (by kernel_rfl) (by kernel_rfl)
noncomputable def k_kedgeref13_Disconnect:KC:=kS Tryz.prog [(10,.j (.b [0,2,3,4,5,6] (.l [1,7]) (.l [7,1])) (.l [8,9,10])),(12,.b [0,1,3,4] (.b [2,5] (.l [6,7,8,9]) (.l [7,6,8,9])) (.l [7,2,5,6,8,9]))] [] (bodyOf Tryz.f48)
theorem s_kedgeref13_Disconnect:CS 46 k_kedgeref13_Disconnect [.cellN 2 2,.tmp 3,.tmp 4] F.kedgeref13_Disconnect:=cs Tryz.func48 (by kernel_rfl) (by kernel_rfl)
noncomputable def k_kedgelaw13_sameTxs:KC:=kS Tryz.prog [(6,.j (.l [0,1,2,3,4,5,6,7]) (.l [8,9]))] [] (bodyOf Tryz.f49)
theorem s_kedgelaw13_sameTxs:CS 27 k_kedgelaw13_sameTxs [.tmp 4] F.kedgelaw13_sameTxs:=cs Tryz.func49 (by kernel_rfl) (by kernel_rfl)
noncomputable def k_kedgelaw13_made:KC:=kS Tryz.prog [] [] (bodyOf Tryz.f50)
theorem s_kedgelaw13_made:CS 43 k_kedgelaw13_made [.tmp 6] F.kedgelaw13_made:=cs Tryz.func50 (by kernel_rfl) (by kernel_rfl)
noncomputable def k_kedgeref13_Coins:KC:=kS Tryz.prog [] [] (bodyOf Tryz.f51)
theorem s_kedgeref13_Coins:CS 27 k_kedgeref13_Coins [.tmp 2] F.kedgeref13_Coins:=cs Tryz.func51 (by kernel_rfl) (by kernel_rfl)
noncomputable def k_chain_Chain_Connect:KC:=kS Tryz.prog [(5,.j (.b [0,1,2,3,4,5,6,7,8,9,10] (.l [11,12,13,14,15]) (.l [15,11,12,13,14])) (.l [16,17])),(8,.j (.b [0,1,2,3,5,6] (.l [4,7,8]) (.b [7] (.l [4,8]) (.l [8,4]))) (.l [9,10,11,12])),(9,.j (.l [0,1,2,3,4,5,6,7,8,9,10,11,12]) (.l [13]))] [] (bodyOf Tryz.f52)
theorem s_chain_Chain_Connect:CS 62 k_chain_Chain_Connect [.tmp 4] F.chain_Chain_Connect:=cs Tryz.func52 (by kernel_rfl) (by kernel_rfl)
noncomputable def k_kedgeref13_Connect:KC:=kS Tryz.prog [(9,.j (.b [0,2,3,4,5,6] (.l [1,7]) (.l [7,1])) (.l [8,9,10]))] [] (bodyOf Tryz.f53)
theorem s_kedgeref13_Connect:CS 70 k_kedgeref13_Connect [.cellN 2 4,.tmp 5,.tmp 6] F.kedgeref13_Connect:=cs Tryz.func53 (by kernel_rfl) (by kernel_rfl)
noncomputable def k_chain_Chain_Height:KC:=kS Tryz.prog [] [] (bodyOf Tryz.f54)
theorem s_chain_Chain_Height:CS 10 k_chain_Chain_Height [.tmp 2] F.chain_Chain_Height:=cs Tryz.func54 (by kernel_rfl) (by kernel_rfl)
noncomputable def k_kedgelaw13_same:KC:=kS Tryz.prog [(7,.j (.l [0,1,2,3,4,5,6,7,8,9,11,12,13,14]) (.l [10,15,16,17]))] [(7007,.eqAgg true [.s,.i] (t 25) (t 30)),(7016,.eqAgg true [.i,.s,.i] (t 34) (t 39)),(10006,.eqAgg true [.i,.s,.i] (t 52) (t 54))] (bodyOf Tryz.f55)
theorem s_kedgelaw13_same:CS 58 k_kedgelaw13_same [.tmp 4] F.kedgelaw13_same:=cs Tryz.func55 (by kernel_rfl) (by kernel_rfl)
noncomputable def k_kedgelaw13_wakes:KC:=kS Tryz.prog [] [] (bodyOf Tryz.f56)
theorem s_kedgelaw13_wakes:CS 61 k_kedgelaw13_wakes [.tmp 0] F.kedgelaw13_wakes:=cs Tryz.func56 (by kernel_rfl) (by kernel_rfl)
noncomputable def k_kedgeref05_Same:KC:=kS Tryz.prog [(13,.l [0,1,2,3,4,5,6,7,8,9,10]),(18,.j (.l [0,1,2,3,4,5,6,7,8,9,10,11,12,13,14,16,20,22]) (.l [15,17,18,19,21,23,24,25,26,27]))] [] (bodyOf Tryz.f93)
theorem s_kedgeref05_Same:CS 142 k_kedgeref05_Same [.tmp 4] F.kedgeref05_Same:=cs Tryz.func93 (by kernel_rfl) (by kernel_rfl)
noncomputable def k_chain_linked:KC:=kS Tryz.prog [(1,.j (.b [0] (.b [1] (.b [2] (.l [3,4,5]) (.l [5,3,4])) (.b [] (.l [3,2,4,5]) (.b [5] (.l [2,3,4]) (.l [3,2,4])))) (.b [] (.b [2] (.b [1] (.l [3,4,5]) (.l [5,3,4])) (.b [] (.b [3] (.l [1,4,5]) (.l [5,1,4])) (.b [5] (.l [1,3,4]) (.l [3,1,4])))) (.b [] (.b [3] (.l [1,2,4,5]) (.b [] (.b [2] (.l [1,4,5]) (.l [5,1,4])) (.b [5] (.l [1,2,4]) (.l [2,1,4])))) (.b [5] (.b [1] (.l [2,3,4]) (.l [3,2,4])) (.b [] (.b [2] (.l [1,3,4]) (.l [3,1,4])) (.b [3] (.l [1,2,4]) (.l [2,1,4]))))))) (.l [6]))] [(10005,.mapUpdate true [.s,.i] (t 42) (t 44) (t 45))] (bodyOf Tryz.f104)
theorem s_chain_linked:CS 49 k_chain_linked [.cellN 5 4] F.chain_linked:=cs Tryz.func104 (by kernel_rfl) (by kernel_rfl)
noncomputable def k_chain_Chain_Coins:KC:=kS Tryz.prog [] [] (bodyOf Tryz.f105)
theorem s_chain_Chain_Coins:CS 10 k_chain_Chain_Coins [.tmp 2] F.chain_Chain_Coins:=cs Tryz.func105 (by kernel_rfl) (by kernel_rfl)
noncomputable def k_chain_Chain_Get:KC:=kS Tryz.prog [(3,.j (.l [0,1,2,3,4]) (.l [5,6,7,8,9]))] [] (bodyOf Tryz.f106)
theorem s_chain_Chain_Get:CS 17 k_chain_Chain_Get [.cellN 3 4,.tmp 5] F.chain_Chain_Get:=cs Tryz.func106 (by kernel_rfl) (by kernel_rfl)
noncomputable def k_tx_Copy:KC:=kS Tryz.prog [(1,.j (.b [0,1,3] (.l [2,4,6]) (.l [4,2,6])) (.l [5,7,8,9])),(5,.j (.b [0,2,3,4,5,6,7,8] (.l [1,9,10,11]) (.l [9,1,10,11])) (.l [12]))] [] (bodyOf Tryz.f155)
theorem s_tx_Copy:CS 32 k_tx_Copy [.cellN 4 2] F.tx_Copy:=cs Tryz.func155 (by kernel_rfl) (by kernel_rfl)
noncomputable def k_chain_copies:KC:=kS Tryz.prog [] [] (bodyOf Tryz.f170)
theorem s_chain_copies:CS 19 k_chain_copies [.tmp 2] F.chain_copies:=cs Tryz.func170 (by kernel_rfl) (by kernel_rfl)
noncomputable def k_slices_Clone_L_string_string:KC:=kS Tryz.prog [] [] (bodyOf Tryz.f211)
theorem s_slices_Clone_L_string_string:CS 8 k_slices_Clone_L_string_string [.tmp 2] F.slices_Clone_L_string_string:=cs Tryz.func211 (by kernel_rfl) (by kernel_rfl)
noncomputable def k_slices_Clone_L_api_In_api_In:KC:=kS Tryz.prog [] [] (bodyOf Tryz.f218)
theorem s_slices_Clone_L_api_In_api_In:CS 8 k_slices_Clone_L_api_In_api_In [.tmp 2] F.slices_Clone_L_api_In_api_In:=cs Tryz.func218 (by kernel_rfl) (by kernel_rfl)
end Go.Proofs.YtbidkcjendncaaaGreatDoor
end
section
namespace Go.K
open Go
variable {P:Program}
theorem flat_set {k:Nat} (hk:0<k) {u:Value} (hu:u.oneCell'=true) {o:Nat} (ho:o<k):∀(css:List (Vec k)) (i:Nat) (h:i<css.length),((vecE k hk).flat css).set (i*k+o) u=(vecE k hk).flat (css.set i (css[i].set o u hu))
 |c::css,0,_=>by
  have hc:c.1.length=k:=c.2.1
  simp only [Enc.flat,List.flatMap_cons,List.set_cons_zero,List.getElem_cons_zero,Nat.zero_mul,Nat.zero_add]
  rw [List.set_append_left _ _ (by show o<c.1.length;omega)]
  rfl
 |c::css,i+1,h=>by
  have hc:c.1.length=k:=c.2.1
  have ih:=flat_set hk hu ho css i (by simpa using h)
  simp only [Enc.flat,List.flatMap_cons,List.set_cons_succ,List.getElem_cons_succ] at ih ⊢
  have e:(vecE k hk).f c=c.1:=rfl
  rw [e,List.set_append_right _ _ (by rw [hc,Nat.add_mul];omega),hc,←ih]
  congr 2
  rw [Nat.add_mul];omega
section
variable {α:Type} {E:R α} {M M' L:List Nat} {w w':World} {t:TypeId} {B:Nat} {v:Value} {l:List α}
theorem st_storeO {d:Option Tmp} {r:KR} {K:Env→World→Prop} {ρ:Env} {x y:Operand} {b cap i o:Nat} {css:List (Vec E.k)} {junk:List Value} {u:Value} {a:α}
  (hx:ev ρ x=.pointer (some ((Addr.add ⟨b,0,none⟩ (i*E.k)).add o))) (hy:ev ρ y=u) (hu:u.oneCell'=true) (hB:B≤b) (hat:At w b (.cells ((vecE E.k E.pos).flat css++junk).toArray t (0,0))) (hc:css.length=l.length) (hl:((vecE E.k E.pos).flat css++junk).length=cap*E.k) (ha:E.all (b::M) w css l)
  (hi:i<l.length) (ho:o<E.k) (hn:∀w',Chg [b] w w'→E.rel (b::M) w' ((css[i]'(by omega)).1.set o u) a)
  (k:∀w',Chg [b] w w'→OwnR E t B M w' (.slice (some ⟨b,0,none⟩) l.length cap) (l.set i a)→regK P r K (put ρ d undef) w'):regK P (.cons ⟨d,.store x y,none⟩ r) K ρ w:=by
 have hk:=E.pos
 have hflat:((vecE E.k E.pos).flat css).length=l.length*E.k:=by rw [Enc.flat_length,hc];rfl
 have hlt:i*E.k+o<((vecE E.k E.pos).flat css).length:=by
  have:=Nat.mul_le_mul_right E.k (show i+1≤l.length from hi)
  rw [Nat.add_mul] at this;omega
 refine st_store (o:=i*E.k+o) (by rw [hx,add_add]) hy hu hat (by rw [List.length_append];omega) fun w' c a'=>?_
 refine k w' c ⟨css.set i ((css[i]'(by omega)).set o u hu),.inr ⟨b,cap,junk,by rw [List.length_set,hc],hB,?_,?_⟩,?_⟩
 ·rw [List.set_append_left _ _ hlt,flat_set E.pos hu ho css i (by omega)] at a'
  exact a'
 ·rw [List.length_append] at hl ⊢
  rw [Enc.flat_length] at hl ⊢
  rw [List.length_set];exact hl
 ·have h3:E.all (b::M) w' css l:=ha.mono fun _ _ hr=>E.step hr c (fun b hb=>.inl (by simp at hb;subst hb;simp)) (fun b hb=>.inl hb)
  exact All2.set (r:=fun (c:Vec E.k) x=>E.rel (b::M) w' c.1 x) (a:=(css[i]'(by omega)).set o u hu) (hn w' c) h3 i
theorem all_ext {css:List (Vec E.k)} (h:E.all M w css l) (c:Ext w w'):E.all M w' css l:=h.mono fun _ _ hr=>R.ext hr c
end
end Go.K
end
section
namespace Go.Proofs.YtbidkcjendncaaaGreatDoor
open Go Go.K
attribute [local irreducible] regK codeK retK KOp.wp K.Spec u32 leS vnS str zero32 sha2 encT idT
theorem cloneS_spec {M:List Nat} {v:Value} {l:List ByteArray} (w:World) (hs:SlR strR M w v l) (hn:l.length≤100000000) (hM:∀b∈M,b<w.heap.size):K.Spec Tryz.prog F.slices_Clone_L_string_string [v] w fun r w'=>OwnR strR T.string w.heap.size M w' r l∧Ext w w':=by
 have hs0:=hs
 obtain ⟨base,cap,rfl⟩:=hs.form
 cases base with
 |none=>
  have hl:=hs.nil_of
  subst hl
  refine s_slices_Clone_L_string_string rfl ?_
  unfold k_slices_Clone_L_string_string
  refine oy ?_
  repeat (first|refine go ?_|refine zg (fun _ _=>?_)|refine zi (fun _ _=>?_))
  exact x_ret rfl ⟨OwnR.nil _ _ _ _,Ext.refl _⟩
 |some a=>
  refine s_slices_Clone_L_string_string rfl ?_
  unfold k_slices_Clone_L_string_string
  refine oy ?_
  repeat (first|refine go ?_|refine zg (fun _ _=>?_)|refine zi (fun _ _=>?_))
  refine zI (cs:= []) rfl (fun b w1 x1 a1 hb=>?_)
  repeat (first|refine go ?_|refine zg (fun _ _=>?_)|refine zi (fun _ _=>?_))
  obtain ⟨css,h1,h2,_⟩:=hs0
  have hown:OwnR strR T.string w.heap.size M w1 (.slice (some ⟨b,0,none⟩) 0 0) []:=OwnR.empty hb a1
  have hall:(strR).all (blkOf (.slice (some ⟨b,0,none⟩) 0 0)++M) w1 css l:=h2.mono fun _ _ hr=>(strR).step hr x1 (by simp) (fun c hc=>by
   rcases List.mem_append.1 hc with h|h
   ·simp [blkOf] at h;right;omega
   ·exact .inl h)
  refine st_appendR (E:=strR) (M:=M) (v:=.slice (some ⟨b,0,none⟩) 0 0) rfl hown x1.size rfl rfl (h1.ext x1).cells rfl hall h2.length (by simp;omega) (fun v2 w2 ho2 c2 hb2=>?_)
  repeat (first|refine go ?_|refine zg (fun _ _=>?_)|refine zi (fun _ _=>?_))
  exact x_ret rfl ⟨ho2,(Ext.chg x1 c2).mono (by intro y hy;simp [blkOf] at hy;subst hy;exact .inr hb)⟩
theorem cloneI_spec {M:List Nat} {v:Value} {l:List TIn} (w:World) (hs:SlR inR M w v l) (hn:l.length≤100000000) (hM:∀b∈M,b<w.heap.size):K.Spec Tryz.prog F.slices_Clone_L_api_In_api_In [v] w fun r w'=>OwnR inR T.api_In w.heap.size M w' r l∧Ext w w':=by
 have hs0:=hs
 obtain ⟨base,cap,rfl⟩:=hs.form
 cases base with
 |none=>
  have hl:=hs.nil_of
  subst hl
  refine s_slices_Clone_L_api_In_api_In rfl ?_
  unfold k_slices_Clone_L_api_In_api_In
  refine oy ?_
  repeat (first|refine go ?_|refine zg (fun _ _=>?_)|refine zi (fun _ _=>?_))
  exact x_ret rfl ⟨OwnR.nil _ _ _ _,Ext.refl _⟩
 |some a=>
  refine s_slices_Clone_L_api_In_api_In rfl ?_
  unfold k_slices_Clone_L_api_In_api_In
  refine oy ?_
  repeat (first|refine go ?_|refine zg (fun _ _=>?_)|refine zi (fun _ _=>?_))
  refine zI (cs:= []) rfl (fun b w1 x1 a1 hb=>?_)
  repeat (first|refine go ?_|refine zg (fun _ _=>?_)|refine zi (fun _ _=>?_))
  obtain ⟨css,h1,h2,_⟩:=hs0
  have hown:OwnR inR T.api_In w.heap.size M w1 (.slice (some ⟨b,0,none⟩) 0 0) []:=OwnR.empty hb a1
  have hall:(inR).all (blkOf (.slice (some ⟨b,0,none⟩) 0 0)++M) w1 css l:=h2.mono fun _ _ hr=>(inR).step hr x1 (by simp) (fun c hc=>by
   rcases List.mem_append.1 hc with h|h
   ·simp [blkOf] at h;right;omega
   ·exact .inl h)
  refine st_appendR (E:=inR) (M:=M) (v:=.slice (some ⟨b,0,none⟩) 0 0) rfl hown x1.size rfl rfl (h1.ext x1).cells rfl hall h2.length (by simp;omega) (fun v2 w2 ho2 c2 hb2=>?_)
  repeat (first|refine go ?_|refine zg (fun _ _=>?_)|refine zi (fun _ _=>?_))
  exact x_ret rfl ⟨ho2,(Ext.chg x1 c2).mono (by intro y hy;simp [blkOf] at hy;subst hy;exact .inr hb)⟩
set_option maxHeartbeats 2000000 in
theorem txcopy_spec {M:List Nat} {cs:List Value} {t:Tx} (w:World) (ht:txR.rel M w cs t) (hs:t.Sm) (hM:∀b∈M,b<w.heap.size):K.Spec Tryz.prog F.tx_Copy [.agg cs.toArray] w fun r w'=>∃cs',r=.agg cs'.toArray∧txO w.heap.size M w' cs' t∧Ext w w':=by
 have ht0:=ht
 obtain ⟨iv,ov,rfl,hi,ho,hv,hl⟩:=ht
 have hs1:=hs.ins
 have hs2:=hs.outs
 refine s_tx_Copy rfl ?_
 unfold k_tx_Copy
 refine oy ?_
 repeat' (first|(first|refine go1 ?_|refine zg (fun _ _=>?_)|refine zi (fun _ _=>?_))|(first|refine zD rfl rfl (fun bp wp xp ap rp hp0=>?_)|refine zE (fun _=>rfl) rfl rfl rfl (fun bq wq xq aq rq hq0=>?_)))
 refine zH (fun b2 w2 x2 a2 hb2=>?_)
 have lp:=ap.lt
 have l2:=a2.lt
 have sp:=xp.size
 have s2:=x2.size
 have xw:Unit→Ext w w2:=fun _=>xp.trans x2
 obtain ⟨M1,hM1⟩:∃M1,M1= [b2,bp]++M:=⟨_,rfl⟩
 have hmem:∀b∈M1,b∈M∨w.heap.size≤b:=by
  rw [hM1];exact mem_app (fun y hy=>by simp at hy;omega)
 have hi1:SlR inR M1 w2 iv t.ins:=hi.step (xw ()) (by simp) hmem
 have ho1:SlR outR M1 w2 ov t.outs:=ho.step (xw ()) (by simp) hmem
 have hM1b:∀b∈M1,b<w2.heap.size:=by
  intro y hy;rw [hM1] at hy;simp at hy
  rcases hy with h|h|h
  ·omega
  ·omega
  ·have:=hM y h;omega
 have mb:bp∈M1:=by rw [hM1];simp
 have m2:b2∈M1:=by rw [hM1];simp
 have mM:∀b∈M,b∈M1:=by intro y hy;rw [hM1];simp [hy]
 repeat' (first|(first|refine go1 ?_|refine zg (fun _ _=>?_)|refine zi (fun _ _=>?_))|refine zB ?_ ?_|(refine zC rfl (cloneI_spec (M:=M1) (l:=t.ins) _ (by exact fx) (by omega) (fun b hb=>Nat.lt_of_lt_of_le (hM1b b hb) (Ext.size (by exact fx)))) ?_;rintro v1 w3 ⟨hv1,x3⟩;have l1:=hv1.lt;have hv1:=hv1.lower (B':=w2.heap.size) (by first|exact Nat.le_refl _|(apply Ext.size;assumption));have g1:=hv1.base;have x23:Ext w2 w3:=(by exact fx))|(refine zC rfl (cloneO_spec (M:=blkOf v1++M1) (l:=t.outs) _ (ho1.step x23 (by simp) (mem_app g1)) (by omega) (fun b hb=>?_)) ?_)|(rcases List.mem_append.1 hb with h|h;exact l1 b h;exact Nat.lt_of_lt_of_le (hM1b b h) (Ext.size (by exact fx)))|(rintro v2 w4 ⟨hv2,x4⟩;have g2:=hv2.base;have x24:Ext w2 w4:=(by exact fx);have hv1:=hv1.ext x4;have ap:=At.ext x24 (At.ext x2 ap);have a2:=At.ext x24 a2;have s24:=x24.size))
 trace_state
 all_goals
  have hbp:bp∉blkOf v1:=fun h=>by have:=g1 _ h;omega
  have hb2':b2∉blkOf v1:=fun h=>by have:=g1 _ h;omega
  have s23:=x23.size
  have hbp2:bp∉blkOf v2:=fun h=>by have:=g2 _ h;omega
  have hb22:b2∉blkOf v2:=fun h=>by have:=g2 _ h;omega
  have h12:∀b∈blkOf v1,b∉blkOf v2:=fun b h h'=>by have:=g2 _ h';have:=l1 _ h;omega
  refine st_store (b:=bp) (o:=1) (cur:=txCs t iv ov) rfl rfl hv1.one ap (Nat.le_of_ble_eq_true rfl) (fun w5 c5 a5=>?_)
  repeat (first|refine go ?_|refine zg (fun _ _=>?_)|refine zi (fun _ _=>?_))
  refine st_store (b:=bp) (o:=2) (cur:=txCs t v1 ov) rfl rfl hv2.one a5 (Nat.le_of_ble_eq_true rfl) (fun w6 c6 a6=>?_)
  have c56:Chg [bp] w4 w6:=(c5.trans c6).mono (by simp)
  have hv1:=hv1.step (M':=M1) c56 (by intro y hy;simp at hy;subst hy;exact ⟨hbp,.inl mb⟩) (fun _ h=>.inl h)
  have hv2:=hv2.step (M':=blkOf v1++M1) c56 (by intro y hy;simp at hy;subst hy;exact ⟨hbp2,.inl (by simp [mb])⟩) (fun _ h=>.inl h)
  have a6:At w6 bp (.cells (txCs t v1 v2).toArray T.api_Tx (0,0)):=a6
  have a2:=At.chg c56 a2 (by simp;omega)
  have x26:Ext w w6:=(Ext.chg ((xw ()).trans x24) c56).mono (by intro y hy;simp at hy;right;omega)
  have l1':=hv1.lt
  have r6:Row w6 ⟨bp,0,none⟩ (txCs t v1 v2):=Row.of_at a6
  clear c5 c6 c56 a5 ap x3 x4
  repeat' (first|(first|refine go1 ?_|refine zg (fun _ _=>?_)|refine zi (fun _ _=>?_))|refine zB ?_ ?_|refine zL rfl (fun h=>?_) (fun h=>?_)|(refine zG (l:=t.ins) rfl (hv1.slB (B:=w2.heap.size) hM1b) ?_)|(refine c_loopV (fun (k:Nat) w'=>Ext w w'∧k≤t.ins.length∧w6.heap.size≤w'.heap.size∧At w' bp (.cells (txCs t v1 v2).toArray T.api_Tx (0,0))∧At w' b2 (.cells [Value.int .u32 0,.slice none 0 0,.slice none 0 0,.int .u32 0].toArray T.api_Tx (0,0))∧OwnR inR T.api_In w2.heap.size M1 w' v1 t.ins∧OwnR outR T.api_Out w3.heap.size (blkOf v1++M1) w' v2 t.outs) (fun k=> [(1,.pointer (some ⟨bp,0,none⟩)),(2,.pointer (some ⟨b2,0,none⟩)),(13,v1),(14,.int .i64 (t.ins.length:Nat)),(15,.int .i64 k)]) (fun k=>t.ins.length - k) 0 ⟨rfl,rfl,rfl,rfl,rfl,trivial⟩ ⟨x26,Nat.zero_le _,Nat.le_refl _,a6,a2,hv1,hv2⟩ ?_;rintro k ρ w7 ⟨x7,hk,s7,a7,q2,o1,o2⟩;have r7:Row w7 ⟨bp,0,none⟩ (txCs t v1 v2):=Row.of_at a7))
  ·have hki:k<t.ins.length:=by omega
   have hwl:=hs.wit _ (List.getElem_mem hki)
   obtain ⟨b1,cap,css,junk,rfl,hB,hat,hc,hln,hall,hsl⟩:=o1.open (by omega)
   obtain ⟨wv,hcs,hw,hp5,hp6⟩:=hall.get k (by omega) hki
   have hb1:b1<w7.heap.size:=hat.lt
   have hMb:∀b∈b1::M1,b<w7.heap.size:=fun b hb=>by
    rcases List.mem_cons.1 hb with h|h
    ·omega
    ·have:=hM1b b h;omega
   refine st_elemE (d:=some 24) (E:=vecE inR.k inR.pos) (l:=css) (n:=k) rfl rfl (by exact fx) rfl (by omega) (fun ad r8=>?_)
   have r8:Row _ ad css[k].1:=r8
   rw [hcs] at r8
   repeat' (first|(first|refine go1 ?_|refine zg (fun _ _=>?_)|refine zi (fun _ _=>?_))|refine zB ?_ ?_|(refine zC rfl (cloneS_spec (M:=b1::M1) (l:=t.ins[k].wit) _ (hw.ext (by exact fx)) (by omega) (fun b hb=>Nat.lt_of_lt_of_le (hMb b hb) (Ext.size (by exact fx)))) ?_;rintro v3 w9 ⟨hv3,x9⟩;have hv3:=hv3.lower (B':=w7.heap.size) (Ext.size (by exact fx));have s9:=Ext.size (w:=w7) (w':=w9) (by exact fx))|(refine st_index (d:=some 28) rfl rfl (by omega) ?_))
   all_goals
    have hx79:Ext w7 w9:=by exact fx
    refine st_storeO (E:=inR) (M:=M1) (B:=w2.heap.size) (l:=t.ins) (i:=k) (o:=3) (a:=t.ins[k]) (css:=css) (junk:=junk) (cap:=cap) rfl rfl hv3.one hB (hat.ext hx79) hc hln (all_ext hall hx79) hki (by decide) (fun w10 c10=>?_) (fun w10 c10 o10=>?_)
    ·refine ⟨v3,by rw [hcs];rfl,?_,hp5,hp6⟩
     exact (hv3.slB hMb).step c10 (by intro y hy;simp at hy;subst hy;simp) (fun b hb=>.inl hb)
    ·have hbb:b1≠bp:=fun e=>hbp (by rw [←e];simp [blkOf])
     have hbb2:b1≠b2:=fun e=>hb2' (by rw [←e];simp [blkOf])
     have hbv:b1∉blkOf v2:=h12 b1 (by simp [blkOf])
     have a7':=At.chg c10 (a7.ext hx79) (by simp;omega)
     have q2':=At.chg c10 (q2.ext hx79) (by simp;omega)
     have hs10:=c10.size
     have hwb:w.heap.size≤b1:=by omega
     have o2':=(o2.ext hx79).step c10 (M':=blkOf (.slice (some ⟨b1,0,none⟩) t.ins.length cap)++M1) (by intro y hy;simp at hy;subst hy;exact ⟨hbv,.inl (by simp [blkOf])⟩) (fun _ h=>.inl h)
     have x10:Ext w w10:=((x7.trans hx79).chg c10).mono (by intro y hy;simp at hy;right;omega)
     rw [List.set_getElem_self] at o10
     clear hx79
     repeat (first|refine go1 ?_|refine zg (fun _ _=>?_)|refine zi (fun _ _=>?_))
     exact ⟨k+1,⟨rfl,rfl,rfl,rfl,rfl,trivial⟩,⟨x10,by omega,by omega,a7',q2',o10,o2'⟩,by omega⟩
  ·refine st_setN (w0:=w) (vs:=txCs t v1 v2) x7 (by omega) q2 rfl rfl rfl rfl ?_ (fun w11 x11 c11 a11 r11=>?_)
   ·have e1:=hv1.one
    have e2:=hv2.one
    simp [txCs,e1,e2];exact ⟨rfl,rfl⟩
   repeat (first|refine go1 ?_|refine zg (fun _ _=>?_)|refine zi (fun _ _=>?_))
   have p1:=(o1.step (M':=M1) c11 (by intro y hy;simp at hy;subst hy;exact ⟨hb2',.inl m2⟩) (fun _ h=>.inl h)).sub (M':=M) (fun b hb=>.inl (mM b hb))
   have p2:=(o2.step (M':=M1) c11 (by intro y hy;simp at hy;subst hy;exact ⟨hb22,.inl (by simp [m2])⟩) (fun _ h=>.inl (by simp [h]))).sub (M':=M) (fun b hb=>.inl (mM b hb))
   exact x_ret (ret1 (rv_cell r11 rfl rfl)) ⟨_,rfl,⟨v1,v2,rfl,p1.lower (by omega),p2.lower (by omega),hv,hl⟩,x11⟩
end Go.Proofs.YtbidkcjendncaaaGreatDoor
end
section
namespace Go.Proofs
open Go.Shelf Go.RowKit Go.Lib Go.Sort
variable {P:Program} {ρ:Ren} {α:Type} [Inhabited α]
end Go.Proofs
namespace Go.Proofs.YtbidkcjendncaaaGreatDoor
open Go Go.K
attribute [local irreducible] regK codeK retK KOp.wp K.Spec u32 leS vnS str zero32 sha2 encT idT
theorem take_eq {α:Type} {l m:List α} {i:Nat} (h:l.take i=m.take i) (h1:i<l.length) (h2:i<m.length) (e:l[i]=m[i]):l.take (i+1)=m.take (i+1):=by
 rw [List.take_succ_eq_append_getElem h1,List.take_succ_eq_append_getElem h2,h,e]
end Go.Proofs.YtbidkcjendncaaaGreatDoor
end
section
namespace Go.K
open Go Go.Proofs.YtbidkcjendncaaaGreatDoor
structure Ch where
 bs:List (List Tx)
 top:Nat
def coinsN (bs:List (List Tx)):Nat→List En
 |0=> []
 |k+1=>(applyL (coinsN bs k) (bs.getD k []) ((k+1:Nat):Int)).1
def coinsC (bs:List (List Tx)):List En:=coinsN bs bs.length
theorem coinsN_cg (bs:List (List Tx)):∀k,CG (coinsN bs k)
 |0=>CG.nil
 |k+1=>applyL_cg (coinsN_cg bs k) _ _
theorem coinsN_sc (bs:List (List Tx)):∀k,SC (coinsN bs k)
 |0=>SC.nil
 |k+1=>applyL_sc (coinsN_cg bs k) (coinsN_sc bs k) _ _
theorem coinsN_len {bs:List (List Tx)} {n:Nat} (h:∀b∈bs,outsB b≤n):∀k,(coinsN bs k).length≤n*k
 |0=>by simp [coinsN]
 |k+1=>by
  have h1:=coinsN_len h k
  have h2:=applyL_len (coinsN_cg bs k) (bs.getD k []) ((k+1:Nat):Int)
  have h3:outsB (bs.getD k [])≤n:=by
   rw [List.getD_eq_getElem?_getD]
   cases hk:bs[k]? with
   |none=>simp [outsB]
   |some b=>exact h b (List.mem_of_getElem? hk)
  have e:coinsN bs (k+1)=(applyL (coinsN bs k) (bs.getD k []) ((k+1:Nat):Int)).1:=rfl
  rw [e,Nat.mul_succ];omega
theorem coinsN_more (bs:List (List Tx)) (x:List Tx):∀k,k≤bs.length→coinsN (bs++ [x]) k=coinsN bs k
 |0,_=>rfl
 |k+1,h=>by
  have e1:(bs++ [x]).getD k []=bs.getD k []:=by
   rw [List.getD_eq_getElem?_getD,List.getD_eq_getElem?_getD,List.getElem?_append_left (by omega)]
  unfold coinsN
  rw [coinsN_more bs x k (by omega),e1]
theorem coinsC_snoc (bs:List (List Tx)) (x:List Tx):coinsC (bs++ [x])=(applyL (coinsC bs) x ((bs.length+1:Nat):Int)).1:=by
 unfold coinsC
 rw [List.length_append]
 show (applyL (coinsN (bs++ [x]) bs.length) ((bs++ [x]).getD bs.length []) ((bs.length+1:Nat):Int)).1=_
 rw [coinsN_more bs x _ (Nat.le_refl _)]
 have e:(bs++ [x]).getD bs.length []=x:=by simp [List.getD_eq_getElem?_getD]
 rw [e]
theorem coinsN_take (bs:List (List Tx)):∀(k n:Nat),k≤n→n≤bs.length→coinsN (bs.take n) k=coinsN bs k
 |0,_,_,_=>rfl
 |k+1,n,h,hn=>by
  have e1:(bs.take n).getD k []=bs.getD k []:=by
   rw [List.getD_eq_getElem?_getD,List.getD_eq_getElem?_getD,List.getElem?_take_of_lt (by omega)]
  unfold coinsN
  rw [coinsN_take bs k n (by omega) hn,e1]
theorem coinsC_take {bs:List (List Tx)} {n:Nat} (hn:n≤bs.length):coinsC (bs.take n)=coinsN bs n:=by
 unfold coinsC
 rw [List.length_take,Nat.min_eq_left hn]
 exact coinsN_take bs n n (Nat.le_refl _) hn
def connE (c:Ch) (x:List Tx):Int × Int:=((applyL (coinsC c.bs) x ((c.bs.length+1:Nat):Int)).2.1,(applyL (coinsC c.bs) x ((c.bs.length+1:Nat):Int)).2.2.1)
def connC (c:Ch) (x:List Tx):Ch:=if (connE c x).1≠0 then c else ⟨c.bs++ [x],max c.top (c.bs.length+1)⟩
def discE (c:Ch):Int:=if c.bs.length=0 then 8 else if c.bs.length+6≤c.top then 18 else 0
def discC (c:Ch):Ch:=if discE c≠0 then c else ⟨c.bs.take (c.bs.length - 1),c.top⟩
structure Lk where
 txs:List Tx
 spent:List En
 made:List En
def lkN (bs:List (List Tx)) (k:Nat):Lk:=⟨bs.getD k [],lessL (coinsN bs k) (coinsN bs (k+1)),lessL (coinsN bs (k+1)) (coinsN bs k)⟩
def linksL (bs:List (List Tx)):List Lk:=(List.range bs.length).map (lkN bs)
theorem linksL_len (bs:List (List Tx)):(linksL bs).length=bs.length:=by simp [linksL]
theorem linksL_snoc (bs:List (List Tx)) (x:List Tx):linksL (bs++ [x])=linksL bs++ [⟨x,lessL (coinsC bs) (applyL (coinsC bs) x ((bs.length+1:Nat):Int)).1,lessL (applyL (coinsC bs) x ((bs.length+1:Nat):Int)).1 (coinsC bs)⟩]:=by
 unfold linksL
 rw [List.length_append,List.length_singleton,List.range_succ,List.map_append]
 congr 1
 ·refine List.map_congr_left fun k hk=>?_
  have hk:=List.mem_range.1 hk
  unfold lkN
  rw [coinsN_more _ _ k (by omega),coinsN_more _ _ (k+1) (by omega)]
  have e1:(bs++ [x]).getD k []=bs.getD k []:=by
   rw [List.getD_eq_getElem?_getD,List.getD_eq_getElem?_getD,List.getElem?_append_left hk]
  rw [e1]
 ·simp only [List.map_cons,List.map_nil]
  unfold lkN
  have e:(bs++ [x]).getD bs.length []=x:=by simp [List.getD_eq_getElem?_getD]
  have e2:=coinsC_snoc bs x
  unfold coinsC at e2
  rw [List.length_append,List.length_singleton] at e2
  rw [e,coinsN_more _ _ _ (Nat.le_refl _),e2];rfl
theorem linksL_take {bs:List (List Tx)} {n:Nat} (h:n≤bs.length):linksL (bs.take n)=(linksL bs).take n:=by
 unfold linksL
 rw [←List.map_take,List.take_range,List.length_take,Nat.min_eq_left h]
 refine List.map_congr_left fun k hk=>?_
 have hk:=List.mem_range.1 hk
 unfold lkN
 rw [coinsN_take _ k _ (by omega) h,coinsN_take _ (k+1) _ (by omega) h]
 have e1:(bs.take n).getD k []=bs.getD k []:=by
  rw [List.getD_eq_getElem?_getD,List.getD_eq_getElem?_getD,List.getElem?_take_of_lt (by omega)]
 rw [e1]
theorem linksL_at {bs:List (List Tx)} {k:Nat} (h:k<bs.length):(linksL bs)[k]'(by rw [linksL_len];exact h)=lkN bs k:=by
 unfold linksL
 rw [List.getElem_map,List.getElem_range]
theorem back_swap {bs:List (List Tx)} {k:Nat}:swapL (coinsN bs (k+1)) (lkN bs k).made (lkN bs k).spent=(true,coinsN bs k):=swap_less (coinsN_cg bs (k+1)) (coinsN_cg bs k)
end Go.K
end
section
namespace Go.K
open Go Go.Proofs.YtbidkcjendncaaaGreatDoor
def lkR:R Lk where
 k:=5
 pos:=by decide
 ag:=true
 rel:=fun M w cs x=>∃tv iv sv mv mp,cs= [tv,iv,sv,mv,mp]∧SlR txR M w tv x.txs∧iv.oneCell'=true∧SlR enR M w sv x.spent∧SlR enR M w mv x.made∧mp.oneCell'=true
 len:=fun ⟨_,_,_,_,_,h,_⟩=>by rw [h];rfl
 one:=fun ⟨tv,iv,sv,mv,mp,h,h1,h2,h3,h4,h5⟩ v hv=>by
  obtain ⟨b,c,rfl⟩:=h1.form
  obtain ⟨b',c',rfl⟩:=h3.form
  obtain ⟨b'',c'',rfl⟩:=h4.form
  subst h;simp at hv;rcases hv with rfl|rfl|rfl|rfl|rfl
  ·rfl
  ·exact h2
  ·rfl
  ·rfl
  ·exact h5
 step:=fun ⟨tv,iv,sv,mv,mp,h,h1,h2,h3,h4,h5⟩ c hL hM=>⟨tv,iv,sv,mv,mp,h,h1.step c hL hM,h2,h3.step c hL hM,h4.step c hL hM,h5⟩
end Go.K
namespace Go.Proofs.YtbidkcjendncaaaGreatDoor
open Go Go.K
def chCs (b:Nat) (lv:Value) (top:Nat):List Value:= [.pointer (some ⟨b,0,none⟩),lv,.int .i64 (top:Nat)]
def ChR (U:List Nat) (w:World) (B c:Nat) (M:List Nat) (ch:Ch):Prop:=∃b mb lv,At w c (.cells (chCs b lv ch.top).toArray T.chain_Chain (0,0))∧SetP T.coins_Set w b mb (coinsC ch.bs)∧OwnR lkR T.chain_link B ([c,b,mb]++U) w lv (linksL ch.bs)∧M= [c,b,mb]++blkOf lv∧B≤c∧B≤b∧B≤mb∧c≠b∧c≠mb∧(∀x∈blkOf lv,x≠c∧x≠b∧x≠mb)∧∀x∈M,x∉U
theorem ChR.ext {U:List Nat} {w w':World} {B c:Nat} {M:List Nat} {ch:Ch} (h:ChR U w B c M ch) (x:Ext w w'):ChR U w' B c M ch:=by
 obtain ⟨b,mb,lv,h1,h2,h3,h4⟩:=h
 exact ⟨b,mb,lv,h1.ext x,h2.ext x,h3.ext x,h4⟩
theorem ChR.lt {U:List Nat} {w:World} {B c:Nat} {M:List Nat} {ch:Ch} (h:ChR U w B c M ch):∀x∈M,x<w.heap.size:=by
 obtain ⟨b,mb,lv,h1,h2,h3,rfl, -⟩:=h
 intro x hx
 simp only [List.cons_append,List.nil_append,List.mem_cons] at hx
 rcases hx with rfl|rfl|rfl|hx
 ·exact h1.lt
 ·exact h2.lt.1
 ·exact h2.lt.2
 ·exact h3.lt x hx
theorem ChR.base {U:List Nat} {w:World} {B c:Nat} {M:List Nat} {ch:Ch} (h:ChR U w B c M ch):∀x∈M,B≤x:=by
 obtain ⟨b,mb,lv,h1,h2,h3,rfl,g1,g2,g3, -⟩:=h
 intro x hx
 simp only [List.cons_append,List.nil_append,List.mem_cons] at hx
 rcases hx with rfl|rfl|rfl|hx
 ·exact g1
 ·exact g2
 ·exact g3
 ·exact h3.base x hx
theorem ChR.off {U:List Nat} {w:World} {B c:Nat} {M:List Nat} {ch:Ch} (h:ChR U w B c M ch):∀x∈M,x∉U:=by
 obtain ⟨b,mb,lv,h1,h2,h3,h4,g1,g2,g3,g4,g5,g6,g7⟩:=h
 exact g7
theorem ChR.step {U L:List Nat} {w w':World} {B c:Nat} {M:List Nat} {ch:Ch} (h:ChR U w B c M ch) (cc:Chg L w w') (hL:∀y∈L,y∈U∨w.heap.size≤y):ChR U w' B c M ch:=by
 have hn:∀y∈L,y∉M:=fun y hy hm=>(hL y hy).elim (h.off y hm) (fun q=>by have:=h.lt y hm;omega)
 obtain ⟨b,mb,lv,h1,h2,h3,rfl,g⟩:=h
 exact ⟨b,mb,lv,h1.chg cc (fun q=>hn _ q (by simp)),h2.chg cc (fun q=>hn _ q (by simp)) (fun q=>hn _ q (by simp)),h3.step cc (fun y hy=>⟨fun q=>hn y hy (by simp [q]),(hL y hy).imp (fun q=>by simp [q]) id⟩) (fun y hy=>.inl hy),rfl,g⟩
theorem ChR.more {U U':List Nat} {w:World} {B c:Nat} {M:List Nat} {ch:Ch} (h:ChR U w B c M ch) (hU:∀y∈U',y∈U∨w.heap.size≤y):ChR U' w B c M ch:=by
 have hlt:=h.lt
 obtain ⟨b,mb,lv,h1,h2,h3,h4,g1,g2,g3,g4,g5,g6,g7⟩:=h
 refine ⟨b,mb,lv,h1,h2,h3.step (Chg.refl [] w) (by simp) (fun y hy=>?_),h4,g1,g2,g3,g4,g5,g6,fun x hx hu=>(hU x hu).elim (g7 x hx) (fun q=>by have:=hlt x hx;omega)⟩
 rcases List.mem_append.1 hy with hy|hy
 ·exact .inl (List.mem_append_left _ hy)
 ·exact (hU y hy).imp (fun q=>List.mem_append_right _ q) id
end Go.Proofs.YtbidkcjendncaaaGreatDoor
end
section
namespace Go.K
open Go
theorem tin_ext {x y:TIn} (h1:x.p.s=y.p.s) (h2:x.p.i=y.p.i) (h3:x.q=y.q) (h4:x.wit=y.wit):x=y:=by
 have:=pt_ext h1 h2
 cases x;cases y;simp_all
theorem tout_ext {x y:TOut} (h1:x.v=y.v) (h2:x.s=y.s):x=y:=by cases x;cases y;simp_all
theorem tx_ext {t u:Tx} (h1:t.ver=u.ver) (h2:t.lock=u.lock) (h3:t.ins=u.ins) (h4:t.outs=u.outs):t=u:=by cases t;cases u;simp_all
theorem take_eq {α:Type} {l m:List α} {i:Nat} (h:l.take i=m.take i) (hl:i<l.length) (hm:i<m.length) (e:l[i]=m[i]):l.take (i+1)=m.take (i+1):=by
 rw [List.take_succ_eq_append_getElem hl,List.take_succ_eq_append_getElem hm,h,e]
theorem take_all {α:Type} {l m:List α} {i:Nat} (h:l.take i=m.take i) (hl:l.length≤i) (hm:m.length≤i):l=m:=by
 rwa [List.take_of_length_le hl,List.take_of_length_le hm] at h
end Go.K
end
section
namespace Go.Proofs.YtbidkcjendncaaaGreatDoor
open Go Go.K
attribute [local irreducible] regK codeK retK KOp.wp K.Spec u32 leS vnS str zero32 sha2 encT idT sizeT checkT grantB
set_option maxHeartbeats 4000000 in
theorem same2_spec {M N : List Nat} {cs ds : List Value} {t u : Tx} (w : World) (ht : txR.rel M w cs t) (hu : txR.rel N w ds u) (hs : t.Sm) (hs2 : u.Sm) : K.Spec Tryz.prog F.kedgeref05_Same [.agg cs.toArray, .agg ds.toArray] w fun r w' => r = .bool (decide (t = u)) ∧ Ext w w' := by
  obtain ⟨iv, ov, rfl, h1, h2, h3⟩ := ht
  obtain ⟨iv2, ov2, rfl, g1, g2, g3⟩ := hu
  have hq1 := hs.ins
  have hq2 := hs.outs
  by_cases a1 : t.ver = u.ver
  rotate_left
  · rw [decide_eq_false (show ¬ t = u from fun h => a1 (by subst h; rfl))]
    refine s_kedgeref05_Same rfl ?_
    unfold k_kedgeref05_Same
    refine oy ?_
    repeat' (first|(refine st_fixV (d := some 14) (.bool true) rfl (congrArg (fun b => some (Value.bool (!b))) (decide_eq_false a1)) ?_)|(first|refine go1 ?_|refine zg (fun _ _=>?_)|refine zi (fun _ _=>?_))|(apply zO; focus((conv=>lhs;whnf)<;>(first|with_reducible exact rfl|(refine congrArg Value.bool ?_;decide))))|(refine zD (d := some 2) rfl rfl (fun bp wp xp ap (rp : Row wp ⟨bp, 0, none⟩ (txCs t iv ov)) hp0=>?_))|(refine zD (d := some 3) rfl rfl (fun bq wq xq aq (rq : Row wq ⟨bq, 0, none⟩ (txCs u iv2 ov2)) hq0=>?_))|(refine zG (d := some 25) (E := inR) (M := M) (l := t.ins) rfl (SlR.ext (w := w) h1 (by exact fx)) ?_)|(refine zG (d := some 28) (E := inR) (M := N) (l := u.ins) rfl (SlR.ext (w := w) g1 (by exact fx)) ?_)|(refine zG (d := some 34) (E := outR) (M := M) (l := t.outs) rfl (SlR.ext (w := w) h2 (by exact fx)) ?_)|(refine zG (d := some 37) (E := outR) (M := N) (l := u.outs) rfl (SlR.ext (w := w) g2 (by exact fx)) ?_))
    exact x_ret rfl ⟨rfl, by exact fx⟩
  by_cases a2 : t.lock = u.lock
  rotate_left
  · rw [decide_eq_false (show ¬ t = u from fun h => a2 (by subst h; rfl))]
    refine s_kedgeref05_Same rfl ?_
    unfold k_kedgeref05_Same
    refine oy ?_
    repeat' (first|(refine st_fixV (d := some 14) (.bool false) rfl (congrArg (fun b => some (Value.bool (!b))) (decide_eq_true a1)) ?_)|(refine st_fixV (d := some 20) (.bool true) rfl (congrArg (fun b => some (Value.bool (!b))) (decide_eq_false a2)) ?_)|(first|refine go1 ?_|refine zg (fun _ _=>?_)|refine zi (fun _ _=>?_))|(apply zO; focus((conv=>lhs;whnf)<;>(first|with_reducible exact rfl|(refine congrArg Value.bool ?_;decide))))|(refine zD (d := some 2) rfl rfl (fun bp wp xp ap (rp : Row wp ⟨bp, 0, none⟩ (txCs t iv ov)) hp0=>?_))|(refine zD (d := some 3) rfl rfl (fun bq wq xq aq (rq : Row wq ⟨bq, 0, none⟩ (txCs u iv2 ov2)) hq0=>?_))|(refine zG (d := some 25) (E := inR) (M := M) (l := t.ins) rfl (SlR.ext (w := w) h1 (by exact fx)) ?_)|(refine zG (d := some 28) (E := inR) (M := N) (l := u.ins) rfl (SlR.ext (w := w) g1 (by exact fx)) ?_)|(refine zG (d := some 34) (E := outR) (M := M) (l := t.outs) rfl (SlR.ext (w := w) h2 (by exact fx)) ?_)|(refine zG (d := some 37) (E := outR) (M := N) (l := u.outs) rfl (SlR.ext (w := w) g2 (by exact fx)) ?_))
    exact x_ret rfl ⟨rfl, by exact fx⟩
  by_cases a3 : t.ins.length = u.ins.length
  rotate_left
  · rw [decide_eq_false (show ¬ t = u from fun h => a3 (by subst h; rfl))]
    refine s_kedgeref05_Same rfl ?_
    unfold k_kedgeref05_Same
    refine oy ?_
    repeat' (first|(refine st_fixV (d := some 14) (.bool false) rfl (congrArg (fun b => some (Value.bool (!b))) (decide_eq_true a1)) ?_)|(refine st_fixV (d := some 20) (.bool false) rfl (congrArg (fun b => some (Value.bool (!b))) (decide_eq_true a2)) ?_)|(refine st_fixV (d := some 29) (.bool true) rfl (congrArg (fun b => some (Value.bool (!b))) (decide_eq_false (by omega))) ?_)|(first|refine go1 ?_|refine zg (fun _ _=>?_)|refine zi (fun _ _=>?_))|(apply zO; focus((conv=>lhs;whnf)<;>(first|with_reducible exact rfl|(refine congrArg Value.bool ?_;decide))))|(refine zD (d := some 2) rfl rfl (fun bp wp xp ap (rp : Row wp ⟨bp, 0, none⟩ (txCs t iv ov)) hp0=>?_))|(refine zD (d := some 3) rfl rfl (fun bq wq xq aq (rq : Row wq ⟨bq, 0, none⟩ (txCs u iv2 ov2)) hq0=>?_))|(refine zG (d := some 25) (E := inR) (M := M) (l := t.ins) rfl (SlR.ext (w := w) h1 (by exact fx)) ?_)|(refine zG (d := some 28) (E := inR) (M := N) (l := u.ins) rfl (SlR.ext (w := w) g1 (by exact fx)) ?_)|(refine zG (d := some 34) (E := outR) (M := M) (l := t.outs) rfl (SlR.ext (w := w) h2 (by exact fx)) ?_)|(refine zG (d := some 37) (E := outR) (M := N) (l := u.outs) rfl (SlR.ext (w := w) g2 (by exact fx)) ?_))
    exact x_ret rfl ⟨rfl, by exact fx⟩
  by_cases a4 : t.outs.length = u.outs.length
  rotate_left
  · rw [decide_eq_false (show ¬ t = u from fun h => a4 (by subst h; rfl))]
    refine s_kedgeref05_Same rfl ?_
    unfold k_kedgeref05_Same
    refine oy ?_
    repeat' (first|(refine st_fixV (d := some 14) (.bool false) rfl (congrArg (fun b => some (Value.bool (!b))) (decide_eq_true a1)) ?_)|(refine st_fixV (d := some 20) (.bool false) rfl (congrArg (fun b => some (Value.bool (!b))) (decide_eq_true a2)) ?_)|(refine st_fixV (d := some 29) (.bool false) rfl (congrArg (fun b => some (Value.bool (!b))) (decide_eq_true (by omega))) ?_)|(refine st_fixV (d := some 38) (.bool true) rfl (congrArg (fun b => some (Value.bool (!b))) (decide_eq_false (by omega))) ?_)|(first|refine go1 ?_|refine zg (fun _ _=>?_)|refine zi (fun _ _=>?_))|(apply zO; focus((conv=>lhs;whnf)<;>(first|with_reducible exact rfl|(refine congrArg Value.bool ?_;decide))))|(refine zD (d := some 2) rfl rfl (fun bp wp xp ap (rp : Row wp ⟨bp, 0, none⟩ (txCs t iv ov)) hp0=>?_))|(refine zD (d := some 3) rfl rfl (fun bq wq xq aq (rq : Row wq ⟨bq, 0, none⟩ (txCs u iv2 ov2)) hq0=>?_))|(refine zG (d := some 25) (E := inR) (M := M) (l := t.ins) rfl (SlR.ext (w := w) h1 (by exact fx)) ?_)|(refine zG (d := some 28) (E := inR) (M := N) (l := u.ins) rfl (SlR.ext (w := w) g1 (by exact fx)) ?_)|(refine zG (d := some 34) (E := outR) (M := M) (l := t.outs) rfl (SlR.ext (w := w) h2 (by exact fx)) ?_)|(refine zG (d := some 37) (E := outR) (M := N) (l := u.outs) rfl (SlR.ext (w := w) g2 (by exact fx)) ?_))
    exact x_ret rfl ⟨rfl, by exact fx⟩
  refine s_kedgeref05_Same rfl ?_
  unfold k_kedgeref05_Same
  refine oy ?_
  repeat' (first|(refine st_fixV (d := some 14) (.bool false) rfl (congrArg (fun b => some (Value.bool (!b))) (decide_eq_true a1)) ?_)|(refine st_fixV (d := some 20) (.bool false) rfl (congrArg (fun b => some (Value.bool (!b))) (decide_eq_true a2)) ?_)|(refine st_fixV (d := some 29) (.bool false) rfl (congrArg (fun b => some (Value.bool (!b))) (decide_eq_true (by omega))) ?_)|(refine st_fixV (d := some 38) (.bool false) rfl (congrArg (fun b => some (Value.bool (!b))) (decide_eq_true (by omega))) ?_)|(first|refine go1 ?_|refine zg (fun _ _=>?_)|refine zi (fun _ _=>?_))|(apply zO; focus((conv=>lhs;whnf)<;>(first|with_reducible exact rfl|(refine congrArg Value.bool ?_;decide))))|(refine zD (d := some 2) rfl rfl (fun bp wp xp ap (rp : Row wp ⟨bp, 0, none⟩ (txCs t iv ov)) hp0=>?_))|(refine zD (d := some 3) rfl rfl (fun bq wq xq aq (rq : Row wq ⟨bq, 0, none⟩ (txCs u iv2 ov2)) hq0=>?_))|(refine zG (d := some 25) (E := inR) (M := M) (l := t.ins) rfl (SlR.ext (w := w) h1 (by exact fx)) ?_)|(refine zG (d := some 28) (E := inR) (M := N) (l := u.ins) rfl (SlR.ext (w := w) g1 (by exact fx)) ?_)|(refine zG (d := some 34) (E := outR) (M := M) (l := t.outs) rfl (SlR.ext (w := w) h2 (by exact fx)) ?_)|(refine zG (d := some 37) (E := outR) (M := N) (l := u.outs) rfl (SlR.ext (w := w) g2 (by exact fx)) ?_)|(refine zG (d := some 43) (E := inR) (M := M) (l := t.ins) rfl (SlR.ext (w := w) h1 (by exact fx)) ?_)|(refine zL rfl (fun h => ?_) (fun h => ?_))|(refine c_loopV (fun (i : Nat) w' => Ext wq w' ∧ i ≤ t.ins.length ∧ t.ins.take i = u.ins.take i) (fun i => [(2, .pointer (some ⟨bp, 0, none⟩)), (3, .pointer (some ⟨bq, 0, none⟩)), (5, .int .i64 i)]) (fun i => t.ins.length - i) 0 ⟨rfl, rfl, rfl, trivial⟩ ⟨Ext.refl _, by omega, rfl⟩ ?_; rintro i ρ w1 ⟨x1, hi, hti⟩))
  · have hil : i < t.ins.length := by omega
    have hiu : i < u.ins.length := by omega
    have hwl := hs.wit _ (List.getElem_mem hil)
    have hwu := hs2.wit _ (List.getElem_mem hiu)
    have hfal : ¬ t.ins[i] = u.ins[i] → decide (t = u) = false := fun hx => decide_eq_false (fun h => hx (by subst h; rfl))
    by_cases c1 : t.ins[i].p.s = u.ins[i].p.s
    rotate_left
    · rw [hfal (fun h => c1 (by rw [h]))]
      repeat' (first|(refine st_fixV (d := some 63) (.bool true) rfl (congrArg (fun b => some (Value.bool (!b))) (decide_eq_false c1)) ?_)|(first|refine go1 ?_|refine zg (fun _ _=>?_)|refine zi (fun _ _=>?_))|(apply zO; focus((conv=>lhs;whnf)<;>(first|with_reducible exact rfl|(refine congrArg Value.bool ?_;decide))))|(refine st_elemR (d := some 50) (E := inR) (M := M) rfl rfl (n := i) (l := t.ins) (SlR.ext (w := w) h1 (by exact fx)) rfl hil (fun ad cs r4 he => ?_); obtain ⟨wv, rfl, hw, _⟩ := he; obtain ⟨bs1, cp1, rfl⟩ := hw.form)|(refine st_elemR (d := some 55) (E := inR) (M := N) rfl rfl (n := i) (l := u.ins) (SlR.ext (w := w) g1 (by exact fx)) rfl hiu (fun ad cs r4 he => ?_); obtain ⟨wv2, rfl, hw2, _⟩ := he; obtain ⟨bs2, cp2, rfl⟩ := hw2.form)|(refine zE (d' := 6) (fun _=>rfl) rfl rfl rfl (fun b6 w6 x6 a6 (r6 : Row w6 ⟨b6, 0, none⟩ (inCs t.ins[i] (.slice bs1 t.ins[i].wit.length cp1))) hb6=>?_))|(refine zE (d' := 7) (fun _=>rfl) rfl rfl rfl (fun b7 w7 x7 a7 (r7 : Row w7 ⟨b7, 0, none⟩ (inCs u.ins[i] (.slice bs2 u.ins[i].wit.length cp2))) hb7=>?_)))
      exact x_ret rfl ⟨rfl, by exact fx⟩
    by_cases c2 : t.ins[i].p.i = u.ins[i].p.i
    rotate_left
    · rw [hfal (fun h => c2 (by rw [h]))]
      repeat' (first|(refine st_fixV (d := some 63) (.bool false) rfl (congrArg (fun b => some (Value.bool (!b))) (decide_eq_true c1)) ?_)|(refine st_fixV (d := some 71) (.bool true) rfl (congrArg (fun b => some (Value.bool (!b))) (decide_eq_false c2)) ?_)|(first|refine go1 ?_|refine zg (fun _ _=>?_)|refine zi (fun _ _=>?_))|(apply zO; focus((conv=>lhs;whnf)<;>(first|with_reducible exact rfl|(refine congrArg Value.bool ?_;decide))))|(refine st_elemR (d := some 50) (E := inR) (M := M) rfl rfl (n := i) (l := t.ins) (SlR.ext (w := w) h1 (by exact fx)) rfl hil (fun ad cs r4 he => ?_); obtain ⟨wv, rfl, hw, _⟩ := he; obtain ⟨bs1, cp1, rfl⟩ := hw.form)|(refine st_elemR (d := some 55) (E := inR) (M := N) rfl rfl (n := i) (l := u.ins) (SlR.ext (w := w) g1 (by exact fx)) rfl hiu (fun ad cs r4 he => ?_); obtain ⟨wv2, rfl, hw2, _⟩ := he; obtain ⟨bs2, cp2, rfl⟩ := hw2.form)|(refine zE (d' := 6) (fun _=>rfl) rfl rfl rfl (fun b6 w6 x6 a6 (r6 : Row w6 ⟨b6, 0, none⟩ (inCs t.ins[i] (.slice bs1 t.ins[i].wit.length cp1))) hb6=>?_))|(refine zE (d' := 7) (fun _=>rfl) rfl rfl rfl (fun b7 w7 x7 a7 (r7 : Row w7 ⟨b7, 0, none⟩ (inCs u.ins[i] (.slice bs2 u.ins[i].wit.length cp2))) hb7=>?_)))
      exact x_ret rfl ⟨rfl, by exact fx⟩
    by_cases c3 : t.ins[i].q = u.ins[i].q
    rotate_left
    · rw [hfal (fun h => c3 (by rw [h]))]
      repeat' (first|(refine st_fixV (d := some 63) (.bool false) rfl (congrArg (fun b => some (Value.bool (!b))) (decide_eq_true c1)) ?_)|(refine st_fixV (d := some 71) (.bool false) rfl (congrArg (fun b => some (Value.bool (!b))) (decide_eq_true c2)) ?_)|(refine st_fixV (d := some 78) (.bool true) rfl (congrArg (fun b => some (Value.bool (!b))) (decide_eq_false c3)) ?_)|(first|refine go1 ?_|refine zg (fun _ _=>?_)|refine zi (fun _ _=>?_))|(apply zO; focus((conv=>lhs;whnf)<;>(first|with_reducible exact rfl|(refine congrArg Value.bool ?_;decide))))|(refine st_elemR (d := some 50) (E := inR) (M := M) rfl rfl (n := i) (l := t.ins) (SlR.ext (w := w) h1 (by exact fx)) rfl hil (fun ad cs r4 he => ?_); obtain ⟨wv, rfl, hw, _⟩ := he; obtain ⟨bs1, cp1, rfl⟩ := hw.form)|(refine st_elemR (d := some 55) (E := inR) (M := N) rfl rfl (n := i) (l := u.ins) (SlR.ext (w := w) g1 (by exact fx)) rfl hiu (fun ad cs r4 he => ?_); obtain ⟨wv2, rfl, hw2, _⟩ := he; obtain ⟨bs2, cp2, rfl⟩ := hw2.form)|(refine zE (d' := 6) (fun _=>rfl) rfl rfl rfl (fun b6 w6 x6 a6 (r6 : Row w6 ⟨b6, 0, none⟩ (inCs t.ins[i] (.slice bs1 t.ins[i].wit.length cp1))) hb6=>?_))|(refine zE (d' := 7) (fun _=>rfl) rfl rfl rfl (fun b7 w7 x7 a7 (r7 : Row w7 ⟨b7, 0, none⟩ (inCs u.ins[i] (.slice bs2 u.ins[i].wit.length cp2))) hb7=>?_)))
      exact x_ret rfl ⟨rfl, by exact fx⟩
    by_cases c4 : t.ins[i].wit.length = u.ins[i].wit.length
    rotate_left
    · rw [hfal (fun h => c4 (by rw [h]))]
      repeat' (first|(refine st_fixV (d := some 63) (.bool false) rfl (congrArg (fun b => some (Value.bool (!b))) (decide_eq_true c1)) ?_)|(refine st_fixV (d := some 71) (.bool false) rfl (congrArg (fun b => some (Value.bool (!b))) (decide_eq_true c2)) ?_)|(refine st_fixV (d := some 78) (.bool false) rfl (congrArg (fun b => some (Value.bool (!b))) (decide_eq_true c3)) ?_)|(refine st_fixV (d := some 87) (.bool true) rfl (congrArg (fun b => some (Value.bool (!b))) (decide_eq_false (by omega))) ?_)|(first|refine go1 ?_|refine zg (fun _ _=>?_)|refine zi (fun _ _=>?_))|(apply zO; focus((conv=>lhs;whnf)<;>(first|with_reducible exact rfl|(refine congrArg Value.bool ?_;decide))))|(refine st_elemR (d := some 50) (E := inR) (M := M) rfl rfl (n := i) (l := t.ins) (SlR.ext (w := w) h1 (by exact fx)) rfl hil (fun ad cs r4 he => ?_); obtain ⟨wv, rfl, hw, _⟩ := he; obtain ⟨bs1, cp1, rfl⟩ := hw.form)|(refine st_elemR (d := some 55) (E := inR) (M := N) rfl rfl (n := i) (l := u.ins) (SlR.ext (w := w) g1 (by exact fx)) rfl hiu (fun ad cs r4 he => ?_); obtain ⟨wv2, rfl, hw2, _⟩ := he; obtain ⟨bs2, cp2, rfl⟩ := hw2.form)|(refine zE (d' := 6) (fun _=>rfl) rfl rfl rfl (fun b6 w6 x6 a6 (r6 : Row w6 ⟨b6, 0, none⟩ (inCs t.ins[i] (.slice bs1 t.ins[i].wit.length cp1))) hb6=>?_))|(refine zE (d' := 7) (fun _=>rfl) rfl rfl rfl (fun b7 w7 x7 a7 (r7 : Row w7 ⟨b7, 0, none⟩ (inCs u.ins[i] (.slice bs2 u.ins[i].wit.length cp2))) hb7=>?_)))
      exact x_ret rfl ⟨rfl, by exact fx⟩
    repeat' (first|(refine st_fixV (d := some 63) (.bool false) rfl (congrArg (fun b => some (Value.bool (!b))) (decide_eq_true c1)) ?_)|(refine st_fixV (d := some 71) (.bool false) rfl (congrArg (fun b => some (Value.bool (!b))) (decide_eq_true c2)) ?_)|(refine st_fixV (d := some 78) (.bool false) rfl (congrArg (fun b => some (Value.bool (!b))) (decide_eq_true c3)) ?_)|(refine st_fixV (d := some 87) (.bool false) rfl (congrArg (fun b => some (Value.bool (!b))) (decide_eq_true (by omega))) ?_)|(first|refine go1 ?_|refine zg (fun _ _=>?_)|refine zi (fun _ _=>?_))|(apply zO; focus((conv=>lhs;whnf)<;>(first|with_reducible exact rfl|(refine congrArg Value.bool ?_;decide))))|(refine st_elemR (d := some 50) (E := inR) (M := M) rfl rfl (n := i) (l := t.ins) (SlR.ext (w := w) h1 (by exact fx)) rfl hil (fun ad cs r4 he => ?_); obtain ⟨wv, rfl, hw, _⟩ := he; obtain ⟨bs1, cp1, rfl⟩ := hw.form)|(refine st_elemR (d := some 55) (E := inR) (M := N) rfl rfl (n := i) (l := u.ins) (SlR.ext (w := w) g1 (by exact fx)) rfl hiu (fun ad cs r4 he => ?_); obtain ⟨wv2, rfl, hw2, _⟩ := he; obtain ⟨bs2, cp2, rfl⟩ := hw2.form)|(refine zE (d' := 6) (fun _=>rfl) rfl rfl rfl (fun b6 w6 x6 a6 (r6 : Row w6 ⟨b6, 0, none⟩ (inCs t.ins[i] (.slice bs1 t.ins[i].wit.length cp1))) hb6=>?_))|(refine zE (d' := 7) (fun _=>rfl) rfl rfl rfl (fun b7 w7 x7 a7 (r7 : Row w7 ⟨b7, 0, none⟩ (inCs u.ins[i] (.slice bs2 u.ins[i].wit.length cp2))) hb7=>?_))|(refine zG (d := some 92) (E := strR) (l := t.ins[i].wit) rfl (by exact fx) ?_)|(refine zL rfl (fun h => ?_) (fun h => ?_))|(refine c_loopV (fun (j : Nat) w' => Ext w7 w' ∧ j ≤ t.ins[i].wit.length ∧ t.ins[i].wit.take j = u.ins[i].wit.take j) (fun j => [(2, .pointer (some ⟨bp, 0, none⟩)), (3, .pointer (some ⟨bq, 0, none⟩)), (5, .int .i64 i), (6, .pointer (some ⟨b6, 0, none⟩)), (7, .pointer (some ⟨b7, 0, none⟩)), (8, .int .i64 j)]) (fun j => t.ins[i].wit.length - j) 0 ⟨rfl, rfl, rfl, rfl, rfl, rfl, trivial⟩ ⟨Ext.refl _, by omega, rfl⟩ ?_; rintro j ρ8 w8 ⟨x8, hj, htj⟩))
    · have hjl : j < t.ins[i].wit.length := by omega
      have hju : j < u.ins[i].wit.length := by omega
      repeat' (first|(first|refine go1 ?_|refine zg (fun _ _=>?_)|refine zi (fun _ _=>?_))|(refine st_elemR (d := some 99) (E := strR) rfl rfl (n := j) (l := t.ins[i].wit) (SlR.ext hw (by exact fx)) rfl hjl (fun ad cs r4 he => ?_); subst he)|(refine st_elemR (d := some 104) (E := strR) rfl rfl (n := j) (l := u.ins[i].wit) (SlR.ext hw2 (by exact fx)) rfl hju (fun ad cs r4 he => ?_); subst he)|(refine zN (p := t.ins[i].wit[j] = u.ins[i].wit[j]) rfl (fun h => ?_) (fun h => ?_)))
      · rw [hfal (fun h9 => h (by have h8 : t.ins[i].wit = u.ins[i].wit := by rw [h9]
                                  have h7 : t.ins[i].wit[j]? = u.ins[i].wit[j]? := by rw [h8]
                                  rw [List.getElem?_eq_getElem hjl, List.getElem?_eq_getElem hju] at h7
                                  injection h7))]
        exact x_ret rfl ⟨rfl, by exact fx⟩
      · exact ⟨j + 1, ⟨rfl, rfl, rfl, rfl, rfl, rfl, trivial⟩, ⟨by exact fx, by omega, take_eq htj hjl hju h⟩, by omega⟩
    · have hwe : t.ins[i].wit = u.ins[i].wit := take_all htj (by omega) (by omega)
      exact ⟨i + 1, ⟨rfl, rfl, rfl, trivial⟩, ⟨by exact fx, by omega, take_eq hti hil hiu (tin_ext c1 c2 c3 hwe)⟩, by omega⟩
  · have hie : t.ins = u.ins := take_all hti (by omega) (by omega)
    repeat' (first|(first|refine go1 ?_|refine zg (fun _ _=>?_)|refine zi (fun _ _=>?_))|(refine zG (d := some 110) (E := outR) (M := M) (l := t.outs) rfl (SlR.ext (w := w) h2 (by exact fx)) ?_)|(refine zL rfl (fun h => ?_) (fun h => ?_))|(refine c_loopV (fun (k : Nat) w' => Ext wq w' ∧ k ≤ t.outs.length ∧ t.outs.take k = u.outs.take k) (fun k => [(2, .pointer (some ⟨bp, 0, none⟩)), (3, .pointer (some ⟨bq, 0, none⟩)), (9, .int .i64 k)]) (fun k => t.outs.length - k) 0 ⟨rfl, rfl, rfl, trivial⟩ ⟨by exact fx, by omega, rfl⟩ ?_; rintro k ρ9 w9 ⟨x9, hk, htk⟩))
    · have hkl : k < t.outs.length := by omega
      have hku : k < u.outs.length := by omega
      have hfo : ¬ t.outs[k] = u.outs[k] → decide (t = u) = false := fun hx => decide_eq_false (fun h => hx (by subst h; rfl))
      by_cases e1 : t.outs[k].v = u.outs[k].v
      rotate_left
      · rw [hfo (fun h => e1 (by rw [h]))]
        repeat' (first|(refine st_fixV (d := some 126) (.bool true) rfl (congrArg (fun b => some (Value.bool (!b))) (decide_eq_false e1)) ?_)|(first|refine go1 ?_|refine zg (fun _ _=>?_)|refine zi (fun _ _=>?_))|(apply zO; focus((conv=>lhs;whnf)<;>(first|with_reducible exact rfl|(refine congrArg Value.bool ?_;decide))))|(refine st_elemR (d := some 117) (E := outR) (M := M) rfl rfl (n := k) (l := t.outs) (SlR.ext (w := w) h2 (by exact fx)) rfl hkl (fun ad cs r4 he => ?_); obtain ⟨rfl, _⟩ := he)|(refine st_elemR (d := some 123) (E := outR) (M := N) rfl rfl (n := k) (l := u.outs) (SlR.ext (w := w) g2 (by exact fx)) rfl hku (fun ad cs r4 he => ?_); obtain ⟨rfl, _⟩ := he)|(refine st_elemR (d := some 131) (E := outR) (M := M) rfl rfl (n := k) (l := t.outs) (SlR.ext (w := w) h2 (by exact fx)) rfl hkl (fun ad cs r4 he => ?_); obtain ⟨rfl, _⟩ := he)|(refine st_elemR (d := some 137) (E := outR) (M := N) rfl rfl (n := k) (l := u.outs) (SlR.ext (w := w) g2 (by exact fx)) rfl hku (fun ad cs r4 he => ?_); obtain ⟨rfl, _⟩ := he))
        exact x_ret rfl ⟨rfl, by exact fx⟩
      by_cases e2 : t.outs[k].s = u.outs[k].s
      rotate_left
      · rw [hfo (fun h => e2 (by rw [h]))]
        repeat' (first|(refine st_fixV (d := some 126) (.bool false) rfl (congrArg (fun b => some (Value.bool (!b))) (decide_eq_true e1)) ?_)|(refine st_fixV (d := some 140) (.bool true) rfl (congrArg (fun b => some (Value.bool (!b))) (decide_eq_false e2)) ?_)|(first|refine go1 ?_|refine zg (fun _ _=>?_)|refine zi (fun _ _=>?_))|(apply zO; focus((conv=>lhs;whnf)<;>(first|with_reducible exact rfl|(refine congrArg Value.bool ?_;decide))))|(refine st_elemR (d := some 117) (E := outR) (M := M) rfl rfl (n := k) (l := t.outs) (SlR.ext (w := w) h2 (by exact fx)) rfl hkl (fun ad cs r4 he => ?_); obtain ⟨rfl, _⟩ := he)|(refine st_elemR (d := some 123) (E := outR) (M := N) rfl rfl (n := k) (l := u.outs) (SlR.ext (w := w) g2 (by exact fx)) rfl hku (fun ad cs r4 he => ?_); obtain ⟨rfl, _⟩ := he)|(refine st_elemR (d := some 131) (E := outR) (M := M) rfl rfl (n := k) (l := t.outs) (SlR.ext (w := w) h2 (by exact fx)) rfl hkl (fun ad cs r4 he => ?_); obtain ⟨rfl, _⟩ := he)|(refine st_elemR (d := some 137) (E := outR) (M := N) rfl rfl (n := k) (l := u.outs) (SlR.ext (w := w) g2 (by exact fx)) rfl hku (fun ad cs r4 he => ?_); obtain ⟨rfl, _⟩ := he))
        exact x_ret rfl ⟨rfl, by exact fx⟩
      repeat' (first|(refine st_fixV (d := some 126) (.bool false) rfl (congrArg (fun b => some (Value.bool (!b))) (decide_eq_true e1)) ?_)|(refine st_fixV (d := some 140) (.bool false) rfl (congrArg (fun b => some (Value.bool (!b))) (decide_eq_true e2)) ?_)|(first|refine go1 ?_|refine zg (fun _ _=>?_)|refine zi (fun _ _=>?_))|(apply zO; focus((conv=>lhs;whnf)<;>(first|with_reducible exact rfl|(refine congrArg Value.bool ?_;decide))))|(refine st_elemR (d := some 117) (E := outR) (M := M) rfl rfl (n := k) (l := t.outs) (SlR.ext (w := w) h2 (by exact fx)) rfl hkl (fun ad cs r4 he => ?_); obtain ⟨rfl, _⟩ := he)|(refine st_elemR (d := some 123) (E := outR) (M := N) rfl rfl (n := k) (l := u.outs) (SlR.ext (w := w) g2 (by exact fx)) rfl hku (fun ad cs r4 he => ?_); obtain ⟨rfl, _⟩ := he)|(refine st_elemR (d := some 131) (E := outR) (M := M) rfl rfl (n := k) (l := t.outs) (SlR.ext (w := w) h2 (by exact fx)) rfl hkl (fun ad cs r4 he => ?_); obtain ⟨rfl, _⟩ := he)|(refine st_elemR (d := some 137) (E := outR) (M := N) rfl rfl (n := k) (l := u.outs) (SlR.ext (w := w) g2 (by exact fx)) rfl hku (fun ad cs r4 he => ?_); obtain ⟨rfl, _⟩ := he))
      exact ⟨k + 1, ⟨rfl, rfl, rfl, trivial⟩, ⟨by exact fx, by omega, take_eq htk hkl hku (tout_ext e1 e2)⟩, by omega⟩
    · have hoe : t.outs = u.outs := take_all htk (by omega) (by omega)
      rw [decide_eq_true (tx_ext a1 a2 hie hoe)]
      repeat' (first|refine go1 ?_|refine zg (fun _ _=>?_)|refine zi (fun _ _=>?_))
      exact x_ret rfl ⟨rfl, by exact fx⟩
end Go.Proofs.YtbidkcjendncaaaGreatDoor
end
section
namespace Go.Proofs.YtbidkcjendncaaaGreatDoor
open Go Go.K
attribute [local irreducible] regK codeK retK KOp.wp K.Spec u32 leS vnS str zero32 checkT grantB encT idT sizeT
set_option maxHeartbeats 1000000 in
theorem copies_spec {M N:List Nat} {v:Value} {txs:List Tx} (w:World) (hx:SlR txR N w v txs) (hs:∀t∈txs,t.Sm) (hMN:∀b∈M,b∈N∨w.heap.size≤b) (hM:∀b∈M,b<w.heap.size) (hk0:txs.length≤1000):K.Spec Tryz.prog F.chain_copies [v] w fun r w'=>OwnR txR T.api_Tx w.heap.size M w' r txs∧Ext w w':=by
 refine s_chain_copies rfl ?_
 unfold k_chain_copies
 refine oy ?_
 repeat' (first|(refine zG (d:=some 7) (E:=txR) (M:=N) (l:=txs) rfl hx ?_)|(refine c_loopV (fun (p:Nat × Value) w'=>Ext w w'∧p.1≤txs.length∧OwnR txR T.api_Tx w.heap.size M w' p.2 (txs.take p.1)) (fun p=> [(3,p.2),(6,v),(7,.int .i64 (txs.length:Nat)),(8,.int .i64 (p.1:Nat))]) (fun p=>txs.length - p.1) (0,.slice none 0 0) ⟨rfl,rfl,rfl,rfl,trivial⟩ ⟨Ext.refl _,by simp,OwnR.nil _ _ _ _⟩ ?_;rintro ⟨k,v3⟩ ρ w2 ⟨x2,hk,ho⟩;simp only at hk ho;dsimp only)|(refine zL (x:=.tmp 9) (p:=((k:Nat):Int)<((txs.length:Nat):Int)) rfl (fun h9=>?_) (fun h9=>?_))|(first|refine go1 ?_|refine zg (fun _ _=>?_)|refine zi (fun _ _=>?_)))
 ·have hkl:k<txs.length:=by omega
  have hst:=hs _ (List.getElem_mem hkl)
  have hb3:=ho.base
  have hl3:=ho.lt
  have s2:=x2.size
  have hx2:SlR txR (blkOf v3++M) w2 v txs:=hx.step x2 (by simp) (fun b hb=>(List.mem_append.1 hb).elim (fun h=>.inr (hb3 b h)) (hMN b))
  have x02':Unit→Ext w w2:=fun _=>x2
  have hll:(txs.take k).length≤k:=by rw [List.length_take];omega
  obtain ⟨t,ht⟩:∃t,t=txs[k]:=⟨_,rfl⟩
  rw [←ht] at hst
  clear x2
  repeat (first|(refine st_elemR (d:=some 10) (E:=txR) (M:=blkOf v3++M) rfl rfl (n:=k) (l:=txs) hx2 rfl hkl (fun ad cs r4 he=>?_);rw [←ht] at he;obtain ⟨iv,ov,rfl,p1,p2,p3⟩:=id he;have o1:=p1.one;have o2:=p2.one)|(refine zE (d':=5) (fun _=>rfl) rfl rfl (txR.one he |> List.all_eq_true.2) (fun b5 w4 x4 a4 (r5:Row w4 ⟨b5,0,none⟩ (txCs t iv ov)) hb5=>?_))|(first|refine go1 ?_|refine zg (fun _ _=>?_)|refine zi (fun _ _=>?_)))
  refine zC (d:=some 14) rfl (txcopy_spec (M:=blkOf v3++M) (cs:=txCs t iv ov) (t:=t) _ (R.ext he x4) hst (fun b hb=>Nat.lt_of_lt_of_le ((List.mem_append.1 hb).elim (hl3 b) (fun h=>by have:=hM b h;omega)) x4.size)) ?_
  rintro _ w5 ⟨cs',rfl,tO,x5⟩
  have tO5:=tO.rel (fun b hb=>Nat.lt_of_lt_of_le ((List.mem_append.1 hb).elim (hl3 b) (fun h=>by have:=hM b h;omega)) x4.size)
  obtain ⟨iv',ov',rfl, -, -, -⟩:=id tO5
  repeat (first|(refine zI (d:=some 15) (cs:=txCs t iv' ov') rfl (fun b6 w6 x6 a6 hb6=>?_))|(refine st_append1 (d:=some 16) (E:=txR) (M:=M) (v:=v3) (cs:=txCs t iv' ov') (a:=t) rfl rfl (ho.ext (by exact fx)) (Nat.le_trans s2 (Ext.size (show Ext w2 _ by exact fx))) rfl rfl a6 (R.ext tO5 x6) (by omega) (fun v7 w7 o7 c7 hb7=>?_))|(first|refine go1 ?_|refine zg (fun _ _=>?_)|refine zi (fun _ _=>?_)))
  exact ⟨(k+1,v7),⟨rfl,rfl,rfl,rfl,trivial⟩,⟨(Ext.chg ((x02' ()).trans (show Ext w2 w6 by exact fx)) c7).mono (fun b hb=>.inr (hb3 b hb)),by simp only;omega,by simp only;rw [List.take_succ_eq_append_getElem hkl,←ht];exact o7⟩,by simp only;omega⟩
 ·have e:txs.take k=txs:=List.take_of_length_le (by omega)
  rw [e] at ho
  repeat (first|refine go1 ?_|refine zg (fun _ _=>?_)|refine zi (fun _ _=>?_))
  exact x_ret rfl ⟨ho,x2⟩
end Go.Proofs.YtbidkcjendncaaaGreatDoor
end
section
namespace Go.Proofs.YtbidkcjendncaaaGreatDoor
open Go Go.K
attribute [local irreducible] regK codeK retK KOp.wp K.Spec u32 leS vnS str zero32 checkT grantB encT idT sizeT
set_option maxHeartbeats 4000000 in
theorem linked_spec {M N:List Nat} {v sv mv:Value} {txs:List Tx} {spent made:List En} (w:World) (hx:SlR txR N w v txs) (hs:∀t∈txs,t.Sm) (hMN:∀b∈M,b∈N) (hM:∀b∈M,b<w.heap.size) (hk0:txs.length≤1000) (hsv:SlR enR M w sv spent) (hmv:SlR enR M w mv made):
  K.Spec Tryz.prog F.chain_linked [v,.agg #[sv,mv]] w fun r w'=>∃cs:List Value,r=.agg cs.toArray∧lkR.rel M w' cs ⟨txs,spent,made⟩∧Ext w w':=by
 obtain ⟨q1,q2,esv⟩:=hsv.form
 obtain ⟨q3,q4,emv⟩:=hmv.form
 have o1:sv.oneCell'=true:=by rw [esv];rfl
 have o2:mv.oneCell'=true:=by rw [emv];rfl
 refine s_chain_linked rfl ?_
 unfold k_chain_linked
 refine oy ?_
 repeat (first|(refine zD (d:=some 3) (cs:= [sv,mv]) rfl (by rw [esv,emv];rfl) (fun b3 w0 x0 a3 (r3:Row w0 ⟨b3,0,none⟩ [sv,mv]) hb3=>?_))|(refine zH (d:=some 4) (fun b4 w1 x1 a4 hb4=>?_))|(refine zg (fun w2 x2=>?_))|(refine zi (fun w2 x2=>?_))|(refine st_joinV (b:=.cons ⟨none,.storeN _ _ _,_⟩ _) (fun (p:Value × Nat × Nat) w'=>Ext w1 w'∧SlR txR (p.2.2::p.2.1::b4::M) w' p.1 txs∧MapE ptK Value.string w' p.2.1 []∧At w' p.2.2 (.cells [Value.slice none 0 0,.slice none 0 0,.slice none 0 0,.slice none 0 0,.map none].toArray T.chain_link (0,0))∧w1.heap.size≤p.2.1∧w1.heap.size≤p.2.2) (fun p=> [(0,v),(3,.pointer (some ⟨b3,0,none⟩)),(4,.pointer (some ⟨b4,0,none⟩)),(5,.pointer (some ⟨p.2.2,0,none⟩)),(16,.agg #[p.1,.slice none 0 0,sv,mv,.map (some p.2.1)])]) ?_ ?_)|(first|refine go1 ?_|refine zg (fun _ _=>?_)|refine zi (fun _ _=>?_)))
 ·have s01:=x0.size
  have s12:=x1.size
  have l4:=a4.lt
  clear a4 a3
  repeat' (first|(refine zB ?_ ?_)|(refine zH (d:=some 5) (fun b5 w5 x5 a5 hb5=>?_);have h15:w1.heap.size≤b5:=Nat.le_trans (Ext.size (show Ext w1 _ by exact fx)) hb5)|(refine st_makeMap (d:=some 15) (E:=ptK) (fv:=Value.string) (fun bm w6 x6 m6 hbm=>?_);have h16:w1.heap.size≤bm:=Nat.le_trans (Ext.size (show Ext w1 _ by exact fx)) hbm)|(refine zC (d:=some 13) rfl (copies_spec (M:=b5::bm::b4::M) (N:=b5::bm::b4::N) _ (hx.step (show Ext w _ by exact fx) (by simp) (fun y hy=>by simp only [List.mem_cons] at hy;rcases hy with rfl|rfl|rfl|hy;exact .inr (by omega);exact .inr (by omega);exact .inr (by omega);exact .inl hy)) hs (fun y hy=>by simp only [List.mem_cons] at hy;rcases hy with rfl|rfl|rfl|hy;exact .inl (by simp);exact .inl (by simp);exact .inl (by simp);exact .inl (by simp [hMN y hy])) (fun y hy=>by simp only [List.mem_cons] at hy;rcases hy with rfl|rfl|rfl|hy;exact Nat.lt_of_lt_of_le a5.lt (Ext.size (by exact fx));exact Nat.lt_of_lt_of_le m6.lt (Ext.size (by exact fx));exact Nat.lt_of_lt_of_le l4 (Ext.size (by exact fx));exact Nat.lt_of_lt_of_le (hM y hy) (Ext.size (by exact fx))) hk0) ?_;rintro tv w7 ⟨oT,x7⟩;have hT:=oT.slB (fun y hy=>by simp only [List.mem_cons] at hy;rcases hy with rfl|rfl|rfl|hy;exact Nat.lt_of_lt_of_le a5.lt (Ext.size (by exact fx));exact Nat.lt_of_lt_of_le m6.lt (Ext.size (by exact fx));exact Nat.lt_of_lt_of_le l4 (Ext.size (by exact fx));exact Nat.lt_of_lt_of_le (hM y hy) (Ext.size (by exact fx)));clear oT;obtain ⟨q5,q6,etv⟩:=hT.form)|(refine zC (d:=some 13) rfl (copies_spec (M:=b5::b4::M) (N:=b5::b4::N) _ (hx.step (show Ext w _ by exact fx) (by simp) (fun y hy=>by simp only [List.mem_cons] at hy;rcases hy with rfl|rfl|hy;exact .inr (by omega);exact .inr (by omega);exact .inl hy)) hs (fun y hy=>by simp only [List.mem_cons] at hy;rcases hy with rfl|rfl|hy;exact .inl (by simp);exact .inl (by simp);exact .inl (by simp [hMN y hy])) (fun y hy=>by simp only [List.mem_cons] at hy;rcases hy with rfl|rfl|hy;exact Nat.lt_of_lt_of_le a5.lt (Ext.size (by exact fx));exact Nat.lt_of_lt_of_le l4 (Ext.size (by exact fx));exact Nat.lt_of_lt_of_le (hM y hy) (Ext.size (by exact fx))) hk0) ?_;rintro tv w7 ⟨oT,x7⟩;have hT:=oT.slB (fun y hy=>by simp only [List.mem_cons] at hy;rcases hy with rfl|rfl|hy;exact Nat.lt_of_lt_of_le a5.lt (Ext.size (by exact fx));exact Nat.lt_of_lt_of_le l4 (Ext.size (by exact fx));exact Nat.lt_of_lt_of_le (hM y hy) (Ext.size (by exact fx)));clear oT;obtain ⟨q5,q6,etv⟩:=hT.form)|(refine zC (d:=some 13) rfl (copies_spec (M:=bm::b4::M) (N:=bm::b4::N) _ (hx.step (show Ext w _ by exact fx) (by simp) (fun y hy=>by simp only [List.mem_cons] at hy;rcases hy with rfl|rfl|hy;exact .inr (by omega);exact .inr (by omega);exact .inl hy)) hs (fun y hy=>by simp only [List.mem_cons] at hy;rcases hy with rfl|rfl|hy;exact .inl (by simp);exact .inl (by simp);exact .inl (by simp [hMN y hy])) (fun y hy=>by simp only [List.mem_cons] at hy;rcases hy with rfl|rfl|hy;exact Nat.lt_of_lt_of_le m6.lt (Ext.size (by exact fx));exact Nat.lt_of_lt_of_le l4 (Ext.size (by exact fx));exact Nat.lt_of_lt_of_le (hM y hy) (Ext.size (by exact fx))) hk0) ?_;rintro tv w7 ⟨oT,x7⟩;have hT:=oT.slB (fun y hy=>by simp only [List.mem_cons] at hy;rcases hy with rfl|rfl|hy;exact Nat.lt_of_lt_of_le m6.lt (Ext.size (by exact fx));exact Nat.lt_of_lt_of_le l4 (Ext.size (by exact fx));exact Nat.lt_of_lt_of_le (hM y hy) (Ext.size (by exact fx)));clear oT;obtain ⟨q5,q6,etv⟩:=hT.form)|(refine zC (d:=some 13) rfl (copies_spec (M:=b4::M) (N:=b4::N) _ (hx.step (show Ext w _ by exact fx) (by simp) (fun y hy=>by simp only [List.mem_cons] at hy;rcases hy with rfl|hy;exact .inr (by omega);exact .inl hy)) hs (fun y hy=>by simp only [List.mem_cons] at hy;rcases hy with rfl|hy;exact .inl (by simp);exact .inl (by simp [hMN y hy])) (fun y hy=>by simp only [List.mem_cons] at hy;rcases hy with rfl|hy;exact Nat.lt_of_lt_of_le l4 (Ext.size (by exact fx));exact Nat.lt_of_lt_of_le (hM y hy) (Ext.size (by exact fx))) hk0) ?_;rintro tv w7 ⟨oT,x7⟩;have hT:=oT.slB (fun y hy=>by simp only [List.mem_cons] at hy;rcases hy with rfl|hy;exact Nat.lt_of_lt_of_le l4 (Ext.size (by exact fx));exact Nat.lt_of_lt_of_le (hM y hy) (Ext.size (by exact fx)));clear oT;obtain ⟨q5,q6,etv⟩:=hT.form)|(refine st_build (d:=some 16) (cs:= [tv,.slice none 0 0,sv,mv,.map (some bm)]) (by rw [etv,esv,emv];rfl) ?_)|(first|refine go1 ?_|refine zg (fun _ _=>?_)|refine zi (fun _ _=>?_)))
  all_goals exact ⟨(tv,bm,b5),⟨rfl,rfl,rfl,rfl,rfl,trivial⟩,by exact fx,hT.step (show Ext w7 _ by exact fx) (by simp) (by
   intro y hy
   simp only [List.mem_cons] at hy
   rcases hy with rfl|rfl|rfl|hy
   ·first
     |exact .inl (List.Mem.head _)
     |exact .inl (List.Mem.tail _ (List.Mem.head _))
     |exact .inr (Nat.le_trans (Ext.size (show Ext w7 _ by exact fx)) hb5)
   ·first
     |exact .inl (List.Mem.head _)
     |exact .inl (List.Mem.tail _ (List.Mem.head _))
     |exact .inr (Nat.le_trans (Ext.size (show Ext w7 _ by exact fx)) hbm)
   ·first
     |exact .inl (List.Mem.head _)
     |exact .inl (List.Mem.tail _ (List.Mem.head _))
     |exact .inl (List.Mem.tail _ (List.Mem.tail _ (List.Mem.head _)))
   ·first
     |exact .inl hy
     |exact .inl (List.Mem.tail _ hy)
     |exact .inl (List.Mem.tail _ (List.Mem.tail _ hy))
     |exact .inl (List.Mem.tail _ (List.Mem.tail _ (List.Mem.tail _ hy)))),m6.ext (by exact fx),At.ext (by exact fx) a5,h16,h15⟩
 ·rintro ⟨tv,bm,b5⟩ ρ w3 ⟨x13,hT,m3,a5,hbm,hb5⟩
  simp only at hT m3 a5 hbm hb5
  dsimp only
  obtain ⟨q5,q6,etv⟩:=hT.form
  have o3:tv.oneCell'=true:=by rw [etv];rfl
  have lbm:=m3.lt
  have lb5:=a5.lt
  have hne:b5≠bm:=by
   obtain ⟨es,clock,h1,_⟩:=m3
   exact a5.ne h1 (by simp)
  have x01:Ext w w1:=x0.trans x1
  have s01:=x01.size
  have s00:=x0.size
  have x03:Ext w w3:=x01.trans x13
  have a4':=At.ext x13 a4
  have l4:=a4.lt
  have hx3:SlR txR (b5::bm::N) w3 v txs:=hx.step x03 (by simp) (fun y hy=>by
   simp only [List.mem_cons] at hy
   rcases hy with rfl|rfl|hy
   ·exact .inr (by omega)
   ·exact .inr (by omega)
   ·exact .inl hy)
  have hsv3:SlR enR (b5::bm::b4::M) w3 sv spent:=hsv.step x03 (by simp) (fun y hy=>by
   simp only [List.mem_cons] at hy
   rcases hy with rfl|rfl|rfl|hy
   ·exact .inr (by omega)
   ·exact .inr (by omega)
   ·exact .inr (by omega)
   ·exact .inl hy)
  have hmv3:SlR enR (b5::bm::b4::M) w3 mv made:=hmv.step x03 (by simp) (fun y hy=>by
   simp only [List.mem_cons] at hy
   rcases hy with rfl|rfl|rfl|hy
   ·exact .inr (by omega)
   ·exact .inr (by omega)
   ·exact .inr (by omega)
   ·exact .inl hy)
  refine st_storeN0 (b:=b5) (vs:= [tv,.slice none 0 0,sv,mv,.map (some bm)]) rfl rfl rfl (by simp [o1,o2,o3];exact ⟨rfl,rfl⟩) a5 rfl (fun w4 c4 a54=>?_)
  have s34:=c4.size
  clear x0 x1 x2 x01 a3 r3 a4
  have hx4:SlR txR (b5::bm::N) w4 v txs:=hx3.step c4 (fun y hy=>.inl (by simp at hy;simp [hy])) (fun y hy=>.inl hy)
  have hT4:SlR txR (b5::bm::b4::M) w4 tv txs:=hT.step c4 (fun y hy=>.inl (by simp at hy;simp [hy])) (fun y hy=>.inl hy)
  have hsv4:SlR enR (b5::bm::b4::M) w4 sv spent:=hsv3.step c4 (fun y hy=>.inl (by simp at hy;simp [hy])) (fun y hy=>.inl hy)
  have hmv4:SlR enR (b5::bm::b4::M) w4 mv made:=hmv3.step c4 (fun y hy=>.inl (by simp at hy;simp [hy])) (fun y hy=>.inl hy)
  have m4:=m3.chg c4 (by simp;omega)
  have a44:=At.chg c4 a4' (by simp;omega)
  have x04:Ext w w4:=(Ext.chg x03 c4).mono (fun y hy=>.inr (by simp at hy;omega))
  have sub:∀y∈ [b5,bm],∀L:List Nat,y∈b5::bm::L:=by
   intro y hy L
   simp at hy ⊢
   rcases hy with rfl|rfl
   ·exact .inl rfl
   ·exact .inr (.inl rfl)
  clear c4 x03 m3 a4' hT hx3 hsv3 hmv3 a5 x13
  repeat (first|(refine zG (d:=some 18) (E:=txR) (M:=b5::bm::N) (l:=txs) rfl hx4 ?_)|(refine c_loopV (fun (p:Nat × Value × List ByteArray × List (Pt × ByteArray)) w'=>Chg [b5,bm] w4 w'∧p.1≤txs.length∧At w' b5 (.cells [tv,p.2.1,sv,mv,.map (some bm)].toArray T.chain_link (0,0))∧Own strE T.string w4.heap.size w' p.2.1 p.2.2.1∧p.2.2.1.length≤p.1∧MapE ptK Value.string w' bm p.2.2.2) (fun p=> [(4,.pointer (some ⟨b4,0,none⟩)),(5,.pointer (some ⟨b5,0,none⟩)),(17,v),(18,.int .i64 (txs.length:Nat)),(19,.int .i64 (p.1:Nat))]) (fun p=>txs.length - p.1) (0,.slice none 0 0, [], []) ⟨rfl,rfl,rfl,rfl,rfl,trivial⟩ ⟨Chg.refl _ _,by simp,a54,Own.nil _ _ _,by simp,m4⟩ ?_;rintro ⟨k,idv,ids,sm⟩ ρ w5 ⟨c5,hk,a55,oi,hil,m5⟩;simp only at hk a55 oi hil m5;dsimp only)|(first|refine go1 ?_|refine zg (fun _ _=>?_)|refine zi (fun _ _=>?_)))
  refine zL (x:=.tmp 20) (p:=((k:Nat):Int)<((txs.length:Nat):Int)) rfl (fun h9=>?_) (fun h9=>?_)
  ·have hkl:k<txs.length:=by omega
   have hst:=hs _ (List.getElem_mem hkl)
   have x05:Ext w w5:=(Ext.chg x04 c5).mono (fun y hy=>.inr (by simp at hy;omega))
   have oib:=oi.base
   have s04:=x04.size
   have hx5:SlR txR (blkOf idv++b5::bm::N) w5 v txs:=hx.step x05 (by simp) (fun y hy=>by
    simp only [List.mem_append,List.mem_cons] at hy
    rcases hy with hy|rfl|rfl|hy
    ·exact .inr (by have:=oib y hy;omega)
    ·exact .inr (by omega)
    ·exact .inr (by omega)
    ·exact .inl hy)
   obtain ⟨t,ht⟩:∃t,t=txs[k]:=⟨_,rfl⟩
   rw [←ht] at hst
   have hins:=hst.ins
   have s45:=c5.size
   have row5:=Row.of_at a55
   have oione:idv.oneCell'=true:=by obtain ⟨_,_,e⟩:=oi.sl.form;rw [e];rfl
   have c45':Unit→Chg [b5,bm] w4 w5:=fun _=>c5
   clear c5
   repeat (first|(refine st_elemR (d:=some 21) (E:=txR) (M:=blkOf idv++b5::bm::N) rfl rfl (n:=k) (l:=txs) hx5 rfl hkl (fun ad cs r4 he=>?_);rw [←ht] at he;obtain ⟨iv,ov,rfl,p1,p2,p3⟩:=id he)|(refine zE (d':=7) (fun _=>rfl) rfl rfl (txR.one he |> List.all_eq_true.2) (fun b7 w6 x6 a7 (r7:Row w6 ⟨b7,0,none⟩ (txCs t iv ov)) hb7=>?_))|(refine zC (d:=some 25) rfl (id_spec (M:=blkOf idv++b5::bm::N) (cs:=txCs t iv ov) (t:=t) _ (R.ext he (by exact fx)) hst) ?_;rintro _ w7 ⟨rfl,x7⟩;rw [idV_eq])|(refine zI (d:=some 31) (cs:= [.string (idS t)]) rfl (fun b8 w8 x8 a8 hb8=>?_))|(refine st_append (d:=some 32) (E:=strE) (v:=idv) (l2:= [idS t]) rfl (oi.ext (by exact fx)) (Nat.le_trans s45 (Ext.size (show Ext w5 _ by exact fx))) rfl rfl (sl_new a8 rfl) rfl rfl (by simp only [List.length_cons,List.length_nil];omega) (fun v9 w9 o9 c9=>?_))|(first|refine go1 ?_|refine zg (fun _ _=>?_)|refine zi (fun _ _=>?_)))
   have x58:Ext w5 w8:=by exact fx
   have n5:b5∉blkOf idv:=fun h=>by have:=oib _ h;omega
   have n7:b7∉blkOf idv:=fun h=>by have:=Own.blk_lt oi _ h;have:=a7.lt;omega
   have nm:bm∉blkOf idv:=fun h=>by have:=oib _ h;omega
   have a59:=At.chg c9 (At.ext x58 a55) n5
   have r79:Row w9 ⟨b7,0,none⟩ (txCs t iv ov):=Row.chg c9 (Row.ext (x7.trans x8) r7) n7
   have m9:=(m5.ext x58).chg c9 nm
   have p19:SlR inR (b5::bm::N) w9 iv t.ins:=p1.step (Chg.trans x58 c9) (fun y hy=>.inl (by simp only [List.nil_append] at hy;exact List.mem_append_left _ hy)) (fun y hy=>.inl (List.mem_append_right _ hy))
   have c49:Chg [b5,bm] w4 w9:=((c45' ()).trans (Chg.trans x58 c9)).mono (fun y hy=>by
    simp only [List.nil_append] at hy
    exact (List.mem_append.1 hy).elim .inl (fun h=>.inr (oib y h)))
   have o9one:v9.oneCell'=true:=by obtain ⟨_,_,e⟩:=o9.sl.form;rw [e];rfl
   have o9b:=o9.base
   have s89:=c9.size
   have l7:=a7.lt
   have row9:=Row.of_at a59
   clear x6 x7 x8 x58 a8 r7 a7 c9
   repeat (first|refine go1 ?_|refine zg (fun _ _=>?_)|refine zi (fun _ _=>?_))
   refine st_store (b:=b5) (o:=1) (cur:= [tv,idv,sv,mv,.map (some bm)]) rfl rfl o9one a59 (Nat.le_of_ble_eq_true rfl) (fun w10 c10 a10=>?_)
   have m10:=m9.chg c10 (by simp;omega)
   have r710:=Row.chg c10 r79 (by simp;omega)
   have p110:SlR inR (b5::bm::N) w10 iv t.ins:=p19.step c10 (fun y hy=>.inl (by simp at hy;simp [hy])) (fun y hy=>.inl hy)
   have o910:=o9.chg c10 (fun y hy=>by have:=o9b y hy;simp;omega)
   have c410:Chg [b5,bm] w4 w10:=(c49.trans c10).mono (by simp)
   have s910:=c10.size
   clear c49 c10 m9 r79 p19 o9 a59 row9 m5 oi a55 row5
   repeat (first|(refine zG (d:=some 36) (E:=inR) (M:=b5::bm::N) (l:=t.ins) rfl p110 ?_)|(refine c_loopV (fun (p:Nat × List (Pt × ByteArray)) w'=>Chg [bm] w10 w'∧p.1≤t.ins.length∧MapE ptK Value.string w' bm p.2) (fun p=> [(4,.pointer (some ⟨b4,0,none⟩)),(5,.pointer (some ⟨b5,0,none⟩)),(8,.string (idS t)),(17,v),(18,.int .i64 (txs.length:Nat)),(19,.int .i64 (k:Nat)),(35,iv),(36,.int .i64 (t.ins.length:Nat)),(37,.int .i64 (p.1:Nat))]) (fun p=>t.ins.length - p.1) (0,sm) ⟨rfl,rfl,rfl,rfl,rfl,rfl,rfl,rfl,rfl,trivial⟩ ⟨Chg.refl _ _,by simp,m10⟩ ?_;rintro ⟨j,sm2⟩ ρ w11 ⟨c11,hj,m11⟩;simp only at hj m11;dsimp only)|(first|refine go1 ?_|refine zg (fun _ _=>?_)|refine zi (fun _ _=>?_)))
   have a11:=At.chg c11 a10 (by simp;omega)
   have row11:=Row.of_at a11
   refine zL (x:=.tmp 38) (p:=((j:Nat):Int)<((t.ins.length:Nat):Int)) rfl (fun h7=>?_) (fun h7=>?_)
   ·have hjl:j<t.ins.length:=by omega
    have p111:SlR inR (b5::bm::N) w11 iv t.ins:=p110.step c11 (fun y hy=>.inl (by simp at hy;simp [hy])) (fun y hy=>.inl hy)
    have lbm11:=m11.lt
    repeat (first|(refine st_elemR (d:=some 39) (E:=inR) (M:=b5::bm::N) rfl rfl (n:=j) (l:=t.ins) p111 rfl hjl (fun ad cs r4 he=>?_);obtain ⟨wv,rfl,hwv,hp5,hp6⟩:=he)|(refine zE (d':=11) (fun _=>rfl) rfl rfl (by have:=hwv.one;simp [inCs,this];exact ⟨rfl,rfl,rfl⟩) (fun b12 w12 x12 a12 (r12:Row w12 ⟨b12,0,none⟩ (inCs t.ins[j] wv)) hb12=>?_))|(refine st_mapUpdate (E:=ptK) (fv:=Value.string) (k:=t.ins[j].p) (v:=idS t) rfl rfl rfl (MapE.ext (w:=w11) (by exact fx) m11) rfl rfl (fun w13 c13 m13=>?_))|(first|refine go1 ?_|refine zg (fun _ _=>?_)|refine zi (fun _ _=>?_)))
    exact ⟨(j+1,aset sm2 t.ins[j].p (idS t)),⟨rfl,rfl,rfl,rfl,rfl,rfl,rfl,rfl,rfl,trivial⟩,⟨(c11.trans (Chg.trans x12 c13)).mono (by simp),by simp only;omega,m13⟩,by simp only;omega⟩
   ·repeat (first|refine go1 ?_|refine zg (fun _ _=>?_)|refine zi (fun _ _=>?_))
    exact ⟨(k+1,v9,ids++ [idS t],sm2),⟨rfl,rfl,rfl,rfl,rfl,trivial⟩,⟨(c410.trans c11).mono (by simp),by simp only;omega,a11,o910.chg c11 (fun y hy=>by have:=o9b y hy;simp;omega),by simp only [List.length_append,List.length_singleton];omega,m11⟩,by simp only;omega⟩
  ·have hkk:k=txs.length:=by omega
   have oione:idv.oneCell'=true:=by obtain ⟨_,_,e⟩:=oi.sl.form;rw [e];rfl
   have a45:=At.chg c5 a44 (by simp;omega)
   have row5:=Row.of_at a55
   repeat (first|refine go1 ?_|refine zg (fun _ _=>?_)|refine zi (fun _ _=>?_))
   refine st_storeN0 (b:=b4) (vs:= [tv,idv,sv,mv,.map (some bm)]) rfl rfl rfl (by simp [o1,o2,o3,oione];rfl) a45 rfl (fun w6 c6 a6=>?_)
   repeat (first|refine go1 ?_|refine zg (fun _ _=>?_)|refine zi (fun _ _=>?_))
   have c46:Chg [b5,bm,b4] w4 w6:=(c5.trans c6).mono (fun y hy=>.inl (by simp at hy ⊢;omega))
   have sub3:∀y∈ [b5,bm,b4],y∈b5::bm::b4::M:=by intro y hy;simp at hy ⊢;omega
   have sup:∀y∈M,y∈b5::bm::b4::M:=fun y hy=>by simp [hy]
   exact x_ret (ret1 (rv_cell (Row.of_at a6) rfl rfl)) ⟨_,rfl,⟨tv,idv,sv,mv,.map (some bm),rfl,hT4.step c46 (fun y hy=>.inl (sub3 y hy)) (fun y hy=>.inl (sup y hy)),oione,hsv4.step c46 (fun y hy=>.inl (sub3 y hy)) (fun y hy=>.inl (sup y hy)),hmv4.step c46 (fun y hy=>.inl (sub3 y hy)) (fun y hy=>.inl (sup y hy)),rfl⟩,(Ext.chg x04 c46).mono (fun y hy=>.inr (by simp at hy;omega))⟩
end Go.Proofs.YtbidkcjendncaaaGreatDoor
end
section
namespace Go.Proofs.YtbidkcjendncaaaGreatDoor
open Go Go.K
attribute [local irreducible] regK codeK retK KOp.wp K.Spec u32 leS vnS str zero32
theorem chnew_spec {U:List Nat} (w:World) (hU:∀y∈U,y<w.heap.size):K.Spec Tryz.prog F.chain_New [] w fun r w'=>∃c M,r=.pointer (some ⟨c,0,none⟩)∧ChR U w' w.heap.size c M ⟨[],0⟩∧(∀y∈M,w.heap.size≤y)∧Ext w w':=by
 refine s_chain_New rfl ?_
 unfold k_chain_New
 refine oy ?_
 repeat (first|(refine zC (d:=some 1) rfl (pnew_spec _) ?_;rintro _ w2 ⟨b,mb,rfl,hS,h1,h2,x2⟩)|(refine zD (d:=some 3) (cs:=chCs b (.slice none 0 0) 0) rfl rfl (fun b3 w3 x3 a3 (r3:Row w3 ⟨b3,0,none⟩ (chCs b (.slice none 0 0) 0)) hb3=>?_))|(first|refine go1 ?_|refine zg (fun _ _=>?_)|refine zi (fun _ _=>?_)))
 have hlt:=hS.lt
 have s2:=x2.size
 have hm:∀y∈ [b3,b,mb]++blkOf (.slice none 0 0),w.heap.size≤y:=fun y hy=>by
  simp [blkOf] at hy;omega
 exact x_ret rfl ⟨b3,_,rfl,⟨b,mb,.slice none 0 0,a3,hS.ext x3,OwnR.nil _ _ _ _,rfl,by omega,by omega,by omega,by omega,by omega,by simp [blkOf],fun y hy hu=>by have:=hm y hy;have:=hU y hu;omega⟩,hm,x2.trans x3⟩
theorem chheight_spec {U:List Nat} {B c:Nat} {M:List Nat} {ch:Ch} (w:World) (h:ChR U w B c M ch):K.Spec Tryz.prog F.chain_Chain_Height [.pointer (some ⟨c,0,none⟩)] w fun r w'=>r=.int .i64 (ch.bs.length:Nat)∧Ext w w':=by
 obtain ⟨b,mb,lv,h1,h2,h3,rfl,g1,g2,g3,g4,g5,g6,g8⟩:=h
 have r1:=Row.of_at h1
 have sl:=h3.sl (fun y hy hv=>by
  rcases List.mem_append.1 hy with hy|hy
  ·have:=g6 y hv;simp at hy;omega
  ·exact g8 y (List.mem_append_right _ hv) hy)
 rw [←linksL_len]
 refine s_chain_Chain_Height rfl ?_
 unfold k_chain_Chain_Height
 refine oy ?_
 repeat (first|(refine zG (d:=some 9) (E:=lkR) (l:=linksL ch.bs) rfl sl ?_)|(first|refine go1 ?_|refine zg (fun _ _=>?_)|refine zi (fun _ _=>?_)))
 exact x_ret rfl ⟨rfl,Ext.refl _⟩
theorem chcoins_spec {U:List Nat} {B c:Nat} {M:List Nat} {ch:Ch} (w:World) (h:ChR U w B c M ch) (hn:(coinsC ch.bs).length≤100000):K.Spec Tryz.prog F.chain_Chain_Coins [.pointer (some ⟨c,0,none⟩)] w fun r w'=>SlE entE w' r (coinsC ch.bs)∧(∀x∈blkOf r,w.heap.size≤x)∧Ext w w':=by
 obtain ⟨b,mb,lv,h1,h2,h3,rfl,g1,g2,g3,g4,g5,g6,g8⟩:=h
 have r1:=Row.of_at h1
 refine s_chain_Chain_Coins rfl ?_
 unfold k_chain_Chain_Coins
 refine oy ?_
 repeat (first|(refine zC (d:=some 9) rfl (pall_spec _ h2 hn) ?_;rintro v w2 ⟨k1,k2,x2⟩)|(first|refine go1 ?_|refine zg (fun _ _=>?_)|refine zi (fun _ _=>?_)))
 exact x_ret rfl ⟨k1,k2,x2⟩
end Go.Proofs.YtbidkcjendncaaaGreatDoor
end
section
namespace Go.Proofs.YtbidkcjendncaaaGreatDoor
open Go Go.K
attribute [local irreducible] regK codeK retK KOp.wp K.Spec u32 leS vnS str zero32 checkT applyL encT idT sizeT
theorem st_maxN {P:Program} {d:Option Tmp} {r:KR} {K:Env→World→Prop} {ρ:Env} {w:World} {x y:Operand} {a b:Nat} (hx:ev ρ x=.int .i64 (a:Nat)) (hy:ev ρ y=.int .i64 (b:Nat)) (k:regK P r K (put ρ d (.int .i64 (max a b:Nat))) w):regK P (.cons ⟨d,.minmax true x [y],none⟩ r) K ρ w:=
 st_fix rfl (by
  have e:(if (a:Int)<(b:Int) then (b:Int) else (a:Int))=((max a b:Nat):Int):=by split<;>omega
  simp only [KOp.fix,List.foldl_cons,List.foldl_nil,hx,hy,Option.bind_some,minmax2,if_true,e]) k
theorem off_en {M:List Nat} {w:World} {b:Nat} {v:Value} {l:List En} {t:TypeId} (h:SlR enR M w v l) (ha:At w b (.cells [Value.slice none 0 0,.slice none 0 0].toArray t (0,0))):SlR enR (b::M) w v l:=
 SlR.off h ha (fun cs x hr=>⟨.string x.1.s,_,hr,by simp⟩) (fun cs x hr=>hr)
def AppR (w:World) (b mb:Nat) (l:List En) (x:List En × Int × Int × Int) (b5:Nat) (sv mv e:Value) (w':World):Prop:=
 ErrA w' e x.2.1 x.2.2.1 x.2.2.2∧SetP T.coins_Set w' b mb x.1∧(x.2.1=0→SlE entE w' sv (lessL l x.1)∧SlE entE w' mv (lessL x.1 l)∧∀y,y∈blkOf sv∨y∈blkOf mv→w.heap.size≤y)∧(x.2.1≠0→sv=.slice none 0 0∧mv=.slice none 0 0)∧Chg [b,mb] w w'∧
  At w' b5 (.cells [Value.slice none 0 0,.slice none 0 0].toArray T.block_Undo (0,0))∧w.heap.size≤b5
set_option maxHeartbeats 4000000 in
theorem chconn_spec {U:List Nat} {B c:Nat} {M N:List Nat} {ch:Ch} {v:Value} {txs:List Tx} (w:World) (h:ChR U w B c M ch) (hx:SlR txR N w v txs) (hMN:∀y∈M,y∈N) (hU:∀y∈U,y∈N) (hUl:∀y∈U,y<w.heap.size) (hs:∀t∈txs,t.Sm) (hk0:txs.length≤1000) (hn:(coinsC ch.bs).length+outsB txs≤80000) (hl:ch.bs.length≤100000) (ht:ch.top≤100000):
  K.Spec Tryz.prog F.chain_Chain_Connect [.pointer (some ⟨c,0,none⟩),v] w fun r w'=>(∃i,ErrA w' r (connE ch txs).1 (connE ch txs).2 i)∧(∃M',ChR U w' B c M' (connC ch txs)∧∀y∈M',y∈M∨w.heap.size≤y)∧Chg M w w':=by
 have hlt:=h.lt
 obtain ⟨b,mb,lv,h1,h2,h3,hM,g1,g2,g3,g4,g5,g6,g8⟩:=id h
 have hcM:c∈M:=by rw [hM];simp
 have hbM:b∈M:=by rw [hM];simp
 have hmM:mb∈M:=by rw [hM];simp
 have hlM:∀y∈blkOf lv,y∈M:=fun y hy=>by rw [hM];simp [hy]
 have g7:=h2.ne
 have lc:=hlt c hcM
 have lb:=hlt b hbM
 have lm:=hlt mb hmM
 have r1:=Row.of_at h1
 have sl:=h3.sl (fun y hy hv=>by
  rcases List.mem_append.1 hy with hy|hy
  ·have:=g6 y hv;simp at hy;omega
  ·exact g8 y (hlM y hv) hy)
 have hll:(linksL ch.bs).length=ch.bs.length:=linksL_len _
 have eI:(((linksL ch.bs).length:Nat):Int)+1=((ch.bs.length+1:Nat):Int):=by rw [hll];omega
 refine s_chain_Chain_Connect rfl ?_
 unfold k_chain_Chain_Connect
 refine oy ?_
 repeat (first|(refine zG (d:=some 16) (E:=lkR) (l:=linksL ch.bs) rfl sl ?_)|(refine st_fixV (d:=some 17) (.bool false) rfl (congrArg (fun b=>some (Value.bool b)) (decide_eq_false (by omega))) ?_)|(refine zG (d:=some 29) (E:=lkR) (l:=linksL ch.bs) rfl (SlR.ext sl (by exact fx)) ?_)|(refine zg (fun w1 x12=>?_);have s12:=x12.size)|(refine st_joinV (b:=.cons ⟨none,.storeN _ _ _,_⟩ _) (fun (p:Nat × Value × Value × Value) w'=>AppR w b mb (coinsC ch.bs) (applyL (coinsC ch.bs) txs ((ch.bs.length+1:Nat):Int)) p.1 p.2.1 p.2.2.1 p.2.2.2 w') (fun p=> [(0,.pointer (some ⟨c,0,none⟩)),(1,v),(5,.pointer (some ⟨p.1,0,none⟩)),(32,.agg #[p.2.1,p.2.2.1]),(33,p.2.2.2)]) ?_ ?_)|(first|refine go1 ?_|refine zg (fun _ _=>?_)|refine zi (fun _ _=>?_)))
 ·have hc0:=coinsN_cg ch.bs ch.bs.length
  have hs0:=coinsN_sc ch.bs ch.bs.length
  rw [eI]
  refine zB ?_ ?_
  ·repeat (first|(refine zi (fun w2 x2=>?_))|(refine zC (d:=some 31) rfl (bapply_spec (M:=M) (l:=coinsC ch.bs) ((ch.bs.length+1:Nat):Int) _ (h2.ext (by exact fx)) hc0 hs0 hbM hmM (fun y hy=>Nat.lt_of_lt_of_le (hlt y hy) (Ext.size (show Ext w _ by exact fx))) ((hx.sub (fun y hy=>.inl (hMN y hy))).ext (by exact fx)) hs hn hk0) ?_;rintro _ w6 ⟨sv,mv,e,rfl,hA1,hA2,hA3,hA4,hA5⟩)|(refine zH (d:=some 5) (fun b5 w5 x5 a5 hb5=>?_))|(first|refine go1 ?_|refine zg (fun _ _=>?_)|refine zi (fun _ _=>?_)))
   exact ⟨(b5,sv,mv,e),⟨rfl,rfl,rfl,rfl,rfl,trivial⟩,hA1.ext x5,hA2.ext x5,fun q=>⟨(hA3 q).1.ext x5,(hA3 q).2.1.ext x5,fun y hy=>Nat.le_trans s12 ((hA3 q).2.2 y hy)⟩,hA4,(Chg.trans x12 (hA5.trans x5)).mono (by simp),a5,Nat.le_trans (Nat.le_trans s12 hA5.size) hb5⟩
  ·repeat (first|(refine zi (fun w2 x2=>?_))|(refine zC (d:=some 31) rfl (bapply_spec (M:=M) (l:=coinsC ch.bs) ((ch.bs.length+1:Nat):Int) _ (h2.ext (by exact fx)) hc0 hs0 hbM hmM (fun y hy=>Nat.lt_of_lt_of_le (hlt y hy) (Ext.size (show Ext w _ by exact fx))) ((hx.sub (fun y hy=>.inl (hMN y hy))).ext (by exact fx)) hs hn hk0) ?_;rintro _ w6 ⟨sv,mv,e,rfl,hA1,hA2,hA3,hA4,hA5⟩)|(refine zH (d:=some 5) (fun b5 w5 x5 a5 hb5=>?_))|(first|refine go1 ?_|refine zg (fun _ _=>?_)|refine zi (fun _ _=>?_)))
   exact ⟨(b5,sv,mv,e),⟨rfl,rfl,rfl,rfl,rfl,trivial⟩,hA1,hA2,fun q=>⟨(hA3 q).1,(hA3 q).2.1,fun y hy=>Nat.le_trans (Nat.le_trans s12 x5.size) ((hA3 q).2.2 y hy)⟩,hA4,(Chg.trans x12 (Chg.trans x5 hA5)).mono (by simp),a5.chg hA5 (by simp;omega),Nat.le_trans s12 hb5⟩
 ·rintro ⟨b5,sv,mv,e⟩ ρ w3 ⟨hA1,hA2,hA3,hA4,hA5,a5,hb5⟩
  dsimp only
  simp only at hA1 hA2 hA3 hA4 hA5 a5 hb5
  have o1:sv.oneCell'=true:=by
   by_cases h0:(connE ch txs).1=0
   ·obtain ⟨_,_,_,q, -⟩:=(hA3 h0).1;rw [q];rfl
   ·rw [(hA4 h0).1];rfl
  have o2:mv.oneCell'=true:=by
   by_cases h0:(connE ch txs).1=0
   ·obtain ⟨_,_,_,q, -⟩:=(hA3 h0).2.1;rw [q];rfl
   ·rw [(hA4 h0).2];rfl
  refine st_storeN0 (b:=b5) (vs:= [sv,mv]) rfl rfl rfl (by simp [o1,o2]) a5 rfl (fun w4 c4 a4=>?_)
  by_cases h0:(connE ch txs).1=0
  ·obtain ⟨hsv,hmv,hsb⟩:=hA3 h0
   have he:e=.nilIface:=by
    rcases hA1 with ⟨_,h5⟩|⟨h5, -⟩
    ·exact h5
    ·exact absurd h0 h5
   subst he
   have e0:(connE ch txs).1=0:=h0
   have e2:connC ch txs=⟨ch.bs++ [txs],max ch.top (ch.bs.length+1)⟩:=by
    unfold connC
    rw [if_neg (by simpa using h0)]
   obtain ⟨lk,hlk⟩:∃lk:Lk,lk=⟨txs,lessL (coinsC ch.bs) (applyL (coinsC ch.bs) txs ((ch.bs.length+1:Nat):Int)).1,lessL (applyL (coinsC ch.bs) txs ((ch.bs.length+1:Nat):Int)).1 (coinsC ch.bs)⟩:=⟨_,rfl⟩
   have elk:(⟨txs,lk.spent,lk.made⟩:Lk)=lk:=by rw [hlk]
   have c04:Chg [b,mb,b5] w w4:=hA5.trans c4
   have s04:=c04.size
   have hin:∀y∈blkOf lv++([c,b,mb]++U),y∈M∨y∈U:=fun y hy=>by
    simp at hy
    rcases hy with hy|rfl|rfl|rfl|hy
    ·exact .inl (hlM y hy)
    ·exact .inl hcM
    ·exact .inl hbM
    ·exact .inl hmM
    ·exact .inr hy
   have hinl:∀y∈blkOf lv++([c,b,mb]++U),y<w.heap.size:=fun y hy=>(hin y hy).elim (hlt y) (hUl y)
   have hinN:∀y∈blkOf lv++([c,b,mb]++U),y∈N:=fun y hy=>(hin y hy).elim (hMN y) (hU y)
   have hsv4:SlR enR (blkOf lv++([c,b,mb]++U)) w4 sv lk.spent:=by
    have q1:SlR enR (blkOf lv++([c,b,mb]++U)) w3 sv _:=hsv.en fun y hy hm=>by have:=hsb y (.inl hy);have:=hinl y hm;omega
    rw [hlk]
    exact (off_en q1 a5).step c4 (fun y hy=>.inl (by simp at hy;simp [hy])) (fun y hy=>.inl (List.mem_cons_of_mem _ hy))
   have hmv4:SlR enR (blkOf lv++([c,b,mb]++U)) w4 mv lk.made:=by
    have q1:SlR enR (blkOf lv++([c,b,mb]++U)) w3 mv _:=hmv.en fun y hy hm=>by have:=hsb y (.inr hy);have:=hinl y hm;omega
    rw [hlk]
    exact (off_en q1 a5).step c4 (fun y hy=>.inl (by simp at hy;simp [hy])) (fun y hy=>.inl (List.mem_cons_of_mem _ hy))
   have hx4:SlR txR N w4 v txs:=hx.step c04 (fun y hy=>by
    simp at hy
    rcases hy with rfl|rfl|rfl
    ·exact .inl (hMN _ hbM)
    ·exact .inl (hMN _ hmM)
    ·exact .inr hb5) (fun y hy=>.inl hy)
   have own4:OwnR lkR T.chain_link B ([c,b,mb]++U) w4 lv (linksL ch.bs):=h3.step c04 (fun y hy=>by
    simp at hy
    rcases hy with rfl|rfl|rfl
    ·exact ⟨fun h=>(g6 _ h).2.1 rfl,.inl (by simp)⟩
    ·exact ⟨fun h=>(g6 _ h).2.2 rfl,.inl (by simp)⟩
    ·exact ⟨fun h=>by have:=hlt _ (hlM _ h);omega,.inr hb5⟩) (fun y hy=>.inl hy)
   have h14:At w4 c (.cells (chCs b lv ch.top).toArray T.chain_Chain (0,0)):=h1.chg c04 (by simp;omega)
   have S4:SetP T.coins_Set w4 b mb (coinsC (ch.bs++ [txs])):=by
    rw [coinsC_snoc]
    exact hA2.chg c4 (by simp;omega) (by simp;omega)
   have r14:=Row.of_at h14
   have r54:=Row.of_at a4
   have hlt4:∀y∈blkOf lv++([c,b,mb]++U),y<w4.heap.size:=fun y hy=>Nat.lt_of_lt_of_le (hinl y hy) s04
   have hB4:B≤w4.heap.size:=by omega
   have ow:lv.oneCell'=true:=h3.one
   clear hA1 hA2 hA3 hA4 hA5 a5 a4 c4 hsv hmv r1 sl h2 h3 h1 h
   repeat (first|(refine zg (fun w5 x5=>?_))|(refine st_joinV (b:=.cons ⟨some 46,_,_⟩ _) (fun (p:Nat × List Value) w'=>Ext w4 w'∧At w' p.1 (.cells p.2.toArray T.chain_link (0,0))∧lkR.rel (blkOf lv++([c,b,mb]++U)) w' p.2 lk) (fun p=> [(0,.pointer (some ⟨c,0,none⟩)),(37,.pointer (some ⟨c,0,none⟩)),(41,lv),(45,.slice (some ⟨p.1,0,none⟩) 1 1)]) ?_ ?_)|(first|refine go1 ?_|refine zg (fun _ _=>?_)|refine zi (fun _ _=>?_)))
   ·repeat' (first|(refine zB ?_ ?_)|(refine zC (d:=some 44) rfl (linked_spec (M:=blkOf lv++([c,b,mb]++U)) (N:=N) (txs:=txs) (spent:=lk.spent) (made:=lk.made) _ (hx4.ext (by exact fx)) hs (fun y hy=>hinN y hy) (fun y hy=>Nat.lt_of_lt_of_le (hlt4 y hy) (Ext.size (show Ext w4 _ by exact fx))) hk0 (SlR.ext hsv4 (by exact fx)) (SlR.ext hmv4 (by exact fx))) ?_;rintro _ w6 ⟨cs,rfl,rel6,x6⟩;obtain ⟨tv,iv,sv',mv',mp,rfl,z1,z2,z3,z4,z5⟩:=id rel6)|(refine zI (d:=some 45) (cs:= [tv,iv,sv',mv',mp]) rfl (fun b7 w7 x7 a7 hb7=>?_))|(first|refine go1 ?_|refine zg (fun _ _=>?_)|refine zi (fun _ _=>?_)))
    all_goals exact st_end ⟨(b7, [tv,iv,sv',mv',mp]),⟨rfl,rfl,rfl,rfl,trivial⟩,x5.trans (x6.trans x7),a7,(congrArg (lkR.rel (blkOf lv++([c,b,mb]++U)) _ _) elk).mp (R.ext rel6 x7)⟩
   ·rintro ⟨b7,cs⟩ ρ w8 ⟨x8,a7,rel8⟩
    dsimp only at x8 a7 rel8 ⊢
    have s8:=x8.size
    refine st_append1 (d:=some 46) (E:=lkR) (M:= [c,b,mb]++U) (v:=lv) (cs:=cs) (a:=lk) (B:=B) rfl rfl (own4.ext x8) (Nat.le_trans hB4 s8) rfl rfl a7 rel8 (by rw [hll];omega) (fun v9 w9 o9 c9 hb9=>?_)
    have s9:=c9.size
    have h19:At w9 c (.cells (chCs b lv ch.top).toArray T.chain_Chain (0,0)):=(h14.ext x8).chg c9 (fun h=>(g6 _ h).1 rfl)
    have S9:SetP T.coins_Set w9 b mb (coinsC (ch.bs++ [txs])):=(S4.ext x8).chg c9 (fun h=>(g6 _ h).2.1 rfl) (fun h=>(g6 _ h).2.2 rfl)
    have o9b:∀y∈blkOf v9,y≠c∧y≠b∧y≠mb:=fun y hy=>by
     rcases hb9 y hy with h|h
     ·exact g6 y h
     ·omega
    repeat (first|refine go1 ?_|refine zg (fun _ _=>?_)|refine zi (fun _ _=>?_))
    refine st_store (b:=c) (o:=1) (cur:=chCs b lv ch.top) rfl rfl o9.one h19 (Nat.le_of_ble_eq_true rfl) (fun w10 c10 a10=>?_)
    have o10:=o9.step c10 (M':= [c,b,mb]++U) (fun y hy=>by
     simp at hy;subst hy
     exact ⟨fun h=>(o9b _ h).1 rfl,.inl (by simp)⟩) (fun y hy=>.inl hy)
    have S10:=S9.chg c10 (by simp;omega) (by simp;omega)
    have a10':At w10 c (.cells (chCs b v9 ch.top).toArray T.chain_Chain (0,0)):=a10
    have r10:=Row.of_at a10'
    have o9u:∀y∈blkOf v9,y∉U:=fun y hy hu=>by
     rcases hb9 y hy with h|h
     ·exact g8 y (hlM y h) hu
     ·have:=hUl y hu;omega
    have sl10:=o10.sl (fun y hy hv=>by
     rcases List.mem_append.1 hy with hy|hy
     ·have:=o9b y hv;simp at hy;omega
     ·exact o9u y hv hy)
    have ell:(linksL ch.bs++ [lk]).length=ch.bs.length+1:=by simp [hll]
    repeat (first|(refine zg (fun w11 x11=>?_))|(refine zG (d:=some 58) (E:=lkR) (l:=linksL ch.bs++ [lk]) rfl (SlR.ext sl10 (by exact fx)) ?_)|(refine st_maxN (d:=some 59) (a:=ch.top) (b:=(linksL ch.bs++ [lk]).length) rfl rfl ?_)|(first|refine go1 ?_|refine zg (fun _ _=>?_)|refine zi (fun _ _=>?_)))
    refine st_store (b:=c) (o:=2) (cur:=chCs b v9 ch.top) rfl rfl rfl (a10'.ext x11) (Nat.le_of_ble_eq_true rfl) (fun w12 c12 a12=>?_)
    repeat (first|refine go1 ?_|refine zg (fun _ _=>?_)|refine zi (fun _ _=>?_))
    have o12:=(o10.ext x11).step c12 (M':= [c,b,mb]++U) (fun y hy=>by
     simp at hy;subst hy
     exact ⟨fun h=>(o9b _ h).1 rfl,.inl (by simp)⟩) (fun y hy=>.inl hy)
    have a12':At w12 c (.cells (chCs b v9 (max ch.top (ch.bs.length+1))).toArray T.chain_Chain (0,0)):=by rw [←ell];exact a12
    refine x_ret rfl ⟨⟨-1,.inl ⟨e0,rfl⟩⟩,⟨[c,b,mb]++blkOf v9,?_,fun y hy=>?_⟩,?_⟩
    ·rw [e2]
     refine ⟨b,mb,v9,a12',(S10.ext x11).chg c12 (by simp;omega) (by simp;omega),?_,rfl,g1,g2,g3,g4,g5,o9b,fun y hy hu=>by
      simp at hy
      rcases hy with rfl|rfl|rfl|hy
      ·exact g8 _ hcM hu
      ·exact g8 _ hbM hu
      ·exact g8 _ hmM hu
      ·exact o9u y hy hu⟩
     rw [linksL_snoc,←hlk]
     exact o12
    ·simp at hy
     rcases hy with rfl|rfl|rfl|hy
     ·exact .inl hcM
     ·exact .inl hbM
     ·exact .inl hmM
     ·exact (hb9 y hy).imp (hlM y) (fun h=>by omega)
    ·have q:=(((Chg.trans (c04.trans x8) c9).trans c10).trans x11).trans c12
     refine q.mono fun y hy=>?_
     simp at hy
     rcases hy with rfl|rfl|rfl|hy|rfl
     ·exact .inl hbM
     ·exact .inl hmM
     ·exact .inr hb5
     ·exact .inl (hlM y hy)
     ·exact .inl hcM
  ·have hA14:=hA1.off a5 (by decide) c4
   rcases hA14 with ⟨h5, -⟩|⟨-,h5⟩
   ·exact absurd h5 h0
   obtain ⟨et,eu,rfl⟩:∃et eu,e=.iface et eu:=by
    rcases h5 with ⟨h5, -⟩|⟨-,_,_,h5, -⟩
    ·exact ⟨_,_,h5⟩
    ·exact ⟨_,_,h5⟩
   repeat (first|refine go1 ?_|refine zg (fun _ _=>?_)|refine zi (fun _ _=>?_))
   refine x_ret rfl ⟨⟨_,hA1.off a5 (by decide) c4⟩,⟨M,?_,fun y hy=>.inl hy⟩,(hA5.trans c4).mono (fun y hy=>by
    simp at hy
    rcases hy with rfl|rfl|rfl
    ·exact .inl hbM
    ·exact .inl hmM
    ·exact .inr hb5)⟩
   have e1:connC ch txs=ch:=by unfold connC;rw [if_pos h0]
   rw [e1]
   rw [applyL_bad h0] at hA2
   exact ⟨b,mb,lv,h1.chg (hA5.trans c4) (by simp;omega),hA2.chg c4 (by simp;omega) (by simp;omega),h3.step (hA5.trans c4) (fun y hy=>by
    simp at hy
    rcases hy with rfl|rfl|rfl
    ·exact ⟨fun h=>(g6 _ h).2.1 rfl,.inl (by simp)⟩
    ·exact ⟨fun h=>(g6 _ h).2.2 rfl,.inl (by simp)⟩
    ·exact ⟨fun h=>by have:=hlt _ (hlM _ h);omega,.inr hb5⟩) (fun y hy=>.inl hy),hM,g1,g2,g3,g4,g5,g6,g8⟩
end Go.Proofs.YtbidkcjendncaaaGreatDoor
end
section
namespace Go.K
open Go
section
variable {P:Program} {d:Option Tmp} {r:KR} {K:Env→World→Prop} {ρ:Env} {w:World}
theorem st_predN {x:Operand} {n:Nat} (hx:ev ρ x=.int .i64 (n:Nat)) (h0:0<n) (hr:n≤1000000) (k:regK P r K (put ρ d (.int .i64 (n - 1:Nat))) w):regK P (.cons ⟨d,.bin .sub x (.const (.int .i64 1)),none⟩ r) K ρ w:=
 st_sub hx rfl (by omega) (by rw [show ((n:Nat):Int) - 1=((n - 1:Nat):Int) by omega];exact k)
theorem st_cutR {size:Nat} {x h:Operand} {b len cap n:Nat} {kd:IntKind} (hx:ev ρ x=.slice (some ⟨b,0,none⟩) len cap) (hh:ev ρ h=.int kd (n:Nat)) (hn:n≤cap) (k:regK P r K (put ρ d (.slice (some ⟨b,0,none⟩) n cap)) w):regK P (.cons ⟨d,.sliceSl size x none (some h),none⟩ r) K ρ w:=by
 refine st_fix rfl ?_ k
 have e:(Addr.add ⟨b,0,none⟩ 0)=⟨b,0,none⟩:=rfl
 simp only [KOp.fix,hx,hh,Option.bind_some,Option.map_some]
 rw [if_pos (by omega)]
 by_cases hc:cap=0
 ·simp [hc]
 ·simp [hc,e]
end
end Go.K
namespace Go.Proofs.YtbidkcjendncaaaGreatDoor
open Go Go.K
attribute [local irreducible] regK codeK retK KOp.wp K.Spec u32 leS vnS str zero32 checkT applyL encT idT sizeT
set_option maxHeartbeats 4000000 in
theorem chdisc_spec {U:List Nat} {B c:Nat} {M:List Nat} {ch:Ch} (w:World) (h:ChR U w B c M ch) (hn:∀k,k≤ch.bs.length→(coinsN ch.bs k).length≤80000) (hl:ch.bs.length≤100000) (ht:ch.top≤100000):
  K.Spec Tryz.prog F.chain_Chain_Disconnect [.pointer (some ⟨c,0,none⟩)] w fun r w'=>∃tv M',r=.tuple #[tv,.int .i64 (discE ch)]∧ChR U w' B c M' (discC ch)∧(∀y∈M',y∈M)∧Chg M w w'∧(discE ch=0→SlR txR (M'++U) w' tv (ch.bs.getD (ch.bs.length - 1) []))∧(discE ch≠0→tv=.slice none 0 0):=by
 have hlt:=h.lt
 obtain ⟨b,mb,lv,h1,h2,h3,hM,g1,g2,g3,g4,g5,g6,g8⟩:=id h
 have hcM:c∈M:=by rw [hM];simp
 have hbM:b∈M:=by rw [hM];simp
 have hmM:mb∈M:=by rw [hM];simp
 have hlM:∀y∈blkOf lv,y∈M:=fun y hy=>by rw [hM];simp [hy]
 have g7:=h2.ne
 have lc:=hlt c hcM
 have lb:=hlt b hbM
 have lm:=hlt mb hmM
 have r1:=Row.of_at h1
 have sl:=h3.sl (fun y hy hv=>by
  rcases List.mem_append.1 hy with hy|hy
  ·have:=g6 y hv;simp at hy;omega
  ·exact g8 y (hlM y hv) hy)
 have hll:(linksL ch.bs).length=ch.bs.length:=linksL_len _
 refine s_chain_Chain_Disconnect rfl ?_
 unfold k_chain_Chain_Disconnect
 refine oy ?_
 by_cases q0:ch.bs.length=0
 ·have e0:discE ch=8:=by unfold discE;rw [if_pos q0]
  have e1:discC ch=ch:=by unfold discC;rw [if_pos (by rw [e0];decide)]
  rw [e0,e1]
  repeat (first|(refine zG (d:=some 14) (E:=lkR) (l:=linksL ch.bs) rfl sl ?_)|(refine st_fixV (d:=some 15) (.bool true) rfl (congrArg (fun b=>some (Value.bool b)) (decide_eq_true (by omega))) ?_)|(first|refine go1 ?_|refine zg (fun _ _=>?_)|refine zi (fun _ _=>?_)))
  exact x_ret rfl ⟨_,M,rfl,h,fun y hy=>hy,Chg.refl _ _,fun q=>absurd q (by decide),fun _=>rfl⟩
 ·by_cases q1:ch.bs.length+6≤ch.top
  ·have e0:discE ch=18:=by unfold discE;rw [if_neg q0,if_pos q1]
   have e1:discC ch=ch:=by unfold discC;rw [if_pos (by rw [e0];decide)]
   rw [e0,e1]
   repeat (first|(refine zG (d:=some 14) (E:=lkR) (l:=linksL ch.bs) rfl sl ?_)|(refine st_fixV (d:=some 15) (.bool false) rfl (congrArg (fun b=>some (Value.bool b)) (decide_eq_false (by omega))) ?_)|(refine zg (fun w2 x2=>?_))|(refine zG (d:=some 21) (E:=lkR) (l:=linksL ch.bs) rfl (SlR.ext sl (by exact fx)) ?_)|(refine st_fixV (d:=some 27) (.bool true) rfl (congrArg (fun b=>some (Value.bool b)) (decide_eq_true (by omega))) ?_)|(first|refine go1 ?_|refine zg (fun _ _=>?_)|refine zi (fun _ _=>?_)))
   exact x_ret rfl ⟨_,M,rfl,h.ext x2,fun y hy=>hy,Chg.mono x2 (by simp),fun q=>absurd q (by decide),fun _=>rfl⟩
  ·have e0:discE ch=0:=by unfold discE;rw [if_neg q0,if_neg q1]
   have e1:discC ch=⟨ch.bs.take (ch.bs.length - 1),ch.top⟩:=by unfold discC;rw [if_neg (by simp [e0])]
   obtain ⟨n,hnn⟩:∃n,ch.bs.length=n+1:=⟨ch.bs.length - 1,by omega⟩
   have en:ch.bs.length - 1=n:=by omega
   have hkl:n<(linksL ch.bs).length:=by omega
   have eS:coinsC ch.bs=coinsN ch.bs (n+1):=by unfold coinsC;rw [hnn]
   rw [eS] at h2
   have elk:(linksL ch.bs)[n]=lkN ch.bs n:=linksL_at (by omega)
   obtain ⟨bl,cap,elv,hcap⟩:∃bl cap,lv=.slice (some ⟨bl,0,none⟩) (linksL ch.bs).length cap∧(linksL ch.bs).length≤cap:=by
    rcases h3.form with ⟨-,h⟩|h
    ·rw [h] at hkl;simp at hkl
    ·exact h
   subst elv
   have hin:∀y∈ [bl]++ [c,b,mb],y∈M:=fun y hy=>by
    simp at hy
    rcases hy with rfl|rfl|rfl|rfl
    ·exact hlM _ (by simp [blkOf])
    ·exact hcM
    ·exact hbM
    ·exact hmM
   have g6':=g6 bl (by simp [blkOf])
   have lbl:=hlt bl (hin bl (by simp))
   repeat (first|(refine zg (fun w3 x3=>?_))|(refine zG (d:=some 14) (E:=lkR) (l:=linksL ch.bs) rfl sl ?_)|(refine st_fixV (d:=some 15) (.bool false) rfl (congrArg (fun b=>some (Value.bool b)) (decide_eq_false (by omega))) ?_)|(refine zG (d:=some 21) (E:=lkR) (l:=linksL ch.bs) rfl (SlR.ext sl (by exact fx)) ?_)|(refine st_fixV (d:=some 27) (.bool false) rfl (congrArg (fun b=>some (Value.bool b)) (decide_eq_false (by omega))) ?_)|(refine zG (d:=some 36) (E:=lkR) (l:=linksL ch.bs) rfl (SlR.ext sl (by exact fx)) ?_)|(refine st_predN (d:=some 37) (n:=(linksL ch.bs).length) rfl (by omega) (by omega) ?_)|(rw [show (linksL ch.bs).length - 1=n by omega];refine st_elemO (d:=some 38) (v:=.slice (some ⟨bl,0,none⟩) (linksL ch.bs).length cap) (E:=lkR) (M:= [c,b,mb]++U) (B:=B) (t:=T.chain_link) rfl rfl (n:=n) (l:=linksL ch.bs) (OwnR.ext h3 (by exact fx)) rfl hkl (fun ad cs r4 he=>?_);rw [elk] at he;obtain ⟨tv,iv,sv,mv,mp,rfl, -⟩:=id he)|(refine zH (d:=some 4) (fun b4 w4 x4 a4 hb4=>?_))|(first|refine go1 ?_|refine zg (fun _ _=>?_)|refine zi (fun _ _=>?_)))
   have x03:Ext w w3:=by exact fx
   have x04:Ext w w4:=by exact fx
   have s03:=x03.size
   have he':lkR.rel ([bl]++([c,b,mb]++U)) w3 [tv,iv,sv,mv,mp] (lkN ch.bs n):=he
   have ones:=lkR.one he'
   refine st_storeN0 (b:=b4) (vs:= [tv,iv,sv,mv,mp]) rfl rfl rfl ones a4 rfl (fun w5 c5 a5=>?_)
   have c35:Chg [b4] w3 w5:=(Chg.trans x4 c5).mono (by simp)
   have c05:Chg [b4] w w5:=(Chg.trans x04 c5).mono (by simp)
   have he5:lkR.rel ([bl]++([c,b,mb]++U)) w5 [tv,iv,sv,mv,mp] (lkN ch.bs n):=lkR.step he' c35 (fun y hy=>.inr (by simp at hy;omega)) (fun y hy=>.inl hy)
   obtain ⟨tv',iv',sv',mv',mp',heq,z1,z2,z3,z4,z5⟩:=he5
   simp only [List.cons.injEq,and_true] at heq
   obtain ⟨rfl,rfl,rfl,rfl,rfl⟩:=heq
   have h15:=h1.chg c05 (by simp;omega)
   have S5:=h2.chg c05 (by simp;omega) (by simp;omega)
   have own5:=h3.step c05 (M':= [c,b,mb]++U) (fun y hy=>by
    simp at hy;subst hy
    exact ⟨by simp [blkOf];omega,.inr (by omega)⟩) (fun y hy=>.inl hy)
   have r15:=Row.of_at h15
   have r45:=Row.of_at a5
   have n1:=hn n (by omega)
   have n2:=hn (n+1) (by omega)
   have n3:=lessL_len (coinsN ch.bs n) (coinsN ch.bs (n+1))
   have n4:=lessL_len (coinsN ch.bs (n+1)) (coinsN ch.bs n)
   clear c35 c5 a4 x4 he he' r4 x03 x04 r1 sl h h1 h2 h3
   have sub:∀y∈ [b,mb],y∈ [bl]++([c,b,mb]++U):=fun y hy=>by simp at hy;rcases hy with rfl|rfl<;>simp
   refine st_end ?_
   repeat (first|(refine zg (fun w6 x6=>?_))|(first|refine go1 ?_|refine zg (fun _ _=>?_)|refine zi (fun _ _=>?_))|(refine st_end ?_))
   refine zC (d:=some 46) rfl (brevert_spec (l:=coinsN ch.bs (n+1)) (spent:=(lkN ch.bs n).spent) (made:=(lkN ch.bs n).made) _ (S5.ext x6) ((z3.sub (fun y hy=>.inl (sub y hy))).ext x6) ((z4.sub (fun y hy=>.inl (sub y hy))).ext x6) (Nat.le_trans n3 (by omega)) (Nat.le_trans n4 (by omega)) (by rw [back_swap])) ?_
   rw [back_swap]
   rintro _ w7 ⟨rfl,S7,c7⟩
   have h17:=(h15.ext x6).chg c7 (by simp;omega)
   have a7:=(At.ext x6 a5).chg c7 (by simp;omega)
   have own7:=(own5.ext x6).step c7 (M':= [c,b,mb]++U) (fun y hy=>by
    simp at hy
    rcases hy with rfl|rfl
    ·exact ⟨by simp [blkOf];omega,.inl (by simp)⟩
    ·exact ⟨by simp [blkOf];omega,.inl (by simp)⟩) (fun y hy=>.inl hy)
   have z17:SlR txR ([bl]++([c,b,mb]++U)) w7 tv (lkN ch.bs n).txs:=(z1.ext x6).step c7 (fun y hy=>.inl (sub y hy)) (fun y hy=>.inl hy)
   have r17:=Row.of_at h17
   have r47:=Row.of_at a7
   have sl7:=own7.sl (fun y hy hv=>by
    simp [blkOf] at hv
    rcases List.mem_append.1 hy with hy|hy
    ·simp at hy;omega
    ·subst hv;exact g8 _ (hin _ (by simp)) hy)
   have hcl:=(linksL ch.bs).length
   have s7:w.heap.size≤w7.heap.size:=Nat.le_trans c05.size (Nat.le_trans x6.size c7.size)
   have c07:Chg [b4,b,mb] w w7:=(c05.trans (Chg.trans x6 c7)).mono (by simp)
   clear x6 c7 c05 a5 h15 r15 r45 own5 S5 z1 z3 z4
   repeat (first|(refine zg (fun w8 x8=>?_))|(refine zG (d:=some 59) (E:=lkR) (l:=linksL ch.bs) rfl (SlR.ext sl7 (by exact fx)) ?_)|(refine st_predN (d:=some 60) (n:=(linksL ch.bs).length) rfl (by omega) (by omega) ?_)|(rw [show (linksL ch.bs).length - 1=n by omega];refine st_cutR (d:=some 61) (b:=bl) (len:=(linksL ch.bs).length) (cap:=cap) (n:=n) rfl rfl (by omega) ?_)|(first|refine go1 ?_|refine zg (fun _ _=>?_)|refine zi (fun _ _=>?_))|(refine st_end ?_))
   refine st_store (b:=c) (o:=1) (cur:=chCs b (.slice (some ⟨bl,0,none⟩) (linksL ch.bs).length cap) ch.top) rfl rfl rfl (h17.ext x8) (Nat.le_of_ble_eq_true rfl) (fun w9 c9 a9=>?_)
   have r49:=Row.of_at ((At.ext x8 a7).chg c9 (by simp;omega))
   repeat (first|(first|refine go1 ?_|refine zg (fun _ _=>?_)|refine zi (fun _ _=>?_))|(refine st_end ?_))
   have own9:=((own7.ext x8).step c9 (M':= [c,b,mb]++U) (fun y hy=>by
    simp at hy;subst hy
    exact ⟨by simp [blkOf];omega,.inl (by simp)⟩) (fun y hy=>.inl hy)).cut (n:=n) (by omega)
   rw [e0,e1,en]
   refine x_ret rfl ⟨tv, [c,b,mb]++ [bl],rfl,⟨b,mb,.slice (some ⟨bl,0,none⟩) n cap,a9,?_,?_,rfl,g1,g2,g3,g4,g5,g6,fun y hy=>g8 y (hin y (by simp at hy ⊢;omega))⟩,fun y hy=>hin y (by simp at hy ⊢;omega),?_,fun _=>?_,fun q=>absurd rfl q⟩
   ·rw [coinsC_take (by omega)]
    exact (S7.ext x8).chg c9 (by simp;omega) (by simp;omega)
   ·rw [linksL_take (by omega)]
    exact own9
   ·refine ((c07.trans x8).trans c9).mono fun y hy=>?_
    simp at hy
    rcases hy with rfl|rfl|rfl|rfl
    ·exact .inr (by omega)
    ·exact .inl hbM
    ·exact .inl hmM
    ·exact .inl hcM
   ·exact (z17.ext x8).step c9 (fun y hy=>.inl (by simp at hy;subst hy;simp)) (fun y hy=>.inl (by
     simp at hy ⊢
     rcases hy with h|h|h|h|h<;>simp [h]))
end Go.Proofs.YtbidkcjendncaaaGreatDoor
end
section
namespace Go.K
open Go Go.Proofs.YtbidkcjendncaaaGreatDoor
def bsW:List (List Tx):=(List.range 7).map fun i=> [gw (i+1)]
theorem wch_all:((List.range 7).all fun k=>decide ((connE ⟨bsW.take k,k⟩ (bsW.getD k [])).1=0))=true:=by kernel_rfl
theorem wch_len:decide ((coinsN bsW 1).length=1)=true:=by kernel_rfl
theorem bsW_len:bsW.length=7:=rfl
theorem bsW_at {k:Nat} (hk:k<7):bsW.getD k []= [gw (k+1)]:=by
 rw [List.getD_eq_getElem?_getD]
 unfold bsW
 rw [List.getElem?_map,List.getElem?_range hk];rfl
theorem wch_conn {k:Nat} (hk:k<7):(connE ⟨bsW.take k,k⟩ [gw (k+1)]).1=0:=by
 have:=List.all_eq_true.1 wch_all k (List.mem_range.2 hk)
 rw [bsW_at hk] at this
 exact of_decide_eq_true this
theorem bsW_take {k:Nat} (hk:k≤7):(bsW.take k).length=k:=by rw [List.length_take,bsW_len];omega
theorem bsW_succ {k:Nat} (hk:k<7):bsW.take (k+1)=bsW.take k++ [[gw (k+1)]]:=by
 have h:k<bsW.length:=by rw [bsW_len];exact hk
 have e:=bsW_at hk
 rw [List.getD_eq_getElem?_getD,List.getElem?_eq_getElem h] at e
 rw [List.take_succ_eq_append_getElem h]
 exact congrArg (fun x=>bsW.take k++ [x]) e
theorem wch_next {k:Nat} (hk:k<7):connC ⟨bsW.take k,k⟩ [gw (k+1)]=⟨bsW.take (k+1),k+1⟩:=by
 unfold connC
 rw [if_neg (by rw [wch_conn hk];decide),bsW_succ hk,bsW_take (by omega)]
 show Ch.mk _ (max k (k+1))=_
 congr 1;omega
theorem wch_disc {j:Nat} (hj:j<6):discE ⟨bsW.take (7 - j),7⟩=0∧discC ⟨bsW.take (7 - j),7⟩=⟨bsW.take (7 - (j+1)),7⟩:=by
 have hl:=bsW_take (k:=7 - j) (by omega)
 have e0:discE ⟨bsW.take (7 - j),7⟩=0:=by
  unfold discE
  simp only [hl]
  rw [if_neg (by omega),if_neg (by omega)]
 refine ⟨e0,?_⟩
 unfold discC
 rw [if_neg (by simp [e0])]
 simp only [hl,List.take_take]
 congr 2;omega
theorem wch_deep:discE ⟨bsW.take 1,7⟩=18:=rfl
theorem wch_back:discC ⟨bsW.take 1,7⟩=⟨bsW.take 1,7⟩:=rfl
theorem wch_one:(coinsC (bsW.take 1)).length=1:=of_decide_eq_true wch_len
theorem bsW_outs {n:Nat}:∀b∈bsW.take n,outsB b≤1:=fun b hb=>by
 have hb:=List.mem_of_mem_take hb
 unfold bsW at hb
 obtain ⟨i, -,rfl⟩:=List.mem_map.1 hb
 exact Nat.le_refl 1
theorem bsW_coins {n k:Nat} (hk:k≤7):(coinsN (bsW.take n) k).length≤7:=by
 have:=coinsN_len (bsW_outs (n:=n)) k
 omega
end Go.K
end
section
namespace Go.Proofs.YtbidkcjendncaaaGreatDoor
open Go Go.K
attribute [local irreducible] regK codeK retK KOp.wp K.Spec u32 leS vnS str zero32 checkT applyL encT idT sizeT bsW
set_option maxHeartbeats 4000000 in
theorem wakes13_spec (w:World):K.Spec Tryz.prog F.kedgelaw13_wakes [] w fun r w'=>r=.bool true∧Ext w w':=by
 refine s_kedgelaw13_wakes rfl ?_
 unfold k_kedgelaw13_wakes
 refine oy ?_
 repeat (first|refine go1 ?_|refine zg (fun _ _=>?_)|refine zi (fun _ _=>?_))
 refine zC (d:=some 8) rfl (chnew_spec (U:= []) _ (by simp)) ?_
 rintro _ w1 ⟨c,M1,rfl,C1, -,x1⟩
 repeat (first|(refine c_loopV (fun (p:Nat × List Nat) w'=>Ext w w'∧p.1≤7∧ChR [] w' w.heap.size c p.2 ⟨bsW.take p.1,p.1⟩) (fun p=> [(1,.pointer (some ⟨c,0,none⟩)),(9,.int .i64 (p.1:Nat))]) (fun p=>7 - p.1) (0,M1) ⟨rfl,rfl,trivial⟩ ⟨x1,by simp,C1⟩ ?_;rintro ⟨k,M⟩ ρ w2 ⟨x2,hk,C2⟩;simp only at hk C2;dsimp only)|(first|refine go1 ?_|refine zg (fun _ _=>?_)|refine zi (fun _ _=>?_)))
 refine zL (x:=.tmp 10) (p:=((k:Nat):Int)<7) rfl (fun h9=>?_) (fun h9=>?_)
 ·have hk7:k<7:=by omega
  have hlt:=C2.lt
  have hbs:=C2.base
  have s2:=x2.size
  have x2':Unit→Ext w w2:=fun _=>x2
  have ek:((k:Nat):Int)+1=((k+1:Nat):Int):=by omega
  clear x2 x1
  repeat (first|(refine st_build (d:=some 15) (cs:= [.int .i64 5,.string ⟨#[]⟩]) rfl ?_)|(refine zI (d:=some 16) (cs:= [.int .i64 5,.string ⟨#[]⟩]) rfl (fun b3 w3 x3 a3 hb3=>?_))|(first|refine go1 ?_|refine zg (fun _ _=>?_)|refine zi (fun _ _=>?_)))
  have ho:SlR outR M w3 (.slice (some ⟨b3,0,none⟩) 1 1) o5:=slAt1 (E:=outR) a3 ⟨rfl,⟨by decide,by decide⟩⟩ (fun hm=>by have:=hlt _ hm;omega)
  rw [ek]
  have hM3:∀y∈M,y<w3.heap.size:=fun y hy=>Nat.lt_of_lt_of_le (hlt y hy) x3.size
  refine zC (d:=some 17) rfl (grant_spec (M:=M) (outs:=o5) ((k+1:Nat):Int) _ ⟨by omega,by omega⟩ ho (by decide) hM3) ?_
  rintro _ w4 ⟨cs,rfl,t4,x4⟩
  obtain ⟨iv,ov,rfl, -⟩:=id t4
  have ones:=txR.one (t4.rel hM3)
  repeat (first|(refine zI (d:=some 18) (cs:=txCs (grT ((k+1:Nat):Int) o5) iv ov) rfl (fun b5 w5 x5 a5 hb5=>?_))|(first|refine go1 ?_|refine zg (fun _ _=>?_)|refine zi (fun _ _=>?_)))
  have x25:Ext w2 w5:=x3.trans (x4.trans x5)
  have C5:=C2.ext x25
  have hcl:(coinsC (bsW.take k)).length+outsB [gw (k+1)]≤80000:=by
   unfold coinsC
   rw [bsW_take hk]
   have:=bsW_coins (n:=k) hk
   have e:outsB [gw (k+1)]=1:=rfl
   omega
  have hx5:=txO_one t4 hM3 x5 a5 hb5 (fun y hy=>Nat.lt_of_lt_of_le (hM3 y hy) x4.size)
  refine zC (d:=some 19) rfl (chconn_spec (N:=M) (txs:= [gw (k+1)]) _ C5 hx5 (fun y hy=>hy) (by simp) (by simp) (by simp;exact gw_sm _) (by simp) hcl (by rw [bsW_take hk];omega) (show k≤100000 by omega)) ?_
  rintro e w6 ⟨⟨i,hE⟩,⟨M',C6,hM6⟩,c6⟩
  have he:e=.nilIface:=by
   rcases hE with ⟨_,h5⟩|⟨h5, -⟩
   ·exact h5
   ·exact absurd (wch_conn hk7) h5
  subst he
  rw [wch_next hk7] at C6
  have x06:Ext w w6:=(Ext.chg ((x2' ()).trans x25) c6).mono (fun y hy=>.inr (hbs y hy))
  repeat (first|refine go1 ?_|refine zg (fun _ _=>?_)|refine zi (fun _ _=>?_))
  exact ⟨(k+1,M'),⟨rfl,rfl,trivial⟩,⟨x06,by simp only;omega,C6⟩,by simp only;omega⟩
 ·have ek:k=7:=by omega
  subst ek
  repeat (first|refine go1 ?_|refine zg (fun _ _=>?_)|refine zi (fun _ _=>?_))
  refine zC (d:=some 23) rfl (chheight_spec _ C2) ?_
  rintro _ w3 ⟨rfl,x3⟩
  have C3:=C2.ext x3
  have x03:Ext w w3:=x2.trans x3
  have e7:(⟨bsW.take 7,7⟩:Ch).bs.length=7:=bsW_take (by omega)
  rw [e7]
  clear x1 x2 x3
  repeat (first|(refine c_loopV (fun (p:Nat × List Nat) w'=>Ext w w'∧p.1≤6∧ChR [] w' w.heap.size c p.2 ⟨bsW.take (7 - p.1),7⟩) (fun p=> [(1,.pointer (some ⟨c,0,none⟩)),(3,.int .i64 ((7:Nat):Int)),(24,.int .i64 (p.1:Nat))]) (fun p=>6 - p.1) (0,M) ⟨rfl,rfl,rfl,trivial⟩ ⟨x03,by simp,C3⟩ ?_;rintro ⟨j,M4⟩ ρ w4 ⟨x4,hj,C4⟩;simp only at hj C4;dsimp only)|(first|refine go1 ?_|refine zg (fun _ _=>?_)|refine zi (fun _ _=>?_)))
  have e4:(⟨bsW.take (7 - j),7⟩:Ch).bs.length=7 - j:=bsW_take (by omega)
  have hcn:∀k,k≤(⟨bsW.take (7 - j),7⟩:Ch).bs.length→(coinsN (⟨bsW.take (7 - j),7⟩:Ch).bs k).length≤80000:=fun k hk=>Nat.le_trans (bsW_coins (by rw [e4] at hk;omega)) (by omega)
  have hb4:=C4.base
  refine zL (x:=.tmp 25) (p:=((j:Nat):Int)<6) rfl (fun h9=>?_) (fun h9=>?_)
  ·have hj6:j<6:=by omega
   obtain ⟨d1,d2⟩:=wch_disc hj6
   repeat (first|refine go1 ?_|refine zg (fun _ _=>?_)|refine zi (fun _ _=>?_))
   refine zC (d:=some 28) rfl (chdisc_spec _ C4 hcn (by rw [e4];omega) (show 7≤100000 by omega)) ?_
   rintro _ w5 ⟨tv,M',rfl,C5,hM5,c5,k1, -⟩
   rw [d2] at C5
   rw [d1]
   have k1:=k1 d1
   have eg:(⟨bsW.take (7 - j),7⟩:Ch).bs.getD ((⟨bsW.take (7 - j),7⟩:Ch).bs.length - 1) []= [gw (6 - j+1)]:=by
    rw [e4]
    show (bsW.take (7 - j)).getD (7 - j - 1) []=_
    rw [List.getD_eq_getElem?_getD,List.getElem?_take_of_lt (by omega),←List.getD_eq_getElem?_getD,bsW_at (by omega)]
    congr 2;omega
   rw [eg] at k1
   repeat (first|(refine zG (d:=some 32) (E:=txR) (l:= [gw (6 - j+1)]) rfl k1 ?_)|(refine st_fixV (d:=some 33) (.bool false) rfl rfl ?_)|(first|refine go1 ?_|refine zg (fun _ _=>?_)|refine zi (fun _ _=>?_)))
   exact ⟨(j+1,M'),⟨rfl,rfl,rfl,trivial⟩,⟨(Ext.chg x4 c5).mono (fun y hy=>.inr (hb4 y hy)),by simp only;omega,C5⟩,by simp only;omega⟩
  ·have ej:j=6:=by omega
   subst ej
   repeat (first|refine go1 ?_|refine zg (fun _ _=>?_)|refine zi (fun _ _=>?_))
   refine zC (d:=some 41) rfl (chdisc_spec _ C4 hcn (by rw [e4];omega) (show 7≤100000 by omega)) ?_
   rintro _ w5 ⟨tv,M',rfl,C5,hM5,c5, -, -⟩
   rw [show discE ⟨bsW.take (7 - 6),7⟩=18 from wch_deep]
   rw [show discC ⟨bsW.take (7 - 6),7⟩=⟨bsW.take 1,7⟩ from wch_back] at C5
   have x05:Ext w w5:=(Ext.chg x4 c5).mono (fun y hy=>.inr (hb4 y hy))
   repeat (first|refine go1 ?_|refine zg (fun _ _=>?_)|refine zi (fun _ _=>?_))
   refine zC (d:=some 52) rfl (chheight_spec _ C5) ?_
   rintro _ w6 ⟨rfl,x6⟩
   rw [show (⟨bsW.take 1,7⟩:Ch).bs.length=1 from bsW_take (by omega)]
   repeat (first|refine go1 ?_|refine zg (fun _ _=>?_)|refine zi (fun _ _=>?_))
   refine zC (d:=some 57) rfl (chcoins_spec _ (C5.ext x6) (by rw [show (coinsC (⟨bsW.take 1,7⟩:Ch).bs).length=1 from wch_one];omega)) ?_
   rintro v w7 ⟨k7, -,x7⟩
   repeat (first|(refine st_len (d:=some 58) rfl k7 ?_;rw [show (coinsC (⟨bsW.take 1,7⟩:Ch).bs).length=1 from wch_one])|(first|refine go1 ?_|refine zg (fun _ _=>?_)|refine zi (fun _ _=>?_)))
   exact x_ret rfl ⟨rfl,x05.trans (x6.trans x7)⟩
end Go.Proofs.YtbidkcjendncaaaGreatDoor
end
section
namespace Go.K
open Go Go.Proofs.YtbidkcjendncaaaGreatDoor
structure BAct where
 act:UInt8
 txs:List BSm
instance:Inhabited BAct:=⟨⟨0, []⟩⟩
def bactR:R BAct where
 k:=2
 pos:=by decide
 ag:=true
 rel:=fun M w cs a=>∃tv,cs= [u8V a.act,tv]∧SlR bsmR M w tv a.txs
 len:=fun ⟨_,h,_⟩=>by rw [h];rfl
 one:=fun ⟨tv,h,hs⟩ v hv=>by
  obtain ⟨b,c,rfl⟩:=hs.form
  subst h;simp at hv;rcases hv with rfl|rfl<;>rfl
 step:=fun ⟨tv,h,hs⟩ c hL hM=>⟨tv,h,hs.step c hL hM⟩
end Go.K
end
section
namespace Go.K
open Go Go.Proofs.YtbidkcjendncaaaGreatDoor
def BkOk (b:List Tx):Prop:=b.length≤4∧outsB b≤12∧∀t∈b,t.Sm
theorem coins_bound {bs:List (List Tx)} (h:∀b∈bs,BkOk b) (k:Nat):(coinsN bs k).length≤12*k:=coinsN_len (fun b hb=>(h b hb).2.1) k
end Go.K
namespace Go.Proofs.YtbidkcjendncaaaGreatDoor
open Go Go.K
attribute [local irreducible] regK codeK retK KOp.wp K.Spec u32 leS vnS str zero32 checkT grantB encT idT sizeT applyL
set_option maxHeartbeats 4000000 in
theorem coins13_spec {M:List Nat} {bv:Value} {bs:List (List Tx)} (top:Int) (w:World) (hv:SlR (listR txR) M w bv bs) (hb:∀b∈bs,BkOk b) (hl:bs.length≤1000):
  K.Spec Tryz.prog F.kedgeref13_Coins [.agg #[bv,.int .i64 top]] w fun r w'=>SlE entE w' r (coinsC bs)∧Ext w w':=by
 obtain ⟨q1,q2,ebv⟩:=hv.form
 refine s_kedgeref13_Coins rfl ?_
 unfold k_kedgeref13_Coins
 refine oy ?_
 repeat' (first|(refine zD (d:=some 1) (cs:= [bv,.int .i64 top]) rfl (by rw [ebv];rfl) (fun b1 w1 x1 a1 (r1:Row w1 ⟨b1,0,none⟩ [bv,.int .i64 top]) hb1=>?_))|(refine c_loopV (fun (p:Nat × Value) w'=>Ext w1 w'∧p.1≤bs.length∧SlE entE w' p.2 (coinsN bs p.1)) (fun p=> [(1,.pointer (some ⟨b1,0,none⟩)),(3,p.2),(4,.int .i64 (p.1:Nat))]) (fun p=>bs.length - p.1) (0,.slice none 0 0) ⟨rfl,rfl,rfl,trivial⟩ ⟨Ext.refl _,by simp,SlE.nil _⟩ ?_;rintro ⟨k,lv⟩ ρ w3 ⟨x3,hk,hlv⟩;simp only at hk hlv;dsimp only)|(refine zG (d:=some 8) (E:=listR txR) (M:=M) (l:=bs) rfl (SlR.ext hv (by exact fx)) ?_)|(refine zL (x:=.tmp 9) (p:=((k:Nat):Int)<((bs.length:Nat):Int)) rfl (fun h6=>?_) (fun h6=>?_))|(first|refine go1 ?_|refine zg (fun _ _=>?_)|refine zi (fun _ _=>?_)))
 ·have hkl:k<bs.length:=by omega
  obtain ⟨hb1,hb2,hb3⟩:=hb _ (List.getElem_mem hkl)
  have hcb:=coins_bound hb k
  have ek:((k:Nat):Int)+1=((k+1:Nat):Int):=by omega
  have eg:bs.getD k []=bs[k]:=by rw [List.getD_eq_getElem?_getD,List.getElem?_eq_getElem hkl];rfl
  repeat (first|(refine st_elemR (d:=some 17) (E:=listR txR) (M:=M) rfl rfl (n:=k) (l:=bs) (SlR.ext hv (by exact fx)) rfl hkl (fun ad cs r4 he=>?_);obtain ⟨xv,rfl,hxv⟩:=he)|(first|refine go1 ?_|refine zg (fun _ _=>?_)|refine zi (fun _ _=>?_)))
  rw [ek]
  refine zC (d:=some 21) rfl (apply12_spec (M:=M) (l:=coinsN bs k) (txs:=bs[k]) ((k+1:Nat):Int) _ hlv (coinsN_cg bs k) (coinsN_sc bs k) hxv hb3 (by omega) (by omega)) ?_
  rintro _ w4 ⟨vl,rfl,hvl,x4⟩
  repeat (first|refine go1 ?_|refine zg (fun _ _=>?_)|refine zi (fun _ _=>?_))
  exact ⟨(k+1,vl),⟨rfl,rfl,rfl,trivial⟩,⟨x3.trans x4,by simp only;omega,by show SlE entE w4 vl (coinsN bs (k+1));unfold coinsN;rw [eg];exact hvl⟩,by simp only;omega⟩
 ·have ek:k=bs.length:=by omega
  subst ek
  repeat (first|refine go1 ?_|refine zg (fun _ _=>?_)|refine zi (fun _ _=>?_))
  exact x_ret rfl ⟨hlv,x1.trans x3⟩
end Go.Proofs.YtbidkcjendncaaaGreatDoor
end
section
namespace Go.Proofs.YtbidkcjendncaaaGreatDoor
open Go Go.K
attribute [local irreducible] regK codeK retK KOp.wp K.Spec u32 leS vnS str zero32 checkT grantB encT idT sizeT inE feeP mayL payL oneL takeAll
theorem BkOk.of_mk {txs:List Tx} (h:∀t∈txs,MkOk t) (hl:txs.length≤4):BkOk txs:=⟨hl,by have:=outsB_mk h;omega,fun t ht=>(h t ht).sm⟩
set_option maxHeartbeats 8000000 in
theorem made13_spec {M:List Nat} {lv sv:Value} {l:List En} {zs:List BSm} (h:Int) (w:World) (hv:SlE entE w lv l) (hg:CG l) (hsc:SC l) (hz:SlR bsmR M w sv zs) (hn:l.length≤70000) (hh:0≤h∧h≤1000000) (hM:∀b∈M,b<w.heap.size):
  K.Spec Tryz.prog F.kedgelaw13_made [lv,sv,.int .i64 h] w fun r w'=>∃txs,OwnR txR T.api_Tx w.heap.size M w' r txs∧txs.length≤4∧(∀t∈txs,MkOk t)∧Ext w w':=by
 refine s_kedgelaw13_made rfl ?_
 unfold k_kedgelaw13_made
 refine oy ?_
 repeat (first|(refine zG (d:=some 15) (E:=bsmR) (M:=M) (l:=zs) rfl hz ?_)|(refine st_takeR (d:=some 17) (E:=bsmR) (n:=min zs.length 4) rfl rfl (by omega) hz (by omega) rfl (fun v' hv'=>?_))|(refine zG (d:=some 18) (E:=bsmR) (M:=M) (l:=zs.take (min zs.length 4)) rfl hv' ?_)|(first|refine go1 ?_|refine zg (fun _ _=>?_)|refine zi (fun _ _=>?_)))
 have hSl:(zs.take (min zs.length 4)).length≤4:=by rw [List.length_take];omega
 generalize zs.take (min zs.length 4)=S at*
 clear hz
 refine c_loopV (fun (p:Nat × Value × List Tx × Value × List En) w'=>Ext w w'∧p.1≤S.length∧OwnR txR T.api_Tx w.heap.size M w' p.2.1 p.2.2.1∧p.2.2.1.length=p.1∧(∀t∈p.2.2.1,MkOk t)∧SlE entE w' p.2.2.2.1 p.2.2.2.2∧CG p.2.2.2.2∧SC p.2.2.2.2∧p.2.2.2.2.length≤l.length+3*p.1∧(0<p.2.2.2.2.length→∀y∈blkOf p.2.2.2.1,y∉blkOf p.2.1)) (fun p=> [(2,.int .i64 h),(7,p.2.1),(8,p.2.2.2.1),(17,v'),(18,.int .i64 (S.length:Nat)),(19,.int .i64 (p.1:Nat))]) (fun p=>S.length - p.1) (0,.slice none 0 0, [],lv,l) ⟨rfl,rfl,rfl,rfl,rfl,rfl,trivial⟩ ⟨Ext.refl _,by simp,OwnR.nil _ _ _ _,rfl,by simp,hv,hg,hsc,by simp,fun _ y _ hm=>by simp [blkOf] at hm⟩ ?_
 rintro ⟨k,vo,txs,vm,m⟩ ρ w1 ⟨x1,hk,o1,htl,hmk,hm1,g1,sc1,hml,hoff⟩
 simp only at hk o1 htl hmk hm1 g1 sc1 hml hoff
 dsimp only
 have s1:=x1.size
 repeat (first|refine go1 ?_|refine zg (fun _ _=>?_)|refine zi (fun _ _=>?_))
 refine zL (x:=.tmp 20) (p:=((k:Nat):Int)<((S.length:Nat):Int)) rfl (fun h5=>?_) (fun h5=>?_)
 ·have hkl:k<S.length:=by omega
  have hM1:∀b∈M,b<w1.heap.size:=fun b hb=>Nat.lt_of_lt_of_le (hM b hb) s1
  have o1b:=o1.base
  have o1l:=o1.lt
  have hM1':∀b∈blkOf vo++M,b<w1.heap.size:=fun b hb=>by
   rcases List.mem_append.1 hb with hb|hb
   ·exact o1l b hb
   ·exact hM1 b hb
  have hvz:SlR bsmR (blkOf vo++M) w1 v' S:=hv'.step x1 (by simp) (mem_app o1b)
  repeat (first|(refine st_elemR (d:=some 22) (E:=bsmR) (M:=blkOf vo++M) rfl rfl (n:=k) (l:=S) hvz rfl hkl (fun ad cs r4 he=>?_);obtain ⟨fv,rfl,hfr, -⟩:=id he;obtain ⟨q1,q2,efv⟩:=hfr.form)|(refine st_local2 (d':=10) (e:=9) (fun _=>rfl) (fun _=>rfl) rfl rfl rfl (by rw [efv];rfl) (fun b10 w2 x2 a2 (r2:Row w2 ⟨b10,0,none⟩ (bsmCs S[k] fv)) hb2=>?_))|(first|refine go1 ?_|refine zg (fun _ _=>?_)|refine zi (fun _ _=>?_)))
  have s2:=x2.size
  refine zC (d:=some 27) rfl (make12_spec (M:=blkOf vo++M) (cs:=bsmCs S[k] fv) (l:=m) (z:=S[k]) h _ (hm1.ext x2) g1 sc1 (R.ext he x2) (by omega) hh (fun b hb=>Nat.lt_of_lt_of_le (hM1' b hb) s2)) ?_
  rintro _ w3 ⟨cs',t,rfl,t3,mk3,x3⟩
  have ht3:=t3.rel (fun b hb=>Nat.lt_of_lt_of_le (hM1' b hb) s2)
  have ones:=txR.one ht3
  have hl4:=txR.len ht3
  obtain ⟨c0,c1,c2,c3,rfl⟩:∃c0 c1 c2 c3,cs'= [c0,c1,c2,c3]:=by
   match cs',hl4 with
   | [c0,c1,c2,c3],_=>exact ⟨c0,c1,c2,c3,rfl⟩
  repeat (first|(refine zE (d':=11) (fun _=>rfl) rfl rfl (List.all_eq_true.2 ones) (fun b11 w4 x4 a4 (r4:Row w4 ⟨b11,0,none⟩ [c0,c1,c2,c3]) hb4=>?_))|(refine zI (d:=some 30) (cs:= [c0,c1,c2,c3]) rfl (fun b30 w5 x5 a5 hb5=>?_))|(first|refine go1 ?_|refine zg (fun _ _=>?_)|refine zi (fun _ _=>?_)))
  have x35:Ext w3 w5:=x4.trans x5
  have x15:Ext w1 w5:=(x2.trans x3).trans x35
  refine st_append1 (d:=some 31) (E:=txR) (M:=M) (v:=vo) (cs:= [c0,c1,c2,c3]) (a:=t) rfl rfl (o1.ext x15) (Nat.le_trans s1 x15.size) rfl rfl a5 (R.ext ht3 x35) (by omega) (fun v6 w6 o6 c6 hb6=>?_)
  have s36:=x3.size
  have s45:=x4.size
  have s56:=x5.size
  have s66:=c6.size
  have ht6:txR.rel (blkOf vo++M) w6 [c0,c1,c2,c3] t:=txR.step (R.ext ht3 x35) c6 (fun y hy=>.inl (by simp [hy])) (fun y hy=>.inl hy)
  have r6:=Row.chg c6 (Row.ext x5 r4) (fun h=>by have:=o1l _ h;simp only at this;omega)
  have hm6:SlE entE w6 vm m:=SlE.offO (hm1.ext x15) c6 hoff
  have x06:Ext w w6:=(Ext.chg (x1.trans x15) c6).mono (fun y hy=>.inr (o1b y hy))
  have hol:=mk3.outs
  repeat (first|refine go1 ?_|refine zg (fun _ _=>?_)|refine zi (fun _ _=>?_))
  refine zC (d:=some 37) rfl (one12_spec (M:=blkOf vo++M) (cs:= [c0,c1,c2,c3]) (t:=t) (l:=m) k h _ (by omega) hm6 g1 sc1 ht6 mk3.sm (by omega)) ?_
  rintro _ w7 ⟨vl,rfl,hvl,hnew,x7⟩
  unfold oneV
  have hlo:=oneL_len g1 t k h
  repeat (first|refine go1 ?_|refine zg (fun _ _=>?_)|refine zi (fun _ _=>?_))
  refine ⟨(k+1,v6,txs++ [t],vl,(oneL m t k h).1),⟨rfl,rfl,rfl,rfl,rfl,rfl,trivial⟩,⟨x06.trans x7,by simp only;omega,o6.ext x7,by simp [htl],fun y hy=>?_,hvl,oneL_cg g1 _ _ _,oneL_sc g1 sc1 _ _ _,by simp only;omega,fun hp y hy hv6=>?_⟩,by simp only;omega⟩
  ·rcases List.mem_append.1 hy with hy|hy
   ·exact hmk y hy
   ·simp at hy;subst hy;exact mk3
  ·rcases hnew with ⟨rfl,e⟩|hf
   ·simp only [e] at hp
    have hlt:=SlE.blk_lt hm1 hp y hy
    rcases hb6 y hv6 with h|h
    ·exact hoff hp y hy h
    ·have:=x15.size;omega
   ·have:=hf y hy
    have:=o6.lt y hv6
    omega
 ·repeat (first|refine go1 ?_|refine zg (fun _ _=>?_)|refine zi (fun _ _=>?_))
  exact x_ret rfl ⟨txs,o1,by omega,hmk,x1⟩
end Go.Proofs.YtbidkcjendncaaaGreatDoor
end
section
namespace Go.Proofs.YtbidkcjendncaaaGreatDoor
open Go Go.K Go.ChangeShapes Go.WideShapes Go.ChangeAt Go.RowKit
set_option maxRecDepth 100000
theorem c_lbsm:Tryz.prog.cellsOf 28=1:=by kernel_rfl
theorem reads_bact {W:World} {c:List Value} (h:Reads Tryz.prog W 114 c):∃z:BAct,bactR.rel [] W c z:=by
 obtain ⟨h1,h2⟩:=reads_struct Tryz.underlying114 h
 have l:c.length=2:=h1.trans (by kernel_rfl)
 match c,l with
 | [c0,c1],_=>
  have g0:=h2 _ (List.mem_of_getElem? (i:=0) rfl)
  have g1:=h2 _ (List.mem_of_getElem? (i:=1) rfl)
  obtain ⟨b0,e0⟩:=reads_u8 g0
  simp only [c_lbsm,List.drop_zero,List.drop_succ_cons,List.take_succ_cons,List.take_zero] at g1
  obtain ⟨l,hl,_⟩:=reads_bsms g1
  simp only [c_u8,List.drop_zero,List.drop_succ_cons,List.take_succ_cons,List.take_zero,List.cons.injEq,and_true] at e0
  exact ⟨⟨b0,l⟩,c1,by rw [e0],hl⟩
theorem reads_bacts {W:World} {v:Value} (h:Reads Tryz.prog W 107 [v]):∃l,SlR bactR [] W v l∧l.length≤maxLen:=
 reads_slR bactR Tryz.underlying107 (by kernel_rfl) (fun _ h=>reads_bact h) h
end Go.Proofs.YtbidkcjendncaaaGreatDoor
end
section
namespace Go.Proofs.YtbidkcjendncaaaGreatDoor
open Go Go.K
attribute [local irreducible] regK codeK retK KOp.wp K.Spec u32 leS vnS str zero32 checkT grantB encT idT sizeT applyL
set_option maxHeartbeats 8000000 in
theorem conn13_spec {M:List Nat} {bv v:Value} {ch:Ch} {txs:List Tx} (w:World) (hv:SlR (listR txR) M w bv ch.bs) (hx:SlR txR M w v txs) (hb:∀b∈ch.bs,BkOk b) (hbx:BkOk txs) (hl:ch.bs.length≤1000) (ht:ch.top≤1000) (hM:∀y∈M,y<w.heap.size):
  K.Spec Tryz.prog F.kedgeref13_Connect [.agg #[bv,.int .i64 (ch.top:Nat)],v] w fun r w'=>∃bv',r=.tuple #[.agg #[bv',.int .i64 ((connC ch txs).top:Nat)],.int .i64 (connE ch txs).1,.int .i64 (connE ch txs).2]∧SlR (listR txR) M w' bv' (connC ch txs).bs∧Ext w w':=by
 obtain ⟨q1,q2,ebv⟩:=hv.form
 obtain ⟨q3,q4,exw⟩:=hx.form
 have hcb:=coins_bound hb ch.bs.length
 have hcl:(coinsC ch.bs).length≤12*ch.bs.length:=hcb
 obtain ⟨hb1,hb2,hb3⟩:=hbx
 have ek:((ch.bs.length:Nat):Int)+1=((ch.bs.length+1:Nat):Int):=by omega
 refine s_kedgeref13_Connect rfl ?_
 unfold k_kedgeref13_Connect
 refine oy ?_
 repeat (first|(refine zD (d:=some 2) (cs:= [bv,.int .i64 (ch.top:Nat)]) rfl (by rw [ebv];rfl) (fun b2 w1 x1 a1 (r1:Row w1 ⟨b2,0,none⟩ [bv,.int .i64 (ch.top:Nat)]) hb2=>?_))|(refine zH (d:=some 4) (fun b4 w2 x2 a2 hb4=>?_))|(first|refine go1 ?_|refine zg (fun _ _=>?_)|refine zi (fun _ _=>?_)))
 refine zC (d:=some 15) rfl (coins13_spec (M:=M) ((ch.top:Nat):Int) _ (hv.ext (x1.trans x2)) hb hl) ?_
 rintro lv w3 ⟨hlv,x3⟩
 repeat (first|(refine zG (d:=some 21) (E:=listR txR) (M:=M) (l:=ch.bs) rfl (SlR.ext hv (by exact fx)) ?_)|(first|refine go1 ?_|refine zg (fun _ _=>?_)|refine zi (fun _ _=>?_)))
 rw [ek]
 have x03:Ext w w3:=x1.trans (x2.trans x3)
 refine zC (d:=some 23) rfl (apply12_spec (M:=M) (l:=coinsC ch.bs) (txs:=txs) ((ch.bs.length+1:Nat):Int) _ hlv (coinsN_cg _ _) (coinsN_sc _ _) (hx.ext x03) hb3 (by omega) (by omega)) ?_
 rintro _ w4 ⟨vl,rfl,hvl,x4⟩
 have x04:Ext w w4:=x03.trans x4
 have a24:=At.ext (x3.trans x4) a2
 have l2:=a1.lt
 have hb24:w.heap.size≤b4:=Nat.le_trans x1.size hb4
 have s12:=x1.size
 have s04:=x04.size
 have r14:Row w4 ⟨b2,0,none⟩ [bv,.int .i64 (ch.top:Nat)]:=Row.ext (x2.trans (x3.trans x4)) r1
 have l4:=a2.lt
 have s24:=(x3.trans x4).size
 clear x1 x2 x3 x4 a1 a2 r1 x03
 by_cases h0:(connE ch txs).1=0
 ·have e2:connC ch txs=⟨ch.bs++ [txs],max ch.top (ch.bs.length+1)⟩:=by
   unfold connC
   rw [if_neg (by simpa using h0)]
  have e1:(connE ch txs).2= -1:=applyL_ok h0
  have h0':(applyL (coinsC ch.bs) txs ((ch.bs.length+1:Nat):Int)).2.1=0:=h0
  rw [h0',e1,e2,h0]
  repeat (first|(refine zH (d:=some 12) (fun b12 w5 x5 a5 hb12=>?_))|(first|refine go1 ?_|refine zg (fun _ _=>?_)|refine zi (fun _ _=>?_)))
  have l12:=a5.lt
  have s45:=x5.size
  have hv4:=hv.ext x04
  have hx4:=hx.ext x04
  have hMl:∀y∈b12::b4::M,y<w5.heap.size:=fun y hy=>by
   simp only [List.mem_cons] at hy
   rcases hy with rfl|rfl|hy
   ·exact l12
   ·omega
   ·have:=hM y hy;omega
  have hM4:∀y∈b12::b4::M,y∈M∨w.heap.size≤y:=fun y hy=>by
   simp only [List.mem_cons] at hy
   rcases hy with rfl|rfl|hy
   ·exact .inr (by omega)
   ·exact .inr hb24
   ·exact .inl hy
  refine c_loopV (fun (p:Nat × Value) w'=>Chg [b12] w5 w'∧p.1≤ch.bs.length∧OwnR (listR txR) T.L_api_Tx w5.heap.size (b12::b4::M) w' p.2 (ch.bs.take p.1)∧At w' b12 (.cells [p.2,.int .i64 0].toArray T.kedgeref13_Chain (0,0))) (fun p=> [(1,v),(2,.pointer (some ⟨b2,0,none⟩)),(4,.pointer (some ⟨b4,0,none⟩)),(12,.pointer (some ⟨b12,0,none⟩)),(13,.int .i64 (p.1:Nat))]) (fun p=>ch.bs.length - p.1) (0,.slice none 0 0) ⟨rfl,rfl,rfl,rfl,rfl,trivial⟩ ⟨Chg.refl _ _,by simp,OwnR.nil _ _ _ _,a5⟩ ?_
  rintro ⟨k,dv⟩ ρ w6 ⟨c6,hk,o6,a6⟩
  simp only at hk o6 a6
  dsimp only
  have x06:Ext w w6:=(Ext.chg (x04.trans x5) c6).mono (fun y hy=>.inr (by simp at hy;omega))
  have x46:Ext w4 w6:=(Ext.chg x5 c6).mono (fun y hy=>.inr (by simp at hy;omega))
  have r16:=Row.ext x46 r14
  have r66:=Row.of_at a6
  have odv:dv.oneCell'=true:=o6.one
  have hlen:(ch.bs.take k).length=k:=by rw [List.length_take];omega
  have ob:=o6.base
  have s56:=c6.size
  have hdM:∀y∈blkOf dv++b12::b4::M,y∈M∨w.heap.size≤y:=fun y hy=>by
   rcases List.mem_append.1 hy with hy|hy
   ·exact .inr (by have:=ob y hy;omega)
   ·exact hM4 y hy
  repeat (first|(refine zG (d:=some 36) (E:=listR txR) (M:=M) (l:=ch.bs) rfl (hv.ext x06) ?_)|(first|refine go1 ?_|refine zg (fun _ _=>?_)|refine zi (fun _ _=>?_)))
  refine zL (x:=.tmp 37) (p:=((k:Nat):Int)<((ch.bs.length:Nat):Int)) rfl (fun h6=>?_) (fun h6=>?_)
  ·have hkl:k<ch.bs.length:=by omega
   repeat (first|(refine zi (fun w7 x7=>?_))|(refine st_joinV (b:=.cons ⟨some 48,_,_⟩ _) (fun (p:Nat × Value) w'=>Ext w6 w'∧At w' p.1 (.cells [p.2].toArray T.L_api_Tx (0,0))∧SlR txR (blkOf dv++b12::b4::M) w' p.2 ch.bs[k]) (fun p=> [(1,v),(2,.pointer (some ⟨b2,0,none⟩)),(4,.pointer (some ⟨b4,0,none⟩)),(12,.pointer (some ⟨b12,0,none⟩)),(13,.int .i64 (k:Nat)),(41,dv),(47,.slice (some ⟨p.1,0,none⟩) 1 1)]) ?_ ?_)|(first|refine go1 ?_|refine zg (fun _ _=>?_)|refine zi (fun _ _=>?_)))
   ·repeat' (first|(refine zB ?_ ?_)|(refine st_elemR (d:=some 45) (E:=listR txR) (M:=blkOf dv++b12::b4::M) rfl rfl (n:=k) (l:=ch.bs) (SlR.ext (hv.step x06 (by simp) hdM) (by exact fx)) rfl hkl (fun ad cs r4 he=>?_);obtain ⟨xv,rfl,hxv⟩:=he;obtain ⟨_,_,exv⟩:=hxv.form)|(refine zI (d:=some 47) (cs:= [xv]) (by rw [exv];rfl) (fun b8 w8 x8 a8 hb8=>?_))|(first|refine go1 ?_|refine zg (fun _ _=>?_)|refine zi (fun _ _=>?_)))
    all_goals exact ⟨(b8,xv),⟨rfl,rfl,rfl,rfl,rfl,rfl,rfl,trivial⟩,by exact fx,a8,hxv.ext (by exact fx)⟩
   ·rintro ⟨b8,xv⟩ ρ w8 ⟨x8,a8,hxv⟩
    dsimp only at x8 a8 hxv ⊢
    refine st_append1 (d:=some 48) (E:=listR txR) (M:=b12::b4::M) (v:=dv) (cs:= [xv]) (a:=ch.bs[k]) rfl rfl (o6.ext x8) (Nat.le_trans s56 x8.size) rfl rfl a8 ⟨xv,rfl,hxv⟩ (by omega) (fun v9 w9 o9 c9 hb9=>?_)
    have h12n:b12∉blkOf dv:=fun h=>by have:=ob _ h;omega
    have a9:=(a6.ext x8).chg c9 h12n
    have o9b:=o9.base
    repeat (first|refine go1 ?_|refine zg (fun _ _=>?_)|refine zi (fun _ _=>?_))
    refine st_store (b:=b12) (o:=0) (cur:= [dv,.int .i64 0]) rfl rfl o9.one a9 (Nat.le_of_ble_eq_true rfl) (fun w10 c10 a10=>?_)
    have o10:=o9.step c10 (M':=b12::b4::M) (fun y hy=>by
     simp at hy;subst hy
     exact ⟨fun h=>by have:=o9b _ h;omega,.inl (by simp)⟩) (fun y hy=>.inl hy)
    have c510:Chg [b12] w5 w10:=((c6.trans (Chg.trans x8 c9)).trans c10).mono (fun y hy=>by
     simp at hy
     rcases hy with rfl|hy|rfl
     ·exact .inl (by simp)
     ·exact .inr (ob y hy)
     ·exact .inl (by simp))
    repeat (first|refine go1 ?_|refine zg (fun _ _=>?_)|refine zi (fun _ _=>?_))
    exact ⟨(k+1,v9),⟨rfl,rfl,rfl,rfl,rfl,trivial⟩,⟨c510,by simp only;omega,by simp only;rw [List.take_succ_eq_append_getElem hkl];exact o10,a10⟩,by simp only;omega⟩
  ·have ekk:k=ch.bs.length:=by omega
   subst ekk
   rw [List.take_length] at o6
   repeat (first|(refine zI (d:=some 53) (cs:= [v]) (by rw [exw];rfl) (fun b8 w8 x8 a8 hb8=>?_))|(first|refine go1 ?_|refine zg (fun _ _=>?_)|refine zi (fun _ _=>?_)))
   have hx8:SlR txR (blkOf dv++b12::b4::M) w8 v txs:=hx.step (x06.trans x8) (by simp) hdM
   have ov:v.oneCell'=true:=hx.one
   refine st_append1 (d:=some 54) (E:=listR txR) (M:=b12::b4::M) (v:=dv) (cs:= [v]) (a:=txs) rfl rfl (o6.ext x8) (Nat.le_trans s56 x8.size) rfl rfl a8 ⟨v,rfl,hx8⟩ (by omega) (fun v9 w9 o9 c9 hb9=>?_)
   have h12n:b12∉blkOf dv:=fun h=>by have:=ob _ h;omega
   have h4n:b4∉blkOf dv:=fun h=>by have:=ob _ h;omega
   have h2n:b2∉blkOf dv:=fun h=>by have:=ob _ h;omega
   have a9:=(a6.ext x8).chg c9 h12n
   have r29:=Row.chg c9 (Row.ext x8 r16) h2n
   have o9b:=o9.base
   have a49:=(At.ext (x46.trans x8) a24).chg c9 h4n
   repeat (first|refine go1 ?_|refine zg (fun _ _=>?_)|refine zi (fun _ _=>?_))
   refine st_store (b:=b12) (o:=0) (cur:= [dv,.int .i64 0]) rfl rfl o9.one a9 (Nat.le_of_ble_eq_true rfl) (fun w10 c10 a10=>?_)
   have a10:At w10 b12 (.cells [v9,.int .i64 0].toArray T.kedgeref13_Chain (0,0)):=a10
   have h12v:b12∉blkOf v9:=fun h=>by have:=o9b _ h;omega
   have h4v:b4∉blkOf v9:=fun h=>by have:=o9b _ h;omega
   have o10:=o9.step c10 (M':=b12::b4::M) (fun y hy=>by simp at hy;subst hy;exact ⟨h12v,.inl (by simp)⟩) (fun y hy=>.inl hy)
   have r210:=Row.chg c10 r29 (by simp;omega)
   have a410:=a49.chg c10 (by simp;omega)
   have r1210:=Row.of_at a10
   have c510:Chg [b12] w5 w10:=((c6.trans (Chg.trans x8 c9)).trans c10).mono (fun y hy=>by
    simp at hy
    rcases hy with rfl|hy|rfl
    ·exact .inl (by simp)
    ·exact .inr (ob y hy)
    ·exact .inl (by simp))
   repeat (first|refine go1 ?_|refine zg (fun _ _=>?_)|refine zi (fun _ _=>?_))
   refine st_store (b:=b12) (o:=1) (cur:= [v9,.int .i64 0]) rfl rfl rfl a10 (Nat.le_of_ble_eq_true rfl) (fun w11 c11 a11=>?_)
   have a11:At w11 b12 (.cells [v9,.int .i64 (ch.top:Nat)].toArray T.kedgeref13_Chain (0,0)):=a11
   have o11:=o10.step c11 (M':=b12::b4::M) (fun y hy=>by simp at hy;subst hy;exact ⟨h12v,.inl (by simp)⟩) (fun y hy=>.inl hy)
   have a411:=a410.chg c11 (by simp;omega)
   have r1211:=Row.of_at a11
   have c511:Chg [b12] w5 w11:=(c510.trans c11).mono (by simp)
   have off:∀y∈b12::b4::M,y∉blkOf v9:=fun y hy hv=>by have:=o9b y hv;have:=hMl y hy;omega
   have sl11:=o11.sl off
   have ell:(ch.bs++ [txs]).length=ch.bs.length+1:=by simp
   have ov9:v9.oneCell'=true:=o9.one
   by_cases hgt:ch.top<ch.bs.length+1
   ·have em:max ch.top (ch.bs.length+1)=(ch.bs++ [txs]).length:=by rw [ell];omega
    rw [em]
    repeat (first|(refine zG (d:=some 61) (E:=listR txR) (M:=b12::b4::M) (l:=ch.bs++ [txs]) rfl sl11 ?_)|(refine st_fixV (d:=some 64) (.bool true) rfl (congrArg (fun b=>some (Value.bool b)) (decide_eq_true (by rw [ell];omega))) ?_)|(refine zG (d:=some 67) (E:=listR txR) (M:=b12::b4::M) (l:=ch.bs++ [txs]) rfl sl11 ?_)|(first|refine go1 ?_|refine zg (fun _ _=>?_)|refine zi (fun _ _=>?_)))
    refine st_store (b:=b12) (o:=1) (cur:= [v9,.int .i64 (ch.top:Nat)]) rfl rfl rfl a11 (Nat.le_of_ble_eq_true rfl) (fun w13 c13 a13=>?_)
    have a13:At w13 b12 (.cells [v9,.int .i64 ((ch.bs++ [txs]).length:Nat)].toArray T.kedgeref13_Chain (0,0)):=a13
    have r1213:=Row.of_at a13
    have a413:=a411.chg c13 (by simp;omega)
    have o13:=o11.step c13 (M':=b12::b4::M) (fun y hy=>by simp at hy;subst hy;exact ⟨h12v,.inl (by simp)⟩) (fun y hy=>.inl hy)
    have x13:Ext w w13:=(Ext.chg (x04.trans x5) (c511.trans c13)).mono (fun y hy=>.inr (by simp at hy;omega))
    repeat (first|refine go1 ?_|refine zg (fun _ _=>?_)|refine zi (fun _ _=>?_))
    refine st_setN (w0:=w) (n:=2) (vs:= [v9,.int .i64 ((ch.bs++ [txs]).length:Nat)]) x13 hb24 a413 rfl rfl rfl rfl (by simp [ov9];rfl) (fun w14 x14 c14 a14 r14=>?_)
    repeat (first|refine go1 ?_|refine zg (fun _ _=>?_)|refine zi (fun _ _=>?_))
    have o14:=o13.step c14 (M':=b12::b4::M) (fun y hy=>by simp at hy;subst hy;exact ⟨h4v,.inl (by simp)⟩) (fun y hy=>.inl hy)
    exact x_ret (ret3 (rv_cell r14 rfl rfl) rv_tmp rv_tmp) ⟨v9,rfl,(o14.sl off).sub (fun y hy=>.inl (by simp [hy])),x14⟩
   ·have em:max ch.top (ch.bs.length+1)=ch.top:=by omega
    rw [em]
    repeat (first|(refine zG (d:=some 61) (E:=listR txR) (M:=b12::b4::M) (l:=ch.bs++ [txs]) rfl sl11 ?_)|(refine st_fixV (d:=some 64) (.bool false) rfl (congrArg (fun b=>some (Value.bool b)) (decide_eq_false (by rw [ell];omega))) ?_)|(first|refine go1 ?_|refine zg (fun _ _=>?_)|refine zi (fun _ _=>?_)))
    have x13:Ext w w11:=(Ext.chg (x04.trans x5) c511).mono (fun y hy=>.inr (by simp at hy;omega))
    refine st_setN (w0:=w) (n:=2) (vs:= [v9,.int .i64 (ch.top:Nat)]) x13 hb24 a411 rfl rfl rfl rfl (by simp [ov9];rfl) (fun w14 x14 c14 a14 r14=>?_)
    repeat (first|refine go1 ?_|refine zg (fun _ _=>?_)|refine zi (fun _ _=>?_))
    have o14:=o11.step c14 (M':=b12::b4::M) (fun y hy=>by simp at hy;subst hy;exact ⟨h4v,.inl (by simp)⟩) (fun y hy=>.inl hy)
    exact x_ret (ret3 (rv_cell r14 rfl rfl) rv_tmp rv_tmp) ⟨v9,rfl,(o14.sl off).sub (fun y hy=>.inl (by simp [hy])),x14⟩
 ·have e2:connC ch txs=ch:=by unfold connC;rw [if_pos h0]
  have e1:(connE ch txs).2=(applyL (coinsC ch.bs) txs ((ch.bs.length+1:Nat):Int)).2.2.1:=rfl
  have e0:(connE ch txs).1=(applyL (coinsC ch.bs) txs ((ch.bs.length+1:Nat):Int)).2.1:=rfl
  rw [e2,e1,e0]
  repeat (first|(refine st_fixV (d:=some 29) (.bool true) rfl (congrArg (fun b=>some (Value.bool (!b))) (decide_eq_false h0)) ?_)|(first|refine go1 ?_|refine zg (fun _ _=>?_)|refine zi (fun _ _=>?_)))
  have ov:bv.oneCell'=true:=by rw [ebv];rfl
  refine st_setN (w0:=w) (n:=2) (vs:= [bv,.int .i64 (ch.top:Nat)]) x04 hb24 a24 rfl rfl rfl rfl (by simp [ov];rfl) (fun w14 x14 c14 a14 r14=>?_)
  repeat (first|refine go1 ?_|refine zg (fun _ _=>?_)|refine zi (fun _ _=>?_))
  exact x_ret (ret3 (rv_cell r14 rfl rfl) rv_tmp rv_tmp) ⟨bv,rfl,hv.ext x14,x14⟩
end Go.Proofs.YtbidkcjendncaaaGreatDoor
end
section
namespace Go.K
open Go
theorem Sl.at_b {size:Nat} {w:World} {v:Value} {cs:List Value} {ln n:Nat} (hs:Sl w size v ln cs) (hk:0<size) (hr:n<ln):∃a cap,v=.slice (some a) ln cap∧Row w (a.add (n*size)) ((cs.drop (n*size)).take size)∧(a.add (n*size)).block∈blkOf v:=by
 obtain ⟨a,cap,rfl,hrow⟩:=hs.at_ hk hr
 exact ⟨a,cap,rfl,hrow,by rw [add_block];simp [blkOf]⟩
theorem st_elemB {α:Type} {E:R α} {M:List Nat} {P:Program} {d:Option Tmp} {r:KR} {K:Env→World→Prop} {ρ:Env} {w:World} {v:Value} {l:List α} {size:Nat} {x i:Operand} {kd:IntKind} {n:Nat} (hx:ev ρ x=v) (hi:ev ρ i=.int kd (n:Nat)) (hs:SlR E M w v l) (hk:size=E.k) (hr:n<l.length)
  (k:∀ad cs,Row w ad cs→E.rel M w cs l[n]→ad.block∉M→regK P r K (put ρ d (.pointer (some ad))) w):regK P (.cons ⟨d,.indexAddr size x i,none⟩ r) K ρ w:=by
 obtain ⟨css,h1,h2,h3⟩:=hs
 have hr':n<css.length:=by rw [h2.length];exact hr
 subst hk
 obtain ⟨a,cap,rfl,hrow,hb⟩:=Sl.at_b h1 E.pos hr'
 refine st_fix rfl (by simp [KOp.fix,hx,hi,hr'];rfl) (k _ _ ?_ (h2.get n hr' hr) (h3 (by omega) _ hb))
 have:=(vecE E.k E.pos).flat_at css n hr'
 rw [this] at hrow;exact hrow
end Go.K
namespace Go.Proofs.YtbidkcjendncaaaGreatDoor
open Go Go.K
attribute [local irreducible] regK codeK retK KOp.wp K.Spec u32 leS vnS str zero32 checkT grantB encT idT sizeT applyL
set_option maxHeartbeats 8000000 in
theorem disc13_spec {M:List Nat} {bv:Value} {ch:Ch} (w:World) (hv:SlR (listR txR) M w bv ch.bs) (hl:ch.bs.length≤1000) (ht:ch.top≤1000) (hM:∀y∈M,y<w.heap.size):
  K.Spec Tryz.prog F.kedgeref13_Disconnect [.agg #[bv,.int .i64 (ch.top:Nat)]] w fun r w'=>∃bv' tv,r=.tuple #[.agg #[bv',.int .i64 ((discC ch).top:Nat)],tv,.int .i64 (discE ch)]∧SlR (listR txR) M w' bv' (discC ch).bs∧(discE ch=0→SlR txR M w' tv (ch.bs.getD (ch.bs.length - 1) []))∧(discE ch≠0→tv=.slice none 0 0)∧Ext w w':=by
 obtain ⟨q1,q2,ebv⟩:=hv.form
 have ov:bv.oneCell'=true:=by rw [ebv];rfl
 refine s_kedgeref13_Disconnect rfl ?_
 unfold k_kedgeref13_Disconnect
 refine oy ?_
 repeat (first|(refine zD (d:=some 1) (cs:= [bv,.int .i64 (ch.top:Nat)]) rfl (by rw [ebv];rfl) (fun b1 w1 x1 a1 (r1:Row w1 ⟨b1,0,none⟩ [bv,.int .i64 (ch.top:Nat)]) hb1=>?_))|(refine zH (d:=some 2) (fun b2 w2 x2 a2 hb2=>?_))|(first|refine go1 ?_|refine zg (fun _ _=>?_)|refine zi (fun _ _=>?_)))
 refine zG (d:=some 10) (E:=listR txR) (M:=M) (l:=ch.bs) rfl (SlR.ext hv (by exact fx)) ?_
 have x02:Ext w w2:=x1.trans x2
 have hb02:w.heap.size≤b2:=Nat.le_trans x1.size hb2
 have s02:=x02.size
 have s1:=x1.size
 have s2:=x2.size
 have l1:=a1.lt
 have l2:=a2.lt
 have r12:=Row.ext x2 r1
 by_cases q0:ch.bs.length=0
 ·have e0:discE ch=8:=by unfold discE;rw [if_pos q0]
  have e1:discC ch=ch:=by unfold discC;rw [if_pos (by rw [e0];decide)]
  rw [e0,e1]
  repeat (first|(refine st_fixV (d:=some 12) (.bool true) rfl (congrArg (fun b=>some (Value.bool b)) (decide_eq_true (by omega))) ?_)|(first|refine go1 ?_|refine zg (fun _ _=>?_)|refine zi (fun _ _=>?_)))
  refine st_setN (w0:=w) (n:=2) (vs:= [bv,.int .i64 (ch.top:Nat)]) x02 hb02 a2 rfl rfl rfl rfl (by simp [ov];rfl) (fun w14 x14 c14 a14 r14=>?_)
  repeat (first|refine go1 ?_|refine zg (fun _ _=>?_)|refine zi (fun _ _=>?_))
  exact x_ret (ret3 (rv_cell r14 rfl rfl) rv_tmp rv_tmp) ⟨bv,_,rfl,hv.ext x14,fun q=>absurd q (by decide),fun _=>rfl,x14⟩
 ·by_cases q1:ch.bs.length+6≤ch.top
  ·have e0:discE ch=18:=by unfold discE;rw [if_neg q0,if_pos q1]
   have e1:discC ch=ch:=by unfold discC;rw [if_pos (by rw [e0];decide)]
   rw [e0,e1]
   repeat (first|(refine st_fixV (d:=some 12) (.bool false) rfl (congrArg (fun b=>some (Value.bool b)) (decide_eq_false (by omega))) ?_)|(refine st_fixV (d:=some 18) (.bool true) rfl (congrArg (fun b=>some (Value.bool b)) (decide_eq_true (by omega))) ?_)|(first|refine go1 ?_|refine zg (fun _ _=>?_)|refine zi (fun _ _=>?_)))
   refine st_setN (w0:=w) (n:=2) (vs:= [bv,.int .i64 (ch.top:Nat)]) x02 hb02 a2 rfl rfl rfl rfl (by simp [ov];rfl) (fun w14 x14 c14 a14 r14=>?_)
   repeat (first|refine go1 ?_|refine zg (fun _ _=>?_)|refine zi (fun _ _=>?_))
   exact x_ret (ret3 (rv_cell r14 rfl rfl) rv_tmp rv_tmp) ⟨bv,_,rfl,hv.ext x14,fun q=>absurd q (by decide),fun _=>rfl,x14⟩
  ·have e0:discE ch=0:=by unfold discE;rw [if_neg q0,if_neg q1]
   have e1:discC ch=⟨ch.bs.take (ch.bs.length - 1),ch.top⟩:=by unfold discC;rw [if_neg (by simp [e0])]
   have hkl1:ch.bs.length - 1<ch.bs.length:=by omega
   have egl:ch.bs.getD (ch.bs.length - 1) []=ch.bs[ch.bs.length - 1]:=by rw [List.getD_eq_getElem?_getD,List.getElem?_eq_getElem hkl1];rfl
   rw [e0,e1,egl]
   repeat (first|(refine st_fixV (d:=some 12) (.bool false) rfl (congrArg (fun b=>some (Value.bool b)) (decide_eq_false (by omega))) ?_)|(refine st_fixV (d:=some 18) (.bool false) rfl (congrArg (fun b=>some (Value.bool b)) (decide_eq_false (by omega))) ?_)|(refine zH (d:=some 6) (fun b12 w5 x5 a5 hb12=>?_))|(first|refine go1 ?_|refine zg (fun _ _=>?_)|refine zi (fun _ _=>?_)))
   have l12:=a5.lt
   have s45:=x5.size
   have hMl:∀y∈b12::b2::M,y<w5.heap.size:=fun y hy=>by
    simp only [List.mem_cons] at hy
    rcases hy with rfl|rfl|hy
    ·exact l12
    ·omega
    ·have:=hM y hy;omega
   have hM4:∀y∈b12::b2::M,y∈M∨w.heap.size≤y:=fun y hy=>by
    simp only [List.mem_cons] at hy
    rcases hy with rfl|rfl|hy
    ·exact .inr (by omega)
    ·exact .inr hb02
    ·exact .inl hy
   refine c_loopV (fun (p:Nat × Value) w'=>Chg [b12] w5 w'∧p.1≤ch.bs.length - 1∧OwnR (listR txR) T.L_api_Tx w5.heap.size (b12::b2::M) w' p.2 (ch.bs.take p.1)∧At w' b12 (.cells [p.2,.int .i64 0].toArray T.kedgeref13_Chain (0,0))) (fun p=> [(1,.pointer (some ⟨b1,0,none⟩)),(2,.pointer (some ⟨b2,0,none⟩)),(5,.int .i64 (ch.bs.length:Nat)),(6,.pointer (some ⟨b12,0,none⟩)),(7,.int .i64 (p.1:Nat))]) (fun p=>ch.bs.length - p.1) (0,.slice none 0 0) ⟨rfl,rfl,rfl,rfl,rfl,trivial⟩ ⟨Chg.refl _ _,by simp,OwnR.nil _ _ _ _,a5⟩ ?_
   rintro ⟨k,dv⟩ ρ w6 ⟨c6,hk,o6,a6⟩
   simp only at hk o6 a6
   dsimp only
   have x06:Ext w w6:=(Ext.chg (x02.trans x5) c6).mono (fun y hy=>.inr (by simp at hy;omega))
   have x26:Ext w2 w6:=(Ext.chg x5 c6).mono (fun y hy=>.inr (by simp at hy;omega))
   have r16:=Row.ext x26 r12
   have r66:=Row.of_at a6
   have odv:dv.oneCell'=true:=o6.one
   have hlen:(ch.bs.take k).length=k:=by rw [List.length_take];omega
   have ob:=o6.base
   have s56:=c6.size
   have hdM:∀y∈blkOf dv++b12::b2::M,y∈M∨w.heap.size≤y:=fun y hy=>by
    rcases List.mem_append.1 hy with hy|hy
    ·exact .inr (by have:=ob y hy;omega)
    ·exact hM4 y hy
   repeat (first|refine go1 ?_|refine zg (fun _ _=>?_)|refine zi (fun _ _=>?_))
   refine zL (x:=.tmp 23) (p:=((k:Nat):Int)<((ch.bs.length:Nat):Int) - 1) rfl (fun h6=>?_) (fun h6=>?_)
   ·have hkl:k<ch.bs.length:=by omega
    repeat (first|(refine zi (fun w7 x7=>?_))|(refine st_joinV (b:=.cons ⟨some 34,_,_⟩ _) (fun (p:Nat × Value) w'=>Ext w6 w'∧At w' p.1 (.cells [p.2].toArray T.L_api_Tx (0,0))∧SlR txR (blkOf dv++b12::b2::M) w' p.2 ch.bs[k]) (fun p=> [(1,.pointer (some ⟨b1,0,none⟩)),(2,.pointer (some ⟨b2,0,none⟩)),(5,.int .i64 (ch.bs.length:Nat)),(6,.pointer (some ⟨b12,0,none⟩)),(7,.int .i64 (k:Nat)),(27,dv),(33,.slice (some ⟨p.1,0,none⟩) 1 1)]) ?_ ?_)|(first|refine go1 ?_|refine zg (fun _ _=>?_)|refine zi (fun _ _=>?_)))
    ·repeat' (first|(refine zB ?_ ?_)|(refine st_elemR (d:=some 31) (E:=listR txR) (M:=blkOf dv++b12::b2::M) rfl rfl (n:=k) (l:=ch.bs) (SlR.ext (hv.step x06 (by simp) hdM) (by exact fx)) rfl hkl (fun ad cs r4 he=>?_);obtain ⟨xv,rfl,hxv⟩:=he;obtain ⟨_,_,exv⟩:=hxv.form)|(refine zI (d:=some 33) (cs:= [xv]) (by rw [exv];rfl) (fun b8 w8 x8 a8 hb8=>?_))|(first|refine go1 ?_|refine zg (fun _ _=>?_)|refine zi (fun _ _=>?_)))
     all_goals exact ⟨(b8,xv),⟨rfl,rfl,rfl,rfl,rfl,rfl,rfl,trivial⟩,by exact fx,a8,hxv.ext (by exact fx)⟩
    ·rintro ⟨b8,xv⟩ ρ w8 ⟨x8,a8,hxv⟩
     dsimp only at x8 a8 hxv ⊢
     refine st_append1 (d:=some 34) (E:=listR txR) (M:=b12::b2::M) (v:=dv) (cs:= [xv]) (a:=ch.bs[k]) rfl rfl (o6.ext x8) (Nat.le_trans s56 x8.size) rfl rfl a8 ⟨xv,rfl,hxv⟩ (by omega) (fun v9 w9 o9 c9 hb9=>?_)
     have h12n:b12∉blkOf dv:=fun h=>by have:=ob _ h;omega
     have a9:=(a6.ext x8).chg c9 h12n
     have o9b:=o9.base
     repeat (first|refine go1 ?_|refine zg (fun _ _=>?_)|refine zi (fun _ _=>?_))
     refine st_store (b:=b12) (o:=0) (cur:= [dv,.int .i64 0]) rfl rfl o9.one a9 (Nat.le_of_ble_eq_true rfl) (fun w10 c10 a10=>?_)
     have o10:=o9.step c10 (M':=b12::b2::M) (fun y hy=>by
      simp at hy;subst hy
      exact ⟨fun h=>by have:=o9b _ h;omega,.inl (by simp)⟩) (fun y hy=>.inl hy)
     have c510:Chg [b12] w5 w10:=((c6.trans (Chg.trans x8 c9)).trans c10).mono (fun y hy=>by
      simp at hy
      rcases hy with rfl|hy|rfl
      ·exact .inl (by simp)
      ·exact .inr (ob y hy)
      ·exact .inl (by simp))
     repeat (first|refine go1 ?_|refine zg (fun _ _=>?_)|refine zi (fun _ _=>?_))
     exact ⟨(k+1,v9),⟨rfl,rfl,rfl,rfl,rfl,trivial⟩,⟨c510,by simp only;omega,by simp only;rw [List.take_succ_eq_append_getElem hkl];exact o10,a10⟩,by simp only;omega⟩
   ·have ekk:k=ch.bs.length - 1:=by omega
    subst ekk
    have h12v:b12∉blkOf dv:=fun h=>by have:=ob _ h;omega
    have h2v:b2∉blkOf dv:=fun h=>by have:=ob _ h;omega
    repeat (first|refine go1 ?_|refine zg (fun _ _=>?_)|refine zi (fun _ _=>?_))
    refine st_store (b:=b12) (o:=1) (cur:= [dv,.int .i64 0]) rfl rfl rfl a6 (Nat.le_of_ble_eq_true rfl) (fun w11 c11 a11=>?_)
    have a11:At w11 b12 (.cells [dv,.int .i64 (ch.top:Nat)].toArray T.kedgeref13_Chain (0,0)):=a11
    have o11:=o6.step c11 (M':=b12::b2::M) (fun y hy=>by simp at hy;subst hy;exact ⟨h12v,.inl (by simp)⟩) (fun y hy=>.inl hy)
    have a211:=(At.ext x26 a2).chg c11 (by simp;omega)
    have r1211:=Row.of_at a11
    have r111:=Row.chg c11 r16 (by simp;omega)
    have x11:Ext w w11:=(Ext.chg (x02.trans x5) (c6.trans c11)).mono (fun y hy=>.inr (by simp at hy;omega))
    have off:∀y∈b12::b2::M,y∉blkOf dv:=fun y hy hv=>by have:=ob y hv;have:=hMl y hy;omega
    have hMb:∀y∈b12::b2::M,y∈M∨w.heap.size≤y:=hM4
    have hv11:SlR (listR txR) (b12::b2::M) w11 bv ch.bs:=hv.step x11 (by simp) hM4
    clear x1 x2 x02 x06 x26 x5 c6 c11 a1 r1 r12 r16
    have m2:b2∈b12::b2::M:=by simp
    repeat' (first|(refine zg (fun w12 x12=>?_))|(refine zB ?_ ?_)|(refine st_predN (d:=some 43) (n:=ch.bs.length) rfl (by omega) (by omega) ?_)|(refine st_elemB (d:=some 44) (E:=listR txR) (M:=b12::b2::M) rfl rfl (n:=ch.bs.length - 1) (l:=ch.bs) (hv.step (show Ext w _ by exact fx) (by simp) hM4) rfl hkl1 (fun ad cs r4 he hab=>?_);obtain ⟨tv,rfl,hxv⟩:=he)|(refine st_setN (w0:=w) (n:=2) (vs:= [dv,.int .i64 (ch.top:Nat)]) (show Ext w _ by exact fx) hb02 (At.ext (show Ext w11 _ by exact fx) a211) rfl rfl rfl rfl (by simp [odv];rfl) (fun w14 x14 c14 a14 r14=>?_);have r114:=Row.chg c14 (Row.ext (show Ext w11 _ by exact fx) r111) (by simp;omega);have o14:=(o11.ext (show Ext w11 _ by exact fx)).step c14 (M':=b12::b2::M) (fun y hy=>by simp at hy;subst hy;exact ⟨h2v,.inl (by simp)⟩) (fun y hy=>.inl hy);(first|have r5:=Row.chg c14 r4 (fun h=>by simp at h;rw [h] at hab;exact hab m2)|skip);(first|have hxv:=hxv.step c14 (M':=b12::b2::M) (fun y hy=>.inl (by simp at hy;simp [hy])) (fun y hy=>.inl hy)|skip))|(first|refine go1 ?_|refine zg (fun _ _=>?_)|refine zi (fun _ _=>?_)))
    all_goals exact x_ret (ret3 (rv_cell r14 rfl rfl) rv_tmp rv_tmp) ⟨dv,tv,rfl,(o14.sl off).sub (fun y hy=>.inl (by simp [hy])),fun _=>hxv.sub (fun y hy=>.inl (by simp [hy])),fun q=>absurd rfl q,x14⟩
end Go.Proofs.YtbidkcjendncaaaGreatDoor
end
section
namespace Go.K
open Go
section
variable {α:Type} {E:Enc α} {t:TypeId} {B:Nat} {w:World}
theorem flat_splitE (l:List α) (n:Nat):E.flat l=E.flat (l.take n)++E.flat (l.drop n):=by
 conv=>lhs;rw [←List.take_append_drop n l]
 unfold Enc.flat
 rw [List.flatMap_append]
theorem Own.cut {b:Nat} {len cap n:Nat} {l:List α} (h:Own E t B w (.slice (some ⟨b,0,none⟩) len cap) l) (hn:n≤l.length):Own E t B w (.slice (some ⟨b,0,none⟩) n cap) (l.take n):=by
 rcases h with ⟨e, -⟩|⟨b',cap',junk,e,hB,hat,hln⟩
 ·cases e
 ·simp only [Value.slice.injEq,Option.some.injEq,Addr.mk.injEq,and_true] at e
  obtain ⟨rfl, -,rfl⟩:=e
  refine .inr ⟨b,cap,E.flat (l.drop n)++junk,?_,hB,?_,?_⟩
  ·rw [List.length_take,Nat.min_eq_left hn]
  ·rw [←List.append_assoc,←flat_splitE];exact hat
  ·rw [←List.append_assoc,←flat_splitE];exact hln
end
end Go.K
end
section
namespace Go.Proofs.YtbidkcjendncaaaGreatDoor
open Go Go.K
attribute [local irreducible] regK codeK retK KOp.wp K.Spec u32 leS vnS str zero32 checkT grantB encT idT sizeT inE feeP mayL payL oneL takeAll applyL
theorem coinsN_bnd {bs:List (List Tx)} {n:Nat} (h:∀b∈bs,BkOk b) (hn:bs.length≤n) (k:Nat) (hk:k≤bs.length):(coinsN bs k).length≤12*n:=by
 have:=coins_bound h k
 have:12*k≤12*n:=by omega
 omega
theorem conn_bk {ch:Ch} {txs:List Tx} (h:∀b∈ch.bs,BkOk b) (hx:BkOk txs):∀b∈(connC ch txs).bs,BkOk b:=fun b hb=>by
 unfold connC at hb
 split at hb
 ·exact h b hb
 ·simp at hb
  rcases hb with hb|rfl
  ·exact h b hb
  ·exact hx
theorem conn_len {ch:Ch} {txs:List Tx} {n:Nat} (h1:ch.bs.length≤n) (h2:ch.top≤n):(connC ch txs).bs.length≤n+1∧(connC ch txs).top≤n+1:=by
 unfold connC
 split
 ·exact ⟨by omega,by omega⟩
 ·simp;omega
theorem disc_bk {ch:Ch} (h:∀b∈ch.bs,BkOk b):∀b∈(discC ch).bs,BkOk b:=fun b hb=>by
 unfold discC at hb
 split at hb
 ·exact h b hb
 ·exact h b (List.mem_of_mem_take hb)
theorem disc_len {ch:Ch} {n:Nat} (h1:ch.bs.length≤n) (h2:ch.top≤n):(discC ch).bs.length≤n∧(discC ch).top≤n:=by
 unfold discC
 split
 ·exact ⟨h1,h2⟩
 ·simp;omega
abbrev c13 (bv:Value) (top:Nat):List Value:= [bv,.int .i64 (top:Nat)]
end Go.Proofs.YtbidkcjendncaaaGreatDoor
end
section
namespace Go.Proofs.YtbidkcjendncaaaGreatDoor
open Go Go.K
attribute [local irreducible] regK codeK retK KOp.wp K.Spec u32 leS vnS str zero32 checkT applyL encT idT sizeT
theorem chget_spec {U:List Nat} {B c:Nat} {M:List Nat} {ch:Ch} (p:Pt) (w:World) (h:ChR U w B c M ch):K.Spec Tryz.prog F.chain_Chain_Get [.pointer (some ⟨c,0,none⟩),p.val] w fun r w'=>r=.tuple #[(refCoin (coinsC ch.bs) p).val,.bool (aget (coinsC ch.bs) p).isSome]∧Ext w w':=by
 obtain ⟨b,mb,lv,h1,h2,h3,rfl,g1,g2,g3,g4,g5,g6,g8⟩:=h
 have r1:=Row.of_at h1
 refine s_chain_Chain_Get rfl ?_
 unfold k_chain_Chain_Get
 refine oy ?_
 repeat (first|(refine zD (d:=some 3) (cs:=p.cs) rfl rfl (fun b3 w3 x3 a3 (r3:Row w3 ⟨b3,0,none⟩ p.cs) hb3=>?_))|(refine zH (d:=some 4) (fun b4 w4 x4 a4 hb4=>?_))|(refine zg (fun w5 x5=>?_))|(first|refine go1 ?_|refine zg (fun _ _=>?_)|refine zi (fun _ _=>?_)))
 have x35:Ext w3 w5:=x4.trans x5
 refine zC (d:=some 14) rfl (pget_spec p _ (h2.ext (x3.trans x35))) ?_
 rintro _ w6 ⟨rfl,x6⟩
 repeat (first|refine go1 ?_|refine zg (fun _ _=>?_)|refine zi (fun _ _=>?_))
 refine st_setN (w0:=w) (vs:=(refCoin (coinsC ch.bs) p).cs) (x3.trans (x35.trans x6)) (Nat.le_trans x3.size hb4) (a4.ext (x5.trans x6)) rfl rfl rfl rfl rfl (fun w9 x9 c9 a9 r9=>?_)
 repeat (first|refine go1 ?_|refine zg (fun _ _=>?_)|refine zi (fun _ _=>?_))
 exact x_ret (ret2 (rv_cell r9 rfl rfl) rv_tmp) ⟨rfl,x9⟩
set_option maxHeartbeats 2000000 in
theorem same13_spec {U:List Nat} {B c:Nat} {M:List Nat} {ch:Ch} {lv:Value} (w:World) (h:ChR U w B c M ch) (hl:SlE entE w lv (coinsC ch.bs)) (hg:CG (coinsC ch.bs)) (hn:(coinsC ch.bs).length≤100000):K.Spec Tryz.prog F.kedgelaw13_same [.pointer (some ⟨c,0,none⟩),lv] w fun r w'=>r=.bool true∧Ext w w':=by
 refine s_kedgelaw13_same rfl ?_
 unfold k_kedgelaw13_same
 refine oy ?_
 repeat (first|(refine zC (d:=some 11) rfl (chcoins_spec _ h hn) ?_;rintro av w1 ⟨hav,hab,x1⟩)|(first|refine go1 ?_|refine zg (fun _ _=>?_)|refine zi (fun _ _=>?_)))
 have hget:∀(p:Pt) w',Ext w w'→K.Spec Tryz.prog F.chain_Chain_Get [.pointer (some ⟨c,0,none⟩),p.val] w' fun r w2=>r=.tuple #[(refCoin (coinsC ch.bs) p).val,.bool (aget (coinsC ch.bs) p).isSome]∧Ext w' w2:=fun p w' x=>chget_spec p w' (h.ext x)
 generalize coinsC ch.bs=l at*
 repeat (first|(refine st_len (d:=some 13) rfl hav ?_)|(refine st_len (d:=some 15) rfl (hl.ext x1) ?_)|(refine st_fixV (d:=some 16) (.bool false) rfl (congrArg (fun b=>some (Value.bool (!b))) (decide_eq_true rfl)) ?_)|(refine st_len (d:=some 18) rfl hav ?_)|(first|refine go1 ?_|refine zg (fun _ _=>?_)|refine zi (fun _ _=>?_)))
 refine c_loopV (fun (p:Nat) w'=>Ext w1 w'∧p≤l.length) (fun p=> [(0,.pointer (some ⟨c,0,none⟩)),(1,lv),(17,av),(18,.int .i64 (l.length:Nat)),(19,.int .i64 (p:Nat))]) (fun p=>l.length - p) 0 ⟨rfl,rfl,rfl,rfl,rfl,trivial⟩ ⟨Ext.refl _,by simp⟩ ?_
 rintro k ρ w2 ⟨x2,hk⟩
 repeat (first|refine go1 ?_|refine zg (fun _ _=>?_)|refine zi (fun _ _=>?_))
 refine zL (x:=.tmp 20) (p:=((k:Nat):Int)<((l.length:Nat):Int)) rfl (fun h7=>?_) (fun h7=>?_)
 ·have hkl:k<l.length:=by omega
  have hl2:=hl.ext (x1.trans x2)
  have hag:=(mem_iff_aget hg.nodup).1 (List.getElem_mem hkl)
  have hrc:=(take_at hg.srt (List.getElem_mem hkl)).2
  repeat (first|(refine st_elemE (d:=some 22) (E:=entE) rfl rfl (n:=k) (l:=l) (hav.ext x2) rfl hkl (fun ad1 ra=>?_))|(refine st_local2 (d':=7) (e:=6) (fun _=>rfl) (fun _=>rfl) rfl rfl rfl rfl (fun b7 w3 x3 a7 (r7:Row w3 ⟨b7,0,none⟩ (entE.f l[k])) hb7=>?_))|(refine st_elemE (d:=some 28) (E:=entE) rfl rfl (n:=k) (l:=l) (SlE.ext (w:=w2) (by exact fx) hl2) rfl hkl (fun ad2 rb=>?_))|(refine st_elemE (d:=some 37) (E:=entE) rfl rfl (n:=k) (l:=l) (SlE.ext (w:=w2) (by exact fx) hl2) rfl hkl (fun ad3 rc=>?_))|(refine st_fixV (d:=some 31) (.bool false) rfl (pt_ne l[k].1) ?_)|(refine st_fixV (d:=some 40) (.bool false) rfl (cn_ne l[k].2) ?_)|(first|refine go1 ?_|refine zg (fun _ _=>?_)|refine zi (fun _ _=>?_)))
  refine zC (d:=some 46) rfl (hget l[k].1 _ (x1.trans (x2.trans (by exact fx)))) ?_
  rw [hag,hrc,Option.isSome_some]
  rintro _ w5 ⟨rfl,x5⟩
  repeat (first|(refine zE (d':=8) (vs:=l[k].2.cs) (fun _=>rfl) rfl rfl rfl (fun b8 w6 x6 a8 (r8:Row w6 ⟨b8,0,none⟩ l[k].2.cs) hb8=>?_))|(refine st_fixV (d:=some 55) (.bool false) rfl (cn_ne l[k].2) ?_)|(first|refine go1 ?_|refine zg (fun _ _=>?_)|refine zi (fun _ _=>?_)))
  exact ⟨k+1,⟨rfl,rfl,rfl,rfl,rfl,trivial⟩,⟨by exact fx,by omega⟩,by omega⟩
 ·repeat (first|refine go1 ?_|refine zg (fun _ _=>?_)|refine zi (fun _ _=>?_))
  exact x_ret rfl ⟨rfl,x1.trans x2⟩
set_option maxHeartbeats 2000000 in
theorem sameTxs_spec {M N:List Nat} {v u:Value} {l:List Tx} (w:World) (hv:SlR txR M w v l) (hu:SlR txR N w u l) (hs:∀t∈l,t.Sm) (hn:l.length≤1000):K.Spec Tryz.prog F.kedgelaw13_sameTxs [v,u] w fun r w'=>r=.bool true∧Ext w w':=by
 refine s_kedgelaw13_sameTxs rfl ?_
 unfold k_kedgelaw13_sameTxs
 refine oy ?_
 repeat (first|(refine zG (d:=some 7) (E:=txR) (M:=M) (l:=l) rfl (SlR.ext hv (by exact fx)) ?_)|(refine zG (d:=some 9) (E:=txR) (M:=N) (l:=l) rfl (SlR.ext hu (by exact fx)) ?_)|(refine st_fixV (d:=some 10) (.bool false) rfl (congrArg (fun b=>some (Value.bool (!b))) (decide_eq_true rfl)) ?_)|(refine zG (d:=some 12) (E:=txR) (M:=M) (l:=l) rfl (SlR.ext hv (by exact fx)) ?_)|(first|refine go1 ?_|refine zg (fun _ _=>?_)|refine zi (fun _ _=>?_)))
 refine c_loopV (fun (p:Nat) w'=>Ext w w'∧p≤l.length) (fun p=> [(0,v),(1,u),(12,.int .i64 (l.length:Nat)),(13,.int .i64 (p:Nat))]) (fun p=>l.length - p) 0 ⟨rfl,rfl,rfl,rfl,trivial⟩ ⟨Ext.refl _,by simp⟩ ?_
 rintro k ρ w2 ⟨x2,hk⟩
 repeat (first|refine go1 ?_|refine zg (fun _ _=>?_)|refine zi (fun _ _=>?_))
 refine zL (x:=.tmp 14) (p:=((k:Nat):Int)<((l.length:Nat):Int)) rfl (fun h7=>?_) (fun h7=>?_)
 ·have hkl:k<l.length:=by omega
  have hsk:=hs _ (List.getElem_mem hkl)
  obtain ⟨t,ht⟩:∃t,t=l[k]:=⟨_,rfl⟩
  rw [←ht] at hsk
  repeat (first|(refine zg (fun w3 x3=>?_))|(refine st_elemR (d:=some 18) (E:=txR) (M:=M) rfl rfl (n:=k) (l:=l) (SlR.ext hv (by exact fx)) rfl hkl (fun ad cs r4 he=>?_);rw [←ht] at he;obtain ⟨iv,ov,rfl, -⟩:=id he)|(refine st_elemR (d:=some 22) (E:=txR) (M:=N) rfl rfl (n:=k) (l:=l) (SlR.ext hu (by exact fx)) rfl hkl (fun ad2 cs2 r5 he2=>?_);rw [←ht] at he2;obtain ⟨iv2,ov2,rfl, -⟩:=id he2)|(first|refine go1 ?_|refine zg (fun _ _=>?_)|refine zi (fun _ _=>?_)))
  refine zC (d:=some 24) rfl (same2_spec _ he he2 hsk hsk) ?_
  rw [show decide (t=t)=true from decide_eq_true rfl]
  rintro _ w5 ⟨rfl,x5⟩
  repeat (first|refine go1 ?_|refine zg (fun _ _=>?_)|refine zi (fun _ _=>?_))
  exact ⟨k+1,⟨rfl,rfl,rfl,rfl,trivial⟩,⟨by exact fx,by omega⟩,by omega⟩
 ·repeat (first|refine go1 ?_|refine zg (fun _ _=>?_)|refine zi (fun _ _=>?_))
  exact x_ret rfl ⟨rfl,x2⟩
end Go.Proofs.YtbidkcjendncaaaGreatDoor
end
section
namespace Go.Proofs.YtbidkcjendncaaaGreatDoor
open Go Go.K
attribute [local irreducible] regK codeK retK KOp.wp K.Spec u32 leS vnS str zero32 checkT grantB encT idT sizeT inE feeP mayL payL oneL takeAll applyL EtR
structure Two (B c b6 n:Nat) (ch:Ch) (M:List Nat) (bv:Value) (w:World):Prop where
 chr:ChR [b6] w B c M ch
 cell:At w b6 (.cells (c13 bv ch.top).toArray T.kedgeref13_Chain (0,0))
 bs:SlR (listR txR) (M++ [b6]) w bv ch.bs
 bk:∀b∈ch.bs,BkOk b
 len:ch.bs.length≤n
 top:ch.top≤n
theorem Two.lt {B c b6 n:Nat} {ch:Ch} {M:List Nat} {bv:Value} {w:World} (h:Two B c b6 n ch M bv w):∀y∈M++ [b6],y<w.heap.size:=fun y hy=>by
 rcases List.mem_append.1 hy with hy|hy
 ·exact h.chr.lt y hy
 ·simp at hy;subst hy;exact h.cell.lt
theorem Two.ext {B c b6 n:Nat} {ch:Ch} {M:List Nat} {bv:Value} {w w':World} (h:Two B c b6 n ch M bv w) (x:Ext w w'):Two B c b6 n ch M bv w':=⟨h.chr.ext x,h.cell.ext x,h.bs.ext x,h.bk,h.len,h.top⟩
set_option maxHeartbeats 16000000 in
set_option maxRecDepth 4000 in
theorem chainPlays_law {v:Value} {acts:List BAct} (w:World) (hg:EtR w) (hz:SlR bactR [] w v acts):K.Spec Tryz.prog F.kedgelaw13_ChainPlays [v] w fun r w'=>r=.bool true∧Ext w w':=by
 refine s_kedgelaw13_ChainPlays rfl ?_
 unfold k_kedgelaw13_ChainPlays
 refine oy ?_
 repeat (first|refine go1 ?_|refine zg (fun _ _=>?_)|refine zi (fun _ _=>?_))
 refine zC (d:=some 17) rfl (chnew_spec (U:= []) _ (by simp)) ?_
 rintro _ w1 ⟨c,M1,rfl,C1,hM1,x1⟩
 repeat (first|(refine zH (d:=some 4) (fun b6 w2 x2 a2 hb2=>?_))|(refine zG (d:=some 20) (E:=bactR) (M:= []) (l:=acts) rfl (SlR.ext hz (by exact fx)) ?_)|(refine st_takeR (d:=some 22) (E:=bactR) (n:=min acts.length 14) rfl rfl (by omega) hz (by omega) rfl (fun v' hv'=>?_))|(refine zG (d:=some 23) (E:=bactR) (M:= []) (l:=acts.take (min acts.length 14)) rfl (SlR.ext hv' (by exact fx)) ?_)|(first|refine go1 ?_|refine zg (fun _ _=>?_)|refine zi (fun _ _=>?_)))
 have hSl:(acts.take (min acts.length 14)).length≤14:=by rw [List.length_take];omega
 generalize acts.take (min acts.length 14)=S at*
 have x02:Ext w w2:=x1.trans x2
 have s1:=x1.size
 have hb6:w.heap.size≤b6:=by omega
 have K2:Two w.heap.size c b6 0 ⟨[],0⟩ M1 (.slice none 0 0) w2:=⟨((C1.more (fun y hy=>by simp at hy;subst hy;exact .inr hb2):ChR [b6] w1 _ _ _ _)).ext x2,a2,SlR.nil _ _,by simp,by simp,by simp⟩
 refine c_loopV (fun (p:Nat × Ch × List Nat × Value) w'=>Ext w w'∧p.1≤S.length∧Two w.heap.size c b6 p.1 p.2.1 p.2.2.1 p.2.2.2 w') (fun p=> [(3,.pointer (some ⟨c,0,none⟩)),(4,.pointer (some ⟨b6,0,none⟩)),(22,v'),(23,.int .i64 (S.length:Nat)),(24,.int .i64 (p.1:Nat))]) (fun p=>S.length - p.1) (0,⟨[],0⟩,M1,.slice none 0 0) ⟨rfl,rfl,rfl,rfl,rfl,trivial⟩ ⟨x02,by simp,K2⟩ ?_
 clear C1 hM1 x1 x2 a2 K2 x02 s1 hb2
 rintro ⟨i,ch,M,bv⟩ ρ w4 ⟨x4,hi,K4⟩
 simp only at hi K4
 dsimp only
 repeat (first|refine go1 ?_|refine zg (fun _ _=>?_)|refine zi (fun _ _=>?_))
 refine zL (x:=.tmp 25) (p:=((i:Nat):Int)<((S.length:Nat):Int)) rfl (fun h5=>?_) (fun h5=>?_)
 ·have hil:i<S.length:=by omega
  have hMb:=K4.chr.base
  have hN:=K4.lt
  have hbv:=K4.bs
  have hbk:=K4.bk
  have hbl:=K4.len
  have htop:=K4.top
  have hMo:=K4.chr.off
  have hcn:∀k,k≤ch.bs.length→(coinsN ch.bs k).length≤168:=fun k hk=>coinsN_bnd (n:=14) hbk (by omega) k hk
  have hcl:(coinsC ch.bs).length≤168:=hcn _ (Nat.le_refl _)
  have hNb:∀y∈M++ [b6],w.heap.size≤y:=fun y hy=>by
   rcases List.mem_append.1 hy with hy|hy
   ·exact hMb y hy
   ·simp at hy;omega
  have hvN:SlR bactR (M++ [b6]) w4 v' S:=hv'.step x4 (by simp) (fun y hy=>.inr (hNb y hy))
  have ek:((ch.bs.length:Nat):Int)+1=((ch.bs.length+1:Nat):Int):=by omega
  have r4:=Row.of_at K4.cell
  repeat (first|(refine st_elemR (d:=some 26) (E:=bactR) (M:=M++ [b6]) rfl rfl (n:=i) (l:=S) hvN rfl hil (fun ad cs r3 he=>?_);obtain ⟨tv,rfl,htv⟩:=id he;obtain ⟨q1,q2,etv⟩:=htv.form;obtain ⟨a,ha⟩:∃a,a=S[i]:=⟨_,rfl⟩;rw [←ha] at htv r3 etv)|(refine zE (d':=6) (fun _=>rfl) rfl rfl (by rw [etv];rfl) (fun b8 w5 x5 a8 (r8:Row w5 ⟨b8,0,none⟩ [u8V a.act,tv]) hb8=>?_))|(refine c_cutV (a:=.seq (.reg false (.cons ⟨some 28,_,none⟩ _)) _) (fun (p:Ch × List Nat × Value) w'=>Ext w w'∧Two w.heap.size c b6 (i+1) p.1 p.2.1 p.2.2 w') (fun _=> [(3,.pointer (some ⟨c,0,none⟩)),(4,.pointer (some ⟨b6,0,none⟩)),(22,v'),(23,.int .i64 (S.length:Nat)),(24,.int .i64 (i:Nat))]) ?_ ?_)|(refine st_bin (d:=some 30) rfl rfl (rem_u8 a.act.toNat 4 (by decide)) ?_)|(first|refine go1 ?_|refine zg (fun _ _=>?_)|refine zi (fun _ _=>?_)))
  ·have x05:Ext w w5:=x4.trans x5
   have K5:=K4.ext x5
   have s5:=x5.size
   refine zL (x:=.tmp 31) (p:=((a.act.toNat%4:Nat):Int)=3) rfl (fun hd=>?_) (fun hd=>?_)
   ·repeat (first|refine go1 ?_|refine zg (fun _ _=>?_)|refine zi (fun _ _=>?_))
    refine zC (d:=some 34) rfl (chdisc_spec _ K5.chr (fun k hk=>Nat.le_trans (hcn k hk) (by omega)) (by omega) (by omega)) ?_
    rintro _ w6 ⟨tv',M',rfl,C6,hM6,c6,hT1,hN1⟩
    have x06:Ext w w6:=(Ext.chg x05 c6).mono (fun y hy=>.inr (hMb y hy))
    have a46:=K5.cell.chg c6 (fun h=>hMo _ h (by simp))
    have r46:=Row.of_at a46
    have hbv6:SlR (listR txR) (M'++ [b6]) w6 bv ch.bs:=K5.bs.step c6 (fun y hy=>.inl (by simp [hy])) (fun y hy=>.inl (by
     rcases List.mem_append.1 hy with hy|hy
     ·exact List.mem_append_left _ (hM6 y hy)
     ·exact List.mem_append_right _ hy))
    have C6l:=C6.lt
    repeat (first|refine go1 ?_|refine zg (fun _ _=>?_)|refine zi (fun _ _=>?_))
    refine zC (d:=some 39) rfl (disc13_spec (M:=M'++ [b6]) _ hbv6 (by omega) (by omega) (fun y hy=>by
     rcases List.mem_append.1 hy with hy|hy
     ·exact C6l y hy
     ·simp at hy;subst hy;exact a46.lt)) ?_
    rintro _ w8 ⟨bv',tv2,rfl,hbv8,hT2,hN2,x8⟩
    obtain ⟨l,hl1,hl2,hls,hll⟩:∃l,SlR txR (M'++ [b6]) w8 tv' l∧SlR txR (M'++ [b6]) w8 tv2 l∧(∀t∈l,t.Sm)∧l.length≤1000:=by
     by_cases h0:discE ch=0
     ·have hpos:0<ch.bs.length:=by
       rcases Nat.eq_zero_or_pos ch.bs.length with h|h
       ·unfold discE at h0;rw [if_pos h] at h0;exact absurd h0 (by decide)
       ·exact h
      have hmem:ch.bs.getD (ch.bs.length - 1) []∈ch.bs:=by
       rw [List.getD_eq_getElem?_getD,List.getElem?_eq_getElem (by omega)]
       exact List.getElem_mem _
      have hk:=hbk _ hmem
      exact ⟨_,(hT1 h0).ext x8,hT2 h0,hk.2.2,by have:=hk.1;omega⟩
     ·rw [hN1 h0,hN2 h0]
      exact ⟨[],SlR.nil _ _,SlR.nil _ _,by simp,by simp⟩
    have o1:=hbv8.one
    have ones9:(c13 bv' (discC ch).top).all (fun v=>v.oneCell')=true:=by simp [o1];rfl
    repeat (first|(refine zE (d':=9) (fun _=>rfl) rfl rfl ones9 (fun b9 w9 x9 a9 (r9:Row w9 ⟨b9,0,none⟩ (c13 bv' (discC ch).top)) hb9=>?_))|(refine st_fixV (d:=some 45) (.bool false) rfl (congrArg (fun b=>some (Value.bool (!b))) (decide_eq_true rfl)) ?_)|(first|refine go1 ?_|refine zg (fun _ _=>?_)|refine zi (fun _ _=>?_)))
    refine zC (d:=some 49) rfl (sameTxs_spec (l:=l) _ (hl1.ext x9) (hl2.ext x9) hls hll) ?_
    rintro _ w10 ⟨rfl,x10⟩
    have r10:=Row.ext x10 r9
    have x810:Ext w8 w10:=x9.trans x10
    repeat (first|refine go1 ?_|refine zg (fun _ _=>?_)|refine zi (fun _ _=>?_))
    refine st_storeN0 (b:=b6) (vs:=c13 bv' (discC ch).top) rfl rfl rfl (List.all_eq_true.1 ones9) (a46.ext (x8.trans x810)) rfl (fun w11 c11 a11=>?_)
    repeat (first|refine go1 ?_|refine zg (fun _ _=>?_)|refine zi (fun _ _=>?_))
    have dl:=disc_len hbl htop
    have x011:Ext w w11:=(Ext.chg (x06.trans (x8.trans x810)) c11).mono (fun y hy=>.inr (by simp at hy;omega))
    exact ⟨(discC ch,M',bv'),⟨rfl,rfl,rfl,rfl,rfl,trivial⟩,x011,⟨(C6.ext (x8.trans x810)).step c11 (fun y hy=>.inl hy),a11,(hbv8.ext x810).step c11 (fun y hy=>.inl (by simp at hy;simp [hy])) (fun y hy=>.inl hy),disc_bk hbk,by simp only;omega,by simp only;omega⟩⟩
   ·have r45:=Row.of_at K5.cell
    repeat (first|(refine zg (fun w6 x6=>?_))|(refine st_joinV (b:=.cons ⟨some 61,_,_⟩ _) (fun (p:Value) w'=>Ext w6 w'∧SlE entE w' p (coinsC ch.bs)) (fun p=> [(54,p),(56,tv),(60,.int .i64 (((ch.bs.length:Nat):Int)+1)),(3,.pointer (some ⟨c,0,none⟩)),(4,.pointer (some ⟨b6,0,none⟩)),(22,v'),(23,.int .i64 (S.length:Nat)),(24,.int .i64 (i:Nat))]) ?_ ?_)|(first|refine go1 ?_|refine zg (fun _ _=>?_)|refine zi (fun _ _=>?_)))
    ·repeat' (first|(refine zB ?_ ?_)|(refine zC (d:=some 54) rfl (coins13_spec (M:=M++ [b6]) ((ch.top:Nat):Int) _ (SlR.ext hbv (by exact fx)) hbk (by omega)) ?_;rintro lvv w7 ⟨hlv7,x7⟩)|(refine zG (d:=some 59) (E:=listR txR) (M:=M++ [b6]) (l:=ch.bs) rfl (SlR.ext hbv (by exact fx)) ?_)|(first|refine go1 ?_|refine zg (fun _ _=>?_)|refine zi (fun _ _=>?_)))
     all_goals exact ⟨lvv,by simp only [Has];exact ⟨rfl,rfl,rfl,rfl,rfl,rfl,rfl,rfl,trivial⟩,by exact fx,hlv7.ext (by exact fx)⟩
    rintro lvv ρ w7 ⟨x67,hlv7⟩
    rw [ek]
    have x47:Ext w4 w7:=(x5.trans x6).trans x67
    have s47:=x47.size
    refine zC (d:=some 61) rfl (made13_spec (M:=M++ [b6]) (l:=coinsC ch.bs) (zs:=a.txs) ((ch.bs.length+1:Nat):Int) _ hlv7 (coinsN_cg _ _) (coinsN_sc _ _) (htv.ext x47) (by omega) (by omega) (fun y hy=>Nat.lt_of_lt_of_le (hN y hy) s47)) ?_
    rintro vtx w8 ⟨txs,oT,htl,hmk,x8⟩
    have hT:SlR txR (M++ [b6]) w8 vtx txs:=oT.slB (fun y hy=>Nat.lt_of_lt_of_le (hN y hy) s47)
    have hbx:=BkOk.of_mk hmk htl
    have ho4:=hbx.2.1
    have x48:Ext w4 w8:=x47.trans x8
    have C8:=K4.chr.ext x48
    repeat (first|refine go1 ?_|refine zg (fun _ _=>?_)|refine zi (fun _ _=>?_))
    refine zC (d:=some 64) rfl (chconn_spec (U:= [b6]) (N:=M++ [b6]) (txs:=txs) _ C8 hT (fun y hy=>List.mem_append_left _ hy) (fun y hy=>List.mem_append_right _ hy) (fun y hy=>Nat.lt_of_lt_of_le (hN y (List.mem_append_right _ hy)) x48.size) (fun t ht=>(hmk t ht).sm) (by omega) (by omega) (by omega) (by omega)) ?_
    rintro e w9 ⟨⟨pl,E9⟩,⟨M',C9,hM9⟩,c9⟩
    have x09:Ext w w9:=(Ext.chg (x4.trans x48) c9).mono (fun y hy=>.inr (hMb y hy))
    have a9:=(K4.cell.ext x48).chg c9 (fun h=>hMo _ h (by simp))
    have hsub:∀y∈M'++ [b6],y∈M++ [b6]∨w8.heap.size≤y:=fun y hy=>by
     rcases List.mem_append.1 hy with hy|hy
     ·exact (hM9 y hy).imp (fun h=>List.mem_append_left _ h) id
     ·exact .inl (List.mem_append_right _ hy)
    have hbv9:SlR (listR txR) (M'++ [b6]) w9 bv ch.bs:=(hbv.ext x48).step c9 (fun y hy=>.inl (List.mem_append_left _ hy)) hsub
    have hT9:SlR txR (M'++ [b6]) w9 vtx txs:=hT.step c9 (fun y hy=>.inl (List.mem_append_left _ hy)) hsub
    have r9:=Row.of_at a9
    have C9l:=C9.lt
    have hok:(connE ch txs).1=0→(connE ch txs).2= -1:=fun h=>applyL_ok h
    clear C8 K5 r8 r4 r45 hT c9 x67 hlv7 x6 hvN
    repeat (first|refine go1 ?_|refine zg (fun _ _=>?_)|refine zi (fun _ _=>?_))
    refine zC (d:=some 68) rfl (conn13_spec (M:=M'++ [b6]) (txs:=txs) _ hbv9 hT9 hbk hbx (by omega) (by omega) (fun y hy=>by
     rcases List.mem_append.1 hy with hy|hy
     ·exact C9l y hy
     ·simp at hy;subst hy;exact a9.lt)) ?_
    rintro _ w10 ⟨bv',rfl,hbv10,x10⟩
    have o1:=hbv10.one
    have ones9:(c13 bv' (connC ch txs).top).all (fun v=>v.oneCell')=true:=by simp [o1];rfl
    repeat (first|(refine zE (d':=14) (fun _=>rfl) rfl rfl ones9 (fun b14 w11 x11 a11 (r11:Row w11 ⟨b14,0,none⟩ (c13 bv' (connC ch txs).top)) hb11=>?_))|(first|refine go1 ?_|refine zg (fun _ _=>?_)|refine zi (fun _ _=>?_)))
    have x911:Ext w9 w11:=x10.trans x11
    have E11:=ErrA.ext E9 x911
    have R11:=E11.errR hok
    refine zC (d:=some 73) rfl (code_spec (hg.ext (x09.trans x911)) R11) ?_
    rintro _ w12 ⟨rfl,x12⟩
    have r12:=Row.ext x12 r11
    have x912:Ext w9 w12:=x911.trans x12
    have R12:=ErrR.ext x12 R11
    have cl:=conn_len (txs:=txs) hbl htop
    have fin:∀w',Ext w9 w'→∀w'',Chg [b6] w' w''→At w'' b6 (.cells (c13 bv' (connC ch txs).top).toArray T.kedgeref13_Chain (0,0))→(Ext w10 w')→Ext w w''∧Two w.heap.size c b6 (i+1) (connC ch txs) M' bv' w'':=fun w' x' w'' c'' a'' x2=>⟨(Ext.chg (x09.trans x') c'').mono (fun y hy=>.inr (by simp at hy;omega)),(C9.ext x').step c'' (fun y hy=>.inl hy),a'',(hbv10.ext x2).step c'' (fun y hy=>.inl (by simp at hy;simp [hy])) (fun y hy=>.inl hy),conn_bk hbk hbx,by omega,by omega⟩
    have x1012:Ext w10 w12:=x11.trans x12
    generalize connE ch txs=ce at*
    obtain ⟨ce1,ce2⟩:=ce
    simp only at E11 R11 R12 hok
    by_cases h0:ce1=0
    ·obtain rfl:=E11.nilD.1 h0
     repeat (first|(refine st_fixV (d:=some 75) (.bool false) rfl (congrArg (fun b=>some (Value.bool (!b))) (decide_eq_true rfl)) ?_)|(refine st_fixV (d:=some 80) (.bool true) rfl (congrArg (fun b=>some (Value.bool b)) (decide_eq_true h0)) ?_)|(first|refine go1 ?_|refine zg (fun _ _=>?_)|refine zi (fun _ _=>?_)))
     refine zC (d:=some 85) rfl (place_spec (hg.ext (x09.trans x912)) R12) ?_
     rintro _ w13 ⟨rfl,x13⟩
     have r13:=Row.ext x13 r12
     repeat (first|(refine st_fixV (d:=some 87) (.bool false) rfl (congrArg (fun b=>some (Value.bool (!b))) (decide_eq_true rfl)) ?_)|(first|refine go1 ?_|refine zg (fun _ _=>?_)|refine zi (fun _ _=>?_)))
     refine st_storeN0 (b:=b6) (vs:=c13 bv' (connC ch txs).top) rfl rfl rfl (List.all_eq_true.1 ones9) (a9.ext (x912.trans x13)) rfl (fun w14 c14 a14=>?_)
     repeat (first|refine go1 ?_|refine zg (fun _ _=>?_)|refine zi (fun _ _=>?_))
     exact ⟨(connC ch txs,M',bv'),⟨rfl,rfl,rfl,rfl,rfl,trivial⟩,fin _ (x912.trans x13) _ c14 a14 (x1012.trans x13)⟩
    ·obtain ⟨et,eu,rfl⟩:=E11.nilD.2 h0
     repeat (first|(refine st_fixV (d:=some 75) (.bool false) rfl (congrArg (fun b=>some (Value.bool (!b))) (decide_eq_true rfl)) ?_)|(refine st_fixV (d:=some 80) (.bool false) rfl (congrArg (fun b=>some (Value.bool b)) (decide_eq_false h0)) ?_)|(first|refine go1 ?_|refine zg (fun _ _=>?_)|refine zi (fun _ _=>?_)))
     refine zC (d:=some 85) rfl (place_spec (hg.ext (x09.trans x912)) R12) ?_
     rintro _ w13 ⟨rfl,x13⟩
     have r13:=Row.ext x13 r12
     repeat (first|(refine st_fixV (d:=some 87) (.bool false) rfl (congrArg (fun b=>some (Value.bool (!b))) (decide_eq_true rfl)) ?_)|(first|refine go1 ?_|refine zg (fun _ _=>?_)|refine zi (fun _ _=>?_)))
     refine st_storeN0 (b:=b6) (vs:=c13 bv' (connC ch txs).top) rfl rfl rfl (List.all_eq_true.1 ones9) (a9.ext (x912.trans x13)) rfl (fun w14 c14 a14=>?_)
     repeat (first|refine go1 ?_|refine zg (fun _ _=>?_)|refine zi (fun _ _=>?_))
     exact ⟨(connC ch txs,M',bv'),⟨rfl,rfl,rfl,rfl,rfl,trivial⟩,fin _ (x912.trans x13) _ c14 a14 (x1012.trans x13)⟩
  ·rintro ⟨ch2,M2,bv2⟩ ρ w20 ⟨x20,K20⟩
   simp only at K20
   have hbk2:=K20.bk
   have hbl2:=K20.len
   have hbv2:=K20.bs
   have r20:=Row.of_at K20.cell
   have hcl2:(coinsC ch2.bs).length≤168:=coinsN_bnd (n:=14) hbk2 (by omega) _ (Nat.le_refl _)
   repeat (first|(refine zg (fun w21 x21=>?_))|(refine st_joinV (b:=.cons ⟨some 98,_,_⟩ _) (fun (_:Unit) w'=>Ext w21 w') (fun _=> [(96,.bool false),(97,.pointer (some ⟨c,0,none⟩)),(3,.pointer (some ⟨c,0,none⟩)),(4,.pointer (some ⟨b6,0,none⟩)),(22,v'),(23,.int .i64 (S.length:Nat)),(24,.int .i64 (i:Nat))]) ?_ ?_)|(first|refine go1 ?_|refine zg (fun _ _=>?_)|refine zi (fun _ _=>?_)))
   ·repeat' (first|(refine zB ?_ ?_)|(refine zC (d:=some 91) rfl (chheight_spec _ (K20.chr.ext (by exact fx))) ?_;rintro _ w22 ⟨rfl,x22⟩)|(refine zG (d:=some 94) (E:=listR txR) (M:=M2++ [b6]) (l:=ch2.bs) rfl (SlR.ext hbv2 (by exact fx)) ?_)|(refine st_fixV (d:=some 95) (.bool false) rfl (congrArg (fun b=>some (Value.bool (!b))) (decide_eq_true rfl)) ?_)|(first|refine go1 ?_|refine zg (fun _ _=>?_)|refine zi (fun _ _=>?_)))
    all_goals exact ⟨(),by simp only [Has];exact ⟨rfl,rfl,rfl,rfl,rfl,rfl,rfl,trivial⟩,by exact fx⟩
   rintro _ ρ w23 x2123
   have x2023:Ext w20 w23:=x21.trans x2123
   have r23:=Row.ext x2023 r20
   repeat (first|refine go1 ?_|refine zg (fun _ _=>?_)|refine zi (fun _ _=>?_))
   refine zC (d:=some 99) rfl (coins13_spec (M:=M2++ [b6]) ((ch2.top:Nat):Int) _ (hbv2.ext x2023) hbk2 (by omega)) ?_
   rintro lvv w24 ⟨hlv,x24⟩
   have K24:=K20.ext (x2023.trans x24)
   repeat (first|refine go1 ?_|refine zg (fun _ _=>?_)|refine zi (fun _ _=>?_))
   refine zC (d:=some 100) rfl (same13_spec _ K24.chr hlv (coinsN_cg _ _) (by omega)) ?_
   rintro _ w25 ⟨rfl,x25⟩
   repeat (first|refine go1 ?_|refine zg (fun _ _=>?_)|refine zi (fun _ _=>?_))
   exact ⟨(i+1,ch2,M2,bv2),⟨rfl,rfl,rfl,rfl,rfl,trivial⟩,⟨x20.trans (x2023.trans (x24.trans x25)),by simp only;omega,K24.ext x25⟩,by simp only;omega⟩
 ·repeat (first|refine go1 ?_|refine zg (fun _ _=>?_)|refine zi (fun _ _=>?_))
  refine zC (d:=some 104) rfl (wakes13_spec _) ?_
  rintro _ w5 ⟨rfl,x5⟩
  repeat (first|refine go1 ?_|refine zg (fun _ _=>?_)|refine zi (fun _ _=>?_))
  exact x_ret rfl ⟨rfl,x4.trans x5⟩
end Go.Proofs.YtbidkcjendncaaaGreatDoor
end
