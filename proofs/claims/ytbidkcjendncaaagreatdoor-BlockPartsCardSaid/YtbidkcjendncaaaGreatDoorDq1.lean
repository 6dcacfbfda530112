/- What is needed beyond the others. -/
import Derived.WalkKit
import Derived.Orders
import Derived.Still
import Derived.Laws.IdiomStrings
import Derived.Laws.BytesString
import Derived.Below
import Derived.Sort.Grow
import Derived.Deep.Draws
import Derived.Lib.OthersKept
import Derived.Lib.Bytealg
import Derived.Test.YtbidkcjendncaaaGreatDoorProg
import Derived.KernelRfl
import Derived.Shelf.Strings.Builder1
import Derived.Shelf.Strings.Builder2
import Derived.Shelf.Small.Strs
import Derived.Shelf.Strings.BuilderF
import Derived.Shelf.Strings.BuilderK
import Derived.Shelf.Strings.Prefix
import Derived.Shelf.Bits.Mul64
import Derived.Shelf.Strings.Repeat
import Derived.Ground.Names2Prog
import Derived.Ground.SlgnProg
import Derived.Ground.SlgfProg
import Derived.Ground.SlmcProg
import Derived.Shelf.SlMaps.Clone
import Derived.Shelf.SlicesE.DeleteFunc
import Derived.Shelf.Spec.SlicesGrow
import Derived.Shelf.SlSortCmp.WholeK
import Derived.Shelf.SlSortCmp.NoneTotal
import Derived.Ground.SlsfProg
import Derived.RowKit
import Derived.OpenShut
import Derived.Deep.Slices
import Derived.ChangeSame
import Derived.Ground.NamesProg
import Derived.Test.YtbidkcjendncaaaGreatDoorChecked
import Derived.LaidEql
import Derived.Lib.IfaceEq
import Derived.Stop.Asserts
import Derived.RowKitTokens
import Derived.Test.YtbidkcjendncaaaGreatDoorRows
import Derived.ProofKit
import Derived.ShutString
import Derived.ChangeOld
import Derived.ChangeVars
import Derived.JoinedOf
import Derived.LaidLaws
import Derived.LaidHandle
import Derived.Stop.Joined
import Derived.Test.YtbidkcjendncaaaGreatDoorDa30
set_option linter.unusedVariables false
set_option linter.unusedSimpArgs false
section
namespace Go.Proofs.YtbidkcjendncaaaGreatDoor
open Go Go.K
namespace F
abbrev kedgelaw12_BlockParts:Nat:=8
abbrev errors_Is:Nat:=32
end F
namespace T
end T
@[reducible] def oF (d:Nat) (i a:Nat) (k:KR):KR:=.cons ⟨some d,.fieldAddr i (t a),none⟩ k
end Go.Proofs.YtbidkcjendncaaaGreatDoor
end
section
namespace Go.Proofs.YtbidkcjendncaaaGreatDoor
open Go Go.K
noncomputable def k_kedgelaw12_BlockParts:KC:=kS Tryz.prog [(19,.l [0,1,2,3,4,5,6,7,8,9,10,11,12,13,14,15,16]),(28,.l [0,1,2,3,4,5,6,7,8,9,10,11,12])] [(28011,.eqAgg true [.s,.i,.i,.s,.i] (t 155) (t 159))] (bodyOf Tryz.f8)
theorem s_kedgelaw12_BlockParts:CS 164 k_kedgelaw12_BlockParts [.tmp 4] F.kedgelaw12_BlockParts:=cs Tryz.func8 (by kernel_rfl) (by kernel_rfl)
end Go.Proofs.YtbidkcjendncaaaGreatDoor
end
section
namespace Go.Proofs.YtbidkcjendncaaaGreatDoor
open Go Go.RowKit Go.Extern.Stop Go.Stop Go.Extern
set_option maxRecDepth 20000 in
theorem is_nil (b:Int) (w:World):
  Calls Tryz.prog 32 #[.nilIface,.iface 40 (.int .i64 b)] w fun e w'=>e=.returned (.bool false)∧w'=w:=by
 have hn:=run_eql_iface_nil_left (P:=Tryz.prog) w 40 (.int .i64 b) Tryz.underlying35
 go_enter Tryz.func32,Tryz.ntmps32
 go_wp2
 go_ret
 exact ⟨rfl,rfl⟩
theorem errIs_nil (b:Int) (w:World):K.Spec Tryz.prog 32 [.nilIface,.iface 40 (.int .i64 b)] w fun v w'=>v=.bool false∧w'=w:=
 Calls.mono (is_nil b w) fun _ _ h=>⟨_,h.1,rfl,h.2⟩
end Go.Proofs.YtbidkcjendncaaaGreatDoor
end
section
namespace Go.Proofs.YtbidkcjendncaaaGreatDoor
open Go Go.RowKit Go.Extern.Stop Go.Stop Go.Extern
set_option maxRecDepth 20000 in
theorem is_fault2 (a:Int) (b1 b2:Nat) (w:World) (hc1:w.cell? ⟨b1,1,none⟩=some (.iface 136 (.pointer (some ⟨b2,0,none⟩)))) (hc2:w.cell? ⟨b2,1,none⟩=some (.iface 40 (.int .i64 a))):
  Calls Tryz.prog 32 #[.iface 136 (.pointer (some ⟨b1,0,none⟩)),.iface 40 (.int .i64 a)] w fun e w'=>e=.returned (.bool true)∧w'=w:=by
 have h8:=@run_callFunc_extern Tryz.prog 72 _ Extern.ReflectliteType.typeOf Tryz.func72 (by kernel_rfl) (by kernel_rfl) (by kernel_rfl) (by kernel_rfl)
 have h32:=@run_callFunc_extern Tryz.prog 324 _ (Extern.ReflectliteType.method fun t=>do Extern.Rtype.noPackHeld "Comparable" t;pure (.bool (←typeInfo t).comparable)) Tryz.func324 (by kernel_rfl) (by kernel_rfl) (by kernel_rfl) (by kernel_rfl)
 have tT:=isTypeOf
 have cT:=isComparable
 have mR:=isMethodComparable
 have heq:=Go.Lib.run_eql_iface_int (P:=Tryz.prog) w (t:=35) (tx:=40) (k:=.i64) (q:=.i64) a a Tryz.underlying35 (by kernel_rfl) Tryz.underlying40
 have hne:=run_eql_iface_types (P:=Tryz.prog) (ti:=35) 136 40 (.pointer (some ⟨b1,0,none⟩)) (.int .i64 a) Tryz.underlying35 (by decide) w
 have hne2:=run_eql_iface_types (P:=Tryz.prog) (ti:=35) 136 40 (.pointer (some ⟨b2,0,none⟩)) (.int .i64 a) Tryz.underlying35 (by decide) w
 have nF:=noIsF
 have uF:=unwrapF
 have mU:=asMUnwrap
 go_enter Tryz.func32,Tryz.ntmps32
 go_wp2
 refine wp_loop_rounds 3 ?_
 rw [rounds_succ]
 go_wp2
 rw [rounds_succ]
 go_wp2
 rw [rounds_succ]
 go_wp2
 go_ret
 exact ⟨rfl,rfl⟩
theorem errIs_fault2 (a:Int) (b1 b2:Nat) (w:World) (hc1:w.cell? ⟨b1,1,none⟩=some (.iface 136 (.pointer (some ⟨b2,0,none⟩)))) (hc2:w.cell? ⟨b2,1,none⟩=some (.iface 40 (.int .i64 a))):K.Spec Tryz.prog 32 [.iface 136 (.pointer (some ⟨b1,0,none⟩)),.iface 40 (.int .i64 a)] w fun v w'=>v=.bool true∧w'=w:=
 Calls.mono (is_fault2 a b1 b2 w hc1 hc2) fun _ _ h=>⟨_,h.1,rfl,h.2⟩
end Go.Proofs.YtbidkcjendncaaaGreatDoor
end
section
namespace Go.K
open Go Go.Proofs.YtbidkcjendncaaaGreatDoor
theorem less_self (l:List En) (h:(l.map (·.1)).Nodup):lessL l l= []:=by
 unfold lessL
 rw [List.filter_eq_nil_iff]
 intro e he
 have:=(mem_iff_aget h).1 he
 simp [this]
theorem oneL_at {m:List En} {t:Tx} {i:Nat} {h:Int} (hb:¬(0<i∧grantB t=true)):oneL m t i h=oneL m t 0 h:=by
 have:mayL m t i h=mayL m t 0 h:=by
  unfold mayL
  by_cases hg:grantB t=true
  ·have hi:i=0:=by
    cases i with
    |zero=>rfl
    |succ n=>exact absurd ⟨Nat.succ_pos n,hg⟩ hb
   rw [hi]
  ·rw [if_neg hg,if_neg hg]
 unfold oneL
 rw [this]
theorem one_grant {m:List En} {t:Tx} {i:Nat} {h:Int} (hi:0<i) (hb:grantB t=true):(oneL m t i h).2.1≠0:=by
 intro h0
 have h1:=(one_zero h0).1
 have hc:=may_check h1
 unfold mayL at h1
 rw [if_pos hb,if_neg (by rw [hc];decide),if_pos (.inl hi)] at h1
 exact absurd h1 (by decide)
theorem apply_single (m:List En) (t:Tx):applyL m [t] 2=if (oneL m t 0 2).2.1≠0 then (m,(oneL m t 0 2).2.1,0,(oneL m t 0 2).2.2) else ((oneL m t 0 2).1,0, -1, -1):=by
 unfold applyL
 rw [if_neg (by decide)]
 unfold runL
 split
 ·rfl
 ·rfl
theorem apply_run (m:List En) (txs:List Tx):applyL m txs 2=runL m 2 0 txs m:=by
 unfold applyL
 rw [if_neg (by decide)]
end Go.K
namespace Go.Proofs.YtbidkcjendncaaaGreatDoor
open Go Go.K
theorem set_off {w:World} {b mb x:Nat} {m:List En} {t:TypeId} {n:Int} {u:Value} (hS:SetP t w b mb m) (h4:At w x (.cells [.int .i64 n,u].toArray T.api_Fault (0,0))) (hu:∃t v,u=.iface t v):x∉ [b,mb]:=by
 obtain ⟨_,_,_,hE⟩:=hS
 obtain ⟨tu,vu,rfl⟩:=hu
 have hcell:=at_cell (o:=1) h4 rfl
 intro hm
 simp only [List.mem_cons,List.not_mem_nil,or_false] at hm
 rcases hm with hm|hm
 ·have:=cell_in hE.1 hm hcell
  simp at this
 ·obtain ⟨es,ck,h3, -⟩:=hE.2.1
  unfold World.cell? at hcell
  unfold At at h3
  rw [hm,h3] at hcell
  simp at hcell
theorem ErrR.offS {w w':World} {b mb:Nat} {m:List En} {t:TypeId} (hS:SetP t w b mb m) (cc:Chg [b,mb] w w'):∀{d:Nat} {v:Value} {c a:Int},ErrR w d v c a→ErrR w' d v c a
 |0,_,_,_,h=>h
 |_+1,_,_,_,.inl h=>.inl (ErrR.offS hS cc h)
 |_+1,_,_,_,.inr ⟨h1,h2,b,u,a',h3,h4,h5⟩=>.inr ⟨h1,h2,b,u,a',h3,h4.chg cc (set_off hS h4 (h5.nil_iff.2 h1)),ErrR.offS hS cc h5⟩
theorem ErrA.offS {w w':World} {b mb:Nat} {m:List En} {t:TypeId} (hS:SetP t w b mb m) (cc:Chg [b,mb] w w') {v:Value} {c a i:Int} (h:ErrA w v c a i):ErrA w' v c a i:=by
 rcases h with h|⟨h1,h|⟨h2,x,u,h3,h4,h5⟩⟩
 ·exact .inl h
 ·exact .inr ⟨h1,.inl h⟩
 ·exact .inr ⟨h1,.inr ⟨h2,x,u,h3,h4.chg cc (set_off hS h4 (h5.nil_iff.2 h1)),ErrR.offS hS cc h5⟩⟩
attribute [local irreducible] regK codeK retK KOp.wp K.Spec EtR
theorem isF_spec {w:World} {v:Value} {c i:Int} (h0:c≠0) (h:ErrA w v c 0 i):K.Spec Tryz.prog F.errors_Is [v,.iface T.api_Errno (.int .i64 c)] w fun r w'=>r=.bool true∧w'=w:=by
 rcases h with ⟨h1, -⟩|⟨-,⟨-,h2, -⟩|⟨-,b,u,rfl,h4,h5⟩⟩
 ·exact absurd h1 h0
 ·exact absurd h2 (by decide)
 ·rcases h5 with h5|⟨-, -,b2,u2,a2,rfl,hb2,h6⟩
  ·obtain rfl:=err_num h5 h0
   exact errIs_fault1 c b w (at_cell (o:=1) h4 rfl)
  ·obtain rfl:=err_num h6 h0
   exact errIs_fault2 c b b2 w (at_cell (o:=1) h4 rfl) (at_cell (o:=1) hb2 rfl)
def PartsJ (n:List En) (c:Int) (l1:List En) (f:Value) (w:World):Prop:=l1.length≤200∧(c=0∧f=.nilIface∧l1=n∨c≠0∧∃i,ErrA w f c 0 i)
attribute [local irreducible] u32 leS vnS str zero32 checkT grantB applyL encT idT sizeT lessL oneL runL
set_option maxHeartbeats 16000000 in
set_option maxRecDepth 4000 in
theorem blockParts_law {va vz:Value} {ls zs:List BSm} (w:World) (hg:EtR w) (ha:SlR bsmR [] w va ls) (hz:SlR bsmR [] w vz zs):K.Spec Tryz.prog F.kedgelaw12_BlockParts [va,vz] w fun r w'=>r=.bool true∧Ext w w':=by
 refine s_kedgelaw12_BlockParts rfl ?_
 unfold k_kedgelaw12_BlockParts
 refine oy ?_
 repeat (first|refine go1 ?_|refine zg (fun _ _=>?_)|refine zi (fun _ _=>?_))
 refine zC (d:=some 25) rfl (pnew_spec _) ?_
 rintro _ w1 ⟨b,mb,rfl,S1,hb1,hb2,x1⟩
 have hMb:∀y∈ [b,mb],w.heap.size≤y:=fun y hy=>by simp at hy;rcases hy with rfl|rfl;exact hb1;exact hb2
 have hM1:∀y∈ [b,mb],y<w1.heap.size:=fun y hy=>by simp at hy;rcases hy with rfl|rfl;exact S1.lt.1;exact S1.lt.2
 have ha1:SlR bsmR [b,mb] w1 va ls:=ha.step x1 (by simp) (fun y hy=>.inr (hMb y hy))
 repeat (first|refine go1 ?_|refine zg (fun _ _=>?_)|refine zi (fun _ _=>?_))
 refine zC (d:=some 27) rfl (made12b_spec (M:= [b,mb]) (l:= []) (zs:=ls) 1 _ (SlE.nil _) CG.nil SC.nil ha1 (by simp) (by omega) hM1) ?_
 rintro vf w2 ⟨fs,oF,hfl,hfk,x2⟩
 have hF:SlR txR [b,mb] w2 vf fs:=oF.slB hM1
 have hfsm:∀t∈fs,t.Sm:=fun t ht=>(hfk t ht).sm
 have hfou:=outsB_mk5 hfk hfl
 repeat (first|refine go1 ?_|refine zg (fun _ _=>?_)|refine zi (fun _ _=>?_))
 refine zC (d:=some 31) rfl (bapply_spec (M:= [b,mb]) (txs:=fs) (l:= []) 1 _ (S1.ext x2) CG.nil SC.nil (by simp) (by simp) (fun y hy=>Nat.lt_of_lt_of_le (hM1 y hy) x2.size) hF hfsm (by simp;omega) (by omega)) ?_
 rintro _ w3 ⟨sv1,mv1,e1,rfl,E3,S3,hA1,hB1,c3⟩
 have x03:Ext w w3:=(Ext.chg (x1.trans x2) c3).mono (fun y hy=>.inr (hMb y hy))
 have s2:=x2.size
 have hM3:∀y∈ [b,mb],y<w3.heap.size:=fun y hy=>Nat.lt_of_lt_of_le (hM1 y hy) (Nat.le_trans s2 c3.size)
 have hF3:SlR txR [b,mb] w3 vf fs:=hF.step c3 (fun y hy=>.inl hy) (fun y hy=>.inl hy)
 have o12:sv1.oneCell'=true∧mv1.oneCell'=true:=by
  by_cases h0:(applyL [] fs 1).2.1=0
  ·obtain ⟨h1,h2, -⟩:=hA1 h0
   obtain ⟨_,_,q⟩:=h1.form
   obtain ⟨_,_,q2⟩:=h2.form
   rw [q,q2];exact ⟨rfl,rfl⟩
  ·obtain ⟨rfl,rfl⟩:=hB1 h0;exact ⟨rfl,rfl⟩
 have ones1:([sv1,mv1]:List Value).all (fun v=>v.oneCell')=true:=by simp [o12.1,o12.2]
 have gm:=applyL_cg CG.nil fs 1
 have scm:=applyL_sc CG.nil SC.nil fs 1
 have ml:=applyL_len CG.nil fs 1
 repeat (first|(refine zE (d':=7) (fun _=>rfl) rfl rfl ones1 (fun b7 w4 x4 a4 (r4:Row w4 ⟨b7,0,none⟩ [sv1,mv1]) hb7=>?_))|(first|refine go1 ?_|refine zg (fun _ _=>?_)|refine zi (fun _ _=>?_)))
 have x04:=x03.trans x4
 by_cases h01:(applyL [] fs 1).2.1=0
 ·obtain rfl:=E3.nilD.1 h01
  repeat (first|refine go1 ?_|refine zg (fun _ _=>?_)|refine zi (fun _ _=>?_))
  refine zC (d:=some 39) rfl (apply12_spec (M:= [b,mb]) (l:= []) (txs:=fs) 1 _ (SlE.nil _) CG.nil SC.nil (hF3.ext x4) hfsm (by simp;omega) (by omega)) ?_
  rintro _ w5 ⟨vl,rfl,hvl,x5⟩
  have x35:Ext w3 w5:=x4.trans x5
  have x05:=x04.trans x5
  have S5:=S3.ext x35
  have hml:(applyL [] fs 1).1.length≤15:=by simp at ml;omega
  have hM5:∀y∈ [b,mb],y<w5.heap.size:=fun y hy=>Nat.lt_of_lt_of_le (hM3 y hy) x35.size
  have hz5:SlR bsmR [b,mb] w5 vz zs:=hz.step x05 (by simp) (fun y hy=>.inr (hMb y hy))
  clear E3 hA1 hB1 x1 x2 x4 x5 a4 r4 ml hF oF hF3 c3 hfk S1 S3 ha1
  generalize (applyL [] fs 1).1=m at*
  generalize (applyL [] fs 1).2.1=k1 at*
  generalize (applyL [] fs 1).2.2.1=k2 at*
  generalize (applyL [] fs 1).2.2.2=k3 at*
  repeat (first|refine go1 ?_|refine zg (fun _ _=>?_)|refine zi (fun _ _=>?_))
  refine zC (d:=some 46) rfl (made12b_spec (M:= [b,mb]) (l:=m) (zs:=zs) 2 _ hvl gm scm hz5 (by omega) (by omega) hM5) ?_
  rintro vtx w6 ⟨txs,oT,htl,hmk,x6⟩
  have hT6:SlR txR [b,mb] w6 vtx txs:=oT.slB hM5
  have hsm:∀t∈txs,t.Sm:=fun t ht=>(hmk t ht).sm
  have hou:=outsB_mk5 hmk htl
  repeat (first|refine go1 ?_|refine zg (fun _ _=>?_)|refine zi (fun _ _=>?_))
  refine zC (d:=some 48) rfl (pcopy_spec _ (S5.ext x6)) ?_
  rintro _ w7 ⟨b',mb',rfl,C7,hb1',hb2',x7⟩
  have S7:=(S5.ext x6).ext x7
  have hM7:∀y∈ [b,mb],y<w6.heap.size:=fun y hy=>Nat.lt_of_lt_of_le (hM5 y hy) x6.size
  obtain ⟨M,hMdef⟩:∃M,M= [b,mb,b',mb']:=⟨_,rfl⟩
  have hbM:b∈M:=by rw [hMdef];simp
  have hmbM:mb∈M:=by rw [hMdef];simp
  have hb'M:b'∈M:=by rw [hMdef];simp
  have hmb'M:mb'∈M:=by rw [hMdef];simp
  have hMw:∀y∈M,w.heap.size≤y:=fun y hy=>by
   have s05:=x05.size
   have s6:=x6.size
   rw [hMdef] at hy;simp at hy
   rcases hy with rfl|rfl|rfl|rfl
   ·exact hb1
   ·exact hb2
   ·omega
   ·omega
  have hML:∀y∈M,y<w7.heap.size:=fun y hy=>by
   rw [hMdef] at hy;simp at hy
   rcases hy with rfl|rfl|rfl|rfl
   ·exact S7.lt.1
   ·exact S7.lt.2
   ·exact C7.lt.1
   ·exact C7.lt.2
  have n1:b'∉ [b,mb]:=fun h=>by have:=hM7 _ h;omega
  have n2:mb'∉ [b,mb]:=fun h=>by have:=hM7 _ h;omega
  have n3:b∉ [b',mb']:=fun h=>by simp at h n1 n2;rcases h with h|h;exact n1.1 h.symm;exact n2.1 h.symm
  have n4:mb∉ [b',mb']:=fun h=>by simp at h n1 n2;rcases h with h|h;exact n1.2 h.symm;exact n2.2 h.symm
  have hT7:SlR txR M w7 vtx txs:=hT6.step x7 (by simp) (fun y hy=>by
   rw [hMdef] at hy;simp at hy
   rcases hy with rfl|rfl|rfl|rfl
   ·exact .inl (by simp)
   ·exact .inl (by simp)
   ·exact .inr hb1'
   ·exact .inr hb2')
  clear hT6 oT hz5 hvl
  repeat (first|refine go1 ?_|refine zg (fun _ _=>?_)|refine zi (fun _ _=>?_))
  refine zC (d:=some 52) rfl (bapply_spec (M:=M) (txs:=txs) (l:=m) 2 _ S7 gm scm hbM hmbM hML hT7 hsm (by omega) (by omega)) ?_
  rintro _ w8 ⟨sv,mv,e,rfl,E8,S8,hA,hB,c8⟩
  have C8:=C7.chg c8 n1 n2
  have hT8:SlR txR M w8 vtx txs:=hT7.step c8 (fun y hy=>.inl (by simp at hy;rcases hy with rfl|rfl;exact hbM;exact hmbM)) (fun y hy=>.inl hy)
  have x07:Ext w w7:=(x05.trans x6).trans x7
  have x08:Ext w w8:=(Ext.chg x07 c8).mono (fun y hy=>.inr (hMb y hy))
  have hML8:∀y∈M,y<w8.heap.size:=fun y hy=>Nat.lt_of_lt_of_le (hML y hy) c8.size
  have gn:=applyL_cg gm txs 2
  have scn:=applyL_sc gm scm txs 2
  have nl:=applyL_len gm txs 2
  have o34:sv.oneCell'=true∧mv.oneCell'=true:=by
   by_cases h0:(applyL m txs 2).2.1=0
   ·obtain ⟨h1,h2, -⟩:=hA h0
    obtain ⟨_,_,q⟩:=h1.form
    obtain ⟨_,_,q2⟩:=h2.form
    rw [q,q2];exact ⟨rfl,rfl⟩
   ·obtain ⟨rfl,rfl⟩:=hB h0;exact ⟨rfl,rfl⟩
  have ones2:([sv,mv]:List Value).all (fun v=>v.oneCell')=true:=by simp [o34.1,o34.2]
  have hmv0:(applyL m txs 2).2.1≠0→mv=.slice none 0 0:=fun h=>(hB h).2
  have hbad:(applyL m txs 2).2.1=0→(applyL m txs 2).2.2.1= -1:=fun h=>applyL_ok h
  have eR:=apply_run m txs
  clear hA hB x6 x7 S7 C7 hT7 S5 c8 x05 x35
  have hou15:outsB txs≤15:=hou
  repeat (first|(refine zE (d':=15) (fun _=>rfl) rfl rfl ones2 (fun b15 w9 x9 a9 (r9:Row w9 ⟨b15,0,none⟩ [sv,mv]) hb15=>?_))|(refine c_cutV (a:=.seq (.reg false (.cons ⟨some 55,_,none⟩ _)) _) (fun (p:List En × Value) w'=>Chg [b',mb'] w9 w'∧SetP T.coins_Set w' b' mb' p.1∧PartsJ (applyL m txs 2).1 (applyL m txs 2).2.1 p.1 p.2 w') (fun p=> [(5,.pointer (some ⟨b,0,none⟩)),(14,.pointer (some ⟨b',0,none⟩)),(15,.pointer (some ⟨b15,0,none⟩)),(16,e),(17,p.2)]) ?_ ?_)|(first|refine go1 ?_|refine zg (fun _ _=>?_)|refine zi (fun _ _=>?_)))
  ·have l9:=a9.lt
   have nb15:b15∉M:=fun h=>by have:=hML8 _ h;omega
   have S9:=S8.ext x9
   have C9:=C8.ext x9
   have hT9:=hT8.ext x9
   have E9:=E8.ext x9
   have x09:=x08.trans x9
   have hML9:∀y∈M,y<w9.heap.size:=fun y hy=>Nat.lt_of_lt_of_le (hML8 y hy) x9.size
   clear S8 C8 hT8 E8 x9 x08 a9
   repeat (first|(refine zG (d:=some 56) (E:=txR) (M:=M) (l:=txs) rfl hT9 ?_)|(first|refine go1 ?_|refine zg (fun _ _=>?_)|refine zi (fun _ _=>?_)))
   refine c_loopV (fun (p:Nat × List En) w'=>Chg [b',mb'] w9 w'∧p.1≤txs.length∧SetP T.coins_Set w' b' mb' p.2∧runOk m 2 txs p.1 p.2∧CG p.2∧SC p.2∧p.2.length≤15+3*p.1) (fun p=> [(5,.pointer (some ⟨b,0,none⟩)),(14,.pointer (some ⟨b',0,none⟩)),(15,.pointer (some ⟨b15,0,none⟩)),(16,e),(17,.nilIface),(55,vtx),(56,.int .i64 (txs.length:Nat)),(57,.int .i64 (p.1:Nat))]) (fun p=>txs.length - p.1) (0,m) ⟨rfl,rfl,rfl,rfl,rfl,rfl,rfl,rfl,trivial⟩ ⟨Chg.refl _ _,by simp,C9,runOk_zero,gm,scm,by simp only;omega⟩ ?_
   rintro ⟨i,l1⟩ ρ w10 ⟨c10,hi,C10,hr,g1,sc1,ll⟩
   simp only at hi C10 hr g1 sc1 ll
   dsimp only
   have x010:Ext w w10:=(Ext.chg x09 c10).mono (fun y hy=>.inr (by simp at hy;rcases hy with rfl|rfl;exact hMw _ hb'M;exact hMw _ hmb'M))
   have hT10:SlR txR M w10 vtx txs:=hT9.step c10 (fun y hy=>.inl (by simp at hy;rcases hy with rfl|rfl;exact hb'M;exact hmb'M)) (fun y hy=>.inl hy)
   have hML10:∀y∈M,y<w10.heap.size:=fun y hy=>Nat.lt_of_lt_of_le (hML9 y hy) c10.size
   repeat (first|refine go1 ?_|refine zg (fun _ _=>?_)|refine zi (fun _ _=>?_))
   refine zL (x:=.tmp 58) (p:=((i:Nat):Int)<((txs.length:Nat):Int)) rfl (fun h5=>?_) (fun h5=>?_)
   ·have hil:i<txs.length:=by omega
    have hmt:=hmk _ (List.getElem_mem hil)
    have hmo:=hmt.outs
    have hbad1:∀h:(oneL l1 txs[i] i 2).2.1≠0,applyL m txs 2=(m,(oneL l1 txs[i] i 2).2.1,((i:Nat):Int),(oneL l1 txs[i] i 2).2.2):=fun h=>eR.trans (runOk_bad hil hr h)
    have hnx:=fun h=>runOk_next hil hr h
    have gx:=oneL_cg g1 txs[i] i 2
    have scx:=oneL_sc g1 sc1 txs[i] i 2
    have lx:=oneL_len g1 txs[i] i 2
    obtain ⟨t,ht⟩:∃t,t=txs[i]:=⟨_,rfl⟩
    rw [←ht] at hmt hmo hbad1 hnx gx scx lx
    repeat (first|(refine st_elemR (d:=some 60) (E:=txR) (M:=M) rfl rfl (n:=i) (l:=txs) hT10 rfl hil (fun ad cs r11 he=>?_);rw [←ht] at he;have ones:=txR.one he;obtain ⟨iv,ov,rfl, -⟩:=id he)|(refine st_local2 (d':=19) (e:=18) (fun _=>rfl) (fun _=>rfl) rfl rfl rfl (List.all_eq_true.2 ones) (fun b19 w11 x11 a19 (r19:Row w11 ⟨b19,0,none⟩ (txCs t iv ov)) hb19=>?_))|(refine c_cutV (a:=.seq (.reg false (.cons ⟨some 62,_,none⟩ _)) _) (fun (_:Unit) w'=>Ext w11 w'∧¬(0<i∧grantB t=true)) (fun _=> [(5,.pointer (some ⟨b,0,none⟩)),(14,.pointer (some ⟨b',0,none⟩)),(15,.pointer (some ⟨b15,0,none⟩)),(16,e),(17,.nilIface),(55,vtx),(56,.int .i64 (txs.length:Nat)),(57,.int .i64 (i:Nat)),(19,.pointer (some ⟨b19,0,none⟩))]) ?_ ?_)|(first|refine go1 ?_|refine zg (fun _ _=>?_)|refine zi (fun _ _=>?_)))
    ·have he11:txR.rel M w11 (txCs t iv ov) t:=R.ext he x11
     refine g_split (p:=(0:Int)<((i:Nat):Int)) rfl (fun hp=>?_) (fun hp=>?_)
     ·have hpos:0<i:=by omega
      repeat (first|refine go1 ?_|refine zg (fun _ _=>?_)|refine zi (fun _ _=>?_))
      refine zC (d:=some 66) rfl (tbase_spec (M:=M) (cs:=txCs t iv ov) (t:=t) _ he11 hmt.sm) ?_
      rintro _ w12 ⟨rfl,x12⟩
      cases hgr:grantB t with
      |true=>
       have hone:=one_grant (m:=l1) (h:=2) hpos hgr
       have h0:(applyL m txs 2).2.1≠0:=by rw [hbad1 hone];exact hone
       obtain ⟨et,eu,rfl⟩:=E9.nilD.2 h0
       repeat (first|refine go1 ?_|refine zg (fun _ _=>?_)|refine zi (fun _ _=>?_))
       refine zC (d:=some 68) rfl (wakes12_spec _ (hg.ext (x010.trans (x11.trans x12)))) ?_
       rintro _ w13 ⟨rfl,x13⟩
       repeat (first|refine go1 ?_|refine zg (fun _ _=>?_)|refine zi (fun _ _=>?_))
       simp only [blockK,thenK,loopK]
       exact x_ret rfl ⟨rfl,(x010.trans (x11.trans x12)).trans x13⟩
      |false=>
       repeat (first|refine go1 ?_|refine zg (fun _ _=>?_)|refine zi (fun _ _=>?_))
       exact ⟨(),⟨rfl,rfl,rfl,rfl,rfl,rfl,rfl,rfl,rfl,trivial⟩,x12,fun h=>by have:=h.2;cases this⟩
     ·repeat (first|refine go1 ?_|refine zg (fun _ _=>?_)|refine zi (fun _ _=>?_))
      exact ⟨(),⟨rfl,rfl,rfl,rfl,rfl,rfl,rfl,rfl,rfl,trivial⟩,Ext.refl _,fun h=>hp (by have:=h.1;omega)⟩
    ·rintro _ ρ2 w12 ⟨x12,hng⟩
     have hs:=apply_single l1 t
     rw [←oneL_at hng] at hs
     have r12:=Row.ext x12 r19
     have he12:txR.rel M w12 (txCs t iv ov) t:=R.ext (R.ext he x11) x12
     have hML12:∀y∈M,y<w12.heap.size:=fun y hy=>Nat.lt_of_lt_of_le (hML10 y hy) (Nat.le_trans x11.size x12.size)
     repeat (first|(refine zI (d:=some 76) (cs:=txCs t iv ov) rfl (fun b76 w13 x13 a13 hb13=>?_))|(first|refine go1 ?_|refine zg (fun _ _=>?_)|refine zi (fun _ _=>?_)))
     have x1013:Ext w10 w13:=x11.trans (x12.trans x13)
     have t13:SlR txR M w13 (.slice (some ⟨b76,0,none⟩) 1 1) [t]:=SlR.one1 (E:=txR) a13 (R.ext he12 x13) (fun h=>by have:=hML12 _ h;omega)
     refine zC (d:=some 77) rfl (bapply_spec (b:=b') (mb:=mb') (M:=M) (txs:= [t]) (l:=l1) 2 _ (C10.ext x1013) g1 sc1 hb'M hmb'M (fun y hy=>Nat.lt_of_lt_of_le (hML10 y hy) x1013.size) t13 (by simp;exact hmt.sm) (by simp [outsB];omega) (by simp)) ?_
     rintro _ w14 ⟨sv2,mv2,e2,rfl,E14,C14, -, -,c14⟩
     have c914:Chg [b',mb'] w9 w14:=(c10.trans (Chg.trans x1013 c14)).mono (by simp)
     rw [hs] at E14 C14
     by_cases hone:(oneL l1 t i 2).2.1=0
     ·rw [if_neg (fun h=>h hone)] at E14 C14
      obtain rfl:=E14.nilD.1 rfl
      repeat (first|refine go1 ?_|refine zg (fun _ _=>?_)|refine zi (fun _ _=>?_))
      exact ⟨(i+1,(oneL l1 t i 2).1),⟨rfl,rfl,rfl,rfl,rfl,rfl,rfl,rfl,trivial⟩,⟨c914,by simp only;omega,C14,hnx hone,gx,scx,by simp only;omega⟩,by simp only;omega⟩
     ·rw [if_pos hone] at E14 C14
      simp only at E14 C14
      obtain ⟨et2,eu2,rfl⟩:=E14.nilD.2 hone
      repeat (first|refine go1 ?_|refine zg (fun _ _=>?_)|refine zi (fun _ _=>?_))
      refine ⟨(l1,.iface et2 eu2),⟨rfl,rfl,rfl,rfl,rfl,trivial⟩,c914,C14,by simp only;omega,.inr ⟨?_,(oneL l1 t i 2).2.2,?_⟩⟩
      ·rw [hbad1 hone];exact hone
      ·rw [hbad1 hone];exact E14
   ·have hie:txs.length≤i:=by omega
    have hend:=eR.trans (runOk_end hie hr)
    repeat (first|refine go1 ?_|refine zg (fun _ _=>?_)|refine zi (fun _ _=>?_))
    refine ⟨(l1,.nilIface),⟨rfl,rfl,rfl,rfl,rfl,trivial⟩,c10,C10,by simp only;omega,.inl ⟨?_,rfl,?_⟩⟩
    ·rw [hend]
    ·rw [hend]
  ·have l9:=a9.lt
   have nb15:b15∉M:=fun h=>by have:=hML8 _ h;omega
   have S9:=S8.ext x9
   have C9:=C8.ext x9
   have hT9:=hT8.ext x9
   have E9:=E8.ext x9
   have x09:=x08.trans x9
   have hML9:∀y∈M,y<w9.heap.size:=fun y hy=>Nat.lt_of_lt_of_le (hML8 y hy) x9.size
   clear S8 C8 hT8 E8 x9 x08 a9
   rintro ⟨l1,fv⟩ ρ w20 ⟨c20,C20,hl1,hP⟩
   simp only at C20 hl1 hP
   dsimp only
   have S20:=S9.chg c20 n3 n4
   have E20:=E9.offS C9 c20
   have r20:=Row.chg c20 r9 (fun h=>nb15 (by simp at h;rcases h with h|h;rw [h];exact hb'M;rw [h];exact hmb'M))
   have x020:Ext w w20:=(Ext.chg x09 c20).mono (fun y hy=>.inr (by simp at hy;rcases hy with rfl|rfl;exact hMw _ hb'M;exact hMw _ hmb'M))
   have hML20:∀y∈M,y<w20.heap.size:=fun y hy=>Nat.lt_of_lt_of_le (hML9 y hy) c20.size
   clear c20 S9 C9 r9 x09 hT9 hML9 l9 x07 hML8 hML eR E9
   have nl:(applyL m txs 2).1.length≤200:=by omega
   generalize applyL m txs 2=ap at*
   obtain ⟨n,c,at_,in_⟩:=ap
   simp only at S20 E20 hP gn scn nl hmv0 hbad
   by_cases h0:c=0
   ·obtain ⟨rfl,rfl⟩:fv=.nilIface∧l1=n:=by
     rcases hP with ⟨-,h1,h2⟩|⟨h, -⟩
     ·exact ⟨h1,h2⟩
     ·exact absurd h0 h
    obtain rfl:=E20.nilD.1 h0
    repeat (first|(refine zg (fun w20b x20b=>?_))|(first|refine go1 ?_|refine zg (fun _ _=>?_)|refine zi (fun _ _=>?_)))
    refine zC (d:=some 91) rfl (code_spec (c:=0) (a:= -1) (hg.ext (x020.trans x20b)) (ErrR.none_ _ _)) ?_
    rintro _ w21 ⟨rfl,x21b⟩
    have x21:=x20b.trans x21b
    repeat (first|refine go1 ?_|refine zg (fun _ _=>?_)|refine zi (fun _ _=>?_))
    refine zC (d:=some 93) rfl (errIs_nil _ _) ?_
    rintro _ w22 ⟨rfl,rfl⟩
    repeat (first|refine go1 ?_|refine zg (fun _ _=>?_)|refine zi (fun _ _=>?_))
    have S21:=S20.ext x21
    have hML21:∀y∈M,y<w22.heap.size:=fun y hy=>Nat.lt_of_lt_of_le (hML20 y hy) x21.size
    refine zC (d:=some 102) rfl (bapply_spec (M:=M) (txs:= []) (l:=l1) 3 _ S21 gn scn hbM hmbM hML21 (SlR.nil _ _) (by simp) (by simp [outsB];omega) (by simp)) ?_
    rw [apply_empty,if_neg (by decide)]
    rintro _ w23 ⟨sv3,mv3,e3,rfl,E23,S23,hA3, -,c23⟩
    obtain rfl:=E23.nilD.1 rfl
    obtain ⟨hsv3,hmv3, -⟩:=hA3 rfl
    simp only at S23 hsv3 hmv3
    rw [less_self _ gn.nodup] at hsv3 hmv3
    have C23:=(C20.ext x21).chg c23 n1 n2
    have x023:Ext w w23:=(Ext.chg (x020.trans x21) c23).mono (fun y hy=>.inr (hMb y hy))
    have r23:=Row.chg c23 (Row.ext x21 r20) (fun h=>nb15 (by simp at h;rcases h with h|h;rw [h];exact hbM;rw [h];exact hmbM))
    have ones3:([sv3,mv3]:List Value).all (fun v=>v.oneCell')=true:=by
     obtain ⟨_,_,q⟩:=hsv3.form
     obtain ⟨_,_,q2⟩:=hmv3.form
     rw [q,q2];rfl
    clear hA3 E23 c23 r20
    repeat (first|(refine zE (d':=20) (fun _=>rfl) rfl rfl ones3 (fun b20 w24 x24 a24 (r24:Row w24 ⟨b20,0,none⟩ [sv3,mv3]) hb20=>?_))|(first|refine go1 ?_|refine zg (fun _ _=>?_)|refine zi (fun _ _=>?_)))
    refine zC (d:=some 106) rfl (pall_spec _ (S23.ext x24) (by omega)) ?_
    rintro av w25 ⟨hav, -,x25⟩
    repeat (first|refine go1 ?_|refine zg (fun _ _=>?_)|refine zi (fun _ _=>?_))
    refine zC (d:=some 108) rfl (pall_spec _ ((C23.ext x24).ext x25) (by omega)) ?_
    rintro bv w26 ⟨hbv, -,x26⟩
    have x2426:Ext w24 w26:=x25.trans x26
    have x2326:Ext w23 w26:=x24.trans x2426
    have x026:=x023.trans x2326
    have r2426:=Row.ext x2426 r24
    have r2326:=Row.ext x2326 r23
    have hav26:=hav.ext x26
    have hsv26:=hsv3.ext x2326
    have hmv26:=hmv3.ext x2326
    clear x24 x25 x26 r24 r23 hav hsv3 hmv3 S23 C23 a24
    repeat (first|(refine st_len (d:=some 114) rfl hmv26 ?_)|(refine st_len (d:=some 120) rfl hsv26 ?_)|(refine st_len (d:=some 128) rfl hav26 ?_)|(refine st_len (d:=some 130) rfl hbv ?_)|(refine st_fixV (d:=some 131) (.bool false) rfl (congrArg (fun b=>some (Value.bool (!b))) (decide_eq_true rfl)) ?_)|(refine st_len (d:=some 145) rfl hav26 ?_)|(first|refine go1 ?_|refine zg (fun _ _=>?_)|refine zi (fun _ _=>?_)))
    refine c_loopV (fun (q:Nat) w'=>Ext w26 w'∧q≤l1.length) (fun q=> [(16,.nilIface),(22,av),(23,bv),(144,av),(145,.int .i64 (l1.length:Nat)),(146,.int .i64 (q:Nat))]) (fun q=>l1.length - q) 0 ⟨rfl,rfl,rfl,rfl,rfl,rfl,trivial⟩ ⟨Ext.refl _,by simp⟩ ?_
    rintro q ρ w30 ⟨x30,hq⟩
    repeat (first|refine go1 ?_|refine zg (fun _ _=>?_)|refine zi (fun _ _=>?_))
    refine zL (x:=.tmp 147) (p:=((q:Nat):Int)<((l1.length:Nat):Int)) rfl (fun h8=>?_) (fun h8=>?_)
    ·have hql:q<l1.length:=by omega
     repeat (first|(refine st_elemE (d:=some 154) (E:=entE) rfl rfl (n:=q) (l:=l1) (SlE.ext (w:=w26) (by exact fx) hav26) rfl hql (fun ad1 ra=>?_))|(refine st_elemE (d:=some 158) (E:=entE) rfl rfl (n:=q) (l:=l1) (SlE.ext (w:=w26) (by exact fx) hbv) rfl hql (fun ad2 rb=>?_))|(refine st_fixV (d:=some 160) (.bool false) rfl (en_ne2 l1[q]) ?_)|(first|refine go1 ?_|refine zg (fun _ _=>?_)|refine zi (fun _ _=>?_)))
     exact ⟨q+1,⟨rfl,rfl,rfl,rfl,rfl,rfl,trivial⟩,⟨by exact fx,by omega⟩,by omega⟩
    ·repeat (first|refine go1 ?_|refine zg (fun _ _=>?_)|refine zi (fun _ _=>?_))
     refine zC (d:=some 163) rfl (wakes12_spec _ (hg.ext (x026.trans x30))) ?_
     rintro _ w31 ⟨rfl,x31⟩
     repeat (first|refine go1 ?_|refine zg (fun _ _=>?_)|refine zi (fun _ _=>?_))
     exact x_ret rfl ⟨rfl,(x026.trans x30).trans x31⟩
   ·rcases hP with ⟨h, -⟩|⟨-,i2,hF⟩
    ·exact absurd h h0
    obtain ⟨ft,fu,rfl⟩:=hF.nilD.2 h0
    obtain ⟨et,eu,rfl⟩:=E20.nilD.2 h0
    obtain rfl:=hmv0 h0
    repeat (first|(refine zg (fun w20b x20b=>?_))|(first|refine go1 ?_|refine zg (fun _ _=>?_)|refine zi (fun _ _=>?_)))
    refine zC (d:=some 91) rfl (code_spec (hg.ext (x020.trans x20b)) ((E20.ext x20b).errR (fun h=>absurd h h0))) ?_
    rintro _ w21 ⟨rfl,x21b⟩
    have x21:=x20b.trans x21b
    repeat (first|refine go1 ?_|refine zg (fun _ _=>?_)|refine zi (fun _ _=>?_))
    refine zC (d:=some 93) rfl (isF_spec h0 (hF.ext x21)) ?_
    rintro _ w22 ⟨rfl,rfl⟩
    repeat (first|refine go1 ?_|refine zg (fun _ _=>?_)|refine zi (fun _ _=>?_))
    have S21:=S20.ext x21
    have hML21:∀y∈M,y<w22.heap.size:=fun y hy=>Nat.lt_of_lt_of_le (hML20 y hy) x21.size
    refine zC (d:=some 102) rfl (bapply_spec (M:=M) (txs:= []) (l:=n) 3 _ S21 gn scn hbM hmbM hML21 (SlR.nil _ _) (by simp) (by simp [outsB];omega) (by simp)) ?_
    rw [apply_empty,if_neg (by decide)]
    rintro _ w23 ⟨sv3,mv3,e3,rfl,E23,S23,hA3, -,c23⟩
    obtain rfl:=E23.nilD.1 rfl
    obtain ⟨hsv3,hmv3, -⟩:=hA3 rfl
    simp only at S23 hsv3 hmv3
    rw [less_self _ gn.nodup] at hsv3 hmv3
    have C23:=(C20.ext x21).chg c23 n1 n2
    have x023:Ext w w23:=(Ext.chg (x020.trans x21) c23).mono (fun y hy=>.inr (hMb y hy))
    have r23:=Row.chg c23 (Row.ext x21 r20) (fun h=>nb15 (by simp at h;rcases h with h|h;rw [h];exact hbM;rw [h];exact hmbM))
    have ones3:([sv3,mv3]:List Value).all (fun v=>v.oneCell')=true:=by
     obtain ⟨_,_,q⟩:=hsv3.form
     obtain ⟨_,_,q2⟩:=hmv3.form
     rw [q,q2];rfl
    clear hA3 E23 c23 r20
    repeat (first|(refine zE (d':=20) (fun _=>rfl) rfl rfl ones3 (fun b20 w24 x24 a24 (r24:Row w24 ⟨b20,0,none⟩ [sv3,mv3]) hb20=>?_))|(first|refine go1 ?_|refine zg (fun _ _=>?_)|refine zi (fun _ _=>?_)))
    refine zC (d:=some 106) rfl (pall_spec _ (S23.ext x24) (by omega)) ?_
    rintro av w25 ⟨hav, -,x25⟩
    repeat (first|refine go1 ?_|refine zg (fun _ _=>?_)|refine zi (fun _ _=>?_))
    refine zC (d:=some 108) rfl (pall_spec _ ((C23.ext x24).ext x25) (by omega)) ?_
    rintro bv w26 ⟨hbv, -,x26⟩
    have x2426:Ext w24 w26:=x25.trans x26
    have x2326:Ext w23 w26:=x24.trans x2426
    have x026:=x023.trans x2326
    have r2426:=Row.ext x2426 r24
    have r2326:=Row.ext x2326 r23
    have hav26:=hav.ext x26
    have hsv26:=hsv3.ext x2326
    have hmv26:=hmv3.ext x2326
    clear x24 x25 x26 r24 r23 hav hsv3 hmv3 S23 C23 a24
    repeat (first|(refine st_len (d:=some 114) rfl hmv26 ?_)|(refine st_len (d:=some 120) rfl hsv26 ?_)|(refine st_len (d:=some 145) rfl hav26 ?_)|(first|refine go1 ?_|refine zg (fun _ _=>?_)|refine zi (fun _ _=>?_)))
    refine c_loopV (fun (q:Nat) w'=>Ext w26 w'∧q≤n.length) (fun q=> [(16,.iface et eu),(144,av),(145,.int .i64 (n.length:Nat)),(146,.int .i64 (q:Nat))]) (fun q=>n.length - q) 0 ⟨rfl,rfl,rfl,rfl,trivial⟩ ⟨Ext.refl _,by simp⟩ ?_
    rintro q ρ w30 ⟨x30,hq⟩
    repeat (first|refine go1 ?_|refine zg (fun _ _=>?_)|refine zi (fun _ _=>?_))
    refine zL (x:=.tmp 147) (p:=((q:Nat):Int)<((n.length:Nat):Int)) rfl (fun h8=>?_) (fun h8=>?_)
    ·have hql:q<n.length:=by omega
     repeat (first|refine go1 ?_|refine zg (fun _ _=>?_)|refine zi (fun _ _=>?_))
     exact ⟨q+1,⟨rfl,rfl,rfl,rfl,trivial⟩,⟨by exact fx,by omega⟩,by omega⟩
    ·repeat (first|refine go1 ?_|refine zg (fun _ _=>?_)|refine zi (fun _ _=>?_))
     refine zC (d:=some 163) rfl (wakes12_spec _ (hg.ext (x026.trans x30))) ?_
     rintro _ w31 ⟨rfl,x31⟩
     repeat (first|refine go1 ?_|refine zg (fun _ _=>?_)|refine zi (fun _ _=>?_))
     exact x_ret rfl ⟨rfl,(x026.trans x30).trans x31⟩
 ·obtain ⟨et,eu,rfl⟩:=E3.nilD.2 h01
  repeat (first|refine go1 ?_|refine zg (fun _ _=>?_)|refine zi (fun _ _=>?_))
  refine zC (d:=some 36) rfl (wakes12_spec _ (hg.ext x04)) ?_
  rintro _ w10 ⟨rfl,x10⟩
  repeat (first|refine go1 ?_|refine zg (fun _ _=>?_)|refine zi (fun _ _=>?_))
  exact x_ret rfl ⟨rfl,x04.trans x10⟩
end Go.Proofs.YtbidkcjendncaaaGreatDoor
end
