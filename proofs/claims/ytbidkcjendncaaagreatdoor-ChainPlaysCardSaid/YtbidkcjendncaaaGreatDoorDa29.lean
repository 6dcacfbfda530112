/- The walk of BlockPlays. What comes in for the laws of pools. What comes in for the laws of blocks and chains. What lies ahead of laws that ask what errors are; numbers' lists of lists. Plain: what the document reckons of blocks; blocks taken back and connected once more. Plain: what a block makes of all coins together, at most. The walk of BlockValues. -/
import Derived.Test.YtbidkcjendncaaaGreatDoorRows
import Derived.Test.YtbidkcjendncaaaGreatDoorChecked
import Derived.ProofKit
import Derived.ShutString
import Derived.ChangeOld
import Derived.Below
import Derived.ChangeSame
import Derived.ChangeVars
import Derived.JoinedOf
import Derived.RowKit
import Derived.RowKitTokens
import Derived.LaidLaws
import Derived.LaidHandle
import Derived.Stop.Joined
import Derived.Test.YtbidkcjendncaaaGreatDoorDa28
set_option linter.unusedVariables false
set_option linter.unusedSimpArgs false
section
namespace Go.Proofs.YtbidkcjendncaaaGreatDoor
open Go Go.K
attribute [local irreducible] regK codeK retK KOp.wp K.Spec u32 leS vnS str zero32 checkT applyL encT idT sizeT EtR lessL
set_option maxHeartbeats 16000000 in
set_option maxRecDepth 4000 in
theorem blockPlays_law {v:Value} {ls:List (List BSm)} (odd:Int) (w:World) (hg:EtR w) (hz:SlR (listR bsmR) [] w v ls) (ho:is64 odd):K.Spec Tryz.prog F.kedgelaw12_BlockPlays [v,.int .i64 odd] w fun r w'=>r=.bool true∧Ext w w':=by
 refine s_kedgelaw12_BlockPlays rfl ?_
 unfold k_kedgelaw12_BlockPlays
 refine oy ?_
 repeat (first|refine go1 ?_|refine zg (fun _ _=>?_)|refine zi (fun _ _=>?_))
 refine zC (d:=some 21) rfl (pnew_spec _) ?_
 rintro _ w1 ⟨b,mb,rfl,S1,hb1,hb2,x1⟩
 repeat (first|(refine zG (d:=some 24) (E:=listR bsmR) (M:= []) (l:=ls) rfl (SlR.ext hz (by exact fx)) ?_)|(refine st_takeR (d:=some 26) (E:=listR bsmR) (n:=min ls.length 6) rfl rfl (by omega) hz (by omega) rfl (fun v' hv'=>?_))|(refine zG (d:=some 27) (E:=listR bsmR) (M:= []) (l:=ls.take (min ls.length 6)) rfl (SlR.ext hv' (by exact fx)) ?_)|(first|refine go1 ?_|refine zg (fun _ _=>?_)|refine zi (fun _ _=>?_)))
 have hSl:(ls.take (min ls.length 6)).length≤6:=by rw [List.length_take];omega
 generalize ls.take (min ls.length 6)=S at*
 have hne:=S1.ne
 refine c_loopV (fun (p:Nat × Value × List En) w'=>Ext w w'∧p.1≤S.length∧SetP T.coins_Set w' b mb p.2.2∧SlE entE w' p.2.1 p.2.2∧CG p.2.2∧SC p.2.2∧p.2.2.length≤15*p.1) (fun p=> [(1,.int .i64 odd),(5,.pointer (some ⟨b,0,none⟩)),(6,p.2.1),(26,v'),(27,.int .i64 (S.length:Nat)),(28,.int .i64 (p.1:Nat))]) (fun p=>S.length - p.1) (0,.slice none 0 0, []) ⟨rfl,rfl,rfl,rfl,rfl,rfl,trivial⟩ ⟨x1,by simp,S1,SlE.nil _,CG.nil,SC.nil,by simp⟩ ?_
 rintro ⟨i,lv,m⟩ ρ w4 ⟨x4,hi,S4,hm4,g4,sc4,hml⟩
 simp only at hi S4 hm4 g4 sc4 hml
 dsimp only
 have s4:=x4.size
 have hM4:∀y∈ [b,mb],y<w4.heap.size:=fun y hy=>by simp at hy;rcases hy with rfl|rfl;exact S4.lt.1;exact S4.lt.2
 have hMb:∀y∈ [b,mb],w.heap.size≤y:=fun y hy=>by simp at hy;rcases hy with rfl|rfl;exact hb1;exact hb2
 repeat (first|refine go1 ?_|refine zg (fun _ _=>?_)|refine zi (fun _ _=>?_))
 refine zL (x:=.tmp 29) (p:=((i:Nat):Int)<((S.length:Nat):Int)) rfl (fun h5=>?_) (fun h5=>?_)
 ·have hil:i<S.length:=by omega
  have hvM:SlR (listR bsmR) [b,mb] w4 v' S:=hv'.step x4 (by simp) (fun y hy=>.inr (hMb y hy))
  have ek:((i:Nat):Int)+1=((i+1:Nat):Int):=by omega
  repeat (first|(refine st_elemR (d:=some 31) (E:=listR bsmR) (M:= [b,mb]) rfl rfl (n:=i) (l:=S) hvM rfl hil (fun ad cs r4 he=>?_);obtain ⟨tv,rfl,htv⟩:=id he)|(first|refine go1 ?_|refine zg (fun _ _=>?_)|refine zi (fun _ _=>?_)))
  rw [ek]
  refine zC (d:=some 37) rfl (made12b_spec (M:= [b,mb]) (l:=m) (zs:=S[i]) ((i+1:Nat):Int) _ hm4 g4 sc4 htv (by omega) (by omega) hM4) ?_
  rintro vtx w7 ⟨txs,oT,htl,hmk,x7⟩
  have hT:SlR txR [b,mb] w7 vtx txs:=oT.slB hM4
  have hsm:∀t∈txs,t.Sm:=fun t ht=>(hmk t ht).sm
  have hou:=outsB_mk5 hmk htl
  have hM7:∀y∈ [b,mb],y<w7.heap.size:=fun y hy=>Nat.lt_of_lt_of_le (hM4 y hy) x7.size
  repeat (first|refine go1 ?_|refine zg (fun _ _=>?_)|refine zi (fun _ _=>?_))
  rw [ek]
  refine zC (d:=some 44) rfl (bapply_spec (M:= [b,mb]) (txs:=txs) (l:=m) ((i+1:Nat):Int) _ (S4.ext x7) g4 sc4 (by simp) (by simp) hM7 hT hsm (by omega) (by omega)) ?_
  rintro _ w8 ⟨sv,mv,e,rfl,E8,S8,hA,hB,c8⟩
  have hm8:SlE entE w8 lv m:=SlE.offS (hm4.ext x7) (S4.ext x7) c8
  have hT8:SlR txR [b,mb] w8 vtx txs:=hT.step c8 (fun y hy=>.inl hy) (fun y hy=>.inl hy)
  have x08:Ext w w8:=(Ext.chg (x4.trans x7) c8).mono (fun y hy=>.inr (hMb y hy))
  have gn:=applyL_cg g4 txs ((i+1:Nat):Int)
  have scn:=applyL_sc g4 sc4 txs ((i+1:Nat):Int)
  have nl:=applyL_len g4 txs ((i+1:Nat):Int)
  have k1:=applyL_ok (l:=m) (txs:=txs) (b:=((i+1:Nat):Int))
  have k2:=applyL_ok2 (l:=m) (txs:=txs) (b:=((i+1:Nat):Int))
  have o12:sv.oneCell'=true∧mv.oneCell'=true:=by
   by_cases h0:(applyL m txs ((i+1:Nat):Int)).2.1=0
   ·obtain ⟨h1,h2, -⟩:=hA h0
    obtain ⟨_,_,q⟩:=h1.form
    obtain ⟨_,_,q2⟩:=h2.form
    rw [q,q2];exact ⟨rfl,rfl⟩
   ·obtain ⟨rfl,rfl⟩:=hB h0;exact ⟨rfl,rfl⟩
  have ones2:([sv,mv]:List Value).all (fun v=>v.oneCell')=true:=by simp [o12.1,o12.2]
  repeat (first|(refine zE (d':=11) (fun _=>rfl) rfl rfl ones2 (fun b11 w9 x9 a9 (r9:Row w9 ⟨b11,0,none⟩ [sv,mv]) hb11=>?_))|(first|refine go1 ?_|refine zg (fun _ _=>?_)|refine zi (fun _ _=>?_)))
  rw [ek]
  refine zC (d:=some 52) rfl (apply12_spec (M:= [b,mb]) (l:=m) (txs:=txs) ((i+1:Nat):Int) _ (hm8.ext x9) g4 sc4 (hT8.ext x9) hsm (by omega) (by omega)) ?_
  rintro _ w10 ⟨vl,rfl,hvl,x10⟩
  have x810:Ext w8 w10:=x9.trans x10
  have E10:=E8.ext x810
  have S10:=S8.ext x810
  have hg10:=hg.ext (x08.trans x810)
  have hm10:=hm8.ext x810
  have hA10:(applyL m txs ((i+1:Nat):Int)).2.1=0→SlE entE w10 sv (lessL m (applyL m txs ((i+1:Nat):Int)).1)∧SlE entE w10 mv (lessL (applyL m txs ((i+1:Nat):Int)).1 m):=fun h=>⟨(hA h).1.ext x810,(hA h).2.1.ext x810⟩
  have r10:Row w10 ⟨b11,0,none⟩ [sv,mv]:=Row.ext x10 r9
  have x010:Ext w w10:=x08.trans x810
  clear E8 S8 hA c8 x9 x10 x810 a9 r9 hT hT8 oT hm8 hvM he x7 S4 hm4
  generalize applyL m txs ((i+1:Nat):Int)=ap at*
  obtain ⟨n,c,at_,in_⟩:=ap
  simp only at E10 S10 hvl gn scn nl k1 k2 hA10 hB
  repeat (first|refine go1 ?_|refine zg (fun _ _=>?_)|refine zi (fun _ _=>?_))
  refine zC (d:=some 58) rfl (code_spec hg10 (E10.errR k1)) ?_
  rintro _ w11 ⟨rfl,x11⟩
  have fin:∀{w':World},Ext w10 w'→(Ext w w'∧i+1≤S.length∧SetP T.coins_Set w' b mb n∧SlE entE w' vl n∧CG n∧SC n∧n.length≤15*(i+1)):=fun x=>⟨x010.trans x,by omega,S10.ext x,hvl.ext x,gn,scn,by omega⟩
  by_cases h0:c=0
  ·obtain rfl:=E10.nilD.1 h0
   obtain ⟨hsv,hmv⟩:=hA10 h0
   subst h0
   repeat (first|(refine st_fixV (d:=some 60) (.bool false) rfl (congrArg (fun b=>some (Value.bool (!b))) (decide_eq_true rfl)) ?_)|(refine st_fixV (d:=some 65) (.bool true) rfl rfl ?_)|(refine st_fixV (d:=some 66) (.bool false) rfl rfl ?_)|(first|refine go1 ?_|refine zg (fun _ _=>?_)|refine zi (fun _ _=>?_)))
   refine zC (d:=some 70) rfl (place_spec (hg10.ext x11) ((E10.errR k1).ext x11)) ?_
   rintro _ w12 ⟨rfl,x12⟩
   repeat (first|(refine st_fixV (d:=some 72) (.bool false) rfl (congrArg (fun b=>some (Value.bool (!b))) (decide_eq_true rfl)) ?_)|(first|refine go1 ?_|refine zg (fun _ _=>?_)|refine zi (fun _ _=>?_)))
   refine zC (d:=some 76) rfl (inner12_spec ((hg10.ext x11).ext x12) ((E10.ext x11).ext x12) k2) ?_
   rintro _ w13 ⟨rfl,x13⟩
   have x1013:Ext w10 w13:=x11.trans (x12.trans x13)
   repeat (first|(refine st_fixV (d:=some 78) (.bool false) rfl (congrArg (fun b=>some (Value.bool (!b))) (decide_eq_true rfl)) ?_)|(first|refine go1 ?_|refine zg (fun _ _=>?_)|refine zi (fun _ _=>?_)))
   refine zC (d:=some 83) rfl (same12_spec _ (S10.ext x1013) (hvl.ext x1013) (by omega)) ?_
   rintro _ w14 ⟨rfl,x14⟩
   have x1014:=x1013.trans x14
   have r14:=Row.ext x1014 r10
   have hsv14:=hsv.ext x1014
   have hmv14:=hmv.ext x1014
   have hvl14:=hvl.ext x1014
   have hm14:=hm10.ext x1014
   have nn:=gn.nodup
   have nm:=g4.nodup
   have l1:=lessL_len m n
   have l2:=lessL_len n m
   have fin':=fun {w':World} (x:Ext w14 w')=>fin (x1014.trans x)
   clear x11 x12 x13 x14 x1013 x1014 x010 x08 x4 fin
   repeat' (first|(refine zg (fun w15 x15=>?_))|(refine zB ?_ ?_)|(refine zC (d:=some 108) rfl (less12_spec _ (SlE.ext (w:=w14) (by exact fx) hm14) (SlE.ext (w:=w14) (by exact fx) hvl14) (by omega) (by omega) nn) ?_;rintro lv1 w16 ⟨oL1,x16⟩)|(refine zC (d:=some 109) rfl (listed12_spec _ (SlE.ext (w:=w14) (by exact fx) hsv14) (SlE.ext (w:=w16) (by exact fx) oL1.sl) (by omega)) ?_;rintro _ w17 ⟨rfl,x17⟩)|(refine zC (d:=some 116) rfl (less12_spec _ (SlE.ext (w:=w14) (by exact fx) hvl14) (SlE.ext (w:=w14) (by exact fx) hm14) (by omega) (by omega) nm) ?_;rintro lv2 w18 ⟨oL2,x18⟩)|(refine zC (d:=some 117) rfl (listed12_spec _ (SlE.ext (w:=w14) (by exact fx) hmv14) (SlE.ext (w:=w18) (by exact fx) oL2.sl) (by omega)) ?_;rintro _ w19 ⟨rfl,x19⟩)|(first|refine go1 ?_|refine zg (fun _ _=>?_)|refine zi (fun _ _=>?_)))
   all_goals exact ⟨(i+1,vl,n),⟨rfl,rfl,rfl,rfl,rfl,rfl,trivial⟩,fin' (by exact fx),by simp only;omega⟩
  ·obtain ⟨et,eu,rfl⟩:=E10.nilD.2 h0
   obtain ⟨rfl,rfl⟩:=hB h0
   repeat (first|(refine st_fixV (d:=some 60) (.bool false) rfl (congrArg (fun b=>some (Value.bool (!b))) (decide_eq_true rfl)) ?_)|(refine st_fixV (d:=some 65) (.bool false) rfl (congrArg (fun b=>some (Value.bool b)) (decide_eq_false h0)) ?_)|(first|refine go1 ?_|refine zg (fun _ _=>?_)|refine zi (fun _ _=>?_)))
   refine zC (d:=some 70) rfl (place_spec (hg10.ext x11) ((E10.errR k1).ext x11)) ?_
   rintro _ w12 ⟨rfl,x12⟩
   repeat (first|(refine st_fixV (d:=some 72) (.bool false) rfl (congrArg (fun b=>some (Value.bool (!b))) (decide_eq_true rfl)) ?_)|(first|refine go1 ?_|refine zg (fun _ _=>?_)|refine zi (fun _ _=>?_)))
   refine zC (d:=some 76) rfl (inner12_spec ((hg10.ext x11).ext x12) ((E10.ext x11).ext x12) k2) ?_
   rintro _ w13 ⟨rfl,x13⟩
   have x1013:Ext w10 w13:=x11.trans (x12.trans x13)
   repeat (first|(refine st_fixV (d:=some 78) (.bool false) rfl (congrArg (fun b=>some (Value.bool (!b))) (decide_eq_true rfl)) ?_)|(first|refine go1 ?_|refine zg (fun _ _=>?_)|refine zi (fun _ _=>?_)))
   refine zC (d:=some 83) rfl (same12_spec _ (S10.ext x1013) (hvl.ext x1013) (by omega)) ?_
   rintro _ w14 ⟨rfl,x14⟩
   have x1014:=x1013.trans x14
   have r14:=Row.ext x1014 r10
   have fin':=fun {w':World} (x:Ext w14 w')=>fin (x1014.trans x)
   clear x11 x12 x13 x14 x1013 x1014 x010 x08 x4 fin
   repeat' (first|(refine zg (fun w15 x15=>?_))|(refine zB ?_ ?_)|(first|refine go1 ?_|refine zg (fun _ _=>?_)|refine zi (fun _ _=>?_)))
   all_goals exact ⟨(i+1,vl,n),⟨rfl,rfl,rfl,rfl,rfl,rfl,trivial⟩,fin' (by exact fx),by simp only;omega⟩
 ·repeat (first|refine go1 ?_|refine zg (fun _ _=>?_)|refine zi (fun _ _=>?_))
  refine zC (d:=some 127) rfl (bapply_spec (M:= [b,mb]) (txs:= []) (l:=m) odd _ S4 g4 sc4 (by simp) (by simp) hM4 (SlR.nil _ _) (by simp) (by simp [outsB];omega) (by simp)) ?_
  rintro _ w5 ⟨sv,mv,e,rfl,E5,S5,hA,hB,c5⟩
  have x05:Ext w w5:=(Ext.chg x4 c5).mono (fun y hy=>.inr (hMb y hy))
  have o12:sv.oneCell'=true∧mv.oneCell'=true:=by
   by_cases h0:(applyL m [] odd).2.1=0
   ·obtain ⟨h1,h2, -⟩:=hA h0
    obtain ⟨_,_,q⟩:=h1.form
    obtain ⟨_,_,q2⟩:=h2.form
    rw [q,q2];exact ⟨rfl,rfl⟩
   ·obtain ⟨rfl,rfl⟩:=hB h0;exact ⟨rfl,rfl⟩
  have ones2:([sv,mv]:List Value).all (fun v=>v.oneCell')=true:=by simp [o12.1,o12.2]
  rw [apply_empty] at E5
  have he:(e=.nilIface∧¬(odd<0∨odd>1000000))∨(e=errno 3∧(odd<0∨odd>1000000)):=by
   by_cases hr:odd<0∨odd>1000000
   ·rw [if_pos hr] at E5
    rcases E5 with ⟨h, -⟩|⟨-,⟨h, -⟩|⟨h, -⟩⟩
    ·exact absurd h (show ¬(3:Int)=0 by decide)
    ·exact .inr ⟨h,hr⟩
    ·exact absurd h (show ¬(0:Int)≤ -1 by decide)
   ·rw [if_neg hr] at E5
    exact .inl ⟨(ErrA.nilD E5).1 rfl,hr⟩
  clear hA hB E5
  repeat (first|(refine zE (d':=17) (fun _=>rfl) rfl rfl ones2 (fun b17 w6 x6 a6 (r6:Row w6 ⟨b17,0,none⟩ [sv,mv]) hb17=>?_))|(first|refine go1 ?_|refine zg (fun _ _=>?_)|refine zi (fun _ _=>?_)))
  refine zC (d:=some 131) rfl (bapply_nil _ 1 _) ?_
  rintro _ w7 ⟨rfl,x7⟩
  repeat (first|(refine zE (d':=19) (fun _=>rfl) rfl rfl rfl (fun b19 w8 x8 a8 (r8:Row w8 ⟨b19,0,none⟩ [.slice none 0 0,.slice none 0 0]) hb19=>?_))|(first|refine go1 ?_|refine zg (fun _ _=>?_)|refine zi (fun _ _=>?_)))
  have x08:Ext w w8:=x05.trans (x6.trans (x7.trans x8))
  refine zC (d:=some 134) rfl (wakes12_spec _ (hg.ext x08)) ?_
  rintro _ w9 ⟨rfl,x9⟩
  have x09:=x08.trans x9
  rcases he with ⟨rfl,hr⟩|⟨rfl,hr⟩
  ·repeat (first|(refine st_fixV (d:=some 139) (.bool true) rfl (congrArg (fun b=>some (Value.bool b)) (decide_eq_true (by omega))) ?_)|(refine st_fixV (d:=some 142) (.bool true) rfl (congrArg (fun b=>some (Value.bool b)) (decide_eq_true (by omega))) ?_)|(first|refine go1 ?_|refine zg (fun _ _=>?_)|refine zi (fun _ _=>?_)))
   refine zC (d:=some 158) rfl (errIs_same 1 _) ?_
   rintro _ w10 ⟨rfl,rfl⟩
   repeat (first|refine go1 ?_|refine zg (fun _ _=>?_)|refine zi (fun _ _=>?_))
   exact x_ret rfl ⟨rfl,x09⟩
  ·by_cases h1:odd<0
   ·repeat (first|(refine st_fixV (d:=some 139) (.bool false) rfl (congrArg (fun b=>some (Value.bool b)) (decide_eq_false (by omega))) ?_)|(first|refine go1 ?_|refine zg (fun _ _=>?_)|refine zi (fun _ _=>?_)))
    refine zC (d:=some 152) rfl (errIs_same 3 _) ?_
    rintro _ w10 ⟨rfl,rfl⟩
    repeat (first|refine go1 ?_|refine zg (fun _ _=>?_)|refine zi (fun _ _=>?_))
    refine zC (d:=some 158) rfl (errIs_same 1 _) ?_
    rintro _ w10 ⟨rfl,rfl⟩
    repeat (first|refine go1 ?_|refine zg (fun _ _=>?_)|refine zi (fun _ _=>?_))
    exact x_ret rfl ⟨rfl,x09⟩
   ·repeat (first|(refine st_fixV (d:=some 139) (.bool true) rfl (congrArg (fun b=>some (Value.bool b)) (decide_eq_true (by omega))) ?_)|(refine st_fixV (d:=some 142) (.bool false) rfl (congrArg (fun b=>some (Value.bool b)) (decide_eq_false (by omega))) ?_)|(first|refine go1 ?_|refine zg (fun _ _=>?_)|refine zi (fun _ _=>?_)))
    refine zC (d:=some 152) rfl (errIs_same 3 _) ?_
    rintro _ w10 ⟨rfl,rfl⟩
    repeat (first|refine go1 ?_|refine zg (fun _ _=>?_)|refine zi (fun _ _=>?_))
    refine zC (d:=some 158) rfl (errIs_same 1 _) ?_
    rintro _ w10 ⟨rfl,rfl⟩
    repeat (first|refine go1 ?_|refine zg (fun _ _=>?_)|refine zi (fun _ _=>?_))
    exact x_ret rfl ⟨rfl,x09⟩
end Go.Proofs.YtbidkcjendncaaaGreatDoor
end
section
namespace Go.Proofs.YtbidkcjendncaaaGreatDoor
open Go Go.K Go.ChangeShapes Go.WideShapes Go.ChangeAt Go.RowKit
set_option maxRecDepth 100000
theorem own:ownKnob Tryz.prog.godebug=none:=by kernel_rfl
theorem laidOut:laidOutB Tryz.prog=true:=by kernel_rfl
theorem c_int:Tryz.prog.cellsOf 3=1:=by kernel_rfl
theorem c_u8:Tryz.prog.cellsOf 5=1:=by kernel_rfl
theorem c_u32:Tryz.prog.cellsOf 44=1:=by kernel_rfl
theorem c_string:Tryz.prog.cellsOf 9=1:=by kernel_rfl
theorem c_u16:Tryz.prog.cellsOf 77=1:=by kernel_rfl
theorem c_bool:Tryz.prog.cellsOf 4=1:=by kernel_rfl
theorem c_point:Tryz.prog.cellsOf 46=2:=by kernel_rfl
theorem c_lu8:Tryz.prog.cellsOf 80=1:=by kernel_rfl
theorem reads_u8 {W:World} {c:List Value} (h:Reads Tryz.prog W 5 c):∃b:UInt8,c= [u8V b]:=by
 obtain ⟨n,e,h1,h2⟩:=reads_int Tryz.underlying5 h
 have h1:0≤n:=h1
 have h2:n≤255:=h2
 refine ⟨UInt8.ofNat n.toNat,?_⟩
 have:(UInt8.ofNat n.toNat).toNat=n.toNat:=by rw [UInt8.toNat_ofNat'];omega
 unfold u8V
 rw [e,this]
 congr 2;omega
theorem reads_i64 {W:World} {c:List Value} (h:Reads Tryz.prog W 3 c):∃n:Int,c= [.int .i64 n]∧is64 n:=by
 obtain ⟨n,e,h1,h2⟩:=reads_int Tryz.underlying3 h
 have h1: -9223372036854775808≤n:=h1
 have h2:n≤9223372036854775807:=h2
 exact ⟨n,e,by unfold is64;omega⟩
theorem reads_u32 {W:World} {c:List Value} (h:Reads Tryz.prog W 44 c):∃n:Int,c= [.int .u32 n]∧is32 n:=by
 obtain ⟨n,e,h1,h2⟩:=reads_int Tryz.underlying44 h
 have h1:0≤n:=h1
 have h2:n≤4294967295:=h2
 exact ⟨n,e,by unfold is32;omega⟩
theorem reads_point {W:World} {c:List Value} (h:Reads Tryz.prog W 46 c):∃p:Pt,c=p.cs∧is32 p.i:=by
 obtain ⟨h1,h2⟩:=reads_struct Tryz.underlying46 h
 have l:c.length=2:=h1.trans c_point
 match c,l with
 | [c0,c1],_=>
  have g0:=h2 _ (List.mem_of_getElem? (i:=0) rfl)
  have g1:=h2 _ (List.mem_of_getElem? (i:=1) rfl)
  obtain ⟨s,e0,_⟩:=reads_string Tryz.underlying9 g0
  obtain ⟨i,e1,hi⟩:=reads_u32 g1
  simp only [c_string,c_u32,List.drop_zero,List.drop_succ_cons,List.take_succ_cons,List.take_zero,List.cons.injEq,and_true] at e0 e1
  exact ⟨⟨s,i⟩,by rw [e0,e1];rfl,hi⟩
theorem reads_u16 {W:World} {c:List Value} (h:Reads Tryz.prog W 77 c):∃n:Int,c= [.int .u16 n]∧0≤n∧n≤65535:=by
 obtain ⟨n,e,h1,h2⟩:=reads_int Tryz.underlying77 h
 exact ⟨n,e,h1,h2⟩
end Go.Proofs.YtbidkcjendncaaaGreatDoor
end
section
namespace Go.Proofs.YtbidkcjendncaaaGreatDoor
open Go Go.K Go.ChangeShapes Go.WideShapes Go.ChangeAt Go.RowKit
set_option maxRecDepth 100000
theorem reads_bsm {W:World} {c:List Value} (h:Reads Tryz.prog W 130 c):∃z:BSm,bsmR.rel [] W c z:=by
 obtain ⟨h1,h2⟩:=reads_struct Tryz.underlying130 h
 have l:c.length=9:=h1.trans (by kernel_rfl)
 match c,l with
 | [c0,c1,c2,c3,c4,c5,c6,c7,c8],_=>
  have g0:=h2 _ (List.mem_of_getElem? (i:=0) rfl)
  have g1:=h2 _ (List.mem_of_getElem? (i:=1) rfl)
  have g2:=h2 _ (List.mem_of_getElem? (i:=2) rfl)
  have g3:=h2 _ (List.mem_of_getElem? (i:=3) rfl)
  have g4:=h2 _ (List.mem_of_getElem? (i:=4) rfl)
  have g5:=h2 _ (List.mem_of_getElem? (i:=5) rfl)
  have g6:=h2 _ (List.mem_of_getElem? (i:=6) rfl)
  have g7:=h2 _ (List.mem_of_getElem? (i:=7) rfl)
  have g8:=h2 _ (List.mem_of_getElem? (i:=8) rfl)
  simp only [c_lu8,List.drop_zero,List.drop_succ_cons,List.take_succ_cons,List.take_zero] at g0
  obtain ⟨frm,hf,hfl⟩:=reads_slR u8R Tryz.underlying80 (by kernel_rfl) (fun c hc=>by
   obtain ⟨b,e⟩:=reads_u8 hc
   exact ⟨b,by subst e;rfl⟩) g0
  obtain ⟨b1,e1⟩:=reads_u8 g1
  obtain ⟨n2,e2,hn2⟩:=reads_u16 g2
  obtain ⟨n3,e3,hn3⟩:=reads_u16 g3
  obtain ⟨b4,e4⟩:=reads_u8 g4
  obtain ⟨b5,e5⟩:=reads_u8 g5
  obtain ⟨b6,e6⟩:=reads_u8 g6
  obtain ⟨o7,e7⟩:=reads_bool Tryz.underlying4 g7
  obtain ⟨o8,e8⟩:=reads_bool Tryz.underlying4 g8
  simp only [c_u8,c_u16,c_bool,List.drop_zero,List.drop_succ_cons,List.take_succ_cons,List.take_zero,List.cons.injEq,and_true] at e1 e2 e3 e4 e5 e6 e7 e8
  exact ⟨⟨frm,b1,n2,n3,b4,b5,b6,o7,o8⟩,c0,by rw [e1,e2,e3,e4,e5,e6,e7,e8];rfl,hf,hn2,hn3⟩
theorem reads_bsms {W:World} {v:Value} (h:Reads Tryz.prog W 28 [v]):∃l,SlR bsmR [] W v l∧l.length≤maxLen:=
 reads_slR bsmR Tryz.underlying28 (by kernel_rfl) (fun _ h=>reads_bsm h) h
end Go.Proofs.YtbidkcjendncaaaGreatDoor
end
section
namespace Go.Proofs.YtbidkcjendncaaaGreatDoor
open Go Go.K Go.ChangeShapes Go.WideShapes Go.ChangeAt Go.RowKit
set_option maxRecDepth 100000
theorem et_at:Tryz.prog.globalNamed "errors.errorType" =some 0:=by kernel_rfl
theorem rt_at:(Tryz.prog.cutTypes.find? (·.1== "internal/reflectlite.rtype")).map (·.2)=some 230:=by kernel_rfl
theorem et_row:((List.range 409).filter fun t=>Tryz.prog.rowNamed t [101,114,114,111,114])= [35]:=by kernel_rfl
theorem et_size:Tryz.prog.types.size=409:=by kernel_rfl
abbrev laidE:List (String × DataW Unit):= [("errors.errorType",Rows.laid_errors_errorType)]
theorem etr_of_laid {W:World} (h:laidMetH Tryz.prog laidE W):EtR W:=by
 have h':laidMet Tryz.prog [] W∧handlesMet Tryz.prog laidE W:=h
 obtain ⟨name,u,ty,e1,e2,e3,e4,e5⟩:=h'.2 _ (List.mem_singleton.2 rfl)
 have en:name= [101,114,114,111,114]:=(Option.some.inj e1).symm
 subst en
 obtain rfl:=Option.some.inj (rt_at.symm.trans e2)
 have hm:ty∈(List.range 409).filter fun t=>Tryz.prog.rowNamed t [101,114,114,111,114]:=List.mem_filter.2 ⟨List.mem_range.2 (by rw [←et_size];exact e3),e4⟩
 rw [et_row] at hm
 obtain rfl:=List.mem_singleton.1 hm
 have hh:typeHandle Tryz.prog 35=.pointer (some ⟨4,35,none⟩):=by kernel_rfl
 rw [hh] at e5
 unfold EtR
 simpa using World.var?_cell et_at e5 0
noncomputable def laidWorld (os : Os) : World :=
  let w0 := World.holding Tryz.prog os ⟨#[], #[], []⟩
  { w0 with heap := w0.heap.modify 0 fun
      | .cells _ t frozen => .cells #[.iface 230 (.agg #[.pointer (some ⟨4, 35, none⟩)])] t frozen
      | o => o }
theorem laidWorld_met (os:Os) (args:Array Value):laidMetH Tryz.prog laidE ((laidWorld os).forCall (fun _ _=>0) ⟨#[],args, []⟩).memory:=
 laidMetH_of_parts (laidMet_nil _ _) (by kernel_rfl)
theorem reads_bsmss {W:World} {v:Value} (h:Reads Tryz.prog W 22 [v]):∃l,SlR (listR bsmR) [] W v l∧l.length≤maxLen:=
 reads_slR (listR bsmR) Tryz.underlying22 (by kernel_rfl) (fun c hc=>by
  have hc1:∃v,c= [v]:=by
   rcases reads_slice Tryz.underlying28 hc with h|⟨a,n,cap,h, -⟩
   ·exact ⟨_,h⟩
   ·exact ⟨_,h⟩
  obtain ⟨u,rfl⟩:=hc1
  obtain ⟨l,hl,_⟩:=reads_bsms hc
  exact ⟨l,u,rfl,hl⟩) h
end Go.Proofs.YtbidkcjendncaaaGreatDoor
end
section
namespace Go.K
open Go Go.Proofs.YtbidkcjendncaaaGreatDoor
theorem sumV_bnd (l:List Int):0≤sumV l∧sumV l≤2100000000000000:=by
 unfold sumV
 cases h:sumOk 0 l with
 |none=>simp
 |some t=>exact (goodB_iff _).1 (sumOk_good l 0 t (by decide) h)
theorem feeP_bnd (f:Pt→Option Cn) (t:Tx) (h:Int):0≤(feeP f t h).1∧(feeP f t h).1≤2100000000000000:=by
 have h1:=sumV_bnd (values t)
 have h2:=sumV_bnd (t.ins.map (inV f))
 unfold feeP
 split
 ·simp
 ·split
  ·simp
  ·split
   ·simp
   ·split
    ·simp
    ·split
     ·simp
     ·simp only;omega
end Go.K
end
section
namespace Go.K
open Go Go.Proofs.YtbidkcjendncaaaGreatDoor
theorem step_le {l:List En} {t:Tx} {i:Nat} {h:Int} (hg:CG l) (h0:(oneL l t i h).2.1=0) (hi:0<i):tot (oneL l t i h).1≤tot l:=by
 rw [one_tot hg h0]
 by_cases hb:grantB t=true
 ·have h1:=(one_zero h0).1
  have hc:=may_check h1
  unfold mayL at h1
  rw [if_pos hb,if_neg (by rw [hc];decide),if_pos (.inl hi)] at h1
  exact absurd h1 (by decide)
 ·rw [if_neg hb]
  have:=(feeP_bnd (aget l) t h).1
  omega
theorem run_le {l0:List En} {h:Int}:∀(txs:List Tx) (i:Nat) {m:List En},CG m→0<i→(runL l0 h i txs m).2.1=0→tot (runL l0 h i txs m).1≤tot m
 | [],_,_,_,_,_=>Int.le_refl _
 |t::ts,i,m,hm,hi,h0=>by
  unfold runL at h0 ⊢
  split at h0
  ·rename_i hc;exact absurd h0 hc
  ·rename_i hc
   rw [if_neg hc]
   have hc:(oneL m t i h).2.1=0:=by simpa using hc
   have h1:=run_le ts (i+1) (oneL_cg hm t i h) (by omega) h0
   have h2:=step_le hm hc hi
   omega
def grantV:List Tx→Int
 | []=>0
 |t::_=>if grantB t then sumV (values t) else 0
theorem apply_le {m:List En} {txs:List Tx} {h:Int} (hm:CG m) (h0:(applyL m txs h).2.1=0):tot (applyL m txs h).1≤tot m+grantV txs:=by
 unfold applyL at h0 ⊢
 split at h0
 ·exact absurd h0 (show ¬(3:Int)=0 by decide)
 ·rename_i hr
  rw [if_neg hr]
  cases txs with
  |nil=>simp [runL,grantV]
  |cons t ts=>
   unfold runL at h0 ⊢
   split at h0
   ·rename_i hc;exact absurd h0 hc
   ·rename_i hc
    rw [if_neg hc]
    have hc:(oneL m t 0 h).2.1=0:=by simpa using hc
    have h1:=run_le ts (0+1) (oneL_cg hm t 0 h) (by omega) h0
    have h2:=one_tot hm hc
    have h3:=(feeP_bnd (aget m) t h).1
    have e:grantV (t::ts)=if grantB t then sumV (values t) else 0:=rfl
    rw [e]
    split at h2
    ·rename_i hb;rw [if_pos hb];omega
    ·rename_i hb;rw [if_neg hb];omega
theorem grantV_bnd (txs:List Tx):0≤grantV txs∧grantV txs≤2100000000000000:=by
 cases txs with
 |nil=>simp [grantV]
 |cons t ts=>
  have h1:=sumV_bnd (values t)
  have e:grantV (t::ts)=if grantB t then sumV (values t) else 0:=rfl
  rw [e]
  split<;>omega
theorem grantV_pos {txs:List Tx} (h:0<txs.length):grantV txs=if grantB txs[0] then sumV (values txs[0]) else 0:=by
 cases txs with
 |nil=>simp at h
 |cons t ts=>rfl
end Go.K
end
section
namespace Go.Proofs.YtbidkcjendncaaaGreatDoor
open Go Go.K
attribute [local irreducible] regK codeK retK KOp.wp K.Spec u32 leS vnS str zero32 checkT grantB applyL encT idT sizeT EtR lessL grantV
set_option maxHeartbeats 16000000 in
set_option maxRecDepth 4000 in
theorem blockValues_law {v:Value} {ls:List (List BSm)} (w:World) (hg:EtR w) (hz:SlR (listR bsmR) [] w v ls):K.Spec Tryz.prog F.kedgelaw12_BlockValues [v] w fun r w'=>r=.bool true∧Ext w w':=by
 refine s_kedgelaw12_BlockValues rfl ?_
 unfold k_kedgelaw12_BlockValues
 refine oy ?_
 repeat (first|refine go1 ?_|refine zg (fun _ _=>?_)|refine zi (fun _ _=>?_))
 refine zC (d:=some 12) rfl (pnew_spec _) ?_
 rintro _ w1 ⟨b,mb,rfl,S1,hb1,hb2,x1⟩
 repeat (first|(refine zG (d:=some 15) (E:=listR bsmR) (M:= []) (l:=ls) rfl (SlR.ext hz (by exact fx)) ?_)|(refine st_takeR (d:=some 17) (E:=listR bsmR) (n:=min ls.length 6) rfl rfl (by omega) hz (by omega) rfl (fun v' hv'=>?_))|(refine zG (d:=some 18) (E:=listR bsmR) (M:= []) (l:=ls.take (min ls.length 6)) rfl (SlR.ext hv' (by exact fx)) ?_)|(first|refine go1 ?_|refine zg (fun _ _=>?_)|refine zi (fun _ _=>?_)))
 have hSl:(ls.take (min ls.length 6)).length≤6:=by rw [List.length_take];omega
 generalize ls.take (min ls.length 6)=S at*
 refine c_loopV (fun (p:Nat × Value × List En) w'=>Ext w w'∧p.1≤S.length∧SetP T.coins_Set w' b mb p.2.2∧SlE entE w' p.2.1 p.2.2∧CG p.2.2∧SC p.2.2∧p.2.2.length≤15*p.1) (fun p=> [(3,.pointer (some ⟨b,0,none⟩)),(4,p.2.1),(17,v'),(18,.int .i64 (S.length:Nat)),(19,.int .i64 (p.1:Nat))]) (fun p=>S.length - p.1) (0,.slice none 0 0, []) ⟨rfl,rfl,rfl,rfl,rfl,trivial⟩ ⟨x1,by simp,S1,SlE.nil _,CG.nil,SC.nil,by simp⟩ ?_
 rintro ⟨i,lv,m⟩ ρ w4 ⟨x4,hi,S4,hm4,g4,sc4,hml⟩
 simp only at hi S4 hm4 g4 sc4 hml
 dsimp only
 have s4:=x4.size
 have hM4:∀y∈ [b,mb],y<w4.heap.size:=fun y hy=>by simp at hy;rcases hy with rfl|rfl;exact S4.lt.1;exact S4.lt.2
 have hMb:∀y∈ [b,mb],w.heap.size≤y:=fun y hy=>by simp at hy;rcases hy with rfl|rfl;exact hb1;exact hb2
 repeat (first|refine go1 ?_|refine zg (fun _ _=>?_)|refine zi (fun _ _=>?_))
 refine zL (x:=.tmp 20) (p:=((i:Nat):Int)<((S.length:Nat):Int)) rfl (fun h5=>?_) (fun h5=>?_)
 ·have hil:i<S.length:=by omega
  have hvM:SlR (listR bsmR) [b,mb] w4 v' S:=hv'.step x4 (by simp) (fun y hy=>.inr (hMb y hy))
  have ek:((i:Nat):Int)+1=((i+1:Nat):Int):=by omega
  repeat (first|(refine st_elemR (d:=some 22) (E:=listR bsmR) (M:= [b,mb]) rfl rfl (n:=i) (l:=S) hvM rfl hil (fun ad cs r4 he=>?_);obtain ⟨tv,rfl,htv⟩:=id he)|(first|refine go1 ?_|refine zg (fun _ _=>?_)|refine zi (fun _ _=>?_)))
  rw [ek]
  refine zC (d:=some 28) rfl (made12b_spec (M:= [b,mb]) (l:=m) (zs:=S[i]) ((i+1:Nat):Int) _ hm4 g4 sc4 htv (by omega) (by omega) hM4) ?_
  rintro vtx w7 ⟨txs,oT,htl,hmk,x7⟩
  have hT:SlR txR [b,mb] w7 vtx txs:=oT.slB hM4
  have hsm:∀t∈txs,t.Sm:=fun t ht=>(hmk t ht).sm
  have hou:=outsB_mk5 hmk htl
  have hM7:∀y∈ [b,mb],y<w7.heap.size:=fun y hy=>Nat.lt_of_lt_of_le (hM4 y hy) x7.size
  repeat (first|refine go1 ?_|refine zg (fun _ _=>?_)|refine zi (fun _ _=>?_))
  refine zC (d:=some 30) rfl (ptotal_spec _ (S4.ext x7)) ?_
  rintro _ w7b ⟨rfl,x7b⟩
  have x47:Ext w4 w7b:=x7.trans x7b
  repeat (first|refine go1 ?_|refine zg (fun _ _=>?_)|refine zi (fun _ _=>?_))
  rw [ek]
  refine zC (d:=some 36) rfl (bapply_spec (M:= [b,mb]) (txs:=txs) (l:=m) ((i+1:Nat):Int) _ (S4.ext x47) g4 sc4 (by simp) (by simp) (fun y hy=>Nat.lt_of_lt_of_le (hM7 y hy) x7b.size) (hT.ext x7b) hsm (by omega) (by omega)) ?_
  rintro _ w8 ⟨sv,mv,e,rfl,E8,S8,hA,hB,c8⟩
  have hm8:SlE entE w8 lv m:=SlE.offS (hm4.ext x47) (S4.ext x47) c8
  have hT8:SlR txR [b,mb] w8 vtx txs:=(hT.ext x7b).step c8 (fun y hy=>.inl hy) (fun y hy=>.inl hy)
  have x08:Ext w w8:=(Ext.chg (x4.trans x47) c8).mono (fun y hy=>.inr (hMb y hy))
  have gn:=applyL_cg g4 txs ((i+1:Nat):Int)
  have scn:=applyL_sc g4 sc4 txs ((i+1:Nat):Int)
  have nl:=applyL_len g4 txs ((i+1:Nat):Int)
  have kb:=applyL_bad (l:=m) (txs:=txs) (b:=((i+1:Nat):Int))
  have kle:=apply_le (m:=m) (txs:=txs) (h:=((i+1:Nat):Int)) g4
  have o12:sv.oneCell'=true∧mv.oneCell'=true:=by
   by_cases h0:(applyL m txs ((i+1:Nat):Int)).2.1=0
   ·obtain ⟨h1,h2, -⟩:=hA h0
    obtain ⟨_,_,q⟩:=h1.form
    obtain ⟨_,_,q2⟩:=h2.form
    rw [q,q2];exact ⟨rfl,rfl⟩
   ·obtain ⟨rfl,rfl⟩:=hB h0;exact ⟨rfl,rfl⟩
  have ones2:([sv,mv]:List Value).all (fun v=>v.oneCell')=true:=by simp [o12.1,o12.2]
  repeat (first|(refine zE (d':=9) (fun _=>rfl) rfl rfl ones2 (fun b11 w9 x9 a9 (r9:Row w9 ⟨b11,0,none⟩ [sv,mv]) hb11=>?_))|(first|refine go1 ?_|refine zg (fun _ _=>?_)|refine zi (fun _ _=>?_)))
  by_cases h0:(applyL m txs ((i+1:Nat):Int)).2.1=0
  ·obtain rfl:=E8.nilD.1 h0
   have kle:=kle h0
   repeat (first|refine go1 ?_|refine zg (fun _ _=>?_)|refine zi (fun _ _=>?_))
   rw [ek]
   refine zC (d:=some 46) rfl (apply12_spec (M:= [b,mb]) (l:=m) (txs:=txs) ((i+1:Nat):Int) _ (hm8.ext x9) g4 sc4 (hT8.ext x9) hsm (by omega) (by omega)) ?_
   rintro _ w10 ⟨vl,rfl,hvl,x10⟩
   have x810:Ext w8 w10:=x9.trans x10
   have S10:=S8.ext x810
   have hT10:=hT8.ext x810
   have x010:Ext w w10:=x08.trans x810
   have tg:=(goodB_iff _).1 gn.mon.good
   have tm:=(goodB_iff _).1 g4.mon.good
   have gb:=grantV_bnd txs
   clear E8 S8 hA hB c8 x9 x10 x810 a9 r9 hT hT8 oT hm8 hvM he x7 x7b x47 hm4
   generalize applyL m txs ((i+1:Nat):Int)=ap at*
   obtain ⟨n,c,at_,in_⟩:=ap
   simp only at S10 hvl gn scn nl kle tg
   have fin:∀{w':World},Ext w10 w'→(Ext w w'∧i+1≤S.length∧SetP T.coins_Set w' b mb n∧SlE entE w' vl n∧CG n∧SC n∧n.length≤15*(i+1)):=fun x=>⟨x010.trans x,by omega,S10.ext x,hvl.ext x,gn,scn,by omega⟩
   by_cases hp:0<txs.length
   ·have gp:=grantV_pos hp
    have hs0:=hsm _ (List.getElem_mem hp)
    repeat (first|(refine zG (d:=some 52) (E:=txR) (M:= [b,mb]) (l:=txs) rfl hT10 ?_)|(refine st_fixV (d:=some 53) (.bool true) rfl (congrArg (fun b=>some (Value.bool b)) (decide_eq_true (by omega))) ?_)|(refine st_elemR (d:=some 56) (E:=txR) (M:= [b,mb]) rfl rfl (n:=0) (l:=txs) hT10 rfl hp (fun ad cs r11 he=>?_);obtain ⟨iv,ov,rfl, -⟩:=id he)|(first|refine go1 ?_|refine zg (fun _ _=>?_)|refine zi (fun _ _=>?_)))
    refine zC (d:=some 58) rfl (tbase_spec (M:= [b,mb]) (cs:=txCs txs[0] iv ov) (t:=txs[0]) _ he hs0) ?_
    rintro _ w11 ⟨rfl,x11⟩
    cases hgr:grantB txs[0] with
    |true=>
     rw [hgr,if_pos rfl] at gp
     repeat (first|(refine st_elemR (d:=some 62) (E:=txR) (M:= [b,mb]) rfl rfl (n:=0) (l:=txs) (hT10.ext x11) rfl hp (fun ad2 cs2 r12 he2=>?_);obtain ⟨iv2,ov2,rfl, -⟩:=id he2)|(first|refine go1 ?_|refine zg (fun _ _=>?_)|refine zi (fun _ _=>?_)))
     refine zC (d:=some 64) rfl (ttotal_spec (M:= [b,mb]) (cs:=txCs txs[0] iv2 ov2) (t:=txs[0]) _ he2 hs0) ?_
     rintro _ w12 ⟨rfl,x12⟩
     rw [←gp]
     repeat (first|refine go1 ?_|refine zg (fun _ _=>?_)|refine zi (fun _ _=>?_))
     refine zC (d:=some 68) rfl (ptotal_spec _ (S10.ext (x11.trans x12))) ?_
     rintro _ w13 ⟨rfl,x13⟩
     repeat (first|(refine st_fixV (d:=some 72) (.bool false) rfl (congrArg (fun b=>some (Value.bool b)) (decide_eq_false (by omega))) ?_)|(first|refine go1 ?_|refine zg (fun _ _=>?_)|refine zi (fun _ _=>?_)))
     exact ⟨(i+1,vl,n),⟨rfl,rfl,rfl,rfl,rfl,trivial⟩,fin ((x11.trans x12).trans x13),by simp only;omega⟩
    |false=>
     rw [hgr,if_neg (by decide)] at gp
     repeat (first|refine go1 ?_|refine zg (fun _ _=>?_)|refine zi (fun _ _=>?_))
     refine zC (d:=some 68) rfl (ptotal_spec _ (S10.ext x11)) ?_
     rintro _ w13 ⟨rfl,x13⟩
     repeat (first|(refine st_fixV (d:=some 72) (.bool false) rfl (congrArg (fun b=>some (Value.bool b)) (decide_eq_false (by omega))) ?_)|(first|refine go1 ?_|refine zg (fun _ _=>?_)|refine zi (fun _ _=>?_)))
     exact ⟨(i+1,vl,n),⟨rfl,rfl,rfl,rfl,rfl,trivial⟩,fin (x11.trans x13),by simp only;omega⟩
   ·have e0:txs= []:=List.length_eq_zero_iff.1 (by omega)
    have gp:grantV txs=0:=by rw [e0];unfold grantV;rfl
    repeat (first|(refine zG (d:=some 52) (E:=txR) (M:= [b,mb]) (l:=txs) rfl hT10 ?_)|(refine st_fixV (d:=some 53) (.bool false) rfl (congrArg (fun b=>some (Value.bool b)) (decide_eq_false (by omega))) ?_)|(first|refine go1 ?_|refine zg (fun _ _=>?_)|refine zi (fun _ _=>?_)))
    refine zC (d:=some 68) rfl (ptotal_spec _ S10) ?_
    rintro _ w13 ⟨rfl,x13⟩
    repeat (first|(refine st_fixV (d:=some 72) (.bool false) rfl (congrArg (fun b=>some (Value.bool b)) (decide_eq_false (by omega))) ?_)|(first|refine go1 ?_|refine zg (fun _ _=>?_)|refine zi (fun _ _=>?_)))
    exact ⟨(i+1,vl,n),⟨rfl,rfl,rfl,rfl,rfl,trivial⟩,fin x13,by simp only;omega⟩
  ·obtain ⟨et,eu,rfl⟩:=E8.nilD.2 h0
   rw [kb h0] at S8
   repeat (first|refine go1 ?_|refine zg (fun _ _=>?_)|refine zi (fun _ _=>?_))
   exact ⟨(i+1,lv,m),⟨rfl,rfl,rfl,rfl,rfl,trivial⟩,⟨x08.trans x9,by simp only;omega,S8.ext x9,hm8.ext x9,g4,sc4,by simp only;omega⟩,by simp only;omega⟩
 ·repeat (first|refine go1 ?_|refine zg (fun _ _=>?_)|refine zi (fun _ _=>?_))
  refine zC (d:=some 74) rfl (wakes12_spec _ (hg.ext x4)) ?_
  rintro _ w5 ⟨rfl,x5⟩
  repeat (first|refine go1 ?_|refine zg (fun _ _=>?_)|refine zi (fun _ _=>?_))
  exact x_ret rfl ⟨rfl,x4.trans x5⟩
end Go.Proofs.YtbidkcjendncaaaGreatDoor
end
