/- Plain: chains of blocks. Plain: blocks' transactions, made of small numbers. What comes in for the laws of pools. What comes in for the laws of blocks and chains. The engine, part 22: lists of lists; heads of slices of one's own. The engine, part 11: the sort's worlds. The engine, part 23: steps that tell what was drawn. Contracts: the order of points (by the library's comparisons). DERIVED: THE S -/
import Derived.Test.YtbidkcjendncaaaGreatRows
import Derived.Test.YtbidkcjendncaaaGreatChecked
import Derived.ProofKit
import Derived.ShutString
import Derived.ChangeOld
import Derived.Below
import Derived.Shelf.SlSortCmp.WholeK
import Derived.Shelf.SlSortCmp.NoneTotal
import Derived.Ground.SlsfProg
import Derived.Test.YtbidkcjendncaaaGreatProg
import Derived.Test.YtbidkcjendncaaaGreatCa20
set_option linter.unusedVariables false
set_option linter.unusedSimpArgs false
section
namespace Go.K
open Go Go.Proofs.YtbidkcjendncaaaGreat
def SC (l:List En):Prop:=∀e∈l,e.2.s.size≤40∧is32 e.1.i
theorem SC.nil:SC []:=by simp [SC]
theorem SC.take {l:List En} (h:SC l) (hs:Srt l) (p:Pt):SC (refTake l p):=fun e he=>by
 rw [refTake_adel hs] at he
 exact h e (List.mem_filter.1 he).1
theorem SC.put {l:List En} (h:SC l) (hs:Srt l) {p:Pt} {c:Cn} (hc:c.s.size≤40∧is32 p.i):SC (refPut l p c):=fun e he=>by
 by_cases h0:refPutCode l p c=0
 ·rcases List.mem_append.1 ((put_perm hs h0).mem_iff.1 he) with he|he
  ·exact h e he
  ·simp at he;subst he;exact hc
 ·unfold refPut at he;rw [if_neg h0] at he;exact h e he
theorem takeAll_sc:∀(ins:List TIn) {l:List En},CG l→SC l→SC (takeAll l ins)
 | [],_,_,h=>h
 |x::xs,_,hg,h=>takeAll_sc xs (hg.take x.p) (h.take hg.srt x.p)
theorem payL_sc {s:ByteArray} {h:Int}:∀(os:List TOut) (i:Nat) {m:List En},i+os.length≤4294967296→CG m→(∀o∈os,o.s.size≤40)→SC m→SC (payL s h i os m).1
 | [],_,_,_,_,_,hm=>hm
 |o::os,i,m,hi,hg,ho,hm=>by
  rw [List.length_cons] at hi
  unfold payL
  split
  ·exact hm
  ·exact payL_sc os (i+1) (by omega) (hg.put _ _) (fun y hy=>ho y (by simp [hy])) (hm.put hg.srt ⟨ho o (by simp),by show is32 ((i:Nat):Int);unfold is32;omega⟩)
theorem fee_check {f:Pt→Option Cn} {t:Tx} {h:Int} (h0:(feeP f t h).2.1=0):checkT t=0:=by
 unfold feeP at h0
 split at h0
 ·exact h0
 ·rename_i hc;simpa using hc
theorem may_check {l:List En} {t:Tx} {i:Nat} {h:Int} (h0:(mayL l t i h).1=0):checkT t=0:=by
 unfold mayL at h0
 split at h0
 ·split at h0
  ·exact h0
  ·rename_i hc;simpa using hc
 ·exact fee_check h0
theorem check_scr {t:Tx} (h:checkT t=0):∀o∈t.outs,o.s.size≤40:=by
 intro o ho
 unfold checkT at h
 split at h
 ·cases h
 ·split at h
  ·cases h
  ·rename_i hl
   simp only [longB,Bool.or_eq_true,not_or,List.any_eq_true,not_exists,not_and] at hl
   have:=hl.1 o ho
   simp only [longOut,decide_eq_true_eq] at this
   omega
theorem check_outs {t:Tx} (h:checkT t=0):t.outs.length≤256:=by
 unfold checkT at h
 split at h
 ·cases h
 ·rename_i hc
  simp only [Bool.not_eq_true',Bool.not_eq_false] at hc
  simp only [countsB,Bool.and_eq_true,decide_eq_true_eq] at hc
  omega
theorem midL_sc {l:List En} (hg:CG l) (h:SC l) (t:Tx):SC (midL l t):=by
 unfold midL
 split
 ·exact h
 ·exact takeAll_sc _ hg h
theorem oneL_sc {l:List En} (hg:CG l) (h:SC l) (t:Tx) (i:Nat) (b:Int):SC (oneL l t i b).1:=by
 unfold oneL
 split
 ·exact h
 ·rename_i hm
  split
  ·exact h
  ·have hc:=may_check (l:=l) (t:=t) (i:=i) (h:=b) (by simpa using hm)
   exact payL_sc _ _ (by have:=check_outs hc;omega) (midL_cg hg t) (check_scr hc) (midL_sc hg h t)
theorem runL_sc {l0:List En} {h:Int} (h0:SC l0):∀(txs:List Tx) (i:Nat) {m:List En},CG m→SC m→SC (runL l0 h i txs m).1
 | [],_,_,_,hm=>hm
 |t::ts,i,m,hg,hm=>by
  unfold runL
  split
  ·exact h0
  ·exact runL_sc h0 ts (i+1) (oneL_cg hg t i h) (oneL_sc hg hm t i h)
theorem applyL_sc {l:List En} (hg:CG l) (h:SC l) (txs:List Tx) (b:Int):SC (applyL l txs b).1:=by
 unfold applyL
 split
 ·exact h
 ·exact runL_sc h txs 0 hg h
theorem applyL_len {l:List En} (hg:CG l) (txs:List Tx) (b:Int):(applyL l txs b).1.length≤l.length+outsB txs:=by
 unfold applyL
 split
 ·simp
 ·have:=runL_len (l0:=l) (h:=b) txs 0 hg (by omega)
  omega
structure Ch where
 bs:List (List Tx)
 top:Nat
def coinsN (bs:List (List Tx)):Nat→List En
 |0=> []
 |k+1=>(applyL (coinsN bs k) (bs.getD k []) ((k+1:Nat):Int)).1
def coinsC (bs:List (List Tx)):List En:=coinsN bs bs.length
theorem coinsN_cg (bs:List (List Tx)):∀k,CG (coinsN bs k)
 |0=>CG.nil
 |k+1=>applyL_cg (coinsN_cg bs k) _ _
theorem coinsN_sc (bs:List (List Tx)):∀k,SC (coinsN bs k)
 |0=>SC.nil
 |k+1=>applyL_sc (coinsN_cg bs k) (coinsN_sc bs k) _ _
theorem coinsN_len {bs:List (List Tx)} {n:Nat} (h:∀b∈bs,outsB b≤n):∀k,(coinsN bs k).length≤n*k
 |0=>by simp [coinsN]
 |k+1=>by
  have h1:=coinsN_len h k
  have h2:=applyL_len (coinsN_cg bs k) (bs.getD k []) ((k+1:Nat):Int)
  have h3:outsB (bs.getD k [])≤n:=by
   rw [List.getD_eq_getElem?_getD]
   cases hk:bs[k]? with
   |none=>simp [outsB]
   |some b=>exact h b (List.mem_of_getElem? hk)
  have e:coinsN bs (k+1)=(applyL (coinsN bs k) (bs.getD k []) ((k+1:Nat):Int)).1:=rfl
  rw [e,Nat.mul_succ];omega
theorem coinsN_more (bs:List (List Tx)) (x:List Tx):∀k,k≤bs.length→coinsN (bs++ [x]) k=coinsN bs k
 |0,_=>rfl
 |k+1,h=>by
  have e1:(bs++ [x]).getD k []=bs.getD k []:=by
   rw [List.getD_eq_getElem?_getD,List.getD_eq_getElem?_getD,List.getElem?_append_left (by omega)]
  unfold coinsN
  rw [coinsN_more bs x k (by omega),e1]
theorem coinsC_snoc (bs:List (List Tx)) (x:List Tx):coinsC (bs++ [x])=(applyL (coinsC bs) x ((bs.length+1:Nat):Int)).1:=by
 unfold coinsC
 rw [List.length_append]
 show (applyL (coinsN (bs++ [x]) bs.length) ((bs++ [x]).getD bs.length []) ((bs.length+1:Nat):Int)).1=_
 rw [coinsN_more bs x _ (Nat.le_refl _)]
 have e:(bs++ [x]).getD bs.length []=x:=by simp [List.getD_eq_getElem?_getD]
 rw [e]
theorem coinsN_take (bs:List (List Tx)):∀(k n:Nat),k≤n→n≤bs.length→coinsN (bs.take n) k=coinsN bs k
 |0,_,_,_=>rfl
 |k+1,n,h,hn=>by
  have e1:(bs.take n).getD k []=bs.getD k []:=by
   rw [List.getD_eq_getElem?_getD,List.getD_eq_getElem?_getD,List.getElem?_take_of_lt (by omega)]
  unfold coinsN
  rw [coinsN_take bs k n (by omega) hn,e1]
theorem coinsC_take {bs:List (List Tx)} {n:Nat} (hn:n≤bs.length):coinsC (bs.take n)=coinsN bs n:=by
 unfold coinsC
 rw [List.length_take,Nat.min_eq_left hn]
 exact coinsN_take bs n n (Nat.le_refl _) hn
def ChOk (c:Ch):Prop:=(∀k,k<c.bs.length→(applyL (coinsN c.bs k) (c.bs.getD k []) ((k+1:Nat):Int)).2.1=0)∧c.bs.length≤c.top
def connE (c:Ch) (x:List Tx):Int × Int:=((applyL (coinsC c.bs) x ((c.bs.length+1:Nat):Int)).2.1,(applyL (coinsC c.bs) x ((c.bs.length+1:Nat):Int)).2.2.1)
def connC (c:Ch) (x:List Tx):Ch:=if (connE c x).1≠0 then c else ⟨c.bs++ [x],max c.top (c.bs.length+1)⟩
def discE (c:Ch):Int:=if c.bs.length=0 then 8 else if c.bs.length+6≤c.top then 18 else 0
def discC (c:Ch):Ch:=if discE c≠0 then c else ⟨c.bs.take (c.bs.length - 1),c.top⟩
theorem ChOk.new:ChOk ⟨[],0⟩:=⟨fun k h=>absurd h (by simp),by simp⟩
theorem ChOk.conn {c:Ch} (h:ChOk c) (x:List Tx):ChOk (connC c x):=by
 unfold connC
 by_cases h0:(connE c x).1=0
 ·rw [if_neg (by rw [h0];decide)]
  refine ⟨fun k hk=>?_,by simp;omega⟩
  simp only [List.length_append,List.length_cons,List.length_nil] at hk
  simp only
  rw [coinsN_more _ _ k (by omega)]
  by_cases hk2:k<c.bs.length
  ·have e1:(c.bs++ [x]).getD k []=c.bs.getD k []:=by
    rw [List.getD_eq_getElem?_getD,List.getD_eq_getElem?_getD,List.getElem?_append_left hk2]
   rw [e1];exact h.1 k hk2
  ·have:k=c.bs.length:=by omega
   subst this
   have e:(c.bs++ [x]).getD c.bs.length []=x:=by simp [List.getD_eq_getElem?_getD]
   rw [e];exact h0
 ·rw [if_pos h0];exact h
structure Lk where
 txs:List Tx
 spent:List En
 made:List En
def lkN (bs:List (List Tx)) (k:Nat):Lk:=⟨bs.getD k [],lessL (coinsN bs k) (coinsN bs (k+1)),lessL (coinsN bs (k+1)) (coinsN bs k)⟩
def linksL (bs:List (List Tx)):List Lk:=(List.range bs.length).map (lkN bs)
theorem linksL_len (bs:List (List Tx)):(linksL bs).length=bs.length:=by simp [linksL]
theorem linksL_snoc (bs:List (List Tx)) (x:List Tx):linksL (bs++ [x])=linksL bs++ [⟨x,lessL (coinsC bs) (applyL (coinsC bs) x ((bs.length+1:Nat):Int)).1,lessL (applyL (coinsC bs) x ((bs.length+1:Nat):Int)).1 (coinsC bs)⟩]:=by
 unfold linksL
 rw [List.length_append,List.length_singleton,List.range_succ,List.map_append]
 congr 1
 ·refine List.map_congr_left fun k hk=>?_
  have hk:=List.mem_range.1 hk
  unfold lkN
  rw [coinsN_more _ _ k (by omega),coinsN_more _ _ (k+1) (by omega)]
  have e1:(bs++ [x]).getD k []=bs.getD k []:=by
   rw [List.getD_eq_getElem?_getD,List.getD_eq_getElem?_getD,List.getElem?_append_left hk]
  rw [e1]
 ·simp only [List.map_cons,List.map_nil]
  unfold lkN
  have e:(bs++ [x]).getD bs.length []=x:=by simp [List.getD_eq_getElem?_getD]
  have e2:=coinsC_snoc bs x
  unfold coinsC at e2
  rw [List.length_append,List.length_singleton] at e2
  rw [e,coinsN_more _ _ _ (Nat.le_refl _),e2];rfl
theorem linksL_take {bs:List (List Tx)} {n:Nat} (h:n≤bs.length):linksL (bs.take n)=(linksL bs).take n:=by
 unfold linksL
 rw [←List.map_take,List.take_range,List.length_take,Nat.min_eq_left h]
 refine List.map_congr_left fun k hk=>?_
 have hk:=List.mem_range.1 hk
 unfold lkN
 rw [coinsN_take _ k _ (by omega) h,coinsN_take _ (k+1) _ (by omega) h]
 have e1:(bs.take n).getD k []=bs.getD k []:=by
  rw [List.getD_eq_getElem?_getD,List.getD_eq_getElem?_getD,List.getElem?_take_of_lt (by omega)]
 rw [e1]
theorem linksL_at {bs:List (List Tx)} {k:Nat} (h:k<bs.length):(linksL bs)[k]'(by rw [linksL_len];exact h)=lkN bs k:=by
 unfold linksL
 rw [List.getElem_map,List.getElem_range]
theorem back_swap {bs:List (List Tx)} {k:Nat}:swapL (coinsN bs (k+1)) (lkN bs k).made (lkN bs k).spent=(true,coinsN bs k):=swap_less (coinsN_cg bs (k+1)) (coinsN_cg bs k)
end Go.K
end
section
namespace Go.K
open Go Go.Proofs.YtbidkcjendncaaaGreat
structure BSm where
 spends:List UInt8
 tag:UInt8
 fee:Int
 outs:Int
 pays:UInt8
 delay:UInt8
 height:UInt8
 grant:Bool
 odd:Bool
instance:Inhabited BSm:=⟨⟨[],0,0,0,0,0,0,false,false⟩⟩
def bsmCs (z:BSm) (fv:Value):List Value:= [fv,u8V z.tag,.int .u16 z.fee,.int .u16 z.outs,u8V z.pays,u8V z.delay,u8V z.height,.bool z.grant,.bool z.odd]
def bsmR:R BSm where
 k:=9
 pos:=by decide
 ag:=true
 rel:=fun M w cs z=>∃fv,cs=bsmCs z fv∧SlR u8R M w fv z.spends∧(0≤z.fee∧z.fee≤65535)∧0≤z.outs∧z.outs≤65535
 len:=fun ⟨_,h,_⟩=>by rw [h];rfl
 one:=fun ⟨fv,h,hs,_⟩ v hv=>by
  obtain ⟨b,c,rfl⟩:=hs.form
  subst h;simp [bsmCs] at hv;rcases hv with rfl|rfl|rfl|rfl|rfl|rfl|rfl|rfl|rfl<;>rfl
 step:=fun ⟨fv,h,hs,h2⟩ c hL hM=>⟨fv,h,hs.step c hL hM,h2⟩
structure BAct where
 act:UInt8
 txs:List BSm
instance:Inhabited BAct:=⟨⟨0, []⟩⟩
def bactR:R BAct where
 k:=2
 pos:=by decide
 ag:=true
 rel:=fun M w cs a=>∃tv,cs= [u8V a.act,tv]∧SlR bsmR M w tv a.txs
 len:=fun ⟨_,h,_⟩=>by rw [h];rfl
 one:=fun ⟨tv,h,hs⟩ v hv=>by
  obtain ⟨b,c,rfl⟩:=hs.form
  subst h;simp at hv;rcases hv with rfl|rfl<;>rfl
 step:=fun ⟨tv,h,hs⟩ c hL hM=>⟨tv,h,hs.step c hL hM⟩
structure MkOk (t:Tx):Prop where
 ins:t.ins.length≤4
 outs:t.outs.length≤3
 wit:∀x∈t.ins,x.wit.length≤1
 vals:∀o∈t.outs,0≤o.v∧o.v≤8400000000000000
theorem MkOk.sm {t:Tx} (h:MkOk t):t.Sm:=⟨by have:=h.ins;omega,by have:=h.outs;omega,fun x hx=>by have:=h.wit x hx;omega⟩
end Go.K
end
section
namespace Go.Proofs.YtbidkcjendncaaaGreat
open Go Go.K Go.ChangeShapes Go.WideShapes Go.ChangeAt Go.RowKit
set_option maxRecDepth 100000
theorem own:ownKnob Tryz.prog.godebug=none:=by kernel_rfl
theorem laidOut:laidOutB Tryz.prog=true:=by kernel_rfl
theorem c_u8:Tryz.prog.cellsOf 5=1:=by kernel_rfl
theorem c_u32:Tryz.prog.cellsOf 47=1:=by kernel_rfl
theorem c_string:Tryz.prog.cellsOf 9=1:=by kernel_rfl
theorem c_u16:Tryz.prog.cellsOf 86=1:=by kernel_rfl
theorem c_bool:Tryz.prog.cellsOf 4=1:=by kernel_rfl
theorem c_point:Tryz.prog.cellsOf 49=2:=by kernel_rfl
theorem c_lu8:Tryz.prog.cellsOf 85=1:=by kernel_rfl
theorem reads_u8 {W:World} {c:List Value} (h:Reads Tryz.prog W 5 c):∃b:UInt8,c= [u8V b]:=by
 obtain ⟨n,e,h1,h2⟩:=reads_int Tryz.underlying5 h
 have h1:0≤n:=h1
 have h2:n≤255:=h2
 refine ⟨UInt8.ofNat n.toNat,?_⟩
 have:(UInt8.ofNat n.toNat).toNat=n.toNat:=by rw [UInt8.toNat_ofNat'];omega
 unfold u8V
 rw [e,this]
 congr 2;omega
theorem reads_u32 {W:World} {c:List Value} (h:Reads Tryz.prog W 47 c):∃n:Int,c= [.int .u32 n]∧is32 n:=by
 obtain ⟨n,e,h1,h2⟩:=reads_int Tryz.underlying47 h
 have h1:0≤n:=h1
 have h2:n≤4294967295:=h2
 exact ⟨n,e,by unfold is32;omega⟩
theorem reads_point {W:World} {c:List Value} (h:Reads Tryz.prog W 49 c):∃p:Pt,c=p.cs∧is32 p.i:=by
 obtain ⟨h1,h2⟩:=reads_struct Tryz.underlying49 h
 have l:c.length=2:=h1.trans c_point
 match c,l with
 | [c0,c1],_=>
  have g0:=h2 _ (List.mem_of_getElem? (i:=0) rfl)
  have g1:=h2 _ (List.mem_of_getElem? (i:=1) rfl)
  obtain ⟨s,e0,_⟩:=reads_string Tryz.underlying9 g0
  obtain ⟨i,e1,hi⟩:=reads_u32 g1
  simp only [c_string,c_u32,List.drop_zero,List.drop_succ_cons,List.take_succ_cons,List.take_zero,List.cons.injEq,and_true] at e0 e1
  exact ⟨⟨s,i⟩,by rw [e0,e1];rfl,hi⟩
theorem reads_u16 {W:World} {c:List Value} (h:Reads Tryz.prog W 86 c):∃n:Int,c= [.int .u16 n]∧0≤n∧n≤65535:=by
 obtain ⟨n,e,h1,h2⟩:=reads_int Tryz.underlying86 h
 exact ⟨n,e,h1,h2⟩
end Go.Proofs.YtbidkcjendncaaaGreat
end
section
namespace Go.Proofs.YtbidkcjendncaaaGreat
open Go Go.K Go.ChangeShapes Go.WideShapes Go.ChangeAt Go.RowKit
set_option maxRecDepth 100000
theorem c_lbsm:Tryz.prog.cellsOf 28=1:=by kernel_rfl
theorem reads_bsm {W:World} {c:List Value} (h:Reads Tryz.prog W 88 c):∃z:BSm,bsmR.rel [] W c z:=by
 obtain ⟨h1,h2⟩:=reads_struct Tryz.underlying88 h
 have l:c.length=9:=h1.trans (by kernel_rfl)
 match c,l with
 | [c0,c1,c2,c3,c4,c5,c6,c7,c8],_=>
  have g0:=h2 _ (List.mem_of_getElem? (i:=0) rfl)
  have g1:=h2 _ (List.mem_of_getElem? (i:=1) rfl)
  have g2:=h2 _ (List.mem_of_getElem? (i:=2) rfl)
  have g3:=h2 _ (List.mem_of_getElem? (i:=3) rfl)
  have g4:=h2 _ (List.mem_of_getElem? (i:=4) rfl)
  have g5:=h2 _ (List.mem_of_getElem? (i:=5) rfl)
  have g6:=h2 _ (List.mem_of_getElem? (i:=6) rfl)
  have g7:=h2 _ (List.mem_of_getElem? (i:=7) rfl)
  have g8:=h2 _ (List.mem_of_getElem? (i:=8) rfl)
  simp only [c_lu8,List.drop_zero,List.drop_succ_cons,List.take_succ_cons,List.take_zero] at g0
  obtain ⟨frm,hf,hfl⟩:=reads_slR u8R Tryz.underlying85 (by kernel_rfl) (fun c hc=>by
   obtain ⟨b,e⟩:=reads_u8 hc
   exact ⟨b,by subst e;rfl⟩) g0
  obtain ⟨b1,e1⟩:=reads_u8 g1
  obtain ⟨n2,e2,hn2⟩:=reads_u16 g2
  obtain ⟨n3,e3,hn3⟩:=reads_u16 g3
  obtain ⟨b4,e4⟩:=reads_u8 g4
  obtain ⟨b5,e5⟩:=reads_u8 g5
  obtain ⟨b6,e6⟩:=reads_u8 g6
  obtain ⟨o7,e7⟩:=reads_bool Tryz.underlying4 g7
  obtain ⟨o8,e8⟩:=reads_bool Tryz.underlying4 g8
  simp only [c_u8,c_u16,c_bool,List.drop_zero,List.drop_succ_cons,List.take_succ_cons,List.take_zero,List.cons.injEq,and_true] at e1 e2 e3 e4 e5 e6 e7 e8
  exact ⟨⟨frm,b1,n2,n3,b4,b5,b6,o7,o8⟩,c0,by rw [e1,e2,e3,e4,e5,e6,e7,e8];rfl,hf,hn2,hn3⟩
theorem reads_bsms {W:World} {v:Value} (h:Reads Tryz.prog W 28 [v]):∃l,SlR bsmR [] W v l∧l.length≤maxLen:=
 reads_slR bsmR Tryz.underlying28 (by kernel_rfl) (fun _ h=>reads_bsm h) h
theorem reads_bact {W:World} {c:List Value} (h:Reads Tryz.prog W 30 c):∃z:BAct,bactR.rel [] W c z:=by
 obtain ⟨h1,h2⟩:=reads_struct Tryz.underlying30 h
 have l:c.length=2:=h1.trans (by kernel_rfl)
 match c,l with
 | [c0,c1],_=>
  have g0:=h2 _ (List.mem_of_getElem? (i:=0) rfl)
  have g1:=h2 _ (List.mem_of_getElem? (i:=1) rfl)
  obtain ⟨b0,e0⟩:=reads_u8 g0
  simp only [c_lbsm,List.drop_zero,List.drop_succ_cons,List.take_succ_cons,List.take_zero] at g1
  obtain ⟨l,hl,_⟩:=reads_bsms g1
  simp only [c_u8,List.drop_zero,List.drop_succ_cons,List.take_succ_cons,List.take_zero,List.cons.injEq,and_true] at e0
  exact ⟨⟨b0,l⟩,c1,by rw [e0],hl⟩
theorem reads_bacts {W:World} {v:Value} (h:Reads Tryz.prog W 22 [v]):∃l,SlR bactR [] W v l∧l.length≤maxLen:=
 reads_slR bactR Tryz.underlying22 (by kernel_rfl) (fun _ h=>reads_bact h) h
end Go.Proofs.YtbidkcjendncaaaGreat
end
section
namespace Go.K
open Go
def listR {α:Type} (E:R α):R (List α) where
 k:=1
 pos:=by decide
 ag:=false
 rel:=fun M w cs x=>∃v,cs= [v]∧SlR E M w v x
 len:=fun ⟨_,h,_⟩=>by rw [h];rfl
 one:=fun ⟨v,h,hs⟩ u hu=>by
  obtain ⟨b,c,e⟩:=hs.form
  subst h;simp at hu;subst hu;rw [e];rfl
 step:=fun ⟨v,h,hs⟩ c hL hM=>⟨v,h,hs.step c hL hM⟩
def enR:R En:=R.flat entE true
theorem SlR.en {M:List Nat} {w:World} {v:Value} {l:List En} (h:SlR enR M w v l):SlE entE w v l:=SlR.toE (F:=entE) (ag:=true) h
theorem SlE.en {M:List Nat} {w:World} {v:Value} {l:List En} (h:SlE entE w v l) (hb:∀b∈blkOf v,b∉M):SlR enR M w v l:=SlE.toR (F:=entE) (ag:=true) h hb
section
variable {α:Type} {E:R α} {t:TypeId} {B:Nat} {M:List Nat} {w:World}
theorem flat_split {k:Nat} {hk:0<k} (css:List (Vec k)) (n:Nat):(vecE k hk).flat css=(vecE k hk).flat (css.take n)++(vecE k hk).flat (css.drop n):=by
 conv=>lhs;rw [←List.take_append_drop n css]
 unfold Enc.flat
 rw [List.flatMap_append]
theorem OwnR.cut {b:Nat} {len cap n:Nat} {l:List α} (h:OwnR E t B M w (.slice (some ⟨b,0,none⟩) len cap) l) (hn:n≤l.length):OwnR E t B M w (.slice (some ⟨b,0,none⟩) n cap) (l.take n):=by
 obtain ⟨css,h1,h2⟩:=h
 have hl:=h2.length
 rcases h1 with ⟨e, -⟩|⟨b',cap',junk,e,hB,hat,hln⟩
 ·cases e
 ·simp only [Value.slice.injEq,Option.some.injEq,Addr.mk.injEq,and_true] at e
  obtain ⟨rfl, -,rfl⟩:=e
  refine ⟨css.take n,.inr ⟨b,cap,(vecE E.k E.pos).flat (css.drop n)++junk,?_,hB,?_,?_⟩,?_⟩
  ·rw [List.length_take,Nat.min_eq_left (by omega)]
  ·rw [←List.append_assoc,←flat_split];exact hat
  ·rw [←List.append_assoc,←flat_split];exact hln
  ·exact All2.take n h2
theorem OwnR.form {v:Value} {l:List α} (h:OwnR E t B M w v l):(v=.slice none 0 0∧l= [])∨∃b cap,v=.slice (some ⟨b,0,none⟩) l.length cap∧l.length≤cap:=by
 obtain ⟨css,h1,h2⟩:=h
 have hl:=h2.length
 rcases h1 with ⟨rfl,rfl⟩|⟨b,cap,junk,rfl,hB,hat,hln⟩
 ·exact .inl ⟨rfl,h2.left_nil⟩
 ·refine .inr ⟨b,cap,by rw [hl],?_⟩
  rw [List.length_append,Enc.flat_length] at hln
  have hk:=E.pos
  have h3:css.length*E.k≤cap*E.k:=by
   have e:(vecE E.k E.pos).k=E.k:=rfl
   rw [e] at hln;omega
  have:=Nat.le_of_mul_le_mul_right h3 hk
  omega
end
end Go.K
end
section
namespace Go.K
open Go Go.Proofs Go.Sort
variable {α:Type} {E:Enc α}
theorem Enc.flat_get (E:Enc α) (l:List α) (i c:Nat) (hi:i<l.length) (hc:c<E.k):(E.flat l)[i*E.k+c]? =(E.f l[i])[c]? :=by
 have:=E.flat_at l i hi
 rw [←this,List.getElem?_take,if_pos hc,List.getElem?_drop]
theorem flatK_eq [Inhabited α] (E:Enc α) (d:Array α) (t:Nat) (h:t<d.size*E.k):(E.flat d.toList)[t]? =some ((flatK E.f E.k d)[t]!):=by
 have hk:=E.pos
 have hi:t / E.k<d.size:=Nat.div_lt_of_lt_mul (by rw [Nat.mul_comm];exact h)
 have hc:t%E.k<E.k:=Nat.mod_lt _ hk
 rw [get_flatK _ _ _ _ h]
 have e:t=t / E.k*E.k+t%E.k:=by rw [Nat.mul_comm];exact (Nat.div_add_mod t E.k).symm
 conv=>lhs;rw [e]
 rw [E.flat_get d.toList _ _ (by simpa using hi) hc]
 have hl:t%E.k<(E.f d[t / E.k]).length:=by rw [E.len];exact hc
 rw [show d[t / E.k]! =d[t / E.k] from getElem!_pos d _ hi,List.getElem!_eq_getElem?_getD]
 simp [List.getElem?_eq_getElem hl]
theorem holds_of_at [Inhabited α] {w:World} {b:Nat} {t:TypeId} {l:List α} {junk:List Value} (h:At w b (.cells (E.flat l++junk).toArray t (0,0))):HoldsK E.f E.k w b 0 l.toArray:=by
 intro j hj
 rw [size_flatK] at hj
 have hf:=flatK_eq E l.toArray j hj
 have hlt:j<(E.flat l).length:=by rw [E.flat_length];simpa using hj
 unfold At at h
 constructor
 ·simp only [World.cell?,h,Nat.zero_add]
  simp only [List.getElem?_toArray]
  rw [List.getElem?_append_left hlt]
  simpa using hf
 ·simp [World.frozen?,h]
theorem row_of_holds [Inhabited α] {w:World} {b:Nat} {d:Array α} (h:HoldsK E.f E.k w b 0 d):Row w ⟨b,0,none⟩ (E.flat d.toList):=by
 intro j v hj
 have hlt:j<d.size*E.k:=by
  have:=(List.getElem?_eq_some_iff.1 hj).1
  rw [E.flat_length] at this;simpa using this
 have h1:=(h j (by rw [size_flatK];exact hlt)).1
 rw [flatK_eq E d j hlt] at hj
 have e:(Addr.add ⟨b,0,none⟩ j)=⟨b,0+j,none⟩:=by unfold Addr.add;split<;>simp_all
 rw [e,h1];exact hj
theorem sorted_chg [Inhabited α] (E:Enc α) (w:World) (b n:Nat) (d:Array α) (os:Array Obj):Chg [b] w (sortWorldK E.f E.k w b 0 n d os):=by
 refine ⟨rfl,rfl,rfl,?_,fun i hi hn=>?_⟩
 ·simp [sortWorldK,putRowK]
 ·have hne:b≠i:=by simp at hn;omega
  unfold sortWorldK
  rw [heap_grow_old _ _ (by rw [putRowK,Go.Sort.size_putRow];exact hi)]
  show (Array.modify _ b _)[i]? =_
  rw [Array.getElem?_modify,if_neg hne];rfl
theorem perm_all [Inhabited α] {d d':Array α} (h:PermIn 0 d.size d d'):d'.toList.Perm d.toList:=by
 obtain ⟨h1,_,h3⟩:=h
 have e1:d.extract 0 d.size=d:=by simp
 have e2:d'.extract 0 d.size=d':=by rw [←h1];simp
 rwa [e1,e2] at h3
theorem sorted_all [Inhabited α] {lt:α→α→Bool} {d:Array α} {n:Nat} (hn:d.size=n) (h:SortedIn lt 0 n d):d.toList.Pairwise fun a b=>lt b a=false:=by
 subst hn
 rw [List.pairwise_iff_getElem]
 intro i j hi hj hij
 have:=h i j (Nat.zero_le _) hij (by simpa using hj)
 simp only [Array.length_toList] at hi hj
 rw [getElem!_pos d j hj,getElem!_pos d i hi] at this
 simpa using this
theorem Own.free {t:TypeId} {B:Nat} {w:World} {v:Value} {l:List α} {x:Nat} {o:Obj} (h:Own E t B w v l) (ha:At w x o) (hn:∀cs t,o≠.cells cs t (0,0)):x∉blkOf v:=by
 rcases h with ⟨rfl,rfl⟩|⟨b,cap,junk,rfl,hB,hat,hlen⟩
 ·simp [blkOf]
 ·simp only [blkOf,List.mem_singleton]
  rintro rfl
  exact hn _ _ (ha.inj hat)
theorem sort_at {P:Program} [Inhabited α] {v:Value} {l:List α} {t:TypeId} {B:Nat} {w:World} {f g:FuncId} {lt:α→α→Bool} (ho:Own E t B w v l)
  (hnil:∀cap,K.Spec P f [.slice none 0 cap,.func (.func g) #[] #[]] w fun r w'=>r=.tuple #[]∧w'=w)
  (hc:∀b cap,v=.slice (some ⟨b,0,none⟩) l.length cap→HoldsK E.f E.k w b 0 l.toArray→b<w.heap.size→Calls P f #[.slice (some ⟨b,0,none⟩) l.toArray.size cap,.func (.func g) #[] #[]] w fun e w'=>
   e=.returned (.tuple #[])∧∃d' n os,PermIn 0 l.toArray.size l.toArray d'∧SortedIn lt 0 l.toArray.size d'∧w'=sortWorldK E.f E.k w b 0 n d' os):
  K.Spec P f [v,.func (.func g) #[] #[]] w fun r w'=>r=.tuple #[]∧∃l':List α,l'.Perm l∧l'.Pairwise (fun a b=>lt b a=false)∧SlE E w' v l'∧Chg (blkOf v) w w':=by
 rcases ho with ⟨rfl,rfl⟩|⟨b,cap,junk,rfl,hB,hat,hlen⟩
 ·refine (hnil 0).mono fun e w' ⟨r,he,hr,hw⟩=>⟨r,he,hr, [],List.Perm.refl _,List.Pairwise.nil,SlE.nil _,by rw [hw];exact Chg.refl _ _⟩
 ·have hH:=holds_of_at hat
  have h:=hc b cap rfl hH hat.lt
  have es:l.toArray.size=l.length:=by simp
  rw [es] at h
  refine h.mono fun e w' ⟨he,d',n,os,hp,hs,hw⟩=>?_
  have hp':PermIn 0 l.toArray.size l.toArray d':=by rw [es];exact hp
  have hpl:d'.toList.Perm l:=by have:=perm_all hp';simpa using this
  have hsz:d'.size=l.length:=by have:=hpl.length_eq;simpa using this
  subst hw
  refine ⟨_,he,rfl,d'.toList,hpl,sorted_all hsz hs,?_,sorted_chg E w b n d' os⟩
  have hr:=row_of_holds (holdsK_sortWorldK E.f E.k w b 0 n l.toArray d' os hat.lt hH (by simp [hsz]))
  have hle:l.length≤cap:=by
   rw [List.length_append,E.flat_length] at hlen
   exact Nat.le_of_mul_le_mul_right (show l.length*E.k≤cap*E.k by omega) E.pos
  exact ⟨E.flat_length _,some ⟨b,0,none⟩,cap,by simp [hsz],by simp [hsz,hle],fun _=>⟨_,rfl,hr⟩⟩
end Go.K
end
section
namespace Go.K
open Go
section
variable {P:Program} {d:Option Tmp} {r:KR} {K:Env→World→Prop} {ρ:Env} {w:World}
theorem st_boxD {t:TypeId} {x:Operand} {v:Value} {cs:List Value} (hx:ev ρ x=v) (hc:v.cells=cs.toArray) (k:∀b w',Ext w w'→w'.drawn=w.drawn→Row w' ⟨b,0,none⟩ cs→regK P r K (put ρ d (.pointer (some ⟨b,0,none⟩))) w'):regK P (.cons ⟨d,.box t x,none⟩ r) K ρ w:=
 st_wp (by subst hx;have h:=At.new w (.cells cs.toArray t);rw [←hc] at h;exact k _ _ (Ext.alloc w _) rfl (Row.of_at (by rw [←hc];exact h)))
theorem st_buildSliceD {t:TypeId} {ln:Nat} {zs cs:List Value} {ps:List (Nat × Nat × Operand)} (hf:fillK (ev ρ) zs ps=some cs) (k:∀b w',Ext w w'→w'.drawn=w.drawn→At w' b (.cells cs.toArray t (0,0))→regK P r K (put ρ d (.slice (some ⟨b,0,none⟩) ln ln)) w'):regK P (.cons ⟨d,.buildSlice t ln zs ps,none⟩ r) K ρ w:=
 st_wp ⟨cs,hf,k _ _ (Ext.alloc w _) rfl (At.new w _)⟩
theorem c_sregdD {b:KC} {K:Exit→Env→World→Prop} (h:∀w',Ext w w'→w.drawn≤w'.drawn→regK P r (codeK P b K) ρ w'):codeK P (.seq (.reg true r) b) K ρ w:=h _ (Ext.drew w) (Nat.le_succ w.drawn)
end
theorem g_splitN {P:Program} {r:KR} {K:Env→World→Prop} {ρ:Env} {w:World} {d:Option Tmp} {o:KOp} {t:Tmp} {b:Bool} {p:Prop} [Decidable p] (h:ρ t=.bool (!decide p)) (h1:¬p→regK P (.cons ⟨d,o,some (t,b)⟩ r) K (upd ρ t (.bool true)) w) (h2:p→regK P (.cons ⟨d,o,some (t,b)⟩ r) K (upd ρ t (.bool false)) w):regK P (.cons ⟨d,o,some (t,b)⟩ r) K ρ w:=by
 by_cases hp:p
 ·have:=h2 hp;rwa [upd_eq (by rw [h];simp [hp])] at this
 ·have:=h1 hp;rwa [upd_eq (by rw [h];simp [hp])] at this
end Go.K
end
section
namespace Go.Proofs.YtbidkcjendncaaaGreat
open Go Go.K
attribute [local irreducible] regK codeK retK KOp.wp
theorem oisNaN_spec (n:Int) (w:World):K.Spec Tryz.prog F.cmp_isNaN_uint32 [.int .u32 n] w fun v w'=>v=.bool false∧w'=w:=by
 refine s_cmp_isNaN_uint32 rfl ?_
 unfold k_cmp_isNaN_uint32
 refine oy ?_
 repeat (first|refine go ?_|refine zg (fun _ _=>?_)|refine zi (fun _ _=>?_))
 exact x_ret rfl ⟨congrArg Value.bool (by simp),rfl⟩
theorem ocmp32_spec (n m:Int) (w:World):K.Spec Tryz.prog F.cmp_Compare_uint32 [.int .u32 n,.int .u32 m] w fun v w'=>v=.int .i64 (cmpI n m)∧w'=w:=by
 refine s_cmp_Compare_uint32 rfl ?_
 unfold k_cmp_Compare_uint32
 refine oy ?_
 repeat (first|refine go ?_|refine zg (fun _ _=>?_)|refine zi (fun _ _=>?_))
 refine st_call rfl (oisNaN_spec _ _) ?_
 rintro _ _ ⟨rfl,rfl⟩
 repeat (first|refine go ?_|refine zg (fun _ _=>?_)|refine zi (fun _ _=>?_))
 refine st_call rfl (oisNaN_spec _ _) ?_
 rintro _ _ ⟨rfl,rfl⟩
 repeat (first|refine go ?_|refine zg (fun _ _=>?_)|refine zi (fun _ _=>?_))
 refine c_cond rfl (fun h1=>?_) (fun h1=>?_)
 ·repeat (first|refine go ?_|refine zg (fun _ _=>?_)|refine zi (fun _ _=>?_))
  exact x_ret rfl ⟨congrArg (Value.int .i64) (by rw [cmpI,if_pos h1]),rfl⟩
 ·repeat (first|refine go ?_|refine zg (fun _ _=>?_)|refine zi (fun _ _=>?_))
  refine c_cond rfl (fun h2=>?_) (fun h2=>?_)
  ·repeat (first|refine go ?_|refine zg (fun _ _=>?_)|refine zi (fun _ _=>?_))
   exact x_ret rfl ⟨congrArg (Value.int .i64) (by rw [cmpI,if_neg h1,if_pos h2]),rfl⟩
  ·repeat (first|refine go ?_|refine zg (fun _ _=>?_)|refine zi (fun _ _=>?_))
   exact x_ret rfl ⟨congrArg (Value.int .i64) (by rw [cmpI,if_neg h1,if_neg h2]),rfl⟩
def intO:Enc Int:=⟨fun n=> [.int .i64 n],1,fun _=>rfl,by decide,by intro x v hv;simp at hv;subst hv;rfl⟩
theorem oor_spec (a b:Int) (v:Value) (w:World) (hs:SlE intO w v [a,b]):K.Spec Tryz.prog F.cmp_Or_int [v] w fun v w'=>v=.int .i64 (orI a b)∧w'=w:=by
 refine s_cmp_Or_int rfl ?_
 unfold k_cmp_Or_int
 refine oy ?_
 repeat (first|refine go ?_|refine zg (fun _ _=>?_)|refine zi (fun _ _=>?_))
 refine st_len rfl hs ?_
 repeat (first|refine go ?_|refine zg (fun _ _=>?_)|refine zi (fun _ _=>?_))
 refine c_loopV (fun (i:Nat) w'=>w'=w∧i≤2∧(0<i→a=0)∧(1<i→b=0)) (fun i=> [(3,.int .i64 0),(6,v),(7,.int .i64 2),(8,.int .i64 i)]) (fun i=>2 - i) 0 ⟨rfl,rfl,rfl,rfl,trivial⟩ ⟨rfl,by omega,by omega,by omega⟩ ?_
 rintro i ρ _ ⟨rfl,hi,h0,h1⟩
 repeat (first|refine go ?_|refine zg (fun _ _=>?_)|refine zi (fun _ _=>?_))
 refine c_cond rfl (fun h=>?_) (fun h=>?_)
 ·repeat (first|refine go ?_|refine zg (fun _ _=>?_)|refine zi (fun _ _=>?_))
  refine st_elemE rfl rfl hs rfl (by simp;omega) (fun ad r1=>?_)
  repeat (first|refine go ?_|refine zg (fun _ _=>?_)|refine zi (fun _ _=>?_))
  refine c_condN rfl (fun h2=>?_) (fun h2=>?_)
  ·repeat (first|refine go ?_|refine zg (fun _ _=>?_)|refine zi (fun _ _=>?_))
   refine x_ret rfl ⟨congrArg (Value.int .i64) ?_,rfl⟩
   rcases (show i=0∨i=1 by omega) with rfl|rfl
   ·have h3:¬a=0:=h2
    show a=_
    rw [orI,if_neg h3]
   ·show b=_
    rw [orI,if_pos (h0 (by omega))]
  ·repeat (first|refine go ?_|refine zg (fun _ _=>?_)|refine zi (fun _ _=>?_))
   have h3:(i=0→a=0)∧(i=1→b=0):=by
    constructor
    ·rintro rfl;exact h2
    ·rintro rfl;exact h2
   refine ⟨i+1,⟨rfl,rfl,rfl,rfl,trivial⟩,⟨rfl,by omega,fun _=>?_,fun _=>?_⟩,by omega⟩
   ·rcases (show i=0∨i=1 by omega) with e|e
    ·exact h3.1 e
    ·exact h0 (by omega)
   ·exact h3.2 (by omega)
 ·repeat (first|refine go ?_|refine zg (fun _ _=>?_)|refine zi (fun _ _=>?_))
  have:i=2:=by omega
  subst this
  exact x_ret rfl ⟨congrArg (Value.int .i64) (by rw [orI,if_pos (h0 (by omega)),h1 (by omega)]),rfl⟩
theorem ostrcmp_spec (a b:ByteArray) (w:World):K.Spec Tryz.prog F.strings_Compare [.string a,.string b] w fun v w'=>v=.int .i64 (Lib.compareBytes a.data.toList b.data.toList)∧w'=w:=
 (Tryz.strings_Compare a b w).mono fun e w' ⟨he,hw⟩=>⟨_,he,rfl,hw⟩
attribute [local irreducible] K.Spec
theorem otless_spec (p q:Pt) (w:World):K.Spec Tryz.prog F.tx_Less [p.val,q.val] w fun v w'=>v=.bool (ptLt p q)∧Ext w w'∧w.drawn≤w'.drawn:=by
 refine s_tx_Less rfl ?_
 unfold k_tx_Less
 refine oy ?_
 repeat' (first|(refine c_sregdD (fun w3 x3 d3=>?_))|(refine st_boxD (d:=some 2) (cs:=p.cs) rfl rfl (fun b1 w1 x1 d1 r1=>?_))|(refine st_boxD (d:=some 3) (cs:=q.cs) rfl rfl (fun b2 w2 x2 d2 r2=>?_))|refine st_both ?_ ?_|(refine st_call rfl (ostrcmp_spec _ _ _) ?_;rintro _ _ ⟨rfl,rfl⟩)|(refine st_call rfl (ocmp32_spec _ _ _) ?_;rintro _ _ ⟨rfl,rfl⟩)|(refine st_buildSliceD rfl (fun b4 w4 x4 d4 a4=>?_))|(refine st_call rfl (oor_spec (Lib.compareBytes p.s.data.toList q.s.data.toList) (cmpI p.i q.i) _ _ (SlE.new (by assumption) rfl (Nat.le_refl _))) ?_;rintro _ _ ⟨rfl,rfl⟩)|(first|refine go1 ?_|refine zg (fun _ _=>?_)|refine zi (fun _ _=>?_)))
 all_goals exact x_ret rfl ⟨congrArg Value.bool (or_lt p q),by repeat (first|assumption|exact Ext.refl _|refine Ext.trans ?_ (by assumption)),by omega⟩
end Go.Proofs.YtbidkcjendncaaaGreat
end
section
namespace Go.Proofs
open Go.Shelf
def Tryz.sortEntry_ren:Go.Shelf.Ren:=⟨fun|6=>53|15=>77|14=>76|28=>106|29=>107|20=>98|21=>99|22=>100|23=>101|24=>102|25=>103|26=>104|27=>105|46=>138|47=>139|48=>140|49=>141|50=>142|57=>162|n=>n,fun|22=>40|24=>55|25=>139|3=>3|39=>173|0=>0|53=>47|55=>184|4=>4|46=>197|45=>196|50=>74|5=>5|9=>9|66=>228|70=>232|76=>248|77=>113|n=>n,fun|n=>n⟩
theorem Tryz.sortEntry : Go.Proofs.SlLaysF0.n6 Tryz.prog Tryz.sortEntry_ren := {
  mixed := by kernel_rfl
  f6 := ⟨Tryz.f53.name, by decide, Tryz.func53.trans (congrArg some (by kernel_rfl))⟩
  f14 := ⟨Tryz.f76.name, by decide, Tryz.func76.trans (congrArg some (by kernel_rfl))⟩
  f15 := Tryz.func77.trans (congrArg some (by kernel_rfl))
  f20 := ⟨Tryz.f98.name, by decide, Tryz.func98.trans (congrArg some (by kernel_rfl))⟩
  f21 := ⟨Tryz.f99.name, by decide, Tryz.func99.trans (congrArg some (by kernel_rfl))⟩
  f22 := ⟨Tryz.f100.name, by decide, Tryz.func100.trans (congrArg some (by kernel_rfl))⟩
  f23 := ⟨Tryz.f101.name, by decide, Tryz.func101.trans (congrArg some (by kernel_rfl))⟩
  f24 := ⟨Tryz.f102.name, by decide, Tryz.func102.trans (congrArg some (by kernel_rfl))⟩
  f25 := ⟨Tryz.f103.name, by decide, Tryz.func103.trans (congrArg some (by kernel_rfl))⟩
  f26 := ⟨Tryz.f104.name, by decide, Tryz.func104.trans (congrArg some (by kernel_rfl))⟩
  f27 := ⟨Tryz.f105.name, by decide, Tryz.func105.trans (congrArg some (by kernel_rfl))⟩
  f28 := Tryz.func106.trans (congrArg some (by kernel_rfl))
  f29 := Tryz.func107.trans (congrArg some (by kernel_rfl))
  f46 := ⟨Tryz.f138.name, by decide, Tryz.func138.trans (congrArg some (by kernel_rfl))⟩
  f47 := Tryz.func139.trans (congrArg some (by kernel_rfl))
  f48 := Tryz.func140.trans (congrArg some (by kernel_rfl))
  f49 := ⟨Tryz.f141.name, by decide, Tryz.func141.trans (congrArg some (by kernel_rfl))⟩
  f50 := ⟨Tryz.f142.name, by decide, Tryz.func142.trans (congrArg some (by kernel_rfl))⟩
  f57 := ⟨Tryz.f162.name, by decide, Tryz.func162.trans (congrArg some (by kernel_rfl))⟩
  t0 := Tryz.underlying0
  a0 := Tryz.isAgg0
  z0 := Tryz.sizeOf0
  v0 := Tryz.zeroValue0
  t3 := Tryz.underlying3
  a3 := Tryz.isAgg3
  z3 := Tryz.sizeOf3
  v3 := Tryz.zeroValue3
  t4 := Tryz.underlying4
  a4 := Tryz.isAgg4
  z4 := Tryz.sizeOf4
  v4 := Tryz.zeroValue4
  t5 := Tryz.underlying5
  a5 := Tryz.isAgg5
  z5 := Tryz.sizeOf5
  v5 := Tryz.zeroValue5
  t9 := Tryz.underlying9
  a9 := Tryz.isAgg9
  z9 := Tryz.sizeOf9
  v9 := Tryz.zeroValue9
  t22 := Tryz.underlying40
  a22 := Tryz.isAgg40
  z22 := Tryz.sizeOf40
  v22 := Tryz.zeroValue40
  t25 := Tryz.underlying139
  a25 := Tryz.isAgg139
  z25 := Tryz.sizeOf139
  v25 := Tryz.zeroValue139
  t39 := Tryz.underlying173
  a39 := Tryz.isAgg173
  z39 := Tryz.sizeOf173
  v39 := Tryz.zeroValue173
  t45 := Tryz.underlying196
  a45 := Tryz.isAgg196
  z45 := Tryz.sizeOf196
  v45 := Tryz.zeroValue196
  t46 := Tryz.underlying197
  a46 := Tryz.isAgg197
  z46 := Tryz.sizeOf197
  v46 := Tryz.zeroValue197
  t50 := Tryz.underlying74
  a50 := Tryz.isAgg74
  z50 := Tryz.sizeOf74
  v50 := Tryz.zeroValue74
  t53 := Tryz.underlying47
  a53 := Tryz.isAgg47
  z53 := Tryz.sizeOf47
  v53 := Tryz.zeroValue47
  t55 := Tryz.underlying184
  a55 := Tryz.isAgg184
  z55 := Tryz.sizeOf184
  v55 := Tryz.zeroValue184
  t66 := Tryz.underlying228
  a66 := Tryz.isAgg228
  z66 := Tryz.sizeOf228
  v66 := Tryz.zeroValue228
  t70 := Tryz.underlying232
  a70 := Tryz.isAgg232
  z70 := Tryz.sizeOf232
  v70 := Tryz.zeroValue232
  t76 := Tryz.underlying248
  a76 := Tryz.isAgg248
  z76 := Tryz.sizeOf248
  v76 := Tryz.zeroValue248
  t77 := Tryz.underlying113
  a77 := Tryz.isAgg113
  z77 := Tryz.sizeOf113
  v77 := Tryz.zeroValue113 }
end Go.Proofs
end
