/- Contracts: an error's number and place. What lies ahead of laws that ask what errors are; numbers' lists of lists. Pairs of ints that come in. What the kernel checks of PoolPlays' row, apart from its walk. The walk of GraphBoth. Contracts: scores, the worst entry, and trimming, by the document. Plain: marks on the way of the document's conflicts. Contracts: the document's conflicts, and what goes. -/
import Derived.ChangeSame
import Derived.ChangeVars
import Derived.JoinedOf
import Derived.RowKit
import Derived.RowKitTokens
import Derived.LaidLaws
import Derived.LaidHandle
import Derived.Stop.Joined
import Derived.Test.YtfebcajheojodaaGreatDoorChecked
import Derived.Test.YtfebcajheojodaaGreatDoorTie
import Derived.Test.YtfebcajheojodaaGreatDoorCards
import Derived.SevenTiedAt
import Derived.Test.YtfebcajheojodaaGreatDoorDc33
set_option linter.unusedVariables false
set_option linter.unusedSimpArgs false
section
namespace Go.Proofs.YtfebcajheojodaaGreatDoor
open Go Go.K
def EtR (w:World):Prop:=w.cell? ⟨0,0,none⟩=some (.iface 190 (.agg #[.pointer (some ⟨4,41,none⟩)]))
theorem EtR.lt {w:World} (h:EtR w):0<w.heap.size:=cell_lt h
theorem EtR.chg {L:List Nat} {w w':World} (h:EtR w) (x:Chg L w w') (hL:∀y∈L,0<y):EtR w':=by
 unfold EtR at h ⊢
 rw [cell_of_heap (x.block _ (EtR.lt h) (fun hm=>Nat.lt_irrefl _ (hL _ hm)))];exact h
theorem EtR.ext {w w':World} (h:EtR w) (x:Ext w w'):EtR w':=h.chg x (by simp)
theorem at_cell {w:World} {b o:Nat} {cs:List Value} {t:TypeId} {f:Nat × Nat} {v:Value} (h:At w b (.cells cs.toArray t f)) (hv:cs[o]? =some v):w.cell? ⟨b,o,none⟩=some v:=by
 unfold At at h
 simp [World.cell?,h,hv]
theorem at_froz {w:World} {b:Nat} {cs:Array Value} {t:TypeId} (h:At w b (.cells cs t (0,0))) (hp:0<cs.size):w.frozen? ⟨b,0,none⟩=false:=by
 unfold At at h
 simp [World.frozen?,h]
theorem asE_spec (n:Int) (t:Nat) (old:Value) (w:World) (hg:EtR w) (ht0:w.cell? ⟨t,0,none⟩=some old) (hf0:w.frozen? ⟨t,0,none⟩=false):K.Spec Tryz.prog 49 [.iface 53 (.int .i64 n),.iface 121 (.pointer (some ⟨t,0,none⟩))] w fun r w'=>r=.bool true∧Chg [t] w w'∧w'.cell? ⟨t,0,none⟩=some (.int .i64 n):=
 Calls.mono (as_hitE n ⟨t,0,none⟩ old w hg ht0 hf0) fun _ _ h=>⟨_,h.1,rfl,h.2⟩
theorem asE1_spec (n:Int) (b1 t:Nat) (old:Value) (w:World) (hg:EtR w) (hc1:w.cell? ⟨b1,1,none⟩=some (.iface 53 (.int .i64 n))) (ht0:w.cell? ⟨t,0,none⟩=some old) (hf0:w.frozen? ⟨t,0,none⟩=false):K.Spec Tryz.prog 49 [.iface 122 (.pointer (some ⟨b1,0,none⟩)),.iface 121 (.pointer (some ⟨t,0,none⟩))] w fun r w'=>r=.bool true∧Chg [t] w w'∧w'.cell? ⟨t,0,none⟩=some (.int .i64 n):=
 Calls.mono (as_hitE1 n b1 ⟨t,0,none⟩ old w hg hc1 ht0 hf0) fun _ _ h=>⟨_,h.1,rfl,h.2⟩
theorem asE2_spec (n:Int) (b1 b2 t:Nat) (old:Value) (w:World) (hg:EtR w) (hc1:w.cell? ⟨b1,1,none⟩=some (.iface 122 (.pointer (some ⟨b2,0,none⟩)))) (hc2:w.cell? ⟨b2,1,none⟩=some (.iface 53 (.int .i64 n))) (ht0:w.cell? ⟨t,0,none⟩=some old) (hf0:w.frozen? ⟨t,0,none⟩=false):K.Spec Tryz.prog 49 [.iface 122 (.pointer (some ⟨b1,0,none⟩)),.iface 121 (.pointer (some ⟨t,0,none⟩))] w fun r w'=>r=.bool true∧Chg [t] w w'∧w'.cell? ⟨t,0,none⟩=some (.int .i64 n):=
 Calls.mono (as_hitE2 n b1 b2 ⟨t,0,none⟩ old w hg hc1 hc2 ht0 hf0) fun _ _ h=>⟨_,h.1,rfl,h.2⟩
theorem asF_spec (b1 t:Nat) (old:Value) (w:World) (hg:EtR w) (ht0:w.cell? ⟨t,0,none⟩=some old) (hf0:w.frozen? ⟨t,0,none⟩=false):K.Spec Tryz.prog 49 [.iface 122 (.pointer (some ⟨b1,0,none⟩)),.iface 123 (.pointer (some ⟨t,0,none⟩))] w fun r w'=>r=.bool true∧Chg [t] w w'∧w'.cell? ⟨t,0,none⟩=some (.pointer (some ⟨b1,0,none⟩)):=
 Calls.mono (as_hitF b1 ⟨t,0,none⟩ old w hg ht0 hf0) fun _ _ h=>⟨_,h.1,rfl,h.2⟩
theorem asFm_spec (n:Int) (t:Nat) (w:World) (hg:EtR w):K.Spec Tryz.prog 49 [.iface 53 (.int .i64 n),.iface 123 (.pointer (some ⟨t,0,none⟩))] w fun r w'=>r=.bool false∧Ext w w':=
 Calls.mono (as_missF n ⟨t,0,none⟩ w hg) fun _ _ h=>⟨_,h.1,rfl,h.2⟩
attribute [local irreducible] regK codeK retK KOp.wp K.Spec EtR
theorem err_num {w:World} {v:Value} {c a:Int} (h:ErrR w 0 v c a) (hc:c≠0):v=errno c:=by
 rcases h with ⟨-,⟨h, -⟩|⟨-,h⟩⟩
 ·exact absurd h hc
 ·exact h
theorem asCode {w:World} {v:Value} {c a:Int} {t:Nat} (hg:EtR w) (h:ErrR w 2 v c a) (h0:c≠0) (at1:At w t (.cells [Value.int .i64 0].toArray T.api_Errno (0,0))):K.Spec Tryz.prog F.errors_As [v,.iface T.P_api_Errno (.pointer (some ⟨t,0,none⟩))] w fun r w'=>r=.bool true∧Chg [t] w w'∧w'.cell? ⟨t,0,none⟩=some (.int .i64 c):=by
 have hc:=at_cell (o:=0) at1 rfl
 have hf:=at_froz at1 (by simp)
 rcases h with (h1|⟨hc1, -,b1,u1,a1,rfl,hb1,h1⟩)|⟨hc1, -,b1,u1,a1,rfl,hb1,(h1|⟨hc2, -,b2,u2,a2,rfl,hb2,h2⟩)⟩
 ·obtain rfl:=err_num h1 h0
  exact asE_spec c t _ w hg hc hf
 ·obtain rfl:=err_num h1 h0
  exact asE1_spec c b1 t _ w hg (at_cell hb1 rfl) hc hf
 ·obtain rfl:=err_num h1 h0
  exact asE1_spec c b1 t _ w hg (at_cell hb1 rfl) hc hf
 ·obtain rfl:=err_num h2 h0
  exact asE2_spec c b1 b2 t _ w hg (at_cell hb1 rfl) (at_cell hb2 rfl) hc hf
theorem code_spec {w:World} {v:Value} {c a:Int} (hg:EtR w) (h:ErrR w 2 v c a):K.Spec Tryz.prog F.api_Code [v] w fun r w'=>r=.int .i64 c∧Ext w w':=by
 obtain ⟨n1,n2⟩:=h.nil_iff
 by_cases h0:c=0
 ·obtain ⟨rfl, -⟩:=n1 h0
  subst h0
  refine s_api_Code rfl ?_
  unfold k_api_Code
  refine oy ?_
  repeat (first|(refine zH (d:=some 3) (fun b3 w1 x1 a3 hb3=>?_))|(first|refine go1 ?_|refine zg (fun _ _=>?_)|refine zi (fun _ _=>?_)))
  exact x_ret rfl ⟨rfl,x1⟩
 ·obtain ⟨et,eu,rfl⟩:=n2 h0
  refine s_api_Code rfl ?_
  unfold k_api_Code
  refine oy ?_
  repeat (first|(refine zH (d:=some 3) (fun b3 w1 x1 a3 hb3=>?_))|(first|refine go1 ?_|refine zg (fun _ _=>?_)|refine zi (fun _ _=>?_)))
  refine zC (d:=some 9) rfl (asCode (hg.ext x1) (ErrR.ext x1 h) h0 a3) ?_
  rintro _ w2 ⟨rfl,c2,e2⟩
  repeat (first|(refine st_load (d:=some 11) rfl e2 ?_)|(first|refine go1 ?_|refine zg (fun _ _=>?_)|refine zi (fun _ _=>?_)))
  exact x_ret rfl ⟨rfl,(Ext.chg x1 c2).mono (fun y hy=>.inr (by simp at hy;omega))⟩
theorem place_spec {w:World} {v:Value} {c a:Int} (hg:EtR w) (h:ErrR w 2 v c a):K.Spec Tryz.prog F.api_Place [v] w fun r w'=>r=.int .i64 a∧Ext w w':=by
 obtain ⟨n1,n2⟩:=h.nil_iff
 by_cases h0:c=0
 ·obtain ⟨rfl,rfl⟩:=n1 h0
  refine s_api_Place rfl ?_
  unfold k_api_Place
  refine oy ?_
  repeat (first|(refine zH (d:=some 3) (fun b3 w1 x1 a3 hb3=>?_))|(first|refine go1 ?_|refine zg (fun _ _=>?_)|refine zi (fun _ _=>?_)))
  exact x_ret rfl ⟨rfl,x1⟩
 ·have hs:(v=errno c∧a= -1)∨∃b u,v=.iface T.P_api_Fault (.pointer (some ⟨b,0,none⟩))∧At w b (.cells [.int .i64 a,u].toArray T.api_Fault (0,0)):=by
   rcases h with (h1|⟨hc1, -,b1,u1,a1,rfl,hb1,h1⟩)|⟨hc1, -,b1,u1,a1,rfl,hb1, -⟩
   ·exact .inl ⟨err_num h1 h0,h1.1⟩
   ·exact .inr ⟨b1,u1,rfl,hb1⟩
   ·exact .inr ⟨b1,u1,rfl,hb1⟩
  rcases hs with ⟨rfl,rfl⟩|⟨b1,u1,rfl,hb1⟩
  ·refine s_api_Place rfl ?_
   unfold k_api_Place
   refine oy ?_
   repeat (first|(refine zH (d:=some 3) (fun b3 w1 x1 a3 hb3=>?_))|(first|refine go1 ?_|refine zg (fun _ _=>?_)|refine zi (fun _ _=>?_)))
   refine zC (d:=some 9) rfl (asFm_spec c b3 w1 (hg.ext x1)) ?_
   rintro _ w2 ⟨rfl,x2⟩
   repeat (first|refine go1 ?_|refine zg (fun _ _=>?_)|refine zi (fun _ _=>?_))
   exact x_ret rfl ⟨rfl,x1.trans x2⟩
  ·refine s_api_Place rfl ?_
   unfold k_api_Place
   refine oy ?_
   repeat (first|(refine zH (d:=some 3) (fun b3 w1 x1 a3 hb3=>?_))|(first|refine go1 ?_|refine zg (fun _ _=>?_)|refine zi (fun _ _=>?_)))
   refine zC (d:=some 9) rfl (asF_spec b1 b3 _ w1 (hg.ext x1) (at_cell (o:=0) a3 rfl) (at_froz a3 (by simp))) ?_
   rintro _ w2 ⟨rfl,c2,e2⟩
   have hb2:=(At.ext x1 hb1).chg c2 (by have:=hb1.lt;simp;omega)
   have r2:=Row.of_at hb2
   repeat (first|(refine st_load (d:=some 11) rfl e2 ?_)|(first|refine go1 ?_|refine zg (fun _ _=>?_)|refine zi (fun _ _=>?_)))
   exact x_ret rfl ⟨rfl,(Ext.chg x1 c2).mono (fun y hy=>.inr (by simp at hy;omega))⟩
end Go.Proofs.YtfebcajheojodaaGreatDoor
end
section
namespace Go.Proofs.YtfebcajheojodaaGreatDoor
open Go Go.K Go.ChangeShapes Go.WideShapes Go.ChangeAt Go.RowKit
set_option maxRecDepth 100000
theorem et_at:Tryz.prog.globalNamed "errors.errorType" =some 0:=by kernel_rfl
theorem rt_at:(Tryz.prog.cutTypes.find? (·.1== "internal/reflectlite.rtype")).map (·.2)=some 190:=by kernel_rfl
theorem et_row:((List.range 337).filter fun t=>Tryz.prog.rowNamed t [101,114,114,111,114])= [41]:=by kernel_rfl
theorem et_size:Tryz.prog.types.size=337:=by kernel_rfl
abbrev laidE:List (String × DataW Unit):= [("errors.errorType",Rows.laid_errors_errorType)]
theorem etr_of_laid {W:World} (h:laidMetH Tryz.prog laidE W):EtR W:=by
 have h':laidMet Tryz.prog [] W∧handlesMet Tryz.prog laidE W:=h
 obtain ⟨name,u,ty,e1,e2,e3,e4,e5⟩:=h'.2 _ (List.mem_singleton.2 rfl)
 have en:name= [101,114,114,111,114]:=(Option.some.inj e1).symm
 subst en
 obtain rfl:=Option.some.inj (rt_at.symm.trans e2)
 have hm:ty∈(List.range 337).filter fun t=>Tryz.prog.rowNamed t [101,114,114,111,114]:=List.mem_filter.2 ⟨List.mem_range.2 (by rw [←et_size];exact e3),e4⟩
 rw [et_row] at hm
 obtain rfl:=List.mem_singleton.1 hm
 have hh:typeHandle Tryz.prog 41=.pointer (some ⟨4,41,none⟩):=by kernel_rfl
 rw [hh] at e5
 unfold EtR
 simpa using World.var?_cell et_at e5 0
noncomputable def laidWorld (os : Os) : World :=
  let w0 := World.holding Tryz.prog os ⟨#[], #[], []⟩
  { w0 with heap := w0.heap.modify 0 fun
      | .cells _ t frozen => .cells #[.iface 190 (.agg #[.pointer (some ⟨4, 41, none⟩)])] t frozen
      | o => o }
theorem laidWorld_met (os:Os) (args:Array Value):laidMetH Tryz.prog laidE ((laidWorld os).forCall (fun _ _=>0) ⟨#[],args, []⟩).memory:=
 laidMetH_of_parts (laidMet_nil _ _) (by kernel_rfl)
end Go.Proofs.YtfebcajheojodaaGreatDoor
end
section
namespace Go.Proofs.YtfebcajheojodaaGreatDoor
open Go Go.K Go.ChangeShapes Go.WideShapes Go.ChangeAt Go.RowKit
set_option maxRecDepth 100000
theorem okWide_twoi {W:World} {base:Nat} {v:Value} (h:Value.okWide Tryz.prog W .any base 61 v):∃c0 c1,v=.agg #[c0,c1]:=by
 simp only [Value.okWide,Tryz.underlying61] at h
 obtain ⟨cs,h1,h2,_⟩:=h
 have h2:cs.size=2:=h2.trans (by kernel_rfl)
 obtain ⟨l⟩:=cs
 match l,h2 with
 | [c0,c1],_=>exact ⟨c0,c1,h1⟩
theorem reads_twoi {W:World} {c0 c1:Value} (h:Reads Tryz.prog W 61 [c0,c1]):∃y0 y1:Int,c0=.int .i64 y0∧c1=.int .i64 y1∧is64 y0∧is64 y1:=by
 obtain ⟨H,enc,base,spare,held,fuel,x,hf⟩:=h
 cases fuel with
 |zero=>simp [DataW.trod] at hf
 |succ n=>
  rw [DataW.trod_step] at hf
  unfold DataW.trodStep at hf
  simp only [Tryz.underlying61] at hf
  rw [if_pos (show ([c0,c1]:List Value).length=Tryz.prog.cellsOf 61 by kernel_rfl)] at hf
  simp only [Option.map_eq_some_iff] at hf
  obtain ⟨xs,hx,e1⟩:=hf
  rw [show List.range 2= [0,1] from rfl,List.mapM_cons,List.mapM_cons,List.mapM_nil] at hx
  simp only [bind,Option.bind_eq_some_iff,pure,Option.some.injEq,c_int] at hx
  obtain ⟨y0,h0,_,⟨y1,h1,_,rfl,rfl⟩,rfl⟩:=hx
  obtain ⟨a,ea,ha⟩:=reads_i64 (W:=W) (c:= [c0]) ⟨H,enc,base,spare,held,n,y0,h0⟩
  obtain ⟨b,eb,hb⟩:=reads_i64 (W:=W) (c:= [c1]) ⟨H,enc,base,spare,held,n,y1,h1⟩
  simp only [List.cons.injEq,and_true] at ea eb
  exact ⟨a,b,ea,eb,ha,hb⟩
end Go.Proofs.YtfebcajheojodaaGreatDoor
end
section
namespace Go.Proofs.YtfebcajheojodaaGreatDoor
open Go Go.K Go.ChangeShapes Go.WideShapes Go.ChangeAt Go.RowKit
set_option linter.unusedVariables false
set_option maxRecDepth 100000
theorem poolPlays_facts:joinedFacts Tryz.pinned.checked.prog 4 Tryz.f4 Rows.poolPlaysSpec Rows.poolPlaysRow=true:=of_decide_eq_true (by kernel_rfl)
end Go.Proofs.YtfebcajheojodaaGreatDoor
end
section
namespace Go.Proofs.YtfebcajheojodaaGreatDoor
open Go Go.K
attribute [local irreducible] regK codeK retK KOp.wp K.Spec u32 leS vnS str zero32 sha2 encT idT sizeT checkT grantB idN stepR workL reachE findI dropG addG aboveL belowL inS idsOf
end Go.Proofs.YtfebcajheojodaaGreatDoor
end
section
namespace Go.Proofs.YtfebcajheojodaaGreatDoor
open Go Go.K
attribute [local irreducible] regK codeK retK KOp.wp K.Spec u32 leS vnS str zero32 sha2 encT idT sizeT checkT grantB idN stepR workL reachE findI dropG addG aboveL belowL idsOf feeD sizeD feeOf szOf cmpR leftL dropAll
end Go.Proofs.YtfebcajheojodaaGreatDoor
end
section
namespace Go.K
open Go Go.Proofs.YtfebcajheojodaaGreatDoor
def marksI (f:Nat→Bool) (n i:Nat) (cur:Bool):List Bool:=(List.range n).map fun j=>if j<i then f j else if j=i then cur else false
theorem marksI_len (f:Nat→Bool) (n i:Nat) (cur:Bool):(marksI f n i cur).length=n:=by simp [marksI]
theorem marksI_zero (f:Nat→Bool) (n:Nat):marksI f n 0 false=List.replicate n false:=by
 unfold marksI
 apply List.ext_getElem
 ·simp
 ·intro j h1 h2
  simp
theorem marksI_at {f:Nat→Bool} {n i:Nat} {cur:Bool} (h:i<n):(marksI f n i cur)[i]'(by rw [marksI_len];exact h)=cur:=by
 simp [marksI]
theorem marksI_set {f:Nat→Bool} {n i:Nat} {cur x:Bool} (h:i<n):(marksI f n i cur).set i x=marksI f n i x:=by
 unfold marksI
 apply List.ext_getElem
 ·simp
 ·intro j h1 h2
  rw [List.getElem_set]
  by_cases e:i=j
  ·subst e;simp
  ·rw [if_neg e]
   simp only [List.getElem_map,List.getElem_range]
   by_cases h3:j<i
   ·rw [if_pos h3,if_pos h3]
   ·rw [if_neg h3,if_neg h3,if_neg (fun h=>e h.symm),if_neg (fun h=>e h.symm)]
theorem marksI_next {f:Nat→Bool} {n i:Nat}:marksI f n i (f i)=marksI f n (i+1) false:=by
 unfold marksI
 apply List.map_congr_left
 intro j _
 by_cases h1:j<i
 ·rw [if_pos h1,if_pos (by omega)]
 ·rw [if_neg h1]
  by_cases h2:j=i
  ·subst h2;rw [if_pos rfl,if_pos (by omega)]
  ·rw [if_neg h2,if_neg (by omega)];simp
theorem marksI_all {f:Nat→Bool} {n i:Nat} (h:n≤i) (cur:Bool):marksI f n i cur=(List.range n).map f:=by
 unfold marksI
 apply List.map_congr_left
 intro j hj
 rw [List.mem_range] at hj
 rw [if_pos (by omega)]
theorem confL_range (l:List Ent) (t:Tx):(List.range l.length).map (fun j=>hitE t (entD l j))=confL l t:=by
 unfold confL
 apply List.ext_getElem
 ·simp
 ·intro j h1 h2
  simp only [List.getElem_map,List.getElem_range]
  rw [entD_get (by simpa using h1)]
theorem may_mask {l:List Ent} (hn:(l.map (·.id)).Nodup) (x:Ent):mayE l x=(sigT x.tx||(List.range l.length).any fun i=>((aboveL l x.tx).getD i false)&&sigT (entD l i).tx):=by
 unfold mayE
 congr 1
 rw [Bool.eq_iff_iff,List.any_eq_true,List.any_eq_true]
 constructor
 ·rintro ⟨s,hs,h⟩
  obtain ⟨i,hi,h1,rfl⟩:=mem_mask.1 hs
  refine ⟨i,List.mem_range.2 hi,?_⟩
  rw [List.getD_eq_getElem?_getD,h1,entD_get hi]
  rw [(get_mem hn (List.getElem_mem hi)).2] at h
  simpa using h
 ·rintro ⟨i,hi,h⟩
  rw [List.mem_range] at hi
  rw [Bool.and_eq_true,entD_get hi] at h
  refine ⟨l[i].id,mem_mask.2 ⟨i,hi,?_,rfl⟩,?_⟩
  ·have h1:=h.1
   rw [List.getD_eq_getElem?_getD] at h1
   cases h2:(aboveL l x.tx)[i]? with
   |none=>rw [h2] at h1;simp at h1
   |some b=>rw [h2] at h1;simp at h1;rw [h1]
  ·rw [(get_mem hn (List.getElem_mem hi)).2];exact h.2
end Go.K
end
section
namespace Go.Proofs.YtfebcajheojodaaGreatDoor
open Go Go.K
attribute [local irreducible] regK codeK retK KOp.wp K.Spec u32 leS vnS str zero32 sha2 encT idT sizeT checkT grantB idN stepR workL reachE findI dropG addG aboveL belowL idsOf feeD sizeD confL evL marksI evI
def hitSo (t:Tx) (ins:List TIn) (a b:Nat):Bool:=(ins.take a).any (fun x=>t.ins.any fun y=>decide (x.p=y.p))||(if h:a<ins.length then (t.ins.take b).any fun y=>decide (ins[a].p=y.p) else false)
theorem hitSo_b {t:Tx} {ins:List TIn} {a b:Nat} (ha:a<ins.length) (hb:b<t.ins.length):hitSo t ins a (b+1)=(hitSo t ins a b||decide (ins[a].p=t.ins[b].p)):=by
 unfold hitSo
 rw [dif_pos ha,dif_pos ha,List.take_succ_eq_append_getElem hb,List.any_append,Bool.or_assoc]
 simp
theorem hitSo_a {t:Tx} {ins:List TIn} {a b:Nat} (ha:a<ins.length) (hb:t.ins.length≤b):hitSo t ins a b=hitSo t ins (a+1) 0:=by
 unfold hitSo
 rw [dif_pos ha,List.take_of_length_le hb,List.take_succ_eq_append_getElem ha,List.any_append,List.take_zero]
 simp
theorem hitSo_zero (t:Tx) (ins:List TIn):hitSo t ins 0 0=false:=by
 unfold hitSo
 simp
theorem hitSo_all {t:Tx} {x:Ent} {a:Nat} (h:x.tx.ins.length≤a):hitSo t x.tx.ins a 0=hitE t x:=by
 unfold hitSo hitE
 rw [dif_neg (by omega),List.take_of_length_le h,Bool.or_false]
attribute [local irreducible] hitSo
set_option maxHeartbeats 4000000 in
theorem rconf_spec {M:List Nat} {v:Value} {cs:List Value} {l:List Ent} {t:Tx} (w:World) (hl:SlR entR M w v l) (ht:txR.rel M w cs t) (hs:t.ins.length≤1000) (hn:l.length≤1000) (hE:∀x∈l,x.tx.ins.length≤1000):
  K.Spec Tryz.prog F.kedgeref16_Conflicts [v,.agg cs.toArray] w fun r w'=>SlE boolE w' r (confL l t)∧Ext w w'∧∀b∈blkOf r,w.heap.size≤b:=by
 obtain ⟨iv,ov,rfl,h1,h2,h3⟩:=ht
 have e0:List.replicate l.length false=marksI (fun j=>hitE t (entD l j)) l.length 0 false:=(marksI_zero _ _).symm
 refine s_kedgeref16_Conflicts rfl ?_
 unfold k_kedgeref16_Conflicts
 refine oy ?_
 repeat' (first|(first|refine go1 ?_|refine zg (fun _ _=>?_)|refine zi (fun _ _=>?_))|(refine zL rfl (fun h=>?_) (fun h=>?_))|(refine zD (d:=some 3) rfl rfl (fun bp wp xp ap (rp:Row wp ⟨bp,0,none⟩ (txCs t iv ov)) hp0=>?_))|(refine zG (E:=entR) (M:=M) (l:=l) rfl (SlR.ext hl (by exact fx)) ?_)|(refine st_mkBool (d:=some 13) rfl rfl (by omega) (fun b w2 x2 a2 hb2=>?_);rw [e0] at a2)|(refine c_loopV (fun (i:Nat) w'=>Ext wp w'∧i≤l.length∧AtB w' b (marksI (fun j=>hitE t (entD l j)) l.length i false)) (fun i=> [(0,v),(3,.pointer (some ⟨bp,0,none⟩)),(5,.slice (some ⟨b,0,none⟩) l.length l.length),(6,.int .i64 i)]) (fun i=>l.length - i) 0 ⟨rfl,rfl,rfl,rfl,trivial⟩ ⟨by exact fx,by simp,a2⟩ ?_;clear a2;rintro i ρ w3 ⟨x3,hi,a3⟩))
 ·have hil:i<l.length:=by omega
  have hxs:=hE _ (List.getElem_mem hil)
  have hfi:hitE t (entD l i)=hitE t l[i]:=by rw [entD_get hil]
  have hp2:∀{w':World},Ext w2 w'→w.heap.size≤b:=fun _=>by have:=xp.size;omega
  repeat' (first|(first|refine go1 ?_|refine zg (fun _ _=>?_)|refine zi (fun _ _=>?_))|(refine zL rfl (fun h=>?_) (fun h=>?_))|(refine c_loopV (fun (a:Nat) w'=>Ext wp w'∧a≤l[i].tx.ins.length∧AtB w' b (marksI (fun j=>hitE t (entD l j)) l.length i (hitSo t l[i].tx.ins a 0))) (fun a=> [(0,v),(3,.pointer (some ⟨bp,0,none⟩)),(5,.slice (some ⟨b,0,none⟩) l.length l.length),(6,.int .i64 i),(7,.int .i64 a)]) (fun a=>l[i].tx.ins.length - a) 0 ⟨rfl,rfl,rfl,rfl,rfl,trivial⟩ ⟨x3,by simp,by rw [hitSo_zero];exact a3⟩ ?_;clear a3 x3;rintro a ρ2 w4 ⟨x4,ha,a4⟩)|(refine st_elemR (d:=some 23) (E:=entR) (M:=M) rfl rfl (n:=i) (l:=l) (SlR.ext hl (by exact fx)) rfl hil (fun ad cs r5 he=>?_);obtain ⟨iv2,ov2,rfl,q1,q2,q3⟩:=he)|(refine zG (d:=some 27) (E:=inR) (M:=M) (l:=l[i].tx.ins) rfl (SlR.ext q1 (by exact fx)) ?_))
  ·have hal:a<l[i].tx.ins.length:=by omega
   clear r5 q1 q2
   repeat' (first|(first|refine go1 ?_|refine zg (fun _ _=>?_)|refine zi (fun _ _=>?_))|(refine zL rfl (fun h=>?_) (fun h=>?_))|(refine c_loopV (fun (c:Nat) w'=>Ext wp w'∧c≤t.ins.length∧AtB w' b (marksI (fun j=>hitE t (entD l j)) l.length i (hitSo t l[i].tx.ins a c))) (fun c=> [(0,v),(3,.pointer (some ⟨bp,0,none⟩)),(5,.slice (some ⟨b,0,none⟩) l.length l.length),(6,.int .i64 i),(7,.int .i64 a),(8,.int .i64 c)]) (fun c=>t.ins.length - c) 0 ⟨rfl,rfl,rfl,rfl,rfl,rfl,trivial⟩ ⟨x4,by simp,a4⟩ ?_;clear a4 x4;rintro c ρ3 w5 ⟨x5,hc,a5⟩)|(refine zG (d:=some 34) (E:=inR) (M:=M) (l:=t.ins) rfl (SlR.ext h1 (by exact fx)) ?_))
   ·have hcl:c<t.ins.length:=by omega
    have hml:=marksI_len (fun j=>hitE t (entD l j)) l.length i (hitSo t l[i].tx.ins a c)
    have hat:(marksI (fun j=>hitE t (entD l j)) l.length i (hitSo t l[i].tx.ins a c))[i]? =some (hitSo t l[i].tx.ins a c):=by rw [List.getElem?_eq_getElem (by omega),marksI_at hil]
    have hset:=marksI_set (f:=fun j=>hitE t (entD l j)) (cur:=hitSo t l[i].tx.ins a c) (x:=hitSo t l[i].tx.ins a (c+1)) hil
    have hnb:=hitSo_b hal hcl
    rw [←pt_dec] at hnb
    generalize marksI (fun j=>hitE t (entD l j)) l.length i (hitSo t l[i].tx.ins a c)=m at*
    generalize hitSo t l[i].tx.ins a c=cur at*
    generalize hnx:hitSo t l[i].tx.ins a (c+1)=nxt at*
    repeat' (first|(first|refine go1 ?_|refine zg (fun _ _=>?_)|refine zi (fun _ _=>?_))|(refine st_elemR (d:=some 40) (E:=entR) (M:=M) rfl rfl (n:=i) (l:=l) (SlR.ext hl (by exact fx)) rfl hil (fun ad cs r6 he=>?_);obtain ⟨iv3,ov3,rfl,q1,q2,q3⟩:=he)|(refine st_elemR (d:=some 45) (E:=inR) (M:=M) rfl rfl (n:=a) (l:=l[i].tx.ins) (SlR.ext q1 (by exact fx)) rfl hal (fun ad cs r7 he=>?_);obtain ⟨wv,rfl, -⟩:=he)|(refine zE (d':=9) (vs:=l[i].tx.ins[a].p.cs) (fun _=>rfl) rfl rfl rfl (fun b9 w9 x9 a9 r9 hb9=>?_))|(refine st_elemR (d:=some 51) (E:=inR) (M:=M) rfl rfl (n:=c) (l:=t.ins) (SlR.ext h1 (by exact fx)) rfl hcl (fun ad cs r8 he=>?_);obtain ⟨wv2,rfl, -⟩:=he)|(refine zE (d':=10) (vs:=t.ins[c].p.cs) (fun _=>rfl) rfl rfl rfl (fun b10 w10 x10 a10 r10 hb10=>?_))|(refine st_elemE (d:=some 58) (E:=boolE) rfl rfl (n:=i) (l:=m) (AtB.sl (by focus (repeat (first|assumption|(apply At.ext;assumption)))) hml.symm) rfl (by omega) (fun ad r11=>?_);have r11:Row _ ad [Value.bool cur]:=(by have e:=(List.getElem?_eq_some_iff.1 hat).2;rw [←e];exact r11))|(refine zK (d:=some 61) rfl (fun hm=>?_) (fun hm=>?_))|(refine zJ (d:=some 67) (p:=l[i].tx.ins[a].p.s=t.ins[c].p.s) rfl (fun hss=>?_) (fun hss=>?_))|(refine st_index (d:=some 74) rfl rfl (by omega) ?_))
    all_goals
     refine st_storeB (m:=m) (o:=i) (v:=nxt) rfl (congrArg Value.bool (by rw [hnb,hm];first|rfl|(rw [decide_eq_true hss];simp)|(rw [decide_eq_false hss];rfl))) (by focus (repeat (first|assumption|(apply At.ext;assumption)))) (by omega) (fun w11 c11 a11=>?_)
     have y11:Ext wp w11:=(Ext.chg (w:=wp) (by exact fx) c11).mono (fun y hy=>.inr (by simp at hy;omega))
     repeat' (first|refine go1 ?_|refine zg (fun _ _=>?_)|refine zi (fun _ _=>?_))
     exact ⟨c+1,⟨rfl,rfl,rfl,rfl,rfl,rfl,trivial⟩,⟨y11,by omega,by rw [hnx,←hset];exact a11⟩,by omega⟩
   ·exact ⟨a+1,⟨rfl,rfl,rfl,rfl,rfl,trivial⟩,⟨x5,by omega,by rw [←hitSo_a hal (by omega:t.ins.length≤c)];exact a5⟩,by omega⟩
  ·refine ⟨i+1,⟨rfl,rfl,rfl,rfl,trivial⟩,⟨by exact fx,by omega,?_⟩,by omega⟩
   have h9:=marksI_next (f:=fun j=>hitE t (entD l j)) (n:=l.length) (i:=i)
   rw [hfi,←hitSo_all (t:=t) (x:=l[i]) (a:=a) (by omega)] at h9
   rw [←h9]
   exact At.ext (by exact fx) a4
 ·rw [marksI_all (by omega),confL_range] at a3
  exact x_ret rfl ⟨AtB.sl a3 (by rw [←confL_len]),xp.trans x3,by intro y hy;have hy:y∈ [b]:=hy;simp at hy;have:=xp.size;omega⟩
end Go.Proofs.YtfebcajheojodaaGreatDoor
end
section
namespace Go.Proofs.YtfebcajheojodaaGreatDoor
open Go Go.K
theorem evI_zero (l:List Ent) (t:Tx):evI l t 0=List.replicate l.length false:=by rw [evI]
attribute [local irreducible] regK codeK retK KOp.wp K.Spec u32 leS vnS str zero32 sha2 encT idT sizeT checkT grantB idN stepR workL reachE findI dropG addG aboveL belowL idsOf feeD sizeD confL evL marksI evI hitSo orTo sigT mayE
set_option maxHeartbeats 4000000 in
theorem rev_spec {M:List Nat} {v:Value} {cs:List Value} {l:List Ent} {t:Tx} (w:World) (hl:SlR entR M w v l) (ht:txR.rel M w cs t) (hs:t.ins.length≤1000) (hn:l.length≤1000) (hE:∀x∈l,x.tx.Sm):
  K.Spec Tryz.prog F.kedgeref16_Evicted [v,.agg cs.toArray] w fun r w'=>SlE boolE w' r (evL l t)∧Ext w w'∧∀b∈blkOf r,w.heap.size≤b:=by
 have hqe:∀x∈l,x.tx.ins.length≤1000:=fun x hx=>(hE x hx).ins
 have ht0:=ht
 obtain ⟨iv,ov,rfl,h1,h2,h3⟩:=ht
 have e0:List.replicate l.length false=evI l t 0:=(evI_zero _ _).symm
 have hcl:=confL_len (l:=l) (t:=t)
 refine s_kedgeref16_Evicted rfl ?_
 unfold k_kedgeref16_Evicted
 refine oy ?_
 repeat' (first|(first|refine go1 ?_|refine zg (fun _ _=>?_)|refine zi (fun _ _=>?_))|(refine zL rfl (fun h=>?_) (fun h=>?_))|(refine zD (d:=some 3) rfl rfl (fun bp wp xp ap (rp:Row wp ⟨bp,0,none⟩ (txCs t iv ov)) hp0=>?_))|(refine zG (E:=entR) (M:=M) (l:=l) rfl (SlR.ext hl (by exact fx)) ?_)|(refine st_mkBool (d:=some 12) rfl rfl (by omega) (fun b w2 x2 a2 hb2=>?_);rw [e0] at a2;have lb:=a2.lt)|(refine zC (d:=some 15) rfl (rconf_spec (M:=M) (l:=l) (cs:=txCs t iv ov) (t:=t) _ (SlR.ext hl (by exact fx)) (R.ext ht0 (by exact fx)) hs hn hqe) ?_;rintro vc w3 ⟨sc,x3,hbc⟩)|(have x03:Ext wp w3:=(by exact fx);have sc3:SlR (Go.K.R.flat boolE false) [b] w3 vc (confL l t):=SlE.toR (F:=boolE) (ag:=false) sc (fun y hy hm=>by have:=hbc y hy;simp at hm;omega);refine c_loopV (fun (i:Nat) w'=>Ext wp w'∧i≤l.length∧AtB w' b (evI l t i)∧SlR (Go.K.R.flat boolE false) [b] w' vc (confL l t)) (fun i=> [(0,v),(5,.slice (some ⟨b,0,none⟩) l.length l.length),(6,vc),(7,.int .i64 i)]) (fun i=>l.length - i) 0 ⟨rfl,rfl,rfl,rfl,trivial⟩ ⟨x03,by simp,At.ext (by exact fx) a2,sc3⟩ ?_;clear a2 sc sc3 x03 x2 x3;rintro i ρ w4 ⟨x4,hi,a4,s4⟩))
 ·have hil:i<l.length:=by omega
  have him:i<(confL l t).length:=by omega
  have hci:(confL l t)[i]=hitE t l[i]:=by
   have e:(confL l t)[i]? =some (hitE t l[i]):=by unfold confL;rw [List.getElem?_map,List.getElem?_eq_getElem hil];rfl
   exact (List.getElem?_eq_some_iff.1 e).2
  have hlb:=belowL_len l l[i].id
  have hle:=evI_len (l:=l) (t:=t) i
  have hee:(evI l t i).length=(belowL l l[i].id).length:=by omega
  have hstep:evI l t (i+1)=if hitE t l[i]=true then orB (evI l t i) (belowL l l[i].id) else evI l t i:=by rw [evI,entD_get hil]
  refine st_elemR (d:=some 24) (E:=Go.K.R.flat boolE false) (M:= [b]) rfl rfl (n:=i) (l:=confL l t) s4 rfl him (fun ad cs r5 he=>?_)
  obtain rfl:cs= [Value.bool (confL l t)[i]]:=he
  rw [hci] at r5
  repeat' (first|(first|refine go1 ?_|refine zg (fun _ _=>?_)|refine zi (fun _ _=>?_))|(refine zM rfl (fun hb=>?_) (fun hb=>?_))|(refine st_elemR (d:=some 30) (E:=entR) (M:=M) rfl rfl (n:=i) (l:=l) (SlR.ext hl (by exact fx)) rfl hil (fun ad cs r6 he=>?_);obtain ⟨iv2,ov2,rfl, -⟩:=he)|(refine zC (d:=some 33) rfl (below_spec (M:=M) (l:=l) l[i].id _ (SlR.ext hl (by exact fx)) hn hE) ?_;rintro vb w5 ⟨sb,x5,hbb⟩))
  ·have hh:¬hitE t l[i]=true:=by
    have:hitE t l[i]=false:=by simpa using hb
    rw [this];simp
   rw [if_neg hh] at hstep
   exact ⟨i+1,⟨rfl,rfl,rfl,rfl,trivial⟩,⟨by exact fx,by omega,by rw [hstep];exact At.ext (by exact fx) a4,SlR.ext s4 (by exact fx)⟩,by omega⟩
  ·have hh:hitE t l[i]=true:=by simpa using hb
   rw [if_pos hh] at hstep
   have lb4:=a4.lt
   have sb5:SlR (Go.K.R.flat boolE false) [b] w5 vb (belowL l l[i].id):=SlE.toR (F:=boolE) (ag:=false) sb (fun y hy hm=>by have:=hbb y hy;simp at hm;omega)
   have x45:=x4.trans x5
   have a5:=At.ext x5 a4
   have s5:=SlR.ext s4 x5
   clear sb a4 s4 r5 r6 x4 x5
   repeat' (first|(first|refine go1 ?_|refine zg (fun _ _=>?_)|refine zi (fun _ _=>?_))|(refine zL rfl (fun h=>?_) (fun h=>?_))|(refine zG (E:=entR) (M:=M) (l:=l) rfl (SlR.ext hl (by exact fx)) ?_)|(refine c_loopV (fun (k:Nat) w'=>Ext wp w'∧k≤l.length∧AtB w' b (orTo (evI l t i) (belowL l l[i].id) k)∧SlR (Go.K.R.flat boolE false) [b] w' vc (confL l t)∧SlR (Go.K.R.flat boolE false) [b] w' vb (belowL l l[i].id)) (fun k=> [(0,v),(5,.slice (some ⟨b,0,none⟩) l.length l.length),(6,vc),(7,.int .i64 i),(8,vb),(9,.int .i64 k)]) (fun k=>l.length - k) 0 ⟨rfl,rfl,rfl,rfl,rfl,rfl,trivial⟩ ⟨x45,by simp,by rw [orTo_zero];exact a5,s5,sb5⟩ ?_;clear x45 a5 s5 sb5;rintro k ρ2 w6 ⟨x6,hk,a6,s6,sb6⟩))
   ·have hkl:k<l.length:=by omega
    have hka:k<(evI l t i).length:=by omega
    have hkb:k<(belowL l l[i].id).length:=by omega
    have hol:=orTo_len (k:=k) hee
    have hat:=orTo_at hee hka
    rw [List.getElem?_eq_getElem hka] at hat
    have hset:=orTo_set hee hka
    generalize hbk:(belowL l l[i].id)[k]=nb at*
    generalize hak:(evI l t i)[k]=na at*
    generalize hnx:orTo (evI l t i) (belowL l l[i].id) (k+1)=nxt at*
    generalize hcm:orTo (evI l t i) (belowL l l[i].id) k=m at*
    repeat' (first|(first|refine go1 ?_|refine zg (fun _ _=>?_)|refine zi (fun _ _=>?_))|(refine st_elemE (d:=some 44) (E:=boolE) rfl rfl (n:=k) (l:=m) (AtB.sl (by focus (repeat (first|assumption|(apply At.ext;assumption)))) (by omega)) rfl (by omega) (fun ad r11=>?_);have r11:Row _ ad [Value.bool na]:=(by have e:=(List.getElem?_eq_some_iff.1 hat).2;rw [←e];exact r11))|(refine zK (d:=some 47) rfl (fun hm=>?_) (fun hm=>?_))|(refine st_elemR (d:=some 49) (E:=Go.K.R.flat boolE false) (M:= [b]) rfl rfl (n:=k) (l:=belowL l l[i].id) (SlR.ext sb6 (by exact fx)) rfl hkb (fun ad cs r12 he=>?_);obtain rfl:cs= [Value.bool (belowL l l[i].id)[k]]:=he;rw [hbk] at r12)|(refine st_index (d:=some 52) rfl rfl (by omega) ?_))
    all_goals
     refine st_storeB (m:=m) (o:=k) (v:=(na||nb)) rfl (congrArg Value.bool (by rw [hm];first|rfl|simp)) (by focus (repeat (first|assumption|(apply At.ext;assumption)))) (by omega) (fun w11 c11 a11=>?_)
     have y11:Ext wp w11:=(Ext.chg (w:=wp) (by exact fx) c11).mono (fun y hy=>.inr (by simp at hy;omega))
     have t6:=s6.step c11 (M':= [b]) (fun y hy=>.inl hy) (fun y hy=>.inl hy)
     have tb6:=sb6.step c11 (M':= [b]) (fun y hy=>.inl hy) (fun y hy=>.inl hy)
     repeat' (first|refine go1 ?_|refine zg (fun _ _=>?_)|refine zi (fun _ _=>?_))
     exact ⟨k+1,⟨rfl,rfl,rfl,rfl,rfl,rfl,trivial⟩,⟨y11,by omega,by rw [hnx,←hset];exact a11,t6,tb6⟩,by omega⟩
   ·have hok:orTo (evI l t i) (belowL l l[i].id) k=evI l t (i+1):=by rw [hstep];exact orTo_all hee (by omega)
    exact ⟨i+1,⟨rfl,rfl,rfl,rfl,trivial⟩,⟨x6,by omega,by rw [←hok];exact a6,s6⟩,by omega⟩
 ·have ei:i=l.length:=by omega
  subst ei
  have e9:evI l t l.length=evL l t:=by unfold evL;rfl
  rw [e9] at a4
  exact x_ret rfl ⟨AtB.sl a4 (by rw [←evL_len]),xp.trans x4,by intro y hy;have hy:y∈ [b]:=hy;simp at hy;have:=xp.size;omega⟩
theorem rsig_spec {M:List Nat} {cs:List Value} {t:Tx} (w:World) (ht:txR.rel M w cs t) (hs:t.ins.length≤1000):K.Spec Tryz.prog F.kedgeref16_signals [.agg cs.toArray] w fun r w'=>r=.bool (sigT t)∧Ext w w':=by
 have hT:sigT t=t.ins.any fun x=>decide (x.q<4294967294):=by unfold sigT;rfl
 obtain ⟨iv,ov,rfl,h1,h2,h3⟩:=ht
 refine s_kedgeref16_signals rfl ?_
 unfold k_kedgeref16_signals
 refine oy ?_
 repeat' (first|(first|refine go1 ?_|refine zg (fun _ _=>?_)|refine zi (fun _ _=>?_))|(refine zL rfl (fun h=>?_) (fun h=>?_))|(refine zD (d:=some 1) rfl rfl (fun bp wp xp ap (rp:Row wp ⟨bp,0,none⟩ (txCs t iv ov)) hp0=>?_))|(refine zG (E:=inR) (M:=M) (l:=t.ins) rfl (SlR.ext h1 (by exact fx)) ?_)|(refine c_loopV (fun (i:Nat) w'=>Ext wp w'∧i≤t.ins.length∧∀x∈t.ins.take i,decide (x.q<4294967294)=false) (fun i=> [(1,.pointer (some ⟨bp,0,none⟩)),(3,.int .i64 i)]) (fun i=>t.ins.length - i) 0 ⟨rfl,rfl,trivial⟩ ⟨Ext.refl _,by simp,by simp⟩ ?_;rintro i ρ w3 ⟨x3,hi,hk⟩)|(have hil:i<t.ins.length:=(by omega);refine st_elemR (d:=some 14) (E:=inR) (M:=M) rfl rfl (n:=i) (l:=t.ins) (SlR.ext h1 (by exact fx)) rfl hil (fun ad cs r5 he=>?_);obtain ⟨wv,rfl, -⟩:=he))
 ·rw [hT,List.any_eq_true.2 ⟨_,List.getElem_mem hil,decide_eq_true h⟩]
  exact x_ret rfl ⟨rfl,by exact fx⟩
 ·refine ⟨i+1,⟨rfl,rfl,trivial⟩,⟨by exact fx,by omega,fun x hx=>?_⟩,by omega⟩
  rw [List.take_succ_eq_append_getElem hil] at hx
  rcases List.mem_append.1 hx with h9|h9
  ·exact hk x h9
  ·simp at h9;subst h9;exact decide_eq_false h
 ·rw [List.take_of_length_le (by omega)] at hk
  rw [hT,List.any_eq_false.2 (fun x hx=>by rw [hk x hx];simp)]
  exact x_ret rfl ⟨rfl,by exact fx⟩
set_option maxHeartbeats 1000000 in
theorem rmay_spec {M:List Nat} {v:Value} {l:List Ent} {n:Nat} (w:World) (hl:SlR entR M w v l) (hn:n<l.length) (hlen:l.length≤1000) (hE:∀x∈l,x.tx.Sm) (hnd:(l.map (·.id)).Nodup):
  K.Spec Tryz.prog F.kedgeref16_May [v,.int .i64 (n:Nat)] w fun r w'=>r=.bool (mayE l l[n])∧Ext w w':=by
 have hm:=may_mask hnd l[n]
 have hsn:=hE _ (List.getElem_mem hn)
 have hal:=aboveL_len l l[n].tx
 rw [hm]
 refine s_kedgeref16_May rfl ?_
 unfold k_kedgeref16_May
 refine oy ?_
 repeat' (first|(first|refine go1 ?_|refine zg (fun _ _=>?_)|refine zi (fun _ _=>?_))|(refine zL rfl (fun h=>?_) (fun h=>?_))|(refine st_elemR (d:=some 10) (E:=entR) (M:=M) rfl rfl (n:=n) (l:=l) (SlR.ext hl (by exact fx)) rfl hn (fun ad cs r4 he=>?_);obtain ⟨iv,ov,rfl,q1,q2,q3⟩:=he)|(refine st_elemR (d:=some 18) (E:=entR) (M:=M) rfl rfl (n:=n) (l:=l) (SlR.ext hl (by exact fx)) rfl hn (fun ad cs r5 he=>?_);obtain ⟨iv5,ov5,rfl,p1,p2,p3⟩:=he)|(refine zC (d:=some 13) rfl (rsig_spec (M:=M) (cs:=txCs l[n].tx iv ov) (t:=l[n].tx) _ ⟨iv,ov,rfl,by exact fx,by exact fx,q3.1,q3.2.1⟩ hsn.ins) ?_;rintro _ w6 ⟨rfl,x6⟩)|(refine zM rfl (fun hs1=>?_) (fun hs1=>?_))|(refine zC (d:=some 21) rfl (above_spec (M:=M) (l:=l) (cs:=txCs l[n].tx iv5 ov5) (t:=l[n].tx) _ (SlR.ext hl (by exact fx)) ⟨iv5,ov5,rfl,by exact fx,by exact fx,p3.1,p3.2.1⟩ hsn hlen hE) ?_;rintro va w7 ⟨sa,x7, -⟩;have x07:Ext w w7:=(by exact fx);clear r4 r5 q1 q2 p1 p2 x6 x7)|(refine zG (d:=some 24) (E:=entR) (M:=M) (l:=l) rfl (SlR.ext hl (by exact fx)) ?_)|(refine c_loopV (fun (i:Nat) w'=>Ext w7 w'∧i≤l.length∧∀j,j<i→(((aboveL l l[n].tx).getD j false)&&sigT (entD l j).tx)=false) (fun i=> [(0,v),(6,va),(7,.int .i64 i)]) (fun i=>l.length - i) 0 ⟨rfl,rfl,rfl,trivial⟩ ⟨Ext.refl _,by simp,by simp⟩ ?_;rintro i ρ w8 ⟨x8,hi,hk⟩)|(have hil:i<l.length:=(by omega);have hsi:=hE _ (List.getElem_mem hil);have e1:entD l i=l[i]:=entD_get hil;have e2:(aboveL l l[n].tx).getD i false=(aboveL l l[n].tx)[i]'(by omega):=(by rw [List.getD_eq_getElem?_getD,List.getElem?_eq_getElem (by omega)];rfl);refine st_elemR (d:=some 30) (E:=entR) (M:=M) rfl rfl (n:=i) (l:=l) (SlR.ext hl (by exact fx)) rfl hil (fun ad cs r9 he=>?_);obtain ⟨iv9,ov9,rfl,g1,g2,g3⟩:=he)|(refine zC (d:=some 33) rfl (rsig_spec (M:=M) (cs:=txCs l[i].tx iv9 ov9) (t:=l[i].tx) _ ⟨iv9,ov9,rfl,by exact fx,by exact fx,g3.1,g3.2.1⟩ hsi.ins) ?_;rintro _ w10 ⟨rfl,x10⟩)|(refine st_elemE (d:=some 36) (E:=boolE) rfl rfl (n:=i) (l:=aboveL l l[n].tx) (SlE.ext (by exact fx) sa) rfl (by omega) (fun ad r11=>?_);have r11:Row _ ad [Value.bool ((aboveL l l[n].tx)[i]'(by omega))]:=r11;rw [←e2] at r11)|(refine zK (d:=some 39) rfl (fun hm1=>?_) (fun hm1=>?_)))
 ·rw [hs1,Bool.true_or]
  exact x_ret rfl ⟨rfl,by exact fx⟩
 ·rw [show ((List.range l.length).any fun i=>(aboveL l l[n].tx).getD i false&&sigT (entD l i).tx)=true from List.any_eq_true.2 ⟨i,List.mem_range.2 hil,by rw [hm1,e1,hs1];rfl⟩,Bool.or_true]
  exact x_ret rfl ⟨rfl,x07.trans (by exact fx)⟩
 ·exact ⟨i+1,⟨rfl,rfl,rfl,trivial⟩,⟨by exact fx,by omega,fun j hj=>by
   by_cases e:j=i
   ·subst e;rw [e1,hs1,Bool.and_false]
   ·exact hk j (by omega)⟩,by omega⟩
 ·exact ⟨i+1,⟨rfl,rfl,rfl,trivial⟩,⟨by exact fx,by omega,fun j hj=>by
   by_cases e:j=i
   ·subst e;rw [hm1,Bool.false_and]
   ·exact hk j (by omega)⟩,by omega⟩
 ·rw [hs1,Bool.false_or,show ((List.range l.length).any fun i=>(aboveL l l[n].tx).getD i false&&sigT (entD l i).tx)=false from List.any_eq_false.2 fun j hj=>by rw [hk j (by have:=List.mem_range.1 hj;omega)];simp]
  exact x_ret rfl ⟨rfl,x07.trans x8⟩
end Go.Proofs.YtfebcajheojodaaGreatDoor
end
section
namespace Go.Proofs.YtfebcajheojodaaGreatDoor
open Go Go.K
attribute [local irreducible] regK codeK retK KOp.wp K.Spec u32 leS vnS str zero32 sha2 encT idT sizeT checkT grantB idN stepR workL reachE findI dropG addG aboveL belowL idsOf feeD sizeD confL evL marksI evI hitSo orTo sigT mayE feeOf szOf cmpR hitE
theorem rf01_spec (R' S:Nat) (hR:R'≤100000000) (hS:S≤1000000) (w:World):K.Spec Tryz.prog F.kedgeref01_Fee [.int .i64 (R':Nat),.int .i64 (S:Nat)] w fun r w'=>r=.tuple #[.int .i64 (((R'*S+999) / 1000:Nat):Int),.int .i64 0]∧Ext w w':=by
 have hp:R'*S≤100000000*1000000:=Nat.mul_le_mul hR hS
 obtain ⟨p,hpq⟩:∃p,p=R'*S:=⟨_,rfl⟩
 rw [←hpq] at hp ⊢
 refine s_kedgeref01_Fee rfl ?_
 unfold k_kedgeref01_Fee
 refine oy ?_
 repeat' (first|(refine st_fixV (d:=some 24) (.int .i64 (p:Nat)) rfl (congrArg (fun n=>some (Value.int .i64 n)) ((IntWalk.i64_in _ (by rw [←Int.natCast_mul,←hpq];omega)).trans (by rw [←Int.natCast_mul,←hpq]))) ?_)|(refine st_quo (d:=some 26) (n:=p) (m:=1000) rfl rfl (by omega) (by omega) ?_)|(refine st_fixV (d:=some 28) (.int .i64 ((p / 1000*1000:Nat):Int)) rfl (congrArg (fun n=>some (Value.int .i64 n)) (IntWalk.i64_in _ (by omega))) ?_)|(first|refine go1 ?_|refine zg (fun _ _=>?_)|refine zi (fun _ _=>?_))|(refine zJ rfl (fun h=>?_) (fun h=>?_))|(refine zL rfl (fun h=>?_) (fun h=>?_)))
 all_goals first
  |(exfalso;omega)
  |exact x_ret rfl ⟨congrArg (fun n=>Value.tuple #[.int .i64 n,.int .i64 0]) (by omega),by exact fx⟩
  |trace_state
set_option maxHeartbeats 2000000 in
theorem renough_spec {M:List Nat} {v:Value} {cs:List Value} {l:List Ent} {t:Tx} (fee:Int) (w:World) (hl:SlR entR M w v l) (ht:txR.rel M w cs t) (hs:t.Sm) (hc:checkT t=0) (hn:l.length≤1000) (hE:∀x∈l,EntOk x) (hf:∀x∈l,x.fee≤1000000000000):
  K.Spec Tryz.prog F.kedgeref16_Enough [v,.agg cs.toArray,.int .i64 fee] w fun r w'=>r=.bool (enoughL l t fee)∧Ext w w':=by
 have hz:=sz_of_check hs hc
 have hz2:=hz.sizeM
 have hgood:∀x∈l,goodB x.fee=true:=fun x hx=>(hE x hx).fee
 have hsz:∀x∈l,0≤x.size∧x.size≤(100000000000:Nat):=fun x hx=>(entOk_fit (hE x hx)).2
 have hsm:∀x∈l,x.tx.Sm:=fun x hx=>chk_sm (hE x hx).check
 have hqe:∀x∈l,x.tx.ins.length≤1000:=fun x hx=>(hsm x hx).ins
 have hcl:=confL_len (l:=l) (t:=t)
 have hel:=evL_len (l:=l) (t:=t)
 have hgb:=gone_bound (t:=t) (c:=1000000000000) (fun x hx=>⟨((goodB_iff _).1 (hE x hx).fee).1,hf x hx⟩)
 have hgb2:((1000000000000:Nat):Int)*l.length≤1000000000000*1000:=by omega
 have hgone:feeOf l (evL l t)=goneF l t:=by unfold goneF;rfl
 have hone:(1000*sizeT t+999) / 1000=sizeT t:=by omega
 have hen:enoughL l t fee=(l.all (fun x=>!hitE t x||decide (cmpR fee (sizeT t:Nat) x.fee x.size>0))&&(!l.any (hitE t)||decide (goneF l t+(sizeT t:Nat)≤fee))):=by unfold enoughL;rfl
 have ht0:=ht
 obtain ⟨iv,ov,rfl,h1,h2,h3⟩:=ht
 rw [hen]
 refine s_kedgeref16_Enough rfl ?_
 unfold k_kedgeref16_Enough
 refine oy ?_
 repeat' (first|(first|refine go1 ?_|refine zg (fun _ _=>?_)|refine zi (fun _ _=>?_))|(refine zL rfl (fun h=>?_) (fun h=>?_))|(refine zD (d:=some 4) rfl rfl (fun bp wp xp ap (rp:Row wp ⟨bp,0,none⟩ (txCs t iv ov)) hp0=>?_))|(refine zC (d:=some 19) rfl (rconf_spec (M:=M) (l:=l) (cs:=txCs t iv ov) (t:=t) _ (SlR.ext hl (by exact fx)) (R.ext ht0 (by exact fx)) hs.ins hn hqe) ?_;rintro vc w3 ⟨sc,x3, -⟩)|(refine zC (d:=some 22) rfl (rev_spec (M:=M) (l:=l) (cs:=txCs t iv ov) (t:=t) _ (SlR.ext hl (by exact fx)) (R.ext ht0 (by exact fx)) hs.ins hn hsm) ?_;rintro vg w4 ⟨sg,x4, -⟩)|(refine zC (d:=some 26) rfl (rsum14_spec (M:=M) (l:=l) (m:=evL l t) _ (SlR.ext hl (by exact fx)) (SlE.ext (by exact fx) sg) hel hn hgood hsz) ?_;rintro _ w5 ⟨rfl,x5⟩;rw [hgone])|(refine zC (d:=some 30) rfl (rsize_spec (M:=M) (cs:=txCs t iv ov) (t:=t) _ (R.ext ht0 (by exact fx)) hz) ?_;rintro _ w6 ⟨rfl,x6⟩)|(refine zC (d:=some 33) rfl (rf01_spec 1000 (sizeT t) (by decide) hz2.2 _) ?_;rintro _ w7 ⟨rfl,x7⟩;rw [hone];have sc7:=SlE.ext (show Ext w3 w7 by exact fx) sc;have x07:Ext w w7:=(by exact fx);clear xp x3 x4 x5 x6 x7 sc sg)|(refine zG (E:=entR) (M:=M) (l:=l) rfl (SlR.ext hl (by exact fx)) ?_)|(refine c_loopV (fun (i:Nat) w'=>Ext w7 w'∧i≤l.length∧∀x∈l.take i,(!hitE t x||decide (cmpR fee (sizeT t:Nat) x.fee x.size>0))=true) (fun i=> [(0,v),(2,.int .i64 fee),(7,vc),(9,.int .i64 (goneF l t)),(11,.int .i64 (sizeT t:Nat)),(12,.int .i64 (sizeT t:Nat)),(14,.bool ((l.take i).any (hitE t))),(15,.int .i64 i)]) (fun i=>l.length - i) 0 ⟨rfl,rfl,rfl,rfl,rfl,rfl,rfl,rfl,trivial⟩ ⟨Ext.refl _,by simp,by simp⟩ ?_;rintro i ρ w8 ⟨x8,hi,hk⟩)|(have hil:i<l.length:=(by omega);have hci:(confL l t)[i]'(by omega)=hitE t l[i]:=(by have e:(confL l t)[i]? =some (hitE t l[i]):=(by unfold confL;rw [List.getElem?_map,List.getElem?_eq_getElem hil];rfl);exact (List.getElem?_eq_some_iff.1 e).2);have htk:(l.take (i+1)).any (hitE t)=((l.take i).any (hitE t)||hitE t l[i]):=(by rw [List.take_succ_eq_append_getElem hil,List.any_append];simp);refine st_elemE (d:=some 44) (E:=boolE) rfl rfl (n:=i) (l:=confL l t) (SlE.ext (by exact fx) sc7) rfl (by omega) (fun ad r9=>?_);have r9:Row _ ad [Value.bool ((confL l t)[i]'(by omega))]:=r9;rw [hci] at r9)|(refine zM rfl (fun hb=>?_) (fun hb=>?_))|(refine st_elemR (d:=some 51) (E:=entR) (M:=M) rfl rfl (n:=i) (l:=l) (SlR.ext hl (Ext.trans x07 (by exact fx))) rfl hil (fun ad cs r10 he=>?_);obtain ⟨iv10,ov10,rfl, -⟩:=he)|(refine st_elemR (d:=some 56) (E:=entR) (M:=M) rfl rfl (n:=i) (l:=l) (SlR.ext hl (Ext.trans x07 (by exact fx))) rfl hil (fun ad cs r11 he=>?_);obtain ⟨iv11,ov11,rfl, -⟩:=he)|(refine zC (d:=some 59) rfl (rcompare_spec _ _ _ _ _) ?_;rintro _ w12 ⟨rfl,x12⟩)|(refine zK rfl (fun hm1=>?_) (fun hm1=>?_))|(refine st_both ?_ ?_))
 ·have hh:hitE t l[i]=false:=by simpa using hb
  refine ⟨i+1,⟨rfl,rfl,rfl,rfl,rfl,rfl,?_,rfl,trivial⟩,⟨by exact fx,by omega,fun x hx=>?_⟩,by omega⟩
  ·show _=Value.bool ((l.take (i+1)).any (hitE t))
   rw [htk,hh,Bool.or_false];rfl
  ·rw [List.take_succ_eq_append_getElem hil] at hx
   rcases List.mem_append.1 hx with h9|h9
   ·exact hk x h9
   ·simp only [List.mem_singleton] at h9;subst h9;rw [hh];rfl
 ·have hh:hitE t l[i]=true:=by simpa using hb
  rw [List.all_eq_false.2 ⟨l[i],List.getElem_mem hil,by rw [hh,decide_eq_false (by omega)];simp⟩,Bool.false_and]
  exact x_ret rfl ⟨rfl,x07.trans (by exact fx)⟩
 ·have hh:hitE t l[i]=true:=by simpa using hb
  refine ⟨i+1,⟨rfl,rfl,rfl,rfl,rfl,rfl,?_,rfl,trivial⟩,⟨by exact fx,by omega,fun x hx=>?_⟩,by omega⟩
  ·show _=Value.bool ((l.take (i+1)).any (hitE t))
   rw [htk,hh,Bool.or_true];rfl
  ·rw [List.take_succ_eq_append_getElem hil] at hx
   rcases List.mem_append.1 hx with h9|h9
   ·exact hk x h9
   ·simp only [List.mem_singleton] at h9;subst h9;rw [decide_eq_true (by omega),Bool.or_true]
 ·rw [List.take_of_length_le (by omega)] at hk hm1
  rw [List.all_eq_true.2 hk,hm1,Bool.true_or]
  exact x_ret rfl ⟨rfl,x07.trans (by exact fx)⟩
 ·rw [List.take_of_length_le (by omega)] at hk hm1
  rw [List.all_eq_true.2 hk,hm1,Bool.false_or,Bool.true_and]
  exact x_ret rfl ⟨rfl,x07.trans (by exact fx)⟩
end Go.Proofs.YtfebcajheojodaaGreatDoor
end
