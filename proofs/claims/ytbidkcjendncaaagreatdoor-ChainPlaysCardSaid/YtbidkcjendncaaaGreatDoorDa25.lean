/- Contracts: the document's lists of coins. Contracts: the document's coins of numbers, and its view; sets of coins. Contracts: the document's transactions over coins. Plain: blocks' transactions, made of small numbers. -/
import Derived.Test.YtbidkcjendncaaaGreatDoorDa22
set_option linter.unusedVariables false
set_option linter.unusedSimpArgs false
section
namespace Go.Proofs.YtbidkcjendncaaaGreatDoor
open Go Go.K
attribute [local irreducible] regK codeK retK KOp.wp K.Spec
theorem rless_spec (p q:Pt) (w:World):K.Spec Tryz.prog F.kedgeref05_Less [p.val,q.val] w fun v w'=>v=.bool (ptLt p q)∧Ext w w':=by
 refine s_kedgeref05_Less rfl ?_
 unfold k_kedgeref05_Less
 refine oy ?_
 repeat (first|refine go ?_|refine zg (fun _ _=>?_)|refine zi (fun _ _=>?_))
 refine st_box rfl rfl (fun b1 w1 x1 _ r1 _=>?_)
 repeat (first|refine go ?_|refine zg (fun _ _=>?_)|refine zi (fun _ _=>?_))
 refine st_box rfl rfl (fun b2 w2 x2 _ r2 _=>?_)
 repeat (first|refine go ?_|refine zg (fun _ _=>?_)|refine zi (fun _ _=>?_))
 refine c_cond rfl (fun h=>?_) (fun h=>?_)
 ·repeat (first|refine go ?_|refine zg (fun _ _=>?_)|refine zi (fun _ _=>?_))
  exact x_ret rfl ⟨congrArg Value.bool (by rw [ptLt,if_pos h]),x1.trans x2⟩
 ·repeat (first|refine go ?_|refine zg (fun _ _=>?_)|refine zi (fun _ _=>?_))
  exact x_ret rfl ⟨congrArg Value.bool (by rw [ptLt,if_neg h]),x1.trans x2⟩
theorem same10_spec (s s':ByteArray) (i i':Int) (w:World):K.Spec Tryz.prog F.kedgeref10_same [.agg #[.string s,.int .u32 i],.agg #[.string s',.int .u32 i']] w fun v w'=>v=.bool (decide (s=s'∧i=i'))∧Ext w w':=by
 refine s_kedgeref10_same rfl ?_
 unfold k_kedgeref10_same
 refine oy ?_
 repeat (first|refine go ?_|refine zg (fun _ _=>?_)|refine zi (fun _ _=>?_))
 refine st_box rfl rfl (fun b1 w1 x1 _ r1 _=>?_)
 repeat (first|refine go ?_|refine zg (fun _ _=>?_)|refine zi (fun _ _=>?_))
 refine st_box rfl rfl (fun b2 w2 x2 _ r2 _=>?_)
 repeat (first|refine go ?_|refine zg (fun _ _=>?_)|refine zi (fun _ _=>?_))
 refine g_split rfl (fun h=>?_) (fun h=>?_)
 ·repeat (first|refine go ?_|refine zg (fun _ _=>?_)|refine zi (fun _ _=>?_))
  refine x_ret rfl ⟨congrArg Value.bool ?_,x1.trans x2⟩
  simp [h]
 ·repeat (first|refine go ?_|refine zg (fun _ _=>?_)|refine zi (fun _ _=>?_))
  refine x_ret rfl ⟨congrArg Value.bool ?_,x1.trans x2⟩
  simp [h]
theorem psame_spec (p q:Pt) (w:World):K.Spec Tryz.prog F.kedgeref10_same [p.val,q.val] w fun v w'=>v=.bool (decide (p=q))∧Ext w w':=by
 have h:=same10_spec p.s q.s p.i q.i w
 have e:decide (p.s=q.s∧p.i=q.i)=decide (p=q):=by cases p;cases q;simp
 rw [e] at h;exact h
theorem find10_spec {v:Value} {l:List En} (p:Pt) (w:World) (hs:SlE entE w v l) (hn:l.length≤100000):K.Spec Tryz.prog F.kedgeref10_Find [v,p.val] w fun v' w'=>v'=.int .i64 (refFind l p)∧Ext w w':=by
 refine s_kedgeref10_Find rfl ?_
 unfold k_kedgeref10_Find
 refine oy ?_
 repeat (first|refine go ?_|refine zg (fun _ _=>?_)|refine zi (fun _ _=>?_))
 refine st_box rfl rfl (fun b1 w1 x1 a1 r1 hb1=>?_)
 repeat (first|refine go ?_|refine zg (fun _ _=>?_)|refine zi (fun _ _=>?_))
 refine c_loopV (fun (i:Nat) w'=>Ext w1 w'∧i≤l.length∧∀j,∀h:j<l.length,j<i→l[j].1≠p) (fun i=> [(0,v),(3,.pointer (some ⟨b1,0,none⟩)),(5,.int .i64 i)]) (fun i=>l.length - i) 0 ⟨rfl,rfl,rfl,trivial⟩ ⟨Ext.refl _,by omega,by intros;omega⟩ ?_
 rintro i ρ w2 ⟨x2,hi,hno⟩
 repeat (first|refine go ?_|refine zg (fun _ _=>?_)|refine zi (fun _ _=>?_))
 refine st_len rfl ((hs.ext x1).ext x2) ?_
 repeat (first|refine go ?_|refine zg (fun _ _=>?_)|refine zi (fun _ _=>?_))
 refine c_cond rfl (fun h=>?_) (fun h=>?_)
 ·repeat (first|refine go ?_|refine zg (fun _ _=>?_)|refine zi (fun _ _=>?_))
  rename_i w3 x3
  refine st_elemE rfl rfl (((hs.ext x1).ext x2).ext x3) rfl (by omega) (fun ad r3=>?_)
  repeat (first|refine go ?_|refine zg (fun _ _=>?_)|refine zi (fun _ _=>?_))
  have hil:i<l.length:=by omega
  refine st_call rfl (psame_spec l[i].1 p _) ?_
  rintro _ w4 ⟨rfl,x4⟩
  repeat (first|refine go ?_|refine zg (fun _ _=>?_)|refine zi (fun _ _=>?_))
  refine c_cond rfl (fun h2=>?_) (fun h2=>?_)
  ·repeat (first|refine go ?_|refine zg (fun _ _=>?_)|refine zi (fun _ _=>?_))
   refine x_ret rfl ⟨congrArg (Value.int .i64) ?_,by repeat (first|assumption|exact Ext.refl _|refine Ext.trans ?_ (by assumption))⟩
   rw [refFind,refIdx_some.2 ⟨hil,h2,fun j hj=>hno j (by omega) hj⟩]
  ·repeat (first|refine go ?_|refine zg (fun _ _=>?_)|refine zi (fun _ _=>?_))
   refine ⟨i+1,⟨rfl,rfl,rfl,trivial⟩,⟨by repeat (first|assumption|exact Ext.refl _|refine Ext.trans ?_ (by assumption)),by omega,fun j hj hji=>?_⟩,by omega⟩
   rcases Nat.lt_or_ge j i with h5|h5
   ·exact hno j hj h5
   ·have:j=i:=by omega
    subst this;exact h2
 ·repeat (first|refine go ?_|refine zg (fun _ _=>?_)|refine zi (fun _ _=>?_))
  refine x_ret rfl ⟨congrArg (Value.int .i64) ?_,by repeat (first|assumption|exact Ext.refl _|refine Ext.trans ?_ (by assumption))⟩
  rw [refFind,refIdx_none.2]
  intro e he
  obtain ⟨j,hj,rfl⟩:=List.getElem_of_mem he
  exact hno j hj (by omega)
theorem r10total_spec {v:Value} {l:List En} (w:World) (hs:SlE entE w v l) (hn:l.length≤100000) (hm:Mon l):K.Spec Tryz.prog F.kedgeref10_Total [v] w fun v' w'=>v'=.int .i64 (tot l)∧Ext w w':=by
 refine s_kedgeref10_Total rfl ?_
 unfold k_kedgeref10_Total
 refine oy ?_
 repeat (first|refine go ?_|refine zg (fun _ _=>?_)|refine zi (fun _ _=>?_))
 refine c_loopV (fun (i:Nat) w'=>Ext w w'∧i≤l.length) (fun i=> [(0,v),(3,.int .i64 (tot (l.take i))),(4,.int .i64 i)]) (fun i=>l.length - i) 0 ⟨rfl,rfl,rfl,trivial⟩ ⟨Ext.refl _,by omega⟩ ?_
 rintro i ρ w1 ⟨x1,hi⟩
 repeat (first|refine go ?_|refine zg (fun _ _=>?_)|refine zi (fun _ _=>?_))
 refine st_len rfl (hs.ext x1) ?_
 repeat (first|refine go ?_|refine zg (fun _ _=>?_)|refine zi (fun _ _=>?_))
 refine c_cond rfl (fun h=>?_) (fun h=>?_)
 ·repeat (first|refine go ?_|refine zg (fun _ _=>?_)|refine zi (fun _ _=>?_))
  refine st_elemE rfl rfl (hs.ext x1) rfl (by omega) (fun ad r3=>?_)
  have hil:i<l.length:=by omega
  have e:=tot_take hil
  have b1:=tot_take_le hm i
  have b2:=tot_take_le hm (i+1)
  have b3:=hm.2
  repeat (first|refine go ?_|refine zg (fun _ _=>?_)|refine zi (fun _ _=>?_))
  exact ⟨i+1,⟨rfl,congrArg (Value.int .i64) e.symm,rfl,trivial⟩,⟨x1,by omega⟩,by omega⟩
 ·repeat (first|refine go ?_|refine zg (fun _ _=>?_)|refine zi (fun _ _=>?_))
  refine x_ret rfl ⟨congrArg (Value.int .i64) ?_,x1⟩
  rw [List.take_of_length_le (by omega)]
def NewOr (v vl:Value) (l l':List En) (B:Nat):Prop:=(vl=v∧l'=l)∨∀b∈blkOf vl,B≤b
theorem NewOr.old {v vl:Value} {l l':List En} {B:Nat} (h:NewOr v vl l l' B):∀b∈blkOf vl,b∈blkOf v∨B≤b:=by
 rcases h with ⟨rfl, -⟩|h
 ·exact fun b hb=>.inl hb
 ·exact fun b hb=>.inr (h b hb)
theorem NewOr.trans {v vm vl:Value} {l m l':List En} {B B':Nat} (h:NewOr v vm l m B) (h':NewOr vm vl m l' B') (hB:B≤B'):NewOr v vl l l' B:=by
 rcases h' with ⟨rfl,rfl⟩|h'
 ·exact h
 ·exact .inr fun b hb=>Nat.le_trans hB (h' b hb)
theorem rput10_spec {v:Value} {l:List En} (p:Pt) (c:Cn) (w:World) (hs:SlE entE w v l) (hn:l.length≤100000) (hm:Mon l):K.Spec Tryz.prog F.kedgeref10_Put [v,p.val,c.val] w fun v' w'=>
  ∃vl,v'=.tuple #[vl,.int .i64 (refPutCode l p c)]∧SlE entE w' vl (refPut l p c)∧NewOr v vl l (refPut l p c) w.heap.size∧Ext w w':=by
 refine s_kedgeref10_Put rfl ?_
 unfold k_kedgeref10_Put
 refine oy ?_
 have fail:∀{w':World} {n:Int},Ext w w'→n≠0→refPutCode l p c=n→∃vl,Value.tuple #[v,.int .i64 n]=.tuple #[vl,.int .i64 (refPutCode l p c)]∧SlE entE w' vl (refPut l p c)∧NewOr v vl l (refPut l p c) w.heap.size∧Ext w w':=by
  intro w' n x h0 hc
  refine ⟨v,by rw [hc],?_,.inl ⟨rfl,by rw [refPut,if_neg (by rw [hc];exact h0)]⟩,x⟩
  rw [refPut,if_neg (by rw [hc];exact h0)];exact hs.ext x
 repeat (first|refine go ?_|refine zg (fun _ _=>?_)|refine zi (fun _ _=>?_))
 refine st_box rfl rfl (fun b1 w1 x1 a1 r1 hb1=>?_)
 repeat (first|refine go ?_|refine zg (fun _ _=>?_)|refine zi (fun _ _=>?_))
 refine st_box rfl rfl (fun b2 w2 x2 a2 r2 hb2=>?_)
 repeat (first|refine go ?_|refine zg (fun _ _=>?_)|refine zi (fun _ _=>?_))
 have e32:((p.s.size:Int)=32)↔p.s.size=32:=by omega
 refine g_cases rfl (fun h1=>?_) (fun h1=>?_)
 ·repeat (first|refine go ?_|refine zg (fun _ _=>?_)|refine zi (fun _ _=>?_))
  refine x_ret (ret2 rv_tmp rv_tmp) (fail (by repeat (first|assumption|exact Ext.refl _|refine Ext.trans ?_ (by assumption))) (by decide) (refPutCode2 ?_))
  have h1':¬p.s.size=32:=fun h=>by simp [e32.2 h] at h1
  simp [formedB,h1']
 have h1:p.s.size=32:=e32.1 (by simpa using h1)
 repeat (first|refine go ?_|refine zg (fun _ _=>?_)|refine zi (fun _ _=>?_))
 refine g_split rfl (fun h2=>?_) (fun h2=>?_)
 ·repeat (first|refine go ?_|refine zg (fun _ _=>?_)|refine zi (fun _ _=>?_))
  refine x_ret (ret2 rv_tmp rv_tmp) (fail (by repeat (first|assumption|exact Ext.refl _|refine Ext.trans ?_ (by assumption))) (by decide) (refPutCode2 ?_))
  have h2':¬0≤c.h:=by omega
  simp [formedB,h2']
 repeat (first|refine go ?_|refine zg (fun _ _=>?_)|refine zi (fun _ _=>?_))
 refine g_split rfl (fun h3=>?_) (fun h3=>?_)
 ·repeat (first|refine go ?_|refine zg (fun _ _=>?_)|refine zi (fun _ _=>?_))
  refine x_ret (ret2 rv_tmp rv_tmp) (fail (by repeat (first|assumption|exact Ext.refl _|refine Ext.trans ?_ (by assumption))) (by decide) (refPutCode2 ?_))
  have h3':¬c.h≤1000000:=by omega
  simp [formedB,h3']
 repeat (first|refine go ?_|refine zg (fun _ _=>?_)|refine zi (fun _ _=>?_))
 refine c_condB rfl (fun h4=>?_) (fun h4=>?_)
 ·repeat (first|refine go ?_|refine zg (fun _ _=>?_)|refine zi (fun _ _=>?_))
  refine x_ret (ret2 rv_tmp rv_tmp) (fail (by repeat (first|assumption|exact Ext.refl _|refine Ext.trans ?_ (by assumption))) (by decide) (refPutCode2 ?_))
  have h4':goodB c.v=false:=by simpa using h4
  simp [formedB,h4']
 have h4:goodB c.v=true:=by simpa using h4
 have hf:formedB p c=true:=by simp [formedB,h1,h4];omega
 have hcv:=(goodB_iff _).1 h4
 have ht:=tot_take_le hm l.length
 rw [List.take_length] at ht
 have hT:=hm.2
 repeat (first|refine go ?_|refine zg (fun _ _=>?_)|refine zi (fun _ _=>?_))
 refine st_call rfl (find10_spec p _ ((hs.ext x1).ext x2) hn) ?_
 rintro _ w4 ⟨rfl,x4⟩
 repeat (first|refine go ?_|refine zg (fun _ _=>?_)|refine zi (fun _ _=>?_))
 cases hi:refIdx l p with
 |some n=>
  have hfi:refFind l p=(n:Int):=by rw [refFind,hi]
  rw [hfi]
  have hpos:(n:Int)≥0:=by omega
  refine c_cond (p:=(n:Int)≥0) rfl (fun _=>?_) (fun h=>absurd hpos h)
  repeat (first|refine go ?_|refine zg (fun _ _=>?_)|refine zi (fun _ _=>?_))
  exact x_ret (ret2 rv_tmp rv_tmp) (fail (by repeat (first|assumption|exact Ext.refl _|refine Ext.trans ?_ (by assumption))) (by decide) (refPutCode7 hf hi))
 |none=>
  have hfi:refFind l p= -1:=by rw [refFind,hi]
  rw [hfi]
  refine c_false rfl ?_
  repeat (first|refine go ?_|refine zg (fun _ _=>?_)|refine zi (fun _ _=>?_))
  refine st_call rfl (r10total_spec _ (((hs.ext x1).ext x2).ext x4) hn hm) ?_
  rintro _ w5 ⟨rfl,x5⟩
  repeat (first|refine go ?_|refine zg (fun _ _=>?_)|refine zi (fun _ _=>?_))
  have hc0:=refPutCode0 hf hi
  refine c_condB rfl (fun h5=>?_) (fun h5=>?_)
  ·repeat (first|refine go ?_|refine zg (fun _ _=>?_)|refine zi (fun _ _=>?_))
   refine x_ret (ret2 rv_tmp rv_tmp) (fail (by repeat (first|assumption|exact Ext.refl _|refine Ext.trans ?_ (by assumption))) (by decide) ?_)
   rw [hc0,(by simpa using h5:goodB (tot l+c.v)=false)];rfl
  have h5:goodB (tot l+c.v)=true:=by simpa using h5
  rw [h5] at hc0
  have hc0:refPutCode l p c=0:=hc0
  repeat (first|refine go ?_|refine zg (fun _ _=>?_)|refine zi (fun _ _=>?_))
  have x06:Unit→Ext w w5:=fun _=>by repeat (first|assumption|exact Ext.refl _|refine Ext.trans ?_ (by assumption))
  have hs6:=hs.ext (x06 ())
  have r16:Row w5 ⟨b1,0,none⟩ _:=((r1.ext x2).ext x4).ext x5
  have r26:Row w5 ⟨b2,0,none⟩ _:=(r2.ext x4).ext x5
  refine c_loopV (fun (s:Nat × Value) w'=>Ext w5 w'∧s.1≤l.length∧Own entE T.kedgeref10_Entry w5.heap.size w' s.2 (insRun p c (l.take s.1)).1)
   (fun s=> [(0,v),(4,.pointer (some ⟨b1,0,none⟩)),(5,.pointer (some ⟨b2,0,none⟩)),(11,s.2),(12,.bool (insRun p c (l.take s.1)).2),(13,.int .i64 s.1)]) (fun s=>l.length - s.1) (0,.slice none 0 0) ⟨rfl,rfl,rfl,rfl,rfl,rfl,trivial⟩ ⟨Ext.refl _,by simp,by simpa [insRun] using Own.nil _ _ _⟩ ?_
  rintro ⟨i,vo⟩ ρ w7 ⟨x7,hil,ho⟩
  simp only at hil ho
  have hlen:=insRun_len p c (l.take i)
  have hlt:(l.take i).length≤l.length:=by simp;omega
  repeat (first|refine go ?_|refine zg (fun _ _=>?_)|refine zi (fun _ _=>?_))
  refine st_len rfl (hs6.ext x7) ?_
  repeat (first|refine go ?_|refine zg (fun _ _=>?_)|refine zi (fun _ _=>?_))
  refine c_cond rfl (fun h=>?_) (fun h=>?_)
  ·have hil':i<l.length:=by omega
   repeat (first|refine go ?_|refine zg (fun _ _=>?_)|refine zi (fun _ _=>?_))
   rename_i w8 x8
   refine st_elemE rfl rfl ((hs6.ext x7).ext x8) rfl hil' (fun ad r8=>?_)
   repeat (first|refine go ?_|refine zg (fun _ _=>?_)|refine zi (fun _ _=>?_))
   refine st_call rfl (rless_spec p l[i].1 _) ?_
   rintro _ w9 ⟨rfl,x9⟩
   repeat (first|refine go ?_|refine zg (fun _ _=>?_)|refine zi (fun _ _=>?_))
   have x79:Unit→Ext w5 w9:=fun _=>by repeat (first|assumption|exact Ext.refl _|refine Ext.trans ?_ (by assumption))
   have no:ptLt p l[i].1=false∨(insRun p c (l.take i)).2=true→insRun p c (l.take (i+1))=((insRun p c (l.take i)).1++ [l[i]],(insRun p c (l.take i)).2):=fun h=>insRun_not hil' h
   refine g_cases rfl (fun hL=>?_) (fun hL=>?_)
   ·repeat (first|refine go ?_|refine zg (fun _ _=>?_)|refine zi (fun _ _=>?_))
    refine c_condB rfl (fun hq=>?_) (fun hq=>?_)
    ·have hq:(insRun p c (l.take i)).2=false:=by simpa using hq
     have yes:=insRun_put (c:=c) hil' hL hq
     repeat (first|refine go ?_|refine zg (fun _ _=>?_)|refine zi (fun _ _=>?_))
     refine st_buildSlice rfl (fun b13 w13 x13 a13 hb13=>?_)
     repeat (first|refine go ?_|refine zg (fun _ _=>?_)|refine zi (fun _ _=>?_))
     refine st_append (E:=entE) (v:=vo) (l2:= [(p,c)]) rfl (((ho.ext x8).ext x9).ext x13) (Nat.le_trans (Ext.size (x79 ())) x13.size) rfl rfl (sl_new a13 rfl) rfl rfl (by simp;omega) (fun vo1 w14 ho1 c14=>?_)
     have x614:Unit→Ext w5 w14:=fun _=>(((x79 ()).trans x13).chg c14).mono (fun b hb=>.inr (ho.base b (by simpa using hb)))
     repeat (first|refine go ?_|refine zg (fun _ _=>?_)|refine zi (fun _ _=>?_))
     refine st_elemE rfl rfl (hs6.ext (x614 ())) rfl hil' (fun ad r10=>?_)
     repeat (first|refine go ?_|refine zg (fun _ _=>?_)|refine zi (fun _ _=>?_))
     refine st_buildSlice rfl (fun b11 w11 x11 a11 hb11=>?_)
     repeat (first|refine go ?_|refine zg (fun _ _=>?_)|refine zi (fun _ _=>?_))
     refine st_append (E:=entE) (v:=vo1) (l2:= [l[i]]) rfl (ho1.ext x11) (Nat.le_trans (Ext.size (x614 ())) x11.size) rfl rfl (sl_new a11 rfl) rfl rfl (by simp;omega) (fun vo' w12 ho' c12=>?_)
     repeat (first|refine go ?_|refine zg (fun _ _=>?_)|refine zi (fun _ _=>?_))
     refine ⟨(i+1,vo'),⟨rfl,rfl,rfl,rfl,?_,rfl,trivial⟩,⟨(((x614 ()).trans x11).chg c12).mono (fun b hb=>.inr (ho1.base b (by simpa using hb))),by simp;omega,?_⟩,by simp;omega⟩
     ·show Value.bool true=.bool (insRun p c (l.take (i+1))).2
      rw [yes]
     ·show Own _ _ _ _ _ (insRun p c (l.take (i+1))).1
      rw [yes];exact ho'
    ·have hq:(insRun p c (l.take i)).2=true:=by simpa using hq
     repeat (first|refine go ?_|refine zg (fun _ _=>?_)|refine zi (fun _ _=>?_))
     refine st_elemE rfl rfl (hs6.ext (x79 ())) rfl hil' (fun ad r10=>?_)
     repeat (first|refine go ?_|refine zg (fun _ _=>?_)|refine zi (fun _ _=>?_))
     refine st_buildSlice rfl (fun b11 w11 x11 a11 hb11=>?_)
     repeat (first|refine go ?_|refine zg (fun _ _=>?_)|refine zi (fun _ _=>?_))
     refine st_append (E:=entE) (v:=vo) (l2:= [l[i]]) rfl (((ho.ext x8).ext x9).ext x11) (Nat.le_trans (Ext.size (x79 ())) x11.size) rfl rfl (sl_new a11 rfl) rfl rfl (by simp;omega) (fun vo' w12 ho' c12=>?_)
     repeat (first|refine go ?_|refine zg (fun _ _=>?_)|refine zi (fun _ _=>?_))
     refine ⟨(i+1,vo'),⟨rfl,rfl,rfl,rfl,?_,rfl,trivial⟩,⟨(((x79 ()).trans x11).chg c12).mono (fun b hb=>.inr (ho.base b (by simpa using hb))),by simp;omega,?_⟩,by simp;omega⟩
     ·show Value.bool (insRun p c (l.take i)).2=.bool (insRun p c (l.take (i+1))).2
      rw [no (.inr hq)]
     ·show Own _ _ _ _ _ (insRun p c (l.take (i+1))).1
      rw [no (.inr hq)];exact ho'
   ·repeat (first|refine go ?_|refine zg (fun _ _=>?_)|refine zi (fun _ _=>?_))
    refine st_elemE rfl rfl (hs6.ext (x79 ())) rfl hil' (fun ad r10=>?_)
    repeat (first|refine go ?_|refine zg (fun _ _=>?_)|refine zi (fun _ _=>?_))
    refine st_buildSlice rfl (fun b11 w11 x11 a11 hb11=>?_)
    repeat (first|refine go ?_|refine zg (fun _ _=>?_)|refine zi (fun _ _=>?_))
    refine st_append (E:=entE) (v:=vo) (l2:= [l[i]]) rfl (((ho.ext x8).ext x9).ext x11) (Nat.le_trans (Ext.size (x79 ())) x11.size) rfl rfl (sl_new a11 rfl) rfl rfl (by simp;omega) (fun vo' w12 ho' c12=>?_)
    repeat (first|refine go ?_|refine zg (fun _ _=>?_)|refine zi (fun _ _=>?_))
    refine ⟨(i+1,vo'),⟨rfl,rfl,rfl,rfl,?_,rfl,trivial⟩,⟨(((x79 ()).trans x11).chg c12).mono (fun b hb=>.inr (ho.base b (by simpa using hb))),by simp;omega,?_⟩,by simp;omega⟩
    ·show Value.bool (insRun p c (l.take i)).2=.bool (insRun p c (l.take (i+1))).2
     rw [no (.inl hL)]
    ·show Own _ _ _ _ _ (insRun p c (l.take (i+1))).1
     rw [no (.inl hL)];exact ho'
  ·have el:l.take i=l:=List.take_of_length_le (by omega)
   have s6:=(x06 ()).size
   repeat (first|refine go ?_|refine zg (fun _ _=>?_)|refine zi (fun _ _=>?_))
   refine c_condB rfl (fun hp=>?_) (fun hp=>?_)
   ·have hp:(insRun p c (l.take i)).2=false:=by simpa using hp
    repeat (first|refine go ?_|refine zg (fun _ _=>?_)|refine zi (fun _ _=>?_))
    refine st_buildSlice rfl (fun b13 w13 x13 a13 hb13=>?_)
    repeat (first|refine go ?_|refine zg (fun _ _=>?_)|refine zi (fun _ _=>?_))
    refine st_append (E:=entE) (v:=vo) (l2:= [(p,c)]) rfl (ho.ext x13) (Nat.le_trans x7.size x13.size) rfl rfl (sl_new a13 rfl) rfl rfl (by simp;omega) (fun vo1 w14 ho1 c14=>?_)
    have x614:Unit→Ext w5 w14:=fun _=>((x7.trans x13).chg c14).mono (fun b hb=>.inr (ho.base b (by simpa using hb)))
    repeat (first|refine go ?_|refine zg (fun _ _=>?_)|refine zi (fun _ _=>?_))
    rw [el] at hp ho1
    refine x_ret (ret2 rv_tmp rv_tmp) ⟨vo1,by rw [hc0];rfl,?_,.inr fun b hb=>Nat.le_trans s6 (ho1.base b hb),(x06 ()).trans (x614 ())⟩
    rw [refPut,if_pos hc0,insEnd,hp]
    exact ho1.sl
   ·have hp:(insRun p c (l.take i)).2=true:=by simpa using hp
    repeat (first|refine go ?_|refine zg (fun _ _=>?_)|refine zi (fun _ _=>?_))
    rw [el] at hp ho
    refine x_ret (ret2 rv_tmp rv_tmp) ⟨vo,by rw [hc0];rfl,?_,.inr fun b hb=>Nat.le_trans s6 (ho.base b hb),(x06 ()).trans x7⟩
    rw [refPut,if_pos hc0,insEnd,hp]
    exact ho.sl
end Go.Proofs.YtbidkcjendncaaaGreatDoor
end
section
namespace Go.Proofs.YtbidkcjendncaaaGreatDoor
open Go Go.K
attribute [local irreducible] regK codeK retK KOp.wp K.Spec u32 leS vnS str zero32 sha2 encT idT sizeT checkT grantB
end Go.Proofs.YtbidkcjendncaaaGreatDoor
end
section
namespace Go.Proofs.YtbidkcjendncaaaGreatDoor
open Go Go.K
attribute [local irreducible] regK codeK retK KOp.wp K.Spec u32 leS vnS str zero32 sha2 encT idT sizeT checkT grantB
theorem rem8 (b:UInt8) (m:Nat) (h:0<m):binVal .rem (.int .u8 (b.toNat:Nat)) (.int .u8 (m:Nat))=some (.int .u8 ((UInt8.ofNat (b.toNat%m)).toNat:Nat)):=by
 have h1:=b.toNat_lt
 have h2:b.toNat%m≤b.toNat:=Nat.mod_le _ _
 have e:(UInt8.ofNat (b.toNat%m)).toNat=b.toNat%m:=by rw [UInt8.toNat_ofNat'];omega
 rw [rem_u8 _ _ h,e]
theorem quoN (a:Int) (m:Nat) (h:0<m) (ha: -9223372036854775808<a∧a<9223372036854775808):binVal .quo (.int .i64 a) (.int .i64 (m:Nat))=some (.int .i64 (a.tdiv (m:Nat))):=by
 have hne:(m:Int)≠0:=by omega
 simp only [binVal,isShift,Bool.false_eq_true,if_false,if_true,intBin]
 rw [if_neg hne]
 have hb: -9223372036854775808≤a.tdiv (m:Nat)∧a.tdiv (m:Nat)≤9223372036854775807:=by
  by_cases hn:0≤a
  ·obtain ⟨n,rfl⟩:=Int.eq_ofNat_of_zero_le hn
   rw [td]
   have:=Nat.div_le_self n m
   generalize n / m=q at this ⊢
   omega
  ·obtain ⟨n,hn2⟩:=Int.eq_ofNat_of_zero_le (show 0≤ -a by omega)
   have e:a= -((n:Nat):Int):=by omega
   rw [e,Int.neg_tdiv,td]
   have:=Nat.div_le_self n m
   generalize n / m=q at this ⊢
   omega
 rw [IntWalk.i64_in _ hb]
abbrev zTx:List Value:= [.int .u32 0,.slice none 0 0,.slice none 0 0,.int .u32 0]
end Go.Proofs.YtbidkcjendncaaaGreatDoor
end
section
namespace Go.K
open Go Go.Proofs.YtbidkcjendncaaaGreatDoor
structure BSm where
 spends:List UInt8
 tag:UInt8
 fee:Int
 outs:Int
 pays:UInt8
 delay:UInt8
 height:UInt8
 grant:Bool
 odd:Bool
instance:Inhabited BSm:=⟨⟨[],0,0,0,0,0,0,false,false⟩⟩
def bsmCs (z:BSm) (fv:Value):List Value:= [fv,u8V z.tag,.int .u16 z.fee,.int .u16 z.outs,u8V z.pays,u8V z.delay,u8V z.height,.bool z.grant,.bool z.odd]
def bsmR:R BSm where
 k:=9
 pos:=by decide
 ag:=true
 rel:=fun M w cs z=>∃fv,cs=bsmCs z fv∧SlR u8R M w fv z.spends∧(0≤z.fee∧z.fee≤65535)∧0≤z.outs∧z.outs≤65535
 len:=fun ⟨_,h,_⟩=>by rw [h];rfl
 one:=fun ⟨fv,h,hs,_⟩ v hv=>by
  obtain ⟨b,c,rfl⟩:=hs.form
  subst h;simp [bsmCs] at hv;rcases hv with rfl|rfl|rfl|rfl|rfl|rfl|rfl|rfl|rfl<;>rfl
 step:=fun ⟨fv,h,hs,h2⟩ c hL hM=>⟨fv,h,hs.step c hL hM,h2⟩
structure MkOk (t:Tx):Prop where
 ins:t.ins.length≤4
 outs:t.outs.length≤3
 wit:∀x∈t.ins,x.wit.length≤1
 vals:∀o∈t.outs,0≤o.v∧o.v≤8400000000000000
theorem MkOk.sm {t:Tx} (h:MkOk t):t.Sm:=⟨by have:=h.ins;omega,by have:=h.outs;omega,fun x hx=>by have:=h.wit x hx;omega⟩
end Go.K
end
