/- Contracts: the document's lists of coins. Contracts: the document's coins of numbers, and its view; sets of coins. -/
import Derived.Test.YtfebcajheojodaaGreatDoorDc32
set_option linter.unusedVariables false
set_option linter.unusedSimpArgs false
section
namespace Go.Proofs.YtfebcajheojodaaGreatDoor
open Go Go.K
attribute [local irreducible] regK codeK retK KOp.wp K.Spec
theorem rless_spec (p q:Pt) (w:World):K.Spec Tryz.prog F.kedgeref05_Less [p.val,q.val] w fun v w'=>v=.bool (ptLt p q)∧Ext w w':=by
 refine s_kedgeref05_Less rfl ?_
 unfold k_kedgeref05_Less
 refine oy ?_
 repeat (first|refine go ?_|refine zg (fun _ _=>?_)|refine zi (fun _ _=>?_))
 refine st_box rfl rfl (fun b1 w1 x1 _ r1 _=>?_)
 repeat (first|refine go ?_|refine zg (fun _ _=>?_)|refine zi (fun _ _=>?_))
 refine st_box rfl rfl (fun b2 w2 x2 _ r2 _=>?_)
 repeat (first|refine go ?_|refine zg (fun _ _=>?_)|refine zi (fun _ _=>?_))
 refine c_cond rfl (fun h=>?_) (fun h=>?_)
 ·repeat (first|refine go ?_|refine zg (fun _ _=>?_)|refine zi (fun _ _=>?_))
  exact x_ret rfl ⟨congrArg Value.bool (by rw [ptLt,if_pos h]),x1.trans x2⟩
 ·repeat (first|refine go ?_|refine zg (fun _ _=>?_)|refine zi (fun _ _=>?_))
  exact x_ret rfl ⟨congrArg Value.bool (by rw [ptLt,if_neg h]),x1.trans x2⟩
theorem same10_spec (s s':ByteArray) (i i':Int) (w:World):K.Spec Tryz.prog F.kedgeref10_same [.agg #[.string s,.int .u32 i],.agg #[.string s',.int .u32 i']] w fun v w'=>v=.bool (decide (s=s'∧i=i'))∧Ext w w':=by
 refine s_kedgeref10_same rfl ?_
 unfold k_kedgeref10_same
 refine oy ?_
 repeat (first|refine go ?_|refine zg (fun _ _=>?_)|refine zi (fun _ _=>?_))
 refine st_box rfl rfl (fun b1 w1 x1 _ r1 _=>?_)
 repeat (first|refine go ?_|refine zg (fun _ _=>?_)|refine zi (fun _ _=>?_))
 refine st_box rfl rfl (fun b2 w2 x2 _ r2 _=>?_)
 repeat (first|refine go ?_|refine zg (fun _ _=>?_)|refine zi (fun _ _=>?_))
 refine g_split rfl (fun h=>?_) (fun h=>?_)
 ·repeat (first|refine go ?_|refine zg (fun _ _=>?_)|refine zi (fun _ _=>?_))
  refine x_ret rfl ⟨congrArg Value.bool ?_,x1.trans x2⟩
  simp [h]
 ·repeat (first|refine go ?_|refine zg (fun _ _=>?_)|refine zi (fun _ _=>?_))
  refine x_ret rfl ⟨congrArg Value.bool ?_,x1.trans x2⟩
  simp [h]
theorem psame_spec (p q:Pt) (w:World):K.Spec Tryz.prog F.kedgeref10_same [p.val,q.val] w fun v w'=>v=.bool (decide (p=q))∧Ext w w':=by
 have h:=same10_spec p.s q.s p.i q.i w
 have e:decide (p.s=q.s∧p.i=q.i)=decide (p=q):=by cases p;cases q;simp
 rw [e] at h;exact h
theorem find10_spec {v:Value} {l:List En} (p:Pt) (w:World) (hs:SlE entE w v l) (hn:l.length≤100000):K.Spec Tryz.prog F.kedgeref10_Find [v,p.val] w fun v' w'=>v'=.int .i64 (refFind l p)∧Ext w w':=by
 refine s_kedgeref10_Find rfl ?_
 unfold k_kedgeref10_Find
 refine oy ?_
 repeat (first|refine go ?_|refine zg (fun _ _=>?_)|refine zi (fun _ _=>?_))
 refine st_box rfl rfl (fun b1 w1 x1 a1 r1 hb1=>?_)
 repeat (first|refine go ?_|refine zg (fun _ _=>?_)|refine zi (fun _ _=>?_))
 refine c_loopV (fun (i:Nat) w'=>Ext w1 w'∧i≤l.length∧∀j,∀h:j<l.length,j<i→l[j].1≠p) (fun i=> [(0,v),(3,.pointer (some ⟨b1,0,none⟩)),(5,.int .i64 i)]) (fun i=>l.length - i) 0 ⟨rfl,rfl,rfl,trivial⟩ ⟨Ext.refl _,by omega,by intros;omega⟩ ?_
 rintro i ρ w2 ⟨x2,hi,hno⟩
 repeat (first|refine go ?_|refine zg (fun _ _=>?_)|refine zi (fun _ _=>?_))
 refine st_len rfl ((hs.ext x1).ext x2) ?_
 repeat (first|refine go ?_|refine zg (fun _ _=>?_)|refine zi (fun _ _=>?_))
 refine c_cond rfl (fun h=>?_) (fun h=>?_)
 ·repeat (first|refine go ?_|refine zg (fun _ _=>?_)|refine zi (fun _ _=>?_))
  rename_i w3 x3
  refine st_elemE rfl rfl (((hs.ext x1).ext x2).ext x3) rfl (by omega) (fun ad r3=>?_)
  repeat (first|refine go ?_|refine zg (fun _ _=>?_)|refine zi (fun _ _=>?_))
  have hil:i<l.length:=by omega
  refine st_call rfl (psame_spec l[i].1 p _) ?_
  rintro _ w4 ⟨rfl,x4⟩
  repeat (first|refine go ?_|refine zg (fun _ _=>?_)|refine zi (fun _ _=>?_))
  refine c_cond rfl (fun h2=>?_) (fun h2=>?_)
  ·repeat (first|refine go ?_|refine zg (fun _ _=>?_)|refine zi (fun _ _=>?_))
   refine x_ret rfl ⟨congrArg (Value.int .i64) ?_,by repeat (first|assumption|exact Ext.refl _|refine Ext.trans ?_ (by assumption))⟩
   rw [refFind,refIdx_some.2 ⟨hil,h2,fun j hj=>hno j (by omega) hj⟩]
  ·repeat (first|refine go ?_|refine zg (fun _ _=>?_)|refine zi (fun _ _=>?_))
   refine ⟨i+1,⟨rfl,rfl,rfl,trivial⟩,⟨by repeat (first|assumption|exact Ext.refl _|refine Ext.trans ?_ (by assumption)),by omega,fun j hj hji=>?_⟩,by omega⟩
   rcases Nat.lt_or_ge j i with h5|h5
   ·exact hno j hj h5
   ·have:j=i:=by omega
    subst this;exact h2
 ·repeat (first|refine go ?_|refine zg (fun _ _=>?_)|refine zi (fun _ _=>?_))
  refine x_ret rfl ⟨congrArg (Value.int .i64) ?_,by repeat (first|assumption|exact Ext.refl _|refine Ext.trans ?_ (by assumption))⟩
  rw [refFind,refIdx_none.2]
  intro e he
  obtain ⟨j,hj,rfl⟩:=List.getElem_of_mem he
  exact hno j hj (by omega)
theorem r10total_spec {v:Value} {l:List En} (w:World) (hs:SlE entE w v l) (hn:l.length≤100000) (hm:Mon l):K.Spec Tryz.prog F.kedgeref10_Total [v] w fun v' w'=>v'=.int .i64 (tot l)∧Ext w w':=by
 refine s_kedgeref10_Total rfl ?_
 unfold k_kedgeref10_Total
 refine oy ?_
 repeat (first|refine go ?_|refine zg (fun _ _=>?_)|refine zi (fun _ _=>?_))
 refine c_loopV (fun (i:Nat) w'=>Ext w w'∧i≤l.length) (fun i=> [(0,v),(3,.int .i64 (tot (l.take i))),(4,.int .i64 i)]) (fun i=>l.length - i) 0 ⟨rfl,rfl,rfl,trivial⟩ ⟨Ext.refl _,by omega⟩ ?_
 rintro i ρ w1 ⟨x1,hi⟩
 repeat (first|refine go ?_|refine zg (fun _ _=>?_)|refine zi (fun _ _=>?_))
 refine st_len rfl (hs.ext x1) ?_
 repeat (first|refine go ?_|refine zg (fun _ _=>?_)|refine zi (fun _ _=>?_))
 refine c_cond rfl (fun h=>?_) (fun h=>?_)
 ·repeat (first|refine go ?_|refine zg (fun _ _=>?_)|refine zi (fun _ _=>?_))
  refine st_elemE rfl rfl (hs.ext x1) rfl (by omega) (fun ad r3=>?_)
  have hil:i<l.length:=by omega
  have e:=tot_take hil
  have b1:=tot_take_le hm i
  have b2:=tot_take_le hm (i+1)
  have b3:=hm.2
  repeat (first|refine go ?_|refine zg (fun _ _=>?_)|refine zi (fun _ _=>?_))
  exact ⟨i+1,⟨rfl,congrArg (Value.int .i64) e.symm,rfl,trivial⟩,⟨x1,by omega⟩,by omega⟩
 ·repeat (first|refine go ?_|refine zg (fun _ _=>?_)|refine zi (fun _ _=>?_))
  refine x_ret rfl ⟨congrArg (Value.int .i64) ?_,x1⟩
  rw [List.take_of_length_le (by omega)]
def NewOr (v vl:Value) (l l':List En) (B:Nat):Prop:=(vl=v∧l'=l)∨∀b∈blkOf vl,B≤b
theorem NewOr.old {v vl:Value} {l l':List En} {B:Nat} (h:NewOr v vl l l' B):∀b∈blkOf vl,b∈blkOf v∨B≤b:=by
 rcases h with ⟨rfl, -⟩|h
 ·exact fun b hb=>.inl hb
 ·exact fun b hb=>.inr (h b hb)
theorem NewOr.trans {v vm vl:Value} {l m l':List En} {B B':Nat} (h:NewOr v vm l m B) (h':NewOr vm vl m l' B') (hB:B≤B'):NewOr v vl l l' B:=by
 rcases h' with ⟨rfl,rfl⟩|h'
 ·exact h
 ·exact .inr fun b hb=>Nat.le_trans hB (h' b hb)
theorem rput10_spec {v:Value} {l:List En} (p:Pt) (c:Cn) (w:World) (hs:SlE entE w v l) (hn:l.length≤100000) (hm:Mon l):K.Spec Tryz.prog F.kedgeref10_Put [v,p.val,c.val] w fun v' w'=>
  ∃vl,v'=.tuple #[vl,.int .i64 (refPutCode l p c)]∧SlE entE w' vl (refPut l p c)∧NewOr v vl l (refPut l p c) w.heap.size∧Ext w w':=by
 refine s_kedgeref10_Put rfl ?_
 unfold k_kedgeref10_Put
 refine oy ?_
 have fail:∀{w':World} {n:Int},Ext w w'→n≠0→refPutCode l p c=n→∃vl,Value.tuple #[v,.int .i64 n]=.tuple #[vl,.int .i64 (refPutCode l p c)]∧SlE entE w' vl (refPut l p c)∧NewOr v vl l (refPut l p c) w.heap.size∧Ext w w':=by
  intro w' n x h0 hc
  refine ⟨v,by rw [hc],?_,.inl ⟨rfl,by rw [refPut,if_neg (by rw [hc];exact h0)]⟩,x⟩
  rw [refPut,if_neg (by rw [hc];exact h0)];exact hs.ext x
 repeat (first|refine go ?_|refine zg (fun _ _=>?_)|refine zi (fun _ _=>?_))
 refine st_box rfl rfl (fun b1 w1 x1 a1 r1 hb1=>?_)
 repeat (first|refine go ?_|refine zg (fun _ _=>?_)|refine zi (fun _ _=>?_))
 refine st_box rfl rfl (fun b2 w2 x2 a2 r2 hb2=>?_)
 repeat (first|refine go ?_|refine zg (fun _ _=>?_)|refine zi (fun _ _=>?_))
 have e32:((p.s.size:Int)=32)↔p.s.size=32:=by omega
 refine g_cases rfl (fun h1=>?_) (fun h1=>?_)
 ·repeat (first|refine go ?_|refine zg (fun _ _=>?_)|refine zi (fun _ _=>?_))
  refine x_ret (ret2 rv_tmp rv_tmp) (fail (by repeat (first|assumption|exact Ext.refl _|refine Ext.trans ?_ (by assumption))) (by decide) (refPutCode2 ?_))
  have h1':¬p.s.size=32:=fun h=>by simp [e32.2 h] at h1
  simp [formedB,h1']
 have h1:p.s.size=32:=e32.1 (by simpa using h1)
 repeat (first|refine go ?_|refine zg (fun _ _=>?_)|refine zi (fun _ _=>?_))
 refine g_split rfl (fun h2=>?_) (fun h2=>?_)
 ·repeat (first|refine go ?_|refine zg (fun _ _=>?_)|refine zi (fun _ _=>?_))
  refine x_ret (ret2 rv_tmp rv_tmp) (fail (by repeat (first|assumption|exact Ext.refl _|refine Ext.trans ?_ (by assumption))) (by decide) (refPutCode2 ?_))
  have h2':¬0≤c.h:=by omega
  simp [formedB,h2']
 repeat (first|refine go ?_|refine zg (fun _ _=>?_)|refine zi (fun _ _=>?_))
 refine g_split rfl (fun h3=>?_) (fun h3=>?_)
 ·repeat (first|refine go ?_|refine zg (fun _ _=>?_)|refine zi (fun _ _=>?_))
  refine x_ret (ret2 rv_tmp rv_tmp) (fail (by repeat (first|assumption|exact Ext.refl _|refine Ext.trans ?_ (by assumption))) (by decide) (refPutCode2 ?_))
  have h3':¬c.h≤1000000:=by omega
  simp [formedB,h3']
 repeat (first|refine go ?_|refine zg (fun _ _=>?_)|refine zi (fun _ _=>?_))
 refine c_condB rfl (fun h4=>?_) (fun h4=>?_)
 ·repeat (first|refine go ?_|refine zg (fun _ _=>?_)|refine zi (fun _ _=>?_))
  refine x_ret (ret2 rv_tmp rv_tmp) (fail (by repeat (first|assumption|exact Ext.refl _|refine Ext.trans ?_ (by assumption))) (by decide) (refPutCode2 ?_))
  have h4':goodB c.v=false:=by simpa using h4
  simp [formedB,h4']
 have h4:goodB c.v=true:=by simpa using h4
 have hf:formedB p c=true:=by simp [formedB,h1,h4];omega
 have hcv:=(goodB_iff _).1 h4
 have ht:=tot_take_le hm l.length
 rw [List.take_length] at ht
 have hT:=hm.2
 repeat (first|refine go ?_|refine zg (fun _ _=>?_)|refine zi (fun _ _=>?_))
 refine st_call rfl (find10_spec p _ ((hs.ext x1).ext x2) hn) ?_
 rintro _ w4 ⟨rfl,x4⟩
 repeat (first|refine go ?_|refine zg (fun _ _=>?_)|refine zi (fun _ _=>?_))
 cases hi:refIdx l p with
 |some n=>
  have hfi:refFind l p=(n:Int):=by rw [refFind,hi]
  rw [hfi]
  have hpos:(n:Int)≥0:=by omega
  refine c_cond (p:=(n:Int)≥0) rfl (fun _=>?_) (fun h=>absurd hpos h)
  repeat (first|refine go ?_|refine zg (fun _ _=>?_)|refine zi (fun _ _=>?_))
  exact x_ret (ret2 rv_tmp rv_tmp) (fail (by repeat (first|assumption|exact Ext.refl _|refine Ext.trans ?_ (by assumption))) (by decide) (refPutCode7 hf hi))
 |none=>
  have hfi:refFind l p= -1:=by rw [refFind,hi]
  rw [hfi]
  refine c_false rfl ?_
  repeat (first|refine go ?_|refine zg (fun _ _=>?_)|refine zi (fun _ _=>?_))
  refine st_call rfl (r10total_spec _ (((hs.ext x1).ext x2).ext x4) hn hm) ?_
  rintro _ w5 ⟨rfl,x5⟩
  repeat (first|refine go ?_|refine zg (fun _ _=>?_)|refine zi (fun _ _=>?_))
  have hc0:=refPutCode0 hf hi
  refine c_condB rfl (fun h5=>?_) (fun h5=>?_)
  ·repeat (first|refine go ?_|refine zg (fun _ _=>?_)|refine zi (fun _ _=>?_))
   refine x_ret (ret2 rv_tmp rv_tmp) (fail (by repeat (first|assumption|exact Ext.refl _|refine Ext.trans ?_ (by assumption))) (by decide) ?_)
   rw [hc0,(by simpa using h5:goodB (tot l+c.v)=false)];rfl
  have h5:goodB (tot l+c.v)=true:=by simpa using h5
  rw [h5] at hc0
  have hc0:refPutCode l p c=0:=hc0
  repeat (first|refine go ?_|refine zg (fun _ _=>?_)|refine zi (fun _ _=>?_))
  have x06:Unit→Ext w w5:=fun _=>by repeat (first|assumption|exact Ext.refl _|refine Ext.trans ?_ (by assumption))
  have hs6:=hs.ext (x06 ())
  have r16:Row w5 ⟨b1,0,none⟩ _:=((r1.ext x2).ext x4).ext x5
  have r26:Row w5 ⟨b2,0,none⟩ _:=(r2.ext x4).ext x5
  refine c_loopV (fun (s:Nat × Value) w'=>Ext w5 w'∧s.1≤l.length∧Own entE T.kedgeref10_Entry w5.heap.size w' s.2 (insRun p c (l.take s.1)).1)
   (fun s=> [(0,v),(4,.pointer (some ⟨b1,0,none⟩)),(5,.pointer (some ⟨b2,0,none⟩)),(11,s.2),(12,.bool (insRun p c (l.take s.1)).2),(13,.int .i64 s.1)]) (fun s=>l.length - s.1) (0,.slice none 0 0) ⟨rfl,rfl,rfl,rfl,rfl,rfl,trivial⟩ ⟨Ext.refl _,by simp,by simpa [insRun] using Own.nil _ _ _⟩ ?_
  rintro ⟨i,vo⟩ ρ w7 ⟨x7,hil,ho⟩
  simp only at hil ho
  have hlen:=insRun_len p c (l.take i)
  have hlt:(l.take i).length≤l.length:=by simp;omega
  repeat (first|refine go ?_|refine zg (fun _ _=>?_)|refine zi (fun _ _=>?_))
  refine st_len rfl (hs6.ext x7) ?_
  repeat (first|refine go ?_|refine zg (fun _ _=>?_)|refine zi (fun _ _=>?_))
  refine c_cond rfl (fun h=>?_) (fun h=>?_)
  ·have hil':i<l.length:=by omega
   repeat (first|refine go ?_|refine zg (fun _ _=>?_)|refine zi (fun _ _=>?_))
   rename_i w8 x8
   refine st_elemE rfl rfl ((hs6.ext x7).ext x8) rfl hil' (fun ad r8=>?_)
   repeat (first|refine go ?_|refine zg (fun _ _=>?_)|refine zi (fun _ _=>?_))
   refine st_call rfl (rless_spec p l[i].1 _) ?_
   rintro _ w9 ⟨rfl,x9⟩
   repeat (first|refine go ?_|refine zg (fun _ _=>?_)|refine zi (fun _ _=>?_))
   have x79:Unit→Ext w5 w9:=fun _=>by repeat (first|assumption|exact Ext.refl _|refine Ext.trans ?_ (by assumption))
   have no:ptLt p l[i].1=false∨(insRun p c (l.take i)).2=true→insRun p c (l.take (i+1))=((insRun p c (l.take i)).1++ [l[i]],(insRun p c (l.take i)).2):=fun h=>insRun_not hil' h
   refine g_cases rfl (fun hL=>?_) (fun hL=>?_)
   ·repeat (first|refine go ?_|refine zg (fun _ _=>?_)|refine zi (fun _ _=>?_))
    refine c_condB rfl (fun hq=>?_) (fun hq=>?_)
    ·have hq:(insRun p c (l.take i)).2=false:=by simpa using hq
     have yes:=insRun_put (c:=c) hil' hL hq
     repeat (first|refine go ?_|refine zg (fun _ _=>?_)|refine zi (fun _ _=>?_))
     refine st_buildSlice rfl (fun b13 w13 x13 a13 hb13=>?_)
     repeat (first|refine go ?_|refine zg (fun _ _=>?_)|refine zi (fun _ _=>?_))
     refine st_append (E:=entE) (v:=vo) (l2:= [(p,c)]) rfl (((ho.ext x8).ext x9).ext x13) (Nat.le_trans (Ext.size (x79 ())) x13.size) rfl rfl (sl_new a13 rfl) rfl rfl (by simp;omega) (fun vo1 w14 ho1 c14=>?_)
     have x614:Unit→Ext w5 w14:=fun _=>(((x79 ()).trans x13).chg c14).mono (fun b hb=>.inr (ho.base b (by simpa using hb)))
     repeat (first|refine go ?_|refine zg (fun _ _=>?_)|refine zi (fun _ _=>?_))
     refine st_elemE rfl rfl (hs6.ext (x614 ())) rfl hil' (fun ad r10=>?_)
     repeat (first|refine go ?_|refine zg (fun _ _=>?_)|refine zi (fun _ _=>?_))
     refine st_buildSlice rfl (fun b11 w11 x11 a11 hb11=>?_)
     repeat (first|refine go ?_|refine zg (fun _ _=>?_)|refine zi (fun _ _=>?_))
     refine st_append (E:=entE) (v:=vo1) (l2:= [l[i]]) rfl (ho1.ext x11) (Nat.le_trans (Ext.size (x614 ())) x11.size) rfl rfl (sl_new a11 rfl) rfl rfl (by simp;omega) (fun vo' w12 ho' c12=>?_)
     repeat (first|refine go ?_|refine zg (fun _ _=>?_)|refine zi (fun _ _=>?_))
     refine ⟨(i+1,vo'),⟨rfl,rfl,rfl,rfl,?_,rfl,trivial⟩,⟨(((x614 ()).trans x11).chg c12).mono (fun b hb=>.inr (ho1.base b (by simpa using hb))),by simp;omega,?_⟩,by simp;omega⟩
     ·show Value.bool true=.bool (insRun p c (l.take (i+1))).2
      rw [yes]
     ·show Own _ _ _ _ _ (insRun p c (l.take (i+1))).1
      rw [yes];exact ho'
    ·have hq:(insRun p c (l.take i)).2=true:=by simpa using hq
     repeat (first|refine go ?_|refine zg (fun _ _=>?_)|refine zi (fun _ _=>?_))
     refine st_elemE rfl rfl (hs6.ext (x79 ())) rfl hil' (fun ad r10=>?_)
     repeat (first|refine go ?_|refine zg (fun _ _=>?_)|refine zi (fun _ _=>?_))
     refine st_buildSlice rfl (fun b11 w11 x11 a11 hb11=>?_)
     repeat (first|refine go ?_|refine zg (fun _ _=>?_)|refine zi (fun _ _=>?_))
     refine st_append (E:=entE) (v:=vo) (l2:= [l[i]]) rfl (((ho.ext x8).ext x9).ext x11) (Nat.le_trans (Ext.size (x79 ())) x11.size) rfl rfl (sl_new a11 rfl) rfl rfl (by simp;omega) (fun vo' w12 ho' c12=>?_)
     repeat (first|refine go ?_|refine zg (fun _ _=>?_)|refine zi (fun _ _=>?_))
     refine ⟨(i+1,vo'),⟨rfl,rfl,rfl,rfl,?_,rfl,trivial⟩,⟨(((x79 ()).trans x11).chg c12).mono (fun b hb=>.inr (ho.base b (by simpa using hb))),by simp;omega,?_⟩,by simp;omega⟩
     ·show Value.bool (insRun p c (l.take i)).2=.bool (insRun p c (l.take (i+1))).2
      rw [no (.inr hq)]
     ·show Own _ _ _ _ _ (insRun p c (l.take (i+1))).1
      rw [no (.inr hq)];exact ho'
   ·repeat (first|refine go ?_|refine zg (fun _ _=>?_)|refine zi (fun _ _=>?_))
    refine st_elemE rfl rfl (hs6.ext (x79 ())) rfl hil' (fun ad r10=>?_)
    repeat (first|refine go ?_|refine zg (fun _ _=>?_)|refine zi (fun _ _=>?_))
    refine st_buildSlice rfl (fun b11 w11 x11 a11 hb11=>?_)
    repeat (first|refine go ?_|refine zg (fun _ _=>?_)|refine zi (fun _ _=>?_))
    refine st_append (E:=entE) (v:=vo) (l2:= [l[i]]) rfl (((ho.ext x8).ext x9).ext x11) (Nat.le_trans (Ext.size (x79 ())) x11.size) rfl rfl (sl_new a11 rfl) rfl rfl (by simp;omega) (fun vo' w12 ho' c12=>?_)
    repeat (first|refine go ?_|refine zg (fun _ _=>?_)|refine zi (fun _ _=>?_))
    refine ⟨(i+1,vo'),⟨rfl,rfl,rfl,rfl,?_,rfl,trivial⟩,⟨(((x79 ()).trans x11).chg c12).mono (fun b hb=>.inr (ho.base b (by simpa using hb))),by simp;omega,?_⟩,by simp;omega⟩
    ·show Value.bool (insRun p c (l.take i)).2=.bool (insRun p c (l.take (i+1))).2
     rw [no (.inl hL)]
    ·show Own _ _ _ _ _ (insRun p c (l.take (i+1))).1
     rw [no (.inl hL)];exact ho'
  ·have el:l.take i=l:=List.take_of_length_le (by omega)
   have s6:=(x06 ()).size
   repeat (first|refine go ?_|refine zg (fun _ _=>?_)|refine zi (fun _ _=>?_))
   refine c_condB rfl (fun hp=>?_) (fun hp=>?_)
   ·have hp:(insRun p c (l.take i)).2=false:=by simpa using hp
    repeat (first|refine go ?_|refine zg (fun _ _=>?_)|refine zi (fun _ _=>?_))
    refine st_buildSlice rfl (fun b13 w13 x13 a13 hb13=>?_)
    repeat (first|refine go ?_|refine zg (fun _ _=>?_)|refine zi (fun _ _=>?_))
    refine st_append (E:=entE) (v:=vo) (l2:= [(p,c)]) rfl (ho.ext x13) (Nat.le_trans x7.size x13.size) rfl rfl (sl_new a13 rfl) rfl rfl (by simp;omega) (fun vo1 w14 ho1 c14=>?_)
    have x614:Unit→Ext w5 w14:=fun _=>((x7.trans x13).chg c14).mono (fun b hb=>.inr (ho.base b (by simpa using hb)))
    repeat (first|refine go ?_|refine zg (fun _ _=>?_)|refine zi (fun _ _=>?_))
    rw [el] at hp ho1
    refine x_ret (ret2 rv_tmp rv_tmp) ⟨vo1,by rw [hc0];rfl,?_,.inr fun b hb=>Nat.le_trans s6 (ho1.base b hb),(x06 ()).trans (x614 ())⟩
    rw [refPut,if_pos hc0,insEnd,hp]
    exact ho1.sl
   ·have hp:(insRun p c (l.take i)).2=true:=by simpa using hp
    repeat (first|refine go ?_|refine zg (fun _ _=>?_)|refine zi (fun _ _=>?_))
    rw [el] at hp ho
    refine x_ret (ret2 rv_tmp rv_tmp) ⟨vo,by rw [hc0];rfl,?_,.inr fun b hb=>Nat.le_trans s6 (ho.base b hb),(x06 ()).trans x7⟩
    rw [refPut,if_pos hc0,insEnd,hp]
    exact ho.sl
end Go.Proofs.YtfebcajheojodaaGreatDoor
end
section
namespace Go.Proofs.YtfebcajheojodaaGreatDoor
open Go Go.K
attribute [local irreducible] regK codeK retK KOp.wp K.Spec u32 leS vnS str zero32 sha2 encT idT sizeT checkT grantB idN
theorem w32k {k:Nat} (h:k≤1000):IntKind.u32.wrap ((k:Nat):Int)=(k:Nat):=by rw [wrap32];omega
theorem overX_len (V:List En) (h:Int) (x:Ent) (k:Nat):(overK V h x k).length≤k:=by
 unfold overK
 exact Nat.le_trans (List.length_filter_le _ _) (by simp)
theorem flat_len {V:List En} {h:Int}:∀{l:List Ent},(∀x∈l,x.tx.outs.length≤1000)→(l.flatMap (overX V h)).length≤1000*l.length
 | [],_=>by simp
 |x::l,hE=>by
  have h1:=flat_len (V:=V) (h:=h) (l:=l) (fun y hy=>hE y (by simp [hy]))
  have h2:=hE x (by simp)
  have h3:=overX_len V h x x.tx.outs.length
  rw [List.flatMap_cons,List.length_append,List.length_cons]
  have:(overX V h x).length≤1000:=Nat.le_trans h3 h2
  omega
theorem flat_take {V:List En} {h:Int} {l:List Ent} {i:Nat} (hi:i<l.length):(l.take (i+1)).flatMap (overX V h)=(l.take i).flatMap (overX V h)++overX V h l[i]:=by
 rw [List.take_succ_eq_append_getElem hi,List.flatMap_append,List.flatMap_cons,List.flatMap_nil,List.append_nil]
theorem find_neg {V:List En} {p:Pt}:(refFind V p<0)=((aget V p).isNone=true):=by
 unfold refFind
 cases hi:refIdx V p with
 |none=>rw [aget_none_idx hi];simp
 |some n=>
  have:=idx_lt hi
  rw [aget_some_idx hi this]
  simp only [Option.isNone_some,Bool.false_eq_true,eq_iff_iff,iff_false]
  omega
set_option maxHeartbeats 2000000 in
theorem over17_spec {M:List Nat} {v u:Value} {V:List En} {l:List Ent} (h:Int) (w:World) (hv:SlE entE w v V) (hu:SlR entR M w u l) (hV:V.length≤1000) (hl:l.length≤1000) (hE:∀x∈l,x.tx.outs.length≤1000):
  K.Spec Tryz.prog F.kedgeref17_Over [v,u,.int .i64 h] w fun r w'=>Own entE T.kedgeref10_Entry w.heap.size w' r (overL V l h)∧Ext w w':=by
 have hflat:∀i,((l.take i).flatMap (overX V h)).length≤1000000:=fun i=>by
  have h1:=flat_len (V:=V) (h:=h) (l:=l.take i) (fun x hx=>hE x (List.mem_of_mem_take hx))
  have:(l.take i).length≤l.length:=by rw [List.length_take];omega
  omega
 refine s_kedgeref17_Over rfl ?_
 unfold k_kedgeref17_Over
 refine oy ?_
 repeat' (first|(first|refine go1 ?_|refine zg (fun _ _=>?_)|refine zi (fun _ _=>?_))|(refine c_loopV (a:=.seq _ (.seq (.block 1 _) _)) (fun (p:Nat × Value) w'=>Ext w w'∧p.1≤V.length∧Own entE T.kedgeref10_Entry w.heap.size w' p.2 (V.take p.1)) (fun p=> [(0,v),(1,u),(2,.int .i64 h),(7,p.2),(8,.int .i64 p.1)]) (fun p=>V.length - p.1) (0,.slice none 0 0) ⟨rfl,rfl,rfl,rfl,rfl,trivial⟩ ⟨Ext.refl _,by simp,Own.nil _ _ _⟩ ?_;rintro ⟨i,vo⟩ ρ w1 ⟨x1,hi,ho⟩;simp only at hi ho;dsimp only)|(refine zL (p:=(((i:Nat):Int)<((V.length:Nat):Int))) rfl (fun h5=>?_) (fun h5=>?_))|(refine st_len (d:=some 15) rfl (SlE.ext (w:=w) (by exact fx) hv) ?_)|(refine st_elemE (d:=some 22) (E:=entE) rfl rfl (n:=i) (l:=V) (SlE.ext (w:=w) (by exact fx) hv) rfl (by omega) (fun ad r2=>?_);have hil:i<V.length:=(by omega))|(refine zI (d:=some 24) rfl (fun b w3 x3 a3 hb=>?_))|(refine st_append (d:=some 25) (E:=entE) (v:=vo) (l2:= [V[i]]) rfl (ho.ext (by exact fx)) (Ext.size (w:=w) (by exact fx)) rfl rfl (sl_new a3 rfl) rfl rfl (by have:=List.length_take_le i V;simp only [List.length_cons,List.length_nil];omega) (fun v5 w5 ho5 c5=>?_)))
 ·exact ⟨(i+1,v5),⟨rfl,rfl,rfl,rfl,rfl,trivial⟩,⟨(Ext.chg (w:=w) (by exact fx) c5).mono (fun b hb=>.inr (ho.base b (by simpa using hb))),by simp;omega,by rw [List.take_succ_eq_append_getElem hil];exact ho5⟩,by simp;omega⟩
 rw [List.take_of_length_le (by omega)] at ho
 have x1':Unit→Ext w w1:=fun _=>x1
 have hflat':=hflat
 clear hflat x1
 repeat' (first|(refine c_loopV (a:=.seq _ (.seq (.block 3 _) _)) (fun (p:Nat × Value) w'=>Ext w w'∧p.1≤l.length∧Own entE T.kedgeref10_Entry w.heap.size w' p.2 (V++(l.take p.1).flatMap (overX V h))) (fun p=> [(0,v),(1,u),(2,.int .i64 h),(7,p.2),(9,.int .i64 p.1)]) (fun p=>l.length - p.1) (0,vo) ⟨rfl,rfl,rfl,rfl,rfl,trivial⟩ ⟨x1' (),by simp,by simpa using ho⟩ ?_;clear ho;rintro ⟨i,vo⟩ ρ w1 ⟨x1,hi,ho⟩;simp only at hi ho;dsimp only)|(refine zL (x:=.tmp 29) (p:=(((i:Nat):Int)<((l.length:Nat):Int))) rfl (fun h5=>?_) (fun h5=>?_))|(refine zG (d:=some 28) (E:=entR) (M:=M) (l:=l) rfl (SlR.ext hu (by exact fx)) ?_)|(have hil:i<l.length:=(by omega);have hfi:=hflat' i;have hlen:=hE _ (List.getElem_mem hil);refine c_loopV (a:=.seq _ (.seq (.block 5 _) _)) (fun (p:Nat × Value) w'=>Ext w w'∧p.1≤l[i].tx.outs.length∧Own entE T.kedgeref10_Entry w.heap.size w' p.2 (V++(l.take i).flatMap (overX V h)++overK V h l[i] p.1)) (fun p=> [(0,v),(1,u),(2,.int .i64 h),(7,p.2),(9,.int .i64 i),(10,.int .i64 p.1)]) (fun p=>l[i].tx.outs.length - p.1) (0,vo) ⟨rfl,rfl,rfl,rfl,rfl,rfl,trivial⟩ ⟨x1,by simp,by simpa [overK] using ho⟩ ?_;rintro ⟨k,vk⟩ ρ w2 ⟨x2,hk,hok⟩;simp only at hk hok;dsimp only)|(refine st_elemR (d:=some 35) (E:=entR) (M:=M) rfl rfl (n:=i) (l:=l) (SlR.ext hu (by exact fx)) rfl hil (fun ad cs r4 he=>?_);obtain ⟨iv,ov,rfl,g1,g2,g3⟩:=he)|(refine zG (d:=some 39) (E:=outR) (M:=M) (l:=l[i].tx.outs) rfl g2 ?_)|(refine zL (p:=(((k:Nat):Int)<((l[i].tx.outs.length:Nat):Int))) rfl (fun h6=>?_) (fun h6=>?_))|(refine st_fixV (d:=some 49) (.int .u32 ((k:Nat):Int)) rfl (congrArg (fun n=>some (Value.int .u32 n)) (w32k (by omega))) ?_)|(refine st_elemR (d:=some 45) (E:=entR) (M:=M) rfl rfl (n:=i) (l:=l) (SlR.ext hu (by exact fx)) rfl hil (fun ad5 cs5 r5 he5=>?_);obtain ⟨iv5,ov5,rfl,g15,g25,g35⟩:=he5)|(refine st_build (d:=some 50) (cs:=(⟨l[i].id,((k:Nat):Int)⟩:Pt).cs) rfl ?_)|(refine zE (d':=11) (fun _=>rfl) rfl rfl rfl (fun b11 w11 x11 a11 (r11:Row w11 ⟨b11,0,none⟩ (⟨l[i].id,((k:Nat):Int)⟩:Pt).cs) hb11=>?_))|(refine zC (d:=some 53) rfl (find10_spec ⟨l[i].id,((k:Nat):Int)⟩ _ (SlE.ext (w:=w) (by exact fx) hv) (by omega)) ?_;rintro _ w3 ⟨rfl,x3⟩)|(refine zL (p:=refFind V ⟨l[i].id,((k:Nat):Int)⟩<0) rfl (fun h7=>?_) (fun h7=>?_)<;>rw [find_neg] at h7)|(refine st_elemR (d:=some 60) (E:=entR) (M:=M) rfl rfl (n:=i) (l:=l) (SlR.ext hu (by exact fx)) rfl hil (fun ad6 cs6 r6 he6=>?_);obtain ⟨iv6,ov6,rfl,g16,g26,g36⟩:=he6)|(have hkl:k<l[i].tx.outs.length:=(by omega);refine st_elemR (d:=some 65) (E:=outR) (M:=M) rfl rfl (n:=k) (l:=l[i].tx.outs) g26 rfl hkl (fun ad7 cs7 r7 he7=>?_);obtain ⟨rfl,hv7⟩:=he7)|(refine st_build (d:=some 68) (cs:=(outE h l[i] k).2.cs) (by simp only [outE,List.getD_eq_getElem?_getD,List.getElem?_eq_getElem hkl,Option.getD_some];rfl) ?_)|(refine st_build (d:=some 69) (cs:=entE.f (outE h l[i] k)) rfl ?_)|(refine zI (d:=some 70) (cs:=entE.f (outE h l[i] k)) rfl (fun b w8 x8 a8 hb=>?_))|(have hlo:=overX_len V h l[i] k;refine st_append (d:=some 71) (E:=entE) (v:=vk) (l2:= [outE h l[i] k]) rfl (hok.ext (by exact fx)) (Ext.size (w:=w) (by exact fx)) rfl rfl (sl_new a8 rfl) rfl rfl (by simp only [List.length_append,List.length_cons,List.length_nil];omega) (fun v9 w9 ho9 c9=>?_))|(first|refine go1 ?_|refine zg (fun _ _=>?_)|refine zi (fun _ _=>?_)))
 ·exact ⟨(k+1,v9),⟨rfl,rfl,rfl,rfl,rfl,rfl,trivial⟩,⟨(Ext.chg (w:=w) (by exact fx) c9).mono (fun b hb=>.inr (hok.base b (by simpa using hb))),by simp;omega,by rw [overK_succ,if_pos h7,←List.append_assoc];exact ho9⟩,by simp;omega⟩
 ·exact ⟨(k+1,vk),⟨rfl,rfl,rfl,rfl,rfl,rfl,trivial⟩,⟨by exact fx,by simp;omega,by rw [overK_succ,if_neg h7,List.append_nil];exact hok.ext (by exact fx)⟩,by simp;omega⟩
 ·have:k=l[i].tx.outs.length:=by omega
  subst this
  exact ⟨(i+1,vk),⟨rfl,rfl,rfl,rfl,rfl,trivial⟩,⟨x2,by simp;omega,by rw [flat_take hil,←List.append_assoc];exact hok⟩,by simp;omega⟩
 ·rw [List.take_of_length_le (by omega)] at ho
  exact x_ret rfl ⟨ho,x1⟩
set_option maxHeartbeats 1000000 in
theorem set17_spec {v:Value} {V:List En} {n:Nat} (w:World) (hv:SlE entE w v V) (hV:CoinsOk V n) (hn:n≤1000):
  K.Spec Tryz.prog F.kedgelaw17_set [v] w fun r w'=>∃b mb,r=.pointer (some ⟨b,0,none⟩)∧SetE T.coins_Set w' b mb V∧w.heap.size≤b∧w.heap.size≤mb∧Ext w w':=by
 have hlen:=hV.len
 refine s_kedgelaw17_set rfl ?_
 unfold k_kedgelaw17_set
 refine oy ?_
 repeat' (first|(first|refine go1 ?_|refine zg (fun _ _=>?_)|refine zi (fun _ _=>?_))|(refine zC rfl (cnew_spec _) ?_;rintro _ w1 ⟨b,mb,rfl,hS,hb,hmb,x1⟩)|(refine st_len (d:=some 8) rfl (SlE.ext (w:=w) (by exact fx) hv) ?_)|(refine c_loopV (fun (i:Nat) w'=>Ext w w'∧i≤V.length∧SetE T.coins_Set w' b mb (V.take i)) (fun i=> [(3,.pointer (some ⟨b,0,none⟩)),(7,v),(8,.int .i64 (V.length:Nat)),(9,.int .i64 i)]) (fun i=>V.length - i) 0 ⟨rfl,rfl,rfl,rfl,trivial⟩ ⟨x1,by simp,hS⟩ ?_;clear hS x1;rintro i ρ w2 ⟨x2,hi,hS⟩)|(refine zL (p:=(((i:Nat):Int)<((V.length:Nat):Int))) rfl (fun h6=>?_) (fun h6=>?_))|(have hil:i<V.length:=(by omega);refine st_elemE (d:=some 11) (E:=entE) rfl rfl (n:=i) (l:=V) (SlE.ext (w:=w) (by exact fx) hv) rfl hil (fun ad r2=>?_))|(refine zE (d':=5) (fun _=>rfl) rfl rfl rfl (fun b5 w5 x5 a5 (r5:Row w5 ⟨b5,0,none⟩ (entE.f V[i])) hb5=>?_))|(refine zC (d:=some 18) rfl (cput_spec V[i].1 V[i].2 _ (hS.ext (by exact fx))) ?_;rintro _ w6 ⟨rfl,hS6,c6⟩))
 ·rw [(put_next hV hn hil).2] at hS6
  exact ⟨i+1,⟨rfl,rfl,rfl,rfl,trivial⟩,⟨(Ext.chg (x2.trans x5) c6).mono (by intro y hy;simp at hy;right;omega),by omega,hS6⟩,by omega⟩
 ·rw [List.take_of_length_le (by omega)] at hS
  exact x_ret rfl ⟨b,mb,rfl,hS,hb,hmb,x2⟩
end Go.Proofs.YtfebcajheojodaaGreatDoor
end
