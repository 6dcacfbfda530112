/- Contracts: the least fee, and the rules, by the program. Contracts: the rules of replacing, by the program. -/
import Derived.Test.YtfebcajheojodaaGreatDoorDc27
set_option linter.unusedVariables false
set_option linter.unusedSimpArgs false
section
namespace Go.Proofs.YtfebcajheojodaaGreatDoor
open Go Go.K
section
variable {P:Program} {d:Option Tmp} {r:KR} {K:Env→World→Prop} {ρ:Env} {w:World}
theorem st_quoU {x y:Operand} {n m:Nat} (hx:ev ρ x=.int .u64 (n:Nat)) (hy:ev ρ y=.int .u64 (m:Nat)) (h0:0<m) (hn:n<18446744073709551616) (k:regK P r K (put ρ d (.int .u64 ((n / m:Nat):Int))) w):regK P (.cons ⟨d,.bin .quo x y,none⟩ r) K ρ w:=
 st_fix rfl (by
  have e:∀m:Int,IntKind.u64.wrap m=m%18446744073709551616:=fun _=>rfl
  have h1:(n:Int).tdiv (m:Int)=((n / m:Nat):Int):=by rw [Int.tdiv_eq_ediv_of_nonneg (by omega)];rfl
  have h2:=Nat.div_le_self n m
  have h3:∀q:Nat,q≤n→((q:Nat):Int)%18446744073709551616=((q:Nat):Int):=fun q hq=>Int.emod_eq_of_lt (by omega) (by omega)
  have h4:¬(m:Int)=0:=by omega
  simp only [KOp.fix,hx,hy,binVal,isShift,Bool.false_eq_true,if_false,if_true,intBin,h4,h1,e,h3 _ h2]) k
theorem st_remU {x y:Operand} {n m:Nat} (hx:ev ρ x=.int .u64 (n:Nat)) (hy:ev ρ y=.int .u64 (m:Nat)) (h0:0<m) (k:regK P r K (put ρ d (.int .u64 ((n%m:Nat):Int))) w):regK P (.cons ⟨d,.bin .rem x y,none⟩ r) K ρ w:=
 st_fix rfl (by
  have h1:(n:Int).tmod (m:Int)=((n%m:Nat):Int):=by rw [Int.tmod_eq_emod_of_nonneg (by omega)];rfl
  have h4:¬(m:Int)=0:=by omega
  simp only [KOp.fix,hx,hy,binVal,isShift,Bool.false_eq_true,if_false,if_true,intBin,h4,h1]) k
end
theorem ent_priced16 {x:Ent} (h:EntOk x):pricedB x.fee x.size=true:=by
 unfold pricedB
 rw [h.fee,Bool.true_and,h.size]
 have:=(sz_of_check (chk_sm h.check) h.check).sizeM
 exact decide_eq_true (by omega)
def needE (l:List Ent) (t:Tx):Int:=if checkT t≠0 then checkT t else if l.any (hitE t)=false then 0 else if goodB (needL l t)=true then 0 else 3
def needN (l:List Ent) (t:Tx):Int:=if checkT t≠0 then 0 else if l.any (hitE t)=false then 0 else if goodB (needL l t)=true then needL l t else 0
attribute [local irreducible] regK codeK retK KOp.wp K.Spec u32 leS vnS str zero32 sha2 encT idT sizeT checkT grantB idN stepR workL reachE findI dropG addG aboveL belowL idsOf feeD sizeD cntS metL confL evL inS inB needI needL feeOf
theorem div64_spec (lo y:Nat) (hy0:0<y) (hlo:lo<18446744073709551616) (w:World):K.Spec Tryz.prog F.math_bits_Div64 [.int .u64 0,.int .u64 (lo:Nat),.int .u64 (y:Nat)] w fun r w'=>r=.tuple #[.int .u64 ((lo / y:Nat):Int),.int .u64 ((lo%y:Nat):Int)]∧Ext w w':=by
 refine s_math_bits_Div64 rfl ?_
 unfold k_math_bits_Div64
 refine oy ?_
 repeat' (first|(refine st_quoU (d:=some 30) (n:=lo) (m:=y) rfl rfl hy0 hlo ?_)|(refine st_remU (d:=some 33) (n:=lo) (m:=y) rfl rfl hy0 ?_)|(refine zL (p:=((y:Nat):Int)=0) rfl (fun h=>absurd h (by omega)) (fun _=>?_))|(refine zL (p:=((y:Nat):Int)≤0) rfl (fun h=>absurd h (by omega)) (fun _=>?_))|(first|refine go1 ?_|refine zg (fun _ _=>?_)|refine zi (fun _ _=>?_))|(refine st_both ?_ ?_))
 all_goals exact x_ret rfl ⟨rfl,by exact fx⟩
theorem above16_spec (S F' I':Nat) (hS:S≤1000000) (hF:F'≤1000000000000) (hI:0<I'∧I'≤1000000) (w:World):K.Spec Tryz.prog F.replace_above [.int .i64 (S:Nat),.int .i64 (F':Nat),.int .i64 (I':Nat)] w fun r w'=>r=.int .i64 ((F':Int)*(S:Int) / (I':Int)+1)∧Ext w w':=by
 have hp:F'*S≤1000000000000*1000000:=Nat.mul_le_mul hF hS
 have h1:F'*S / 18446744073709551616=0:=by omega
 have h2:F'*S%18446744073709551616=F'*S:=by omega
 have h3:=Nat.div_le_self (F'*S) I'
 have e:(F':Int)*(S:Int) / (I':Int)=((F'*S / I':Nat):Int):=by rw [Int.natCast_ediv,Int.natCast_mul]
 rw [e]
 obtain ⟨q,hq⟩:∃q,q=F'*S / I':=⟨_,rfl⟩
 obtain ⟨p,hpq⟩:∃p,p=F'*S:=⟨_,rfl⟩
 rw [←hq] at h3 ⊢
 rw [←hpq] at h1 h2 h3 hp
 refine s_replace_above rfl ?_
 unfold k_replace_above
 refine oy ?_
 repeat' (first|(refine st_fixV (d:=some 13) (.int .u64 (F':Nat)) rfl (congrArg (fun n=>some (Value.int .u64 n)) (u64_w (by omega))) ?_)|(refine st_fixV (d:=some 15) (.int .u64 (S:Nat)) rfl (congrArg (fun n=>some (Value.int .u64 n)) (u64_w (by omega))) ?_)|(refine st_fixV (d:=some 23) (.int .u64 (I':Nat)) rfl (congrArg (fun n=>some (Value.int .u64 n)) (u64_w (by omega))) ?_)|(refine st_fixV (d:=some 28) (.int .i64 (q:Nat)) rfl (congrArg (fun n=>some (Value.int .i64 n)) (IntWalk.i64_in _ (by omega))) ?_)|(first|refine go1 ?_|refine zg (fun _ _=>?_)|refine zi (fun _ _=>?_))|(refine zC (d:=some 16) rfl (mul64_spec F' S (by omega) (by omega) _) ?_;rintro _ w3 ⟨rfl,x3⟩;rw [←hpq,h1,h2])|(refine zC (d:=some 24) rfl (div64_spec p I' hI.1 (by omega) _) ?_;rintro _ w4 ⟨rfl,x4⟩;rw [show p / I'=q by rw [hq,hpq]]))
 exact x_ret rfl ⟨rfl,by exact fx⟩
theorem above16_int (S:Nat) (f z:Int) (hS:S≤1000000) (hp:pricedB f z=true) (hf:f≤1000000000000) (w:World):K.Spec Tryz.prog F.replace_above [.int .i64 (S:Nat),.int .i64 f,.int .i64 z] w fun r w'=>r=.int .i64 (f*(S:Nat) / z+1)∧Ext w w':=by
 obtain ⟨F',I',rfl,rfl,b1,b2,b3⟩:=pricedB_nat hp
 exact above16_spec S F' I' hS (by omega) ⟨by omega,b3⟩ w
theorem afee_spec (R' S:Nat) (hR:R'≤100000000) (hS:S≤1000000) (w:World):K.Spec Tryz.prog F.amount_Fee [.int .i64 (R':Nat),.int .i64 (S:Nat)] w fun r w'=>r=.tuple #[.int .i64 (((R'*S+999) / 1000:Nat):Int),.int .i64 0]∧Ext w w':=by
 have hp:R'*S≤100000000*1000000:=Nat.mul_le_mul hR hS
 refine s_amount_Fee rfl ?_
 unfold k_amount_Fee
 refine oy ?_
 repeat' (first|(refine zF (d:=some 7) (v:=.bool true) ((qF _ _ _).trans (by rw [decide_eq_true (by omega)])) ?_)|(refine st_fixV (d:=some 16) (.int .i64 ((R'*S:Nat):Int)) rfl (congrArg (fun n=>some (Value.int .i64 n)) (IntWalk.i64_in _ (by omega))) ?_)|(refine st_fixV (d:=some 18) (.int .i64 ((R'*S+999:Nat):Int)) rfl (congrArg (fun n=>some (Value.int .i64 n)) ((IntWalk.i64_in _ (by omega)).trans (by omega))) ?_)|(refine st_quo (d:=some 19) (n:=R'*S+999) (m:=1000) rfl rfl (by omega) (by omega) ?_)|(apply zO;focus((conv=>lhs;whnf)<;>(first|with_reducible exact rfl|(refine congrArg Value.bool ?_;decide))))|(refine zF (d:=some 11) (v:=.bool true) ((qF _ _ _).trans (by rw [decide_eq_true (by omega)])) ?_)|(first|refine go1 ?_|refine zg (fun _ _=>?_)|refine zi (fun _ _=>?_)))
 exact x_ret rfl ⟨rfl,by exact fx⟩
set_option maxHeartbeats 2000000 in
theorem need_spec {g:Nat} {M N:List Nat} {l:List Ent} {cs:List Value} {t:Tx} (w:World) (hG:GrR w g M l) (hM:∀b∈M,b<w.heap.size) (ht:txR.rel N w cs t) (hs:t.Sm) (hl:l.length≤1000) (hf:∀x∈l,x.fee≤1000000000000):
  K.Spec Tryz.prog F.replace_Need [.pointer (some ⟨g,0,none⟩),.agg cs.toArray] w fun r w'=>r=.tuple #[.int .i64 (needN l t),.int .i64 (needE l t)]∧Ext w w':=by
 have hnd:=hG.nodup
 have hE:=hG.ok
 have ht0:=ht
 obtain ⟨iv,ov,rfl,hi,ho,hv⟩:=ht
 by_cases hc:checkT t=0
 ·have hz:=sz_of_check hs hc
  have hz2:=hz.sizeM
  have e0:sizeV t=.tuple #[.int .i64 (sizeT t:Nat),.int .i64 0]:=by rw [sizeV,if_pos hc]
  obtain ⟨ids,hids⟩:∃ids,ids=idsOf l (confL l t):=⟨_,rfl⟩
  have hil:ids.length≤l.length:=by rw [hids];exact idsOf_le1 _ _
  have hel:=idsOf_le1 l (evL l t)
  have hfee:feeD l (idsOf l (evL l t))=goneF l t:=by rw [feeD_once hnd];rfl
  have hgb:=gone_bound (t:=t) (c:=1000000000000) (fun x hx=>⟨((goodB_iff _).1 (hE x hx).fee).1,hf x hx⟩)
  have hgb2:((1000000000000:Nat):Int)*l.length≤1000000000000*1000:=by omega
  have hone:(1000*sizeT t+999) / 1000=sizeT t:=by omega
  have hconf:ids.length=0↔l.any (hitE t)=false:=by rw [hids];exact conf_len0
  have hnl:needL l t=needI l (sizeT t:Nat) (goneF l t+(sizeT t:Nat)) ids:=by rw [hids];unfold needL;rfl
  have n0:needI l (sizeT t:Nat) (goneF l t+(sizeT t:Nat)) (ids.take 0)=goneF l t+(sizeT t:Nat):=by rw [List.take_zero];unfold needI;rfl
  have hin:∀s∈ids,getE l s∈l:=fun s hs=>by
   rw [hids] at hs
   obtain ⟨x,hx,_,rfl⟩:=mem_conf.1 hs
   rw [(get_mem hnd hx).2];exact hx
  refine s_replace_Need rfl ?_
  unfold k_replace_Need
  refine oy ?_
  repeat' (first|(first|refine go1 ?_|refine zg (fun _ _=>?_)|refine zi (fun _ _=>?_))|(refine zD (d:=some 3) rfl rfl (fun bt wt xt bt' (rt:Row wt ⟨bt,0,none⟩ (txCs t iv ov)) hbt0=>?_))|(refine zC (d:=some 22) rfl (size_spec (M:=N) (cs:=txCs t iv ov) (t:=t) _ (R.ext ht0 (by exact fx)) hs) ?_;rintro _ w3 ⟨rfl,x3⟩;rw [e0])|(refine zC (d:=some 30) rfl (conflicts_spec (M:=M) (N:=N) (l:=l) (cs:=txCs t iv ov) (t:=t) _ (hG.ext (by exact fx)) (fun b hb=>Nat.lt_of_lt_of_le (hM b hb) (Ext.size (by exact fx))) (R.ext ht0 (by exact fx)) hs.ins hl) ?_;rw [←hids];rintro vc w4 ⟨oc,x4⟩;have sc:=oc.sl)|(refine st_len (E:=strE) (l:=ids) rfl (SlE.ext (by exact fx) sc) ?_)|(refine zL rfl (fun h=>?_) (fun h=>?_))|(refine zC (d:=some 38) rfl (evicted_spec (M:=M) (N:=N) (l:=l) (cs:=txCs t iv ov) (t:=t) _ (hG.ext (by exact fx)) (fun b hb=>Nat.lt_of_lt_of_le (hM b hb) (Ext.size (by exact fx))) (R.ext ht0 (by exact fx)) hs.ins hl) ?_;rintro vg w5 ⟨og,x5⟩;have sg:=og.sl)|(refine zC (d:=some 39) rfl (gsum_spec (M:=M) (l:=l) (ids:=idsOf l (evL l t)) _ (hG.ext (by exact fx)) (fun b hb=>Nat.lt_of_lt_of_le (hM b hb) (Ext.size (by exact fx))) (SlE.ext (by exact fx) sg) (by omega)) ?_;rintro _ w6 ⟨rfl,x6⟩;rw [hfee])|(refine zC (d:=some 44) rfl (afee_spec 1000 (sizeT t) (by decide) hz2.2 _) ?_;rintro _ w7 ⟨rfl,x7⟩;rw [hone])|(refine c_loopV (fun (i:Nat) w'=>Ext w7 w'∧i≤ids.length) (fun i=> [(0,.pointer (some ⟨g,0,none⟩)),(6,.int .i64 (sizeT t:Nat)),(13,.int .i64 (needI l (sizeT t:Nat) (goneF l t+(sizeT t:Nat)) (ids.take i))),(50,vc),(51,.int .i64 (ids.length:Nat)),(52,.int .i64 i)]) (fun i=>ids.length - i) 0 ⟨rfl,rfl,by rw [n0];rfl,rfl,rfl,rfl,trivial⟩ ⟨Ext.refl _,by simp⟩ ?_;rintro i ρ w8 ⟨x8,hi8⟩)|(have hii:i<ids.length:=(by omega);refine st_elemE (d:=some 54) (E:=strE) rfl rfl (n:=i) (l:=ids) (SlE.ext (by exact fx) sc) rfl hii (fun ad r9=>?_);have r9:Row _ ad [Value.string ids[i]]:=r9)|(refine zC (d:=some 59) rfl (get_spec (M:=M) ids[i] _ (hG.ext (by exact fx)) (fun b hb=>Nat.lt_of_lt_of_le (hM b hb) (Ext.size (by exact fx)))) ?_;rintro v5 w10 ⟨ds,rfl,e5,x10⟩;have hmem:=hin _ (List.getElem_mem hii);have hpr:=ent_priced16 (hE _ hmem);have hff:=hf _ hmem;generalize hX:getE l ids[i]=X at*;obtain ⟨iv2,ov2,rfl,o1,o2,o3⟩:=e5;have i1:=o1.one;have i2:=o2.one)|(refine zE (d':=16) (fun _=>rfl) rfl rfl (by simp [entCs,i1,i2];exact ⟨rfl,rfl,rfl,rfl,rfl⟩) (fun b6 w11 x11 a11 (r11:Row w11 ⟨b6,0,none⟩ (entCs X iv2 ov2)) hb6=>?_)))
  ·have h0:l.any (hitE t)=false:=hconf.1 (by omega)
   have e1:needN l t=0:=by rw [needN,if_neg (by simpa using hc),if_pos h0]
   have e2:needE l t=0:=by rw [needE,if_neg (by simpa using hc),if_pos h0]
   rw [e1,e2]
   exact x_ret rfl ⟨rfl,by exact fx⟩
  ·repeat' (first|(refine st_max (d:=some 69) rfl rfl ?_)|(first|refine go1 ?_|refine zg (fun _ _=>?_)|refine zi (fun _ _=>?_))|(refine zC (d:=some 68) rfl (above16_int (sizeT t) X.fee X.size hz2.2 hpr hff _) ?_;rintro _ w12 ⟨rfl,x12⟩))
   refine ⟨i+1,⟨rfl,rfl,?_,rfl,rfl,rfl,trivial⟩,⟨by exact fx,by omega⟩,by omega⟩
   show _=Value.int .i64 (needI l (sizeT t:Nat) (goneF l t+(sizeT t:Nat)) (ids.take (i+1)))
   rw [need_take hii,hX];rfl
  ·have ei:i=ids.length:=by omega
   subst ei
   rw [List.take_of_length_le (Nat.le_refl _),←hnl]
   have h1:l.any (hitE t)=true:=by
    cases h9:l.any (hitE t) with
    |false=>exact absurd (hconf.2 h9) (by omega)
    |true=>rfl
   cases hg9:goodB (needL l t) with
   |false=>
    have e1:needN l t=0:=by rw [needN,if_neg (by simpa using hc),if_neg (by rw [h1];simp),if_neg (by rw [hg9];simp)]
    have e2:needE l t=3:=by rw [needE,if_neg (by simpa using hc),if_neg (by rw [h1];simp),if_neg (by rw [hg9];simp)]
    rw [e1,e2]
    repeat' (first|refine go1 ?_|refine zg (fun _ _=>?_)|refine zi (fun _ _=>?_))
    exact x_ret rfl ⟨rfl,by exact fx⟩
   |true=>
    have e1:needN l t=needL l t:=by rw [needN,if_neg (by simpa using hc),if_neg (by rw [h1];simp),if_pos hg9]
    have e2:needE l t=0:=by rw [needE,if_neg (by simpa using hc),if_neg (by rw [h1];simp),if_pos hg9]
    rw [e1,e2]
    repeat' (first|refine go1 ?_|refine zg (fun _ _=>?_)|refine zi (fun _ _=>?_))
    exact x_ret rfl ⟨rfl,by exact fx⟩
 ·have e0:sizeV t=.tuple #[.int .i64 0,.int .i64 (checkT t)]:=by rw [sizeV,if_neg hc]
  have e1:needN l t=0:=by rw [needN,if_pos hc]
  have e2:needE l t=checkT t:=by rw [needE,if_pos hc]
  rw [e1,e2]
  refine s_replace_Need rfl ?_
  unfold k_replace_Need
  refine oy ?_
  repeat' (first|(first|refine go1 ?_|refine zg (fun _ _=>?_)|refine zi (fun _ _=>?_))|(refine zD (d:=some 3) rfl rfl (fun bt wt xt bt' (rt:Row wt ⟨bt,0,none⟩ (txCs t iv ov)) hbt0=>?_))|(refine zC (d:=some 22) rfl (size_spec (M:=N) (cs:=txCs t iv ov) (t:=t) _ (R.ext ht0 (by exact fx)) hs) ?_;rintro _ w3 ⟨rfl,x3⟩;rw [e0])|(refine zN (p:=checkT t=0) rfl (fun _=>?_) (fun h=>absurd h hc)))
  exact x_ret rfl ⟨rfl,by exact fx⟩
end Go.Proofs.YtfebcajheojodaaGreatDoor
end
section
namespace Go.Proofs.YtfebcajheojodaaGreatDoor
open Go Go.K
attribute [local irreducible] regK codeK retK KOp.wp K.Spec u32 leS vnS str zero32 sha2 encT idT sizeT checkT grantB idN stepR workL reachE findI dropG addG aboveL belowL idsOf feeD sizeD cntS metL confL evL inS inB needI needL feeOf needN needE mayE freshP
theorem rules1_hb:hasBody Tryz.prog F.replace_Rules_1=true:=by kernel_rfl
theorem rules1_spec {g b2:Nat} {M:List Nat} {l:List Ent} (s:ByteArray) (w:World) (hG:GrR w g M l) (hM:∀b∈M,b<w.heap.size) (hl:l.length≤1000) (hr:Row w ⟨b2,0,none⟩ [.pointer (some ⟨g,0,none⟩)]):
  K.Spec Tryz.prog F.replace_Rules_1 [.string s,.pointer (some ⟨b2,0,none⟩)] w fun r w'=>r=.bool (!mayE l (getE l s))∧Ext w w':=by
 refine s_replace_Rules_1 rfl ?_
 unfold k_replace_Rules_1
 refine oy ?_
 repeat' (first|(first|refine go1 ?_|refine zg (fun _ _=>?_)|refine zi (fun _ _=>?_))|(refine zC (d:=some 6) rfl (repl_spec (M:=M) (l:=l) s _ (hG.ext (by exact fx)) (fun b hb=>Nat.lt_of_lt_of_le (hM b hb) (Ext.size (by exact fx))) hl) ?_;rintro _ w5 ⟨rfl,x5⟩))
 exact x_ret rfl ⟨rfl,by exact fx⟩
theorem hit_may {l:List Ent} {t:Tx} (h:l.any (hitE t)=false):(l.any fun x=>hitE t x&&!mayE l x)=false:=by
 rw [List.any_eq_false] at h ⊢
 intro x hx h2
 rw [Bool.and_eq_true] at h2
 exact h x hx h2.1
set_option maxHeartbeats 4000000 in
theorem rules_spec {g : Nat} {M N : List Nat} {l : List Ent} {cs : List Value} {t : Tx} (fee : Int) (w : World) (hG : GrR w g M l) (hM : ∀ b ∈ M, b < w.heap.size) (ht : txR.rel N w cs t) (hs : t.Sm) (hl : l.length ≤ 1000) (hf : ∀ x ∈ l, x.fee ≤ 1000000000000) :
    K.Spec Tryz.prog F.replace_Rules [.pointer (some ⟨g, 0, none⟩), .agg cs.toArray, .int .i64 fee] w fun r w' => r = .int .i64 (rulesL l t fee) ∧ Ext w w' := by
  have hnd := hG.nodup
  have hE := hG.ok
  have hlc := idsOf_le1 l (confL l t)
  have hle := idsOf_le1 l (evL l t)
  have ht0 := ht
  obtain ⟨iv, ov, rfl, hi, ho, hv⟩ := ht
  by_cases hc : checkT t = 0
  · have e0 : sizeV t = .tuple #[.int .i64 (sizeT t : Nat), .int .i64 0] := by rw [sizeV, if_pos hc]
    have hz := (sz_of_check hs hc).sizeM
    cases hgf : goodB fee with
    | false =>
      have e : rulesL l t fee = 3 := by rw [rulesL, if_neg (by simpa using hc), if_pos hgf]
      rw [e]
      obtain ⟨nN, hnN⟩ : ∃ n, needN l t = n := ⟨_, rfl⟩
      obtain ⟨nE, hnE⟩ : ∃ n, needE l t = n := ⟨_, rfl⟩
      refine s_replace_Rules rfl ?_
      unfold k_replace_Rules
      refine oy ?_
      repeat' (first|(refine st_joinV (b := .cons ⟨some 39, _, _⟩ _) (fun (vc : Value) w' => Ext w4 w' ∧ Own strE T.string w4.heap.size w' vc (idsOf l (confL l t))) (fun vc => [(2, .int .i64 fee), (3, .pointer (some ⟨bg, 0, none⟩)), (4, .pointer (some ⟨bt, 0, none⟩)), (9, .int .i64 nN), (36, vc), (37, .pointer (some ⟨g, 0, none⟩)), (38, .agg (txCs t iv ov).toArray)]) ?_ ?_)|(rintro vc ρ7 w7 ⟨x7, oc⟩; have sc := oc.sl; try dsimp only)|(exact ⟨v6, ⟨rfl, rfl, rfl, rfl, rfl, rfl, rfl, trivial⟩, by exact fx, Own.lower (Own.ext (by exact fx) o6) (Ext.size (by exact fx))⟩)|(refine zF (d := some 32) (v := .bool false) ((qG _).trans (by rw [hgf])) ?_)|(first|refine go1 ?_|refine zg (fun _ _=>?_)|refine zi (fun _ _=>?_))|(refine zD (d := some 3) rfl rfl (fun bg wg xg bg' (rg : Row wg ⟨bg, 0, none⟩ [.pointer (some ⟨g, 0, none⟩)]) hbg0=>?_))|(refine zD (d := some 4) rfl rfl (fun bt wt xt bt' (rt : Row wt ⟨bt, 0, none⟩ (txCs t iv ov)) hbt0=>?_))|(refine zC (d := some 17) rfl (size_spec (M := N) (cs := txCs t iv ov) (t := t) _ (R.ext ht0 (by exact fx)) hs) ?_; rintro _ w3 ⟨rfl, x3⟩; rw [e0])|(refine zC (d := some 26) rfl (need_spec (M := M) (N := N) (l := l) (cs := txCs t iv ov) (t := t) _ (hG.ext (by exact fx)) (fun b hb => Nat.lt_of_lt_of_le (hM b hb) (Ext.size (by exact fx))) (R.ext ht0 (by exact fx)) hs hl hf) ?_; rintro _ w4 ⟨rfl, x4⟩; rw [hnN, hnE])|(refine st_both ?_ ?_)|(refine zC (d := some 36) rfl (conflicts_spec (M := M) (N := N) (l := l) (cs := txCs t iv ov) (t := t) _ (hG.ext (by exact fx)) (fun b hb => Nat.lt_of_lt_of_le (hM b hb) (Ext.size (by exact fx))) (R.ext ht0 (by exact fx)) hs.ins hl) ?_; rintro v6 w6 ⟨o6, x6⟩)|(refine zC (d := some 39) rfl (evicted_spec (M := M) (N := N) (l := l) (cs := txCs t iv ov) (t := t) _ (hG.ext (by exact fx)) (fun b hb => Nat.lt_of_lt_of_le (hM b hb) (Ext.size (by exact fx))) (R.ext ht0 (by exact fx)) hs.ins hl) ?_; rintro vg w8 ⟨og, x8⟩; have sg := og.sl)|(refine st_len (d := some 42) (E := strE) (l := idsOf l (confL l t)) rfl (SlE.ext (by exact fx) sc) ?_))
      repeat' (first|(refine zF (d := some 32) (v := .bool false) ((qG _).trans (by rw [hgf])) ?_)|(first|refine go1 ?_|refine zg (fun _ _=>?_)|refine zi (fun _ _=>?_))|(refine zN (p := nE = 0) rfl (fun _ => ?_) (fun _ => ?_)))
      all_goals exact x_ret rfl ⟨rfl, by exact fx⟩
    | true =>
      cases hh : l.any (hitE t) with
      | false =>
        have e : rulesL l t fee = 0 := by rw [rulesL, if_neg (by simpa using hc), if_neg (by rw [hgf]; simp), if_neg (by rw [hit_may hh]; simp), if_pos hh]
        rw [e]
        have hnN : needN l t = 0 := by unfold needN; rw [if_neg (by simpa using hc), if_pos hh]
        have hnE : needE l t = 0 := by unfold needE; rw [if_neg (by simpa using hc), if_pos hh]
        have hlen : (idsOf l (confL l t)).length = 0 := conf_len0.2 hh
        refine s_replace_Rules rfl ?_
        unfold k_replace_Rules
        refine oy ?_
        repeat' (first|(refine st_joinV (b := .cons ⟨some 39, _, _⟩ _) (fun (vc : Value) w' => Ext w4 w' ∧ Own strE T.string w4.heap.size w' vc (idsOf l (confL l t))) (fun vc => [(2, .int .i64 fee), (3, .pointer (some ⟨bg, 0, none⟩)), (4, .pointer (some ⟨bt, 0, none⟩)), (9, .int .i64 0), (36, vc), (37, .pointer (some ⟨g, 0, none⟩)), (38, .agg (txCs t iv ov).toArray)]) ?_ ?_)|(rintro vc ρ7 w7 ⟨x7, oc⟩; have sc := oc.sl; try dsimp only)|(exact ⟨v6, ⟨rfl, rfl, rfl, rfl, rfl, rfl, rfl, trivial⟩, by exact fx, Own.lower (Own.ext (by exact fx) o6) (Ext.size (by exact fx))⟩)|(refine zF (d := some 32) (v := .bool true) ((qG _).trans (by rw [hgf])) ?_)|(first|refine go1 ?_|refine zg (fun _ _=>?_)|refine zi (fun _ _=>?_))|(refine zD (d := some 3) rfl rfl (fun bg wg xg bg' (rg : Row wg ⟨bg, 0, none⟩ [.pointer (some ⟨g, 0, none⟩)]) hbg0=>?_))|(refine zD (d := some 4) rfl rfl (fun bt wt xt bt' (rt : Row wt ⟨bt, 0, none⟩ (txCs t iv ov)) hbt0=>?_))|(refine zC (d := some 17) rfl (size_spec (M := N) (cs := txCs t iv ov) (t := t) _ (R.ext ht0 (by exact fx)) hs) ?_; rintro _ w3 ⟨rfl, x3⟩; rw [e0])|(refine zC (d := some 26) rfl (need_spec (M := M) (N := N) (l := l) (cs := txCs t iv ov) (t := t) _ (hG.ext (by exact fx)) (fun b hb => Nat.lt_of_lt_of_le (hM b hb) (Ext.size (by exact fx))) (R.ext ht0 (by exact fx)) hs hl hf) ?_; rintro _ w4 ⟨rfl, x4⟩; rw [hnN, hnE])|(refine st_both ?_ ?_)|(refine zC (d := some 36) rfl (conflicts_spec (M := M) (N := N) (l := l) (cs := txCs t iv ov) (t := t) _ (hG.ext (by exact fx)) (fun b hb => Nat.lt_of_lt_of_le (hM b hb) (Ext.size (by exact fx))) (R.ext ht0 (by exact fx)) hs.ins hl) ?_; rintro v6 w6 ⟨o6, x6⟩)|(refine zC (d := some 39) rfl (evicted_spec (M := M) (N := N) (l := l) (cs := txCs t iv ov) (t := t) _ (hG.ext (by exact fx)) (fun b hb => Nat.lt_of_lt_of_le (hM b hb) (Ext.size (by exact fx))) (R.ext ht0 (by exact fx)) hs.ins hl) ?_; rintro vg w8 ⟨og, x8⟩; have sg := og.sl)|(refine st_len (d := some 42) (E := strE) (l := idsOf l (confL l t)) rfl (SlE.ext (by exact fx) sc) ?_))
        refine zL rfl (fun _ => ?_) (fun h => absurd (show (((idsOf l (confL l t)).length : Nat) : Int) = 0 by omega) h)
        repeat' (first|refine go1 ?_|refine zg (fun _ _=>?_)|refine zi (fun _ _=>?_))
        exact x_ret rfl ⟨rfl, by exact fx⟩
      | true =>
        have hlen : (idsOf l (confL l t)).length ≠ 0 := fun h => by rw [conf_len0.1 h] at hh; cases hh
        have hpr : Priced l := fun x hx => ent_priced16 (hE x hx)
        have hfp : pricedB fee (sizeT t : Nat) = true := by unfold pricedB; rw [hgf, Bool.true_and]; exact decide_eq_true (by omega)
        have hgb := (gone_bound (t := t) (c := 1000000000000) (fun x hx => ⟨((goodB_iff _).1 (hE x hx).fee).1, hf x hx⟩)).1
        have hnp := needL_pos (l := l) (t := t) hgb hz.1
        obtain ⟨nv, hnv⟩ : ∃ nv, nv = if goodB (needL l t) = true then needL l t else 2100000000000001 := ⟨_, rfl⟩
        have hR : rulesL l t fee = if (l.any fun x => hitE t x && !mayE l x) = true then 15 else if (idsOf l (evL l t)).length > 100 then 15 else if freshP l t = true then 15 else if fee < nv then 11 else 0 := by
          rw [rules_need hnd hpr hh hfp hnv (by omega), rulesL, if_neg (by simpa using hc), if_neg (by rw [hgf]; simp)]
          split
          · rfl
          · rw [if_neg (by rw [hh]; simp)]
        cases hgn : goodB (needL l t) with
        | false =>
          rw [if_neg (by rw [hgn]; simp)] at hnv
          have hnN : needN l t = 0 := by unfold needN; rw [if_neg (by simpa using hc), if_neg (by rw [hh]; simp), if_neg (by rw [hgn]; simp)]
          have hnE : needE l t = 3 := by unfold needE; rw [if_neg (by simpa using hc), if_neg (by rw [hh]; simp), if_neg (by rw [hgn]; simp)]
          refine s_replace_Rules rfl ?_
          unfold k_replace_Rules
          refine oy ?_
          repeat' (first|(refine st_joinV (b := .cons ⟨some 39, _, _⟩ _) (fun (vc : Value) w' => Ext w4 w' ∧ Own strE T.string w4.heap.size w' vc (idsOf l (confL l t))) (fun vc => [(2, .int .i64 fee), (3, .pointer (some ⟨bg, 0, none⟩)), (4, .pointer (some ⟨bt, 0, none⟩)), (9, .int .i64 2100000000000001), (36, vc), (37, .pointer (some ⟨g, 0, none⟩)), (38, .agg (txCs t iv ov).toArray)]) ?_ ?_)|(rintro vc ρ7 w7 ⟨x7, oc⟩; have sc := oc.sl; try dsimp only)|(exact ⟨v6, ⟨rfl, rfl, rfl, rfl, rfl, rfl, rfl, trivial⟩, by exact fx, Own.lower (Own.ext (by exact fx) o6) (Ext.size (by exact fx))⟩)|(refine zF (d := some 32) (v := .bool true) ((qG _).trans (by rw [hgf])) ?_)|(first|refine go1 ?_|refine zg (fun _ _=>?_)|refine zi (fun _ _=>?_))|(refine zD (d := some 3) rfl rfl (fun bg wg xg bg' (rg : Row wg ⟨bg, 0, none⟩ [.pointer (some ⟨g, 0, none⟩)]) hbg0=>?_))|(refine zD (d := some 4) rfl rfl (fun bt wt xt bt' (rt : Row wt ⟨bt, 0, none⟩ (txCs t iv ov)) hbt0=>?_))|(refine zC (d := some 17) rfl (size_spec (M := N) (cs := txCs t iv ov) (t := t) _ (R.ext ht0 (by exact fx)) hs) ?_; rintro _ w3 ⟨rfl, x3⟩; rw [e0])|(refine zC (d := some 26) rfl (need_spec (M := M) (N := N) (l := l) (cs := txCs t iv ov) (t := t) _ (hG.ext (by exact fx)) (fun b hb => Nat.lt_of_lt_of_le (hM b hb) (Ext.size (by exact fx))) (R.ext ht0 (by exact fx)) hs hl hf) ?_; rintro _ w4 ⟨rfl, x4⟩; rw [hnN, hnE])|(refine st_both ?_ ?_)|(refine zC (d := some 36) rfl (conflicts_spec (M := M) (N := N) (l := l) (cs := txCs t iv ov) (t := t) _ (hG.ext (by exact fx)) (fun b hb => Nat.lt_of_lt_of_le (hM b hb) (Ext.size (by exact fx))) (R.ext ht0 (by exact fx)) hs.ins hl) ?_; rintro v6 w6 ⟨o6, x6⟩)|(refine zC (d := some 39) rfl (evicted_spec (M := M) (N := N) (l := l) (cs := txCs t iv ov) (t := t) _ (hG.ext (by exact fx)) (fun b hb => Nat.lt_of_lt_of_le (hM b hb) (Ext.size (by exact fx))) (R.ext ht0 (by exact fx)) hs.ins hl) ?_; rintro vg w8 ⟨og, x8⟩; have sg := og.sl)|(refine st_len (d := some 42) (E := strE) (l := idsOf l (confL l t)) rfl (SlE.ext (by exact fx) sc) ?_))
          have sc8 := SlE.ext x8 sc
          have rg8 : Row w8 ⟨bg, 0, none⟩ [.pointer (some ⟨g, 0, none⟩)] := rg.ext (by exact fx)
          have rt8 : Row w8 ⟨bt, 0, none⟩ (txCs t iv ov) := rt.ext (by exact fx)
          have y08 : Ext w w8 := by exact fx
          have G8 := hG.ext y08
          have t8 := R.ext ht0 y08
          have hM8 : ∀ b ∈ M, b < w8.heap.size := fun b hb => Nat.lt_of_lt_of_le (hM b hb) y08.size
          have x08 : Unit → Ext w w8 := fun _ => y08
          clear y08
          have scR : SlR strR [] w8 vc (idsOf l (confL l t)) := SlE.toR (F := strE) (ag := false) sc8 (by simp)
          have tl : ∀ w1, Ext w8 w1 → Tells F.replace_Rules_1 [.pointer (some ⟨bg, 0, none⟩)] strR (fun cs => cs.headD undef) [] w1 (idsOf l (confL l t)) (fun s => !mayE l (getE l s)) := fun w1 x1 x hx w' cs x2 hc => by
            obtain rfl : cs = [Value.string x] := hc
            exact rules1_spec (M := M) x w' (G8.ext (x1.trans x2)) (fun b hb => Nat.lt_of_lt_of_le (hM8 b hb) (x1.trans x2).size) hl (rg8.ext (x1.trans x2))
          clear oc og x8 x7 x4 x3 xt xg rg rt hG ht0 bg' bt' sc
          repeat' (first|(first|refine go1 ?_|refine zg (fun _ _=>?_)|refine zi (fun _ _=>?_))|(refine zL (p := (((idsOf l (confL l t)).length : Nat) : Int) = 0) rfl (fun h => absurd h (by omega)) (fun _ => ?_))|(refine zC (d := some 47) rfl (idxStr_any (l := idsOf l (confL l t)) (M := []) (g := F.replace_Rules_1) (capl := [_]) _ rules1_hb (SlR.ext scR (by exact fx)) (by omega) (tl _ (by exact fx))) ?_; rintro _ w9 ⟨rfl, x9⟩; rw [may_conf hnd])|(refine zM rfl (fun h => ?_) (fun h => ?_))|(refine st_len (d := some 50) (E := strE) (l := idsOf l (evL l t)) rfl (SlE.ext (by exact fx) sg) ?_)|(refine zJ (p := (((idsOf l (evL l t)).length : Nat) : Int) > 100) rfl (fun h => ?_) (fun h => ?_))|(refine zC (d := some 57) rfl (fresh_spec (M := M) (N := N) (l := l) (cs := txCs t iv ov) (t := t) _ (G8.ext (by exact fx)) (fun b hb => Nat.lt_of_lt_of_le (hM8 b hb) (Ext.size (by exact fx))) (R.ext t8 (by exact fx)) hs.ins hl (SlE.ext (by exact fx) sc8) (SlE.ext (by exact fx) sg)) ?_; rintro _ w10 ⟨rfl, x10⟩)|(refine zL rfl (fun h => ?_) (fun h => ?_)))
          all_goals
            rw [hR]
            first
              | (rw [if_pos ‹(l.any fun x => hitE t x && !mayE l x) = true›]
                 exact x_ret rfl ⟨rfl, Ext.trans (x08 ()) (by exact fx)⟩)
              | (rw [if_neg (by rw [‹(l.any fun x => hitE t x && !mayE l x) = false›]; simp)]
                 first
                   | (rw [if_pos (by omega)]
                      exact x_ret rfl ⟨rfl, Ext.trans (x08 ()) (by exact fx)⟩)
                   | (rw [if_neg (by omega)]
                      first
                        | (rw [if_pos ‹freshP l t = true›]
                           exact x_ret rfl ⟨rfl, Ext.trans (x08 ()) (by exact fx)⟩)
                        | (rw [if_neg (by rw [‹freshP l t = false›]; simp)]
                           first
                             | (rw [if_pos (by rw [hnv]; exact of_decide_eq_true (by assumption))]
                                exact x_ret rfl ⟨rfl, Ext.trans (x08 ()) (by exact fx)⟩)
                             | (rw [if_neg (by rw [hnv]; exact of_decide_eq_false (by assumption))]
                                exact x_ret rfl ⟨rfl, Ext.trans (x08 ()) (by exact fx)⟩))))
        | true =>
          rw [if_pos hgn] at hnv
          have hnN : needN l t = needL l t := by unfold needN; rw [if_neg (by simpa using hc), if_neg (by rw [hh]; simp), if_pos hgn]
          have hnE : needE l t = 0 := by unfold needE; rw [if_neg (by simpa using hc), if_neg (by rw [hh]; simp), if_pos hgn]
          refine s_replace_Rules rfl ?_
          unfold k_replace_Rules
          refine oy ?_
          repeat' (first|(refine st_joinV (b := .cons ⟨some 39, _, _⟩ _) (fun (vc : Value) w' => Ext w4 w' ∧ Own strE T.string w4.heap.size w' vc (idsOf l (confL l t))) (fun vc => [(2, .int .i64 fee), (3, .pointer (some ⟨bg, 0, none⟩)), (4, .pointer (some ⟨bt, 0, none⟩)), (9, .int .i64 (needL l t)), (36, vc), (37, .pointer (some ⟨g, 0, none⟩)), (38, .agg (txCs t iv ov).toArray)]) ?_ ?_)|(rintro vc ρ7 w7 ⟨x7, oc⟩; have sc := oc.sl; try dsimp only)|(exact ⟨v6, ⟨rfl, rfl, rfl, rfl, rfl, rfl, rfl, trivial⟩, by exact fx, Own.lower (Own.ext (by exact fx) o6) (Ext.size (by exact fx))⟩)|(refine zF (d := some 32) (v := .bool true) ((qG _).trans (by rw [hgf])) ?_)|(first|refine go1 ?_|refine zg (fun _ _=>?_)|refine zi (fun _ _=>?_))|(refine zD (d := some 3) rfl rfl (fun bg wg xg bg' (rg : Row wg ⟨bg, 0, none⟩ [.pointer (some ⟨g, 0, none⟩)]) hbg0=>?_))|(refine zD (d := some 4) rfl rfl (fun bt wt xt bt' (rt : Row wt ⟨bt, 0, none⟩ (txCs t iv ov)) hbt0=>?_))|(refine zC (d := some 17) rfl (size_spec (M := N) (cs := txCs t iv ov) (t := t) _ (R.ext ht0 (by exact fx)) hs) ?_; rintro _ w3 ⟨rfl, x3⟩; rw [e0])|(refine zC (d := some 26) rfl (need_spec (M := M) (N := N) (l := l) (cs := txCs t iv ov) (t := t) _ (hG.ext (by exact fx)) (fun b hb => Nat.lt_of_lt_of_le (hM b hb) (Ext.size (by exact fx))) (R.ext ht0 (by exact fx)) hs hl hf) ?_; rintro _ w4 ⟨rfl, x4⟩; rw [hnN, hnE])|(refine st_both ?_ ?_)|(refine zC (d := some 36) rfl (conflicts_spec (M := M) (N := N) (l := l) (cs := txCs t iv ov) (t := t) _ (hG.ext (by exact fx)) (fun b hb => Nat.lt_of_lt_of_le (hM b hb) (Ext.size (by exact fx))) (R.ext ht0 (by exact fx)) hs.ins hl) ?_; rintro v6 w6 ⟨o6, x6⟩)|(refine zC (d := some 39) rfl (evicted_spec (M := M) (N := N) (l := l) (cs := txCs t iv ov) (t := t) _ (hG.ext (by exact fx)) (fun b hb => Nat.lt_of_lt_of_le (hM b hb) (Ext.size (by exact fx))) (R.ext ht0 (by exact fx)) hs.ins hl) ?_; rintro vg w8 ⟨og, x8⟩; have sg := og.sl)|(refine st_len (d := some 42) (E := strE) (l := idsOf l (confL l t)) rfl (SlE.ext (by exact fx) sc) ?_))
          have sc8 := SlE.ext x8 sc
          have rg8 : Row w8 ⟨bg, 0, none⟩ [.pointer (some ⟨g, 0, none⟩)] := rg.ext (by exact fx)
          have rt8 : Row w8 ⟨bt, 0, none⟩ (txCs t iv ov) := rt.ext (by exact fx)
          have y08 : Ext w w8 := by exact fx
          have G8 := hG.ext y08
          have t8 := R.ext ht0 y08
          have hM8 : ∀ b ∈ M, b < w8.heap.size := fun b hb => Nat.lt_of_lt_of_le (hM b hb) y08.size
          have x08 : Unit → Ext w w8 := fun _ => y08
          clear y08
          have scR : SlR strR [] w8 vc (idsOf l (confL l t)) := SlE.toR (F := strE) (ag := false) sc8 (by simp)
          have tl : ∀ w1, Ext w8 w1 → Tells F.replace_Rules_1 [.pointer (some ⟨bg, 0, none⟩)] strR (fun cs => cs.headD undef) [] w1 (idsOf l (confL l t)) (fun s => !mayE l (getE l s)) := fun w1 x1 x hx w' cs x2 hc => by
            obtain rfl : cs = [Value.string x] := hc
            exact rules1_spec (M := M) x w' (G8.ext (x1.trans x2)) (fun b hb => Nat.lt_of_lt_of_le (hM8 b hb) (x1.trans x2).size) hl (rg8.ext (x1.trans x2))
          clear oc og x8 x7 x4 x3 xt xg rg rt hG ht0 bg' bt' sc
          repeat' (first|(first|refine go1 ?_|refine zg (fun _ _=>?_)|refine zi (fun _ _=>?_))|(refine zL (p := (((idsOf l (confL l t)).length : Nat) : Int) = 0) rfl (fun h => absurd h (by omega)) (fun _ => ?_))|(refine zC (d := some 47) rfl (idxStr_any (l := idsOf l (confL l t)) (M := []) (g := F.replace_Rules_1) (capl := [_]) _ rules1_hb (SlR.ext scR (by exact fx)) (by omega) (tl _ (by exact fx))) ?_; rintro _ w9 ⟨rfl, x9⟩; rw [may_conf hnd])|(refine zM rfl (fun h => ?_) (fun h => ?_))|(refine st_len (d := some 50) (E := strE) (l := idsOf l (evL l t)) rfl (SlE.ext (by exact fx) sg) ?_)|(refine zJ (p := (((idsOf l (evL l t)).length : Nat) : Int) > 100) rfl (fun h => ?_) (fun h => ?_))|(refine zC (d := some 57) rfl (fresh_spec (M := M) (N := N) (l := l) (cs := txCs t iv ov) (t := t) _ (G8.ext (by exact fx)) (fun b hb => Nat.lt_of_lt_of_le (hM8 b hb) (Ext.size (by exact fx))) (R.ext t8 (by exact fx)) hs.ins hl (SlE.ext (by exact fx) sc8) (SlE.ext (by exact fx) sg)) ?_; rintro _ w10 ⟨rfl, x10⟩)|(refine zL rfl (fun h => ?_) (fun h => ?_)))
          all_goals
            rw [hR]
            first
              | (rw [if_pos ‹(l.any fun x => hitE t x && !mayE l x) = true›]
                 exact x_ret rfl ⟨rfl, Ext.trans (x08 ()) (by exact fx)⟩)
              | (rw [if_neg (by rw [‹(l.any fun x => hitE t x && !mayE l x) = false›]; simp)]
                 first
                   | (rw [if_pos (by omega)]
                      exact x_ret rfl ⟨rfl, Ext.trans (x08 ()) (by exact fx)⟩)
                   | (rw [if_neg (by omega)]
                      first
                        | (rw [if_pos ‹freshP l t = true›]
                           exact x_ret rfl ⟨rfl, Ext.trans (x08 ()) (by exact fx)⟩)
                        | (rw [if_neg (by rw [‹freshP l t = false›]; simp)]
                           first
                             | (rw [if_pos (by rw [hnv]; exact of_decide_eq_true (by assumption))]
                                exact x_ret rfl ⟨rfl, Ext.trans (x08 ()) (by exact fx)⟩)
                             | (rw [if_neg (by rw [hnv]; exact of_decide_eq_false (by assumption))]
                                exact x_ret rfl ⟨rfl, Ext.trans (x08 ()) (by exact fx)⟩))))
  · have e0 : sizeV t = .tuple #[.int .i64 0, .int .i64 (checkT t)] := by rw [sizeV, if_neg hc]
    have e : rulesL l t fee = checkT t := by rw [rulesL, if_pos hc]
    rw [e]
    refine s_replace_Rules rfl ?_
    unfold k_replace_Rules
    refine oy ?_
    repeat' (first|(first|refine go1 ?_|refine zg (fun _ _=>?_)|refine zi (fun _ _=>?_))|(refine zD (d := some 3) rfl rfl (fun bg wg xg bg' (rg : Row wg ⟨bg, 0, none⟩ [.pointer (some ⟨g, 0, none⟩)]) hbg0=>?_))|(refine zD (d := some 4) rfl rfl (fun bt wt xt bt' (rt : Row wt ⟨bt, 0, none⟩ (txCs t iv ov)) hbt0=>?_))|(refine zC (d := some 17) rfl (size_spec (M := N) (cs := txCs t iv ov) (t := t) _ (R.ext ht0 (by exact fx)) hs) ?_; rintro _ w3 ⟨rfl, x3⟩; rw [e0])|(refine zN (p := checkT t = 0) rfl (fun _ => ?_) (fun h => absurd h hc)))
    exact x_ret rfl ⟨rfl, by exact fx⟩
end Go.Proofs.YtfebcajheojodaaGreatDoor
end
