/- Contracts: what opens a lock. Contracts: may an input open a lock, and when? Contracts: may an input open a lock, and is it ripe? -/
import Derived.Test.YtbidkcjendncaaaGreatCa18
set_option linter.unusedVariables false
set_option linter.unusedSimpArgs false
section
namespace Go.Proofs.YtbidkcjendncaaaGreat
open Go Go.K
attribute [local irreducible] regK codeK retK KOp.wp K.Spec u32 leS vnS str zero32 numAt byteAt
theorem lock_bad {s:ByteArray} (h:¬(s.size=1+8*byteAt s 0∧byteAt s 0≤3)):lockL s= []:=by
 unfold lockL
 rw [if_neg]
 intro h2
 apply h
 simp only [lockForm,Bool.and_eq_true,Bool.or_eq_true,decide_eq_true_eq] at h2
 obtain ⟨⟨h3,h4⟩,_⟩:=h2
 have h4:byteAt s 0=(s.size - 1) / 8:=h4
 omega
theorem lock_put {s:ByteArray} (h:s.size=1+8*byteAt s 0) (h3:byteAt s 0≤3):lockN s=byteAt s 0∧lockL s=if lputE (brsL s)=0 then brsL s else []:=by
 have hn:lockN s=byteAt s 0:=by unfold lockN;omega
 refine ⟨hn,?_⟩
 have hl:(brsL s).length=byteAt s 0:=by simp [brsL,hn]
 unfold lockL lputE
 by_cases h0:byteAt s 0=0
 ·have e:lockForm s=false:=by
   cases hf:lockForm s with
   |false=>rfl
   |true=>
    simp only [lockForm,Bool.and_eq_true,Bool.or_eq_true,decide_eq_true_eq] at hf
    omega
  rw [e,if_pos (by omega:(brsL s).length<1∨3<(brsL s).length)];rfl
 ·have hf:lockForm s=true:=by
   simp only [lockForm,Bool.and_eq_true,Bool.or_eq_true,decide_eq_true_eq]
   omega
  rw [hf,Bool.true_and,if_neg (by omega:¬((brsL s).length<1∨3<(brsL s).length))]
  cases hb:(brsL s).all lowB<;>rfl
theorem brs_take {s:ByteArray} {i:Nat}:(List.range (i+1)).map (brAt s)=(List.range i).map (brAt s)++ [brAt s i]:=by rw [List.range_succ,List.map_append];rfl
theorem u16_wrap {n:Nat} (h:n<65536):IntKind.u16.wrap (n:Int)=(n:Int):=by show (n:Int)%65536=n;omega
theorem u32_wrap {n:Nat} (h:n<4294967296):IntKind.u32.wrap (n:Int)=(n:Int):=by show (n:Int)%4294967296=n;omega
theorem st_elemEB {P:Program} {d:Option Tmp} {r:KR} {K:Env→World→Prop} {ρ:Env} {w:World} {α:Type} {E:Enc α} {size:Nat} {x i:Operand} {v:Value} {l:List α} {kd:IntKind} {n:Nat} (hx:ev ρ x=v) (hi:ev ρ i=.int kd (n:Nat)) (hs:SlE E w v l) (hk:size=E.k) (hr:n<l.length) (k:∀ad,Row w ad (E.f l[n])→ad.block∈blkOf v→regK P r K (put ρ d (.pointer (some ad))) w):regK P (.cons ⟨d,.indexAddr size x i,none⟩ r) K ρ w:=by
 subst hk
 obtain ⟨a,cap,hv,hrow⟩:=Sl.at_ hs E.pos hr
 subst hv
 exact st_fix rfl (by simp [KOp.fix,hx,hi,hr]) (k (a.add (n*E.k)) (by rw [E.flat_at l n hr] at hrow;exact hrow) (by simp [blkOf,add_block]))
set_option maxHeartbeats 1000000 in
theorem lget_spec (s:ByteArray) (hm:s.size≤1000000) (w:World):K.Spec Tryz.prog F.lock_Get [.string s] w fun r w'=>∃v e,r=.tuple #[v,.int .i64 e]∧SlE brE w' v (lockL s)∧(e≠0→lockL s= [])∧(∀b∈blkOf v,w.heap.size≤b)∧Ext w w':=by
 refine s_lock_Get rfl ?_
 unfold k_lock_Get
 refine oy ?_
 by_cases h0:s=⟨#[]⟩
 ·have hb:lockL s= []:=lock_bad (by subst h0;have:(⟨#[]⟩:ByteArray).size=0:=rfl;omega)
  rw [hb]
  repeat' (first|(refine st_fixV (d:=some 9) (.bool true) rfl (congrArg (fun b=>some (Value.bool b)) (decide_eq_true h0)) ?_)|(first|refine go1 ?_|refine zg (fun _ _=>?_)|refine zi (fun _ _=>?_)))
  exact x_ret rfl ⟨.slice none 0 0,_,rfl,SlE.nil _,fun _=>rfl,(fun b hb=>absurd hb (by simp [blkOf])),Ext.refl _⟩
 have hsz:0<s.size:=by
  rcases Nat.eq_zero_or_pos s.size with h|h
  ·exact absurd (ByteArray.ext (Array.eq_empty_of_size_eq_zero (by simpa using h))) h0
  ·exact h
 have hb0:=byteAt_get hsz
 have hb8:=s[0].toNat_lt
 obtain ⟨n,hn⟩:∃n:Nat,n=s[0].toNat:=⟨_,rfl⟩
 rw [←hn] at hb0 hb8
 have pre:s.size=1+8*byteAt s 0∧byteAt s 0≤3∨¬(s.size=1+8*byteAt s 0∧byteAt s 0≤3):=by omega
 repeat' (first|(refine st_fixV (d:=some 9) (.bool false) rfl (congrArg (fun b=>some (Value.bool b)) (decide_eq_false h0)) ?_)|(refine st_idxS (d:=some 12) (k:=.i64) (n:=0) rfl rfl hsz ?_;rw [←hn])|(refine st_fixV (d:=some 13) (.int .i64 (n:Nat)) rfl (congrArg (fun n=>some (Value.int .i64 n)) (wrap_n8 (by omega))) ?_)|(refine zJ (p:=((n:Nat):Int)>3) rfl (fun h=>?_) (fun h=>?_))|(refine st_idxS (d:=some 20) (k:=.i64) (n:=0) rfl rfl hsz ?_;rw [←hn])|(refine st_fixV (d:=some 21) (.int .i64 (n:Nat)) rfl (congrArg (fun n=>some (Value.int .i64 n)) (wrap_n8 (by omega))) ?_)|(refine st_mul (d:=some 22) (a:=8) (b:=(n:Nat)) rfl rfl (by omega) ?_)|(refine zN (p:=((s.size:Nat):Int)=1+8*((n:Nat):Int)) rfl (fun h=>?_) (fun h=>?_))|(refine c_loopV (fun (p:Nat × Value) w'=>Ext w w'∧p.1≤n∧Own brE T.api_Branch w.heap.size w' p.2 ((List.range p.1).map (brAt s))) (fun p=> [(0,.string s),(4,p.2),(5,.int .i64 (1+8*(p.1:Int)))]) (fun p=>n - p.1) (0,.slice none 0 0) ⟨rfl,rfl,rfl,trivial⟩ ⟨Ext.refl _,by simp,Own.nil _ _ _⟩ ?_;rintro ⟨i,v4⟩ ρ w3 ⟨x3,hi,ho⟩;simp only at hi ho;dsimp only)|(refine zL (p:=1+8*((i:Nat):Int)<((s.size:Nat):Int)) rfl (fun h=>?_) (fun h=>?_))|(first|refine go1 ?_|refine zg (fun _ _=>?_)|refine zi (fun _ _=>?_)))
 ·rw [lock_bad (by omega)]
  exact x_ret rfl ⟨.slice none 0 0,_,rfl,SlE.nil _,fun _=>rfl,(fun b hb=>absurd hb (by simp [blkOf])),Ext.refl _⟩
 ·rw [lock_bad (by omega)]
  exact x_ret rfl ⟨.slice none 0 0,_,rfl,SlE.nil _,fun _=>rfl,(fun b hb=>absurd hb (by simp [blkOf])),Ext.refl _⟩
 ·have hin:i<n:=by omega
  have q1:=numAt_lt s 2 (1+8*i)
  have q2:=numAt_lt s 2 (3+8*i)
  have q3:=numAt_lt s 4 (5+8*i)
  repeat' (first|(refine zC (d:=some 35) (congrArg (fun z=> [Value.string s,Value.int .i64 z,Value.int .i64 2]) (by omega)) (number_spec s (1+8*i) 2 (by decide) (by omega) (by omega) _) ?_;rintro _ w4 ⟨rfl,x4⟩)|(refine st_fixV (d:=some 36) (.int .u16 (numAt s (1+8*i) 2:Nat)) rfl (congrArg (fun n=>some (Value.int .u16 n)) (u16_wrap q1)) ?_)|(refine zC (d:=some 40) (congrArg (fun z=> [Value.string s,Value.int .i64 z,Value.int .i64 2]) (by omega)) (number_spec s (3+8*i) 2 (by decide) (by omega) (by omega) _) ?_;rintro _ w5 ⟨rfl,x5⟩)|(refine st_fixV (d:=some 41) (.int .u16 (numAt s (3+8*i) 2:Nat)) rfl (congrArg (fun n=>some (Value.int .u16 n)) (u16_wrap q2)) ?_)|(refine zC (d:=some 45) (congrArg (fun z=> [Value.string s,Value.int .i64 z,Value.int .i64 4]) (by omega)) (number_spec s (5+8*i) 4 (by decide) (by omega) (by omega) _) ?_;rintro _ w6 ⟨rfl,x6⟩)|(refine st_fixV (d:=some 46) (.int .u32 (numAt s (5+8*i) 4:Nat)) rfl (congrArg (fun n=>some (Value.int .u32 n)) (u32_wrap q3)) ?_)|(refine st_build (d:=some 47) (cs:=brE.f (brAt s i)) rfl ?_)|(refine zI (d:=some 48) (cs:=brE.f (brAt s i)) rfl (fun b9 w9 x9 a9 hb9=>?_))|(refine st_append (d:=some 49) (E:=brE) (v:=v4) (l2:= [brAt s i]) rfl (ho.ext (by exact fx)) (Ext.size (w:=w) (by exact fx)) rfl rfl (sl_new a9 rfl) rfl rfl (by simp;omega) (fun v10 w10 o10 c10=>?_))|(first|refine go1 ?_|refine zg (fun _ _=>?_)|refine zi (fun _ _=>?_)))
  exact ⟨(i+1,v10),⟨rfl,rfl,congrArg (Value.int .i64) (by simp only;omega),trivial⟩,⟨(Ext.chg (w:=w) (by exact fx) c10).mono (fun b hb=>.inr (ho.base b hb)),by simp only;omega,by simp only;rw [brs_take];exact o10⟩,by simp only;omega⟩
 ·have ei:i=n:=by omega
  subst ei
  have hp:=lock_put (s:=s) (by omega) (by omega)
  have hl:(List.range i).map (brAt s)=brsL s:=by unfold brsL;rw [hp.1,hb0]
  rw [hl] at ho
  have hok:∀b∈brsL s,BrOk b:=fun b hb=>by
   unfold brsL at hb
   obtain ⟨j,_,rfl⟩:=List.mem_map.1 hb
   exact brAt_ok s j
  rw [hp.2]
  repeat' (first|(refine zC (d:=some 52) rfl (lput_spec _ (SlE.ext (w:=w3) (by exact fx) ho.sl) hok) ?_;rintro _ w4 ⟨z,rfl,x4⟩)|(refine zN (p:=lputE (brsL s)=0) rfl (fun h=>?_) (fun h=>?_))|(first|refine go1 ?_|refine zg (fun _ _=>?_)|refine zi (fun _ _=>?_)))
  ·rw [if_neg h]
   exact x_ret rfl ⟨.slice none 0 0,_,rfl,SlE.nil _,fun _=>rfl,(fun b hb=>absurd hb (by simp [blkOf])),by exact fx⟩
  ·rw [if_pos h]
   exact x_ret rfl ⟨_,_,rfl,SlE.ext x4 ho.sl,fun he=>absurd rfl he,ho.base,by exact fx⟩
def signV (l:List ByteArray):Value:=match signL l with
 |some (a,t)=>.tuple #[.int .i64 (a:Nat),.int .u16 (t:Nat),.int .i64 0]
 |none=>.tuple #[.int .i64 0,.int .u16 0,.int .i64 4]
theorem signed_spec {v:Value} {l:List ByteArray} (w:World) (hv:SlE strE w v l) (hz:∀z∈l,z.size≤1000000):K.Spec Tryz.prog F.lock_Signed [v] w fun r w'=>r=signV l∧Ext w w':=by
 refine s_lock_Signed rfl ?_
 unfold k_lock_Signed
 refine oy ?_
 by_cases h1:l.length=1
 ·obtain ⟨z,rfl⟩:∃z,l= [z]:=by
   match l,h1 with
   | [z],_=>exact ⟨z,rfl⟩
  have hzm:=hz z (by simp)
  by_cases h3:z.size=3
  ·have hb0:=byteAt_get (s:=z) (i:=0) (by omega)
   have hb8:=z[0].toNat_lt
   obtain ⟨n,hn⟩:∃n:Nat,n=z[0].toNat:=⟨_,rfl⟩
   rw [←hn] at hb0 hb8
   have q1:=numAt_lt z 2 1
   by_cases h4:n<3
   ·have e:signV [z]=.tuple #[.int .i64 (n:Nat),.int .u16 (numAt z 1 2:Nat),.int .i64 0]:=by
     unfold signV signL
     rw [if_pos ⟨rfl,h3,by show byteAt z 0<3;omega⟩]
     show Value.tuple #[.int .i64 (byteAt z 0:Nat),_,_]=_
     rw [hb0];rfl
    rw [e]
    repeat' (first|(refine st_len (d:=some 6) (E:=strE) (l:= [z]) rfl (SlE.ext (w:=w) (by exact fx) hv) ?_)|(refine st_fixV (d:=some 7) (.bool false) rfl rfl ?_)|(refine st_elemE (d:=some 10) (E:=strE) rfl rfl (n:=0) (l:= [z]) (SlE.ext (w:=w) (by exact fx) hv) rfl (by simp) (fun ad r4=>?_);have r4:Row _ ad [Value.string z]:=r4)|(refine st_fixV (d:=some 13) (.bool false) rfl (by show some (Value.bool (!decide (((z.size:Nat):Int)=3)))=_;rw [decide_eq_true (by omega)];rfl) ?_)|(refine st_elemE (d:=some 17) (E:=strE) rfl rfl (n:=0) (l:= [z]) (SlE.ext (w:=w) (by exact fx) hv) rfl (by simp) (fun ad r5=>?_);have r5:Row _ ad [Value.string z]:=r5)|(refine st_idxS (d:=some 19) (k:=.i64) (n:=0) rfl rfl (by omega) ?_;rw [←hn])|(refine st_fixV (d:=some 20) (.bool false) rfl (congrArg (fun b=>some (Value.bool b)) (decide_eq_false (by omega))) ?_)|(refine zg (fun w7 x7=>?_))|(refine st_both ?_ ?_)|(refine st_elemE (d:=some 23) (E:=strE) rfl rfl (n:=0) (l:= [z]) (SlE.ext (w:=w) (by exact fx) hv) rfl (by simp) (fun ad r6=>?_);have r6:Row _ ad [Value.string z]:=r6)|(refine st_elemE (d:=some 28) (E:=strE) rfl rfl (n:=0) (l:= [z]) (SlE.ext (w:=w) (by exact fx) hv) rfl (by simp) (fun ad r7=>?_);have r7:Row _ ad [Value.string z]:=r7)|(refine st_idxS (d:=some 25) (k:=.i64) (n:=0) rfl rfl (by omega) ?_;rw [←hn])|(refine st_fixV (d:=some 26) (.int .i64 (n:Nat)) rfl (congrArg (fun n=>some (Value.int .i64 n)) (wrap_n8 (by omega))) ?_)|(refine zC (d:=some 30) rfl (number_spec z 1 2 (by decide) (by omega) (by omega) _) ?_;rintro _ w8 ⟨rfl,x8⟩)|(refine st_fixV (d:=some 31) (.int .u16 (numAt z 1 2:Nat)) rfl (congrArg (fun n=>some (Value.int .u16 n)) (u16_wrap q1)) ?_)|(first|refine go1 ?_|refine zg (fun _ _=>?_)|refine zi (fun _ _=>?_)))
    all_goals exact x_ret rfl ⟨rfl,by exact fx⟩
   ·have e:signV [z]=.tuple #[.int .i64 0,.int .u16 0,.int .i64 4]:=by
     unfold signV signL
     rw [if_neg]
     rintro ⟨_,_,h⟩
     have h:byteAt z 0<3:=h
     omega
    rw [e]
    repeat' (first|(refine st_len (d:=some 6) (E:=strE) (l:= [z]) rfl (SlE.ext (w:=w) (by exact fx) hv) ?_)|(refine st_fixV (d:=some 7) (.bool false) rfl rfl ?_)|(refine st_elemE (d:=some 10) (E:=strE) rfl rfl (n:=0) (l:= [z]) (SlE.ext (w:=w) (by exact fx) hv) rfl (by simp) (fun ad r4=>?_);have r4:Row _ ad [Value.string z]:=r4)|(refine st_fixV (d:=some 13) (.bool false) rfl (by show some (Value.bool (!decide (((z.size:Nat):Int)=3)))=_;rw [decide_eq_true (by omega)];rfl) ?_)|(refine st_elemE (d:=some 17) (E:=strE) rfl rfl (n:=0) (l:= [z]) (SlE.ext (w:=w) (by exact fx) hv) rfl (by simp) (fun ad r5=>?_);have r5:Row _ ad [Value.string z]:=r5)|(refine st_idxS (d:=some 19) (k:=.i64) (n:=0) rfl rfl (by omega) ?_;rw [←hn])|(refine st_fixV (d:=some 20) (.bool true) rfl (congrArg (fun b=>some (Value.bool b)) (decide_eq_true (by omega))) ?_)|(first|refine go1 ?_|refine zg (fun _ _=>?_)|refine zi (fun _ _=>?_)))
    exact x_ret rfl ⟨rfl,by exact fx⟩
  ·have e:signV [z]=.tuple #[.int .i64 0,.int .u16 0,.int .i64 4]:=by
    unfold signV signL
    rw [if_neg]
    rintro ⟨_,h,_⟩
    exact h3 h
   rw [e]
   repeat' (first|(refine st_len (d:=some 6) (E:=strE) (l:= [z]) rfl (SlE.ext (w:=w) (by exact fx) hv) ?_)|(refine st_fixV (d:=some 7) (.bool false) rfl rfl ?_)|(refine st_elemE (d:=some 10) (E:=strE) rfl rfl (n:=0) (l:= [z]) (SlE.ext (w:=w) (by exact fx) hv) rfl (by simp) (fun ad r4=>?_);have r4:Row _ ad [Value.string z]:=r4)|(refine st_fixV (d:=some 13) (.bool true) rfl (by show some (Value.bool (!decide (((z.size:Nat):Int)=3)))=_;rw [decide_eq_false (by omega)];rfl) ?_)|(first|refine go1 ?_|refine zg (fun _ _=>?_)|refine zi (fun _ _=>?_)))
   exact x_ret rfl ⟨rfl,by exact fx⟩
 ·have e:signV l=.tuple #[.int .i64 0,.int .u16 0,.int .i64 4]:=by
   unfold signV signL
   rw [if_neg]
   rintro ⟨h,_⟩
   exact h1 h
  rw [e]
  repeat' (first|(refine st_len (d:=some 6) (E:=strE) (l:=l) rfl (SlE.ext (w:=w) (by exact fx) hv) ?_)|(refine st_fixV (d:=some 7) (.bool true) rfl (by show some (Value.bool (!decide (((l.length:Nat):Int)=1)))=_;rw [decide_eq_false (by omega)];rfl) ?_)|(first|refine go1 ?_|refine zg (fun _ _=>?_)|refine zi (fun _ _=>?_)))
  exact x_ret rfl ⟨rfl,by exact fx⟩
end Go.Proofs.YtbidkcjendncaaaGreat
end
section
namespace Go.Proofs.YtbidkcjendncaaaGreat
open Go Go.K
attribute [local irreducible] regK codeK retK KOp.wp K.Spec u32 leS vnS str zero32 numAt byteAt lockL signL brsL
theorem lockL_ok {s:ByteArray} {b:Br} (h:b∈lockL s):BrOk b:=by
 unfold lockL at h
 split at h
 ·unfold brsL at h
  obtain ⟨j,_,rfl⟩:=List.mem_map.1 h
  exact brAt_ok s j
 ·simp at h
set_option maxHeartbeats 1000000 in
theorem chosen_spec {v:Value} {l:List ByteArray} (s:ByteArray) (hm:s.size≤1000000) (w:World) (hv:SlE strE w v l) (hz:∀z∈l,z.size≤1000000):K.Spec Tryz.prog F.lock_chosen [.string s,v] w fun r w'=>
  ∃b,r=.tuple #[.agg (brE.f b).toArray,.bool (chosenB s l).isSome]∧BrOk b∧(∀c,chosenB s l=some c→b=c)∧Ext w w':=by
 have hz0:BrOk ⟨0,0,0⟩:=⟨by decide,by decide,by decide⟩
 refine s_lock_chosen rfl ?_
 unfold k_lock_chosen
 refine oy ?_
 repeat' (first|(refine zH (d:=some 4) (fun b4 w4 x4 a4 hb4=>?_))|(refine zC (d:=some 13) rfl (lget_spec s hm _) ?_;rintro _ w5 ⟨u,e,rfl,hl,he,hbu,x5⟩;have l4:=a4.lt)|(refine zC (d:=some 18) rfl (signed_spec _ (SlE.ext (w:=w) (by exact fx) hv) hz) ?_;rintro _ w6 ⟨rfl,x6⟩;have x06:Ext w w6:=(by exact fx);replace hl:=hl.ext x6;have a6:At w6 b4 _:=a4.ext (x5.trans x6);clear x4 x5 x6 a4)|(first|refine go1 ?_|refine zg (fun _ _=>?_)|refine zi (fun _ _=>?_)))
 cases hsg:signL l with
 |none=>
  have e1:signV l=.tuple #[.int .i64 0,.int .u16 0,.int .i64 4]:=by unfold signV;rw [hsg]
  have e2:chosenB s l=none:=by unfold chosenB;rw [hsg];rfl
  rw [e1,e2]
  by_cases h0:e=0
  all_goals
   repeat' (first|(refine st_fixV (d:=some 23) (.bool false) rfl (by show some (Value.bool (!decide (e=0)))=_;rw [decide_eq_true h0];rfl) ?_)|(refine st_fixV (d:=some 23) (.bool true) rfl (by show some (Value.bool (!decide (e=0)))=_;rw [decide_eq_false h0];rfl) ?_)|(refine st_build (d:=some 34) (cs:=brE.f ⟨0,0,0⟩) rfl ?_)|(refine st_setN (w0:=w) (vs:=brE.f ⟨0,0,0⟩) (by exact fx) hb4 (by focus (repeat (first|assumption|(apply At.ext;assumption)))) rfl rfl rfl rfl rfl (fun w9 x9 c9 a9 r9=>?_))|(first|refine go1 ?_|refine zg (fun _ _=>?_)|refine zi (fun _ _=>?_)))
   exact x_ret (ret2 (rv_cell r9 rfl rfl) rv_tmp) ⟨⟨0,0,0⟩,rfl,hz0,(fun c h=>nomatch h),x9⟩
 |some p=>
  obtain ⟨a,t⟩:=p
  have e1:signV l=.tuple #[.int .i64 (a:Nat),.int .u16 (t:Nat),.int .i64 0]:=by unfold signV;rw [hsg]
  have e2:chosenB s l=((lockL s)[a]?).bind fun b=>if b.tag=0∨b.tag=t then some b else none:=by unfold chosenB;rw [hsg];rfl
  rw [e1]
  by_cases h0:e=0
  ·by_cases ha:a<(lockL s).length
   ·have hok:=lockL_ok (List.getElem_mem ha)
    have g1:=hok.tag
    have g2:t<65536:=by
     unfold signL at hsg
     split at hsg
     ·have:=numAt_lt (l.headD default) 2 1
      simp only [Option.some.injEq,Prod.mk.injEq] at hsg
      omega
     ·cases hsg
    rw [List.getElem?_eq_getElem ha] at e2
    have e2:chosenB s l=if (lockL s)[a].tag=0∨(lockL s)[a].tag=t then some (lockL s)[a] else none:=e2
    generalize hB:(lockL s)[a]=B at e2 hok g1
    repeat' (first|(refine st_fixV (d:=some 23) (.bool false) rfl (by show some (Value.bool (!decide (e=0)))=_;rw [decide_eq_true h0];rfl) ?_)|(refine st_len (d:=some 31) (E:=brE) (l:=lockL s) rfl hl ?_)|(refine st_fixV (d:=some 32) (.bool false) rfl (congrArg (fun b=>some (Value.bool b)) (decide_eq_false (by omega))) ?_)|(refine zg (fun w7 x7=>?_);replace hl:=hl.ext x7)|(refine st_elemE (d:=some 37) (E:=brE) rfl rfl (n:=a) (l:=lockL s) hl rfl ha (fun ad r4=>?_);rw [hB] at r4;have r4:Row _ ad [.int .u16 (B.tag:Nat),.int .u16 (B.delay:Nat),.int .u32 (B.height:Nat)]:=r4)|(refine st_elemE (d:=some 41) (E:=brE) rfl rfl (n:=a) (l:=lockL s) hl rfl ha (fun ad r5=>?_);rw [hB] at r5;have r5:Row _ ad [.int .u16 (B.tag:Nat),.int .u16 (B.delay:Nat),.int .u32 (B.height:Nat)]:=r5)|(refine st_elemEB (d:=some 48) (E:=brE) rfl rfl (n:=a) (l:=lockL s) hl rfl ha (fun ad r6 hba=>?_);rw [hB] at r6;have r6:Row _ ad [.int .u16 (B.tag:Nat),.int .u16 (B.delay:Nat),.int .u32 (B.height:Nat)]:=r6)|(refine zJ (p:=((B.tag:Nat):Int)=0) rfl (fun h=>?_) (fun h=>?_))|(refine st_both ?_ ?_)|(refine st_setN (w0:=w) (vs:=brE.f B) (by exact fx) hb4 (by focus (repeat (first|assumption|(apply At.ext;assumption)))) rfl rfl rfl rfl rfl (fun w9 x9 c9 a9 r9=>?_);try (replace r6:=Row.chg c9 r6 (by have:=hbu _ hba;simp;omega)))|(first|refine go1 ?_|refine zg (fun _ _=>?_)|refine zi (fun _ _=>?_)))
    all_goals
     have hcc:chosenB s l=some B∨chosenB s l=none∧¬(((B.tag:Nat):Int)=0)∧¬(((B.tag:Nat):Int)=(t:Nat)):=by
      rw [e2]
      by_cases q:B.tag=0∨B.tag=t
      ·exact .inl (if_pos q)
      ·exact .inr ⟨if_neg q,by omega,by omega⟩
     have hval:(chosenB s l).isSome=(decide (((B.tag:Nat):Int)=0)||decide (((B.tag:Nat):Int)=(t:Nat))):=by
      rcases hcc with q|⟨q,q1,q2⟩
      ·rw [q]
       rw [e2] at q
       have:B.tag=0∨B.tag=t:=by
        by_cases q3:B.tag=0∨B.tag=t
        ·exact q3
        ·rw [if_neg q3] at q;cases q
       rcases this with q4|q4
       ·rw [decide_eq_true (by omega)];rfl
       ·rw [decide_eq_true (p:=((B.tag:Nat):Int)=(t:Nat)) (by omega),Bool.or_true];rfl
      ·rw [q,decide_eq_false q1,decide_eq_false q2];rfl
     rw [hval]
     refine x_ret (ret2 (rv_cell r9 rfl rfl) rv_tmp) ⟨B,?_,hok,fun c hc=>?_,x9⟩
     ·first
       |(rw [decide_eq_true (by assumption:((B.tag:Nat):Int)=0)];rfl)
       |(rw [decide_eq_false (by assumption:¬((B.tag:Nat):Int)=0)];rfl)
     ·rcases hcc with q|⟨q,_⟩
      ·rw [q] at hc;injection hc
      ·rw [q] at hc;cases hc
   ·have e2:chosenB s l=none:=by rw [e2,List.getElem?_eq_none (by omega)];rfl
    rw [e2]
    repeat' (first|(refine st_fixV (d:=some 23) (.bool false) rfl (by show some (Value.bool (!decide (e=0)))=_;rw [decide_eq_true h0];rfl) ?_)|(refine st_len (d:=some 31) (E:=brE) (l:=lockL s) rfl hl ?_)|(refine st_fixV (d:=some 32) (.bool true) rfl (congrArg (fun b=>some (Value.bool b)) (decide_eq_true (by omega))) ?_)|(refine st_build (d:=some 34) (cs:=brE.f ⟨0,0,0⟩) rfl ?_)|(refine st_setN (w0:=w) (vs:=brE.f ⟨0,0,0⟩) (by exact fx) hb4 (by focus (repeat (first|assumption|(apply At.ext;assumption)))) rfl rfl rfl rfl rfl (fun w9 x9 c9 a9 r9=>?_))|(first|refine go1 ?_|refine zg (fun _ _=>?_)|refine zi (fun _ _=>?_)))
    exact x_ret (ret2 (rv_cell r9 rfl rfl) rv_tmp) ⟨⟨0,0,0⟩,rfl,hz0,(fun c h=>nomatch h),x9⟩
  ·have e2:chosenB s l=none:=by rw [e2,he h0];rfl
   rw [e2]
   repeat' (first|(refine st_fixV (d:=some 23) (.bool true) rfl (by show some (Value.bool (!decide (e=0)))=_;rw [decide_eq_false h0];rfl) ?_)|(refine st_build (d:=some 34) (cs:=brE.f ⟨0,0,0⟩) rfl ?_)|(refine st_setN (w0:=w) (vs:=brE.f ⟨0,0,0⟩) (by exact fx) hb4 (by focus (repeat (first|assumption|(apply At.ext;assumption)))) rfl rfl rfl rfl rfl (fun w9 x9 c9 a9 r9=>?_))|(first|refine go1 ?_|refine zg (fun _ _=>?_)|refine zi (fun _ _=>?_)))
   exact x_ret (ret2 (rv_cell r9 rfl rfl) rv_tmp) ⟨⟨0,0,0⟩,rfl,hz0,(fun c h=>nomatch h),x9⟩
end Go.Proofs.YtbidkcjendncaaaGreat
end
section
namespace Go.Proofs.YtbidkcjendncaaaGreat
open Go Go.K
attribute [local irreducible] regK codeK retK KOp.wp K.Spec u32 leS vnS str zero32 numAt byteAt lockL signL brsL chosenB
theorem and16 {q:Int} (h:is32 q):binVal .and (.int .u32 q) (.int .u32 65535)=some (.int .u32 (q%65536)):=by
 obtain ⟨n,rfl⟩:∃n:Nat,q=(n:Nat):=⟨q.toNat,by have:=h.1;omega⟩
 have h2:n<4294967296:=by have:=h.2;omega
 simp only [binVal,isShift,Bool.false_eq_true,if_false,if_true,intBin,IntKind.bits]
 have e:(BitVec.ofInt 32 ((n:Nat):Int)&&& BitVec.ofInt 32 65535).toNat=n%65536:=by
  rw [BitVec.toNat_and,BitVec.toNat_ofInt,BitVec.toNat_ofInt]
  rw [show (((n:Nat):Int)%((2^32:Nat):Int)).toNat=n by omega,show ((65535:Int)%((2^32:Nat):Int)).toNat=2^16 - 1 by decide]
  exact Nat.and_two_pow_sub_one_eq_mod n 16
 exact (congrArg (fun x:Nat=>some (Value.int .u32 (IntKind.u32.wrap (x:Int)))) e).trans (congrArg (fun x=>some (Value.int .u32 x)) (by rw [u32_wrap (by omega)];rfl))
theorem waits_bound {t:Tx} {x:TIn} (h:is32 x.q):0≤waitsT t x∧waitsT t x<65536:=by
 unfold waitsT
 split<;>omega
theorem waits_spec {M:List Nat} {cs:List Value} {t:Tx} (i:Nat) (hi:i<t.ins.length) (hs:t.ins.length≤1000) (w:World) (ht:txR.rel M w cs t):K.Spec Tryz.prog F.lock_waits [.agg cs.toArray,.int .i64 (i:Nat)] w fun r w'=>r=.int .i64 (waitsT t t.ins[i])∧Ext w w':=by
 obtain ⟨iv,ov,rfl,h1,h2,h3,h4⟩:=ht
 refine s_lock_waits rfl ?_
 unfold k_lock_waits
 refine oy ?_
 repeat' (first|(refine zD rfl rfl (fun bp wp xp ap (rp:Row wp ⟨bp,0,none⟩ (txCs t iv ov)) hp0=>?_))|(refine st_elemR (d:=some 9) (E:=inR) (M:=M) rfl rfl (n:=i) (l:=t.ins) (SlR.ext h1 (by exact fx)) rfl hi (fun ad cs r4 he=>?_);obtain ⟨wv,rfl,hw,hp5,hp6⟩:=he)|(refine zJ (p:=t.ins[i].q<2147483648) rfl (fun h=>?_) (fun h=>?_))|(refine zL (p:=t.ver≥2) rfl (fun h=>?_) (fun h=>?_))|(refine st_bin (d:=some 20) rfl rfl (and16 hp6) ?_)|(refine st_fixV (d:=some 21) (.int .i64 (t.ins[i].q%65536)) rfl (congrArg (fun n=>some (Value.int .i64 n)) (IntWalk.i64_in _ (by omega))) ?_)|(first|refine go1 ?_|refine zg (fun _ _=>?_)|refine zi (fun _ _=>?_)))
 ·exact x_ret rfl ⟨by rw [waitsT,if_pos ⟨‹t.ins[i].q<2147483648›,‹t.ver≥2›⟩];rfl,by exact fx⟩
 ·exact x_ret rfl ⟨by rw [waitsT,if_neg (fun hh=>‹¬t.ver≥2› hh.2)];rfl,by exact fx⟩
 ·exact x_ret rfl ⟨by rw [waitsT,if_neg (fun hh=>‹¬t.ins[i].q<2147483648› hh.1)];rfl,by exact fx⟩
theorem lis_spec {M:List Nat} {cs:List Value} {t:Tx} (i:Nat) (hi:i<t.ins.length) (w:World) (ht:txR.rel M w cs t):K.Spec Tryz.prog F.lock_is [.agg cs.toArray,.int .i64 (i:Nat)] w fun r w'=>r=.bool true∧Ext w w':=by
 obtain ⟨iv,ov,rfl,h1,h2,h3,h4⟩:=ht
 refine s_lock_is rfl ?_
 unfold k_lock_is
 refine oy ?_
 repeat' (first|(refine zD rfl rfl (fun bp wp xp ap (rp:Row wp ⟨bp,0,none⟩ (txCs t iv ov)) hp0=>?_))|(refine zG (d:=some 11) (E:=inR) (M:=M) (l:=t.ins) rfl (SlR.ext h1 (by exact fx)) ?_)|(refine st_fixV (d:=some 6) (.bool true) rfl (congrArg (fun b=>some (Value.bool b)) (decide_eq_true (by omega))) ?_)|(refine st_fixV (d:=some 12) (.bool true) rfl (congrArg (fun b=>some (Value.bool b)) (decide_eq_true (by omega))) ?_)|(first|refine go1 ?_|refine zg (fun _ _=>?_)|refine zi (fun _ _=>?_)))
 exact x_ret rfl ⟨rfl,by exact fx⟩
set_option maxHeartbeats 2000000 in
theorem open_spec {M:List Nat} {cs:List Value} {t:Tx} (s:ByteArray) (hm:s.size≤1000000) (i:Nat) (hi:i<t.ins.length) (hs:t.ins.length≤1000) (hz:∀z∈t.ins[i].wit,z.size≤1000000) (w:World) (ht:txR.rel M w cs t):K.Spec Tryz.prog F.lock_Open [.string s,.agg cs.toArray,.int .i64 (i:Nat)] w fun r w'=>r=.int .i64 (openE s t t.ins[i])∧Ext w w':=by
 have ht0:=ht
 obtain ⟨iv,ov,rfl,h1,h2,h3,h4⟩:=ht
 refine s_lock_Open rfl ?_
 unfold k_lock_Open
 refine oy ?_
 repeat (first|(refine zD rfl rfl (fun bp wp xp ap (rp:Row wp ⟨bp,0,none⟩ (txCs t iv ov)) hp0=>?_))|(refine zC (d:=some 11) rfl (lis_spec (M:=M) (t:=t) (cs:=txCs t iv ov) i hi _ (R.ext ht0 (by exact fx))) ?_;rintro _ w2 ⟨rfl,x2⟩)|(refine st_elemR (d:=some 18) (E:=inR) (M:=M) rfl rfl (n:=i) (l:=t.ins) (SlR.ext h1 (by exact fx)) rfl hi (fun ad cs r4 he=>?_);obtain ⟨wv,rfl,hw,hp5,hp6⟩:=he)|(refine zC (d:=some 21) rfl (chosen_spec s hm _ (SlR.toE (F:=strE) (ag:=false) (SlR.ext hw (by exact fx))) hz) ?_;rintro _ w5 ⟨b,rfl,hb,hcb,x5⟩)|(refine zE (d':=7) (fun _=>rfl) rfl rfl rfl (fun b7 w7 x7 a7 (r7:Row w7 ⟨b7,0,none⟩ [.int .u16 (b.tag:Nat),.int .u16 (b.delay:Nat),.int .u32 (b.height:Nat)]) hb7=>?_))|(first|refine go1 ?_|refine zg (fun _ _=>?_)|refine zi (fun _ _=>?_)))
 have hwb:=waits_bound (t:=t) hp6
 have hd:=hb.delay
 have hh9:=hb.height
 have xw7:Unit→Ext w w7:=fun _=>by exact fx
 have h17:=h1.ext (xw7 ())
 have ht7:=R.ext ht0 (xw7 ())
 have rp7:Row w7 ⟨bp,0,none⟩ (txCs t iv ov):=rp.ext (by exact fx)
 clear xp x2 x5 x7 hw h1 rp r4
 cases hc:chosenB s t.ins[i].wit with
 |none=>
  have e:openE s t t.ins[i]=9:=by unfold openE;rw [hc]
  rw [e]
  repeat' (first|(first|refine go1 ?_|refine zg (fun _ _=>?_)|refine zi (fun _ _=>?_)))
  exact x_ret rfl ⟨rfl,xw7 ()⟩
 |some c=>
  obtain rfl:=hcb c hc
  have e:openE s t t.ins[i]=if waitsT t t.ins[i]<(b.delay:Int) then 10 else if b.height>0∧(t.lock<(b.height:Int)∨t.ins[i].q=4294967295) then 10 else 0:=by unfold openE;rw [hc]
  repeat' (first|(refine c_false (x:=.tmp 24) rfl ?_)|(refine zg (fun w8 x8=>?_))|(refine st_both ?_ ?_)|(refine zC (d:=some 30) rfl (waits_spec (M:=M) (t:=t) (cs:=txCs t iv ov) i hi hs _ (R.ext ht7 (by exact fx))) ?_;rintro _ w9 ⟨rfl,x9⟩)|(refine st_fixV (d:=some 33) (.int .i64 (b.delay:Nat)) rfl (congrArg (fun n=>some (Value.int .i64 n)) (IntWalk.i64_in _ (by omega))) ?_)|(refine zL (p:=waitsT t t.ins[i]<(b.delay:Int)) rfl (fun h=>?_) (fun h=>?_))|(refine zJ (t:=39) (p:=((b.height:Nat):Int)>0) rfl (fun h=>?_) (fun h=>?_))|(refine zJ (t:=45) (p:=t.lock<((b.height:Nat):Int)) rfl (fun h=>?_) (fun h=>?_))|(refine st_elemR (d:=some 49) (E:=inR) (M:=M) rfl rfl (n:=i) (l:=t.ins) (SlR.ext h17 (by exact fx)) rfl hi (fun ad cs r4 he=>?_);obtain ⟨wv,rfl, -, -, -⟩:=he)|(refine zL (p:=t.ins[i].q=4294967295) rfl (fun h=>?_) (fun h=>?_))|(first|refine go1 ?_|refine zg (fun _ _=>?_)|refine zi (fun _ _=>?_)))
  all_goals
   rw [e]
   first
    |(rw [if_pos (by assumption)];exact x_ret rfl ⟨rfl,Ext.trans (xw7 ()) (by exact fx)⟩)
    |(rw [if_neg (by assumption),if_pos ⟨by omega,.inl (by assumption)⟩];exact x_ret rfl ⟨rfl,Ext.trans (xw7 ()) (by exact fx)⟩)
    |(rw [if_neg (by assumption),if_pos ⟨by omega,.inr (by assumption)⟩];exact x_ret rfl ⟨rfl,Ext.trans (xw7 ()) (by exact fx)⟩)
    |(rw [if_neg (by assumption),if_neg (fun hh=>by omega)];exact x_ret rfl ⟨rfl,Ext.trans (xw7 ()) (by exact fx)⟩)
    |trace_state
theorem height_spec (n:Int) (w:World):K.Spec Tryz.prog F.lock_height [.int .i64 n] w fun r w'=>r=.bool (heightB n)∧Ext w w':=by
 refine s_lock_height rfl ?_
 unfold k_lock_height
 refine oy ?_
 repeat' (first|(refine zJ (p:=n≥0) rfl (fun h=>?_) (fun h=>?_))|(first|refine go1 ?_|refine zg (fun _ _=>?_)|refine zi (fun _ _=>?_)))
 ·exact x_ret rfl ⟨congrArg Value.bool (by unfold heightB;simp;omega),Ext.refl _⟩
 ·exact x_ret rfl ⟨congrArg Value.bool (by unfold heightB;symm;exact decide_eq_false (by omega)),Ext.refl _⟩
theorem ripe1_hb:hasBody Tryz.prog F.lock_Ripe_1=true:=by kernel_rfl
theorem ripe1_spec (x:TIn) (wv:Value) (w:World) (hw:wv.oneCell'=true):K.Spec Tryz.prog F.lock_Ripe_1 [.agg (inCs x wv).toArray] w fun r w'=>r=.bool (!decide (x.q=4294967295))∧Ext w w':=by
 refine s_lock_Ripe_1 rfl ?_
 unfold k_lock_Ripe_1
 refine oy ?_
 repeat' (first|(first|refine go1 ?_|refine zg (fun _ _=>?_)|refine zi (fun _ _=>?_))|(refine zD rfl rfl (fun bp wp xp ap (rp:Row wp ⟨bp,0,none⟩ (inCs x wv)) hp0=>?_)))
 exact x_ret rfl ⟨rfl,by exact fx⟩
set_option maxHeartbeats 2000000 in
theorem ripe_spec {M:List Nat} {cs:List Value} {t:Tx} (i:Nat) (hi:i<t.ins.length) (hs:t.ins.length≤1000) (c bl:Int) (w:World) (ht:txR.rel M w cs t):K.Spec Tryz.prog F.lock_Ripe [.agg cs.toArray,.int .i64 (i:Nat),.int .i64 c,.int .i64 bl] w fun r w'=>r=.bool (ripeB t t.ins[i] c bl)∧Ext w w':=by
 have ht0:=ht
 obtain ⟨iv,ov,rfl,h1,h2,h3,h4⟩:=ht
 have hq:is32 t.ins[i].q:=by
  obtain ⟨css,hsl,hall,_⟩:=h1
  obtain ⟨_,_,_,_,hq⟩:=All2.get hall i (by rw [hall.length];exact hi) hi
  exact hq
 have hwb:=waits_bound (t:=t) hq
 have h42:=h4.2
 have h41:=h4.1
 have tl:∀w1,Ext w w1→Tells F.lock_Ripe_1 [] inR (fun cs=>.agg cs.toArray) M w1 t.ins (fun x=>!decide (x.q=4294967295)):=fun w1 x1 y hy w' cs x2 hc=>by
  obtain ⟨wv,rfl,hw,_⟩:=hc
  exact ripe1_spec y wv w' hw.one
 have hany:(!t.ins.any fun x=>!decide (x.q=4294967295))=t.ins.all fun x=>decide (x.q=4294967295):=by
  rw [List.all_eq_not_any_not]
 have fail1:heightB c=false→ripeB t t.ins[i] c bl=false:=fun e=>by unfold ripeB;rw [e];rfl
 have fail2:heightB bl=false→ripeB t t.ins[i] c bl=false:=fun e=>by unfold ripeB;rw [e];simp
 have fail3:¬c+waitsT t t.ins[i]≤bl→ripeB t t.ins[i] c bl=false:=fun e=>by unfold ripeB;rw [decide_eq_false e];simp
 have good:heightB c=true→heightB bl=true→c+waitsT t t.ins[i]≤bl→ripeB t t.ins[i] c bl=(decide (t.lock<bl)||t.ins.all fun y=>decide (y.q=4294967295)):=fun e1 e2 e3=>by unfold ripeB;rw [e1,e2,decide_eq_true e3];rfl
 cases hc:heightB c with
 |false=>
  rw [fail1 hc]
  refine s_lock_Ripe rfl ?_
  unfold k_lock_Ripe
  refine oy ?_
  repeat' (first|(refine zD rfl rfl (fun bp wp xp ap (rp:Row wp ⟨bp,0,none⟩ (txCs t iv ov)) hp0=>?_))|(refine zC (d:=some 11) rfl (lis_spec (M:=M) (t:=t) (cs:=txCs t iv ov) i hi _ (R.ext ht0 (by exact fx))) ?_;rintro _ w2 ⟨rfl,x2⟩)|(refine zC (d:=some 15) rfl (height_spec c _) ?_;rintro _ w3 ⟨rfl,x3⟩;rw [hc])|(first|refine go1 ?_|refine zg (fun _ _=>?_)|refine zi (fun _ _=>?_)))
  exact x_ret rfl ⟨rfl,by exact fx⟩
 |true=>
  have hc2:0≤c∧c≤1000000:=of_decide_eq_true hc
  cases hh:heightB bl with
  |false=>
   rw [fail2 hh]
   refine s_lock_Ripe rfl ?_
   unfold k_lock_Ripe
   refine oy ?_
   repeat' (first|(refine zD rfl rfl (fun bp wp xp ap (rp:Row wp ⟨bp,0,none⟩ (txCs t iv ov)) hp0=>?_))|(refine zC (d:=some 11) rfl (lis_spec (M:=M) (t:=t) (cs:=txCs t iv ov) i hi _ (R.ext ht0 (by exact fx))) ?_;rintro _ w2 ⟨rfl,x2⟩)|(refine zC (d:=some 15) rfl (height_spec c _) ?_;rintro _ w3 ⟨rfl,x3⟩;rw [hc])|(refine zC (d:=some 20) rfl (height_spec bl _) ?_;rintro _ w4 ⟨rfl,x4⟩;rw [hh])|(first|refine go1 ?_|refine zg (fun _ _=>?_)|refine zi (fun _ _=>?_)))
   exact x_ret rfl ⟨rfl,by exact fx⟩
  |true=>
   have hh2:0≤bl∧bl≤1000000:=of_decide_eq_true hh
   refine s_lock_Ripe rfl ?_
   unfold k_lock_Ripe
   refine oy ?_
   repeat' (first|(refine zD rfl rfl (fun bp wp xp ap (rp:Row wp ⟨bp,0,none⟩ (txCs t iv ov)) hp0=>?_))|(refine zC (d:=some 11) rfl (lis_spec (M:=M) (t:=t) (cs:=txCs t iv ov) i hi _ (R.ext ht0 (by exact fx))) ?_;rintro _ w2 ⟨rfl,x2⟩)|(refine zC (d:=some 15) rfl (height_spec c _) ?_;rintro _ w3 ⟨rfl,x3⟩;rw [hc])|(refine zC (d:=some 20) rfl (height_spec bl _) ?_;rintro _ w4 ⟨rfl,x4⟩;rw [hh])|(refine zC (d:=some 28) rfl (waits_spec (M:=M) (t:=t) (cs:=txCs t iv ov) i hi hs _ (R.ext ht0 (by exact fx))) ?_;rintro _ w5 ⟨rfl,x5⟩)|(refine zL (p:=bl<c+waitsT t t.ins[i]) rfl (fun h=>?_) (fun h=>?_))|(refine st_fixV (d:=some 34) (.int .i64 t.lock) rfl (congrArg (fun n=>some (Value.int .i64 n)) (IntWalk.i64_in _ (by omega))) ?_)|(refine zJ (t:=37) (p:=t.lock<bl) rfl (fun h=>?_) (fun h=>?_))|(refine zC (d:=some 40) rfl (idxIn_any (l:=t.ins) (M:=M) (g:=F.lock_Ripe_1) (capl:= []) (p:=fun x=>!decide (x.q=4294967295)) _ ripe1_hb (SlR.ext h1 (by exact fx)) (by omega) (tl _ (by exact fx))) ?_;rintro _ w6 ⟨rfl,x6⟩)|(first|refine go1 ?_|refine zg (fun _ _=>?_)|refine zi (fun _ _=>?_)))
   ·rw [fail3 (by omega)]
    exact x_ret rfl ⟨rfl,by exact fx⟩
   ·rw [good hc hh (by omega),decide_eq_true (by assumption)]
    exact x_ret rfl ⟨rfl,by exact fx⟩
   ·rw [good hc hh (by omega),decide_eq_false (by assumption)]
    exact x_ret rfl ⟨congrArg Value.bool hany,by exact fx⟩
end Go.Proofs.YtbidkcjendncaaaGreat
end
