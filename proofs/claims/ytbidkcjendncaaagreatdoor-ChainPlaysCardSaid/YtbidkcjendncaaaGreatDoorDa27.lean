/- Contracts: what opens a lock, and when, by the document. Contracts: the document's taking of a coin. Contracts: the fee of a transaction, by the document. -/
import Derived.Test.YtbidkcjendncaaaGreatDoorDa26
set_option linter.unusedVariables false
set_option linter.unusedSimpArgs false
section
namespace Go.Proofs.YtbidkcjendncaaaGreatDoor
open Go Go.K
attribute [local irreducible] regK codeK retK KOp.wp K.Spec u32 leS vnS str zero32 numAt byteAt lockL signL brsL chosenB
theorem rem16 {q:Int} (h:is32 q):binVal .rem (.int .u32 q) (.int .u32 65536)=some (.int .u32 (q%65536)):=by
 obtain ⟨n,rfl⟩:∃n:Nat,q=(n:Nat):=⟨q.toNat,by have:=h.1;omega⟩
 have hne:((65536:Nat):Int)≠0:=by omega
 show binVal .rem (.int .u32 (n:Nat)) (.int .u32 ((65536:Nat):Int))=_
 simp only [binVal,isShift,Bool.false_eq_true,if_false,if_true,intBin]
 rw [tm,if_neg hne]
 exact congrArg (fun x=>some (Value.int .u32 x)) (by omega)
theorem waits8_spec {M:List Nat} {cs:List Value} {t:Tx} (i:Nat) (hi:i<t.ins.length) (w:World) (ht:txR.rel M w cs t):K.Spec Tryz.prog F.kedgeref08_Waits [.agg cs.toArray,.int .i64 (i:Nat)] w fun r w'=>r=.int .i64 (waitsT t t.ins[i])∧Ext w w':=by
 obtain ⟨iv,ov,rfl,h1,h2,h3,h4⟩:=ht
 refine s_kedgeref08_Waits rfl ?_
 unfold k_kedgeref08_Waits
 refine oy ?_
 repeat' (first|(refine zD rfl rfl (fun bp wp xp ap (rp:Row wp ⟨bp,0,none⟩ (txCs t iv ov)) hp0=>?_))|(refine st_elemR (d:=some 9) (E:=inR) (M:=M) rfl rfl (n:=i) (l:=t.ins) (SlR.ext h1 (by exact fx)) rfl hi (fun ad cs r4 he=>?_);obtain ⟨wv,rfl,hw,hp5,hp6⟩:=he)|(refine zJ (t:=14) (p:=t.ins[i].q≥2147483648) rfl (fun h=>?_) (fun h=>?_))|(refine zL (x:=.tmp 18) (p:=t.ver<2) rfl (fun h=>?_) (fun h=>?_))|(refine st_bin (d:=some 20) rfl rfl (rem16 hp6) ?_)|(refine st_fixV (d:=some 21) (.int .i64 (t.ins[i].q%65536)) rfl (congrArg (fun n=>some (Value.int .i64 n)) (IntWalk.i64_in _ (by omega))) ?_)|(first|refine go1 ?_|refine zg (fun _ _=>?_)|refine zi (fun _ _=>?_)))
 ·exact x_ret rfl ⟨by rw [waitsT,if_neg (fun hh=>by omega)];rfl,by exact fx⟩
 ·exact x_ret rfl ⟨by rw [waitsT,if_neg (fun hh=>by omega)];rfl,by exact fx⟩
 ·exact x_ret rfl ⟨by rw [waitsT,if_pos ⟨by omega,by omega⟩];rfl,by exact fx⟩
theorem chosen_none {s:ByteArray} {wit:List ByteArray} (h:signL wit=none):chosenB s wit=none:=by unfold chosenB;rw [h];rfl
theorem chosen_out {s:ByteArray} {wit:List ByteArray} {p:Nat × Nat} (h:signL wit=some p) (hp:(lockL s).length≤p.1):chosenB s wit=none:=by
 unfold chosenB
 rw [h,Option.bind_some,List.getElem?_eq_none hp];rfl
theorem chosen_in {s:ByteArray} {wit:List ByteArray} {p:Nat × Nat} (h:signL wit=some p) (hp:p.1<(lockL s).length):chosenB s wit=if (lockL s)[p.1].tag=0∨(lockL s)[p.1].tag=p.2 then some (lockL s)[p.1] else none:=by
 unfold chosenB
 rw [h,Option.bind_some,List.getElem?_eq_getElem hp];rfl
theorem lockL_few (s:ByteArray):(lockL s).length≤3:=by
 unfold lockL
 split
 ·rename_i h
  simp only [Bool.and_eq_true] at h
  have:=h.1
  unfold lockForm at this
  simp only [Bool.and_eq_true,Bool.or_eq_true,decide_eq_true_eq] at this
  unfold brsL lockN
  rw [List.length_map,List.length_range];omega
 ·simp
attribute [local irreducible] sgV
set_option maxHeartbeats 2000000 in
theorem open8_spec {M:List Nat} {cs:List Value} {t:Tx} (s:ByteArray) (hm:s.size≤1000000) (i:Nat) (hi:i<t.ins.length) (hs:t.ins.length≤1000) (hz:∀z∈t.ins[i].wit,z.size≤1000000) (w:World) (ht:txR.rel M w cs t):K.Spec Tryz.prog F.kedgeref08_Open [.string s,.agg cs.toArray,.int .i64 (i:Nat)] w fun r w'=>r=.int .i64 (openE s t t.ins[i])∧Ext w w':=by
 have ht0:=ht
 obtain ⟨iv,ov,rfl,h1,h2,h3,h4⟩:=ht
 have none9:chosenB s t.ins[i].wit=none→openE s t t.ins[i]=9:=fun e=>by unfold openE;rw [e]
 have hfew:=lockL_few s
 refine s_kedgeref08_Open rfl ?_
 unfold k_kedgeref08_Open
 refine oy ?_
 repeat' (first|(refine zD rfl rfl (fun bp wp xp ap (rp:Row wp ⟨bp,0,none⟩ (txCs t iv ov)) hp0=>?_))|(refine zG (d:=some 18) (E:=inR) (M:=M) (l:=t.ins) rfl (SlR.ext h1 (by exact fx)) ?_)|(refine zC (d:=some 22) rfl (g8_spec s hm _) ?_;rintro v7 w2 ⟨hv7,hb7,x2⟩)|(refine st_elemR (d:=some 27) (E:=inR) (M:=M) rfl rfl (n:=i) (l:=t.ins) (SlR.ext h1 (by exact fx)) rfl hi (fun ad cs r4 he=>?_);obtain ⟨wv,rfl,hw,hp5,hp6⟩:=he)|(refine st_fixV (d:=some 13) (.bool false) rfl (congrArg (fun b=>some (Value.bool b)) (decide_eq_false (by omega))) ?_)|(refine st_fixV (d:=some 19) (.bool false) rfl (congrArg (fun b=>some (Value.bool b)) (decide_eq_false (by omega))) ?_)|(refine zL (x:=.tmp 20) rfl (fun h=>absurd h (by omega)) (fun _=>?_))|(refine zz (x:=.tmp 20) rfl ?_)|(first|refine go1 ?_|refine zg (fun _ _=>?_)|refine zi (fun _ _=>?_)))
 refine zC (d:=some 30) rfl (s8_spec _ (SlR.toE (F:=strE) (ag:=false) (SlR.ext hw (by exact fx))) hz) ?_
 rintro _ w5 ⟨rfl,x5⟩
 cases hsg:signL t.ins[i].wit with
 |none=>
  rw [show sgV t.ins[i].wit=.tuple #[.int .i64 (-1),.int .i64 0] by rw [show sgV t.ins[i].wit=(match signL t.ins[i].wit with|none=>.tuple #[.int .i64 (-1),.int .i64 0]|some p=>.tuple #[.int .i64 (p.1:Nat),.int .i64 (p.2:Nat)]) by unfold sgV;rfl,hsg],none9 (chosen_none hsg)]
  repeat' (first|refine go1 ?_|refine zg (fun _ _=>?_)|refine zi (fun _ _=>?_))
  exact x_ret rfl ⟨rfl,by exact fx⟩
 |some p=>
  rw [show sgV t.ins[i].wit=.tuple #[.int .i64 (p.1:Nat),.int .i64 (p.2:Nat)] by rw [show sgV t.ins[i].wit=(match signL t.ins[i].wit with|none=>.tuple #[.int .i64 (-1),.int .i64 0]|some p=>.tuple #[.int .i64 (p.1:Nat),.int .i64 (p.2:Nat)]) by unfold sgV;rfl,hsg]]
  by_cases hp:p.1<(lockL s).length
  ·have hch:=chosen_in hsg hp
   have hok:=lockL_ok (List.getElem_mem hp)
   obtain ⟨b,hb⟩:∃b,b=(lockL s)[p.1]:=⟨_,rfl⟩
   rw [←hb] at hch hok
   have g1:=hok.tag
   have g2:=hok.delay
   have g3:=hok.height
   have hwb:=waits_bound (t:=t) hp6
   clear h2 hfew r4
   by_cases htag:b.tag=0∨b.tag=p.2
   ·rw [if_pos htag] at hch
    have e:openE s t t.ins[i]=if waitsT t t.ins[i]<(b.delay:Int) then 10 else if b.height>0∧(t.lock<(b.height:Int)∨t.ins[i].q=4294967295) then 10 else 0:=by unfold openE;rw [hch]
    repeat (first|(refine st_len (d:=some 38) rfl (SlE.ext (w:=w2) (by exact fx) hv7) ?_)|(refine st_elemE (d:=some 43) (E:=brE) rfl rfl (n:=p.1) (l:=lockL s) (SlE.ext (w:=w2) (by exact fx) hv7) rfl hp (fun ad43 r43=>?_);rw [←hb] at r43)|(refine zE (d':=10) (fun _=>rfl) rfl rfl rfl (fun b7 w7 x7 a7 (r7:Row w7 ⟨b7,0,none⟩ [.int .u16 (b.tag:Nat),.int .u16 (b.delay:Nat),.int .u32 (b.height:Nat)]) hb7=>?_))|(refine st_fixV (d:=some 34) (.bool false) rfl (congrArg (fun b=>some (Value.bool b)) (decide_eq_false (by omega))) ?_)|(refine st_fixV (d:=some 39) (.bool false) rfl (congrArg (fun b=>some (Value.bool b)) (decide_eq_false (by omega))) ?_)|(refine zL (x:=.tmp 40) rfl (fun h=>absurd h (by omega)) (fun _=>?_))|(first|refine go1 ?_|refine zg (fun _ _=>?_)|refine zi (fun _ _=>?_)))
    repeat' (first|(refine st_fixV (d:=some 51) (.int .i64 (b.tag:Nat)) rfl (congrArg (fun n=>some (Value.int .i64 n)) (IntWalk.i64_in _ (by omega))) ?_)|(refine g_splitN (t:=48) (p:=((b.tag:Nat):Int)=0) rfl (fun ht1=>?_) (fun ht1=>?_))|(refine zN (x:=.tmp 54) (p:=((b.tag:Nat):Int)=((p.2:Nat):Int)) rfl (fun ht2=>absurd ht2 (fun q=>by omega)) (fun ht2=>?_))|(refine zC (d:=some 57) rfl (waits8_spec (M:=M) (t:=t) (cs:=txCs t iv ov) i hi _ (R.ext ht0 (by exact fx))) ?_;rintro _ w9 ⟨rfl,x9⟩)|(refine st_fixV (d:=some 61) (.int .i64 (b.delay:Nat)) rfl (congrArg (fun n=>some (Value.int .i64 n)) (IntWalk.i64_in _ (by omega))) ?_)|(refine zL (x:=.tmp 62) (p:=waitsT t t.ins[i]<(b.delay:Int)) rfl (fun h5=>?_) (fun h5=>?_))|(refine zJ (t:=66) (p:=((b.height:Nat):Int)>0) rfl (fun h6=>?_) (fun h6=>?_))|(refine zJ (t:=72) (p:=t.lock<((b.height:Nat):Int)) rfl (fun h7=>?_) (fun h7=>?_))|(refine st_elemR (d:=some 76) (E:=inR) (M:=M) rfl rfl (n:=i) (l:=t.ins) (SlR.ext h1 (by exact fx)) rfl hi (fun ad cs r4 he=>?_);obtain ⟨wv2,rfl, -, -, -⟩:=he)|(refine zL (x:=.tmp 81) (p:=t.ins[i].q=4294967295) rfl (fun h8=>?_) (fun h8=>?_))|(first|refine go1 ?_|refine zg (fun _ _=>?_)|refine zi (fun _ _=>?_)))
    all_goals
     rw [e]
     first
      |(rw [if_pos (by assumption)];exact x_ret rfl ⟨rfl,by exact fx⟩)
      |(rw [if_neg (by assumption),if_pos ⟨by omega,.inl (by assumption)⟩];exact x_ret rfl ⟨rfl,by exact fx⟩)
      |(rw [if_neg (by assumption),if_pos ⟨by omega,.inr (by assumption)⟩];exact x_ret rfl ⟨rfl,by exact fx⟩)
      |(rw [if_neg (by assumption),if_neg (fun hh=>by omega)];exact x_ret rfl ⟨rfl,by exact fx⟩)
      |(trace_state;sorry)
   ·rw [if_neg htag] at hch
    rw [none9 hch]
    repeat (first|(refine st_len (d:=some 38) rfl (SlE.ext (w:=w2) (by exact fx) hv7) ?_)|(refine st_elemE (d:=some 43) (E:=brE) rfl rfl (n:=p.1) (l:=lockL s) (SlE.ext (w:=w2) (by exact fx) hv7) rfl hp (fun ad43 r43=>?_);rw [←hb] at r43)|(refine zE (d':=10) (fun _=>rfl) rfl rfl rfl (fun b7 w7 x7 a7 (r7:Row w7 ⟨b7,0,none⟩ [.int .u16 (b.tag:Nat),.int .u16 (b.delay:Nat),.int .u32 (b.height:Nat)]) hb7=>?_))|(refine st_fixV (d:=some 34) (.bool false) rfl (congrArg (fun b=>some (Value.bool b)) (decide_eq_false (by omega))) ?_)|(refine st_fixV (d:=some 39) (.bool false) rfl (congrArg (fun b=>some (Value.bool b)) (decide_eq_false (by omega))) ?_)|(refine zL (x:=.tmp 40) rfl (fun h=>absurd h (by omega)) (fun _=>?_))|(refine st_fixV (d:=some 51) (.int .i64 (b.tag:Nat)) rfl (congrArg (fun n=>some (Value.int .i64 n)) (IntWalk.i64_in _ (by omega))) ?_)|(refine g_splitN (t:=48) (p:=((b.tag:Nat):Int)=0) rfl (fun ht1=>?_) (fun ht1=>absurd ht1 (fun q=>by omega)))|(refine zN (x:=.tmp 54) (p:=((b.tag:Nat):Int)=((p.2:Nat):Int)) rfl (fun ht2=>?_) (fun ht2=>absurd ht2 (fun q=>by omega)))|(first|refine go1 ?_|refine zg (fun _ _=>?_)|refine zi (fun _ _=>?_)))
    exact x_ret rfl ⟨rfl,by exact fx⟩
  ·rw [none9 (chosen_out hsg (by omega))]
   repeat' (first|(refine st_len (d:=some 38) rfl (SlE.ext (w:=w2) (by exact fx) hv7) ?_)|(refine zL (x:=.tmp 40) rfl (fun _=>?_) (fun h=>absurd (by omega) h))|(refine zy (x:=.tmp 40) rfl ?_)|(first|refine go1 ?_|refine zg (fun _ _=>?_)|refine zi (fun _ _=>?_))|(first|refine zJ rfl (fun hh=>absurd hh (by omega)) (fun hh=>?_)|refine zJ rfl (fun hh=>?_) (fun hh=>absurd hh (by omega))|refine zJ rfl (fun hh=>?_) (fun hh=>?_)|refine g_splitN rfl (fun hh=>absurd hh (by omega)) (fun hh=>?_)|refine g_splitN rfl (fun hh=>?_) (fun hh=>absurd hh (by omega))|refine g_splitN rfl (fun hh=>?_) (fun hh=>?_)))
   exact x_ret rfl ⟨rfl,by exact fx⟩
set_option maxHeartbeats 2000000 in
theorem ripe8_spec {M:List Nat} {cs:List Value} {t:Tx} (i:Nat) (hi:i<t.ins.length) (hs:t.ins.length≤1000) (c bl:Int) (w:World) (ht:txR.rel M w cs t):K.Spec Tryz.prog F.kedgeref08_Ripe [.agg cs.toArray,.int .i64 (i:Nat),.int .i64 c,.int .i64 bl] w fun r w'=>r=.bool (ripeB t t.ins[i] c bl)∧Ext w w':=by
 have ht0:=ht
 obtain ⟨iv,ov,rfl,h1,h2,h3,h4⟩:=ht
 have hq:is32 t.ins[i].q:=by
  obtain ⟨css,hsl,hall,_⟩:=h1
  obtain ⟨_,_,_,_,hq⟩:=All2.get hall i (by rw [hall.length];exact hi) hi
  exact hq
 have hwb:=waits_bound (t:=t) hq
 have h42:=h4.2
 have h41:=h4.1
 have fail1:¬(0≤c∧c≤1000000∧0≤bl∧bl≤1000000)→ripeB t t.ins[i] c bl=false:=fun e=>by
  unfold ripeB heightB
  by_cases hc:0≤c∧c≤1000000
  ·rw [decide_eq_false (show ¬(0≤bl∧bl≤1000000) by omega)];simp
  ·rw [decide_eq_false hc];rfl
 have fail3:¬c+waitsT t t.ins[i]≤bl→ripeB t t.ins[i] c bl=false:=fun e=>by unfold ripeB;rw [decide_eq_false e];simp
 have good:0≤c∧c≤1000000∧0≤bl∧bl≤1000000→c+waitsT t t.ins[i]≤bl→ripeB t t.ins[i] c bl=(decide (t.lock<bl)||t.ins.all fun y=>decide (y.q=4294967295)):=fun e1 e3=>by
  unfold ripeB heightB
  rw [decide_eq_true (show 0≤c∧c≤1000000 by omega),decide_eq_true (show 0≤bl∧bl≤1000000 by omega),decide_eq_true e3];rfl
 refine s_kedgeref08_Ripe rfl ?_
 unfold k_kedgeref08_Ripe
 refine oy ?_
 by_cases hr:0≤c∧c≤1000000∧0≤bl∧bl≤1000000
 ·repeat' (first|(refine zD rfl rfl (fun bp wp xp ap (rp:Row wp ⟨bp,0,none⟩ (txCs t iv ov)) hp0=>?_))|(refine zG (d:=some 17) (E:=inR) (M:=M) (l:=t.ins) rfl (SlR.ext h1 (by exact fx)) ?_)|(refine zL (x:=.tmp 35) rfl (fun h=>absurd h (by omega)) (fun _=>?_))|(refine zz (x:=.tmp 35) rfl ?_)|(refine zC (d:=some 38) rfl (waits8_spec (M:=M) (t:=t) (cs:=txCs t iv ov) i hi _ (R.ext ht0 (by exact fx))) ?_;rintro _ w5 ⟨rfl,x5⟩)|(refine zL (x:=.tmp 43) (p:=bl<c+waitsT t t.ins[i]) rfl (fun h7=>?_) (fun h7=>?_))|(refine st_fixV (d:=some 46) (.int .i64 t.lock) rfl (congrArg (fun n=>some (Value.int .i64 n)) (IntWalk.i64_in _ (by omega))) ?_)|(refine zL (x:=.tmp 48) (p:=t.lock<bl) rfl (fun h8=>?_) (fun h8=>?_))|(refine c_loopV (fun (k:Nat) w'=>Ext w5 w'∧k≤t.ins.length∧∀j,j<k→∀hj:j<t.ins.length,t.ins[j].q=4294967295) (fun k=> [(4,.pointer (some ⟨bp,0,none⟩)),(10,.int .i64 (k:Nat))]) (fun k=>t.ins.length - k) 0 ⟨rfl,rfl,trivial⟩ ⟨Ext.refl _,by simp,fun j hj=>absurd hj (by simp)⟩ ?_;rintro k ρ w6 ⟨x6,hk,hall⟩)|(refine zG (d:=some 52) (E:=inR) (M:=M) (l:=t.ins) rfl (SlR.ext h1 (by exact fx)) ?_)|(refine zL (x:=.tmp 53) (p:=((k:Nat):Int)<((t.ins.length:Nat):Int)) rfl (fun h9=>?_) (fun h9=>?_))|(first|refine go1 ?_|refine zg (fun _ _=>?_)|refine zi (fun _ _=>?_))|(first|refine zJ rfl (fun hh=>absurd hh (by omega)) (fun hh=>?_)|refine zJ rfl (fun hh=>?_) (fun hh=>absurd hh (by omega))|refine zJ rfl (fun hh=>?_) (fun hh=>?_)|refine g_splitN rfl (fun hh=>absurd hh (by omega)) (fun hh=>?_)|refine g_splitN rfl (fun hh=>?_) (fun hh=>absurd hh (by omega))|refine g_splitN rfl (fun hh=>?_) (fun hh=>?_)))
  ·rw [fail3 (by omega)];exact x_ret rfl ⟨rfl,by exact fx⟩
  ·rw [good hr (by omega),decide_eq_true h8];exact x_ret rfl ⟨rfl,by exact fx⟩
  ·have hkl:k<t.ins.length:=by omega
   repeat' (first|(refine st_elemR (d:=some 59) (E:=inR) (M:=M) rfl rfl (n:=k) (l:=t.ins) (SlR.ext h1 (by exact fx)) rfl hkl (fun ad cs r4 he=>?_);obtain ⟨wv,rfl, -, -, -⟩:=he)|(refine zN (x:=.tmp 62) (p:=t.ins[k].q=4294967295) rfl (fun h6=>?_) (fun h6=>?_))|(first|refine go1 ?_|refine zg (fun _ _=>?_)|refine zi (fun _ _=>?_)))
   ·have e:(t.ins.all fun y=>decide (y.q=4294967295))=false:=by
     rw [List.all_eq_false]
     exact ⟨_,List.getElem_mem hkl,by simpa using h6⟩
    rw [good hr (by omega),decide_eq_false h8,e];exact x_ret rfl ⟨rfl,by exact fx⟩
   ·refine ⟨k+1,⟨rfl,rfl,trivial⟩,⟨by exact fx,by omega,fun j hj hjl=>?_⟩,by omega⟩
    rcases Nat.lt_or_ge j k with h|h
    ·exact hall j h hjl
    ·have:j=k:=by omega
     subst this;exact h6
  ·have e:(t.ins.all fun y=>decide (y.q=4294967295))=true:=by
    rw [List.all_eq_true]
    intro y hy
    obtain ⟨j,hj,rfl⟩:=List.getElem_of_mem hy
    exact decide_eq_true (hall j (by omega) hj)
   rw [good hr (by omega),e,Bool.or_true]
   repeat' (first|refine go1 ?_|refine zg (fun _ _=>?_)|refine zi (fun _ _=>?_))
   exact x_ret rfl ⟨rfl,by exact fx⟩
 ·rw [fail1 hr]
  repeat' (first|(refine zD rfl rfl (fun bp wp xp ap (rp:Row wp ⟨bp,0,none⟩ (txCs t iv ov)) hp0=>?_))|(refine zG (d:=some 17) (E:=inR) (M:=M) (l:=t.ins) rfl (SlR.ext h1 (by exact fx)) ?_)|(refine zL (x:=.tmp 35) rfl (fun _=>?_) (fun h=>absurd (by omega) h))|(refine zy (x:=.tmp 35) rfl ?_)|(first|refine go1 ?_|refine zg (fun _ _=>?_)|refine zi (fun _ _=>?_))|(first|refine zJ rfl (fun hh=>absurd hh (by omega)) (fun hh=>?_)|refine zJ rfl (fun hh=>?_) (fun hh=>absurd hh (by omega))|refine zJ rfl (fun hh=>?_) (fun hh=>?_)|refine g_splitN rfl (fun hh=>absurd hh (by omega)) (fun hh=>?_)|refine g_splitN rfl (fun hh=>?_) (fun hh=>absurd hh (by omega))|refine g_splitN rfl (fun hh=>?_) (fun hh=>?_)))
  all_goals exact x_ret rfl ⟨rfl,by exact fx⟩
end Go.Proofs.YtbidkcjendncaaaGreatDoor
end
section
namespace Go.Proofs.YtbidkcjendncaaaGreatDoor
open Go Go.K
attribute [local irreducible] regK codeK retK KOp.wp K.Spec
theorem rtake10_spec {v:Value} {l:List En} (p:Pt) (w:World) (hs:SlE entE w v l) (hn:l.length≤100000):K.Spec Tryz.prog F.kedgeref10_Take [v,p.val] w fun v' w'=>
  ∃vl,v'=.tuple #[vl,(refCoin l p).val,.int .i64 (refTakeCode l p)]∧SlE entE w' vl (refTake l p)∧NewOr v vl l (refTake l p) w.heap.size∧Ext w w':=by
 refine s_kedgeref10_Take rfl ?_
 unfold k_kedgeref10_Take
 refine oy ?_
 repeat (first|refine go ?_|refine zg (fun _ _=>?_)|refine zi (fun _ _=>?_))
 refine st_box rfl rfl (fun b1 w1 x1 a1 r1 hb1=>?_)
 repeat (first|refine go ?_|refine zg (fun _ _=>?_)|refine zi (fun _ _=>?_))
 refine st_alloc (fun b2 w2 x2 a2 hb2=>?_)
 repeat (first|refine go ?_|refine zg (fun _ _=>?_)|refine zi (fun _ _=>?_))
 refine st_call rfl (find10_spec p _ ((hs.ext x1).ext x2) hn) ?_
 rintro _ w3 ⟨rfl,x3⟩
 repeat (first|refine go ?_|refine zg (fun _ _=>?_)|refine zi (fun _ _=>?_))
 have hx:=fun (_:Unit)=>(x1.trans x2).trans x3
 have s1:=x1.size
 have s2:=x2.size
 cases hi:refIdx l p with
 |none=>
  have hf:refFind l p= -1:=by rw [refFind,hi]
  rw [hf]
  refine c_true rfl ?_
  repeat (first|refine go ?_|refine zg (fun _ _=>?_)|refine zi (fun _ _=>?_))
  refine st_setN (hx ()) (Nat.le_trans s1 hb2) (a2.ext x3) rfl rfl rfl rfl rfl (fun w5 x5 c5 a5 r5=>?_)
  repeat (first|refine go ?_|refine zg (fun _ _=>?_)|refine zi (fun _ _=>?_))
  refine x_ret (ret3 rv_tmp (rv_cell r5 rfl rfl) rv_tmp) ⟨v,?_,?_,.inl ⟨rfl,by rw [refTake,hi]⟩,x5⟩
  ·rw [refCoin,refTakeCode,hi];rfl
  ·rw [refTake,hi];exact hs.ext x5
 |some n=>
  obtain ⟨hnl,hnp,_⟩:=refIdx_some.1 hi
  have hf:refFind l p=(n:Int):=by rw [refFind,hi]
  rw [hf]
  have hneg:¬(n:Int)<0:=by omega
  refine c_cond (p:=(n:Int)<0) rfl (fun h=>absurd h hneg) (fun _=>?_)
  repeat (first|refine go ?_|refine zg (fun _ _=>?_)|refine zi (fun _ _=>?_))
  have hs3:=hs.ext (hx ())
  refine c_loopV (fun (s:Nat × Value) w'=>Ext w3 w'∧s.1≤l.length∧Own entE T.kedgeref10_Entry w3.heap.size w' s.2 ((l.take s.1).eraseIdx n))
   (fun s=> [(0,v),(5,.pointer (some ⟨b2,0,none⟩)),(7,.int .i64 n),(8,s.2),(9,.int .i64 s.1)]) (fun s=>l.length - s.1) (0,.slice none 0 0) ⟨rfl,rfl,rfl,rfl,rfl,trivial⟩ ⟨Ext.refl _,by simp,by simpa using Own.nil _ _ _⟩ ?_
  rintro ⟨i,vo⟩ ρ w4 ⟨x4,hil,ho⟩
  simp only at hil ho
  repeat (first|refine go ?_|refine zg (fun _ _=>?_)|refine zi (fun _ _=>?_))
  refine st_len rfl (hs3.ext x4) ?_
  repeat (first|refine go ?_|refine zg (fun _ _=>?_)|refine zi (fun _ _=>?_))
  refine c_cond rfl (fun h=>?_) (fun h=>?_)
  ·repeat (first|refine go ?_|refine zg (fun _ _=>?_)|refine zi (fun _ _=>?_))
   have hil':i<l.length:=by omega
   refine c_condN rfl (fun h2=>?_) (fun h2=>?_)
   ·repeat (first|refine go ?_|refine zg (fun _ _=>?_)|refine zi (fun _ _=>?_))
    refine st_elemE rfl rfl (hs3.ext x4) rfl hil' (fun ad r4=>?_)
    repeat (first|refine go ?_|refine zg (fun _ _=>?_)|refine zi (fun _ _=>?_))
    refine st_buildSlice rfl (fun b5 w5 x5 a5 hb5=>?_)
    repeat (first|refine go ?_|refine zg (fun _ _=>?_)|refine zi (fun _ _=>?_))
    have hlen:((l.take i).eraseIdx n).length≤100000:=by
     have:=List.length_eraseIdx_le (l.take i) n
     simp at this;omega
    refine st_append (E:=entE) (v:=vo) (l2:= [l[i]]) rfl (ho.ext x5) (Nat.le_trans x4.size x5.size) rfl rfl (sl_new a5 rfl) rfl rfl (by simp;omega) (fun vo' w6 ho' c6=>?_)
    repeat (first|refine go ?_|refine zg (fun _ _=>?_)|refine zi (fun _ _=>?_))
    refine ⟨(i+1,vo'),⟨rfl,rfl,rfl,rfl,rfl,trivial⟩,⟨((x4.trans x5).chg c6).mono (fun b hb=>.inr (ho.base b (by simpa using hb))),by simp;omega,?_⟩,by simp;omega⟩
    have e:=erase_take (n:=n) hil'
    rw [if_neg (by omega)] at e
    show Own _ _ _ _ _ ((l.take (i+1)).eraseIdx n)
    rw [e];exact ho'
   ·repeat (first|refine go ?_|refine zg (fun _ _=>?_)|refine zi (fun _ _=>?_))
    refine ⟨(i+1,vo),⟨rfl,rfl,rfl,rfl,rfl,trivial⟩,⟨x4,by simp;omega,?_⟩,by simp;omega⟩
    have e:=erase_take (n:=n) hil'
    rw [if_pos (by omega)] at e
    show Own _ _ _ _ _ ((l.take (i+1)).eraseIdx n)
    rw [e];exact ho
  ·repeat (first|refine go ?_|refine zg (fun _ _=>?_)|refine zi (fun _ _=>?_))
   rename_i w5 x5
   refine st_elemE rfl rfl ((hs3.ext x4).ext x5) rfl hnl (fun ad r4=>?_)
   repeat (first|refine go ?_|refine zg (fun _ _=>?_)|refine zi (fun _ _=>?_))
   have hy:=fun (_:Unit)=>((hx ()).trans x4).trans x5
   refine st_setN (hy ()) (Nat.le_trans s1 hb2) (((a2.ext x3).ext x4).ext x5) rfl rfl rfl rfl rfl (fun w6 x6 c6 a6 r6=>?_)
   repeat (first|refine go ?_|refine zg (fun _ _=>?_)|refine zi (fun _ _=>?_))
   have hb3:=a2.lt
   have s3:=x3.size
   refine x_ret (ret3 rv_tmp (rv_cell r6 rfl rfl) rv_tmp) ⟨vo,?_,?_,.inr fun b hb=>?_,x6⟩
   ·rw [refCoin_some hi hnl,refTakeCode_some hi];rfl
   ·rw [refTake,hi]
    have e:(l.take i).eraseIdx n=l.eraseIdx n:=by rw [List.take_of_length_le (by omega)]
    rw [e] at ho
    refine ((ho.ext x5).chg c6 (fun b hb=>?_)).sl
    have:=ho.base b hb
    simp;omega
   ·have:=ho.base b hb;have:=(hx ()).size;omega
end Go.Proofs.YtbidkcjendncaaaGreatDoor
end
section
namespace Go.Proofs.YtbidkcjendncaaaGreatDoor
open Go Go.K
attribute [local irreducible] regK codeK retK KOp.wp K.Spec u32 leS vnS str zero32 numAt byteAt lockL signL brsL chosenB openE ripeB checkT grantB encT idT sizeT inE
theorem find_two (V:List En) (q:Pt):(∃n,∃h:n<V.length,refFind V q=(n:Nat)∧aget V q=some V[n].2)∨(refFind V q= -1∧aget V q=none):=by
 unfold refFind
 cases hi:refIdx V q with
 |none=>exact .inr ⟨rfl,aget_none_idx hi⟩
 |some n=>exact .inl ⟨n,idx_lt hi,rfl,aget_some_idx hi (idx_lt hi)⟩
theorem inE_none {f:Pt→Option Cn} {t:Tx} {h:Int} {x:TIn} (e:f x.p=none):inE f t h x=8:=by unfold inE;rw [e]
theorem inE_open {f:Pt→Option Cn} {t:Tx} {h:Int} {x:TIn} {c:Cn} (e:f x.p=some c) (h1:openE c.s t x≠0):inE f t h x=openE c.s t x:=by unfold inE;rw [e];simp only;rw [if_pos h1]
theorem inE_late {f:Pt→Option Cn} {t:Tx} {h:Int} {x:TIn} {c:Cn} (e:f x.p=some c) (h1:openE c.s t x=0) (h2:ripeB t x c.h h=false):inE f t h x=10:=by unfold inE;rw [e];simp only;rw [if_neg (by rw [h1];decide),h2];rfl
theorem inE_ok {f:Pt→Option Cn} {t:Tx} {h:Int} {x:TIn} {c:Cn} (e:f x.p=some c) (h1:openE c.s t x=0) (h2:ripeB t x c.h h=true):inE f t h x=0:=by unfold inE;rw [e];simp only;rw [if_neg (by rw [h1];decide),h2];rfl
theorem inV_some {f:Pt→Option Cn} {x:TIn} {c:Cn} (e:f x.p=some c):inV f x=c.v:=by unfold inV;rw [e];rfl
def feeV (f:Pt→Option Cn) (t:Tx) (h:Int):Value:=.tuple #[.int .i64 (feeP f t h).1,.int .i64 (feeP f t h).2.1,.int .i64 (feeP f t h).2.2]
set_option maxHeartbeats 4000000 in
theorem rfee_spec {M:List Nat} {v:Value} {cs:List Value} {t:Tx} {l:List En} (h:Int) (w:World) (hv:SlE entE w v l) (ht:txR.rel M w cs t) (hs:t.Sm) (hn:l.length≤100000) (hl:∀e∈l,e.2.s.size≤1000000):
  K.Spec Tryz.prog F.kedgeref11_Fee [v,.agg cs.toArray,.int .i64 h] w fun r w'=>r=feeV (aget l) t h∧Ext w w':=by
 have ht0:=ht
 have hin:=hs.ins
 obtain ⟨iv,ov,rfl,h1,h2,h3,h4⟩:=ht
 by_cases hc:checkT t=0
 ·obtain ⟨hpos,hbase⟩:=radd_grant hc
  have hw:=fun {i} (hi:i<t.ins.length)=>wit_size hc hi
  cases hg:grantB t with
  |true=>
   rw [hg] at hbase
   have e:feeV (aget l) t h=.tuple #[.int .i64 0,.int .i64 4,.int .i64 (-1)]:=by unfold feeV;rw [fee_grant hc hg]
   rw [e]
   refine s_kedgeref11_Fee rfl ?_
   unfold k_kedgeref11_Fee
   refine oy ?_
   repeat' (first|(refine zD rfl rfl (fun bp wp xp ap (rp:Row wp ⟨bp,0,none⟩ (txCs t iv ov)) hp0=>?_))|(refine zC (d:=some 21) rfl (rcheck_spec (M:=M) (t:=t) (cs:=txCs t iv ov) _ (R.ext ht0 (by exact fx)) hs) ?_;rintro _ w2 ⟨rfl,x2⟩;rw [hc])|(refine st_elemR (d:=some 27) (E:=inR) (M:=M) rfl rfl (n:=0) (l:=t.ins) (SlR.ext h1 (by exact fx)) rfl hpos (fun ad cs r4 he=>?_);obtain ⟨wv,rfl,hwv,hp5,hp6⟩:=he)|(refine zC (d:=some 30) rfl (rbase_spec t.ins[0].p _) ?_;rintro _ w3 ⟨rfl,x3⟩;rw [hbase])|(first|refine go1 ?_|refine zg (fun _ _=>?_)|refine zi (fun _ _=>?_)))
   exact x_ret rfl ⟨rfl,by exact fx⟩
  |false=>
   rw [hg] at hbase
   refine s_kedgeref11_Fee rfl ?_
   unfold k_kedgeref11_Fee
   refine oy ?_
   repeat' (first|(refine zD (d:=some 4) rfl rfl (fun bp wp xp ap (rp:Row wp ⟨bp,0,none⟩ (txCs t iv ov)) hp0=>?_))|(refine zC (d:=some 21) rfl (rcheck_spec (M:=M) (t:=t) (cs:=txCs t iv ov) _ (R.ext ht0 (by exact fx)) hs) ?_;rintro _ w2 ⟨rfl,x2⟩;rw [hc])|(refine st_elemR (d:=some 27) (E:=inR) (M:=M) rfl rfl (n:=0) (l:=t.ins) (SlR.ext h1 (by exact fx)) rfl hpos (fun ad cs r4 he=>?_);obtain ⟨wv,rfl,hwv,hp5,hp6⟩:=he)|(refine zC (d:=some 30) rfl (rbase_spec t.ins[0].p _) ?_;rintro _ w3 ⟨rfl,x3⟩;rw [hbase])|(refine c_loopV (fun (p:Nat × Value) w'=>Ext wp w'∧p.1≤t.ins.length∧Own intE T.int wp.heap.size w' p.2 ((t.ins.take p.1).map (inV (aget l)))∧∀j,j<p.1→∀hj:j<t.ins.length,inE (aget l) t h t.ins[j]=0) (fun p=> [(0,v),(2,.int .i64 h),(4,.pointer (some ⟨bp,0,none⟩)),(11,p.2),(12,.int .i64 (p.1:Nat))]) (fun p=>t.ins.length - p.1) (0,.slice none 0 0) ⟨rfl,rfl,rfl,rfl,rfl,trivial⟩ ⟨by exact fx,by simp,Own.nil _ _ _,fun j hj=>absurd hj (by simp)⟩ ?_;rintro ⟨i,v11⟩ ρ w4 ⟨x4,hi,ho,hk⟩;simp only at hi ho hk;dsimp only)|(refine zG (d:=some 35) (E:=inR) (M:=M) (l:=t.ins) rfl (SlR.ext h1 (by exact fx)) ?_)|(refine zL (x:=.tmp 36) (p:=((i:Nat):Int)<((t.ins.length:Nat):Int)) rfl (fun h9=>?_) (fun h9=>?_))|(first|refine go1 ?_|refine zg (fun _ _=>?_)|refine zi (fun _ _=>?_)))
   ·have hil:i<t.ins.length:=by omega
    have hwi:=hw hil
    have stop:inE (aget l) t h t.ins[i]≠0→feeV (aget l) t h=.tuple #[.int .i64 0,.int .i64 (inE (aget l) t h t.ins[i]),.int .i64 (i:Nat)]:=fun he=>by unfold feeV;rw [fee_in hc hg hil hk he]
    have rp4:Row w4 ⟨bp,0,none⟩ (txCs t iv ov):=rp.ext x4
    have x04:Ext w w4:=by exact fx
    have ht4:=R.ext ht0 x04
    have h14:=h1.ext x04
    have hv4:=hv.ext x04
    have x04':Unit→Ext w w4:=fun _=>x04
    have x4':Unit→Ext wp w4:=fun _=>x4
    clear x04 x4 xp x2 x3
    repeat' (first|(refine st_elemR (d:=some 43) (E:=inR) (M:=M) rfl rfl (n:=i) (l:=t.ins) (SlR.ext h14 (by exact fx)) rfl hil (fun ad cs r4 he=>?_);obtain ⟨wv2,rfl,hwv2,hp52,hp62⟩:=he)|(refine zC (d:=some 46) rfl (find10_spec t.ins[i].p _ (SlE.ext (w:=w4) (by exact fx) hv4) hn) ?_;rintro _ w5 ⟨rfl,x5⟩)|(first|refine go1 ?_|refine zg (fun _ _=>?_)|refine zi (fun _ _=>?_)))
    rcases find_two l t.ins[i].p with ⟨n,hnl,e1,e2⟩|⟨e1,e2⟩
    ·rw [e1]
     obtain ⟨c,hcc⟩:∃c,c=l[n].2:=⟨_,rfl⟩
     have hcs:c.s.size≤1000000:=by rw [hcc];exact hl _ (List.getElem_mem hnl)
     rw [←hcc] at e2
     by_cases ho0:openE c.s t t.ins[i]=0
     ·cases hrp:ripeB t t.ins[i] c.h h with
      |false=>
       rw [stop (by rw [inE_late e2 ho0 hrp];decide),inE_late e2 ho0 hrp]
       repeat' (first|(refine zL (x:=.tmp 48) rfl (fun h=>absurd h (by omega)) (fun _=>?_))|(refine st_elemE (d:=some 52) (E:=entE) rfl rfl (n:=n) (l:=l) (SlE.ext (w:=w4) (by exact fx) hv4) rfl hnl (fun ad52 r52=>?_))|(refine zE (d':=14) (fun _=>rfl) rfl rfl (by rfl) (fun b7 w7 x7 a7 (r7:Row w7 ⟨b7,0,none⟩ l[n].2.cs) hb7=>?_);rw [←hcc] at r7)|(refine zC (d:=some 60) rfl (open8_spec (M:=M) (t:=t) (cs:=txCs t iv ov) c.s hcs i hil hin hwi _ (R.ext ht4 (by exact fx))) ?_;rintro _ w8 ⟨rfl,x8⟩;rw [ho0])|(refine zC (d:=some 70) rfl (ripe8_spec (M:=M) (t:=t) (cs:=txCs t iv ov) i hil hin c.h h _ (R.ext ht4 (by exact fx))) ?_;rintro _ w9 ⟨rfl,x9⟩;rw [hrp])|(first|refine go1 ?_|refine zg (fun _ _=>?_)|refine zi (fun _ _=>?_)))
       exact x_ret rfl ⟨rfl,(x04' ()).trans (by exact fx)⟩
      |true=>
       have hok:=inE_ok (h:=h) e2 ho0 hrp
       have hiv:=inV_some e2
       repeat' (first|(refine zL (x:=.tmp 48) rfl (fun h=>absurd h (by omega)) (fun _=>?_))|(refine st_elemE (d:=some 52) (E:=entE) rfl rfl (n:=n) (l:=l) (SlE.ext (w:=w4) (by exact fx) hv4) rfl hnl (fun ad52 r52=>?_))|(refine zE (d':=14) (fun _=>rfl) rfl rfl (by rfl) (fun b7 w7 x7 a7 (r7:Row w7 ⟨b7,0,none⟩ l[n].2.cs) hb7=>?_);rw [←hcc] at r7)|(refine zC (d:=some 60) rfl (open8_spec (M:=M) (t:=t) (cs:=txCs t iv ov) c.s hcs i hil hin hwi _ (R.ext ht4 (by exact fx))) ?_;rintro _ w8 ⟨rfl,x8⟩;rw [ho0])|(refine zC (d:=some 70) rfl (ripe8_spec (M:=M) (t:=t) (cs:=txCs t iv ov) i hil hin c.h h _ (R.ext ht4 (by exact fx))) ?_;rintro _ w9 ⟨rfl,x9⟩;rw [hrp])|(refine zI (d:=some 78) (cs:= [.int .i64 c.v]) rfl (fun b8 w8 x8 a8 hb8=>?_))|(refine st_append (d:=some 79) (E:=intE) (v:=v11) (l2:= [c.v]) rfl (ho.ext (by exact fx)) (Nat.le_trans (Ext.size (x4' ())) (Ext.size (w:=w4) (by exact fx))) rfl rfl (sl_new a8 rfl) rfl rfl (by simp;omega) (fun v10 w10 o10 c10=>?_))|(first|refine go1 ?_|refine zg (fun _ _=>?_)|refine zi (fun _ _=>?_)))
       have x410:=Ext.chg ((x4' ()).trans (show Ext w4 _ by exact fx)) c10
       exact ⟨(i+1,v10),⟨rfl,rfl,rfl,rfl,rfl,trivial⟩,⟨x410.mono (fun b hb=>.inr (ho.base b hb)),by simp only;omega,by simp only;rw [List.take_succ_eq_append_getElem hil,List.map_append,List.map_cons,List.map_nil,hiv];exact o10,fun j hj hjl=>by
        simp only at hj
        by_cases e:j=i
        ·subst e;exact hok
        ·exact hk j (by omega) hjl⟩,by simp only;omega⟩
     ·rw [stop (by rw [inE_open e2 ho0];exact ho0),inE_open e2 ho0]
      repeat' (first|(refine zL (x:=.tmp 48) rfl (fun h=>absurd h (by omega)) (fun _=>?_))|(refine st_elemE (d:=some 52) (E:=entE) rfl rfl (n:=n) (l:=l) (SlE.ext (w:=w4) (by exact fx) hv4) rfl hnl (fun ad52 r52=>?_))|(refine zE (d':=14) (fun _=>rfl) rfl rfl (by rfl) (fun b7 w7 x7 a7 (r7:Row w7 ⟨b7,0,none⟩ l[n].2.cs) hb7=>?_);rw [←hcc] at r7)|(refine zC (d:=some 60) rfl (open8_spec (M:=M) (t:=t) (cs:=txCs t iv ov) c.s hcs i hil hin hwi _ (R.ext ht4 (by exact fx))) ?_;rintro _ w8 ⟨rfl,x8⟩)|(refine zN (x:=.tmp 62) (p:=openE c.s t t.ins[i]=0) rfl (fun _=>?_) (fun h=>absurd h ho0))|(first|refine go1 ?_|refine zg (fun _ _=>?_)|refine zi (fun _ _=>?_)))
      exact x_ret rfl ⟨rfl,(x04' ()).trans (by exact fx)⟩
    ·rw [e1,stop (by rw [inE_none e2];decide),inE_none e2]
     repeat' (first|(first|refine go1 ?_|refine zg (fun _ _=>?_)|refine zi (fun _ _=>?_)))
     exact x_ret rfl ⟨rfl,(x04' ()).trans (by exact fx)⟩
   ·have ei:i=t.ins.length:=by omega
    subst ei
    rw [List.take_length] at ho
    have x04:Ext w w4:=by exact fx
    have ht4:=R.ext ht0 x04
    have rp4:Row w4 ⟨bp,0,none⟩ (txCs t iv ov):=rp.ext x4
    have hfa:=fee_all hc hg fun j hj=>hk j hj hj
    have hlen:((t.ins.map (inV (aget l))).length)≤1000000000000:=by simp;omega
    have x04':Unit→Ext w w4:=fun _=>x04
    clear x04 xp x2 x3 x4
    by_cases hsum:sumE (t.ins.map (inV (aget l)))=0
    ·have hgood:=(goodB_iff _).1 (sumE_good hsum)
     have hgv:=(goodB_iff _).1 (sumE_good (check_sum hc))
     rw [if_neg (by simpa using hsum)] at hfa
     by_cases hv8:sumV (values t)>sumV (t.ins.map (inV (aget l)))
     ·rw [if_pos hv8] at hfa
      rw [show feeV (aget l) t h=.tuple #[.int .i64 0,.int .i64 12,.int .i64 (-1)] by unfold feeV;rw [hfa]]
      repeat' (first|(refine zC (d:=some 82) rfl (rsum_spec (l:=t.ins.map (inV (aget l))) _ (SlE.ext (w:=w4) (by exact fx) ho.sl) hlen) ?_;rintro _ _ ⟨rfl,rfl⟩;rw [hsum])|(refine zC (d:=some 90) rfl (rtotal_spec (M:=M) (t:=t) (cs:=txCs t iv ov) _ (R.ext ht4 (by exact fx)) hs) ?_;rintro _ w5 ⟨rfl,x5⟩)|(refine zL (x:=.tmp 95) (p:=sumV (values t)>sumV (t.ins.map (inV (aget l)))) rfl (fun _=>?_) (fun h=>absurd hv8 h))|(first|refine go1 ?_|refine zg (fun _ _=>?_)|refine zi (fun _ _=>?_)))
      exact x_ret rfl ⟨rfl,(x04' ()).trans (by exact fx)⟩
     ·rw [if_neg hv8] at hfa
      rw [show feeV (aget l) t h=.tuple #[.int .i64 (sumV (t.ins.map (inV (aget l))) - sumV (values t)),.int .i64 0,.int .i64 (-1)] by unfold feeV;rw [hfa]]
      repeat' (first|(refine zC (d:=some 82) rfl (rsum_spec (l:=t.ins.map (inV (aget l))) _ (SlE.ext (w:=w4) (by exact fx) ho.sl) hlen) ?_;rintro _ _ ⟨rfl,rfl⟩;rw [hsum])|(refine zC (d:=some 90) rfl (rtotal_spec (M:=M) (t:=t) (cs:=txCs t iv ov) _ (R.ext ht4 (by exact fx)) hs) ?_;rintro _ w5 ⟨rfl,x5⟩)|(refine zL (x:=.tmp 95) (p:=sumV (values t)>sumV (t.ins.map (inV (aget l)))) rfl (fun h=>absurd h hv8) (fun _=>?_))|(first|refine go1 ?_|refine zg (fun _ _=>?_)|refine zi (fun _ _=>?_)))
      exact x_ret rfl ⟨rfl,(x04' ()).trans (by exact fx)⟩
    ·rw [if_pos hsum] at hfa
     rw [show feeV (aget l) t h=.tuple #[.int .i64 0,.int .i64 (sumE (t.ins.map (inV (aget l)))),.int .i64 (-1)] by unfold feeV;rw [hfa]]
     repeat' (first|(refine zC (d:=some 82) rfl (rsum_spec (l:=t.ins.map (inV (aget l))) _ (SlE.ext (w:=w4) (by exact fx) ho.sl) hlen) ?_;rintro _ _ ⟨rfl,rfl⟩)|(refine zN (x:=.tmp 86) (p:=sumE (t.ins.map (inV (aget l)))=0) rfl (fun _=>?_) (fun h=>absurd h hsum))|(first|refine go1 ?_|refine zg (fun _ _=>?_)|refine zi (fun _ _=>?_)))
     exact x_ret rfl ⟨rfl,(x04' ()).trans (by exact fx)⟩
 ·have e:feeV (aget l) t h=.tuple #[.int .i64 0,.int .i64 (checkT t),.int .i64 (-1)]:=by unfold feeV;rw [fee_bad hc]
  rw [e]
  refine s_kedgeref11_Fee rfl ?_
  unfold k_kedgeref11_Fee
  refine oy ?_
  repeat' (first|(refine zD rfl rfl (fun bp wp xp ap (rp:Row wp ⟨bp,0,none⟩ (txCs t iv ov)) hp0=>?_))|(refine zC (d:=some 21) rfl (rcheck_spec (M:=M) (t:=t) (cs:=txCs t iv ov) _ (R.ext ht0 (by exact fx)) hs) ?_;rintro _ w2 ⟨rfl,x2⟩)|(refine zN (x:=.tmp 23) (p:=checkT t=0) rfl (fun _=>?_) (fun h=>absurd h hc))|(first|refine go1 ?_|refine zg (fun _ _=>?_)|refine zi (fun _ _=>?_)))
  exact x_ret rfl ⟨rfl,by exact fx⟩
end Go.Proofs.YtbidkcjendncaaaGreatDoor
end
