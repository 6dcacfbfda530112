/- Contracts: the document's dust. Contracts: the document's fee that is asked; entries without some. Contracts: what opens a lock, and when, by the document. -/
import Derived.Test.YtfebcajheojodaaGreatDoorDc34
import Derived.Test.YtfebcajheojodaaGreatDoorDc36
set_option linter.unusedVariables false
set_option linter.unusedSimpArgs false
section
namespace Go.Proofs.YtfebcajheojodaaGreatDoor
open Go Go.K
attribute [local irreducible] regK codeK retK KOp.wp K.Spec u32 leS vnS str zero32 checkT idT sizeT
abbrev outCs (y:TOut):List Value:= [.int .i64 y.v,.string y.s]
theorem size9_spec (y:TOut) (hy:y.s.size≤1000000000) (w:World):K.Spec Tryz.prog F.kedgeref09_Size [.agg (outCs y).toArray] w fun r w'=>r=.tuple #[.int .i64 (if y.s.size≤40 then ((outSz y:Nat):Int) else 0),.int .i64 (if y.s.size≤40 then 0 else 20)]∧Ext w w':=by
 have hvs:=vnS_size y.s.size
 refine s_kedgeref09_Size rfl ?_
 unfold k_kedgeref09_Size
 refine oy ?_
 by_cases h40:y.s.size≤40
 ·rw [if_pos h40,if_pos h40]
  repeat (first|(refine zD (d:=some 1) (cs:=outCs y) rfl rfl (fun b1 w1 x1 a1 (r1:Row w1 ⟨b1,0,none⟩ (outCs y)) hb1=>?_))|(refine st_fixV (d:=some 8) (.bool false) rfl (congrArg (fun b=>some (Value.bool b)) (decide_eq_false (by omega))) ?_)|(refine st_fixV (d:=some 12) (.int .u64 ((y.s.size:Nat):Int)) rfl (congrArg (fun n=>some (Value.int .u64 n)) (u64_in (by omega))) ?_)|(first|refine go1 ?_|refine zg (fun _ _=>?_)|refine zi (fun _ _=>?_)))
  refine zC (d:=some 13) rfl (rvput_spec y.s.size (by omega) _) ?_
  rintro _ w2 ⟨rfl,x2⟩
  have r2:=Row.ext x2 r1
  have e:((8:Int)+((vnS y.s.size).size:Nat))+(y.s.size:Nat)=((outSz y:Nat):Int):=by unfold outSz;omega
  repeat (first|refine go1 ?_|refine zg (fun _ _=>?_)|refine zi (fun _ _=>?_))
  rw [←e]
  exact x_ret rfl ⟨rfl,x1.trans x2⟩
 ·rw [if_neg h40,if_neg h40]
  repeat (first|(refine zD (d:=some 1) (cs:=outCs y) rfl rfl (fun b1 w1 x1 a1 (r1:Row w1 ⟨b1,0,none⟩ (outCs y)) hb1=>?_))|(refine st_fixV (d:=some 8) (.bool true) rfl (congrArg (fun b=>some (Value.bool b)) (decide_eq_true (by omega))) ?_)|(first|refine go1 ?_|refine zg (fun _ _=>?_)|refine zi (fun _ _=>?_)))
  exact x_ret rfl ⟨rfl,x1⟩
def leastI (y:TOut):Int:=if y.s.size≤40 then (((3000*(outSz y+67)+999) / 1000:Nat):Int) else 0
theorem least9_spec (y:TOut) (hy:y.s.size≤1000000000) (w:World):K.Spec Tryz.prog F.kedgeref09_Least [.agg (outCs y).toArray] w fun r w'=>r=.tuple #[.int .i64 (leastI y),.int .i64 (if y.s.size≤40 then 0 else 20)]∧Ext w w':=by
 have hvs:=vnS_size y.s.size
 unfold leastI
 refine s_kedgeref09_Least rfl ?_
 unfold k_kedgeref09_Least
 refine oy ?_
 repeat (first|(refine zD (d:=some 1) (cs:=outCs y) rfl rfl (fun b1 w1 x1 a1 (r1:Row w1 ⟨b1,0,none⟩ (outCs y)) hb1=>?_))|(first|refine go1 ?_|refine zg (fun _ _=>?_)|refine zi (fun _ _=>?_)))
 refine zC (d:=some 10) rfl (size9_spec y hy _) ?_
 rintro _ w2 ⟨rfl,x2⟩
 by_cases h40:y.s.size≤40
 ·rw [if_pos h40,if_pos h40,if_pos h40]
  have hsz:outSz y≤100:=by unfold outSz;omega
  have e:((outSz y:Nat):Int)+67=((outSz y+67:Nat):Int):=by omega
  repeat (first|refine go1 ?_|refine zg (fun _ _=>?_)|refine zi (fun _ _=>?_))
  rw [e]
  refine zC (d:=some 19) rfl (rf01_spec 3000 (outSz y+67) (by decide) (by omega) _) ?_
  rintro _ w3 ⟨rfl,x3⟩
  repeat (first|refine go1 ?_|refine zg (fun _ _=>?_)|refine zi (fun _ _=>?_))
  exact x_ret rfl ⟨rfl,x1.trans (x2.trans x3)⟩
 ·rw [if_neg h40,if_neg h40,if_neg h40]
  repeat (first|refine go1 ?_|refine zg (fun _ _=>?_)|refine zi (fun _ _=>?_))
  exact x_ret rfl ⟨rfl,x1.trans x2⟩
theorem dust_least (y:TOut):dustB y=(decide (y.s.size≤40)&&decide (y.v<leastI y)):=by
 unfold dustB leastI
 by_cases h:y.s.size≤40
 ·rw [if_pos h]
  have:(y.s.size:Int)≤40:=by omega
  simp [h,this]
 ·have:¬(y.s.size:Int)≤40:=by omega
  simp [h,this]
set_option maxHeartbeats 1000000 in
theorem first9_spec {M:List Nat} {cs:List Value} {t:Tx} (w:World) (ht:txR.rel M w cs t) (hs:t.Sm) (ho:∀y∈t.outs,y.s.size≤1000000000):K.Spec Tryz.prog F.kedgeref09_First [.agg cs.toArray] w fun r w'=>r=.int .i64 (dustI t)∧Ext w w':=by
 have hon:=hs.outs
 obtain ⟨iv,ov,rfl,h1,h2,h3,h4⟩:=ht
 refine s_kedgeref09_First rfl ?_
 unfold k_kedgeref09_First
 refine oy ?_
 repeat (first|(refine zD (d:=some 1) (cs:=txCs t iv ov) rfl rfl (fun b1 w1 x1 a1 (r1:Row w1 ⟨b1,0,none⟩ (txCs t iv ov)) hb1=>?_))|(first|refine go1 ?_|refine zg (fun _ _=>?_)|refine zi (fun _ _=>?_)))
 refine c_loopV (fun (i:Nat) w'=>Ext w1 w'∧i≤t.outs.length∧∀j (h:j<t.outs.length),j<i→dustB t.outs[j]=false) (fun i=> [(1,.pointer (some ⟨b1,0,none⟩)),(3,.int .i64 (i:Nat))]) (fun i=>t.outs.length - i) 0 ⟨rfl,rfl,trivial⟩ ⟨Ext.refl _,by simp,fun j _ h=>absurd h (by omega)⟩ ?_
 rintro i ρ w2 ⟨x2,hi,hd⟩
 have r2:=Row.ext x2 r1
 have h2':=h2.ext (x1.trans x2)
 repeat (first|(refine zG (d:=some 9) (E:=outR) (M:=M) (l:=t.outs) rfl h2' ?_)|(first|refine go1 ?_|refine zg (fun _ _=>?_)|refine zi (fun _ _=>?_)))
 refine zL (x:=.tmp 10) (p:=((i:Nat):Int)<((t.outs.length:Nat):Int)) rfl (fun h5=>?_) (fun h5=>?_)
 ·have hil:i<t.outs.length:=by omega
  obtain ⟨y,hy⟩:∃y,y=t.outs[i]:=⟨_,rfl⟩
  have hoy:=ho _ (List.getElem_mem hil)
  rw [←hy] at hoy
  have hdy:=dust_least y
  repeat (first|(refine st_elemR (d:=some 17) (E:=outR) (M:=M) rfl rfl (n:=i) (l:=t.outs) h2' rfl hil (fun ad cs r3 he=>?_);rw [←hy] at he;obtain ⟨rfl,hv⟩:=id he)|(first|refine go1 ?_|refine zg (fun _ _=>?_)|refine zi (fun _ _=>?_)))
  refine zC (d:=some 19) rfl (least9_spec y hoy _) ?_
  rintro _ w3 ⟨rfl,x3⟩
  have r4:=Row.ext x3 r2
  have h3':=h2'.ext x3
  by_cases h40:y.s.size≤40
  ·rw [if_pos h40]
   by_cases hlt:y.v<leastI y
   ·repeat (first|(refine st_elemR (d:=some 28) (E:=outR) (M:=M) rfl rfl (n:=i) (l:=t.outs) h3' rfl hil (fun ad5 cs5 r5 he5=>?_);rw [←hy] at he5;obtain ⟨rfl,hv5⟩:=id he5)|(refine st_fixV (d:=some 32) (.bool true) rfl (congrArg (fun b=>some (Value.bool b)) (decide_eq_true hlt)) ?_)|(first|refine go1 ?_|refine zg (fun _ _=>?_)|refine zi (fun _ _=>?_)))
    have e:dustI t=(i:Nat):=idxOf_hit hil (by rw [←hy,hdy];simp [h40,hlt]) (fun j hj=>hd j (by omega) hj)
    rw [e]
    exact x_ret rfl ⟨rfl,x1.trans (x2.trans x3)⟩
   ·repeat (first|(refine st_elemR (d:=some 28) (E:=outR) (M:=M) rfl rfl (n:=i) (l:=t.outs) h3' rfl hil (fun ad5 cs5 r5 he5=>?_);rw [←hy] at he5;obtain ⟨rfl,hv5⟩:=id he5)|(refine st_fixV (d:=some 32) (.bool false) rfl (congrArg (fun b=>some (Value.bool b)) (decide_eq_false hlt)) ?_)|(first|refine go1 ?_|refine zg (fun _ _=>?_)|refine zi (fun _ _=>?_)))
    refine ⟨i+1,⟨rfl,rfl,trivial⟩,⟨x2.trans x3,by omega,fun j h hj=>?_⟩,by omega⟩
    rcases Nat.lt_or_ge j i with h6|h6
    ·exact hd j h h6
    ·obtain rfl:j=i:=by omega
     rw [←hy,hdy];simp [hlt]
  ·rw [if_neg h40]
   repeat (first|refine go1 ?_|refine zg (fun _ _=>?_)|refine zi (fun _ _=>?_))
   refine ⟨i+1,⟨rfl,rfl,trivial⟩,⟨x2.trans x3,by omega,fun j h hj=>?_⟩,by omega⟩
   rcases Nat.lt_or_ge j i with h6|h6
   ·exact hd j h h6
   ·obtain rfl:j=i:=by omega
    rw [←hy,hdy];simp [h40]
 ·have e:dustI t= -1:=idxOf_miss (fun j h=>hd j h (by omega))
  rw [e]
  repeat (first|refine go1 ?_|refine zg (fun _ _=>?_)|refine zi (fun _ _=>?_))
  exact x_ret rfl ⟨rfl,x1.trans x2⟩
end Go.Proofs.YtfebcajheojodaaGreatDoor
end
section
namespace Go.K
open Go Go.Proofs.YtfebcajheojodaaGreatDoor
theorem left_take:∀{l:List Ent} {m:List Bool} {i:Nat} (hm:l.length=m.length) (h:i<l.length),leftL (l.take (i+1)) (m.take (i+1))=if m[i] then leftL (l.take i) (m.take i) else leftL (l.take i) (m.take i)++ [l[i]]
 | [],_,_,_,h=>absurd h (by simp)
 |x::l, [],_,hm,_=>absurd hm (by simp)
 |x::l,b::m,0,_,_=>by
  cases b<;>simp [leftL]
 |x::l,b::m,i+1,hm,h=>by
  have ih:=left_take (l:=l) (m:=m) (i:=i) (by simpa using hm) (by simpa using h)
  simp only [List.take_succ_cons,List.getElem_cons_succ]
  cases b
  ·simp only [leftL,Bool.false_eq_true,if_false]
   rw [ih]
   split<;>simp
  ·simp only [leftL,if_true]
   exact ih
theorem left_len:∀(l:List Ent) (m:List Bool),(leftL l m).length≤l.length:=fun l m=>(leftL_sub l m).length_le
end Go.K
namespace Go.Proofs.YtfebcajheojodaaGreatDoor
open Go Go.K
attribute [local irreducible] regK codeK retK KOp.wp K.Spec u32 leS vnS str zero32 checkT idT sizeT
theorem asked17_spec (rate:Int) (S:Nat) (hS:S≤1000000) (w:World):K.Spec Tryz.prog F.kedgeref17_Asked [.int .i64 rate,.int .i64 (S:Nat)] w fun r w'=>r=.int .i64 (askedF rate S)∧Ext w w':=by
 obtain ⟨R,hR,hR2,e⟩:∃R:Nat,((R:Nat):Int)=min (max rate 1000) 100000000∧R≤100000000∧askedF rate S=(((R*S+999) / 1000:Nat):Int):=⟨(min (max rate 1000) 100000000).toNat,by omega,by omega,rfl⟩
 rw [e]
 refine s_kedgeref17_Asked rfl ?_
 unfold k_kedgeref17_Asked
 refine oy ?_
 repeat (first|refine go1 ?_|refine zg (fun _ _=>?_)|refine zi (fun _ _=>?_))
 refine zL (x:=.tmp 10) (p:=rate<1000) rfl (fun h1=>?_) (fun h1=>?_)
 ·repeat (first|(refine st_fixV (d:=some 12) (.bool false) rfl (congrArg (fun b=>some (Value.bool b)) (decide_eq_false (by omega))) ?_)|(first|refine go1 ?_|refine zg (fun _ _=>?_)|refine zi (fun _ _=>?_)))
  rw [show (1000:Int)=(R:Nat) by omega]
  refine zC (d:=some 16) rfl (rf01_spec R S hR2 hS _) ?_
  rintro _ w1 ⟨rfl,x1⟩
  repeat (first|refine go1 ?_|refine zg (fun _ _=>?_)|refine zi (fun _ _=>?_))
  exact x_ret rfl ⟨rfl,x1⟩
 ·repeat (first|refine go1 ?_|refine zg (fun _ _=>?_)|refine zi (fun _ _=>?_))
  refine zL (x:=.tmp 12) (p:=rate>100000000) rfl (fun h2=>?_) (fun h2=>?_)
  ·repeat (first|refine go1 ?_|refine zg (fun _ _=>?_)|refine zi (fun _ _=>?_))
   rw [show (100000000:Int)=(R:Nat) by omega]
   refine zC (d:=some 16) rfl (rf01_spec R S hR2 hS _) ?_
   rintro _ w1 ⟨rfl,x1⟩
   repeat (first|refine go1 ?_|refine zg (fun _ _=>?_)|refine zi (fun _ _=>?_))
   exact x_ret rfl ⟨rfl,x1⟩
  ·repeat (first|refine go1 ?_|refine zg (fun _ _=>?_)|refine zi (fun _ _=>?_))
   rw [show rate=(R:Nat) by omega]
   refine zC (d:=some 16) rfl (rf01_spec R S hR2 hS _) ?_
   rintro _ w1 ⟨rfl,x1⟩
   repeat (first|refine go1 ?_|refine zg (fun _ _=>?_)|refine zi (fun _ _=>?_))
   exact x_ret rfl ⟨rfl,x1⟩
set_option maxHeartbeats 1000000 in
theorem without17_spec {M:List Nat} {v u:Value} {l:List Ent} {m:List Bool} (w:World) (hl:SlR entR M w v l) (hm:SlE boolE w u m) (hlm:l.length=m.length) (hn:l.length≤100000):K.Spec Tryz.prog F.kedgeref17_Without [v,u] w fun r w'=>OwnR entR T.api_Entry w.heap.size M w' r (leftL l m)∧Ext w w':=by
 refine s_kedgeref17_Without rfl ?_
 unfold k_kedgeref17_Without
 refine oy ?_
 repeat (first|refine go1 ?_|refine zg (fun _ _=>?_)|refine zi (fun _ _=>?_))
 refine c_loopV (fun (p:Nat × Value) w'=>Ext w w'∧p.1≤l.length∧OwnR entR T.api_Entry w.heap.size M w' p.2 (leftL (l.take p.1) (m.take p.1))) (fun p=> [(0,v),(1,u),(5,p.2),(6,.int .i64 (p.1:Nat))]) (fun p=>l.length - p.1) (0,.slice none 0 0) ⟨rfl,rfl,rfl,rfl,trivial⟩ ⟨Ext.refl _,by simp,by simpa [leftL] using OwnR.nil _ _ _ _⟩ ?_
 rintro ⟨i,vo⟩ ρ w3 ⟨x3,hi,ho⟩
 simp only at hi ho
 dsimp only
 repeat (first|(refine zG (d:=some 9) (E:=entR) (M:=M) (l:=l) rfl (hl.ext x3) ?_)|(first|refine go1 ?_|refine zg (fun _ _=>?_)|refine zi (fun _ _=>?_)))
 refine zL (x:=.tmp 10) (p:=((i:Nat):Int)<((l.length:Nat):Int)) rfl (fun h5=>?_) (fun h5=>?_)
 ·have hil:i<l.length:=by omega
  have him:i<m.length:=by omega
  have hlt:=left_take hlm hil
  have hll:=left_len (l.take i) (m.take i)
  have htk:(l.take i).length≤l.length:=by rw [List.length_take];omega
  repeat (first|(refine st_elemE (d:=some 15) (E:=boolE) rfl rfl (n:=i) (l:=m) (hm.ext x3) rfl him (fun ad8 r8=>?_))|(first|refine go1 ?_|refine zg (fun _ _=>?_)|refine zi (fun _ _=>?_)))
  cases hb:m[i] with
  |true=>
   rw [hb,if_pos rfl] at hlt
   rw [hb] at*
   repeat (first|refine go1 ?_|refine zg (fun _ _=>?_)|refine zi (fun _ _=>?_))
   exact ⟨(i+1,vo),⟨rfl,rfl,rfl,rfl,trivial⟩,⟨x3,by simp only;omega,by rw [hlt];exact ho⟩,by simp only;omega⟩
  |false=>
   rw [hb,if_neg (by decide)] at hlt
   rw [hb] at*
   repeat (first|(refine st_elemR (d:=some 21) (E:=entR) (M:=blkOf vo++M) rfl rfl (n:=i) (l:=l) (hl.step x3 (by simp) (mem_app ho.base)) rfl hil (fun ad cs r4 he=>?_);obtain ⟨iv,ov,rfl,g1,g2,g3⟩:=he)|(refine zI (d:=some 23) rfl (fun b w5 x5 a5 hb5=>?_))|(refine st_append1 (E:=entR) (M:=M) (v:=vo) (cs:=entCs l[i] iv ov) (a:=l[i]) rfl rfl (ho.ext x5) (Nat.le_trans x3.size x5.size) rfl rfl a5 ⟨iv,ov,rfl,g1.ext x5,g2.ext x5,g3⟩ (by omega) (fun v6 w6 ho6 c6 hb6=>?_))|(first|refine go1 ?_|refine zg (fun _ _=>?_)|refine zi (fun _ _=>?_)))
   exact ⟨(i+1,v6),⟨rfl,rfl,rfl,rfl,trivial⟩,⟨((x3.trans x5).chg c6).mono (fun b hb=>.inr (ho.base b hb)),by simp only;omega,by rw [hlt];exact ho6⟩,by simp only;omega⟩
 ·rw [List.take_of_length_le (by omega),List.take_of_length_le (by omega)] at ho
  repeat (first|refine go1 ?_|refine zg (fun _ _=>?_)|refine zi (fun _ _=>?_))
  exact x_ret rfl ⟨ho,x3⟩
end Go.Proofs.YtfebcajheojodaaGreatDoor
end
section
namespace Go.Proofs.YtfebcajheojodaaGreatDoor
open Go Go.K
attribute [local irreducible] regK codeK retK KOp.wp K.Spec u32 leS vnS str zero32 numAt byteAt lockL signL brsL chosenB
theorem rem16 {q:Int} (h:is32 q):binVal .rem (.int .u32 q) (.int .u32 65536)=some (.int .u32 (q%65536)):=by
 obtain ⟨n,rfl⟩:∃n:Nat,q=(n:Nat):=⟨q.toNat,by have:=h.1;omega⟩
 have hne:((65536:Nat):Int)≠0:=by omega
 show binVal .rem (.int .u32 (n:Nat)) (.int .u32 ((65536:Nat):Int))=_
 simp only [binVal,isShift,Bool.false_eq_true,if_false,if_true,intBin]
 rw [tm,if_neg hne]
 exact congrArg (fun x=>some (Value.int .u32 x)) (by omega)
theorem waits8_spec {M:List Nat} {cs:List Value} {t:Tx} (i:Nat) (hi:i<t.ins.length) (w:World) (ht:txR.rel M w cs t):K.Spec Tryz.prog F.kedgeref08_Waits [.agg cs.toArray,.int .i64 (i:Nat)] w fun r w'=>r=.int .i64 (waitsT t t.ins[i])∧Ext w w':=by
 obtain ⟨iv,ov,rfl,h1,h2,h3,h4⟩:=ht
 refine s_kedgeref08_Waits rfl ?_
 unfold k_kedgeref08_Waits
 refine oy ?_
 repeat' (first|(refine zD rfl rfl (fun bp wp xp ap (rp:Row wp ⟨bp,0,none⟩ (txCs t iv ov)) hp0=>?_))|(refine st_elemR (d:=some 9) (E:=inR) (M:=M) rfl rfl (n:=i) (l:=t.ins) (SlR.ext h1 (by exact fx)) rfl hi (fun ad cs r4 he=>?_);obtain ⟨wv,rfl,hw,hp5,hp6⟩:=he)|(refine zJ (t:=14) (p:=t.ins[i].q≥2147483648) rfl (fun h=>?_) (fun h=>?_))|(refine zL (x:=.tmp 18) (p:=t.ver<2) rfl (fun h=>?_) (fun h=>?_))|(refine st_bin (d:=some 20) rfl rfl (rem16 hp6) ?_)|(refine st_fixV (d:=some 21) (.int .i64 (t.ins[i].q%65536)) rfl (congrArg (fun n=>some (Value.int .i64 n)) (IntWalk.i64_in _ (by omega))) ?_)|(first|refine go1 ?_|refine zg (fun _ _=>?_)|refine zi (fun _ _=>?_)))
 ·exact x_ret rfl ⟨by rw [waitsT,if_neg (fun hh=>by omega)];rfl,by exact fx⟩
 ·exact x_ret rfl ⟨by rw [waitsT,if_neg (fun hh=>by omega)];rfl,by exact fx⟩
 ·exact x_ret rfl ⟨by rw [waitsT,if_pos ⟨by omega,by omega⟩];rfl,by exact fx⟩
theorem chosen_none {s:ByteArray} {wit:List ByteArray} (h:signL wit=none):chosenB s wit=none:=by unfold chosenB;rw [h];rfl
theorem chosen_out {s:ByteArray} {wit:List ByteArray} {p:Nat × Nat} (h:signL wit=some p) (hp:(lockL s).length≤p.1):chosenB s wit=none:=by
 unfold chosenB
 rw [h,Option.bind_some,List.getElem?_eq_none hp];rfl
theorem chosen_in {s:ByteArray} {wit:List ByteArray} {p:Nat × Nat} (h:signL wit=some p) (hp:p.1<(lockL s).length):chosenB s wit=if (lockL s)[p.1].tag=0∨(lockL s)[p.1].tag=p.2 then some (lockL s)[p.1] else none:=by
 unfold chosenB
 rw [h,Option.bind_some,List.getElem?_eq_getElem hp];rfl
theorem lockL_few (s:ByteArray):(lockL s).length≤3:=by
 unfold lockL
 split
 ·rename_i h
  simp only [Bool.and_eq_true] at h
  have:=h.1
  unfold lockForm at this
  simp only [Bool.and_eq_true,Bool.or_eq_true,decide_eq_true_eq] at this
  unfold brsL lockN
  rw [List.length_map,List.length_range];omega
 ·simp
attribute [local irreducible] sgV
set_option maxHeartbeats 2000000 in
theorem open8_spec {M:List Nat} {cs:List Value} {t:Tx} (s:ByteArray) (hm:s.size≤1000000) (i:Nat) (hi:i<t.ins.length) (hs:t.ins.length≤1000) (hz:∀z∈t.ins[i].wit,z.size≤1000000) (w:World) (ht:txR.rel M w cs t):K.Spec Tryz.prog F.kedgeref08_Open [.string s,.agg cs.toArray,.int .i64 (i:Nat)] w fun r w'=>r=.int .i64 (openE s t t.ins[i])∧Ext w w':=by
 have ht0:=ht
 obtain ⟨iv,ov,rfl,h1,h2,h3,h4⟩:=ht
 have none9:chosenB s t.ins[i].wit=none→openE s t t.ins[i]=9:=fun e=>by unfold openE;rw [e]
 have hfew:=lockL_few s
 refine s_kedgeref08_Open rfl ?_
 unfold k_kedgeref08_Open
 refine oy ?_
 repeat' (first|(refine zD rfl rfl (fun bp wp xp ap (rp:Row wp ⟨bp,0,none⟩ (txCs t iv ov)) hp0=>?_))|(refine zG (d:=some 18) (E:=inR) (M:=M) (l:=t.ins) rfl (SlR.ext h1 (by exact fx)) ?_)|(refine zC (d:=some 22) rfl (g8_spec s hm _) ?_;rintro v7 w2 ⟨hv7,hb7,x2⟩)|(refine st_elemR (d:=some 27) (E:=inR) (M:=M) rfl rfl (n:=i) (l:=t.ins) (SlR.ext h1 (by exact fx)) rfl hi (fun ad cs r4 he=>?_);obtain ⟨wv,rfl,hw,hp5,hp6⟩:=he)|(refine st_fixV (d:=some 13) (.bool false) rfl (congrArg (fun b=>some (Value.bool b)) (decide_eq_false (by omega))) ?_)|(refine st_fixV (d:=some 19) (.bool false) rfl (congrArg (fun b=>some (Value.bool b)) (decide_eq_false (by omega))) ?_)|(refine zL (x:=.tmp 20) rfl (fun h=>absurd h (by omega)) (fun _=>?_))|(refine zz (x:=.tmp 20) rfl ?_)|(first|refine go1 ?_|refine zg (fun _ _=>?_)|refine zi (fun _ _=>?_)))
 refine zC (d:=some 30) rfl (s8_spec _ (SlR.toE (F:=strE) (ag:=false) (SlR.ext hw (by exact fx))) hz) ?_
 rintro _ w5 ⟨rfl,x5⟩
 cases hsg:signL t.ins[i].wit with
 |none=>
  rw [show sgV t.ins[i].wit=.tuple #[.int .i64 (-1),.int .i64 0] by rw [show sgV t.ins[i].wit=(match signL t.ins[i].wit with|none=>.tuple #[.int .i64 (-1),.int .i64 0]|some p=>.tuple #[.int .i64 (p.1:Nat),.int .i64 (p.2:Nat)]) by unfold sgV;rfl,hsg],none9 (chosen_none hsg)]
  repeat' (first|refine go1 ?_|refine zg (fun _ _=>?_)|refine zi (fun _ _=>?_))
  exact x_ret rfl ⟨rfl,by exact fx⟩
 |some p=>
  rw [show sgV t.ins[i].wit=.tuple #[.int .i64 (p.1:Nat),.int .i64 (p.2:Nat)] by rw [show sgV t.ins[i].wit=(match signL t.ins[i].wit with|none=>.tuple #[.int .i64 (-1),.int .i64 0]|some p=>.tuple #[.int .i64 (p.1:Nat),.int .i64 (p.2:Nat)]) by unfold sgV;rfl,hsg]]
  by_cases hp:p.1<(lockL s).length
  ·have hch:=chosen_in hsg hp
   have hok:=lockL_ok (List.getElem_mem hp)
   obtain ⟨b,hb⟩:∃b,b=(lockL s)[p.1]:=⟨_,rfl⟩
   rw [←hb] at hch hok
   have g1:=hok.tag
   have g2:=hok.delay
   have g3:=hok.height
   have hwb:=waits_bound (t:=t) hp6
   clear h2 hfew r4
   by_cases htag:b.tag=0∨b.tag=p.2
   ·rw [if_pos htag] at hch
    have e:openE s t t.ins[i]=if waitsT t t.ins[i]<(b.delay:Int) then 10 else if b.height>0∧(t.lock<(b.height:Int)∨t.ins[i].q=4294967295) then 10 else 0:=by unfold openE;rw [hch]
    repeat (first|(refine st_len (d:=some 38) rfl (SlE.ext (w:=w2) (by exact fx) hv7) ?_)|(refine st_elemE (d:=some 43) (E:=brE) rfl rfl (n:=p.1) (l:=lockL s) (SlE.ext (w:=w2) (by exact fx) hv7) rfl hp (fun ad43 r43=>?_);rw [←hb] at r43)|(refine zE (d':=10) (fun _=>rfl) rfl rfl rfl (fun b7 w7 x7 a7 (r7:Row w7 ⟨b7,0,none⟩ [.int .u16 (b.tag:Nat),.int .u16 (b.delay:Nat),.int .u32 (b.height:Nat)]) hb7=>?_))|(refine st_fixV (d:=some 34) (.bool false) rfl (congrArg (fun b=>some (Value.bool b)) (decide_eq_false (by omega))) ?_)|(refine st_fixV (d:=some 39) (.bool false) rfl (congrArg (fun b=>some (Value.bool b)) (decide_eq_false (by omega))) ?_)|(refine zL (x:=.tmp 40) rfl (fun h=>absurd h (by omega)) (fun _=>?_))|(first|refine go1 ?_|refine zg (fun _ _=>?_)|refine zi (fun _ _=>?_)))
    repeat' (first|(refine st_fixV (d:=some 51) (.int .i64 (b.tag:Nat)) rfl (congrArg (fun n=>some (Value.int .i64 n)) (IntWalk.i64_in _ (by omega))) ?_)|(refine g_splitN (t:=48) (p:=((b.tag:Nat):Int)=0) rfl (fun ht1=>?_) (fun ht1=>?_))|(refine zN (x:=.tmp 54) (p:=((b.tag:Nat):Int)=((p.2:Nat):Int)) rfl (fun ht2=>absurd ht2 (fun q=>by omega)) (fun ht2=>?_))|(refine zC (d:=some 57) rfl (waits8_spec (M:=M) (t:=t) (cs:=txCs t iv ov) i hi _ (R.ext ht0 (by exact fx))) ?_;rintro _ w9 ⟨rfl,x9⟩)|(refine st_fixV (d:=some 61) (.int .i64 (b.delay:Nat)) rfl (congrArg (fun n=>some (Value.int .i64 n)) (IntWalk.i64_in _ (by omega))) ?_)|(refine zL (x:=.tmp 62) (p:=waitsT t t.ins[i]<(b.delay:Int)) rfl (fun h5=>?_) (fun h5=>?_))|(refine zJ (t:=66) (p:=((b.height:Nat):Int)>0) rfl (fun h6=>?_) (fun h6=>?_))|(refine zJ (t:=72) (p:=t.lock<((b.height:Nat):Int)) rfl (fun h7=>?_) (fun h7=>?_))|(refine st_elemR (d:=some 76) (E:=inR) (M:=M) rfl rfl (n:=i) (l:=t.ins) (SlR.ext h1 (by exact fx)) rfl hi (fun ad cs r4 he=>?_);obtain ⟨wv2,rfl, -, -, -⟩:=he)|(refine zL (x:=.tmp 81) (p:=t.ins[i].q=4294967295) rfl (fun h8=>?_) (fun h8=>?_))|(first|refine go1 ?_|refine zg (fun _ _=>?_)|refine zi (fun _ _=>?_)))
    all_goals
     rw [e]
     first
      |(rw [if_pos (by assumption)];exact x_ret rfl ⟨rfl,by exact fx⟩)
      |(rw [if_neg (by assumption),if_pos ⟨by omega,.inl (by assumption)⟩];exact x_ret rfl ⟨rfl,by exact fx⟩)
      |(rw [if_neg (by assumption),if_pos ⟨by omega,.inr (by assumption)⟩];exact x_ret rfl ⟨rfl,by exact fx⟩)
      |(rw [if_neg (by assumption),if_neg (fun hh=>by omega)];exact x_ret rfl ⟨rfl,by exact fx⟩)
   ·rw [if_neg htag] at hch
    rw [none9 hch]
    repeat (first|(refine st_len (d:=some 38) rfl (SlE.ext (w:=w2) (by exact fx) hv7) ?_)|(refine st_elemE (d:=some 43) (E:=brE) rfl rfl (n:=p.1) (l:=lockL s) (SlE.ext (w:=w2) (by exact fx) hv7) rfl hp (fun ad43 r43=>?_);rw [←hb] at r43)|(refine zE (d':=10) (fun _=>rfl) rfl rfl rfl (fun b7 w7 x7 a7 (r7:Row w7 ⟨b7,0,none⟩ [.int .u16 (b.tag:Nat),.int .u16 (b.delay:Nat),.int .u32 (b.height:Nat)]) hb7=>?_))|(refine st_fixV (d:=some 34) (.bool false) rfl (congrArg (fun b=>some (Value.bool b)) (decide_eq_false (by omega))) ?_)|(refine st_fixV (d:=some 39) (.bool false) rfl (congrArg (fun b=>some (Value.bool b)) (decide_eq_false (by omega))) ?_)|(refine zL (x:=.tmp 40) rfl (fun h=>absurd h (by omega)) (fun _=>?_))|(refine st_fixV (d:=some 51) (.int .i64 (b.tag:Nat)) rfl (congrArg (fun n=>some (Value.int .i64 n)) (IntWalk.i64_in _ (by omega))) ?_)|(refine g_splitN (t:=48) (p:=((b.tag:Nat):Int)=0) rfl (fun ht1=>?_) (fun ht1=>absurd ht1 (fun q=>by omega)))|(refine zN (x:=.tmp 54) (p:=((b.tag:Nat):Int)=((p.2:Nat):Int)) rfl (fun ht2=>?_) (fun ht2=>absurd ht2 (fun q=>by omega)))|(first|refine go1 ?_|refine zg (fun _ _=>?_)|refine zi (fun _ _=>?_)))
    exact x_ret rfl ⟨rfl,by exact fx⟩
  ·rw [none9 (chosen_out hsg (by omega))]
   repeat' (first|(refine st_len (d:=some 38) rfl (SlE.ext (w:=w2) (by exact fx) hv7) ?_)|(refine zL (x:=.tmp 40) rfl (fun _=>?_) (fun h=>absurd (by omega) h))|(refine zy (x:=.tmp 40) rfl ?_)|(first|refine go1 ?_|refine zg (fun _ _=>?_)|refine zi (fun _ _=>?_))|(first|refine zJ rfl (fun hh=>absurd hh (by omega)) (fun hh=>?_)|refine zJ rfl (fun hh=>?_) (fun hh=>absurd hh (by omega))|refine zJ rfl (fun hh=>?_) (fun hh=>?_)|refine g_splitN rfl (fun hh=>absurd hh (by omega)) (fun hh=>?_)|refine g_splitN rfl (fun hh=>?_) (fun hh=>absurd hh (by omega))|refine g_splitN rfl (fun hh=>?_) (fun hh=>?_)))
   exact x_ret rfl ⟨rfl,by exact fx⟩
set_option maxHeartbeats 2000000 in
theorem ripe8_spec {M:List Nat} {cs:List Value} {t:Tx} (i:Nat) (hi:i<t.ins.length) (hs:t.ins.length≤1000) (c bl:Int) (w:World) (ht:txR.rel M w cs t):K.Spec Tryz.prog F.kedgeref08_Ripe [.agg cs.toArray,.int .i64 (i:Nat),.int .i64 c,.int .i64 bl] w fun r w'=>r=.bool (ripeB t t.ins[i] c bl)∧Ext w w':=by
 have ht0:=ht
 obtain ⟨iv,ov,rfl,h1,h2,h3,h4⟩:=ht
 have hq:is32 t.ins[i].q:=by
  obtain ⟨css,hsl,hall,_⟩:=h1
  obtain ⟨_,_,_,_,hq⟩:=All2.get hall i (by rw [hall.length];exact hi) hi
  exact hq
 have hwb:=waits_bound (t:=t) hq
 have h42:=h4.2
 have h41:=h4.1
 have fail1:¬(0≤c∧c≤1000000∧0≤bl∧bl≤1000000)→ripeB t t.ins[i] c bl=false:=fun e=>by
  unfold ripeB heightB
  by_cases hc:0≤c∧c≤1000000
  ·rw [decide_eq_false (show ¬(0≤bl∧bl≤1000000) by omega)];simp
  ·rw [decide_eq_false hc];rfl
 have fail3:¬c+waitsT t t.ins[i]≤bl→ripeB t t.ins[i] c bl=false:=fun e=>by unfold ripeB;rw [decide_eq_false e];simp
 have good:0≤c∧c≤1000000∧0≤bl∧bl≤1000000→c+waitsT t t.ins[i]≤bl→ripeB t t.ins[i] c bl=(decide (t.lock<bl)||t.ins.all fun y=>decide (y.q=4294967295)):=fun e1 e3=>by
  unfold ripeB heightB
  rw [decide_eq_true (show 0≤c∧c≤1000000 by omega),decide_eq_true (show 0≤bl∧bl≤1000000 by omega),decide_eq_true e3];rfl
 refine s_kedgeref08_Ripe rfl ?_
 unfold k_kedgeref08_Ripe
 refine oy ?_
 by_cases hr:0≤c∧c≤1000000∧0≤bl∧bl≤1000000
 ·repeat' (first|(refine zD rfl rfl (fun bp wp xp ap (rp:Row wp ⟨bp,0,none⟩ (txCs t iv ov)) hp0=>?_))|(refine zG (d:=some 17) (E:=inR) (M:=M) (l:=t.ins) rfl (SlR.ext h1 (by exact fx)) ?_)|(refine zL (x:=.tmp 35) rfl (fun h=>absurd h (by omega)) (fun _=>?_))|(refine zz (x:=.tmp 35) rfl ?_)|(refine zC (d:=some 38) rfl (waits8_spec (M:=M) (t:=t) (cs:=txCs t iv ov) i hi _ (R.ext ht0 (by exact fx))) ?_;rintro _ w5 ⟨rfl,x5⟩)|(refine zL (x:=.tmp 43) (p:=bl<c+waitsT t t.ins[i]) rfl (fun h7=>?_) (fun h7=>?_))|(refine st_fixV (d:=some 46) (.int .i64 t.lock) rfl (congrArg (fun n=>some (Value.int .i64 n)) (IntWalk.i64_in _ (by omega))) ?_)|(refine zL (x:=.tmp 48) (p:=t.lock<bl) rfl (fun h8=>?_) (fun h8=>?_))|(refine c_loopV (fun (k:Nat) w'=>Ext w5 w'∧k≤t.ins.length∧∀j,j<k→∀hj:j<t.ins.length,t.ins[j].q=4294967295) (fun k=> [(4,.pointer (some ⟨bp,0,none⟩)),(10,.int .i64 (k:Nat))]) (fun k=>t.ins.length - k) 0 ⟨rfl,rfl,trivial⟩ ⟨Ext.refl _,by simp,fun j hj=>absurd hj (by simp)⟩ ?_;rintro k ρ w6 ⟨x6,hk,hall⟩)|(refine zG (d:=some 52) (E:=inR) (M:=M) (l:=t.ins) rfl (SlR.ext h1 (by exact fx)) ?_)|(refine zL (x:=.tmp 53) (p:=((k:Nat):Int)<((t.ins.length:Nat):Int)) rfl (fun h9=>?_) (fun h9=>?_))|(first|refine go1 ?_|refine zg (fun _ _=>?_)|refine zi (fun _ _=>?_))|(first|refine zJ rfl (fun hh=>absurd hh (by omega)) (fun hh=>?_)|refine zJ rfl (fun hh=>?_) (fun hh=>absurd hh (by omega))|refine zJ rfl (fun hh=>?_) (fun hh=>?_)|refine g_splitN rfl (fun hh=>absurd hh (by omega)) (fun hh=>?_)|refine g_splitN rfl (fun hh=>?_) (fun hh=>absurd hh (by omega))|refine g_splitN rfl (fun hh=>?_) (fun hh=>?_)))
  ·rw [fail3 (by omega)];exact x_ret rfl ⟨rfl,by exact fx⟩
  ·rw [good hr (by omega),decide_eq_true h8];exact x_ret rfl ⟨rfl,by exact fx⟩
  ·have hkl:k<t.ins.length:=by omega
   repeat' (first|(refine st_elemR (d:=some 59) (E:=inR) (M:=M) rfl rfl (n:=k) (l:=t.ins) (SlR.ext h1 (by exact fx)) rfl hkl (fun ad cs r4 he=>?_);obtain ⟨wv,rfl, -, -, -⟩:=he)|(refine zN (x:=.tmp 62) (p:=t.ins[k].q=4294967295) rfl (fun h6=>?_) (fun h6=>?_))|(first|refine go1 ?_|refine zg (fun _ _=>?_)|refine zi (fun _ _=>?_)))
   ·have e:(t.ins.all fun y=>decide (y.q=4294967295))=false:=by
     rw [List.all_eq_false]
     exact ⟨_,List.getElem_mem hkl,by simpa using h6⟩
    rw [good hr (by omega),decide_eq_false h8,e];exact x_ret rfl ⟨rfl,by exact fx⟩
   ·refine ⟨k+1,⟨rfl,rfl,trivial⟩,⟨by exact fx,by omega,fun j hj hjl=>?_⟩,by omega⟩
    rcases Nat.lt_or_ge j k with h|h
    ·exact hall j h hjl
    ·have:j=k:=by omega
     subst this;exact h6
  ·have e:(t.ins.all fun y=>decide (y.q=4294967295))=true:=by
    rw [List.all_eq_true]
    intro y hy
    obtain ⟨j,hj,rfl⟩:=List.getElem_of_mem hy
    exact decide_eq_true (hall j (by omega) hj)
   rw [good hr (by omega),e,Bool.or_true]
   repeat' (first|refine go1 ?_|refine zg (fun _ _=>?_)|refine zi (fun _ _=>?_))
   exact x_ret rfl ⟨rfl,by exact fx⟩
 ·rw [fail1 hr]
  repeat' (first|(refine zD rfl rfl (fun bp wp xp ap (rp:Row wp ⟨bp,0,none⟩ (txCs t iv ov)) hp0=>?_))|(refine zG (d:=some 17) (E:=inR) (M:=M) (l:=t.ins) rfl (SlR.ext h1 (by exact fx)) ?_)|(refine zL (x:=.tmp 35) rfl (fun _=>?_) (fun h=>absurd (by omega) h))|(refine zy (x:=.tmp 35) rfl ?_)|(first|refine go1 ?_|refine zg (fun _ _=>?_)|refine zi (fun _ _=>?_))|(first|refine zJ rfl (fun hh=>absurd hh (by omega)) (fun hh=>?_)|refine zJ rfl (fun hh=>?_) (fun hh=>absurd hh (by omega))|refine zJ rfl (fun hh=>?_) (fun hh=>?_)|refine g_splitN rfl (fun hh=>absurd hh (by omega)) (fun hh=>?_)|refine g_splitN rfl (fun hh=>?_) (fun hh=>absurd hh (by omega))|refine g_splitN rfl (fun hh=>?_) (fun hh=>?_)))
  all_goals exact x_ret rfl ⟨rfl,by exact fx⟩
end Go.Proofs.YtfebcajheojodaaGreatDoor
end
