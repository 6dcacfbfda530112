/- Contracts: accepting into no pool; what the document fixes of pools. Contracts: whether a graph has just some entries. The walk of PoolPlays. Transactions that come in, for laws of blocks. The walk of PoolRaw. -/
import Derived.Test.YtfebcajheojodaaGreatDoorDc39
set_option linter.unusedVariables false
set_option linter.unusedSimpArgs false
section
namespace Go.Proofs.YtfebcajheojodaaGreatDoor
open Go Go.K
attribute [local irreducible] regK codeK retK KOp.wp K.Spec u32 leS vnS str zero32 sha2 encT idT sizeT checkT grantB idN stepR workL reachE findI dropG addG aboveL belowL idsOf feeD sizeD cntS metL confL evL inS inB needI needL feeOf needN needE mayE freshP rulesL fitsL feeP dustI numAt byteAt plainP dropAll accE accIds accL askedF makeP coinsP coinsW
theorem slAt' {α:Type} {E:R α} {M:List Nat} {w:World} {b n:Nat} {t:TypeId} {arr:List Value} {l:List α} (css:List (Vec E.k)) (h:At w b (.cells arr.toArray t (0,0))) (e:(vecE E.k E.pos).flat css=arr) (ha:E.all (b::M) w css l) (hb:b∉M) (hn:css.length=n):SlR E M w (.slice (some ⟨b,0,none⟩) n n) l:=by
 subst hn
 have o:OwnR E t 0 M w (.slice (some ⟨b,0,none⟩) css.length css.length) l:=⟨css,.inr ⟨b,css.length, [],rfl,Nat.zero_le _,by rw [e,List.append_nil];exact h,by rw [List.append_nil,Enc.flat_length]⟩,ha⟩
 exact o.sl fun b' hb' h'=>by
  simp [blkOf] at h'
  subst h';exact hb hb'
theorem errR_num {w:World} {e:Value} {c:Int} (h:ErrR w 1 e c (-1)) (hc:c≠0):e=errno c:=by
 rcases h with ⟨-,⟨h1, -⟩|⟨-,h1⟩⟩|⟨-,h1, -⟩
 ·exact absurd h1 hc
 ·exact h1
 ·omega
theorem accept_nil {cs:List Value} {iv ov:Value} {t:Tx} (v:Value) (h rate:Int) (he:cs=txCs t iv ov) (h1:iv.oneCell'=true) (h2:ov.oneCell'=true) (hv:v.oneCell'=true) (w:World):K.Spec Tryz.prog F.pool_Accept [.pointer none,.agg cs.toArray,termV v h rate] w fun r w'=>r=.tuple #[.slice none 0 0,errno 1]∧Ext w w':=by
 subst he
 refine s_pool_Accept rfl ?_
 unfold k_pool_Accept
 refine oy ?_
 repeat' (first|(refine zD (d:=some 4) rfl rfl (fun bt wt xt bt' (rt:Row wt ⟨bt,0,none⟩ (txCs t iv ov)) hbt0=>?_))|(refine zD (d:=some 5) (cs:= [v,.int .i64 h,.int .i64 rate]) rfl rfl (fun bs ws xs bs' (rs:Row ws ⟨bs,0,none⟩ [v,.int .i64 h,.int .i64 rate]) hbs0=>?_))|(refine zC (d:=some 21) rfl (plain_nil (cs:=txCs t iv ov) (t:=t) v h rate rfl h1 h2 hv _) ?_;rintro _ w3 ⟨rfl,x3⟩)|(first|refine go1 ?_|refine zg (fun _ _=>?_)|refine zi (fun _ _=>?_)))
 exact x_ret rfl ⟨rfl,by exact fx⟩
set_option maxHeartbeats 4000000 in
theorem wakes17_spec (w:World):K.Spec Tryz.prog F.kedgelaw17_wakes [] w fun r w'=>r=.bool true∧Ext w w':=by
 refine s_kedgelaw17_wakes rfl ?_
 unfold k_kedgelaw17_wakes
 refine oy ?_
 repeat' (first|(refine zI (d:=some 10) (cs:= [.int .u16 500]) rfl (fun bz wz xz az hbz=>?_))|(first|refine go1 ?_|refine zg (fun _ _=>?_)|refine zi (fun _ _=>?_)))
 refine zC rfl (coins17_spec (vals:= [500]) _ (slAt' (E:=u16R) (M:= []) (l:= [500]) [⟨[.int .u16 500],rfl,by intro v hv;simp at hv;subst hv;rfl⟩] az rfl (.cons ⟨rfl,by decide,by decide⟩ .nil) (by simp) rfl) (by intro a ha;simp at ha;subst ha;decide)) ?_
 rintro vV w2 ⟨hv2,hb2,x2⟩
 rw [coinsW_eq] at hv2
 have x02:Unit→Ext w w2:=fun _=>xz.trans x2
 clear xz x2 az
 repeat' (first|(refine zC (d:=some 13) rfl (set17_spec _ hv2 coinsW_ok (by decide)) ?_;rintro _ w3 ⟨b,mb,rfl,hS3,hb3,hmb3,x3⟩)|(refine zE (d':=2) (fun _=>rfl) rfl rfl rfl (fun bs w4 x4 a4 (r4:Row w4 ⟨bs,0,none⟩ [.iface T.P_coins_Set (.pointer (some ⟨b,0,none⟩)),.int .i64 5,.int .i64 0]) hbs4=>?_))|(first|refine go1 ?_|refine zg (fun _ _=>?_)|refine zi (fun _ _=>?_)))
 refine zC rfl (new_spec _) ?_
 rintro _ w5 ⟨g,M,rfl,G5,x5⟩
 have hV5:ViewR w5 (.iface T.P_coins_Set (.pointer (some ⟨b,0,none⟩))) (aget coinsW):=ViewR.of_set (hS3.ext (x4.trans x5)) (fun e he=>by rw [(coinsW_ok.each e he).2.2.2.2.1];decide)
 have hM5:=G5.lt
 have hB5:=G5.base
 have x25:Unit→Ext w2 w5:=fun _=>x3.trans (x4.trans x5)
 have x35:Unit→Ext w3 w5:=fun _=>x4.trans x5
 have s34:=x4.size
 have s23:=x3.size
 have l4:=a4.lt
 have l5:bs<w5.heap.size:=Nat.lt_of_lt_of_le l4 x5.size
 have r5:Row w5 ⟨bs,0,none⟩ [.iface T.P_coins_Set (.pointer (some ⟨b,0,none⟩)),.int .i64 5,.int .i64 0]:=Row.ext x5 r4
 have hbsM:bs∉M:=fun h=>by have:=hB5 bs h;omega
 clear x3 x4 a4 r4
 clear x5
 have e1:=makeP_sm coinsW zW0
 have hmk:∀(z:PSm) (w':World) (M:List Nat) (b:Nat) (t:TypeId),z.spends= [0]→0≤z.fee∧z.fee≤65535→Ext w2 w'→At w' b (.cells [Value.int .u8 0].toArray t (0,0))→b∉M→(∀b∈M,b<w'.heap.size)→K.Spec Tryz.prog F.kedgeref17_Make [vV,.agg (psmCs z (.slice (some ⟨b,0,none⟩) 1 1)).toArray] w' fun r w''=>∃cs',r=.agg cs'.toArray∧txR.rel M w'' cs' (makeP coinsW z)∧Ext w' w'':=fun z w' M b t hz hf x a hb hM=>
  spec_mono (make17_spec (M:=M) (B:=5242800) w' (SlE.ext x hv2) ⟨_,rfl,by rw [hz];exact SlE.toR (F:=u8E) (SlE.new (E:=u8E) (l:= [0]) a rfl (Nat.le_refl _)) (by intro b' hb' hm;simp [blkOf] at hb';subst hb';exact hb hm),hf⟩ (by have:=coinsW_ok.len;omega) (fun e he=>⟨(coinsW_ok.each e he).2.2.1,by have:=(coinsW_ok.each e he).2.2.2.1;omega⟩) (by decide) (fun e he=>by rw [(coinsW_ok.each e he).2.1];exact is32_0) hM) fun r w'' ⟨cs',h1,h2,h3⟩=>⟨cs',h1,txO.rel h2 hM,h3⟩
 repeat' (first|(refine zg (fun w6 x6=>?_))|(refine st_joinV (b:=.cons ⟨some 24,_,_⟩ _) (fun (p:List Value) w'=>Ext w6 w'∧txR.rel M w' p (makeP coinsW zW0)) (fun p=> [(1,vV),(2,.pointer (some ⟨bs,0,none⟩)),(3,.pointer (some ⟨g,0,none⟩)),(18,.pointer (some ⟨g,0,none⟩)),(22,.agg p.toArray),(23,termV (.iface T.P_coins_Set (.pointer (some ⟨b,0,none⟩))) 5 0)]) ?_ ?_)|(rintro p ρ7 w7 ⟨x67,t7⟩;try dsimp only)|(refine zB ?_ ?_)|(refine zI (d:=some 20) (cs:= [.int .u8 0]) rfl (fun bz wz xz az hbz=>?_))|(refine st_build (d:=some 21) (cs:=psmCs zW0 (.slice (some ⟨bz,0,none⟩) 1 1)) rfl ?_)|(refine zC (d:=some 22) rfl (hmk zW0 _ M bz _ rfl (by decide) ((x25 ()).trans (by exact fx)) (by exact fx) (fun h=>by have:=hM5 bz h;have:=Ext.size (show Ext w5 w6 by exact fx);omega) (fun b hb=>Nat.lt_of_lt_of_le (hM5 b hb) (Ext.size (by exact fx)))) ?_;rintro _ w8 ⟨p,rfl,t8,x8⟩)|(exact ⟨p,⟨rfl,rfl,rfl,rfl,rfl,rfl,trivial⟩,by exact fx,R.ext t8 (by exact fx)⟩)|(first|refine go1 ?_|refine zg (fun _ _=>?_)|refine zi (fun _ _=>?_)))
 have G7:Gr w7 w4.heap.size g M []:=G5.ext (x6.trans x67)
 refine zC (d:=some 24) rfl (accept_spec (M:=M) (N:=M) (l:= []) 5 0 _ G7 (hV5.ext (x6.trans x67)) t7 e1 (Gr.lt G7) (fun _ h=>h) (by simp) (by simp)) ?_
 rintro _ w8 ⟨u1,er1,M1,rfl,hu1,he1,G8,c8,hM8, -⟩
 rw [wk0] at he1
 rw [wk0n.2] at G8
 obtain rfl:=errR_num he1 (by decide)
 have x57:=x6.trans x67
 have s57:=x57.size
 have x28:Unit→Ext w2 w8:=fun _=>(Ext.chg ((x25 ()).trans x57) c8).mono (fun b hb=>.inr (by have:=hB5 b hb;omega))
 have x38:Unit→Ext w3 w8:=fun _=>(Ext.chg ((x35 ()).trans x57) c8).mono (fun b hb=>.inr (by have:=hB5 b hb;omega))
 have r8:Row w8 ⟨bs,0,none⟩ [.iface T.P_coins_Set (.pointer (some ⟨b,0,none⟩)),.int .i64 5,.int .i64 0]:=Row.chg c8 (Row.ext x57 r5) hbsM
 have hbsM1:bs∉M1:=fun h=>by
  rcases hM8 bs h with h5|h5
  ·exact hbsM h5
  ·omega
 have hM8':=G8.lt
 have hB8:=G8.base
 have hV8:ViewR w8 (.iface T.P_coins_Set (.pointer (some ⟨b,0,none⟩))) (aget coinsW):=ViewR.of_set (hS3.ext (x38 ())) (fun e he=>by rw [(coinsW_ok.each e he).2.2.2.2.1];decide)
 clear x6 x67 t7 G7 r5 x57 c8 hV5 G5 hM5 hB5 x25 x35 he1
 have e2:=makeP_sm coinsW zW1
 repeat' (first|(refine zg (fun w9 x9=>?_))|(refine st_joinV (b:=.cons ⟨some 34,_,_⟩ _) (fun (p:List Value) w'=>Ext w9 w'∧txR.rel M1 w' p (makeP coinsW zW1)) (fun p=> [(1,vV),(2,.pointer (some ⟨bs,0,none⟩)),(3,.pointer (some ⟨g,0,none⟩)),(5,errno 11),(28,.pointer (some ⟨g,0,none⟩)),(32,.agg p.toArray),(33,termV (.iface T.P_coins_Set (.pointer (some ⟨b,0,none⟩))) 5 0)]) ?_ ?_)|(rintro p ρ9 w10 ⟨x910,t10⟩;try dsimp only)|(refine zB ?_ ?_)|(refine zI (d:=some 30) (cs:= [.int .u8 0]) rfl (fun bz wz xz az hbz=>?_))|(refine st_build (d:=some 31) (cs:=psmCs zW1 (.slice (some ⟨bz,0,none⟩) 1 1)) rfl ?_)|(refine zC (d:=some 32) rfl (hmk zW1 _ M1 bz _ rfl (by decide) ((x28 ()).trans (by exact fx)) (by exact fx) (fun h=>by have:=hM8' bz h;have:=Ext.size (show Ext w8 w9 by exact fx);omega) (fun b hb=>Nat.lt_of_lt_of_le (hM8' b hb) (Ext.size (by exact fx)))) ?_;rintro _ w8 ⟨p,rfl,t8,x8⟩)|(exact ⟨p,⟨rfl,rfl,rfl,rfl,rfl,rfl,rfl,trivial⟩,by exact fx,R.ext t8 (by exact fx)⟩)|(first|refine go1 ?_|refine zg (fun _ _=>?_)|refine zi (fun _ _=>?_)))
 have G10:Gr w10 w4.heap.size g M1 []:=G8.ext (x9.trans x910)
 refine zC (d:=some 34) rfl (accept_spec (M:=M1) (N:=M1) (l:= []) 5 0 _ G10 (hV8.ext (x9.trans x910)) t10 e2 (Gr.lt G10) (fun _ h=>h) (by simp) (by simp)) ?_
 rintro _ w11 ⟨u2,er2,M2,rfl,hu2,he2,G11,c11,hM11, -⟩
 rw [wk1] at he2
 rw [wk1n.1] at hu2
 rw [wk1n.2] at G11
 obtain ⟨rfl, -⟩:=he2.nil_iff.1 rfl
 have x810:=x9.trans x910
 have s810:=x810.size
 have x211:Unit→Ext w w11:=fun _=>(Ext.chg (((x02 ()).trans (x28 ())).trans x810) c11).mono (fun b hb=>.inr (by have:=hB8 b hb;have:=(x02 ()).size;omega))
 have r11:Row w11 ⟨bs,0,none⟩ [.iface T.P_coins_Set (.pointer (some ⟨b,0,none⟩)),.int .i64 5,.int .i64 0]:=Row.chg c11 (Row.ext x810 r8) hbsM1
 have hM11':=G11.lt
 have hu11:=hu2.sl
 clear x9 x910 t10 G10 r8 x810 c11 hV8 G8 hM8' hB8 x28 x38 he2 hu2 hmk
 repeat' (first|(refine st_build (d:=some 38) (cs:=txCs ⟨0, [], [],0⟩ (.slice none 0 0) (.slice none 0 0)) rfl ?_)|(refine zC (d:=some 40) rfl (accept_nil (t:=⟨0, [], [],0⟩) (.iface T.P_coins_Set (.pointer (some ⟨b,0,none⟩))) 5 0 rfl rfl rfl rfl _) ?_;rintro _ w12 ⟨rfl,x12⟩)|(refine zC (d:=some 45) rfl (errIs_same 11 _) ?_;rintro _ w13 ⟨rfl,rfl⟩)|(refine st_len (d:=some 52) rfl (SlE.ext (w:=w11) (by exact fx) hu11) ?_)|(refine zC (d:=some 57) rfl (all_spec (M:=M2) (l:= [newE (makeP coinsW zW1) 500]) _ (G11.ext (by exact fx)).r (fun b hb=>Nat.lt_of_lt_of_le (hM11' b hb) (Ext.size (by exact fx))) (by simp)) ?_;rintro u14 w14 ⟨o14,x14⟩)|(refine zG (d:=some 58) (E:=entR) (M:= []) (l:= [newE (makeP coinsW zW1) 500]) rfl ((o14.sub (M':= []) (by simp)).sl (by simp)) ?_)|(refine zC (d:=some 63) rfl (all_spec (M:=M2) (l:= [newE (makeP coinsW zW1) 500]) _ (G11.ext (by exact fx)).r (fun b hb=>Nat.lt_of_lt_of_le (hM11' b hb) (Ext.size (by exact fx))) (by simp)) ?_;rintro u15 w15 ⟨o15,x15⟩)|(refine st_elemR (d:=some 64) (E:=entR) (M:= []) rfl rfl (n:=0) (l:= [newE (makeP coinsW zW1) 500]) ((o15.sub (M':= []) (by simp)).sl (by simp)) rfl (by simp) (fun ad cs r6 he=>?_);obtain ⟨iv6,ov6,rfl,g16,g26,g36⟩:=he)|(refine zC (d:=some 72) rfl (errIs_same 1 _) ?_;rintro _ w16 ⟨rfl,rfl⟩)|(first|refine go1 ?_|refine zg (fun _ _=>?_)|refine zi (fun _ _=>?_)))
 exact x_ret rfl ⟨rfl,(x211 ()).trans (by exact fx)⟩
end Go.Proofs.YtfebcajheojodaaGreatDoor
end
section
namespace Go.Proofs.YtfebcajheojodaaGreatDoor
open Go Go.K
attribute [local irreducible] regK codeK retK KOp.wp K.Spec u32 leS vnS str zero32 sha2 encT idT sizeT checkT grantB idN stepR workL reachE findI dropG addG aboveL belowL idsOf
set_option maxHeartbeats 4000000 in
theorem same17_spec {g:Nat} {M N:List Nat} {l:List Ent} {v:Value} (w:World) (hG:GrR w g M l) (hM:∀b∈M,b<w.heap.size) (hv:SlR entR N w v l) (hl:l.length≤1000):K.Spec Tryz.prog F.kedgelaw17_same [.pointer (some ⟨g,0,none⟩),v] w fun r w'=>r=.bool true∧Ext w w':=by
 have hE:=hG.ok
 refine s_kedgelaw17_same rfl ?_
 unfold k_kedgelaw17_same
 refine oy ?_
 repeat' (first|(refine zC (d:=some 9) rfl (all_spec (M:=M) (l:=l) _ (hG.ext (by exact fx)) (fun b hb=>Nat.lt_of_lt_of_le (hM b hb) (Ext.size (by exact fx))) (by omega)) ?_;rintro u1 w1 ⟨o1,x1⟩;have o1:=(o1.sub (M':= []) (by simp)).sl (by simp))|(refine zG (d:=some 11) (E:=entR) (M:= []) (l:=l) rfl (o1.ext (by exact fx)) ?_)|(refine zG (d:=some 13) (E:=entR) (M:=N) (l:=l) rfl (hv.ext (by exact fx)) ?_)|(refine zG (d:=some 16) (E:=entR) (M:= []) (l:=l) rfl (o1.ext (by exact fx)) ?_)|(refine st_fixV (d:=some 14) (.bool false) rfl (congrArg (fun b=>some (Value.bool (!b))) (decide_eq_true rfl)) ?_)|(refine c_loopV (a:=.seq _ (.seq (.cond _ _ _) (.seq (.block 1 _) _))) (fun (i:Nat) w'=>Ext w1 w'∧i≤l.length) (fun i=> [(1,v),(15,u1),(16,.int .i64 (l.length:Nat)),(17,.int .i64 i)]) (fun i=>l.length - i) 0 ⟨rfl,rfl,rfl,rfl,trivial⟩ ⟨Ext.refl _,by simp⟩ ?_;rintro i ρ w2 ⟨x2,hi⟩)|(refine zL (x:=.tmp 18) (p:=((i:Nat):Int)<((l.length:Nat):Int)) rfl (fun h6=>?_) (fun h6=>?_))|(first|refine go1 ?_|refine zg (fun _ _=>?_)|refine zi (fun _ _=>?_)))
 ·have hil:i<l.length:=by omega
  have hsm:=chk_sm (hE _ (List.getElem_mem hil)).check
  have o2:=o1.ext x2
  have v2:=hv.ext (x1.trans x2)
  clear o1
  repeat' (first|(refine st_elemR (d:=some 20) (E:=entR) (M:= []) rfl rfl (n:=i) (l:=l) o2 rfl hil (fun ad cs r3 he=>?_);obtain ⟨iv,ov,rfl,h1,h2,h3⟩:=he;have e1:iv.oneCell'=true:=(by obtain ⟨_,_,rfl⟩:=h1.form;rfl);have e2:ov.oneCell'=true:=(by obtain ⟨_,_,rfl⟩:=h2.form;rfl))|(refine zH (d:=some 7) (fun b7 w7 x7 a7 hb7=>?_))|(refine st_setN (w0:=w2) (n:=7) (vs:=entCs l[i] iv ov) x7 hb7 a7 rfl rfl rfl rfl (by show List.all (entCs _ _ _) _=true;simp [entCs,e1,e2];exact ⟨rfl,rfl,rfl,rfl,rfl⟩) (fun w8 x8 c8 a8 r8=>?_);clear x7 c8)|(refine st_elemR (d:=some 26) (E:=entR) (M:=N) rfl rfl (n:=i) (l:=l) (SlR.ext v2 (by exact fx)) rfl hil (fun ad4 cs4 r4 he=>?_);obtain ⟨iv4,ov4,rfl,h14,h24,h34⟩:=he)|(refine st_fixV (d:=some 29) (.bool false) rfl (congrArg (fun b=>some (Value.bool (!b))) (decide_eq_true rfl)) ?_)|(refine st_elemR (d:=some 35) (E:=entR) (M:=N) rfl rfl (n:=i) (l:=l) (SlR.ext v2 (by exact fx)) rfl hil (fun ad5 cs5 r5 he=>?_);obtain ⟨iv5,ov5,rfl,h15,h25,h35⟩:=he)|(refine st_fixV (d:=some 38) (.bool false) rfl (congrArg (fun b=>some (Value.bool (!b))) (decide_eq_true rfl)) ?_)|(refine st_elemR (d:=some 45) (E:=entR) (M:=N) rfl rfl (n:=i) (l:=l) (SlR.ext v2 (by exact fx)) rfl hil (fun ad6 cs6 r6 he=>?_);obtain ⟨iv6,ov6,rfl,h16,h26,h36⟩:=he)|(refine st_fixV (d:=some 48) (.bool false) rfl (congrArg (fun b=>some (Value.bool (!b))) (decide_eq_true rfl)) ?_)|(refine st_elemR (d:=some 55) (E:=entR) (M:=N) rfl rfl (n:=i) (l:=l) (SlR.ext v2 (by exact fx)) rfl hil (fun ad8 cs8 r8 he=>?_);obtain ⟨iv8,ov8,rfl,h18,h28,h38⟩:=he)|(refine zC (d:=some 58) rfl (same_spec (M:= []) (N:=N) (cs:=txCs l[i].tx iv ov) (ds:=txCs l[i].tx iv8 ov8) (t:=l[i].tx) _ ⟨iv,ov,rfl,h1.ext (by exact fx),h2.ext (by exact fx),h3.1,h3.2.1⟩ ⟨iv8,ov8,rfl,h18.ext (by exact fx),h28.ext (by exact fx),h38.1,h38.2.1⟩ hsm) ?_;rintro _ w9 ⟨rfl,x9⟩)|(first|refine go1 ?_|refine zg (fun _ _=>?_)|refine zi (fun _ _=>?_)))
  exact ⟨i+1,⟨rfl,rfl,rfl,rfl,trivial⟩,⟨by exact fx,by omega⟩,by omega⟩
 ·repeat (first|refine go1 ?_|refine zg (fun _ _=>?_)|refine zi (fun _ _=>?_))
  exact x_ret rfl ⟨rfl,x1.trans x2⟩
end Go.Proofs.YtfebcajheojodaaGreatDoor
end
section
namespace Go.Proofs.YtfebcajheojodaaGreatDoor
open Go Go.K
theorem mem_c8 {M:List Nat} {b:Nat} {w:World} (h:w.heap.size≤b):∀x∈b::M,x∈M∨w.heap.size≤x:=fun x hx=>by
 rcases List.mem_cons.1 hx with rfl|hx
 ·exact .inr h
 ·exact .inl hx
attribute [local irreducible] regK codeK retK KOp.wp K.Spec u32 leS vnS str zero32 sha2 encT idT sizeT checkT grantB idN stepR workL reachE findI dropG addG aboveL belowL idsOf feeD sizeD cntS metL confL evL inS inB needI needL feeOf needN needE mayE freshP rulesL fitsL feeP dustI numAt byteAt plainP dropAll accE accIds accL askedF makeP coinsP coinsW overL monB EtR
abbrev termCs8 (b:Nat) (h rate:Int):List Value:= [.iface T.P_coins_Set (.pointer (some ⟨b,0,none⟩)),.int .i64 h,.int .i64 rate]
set_option maxHeartbeats 8000000 in
set_option maxRecDepth 4000 in
theorem poolPlays_law {v u:Value} {vals:List Int} {sc:List PSm} {y0 y1:Int} (w:World) (hg:EtR w) (hvals:SlR u16R [] w v vals) (hr:∀a∈vals,0≤a∧a≤65535) (hsc:SlR psmR [] w u sc) (hz0:is64 y0) (hz1:is64 y1):
  K.Spec Tryz.prog F.kedgelaw17_PoolPlays [v,u,.agg #[.int .i64 y0,.int .i64 y1]] w fun r w'=>r=.bool true∧Ext w w':=by
 unfold is64 at hz0 hz1
 obtain ⟨n0,hn0⟩:∃n:Nat,max 0 y0=(n:Int):=⟨(max 0 y0).toNat,by omega⟩
 obtain ⟨n1,hn1⟩:∃n:Nat,max 0 y1=(n:Int):=⟨(max 0 y1).toNat,by omega⟩
 have hm0:=Nat.mod_lt n0 (show 0<20 by decide)
 have hm1:=Nat.mod_lt n1 (show 0<20000 by decide)
 refine s_kedgelaw17_PoolPlays rfl ?_
 unfold k_kedgelaw17_PoolPlays
 refine oy ?_
 repeat' (first|(refine zD (d:=some 5) (cs:= [.int .i64 y0,.int .i64 y1]) rfl rfl (fun b5 w1 x1 a5 (r5:Row w1 ⟨b5,0,none⟩ [.int .i64 y0,.int .i64 y1]) hb5=>?_))|(refine zC (d:=some 25) rfl (coins17_spec _ (SlR.ext hvals (by exact fx)) hr) ?_;rintro vV w2 ⟨hv2,hb2,x2⟩)|(refine zC (d:=some 26) rfl (new_spec _) ?_;rintro _ w3 ⟨g,M0,rfl,G3,x3⟩)|(refine zg (fun w4 x4=>?_))|(refine st_max (d:=some 29) (a:=0) (b:=y0) rfl rfl ?_;rw [hn0])|(refine st_rem (d:=some 30) (n:=n0) (m:=20) rfl rfl (by decide) ?_)|(refine st_max (d:=some 34) (a:=0) (b:=y1) rfl rfl ?_;rw [hn1])|(refine st_rem (d:=some 35) (n:=n1) (m:=20000) rfl rfl (by decide) ?_)|(first|refine go1 ?_|refine zg (fun _ _=>?_)|refine zi (fun _ _=>?_)))
 have hc8:CoinsOk (coinsP vals (min vals.length 8)) 8:=(coinsP_ok hr _).more (by omega)
 generalize coinsP vals (min vals.length 8)=V at hv2 hc8
 have x24:Ext w2 w4:=x3.trans x4
 refine zC (d:=some 37) rfl (set17_spec _ (hv2.ext x24) hc8 (by decide)) ?_
 rintro _ w5 ⟨b,mb,rfl,hS5,hb5',hmb5,x5⟩
 obtain ⟨hh,hhh⟩:∃hh:Int,hh=1+((n0%20:Nat):Int):=⟨_,rfl⟩
 obtain ⟨rt,hrt⟩:∃rt:Int,rt=((n1%20000:Nat):Int):=⟨_,rfl⟩
 rw [←hhh,←hrt]
 have x25:Ext w2 w5:=x24.trans x5
 have x02:Ext w w2:=x1.trans x2
 have G5:=G3.ext (x4.trans x5)
 have hM04:∀y∈M0,y<w4.heap.size:=fun y hy=>Nat.lt_of_lt_of_le (G3.lt y hy) x4.size
 have hnb:b∉M0:=fun h=>by have:=hM04 _ h;omega
 have hnmb:mb∉M0:=fun h=>by have:=hM04 _ h;omega
 have s02:=x02.size
 clear x1 x2 x3 x4 x5 a5 r5 G3 hb2 hn0 hn1 hm0 hm1 hhh hrt hM04 hb5 hvals hr
 repeat' (first|(refine zE (d':=12) (fun _=>rfl) rfl rfl rfl (fun bs w6 x6 a6 (r6:Row w6 ⟨bs,0,none⟩ (termCs8 b hh rt)) hbs6=>?_))|(refine zG (d:=some 44) (E:=psmR) (M:= []) (l:=sc) rfl (SlR.ext hsc (by exact fx)) ?_)|(refine st_min (d:=some 45) rfl rfl ?_)|(refine st_takeR (d:=some 46) (E:=psmR) (n:=min sc.length 16) rfl rfl (by omega) hsc (by omega) rfl (fun v' hv'=>?_))|(refine zG (d:=some 47) (E:=psmR) (M:= []) (l:=sc.take (min sc.length 16)) rfl (SlR.ext hv' (by exact fx)) ?_)|(first|refine go1 ?_|refine zg (fun _ _=>?_)|refine zi (fun _ _=>?_)))
 have hSl:(sc.take (min sc.length 16)).length≤16:=by rw [List.length_take];omega
 generalize sc.take (min sc.length 16)=S at*
 have x26:Ext w2 w6:=x25.trans x6
 have G6':=G5.ext x6
 have hS6':=hS5.ext x6
 have l6:=a6.lt
 have hbs0:bs∉M0:=fun h=>by have:=G5.lt _ h;omega
 clear G5 hS5 x25 x6 a6
 refine c_loopV (fun (p:Nat × List Ent × List Nat × Value) w'=>Ext w2 w'∧p.1≤S.length∧p.2.1.length≤p.1∧Gr w' w2.heap.size g p.2.2.1 p.2.1∧SetE T.coins_Set w' b mb V∧b∉p.2.2.1∧mb∉p.2.2.1∧Row w' ⟨bs,0,none⟩ (termCs8 b hh rt)∧bs∉p.2.2.1∧bs<w'.heap.size∧Money V p.2.1 hh (monB p.1)∧SlR entR p.2.2.1 w' p.2.2.2 p.2.1) (fun p=> [(7,vV),(8,.pointer (some ⟨g,0,none⟩)),(9,p.2.2.2),(10,.int .i64 hh),(11,.int .i64 rt),(12,.pointer (some ⟨bs,0,none⟩)),(46,v'),(47,.int .i64 (S.length:Nat)),(48,.int .i64 (p.1:Nat))]) (fun p=>S.length - p.1) (0, [],M0,.slice none 0 0) ⟨rfl,rfl,rfl,rfl,rfl,rfl,rfl,rfl,rfl,trivial⟩ ⟨x26,by simp,by simp,G6',hS6',hnb,hnmb,r6,hbs0,l6,money0 hc8 hh,SlR.nil _ _⟩ ?_
 clear G6' hS6' hnb hnmb r6 hbs0 l6 x26 hbs6
 rintro ⟨i,l,M,mV⟩ ρ w8 ⟨x28,hi,hli,G8,hS8,nb,nmb,r8,nbs,lbs,hMon,hmv⟩
 simp only at hi hli G8 nb nmb nbs hMon hmv
 dsimp only
 repeat (first|refine go1 ?_|refine zg (fun _ _=>?_)|refine zi (fun _ _=>?_))
 refine zL (x:=.tmp 49) (p:=((i:Nat):Int)<((S.length:Nat):Int)) rfl (fun h5=>?_) (fun h5=>?_)
 ·have hil:i<S.length:=by omega
  have hlen:l.length≤1000:=by omega
  have hE8:=G8.ok
  have hnd8:=G8.nodup
  have hM8:=G8.lt
  have hB8:=G8.base
  obtain ⟨hV1,hV2,hV3⟩:=view_ok hc8 (by decide) hE8 hlen hMon
  have hmb:=monB_le (i:=i) (by omega)
  have x08:=x02.trans x28
  repeat (first|refine go1 ?_|refine zg (fun _ _=>?_)|refine zi (fun _ _=>?_))
  refine st_elemR (d:=some 50) (E:=psmR) (M:=M) rfl rfl (n:=i) (l:=S) (SlR.step hv' x08 (by simp) (fun b hb=>.inr (by have:=hB8 b hb;omega))) rfl hil (fun ad cs r9 he=>?_)
  obtain ⟨fv,rfl,q6,q2⟩:=he
  generalize S[i]=z at*
  obtain ⟨t,ht⟩:∃t,t=makeP (overL V l hh) z:=⟨_,rfl⟩
  have hsmt:t.Sm:=by rw [ht];exact makeP_sm _ _
  repeat' (first|(refine zE (d':=14) (fun _=>rfl) rfl rfl (by obtain ⟨_,_,rfl⟩:=q6.form;rfl) (fun b12 w7 x7 a12 (r12:Row w7 ⟨b12,0,none⟩ (psmCs z fv)) hb12=>?_))|(refine zg (fun w9 x9=>?_))|(refine st_joinV (b:=.cons ⟨none,.storeN _ _ _,_⟩ _) (fun (p:Nat × List Value) w'=>Ext w8 w'∧At w' p.1 (.cells zTx.toArray T.api_Tx (0,0))∧w8.heap.size≤p.1∧txR.rel (p.1::M) w' p.2 t) (fun p=> [(7,vV),(8,.pointer (some ⟨g,0,none⟩)),(9,mV),(10,.int .i64 hh),(11,.int .i64 rt),(12,.pointer (some ⟨bs,0,none⟩)),(46,v'),(47,.int .i64 (S.length:Nat)),(48,.int .i64 i),(15,.pointer (some ⟨p.1,0,none⟩)),(57,.agg p.2.toArray)]) ?_ ?_)|(rintro ⟨b13,p⟩ ρ9 w10 ⟨x610,a13,hb13,t10⟩;simp only at a13 hb13 t10;dsimp only)|(refine zB ?_ ?_)|(refine zC (d:=some 55) rfl (over17_spec (M:=M) (V:=V) (l:=l) hh _ (SlE.ext (w:=w2) (x28.trans (by exact fx)) hv2) (hmv.ext (by exact fx)) (by have:=hc8.len;omega) hlen (fun x hx=>ent_outs (hE8 x hx))) ?_;rintro v56 w56 ⟨o56,x56⟩;have o56:=o56.sl)|(refine zH (d:=some 15) (fun b13 w13 x13 a13 hb13=>?_))|(refine zC (d:=some 57) rfl (make17_spec (M:=b13::M) (V:=overL V l hh) (z:=z) (B:=monB i) _ (SlE.ext (w:=w56) (by exact fx) o56) ⟨fv,rfl,q6.step (show Ext w8 _ by exact fx) (by simp) (mem_c8 (Nat.le_trans (Ext.size (show Ext w8 _ by exact fx)) hb13)),q2⟩ hV3 hV1 ⟨hmb.1,by have:=hmb.2;omega⟩ hV2 (fun x hx=>by rcases List.mem_cons.1 hx with rfl|hx;exact Nat.lt_of_lt_of_le a13.lt (Ext.size (by exact fx));exact Nat.lt_of_lt_of_le (hM8 x hx) (Ext.size (by exact fx)))) ?_;rintro _ w58 ⟨p,rfl,tA,x58⟩;have tA:=txO.rel tA (fun x hx=>by rcases List.mem_cons.1 hx with rfl|hx;exact Nat.lt_of_lt_of_le a13.lt (Ext.size (by exact fx));exact Nat.lt_of_lt_of_le (hM8 x hx) (Ext.size (by exact fx)));rw [←ht] at tA)|(refine zC (d:=some 57) rfl (make17_spec (M:=M) (V:=overL V l hh) (z:=z) (B:=monB i) _ (SlE.ext (w:=w56) (by exact fx) o56) ⟨fv,rfl,q6.step (show Ext w8 _ by exact fx) (by simp) (fun _ h=>.inl h),q2⟩ hV3 hV1 ⟨hmb.1,by have:=hmb.2;omega⟩ hV2 (fun x hx=>Nat.lt_of_lt_of_le (hM8 x hx) (Ext.size (by exact fx)))) ?_;rintro _ w58 ⟨p,rfl,tB,x58⟩;have tB:=txO.rel tB (fun x hx=>Nat.lt_of_lt_of_le (hM8 x hx) (Ext.size (by exact fx)));rw [←ht] at tB)|(exact ⟨(b13,p),⟨rfl,rfl,rfl,rfl,rfl,rfl,rfl,rfl,rfl,rfl,rfl,trivial⟩,by exact fx,At.ext (by exact fx) a13,Nat.le_trans (Ext.size (show Ext w8 _ by exact fx)) hb13,R.ext tA (by exact fx)⟩)|(exact ⟨(b13,p),⟨rfl,rfl,rfl,rfl,rfl,rfl,rfl,rfl,rfl,rfl,rfl,trivial⟩,by exact fx,At.ext (by exact fx) a13,Nat.le_trans (Ext.size (show Ext w8 _ by exact fx)) hb13,R.step txR tB (show Ext w58 _ by exact fx) (by simp) (mem_c8 hb13)⟩)|(first|refine go1 ?_|refine zg (fun _ _=>?_)|refine zi (fun _ _=>?_)))
  have t10':=t10
  obtain ⟨iv,ov,rfl,hti,hto,htv⟩:=t10
  refine st_storeN0 (b:=b13) (cur:=zTx) (vs:=txCs t iv ov) rfl rfl rfl (txR.one t10') a13 rfl (fun w11 c11 a11=>?_)
  have s810:=x610.size
  have t11:txR.rel (b13::M) w11 (txCs t iv ov) t:=R.step txR t10' c11 (by intro y hy;simp at hy;subst hy;exact .inl (by simp)) (fun _ h=>.inl h)
  have l13:=a13.lt
  have s11:=c11.size
  have x811:Ext w8 w11:=(Ext.chg x610 c11).mono (by intro y hy;simp at hy;right;omega)
  have hN11:∀b∈b13::M,b<w11.heap.size:=fun x hx=>by
   rcases List.mem_cons.1 hx with rfl|hx
   ·omega
   ·have:=hM8 x hx;omega
  have G11:=G8.ext x811
  have hS11:=hS8.ext x811
  have r11:Row w11 ⟨b13,0,none⟩ (txCs t iv ov):=Row.of_at a11
  have rs11:=Row.ext x811 r8
  have hmv11:SlR entR (b13::M) w11 mV l:=hmv.step x811 (by simp) (mem_c8 hb13)
  have x211:=x28.trans x811
  have x011:=x08.trans x811
  have hVs:∀e∈V,e.2.s.size≤1000000:=fun e he=>by rw [(hc8.each e he).2.2.2.2.1];decide
  have hV11:∀{w'},Ext w11 w'→ViewR w' (.iface T.P_coins_Set (.pointer (some ⟨b,0,none⟩))) (aget V):=fun x=>ViewR.of_set (hS11.ext x) hVs
  have hon:(overL V l hh).length≤100000:=by
   unfold overL
   have h1:=flat_len (V:=V) (h:=hh) (l:=l) (fun x hx=>ent_outs (hE8 x hx))
   have h2:=hc8.len
   rw [List.length_append];omega
  have hos:=over_scr hc8.nodup hnd8 hV2 hE8 hVs
  have hfe:∀x∈l,x.fee≤1000000000000:=fun x hx=>by have:=hMon.fee x hx;omega
  have hid:∀x∈l,x.id.size=32:=fun x hx=>by rw [(hE8 x hx).id];exact idT_size _
  clear x7 a12 r12 hb12 x9 x610 a13 t10' c11 hti hto r9 x28 x08 G8 hS8 r8 hmv
  repeat (first|refine go1 ?_|refine zg (fun _ _=>?_)|refine zi (fun _ _=>?_))
  refine zC (d:=some 62) rfl (plain_spec (M:=M) (N:=b13::M) (l:=l) (f:=aget V) (t:=t) hh rt _ G11.r (fun b hb=>hN11 b (by simp [hb])) (hV11 (Ext.refl _)) t11 hsmt) ?_
  rintro _ w12 ⟨e1,rfl,R12,x12⟩
  have r12:=Row.ext x12 r11
  repeat (first|refine go1 ?_|refine zg (fun _ _=>?_)|refine zi (fun _ _=>?_))
  refine zC (d:=some 70) rfl (plain17_spec (M:=b13::M) (V:=V) (l:=l) (t:=t) (cs:=txCs t iv ov) hh _ (hv2.ext (x211.trans x12)) (hmv11.ext x12) (R.ext t11 x12) hsmt (by have:=hc8.len;omega) hlen hE8 hc8.nodup hnd8 hon hos) ?_
  rintro _ w13 ⟨rfl,x13⟩
  have R13:=ErrR.ext x13 R12
  have x1113:=x12.trans x13
  unfold plainV
  repeat (first|(refine c_cutV (a:=.seq (.reg false (.cons ⟨some 74,_,none⟩ _)) _) (fun (_:Unit) w'=>Ext w13 w') (fun _=> [(7,vV),(8,.pointer (some ⟨g,0,none⟩)),(9,mV),(10,.int .i64 hh),(11,.int .i64 rt),(12,.pointer (some ⟨bs,0,none⟩)),(46,v'),(47,.int .i64 (S.length:Nat)),(48,.int .i64 i),(15,.pointer (some ⟨b13,0,none⟩))]) ?_ ?_)|(refine st_fixV (d:=some 76) (.bool false) rfl (congrArg (fun b=>some (Value.bool (!b))) (decide_eq_true rfl)) ?_)|(first|refine go1 ?_|refine zg (fun _ _=>?_)|refine zi (fun _ _=>?_)))
  ·have hg13:=hg.ext (x011.trans x1113)
   refine zC (d:=some 79) rfl (code_spec hg13 (.inl R13)) ?_
   rintro _ w14 ⟨rfl,x14⟩
   repeat (first|(refine st_fixV (d:=some 81) (.bool false) rfl (congrArg (fun b=>some (Value.bool (!b))) (decide_eq_true rfl)) ?_)|(first|refine go1 ?_|refine zg (fun _ _=>?_)|refine zi (fun _ _=>?_)))
   refine zC (d:=some 85) rfl (place_spec (hg13.ext x14) (.inl (ErrR.ext x14 R13))) ?_
   rintro _ w15 ⟨rfl,x15⟩
   by_cases h0:(plainP (aget V) l t hh).2.1=0
   ·obtain ⟨rfl, -⟩:=R13.nil_iff.1 h0
    repeat (first|(refine st_fixV (d:=some 87) (.bool false) rfl (congrArg (fun b=>some (Value.bool (!b))) (decide_eq_true rfl)) ?_)|(refine st_fixV (d:=some 93) (.bool true) rfl (congrArg (fun b=>some (Value.bool b)) (decide_eq_true h0)) ?_)|(first|refine go1 ?_|refine zg (fun _ _=>?_)|refine zi (fun _ _=>?_)))
    exact ⟨(),⟨rfl,rfl,rfl,rfl,rfl,rfl,rfl,rfl,rfl,rfl,trivial⟩,x14.trans x15⟩
   ·obtain ⟨et,eu,rfl⟩:=R13.nil_iff.2 h0
    repeat (first|(refine st_fixV (d:=some 87) (.bool false) rfl (congrArg (fun b=>some (Value.bool (!b))) (decide_eq_true rfl)) ?_)|(refine st_fixV (d:=some 93) (.bool false) rfl (congrArg (fun b=>some (Value.bool b)) (decide_eq_false h0)) ?_)|(first|refine go1 ?_|refine zg (fun _ _=>?_)|refine zi (fun _ _=>?_)))
    exact ⟨(),⟨rfl,rfl,rfl,rfl,rfl,rfl,rfl,rfl,rfl,rfl,trivial⟩,x14.trans x15⟩
  rintro _ ρ16 w16 x1316
  have x1116:Ext w11 w16:=x1113.trans x1316
  have r16:=Row.ext x1116 r11
  have rs16:=Row.ext x1116 rs11
  have hN16:∀b∈b13::M,b<w16.heap.size:=fun y hy=>Nat.lt_of_lt_of_le (hN11 y hy) x1116.size
  clear R12 R13 x12 x13 r12
  repeat (first|refine go1 ?_|refine zg (fun _ _=>?_)|refine zi (fun _ _=>?_))
  refine zC (d:=some 100) rfl (accept_spec (M:=M) (N:=b13::M) (l:=l) (f:=aget V) (t:=t) hh rt _ (G11.ext x1116) (hV11 x1116) (R.ext t11 x1116) hsmt hN16 (fun b hb=>by simp [hb]) hlen hfe) ?_
  rintro _ w20 ⟨u20,er,M1,rfl,hu20,R20,G20,c20,hM20,hdis⟩
  have hmv16:=hmv11.ext x1116
  have n13:b13∉M:=fun h=>by have:=hM8 _ h;omega
  have r20:=Row.chg c20 r16 n13
  have hM2:∀y∈b13::(M1++M),y∈b13::M∨w16.heap.size≤y:=fun y hy=>by
   simp only [List.mem_cons,List.mem_append] at hy
   rcases hy with rfl|hy|hy
   ·exact .inl (by simp)
   ·rcases hM20 y hy with h|h
    ·exact .inl (by simp [h])
    ·exact .inr h
   ·exact .inl (by simp [hy])
  have t20:txR.rel (b13::(M1++M)) w20 (txCs t iv ov) t:=R.step txR (R.ext t11 x1116) c20 (fun y hy=>.inl (by simp [hy])) hM2
  have hmv20:SlR entR (b13::(M1++M)) w20 mV l:=hmv16.step c20 (fun y hy=>.inl (by simp [hy])) hM2
  have hN20:∀y∈b13::(M1++M),y<w20.heap.size:=fun y hy=>by
   have s20:=c20.size
   simp only [List.mem_cons,List.mem_append] at hy
   rcases hy with rfl|hy|hy
   ·exact Nat.lt_of_lt_of_le (hN16 y (by simp)) s20
   ·exact G20.lt y hy
   ·exact Nat.lt_of_lt_of_le (hN16 y (by simp [hy])) s20
  have x220:Ext w2 w20:=(Ext.chg (x211.trans x1116) c20).mono (fun y hy=>.inr (hB8 y hy))
  have x020:Ext w w20:=(Ext.chg (x011.trans x1116) c20).mono (fun y hy=>.inr (by have:=hB8 y hy;omega))
  have hS20:=(hS11.ext x1116).chg c20 nb nmb
  have rs20:=Row.chg c20 rs16 nbs
  have hll:=acc_le (f:=aget V) (t:=t) (h:=hh) (rate:=rt) hnd8
  have hMon20:Money V (accL (aget V) l t hh rt) hh (monB (i+1)):=hMon.step hc8 hnd8 hE8 hlen ht
  have nb1:b∉M1:=fun h=>by
   rcases hM20 _ h with h|h
   ·exact nb h
   ·have:=(hS11.ext x1116).1.lt;omega
  have nmb1:mb∉M1:=fun h=>by
   rcases hM20 _ h with h|h
   ·exact nmb h
   ·have:=(hS11.ext x1116).2.1.lt;omega
  have nbs1:bs∉M1:=fun h=>by
   rcases hM20 _ h with h|h
   ·exact nbs h
   ·have:=x811.size;have:=x1116.size;omega
  have lbs20:bs<w20.heap.size:=by have:=x811.size;have:=x1116.size;have:=c20.size;omega
  have hM1l:=G20.lt
  clear c20 r16 rs16 hmv16 hM20 hmv11
  repeat (first|refine go1 ?_|refine zg (fun _ _=>?_)|refine zi (fun _ _=>?_))
  refine zC (d:=some 109) rfl (accept17_spec (M:=b13::(M1++M)) (V:=V) (l:=l) (t:=t) (cs:=txCs t iv ov) hh rt _ (hv2.ext x220) hmv20 t20 hsmt (by have:=hc8.len;omega) hlen hE8 hc8.nodup hnd8 hon hos hfe hid hN20) ?_
  rintro _ w21 ⟨gl,il,rfl,hgl,hil21,x21⟩
  have R21:=ErrR.ext x21 R20
  have hu21:=hu20.sl.ext x21
  have x021:=x020.trans x21
  have hg21:=hg.ext x021
  have G21:=G20.ext x21
  have hidl:(accIds (aget V) l t hh rt).length≤100000000:=by
   by_cases h0:(accE (aget V) l t hh rt).1=0
   ·have:=acc_len (f:=aget V) (t:=t) (h:=hh) (rate:=rt) hnd8 h0;omega
   ·rw [(acc_not h0).1];simp
  repeat (first|(refine c_cutV (a:=.seq (.reg false (.cons ⟨some 114,_,none⟩ _)) _) (fun (_:Unit) w'=>Ext w21 w') (fun _=> [(7,vV),(8,.pointer (some ⟨g,0,none⟩)),(10,.int .i64 hh),(11,.int .i64 rt),(12,.pointer (some ⟨bs,0,none⟩)),(46,v'),(47,.int .i64 (S.length:Nat)),(48,.int .i64 i),(22,gl)]) ?_ ?_)|(first|refine go1 ?_|refine zg (fun _ _=>?_)|refine zi (fun _ _=>?_)))
  ·refine zC (d:=some 115) rfl (code_spec hg21 (.inl R21)) ?_
   rintro _ w22 ⟨rfl,x22⟩
   repeat (first|(refine st_fixV (d:=some 117) (.bool false) rfl (congrArg (fun b=>some (Value.bool (!b))) (decide_eq_true rfl)) ?_)|(first|refine go1 ?_|refine zg (fun _ _=>?_)|refine zi (fun _ _=>?_)))
   refine zC (d:=some 120) rfl (place_spec (hg21.ext x22) (.inl (ErrR.ext x22 R21))) ?_
   rintro _ w23 ⟨rfl,x23⟩
   have x2123:=x22.trans x23
   by_cases h0:(accE (aget V) l t hh rt).1=0
   ·obtain ⟨rfl, -⟩:=R21.nil_iff.1 h0
    repeat (first|(refine st_fixV (d:=some 122) (.bool false) rfl (congrArg (fun b=>some (Value.bool (!b))) (decide_eq_true rfl)) ?_)|(refine st_fixV (d:=some 128) (.bool true) rfl (congrArg (fun b=>some (Value.bool b)) (decide_eq_true h0)) ?_)|(first|refine go1 ?_|refine zg (fun _ _=>?_)|refine zi (fun _ _=>?_)))
    refine zC (d:=some 134) rfl (equal_true _ (hu21.ext x2123) (hil21.ext x2123) rfl hidl) ?_
    rintro _ w24 ⟨rfl,x24⟩
    repeat (first|refine go1 ?_|refine zg (fun _ _=>?_)|refine zi (fun _ _=>?_))
    refine zC (d:=some 140) rfl (same17_spec (M:=M1) (N:=b13::(M1++M)) _ (G21.ext (x2123.trans x24)).r (fun y hy=>Nat.lt_of_lt_of_le (hM1l y hy) (x21.trans (x2123.trans x24)).size) (hgl.ext (x2123.trans x24)) (by omega)) ?_
    rintro _ w25 ⟨rfl,x25⟩
    repeat (first|refine go1 ?_|refine zg (fun _ _=>?_)|refine zi (fun _ _=>?_))
    exact ⟨(),⟨rfl,rfl,rfl,rfl,rfl,rfl,rfl,rfl,rfl,trivial⟩,(x2123.trans x24).trans x25⟩
   ·obtain ⟨et,eu,rfl⟩:=R21.nil_iff.2 h0
    repeat (first|(refine st_fixV (d:=some 122) (.bool false) rfl (congrArg (fun b=>some (Value.bool (!b))) (decide_eq_true rfl)) ?_)|(refine st_fixV (d:=some 128) (.bool false) rfl (congrArg (fun b=>some (Value.bool b)) (decide_eq_false h0)) ?_)|(first|refine go1 ?_|refine zg (fun _ _=>?_)|refine zi (fun _ _=>?_)))
    refine zC (d:=some 134) rfl (equal_true _ (hu21.ext x2123) (hil21.ext x2123) rfl hidl) ?_
    rintro _ w24 ⟨rfl,x24⟩
    repeat (first|refine go1 ?_|refine zg (fun _ _=>?_)|refine zi (fun _ _=>?_))
    refine zC (d:=some 140) rfl (same17_spec (M:=M1) (N:=b13::(M1++M)) _ (G21.ext (x2123.trans x24)).r (fun y hy=>Nat.lt_of_lt_of_le (hM1l y hy) (x21.trans (x2123.trans x24)).size) (hgl.ext (x2123.trans x24)) (by omega)) ?_
    rintro _ w25 ⟨rfl,x25⟩
    repeat (first|refine go1 ?_|refine zg (fun _ _=>?_)|refine zi (fun _ _=>?_))
    exact ⟨(),⟨rfl,rfl,rfl,rfl,rfl,rfl,rfl,rfl,rfl,trivial⟩,(x2123.trans x24).trans x25⟩
  rintro _ ρ26 w26 x2126
  have x2026:=x21.trans x2126
  repeat (first|refine go1 ?_|refine zg (fun _ _=>?_)|refine zi (fun _ _=>?_))
  exact ⟨(i+1,accL (aget V) l t hh rt,M1,gl),⟨rfl,rfl,rfl,rfl,rfl,rfl,rfl,rfl,rfl,trivial⟩,⟨x220.trans x2026,by simp only;omega,by simp only;omega,G20.ext x2026,hS20.ext x2026,nb1,nmb1,Row.ext x2026 rs20,nbs1,Nat.lt_of_lt_of_le lbs20 x2026.size,hMon20,(hgl.ext x2126).sub (fun y hy=>.inl (by simp [hy]))⟩,by simp only;omega⟩
 ·repeat (first|refine go1 ?_|refine zg (fun _ _=>?_)|refine zi (fun _ _=>?_))
  refine zC (d:=some 145) rfl (wakes17_spec _) ?_
  rintro _ w5 ⟨rfl,x5⟩
  repeat (first|refine go1 ?_|refine zg (fun _ _=>?_)|refine zi (fun _ _=>?_))
  exact x_ret rfl ⟨rfl,(x02.trans x28).trans x5⟩
end Go.Proofs.YtfebcajheojodaaGreatDoor
end
section
namespace Go.Proofs.YtfebcajheojodaaGreatDoor
open Go Go.K Go.ChangeShapes Go.WideShapes Go.ChangeAt Go.RowKit
set_option maxRecDepth 100000
theorem c_in:Tryz.prog.cellsOf 85=4:=by kernel_rfl
theorem c_out:Tryz.prog.cellsOf 87=2:=by kernel_rfl
theorem c_tx:Tryz.prog.cellsOf 26=4:=by kernel_rfl
theorem c_lin:Tryz.prog.cellsOf 23=1:=by kernel_rfl
theorem c_lout:Tryz.prog.cellsOf 24=1:=by kernel_rfl
theorem c_lstring:Tryz.prog.cellsOf 39=1:=by kernel_rfl
theorem reads_ins {W:World} {c:List Value} (h:Reads Tryz.prog W 85 c):∃x:TIn,inR.rel [] W c x∧x.wit.length≤9223372036854775807:=by
 obtain ⟨h1,h2⟩:=reads_struct Tryz.underlying85 h
 have l:c.length=4:=h1.trans c_in
 match c,l with
 | [c0,c1,c2,c3],_=>
  have g0:=h2 _ (List.mem_of_getElem? (i:=0) rfl)
  have g1:=h2 _ (List.mem_of_getElem? (i:=1) rfl)
  have g2:=h2 _ (List.mem_of_getElem? (i:=2) rfl)
  obtain ⟨p,e0,hp⟩:=reads_point g0
  obtain ⟨q,e1,hq⟩:=reads_u32 g1
  simp only [c_lstring,List.drop_zero,List.drop_succ_cons,List.take_succ_cons,List.take_zero] at g2
  obtain ⟨wl,hw,hwl⟩:=reads_slR strR Tryz.underlying39 (by kernel_rfl) (fun c hc=>by
   obtain ⟨s,e,_⟩:=reads_string Tryz.underlying9 hc
   exact ⟨s,by subst e;rfl⟩) g2
  simp only [c_point,c_u32,List.drop_zero,List.drop_succ_cons,List.take_succ_cons,List.take_zero,List.cons.injEq,and_true] at e0 e1
  refine ⟨⟨p,q,wl⟩,⟨c3,?_,hw,hp,hq⟩,hwl⟩
  have e:p.cs= [.string p.s,.int .u32 p.i]:=rfl
  rw [e] at e0
  simp only [List.cons.injEq,and_true] at e0
  rw [e0.1,e0.2,e1];rfl
theorem reads_out {W:World} {c:List Value} (h:Reads Tryz.prog W 87 c):∃y:TOut,outR.rel [] W c y:=by
 obtain ⟨h1,h2⟩:=reads_struct Tryz.underlying87 h
 have l:c.length=2:=h1.trans c_out
 match c,l with
 | [c0,c1],_=>
  have g0:=h2 _ (List.mem_of_getElem? (i:=0) rfl)
  have g1:=h2 _ (List.mem_of_getElem? (i:=1) rfl)
  obtain ⟨v,e0,hv⟩:=reads_i64 g0
  obtain ⟨s,e1,_⟩:=reads_string Tryz.underlying9 g1
  simp only [c_string,c_int,List.drop_zero,List.drop_succ_cons,List.take_succ_cons,List.take_zero,List.cons.injEq,and_true] at e0 e1
  exact ⟨⟨v,s⟩,by rw [e0,e1];rfl,hv⟩
theorem reads_tx {W:World} {c:List Value} (h:Reads Tryz.prog W 26 c):∃t:Tx,txR.rel [] W c t∧t.Raw:=by
 obtain ⟨h1,h2⟩:=reads_struct Tryz.underlying26 h
 have l:c.length=4:=h1.trans c_tx
 match c,l with
 | [c0,c1,c2,c3],_=>
  have g0:=h2 _ (List.mem_of_getElem? (i:=0) rfl)
  have g1:=h2 _ (List.mem_of_getElem? (i:=1) rfl)
  have g2:=h2 _ (List.mem_of_getElem? (i:=2) rfl)
  have g3:=h2 _ (List.mem_of_getElem? (i:=3) rfl)
  obtain ⟨v,e0,hv⟩:=reads_u32 g0
  obtain ⟨k,e3,hk⟩:=reads_u32 g3
  simp only [c_lin,c_lout,List.drop_zero,List.drop_succ_cons,List.take_succ_cons,List.take_zero] at g1 g2
  obtain ⟨ins,hi,hil⟩:=reads_slR (inR.and fun x=>x.wit.length≤9223372036854775807) Tryz.underlying23 c_in (fun c hc=>reads_ins hc) g1
  obtain ⟨outs,ho,hol⟩:=reads_slR outR Tryz.underlying24 c_out (fun c hc=>reads_out hc) g2
  simp only [c_u32,List.drop_zero,List.drop_succ_cons,List.take_succ_cons,List.take_zero,List.cons.injEq,and_true] at e0 e3
  obtain ⟨hi1,hi2⟩:=SlR.both hi
  exact ⟨⟨v,ins,outs,k⟩,⟨c1,c2,by rw [e0,e3];rfl,hi1,ho,hv,hk⟩,hil,hol,hi2⟩
end Go.Proofs.YtfebcajheojodaaGreatDoor
end
section
namespace Go.Proofs.YtfebcajheojodaaGreatDoor
open Go Go.K
theorem cut_sm4 {t:Tx} (h:t.Cut 4):t.Sm:=⟨by have:=h.ins;omega,by have:=h.outs;omega,fun x hx=>by have:=h.wit x hx;omega⟩
attribute [local irreducible] regK codeK retK KOp.wp K.Spec u32 leS vnS str zero32 sha2 encT idT sizeT checkT grantB idN stepR workL reachE findI dropG addG aboveL belowL idsOf feeD sizeD cntS metL confL evL inS inB needI needL feeOf needN needE mayE freshP rulesL fitsL feeP dustI numAt byteAt plainP dropAll accE accIds accL askedF makeP coinsP coinsW overL monB EtR
theorem plain_nov {g:Nat} {cs:List Value} {iv ov:Value} {t:Tx} (h rate:Int) (he:cs=txCs t iv ov) (h1:iv.oneCell'=true) (h2:ov.oneCell'=true) (w:World):K.Spec Tryz.prog F.pool_Plain [.pointer (some ⟨g,0,none⟩),.agg cs.toArray,termV .nilIface h rate] w fun r w'=>r=.tuple #[.int .i64 0,errno 1]∧Ext w w':=by
 subst he
 refine s_pool_Plain rfl ?_
 unfold k_pool_Plain
 refine oy ?_
 repeat' (first|(refine zD (d:=some 4) rfl rfl (fun bt wt xt bt' (rt:Row wt ⟨bt,0,none⟩ (txCs t iv ov)) hbt0=>?_))|(refine zD (d:=some 5) (cs:= [.nilIface,.int .i64 h,.int .i64 rate]) rfl rfl (fun bs ws xs bs' (rs:Row ws ⟨bs,0,none⟩ [.nilIface,.int .i64 h,.int .i64 rate]) hbs0=>?_))|(first|refine go1 ?_|refine zg (fun _ _=>?_)|refine zi (fun _ _=>?_)))
 exact x_ret rfl ⟨rfl,by exact fx⟩
theorem accept_nov {g:Nat} {cs:List Value} {iv ov:Value} {t:Tx} (h rate:Int) (he:cs=txCs t iv ov) (h1:iv.oneCell'=true) (h2:ov.oneCell'=true) (w:World):K.Spec Tryz.prog F.pool_Accept [.pointer (some ⟨g,0,none⟩),.agg cs.toArray,termV .nilIface h rate] w fun r w'=>r=.tuple #[.slice none 0 0,errno 1]∧Ext w w':=by
 subst he
 refine s_pool_Accept rfl ?_
 unfold k_pool_Accept
 refine oy ?_
 repeat' (first|(refine zD (d:=some 4) rfl rfl (fun bt wt xt bt' (rt:Row wt ⟨bt,0,none⟩ (txCs t iv ov)) hbt0=>?_))|(refine zD (d:=some 5) (cs:= [.nilIface,.int .i64 h,.int .i64 rate]) rfl rfl (fun bs ws xs bs' (rs:Row ws ⟨bs,0,none⟩ [.nilIface,.int .i64 h,.int .i64 rate]) hbs0=>?_))|(refine zC (d:=some 21) rfl (plain_nov (cs:=txCs t iv ov) (t:=t) h rate rfl h1 h2 _) ?_;rintro _ w3 ⟨rfl,x3⟩)|(first|refine go1 ?_|refine zg (fun _ _=>?_)|refine zi (fun _ _=>?_)))
 exact x_ret rfl ⟨rfl,by exact fx⟩
def zR:PSm:=⟨[0,1],1,700,0,0,false,0⟩
set_option maxHeartbeats 16000000 in
set_option maxRecDepth 4000 in
theorem poolRaw_law {cs0:List Value} {t0:Tx} (hh rt:Int) (w:World) (hg:EtR w) (ht0:txR.rel [] w cs0 t0) (hraw:t0.Raw):K.Spec Tryz.prog F.kedgelaw17_PoolRaw [.agg cs0.toArray,.int .i64 hh,.int .i64 rt] w fun r w'=>r=.bool true∧Ext w w':=by
 obtain ⟨iv0,ov0,rfl, -⟩:=id ht0
 have one0:=txR.one ht0
 refine s_kedgelaw17_PoolRaw rfl ?_
 unfold k_kedgelaw17_PoolRaw
 refine oy ?_
 repeat (first|(refine zD (d:=some 3) (cs:=txCs t0 iv0 ov0) rfl rfl (fun b3 w1 x1 a3 (r3:Row w1 ⟨b3,0,none⟩ (txCs t0 iv0 ov0)) hb3=>?_))|(first|refine go1 ?_|refine zg (fun _ _=>?_)|refine zi (fun _ _=>?_)))
 refine zC (d:=some 21) rfl (cut_spec (M:= []) (cs:=txCs t0 iv0 ov0) (t:=t0) 4 _ (R.ext ht0 x1) hraw (by decide) (by simp)) ?_
 rintro _ w2 ⟨csu,u,rfl,u2,hcu,x2⟩
 have hu2:=u2.rel (fun y hy=>by simp at hy)
 have hsmu:=cut_sm4 hcu
 obtain ⟨ivu,ovu,rfl,ub1,ub2,ub3⟩:=id hu2
 have oneu:=txR.one hu2
 have u1c:=ub1.one
 have u2c:=ub2.one
 repeat (first|(refine zE (d':=7) (fun _=>rfl) rfl rfl (List.all_eq_true.2 oneu) (fun b7 w4 x4 a7 (r7:Row w4 ⟨b7,0,none⟩ (txCs u ivu ovu)) hb7=>?_))|(refine zI (d:=some 22) (cs:= [.int .u16 300,.int .u16 600]) rfl (fun bz w5 x5 az hbz=>?_))|(first|refine go1 ?_|refine zg (fun _ _=>?_)|refine zi (fun _ _=>?_)))
 refine zC (d:=some 23) rfl (coins17_spec (vals:= [300,600]) _ (slAt' (E:=u16R) (M:= []) (l:= [300,600]) [⟨[.int .u16 300],rfl,by intro v hv;simp at hv;subst hv;rfl⟩,⟨[.int .u16 600],rfl,by intro v hv;simp at hv;subst hv;rfl⟩] az rfl (.cons ⟨rfl,by decide,by decide⟩ (.cons ⟨rfl,by decide,by decide⟩ .nil)) (by simp) rfl) (by intro a ha;simp at ha;rcases ha with rfl|rfl<;>decide)) ?_
 rintro vV w6 ⟨hv6,hb6,x6⟩
 have hcV:CoinsOk (coinsP [300,600] (min [(300:Int),600].length 8)) 8:=(coinsP_ok (vals:= [300,600]) (by intro a ha;simp at ha;rcases ha with rfl|rfl<;>decide) _).more (by decide)
 generalize coinsP [300,600] (min [(300:Int),600].length 8)=V at hv6 hcV
 have x26:Ext w2 w6:=x4.trans (x5.trans x6)
 have x06:Ext w w6:=(x1.trans x2).trans x26
 have r76:=Row.ext (x5.trans x6) r7
 have hu6:=R.ext hu2 x26
 have hVs:∀e∈V,e.2.s.size≤1000000:=fun e he=>by rw [(hcV.each e he).2.2.2.2.1];decide
 have hVk:=hcV.nodup
 have hVl:V.length≤1000:=by have:=hcV.len;omega
 have eo:overL V [] hh=V:=by unfold overL;simp
 have hon:(overL V [] hh).length≤100000:=by rw [eo];omega
 have hos:∀e∈overL V [] hh,e.2.s.size≤1000000:=by rw [eo];exact hVs
 have hsmm:=makeP_sm V zR
 clear x1 x2 x4 x5 x6 a3 r3 a7 r7 az u2 hu2 hb6 hb3
 repeat' (first|(refine zg (fun w7 x7=>?_))|(refine st_joinV (b:=.cons ⟨some 29,_,_⟩ _) (fun (p:List Value) w'=>Ext w6 w'∧txR.rel [] w' p (makeP V zR)) (fun p=> [(1,.int .i64 hh),(2,.int .i64 rt),(7,.pointer (some ⟨b7,0,none⟩)),(8,vV),(24,.agg (txCs u ivu ovu).toArray),(28,.agg p.toArray),(31,.int .i64 0)]) ?_ ?_)|(rintro p ρ8 w8 ⟨x68,t8⟩;try dsimp only)|(refine zB ?_ ?_)|(refine zI (d:=some 26) (cs:= [.int .u8 0,.int .u8 1]) rfl (fun bz wz xz az hbz=>?_))|(refine st_build (d:=some 27) (cs:=psmCs zR (.slice (some ⟨bz,0,none⟩) 2 2)) rfl ?_)|(refine zC (d:=some 28) rfl (make17_spec (M:= []) (V:=V) (z:=zR) (B:=655350) _ (SlE.ext (w:=w6) (by exact fx) hv6) ⟨_,rfl,SlE.toR (F:=u8E) (SlE.new (E:=u8E) (l:= [0,1]) az rfl (Nat.le_refl _)) (by simp),by decide,by decide⟩ (by omega) (fun e he=>⟨(hcV.each e he).2.2.1,(hcV.each e he).2.2.2.1⟩) (by decide) (fun e he=>by rw [(hcV.each e he).2.1];exact is32_0) (by simp)) ?_;rintro _ w9 ⟨p,rfl,t9,x9⟩;have t9:=txO.rel t9 (by simp))|(exact ⟨p,⟨rfl,rfl,rfl,rfl,rfl,rfl,rfl,trivial⟩,by exact fx,R.ext t9 (by exact fx)⟩)|(first|refine go1 ?_|refine zg (fun _ _=>?_)|refine zi (fun _ _=>?_)))
 have onem:=txR.one t8
 have lenm:=txR.len t8
 obtain ⟨p0,p1,p2,p3,rfl⟩:∃c0 c1 c2 c3,p= [c0,c1,c2,c3]:=by
  match p,lenm with
  | [c0,c1,c2,c3],_=>exact ⟨c0,c1,c2,c3,rfl⟩
 repeat (first|(refine zI (d:=some 29) (cs:=txCs u ivu ovu++ [p0,p1,p2,p3]) rfl (fun b9 w9 x9 a9 hb9=>?_))|(first|refine go1 ?_|refine zg (fun _ _=>?_)|refine zi (fun _ _=>?_)))
 have x69:=x68.trans x9
 have s68:=x68.size
 have hls:SlR txR [] w9 (.slice (some ⟨b9,0,none⟩) 2 2) [u,makeP V zR]:=slAt' (E:=txR) (M:= []) (l:= [u,makeP V zR]) [⟨txCs u ivu ovu,rfl,oneu⟩,⟨[p0,p1,p2,p3],rfl,onem⟩] a9 rfl (.cons (R.step txR hu6 x69 (by simp) (fun y hy=>.inr (by simp at hy;omega))) (.cons (R.step txR t8 x9 (by simp) (fun y hy=>.inr (by simp at hy;omega))) .nil)) (by simp) rfl
 have x09:=x06.trans x69
 have r79:=Row.ext x69 r76
 have hv9:=SlE.ext x69 hv6
 have hu9:=R.ext hu6 x69
 have hsm2:∀t∈ [u,makeP V zR],t.Sm:=fun t ht=>by
  simp only [List.mem_cons,List.not_mem_nil,or_false] at ht
  rcases ht with rfl|rfl
  ·exact hsmu
  ·exact hsmm
 clear x68 x69 x9 x06 x26 r76 hv6 hu6 t8 onem lenm a9 hb9 hsmm
 generalize hL: [u,makeP V zR]=L at hls hsm2
 have hLl:L.length=2:=by rw [←hL];rfl
 repeat (first|refine go1 ?_|refine zg (fun _ _=>?_)|refine zi (fun _ _=>?_))
 refine c_loopV (fun (i:Nat) w'=>Ext w9 w'∧i≤2) (fun i=> [(1,.int .i64 hh),(2,.int .i64 rt),(7,.pointer (some ⟨b7,0,none⟩)),(8,vV),(29,.slice (some ⟨b9,0,none⟩) 2 2),(30,.int .i64 2),(31,.int .i64 (i:Nat))]) (fun i=>2 - i) 0 ⟨rfl,rfl,rfl,rfl,rfl,rfl,rfl,trivial⟩ ⟨Ext.refl _,by decide⟩ ?_
 rintro i ρ w10 ⟨x10,hi⟩
 have x010:=x09.trans x10
 have s10:=x10.size
 repeat (first|refine go1 ?_|refine zg (fun _ _=>?_)|refine zi (fun _ _=>?_))
 refine zL (x:=.tmp 32) (p:=((i:Nat):Int)<2) rfl (fun h5=>?_) (fun h5=>?_)
 ·have hil:i<L.length:=by omega
  have hsmt:=hsm2 _ (List.getElem_mem hil)
  repeat (first|(refine st_elemR (d:=some 33) (E:=txR) (M:= []) rfl rfl (n:=i) (l:=L) (hls.ext x10) rfl hil (fun ad cs r4 he=>?_);have ones:=txR.one he;obtain ⟨iv,ov,rfl, -⟩:=id he)|(refine zE (d':=10) (fun _=>rfl) rfl rfl (List.all_eq_true.2 ones) (fun b10 w11 x11 a10 (r10:Row w11 ⟨b10,0,none⟩ (txCs L[i] iv ov)) hb10=>?_))|(first|refine go1 ?_|refine zg (fun _ _=>?_)|refine zi (fun _ _=>?_)))
  refine zC (d:=some 35) rfl (new_spec _) ?_
  rintro _ w12 ⟨g,M,rfl,G12,x12⟩
  generalize L[i]=t at*
  have r12:=Row.ext x12 r10
  have x1012:=x11.trans x12
  have l10:=a10.lt
  have he11:=R.ext he x11
  have x12':Unit→Ext w11 w12:=fun _=>x12
  have hv12:=SlE.ext (x10.trans x1012) hv9
  have hM12:=G12.lt
  have hB12:=G12.base
  have s12:=x12.size
  have s11:=x11.size
  clear x11 x12 a10 r10 he r4
  repeat' (first|(refine zg (fun w13 x13=>?_))|(refine st_joinV (b:=.cons ⟨some 45,_,_⟩ _) (fun (p:Nat × Nat) w'=>Ext w12 w'∧SetE T.coins_Set w' p.1 p.2 V) (fun p=> [(1,.int .i64 hh),(2,.int .i64 rt),(7,.pointer (some ⟨b7,0,none⟩)),(8,vV),(10,.pointer (some ⟨b10,0,none⟩)),(11,.pointer (some ⟨g,0,none⟩)),(29,.slice (some ⟨b9,0,none⟩) 2 2),(30,.int .i64 2),(31,.int .i64 (i:Nat)),(37,.pointer (some ⟨g,0,none⟩)),(38,.agg (txCs t iv ov).toArray),(44,termV (.iface T.P_coins_Set (.pointer (some ⟨p.1,0,none⟩))) hh rt)]) ?_ ?_)|(rintro ⟨sb,smb⟩ ρ14 w14 ⟨x14,S14⟩;simp only at S14;try dsimp only)|(refine zB ?_ ?_)|(refine zC (d:=some 40) rfl (set17_spec _ (SlE.ext (w:=w12) (by exact fx) hv12) hcV (by decide)) ?_;rintro _ w15 ⟨sb,smb,rfl,S15,hsb,hsmb,x15⟩)|(refine st_build (d:=some 44) (cs:= [.iface T.P_coins_Set (.pointer (some ⟨sb,0,none⟩)),.int .i64 hh,.int .i64 rt]) rfl ?_)|(exact ⟨(sb,smb),⟨rfl,rfl,rfl,rfl,rfl,rfl,rfl,rfl,rfl,rfl,rfl,rfl,trivial⟩,by exact fx,S15.ext (by exact fx)⟩)|(first|refine go1 ?_|refine zg (fun _ _=>?_)|refine zi (fun _ _=>?_)))
  have G14:=G12.ext x14
  have heM:txR.rel M w14 (txCs t iv ov) t:=R.step txR he11 ((x12' ()).trans x14) (by simp) (fun y hy=>.inr (hB12 y hy))
  refine zC (d:=some 45) rfl (accept_spec (M:=M) (N:=M) (l:= []) (f:=aget V) (t:=t) hh rt _ G14 (ViewR.of_set S14 hVs) heM hsmt (Gr.lt G14) (fun _ h=>h) (by simp) (by simp)) ?_
  rintro _ w20 ⟨u20,er,M1,rfl,hu20,R20,G20,c20,hM20,hdis⟩
  have x1120:Ext w11 w20:=(Ext.chg ((x12' ()).trans x14) c20).mono (fun y hy=>.inr (hB12 y hy))
  have x920:Ext w9 w20:=(Ext.chg (x10.trans (x1012.trans x14)) c20).mono (fun y hy=>.inr (by have:=hB12 y hy;omega))
  have r20:=Row.chg c20 (Row.ext x14 r12) (fun h=>by have:=hB12 b10 h;omega)
  have he20:=R.ext he11 x1120
  have hll:=acc_le (f:=aget V) (t:=t) (h:=hh) (rate:=rt) (l:= []) (by simp)
  have hM1l:=G20.lt
  clear G14 heM G12 c20 x14 x13 S14 x12' he11 r12
  repeat (first|refine go1 ?_|refine zg (fun _ _=>?_)|refine zi (fun _ _=>?_))
  refine zC (d:=some 53) rfl (accept17_spec (M:= []) (V:=V) (l:= []) (t:=t) (cs:=txCs t iv ov) hh rt _ (hv9.ext x920) (SlR.nil _ _) he20 hsmt hVl (by simp) (by simp) hVk (by simp) hon hos (by simp) (by simp) (by simp)) ?_
  rintro _ w21 ⟨gl,il,rfl,hgl,hil21,x21⟩
  have R21:=ErrR.ext x21 R20
  have x021:=(x09.trans x920).trans x21
  have hg21:=hg.ext x021
  repeat (first|refine go1 ?_|refine zg (fun _ _=>?_)|refine zi (fun _ _=>?_))
  refine zC (d:=some 59) rfl (code_spec hg21 (.inl R21)) ?_
  rintro _ w22 ⟨rfl,x22⟩
  repeat (first|(refine st_fixV (d:=some 61) (.bool false) rfl (congrArg (fun b=>some (Value.bool (!b))) (decide_eq_true rfl)) ?_)|(first|refine go1 ?_|refine zg (fun _ _=>?_)|refine zi (fun _ _=>?_)))
  refine zC (d:=some 64) rfl (place_spec (hg21.ext x22) (.inl (ErrR.ext x22 R21))) ?_
  rintro _ w23 ⟨rfl,x23⟩
  repeat (first|(refine st_fixV (d:=some 66) (.bool false) rfl (congrArg (fun b=>some (Value.bool (!b))) (decide_eq_true rfl)) ?_)|(first|refine go1 ?_|refine zg (fun _ _=>?_)|refine zi (fun _ _=>?_)))
  refine zC (d:=some 71) rfl (same17_spec (M:=M1) (N:= []) _ (G20.ext ((x21.trans x22).trans x23)).r (fun y hy=>Nat.lt_of_lt_of_le (hM1l y hy) ((x21.trans x22).trans x23).size) (hgl.ext (x22.trans x23)) (by simp at hll;omega)) ?_
  rintro _ w24 ⟨rfl,x24⟩
  repeat (first|refine go1 ?_|refine zg (fun _ _=>?_)|refine zi (fun _ _=>?_))
  exact ⟨i+1,⟨rfl,rfl,rfl,rfl,rfl,rfl,rfl,trivial⟩,⟨x920.trans (((x21.trans x22).trans x23).trans x24),by omega⟩,by omega⟩
 ·have hg10:=hg.ext x010
  have r710:=Row.ext x10 r79
  repeat' (first|(refine zg (fun w13 x13=>?_))|(refine st_joinV (b:=.cons ⟨some 79,_,_⟩ _) (fun (g:Nat) w'=>Ext w10 w') (fun g=> [(76,.pointer (some ⟨g,0,none⟩)),(77,.agg (txCs u ivu ovu).toArray),(78,termV .nilIface 0 0)]) ?_ ?_)|(rintro g ρ14 w14 x14;try dsimp only)|(refine zB ?_ ?_)|(refine st_build (d:=some 78) (cs:= [.nilIface,.int .i64 0,.int .i64 0]) rfl ?_)|(refine zC (d:=some 76) rfl (new_spec _) ?_;rintro _ w15 ⟨g,M,rfl,G15,x15⟩)|(exact ⟨g,⟨rfl,rfl,rfl,trivial⟩,by exact fx⟩)|(first|refine go1 ?_|refine zg (fun _ _=>?_)|refine zi (fun _ _=>?_)))
  refine zC (d:=some 79) rfl (accept_nov (cs:=txCs u ivu ovu) (t:=u) 0 0 rfl u1c u2c _) ?_
  rintro _ w16 ⟨rfl,x16⟩
  repeat (first|refine go1 ?_|refine zg (fun _ _=>?_)|refine zi (fun _ _=>?_))
  refine zC (d:=some 82) rfl (wakes17_spec _) ?_
  rintro _ w17 ⟨rfl,x17⟩
  repeat (first|(refine zC (d:=some 86) rfl (errIs_same 1 _) ?_;rintro _ w18 ⟨rfl,rfl⟩)|(first|refine go1 ?_|refine zg (fun _ _=>?_)|refine zi (fun _ _=>?_)))
  exact x_ret rfl ⟨rfl,((x010.trans x14).trans x16).trans x17⟩
end Go.Proofs.YtfebcajheojodaaGreatDoor
end
