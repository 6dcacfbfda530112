/- Contracts: digests by the reference. Contracts: a round of a digest. Contracts: a block's schedule. Contracts: digests. -/
import Derived.Test.YtfebcajheojodaaGreatDoorDc15
set_option linter.unusedVariables false
set_option linter.unusedSimpArgs false
section
namespace Go.Proofs.YtfebcajheojodaaGreatDoor
open Go Go.K
attribute [local irreducible] regK codeK retK KOp.wp K.Spec u32 leS vnS str zero32 wseq wCs schR schA blkW partW kTab rnds runP padL padZ addN shN outW catB leL
theorem wrap7 {c:Nat} (h:c≤7):IntKind.u64.wrap (8*IntKind.u64.wrap ((7:Int) - c))=((8*(7 - c):Nat):Int):=by
 rw [u64_wrap (n:=(7:Int) - c) (by omega) (by omega),u64_wrap (by omega) (by omega)];omega
theorem shrN (n c:Nat) (h:c≤7):binVal .shr (.int .u64 (n:Nat)) (.int .u64 ((8*(7 - c):Nat):Int))=some (.int .u64 ((n / 256^(7 - c):Nat):Int)):=by
 simp only [binVal,isShift,if_true]
 rw [if_neg (by omega)]
 have e:min ((8*(7 - c):Nat):Int).toNat IntKind.u64.bits=8*(7 - c):=by simp [IntKind.bits];omega
 have e2:(256:Nat)^(7 - c)=2^(8*(7 - c)):=by rw [Nat.pow_mul]
 rw [e,e2,Int.fdiv_eq_ediv_of_nonneg _ (by exact_mod_cast Nat.zero_le _)]
 norm_cast
section
variable {P:Program} {d:Option Tmp} {r:KR} {K:Env→World→Prop} {ρ:Env} {w:World}
theorem st_nU8 {x:Operand} {n:Nat} (hx:ev ρ x=.int .u64 (n:Nat)) (k:regK P r K (put ρ d (.int .u8 ((UInt8.ofNat n).toNat:Nat))) w):regK P (.cons ⟨d,.conv .u8 x,none⟩ r) K ρ w:=
 st_fix rfl (by simp only [KOp.fix,hx];rw [u8_wrap]) k
end
theorem pad0 (l:List UInt8):padZ l 0=l++ [128]:=by unfold padZ;simp
theorem get_app {l:ByteArray} {i:Nat} (h:i<l.size):l.data.toList.take (i+1)=l.data.toList.take i++ [l[i]]:=by
 have hl:i<l.data.toList.length:=by rw [Array.length_toList];exact h
 rw [List.take_succ_eq_append_getElem hl];rfl
theorem padK {m n k:Nat} (e:m=n+1+k) (h:((m%64:Nat):Int)=56) (hk:k≤padN n):k=padN n:=padN_at (by omega) hk
theorem pad_spec (s:ByteArray) (hs:s.size≤4000000) (w:World):K.Spec Tryz.prog F.kedgeref04_pad [.string s] w fun r w'=>SlE u8E w' r (padL s.data.toList)∧Ext w w'∧∀b∈blkOf r,w.heap.size≤b:=by
 have hl:s.data.toList.length=s.size:=by rw [Array.length_toList];rfl
 have hpl:∀k,(padZ s.data.toList k).length=s.size+1+k:=fun k=>by rw [padZ_length,hl]
 have hpn:padN s.size<64:=by unfold padN;omega
 have hrl:∀c,((leL (s.size*8) 8).reverse.take c).length≤8:=fun c=>by rw [List.length_take,List.length_reverse,leL_length];omega
 refine s_kedgeref04_pad rfl ?_
 unfold k_kedgeref04_pad
 refine oy ?_
 repeat' (first|(refine st_fixV (.int .u64 ((s.size*8:Nat):Int)) rfl (congrArg (fun x=>some (Value.int .u64 x)) (wrap8 hs)) ?_)|(refine st_fixV (.int .u64 ((8*(7 - c):Nat):Int)) rfl (congrArg (fun x=>some (Value.int .u64 x)) (wrap7 (by omega))) ?_)|(refine st_bin rfl rfl (shrN (s.size*8) c (by omega)) ?_)|(refine st_nU8 rfl ?_)|(refine st_rem (n:=(padZ s.data.toList k).length) (m:=64) rfl rfl (by decide) ?_)|(first|refine go1 ?_|refine zg (fun _ _=>?_)|refine zi (fun _ _=>?_))|refine zL rfl (fun h=>?_) (fun h=>?_)|refine zN rfl (fun h=>?_) (fun h=>?_)|(refine c_loopV (fun (p:Nat × Value) w'=>Ext w w'∧p.1≤s.size∧Own u8E T.uint8 w.heap.size w' p.2 (s.data.toList.take p.1)) (fun p=> [(0,.string s),(3,p.2),(4,.int .i64 p.1)]) (fun p=>s.size - p.1) (0,.slice none 0 0) ⟨rfl,rfl,rfl,trivial⟩ ⟨Ext.refl _,by simp,Own.nil _ _ _⟩ ?_;rintro ⟨i,vo⟩ ρ w1 ⟨x1,hi,ho⟩;simp only at hi ho;dsimp only)|(refine c_loopV (fun (p:Nat × Value) w'=>Ext w w'∧p.1≤padN s.size∧Own u8E T.uint8 w.heap.size w' p.2 (padZ s.data.toList p.1)) (fun p=> [(0,.string s),(3,p.2)]) (fun p=>padN s.size - p.1) (0,_) ⟨rfl,rfl,trivial⟩ ⟨x5,by simp,by rw [pad0];exact ho5⟩ ?_;rintro ⟨k,vk⟩ ρ6 w6 ⟨x6,hk,hok⟩;simp only at hk hok;dsimp only)|(have hpk:k=padN s.size:=(padK (hpl k) (by assumption) hk);refine c_loopV (fun (p:Nat × Value) w'=>Ext w w'∧p.1≤8∧Own u8E T.uint8 w.heap.size w' p.2 (padZ s.data.toList (padN s.size)++(leL (s.size*8) 8).reverse.take p.1)) (fun p=> [(3,p.2),(5,.int .u64 ((s.size*8:Nat):Int)),(6,.int .i64 ((7:Int) - p.1))]) (fun p=>8 - p.1) (0,vk) ⟨rfl,rfl,rfl,trivial⟩ ⟨x6,by simp,by rw [List.take_zero,List.append_nil,←hpk];exact hok⟩ ?_;rintro ⟨c,vc⟩ ρ8 w8 ⟨x8,hc,hoc⟩;simp only at hc hoc;dsimp only)|(refine st_idxS rfl rfl (n:=i) (by omega) ?_;have hil:i<s.size:=(by omega))|(refine zI rfl (fun b w2 x2 a2 hb=>?_))|(refine st_append (E:=u8E) (v:=vo) (l2:= [s[i]]) rfl (ho.ext x2) (Nat.le_trans x1.size x2.size) rfl rfl (sl_new a2 rfl) rfl rfl (by simp;omega) (fun v3 w3 ho3 c3=>?_))|(refine st_append (E:=u8E) (v:=vo) (l2:= [128]) rfl (ho.ext x2) (Nat.le_trans x1.size x2.size) rfl rfl (sl_new a2 rfl) rfl rfl (by simp;omega) (fun v5 w5 ho5 c5=>?_);have x5:Ext w w5:=((x1.trans x2).chg c5).mono (fun b hb=>.inr (ho.base b (by simpa using hb)));rw [List.take_of_length_le (by rw [hl];omega)] at ho5)|(refine st_append (E:=u8E) (v:=vk) (l2:= [0]) rfl (hok.ext x2) (Nat.le_trans x6.size x2.size) rfl rfl (sl_new a2 rfl) rfl rfl (by rw [hpl];simp;omega) (fun v7 w7 ho7 c7=>?_))|(refine st_append (E:=u8E) (v:=vc) (l2:= [UInt8.ofNat (s.size*8 / 256^(7 - c))]) rfl (hoc.ext x2) (Nat.le_trans x8.size x2.size) rfl rfl (sl_new a2 rfl) rfl rfl (by have:=hpl (padN s.size);have:=hrl c;rw [List.length_append];simp only [List.length_cons,List.length_nil];omega) (fun v9 w9 ho9 c9=>?_))|(refine st_len rfl hok.sl ?_))
 ·exact ⟨(i+1,v3),⟨rfl,rfl,rfl,trivial⟩,⟨((x1.trans x2).chg c3).mono (fun b hb=>.inr (ho.base b (by simpa using hb))),by simp;omega,by rw [get_app hil];exact ho3⟩,by simp;omega⟩
 ·have hlt:k<padN s.size:=padN_lt (by rw [←hpl k];omega) hk
  exact ⟨(k+1,v7),⟨rfl,rfl,trivial⟩,⟨((x6.trans x2).chg c7).mono (fun b hb=>.inr (hok.base b (by simpa using hb))),by simp;omega,by rw [padZ_succ];exact ho7⟩,by simp;omega⟩
 ·exact ⟨(c+1,v9),⟨rfl,rfl,congrArg (Value.int .i64) (by simp;omega),trivial⟩,⟨((x8.trans x2).chg c9).mono (fun b hb=>.inr (hoc.base b (by simpa using hb))),by simp;omega,by rw [rev_take (by omega),←List.append_assoc];exact ho9⟩,by simp;omega⟩
 ·obtain rfl:c=8:=by omega
  exact x_ret rfl ⟨by rw [padL_eq,hl];exact hoc.sl,x8,hoc.base⟩
end Go.Proofs.YtfebcajheojodaaGreatDoor
end
section
namespace Go.Proofs.YtfebcajheojodaaGreatDoor
open Go Go.K
attribute [local irreducible] regK codeK retK KOp.wp K.Spec u32
theorem round_spec (s:S8) (k x:W32) (w:World):K.Spec Tryz.prog F.sha_round [.agg s.cs.toArray,u32 k,u32 x] w fun r w'=>r=.agg (rnd s k x).cs.toArray∧Ext w w':=by
 refine s_sha_round rfl ?_
 unfold k_sha_round
 refine oy ?_
 repeat' (first|(first|refine st_wAdd rfl rfl ?_|refine st_wXor rfl rfl ?_|refine st_wAnd rfl rfl ?_|refine st_wOr rfl rfl ?_|refine st_wNot rfl ?_|refine st_wByte rfl ?_)|(first|refine zF (qRot_eq _ .i64 6 (by decide) (by decide)) ?_)|(first|refine zF (qRot_eq _ .i64 11 (by decide) (by decide)) ?_)|(first|refine zF (qRot_eq _ .i64 25 (by decide) (by decide)) ?_)|(first|refine zF (qRot_eq _ .i64 2 (by decide) (by decide)) ?_)|(first|refine zF (qRot_eq _ .i64 13 (by decide) (by decide)) ?_)|(first|refine zF (qRot_eq _ .i64 22 (by decide) (by decide)) ?_)|(first|refine go1 ?_|refine zg (fun _ _=>?_)|refine zi (fun _ _=>?_))|(first|refine zD rfl rfl (fun bp wp xp ap rp hp0=>?_)|refine zE (fun _=>rfl) rfl rfl rfl (fun bq wq xq aq rq hq0=>?_))|refine zB ?_ ?_|(refine zH (fun b w1 x1 a1 hb=>?_))|(refine st_build (fill8 (s:=rnd s k x) rfl rfl rfl rfl rfl rfl rfl rfl) ?_)|refine st_setN (w0:=w) (vs:=(rnd s k x).cs) (by exact fx) (Nat.le_trans (by exact fx) hb) (by focus (repeat (first|assumption|(apply At.ext;assumption)))) rfl rfl rfl rfl (cs_one _) (fun w5 x5 c5 a5 r5=>?_))
 exact x_ret (ret1 (rv_cell r5 rfl rfl)) ⟨rfl,x5⟩
end Go.Proofs.YtfebcajheojodaaGreatDoor
end
section
namespace Go.Proofs.YtfebcajheojodaaGreatDoor
open Go Go.K
attribute [local irreducible] regK codeK retK KOp.wp K.Spec u32 leS vnS str zero32 catB wseq wCs schR schA blkW partW wAt
theorem part0 {B:List W32} {i:Nat} {bs:List UInt8} {w:World} {b:Nat} {T:TypeId} {f:Nat × Nat} (h:i<64) (ha:At w b (.cells (wCs (schA B i)).toArray T f)):At w b (.cells (wCs (schR B i (partW bs 0))).toArray T f):=by
 rw [schA_lt h] at ha
 have e:partW bs 0=0:=by unfold partW;rfl
 rw [e];exact ha
set_option maxHeartbeats 4000000 in
theorem sched_spec (s:ByteArray) (hs:64≤s.size) (hm:s.size≤100000000) (w:World):K.Spec Tryz.prog F.sha_schedule [.string s] w fun r w'=>r=.agg (wCs (wseq (blkW s.data.toList) 64)).toArray∧Ext w w':=by
 refine s_sha_schedule rfl ?_
 unfold k_sha_schedule
 refine oy ?_
 repeat (first|refine go ?_|refine zg (fun _ _=>?_)|refine zi (fun _ _=>?_))
 refine zH (fun b2 w1 x1 a2 hb2=>?_)
 repeat (first|refine go ?_|refine zg (fun _ _=>?_)|refine zi (fun _ _=>?_))
 refine zH (fun b3 w2 x2 a3 hb3=>?_)
 have a3:At w2 b3 (.cells (wCs (schA (blkW s.data.toList) 0)).toArray T.n_64_uint32 (0,0)):=by
  rw [schA_lt (by decide),schR_zero,←wz64];exact a3
 have a2:At w1 b2 (.cells (List.replicate 64 (Value.int .u32 0)).toArray T.n_64_uint32 (0,0)):=a2
 have hb23:∀i,i<16→(s.extract (4*i) (4*i+4)).data.toList.length=4:=fun i hi=>by
  rw [sub_list,List.length_take,List.length_drop,Array.length_toList]
  have:s.data.size=s.size:=rfl
  omega
 repeat' (first|(first|refine st_wAdd rfl rfl ?_|refine st_wXor rfl rfl ?_|refine st_wAnd rfl rfl ?_|refine st_wOr rfl rfl ?_|refine st_wNot rfl ?_|refine st_wByte rfl ?_)|(first|refine zF (qRot_eq _ .i64 7 (by decide) (by decide)) ?_)|(first|refine zF (qRot_eq _ .i64 18 (by decide) (by decide)) ?_)|(first|refine zF (qRot_eq _ .i64 17 (by decide) (by decide)) ?_)|(first|refine zF (qRot_eq _ .i64 19 (by decide) (by decide)) ?_)|refine st_wShr 3 (by decide) rfl rfl ?_|refine st_wShr 10 (by decide) rfl rfl ?_|refine st_wShl 8 (by decide) rfl rfl ?_|(refine st_arr (i - 15) rfl (congrArg (Value.int .i64) (by omega)) (by omega) ?_)|(refine st_arr (i - 2) rfl (congrArg (Value.int .i64) (by omega)) (by omega) ?_)|(refine st_arr (i - 16) rfl (congrArg (Value.int .i64) (by omega)) (by omega) ?_)|(refine st_arr (i - 7) rfl (congrArg (Value.int .i64) (by omega)) (by omega) ?_)|(refine st_arr i rfl rfl (by omega) ?_)|(refine st_mul rfl rfl (by omega) ?_)|(refine st_ldW _ rfl (Row.of_at (t:=T.n_64_uint32) (f:=(0,0)) (by focus (repeat (first|assumption|(apply At.ext;assumption))))) (by first|(rw [schA_length (by omega)];omega)|(rw [schR_length (by omega)];omega)) ?_)|(first|refine go1 ?_|refine zg (fun _ _=>?_)|refine zi (fun _ _=>?_))|refine zL rfl (fun h=>?_) (fun h=>?_)|(refine c_loopV (fun (i:Nat) w'=>Ext w1 w'∧i≤64∧At w' b3 (.cells (wCs (schA (blkW s.data.toList) i)).toArray T.n_64_uint32 (0,0))) (fun i=> [(0,.string s),(2,.pointer (some ⟨b2,0,none⟩)),(3,.pointer (some ⟨b3,0,none⟩)),(9,.int .i64 i)]) (fun i=>64 - i) 0 ⟨rfl,rfl,rfl,rfl,trivial⟩ ⟨by exact fx,by omega,a3⟩ ?_;rintro i ρ w3 ⟨x3,hi,ha⟩)|(refine st_mul rfl rfl (by omega) ?_)|(refine st_subStr (lo:=4*i) (hi:=4*i+4) rfl (congrArg (Value.int .i64) (by omega)) (congrArg (Value.int .i64) (by omega)) (by omega) (by omega) ?_)|(refine st_bytesOf rfl (fun v w4 x4 hv hb4=>?_))|(refine st_len rfl hv ?_)|(have hi16:i<16:=(by omega);have hbl:=hb23 i hi16;refine c_loopV (fun (k:Nat) w'=>Ext w1 w'∧k≤4∧SlE u8E w' v (s.extract (4*i) (4*i+4)).data.toList∧At w' b3 (.cells (wCs (schR (blkW s.data.toList) i (partW (s.extract (4*i) (4*i+4)).data.toList k))).toArray T.n_64_uint32 (0,0))) (fun k=> [(0,.string s),(2,.pointer (some ⟨b2,0,none⟩)),(3,.pointer (some ⟨b3,0,none⟩)),(4,.int .i64 i),(9,.int .i64 i),(21,v),(22,.int .i64 ((s.extract (4*i) (4*i+4)).data.toList.length:Nat)),(23,.int .i64 k)]) (fun k=>4 - k) 0 ⟨rfl,rfl,rfl,rfl,rfl,rfl,rfl,rfl,trivial⟩ ⟨by exact fx,by omega,by exact fx,part0 (by omega) (by focus (repeat (first|assumption|(apply At.ext;assumption))))⟩ ?_;rintro k ρ4 w6 ⟨x6,hk,hv6,ha6⟩)|(refine st_elemE rfl rfl hv6 rfl (by omega) (fun ad r7=>?_);have hkl:k<4:=(by omega))|(refine st_store rfl rfl (u32_one _) (by focus (repeat (first|assumption|(apply At.ext;assumption)))) (by rw [wCs_len];first|(rw [schA_length (by omega)];omega)|(rw [schR_length (by omega)];omega)) (fun w8 c8 a8=>?_))|(have e:i=64:=(by omega);subst e;refine st_lN0 (n:=64) rfl (Row.of_at ha) (by rw [wCs_len,schA_length (by omega)];exact Nat.le_refl _) (List.take_of_length_le (by rw [wCs_len,schA_length (by omega)];exact Nat.le_refl _)) ?_)|(refine st_setN (w0:=w) (vs:=wCs (schA (blkW s.data.toList) 64)) (by exact fx) hb2 (a2.ext x3) rfl rfl (by rw [wCs_len,schA_length (by omega)]) (by rw [List.length_replicate]) (wCs_one _) (fun w9 x9 c9 a9 r9=>?_)))
 ·refine ⟨k+1,⟨rfl,rfl,rfl,rfl,rfl,rfl,rfl,rfl,trivial⟩,⟨(x6.chg c8).mono (by intro y hy;simp at hy;right;omega),by omega,SlE.chg c8 hv6 (fun a m c e hm=>?_),?_⟩,by omega⟩
  ·have h1:=hb4 a.block (by rw [e];simp [blkOf])
   have h2:=ha.lt
   simp at hm;omega
  ·rw [←part_step (by omega)]
   exact a8
 ·obtain rfl:k=4:=by omega
  rw [part_last hi16] at ha6
  exact ⟨i+1,⟨rfl,rfl,rfl,rfl,trivial⟩,⟨x6,by omega,ha6⟩,by omega⟩
 ·have x7:Ext w1 w8:=(Ext.chg (w:=w1) (by exact fx) c8).mono (by intro y hy;simp at hy;right;omega)
  refine ⟨i+1,⟨rfl,rfl,rfl,rfl,trivial⟩,⟨x7,by omega,?_⟩,by omega⟩
  rw [←sch_step (by omega) (by omega)]
  exact a8
 ·exact x_ret (ret1 (rv_cell r9 rfl (by rw [wCs_len,schA_length (by omega)]))) ⟨by rw [schA_64],x9⟩
end Go.Proofs.YtfebcajheojodaaGreatDoor
end
section
namespace Go.Proofs.YtfebcajheojodaaGreatDoor
open Go Go.K
attribute [local irreducible] regK codeK retK KOp.wp K.Spec u32 leS vnS str zero32 wseq wCs schR schA blkW partW wAt kTab rnds runP padL addN outW catB
theorem begin_spec (w:World):K.Spec Tryz.prog F.sha_begin [] w fun r w'=>r=.agg (wCs s8Init.l).toArray∧Ext w w':=by
 refine s_sha_begin rfl ?_
 unfold k_sha_begin
 refine oy ?_
 repeat' (first|(refine st_build (cs:=s8Init.cs) (by kernel_rfl) ?_)|(first|refine go1 ?_|refine zg (fun _ _=>?_)|refine zi (fun _ _=>?_))|(refine zH (fun b w1 x1 a1 hb=>?_))|refine st_setN (w0:=w) (vs:=s8Init.cs) (by exact fx) (Nat.le_trans (by exact fx) hb) (by focus (repeat (first|assumption|(apply At.ext;assumption)))) rfl rfl rfl rfl (cs_one _) (fun w5 x5 c5 a5 r5=>?_))
 exact x_ret (ret1 (rv_cell r5 rfl rfl)) ⟨by rw [S8.cs_eq],x5⟩
theorem keys_spec (w:World):K.Spec Tryz.prog F.sha_keys [] w fun r w'=>r=.agg (wCs kTab).toArray∧Ext w w':=by
 refine s_sha_keys rfl ?_
 unfold k_sha_keys
 refine oy ?_
 repeat' (first|(refine st_build (cs:=wCs kTab) (by kernel_rfl) ?_)|(first|refine go1 ?_|refine zg (fun _ _=>?_)|refine zi (fun _ _=>?_))|(refine zH (fun b w1 x1 a1 hb=>?_))|refine st_setN (w0:=w) (vs:=wCs kTab) (by exact fx) (Nat.le_trans (by exact fx) hb) (by focus (repeat (first|assumption|(apply At.ext;assumption)))) rfl rfl (by kernel_rfl) (by kernel_rfl) (wCs_one _) (fun w5 x5 c5 a5 r5=>?_))
 exact x_ret (ret1 (rv_cell r5 rfl (by kernel_rfl))) ⟨rfl,x5⟩
abbrev ZR (n:Nat):List Value:=List.replicate n (Value.int .u32 0)
theorem l8 (s:S8):s.l.length=8:=rfl
theorem high4_spec (x:W32) (w:World):K.Spec Tryz.prog F.sha_high [.int .u64 (x.toNat:Nat),.int .i64 4] w fun r w'=>r=.string (str (leL x.toNat 4).reverse)∧Ext w w':=high_spec x.toNat 4 (by decide) w
theorem run_z (m:List UInt8):runP m 0=s8Init:=by unfold runP;rfl
theorem dsize {m:List UInt8} {N n:Nat} (hN:m.length=64*N) (hn:n≤N):(str (m.drop (64*n))).size=64*(N - n):=by
 rw [str_size,List.length_drop];omega
theorem ne_sz {m:List UInt8} {N n:Nat} (hN:m.length=64*N) (hn:n≤N) (h:¬str (m.drop (64*n))=⟨#[]⟩):n<N:=by
 rcases Nat.lt_or_ge n N with h1|h1
 ·exact h1
 ·exact absurd (by rw [List.drop_eq_nil_of_le (by omega),str_nil]) h
theorem round2_spec (s:S8) (k x:W32) (w:World):K.Spec Tryz.prog F.sha_round [.agg (wCs s.l).toArray,u32 k,u32 x] w fun r w'=>r=.agg (wCs (rnd s k x).l).toArray∧Ext w w':=by
 rw [←S8.cs_eq,←S8.cs_eq];exact round_spec s k x w
theorem rnds_z (W:List W32) (H:S8):rnds W H 0=H:=by unfold rnds;rfl
theorem rnds_s (W:List W32) (H:S8) (i:Nat):rnds W H (i+1)=rnd (rnds W H i) (wAt kTab i) (wAt W i):=by conv=>lhs;unfold rnds
theorem kTab_len:kTab.length=64:=by unfold kTab;rfl
theorem addN_z (s t:S8):addN s.l t.l 0=s.l:=addN_zero s t
theorem run_s (m:List UInt8) (n:Nat):runP m (n+1)=add8 (runP m n) (rnds (wseq (blkW (m.drop (64*n))) 64) (runP m n) 64):=by conv=>lhs;unfold runP;unfold comp
section
variable {P:Program} {d:Option Tmp} {r:KR} {K:Env→World→Prop} {ρ:Env} {w:World}
theorem st_dropStr {x l:Operand} {s:ByteArray} {kl:IntKind} {lo:Nat} (hx:ev ρ x=.string s) (hl:ev ρ l=.int kl (lo:Nat)) (h2:lo≤s.size) (k:regK P r K (put ρ d (.string (s.extract lo s.size))) w):regK P (.cons ⟨d,.sliceStr x (some l) none,none⟩ r) K ρ w:=
 st_fix rfl (by
  simp only [KOp.fix,hx,hl]
  rw [Option.bind_some,if_pos (by omega),Option.map_some,Int.toNat_natCast]) k
end
set_option maxHeartbeats 4000000 in
theorem dig_spec (s:ByteArray) (hs:s.size≤4000000) (w:World):K.Spec Tryz.prog F.sha_Sum [.string s] w fun r w'=>r=.string (shaS s)∧Ext w w':=by
 obtain ⟨N,hN⟩:∃N,(padL s.data.toList).length=64*N:=⟨_,padL_len s⟩
 have hl:=padL_le s
 generalize hm:padL s.data.toList=m at hN hl
 refine s_sha_Sum rfl ?_
 unfold k_sha_Sum
 refine oy ?_
 repeat' (first|(first|refine go1 ?_|refine zg (fun _ _=>?_)|refine zi (fun _ _=>?_))|(refine zC rfl (begin_spec _) ?_;rintro _ w1 ⟨rfl,x1⟩)|(refine zC rfl (keys_spec _) ?_;rintro _ w2 ⟨rfl,x2⟩)|(refine zH (fun b3 w3 x3 (a3:At w3 b3 (.cells (ZR 8).toArray T.n_8_uint32 (0,0))) hb3=>?_);have l3:=a3.lt)|(refine zH (fun b4 w4 x4 (a4:At w4 b4 (.cells (ZR 64).toArray T.n_64_uint32 (0,0))) hb4=>?_);have l4:=a4.lt)|(refine st_storeN0 (vs:=wCs s8Init.l) rfl rfl (by rw [wCs_len];rfl) (all_one (wCs_one _)) (cur:=ZR 8) (by focus (repeat (first|assumption|(apply At.ext;assumption)))) rfl (fun w5 c5 a5=>?_);have a6:=At.chg c5 a4 (by simp;omega))|(refine st_storeN0 (vs:=wCs kTab) rfl rfl (by unfold wCs kTab;rfl) (all_one (wCs_one _)) (cur:=ZR 64) a6 rfl (fun w6 c6 a7=>?_);have a8:=At.chg c6 a5 (by simp;omega);have x6:Ext w w6:=(Ext.chg (w:=w) (by exact fx) (c5.trans c6)).mono (by have:=x1.size;have:=x2.size;have:=x3.size;intro y hy;simp at hy;right;omega))|(refine zC rfl (padded_spec s hs _) ?_;rintro _ w7 ⟨rfl,x7⟩;rw [hm]))
 repeat' (first|(refine st_joinV (b:=.cons ⟨none,.storeN 8 (t 6) (t 22),none⟩ .nil) (fun (p:Nat × Nat) w'=>Ext w8 w'∧w8.heap.size≤p.1∧w8.heap.size≤p.2∧p.1≠p.2∧At w' p.1 (.cells (wCs (wseq (blkW (m.drop (64*n))) 64)).toArray T.n_64_uint32 (0,0))∧At w' p.2 (.cells (ZR 8).toArray T.n_8_uint32 (0,0))) (fun p=> [(0,.string (str (m.drop (64*n)))),(2,.string ⟨#[]⟩),(3,.pointer (some ⟨b3,0,none⟩)),(4,.pointer (some ⟨b4,0,none⟩)),(5,.pointer (some ⟨p.1,0,none⟩)),(6,.pointer (some ⟨p.2,0,none⟩)),(22,.agg (wCs (runP m n).l).toArray)]) ?_ ?_)|(rintro ⟨b5,b6⟩ ρ2 w9 ⟨x9,(g5:w8.heap.size≤b5),(g6:w8.heap.size≤b6),(g56:b5≠b6),(d5:At w9 b5 (.cells (wCs (wseq (blkW (m.drop (64*n))) 64)).toArray T.n_64_uint32 (0,0))),(d6:At w9 b6 (.cells (ZR 8).toArray T.n_8_uint32 (0,0)))⟩;dsimp only)|(first|refine go1 ?_|refine zg (fun _ _=>?_)|refine zi (fun _ _=>?_))|(refine c_loopV (fun (n:Nat) w'=>Ext w w'∧n≤N∧At w' b3 (.cells (wCs (runP m n).l).toArray T.n_8_uint32 (0,0))∧At w' b4 (.cells (wCs kTab).toArray T.n_64_uint32 (0,0))) (fun n=> [(0,.string (str (m.drop (64*n)))),(2,.string ⟨#[]⟩),(3,.pointer (some ⟨b3,0,none⟩)),(4,.pointer (some ⟨b4,0,none⟩))]) (fun n=>N - n) 0 ⟨rfl,rfl,rfl,rfl,trivial⟩ ⟨by exact fx,by omega,by rw [run_z];focus (repeat (first|assumption|(apply At.ext;assumption))),by focus (repeat (first|assumption|(apply At.ext;assumption)))⟩ ?_;rintro n ρ w8 ⟨x8,hn,h3,h4⟩;have hsz:=dsize hN hn)|(refine zN rfl (fun h=>?_) (fun h=>?_))|refine zB ?_ ?_|(refine zC rfl (sched_spec _ (by rw [hsz];have:=ne_sz hN hn h;omega) (by omega) _) ?_;rintro _ w9 ⟨rfl,x9⟩;have s9:=x9.size)|(refine st_lN0 (n:=8) (l:=wCs (runP m n).l) rfl (Row.of_at (t:=T.n_8_uint32) (f:=(0,0)) (by first|(focus (repeat (first|assumption|(apply At.ext;assumption)));done)|exact h3.ext z10)) (by rw [wCs_len];exact Nat.le_refl _) (by rw [List.take_of_length_le];rw [wCs_len];exact Nat.le_refl _) ?_)|(refine zH (fun b6 w6 y6 (d6:At w6 b6 (.cells (ZR 8).toArray T.n_8_uint32 (0,0))) hb6=>?_);have s6:=y6.size;have l6:=d6.lt;have g6:w8.heap.size≤b6:=Nat.le_trans (Ext.size (by exact fx)) hb6)|(refine zH (fun b5 w5 y5 (d5:At w5 b5 (.cells (ZR 64).toArray T.n_64_uint32 (0,0))) hb5=>?_);have s5:=y5.size;have l5:=d5.lt;have g5:w8.heap.size≤b5:=Nat.le_trans (Ext.size (by exact fx)) hb5)|(refine st_storeN0 (vs:=wCs (wseq (blkW (m.drop (64*n))) 64)) rfl (congrArg (fun l:List UInt8=>Value.agg (wCs (wseq (blkW l) 64)).toArray) (str_list _)) (by rw [wCs_len,wseq_length]) (all_one (wCs_one _)) (cur:=ZR 64) (by focus (repeat (first|assumption|(apply At.ext;assumption)))) rfl (fun w10 c10 d10=>?_);have z10:Ext w8 w10:=(Ext.chg (w:=w8) (by exact fx) c10).mono (by intro y hy;simp at hy;right;omega)))
 all_goals first
  |(exact ⟨(b5,b6),⟨rfl,rfl,rfl,rfl,rfl,rfl,rfl,trivial⟩,by exact fx,by omega,by omega,by show b5≠b6;omega,by focus (repeat (first|assumption|(apply At.ext;assumption))),by first|(focus (repeat (first|assumption|(apply At.ext;assumption)));done)|exact At.chg c10 (by focus (repeat (first|assumption|(apply At.ext;assumption)))) (by simp;omega)⟩)
  |skip
 ·generalize hW:wseq (blkW (m.drop (64*n))) 64=W at*
  have lW:W.length=64:=by rw [←hW,wseq_length]
  refine st_storeN0 (vs:=wCs (runP m n).l) rfl rfl (by rw [wCs_len];rfl) (all_one (wCs_one _)) (cur:=ZR 8) d6 rfl (fun w10 c10 d10=>?_)
  have e5:=At.chg c10 d5 (by simp;omega)
  have z10:Ext w8 w10:=(Ext.chg x9 c10).mono (by intro y hy;simp at hy;right;omega)
  repeat' (first|(first|refine go1 ?_|refine zg (fun _ _=>?_)|refine zi (fun _ _=>?_))|refine zL rfl (fun h=>?_) (fun h=>?_)|(refine c_loopV (fun (i:Nat) w'=>Ext w8 w'∧i≤64∧At w' b5 (.cells (wCs W).toArray T.n_64_uint32 (0,0))∧At w' b6 (.cells (wCs (rnds W (runP m n) i).l).toArray T.n_8_uint32 (0,0))) (fun i=> [(0,.string (str (m.drop (64*n)))),(2,.string ⟨#[]⟩),(3,.pointer (some ⟨b3,0,none⟩)),(4,.pointer (some ⟨b4,0,none⟩)),(5,.pointer (some ⟨b5,0,none⟩)),(6,.pointer (some ⟨b6,0,none⟩)),(23,.int .i64 i)]) (fun i=>64 - i) 0 ⟨rfl,rfl,rfl,rfl,rfl,rfl,rfl,trivial⟩ ⟨z10,by omega,e5,by rw [rnds_z];exact d10⟩ ?_;rintro i ρ3 w11 ⟨x11,hi,q5,q6⟩)|(refine c_loopV (fun (j:Nat) w'=>Ext w w'∧j≤8∧At w' b4 (.cells (wCs kTab).toArray T.n_64_uint32 (0,0))∧At w' b3 (.cells (wCs (addN (runP m n).l (rnds W (runP m n) 64).l j)).toArray T.n_8_uint32 (0,0))∧At w' b6 (.cells (wCs (rnds W (runP m n) 64).l).toArray T.n_8_uint32 (0,0))) (fun j=> [(0,.string (str (m.drop (64*n)))),(2,.string ⟨#[]⟩),(3,.pointer (some ⟨b3,0,none⟩)),(4,.pointer (some ⟨b4,0,none⟩)),(6,.pointer (some ⟨b6,0,none⟩)),(35,.int .i64 j)]) (fun j=>8 - j) 0 ⟨rfl,rfl,rfl,rfl,rfl,rfl,trivial⟩ ⟨x8.trans x11,by omega,h4.ext x11,by rw [addN_z];exact h3.ext x11,by rw [show 64=i by omega];exact q6⟩ ?_;rintro j ρ4 w12 ⟨x12,hj,q4,q3,q7⟩)|(refine st_arr i rfl rfl (by omega) ?_)|(refine st_arr j rfl rfl (by omega) ?_)|(refine st_ldW (l:=W) (ad:=⟨b5,0,none⟩) i rfl (Row.of_at (t:=T.n_64_uint32) (f:=(0,0)) (by focus (repeat (first|assumption|(apply At.ext;assumption))))) (by omega) ?_)|(refine st_ldW (l:=kTab) (ad:=⟨b4,0,none⟩) i rfl (Row.of_at (t:=T.n_64_uint32) (f:=(0,0)) (by focus (repeat (first|assumption|(apply At.ext;assumption))))) (by rw [kTab_len];omega) ?_)|(refine st_ldW (l:=addN (runP m n).l (rnds W (runP m n) 64).l j) (ad:=⟨b3,0,none⟩) j rfl (Row.of_at (t:=T.n_8_uint32) (f:=(0,0)) (by focus (repeat (first|assumption|(apply At.ext;assumption))))) (by rw [addN_length];omega) ?_)|(refine st_ldW (l:=(rnds W (runP m n) 64).l) (ad:=⟨b6,0,none⟩) j rfl (Row.of_at (t:=T.n_8_uint32) (f:=(0,0)) (by focus (repeat (first|assumption|(apply At.ext;assumption))))) (by rw [l8];omega) ?_)|(refine st_lN0 (n:=8) (l:=wCs (rnds W (runP m n) i).l) rfl (Row.of_at (t:=T.n_8_uint32) (f:=(0,0)) (by focus (repeat (first|assumption|(apply At.ext;assumption))))) (by rw [wCs_len];exact Nat.le_refl _) (by rw [List.take_of_length_le];rw [wCs_len];exact Nat.le_refl _) ?_)|(refine zC rfl (round2_spec (rnds W (runP m n) i) (wAt kTab i) (wAt W i) _) ?_;rintro _ w13 ⟨rfl,x13⟩)|(first|refine st_wAdd rfl rfl ?_|refine st_wXor rfl rfl ?_|refine st_wAnd rfl rfl ?_|refine st_wOr rfl rfl ?_|refine st_wNot rfl ?_|refine st_wByte rfl ?_)|(refine st_storeN0 (vs:=wCs (rnd (rnds W (runP m n) i) (wAt kTab i) (wAt W i)).l) rfl rfl (by rw [wCs_len];rfl) (all_one (wCs_one _)) (cur:=wCs (rnds W (runP m n) i).l) (by focus (repeat (first|assumption|(apply At.ext;assumption)))) (by rw [wCs_len];rfl) (fun w14 c14 d14=>?_))|(refine st_store rfl rfl (u32_one _) (by focus (repeat (first|assumption|(apply At.ext;assumption)))) (by rw [wCs_len,addN_length];omega) (fun w15 c15 d15=>?_))|(refine st_dropStr (lo:=64) rfl rfl (by rw [hsz];have:=ne_sz hN hn (by assumption);omega) ?_))
  ·exact ⟨i+1,⟨rfl,rfl,rfl,rfl,rfl,rfl,rfl,trivial⟩,⟨(Ext.chg (w:=w8) (by exact fx) c14).mono (by intro y hy;simp at hy;right;omega),by omega,At.chg c14 (by focus (repeat (first|assumption|(apply At.ext;assumption)))) (by simp;omega),by rw [rnds_s];exact d14⟩,by omega⟩
  ·have hl3:=h3.lt
   have z1:=x1.size
   have z2:=x2.size
   exact ⟨j+1,⟨rfl,rfl,rfl,rfl,rfl,rfl,trivial⟩,⟨(Ext.chg (w:=w) (by exact fx) c15).mono (by intro y hy;simp at hy;right;omega),by omega,At.chg c15 (by focus (repeat (first|assumption|(apply At.ext;assumption)))) (by simp;omega),by rw [←add_step (by omega)];exact d15,At.chg c15 (by focus (repeat (first|assumption|(apply At.ext;assumption)))) (by simp;omega)⟩,by omega⟩
  ·have hlt:=ne_sz hN hn (by assumption)
   have ej:j=8:=by omega
   subst ej
   exact ⟨n+1,⟨congrArg Value.string (by rw [drop_str,str_list,List.drop_drop];rfl),rfl,rfl,rfl,trivial⟩,⟨by exact fx,by omega,by rw [run_s,hW,←addN_eight];exact q3,q4⟩,by omega⟩
 ·have hn0:n=N:=by
   rcases Nat.lt_or_ge n N with h1|h1
   ·rw [h] at hsz
    have h0:(⟨#[]⟩:ByteArray).size=0:=rfl
    omega
   ·omega
  subst hn0
  have hout:∀j,(catB (fun x:W32=>str (leL x.toNat 4).reverse) ((runP m n).l.take j)).size≤32:=fun j=>by
   have h1:=catB_size (fun x:W32=>str (leL x.toNat 4).reverse) 4 ((runP m n).l.take j) fun x _=>by rw [str_size,List.length_reverse,leL_length];exact Nat.le_refl _
   have h2:((runP m n).l.take j).length≤8:=by rw [List.length_take,l8];omega
   omega
  repeat' (first|(first|refine go1 ?_|refine zg (fun _ _=>?_)|refine zi (fun _ _=>?_))|refine zL rfl (fun h=>?_) (fun h=>?_)|(refine zH (fun b w9 x9 a9 hb9=>?_);have hW:BldT b b ⟨#[]⟩ w9:=(Bld.new (Nat.le_refl _) a9))|(refine st_lN0 (n:=8) (l:=wCs (runP m n).l) rfl (Row.of_at (t:=T.n_8_uint32) (f:=(0,0)) (h3.ext x9)) (by rw [wCs_len];exact Nat.le_refl _) (by rw [List.take_of_length_le];rw [wCs_len];exact Nat.le_refl _) ?_)|(refine c_loopV (fun (j:Nat) w'=>Ext w8 w'∧j≤8∧BldT b b (catB (fun x:W32=>str (leL x.toNat 4).reverse) ((runP m n).l.take j)) w') (fun j=> [(9,.pointer (some ⟨b,0,none⟩)),(47,.agg (wCs (runP m n).l).toArray),(48,.int .i64 j)]) (fun j=>8 - j) 0 ⟨rfl,rfl,rfl,trivial⟩ ⟨by exact fx,by omega,by rw [List.take_zero,catB_nil];exact hW⟩ ?_;rintro j ρ4 w10 ⟨x10,hj,hB⟩;have hz:=hout j)|(refine st_aggW (l:=(runP m n).l) rfl rfl (by omega) (l8 _) ?_)|(refine st_wWide rfl ?_)|(refine zC rfl (high4_spec (wAt (runP m n).l j) _) ?_;rintro _ w11 ⟨rfl,x11⟩)|(refine zC rfl (wr_spec (str (leL (wAt (runP m n).l j).toNat 4).reverse) _ (hB.ext x11) (by rw [str_size,List.length_reverse,leL_length];omega)) ?_;rintro _ w12 ⟨hB2,hW2⟩)|(refine zC rfl (bstr_spec _ hB) ?_;rintro _ w13 ⟨rfl,hB3,hW3⟩))
  ·refine ⟨j+1,⟨rfl,rfl,rfl,trivial⟩,⟨hW2.ext (x10.trans x11) hb9,by omega,?_⟩,by omega⟩
   have hjl:j<(runP m n).l.length:=by rw [l8];omega
   rw [catB_take _ hjl]
   have e:wAt (runP m n).l j=(runP m n).l[j]:=by unfold wAt;rw [List.getD_eq_getElem?_getD,List.getElem?_eq_getElem hjl];rfl
   rw [←e];exact hB2
  ·refine x_ret rfl ⟨congrArg Value.string ?_,x8.trans (hW3.ext x10 hb9)⟩
   rw [List.take_of_length_le (by rw [l8];omega),shaS,hm,hN,Nat.mul_div_cancel_left _ (by decide),outW]
theorem twice_spec (s:ByteArray) (hs:s.size≤4000000) (w:World):K.Spec Tryz.prog F.sha_Twice [.string s] w fun r w'=>r=.string (sha2 s)∧Ext w w':=by
 refine s_sha_Twice rfl ?_
 unfold k_sha_Twice
 refine oy ?_
 repeat' (first|(first|refine go1 ?_|refine zg (fun _ _=>?_)|refine zi (fun _ _=>?_))|(refine zC rfl (dig_spec s hs _) ?_;rintro _ w1 ⟨rfl,x1⟩)|(refine zC rfl (dig_spec (shaS s) (by rw [shaS_size];decide) _) ?_;rintro _ w2 ⟨rfl,x2⟩))
 exact x_ret rfl ⟨by rw [sha2];rfl,by exact fx⟩
end Go.Proofs.YtfebcajheojodaaGreatDoor
end
