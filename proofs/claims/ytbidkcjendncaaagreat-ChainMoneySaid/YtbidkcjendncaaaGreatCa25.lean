/- Contracts: a chain, its last block taken back. Plain: what the document fixes of chains. Contracts: a grant; what the document fixes of chains. Contracts: what the document fixes of chains. Contracts: errors.Is of equal numbers (walked with the kit's own steps). Plain: chains of empty blocks. The law ChainNil. Contracts: the document's lists of coins. Contracts: the document's coins of numbers, an -/
import Derived.Test.YtbidkcjendncaaaGreatChecked
import Derived.WalkKit
import Derived.LaidEql
import Derived.Lib.IfaceEq
import Derived.Stop.Asserts
import Derived.RowKitTokens
import Derived.Test.YtbidkcjendncaaaGreatCa24
set_option linter.unusedVariables false
set_option linter.unusedSimpArgs false
section
namespace Go.K
open Go
section
variable {P:Program} {d:Option Tmp} {r:KR} {K:Env→World→Prop} {ρ:Env} {w:World}
theorem st_elemO {α:Type} {E:R α} {t:TypeId} {B:Nat} {M:List Nat} {v:Value} {l:List α} {size:Nat} {x i:Operand} {kd:IntKind} {n:Nat} (hx:ev ρ x=v) (hi:ev ρ i=.int kd (n:Nat)) (hs:OwnR E t B M w v l) (hk:size=E.k) (hr:n<l.length)
  (k:∀ad cs,Row w ad cs→E.rel (blkOf v++M) w cs l[n]→regK P r K (put ρ d (.pointer (some ad))) w):regK P (.cons ⟨d,.indexAddr size x i,none⟩ r) K ρ w:=by
 obtain ⟨css,h1,h2⟩:=hs
 have hr':n<css.length:=by rw [h2.length];exact hr
 exact st_elemE (E:=vecE E.k E.pos) hx hi h1.sl hk hr' fun ad hrow=>k ad _ hrow (h2.get n hr' hr)
theorem st_predN {x:Operand} {n:Nat} (hx:ev ρ x=.int .i64 (n:Nat)) (h0:0<n) (hr:n≤1000000) (k:regK P r K (put ρ d (.int .i64 (n - 1:Nat))) w):regK P (.cons ⟨d,.bin .sub x (.const (.int .i64 1)),none⟩ r) K ρ w:=
 st_sub hx rfl (by omega) (by rw [show ((n:Nat):Int) - 1=((n - 1:Nat):Int) by omega];exact k)
theorem st_cutR {size:Nat} {x h:Operand} {b len cap n:Nat} {kd:IntKind} (hx:ev ρ x=.slice (some ⟨b,0,none⟩) len cap) (hh:ev ρ h=.int kd (n:Nat)) (hn:n≤cap) (k:regK P r K (put ρ d (.slice (some ⟨b,0,none⟩) n cap)) w):regK P (.cons ⟨d,.sliceSl size x none (some h),none⟩ r) K ρ w:=by
 refine st_fix rfl ?_ k
 have e:(Addr.add ⟨b,0,none⟩ 0)=⟨b,0,none⟩:=rfl
 simp only [KOp.fix,hx,hh,Option.bind_some,Option.map_some]
 rw [if_pos (by omega)]
 by_cases hc:cap=0
 ·simp [hc]
 ·simp [hc,e]
end
end Go.K
namespace Go.Proofs.YtbidkcjendncaaaGreat
open Go Go.K
attribute [local irreducible] regK codeK retK KOp.wp K.Spec u32 leS vnS str zero32 checkT applyL encT idT sizeT
set_option maxHeartbeats 4000000 in
theorem chdisc_spec {U:List Nat} {B c:Nat} {M:List Nat} {ch:Ch} (w:World) (h:ChR U w B c M ch) (hn:∀k,k≤ch.bs.length→(coinsN ch.bs k).length≤80000) (hl:ch.bs.length≤100000) (ht:ch.top≤100000):
  K.Spec Tryz.prog F.chain_Chain_Disconnect [.pointer (some ⟨c,0,none⟩)] w fun r w'=>∃tv M',r=.tuple #[tv,.int .i64 (discE ch)]∧ChR U w' B c M' (discC ch)∧(∀y∈M',y∈M)∧Chg M w w'∧(discE ch=0→SlR txR (M'++U) w' tv (ch.bs.getD (ch.bs.length - 1) []))∧(discE ch≠0→tv=.slice none 0 0):=by
 have hlt:=h.lt
 obtain ⟨b,mb,lv,h1,h2,h3,hM,g1,g2,g3,g4,g5,g6,g8⟩:=id h
 have hcM:c∈M:=by rw [hM];simp
 have hbM:b∈M:=by rw [hM];simp
 have hmM:mb∈M:=by rw [hM];simp
 have hlM:∀y∈blkOf lv,y∈M:=fun y hy=>by rw [hM];simp [hy]
 have g7:=h2.ne
 have lc:=hlt c hcM
 have lb:=hlt b hbM
 have lm:=hlt mb hmM
 have r1:=Row.of_at h1
 have sl:=h3.sl (fun y hy hv=>by
  rcases List.mem_append.1 hy with hy|hy
  ·have:=g6 y hv;simp at hy;omega
  ·exact g8 y (hlM y hv) hy)
 have hll:(linksL ch.bs).length=ch.bs.length:=linksL_len _
 refine s_chain_Chain_Disconnect rfl ?_
 unfold k_chain_Chain_Disconnect
 refine oy ?_
 by_cases q0:ch.bs.length=0
 ·have e0:discE ch=8:=by unfold discE;rw [if_pos q0]
  have e1:discC ch=ch:=by unfold discC;rw [if_pos (by rw [e0];decide)]
  rw [e0,e1]
  repeat (first|(refine zG (d:=some 14) (E:=lkR) (l:=linksL ch.bs) rfl sl ?_)|(refine st_fixV (d:=some 15) (.bool true) rfl (congrArg (fun b=>some (Value.bool b)) (decide_eq_true (by omega))) ?_)|(first|refine go1 ?_|refine zg (fun _ _=>?_)|refine zi (fun _ _=>?_)))
  exact x_ret rfl ⟨_,M,rfl,h,fun y hy=>hy,Chg.refl _ _,fun q=>absurd q (by decide),fun _=>rfl⟩
 ·by_cases q1:ch.bs.length+6≤ch.top
  ·have e0:discE ch=18:=by unfold discE;rw [if_neg q0,if_pos q1]
   have e1:discC ch=ch:=by unfold discC;rw [if_pos (by rw [e0];decide)]
   rw [e0,e1]
   repeat (first|(refine zG (d:=some 14) (E:=lkR) (l:=linksL ch.bs) rfl sl ?_)|(refine st_fixV (d:=some 15) (.bool false) rfl (congrArg (fun b=>some (Value.bool b)) (decide_eq_false (by omega))) ?_)|(refine zg (fun w2 x2=>?_))|(refine zG (d:=some 21) (E:=lkR) (l:=linksL ch.bs) rfl (SlR.ext sl (by exact fx)) ?_)|(refine st_fixV (d:=some 27) (.bool true) rfl (congrArg (fun b=>some (Value.bool b)) (decide_eq_true (by omega))) ?_)|(first|refine go1 ?_|refine zg (fun _ _=>?_)|refine zi (fun _ _=>?_)))
   exact x_ret rfl ⟨_,M,rfl,h.ext x2,fun y hy=>hy,Chg.mono x2 (by simp),fun q=>absurd q (by decide),fun _=>rfl⟩
  ·have e0:discE ch=0:=by unfold discE;rw [if_neg q0,if_neg q1]
   have e1:discC ch=⟨ch.bs.take (ch.bs.length - 1),ch.top⟩:=by unfold discC;rw [if_neg (by simp [e0])]
   obtain ⟨n,hnn⟩:∃n,ch.bs.length=n+1:=⟨ch.bs.length - 1,by omega⟩
   have en:ch.bs.length - 1=n:=by omega
   have hkl:n<(linksL ch.bs).length:=by omega
   have eS:coinsC ch.bs=coinsN ch.bs (n+1):=by unfold coinsC;rw [hnn]
   rw [eS] at h2
   have elk:(linksL ch.bs)[n]=lkN ch.bs n:=linksL_at (by omega)
   obtain ⟨bl,cap,elv,hcap⟩:∃bl cap,lv=.slice (some ⟨bl,0,none⟩) (linksL ch.bs).length cap∧(linksL ch.bs).length≤cap:=by
    rcases h3.form with ⟨-,h⟩|h
    ·rw [h] at hkl;simp at hkl
    ·exact h
   subst elv
   have hin:∀y∈ [bl]++ [c,b,mb],y∈M:=fun y hy=>by
    simp at hy
    rcases hy with rfl|rfl|rfl|rfl
    ·exact hlM _ (by simp [blkOf])
    ·exact hcM
    ·exact hbM
    ·exact hmM
   have g6':=g6 bl (by simp [blkOf])
   have lbl:=hlt bl (hin bl (by simp))
   repeat (first|(refine zg (fun w3 x3=>?_))|(refine zG (d:=some 14) (E:=lkR) (l:=linksL ch.bs) rfl sl ?_)|(refine st_fixV (d:=some 15) (.bool false) rfl (congrArg (fun b=>some (Value.bool b)) (decide_eq_false (by omega))) ?_)|(refine zG (d:=some 21) (E:=lkR) (l:=linksL ch.bs) rfl (SlR.ext sl (by exact fx)) ?_)|(refine st_fixV (d:=some 27) (.bool false) rfl (congrArg (fun b=>some (Value.bool b)) (decide_eq_false (by omega))) ?_)|(refine zG (d:=some 36) (E:=lkR) (l:=linksL ch.bs) rfl (SlR.ext sl (by exact fx)) ?_)|(refine st_predN (d:=some 37) (n:=(linksL ch.bs).length) rfl (by omega) (by omega) ?_)|(rw [show (linksL ch.bs).length - 1=n by omega];refine st_elemO (d:=some 38) (v:=.slice (some ⟨bl,0,none⟩) (linksL ch.bs).length cap) (E:=lkR) (M:= [c,b,mb]++U) (B:=B) (t:=T.chain_link) rfl rfl (n:=n) (l:=linksL ch.bs) (OwnR.ext h3 (by exact fx)) rfl hkl (fun ad cs r4 he=>?_);rw [elk] at he;obtain ⟨tv,iv,sv,mv,mp,rfl, -⟩:=id he)|(refine zH (d:=some 4) (fun b4 w4 x4 a4 hb4=>?_))|(first|refine go1 ?_|refine zg (fun _ _=>?_)|refine zi (fun _ _=>?_)))
   have x03:Ext w w3:=by exact fx
   have x04:Ext w w4:=by exact fx
   have s03:=x03.size
   have he':lkR.rel ([bl]++([c,b,mb]++U)) w3 [tv,iv,sv,mv,mp] (lkN ch.bs n):=he
   have ones:=lkR.one he'
   refine st_storeN0 (b:=b4) (vs:= [tv,iv,sv,mv,mp]) rfl rfl rfl ones a4 rfl (fun w5 c5 a5=>?_)
   have c35:Chg [b4] w3 w5:=(Chg.trans x4 c5).mono (by simp)
   have c05:Chg [b4] w w5:=(Chg.trans x04 c5).mono (by simp)
   have he5:lkR.rel ([bl]++([c,b,mb]++U)) w5 [tv,iv,sv,mv,mp] (lkN ch.bs n):=lkR.step he' c35 (fun y hy=>.inr (by simp at hy;omega)) (fun y hy=>.inl hy)
   obtain ⟨tv',iv',sv',mv',mp',heq,z1,z2,z3,z4,z5⟩:=he5
   simp only [List.cons.injEq,and_true] at heq
   obtain ⟨rfl,rfl,rfl,rfl,rfl⟩:=heq
   have h15:=h1.chg c05 (by simp;omega)
   have S5:=h2.chg c05 (by simp;omega) (by simp;omega)
   have own5:=h3.step c05 (M':= [c,b,mb]++U) (fun y hy=>by
    simp at hy;subst hy
    exact ⟨by simp [blkOf];omega,.inr (by omega)⟩) (fun y hy=>.inl hy)
   have r15:=Row.of_at h15
   have r45:=Row.of_at a5
   have n1:=hn n (by omega)
   have n2:=hn (n+1) (by omega)
   have n3:=lessL_len (coinsN ch.bs n) (coinsN ch.bs (n+1))
   have n4:=lessL_len (coinsN ch.bs (n+1)) (coinsN ch.bs n)
   clear c35 c5 a4 x4 he he' r4 x03 x04 r1 sl h h1 h2 h3
   have sub:∀y∈ [b,mb],y∈ [bl]++([c,b,mb]++U):=fun y hy=>by simp at hy;rcases hy with rfl|rfl<;>simp
   refine st_end ?_
   repeat (first|(refine zg (fun w6 x6=>?_))|(first|refine go1 ?_|refine zg (fun _ _=>?_)|refine zi (fun _ _=>?_))|(refine st_end ?_))
   refine zC (d:=some 46) rfl (brevert_spec (l:=coinsN ch.bs (n+1)) (spent:=(lkN ch.bs n).spent) (made:=(lkN ch.bs n).made) _ (S5.ext x6) ((z3.sub (fun y hy=>.inl (sub y hy))).ext x6) ((z4.sub (fun y hy=>.inl (sub y hy))).ext x6) (Nat.le_trans n3 (by omega)) (Nat.le_trans n4 (by omega)) (by rw [back_swap])) ?_
   rw [back_swap]
   rintro _ w7 ⟨rfl,S7,c7⟩
   have h17:=(h15.ext x6).chg c7 (by simp;omega)
   have a7:=(At.ext x6 a5).chg c7 (by simp;omega)
   have own7:=(own5.ext x6).step c7 (M':= [c,b,mb]++U) (fun y hy=>by
    simp at hy
    rcases hy with rfl|rfl
    ·exact ⟨by simp [blkOf];omega,.inl (by simp)⟩
    ·exact ⟨by simp [blkOf];omega,.inl (by simp)⟩) (fun y hy=>.inl hy)
   have z17:SlR txR ([bl]++([c,b,mb]++U)) w7 tv (lkN ch.bs n).txs:=(z1.ext x6).step c7 (fun y hy=>.inl (sub y hy)) (fun y hy=>.inl hy)
   have r17:=Row.of_at h17
   have r47:=Row.of_at a7
   have sl7:=own7.sl (fun y hy hv=>by
    simp [blkOf] at hv
    rcases List.mem_append.1 hy with hy|hy
    ·simp at hy;omega
    ·subst hv;exact g8 _ (hin _ (by simp)) hy)
   have hcl:=(linksL ch.bs).length
   have s7:w.heap.size≤w7.heap.size:=Nat.le_trans c05.size (Nat.le_trans x6.size c7.size)
   have c07:Chg [b4,b,mb] w w7:=(c05.trans (Chg.trans x6 c7)).mono (by simp)
   clear x6 c7 c05 a5 h15 r15 r45 own5 S5 z1 z3 z4
   repeat (first|(refine zg (fun w8 x8=>?_))|(refine zG (d:=some 59) (E:=lkR) (l:=linksL ch.bs) rfl (SlR.ext sl7 (by exact fx)) ?_)|(refine st_predN (d:=some 60) (n:=(linksL ch.bs).length) rfl (by omega) (by omega) ?_)|(rw [show (linksL ch.bs).length - 1=n by omega];refine st_cutR (d:=some 61) (b:=bl) (len:=(linksL ch.bs).length) (cap:=cap) (n:=n) rfl rfl (by omega) ?_)|(first|refine go1 ?_|refine zg (fun _ _=>?_)|refine zi (fun _ _=>?_))|(refine st_end ?_))
   refine st_store (b:=c) (o:=1) (cur:=chCs b (.slice (some ⟨bl,0,none⟩) (linksL ch.bs).length cap) ch.top) rfl rfl rfl (h17.ext x8) (Nat.le_of_ble_eq_true rfl) (fun w9 c9 a9=>?_)
   have r49:=Row.of_at ((At.ext x8 a7).chg c9 (by simp;omega))
   repeat (first|(first|refine go1 ?_|refine zg (fun _ _=>?_)|refine zi (fun _ _=>?_))|(refine st_end ?_))
   have own9:=((own7.ext x8).step c9 (M':= [c,b,mb]++U) (fun y hy=>by
    simp at hy;subst hy
    exact ⟨by simp [blkOf];omega,.inl (by simp)⟩) (fun y hy=>.inl hy)).cut (n:=n) (by omega)
   rw [e0,e1,en]
   refine x_ret rfl ⟨tv, [c,b,mb]++ [bl],rfl,⟨b,mb,.slice (some ⟨bl,0,none⟩) n cap,a9,?_,?_,rfl,g1,g2,g3,g4,g5,g6,fun y hy=>g8 y (hin y (by simp at hy ⊢;omega))⟩,fun y hy=>hin y (by simp at hy ⊢;omega),?_,fun _=>?_,fun q=>absurd rfl q⟩
   ·rw [coinsC_take (by omega)]
    exact (S7.ext x8).chg c9 (by simp;omega) (by simp;omega)
   ·rw [linksL_take (by omega)]
    exact own9
   ·refine ((c07.trans x8).trans c9).mono fun y hy=>?_
    simp at hy
    rcases hy with rfl|rfl|rfl|rfl
    ·exact .inr (by omega)
    ·exact .inl hbM
    ·exact .inl hmM
    ·exact .inl hcM
   ·exact (z17.ext x8).step c9 (fun y hy=>.inl (by simp at hy;subst hy;simp)) (fun y hy=>.inl (by
     simp at hy ⊢
     rcases hy with h|h|h|h|h<;>simp [h]))
end Go.Proofs.YtbidkcjendncaaaGreat
end
section
namespace Go.K
open Go Go.Proofs.YtbidkcjendncaaaGreat
def grT (h:Int) (outs:List TOut):Tx:=⟨2, [⟨baseP,4294967295, []⟩],outs,h⟩
def o5:List TOut:= [⟨5,⟨#[]⟩⟩]
def gw (h:Nat):Tx:=grT (h:Nat) o5
def bsW:List (List Tx):=(List.range 7).map fun i=> [gw (i+1)]
theorem wch_all:((List.range 7).all fun k=>decide ((connE ⟨bsW.take k,k⟩ (bsW.getD k [])).1=0))=true:=by kernel_rfl
theorem wch_len:decide ((coinsN bsW 1).length=1)=true:=by kernel_rfl
theorem bsW_len:bsW.length=7:=rfl
theorem bsW_at {k:Nat} (hk:k<7):bsW.getD k []= [gw (k+1)]:=by
 rw [List.getD_eq_getElem?_getD]
 unfold bsW
 rw [List.getElem?_map,List.getElem?_range hk];rfl
theorem wch_conn {k:Nat} (hk:k<7):(connE ⟨bsW.take k,k⟩ [gw (k+1)]).1=0:=by
 have:=List.all_eq_true.1 wch_all k (List.mem_range.2 hk)
 rw [bsW_at hk] at this
 exact of_decide_eq_true this
theorem bsW_take {k:Nat} (hk:k≤7):(bsW.take k).length=k:=by rw [List.length_take,bsW_len];omega
theorem bsW_succ {k:Nat} (hk:k<7):bsW.take (k+1)=bsW.take k++ [[gw (k+1)]]:=by
 have h:k<bsW.length:=by rw [bsW_len];exact hk
 have e:=bsW_at hk
 rw [List.getD_eq_getElem?_getD,List.getElem?_eq_getElem h] at e
 rw [List.take_succ_eq_append_getElem h]
 exact congrArg (fun x=>bsW.take k++ [x]) e
theorem wch_next {k:Nat} (hk:k<7):connC ⟨bsW.take k,k⟩ [gw (k+1)]=⟨bsW.take (k+1),k+1⟩:=by
 unfold connC
 rw [if_neg (by rw [wch_conn hk];decide),bsW_succ hk,bsW_take (by omega)]
 show Ch.mk _ (max k (k+1))=_
 congr 1;omega
theorem wch_disc {j:Nat} (hj:j<6):discE ⟨bsW.take (7 - j),7⟩=0∧discC ⟨bsW.take (7 - j),7⟩=⟨bsW.take (7 - (j+1)),7⟩:=by
 have hl:=bsW_take (k:=7 - j) (by omega)
 have e0:discE ⟨bsW.take (7 - j),7⟩=0:=by
  unfold discE
  simp only [hl]
  rw [if_neg (by omega),if_neg (by omega)]
 refine ⟨e0,?_⟩
 unfold discC
 rw [if_neg (by simp [e0])]
 simp only [hl,List.take_take]
 congr 2;omega
theorem wch_deep:discE ⟨bsW.take 1,7⟩=18:=rfl
theorem wch_back:discC ⟨bsW.take 1,7⟩=⟨bsW.take 1,7⟩:=rfl
theorem wch_one:(coinsC (bsW.take 1)).length=1:=of_decide_eq_true wch_len
theorem bsW_outs {n:Nat}:∀b∈bsW.take n,outsB b≤1:=fun b hb=>by
 have hb:=List.mem_of_mem_take hb
 unfold bsW at hb
 obtain ⟨i, -,rfl⟩:=List.mem_map.1 hb
 exact Nat.le_refl 1
theorem bsW_coins {n k:Nat} (hk:k≤7):(coinsN (bsW.take n) k).length≤7:=by
 have:=coinsN_len (bsW_outs (n:=n)) k
 omega
theorem gw_sm (h:Nat):(gw h).Sm:=⟨by simp [gw,grT],by simp [gw,grT,o5],by simp [gw,grT]⟩
end Go.K
end
section
namespace Go.Proofs.YtbidkcjendncaaaGreat
open Go Go.K
attribute [local irreducible] regK codeK retK KOp.wp K.Spec u32 leS vnS str zero32 checkT applyL encT idT sizeT
set_option maxHeartbeats 1000000 in
theorem grant_spec {M:List Nat} {v:Value} {outs:List TOut} (h:Int) (w:World) (hh:0≤h∧h≤1000000) (ho:SlR outR M w v outs) (hn:outs.length≤1000) (hM:∀y∈M,y<w.heap.size):K.Spec Tryz.prog F.tx_Grant [.int .i64 h,v] w fun r w'=>∃cs,r=.agg cs.toArray∧txO w.heap.size M w' cs (grT h outs)∧Ext w w':=by
 have ew:IntKind.u32.wrap h=h:=by show h%4294967296=h;omega
 refine s_tx_Grant rfl ?_
 unfold k_tx_Grant
 refine oy ?_
 repeat (first|(refine zH (d:=some 4) (fun b4 w1 x1 a1 hb4=>?_))|(refine zC (d:=some 5) rfl (base_spec _) ?_;rintro _ w2 ⟨rfl,x2⟩)|(refine st_build (d:=some 6) (cs:=inCs ⟨baseP,4294967295, []⟩ (.slice none 0 0)) rfl ?_)|(refine zI (d:=some 7) (cs:=inCs ⟨baseP,4294967295, []⟩ (.slice none 0 0)) rfl (fun b7 w3 x3 a3 hb7=>?_))|(refine zC (d:=some 9) rfl (cloneO_spec (M:=b4::b7::M) _ (ho.step (show Ext w _ by exact fx) (by simp) (fun y hy=>by simp only [List.mem_cons] at hy;rcases hy with rfl|rfl|hy;exact .inr hb4;exact .inr (by have:=Ext.size (show Ext w w2 by exact fx);omega);exact .inl hy)) (by omega) (fun y hy=>by simp only [List.mem_cons] at hy;rcases hy with rfl|rfl|hy;exact Nat.lt_of_lt_of_le a1.lt (Ext.size (by exact fx));exact a3.lt;exact Nat.lt_of_lt_of_le (hM y hy) (Ext.size (show Ext w w3 by exact fx)))) ?_;rintro ov w4 ⟨oo,x4⟩;obtain ⟨q1,q2,eov⟩:∃base cap,ov=.slice base outs.length cap:=(oo.sl (fun y hy hv=>by have:=oo.base y hv;simp only [List.mem_cons] at hy;rcases hy with rfl|rfl|hy;have:=a1.lt;have:=Ext.size (show Ext w1 w3 by exact fx);omega;have:=a3.lt;omega;have:=hM y hy;have:=Ext.size (show Ext w w3 by exact fx);omega)).form)|(rw [ew];refine st_build (d:=some 12) (cs:=txCs (grT h outs) (.slice (some ⟨b7,0,none⟩) 1 1) ov) (by rw [eov];rfl) ?_)|(first|refine go1 ?_|refine zg (fun _ _=>?_)|refine zi (fun _ _=>?_)))
 have x04:Ext w w4:=by exact fx
 have s03:=Ext.size (show Ext w w3 by exact fx)
 have s02:=Ext.size (show Ext w w2 by exact fx)
 have l3:=a3.lt
 refine st_setN (w0:=w) (n:=4) (vs:=txCs (grT h outs) (.slice (some ⟨b7,0,none⟩) 1 1) ov) x04 hb4 (At.ext x4 (At.ext x3 (At.ext x2 a1))) rfl rfl rfl rfl (by rw [eov];rfl) (fun w5 x5 c5 a5 r5=>?_)
 repeat (first|refine go1 ?_|refine zg (fun _ _=>?_)|refine zi (fun _ _=>?_))
 have hb74:b7≠b4:=by have:=a1.lt;have:=x2.size;omega
 have oib:OwnR inR T.api_In w.heap.size M w5 (.slice (some ⟨b7,0,none⟩) 1 1) [⟨baseP,4294967295, []⟩]:=
  ⟨[⟨inCs ⟨baseP,4294967295, []⟩ (.slice none 0 0),rfl,by intro v hv;simp [inCs] at hv;rcases hv with rfl|rfl|rfl|rfl<;>rfl⟩],.inr ⟨b7,1, [],rfl,by omega,(a3.ext x4).chg c5 (by simp;omega),rfl⟩,.cons ⟨_,rfl,SlR.nil _ _,⟨by decide,by decide⟩,⟨by decide,by decide⟩⟩ .nil⟩
 have oov:OwnR outR T.api_Out w.heap.size M w5 ov outs:=(oo.lower s03).step c5 (M':=M) (fun y hy=>by
  simp at hy;subst hy
  exact ⟨fun h=>by have:=oo.base _ h;have:=a1.lt;have:=Ext.size (show Ext w1 w3 by exact fx);omega,.inl (by simp)⟩) (fun y hy=>.inl (by simp [hy]))
 exact x_ret (ret1 (rv_cell r5 rfl rfl)) ⟨_,rfl,⟨_,_,rfl,oib,oov,(show is32 2 by unfold is32;omega),(show is32 h by unfold is32;omega)⟩,x5⟩
end Go.Proofs.YtbidkcjendncaaaGreat
end
section
namespace Go.Proofs.YtbidkcjendncaaaGreat
open Go Go.K
attribute [local irreducible] regK codeK retK KOp.wp K.Spec u32 leS vnS str zero32 checkT applyL encT idT sizeT bsW
theorem slAt1 {α:Type} {E:R α} {M:List Nat} {w:World} {b:Nat} {t:TypeId} {cs:List Value} {a:α} (h:At w b (.cells cs.toArray t (0,0))) (ha:E.rel (b::M) w cs a) (hb:b∉M):SlR E M w (.slice (some ⟨b,0,none⟩) 1 1) [a]:=by
 have ef:(vecE E.k E.pos).flat [R.vec ha]=cs:=by simp only [Enc.flat,List.flatMap_cons,List.flatMap_nil,List.append_nil];rfl
 have o:OwnR E t 0 M w (.slice (some ⟨b,0,none⟩) 1 1) [a]:=⟨[R.vec ha],.inr ⟨b,1, [],rfl,Nat.zero_le _,by rw [ef,List.append_nil];exact h,by rw [List.append_nil,Enc.flat_length];rfl⟩,.cons ha .nil⟩
 exact o.sl fun b' hb' h'=>by
  simp [blkOf] at h'
  subst h';exact hb hb'
theorem txO_one {B:Nat} {M:List Nat} {w w':World} {cs:List Value} {t:Tx} {b:Nat} (h:txO B M w cs t) (hM:∀y∈M,y<B) (x:Ext w w') (a:At w' b (.cells cs.toArray T.api_Tx (0,0))) (hb:w.heap.size≤b) (hMl:∀y∈M,y<w.heap.size):SlR txR M w' (.slice (some ⟨b,0,none⟩) 1 1) [t]:=by
 have h2:txR.rel (b::M) w' cs t:=txR.step (h.rel hM) x (by simp) (fun y hy=>by simp only [List.mem_cons] at hy;rcases hy with rfl|hy;exact .inr hb;exact .inl hy)
 exact slAt1 (E:=txR) a h2 (fun hm=>by have:=hMl _ hm;omega)
set_option maxHeartbeats 4000000 in
theorem wakes13_spec (w:World):K.Spec Tryz.prog F.kedgelaw13_wakes [] w fun r w'=>r=.bool true∧Ext w w':=by
 refine s_kedgelaw13_wakes rfl ?_
 unfold k_kedgelaw13_wakes
 refine oy ?_
 repeat (first|refine go1 ?_|refine zg (fun _ _=>?_)|refine zi (fun _ _=>?_))
 refine zC (d:=some 8) rfl (chnew_spec (U:= []) _ (by simp)) ?_
 rintro _ w1 ⟨c,M1,rfl,C1, -,x1⟩
 repeat (first|(refine c_loopV (fun (p:Nat × List Nat) w'=>Ext w w'∧p.1≤7∧ChR [] w' w.heap.size c p.2 ⟨bsW.take p.1,p.1⟩) (fun p=> [(1,.pointer (some ⟨c,0,none⟩)),(9,.int .i64 (p.1:Nat))]) (fun p=>7 - p.1) (0,M1) ⟨rfl,rfl,trivial⟩ ⟨x1,by simp,C1⟩ ?_;rintro ⟨k,M⟩ ρ w2 ⟨x2,hk,C2⟩;simp only at hk C2;dsimp only)|(first|refine go1 ?_|refine zg (fun _ _=>?_)|refine zi (fun _ _=>?_)))
 refine zL (x:=.tmp 10) (p:=((k:Nat):Int)<7) rfl (fun h9=>?_) (fun h9=>?_)
 ·have hk7:k<7:=by omega
  have hlt:=C2.lt
  have hbs:=C2.base
  have s2:=x2.size
  have x2':Unit→Ext w w2:=fun _=>x2
  have ek:((k:Nat):Int)+1=((k+1:Nat):Int):=by omega
  clear x2 x1
  repeat (first|(refine st_build (d:=some 15) (cs:= [.int .i64 5,.string ⟨#[]⟩]) rfl ?_)|(refine zI (d:=some 16) (cs:= [.int .i64 5,.string ⟨#[]⟩]) rfl (fun b3 w3 x3 a3 hb3=>?_))|(first|refine go1 ?_|refine zg (fun _ _=>?_)|refine zi (fun _ _=>?_)))
  have ho:SlR outR M w3 (.slice (some ⟨b3,0,none⟩) 1 1) o5:=slAt1 (E:=outR) a3 ⟨rfl,⟨by decide,by decide⟩⟩ (fun hm=>by have:=hlt _ hm;omega)
  rw [ek]
  have hM3:∀y∈M,y<w3.heap.size:=fun y hy=>Nat.lt_of_lt_of_le (hlt y hy) x3.size
  refine zC (d:=some 17) rfl (grant_spec (M:=M) (outs:=o5) ((k+1:Nat):Int) _ ⟨by omega,by omega⟩ ho (by decide) hM3) ?_
  rintro _ w4 ⟨cs,rfl,t4,x4⟩
  obtain ⟨iv,ov,rfl, -⟩:=id t4
  have ones:=txR.one (t4.rel hM3)
  repeat (first|(refine zI (d:=some 18) (cs:=txCs (grT ((k+1:Nat):Int) o5) iv ov) rfl (fun b5 w5 x5 a5 hb5=>?_))|(first|refine go1 ?_|refine zg (fun _ _=>?_)|refine zi (fun _ _=>?_)))
  have x25:Ext w2 w5:=x3.trans (x4.trans x5)
  have C5:=C2.ext x25
  have hcl:(coinsC (bsW.take k)).length+outsB [gw (k+1)]≤80000:=by
   unfold coinsC
   rw [bsW_take hk]
   have:=bsW_coins (n:=k) hk
   have e:outsB [gw (k+1)]=1:=rfl
   omega
  have hx5:=txO_one t4 hM3 x5 a5 hb5 (fun y hy=>Nat.lt_of_lt_of_le (hM3 y hy) x4.size)
  refine zC (d:=some 19) rfl (chconn_spec (N:=M) (txs:= [gw (k+1)]) _ C5 hx5 (fun y hy=>hy) (by simp) (by simp) (by simp;exact gw_sm _) (by simp) hcl (by rw [bsW_take hk];omega) (show k≤100000 by omega)) ?_
  rintro e w6 ⟨⟨i,hE⟩,⟨M',C6,hM6⟩,c6⟩
  have he:e=.nilIface:=by
   rcases hE with ⟨_,h5⟩|⟨h5, -⟩
   ·exact h5
   ·exact absurd (wch_conn hk7) h5
  subst he
  rw [wch_next hk7] at C6
  have x06:Ext w w6:=(Ext.chg ((x2' ()).trans x25) c6).mono (fun y hy=>.inr (hbs y hy))
  repeat (first|refine go1 ?_|refine zg (fun _ _=>?_)|refine zi (fun _ _=>?_))
  exact ⟨(k+1,M'),⟨rfl,rfl,trivial⟩,⟨x06,by simp only;omega,C6⟩,by simp only;omega⟩
 ·have ek:k=7:=by omega
  subst ek
  repeat (first|refine go1 ?_|refine zg (fun _ _=>?_)|refine zi (fun _ _=>?_))
  refine zC (d:=some 23) rfl (chheight_spec _ C2) ?_
  rintro _ w3 ⟨rfl,x3⟩
  have C3:=C2.ext x3
  have x03:Ext w w3:=x2.trans x3
  have e7:(⟨bsW.take 7,7⟩:Ch).bs.length=7:=bsW_take (by omega)
  rw [e7]
  clear x1 x2 x3
  repeat (first|(refine c_loopV (fun (p:Nat × List Nat) w'=>Ext w w'∧p.1≤6∧ChR [] w' w.heap.size c p.2 ⟨bsW.take (7 - p.1),7⟩) (fun p=> [(1,.pointer (some ⟨c,0,none⟩)),(3,.int .i64 ((7:Nat):Int)),(24,.int .i64 (p.1:Nat))]) (fun p=>6 - p.1) (0,M) ⟨rfl,rfl,rfl,trivial⟩ ⟨x03,by simp,C3⟩ ?_;rintro ⟨j,M4⟩ ρ w4 ⟨x4,hj,C4⟩;simp only at hj C4;dsimp only)|(first|refine go1 ?_|refine zg (fun _ _=>?_)|refine zi (fun _ _=>?_)))
  have e4:(⟨bsW.take (7 - j),7⟩:Ch).bs.length=7 - j:=bsW_take (by omega)
  have hcn:∀k,k≤(⟨bsW.take (7 - j),7⟩:Ch).bs.length→(coinsN (⟨bsW.take (7 - j),7⟩:Ch).bs k).length≤80000:=fun k hk=>Nat.le_trans (bsW_coins (by rw [e4] at hk;omega)) (by omega)
  have hb4:=C4.base
  refine zL (x:=.tmp 25) (p:=((j:Nat):Int)<6) rfl (fun h9=>?_) (fun h9=>?_)
  ·have hj6:j<6:=by omega
   obtain ⟨d1,d2⟩:=wch_disc hj6
   repeat (first|refine go1 ?_|refine zg (fun _ _=>?_)|refine zi (fun _ _=>?_))
   refine zC (d:=some 28) rfl (chdisc_spec _ C4 hcn (by rw [e4];omega) (show 7≤100000 by omega)) ?_
   rintro _ w5 ⟨tv,M',rfl,C5,hM5,c5,k1, -⟩
   rw [d2] at C5
   rw [d1]
   have k1:=k1 d1
   have eg:(⟨bsW.take (7 - j),7⟩:Ch).bs.getD ((⟨bsW.take (7 - j),7⟩:Ch).bs.length - 1) []= [gw (6 - j+1)]:=by
    rw [e4]
    show (bsW.take (7 - j)).getD (7 - j - 1) []=_
    rw [List.getD_eq_getElem?_getD,List.getElem?_take_of_lt (by omega),←List.getD_eq_getElem?_getD,bsW_at (by omega)]
    congr 2;omega
   rw [eg] at k1
   repeat (first|(refine zG (d:=some 32) (E:=txR) (l:= [gw (6 - j+1)]) rfl k1 ?_)|(refine st_fixV (d:=some 33) (.bool false) rfl rfl ?_)|(first|refine go1 ?_|refine zg (fun _ _=>?_)|refine zi (fun _ _=>?_)))
   exact ⟨(j+1,M'),⟨rfl,rfl,rfl,trivial⟩,⟨(Ext.chg x4 c5).mono (fun y hy=>.inr (hb4 y hy)),by simp only;omega,C5⟩,by simp only;omega⟩
  ·have ej:j=6:=by omega
   subst ej
   repeat (first|refine go1 ?_|refine zg (fun _ _=>?_)|refine zi (fun _ _=>?_))
   refine zC (d:=some 41) rfl (chdisc_spec _ C4 hcn (by rw [e4];omega) (show 7≤100000 by omega)) ?_
   rintro _ w5 ⟨tv,M',rfl,C5,hM5,c5, -, -⟩
   rw [show discE ⟨bsW.take (7 - 6),7⟩=18 from wch_deep]
   rw [show discC ⟨bsW.take (7 - 6),7⟩=⟨bsW.take 1,7⟩ from wch_back] at C5
   have x05:Ext w w5:=(Ext.chg x4 c5).mono (fun y hy=>.inr (hb4 y hy))
   repeat (first|refine go1 ?_|refine zg (fun _ _=>?_)|refine zi (fun _ _=>?_))
   refine zC (d:=some 52) rfl (chheight_spec _ C5) ?_
   rintro _ w6 ⟨rfl,x6⟩
   rw [show (⟨bsW.take 1,7⟩:Ch).bs.length=1 from bsW_take (by omega)]
   repeat (first|refine go1 ?_|refine zg (fun _ _=>?_)|refine zi (fun _ _=>?_))
   refine zC (d:=some 57) rfl (chcoins_spec _ (C5.ext x6) (by rw [show (coinsC (⟨bsW.take 1,7⟩:Ch).bs).length=1 from wch_one];omega)) ?_
   rintro v w7 ⟨k7, -,x7⟩
   repeat (first|(refine st_len (d:=some 58) rfl k7 ?_;rw [show (coinsC (⟨bsW.take 1,7⟩:Ch).bs).length=1 from wch_one])|(first|refine go1 ?_|refine zg (fun _ _=>?_)|refine zi (fun _ _=>?_)))
   exact x_ret rfl ⟨rfl,x05.trans (x6.trans x7)⟩
end Go.Proofs.YtbidkcjendncaaaGreat
end
section
namespace Go.Proofs.YtbidkcjendncaaaGreat
open Go Go.RowKit Go.Extern.Stop Go.Stop Go.Extern
theorem isTypeOf (v:Value) (w:World):(Extern.ReflectliteType.typeOf #[.iface 43 v]).run Tryz.prog w=.ok (.iface 155 (.agg #[.pointer (some ⟨1,43,none⟩)])) w:=by kernel_rfl
theorem isMethodComparable (v:Value) (w:World):(Go.method 392 155 v "Comparable").run Tryz.prog w=.ok (202,v) w:=by kernel_rfl
theorem isComparable (w:World):((Extern.ReflectliteType.method fun t=>do Extern.Rtype.noPackHeld "Comparable" t;(fun a=>Value.bool a.comparable)<$>typeInfo t) #[.agg #[.pointer (some ⟨1,43,none⟩)]]).run Tryz.prog w=.ok (.bool true) w:=by kernel_rfl
set_option maxRecDepth 20000 in
theorem is_same (a:Int) (w:World):
  Calls Tryz.prog 23 #[.iface 43 (.int .i64 a),.iface 43 (.int .i64 a)] w fun e w'=>e=.returned (.bool true)∧w'=w:=by
 have h8:=@run_callFunc_extern Tryz.prog 45 _ Extern.ReflectliteType.typeOf Tryz.func45 (by kernel_rfl) (by kernel_rfl) (by kernel_rfl) (by kernel_rfl)
 have h32:=@run_callFunc_extern Tryz.prog 202 _ (Extern.ReflectliteType.method fun t=>do Extern.Rtype.noPackHeld "Comparable" t;pure (.bool (←typeInfo t).comparable)) Tryz.func202 (by kernel_rfl) (by kernel_rfl) (by kernel_rfl) (by kernel_rfl)
 have tT:=isTypeOf
 have cT:=isComparable
 have mR:=isMethodComparable
 have heq:=Go.Lib.run_eql_iface_int (P:=Tryz.prog) w (t:=36) (tx:=43) (k:=.i64) (q:=.i64) a a Tryz.underlying36 (by kernel_rfl) Tryz.underlying43
 go_enter Tryz.func23,Tryz.ntmps23
 go_wp2
 refine wp_loop_rounds 1 ?_
 rw [rounds_succ]
 go_wp2
 go_ret
 exact ⟨rfl,rfl⟩
theorem errIs_same (a:Int) (w:World):K.Spec Tryz.prog 23 [.iface 43 (.int .i64 a),.iface 43 (.int .i64 a)] w fun v w'=>v=.bool true∧w'=w:=
 Calls.mono (is_same a w) fun _ _ h=>⟨_,h.1,rfl,h.2⟩
end Go.Proofs.YtbidkcjendncaaaGreat
end
section
namespace Go.K
open Go Go.Proofs.YtbidkcjendncaaaGreat
def eC (k n:Nat):Ch:=⟨List.replicate k [],n⟩
theorem eC_len (k n:Nat):(eC k n).bs.length=k:=List.length_replicate
theorem eC_top (k n:Nat):(eC k n).top=n:=rfl
theorem eC_zero:eC 0 0=⟨[],0⟩:=rfl
theorem apply_none (l:List En) (h:Int):(applyL l [] h).1=l:=by
 unfold applyL
 split<;>rfl
theorem eC_getD (k n j:Nat):(eC k n).bs.getD j []= []:=by
 rw [List.getD_eq_getElem?_getD]
 show ((List.replicate k ([]:List Tx))[j]?).getD []= []
 rw [List.getElem?_replicate]
 split<;>rfl
theorem eC_coins (k n:Nat):∀j,coinsN (eC k n).bs j= []
 |0=>rfl
 |j+1=>by
  unfold coinsN
  rw [eC_coins k n j,eC_getD,apply_none]
theorem eC_conn {k:Nat} (hk:k<1000000):(connE (eC k k) []).1=0:=by
 unfold connE coinsC
 rw [eC_coins,eC_len]
 unfold applyL
 rw [if_neg (by omega)];rfl
theorem eC_next {k:Nat} (hk:k<1000000):connC (eC k k) []=eC (k+1) (k+1):=by
 unfold connC
 rw [if_neg (by rw [eC_conn hk];decide),eC_len]
 show Ch.mk (List.replicate k []++ [[]]) (max k (k+1))=Ch.mk (List.replicate (k+1) []) (k+1)
 rw [List.replicate_succ']
 congr 1;omega
theorem eC_disc {m n:Nat} (h0:0<m) (h1:¬m+6≤n):discE (eC m n)=0∧discC (eC m n)=eC (m - 1) n:=by
 have e0:discE (eC m n)=0:=by
  unfold discE
  rw [eC_len,if_neg (by omega),if_neg (show ¬m+6≤(eC m n).top from h1)]
 refine ⟨e0,?_⟩
 unfold discC
 rw [if_neg (by simp [e0]),eC_len]
 show Ch.mk ((List.replicate m []).take (m - 1)) n=Ch.mk (List.replicate (m - 1) []) n
 rw [List.take_replicate]
 congr 2;omega
theorem eC_none (n:Nat):discE (eC 0 n)=8∧discC (eC 0 n)=eC 0 n:=⟨rfl,rfl⟩
theorem eC_deep {m n:Nat} (h0:0<m) (h1:m+6≤n):discE (eC m n)=18∧discC (eC m n)=eC m n:=by
 have e0:discE (eC m n)=18:=by
  unfold discE
  rw [eC_len,if_neg (by omega),if_pos (show m+6≤(eC m n).top from h1)]
 refine ⟨e0,?_⟩
 unfold discC
 rw [if_pos (by simp [e0])]
end Go.K
end
section
namespace Go.Proofs.YtbidkcjendncaaaGreat
open Go Go.K
attribute [local irreducible] regK codeK retK KOp.wp K.Spec u32 leS vnS str zero32 checkT applyL encT idT sizeT bsW eC
theorem wrap8s {k:Nat} (h:k<255):IntKind.u8.wrap (((k:Nat):Int)+1)=((k+1:Nat):Int):=by show (((k:Nat):Int)+1)%256=_;omega
theorem w864 (n:UInt8):IntKind.i64.wrap ((n.toNat:Nat):Int)=(n.toNat:Nat):=IntWalk.i64_in _ (by have:=n.toNat_lt;omega)
set_option maxHeartbeats 4000000 in
theorem chainNil_law (p:Pt) (n:UInt8) (w:World):K.Spec Tryz.prog F.kedgelaw13_ChainNil [p.val,u8V n] w fun r w'=>r=.bool true∧Ext w w':=by
 have hn:=n.toNat_lt
 refine s_kedgelaw13_ChainNil rfl ?_
 unfold k_kedgelaw13_ChainNil
 refine oy ?_
 repeat (first|(refine zD (d:=some 2) (cs:=p.cs) rfl rfl (fun b2 w2 x2 a2 (r2:Row w2 ⟨b2,0,none⟩ p.cs) hb2=>?_))|(first|refine go1 ?_|refine zg (fun _ _=>?_)|refine zi (fun _ _=>?_)))
 refine zC (d:=some 21) rfl (nget_spec p _) ?_
 rintro _ w3 ⟨rfl,x3⟩
 repeat (first|(refine zE (d':=6) (fun _=>rfl) rfl rfl rfl (fun b6 w4 x4 a4 r4 hb6=>?_))|(first|refine go1 ?_|refine zg (fun _ _=>?_)|refine zi (fun _ _=>?_)))
 refine zC (d:=some 28) rfl (nconf_spec p.s _) ?_
 rintro _ w5 ⟨rfl,x5⟩
 repeat (first|refine go1 ?_|refine zg (fun _ _=>?_)|refine zi (fun _ _=>?_))
 refine zC (d:=some 34) rfl (nspend_spec p _) ?_
 rintro _ w6 ⟨rfl,x6⟩
 repeat (first|refine go1 ?_|refine zg (fun _ _=>?_)|refine zi (fun _ _=>?_))
 refine zC (d:=some 40) rfl (ndisc_spec _) ?_
 rintro _ w7 ⟨rfl,x7⟩
 repeat (first|refine go1 ?_|refine zg (fun _ _=>?_)|refine zi (fun _ _=>?_))
 refine zC (d:=some 56) rfl (nconn_spec (.slice none 0 0) _) ?_
 rintro _ w8 ⟨rfl,x8⟩
 repeat (first|(refine zC (d:=some 58) rfl (errIs_same 1 _) ?_;rintro _ w9 ⟨rfl,x9⟩)|(first|refine go1 ?_|refine zg (fun _ _=>?_)|refine zi (fun _ _=>?_)))
 refine zC (d:=some 63) rfl (nheight_spec _) ?_
 rintro _ w10 ⟨rfl,x10⟩
 repeat (first|refine go1 ?_|refine zg (fun _ _=>?_)|refine zi (fun _ _=>?_))
 refine zC (d:=some 68) rfl (ncoins_spec _) ?_
 rintro _ w11 ⟨rfl,x11⟩
 repeat (first|refine go1 ?_|refine zg (fun _ _=>?_)|refine zi (fun _ _=>?_))
 have x0:Ext w w11:=x2.trans (x3.trans (x4.trans (x5.trans (x6.trans (x7.trans (x8.trans (x9▸x10.trans x11)))))))
 clear x2 x3 x4 x5 x6 x7 x8 x10 x11 a2 r2 a4 r4 hb2 hb6
 refine zC (d:=some 72) rfl (chnew_spec (U:= []) _ (by simp)) ?_
 rintro _ w12 ⟨c,M1,rfl,C1, -,x12⟩
 have hB:w.heap.size≤w11.heap.size:=x0.size
 have C1':ChR [] w12 w11.heap.size c M1 (eC 0 0):=by rw [eC_zero];exact C1
 repeat (first|(refine c_loopV (fun (p:Nat × List Nat) w'=>Ext w w'∧p.1≤n.toNat∧ChR [] w' w11.heap.size c p.2 (eC p.1 p.1)) (fun p=> [(1,u8V n),(5,.pointer (some ⟨c,0,none⟩)),(73,u8V n),(74,.int .u8 (p.1:Nat))]) (fun p=>n.toNat - p.1) (0,M1) ⟨rfl,rfl,rfl,rfl,trivial⟩ ⟨x0.trans x12,Nat.zero_le _,C1'⟩ ?_;rintro ⟨k,M⟩ ρ w2 ⟨x2,hk,C2⟩;simp only at hk C2;dsimp only)|(first|refine go1 ?_|refine zg (fun _ _=>?_)|refine zi (fun _ _=>?_)))
 refine zL (x:=.tmp 75) (p:=((k:Nat):Int)<((n.toNat:Nat):Int)) rfl (fun h9=>?_) (fun h9=>?_)
 ·have hlt:=C2.lt
  have hbs:=C2.base
  have el:=eC_len k k
  repeat (first|refine go1 ?_|refine zg (fun _ _=>?_)|refine zi (fun _ _=>?_))
  refine zC (d:=some 77) rfl (chconn_spec (N:=M) (txs:= []) _ C2 (SlR.nil _ _) (fun y hy=>hy) (by simp) (by simp) (by simp) (by simp) (by unfold coinsC;rw [eC_coins];simp [outsB]) (by omega) (by rw [eC_top];omega)) ?_
  rintro e w6 ⟨⟨i,hE⟩,⟨M',C6,hM6⟩,c6⟩
  have he:e=.nilIface:=by
   rcases hE with ⟨_,h5⟩|⟨h5, -⟩
   ·exact h5
   ·exact absurd (eC_conn (by omega)) h5
  subst he
  rw [eC_next (by omega)] at C6
  repeat (first|refine go1 ?_|refine zg (fun _ _=>?_)|refine zi (fun _ _=>?_))
  rw [wrap8s (show k<255 by omega)]
  exact ⟨(k+1,M'),⟨rfl,rfl,rfl,rfl,trivial⟩,⟨(Ext.chg x2 c6).mono (fun y hy=>.inr (Nat.le_trans hB (hbs y hy))),by simp only;omega,C6⟩,by simp only;omega⟩
 ·have ek:k=n.toNat:=by omega
  subst ek
  clear h9
  repeat (first|(refine c_loopV (fun (p:Nat × List Nat) w'=>Ext w w'∧p.1≤min n.toNat 6∧ChR [] w' w11.heap.size c p.2 (eC (n.toNat - p.1) n.toNat)) (fun p=> [(1,u8V n),(5,.pointer (some ⟨c,0,none⟩)),(15,.int .i64 (p.1:Nat))]) (fun p=>7 - p.1) (0,M) ⟨rfl,rfl,rfl,trivial⟩ ⟨x2,Nat.zero_le _,C2⟩ ?_;rintro ⟨j,M4⟩ ρ w4 ⟨x4,hj,C4⟩;simp only at hj C4;dsimp only)|(refine st_fixV (d:=some 82) (.int .i64 ((n.toNat:Nat):Int)) rfl (congrArg (fun n=>some (Value.int .i64 n)) (w864 n)) ?_)|(first|refine go1 ?_|refine zg (fun _ _=>?_)|refine zi (fun _ _=>?_)))
  have hbs:=C4.base
  have el:=eC_len (n.toNat - j) n.toNat
  refine zL (x:=.tmp 83) (p:=((j:Nat):Int)≤((n.toNat:Nat):Int)) rfl (fun h9=>?_) (fun h9=>absurd (by omega) h9)
  repeat (first|refine go1 ?_|refine zg (fun _ _=>?_)|refine zi (fun _ _=>?_))
  refine zC (d:=some 86) rfl (chdisc_spec _ C4 (fun k _=>by rw [eC_coins];simp) (by omega) (by rw [eC_top];omega)) ?_
  rintro _ w5 ⟨tv,M',rfl,C5,hM5,c5, -, -⟩
  have x5:Ext w w5:=(Ext.chg x4 c5).mono (fun y hy=>.inr (Nat.le_trans hB (hbs y hy)))
  by_cases hj6:j<min n.toNat 6
  ·obtain ⟨d1,d2⟩:=eC_disc (m:=n.toNat - j) (n:=n.toNat) (by omega) (by omega)
   rw [d1]
   rw [d2,show n.toNat - j - 1=n.toNat - (j+1) by omega] at C5
   repeat (first|refine go1 ?_|refine zg (fun _ _=>?_)|refine zi (fun _ _=>?_))
   exact ⟨(j+1,M'),⟨rfl,rfl,rfl,trivial⟩,⟨x5,by simp only;omega,C5⟩,by simp only;omega⟩
  ·have hjm:j=min n.toNat 6:=by omega
   by_cases hn6:n.toNat≤6
   ·have e0:n.toNat - j=0:=by omega
    rw [e0] at C5 ⊢
    rw [(eC_none n.toNat).1]
    rw [(eC_none n.toNat).2] at C5
    repeat (first|(refine st_fixV (d:=some 92) (.bool false) rfl (congrArg (fun b=>some (Value.bool b)) (decide_eq_false (by omega))) ?_)|(refine st_fixV (d:=some 99) (.bool true) rfl (congrArg (fun b=>some (Value.bool b)) (decide_eq_true (by omega))) ?_)|(first|refine go1 ?_|refine zg (fun _ _=>?_)|refine zi (fun _ _=>?_)))
    refine zC (d:=some 111) rfl (wakes13_spec _) ?_
    rintro _ w6 ⟨rfl,x6⟩
    repeat (first|(refine st_fixV (d:=some 115) (.int .i64 ((n.toNat:Nat):Int)) rfl (congrArg (fun n=>some (Value.int .i64 n)) (w864 n)) ?_)|(refine st_fixV (d:=some 117) (.bool true) rfl (congrArg (fun b=>some (Value.bool b)) (decide_eq_true (by omega))) ?_)|(first|refine go1 ?_|refine zg (fun _ _=>?_)|refine zi (fun _ _=>?_)))
    refine zC (d:=some 121) rfl (chheight_spec _ (C5.ext x6)) ?_
    rintro _ w7 ⟨rfl,x7⟩
    rw [eC_len]
    repeat (first|(refine st_fixV (d:=some 123) (.int .i64 ((n.toNat:Nat):Int)) rfl (congrArg (fun n=>some (Value.int .i64 n)) (w864 n)) ?_)|(refine st_fixV (d:=some 126) (.bool true) rfl (congrArg (fun b=>some (Value.bool b)) (decide_eq_true (by omega))) ?_)|(first|refine go1 ?_|refine zg (fun _ _=>?_)|refine zi (fun _ _=>?_)))
    exact x_ret rfl ⟨rfl,x5.trans (x6.trans x7)⟩
   ·obtain ⟨d1,d2⟩:=eC_deep (m:=n.toNat - j) (n:=n.toNat) (by omega) (by omega)
    rw [d1]
    rw [d2] at C5
    repeat (first|(refine st_fixV (d:=some 92) (.bool true) rfl (congrArg (fun b=>some (Value.bool b)) (decide_eq_true (by omega))) ?_)|(refine st_fixV (d:=some 99) (.bool false) rfl (congrArg (fun b=>some (Value.bool b)) (decide_eq_false (by omega))) ?_)|(first|refine go1 ?_|refine zg (fun _ _=>?_)|refine zi (fun _ _=>?_)))
    refine zC (d:=some 111) rfl (wakes13_spec _) ?_
    rintro _ w6 ⟨rfl,x6⟩
    repeat (first|(refine st_fixV (d:=some 115) (.int .i64 ((n.toNat:Nat):Int)) rfl (congrArg (fun n=>some (Value.int .i64 n)) (w864 n)) ?_)|(refine st_fixV (d:=some 117) (.bool true) rfl (congrArg (fun b=>some (Value.bool b)) (decide_eq_true (by omega))) ?_)|(first|refine go1 ?_|refine zg (fun _ _=>?_)|refine zi (fun _ _=>?_)))
    refine zC (d:=some 121) rfl (chheight_spec _ (C5.ext x6)) ?_
    rintro _ w7 ⟨rfl,x7⟩
    rw [eC_len]
    repeat (first|(refine st_fixV (d:=some 123) (.int .i64 ((n.toNat:Nat):Int)) rfl (congrArg (fun n=>some (Value.int .i64 n)) (w864 n)) ?_)|(refine st_fixV (d:=some 126) (.bool true) rfl (congrArg (fun b=>some (Value.bool b)) (decide_eq_true (by omega))) ?_)|(first|refine go1 ?_|refine zg (fun _ _=>?_)|refine zi (fun _ _=>?_)))
    exact x_ret rfl ⟨rfl,x5.trans (x6.trans x7)⟩
end Go.Proofs.YtbidkcjendncaaaGreat
end
section
namespace Go.Proofs.YtbidkcjendncaaaGreat
open Go Go.K
attribute [local irreducible] regK codeK retK KOp.wp K.Spec
theorem rless_spec (p q:Pt) (w:World):K.Spec Tryz.prog F.kedgeref05_Less [p.val,q.val] w fun v w'=>v=.bool (ptLt p q)∧Ext w w':=by
 refine s_kedgeref05_Less rfl ?_
 unfold k_kedgeref05_Less
 refine oy ?_
 repeat (first|refine go ?_|refine zg (fun _ _=>?_)|refine zi (fun _ _=>?_))
 refine st_box rfl rfl (fun b1 w1 x1 _ r1 _=>?_)
 repeat (first|refine go ?_|refine zg (fun _ _=>?_)|refine zi (fun _ _=>?_))
 refine st_box rfl rfl (fun b2 w2 x2 _ r2 _=>?_)
 repeat (first|refine go ?_|refine zg (fun _ _=>?_)|refine zi (fun _ _=>?_))
 refine c_cond rfl (fun h=>?_) (fun h=>?_)
 ·repeat (first|refine go ?_|refine zg (fun _ _=>?_)|refine zi (fun _ _=>?_))
  exact x_ret rfl ⟨congrArg Value.bool (by rw [ptLt,if_pos h]),x1.trans x2⟩
 ·repeat (first|refine go ?_|refine zg (fun _ _=>?_)|refine zi (fun _ _=>?_))
  exact x_ret rfl ⟨congrArg Value.bool (by rw [ptLt,if_neg h]),x1.trans x2⟩
theorem same10_spec (s s':ByteArray) (i i':Int) (w:World):K.Spec Tryz.prog F.kedgeref10_same [.agg #[.string s,.int .u32 i],.agg #[.string s',.int .u32 i']] w fun v w'=>v=.bool (decide (s=s'∧i=i'))∧Ext w w':=by
 refine s_kedgeref10_same rfl ?_
 unfold k_kedgeref10_same
 refine oy ?_
 repeat (first|refine go ?_|refine zg (fun _ _=>?_)|refine zi (fun _ _=>?_))
 refine st_box rfl rfl (fun b1 w1 x1 _ r1 _=>?_)
 repeat (first|refine go ?_|refine zg (fun _ _=>?_)|refine zi (fun _ _=>?_))
 refine st_box rfl rfl (fun b2 w2 x2 _ r2 _=>?_)
 repeat (first|refine go ?_|refine zg (fun _ _=>?_)|refine zi (fun _ _=>?_))
 refine g_split rfl (fun h=>?_) (fun h=>?_)
 ·repeat (first|refine go ?_|refine zg (fun _ _=>?_)|refine zi (fun _ _=>?_))
  refine x_ret rfl ⟨congrArg Value.bool ?_,x1.trans x2⟩
  simp [h]
 ·repeat (first|refine go ?_|refine zg (fun _ _=>?_)|refine zi (fun _ _=>?_))
  refine x_ret rfl ⟨congrArg Value.bool ?_,x1.trans x2⟩
  simp [h]
theorem psame_spec (p q:Pt) (w:World):K.Spec Tryz.prog F.kedgeref10_same [p.val,q.val] w fun v w'=>v=.bool (decide (p=q))∧Ext w w':=by
 have h:=same10_spec p.s q.s p.i q.i w
 have e:decide (p.s=q.s∧p.i=q.i)=decide (p=q):=by cases p;cases q;simp
 rw [e] at h;exact h
theorem find10_spec {v:Value} {l:List En} (p:Pt) (w:World) (hs:SlE entE w v l) (hn:l.length≤100000):K.Spec Tryz.prog F.kedgeref10_Find [v,p.val] w fun v' w'=>v'=.int .i64 (refFind l p)∧Ext w w':=by
 refine s_kedgeref10_Find rfl ?_
 unfold k_kedgeref10_Find
 refine oy ?_
 repeat (first|refine go ?_|refine zg (fun _ _=>?_)|refine zi (fun _ _=>?_))
 refine st_box rfl rfl (fun b1 w1 x1 a1 r1 hb1=>?_)
 repeat (first|refine go ?_|refine zg (fun _ _=>?_)|refine zi (fun _ _=>?_))
 refine c_loopV (fun (i:Nat) w'=>Ext w1 w'∧i≤l.length∧∀j,∀h:j<l.length,j<i→l[j].1≠p) (fun i=> [(0,v),(3,.pointer (some ⟨b1,0,none⟩)),(5,.int .i64 i)]) (fun i=>l.length - i) 0 ⟨rfl,rfl,rfl,trivial⟩ ⟨Ext.refl _,by omega,by intros;omega⟩ ?_
 rintro i ρ w2 ⟨x2,hi,hno⟩
 repeat (first|refine go ?_|refine zg (fun _ _=>?_)|refine zi (fun _ _=>?_))
 refine st_len rfl ((hs.ext x1).ext x2) ?_
 repeat (first|refine go ?_|refine zg (fun _ _=>?_)|refine zi (fun _ _=>?_))
 refine c_cond rfl (fun h=>?_) (fun h=>?_)
 ·repeat (first|refine go ?_|refine zg (fun _ _=>?_)|refine zi (fun _ _=>?_))
  rename_i w3 x3
  refine st_elemE rfl rfl (((hs.ext x1).ext x2).ext x3) rfl (by omega) (fun ad r3=>?_)
  repeat (first|refine go ?_|refine zg (fun _ _=>?_)|refine zi (fun _ _=>?_))
  have hil:i<l.length:=by omega
  refine st_call rfl (psame_spec l[i].1 p _) ?_
  rintro _ w4 ⟨rfl,x4⟩
  repeat (first|refine go ?_|refine zg (fun _ _=>?_)|refine zi (fun _ _=>?_))
  refine c_cond rfl (fun h2=>?_) (fun h2=>?_)
  ·repeat (first|refine go ?_|refine zg (fun _ _=>?_)|refine zi (fun _ _=>?_))
   refine x_ret rfl ⟨congrArg (Value.int .i64) ?_,by repeat (first|assumption|exact Ext.refl _|refine Ext.trans ?_ (by assumption))⟩
   rw [refFind,refIdx_some.2 ⟨hil,h2,fun j hj=>hno j (by omega) hj⟩]
  ·repeat (first|refine go ?_|refine zg (fun _ _=>?_)|refine zi (fun _ _=>?_))
   refine ⟨i+1,⟨rfl,rfl,rfl,trivial⟩,⟨by repeat (first|assumption|exact Ext.refl _|refine Ext.trans ?_ (by assumption)),by omega,fun j hj hji=>?_⟩,by omega⟩
   rcases Nat.lt_or_ge j i with h5|h5
   ·exact hno j hj h5
   ·have:j=i:=by omega
    subst this;exact h2
 ·repeat (first|refine go ?_|refine zg (fun _ _=>?_)|refine zi (fun _ _=>?_))
  refine x_ret rfl ⟨congrArg (Value.int .i64) ?_,by repeat (first|assumption|exact Ext.refl _|refine Ext.trans ?_ (by assumption))⟩
  rw [refFind,refIdx_none.2]
  intro e he
  obtain ⟨j,hj,rfl⟩:=List.getElem_of_mem he
  exact hno j hj (by omega)
theorem r10total_spec {v:Value} {l:List En} (w:World) (hs:SlE entE w v l) (hn:l.length≤100000) (hm:Mon l):K.Spec Tryz.prog F.kedgeref10_Total [v] w fun v' w'=>v'=.int .i64 (tot l)∧Ext w w':=by
 refine s_kedgeref10_Total rfl ?_
 unfold k_kedgeref10_Total
 refine oy ?_
 repeat (first|refine go ?_|refine zg (fun _ _=>?_)|refine zi (fun _ _=>?_))
 refine c_loopV (fun (i:Nat) w'=>Ext w w'∧i≤l.length) (fun i=> [(0,v),(3,.int .i64 (tot (l.take i))),(4,.int .i64 i)]) (fun i=>l.length - i) 0 ⟨rfl,rfl,rfl,trivial⟩ ⟨Ext.refl _,by omega⟩ ?_
 rintro i ρ w1 ⟨x1,hi⟩
 repeat (first|refine go ?_|refine zg (fun _ _=>?_)|refine zi (fun _ _=>?_))
 refine st_len rfl (hs.ext x1) ?_
 repeat (first|refine go ?_|refine zg (fun _ _=>?_)|refine zi (fun _ _=>?_))
 refine c_cond rfl (fun h=>?_) (fun h=>?_)
 ·repeat (first|refine go ?_|refine zg (fun _ _=>?_)|refine zi (fun _ _=>?_))
  refine st_elemE rfl rfl (hs.ext x1) rfl (by omega) (fun ad r3=>?_)
  have hil:i<l.length:=by omega
  have e:=tot_take hil
  have b1:=tot_take_le hm i
  have b2:=tot_take_le hm (i+1)
  have b3:=hm.2
  repeat (first|refine go ?_|refine zg (fun _ _=>?_)|refine zi (fun _ _=>?_))
  exact ⟨i+1,⟨rfl,congrArg (Value.int .i64) e.symm,rfl,trivial⟩,⟨x1,by omega⟩,by omega⟩
 ·repeat (first|refine go ?_|refine zg (fun _ _=>?_)|refine zi (fun _ _=>?_))
  refine x_ret rfl ⟨congrArg (Value.int .i64) ?_,x1⟩
  rw [List.take_of_length_le (by omega)]
def NewOr (v vl:Value) (l l':List En) (B:Nat):Prop:=(vl=v∧l'=l)∨∀b∈blkOf vl,B≤b
theorem NewOr.old {v vl:Value} {l l':List En} {B:Nat} (h:NewOr v vl l l' B):∀b∈blkOf vl,b∈blkOf v∨B≤b:=by
 rcases h with ⟨rfl, -⟩|h
 ·exact fun b hb=>.inl hb
 ·exact fun b hb=>.inr (h b hb)
theorem NewOr.trans {v vm vl:Value} {l m l':List En} {B B':Nat} (h:NewOr v vm l m B) (h':NewOr vm vl m l' B') (hB:B≤B'):NewOr v vl l l' B:=by
 rcases h' with ⟨rfl,rfl⟩|h'
 ·exact h
 ·exact .inr fun b hb=>Nat.le_trans hB (h' b hb)
theorem rput10_spec {v:Value} {l:List En} (p:Pt) (c:Cn) (w:World) (hs:SlE entE w v l) (hn:l.length≤100000) (hm:Mon l):K.Spec Tryz.prog F.kedgeref10_Put [v,p.val,c.val] w fun v' w'=>
  ∃vl,v'=.tuple #[vl,.int .i64 (refPutCode l p c)]∧SlE entE w' vl (refPut l p c)∧NewOr v vl l (refPut l p c) w.heap.size∧Ext w w':=by
 refine s_kedgeref10_Put rfl ?_
 unfold k_kedgeref10_Put
 refine oy ?_
 have fail:∀{w':World} {n:Int},Ext w w'→n≠0→refPutCode l p c=n→∃vl,Value.tuple #[v,.int .i64 n]=.tuple #[vl,.int .i64 (refPutCode l p c)]∧SlE entE w' vl (refPut l p c)∧NewOr v vl l (refPut l p c) w.heap.size∧Ext w w':=by
  intro w' n x h0 hc
  refine ⟨v,by rw [hc],?_,.inl ⟨rfl,by rw [refPut,if_neg (by rw [hc];exact h0)]⟩,x⟩
  rw [refPut,if_neg (by rw [hc];exact h0)];exact hs.ext x
 repeat (first|refine go ?_|refine zg (fun _ _=>?_)|refine zi (fun _ _=>?_))
 refine st_box rfl rfl (fun b1 w1 x1 a1 r1 hb1=>?_)
 repeat (first|refine go ?_|refine zg (fun _ _=>?_)|refine zi (fun _ _=>?_))
 refine st_box rfl rfl (fun b2 w2 x2 a2 r2 hb2=>?_)
 repeat (first|refine go ?_|refine zg (fun _ _=>?_)|refine zi (fun _ _=>?_))
 have e32:((p.s.size:Int)=32)↔p.s.size=32:=by omega
 refine g_cases rfl (fun h1=>?_) (fun h1=>?_)
 ·repeat (first|refine go ?_|refine zg (fun _ _=>?_)|refine zi (fun _ _=>?_))
  refine x_ret (ret2 rv_tmp rv_tmp) (fail (by repeat (first|assumption|exact Ext.refl _|refine Ext.trans ?_ (by assumption))) (by decide) (refPutCode2 ?_))
  have h1':¬p.s.size=32:=fun h=>by simp [e32.2 h] at h1
  simp [formedB,h1']
 have h1:p.s.size=32:=e32.1 (by simpa using h1)
 repeat (first|refine go ?_|refine zg (fun _ _=>?_)|refine zi (fun _ _=>?_))
 refine g_split rfl (fun h2=>?_) (fun h2=>?_)
 ·repeat (first|refine go ?_|refine zg (fun _ _=>?_)|refine zi (fun _ _=>?_))
  refine x_ret (ret2 rv_tmp rv_tmp) (fail (by repeat (first|assumption|exact Ext.refl _|refine Ext.trans ?_ (by assumption))) (by decide) (refPutCode2 ?_))
  have h2':¬0≤c.h:=by omega
  simp [formedB,h2']
 repeat (first|refine go ?_|refine zg (fun _ _=>?_)|refine zi (fun _ _=>?_))
 refine g_split rfl (fun h3=>?_) (fun h3=>?_)
 ·repeat (first|refine go ?_|refine zg (fun _ _=>?_)|refine zi (fun _ _=>?_))
  refine x_ret (ret2 rv_tmp rv_tmp) (fail (by repeat (first|assumption|exact Ext.refl _|refine Ext.trans ?_ (by assumption))) (by decide) (refPutCode2 ?_))
  have h3':¬c.h≤1000000:=by omega
  simp [formedB,h3']
 repeat (first|refine go ?_|refine zg (fun _ _=>?_)|refine zi (fun _ _=>?_))
 refine c_condB rfl (fun h4=>?_) (fun h4=>?_)
 ·repeat (first|refine go ?_|refine zg (fun _ _=>?_)|refine zi (fun _ _=>?_))
  refine x_ret (ret2 rv_tmp rv_tmp) (fail (by repeat (first|assumption|exact Ext.refl _|refine Ext.trans ?_ (by assumption))) (by decide) (refPutCode2 ?_))
  have h4':goodB c.v=false:=by simpa using h4
  simp [formedB,h4']
 have h4:goodB c.v=true:=by simpa using h4
 have hf:formedB p c=true:=by simp [formedB,h1,h4];omega
 have hcv:=(goodB_iff _).1 h4
 have ht:=tot_take_le hm l.length
 rw [List.take_length] at ht
 have hT:=hm.2
 repeat (first|refine go ?_|refine zg (fun _ _=>?_)|refine zi (fun _ _=>?_))
 refine st_call rfl (find10_spec p _ ((hs.ext x1).ext x2) hn) ?_
 rintro _ w4 ⟨rfl,x4⟩
 repeat (first|refine go ?_|refine zg (fun _ _=>?_)|refine zi (fun _ _=>?_))
 cases hi:refIdx l p with
 |some n=>
  have hfi:refFind l p=(n:Int):=by rw [refFind,hi]
  rw [hfi]
  have hpos:(n:Int)≥0:=by omega
  refine c_cond (p:=(n:Int)≥0) rfl (fun _=>?_) (fun h=>absurd hpos h)
  repeat (first|refine go ?_|refine zg (fun _ _=>?_)|refine zi (fun _ _=>?_))
  exact x_ret (ret2 rv_tmp rv_tmp) (fail (by repeat (first|assumption|exact Ext.refl _|refine Ext.trans ?_ (by assumption))) (by decide) (refPutCode7 hf hi))
 |none=>
  have hfi:refFind l p= -1:=by rw [refFind,hi]
  rw [hfi]
  refine c_false rfl ?_
  repeat (first|refine go ?_|refine zg (fun _ _=>?_)|refine zi (fun _ _=>?_))
  refine st_call rfl (r10total_spec _ (((hs.ext x1).ext x2).ext x4) hn hm) ?_
  rintro _ w5 ⟨rfl,x5⟩
  repeat (first|refine go ?_|refine zg (fun _ _=>?_)|refine zi (fun _ _=>?_))
  have hc0:=refPutCode0 hf hi
  refine c_condB rfl (fun h5=>?_) (fun h5=>?_)
  ·repeat (first|refine go ?_|refine zg (fun _ _=>?_)|refine zi (fun _ _=>?_))
   refine x_ret (ret2 rv_tmp rv_tmp) (fail (by repeat (first|assumption|exact Ext.refl _|refine Ext.trans ?_ (by assumption))) (by decide) ?_)
   rw [hc0,(by simpa using h5:goodB (tot l+c.v)=false)];rfl
  have h5:goodB (tot l+c.v)=true:=by simpa using h5
  rw [h5] at hc0
  have hc0:refPutCode l p c=0:=hc0
  repeat (first|refine go ?_|refine zg (fun _ _=>?_)|refine zi (fun _ _=>?_))
  have x06:Unit→Ext w w5:=fun _=>by repeat (first|assumption|exact Ext.refl _|refine Ext.trans ?_ (by assumption))
  have hs6:=hs.ext (x06 ())
  have r16:Row w5 ⟨b1,0,none⟩ _:=((r1.ext x2).ext x4).ext x5
  have r26:Row w5 ⟨b2,0,none⟩ _:=(r2.ext x4).ext x5
  refine c_loopV (fun (s:Nat × Value) w'=>Ext w5 w'∧s.1≤l.length∧Own entE T.kedgeref10_Entry w5.heap.size w' s.2 (insRun p c (l.take s.1)).1)
   (fun s=> [(0,v),(4,.pointer (some ⟨b1,0,none⟩)),(5,.pointer (some ⟨b2,0,none⟩)),(11,s.2),(12,.bool (insRun p c (l.take s.1)).2),(13,.int .i64 s.1)]) (fun s=>l.length - s.1) (0,.slice none 0 0) ⟨rfl,rfl,rfl,rfl,rfl,rfl,trivial⟩ ⟨Ext.refl _,by simp,by simpa [insRun] using Own.nil _ _ _⟩ ?_
  rintro ⟨i,vo⟩ ρ w7 ⟨x7,hil,ho⟩
  simp only at hil ho
  have hlen:=insRun_len p c (l.take i)
  have hlt:(l.take i).length≤l.length:=by simp;omega
  repeat (first|refine go ?_|refine zg (fun _ _=>?_)|refine zi (fun _ _=>?_))
  refine st_len rfl (hs6.ext x7) ?_
  repeat (first|refine go ?_|refine zg (fun _ _=>?_)|refine zi (fun _ _=>?_))
  refine c_cond rfl (fun h=>?_) (fun h=>?_)
  ·have hil':i<l.length:=by omega
   repeat (first|refine go ?_|refine zg (fun _ _=>?_)|refine zi (fun _ _=>?_))
   rename_i w8 x8
   refine st_elemE rfl rfl ((hs6.ext x7).ext x8) rfl hil' (fun ad r8=>?_)
   repeat (first|refine go ?_|refine zg (fun _ _=>?_)|refine zi (fun _ _=>?_))
   refine st_call rfl (rless_spec p l[i].1 _) ?_
   rintro _ w9 ⟨rfl,x9⟩
   repeat (first|refine go ?_|refine zg (fun _ _=>?_)|refine zi (fun _ _=>?_))
   have x79:Unit→Ext w5 w9:=fun _=>by repeat (first|assumption|exact Ext.refl _|refine Ext.trans ?_ (by assumption))
   have no:ptLt p l[i].1=false∨(insRun p c (l.take i)).2=true→insRun p c (l.take (i+1))=((insRun p c (l.take i)).1++ [l[i]],(insRun p c (l.take i)).2):=fun h=>insRun_not hil' h
   refine g_cases rfl (fun hL=>?_) (fun hL=>?_)
   ·repeat (first|refine go ?_|refine zg (fun _ _=>?_)|refine zi (fun _ _=>?_))
    refine c_condB rfl (fun hq=>?_) (fun hq=>?_)
    ·have hq:(insRun p c (l.take i)).2=false:=by simpa using hq
     have yes:=insRun_put (c:=c) hil' hL hq
     repeat (first|refine go ?_|refine zg (fun _ _=>?_)|refine zi (fun _ _=>?_))
     refine st_buildSlice rfl (fun b13 w13 x13 a13 hb13=>?_)
     repeat (first|refine go ?_|refine zg (fun _ _=>?_)|refine zi (fun _ _=>?_))
     refine st_append (E:=entE) (v:=vo) (l2:= [(p,c)]) rfl (((ho.ext x8).ext x9).ext x13) (Nat.le_trans (Ext.size (x79 ())) x13.size) rfl rfl (sl_new a13 rfl) rfl rfl (by simp;omega) (fun vo1 w14 ho1 c14=>?_)
     have x614:Unit→Ext w5 w14:=fun _=>(((x79 ()).trans x13).chg c14).mono (fun b hb=>.inr (ho.base b (by simpa using hb)))
     repeat (first|refine go ?_|refine zg (fun _ _=>?_)|refine zi (fun _ _=>?_))
     refine st_elemE rfl rfl (hs6.ext (x614 ())) rfl hil' (fun ad r10=>?_)
     repeat (first|refine go ?_|refine zg (fun _ _=>?_)|refine zi (fun _ _=>?_))
     refine st_buildSlice rfl (fun b11 w11 x11 a11 hb11=>?_)
     repeat (first|refine go ?_|refine zg (fun _ _=>?_)|refine zi (fun _ _=>?_))
     refine st_append (E:=entE) (v:=vo1) (l2:= [l[i]]) rfl (ho1.ext x11) (Nat.le_trans (Ext.size (x614 ())) x11.size) rfl rfl (sl_new a11 rfl) rfl rfl (by simp;omega) (fun vo' w12 ho' c12=>?_)
     repeat (first|refine go ?_|refine zg (fun _ _=>?_)|refine zi (fun _ _=>?_))
     refine ⟨(i+1,vo'),⟨rfl,rfl,rfl,rfl,?_,rfl,trivial⟩,⟨(((x614 ()).trans x11).chg c12).mono (fun b hb=>.inr (ho1.base b (by simpa using hb))),by simp;omega,?_⟩,by simp;omega⟩
     ·show Value.bool true=.bool (insRun p c (l.take (i+1))).2
      rw [yes]
     ·show Own _ _ _ _ _ (insRun p c (l.take (i+1))).1
      rw [yes];exact ho'
    ·have hq:(insRun p c (l.take i)).2=true:=by simpa using hq
     repeat (first|refine go ?_|refine zg (fun _ _=>?_)|refine zi (fun _ _=>?_))
     refine st_elemE rfl rfl (hs6.ext (x79 ())) rfl hil' (fun ad r10=>?_)
     repeat (first|refine go ?_|refine zg (fun _ _=>?_)|refine zi (fun _ _=>?_))
     refine st_buildSlice rfl (fun b11 w11 x11 a11 hb11=>?_)
     repeat (first|refine go ?_|refine zg (fun _ _=>?_)|refine zi (fun _ _=>?_))
     refine st_append (E:=entE) (v:=vo) (l2:= [l[i]]) rfl (((ho.ext x8).ext x9).ext x11) (Nat.le_trans (Ext.size (x79 ())) x11.size) rfl rfl (sl_new a11 rfl) rfl rfl (by simp;omega) (fun vo' w12 ho' c12=>?_)
     repeat (first|refine go ?_|refine zg (fun _ _=>?_)|refine zi (fun _ _=>?_))
     refine ⟨(i+1,vo'),⟨rfl,rfl,rfl,rfl,?_,rfl,trivial⟩,⟨(((x79 ()).trans x11).chg c12).mono (fun b hb=>.inr (ho.base b (by simpa using hb))),by simp;omega,?_⟩,by simp;omega⟩
     ·show Value.bool (insRun p c (l.take i)).2=.bool (insRun p c (l.take (i+1))).2
      rw [no (.inr hq)]
     ·show Own _ _ _ _ _ (insRun p c (l.take (i+1))).1
      rw [no (.inr hq)];exact ho'
   ·repeat (first|refine go ?_|refine zg (fun _ _=>?_)|refine zi (fun _ _=>?_))
    refine st_elemE rfl rfl (hs6.ext (x79 ())) rfl hil' (fun ad r10=>?_)
    repeat (first|refine go ?_|refine zg (fun _ _=>?_)|refine zi (fun _ _=>?_))
    refine st_buildSlice rfl (fun b11 w11 x11 a11 hb11=>?_)
    repeat (first|refine go ?_|refine zg (fun _ _=>?_)|refine zi (fun _ _=>?_))
    refine st_append (E:=entE) (v:=vo) (l2:= [l[i]]) rfl (((ho.ext x8).ext x9).ext x11) (Nat.le_trans (Ext.size (x79 ())) x11.size) rfl rfl (sl_new a11 rfl) rfl rfl (by simp;omega) (fun vo' w12 ho' c12=>?_)
    repeat (first|refine go ?_|refine zg (fun _ _=>?_)|refine zi (fun _ _=>?_))
    refine ⟨(i+1,vo'),⟨rfl,rfl,rfl,rfl,?_,rfl,trivial⟩,⟨(((x79 ()).trans x11).chg c12).mono (fun b hb=>.inr (ho.base b (by simpa using hb))),by simp;omega,?_⟩,by simp;omega⟩
    ·show Value.bool (insRun p c (l.take i)).2=.bool (insRun p c (l.take (i+1))).2
     rw [no (.inl hL)]
    ·show Own _ _ _ _ _ (insRun p c (l.take (i+1))).1
     rw [no (.inl hL)];exact ho'
  ·have el:l.take i=l:=List.take_of_length_le (by omega)
   have s6:=(x06 ()).size
   repeat (first|refine go ?_|refine zg (fun _ _=>?_)|refine zi (fun _ _=>?_))
   refine c_condB rfl (fun hp=>?_) (fun hp=>?_)
   ·have hp:(insRun p c (l.take i)).2=false:=by simpa using hp
    repeat (first|refine go ?_|refine zg (fun _ _=>?_)|refine zi (fun _ _=>?_))
    refine st_buildSlice rfl (fun b13 w13 x13 a13 hb13=>?_)
    repeat (first|refine go ?_|refine zg (fun _ _=>?_)|refine zi (fun _ _=>?_))
    refine st_append (E:=entE) (v:=vo) (l2:= [(p,c)]) rfl (ho.ext x13) (Nat.le_trans x7.size x13.size) rfl rfl (sl_new a13 rfl) rfl rfl (by simp;omega) (fun vo1 w14 ho1 c14=>?_)
    have x614:Unit→Ext w5 w14:=fun _=>((x7.trans x13).chg c14).mono (fun b hb=>.inr (ho.base b (by simpa using hb)))
    repeat (first|refine go ?_|refine zg (fun _ _=>?_)|refine zi (fun _ _=>?_))
    rw [el] at hp ho1
    refine x_ret (ret2 rv_tmp rv_tmp) ⟨vo1,by rw [hc0];rfl,?_,.inr fun b hb=>Nat.le_trans s6 (ho1.base b hb),(x06 ()).trans (x614 ())⟩
    rw [refPut,if_pos hc0,insEnd,hp]
    exact ho1.sl
   ·have hp:(insRun p c (l.take i)).2=true:=by simpa using hp
    repeat (first|refine go ?_|refine zg (fun _ _=>?_)|refine zi (fun _ _=>?_))
    rw [el] at hp ho
    refine x_ret (ret2 rv_tmp rv_tmp) ⟨vo,by rw [hc0];rfl,?_,.inr fun b hb=>Nat.le_trans s6 (ho.base b hb),(x06 ()).trans x7⟩
    rw [refPut,if_pos hc0,insEnd,hp]
    exact ho.sl
end Go.Proofs.YtbidkcjendncaaaGreat
end
section
namespace Go.Proofs.YtbidkcjendncaaaGreat
open Go Go.K
attribute [local irreducible] regK codeK retK KOp.wp K.Spec u32 leS vnS str zero32 sha2 encT idT sizeT checkT grantB
end Go.Proofs.YtbidkcjendncaaaGreat
end
section
namespace Go.Proofs.YtbidkcjendncaaaGreat
open Go Go.K
attribute [local irreducible] regK codeK retK KOp.wp K.Spec u32 leS vnS str zero32 sha2 encT idT sizeT checkT grantB
theorem rem8 (b:UInt8) (m:Nat) (h:0<m):binVal .rem (.int .u8 (b.toNat:Nat)) (.int .u8 (m:Nat))=some (.int .u8 ((UInt8.ofNat (b.toNat%m)).toNat:Nat)):=by
 have h1:=b.toNat_lt
 have h2:b.toNat%m≤b.toNat:=Nat.mod_le _ _
 have e:(UInt8.ofNat (b.toNat%m)).toNat=b.toNat%m:=by rw [UInt8.toNat_ofNat'];omega
 rw [rem_u8 _ _ h,e]
theorem quoN (a:Int) (m:Nat) (h:0<m) (ha: -9223372036854775808<a∧a<9223372036854775808):binVal .quo (.int .i64 a) (.int .i64 (m:Nat))=some (.int .i64 (a.tdiv (m:Nat))):=by
 have hne:(m:Int)≠0:=by omega
 simp only [binVal,isShift,Bool.false_eq_true,if_false,if_true,intBin]
 rw [if_neg hne]
 have hb: -9223372036854775808≤a.tdiv (m:Nat)∧a.tdiv (m:Nat)≤9223372036854775807:=by
  by_cases hn:0≤a
  ·obtain ⟨n,rfl⟩:=Int.eq_ofNat_of_zero_le hn
   rw [td]
   have:=Nat.div_le_self n m
   generalize n / m=q at this ⊢
   omega
  ·obtain ⟨n,hn2⟩:=Int.eq_ofNat_of_zero_le (show 0≤ -a by omega)
   have e:a= -((n:Nat):Int):=by omega
   rw [e,Int.neg_tdiv,td]
   have:=Nat.div_le_self n m
   generalize n / m=q at this ⊢
   omega
 rw [IntWalk.i64_in _ hb]
abbrev zTx:List Value:= [.int .u32 0,.slice none 0 0,.slice none 0 0,.int .u32 0]
end Go.Proofs.YtbidkcjendncaaaGreat
end
