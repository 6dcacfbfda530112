/- The walk of ChurnNil. -/
import Derived.Test.YteceapipdhnhdaaGreatDoorNa48
import Derived.Test.YteceapipdhnhdaaGreatDoorNa49
set_option linter.unusedVariables false
set_option linter.unusedSimpArgs false
namespace Go.Proofs.YteceapipdhnhdaaGreatDoor
section
open Go Go.K
theorem bMo {t:Tx} (h:t.Cut 4):t.Sm:=⟨by have:=h.ins;omega,by have:=h.outs;omega,fun x hx=>by have:=h.wit x hx;omega⟩
attribute [local irreducible] aH aM aY KOp.wp K.Spec u32 leS vnS str aP cM bK idT aQ aG aN idN bU eX eV iS aU EtR
set_option maxHeartbeats 16000000 in
set_option maxRecDepth 4000 in
theorem aT4 {cs0:List Value} {t0:Tx} (p0:Pt) (most:Int) (w:World) (hg:EtR w) (ht0:txR.rel [] w cs0 t0) (hraw:t0.Raw):K.Spec Tryz.prog F.kedgelaw20_ChurnNil [.agg cs0.toArray,.agg p0.cs.toArray,.int .i64 most] w fun r w'=>r=.bool true∧Ext w w':=by
 obtain ⟨iv0,ov0,rfl, -⟩:=id ht0
 have one0:=txR.one ht0
 refine aBq rfl ?_
 unfold pC
 refine oy ?_
 repeat (first|refine zD (d:=some 3) (cs:=aK t0 iv0 ov0) rfl rfl (fun b3 w1 x1 a3 (r3:Row w1 ⟨b3,0,none⟩ (aK t0 iv0 ov0)) hb3=>?_)|refine zD (d:=some 4) (cs:=p0.cs) rfl rfl (fun b4 w2 x2 a4 (r4:Row w2 ⟨b4,0,none⟩ p0.cs) hb4=>?_)|(first|refine go2 ?_|fail))
 have x02:=x1.trans x2
 refine zC (d:=some 18) rfl (bKn (M:= []) (cs:=aK t0 iv0 ov0) (t:=t0) 4 _ (R.ext ht0 x02) hraw (by decide) (by simp)) ?_
 rintro _ w3 ⟨csu,u,rfl,u2,hcu,x3⟩
 have hu3:=u2.rel (fun y hy=>by simp at hy)
 have hsmu:=bMo hcu
 obtain ⟨iv,ov,rfl,ub1,ub2, -⟩:=id hu3
 have oneu:=txR.one hu3
 have u1c:=ub1.one
 have u2c:=ub2.one
 repeat (first|refine zE (d':=8) (fun _=>rfl) rfl rfl (List.all_eq_true.2 oneu) (fun b8 w4 x4 a8 (r8:Row w4 ⟨b8,0,none⟩ (aK u iv ov)) hb8=>?_)|refine go1 ?_)
 have x24:=x3.trans x4
 have x04:=x02.trans x24
 have r44:=Row.ext x24 r4
 have hu4:=R.ext hu3 x4
 clear x1 x2 x3 x4 x02 x24 a3 r3 a4 r4 a8 hu3 u2 hb3 hb4 hb8 ub1 ub2
 refine zi (fun w5 x5=>?_)
 have r45:=Row.ext x5 r44
 have r85:=Row.ext x5 r8
 refine dN (b:=.cons ⟨some 24,_,_⟩ _) (fun (q:Nat × Nat) w'=>Ext w4 w') (fun q=> [(2,.int .i64 most),(4,.pointer (some ⟨b4,0,none⟩)),(7,.pointer none),(8,.pointer (some ⟨b8,0,none⟩)),(19,.pointer none),(21,.slice (some ⟨q.1,0,none⟩) 1 1),(23,.iface T.P_chain_Chain (.pointer (some ⟨q.2,0,none⟩)))]) ?_ ?_
 ·repeat' (first|refine zB ?_ ?_|refine zI (d:=some 21) (cs:=aK u iv ov) rfl (fun b9 w9 x9 a9 hb9=>?_)|(refine zC (d:=some 22) rfl (aAs (U:= []) _ (by simp)) ?_;rintro _ w7 ⟨c,Mc,rfl,hC,hMc,x7⟩)|(exact ⟨(b9,c),⟨rfl,rfl,rfl,rfl,rfl,rfl,rfl,trivial⟩,by exact fx⟩)|(first|refine go2 ?_|fail))
 rintro ⟨b21,c1⟩ ρ6 w6 x6
 try dsimp only
 refine zC (d:=some 24) rfl (aWp _ _ 1 _) ?_
 rintro _ w7 x7
 have x47:=x6.trans x7
 clear x5 r45 r85 x6 x7
 have r47:=Row.ext x47 r44
 have r87:=Row.ext x47 r8
 repeat (refine go1 ?_)
 refine zi (fun w8 x8=>?_)
 have r48:=Row.ext x8 r47
 have r88:=Row.ext x8 r87
 refine dN (b:=.cons ⟨some 30,_,_⟩ _) (fun (q:Nat × Nat) w'=>Ext w7 w') (fun q=> [(2,.int .i64 most),(4,.pointer (some ⟨b4,0,none⟩)),(7,.pointer none),(8,.pointer (some ⟨b8,0,none⟩)),(25,.pointer none),(27,.slice (some ⟨q.1,0,none⟩) 1 1),(29,.iface T.P_chain_Chain (.pointer (some ⟨q.2,0,none⟩)))]) ?_ ?_
 ·repeat' (first|refine zB ?_ ?_|refine zI (d:=some 27) (cs:=aK u iv ov) rfl (fun b9 w9 x9 a9 hb9=>?_)|(refine zC (d:=some 28) rfl (aAs (U:= []) _ (by simp)) ?_;rintro _ w10 ⟨c,Mc,rfl,hC,hMc,x10⟩)|(exact ⟨(b9,c),⟨rfl,rfl,rfl,rfl,rfl,rfl,rfl,trivial⟩,by exact fx⟩)|(first|refine go2 ?_|fail))
 rintro ⟨b27,c2⟩ ρ9 w9 x9
 try dsimp only
 refine zC (d:=some 30) rfl (aQ9 _ _ 1 _) ?_
 rintro _ w10 x10
 have x710:=x9.trans x10
 have r410:=Row.ext x710 r47
 have r810:=Row.ext x710 r87
 have x010:Ext w w10:=x04.trans (x47.trans x710)
 have hu10:=R.ext hu4 (x47.trans x710)
 clear x8 r48 r88 x9 x10 r47 r87 x47 x710 x04 r44 r8 hu4
 repeat (first|(refine zC (d:=some 35) rfl (bIf p0.s _) ?_;rintro _ w11 ⟨rfl,x11⟩)|refine zE (d':=9) (fun _=>rfl) rfl rfl rfl (fun b9 w12 x12 a12 (r12:Row w12 ⟨b9,0,none⟩ zR) hb12=>?_)|(refine zC (d:=some 41) rfl (aZa p0 _) ?_;rintro _ w13 ⟨rfl,x13⟩)|(refine zC (d:=some 47) rfl (bD4 (cs:=aK u iv ov) (t:=u) rfl _ u1c u2c) ?_;rintro _ w14 ⟨rfl,x14⟩)|(refine zC (d:=some 51) rfl (aE9 (U:= []) most _ (by simp)) ?_;rintro _ w15 ⟨x,rfl,hx15,hP15,x15⟩)|refine go1 ?_)
 have x1015:Ext w10 w15:=x11.trans (x12.trans (x13.trans (x14.trans x15)))
 have r815:=Row.ext x1015 r810
 have x015:=x010.trans x1015
 have s15:w.heap.size≤w14.heap.size:=(x010.trans (x11.trans (x12.trans (x13.trans x14)))).size
 have hu15:txR.rel [x] w15 (aK u iv ov) u:=R.step txR hu10 x1015 (by simp) (fun y hy=>by simp at hy;subst hy;exact .inr (nTr (x11.trans (x12.trans (x13.trans x14))).size hx15))
 have lx:x<w15.heap.size:=by obtain ⟨_,g,B,M0,h1,_⟩:=hP15;exact h1.lt
 have hx0:w.heap.size≤x:=nTr s15 hx15
 clear x11 x12 a12 r12 x13 x14 x15 x1015 r810 r410 x010 hu10 hb12 hx15 s15
 repeat (first|refine zI (d:=some 54) (cs:=aK u iv ov) rfl (fun b54 w16 x16 a16 hb16=>?_)|(refine zC (d:=some 56) rfl (aZn _ 1 _) ?_;rintro _ w17 x17)|refine zI (d:=some 59) (cs:=aK u iv ov) rfl (fun b59 w18 x18 a18 hb18=>?_)|(refine zC (d:=some 61) rfl (aRk _ 1 _) ?_;rintro _ w19 x19)|refine go1 ?_)
 have x1519:Ext w15 w19:=x16.trans (x17.trans (x18.trans x19))
 have x019:=x015.trans x1519
 have r819:=Row.ext x1519 r815
 have hu19:=R.ext hu15 x1519
 have hP19:=hP15.ext x1519
 have lx19:∀y∈ [x],y<w19.heap.size:=fun y hy=>by simp at hy;subst hy;exact nLt lx x1519.size
 have hg19:=hg.ext x019
 clear x16 x17 x18 x19 a16 a18 hb16 hb18 x1519 r815 hu15 hP15 lx x015
 repeat (refine go1 ?_)
 refine zi (fun w20 x20=>?_)
 have r820:=Row.ext x20 r819
 repeat (first|(refine zC (d:=some 62) rfl (aUv _ (hg19.ext x20)) ?_;rintro _ w21 ⟨rfl,x21⟩)|(refine zC (d:=some 81) rfl (bAd _) ?_;rintro _ _ ⟨rfl,rfl⟩)|(refine zC (d:=some 86) rfl (bHt _) ?_;rintro _ w22 ⟨rfl,x22⟩)|refine dN (b:=.cons ⟨some 96,_,_⟩ _) (fun (c:Nat) w'=>Ext w22 w') (fun c=> [(8,.pointer (some ⟨b8,0,none⟩)),(15,.pointer (some ⟨x,0,none⟩)),(16,.nilIface),(90,.bool true),(91,.pointer none),(92,.agg (aK u iv ov).toArray),(93,.agg (aK u iv ov).toArray),(95,.iface T.P_chain_Chain (.pointer (some ⟨c,0,none⟩))),(97,qO 1)]) ?_ ?_|(first|refine go2 ?_|fail))
 ·have r822:=Row.ext (x21.trans x22) r820
  repeat' (first|refine zB ?_ ?_|(refine zC (d:=some 94) rfl (aAs (U:= []) _ (by simp)) ?_;rintro _ w10 ⟨c,Mc,rfl,hC,hMc,x10⟩)|(exact ⟨c,⟨rfl,rfl,rfl,rfl,rfl,rfl,rfl,rfl,rfl,trivial⟩,by exact fx⟩)|(first|refine go2 ?_|fail))
 rintro c ρ23 w23 x23
 try dsimp only
 have x1923:Ext w19 w23:=x20.trans (x21.trans (x22.trans x23))
 have r823:=Row.ext x1923 r819
 have hP23:=hP19.ext x1923
 have hu23:=R.ext hu19 x1923
 have x023:=x019.trans x1923
 have lx23:∀y∈ [x],y<w23.heap.size:=fun y hy=>nLt (lx19 y hy) x1923.size
 clear x20 r820 x21 x22 x23 x1923 r819 hP19 hu19 x019 lx19 hg19
 repeat (first|(refine zC (d:=some 96) rfl (bDe (cs:=aK u iv ov) (ds:=aK u iv ov) (t:=u) (u:=u) T.P_chain_Chain (.pointer (some ⟨c,0,none⟩)) 1 rfl rfl u1c u2c u1c u2c _) ?_;rintro _ w24 ⟨rfl,x24⟩)|(refine zC (d:=some 98) rfl (aGi 1 _) ?_;rintro _ _ ⟨rfl,rfl⟩)|(first|refine go2 ?_|fail))
 have r824:=Row.ext x24 r823
 refine zC (d:=some 104) rfl (aU0 (U:= [x]) (P:=⟨[],most,0⟩) (cs:=aK u iv ov) (t:=u) 1 _ (hP23.ext x24) (fun y hy=>nLt (lx23 y hy) x24.size) (R.ext hu23 x24) hsmu (by simp)) ?_
 rintro _ w25 ⟨rfl,hP25,c25⟩
 have x025:Ext w w25:=(Ext.chg (x023.trans x24) c25).mono fun y hy=>.inr (by simp at hy;subst hy;exact hx0)
 have lx25:∀y∈ [x],y<w25.heap.size:=fun y hy=>nLt (lx23 y hy) (nTr x24.size c25.size)
 clear c25 x24 r824 hP23 x023 r823 hu23
 repeat (first|(refine zC (d:=some 106) rfl (aGi 1 _) ?_;rintro _ _ ⟨rfl,rfl⟩)|(refine zC (d:=some 110) rfl (zV (U:= [x]) (P:=⟨[],most,0⟩) _ hP25 lx25 (by simp)) ?_;rintro v26 w26 ⟨o26,x26⟩)|refine zG (d:=some 111) (E:=eD) (M:= [x]) (l:=([]:List Ent)) rfl (o26.slB lx25) ?_|(refine zC (d:=some 116) rfl (aT3 (U:= [x]) (P:=⟨[],most,0⟩) _ (hP25.ext x26)) ?_;rintro _ _ ⟨rfl,rfl⟩)|(first|refine go2 ?_|fail))
 exact aA rfl ⟨rfl,x025.trans x26⟩
end
end Go.Proofs.YteceapipdhnhdaaGreatDoor
