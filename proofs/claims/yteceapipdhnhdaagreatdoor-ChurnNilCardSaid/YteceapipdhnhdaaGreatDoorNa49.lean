/- Contracts: nobody comes without a view. -/
import Derived.Test.YteceapipdhnhdaaGreatDoorNa44
import Derived.Test.YteceapipdhnhdaaGreatDoorNa47
set_option linter.unusedVariables false
set_option linter.unusedSimpArgs false
namespace Go.Proofs.YteceapipdhnhdaaGreatDoor
section
open Go Go.K
attribute [local irreducible] aH aM aY KOp.wp K.Spec u32 leS vnS str aP cM bK idT aQ aG aN idN bU eX eV iS aU
theorem bHw {g:Nat} {cs:List Value} {iv ov:Value} {t:Tx} (h rate:Int) (he:cs=aK t iv ov) (w:World):K.Spec Tryz.prog F.pool_Plain [.pointer (some ⟨g,0,none⟩),.agg cs.toArray,aEx .nilIface h rate] w fun r w'=>r=.tuple #[.int .i64 0,qO 1]∧Ext w w':=by
 subst he
 refine aHc rfl ?_
 unfold aA2
 refine oy ?_
 repeat' (first|refine zD (d:=some 4) rfl rfl (fun bt wt xt bt' (rt:Row wt ⟨bt,0,none⟩ (aK t iv ov)) hbt0=>?_)|refine zD (d:=some 5) (cs:= [.nilIface,.int .i64 h,.int .i64 rate]) rfl rfl (fun bs ws xs bs' (rs:Row ws ⟨bs,0,none⟩ [.nilIface,.int .i64 h,.int .i64 rate]) hbs0=>?_)|(first|refine go2 ?_|fail))
 exact aA rfl ⟨rfl,by exact fx⟩
theorem bBg {g:Nat} {cs:List Value} {iv ov:Value} {t:Tx} (h rate:Int) (he:cs=aK t iv ov) (w:World):K.Spec Tryz.prog F.pool_Accept [.pointer (some ⟨g,0,none⟩),.agg cs.toArray,aEx .nilIface h rate] w fun r w'=>r=.tuple #[.slice none 0 0,qO 1]∧Ext w w':=by
 subst he
 refine wO rfl ?_
 unfold qD
 refine oy ?_
 repeat' (first|refine zD (d:=some 4) rfl rfl (fun bt wt xt bt' (rt:Row wt ⟨bt,0,none⟩ (aK t iv ov)) hbt0=>?_)|refine zD (d:=some 5) (cs:= [.nilIface,.int .i64 h,.int .i64 rate]) rfl rfl (fun bs ws xs bs' (rs:Row ws ⟨bs,0,none⟩ [.nilIface,.int .i64 h,.int .i64 rate]) hbs0=>?_)|(refine zC (d:=some 21) rfl (bHw (cs:=aK t iv ov) (t:=t) h rate rfl _) ?_;rintro _ w3 ⟨rfl,x3⟩)|(first|refine go2 ?_|fail))
 exact aA rfl ⟨rfl,by exact fx⟩
theorem aZq {p:Nat} {U:List Nat} {P:CP} (h:Int) (w:World) (hP:PoR w p U P):K.Spec Tryz.prog F.churn_Pool_terms [.pointer (some ⟨p,0,none⟩),.nilIface,.int .i64 h] w fun r w'=>r=aEx .nilIface h P.floor∧Ext w w':=by
 obtain ⟨h0,g,B,M,hA,h2⟩:=hP
 have rp:Row w ⟨p,0,none⟩ (sA g P):=Row.of_at hA
 refine tU rfl ?_
 unfold lX
 refine oy ?_
 repeat (first|refine zH (d:=some 6) (fun b4 w1 x1 a1 hb4=>?_)|refine aZ (d:=some 13) (cs:= [.nilIface,.int .i64 h,.int .i64 P.floor]) rfl ?_|(first|refine go2 ?_|fail))
 refine aW (w0:=w) (vs:= [.nilIface,.int .i64 h,.int .i64 P.floor]) x1 hb4 a1 rfl rfl rfl rfl rfl (fun w9 x9 c9 a9 r9=>?_)
 repeat (first|refine go2 ?_|fail)
 exact aA (aEo (bA r9 rfl rfl)) ⟨rfl,x9⟩
theorem bLq {p g bt bp bv bh:Nat} {U:List Nat} {P:CP} {iv ov:Value} {t:Tx} (h:Int) (w:World) (hP:PoR w p U P) (r1:Row w ⟨bt,0,none⟩ (aK t iv ov)) (r2:Row w ⟨bp,0,none⟩ [.pointer (some ⟨p,0,none⟩)]) (r3:Row w ⟨bv,0,none⟩ [.nilIface]) (r4:Row w ⟨bh,0,none⟩ [.int .i64 h]):
  K.Spec Tryz.prog F.churn_Pool_Accept_1 [.pointer (some ⟨g,0,none⟩),.pointer (some ⟨bt,0,none⟩),.pointer (some ⟨bp,0,none⟩),.pointer (some ⟨bv,0,none⟩),.pointer (some ⟨bh,0,none⟩)] w fun r w'=>r=qO 1∧Ext w w':=by
 refine pI rfl ?_
 unfold jJ
 refine oy ?_
 repeat' (first|refine zg (fun w1 x1=>?_)|refine dN (b:=.cons ⟨some 16,_,_⟩ _) (fun (_:Unit) w'=>Ext w w') (fun _=> [(10,.pointer (some ⟨g,0,none⟩)),(11,.agg (aK t iv ov).toArray),(15,aEx .nilIface h P.floor)]) ?_ ?_|(rintro _ ρ2 w2 x2;try dsimp only)|refine zB ?_ ?_|(refine zC (d:=some 15) rfl (aZq (U:=U) (P:=P) h _ (hP.ext (by exact fx))) ?_;rintro _ w3 ⟨rfl,x3⟩)|(exact ⟨(),⟨rfl,rfl,rfl,trivial⟩,by exact fx⟩)|(first|refine go2 ?_|fail))
 refine zC (d:=some 16) rfl (bBg (cs:=aK t iv ov) (t:=t) h P.floor rfl _) ?_
 rintro _ w4 ⟨rfl,x4⟩
 repeat (first|refine go2 ?_|fail)
 exact aA rfl ⟨rfl,x2.trans x4⟩
theorem aU0 {p:Nat} {U:List Nat} {P:CP} {cs:List Value} {t:Tx} (h:Int) (w:World) (hP:PoR w p U P) (hU:∀b∈U,b<w.heap.size) (ht:txR.rel U w cs t) (hs:t.Sm) (hl:P.l.length≤900):
  K.Spec Tryz.prog F.churn_Pool_Accept [.pointer (some ⟨p,0,none⟩),.agg cs.toArray,.nilIface,.int .i64 h] w fun r w'=>r=qO 1∧PoR w' p U P∧Chg [p] w w':=by
 obtain ⟨iv,ov,rfl, -⟩:=id ht
 refine kT rfl ?_
 unfold hY
 refine oy ?_
 repeat (first|refine zD (d:=some 4) (cs:= [.pointer (some ⟨p,0,none⟩)]) rfl rfl (fun b4 w4 x4 a4 (r4:Row w4 ⟨b4,0,none⟩ [.pointer (some ⟨p,0,none⟩)]) hb4=>?_)|refine zD (d:=some 5) (cs:=aK t iv ov) rfl rfl (fun b5 w5 x5 a5 (r5:Row w5 ⟨b5,0,none⟩ (aK t iv ov)) hb5=>?_)|refine zD (d:=some 6) (cs:= [.nilIface]) rfl rfl (fun b6 w6 x6 a6 (r6:Row w6 ⟨b6,0,none⟩ [.nilIface]) hb6=>?_)|refine zD (d:=some 7) (cs:= [.int .i64 h]) rfl rfl (fun b7 w7 x7 a7 (r7:Row w7 ⟨b7,0,none⟩ [.int .i64 h]) hb7=>?_)|refine zI (d:=some 15) (cs:=aK t iv ov) rfl (fun b8 w8 x8 a8 hb8=>?_)|(first|refine go2 ?_|fail))
 have x48:=x5.trans (x6.trans (x7.trans x8))
 have x08:Ext w w8:=x4.trans x48
 have q4:=Row.ext x48 r4
 have q5:=Row.ext (x6.trans (x7.trans x8)) r5
 have q6:=Row.ext (x7.trans x8) r6
 have q7:=Row.ext x8 r7
 have hU8:∀b∈U,b<w8.heap.size:=fun b hb=>nLt (hU b hb) x08.size
 have s7:w.heap.size≤w7.heap.size:=(x4.trans (x5.trans (x6.trans x7))).size
 have hs8:SlR txR U w8 (.slice (some ⟨b8,0,none⟩) 1 1) [t]:=bE0 (E:=txR) a8 (R.step txR ht x08 (by simp) (fun y hy=>(List.mem_cons.1 hy).elim (fun q=>.inr (by omega)) .inl)) (fun hm=>by have:=hU b8 hm;omega)
 refine zC (d:=some 16) rfl (aS4 (U:=U) (P:=P) (fn:=F.churn_Pool_Accept_1) (cap:= [.pointer (some ⟨b5,0,none⟩),.pointer (some ⟨b4,0,none⟩),.pointer (some ⟨b6,0,none⟩),.pointer (some ⟨b7,0,none⟩)]) (ts:= [t]) (k:=1) (c:=1) (a:= -1) (l':=P.l) _ (hP.ext x08) hU8 hs8 (by simpa using hs) (by simp) (by omega) (by omega) (by kernel_rfl) (fun w1 B g M x hG hB=>dO (bLq (g:=g) h w1 ((hP.ext x08).ext x) (Row.ext x q5) (Row.ext x q4) (Row.ext x q6) (Row.ext x q7)) fun r w' ⟨e,x'⟩=>⟨M,by rw [e];exact dD.num _ _ (by decide),hG.ext x',x'.mono (by simp),fun b hb=>.inl hb⟩)) ?_
 rintro r w9 ⟨hE,hP9,c9⟩
 have hE:dD w9 1 r 1 (-1):=hE
 have hP9:PoR w9 p U P:=hP9
 repeat (first|refine go2 ?_|fail)
 exact aA rfl ⟨bIv hE (by decide),hP9,Ext.chg x08 c9⟩
end
end Go.Proofs.YteceapipdhnhdaaGreatDoor
