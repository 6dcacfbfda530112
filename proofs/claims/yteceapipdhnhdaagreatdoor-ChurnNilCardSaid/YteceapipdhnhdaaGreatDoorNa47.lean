/- Contracts: what comes to what waits. Contracts: a pool as it -/
import Derived.Test.YteceapipdhnhdaaGreatDoorChecked
import Derived.WalkKit
import Derived.Handy
import Derived.Test.YteceapipdhnhdaaGreatDoorNa46
set_option linter.unusedVariables false
set_option linter.unusedSimpArgs false
section
namespace Go.K
open Go
def aDp (P:CP) (c a:Int) (l:List Ent) (ts:List Tx):Int × Int:=if c≠0 then (c,a) else if ts.any (fun t=>inB (aXg P l) (idS t)) then (16, -1) else (0, -1)
def aIc (P:CP) (c a:Int) (l:List Ent) (ts:List Tx):CP:=if (aDp P c a l ts).1=0 then aL7 P l else P
theorem bBw {q:Tx→Bool} {ts:List Tx} {i:Nat} (hi:i<ts.length) (h0:(ts.take i).any q=false):(ts.take (i+1)).any q=q ts[i]:=by
 rw [List.take_succ_eq_append_getElem hi,List.any_append,h0];simp
end Go.K
namespace Go.Proofs.YteceapipdhnhdaaGreatDoor
open Go Go.K
attribute [local irreducible] aH aM aY KOp.wp K.Spec u32 leS vnS str aP cM bK idT aQ aG aN idN bU eX eV iS aU
theorem aOh {v:Value} {l:List ByteArray} (a:ByteArray) (w:World) (hs:SlE bB w v l) (hn:l.length≤1000000):K.Spec Tryz.prog F.slices_Contains_L_string_string [v,.string a] w fun r w'=>r=.bool (inB l a)∧w'=w:=
 dO (aDd a w hs (by omega)) fun r w' ⟨h1,h2⟩=>⟨by rw [h1];unfold inB;simp [eq_comm],h2⟩
set_option maxHeartbeats 8000000 in
theorem aS4 {p:Nat} {U:List Nat} {P:CP} {fn:FuncId} {cap:List Value} {sv:Value} {ts:List Tx} {k:Nat} {c a:Int} {l':List Ent} (w:World) (hP:PoR w p U P) (hU:∀b∈U,b<w.heap.size) (hs:SlR txR U w sv ts) (hsm:∀t∈ts,t.Sm) (hts:ts.length≤2) (hl:P.l.length≤1000) (hl':l'.length≤1000) (hb:bW Tryz.prog fn=true)
  (hx:∀w1 B g M,Ext w w1→GrU w1 B g M U P.l→w.heap.size≤B→K.Spec Tryz.prog fn (.pointer (some ⟨g,0,none⟩)::cap) w1 fun r w'=>∃M',dD w' k r c a∧GrU w' B g M' U l'∧Chg M w1 w'∧∀b∈M',b∈M∨w1.heap.size≤b):
  K.Spec Tryz.prog F.churn_Pool_come [.pointer (some ⟨p,0,none⟩),.func (.func fn) #[] cap.toArray,sv] w fun r w'=>dD w' k r (aDp P c a l' ts).1 (aDp P c a l' ts).2∧PoR w' p U (aIc P c a l' ts)∧Chg [p] w w':=by
 obtain ⟨hpU,g,B,M,hA,hG⟩:=id hP
 have rp:Row w ⟨p,0,none⟩ (sA g P):=Row.of_at hA
 have hMl:=hG.gr.lt
 have hl1:=hG.rd
 have hUM:∀b∈U++M,b<w.heap.size:=fun b hb=>(List.mem_append.1 hb).elim (hU b) (hMl b)
 refine aG5 rfl ?_
 unfold vT
 refine oy ?_
 repeat (first|refine go2 ?_|fail)
 refine zC (d:=some 19) rfl (bMh (M:=U++M) _ hl1 hUM hl) ?_
 rintro _ w1 ⟨g1,M1,rfl,hG1,x1⟩
 have hB1:=hG1.gr.base
 repeat (first|refine go2 ?_|fail)
 refine dP (d:=some 22) rfl hb (by simp;rfl) (hx w1 w.heap.size g1 M1 x1 (hG1.sub fun b hb=>List.mem_append_left _ hb) (Nat.le_refl _)) ?_
 rintro e w2 ⟨M2,hE,hG2,c2,hM2⟩
 have x02:Ext w w2:=(Ext.chg x1 c2).mono fun b hb=>.inr (hB1 b hb)
 have hU2:∀b∈U,b<w2.heap.size:=fun b hb=>nLt (hU b hb) x02.size
 have hB2:=hG2.gr.base
 have r2:=Row.ext x02 rp
 clear hG1 hB1 c2 hM2 x1 hUM hl1 hx
 by_cases hc:c=0
 ·obtain ⟨rfl,rfl⟩:=hE.nil_iff.1 hc
  clear hE
  repeat (first|refine go2 ?_|fail)
  refine zC (d:=some 32) rfl (aTu (U:=U) (l:=l') P.most _ hG2 hU2 hl') ?_
  rintro _ w3 ⟨M3,v3,rfl,hG3,o3,c3,hM3,hd3⟩
  have x03:Ext w w3:=(Ext.chg x02 c3).mono fun b hb=>.inr (hB2 b hb)
  have r3:=Row.ext x03 rp
  have hB3:=hG3.gr.base
  have s3:=o3.sl
  have hgl:(bU P.most l').2.1.length≤1000000:=by
   have:=aVh (m:=P.most) hG2.gr.nodup;omega
  have hs3:=SlR.ext hs x03
  have hA3:=hA.ext x03
  clear x02 c3 hM3 o3 hG2 hB2 r2 hd3
  repeat (first|refine go2 ?_|fail)
  refine zG (d:=some 36) (E:=txR) (M:=U) (l:=ts) rfl hs3 ?_
  repeat (first|refine go2 ?_|fail)
  refine aJ (fun (i:Nat) w'=>Ext w3 w'∧i≤ts.length∧((ts.take i).any fun t=>inB (aXg P l') (idS t))=false) (fun i=> [(0,.pointer (some ⟨p,0,none⟩)),(7,.pointer (some ⟨g1,0,none⟩)),(9,v3),(10,.int .i64 (bU P.most l').2.2),(35,sv),(36,.int .i64 (ts.length:Nat)),(37,.int .i64 (i:Nat))]) (fun i=>ts.length - i) 0 ⟨rfl,rfl,rfl,rfl,rfl,rfl,rfl,trivial⟩ ⟨Ext.refl _,by simp,by simp⟩ ?_
  rintro i ρ w4 ⟨x4,hi,hno⟩
  repeat (first|refine go2 ?_|fail)
  refine zL (x:=.tmp 38) (p:=((i:Nat):Int)<((ts.length:Nat):Int)) rfl (fun h5=>?_) (fun h5=>?_)
  ·have hil:i<ts.length:=by omega
   have hsmt:=hsm _ (gMe hil)
   have hnx:=bBw (q:=fun t=>inB (aXg P l') (idS t)) hil hno
   repeat (first|(refine aR (d:=some 39) (E:=txR) (M:=U) rfl rfl (n:=i) (l:=ts) (hs3.ext x4) rfl hil (fun ad cs r4 he=>?_);have ones:=txR.one he;obtain ⟨iv,ov,rfl, -⟩:=id he)|refine zE (d':=12) (fun _=>rfl) rfl rfl (List.all_eq_true.2 ones) (fun b10 w5 x5 a10 (r10:Row w5 ⟨b10,0,none⟩ (aK ts[i] iv ov)) hb10=>?_)|(first|refine go2 ?_|fail))
   refine zC (d:=some 43) rfl (vK (M:=U) _ (cs:=aK ts[i] iv ov) (R.ext he x5) hsmt) ?_
   rintro _ w6 ⟨rfl,x6⟩
   rw [bBb]
   repeat (first|refine go2 ?_|fail)
   refine zC (d:=some 48) rfl (aOh (l:=(bU P.most l').2.1) (idS ts[i]) _ (s3.ext (x4.trans (x5.trans x6))) hgl) ?_
   rintro _ w7 ⟨rfl,rfl⟩
   have x07:Ext w w7:=x03.trans (x4.trans (x5.trans x6))
   by_cases hin:inB (bU P.most l').2.1 (idS ts[i])=true
   ·rw [hin]
    have hany:(ts.any fun t=>inB (aXg P l') (idS t))=true:=List.any_eq_true.2 ⟨ts[i],gMe hil,hin⟩
    have e1:aDp P c (-1) l' ts=(16, -1):=by unfold aDp;rw [if_neg (fun q=>q hc),if_pos hany]
    have e2:aIc P c (-1) l' ts=P:=by unfold aIc;rw [e1];rfl
    repeat (first|refine go2 ?_|fail)
    rw [e1,e2]
    exact aA rfl ⟨dD.num _ _ (by decide),hP.ext x07,x07.mono (by simp)⟩
   ·rw [Bool.not_eq_true] at hin
    rw [hin]
    repeat (first|refine go2 ?_|fail)
    exact ⟨i+1,⟨rfl,rfl,rfl,rfl,rfl,rfl,rfl,trivial⟩,⟨x4.trans (x5.trans x6),by omega,hnx.trans hin⟩,by omega⟩
  ·have hi':i=ts.length:=by omega
   rw [hi',List.take_length] at hno
   have e1:aDp P c (-1) l' ts=(0, -1):=by unfold aDp;rw [if_neg (fun q=>q hc),if_neg (by rw [hno];decide)]
   have e2:aIc P c (-1) l' ts=aL7 P l':=by unfold aIc;rw [e1];rfl
   have r4:=Row.ext x4 r3
   repeat (first|refine aJ5 (d:=some 59) rfl rfl ?_|refine aD7 (b:=p) (cur:=sA g P) rfl rfl rfl (hA3.ext x4) (Nat.le_of_ble_eq_true rfl) (fun w5 c5 a5=>?_)|refine bC (b:=p) (o:=2) (cur:=sA g1 P) rfl rfl rfl a5 (Nat.le_of_ble_eq_true rfl) (fun w6 c6 a6=>?_)|(first|refine go2 ?_|fail))
   have c46:Chg [p] w4 w6:=(Chg.trans c5 c6).mono (fun b hb=>by simp at hb;exact .inl (by simp [hb]))
   rw [e1,e2]
   exact aA rfl ⟨dD.none_ _ _,⟨hpU,g1,w.heap.size,M3,a6,(hG3.ext x4).chg (c46.mono fun b hb=>.inl (by simp at hb;rw [hb];exact hpU)) (fun b hb=>.inl hb)⟩,Ext.chg (x03.trans x4) c46⟩
 ·obtain ⟨et,eu,rfl⟩:=hE.nil_iff.2 hc
  have e1:aDp P c a l' ts=(c,a):=by unfold aDp;rw [if_pos hc]
  have e2:aIc P c a l' ts=P:=by unfold aIc;rw [e1,if_neg hc]
  repeat (first|refine go2 ?_|fail)
  rw [e1,e2]
  exact aA rfl ⟨hE,hP.ext x02,x02.mono (by simp)⟩
end Go.Proofs.YteceapipdhnhdaaGreatDoor
end
namespace Go.Proofs.YteceapipdhnhdaaGreatDoor
section
open Go Go.K
attribute [local irreducible] aH aM aY KOp.wp K.Spec u32 leS vnS str aP cM bK idT aQ aG aN idN bU eX eV iS aU
theorem aE9 {U:List Nat} (most:Int) (w:World) (hU:∀b∈U,b<w.heap.size):K.Spec Tryz.prog F.churn_New [.int .i64 most] w fun r w'=>∃p,r=.pointer (some ⟨p,0,none⟩)∧w.heap.size≤p∧PoR w' p (p::U) ⟨[],most,0⟩∧Ext w w':=by
 refine aYs rfl ?_
 unfold aLo
 refine oy ?_
 repeat (first|refine go2 ?_|fail)
 refine zC (d:=some 3) rfl (bAh _) ?_
 rintro _ w1 ⟨g,M,rfl,hG,x1⟩
 repeat (first|refine aZ (d:=some 5) (cs:=sA g ⟨[],most,0⟩) rfl ?_|refine zD (d:=some 6) (cs:=sA g ⟨[],most,0⟩) rfl rfl (fun p w2 x2 a2 (r2:Row w2 ⟨p,0,none⟩ (sA g ⟨[],most,0⟩)) hp=>?_)|(first|refine go2 ?_|fail))
 have hb:=hG.base
 have hl:=hG.lt
 have s1:=x1.size
 exact aA rfl ⟨p,rfl,by omega,⟨by simp,g,w.heap.size,M,a2,GrU.fresh (hG.ext x2) fun b hb1 hb2=>by
  simp only [List.mem_cons] at hb2
  have h1:=hb b hb1
  have h2:=hl b hb1
  rcases hb2 with rfl|hb2
  ·omega
  ·have:=hU b hb2;omega⟩,x1.trans x2⟩
theorem bFw {p g:Nat} {P:CP} (w:World) (h:At w p (.cells (sA g P).toArray T.churn_Pool (0,0))):K.Spec Tryz.prog F.churn_Pool_held [.pointer (some ⟨p,0,none⟩)] w fun r w'=>r=.pointer (some ⟨g,0,none⟩)∧w'=w:=by
 have rp:Row w ⟨p,0,none⟩ (sA g P):=Row.of_at h
 refine wE rfl ?_
 unfold nB
 refine oy ?_
 repeat (first|refine go2 ?_|fail)
 exact aA rfl ⟨rfl,rfl⟩
theorem aIo (w:World):K.Spec Tryz.prog F.churn_Pool_held [.pointer none] w fun r w'=>r=.pointer none∧w'=w:=by
 refine wE rfl ?_
 unfold nB
 refine oy ?_
 repeat (first|refine go2 ?_|fail)
 exact aA rfl ⟨rfl,rfl⟩
theorem zV {p:Nat} {U:List Nat} {P:CP} (w:World) (h:PoR w p U P) (hU:∀b∈U,b<w.heap.size) (hl:P.l.length≤1000):K.Spec Tryz.prog F.churn_Pool_All [.pointer (some ⟨p,0,none⟩)] w fun r w'=>bH eD T.api_Entry w.heap.size U w' r P.l∧Ext w w':=by
 obtain ⟨h0,g,B,M,h1,h2⟩:=h
 have hMl:=h2.gr.lt
 refine yL rfl ?_
 unfold pL
 refine oy ?_
 repeat (first|refine go2 ?_|fail)
 refine zC (d:=some 4) rfl (bFw _ h1) ?_
 rintro _ _ ⟨rfl,rfl⟩
 repeat (first|refine go2 ?_|fail)
 refine zC (d:=some 5) rfl (sZ (M:=U++M) _ h2.rd (fun b hb=>(List.mem_append.1 hb).elim (hU b) (hMl b)) (by omega)) ?_
 rintro v w1 ⟨o1,x1⟩
 repeat (first|refine go2 ?_|fail)
 exact aA rfl ⟨o1.sub fun b hb=>.inl (List.mem_append_left _ hb),x1⟩
theorem bHt (w:World):K.Spec Tryz.prog F.churn_Pool_All [.pointer none] w fun r w'=>r=.slice none 0 0∧Ext w w':=by
 refine yL rfl ?_
 unfold pL
 refine oy ?_
 repeat (first|refine go2 ?_|fail)
 refine zC (d:=some 4) rfl (aIo _) ?_
 rintro _ _ ⟨rfl,rfl⟩
 repeat (first|refine go2 ?_|fail)
 refine zC (d:=some 5) rfl (all_nil _) ?_
 rintro _ w1 ⟨rfl,x1⟩
 repeat (first|refine go2 ?_|fail)
 exact aA rfl ⟨rfl,x1⟩
theorem aT3 {p:Nat} {U:List Nat} {P:CP} (w:World) (h:PoR w p U P):K.Spec Tryz.prog F.churn_Pool_Floor [.pointer (some ⟨p,0,none⟩)] w fun r w'=>r=.int .i64 P.floor∧w'=w:=by
 obtain ⟨h0,g,B,M,h1,h2⟩:=h
 have rp:Row w ⟨p,0,none⟩ (sA g P):=Row.of_at h1
 refine tB rfl ?_
 unfold lZ
 refine oy ?_
 repeat (first|refine go2 ?_|fail)
 exact aA rfl ⟨rfl,rfl⟩
theorem bAd (w:World):K.Spec Tryz.prog F.churn_Pool_Floor [.pointer none] w fun r w'=>r=.int .i64 0∧w'=w:=by
 refine tB rfl ?_
 unfold lZ
 refine oy ?_
 repeat (first|refine go2 ?_|fail)
 exact aA rfl ⟨rfl,rfl⟩
theorem bIf (id:ByteArray) (w:World):K.Spec Tryz.prog F.churn_Pool_Get [.pointer none,.string id] w fun r w'=>r=.tuple #[.agg zR.toArray,.bool false]∧Ext w w':=by
 refine aKk rfl ?_
 unfold yB
 refine oy ?_
 repeat (first|refine zH (d:=some 4) (fun b4 w1 x1 a1 hb4=>?_)|(refine zC (d:=some 7) rfl (aIo _) ?_;rintro _ _ ⟨rfl,rfl⟩)|(refine zC (d:=some 9) rfl (bEn id _) ?_;rintro _ w2 ⟨rfl,x2⟩)|(first|refine go2 ?_|fail))
 refine aW (w0:=w) (vs:=zR) (x1.trans x2) hb4 (a1.ext x2) rfl rfl rfl rfl rfl (fun w9 x9 c9 a9 r9=>?_)
 repeat (first|refine go2 ?_|fail)
 exact aA (iY (bA r9 rfl rfl) bI) ⟨rfl,x9⟩
theorem aZa (p:Pt) (w:World):K.Spec Tryz.prog F.churn_Pool_Spender [.pointer none,.agg p.cs.toArray] w fun r w'=>r=.tuple #[.string ⟨#[]⟩,.bool false]∧Ext w w':=by
 refine aDr rfl ?_
 unfold qT
 refine oy ?_
 repeat' (first|refine zD (d:=some 3) (cs:=p.cs) rfl rfl (fun b3 w3 x3 a3 (r3:Row w3 ⟨b3,0,none⟩ p.cs) hb3=>?_)|(refine zC (d:=some 7) rfl (aIo _) ?_;rintro _ _ ⟨rfl,rfl⟩)|(refine zC (d:=some 9) rfl (aZz p _) ?_;rintro _ w2 ⟨rfl,x2⟩)|refine zB ?_ ?_|(first|refine go2 ?_|fail))
 all_goals exact aA rfl ⟨rfl,by exact fx⟩
theorem bD4 {cs:List Value} {iv ov:Value} {t:Tx} (he:cs=aK t iv ov) (w:World) (h1:iv.oneCell'=true) (h2:ov.oneCell'=true):K.Spec Tryz.prog F.churn_Pool_Need [.pointer none,.agg cs.toArray] w fun r w'=>r=.tuple #[.int .i64 0,.int .i64 1]∧Ext w w':=by
 subst he
 refine aIm rfl ?_
 unfold uY
 refine oy ?_
 repeat' (first|refine zD (d:=some 3) (cs:=aK t iv ov) rfl rfl (fun b3 w3 x3 a3 (r3:Row w3 ⟨b3,0,none⟩ (aK t iv ov)) hb3=>?_)|(refine zC (d:=some 7) rfl (aIo _) ?_;rintro _ _ ⟨rfl,rfl⟩)|(refine zC (d:=some 9) rfl (bJo (cs:=aK t iv ov) (t:=t) rfl _ h1 h2) ?_;rintro _ w2 ⟨rfl,x2⟩)|refine zB ?_ ?_|(first|refine go2 ?_|fail))
 all_goals exact aA rfl ⟨rfl,by exact fx⟩
theorem aWp (lv v:Value) (h:Int) (w:World):K.Spec Tryz.prog F.churn_Pool_Block [.pointer none,lv,v,.int .i64 h] w fun _ w'=>Ext w w':=by
 refine lT rfl ?_
 unfold iZ
 refine oy ?_
 repeat (first|refine go2 ?_|fail)
 exact aA rfl (Ext.refl _)
theorem aQ9 (lv v:Value) (h:Int) (w:World):K.Spec Tryz.prog F.churn_Pool_Unblock [.pointer none,lv,v,.int .i64 h] w fun _ w'=>Ext w w':=by
 refine jZ rfl ?_
 unfold gO
 refine oy ?_
 repeat (first|refine go2 ?_|fail)
 exact aA rfl (Ext.refl _)
theorem aZn {p:Nat} (lv:Value) (h:Int) (w:World):K.Spec Tryz.prog F.churn_Pool_Block [.pointer (some ⟨p,0,none⟩),lv,.nilIface,.int .i64 h] w fun _ w'=>Ext w w':=by
 refine lT rfl ?_
 unfold iZ
 refine oy ?_
 repeat (first|refine go2 ?_|fail)
 exact aA rfl (Ext.refl _)
theorem aRk {p:Nat} (lv:Value) (h:Int) (w:World):K.Spec Tryz.prog F.churn_Pool_Unblock [.pointer (some ⟨p,0,none⟩),lv,.nilIface,.int .i64 h] w fun _ w'=>Ext w w':=by
 refine jZ rfl ?_
 unfold gO
 refine oy ?_
 repeat (first|refine go2 ?_|fail)
 exact aA rfl (Ext.refl _)
theorem aUg {cs:List Value} {iv ov:Value} {t:Tx} (vt:TypeId) (vu:Value) (h:Int) (he:cs=aK t iv ov) (h1:iv.oneCell'=true) (h2:ov.oneCell'=true) (w:World):K.Spec Tryz.prog F.churn_Pool_Accept [.pointer none,.agg cs.toArray,.iface vt vu,.int .i64 h] w fun r w'=>r=qO 1∧Ext w w':=by
 subst he
 refine kT rfl ?_
 unfold hY
 refine oy ?_
 repeat (first|refine zD (d:=some 4) (cs:= [.pointer none]) rfl rfl (fun b4 w4 x4 a4 (r4:Row w4 ⟨b4,0,none⟩ [.pointer none]) hb4=>?_)|refine zD (d:=some 5) (cs:=aK t iv ov) rfl rfl (fun b5 w5 x5 a5 (r5:Row w5 ⟨b5,0,none⟩ (aK t iv ov)) hb5=>?_)|refine zD (d:=some 6) (cs:= [.iface vt vu]) rfl rfl (fun b6 w6 x6 a6 (r6:Row w6 ⟨b6,0,none⟩ [.iface vt vu]) hb6=>?_)|refine zD (d:=some 7) (cs:= [.int .i64 h]) rfl rfl (fun b7 w7 x7 a7 (r7:Row w7 ⟨b7,0,none⟩ [.int .i64 h]) hb7=>?_)|(first|refine go2 ?_|fail))
 exact aA rfl ⟨rfl,by exact fx⟩
theorem bDe {cs ds:List Value} {iv ov iu ou:Value} {t u:Tx} (vt:TypeId) (vu:Value) (h:Int) (he:cs=aK t iv ov) (hd:ds=aK u iu ou) (h1:iv.oneCell'=true) (h2:ov.oneCell'=true) (h3:iu.oneCell'=true) (h4:ou.oneCell'=true) (w:World):K.Spec Tryz.prog F.churn_Pool_Pair [.pointer none,.agg cs.toArray,.agg ds.toArray,.iface vt vu,.int .i64 h] w fun r w'=>r=qO 1∧Ext w w':=by
 subst he
 subst hd
 refine aHz rfl ?_
 unfold uL
 refine oy ?_
 repeat (first|refine zD (d:=some 5) (cs:= [.pointer none]) rfl rfl (fun b4 w4 x4 a4 (r4:Row w4 ⟨b4,0,none⟩ [.pointer none]) hb4=>?_)|refine zD (d:=some 6) (cs:=aK t iv ov) rfl rfl (fun b5 w5 x5 a5 (r5:Row w5 ⟨b5,0,none⟩ (aK t iv ov)) hb5=>?_)|refine zD (d:=some 7) (cs:=aK u iu ou) rfl rfl (fun b6 w6 x6 a6 (r6:Row w6 ⟨b6,0,none⟩ (aK u iu ou)) hb6=>?_)|refine zD (d:=some 8) (cs:= [.iface vt vu]) rfl rfl (fun b7 w7 x7 a7 (r7:Row w7 ⟨b7,0,none⟩ [.iface vt vu]) hb7=>?_)|refine zD (d:=some 9) (cs:= [.int .i64 h]) rfl rfl (fun b8 w8 x8 a8 (r8:Row w8 ⟨b8,0,none⟩ [.int .i64 h]) hb8=>?_)|(first|refine go2 ?_|fail))
 exact aA rfl ⟨rfl,by exact fx⟩
end
end Go.Proofs.YteceapipdhnhdaaGreatDoor
section
namespace Go.K
open Go Go.Proofs.YteceapipdhnhdaaGreatDoor
theorem aSa {f:Pt→Option Cn} {P:CP} {t:Tx} {h:Int}:aDp P (eX f P.l t h P.floor).1 (eX f P.l t h P.floor).2 (iS f P.l t h P.floor) [t]=aL5 f P t h:=by
 unfold aDp aL5
 by_cases h0:(eX f P.l t h P.floor).1=0
 ·have hc:aG t=0:=by
   have:=(bAk h0).1
   exact (pX (by assumption)).1
  have e:idS t=idT t:=by unfold idS;rw [if_pos hc]
  simp only [h0,ne_eq,not_true_eq_false,if_false,List.any_cons,List.any_nil,Bool.or_false,e]
 ·rw [if_pos h0,if_pos h0]
theorem bGr {f:Pt→Option Cn} {P:CP} {t:Tx} {h:Int}:aIc P (eX f P.l t h P.floor).1 (eX f P.l t h P.floor).2 (iS f P.l t h P.floor) [t]=bHs f P t h:=by
 unfold aIc bHs
 rw [aSa]
end Go.K
namespace Go.Proofs.YteceapipdhnhdaaGreatDoor
open Go Go.K
attribute [local irreducible] aH aM aY KOp.wp K.Spec u32 leS vnS str aP cM bK idT aQ aG aN idN bU eX eV iS aU
theorem aGx {p:Nat} {U:List Nat} {P:CP} (vt:TypeId) (vu:Value) (h:Int) (w:World) (hP:PoR w p U P):K.Spec Tryz.prog F.churn_Pool_terms [.pointer (some ⟨p,0,none⟩),.iface vt vu,.int .i64 h] w fun r w'=>r=aEx (.iface vt vu) h P.floor∧Ext w w':=by
 obtain ⟨h0,g,B,M,hA,h2⟩:=hP
 have rp:Row w ⟨p,0,none⟩ (sA g P):=Row.of_at hA
 refine tU rfl ?_
 unfold lX
 refine oy ?_
 repeat (first|refine zH (d:=some 6) (fun b4 w1 x1 a1 hb4=>?_)|refine aZ (d:=some 13) (cs:= [.iface vt vu,.int .i64 h,.int .i64 P.floor]) rfl ?_|(first|refine go2 ?_|fail))
 refine aW (w0:=w) (vs:= [.iface vt vu,.int .i64 h,.int .i64 P.floor]) x1 hb4 a1 rfl rfl rfl rfl rfl (fun w9 x9 c9 a9 r9=>?_)
 repeat (first|refine go2 ?_|fail)
 exact aA (aEo (bA r9 rfl rfl)) ⟨rfl,x9⟩
theorem bF7 {p g B bt bp bv bh:Nat} {U M:List Nat} {P:CP} {cs:List Value} {t:Tx} {v:Value} {f:Pt→Option Cn} (h:Int) (w:World) (hP:PoR w p U P) (hU:∀b∈U,b<w.heap.size) (hG:GrU w B g M U P.l) (hV:gV w v f) (ht:txR.rel (M++U) w cs t) (hs:t.Sm) (hl:P.l.length≤1000) (hf:∀x∈P.l,x.fee≤1000000000000)
  (r1:Row w ⟨bt,0,none⟩ cs) (r2:Row w ⟨bp,0,none⟩ [.pointer (some ⟨p,0,none⟩)]) (r3:Row w ⟨bv,0,none⟩ [v]) (r4:Row w ⟨bh,0,none⟩ [.int .i64 h]):
  K.Spec Tryz.prog F.churn_Pool_Accept_1 [.pointer (some ⟨g,0,none⟩),.pointer (some ⟨bt,0,none⟩),.pointer (some ⟨bp,0,none⟩),.pointer (some ⟨bv,0,none⟩),.pointer (some ⟨bh,0,none⟩)] w fun r w'=>∃M',dD w' 1 r (eX f P.l t h P.floor).1 (eX f P.l t h P.floor).2∧GrU w' B g M' U (iS f P.l t h P.floor)∧Chg M w w'∧∀b∈M',b∈M∨w.heap.size≤b:=by
 have hMl:=hG.gr.lt
 have hN:∀b∈M++U,b<w.heap.size:=fun b hb=>(List.mem_append.1 hb).elim (hMl b) (hU b)
 obtain ⟨vt,vu,rfl⟩:∃vt vu,v=.iface vt vu:=by obtain ⟨⟨a,b,e,_⟩,_⟩:=hV;exact ⟨a,b,e⟩
 obtain ⟨iv,ov,rfl, -⟩:=id ht
 refine pI rfl ?_
 unfold jJ
 refine oy ?_
 repeat' (first|refine zg (fun w1 x1=>?_)|refine dN (b:=.cons ⟨some 16,_,_⟩ _) (fun (_:Unit) w'=>Ext w w') (fun _=> [(10,.pointer (some ⟨g,0,none⟩)),(11,.agg (aK t iv ov).toArray),(15,aEx (.iface vt vu) h P.floor)]) ?_ ?_|(rintro _ ρ2 w2 x2;try dsimp only)|refine zB ?_ ?_|(refine zC (d:=some 15) rfl (aGx (U:=U) (P:=P) vt vu h _ (hP.ext (by exact fx))) ?_;rintro _ w3 ⟨rfl,x3⟩)|(exact ⟨(),⟨rfl,rfl,rfl,trivial⟩,by exact fx⟩)|(first|refine go2 ?_|fail))
 refine zC (d:=some 16) rfl (bF2 (M:=M) (N:=M++U) (U:=U) (l:=P.l) (f:=f) h P.floor _ (hG.ext x2) (fun b hb=>nLt (hU b hb) x2.size) (fun b hb=>List.mem_append_right _ hb) (hV.ext x2) (R.ext ht x2) hs (fun b hb=>nLt (hN b hb) x2.size) (fun b hb=>List.mem_append_left _ hb) hl hf) ?_
 rintro _ w4 ⟨u,e,M1,rfl,hu,hE,hG4,c4,hM4, -⟩
 repeat (first|refine go2 ?_|fail)
 exact aA rfl ⟨M1,hE,hG4,Ext.chg x2 c4,fun b hb=>(hM4 b hb).imp id fun q=>nTr x2.size q⟩
set_option maxHeartbeats 1000000 in
theorem aRh {p:Nat} {U:List Nat} {P:CP} {cs:List Value} {t:Tx} {v:Value} {f:Pt→Option Cn} (h:Int) (w:World) (hP:PoR w p U P) (hU:∀b∈U,b<w.heap.size) (hV:gV w v f) (ht:txR.rel U w cs t) (hs:t.Sm) (hl:P.l.length≤900) (hf:∀x∈P.l,x.fee≤1000000000000):
  K.Spec Tryz.prog F.churn_Pool_Accept [.pointer (some ⟨p,0,none⟩),.agg cs.toArray,v,.int .i64 h] w fun r w'=>dD w' 1 r (aL5 f P t h).1 (aL5 f P t h).2∧PoR w' p U (bHs f P t h)∧Chg [p] w w':=by
 obtain ⟨vt,vu,rfl⟩:∃vt vu,v=.iface vt vu:=by obtain ⟨⟨a,b,e,_⟩,_⟩:=hV;exact ⟨a,b,e⟩
 obtain ⟨iv,ov,rfl, -⟩:=id ht
 have ones:=txR.one ht
 have hn:=hP.ok.2.1
 have hll:(iS f P.l t h P.floor).length≤1000:=by
  have:=bP4 (f:=f) (t:=t) (h:=h) (rate:=P.floor) hn;omega
 refine kT rfl ?_
 unfold hY
 refine oy ?_
 repeat (first|refine zD (d:=some 4) (cs:= [.pointer (some ⟨p,0,none⟩)]) rfl rfl (fun b4 w4 x4 a4 (r4:Row w4 ⟨b4,0,none⟩ [.pointer (some ⟨p,0,none⟩)]) hb4=>?_)|refine zD (d:=some 5) (cs:=aK t iv ov) rfl rfl (fun b5 w5 x5 a5 (r5:Row w5 ⟨b5,0,none⟩ (aK t iv ov)) hb5=>?_)|refine zD (d:=some 6) (cs:= [.iface vt vu]) rfl rfl (fun b6 w6 x6 a6 (r6:Row w6 ⟨b6,0,none⟩ [.iface vt vu]) hb6=>?_)|refine zD (d:=some 7) (cs:= [.int .i64 h]) rfl rfl (fun b7 w7 x7 a7 (r7:Row w7 ⟨b7,0,none⟩ [.int .i64 h]) hb7=>?_)|refine zI (d:=some 15) (cs:=aK t iv ov) rfl (fun b8 w8 x8 a8 hb8=>?_)|(first|refine go2 ?_|fail))
 have x48:=x5.trans (x6.trans (x7.trans x8))
 have x08:Ext w w8:=x4.trans x48
 have q4:Row w8 ⟨b4,0,none⟩ [.pointer (some ⟨p,0,none⟩)]:=Row.ext x48 r4
 have q5:Row w8 ⟨b5,0,none⟩ (aK t iv ov):=Row.ext (x6.trans (x7.trans x8)) r5
 have q6:Row w8 ⟨b6,0,none⟩ [.iface vt vu]:=Row.ext (x7.trans x8) r6
 have q7:Row w8 ⟨b7,0,none⟩ [.int .i64 h]:=Row.ext x8 r7
 have hU8:∀b∈U,b<w8.heap.size:=fun b hb=>nLt (hU b hb) x08.size
 have h8U:b8∉U:=fun hm=>by
  have:=hU b8 hm
  have s7:w.heap.size≤w7.heap.size:=(x4.trans (x5.trans (x6.trans x7))).size
  omega
 have hs8:SlR txR U w8 (.slice (some ⟨b8,0,none⟩) 1 1) [t]:=bE0 (E:=txR) a8 (R.step txR ht x08 (by simp) (fun y hy=>by
  rcases List.mem_cons.1 hy with rfl|hy
  ·right
   have s7:w.heap.size≤w7.heap.size:=(x4.trans (x5.trans (x6.trans x7))).size
   omega
  ·exact .inl hy)) h8U
 refine zC (d:=some 16) rfl (aS4 (U:=U) (P:=P) (fn:=F.churn_Pool_Accept_1) (cap:= [.pointer (some ⟨b5,0,none⟩),.pointer (some ⟨b4,0,none⟩),.pointer (some ⟨b6,0,none⟩),.pointer (some ⟨b7,0,none⟩)]) (ts:= [t]) (k:=1) (c:=(eX f P.l t h P.floor).1) (a:=(eX f P.l t h P.floor).2) (l':=iS f P.l t h P.floor) _ (hP.ext x08) hU8 hs8 (by simpa using hs) (by simp) (by omega) hll (by kernel_rfl) (fun w1 B g M x hG hB=>bF7 h w1 ((hP.ext x08).ext x) (fun b hb=>nLt (hU8 b hb) x.size) hG ((hV.ext x08).ext x) (R.step txR ht (x08.trans x) (by simp) (fun y hy=>(List.mem_append.1 hy).elim (fun q=>.inr (nTr x08.size (nTr hB (hG.gr.base y q)))) .inl)) hs (by omega) hf (Row.ext x q5) (Row.ext x q4) (Row.ext x q6) (Row.ext x q7))) ?_
 rintro r w9 ⟨hE,hP9,c9⟩
 rw [aSa] at hE
 rw [bGr] at hP9
 repeat (first|refine go2 ?_|fail)
 exact aA rfl ⟨hE,hP9,Ext.chg x08 c9⟩
end Go.Proofs.YteceapipdhnhdaaGreatDoor
end
namespace Go.Proofs.YteceapipdhnhdaaGreatDoor
section
open Go Go.K
attribute [local irreducible] aH aM aY KOp.wp K.Spec u32 leS vnS str aP cM bK idT aQ aG aN idN bU eX eV iS aU bP aO iN fM
theorem aPp {f:Pt→Option Cn} {h:Int} {txs:List Tx} {i:Nat} (hi:i<txs.length):kQ f h (txs.take (i+1))=sT f h (kQ f h (txs.take i)) txs[i]:=by
 rw [List.take_succ_eq_append_getElem hi,bB4]
theorem bGy {f:Pt→Option Cn} {h:Int} {txs:List Tx} {i:Nat}:(kQ f h (txs.take i)).length≤i:=by
 induction i with
 |zero=>rw [List.take_zero];exact Nat.le_refl _
 |succ i ih=>
  by_cases hi:i<txs.length
  ·rw [aPp hi];unfold sT;split
   ·simp;omega
   ·omega
  ·rw [tLe (by omega)]
   rw [tLe (by omega)] at ih;omega
set_option maxHeartbeats 8000000 in
theorem aL6 {p:Nat} {U:List Nat} {P:CP} {lv v:Value} {txs:List Tx} {f:Pt→Option Cn} (h:Int) (w:World) (hP:PoR w p U P) (hU:∀b∈U,b<w.heap.size) (hV:gV w v f) (hx:SlR txR U w lv txs) (hs:∀t∈txs,t.Sm) (hn:txs.length≤900):
  K.Spec Tryz.prog F.churn_Pool_anew [.pointer (some ⟨p,0,none⟩),lv,v,.int .i64 h] w fun _ w'=>PoR w' p U (xS f P txs h)∧Chg [p] w w':=by
 obtain ⟨vt,vu,rfl⟩:∃vt vu,v=.iface vt vu:=by obtain ⟨⟨a,b,e,_⟩,_⟩:=hV;exact ⟨a,b,e⟩
 obtain ⟨hpU,g0,B0,M0,hA,hG0⟩:=id hP
 have rp:Row w ⟨p,0,none⟩ (sA g0 P):=Row.of_at hA
 refine aGy rfl ?_
 unfold uU
 refine oy ?_
 repeat (first|refine go2 ?_|fail)
 refine zC (d:=some 15) rfl (bAh _) ?_
 rintro _ w1 ⟨g,M,rfl,hG,x1⟩
 have hG1:GrU w1 w.heap.size g M U []:=GrU.fresh hG fun b hb hu=>by
  have:=hG.base b hb;have:=hU b hu;omega
 have hx1:=hx.ext x1
 repeat (first|refine go2 ?_|fail)
 refine zG (d:=some 17) (E:=txR) (M:=U) (l:=txs) rfl hx1 ?_
 repeat (first|refine go2 ?_|fail)
 refine aJ (fun (q:Nat × List Nat) w'=>Ext w w'∧q.1≤txs.length∧GrU w' w.heap.size g q.2 U (kQ f h (txs.take q.1))) (fun q=> [(0,.pointer (some ⟨p,0,none⟩)),(2,.iface vt vu),(3,.int .i64 h),(8,.pointer (some ⟨g,0,none⟩)),(16,lv),(17,.int .i64 (txs.length:Nat)),(18,.int .i64 (q.1:Nat))]) (fun q=>txs.length - q.1) (0,M) ⟨rfl,rfl,rfl,rfl,rfl,rfl,rfl,trivial⟩ ⟨x1,by simp,by rw [List.take_zero];exact hG1⟩ ?_
 clear hG1 hG x1 hx1
 rintro ⟨i,M1⟩ ρ w2 ⟨x2,hi,hG2⟩
 simp only at hi hG2
 dsimp only
 have hll:=bGy (f:=f) (h:=h) (txs:=txs) (i:=i)
 have hMl:=hG2.gr.lt
 have hB2:=hG2.gr.base
 repeat (first|refine go2 ?_|fail)
 refine zL (x:=.tmp 19) (p:=((i:Nat):Int)<((txs.length:Nat):Int)) rfl (fun h5=>?_) (fun h5=>?_)
 ·have hil:i<txs.length:=by omega
  have hsm:=hs _ (gMe hil)
  have hnext:=aPp (f:=f) (h:=h) hil
  generalize hLe:kQ f h (txs.take i)=L at*
  have hxM:SlR txR (M1++U) w2 lv txs:=hx.step x2 (by simp) (fun y hy=>(List.mem_append.1 hy).elim (fun q=>.inr (hB2 y q)) .inl)
  repeat (first|(refine aR (d:=some 20) (E:=txR) (M:=M1++U) rfl rfl (n:=i) (l:=txs) hxM rfl hil (fun ad cs r4 he=>?_);have ones:=txR.one he;obtain ⟨iv,ov,rfl, -⟩:=id he)|refine zE (d':=10) (fun _=>rfl) rfl rfl (List.all_eq_true.2 ones) (fun b10 w3 x3 a10 (r10:Row w3 ⟨b10,0,none⟩ (aK txs[i] iv ov)) hb10=>?_)|refine go1 ?_)
  generalize txs[i]=t at*
  refine zi (fun w4 x34=>?_)
  have x4:Ext w2 w4:=x3.trans x34
  have x04:Ext w w4:=x2.trans x4
  have r14:=Row.ext x34 r10
  refine dN (b:=.cons ⟨some 29,_,_⟩ _) (fun (_:Unit) w'=>Ext w4 w') (fun _=> [(0,.pointer (some ⟨p,0,none⟩)),(2,.iface vt vu),(3,.int .i64 h),(8,.pointer (some ⟨g,0,none⟩)),(16,lv),(17,.int .i64 (txs.length:Nat)),(18,.int .i64 (i:Nat)),(10,.pointer (some ⟨b10,0,none⟩)),(23,.pointer (some ⟨g,0,none⟩)),(24,.agg (aK t iv ov).toArray),(28,aEx (.iface vt vu) h P.floor)]) ?_ ?_
  ·repeat' (first|refine zB ?_ ?_|(refine zC (d:=some 28) rfl (aGx (U:=U) (P:=P) vt vu h _ (hP.ext (show Ext w _ from x04))) ?_;rintro _ w3 ⟨rfl,x3⟩)|(exact ⟨(),⟨rfl,rfl,rfl,rfl,rfl,rfl,rfl,rfl,rfl,rfl,rfl,trivial⟩,by exact fx⟩)|(first|refine go2 ?_|fail))
  rintro _ ρ5 w5 x45
  try dsimp only
  have x25:Ext w2 w5:=x4.trans x45
  have x05:Ext w w5:=x2.trans x25
  have r15:=Row.ext x45 r14
  have hG5:=hG2.ext x25
  have he5:txR.rel (M1++U) w5 (aK t iv ov) t:=R.ext he x25
  have hU5:∀b∈U,b<w5.heap.size:=fun b hb=>nLt (hU b hb) x05.size
  have hM5:=hG5.gr.lt
  clear x34 x4 x45 r14 r10 a10 x3 hb10 r4 hxM
  refine zC (d:=some 29) rfl (aFk (M:=M1) (N:=M1++U) (f:=f) h P.floor _ hG5.gr.r hM5 (hV.ext x05) he5 hsm) ?_
  rintro _ w6 ⟨e,rfl,hE,x6⟩
  have r16:=Row.ext x6 r15
  have skip:∀{w':World},Ext w6 w'→(eK f L t h).2.1≠0→Ext w w'∧i+1≤txs.length∧GrU w' w.heap.size g M1 U (kQ f h (txs.take (i+1))):=fun x h0=>⟨x05.trans (x6.trans x),by omega,by rw [hnext];unfold sT;rw [if_neg h0];exact (hG5.ext x6).ext x⟩
  by_cases h0:(aU f L t h).2.1=0
  ·obtain ⟨rfl, -⟩:=hE.nil_iff.1 h0
   clear hE
   repeat (first|refine go2 ?_|fail)
   refine zC (d:=some 37) rfl (fZ (M:=M1) (N:=M1++U) (l:=L) _ (hG5.ext x6).gr.r (fun b hb=>nLt (hM5 b hb) x6.size) (R.ext he5 x6) hsm.ins (by omega)) ?_
   rintro cv w7 ⟨o7,x7⟩
   have r17:=Row.ext x7 r16
   repeat (first|refine go2 ?_|fail)
   refine bL (d:=some 38) rfl o7.sl ?_
   by_cases h1:(aO L (bP L t)).length=0
   ·rw [h1]
    repeat (first|refine go2 ?_|fail)
    refine zC (d:=some 44) rfl (aRw (M:=M1) (N:=M1++U) (l:=L) _ (hG5.ext (x6.trans x7)).gr.r (fun b hb=>nLt (hM5 b hb) (x6.trans x7).size) (R.ext he5 (x6.trans x7)) hsm (by omega)) ?_
    rintro _ w8 ⟨rfl,x8⟩
    have r18:=Row.ext x8 r17
    have x58:=x6.trans (x7.trans x8)
    have h1':¬0<(aO L (bP L t)).length:=by omega
    by_cases h2:iN L t=0
    ·rw [h2]
     have e0:=aTx (h:=h) h0 h1' h2
     have h3:(eK f L t h).2.1=0:=by rw [e0]
     have hadd:=bH9 h3
     have hfee:(eK f L t h).1=(aU f L t h).1:=by rw [e0]
     rw [hfee] at hadd
     have hgd:=(bR _).1 (pX h0).2.2.2
     repeat (first|refine go2 ?_|fail)
     refine zC (d:=some 50) rfl (bEc (M:=M1) (N:=M1++U) (U:=U) (l:=L) (aU f L t h).1 _ (hG5.ext x58) (fun b hb=>List.mem_append_right _ hb) (R.ext he5 x58) hsm (by unfold rT;omega) (fun b hb=>nLt ((List.mem_append.1 hb).elim (hM5 b) (hU5 b)) x58.size) (fun b hb=>List.mem_append_left _ hb) (by omega)) ?_
     rintro _ w9 ⟨M2,rfl,hG9,c9,hM9⟩
     rw [hadd] at hG9
     have x09:Ext w w9:=(Ext.chg (x05.trans x58) c9).mono fun b hb=>.inr (hB2 b hb)
     repeat (first|refine go2 ?_|fail)
     exact ⟨(i+1,M2),⟨rfl,rfl,rfl,rfl,rfl,rfl,rfl,trivial⟩,⟨x09,by simp only;omega,by simp only;rw [hnext];unfold sT;rw [if_pos h3,hfee];exact hG9⟩,by simp only;omega⟩
    ·have e0:=aL1 (h:=h) h0 h1' h2
     repeat (first|refine aL (d:=some 45) (.bool false) rfl (congrArg (fun b=>some (Value.bool b)) (dFa h2)) ?_|(first|refine go2 ?_|fail))
     exact ⟨(i+1,M1),⟨rfl,rfl,rfl,rfl,rfl,rfl,rfl,trivial⟩,skip (x7.trans x8) (by rw [e0];exact h2),by simp only;omega⟩
   ·have e0:=aLp (h:=h) h0 (Nat.pos_of_ne_zero h1)
    have h1':¬(((aO L (bP L t)).length:Nat):Int)=0:=by omega
    repeat (first|refine aL (d:=some 39) (.bool false) rfl (congrArg (fun b=>some (Value.bool b)) (dFa h1')) ?_|(first|refine go2 ?_|fail))
    exact ⟨(i+1,M1),⟨rfl,rfl,rfl,rfl,rfl,rfl,rfl,trivial⟩,skip x7 (by rw [e0];decide),by simp only;omega⟩
  ·obtain ⟨et,eu,rfl⟩:=hE.nil_iff.2 h0
   have e0:=aIs (h:=h) h0
   repeat (first|refine go2 ?_|fail)
   exact ⟨(i+1,M1),⟨rfl,rfl,rfl,rfl,rfl,rfl,rfl,trivial⟩,skip (Ext.refl _) (by rw [e0];exact h0),by simp only;omega⟩
 ·have hi':i=txs.length:=by omega
  have hL:kQ f h (txs.take i)=kQ f h txs:=by rw [hi',List.take_length]
  rw [hL] at hG2 hll
  have hU2:∀b∈U,b<w2.heap.size:=fun b hb=>nLt (hU b hb) x2.size
  have r2:=Row.ext x2 rp
  repeat (first|refine go2 ?_|fail)
  refine zC (d:=some 58) rfl (aTu (U:=U) (l:=kQ f h txs) P.most _ hG2 hU2 (by omega)) ?_
  rintro _ w3 ⟨M3,v3,rfl,hG3,o3,c3,hM3, -⟩
  have x03:Ext w w3:=(Ext.chg x2 c3).mono fun b hb=>.inr (hB2 b hb)
  have r3:=Row.ext x03 rp
  have hA3:=hA.ext x03
  repeat (first|refine aJ5 (d:=some 69) rfl rfl ?_|refine aD7 (b:=p) (cur:=sA g0 P) rfl rfl rfl hA3 (Nat.le_of_ble_eq_true rfl) (fun w5 c5 a5=>?_)|refine bC (b:=p) (o:=2) (cur:=sA g P) rfl rfl rfl a5 (Nat.le_of_ble_eq_true rfl) (fun w6 c6 a6=>?_)|(first|refine go2 ?_|fail))
  have c36:Chg [p] w3 w6:=(Chg.trans c5 c6).mono (fun b hb=>by simp at hb;exact .inl (by simp [hb]))
  exact bEr rfl ⟨⟨hpU,g,w.heap.size,M3,a6,hG3.chg (c36.mono fun b hb=>.inl (by simp at hb;rw [hb];exact hpU)) (fun b hb=>.inl hb)⟩,Ext.chg x03 c36⟩
end
end Go.Proofs.YteceapipdhnhdaaGreatDoor
section
namespace Go.K
open Go Go.Proofs.YteceapipdhnhdaaGreatDoor
theorem aXp {txs:List Tx} {i:Nat} (hi:i<txs.length):(txs.take (i+1)).map idT=(txs.take i).map idT++ [idT txs[i]]:=by
 rw [List.take_succ_eq_append_getElem hi,List.map_append];rfl
theorem aYj {l:List Ent} {ids:List ByteArray} {i:Nat} (hi:i<l.length):rD (l.take (i+1)) ids=rD (l.take i) ids++if inB ids l[i].id=true then [] else [l[i].tx]:=by
 unfold rD
 rw [List.take_succ_eq_append_getElem hi,List.filter_append,List.map_append]
 by_cases h:inB ids l[i].id=true
 ·rw [if_pos h,List.filter_cons_of_neg (by simp [h])];rfl
 ·rw [if_neg h,List.filter_cons_of_pos (by simp [h])];rfl
theorem bI8 (ids:List ByteArray):rD [] ids= []:=rfl
theorem aX6 {l:List Ent} {ids:List ByteArray}:(rD l ids).length≤l.length:=by
 unfold rD
 rw [List.length_map];exact List.length_filter_le _ _
theorem bLy {n:Int} (h:n.tdiv 2<500):aA6 n=0:=if_pos h
theorem bN5 {n:Int} (h:¬n.tdiv 2<500):aA6 n=n.tdiv 2:=if_neg h
end Go.K
namespace Go.Proofs.YteceapipdhnhdaaGreatDoor
open Go Go.K
attribute [local irreducible] aH aM aY KOp.wp K.Spec u32 leS vnS str aP cM bK idT aQ aG aN idN bU eX eV iS aU aA6 rD
theorem PoR.set {w w':World} {p g:Nat} {U:List Nat} {P Q:CP} (hp:p∈U) (hG:∃B M,GrU w B g M U P.l) (c:Chg [p] w w') (h:At w' p (.cells (sA g Q).toArray T.churn_Pool (0,0))) (he:Q.l=P.l):PoR w' p U Q:=by
 obtain ⟨B,M,hG⟩:=hG
 exact ⟨hp,g,B,M,h,by rw [he];exact hG.chg (c.mono fun b hb=>.inl (by simp at hb;rw [hb];exact hp)) fun b hb=>.inl hb⟩
set_option maxHeartbeats 8000000 in
theorem aVu {p:Nat} {U:List Nat} {P:CP} {lv v:Value} {txs:List Tx} {f:Pt→Option Cn} (h:Int) (w:World) (hP:PoR w p U P) (hU:∀b∈U,b<w.heap.size) (hV:∀{w'},Chg [p] w w'→gV w' v f) (hx:SlR txR U w lv txs) (hs:∀t∈txs,t.Sm) (hc:∀t∈txs,aG t=0) (hn:txs.length≤900) (hl:P.l.length≤900) (hfl:0≤P.floor∧P.floor≤1000000000000):
  K.Spec Tryz.prog F.churn_Pool_Block [.pointer (some ⟨p,0,none⟩),lv,v,.int .i64 h] w fun _ w'=>PoR w' p U (jI f P txs h)∧Chg [p] w w':=by
 obtain ⟨vt,vu,rfl⟩:∃vt vu,v=.iface vt vu:=by obtain ⟨⟨a,b,e,_⟩,_⟩:=hV (Chg.refl [p] w);exact ⟨a,b,e⟩
 obtain ⟨hpU,g,B,M,hA,hG⟩:=id hP
 have rp:Row w ⟨p,0,none⟩ (sA g P):=Row.of_at hA
 have hMl:=hG.gr.lt
 have hpM:p∉M:=fun q=>hG.dj p q hpU
 have hq:bM .quo (.int .i64 P.floor) (.int .i64 2)=some (.int .i64 (P.floor.tdiv 2)):=bO7 P.floor 2 (by decide) ⟨by omega,by omega⟩
 refine lT rfl ?_
 unfold iZ
 refine oy ?_
 repeat (first|refine dF (d:=some 26) rfl rfl hq ?_|refine rH (a:=.seq (.reg false (.cons ⟨some 22,_,none⟩ _)) _) (fun (_:Unit) w'=>Chg [p] w w'∧At w' p (.cells (sA g ⟨P.l,P.most,aA6 P.floor⟩).toArray T.churn_Pool (0,0))) (fun _=> [(0,.pointer (some ⟨p,0,none⟩)),(1,lv),(2,.iface vt vu),(3,.int .i64 h)]) ?_ ?_|(first|refine go2 ?_|fail))
 ·refine bC (b:=p) (o:=2) (cur:=sA g P) (v:=.int .i64 (P.floor.tdiv 2)) rfl rfl rfl hA (Nat.le_of_ble_eq_true rfl) (fun w1 c1 a1=>?_)
  have a1:At w1 p (.cells (sA g ⟨P.l,P.most,P.floor.tdiv 2⟩).toArray T.churn_Pool (0,0)):=a1
  have r1:Row w1 ⟨p,0,none⟩ (sA g ⟨P.l,P.most,P.floor.tdiv 2⟩):=Row.of_at a1
  by_cases h5:P.floor.tdiv 2<500
  ·repeat (first|refine aL (d:=some 33) (.bool true) rfl (congrArg (fun b=>some (Value.bool b)) (dTr h5)) ?_|(first|refine go2 ?_|fail))
   refine bC (b:=p) (o:=2) (cur:=sA g ⟨P.l,P.most,P.floor.tdiv 2⟩) rfl rfl rfl a1 (Nat.le_of_ble_eq_true rfl) (fun w2 c2 a2=>?_)
   repeat (first|refine go2 ?_|fail)
   exact ⟨(),⟨rfl,rfl,rfl,rfl,trivial⟩,(Chg.trans c1 c2).mono (fun b hb=>by simp at hb;exact .inl (by simp [hb])),by rw [bLy h5];exact a2⟩
  ·repeat (first|refine aL (d:=some 33) (.bool false) rfl (congrArg (fun b=>some (Value.bool b)) (dFa h5)) ?_|(first|refine go2 ?_|fail))
   exact ⟨(),⟨rfl,rfl,rfl,rfl,trivial⟩,c1,by rw [bN5 h5];exact a1⟩
 rintro _ ρ3 w3 ⟨c3,a3⟩
 have hP3:PoR w3 p U ⟨P.l,P.most,aA6 P.floor⟩:=PoR.set hpU ⟨B,M,hG⟩ c3 a3 rfl
 have hU3:∀b∈U,b<w3.heap.size:=fun b hb=>nLt (hU b hb) c3.size
 have hV3:=hV c3
 have hx3:SlR txR U w3 lv txs:=hx.step c3 (fun y hy=>.inl (by simp at hy;rw [hy];exact hpU)) (fun y hy=>.inl hy)
 have hG3:GrU w3 B g M U P.l:=hG.chg (c3.mono fun b hb=>.inl (by simp at hb;rw [hb];exact hpU)) fun b hb=>.inl hb
 have r3:Row w3 ⟨p,0,none⟩ (sA g ⟨P.l,P.most,aA6 P.floor⟩):=Row.of_at a3
 clear hP hA hG rp hx hV
 repeat (first|refine go2 ?_|fail)
 refine zG (d:=some 38) (E:=txR) (M:=U) (l:=txs) rfl hx3 ?_
 repeat (first|refine go2 ?_|fail)
 refine aJ (fun (q:Nat × Value) w'=>Ext w3 w'∧q.1≤txs.length∧Own bB T.string w3.heap.size w' q.2 ((txs.take q.1).map idT)) (fun q=> [(0,.pointer (some ⟨p,0,none⟩)),(2,.iface vt vu),(3,.int .i64 h),(8,q.2),(37,lv),(38,.int .i64 (txs.length:Nat)),(39,.int .i64 (q.1:Nat))]) (fun q=>txs.length - q.1) (0,.slice none 0 0) ⟨rfl,rfl,rfl,rfl,rfl,rfl,rfl,trivial⟩ ⟨Ext.refl _,by simp,by rw [List.take_zero];exact Own.nil _ _ _⟩ ?_
 rintro ⟨i,v8⟩ ρ4 w4 ⟨x4,hi,o4⟩
 simp only at hi o4
 dsimp only
 repeat (first|refine go2 ?_|fail)
 refine zL (x:=.tmp 40) (p:=((i:Nat):Int)<((txs.length:Nat):Int)) rfl (fun h5=>?_) (fun h5=>?_)
 ·have hil:i<txs.length:=by omega
  have hsm:=hs _ (gMe hil)
  have hck:=hc _ (gMe hil)
  have htl:((txs.take i).map idT).length=i:=by rw [List.length_map,List.length_take];omega
  repeat (first|(refine aR (d:=some 41) (E:=txR) (M:=U) rfl rfl (n:=i) (l:=txs) (hx3.ext x4) rfl hil (fun ad cs r4 he=>?_);have ones:=txR.one he;obtain ⟨iv,ov,rfl, -⟩:=id he)|refine zE (d':=10) (fun _=>rfl) rfl rfl (List.all_eq_true.2 ones) (fun b10 w5 x5 a10 (r10:Row w5 ⟨b10,0,none⟩ (aK txs[i] iv ov)) hb10=>?_)|(first|refine go2 ?_|fail))
  refine zC (d:=some 45) rfl (vK (M:=U) _ (cs:=aK txs[i] iv ov) (R.ext he x5) hsm) ?_
  rintro _ w6 ⟨rfl,x6⟩
  rw [idV,if_pos hck]
  repeat (first|refine zI (d:=some 50) (cs:= [.string (idT txs[i])]) rfl (fun b9 w9 x9 a9 hb9=>?_)|(first|refine go2 ?_|fail))
  have x49:Ext w4 w9:=x5.trans (x6.trans x9)
  have s34:=x4.size
  have s49:=x49.size
  refine jY (d:=some 51) (E:=bB) (v:=v8) (l2:= [idT txs[i]]) rfl (o4.ext x49) (by omega) rfl rfl (dR a9 rfl) rfl rfl (by simp only [List.length_cons,List.length_nil];omega) (fun v10 w10 o10 _ c10 hb10=>?_)
  repeat (first|refine go2 ?_|fail)
  exact ⟨(i+1,v10),⟨rfl,rfl,rfl,rfl,rfl,rfl,rfl,trivial⟩,⟨((x4.trans x49).chg c10).mono (fun b hb=>.inr (o4.base b hb)),by simp only;omega,by simp only;rw [aXp hil];exact o10⟩,by simp only;omega⟩
 ·rw [tLe (by omega)] at o4
  have s4:=o4.sl
  generalize hids:txs.map idT=ids at*
  have hidl:ids.length≤1000000:=by rw [←hids,List.length_map];omega
  have hG4:=hG3.ext x4
  have r4:=Row.ext x4 r3
  have hM4:=hG4.gr.lt
  have hU4:∀b∈U,b<w4.heap.size:=fun b hb=>nLt (hU3 b hb) x4.size
  repeat (first|refine go2 ?_|fail)
  refine zC (d:=some 57) rfl (sZ (M:=U++M) _ hG4.rd (fun b hb=>(List.mem_append.1 hb).elim (hU4 b) (hM4 b)) (by omega)) ?_
  rintro va w5 ⟨o5,x5⟩
  have hva:SlR eD U w5 va P.l:=(o5.sub fun b hb=>.inl (List.mem_append_left _ hb)).sl fun b hb hv=>by
   have:=o5.base b hv;have:=hU4 b hb;omega
  clear o5
  refine zG (d:=some 58) (E:=eD) (M:=U) (l:=P.l) rfl hva ?_
  repeat (first|refine go2 ?_|fail)
  refine aJ (fun (q:Nat × Value) w'=>Ext w5 w'∧q.1≤P.l.length∧bH txR T.api_Tx w5.heap.size U w' q.2 (rD (P.l.take q.1) ids)) (fun q=> [(0,.pointer (some ⟨p,0,none⟩)),(2,.iface vt vu),(3,.int .i64 h),(8,v8),(13,q.2),(57,va),(58,.int .i64 (P.l.length:Nat)),(59,.int .i64 (q.1:Nat))]) (fun q=>P.l.length - q.1) (0,.slice none 0 0) ⟨rfl,rfl,rfl,rfl,rfl,rfl,rfl,rfl,trivial⟩ ⟨Ext.refl _,by simp,by rw [List.take_zero,bI8];exact bH.nil _ _ _ _⟩ ?_
  rintro ⟨j,v13⟩ ρ6 w6 ⟨x6,hj,o6⟩
  simp only at hj o6
  dsimp only
  have x36:Ext w3 w6:=x4.trans (x5.trans x6)
  repeat (first|refine go2 ?_|fail)
  refine zL (x:=.tmp 60) (p:=((j:Nat):Int)<((P.l.length:Nat):Int)) rfl (fun h6=>?_) (fun h6=>?_)
  ·have hjl:j<P.l.length:=by omega
   have ob:=o6.base
   have ol:=o6.lt
   have hsl:=aX6 (l:=P.l.take j) (ids:=ids)
   have htk:(P.l.take j).length≤j:=List.length_take_le _ _
   have hnx:=aYj (ids:=ids) hjl
   have hv6:SlR eD (aC v13++U) w6 va P.l:=hva.step x6 (by simp) (aAq ob)
   repeat (first|(refine aR (d:=some 61) (E:=eD) (M:=aC v13++U) rfl rfl (n:=j) (l:=P.l) hv6 rfl hjl (fun ad cs r4 he=>?_);obtain ⟨iv,ov,rfl,q1,q2,q3⟩:=he;have i1:=q1.one;have j2:=q2.one)|refine zE (d':=15) (fun _=>rfl) rfl rfl (by simp [bE,i1,j2];exact ⟨rfl,rfl,rfl,rfl,rfl⟩) (fun b15 w7 x7 a15 (r15:Row w7 ⟨b15,0,none⟩ (bE P.l[j] iv ov)) hb15=>?_)|(first|refine go2 ?_|fail))
   refine zC (d:=some 66) rfl (aOh (l:=ids) P.l[j].id _ (s4.ext (x5.trans (x6.trans x7))) hidl) ?_
   rintro _ w8 ⟨rfl,rfl⟩
   by_cases hin:inB ids P.l[j].id=true
   ·rw [hin]
    rw [if_pos hin,List.append_nil] at hnx
    repeat (first|refine go2 ?_|fail)
    exact ⟨(j+1,v13),⟨rfl,rfl,rfl,rfl,rfl,rfl,rfl,rfl,trivial⟩,⟨x6.trans x7,by simp only;omega,by simp only;rw [hnx];exact o6.ext x7⟩,by simp only;omega⟩
   ·have hin':inB ids P.l[j].id=false:=by simpa using hin
    rw [hin']
    rw [if_neg hin] at hnx
    repeat (first|refine zI (d:=some 71) (cs:=aK P.l[j].tx iv ov) rfl (fun b9 w9 x9 a9 hb9=>?_)|(first|refine go2 ?_|fail))
    have x69:Ext w6 w9:=x7.trans x9
    have s56:=x6.size
    have s69:=x69.size
    refine eM (d:=some 72) (E:=txR) (M:=U) (v:=v13) (cs:=aK P.l[j].tx iv ov) (a:=P.l[j].tx) rfl rfl (o6.ext x69) (by omega) rfl rfl a9 (R.step txR ⟨iv,ov,rfl,q1,q2,q3.1,q3.2.1⟩ x69 (by simp) (fun y hy=>.inl hy)) (by omega) (fun v10 w10 o10 c10 hb10=>?_)
    repeat (first|refine go2 ?_|fail)
    exact ⟨(j+1,v10),⟨rfl,rfl,rfl,rfl,rfl,rfl,rfl,rfl,trivial⟩,⟨((x6.trans x69).chg c10).mono (fun b hb=>.inr (ob b hb)),by simp only;omega,by simp only;rw [hnx];exact o10⟩,by simp only;omega⟩
  ·rw [tLe (by omega)] at o6
   have hst:SlR txR U w6 v13 (rD P.l ids):=o6.sl fun b hb hv=>by
    have:=o6.base b hv;have:=hU4 b hb;have:=x5.size;omega
   have hsl:=aX6 (l:=P.l) (ids:=ids)
   have hok:=hP3.ok.1
   repeat (first|refine go2 ?_|fail)
   refine zC (d:=some 78) rfl (aL6 (U:=U) (P:=⟨P.l,P.most,aA6 P.floor⟩) (f:=f) h _ (hP3.ext x36) (fun b hb=>nLt (hU3 b hb) x36.size) (hV3.ext x36) hst (fun t ht=>by
    unfold rD at ht
    obtain ⟨x,hx,rfl⟩:=List.mem_map.1 ht
    exact nD (hok x (List.mem_filter.1 hx).1).check) (by omega)) ?_
   rintro _ w7 ⟨hP7,c7⟩
   repeat (first|refine go2 ?_|fail)
   refine bEr rfl ⟨?_,(Chg.trans (c3.ext x36) c7).mono fun b hb=>by simp at hb;exact .inl (by simp [hb])⟩
   unfold jI
   rw [hids];exact hP7
end Go.Proofs.YteceapipdhnhdaaGreatDoor
end
namespace Go.Proofs.YteceapipdhnhdaaGreatDoor
section
open Go Go.K
attribute [local irreducible] aH aM aY KOp.wp K.Spec u32 leS vnS str aP cM bK idT aQ aG aN
theorem bIl:bW Tryz.prog F.tx_Base=true:=by kernel_rfl
theorem bBe {M:List Nat} {v:Value} {l:List Tx} (w:World) (hv:SlR txR M w v l) (hs:∀t∈l,t.Sm) (hg:∀t∈l,aN t=false) (hn:l.length≤1000):
  K.Spec Tryz.prog F.slices_IndexFunc_L_api_Tx_api_Tx [v,.func (.func F.tx_Base) #[] #[]] w fun r w'=>r=.int .i64 (-1)∧Ext w w':=by
 refine lQ rfl ?_
 unfold gA
 refine oy ?_
 repeat (first|refine go2 ?_|fail)
 refine zG (d:=some 7) (E:=txR) (M:=M) (l:=l) rfl hv ?_
 repeat (first|refine go2 ?_|fail)
 refine aJ (fun (i:Nat) w'=>Ext w w'∧i≤l.length) (fun i=> [(0,v),(1,.func (.func F.tx_Base) #[] #[]),(6,v),(7,.int .i64 (l.length:Nat)),(8,.int .i64 (i:Nat))]) (fun i=>l.length - i) 0 ⟨rfl,rfl,rfl,rfl,rfl,trivial⟩ ⟨Ext.refl _,by simp⟩ ?_
 rintro i ρ w1 ⟨x1,hi⟩
 repeat (first|refine go2 ?_|fail)
 refine zL (x:=.tmp 9) (p:=((i:Nat):Int)<((l.length:Nat):Int)) rfl (fun h5=>?_) (fun h5=>?_)
 ·have hil:i<l.length:=by omega
  have hgi:=hg _ (gMe hil)
  repeat (first|(refine aR (d:=some 14) (E:=txR) (M:=M) rfl rfl (n:=i) (l:=l) (hv.ext x1) rfl hil (fun ad cs r4 he=>?_);have ones:=txR.one he;obtain ⟨iv,ov,rfl, -⟩:=id he)|(refine dP (d:=some 16) rfl bIl rfl (kA (M:=M) (cs:=aK l[i] iv ov) (t:=l[i]) _ he (hs _ (gMe hil))) ?_;rintro _ w2 ⟨rfl,x2⟩;rw [hgi])|(first|refine go2 ?_|fail))
  exact ⟨i+1,⟨rfl,rfl,rfl,rfl,rfl,trivial⟩,⟨x1.trans x2,by omega⟩,by omega⟩
 ·repeat (first|refine go2 ?_|fail)
  exact aA rfl ⟨rfl,x1⟩
end
section
open Go Go.RowKit
set_option maxHeartbeats 4000000 in
set_option maxRecDepth 20000 in
theorem bH0 (v:Value) (w:World) (E:World→Prop) (hv:v.oneCell'=true) (hI:Calls Tryz.prog 75 #[v,.func (.func 36) #[] #[]] w fun e w'=>∃r,e=.returned r∧r=.int .i64 (-1)∧E w'):
  Calls Tryz.prog 34 #[v,.func (.func 36) #[] #[]] w fun e w'=>∃r,e=.returned r∧r=v∧E w':=by
 go_enter Tryz.func34,Tryz.ntmps34
 go_wp2_with (go_at_call 75;refine Calls.mono hI ?_;rintro _ w1 ⟨_,rfl,rfl,x1⟩)
 go_wp2
 go_ret
 exact ⟨_,rfl,rfl,x1⟩
open Go.K in
theorem bCi {M:List Nat} {v:Value} {l:List Tx} (w:World) (hv:SlR txR M w v l) (hs:∀t∈l,t.Sm) (hg:∀t∈l,aN t=false) (hn:l.length≤1000):
  K.Spec Tryz.prog F.slices_DeleteFunc_L_api_Tx_api_Tx [v,.func (.func F.tx_Base) #[] #[]] w fun r w'=>r=v∧Ext w w':=by
 have hI:=bBe w hv hs hg hn
 unfold K.Spec at hI ⊢
 exact bH0 v w (fun w'=>Ext w w') (by obtain ⟨_,_,q⟩:=hv.form;rw [q];rfl) hI
end
section
open Go Go.K
attribute [local irreducible] aH aM aY KOp.wp K.Spec u32 leS vnS str aP cM bK idT aQ aG aN idN bU eX eV iS aU
theorem aYl {M:List Nat} {v:Value} {l:List Tx} (w:World) (hs:SlR txR M w v l) (hn:l.length≤100000000) (hM:∀b∈M,b<w.heap.size):K.Spec Tryz.prog F.slices_Clone_L_api_Tx_api_Tx [v] w fun r w'=>bH txR T.api_Tx w.heap.size M w' r l∧Ext w w':=by
 have hs0:=hs
 obtain ⟨base,cap,rfl⟩:=hs.form
 cases base with
 |none=>
  have hl:=hs.nil_of
  subst hl
  refine iH rfl ?_
  unfold eH
  refine oy ?_
  refine goR ?_
  exact aA rfl ⟨bH.nil _ _ _ _,Ext.refl _⟩
 |some a=>
  refine iH rfl ?_
  unfold eH
  refine oy ?_
  refine goR ?_
  refine zI (cs:= []) rfl (fun b w1 x1 a1 hb=>?_)
  refine goR ?_
  obtain ⟨css,h1,h2,_⟩:=hs0
  have hown:bH txR T.api_Tx w.heap.size M w1 (.slice (some ⟨b,0,none⟩) 0 0) []:=bH.empty hb a1
  have hall:(txR).all (aC (.slice (some ⟨b,0,none⟩) 0 0)++M) w1 css l:=h2.mono fun _ _ hr=>(txR).step hr x1 (by simp) (fun c hc=>by
   rcases List.mem_append.1 hc with h|h
   ·simp [aC] at h;right;omega
   ·exact .inl h)
  refine aAo (E:=txR) (M:=M) (v:=.slice (some ⟨b,0,none⟩) 0 0) rfl hown x1.size rfl rfl (h1.ext x1).cells rfl hall h2.length (by simp;omega) (fun v2 w2 ho2 c2 hb2=>?_)
  refine goR ?_
  exact aA rfl ⟨ho2,(Ext.chg x1 c2).mono (by intro y hy;simp [aC] at hy;subst hy;exact .inr hb)⟩
theorem bLc {l:List Ent} {i:Nat} (hi:i<l.length):(l.take (i+1)).map (·.tx)=(l.take i).map (·.tx)++ [l[i].tx]:=by
 rw [List.take_succ_eq_append_getElem hi,List.map_append];rfl
def bM8 (w:World) (U:List Nat) (txs:List Tx):Prop:=∀v w',Ext w w'→bH txR T.api_Tx w.heap.size U w' v txs→K.Spec Tryz.prog F.slices_DeleteFunc_L_api_Tx_api_Tx [v,.func (.func F.tx_Base) #[] #[]] w' fun r w2=>bH txR T.api_Tx w.heap.size U w2 r (txs.filter fun t=>!aN t)∧Chg (aC v) w' w2
theorem bM8.plain {w:World} {U:List Nat} {txs:List Tx} (hU:∀b∈U,b<w.heap.size) (hs:∀t∈txs,t.Sm) (hg:∀t∈txs,aN t=false) (hn:txs.length≤400):bM8 w U txs:=fun v w' x o=>
 dO (bCi (M:=U) (l:=txs) w' (o.slB hU) hs hg (by omega)) fun r w2 ⟨e,x2⟩=>⟨by
  rw [e,List.filter_eq_self.2 (fun t ht=>by rw [hg t ht];rfl)]
  exact o.ext x2,x2.mono (by simp)⟩
set_option maxHeartbeats 8000000 in
theorem aPk {p:Nat} {U:List Nat} {P:CP} {lv v:Value} {txs:List Tx} {f:Pt→Option Cn} (h:Int) (w:World) (hP:PoR w p U P) (hU:∀b∈U,b<w.heap.size) (hV:gV w v f) (hx:SlR txR U w lv txs) (hs:∀t∈txs,t.Sm) (hd:bM8 w U txs) (hn:txs.length≤400) (hl:P.l.length≤400):
  K.Spec Tryz.prog F.churn_Pool_Unblock [.pointer (some ⟨p,0,none⟩),lv,v,.int .i64 h] w fun _ w'=>PoR w' p U (aCx f P txs h)∧Chg [p] w w':=by
 obtain ⟨vt,vu,rfl⟩:∃vt vu,v=.iface vt vu:=by obtain ⟨⟨a,b,e,_⟩,_⟩:=hV;exact ⟨a,b,e⟩
 obtain ⟨hpU,g,B,M,hA,hG⟩:=id hP
 have rp:Row w ⟨p,0,none⟩ (sA g P):=Row.of_at hA
 refine jZ rfl ?_
 unfold gO
 refine oy ?_
 repeat (first|refine go2 ?_|fail)
 refine zC (d:=some 18) rfl (aYl (M:=U) (l:=txs) _ hx (by omega) hU) ?_
 rintro cv w1 ⟨o1,x1⟩
 repeat (first|refine go2 ?_|fail)
 refine zC (d:=some 19) rfl (hd cv w1 x1 o1) ?_
 rintro dv w2 ⟨o2,c2⟩
 have x2:Ext w w2:=(Ext.chg x1 c2).mono fun b hb=>.inr (o1.base b hb)
 have hfl:(txs.filter fun t=>!aN t).length≤400:=nTr (List.length_filter_le _ _) hn
 have hfs:∀t∈txs.filter fun t=>!aN t,t.Sm:=fun t ht=>hs t (List.mem_filter.1 ht).1
 unfold aCx
 generalize (txs.filter fun t=>!aN t)=bs at*
 clear hd o1 c2 x1 hx
 have ob:=o2.base
 have hG2:GrU w2 B g M (aC dv++U) P.l:=hG.more x2 fun b hb=>(List.mem_append.1 hb).elim (fun q=>.inr (ob b q)) .inl
 have r2:=Row.ext x2 rp
 have hlt2:∀b∈(aC dv++U)++M,b<w2.heap.size:=fun b hb=>by
  rcases List.mem_append.1 hb with hb|hb
  ·rcases List.mem_append.1 hb with hb|hb
   ·exact o2.lt b hb
   ·exact nLt (hU b hb) x2.size
  ·exact hG2.gr.lt b hb
 repeat (first|refine go2 ?_|fail)
 refine zC (d:=some 24) rfl (sZ (M:=(aC dv++U)++M) _ hG2.rd hlt2 (by omega)) ?_
 rintro va w3 ⟨o3,x3⟩
 have hva:SlR eD (aC dv++U) w3 va P.l:=(o3.sub fun b hb=>.inl (List.mem_append_left _ hb)).sl fun b hb hv=>by
  have:=o3.base b hv;have:=hlt2 b (List.mem_append_left _ hb);omega
 clear o3
 refine zG (d:=some 25) (E:=eD) (M:=aC dv++U) (l:=P.l) rfl hva ?_
 repeat (first|refine go2 ?_|fail)
 refine aJ (fun (q:Nat × Value) w'=>Ext w w'∧q.1≤P.l.length∧bH txR T.api_Tx w.heap.size U w' q.2 (bs++(P.l.take q.1).map (·.tx))∧SlR eD (aC q.2++U) w' va P.l) (fun q=> [(0,.pointer (some ⟨p,0,none⟩)),(2,.iface vt vu),(3,.int .i64 h),(8,q.2),(24,va),(25,.int .i64 (P.l.length:Nat)),(26,.int .i64 (q.1:Nat))]) (fun q=>P.l.length - q.1) (0,dv) ⟨rfl,rfl,rfl,rfl,rfl,rfl,rfl,trivial⟩ ⟨x2.trans x3,by simp,by rw [List.take_zero,List.map_nil,List.append_nil];exact o2.ext x3,hva⟩ ?_
 clear hva o2 ob hG2 r2 hlt2 x2 x3
 rintro ⟨j,v8⟩ ρ4 w4 ⟨x4,hj,o4,hva⟩
 simp only at hj o4 hva
 dsimp only
 repeat (first|refine go2 ?_|fail)
 refine zL (x:=.tmp 27) (p:=((j:Nat):Int)<((P.l.length:Nat):Int)) rfl (fun h6=>?_) (fun h6=>?_)
 ·have hjl:j<P.l.length:=by omega
  have ob:=o4.base
  have hlen:(bs++(P.l.take j).map (·.tx)).length≤400+j:=by
   rw [List.length_append,List.length_map,List.length_take];omega
  repeat (first|(refine aR (d:=some 28) (E:=eD) (M:=aC v8++U) rfl rfl (n:=j) (l:=P.l) hva rfl hjl (fun ad cs r4 he=>?_);obtain ⟨iv,ov,rfl,q1,q2,q3⟩:=he;have i1:=q1.one;have j2:=q2.one)|refine zE (d':=10) (fun _=>rfl) rfl rfl (by simp [bE,i1,j2];exact ⟨rfl,rfl,rfl,rfl,rfl⟩) (fun b15 w7 x7 a15 (r15:Row w7 ⟨b15,0,none⟩ (bE P.l[j] iv ov)) hb15=>?_)|refine zI (d:=some 33) (cs:=aK P.l[j].tx iv ov) rfl (fun b9 w9 x9 a9 hb9=>?_)|(first|refine go2 ?_|fail))
  have x49:Ext w4 w9:=x7.trans x9
  have s04:=x4.size
  have s49:=x49.size
  refine eM (d:=some 34) (E:=txR) (M:=U) (v:=v8) (cs:=aK P.l[j].tx iv ov) (a:=P.l[j].tx) rfl rfl (o4.ext x49) (by omega) rfl rfl a9 (R.step txR ⟨iv,ov,rfl,q1,q2,q3.1,q3.2.1⟩ x49 (by simp) (fun y hy=>.inl hy)) (by omega) (fun v10 w10 o10 c10 hb10=>?_)
  repeat (first|refine go2 ?_|fail)
  exact ⟨(j+1,v10),⟨rfl,rfl,rfl,rfl,rfl,rfl,rfl,trivial⟩,⟨((x4.trans x49).chg c10).mono (fun b hb=>.inr (ob b hb)),by simp only;omega,by simp only;rw [bLc hjl,←List.append_assoc];exact o10,(hva.ext x49).step c10 (fun y hy=>.inl (List.mem_append_left _ hy)) (fun y hy=>(List.mem_append.1 hy).elim (fun q=>(hb10 y q).imp (fun q=>List.mem_append_left _ q) id) (fun q=>.inl (List.mem_append_right _ q)))⟩,by simp only;omega⟩
 ·rw [tLe (by omega)] at o4
  have hok:=hP.ok.1
  repeat (first|refine go2 ?_|fail)
  refine zC (d:=some 40) rfl (aL6 (U:=U) (P:=P) (f:=f) h _ (hP.ext x4) (fun b hb=>nLt (hU b hb) x4.size) (hV.ext x4) (o4.slB hU) (fun t ht=>by
   rcases List.mem_append.1 ht with ht|ht
   ·exact hfs t ht
   ·obtain ⟨x,hx,rfl⟩:=List.mem_map.1 ht
    exact nD (hok x hx).check) (by rw [List.length_append,List.length_map];omega)) ?_
  rintro _ w7 ⟨hP7,c7⟩
  repeat (first|refine go2 ?_|fail)
  exact bEr rfl ⟨hP7,Ext.chg x4 c7⟩
end
section
open Go Go.K
attribute [local irreducible] aH aM aY KOp.wp K.Spec u32 leS vnS str aP cM bK idT aQ aG aN idN bU eX eV iS aU eK fM kQ aA6 rD jI dA gN bF aX EtR
abbrev aBl (c p:Nat) (rv qv:Value) (ch:Ch) (P:CP):List Value:= [.pointer (some ⟨c,0,none⟩),.pointer (some ⟨p,0,none⟩),rv,.int .i64 (ch.top:Nat),qv,.int .i64 P.most,.int .i64 P.floor]
structure BoR (w0 w:World) (b c p:Nat) (M:List Nat) (s:BP):Prop where
 ext:Ext w0 w
 base:∀y∈b::p::M,w0.heap.size≤y∧y<w.heap.size
 ne:b≠p
 ch:∃B,ChR [b,p] w B c M s.ch
 po:PoR w p (b::p::M) s.p
 okq:∀x∈s.q.l,EntOk x
 lists:∃rv qv,At w b (.cells (aBl c p rv qv s.ch s.q).toArray T.kedgelaw20_both (0,0))∧SlR (mL txR) (b::p::M) w rv s.ch.bs∧SlR eD (b::p::M) w qv s.q.l
theorem BoR.to {w0 w w':World} {b c p:Nat} {M:List Nat} {s:BP} (h:BoR w0 w b c p M s) (x:Ext w w'):BoR w0 w' b c p M s:=by
 obtain ⟨h1,h2,h3,⟨B,h4⟩,h5,ho,rv,qv,h6,h7,h8⟩:=h
 exact ⟨h1.trans x,fun y hy=>⟨(h2 y hy).1,nLt (h2 y hy).2 x.size⟩,h3,⟨B,h4.ext x⟩,h5.ext x,ho,rv,qv,h6.ext x,h7.ext x,h8.ext x⟩
theorem bP7 {b p:Nat} {M M':List Nat} {n:Nat} (h:∀y∈M',y∈M∨n≤y):∀y∈b::p::M',y∈b::p::M∨n≤y:=fun y hy=>by
 simp only [List.mem_cons] at hy ⊢
 rcases hy with rfl|rfl|hy
 ·exact .inl (.inl rfl)
 ·exact .inl (.inr (.inl rfl))
 ·exact (h y hy).imp (fun q=>.inr (.inr q)) id
def bPt (q:CP) (txs:List Tx) (C:Ch):Prop:=∀(w:World) (M:List Nat) (qv lw lv:Value),SlR eD M w qv q.l→SlE cQ w lw (bF C.bs)→SlR txR M w lv txs→(∀y∈M,y<w.heap.size)→K.Spec Tryz.prog F.kedgeref20_Block [.agg (oA qv q).toArray,lw,lv,.int .i64 (((C.bs.length:Nat):Int)+1)] w fun r w'=>∃vL,r=.agg (oA vL (jI (aS (bF C.bs)) q txs (((C.bs.length:Nat):Int)+1))).toArray∧SlR eD M w' vL (jI (aS (bF C.bs)) q txs (((C.bs.length:Nat):Int)+1)).l∧Ext w w'
set_option maxHeartbeats 16000000 in
set_option maxRecDepth 4000 in
theorem aBb {w0:World} {b c p:Nat} {M:List Nat} {lv:Value} {s:BP} {txs:List Tx} (w:World) (hg:EtR w0) (hS:BoR w0 w b c p M s) (hx:SlR txR (b::p::M) w lv txs) (hk:BlkOk s txs) (hR:(gN s.ch txs).1=0→bPt s.q txs (dA s.ch txs)):
  K.Spec Tryz.prog F.kedgelaw20_both_block [.pointer (some ⟨b,0,none⟩),lv] w fun r w'=>r=.bool true∧∃M',BoR w0 w' b c p M' (aM3 s txs)∧(∀y∈M',y∈M∨w.heap.size≤y)∧Chg (b::p::M) w w':=by
 obtain ⟨x0,hb0,hbp,⟨B,hC⟩,hP,hoq,rv,qv,hA,hrv,hqv⟩:=hS
 obtain ⟨kbs,⟨kt1,kt2,kt3⟩,klen,ktop,kouts,kents,kfl,kentq,kflq⟩:=hk
 have hlt:∀y∈b::p::M,y<w.heap.size:=fun y hy=>(hb0 y hy).2
 have hoff:=hC.off
 have hbM:b∉M:=fun h=>hoff b h (by simp)
 have hpM:p∉M:=fun h=>hoff p h (by simp)
 have rb:Row w ⟨b,0,none⟩ (aBl c p rv qv s.ch s.q):=Row.of_at hA
 have hcl:=aJ2 s.ch.bs
 obtain ⟨r1,r2,erv⟩:=hrv.form
 generalize hbl:s.ch.bs.length=nb at erv
 subst erv
 refine yQ rfl ?_
 unfold mH
 refine oy ?_
 repeat (first|refine go2 ?_|fail)
 refine zC (d:=some 14) rfl (aXx (N:=b::p::M) (txs:=txs) _ hC hx (fun y hy=>by simp [hy]) (fun y hy=>by simp only [List.mem_cons,List.not_mem_nil,or_false] at hy;rcases hy with rfl|rfl<;>simp) (fun y hy=>hlt y (by simp only [List.mem_cons,List.not_mem_nil,or_false] at hy;rcases hy with rfl|rfl<;>simp)) kt3 (by omega) (by omega) (by omega) (by omega)) ?_
 rintro e w1 ⟨⟨i,hE⟩,⟨M1,hC1,hM1⟩,c1⟩
 have x01:Ext w0 w1:=(Ext.chg x0 c1).mono fun y hy=>.inr (hb0 y (by simp [hy])).1
 have s1:=c1.size
 have hM1':∀y∈b::p::M1,y∈b::p::M∨w.heap.size≤y:=bP7 hM1
 have hb1:∀y∈b::p::M1,w0.heap.size≤y∧y<w1.heap.size:=fun y hy=>by
  refine ⟨(hM1' y hy).elim (fun q=>(hb0 y q).1) (fun q=>nTr x0.size q),?_⟩
  simp only [List.mem_cons] at hy
  rcases hy with rfl|rfl|hy
  ·exact nLt (hlt _ (by simp)) s1
  ·exact nLt (hlt _ (by simp)) s1
  ·exact hC1.lt y hy
 have hA1:=hA.chg c1 hbM
 have r1':Row w1 ⟨b,0,none⟩ (aBl c p (.slice r1 nb r2) qv s.ch s.q):=Row.of_at hA1
 have hP1:PoR w1 p (b::p::M1) s.p:=hP.chg c1 (fun y hy=>by simp [hy]) hpM (by simp) hM1'
 have hrv1:SlR (mL txR) (b::p::M1) w1 (.slice r1 nb r2) s.ch.bs:=hrv.step c1 (fun y hy=>.inl (by simp [hy])) hM1'
 have hqv1:SlR eD (b::p::M1) w1 qv s.q.l:=hqv.step c1 (fun y hy=>.inl (by simp [hy])) hM1'
 have hx1:SlR txR (b::p::M1) w1 lv txs:=hx.step c1 (fun y hy=>.inl (by simp [hy])) hM1'
 have hlt1:∀y∈b::p::M1,y<w1.heap.size:=fun y hy=>(hb1 y hy).2
 clear hC hP hrv hqv hx hA rb
 repeat (first|refine go2 ?_|fail)
 refine zC (d:=some 21) rfl (aXt (M:=b::p::M1) (txs:=txs) (ch:=s.ch) _ hrv1 hx1 kbs ⟨kt1,kt2,kt3⟩ (by omega) (by omega) hlt1) ?_
 rintro _ w2 ⟨bv',rfl,hbv,x2⟩
 obtain ⟨q1,q2,ebv⟩:=hbv.form
 have r2':=Row.ext x2 r1'
 repeat (first|refine zE (d':=6) (fun _=>rfl) rfl rfl (by rw [ebv];rfl) (fun b6 w3 x3 a6 (r6:Row w3 ⟨b6,0,none⟩ [bv',.int .i64 ((dA s.ch txs).top:Nat)]) hb6=>?_)|(first|refine go2 ?_|fail))
 have x13:=x2.trans x3
 have hE3:dD w3 2 e (gN s.ch txs).1 (gN s.ch txs).2:=(hE.ext x13).errR fun q=>by
  rw [(bEg q).1]
 refine zC (d:=some 26) rfl (bIb (hg.ext (x01.trans x13)) hE3) ?_
 rintro _ w4 ⟨rfl,x4⟩
 have x14:=x13.trans x4
 have r14:=Row.ext x14 r1'
 have r64:=Row.ext x4 r6
 by_cases h0:(gN s.ch txs).1=0
 ·obtain ⟨-,eC⟩:=bEg h0
  have hR:=hR h0
  have ek:(((dA s.ch txs).bs.length:Nat):Int)+1=(((dA s.ch txs).bs.length+1:Nat):Int):=by omega
  have eB:aM3 s txs=⟨dA s.ch txs,jI (aS (bF (dA s.ch txs).bs)) s.p txs ((((dA s.ch txs).bs.length:Nat):Int)+1),jI (aS (bF (dA s.ch txs).bs)) s.q txs ((((dA s.ch txs).bs.length:Nat):Int)+1)⟩:=by
   unfold aM3;rw [if_neg (fun q=>q h0),ek];rfl
  have hcbs:∀y∈(dA s.ch txs).bs,aQx y:=by
   rw [eC];intro y hy
   rcases List.mem_append.1 hy with hy|hy
   ·exact kbs y hy
   ·simp at hy;subst hy;exact ⟨kt1,kt2,kt3⟩
  have hclen:(dA s.ch txs).bs.length≤201:=by rw [eC];simp;omega
  have hcol:(bF (dA s.ch txs).bs).length≤1000:=by
   rw [eC]
   have:=aJ2 (s.ch.bs++ [txs])
   rw [bCz] at this
   exact nTr this kouts
  have hchk:=aFf h0
  generalize dA s.ch txs=C at*
  rw [eB]
  repeat (first|refine aL (d:=some 28) (.bool false) rfl (congrArg (fun b=>some (Value.bool (!b))) (dTr rfl)) ?_|refine aL (d:=some 30) (.bool false) rfl (congrArg (fun b=>some (Value.bool (!b))) (dTr h0)) ?_|refine go1 ?_)
  refine sO (b:=b) (o:=2) (cur:=aBl c p (.slice r1 nb r2) qv s.ch s.q) (vs:= [bv',.int .i64 (C.top:Nat)]) rfl rfl rfl (by rw [ebv];intro v hv;simp only [List.mem_cons,List.not_mem_nil,or_false] at hv;rcases hv with rfl|rfl<;>rfl) (hA1.ext x14) (Nat.le_of_ble_eq_true rfl) (fun w5 c5 a5=>?_)
  have a5:At w5 b (.cells (aBl c p bv' qv C s.q).toArray T.kedgelaw20_both (0,0)):=a5
  have hb2p:∀y∈ [b],y∈b::p::M1:=fun y hy=>by simp at hy;simp [hy]
  have hC5:ChR [b,p] w5 B c M1 C:=(hC1.ext x14).step c5 (fun y hy=>.inl (by simp at hy;simp [hy]))
  have hP5:PoR w5 p (b::p::M1) s.p:=(hP1.ext x14).chg c5 hb2p (by simpa using fun q=>hbp q.symm) (by simp) (fun y hy=>.inl hy)
  have hbv5:SlR (mL txR) (b::p::M1) w5 bv' C.bs:=(hbv.ext (x3.trans x4)).step c5 (fun y hy=>.inl (hb2p y hy)) (fun y hy=>.inl hy)
  have hqv5:SlR eD (b::p::M1) w5 qv s.q.l:=(hqv1.ext x14).step c5 (fun y hy=>.inl (hb2p y hy)) (fun y hy=>.inl hy)
  have hx5:SlR txR (b::p::M1) w5 lv txs:=(hx1.ext x14).step c5 (fun y hy=>.inl (hb2p y hy)) (fun y hy=>.inl hy)
  have hb6b:b6≠b:=fun q=>by have:=hlt1 b (by simp);have:=x2.size;omega
  have hb6p:b6≠p:=fun q=>by have:=hlt1 p (by simp);have:=x2.size;omega
  have r65:Row w5 ⟨b6,0,none⟩ [bv',.int .i64 (C.top:Nat)]:=Row.chg c5 r64 (by simpa using hb6b)
  have r5:Row w5 ⟨b,0,none⟩ (aBl c p bv' qv C s.q):=Row.of_at a5
  have x05:Ext w0 w5:=(Ext.chg (x01.trans x14) c5).mono fun y hy=>.inr (hb1 y (hb2p y hy)).1
  have c15:Chg (b::p::M) w w5:=(Chg.trans (c1.ext x14) c5).mono fun y hy=>by
   rcases List.mem_append.1 hy with hy|hy
   ·exact .inl (by simp [hy])
   ·simp at hy;exact .inl (by simp [hy])
  have hlt5:∀y∈b::p::M1,y<w5.heap.size:=fun y hy=>nLt (hlt1 y hy) (nTr x14.size c5.size)
  clear hC1 hP1 hrv1 hqv1 hx1 hbv c1 c5 x2 x3 x4 x13 x14 hE hE3 r1' r2' r14 r64 r6 a6 hA1 x01
  apply z1
  refine zg (fun w6 x6=>?_)
  refine dN (b:=.cons ⟨some 51,_,_⟩ _) (fun (_:Unit) w'=>Ext w5 w') (fun _=> [(0,.pointer (some ⟨b,0,none⟩)),(1,lv),(6,.pointer (some ⟨b6,0,none⟩)),(38,.pointer (some ⟨p,0,none⟩)),(39,lv),(44,.iface T.P_chain_Chain (.pointer (some ⟨c,0,none⟩))),(50,.int .i64 (((C.bs.length:Nat):Int)+1))]) ?_ ?_
  ·repeat' (first|refine zB ?_ ?_|(refine zC (d:=some 49) rfl (aRd _ (hC5.ext (by exact fx))) ?_;rintro _ w7 ⟨rfl,x7⟩)|(exact ⟨(),⟨rfl,rfl,rfl,rfl,rfl,rfl,rfl,trivial⟩,by exact fx⟩)|(first|refine go2 ?_|fail))
  rintro _ ρ7 w7 x57
  try dsimp only
  have hlt7:∀y∈b::p::M1,y<w7.heap.size:=fun y hy=>nLt (hlt5 y hy) x57.size
  refine zC (d:=some 51) rfl (aVu (U:=b::p::M1) (P:=s.p) (txs:=txs) (f:=aS (bF C.bs)) (((C.bs.length:Nat):Int)+1) _ (hP5.ext x57) hlt7 (fun cc=>gV.of_chain ((hC5.ext x57).step cc (fun y hy=>.inl (by simp at hy;simp [hy])))) (hx5.ext x57) kt3 hchk (by omega) (by omega) kfl) ?_
  rintro _ w8 ⟨hP8,c8⟩
  have hp2p:∀y∈ [p],y∈b::p::M1:=fun y hy=>by simp at hy;simp [hy]
  have hC8:ChR [b,p] w8 B c M1 C:=(hC5.ext x57).step c8 (fun y hy=>.inl (by simp at hy;simp [hy]))
  have hbv8:SlR (mL txR) (b::p::M1) w8 bv' C.bs:=(hbv5.ext x57).step c8 (fun y hy=>.inl (hp2p y hy)) (fun y hy=>.inl hy)
  have hqv8:SlR eD (b::p::M1) w8 qv s.q.l:=(hqv5.ext x57).step c8 (fun y hy=>.inl (hp2p y hy)) (fun y hy=>.inl hy)
  have hx8:SlR txR (b::p::M1) w8 lv txs:=(hx5.ext x57).step c8 (fun y hy=>.inl (hp2p y hy)) (fun y hy=>.inl hy)
  have a8:At w8 b (.cells (aBl c p bv' qv C s.q).toArray T.kedgelaw20_both (0,0)):=(a5.ext x57).chg c8 (by simpa using hbp)
  have r8:Row w8 ⟨b,0,none⟩ (aBl c p bv' qv C s.q):=Row.of_at a8
  have r68:Row w8 ⟨b6,0,none⟩ [bv',.int .i64 (C.top:Nat)]:=Row.chg c8 (Row.ext x57 r65) (by simpa using hb6p)
  have x08:Ext w0 w8:=(Ext.chg (x05.trans x57) c8).mono fun y hy=>.inr (hb1 y (hp2p y hy)).1
  have c18:Chg (b::p::M) w w8:=(Chg.trans (c15.ext x57) c8).mono fun y hy=>by
   rcases List.mem_append.1 hy with hy|hy
   ·exact .inl hy
   ·simp at hy;exact .inl (by simp [hy])
  have hlt8:∀y∈b::p::M1,y<w8.heap.size:=fun y hy=>nLt (hlt7 y hy) c8.size
  clear hC5 hP5 hqv5 hx5 hbv5 c15 c8 x05 x57 r5 r65 a5 hlt7
  repeat (refine go1 ?_)
  refine zi (fun w9 x9=>?_)
  obtain ⟨u1,u2,eqv⟩:=hqv8.form
  have hu:qv.oneCell'=true:=by rw [eqv];rfl
  refine dN (b:=.cons ⟨some 64,_,_⟩ _) (fun (lw:Value) w'=>Ext w8 w'∧SlE cQ w' lw (bF C.bs)) (fun lw=> [(52,.pointer (some ⟨b,0,none⟩)),(56,.agg (oA qv s.q).toArray),(58,lw),(59,lv),(63,.int .i64 (((C.bs.length:Nat):Int)+1))]) ?_ ?_
  ·repeat' (first|refine zB ?_ ?_|(refine zC (d:=some 58) rfl (aAz (M:=b::p::M1) (bs:=C.bs) ((C.top:Nat):Int) _ (hbv8.ext (by exact fx)) hcbs (by omega)) ?_;rintro lw w7 ⟨hlw,x7⟩)|refine zG (d:=some 62) (E:=mL txR) (M:=b::p::M1) (l:=C.bs) rfl (hbv8.ext (by exact fx)) ?_|(exact ⟨lw,⟨rfl,rfl,rfl,rfl,rfl,trivial⟩,by exact fx,SlE.ext (by exact fx) hlw⟩)|(first|refine go2 ?_|fail))
  rintro lw ρ10 w10 ⟨x10,hlw⟩
  try dsimp only
  refine zC (d:=some 64) rfl (hR _ (b::p::M1) _ _ _ (hqv8.ext x10) hlw (hx8.ext x10) (fun y hy=>nLt (hlt8 y hy) x10.size)) ?_
  rintro _ w11 ⟨vL,rfl,hL,x11⟩
  have x811:=x10.trans x11
  obtain ⟨q3,q4,eL⟩:=hL.form
  repeat (first|(refine sO (b:=b) (o:=4) (cur:=aBl c p bv' qv C s.q) (vs:=oA vL (jI (aS (bF C.bs)) s.q txs (((C.bs.length:Nat):Int)+1))) rfl rfl rfl (by rw [eL];intro v hv;simp only [List.mem_cons,List.not_mem_nil,or_false] at hv;rcases hv with rfl|rfl|rfl<;>rfl) (a8.ext x811) (Nat.le_of_ble_eq_true rfl) (fun w12 c12 a12=>?_))|(first|refine go2 ?_|fail))
  refine aA rfl ⟨rfl,M1,⟨(Ext.chg (x08.trans x811) c12).mono fun y hy=>.inr (hb1 y (hb2p y hy)).1,fun y hy=>⟨(hb1 y hy).1,nLt (hlt8 y hy) (nTr x811.size c12.size)⟩,hbp,⟨B,(hC8.ext x811).step c12 (fun y hy=>.inl (by simp at hy;simp [hy]))⟩,(hP8.ext x811).chg c12 hb2p (by simpa using fun q=>hbp q.symm) (by simp) (fun y hy=>.inl hy),bC1 _ _ _ _,bv',vL,a12,(hbv8.ext x811).step c12 (fun y hy=>.inl (hb2p y hy)) (fun y hy=>.inl hy),hL.step c12 (fun y hy=>.inl (hb2p y hy)) (fun y hy=>.inl hy)⟩,hM1,(Chg.trans (c18.ext x811) c12).mono fun y hy=>by
   rcases List.mem_append.1 hy with hy|hy
   ·exact .inl hy
   ·simp at hy;exact .inl (by simp [hy])⟩
 ·have e1:dA s.ch txs=s.ch:=by unfold dA;rw [if_pos h0]
  have e2:aM3 s txs=s:=by unfold aM3;rw [if_pos h0]
  rw [e1] at hC1
  rw [e2]
  repeat (first|refine aL (d:=some 28) (.bool false) rfl (congrArg (fun b=>some (Value.bool (!b))) (dTr rfl)) ?_|refine aL (d:=some 30) (.bool true) rfl (congrArg (fun b=>some (Value.bool (!b))) (dFa h0)) ?_|(first|refine go2 ?_|fail))
  exact aA rfl ⟨rfl,M1,⟨x01.trans x14,fun y hy=>⟨(hb1 y hy).1,nLt (hlt1 y hy) x14.size⟩,hbp,⟨B,hC1.ext x14⟩,hP1.ext x14,hoq,_,qv,hA1.ext x14,hrv1.ext x14,hqv1.ext x14⟩,hM1,(c1.mono fun y hy=>.inl (by simp [hy])).ext x14⟩
end
end Go.Proofs.YteceapipdhnhdaaGreatDoor
