/- Contracts: the document's pool without entries, once a block -/
import Derived.Test.YteceapipdhnhdaaGreatDoorNa44
import Derived.Test.YteceapipdhnhdaaGreatDoorNa47
set_option linter.unusedVariables false
set_option linter.unusedSimpArgs false
namespace Go.Proofs.YteceapipdhnhdaaGreatDoor
section
open Go Go.K
attribute [local irreducible] aH aM aY KOp.wp K.Spec u32 leS vnS str aP cM bK idT aQ aG aN idN bU
theorem bBc (most:Int) (w:World):K.Spec Tryz.prog F.kedgeref19_Trim [.slice none 0 0,.int .i64 most] w fun r w'=>r=.tuple #[.slice none 0 0,.slice none 0 0,.int .i64 0]∧w'=w:=by
 refine aHu rfl ?_
 unfold vD
 refine oy ?_
 repeat (first|refine go2 ?_|fail)
 refine aJ (fun (_:Unit) w'=>w'=w) (fun _=> [(0,.slice none 0 0),(7,.slice none 0 0),(8,.int .i64 0)]) (fun _=>0) () ⟨rfl,rfl,rfl,trivial⟩ rfl ?_
 rintro ⟨⟩ ρ _ rfl
 repeat (first|refine go2 ?_|fail)
 exact aA rfl ⟨rfl,rfl⟩
theorem aRp {p1:Option Addr} {n p2:Nat} (most:Int) (w:World):K.Spec Tryz.prog F.kedgeref20_trimmed [.agg (oA (.slice p1 n p2) ⟨[],most,0⟩).toArray,.slice none 0 0] w fun r w'=>r=.tuple #[.agg (oA (.slice none 0 0) ⟨[],most,0⟩).toArray,.slice none 0 0]∧Ext w w':=by
 refine aC8 rfl ?_
 unfold qK
 refine oy ?_
 repeat (first|refine zD (d:=some 2) (cs:=oA (.slice p1 n p2) ⟨[],most,0⟩) rfl rfl (fun b2 w1 x1 a1 (r1:Row w1 ⟨b2,0,none⟩ (oA (.slice p1 n p2) ⟨[],most,0⟩)) hb2=>?_)|refine zH (d:=some 4) (fun b4 w2 x2 a2 hb4=>?_)|(refine zC (d:=some 14) rfl (bBc most _) ?_;rintro _ _ ⟨rfl,rfl⟩)|refine aZ (d:=some 23) (cs:=oA (.slice none 0 0) ⟨[],most,0⟩) rfl ?_|refine zL (x:=.tmp 27) (p:=(0:Int)>0) rfl (fun h=>absurd h (by decide)) (fun _=>?_)|refine zE (d':=9) (fun _=>rfl) rfl rfl rfl (fun b9 w5 x35 a5 (r5:Row w5 ⟨b9,0,none⟩ (oA (.slice none 0 0) ⟨[],most,0⟩)) hb9=>?_)|(first|refine go2 ?_|fail))
 refine aW (w0:=w) (vs:=oA (.slice none 0 0) ⟨[],most,0⟩) (x1.trans (x2.trans x35)) (nTr x1.size hb4) (a2.ext x35) rfl rfl rfl rfl rfl (fun w9 x9 c9 a9 r9=>?_)
 repeat (first|refine go2 ?_|fail)
 exact aA (iY (bA r9 rfl rfl) bI) ⟨rfl,x9⟩
theorem bDr {p1:Option Addr} {n p2:Nat} (lv:Value) (h most:Int) (w:World):K.Spec Tryz.prog F.kedgeref20_anew [.agg (oA (.slice p1 n p2) ⟨[],most,0⟩).toArray,lv,.slice none 0 0,.int .i64 h] w fun r w'=>r=.agg (oA (.slice none 0 0) ⟨[],most,0⟩).toArray∧Ext w w':=by
 refine aHi rfl ?_
 unfold uT
 refine oy ?_
 repeat (first|refine zD (d:=some 4) (cs:=oA (.slice p1 n p2) ⟨[],most,0⟩) rfl rfl (fun b4 w1 x1 a1 (r1:Row w1 ⟨b4,0,none⟩ (oA (.slice p1 n p2) ⟨[],most,0⟩)) hb4=>?_)|refine zH (d:=some 8) (fun b8 w2 x2 a2 hb8=>?_)|(first|refine go2 ?_|fail))
 refine aJ (fun (_:Unit) w'=>w'=w2) (fun _=> [(2,.slice none 0 0),(4,.pointer (some ⟨b4,0,none⟩)),(8,.pointer (some ⟨b8,0,none⟩)),(9,.slice none 0 0),(10,.int .i64 0)]) (fun _=>0) () ⟨rfl,rfl,rfl,rfl,rfl,trivial⟩ rfl ?_
 rintro ⟨⟩ ρ _ rfl
 repeat (first|(refine zC (d:=some 47) rfl (aRp most _) ?_;rintro _ w4 ⟨rfl,x4⟩)|refine zE (d':=13) (fun _=>rfl) rfl rfl rfl (fun b9 w5 x5 a5 (r5:Row w5 ⟨b9,0,none⟩ (oA (.slice none 0 0) ⟨[],most,0⟩)) hb9=>?_)|(first|refine go2 ?_|fail))
 refine aW (w0:=w) (vs:=oA (.slice none 0 0) ⟨[],most,0⟩) (x1.trans (x2.trans (x4.trans x5))) (nTr x1.size hb8) (a2.ext (x4.trans x5)) rfl rfl rfl rfl rfl (fun w9 x9 c9 a9 r9=>?_)
 repeat (first|refine go2 ?_|fail)
 exact aA (aEo (bA r9 rfl rfl)) ⟨rfl,x9⟩
theorem bCt (f:Pt→Option Cn) (most:Int) (txs:List Tx) (h:Int):jI f ⟨[],most,0⟩ txs h=⟨[],most,0⟩:=by
 unfold jI xS aL7
 show (⟨(bU most []).1,most,max (aA6 0) (bU most []).2.2⟩:CP)=_
 rw [pR (.inl rfl)];rfl
set_option maxHeartbeats 4000000 in
theorem aWl {M:List Nat} {p1:Option Addr} {p2:Nat} {tv:Value} {txs:List Tx} (lv:Value) (h most:Int) (w:World) (hx:SlR txR M w tv txs) (hs:∀t∈txs,t.Sm) (hc:∀t∈txs,aG t=0) (hn:txs.length≤90):
  K.Spec Tryz.prog F.kedgeref20_Block [.agg (oA (.slice p1 0 p2) ⟨[],most,0⟩).toArray,lv,tv,.int .i64 h] w fun r w'=>r=.agg (oA (.slice none 0 0) ⟨[],most,0⟩).toArray∧Ext w w':=by
 refine aF1 rfl ?_
 unfold tE
 refine oy ?_
 repeat (first|refine zD (d:=some 4) (cs:=oA (.slice p1 0 p2) ⟨[],most,0⟩) rfl rfl (fun b4 w1 x1 a1 (r1:Row w1 ⟨b4,0,none⟩ (oA (.slice p1 0 p2) ⟨[],most,0⟩)) hb4=>?_)|refine zH (d:=some 8) (fun b8 w2 x2 a2 hb8=>?_)|(refine bC (b:=b4) (o:=2) (cur:=oA (.slice p1 0 p2) ⟨[],most,0⟩) (v:=.int .i64 0) rfl rfl rfl (a1.ext x2) (Nat.le_of_ble_eq_true rfl) (fun w3 c3 a3=>?_);have a3:At w3 b4 (.cells (oA (.slice p1 0 p2) ⟨[],most,0⟩).toArray T.kedgeref20_Pool (0,0)):=a3;have r3:Row w3 ⟨b4,0,none⟩ (oA (.slice p1 0 p2) ⟨[],most,0⟩):=Row.of_at a3)|(refine bC (b:=b4) (o:=2) (cur:=oA (.slice p1 0 p2) ⟨[],most,0⟩) (v:=.int .i64 0) rfl rfl rfl a3 (Nat.le_of_ble_eq_true rfl) (fun w4 c4 a4=>?_);have a4:At w4 b4 (.cells (oA (.slice p1 0 p2) ⟨[],most,0⟩).toArray T.kedgeref20_Pool (0,0)):=a4;have r4:Row w4 ⟨b4,0,none⟩ (oA (.slice p1 0 p2) ⟨[],most,0⟩):=Row.of_at a4)|refine zL (x:=.tmp 21) (p:=(0:Int)<500) rfl (fun _=>?_) (fun h=>absurd (by decide) h)|(first|refine go2 ?_|fail))
 have x24:Ext w w4:=(Ext.chg (x1.trans x2) (Chg.trans c3 c4)).mono fun b hb=>by simp at hb;subst hb;exact .inr hb4
 have h48:b8≠b4:=fun q=>by have:=a1.lt;omega
 have a24:At w4 b8 (.cells [Value.slice none 0 0,.int .i64 0,.int .i64 0].toArray T.kedgeref20_Pool (0,0)):=(a2.chg c3 (by simpa using h48)).chg c4 (by simpa using h48)
 have hb8':w.heap.size≤b8:=nTr x1.size hb8
 have hx4:=hx.ext x24
 clear c4 c3 a3 r3 a1 a2 r1 x1 x2 hx hb4 hb8 a4
 refine aJ (fun (q:Nat × Value) w'=>Ext w4 w'∧q.1≤txs.length∧Own bB T.string w4.heap.size w' q.2 ((txs.take q.1).map idT)) (fun q=> [(1,lv),(2,tv),(3,.int .i64 h),(4,.pointer (some ⟨b4,0,none⟩)),(8,.pointer (some ⟨b8,0,none⟩)),(9,q.2),(10,.int .i64 (q.1:Nat))]) (fun q=>txs.length - q.1) (0,.slice none 0 0) ⟨rfl,rfl,rfl,rfl,rfl,rfl,rfl,trivial⟩ ⟨Ext.refl _,by simp,by rw [List.take_zero];exact Own.nil _ _ _⟩ ?_
 rintro ⟨i,v9⟩ ρ5 w5 ⟨x5,hi,o5⟩
 simp only at hi o5
 dsimp only
 repeat (first|refine zG (d:=some 25) (E:=txR) (M:=M) (l:=txs) rfl (hx4.ext x5) ?_|(first|refine go2 ?_|fail))
 refine zL (x:=.tmp 26) (p:=((i:Nat):Int)<((txs.length:Nat):Int)) rfl (fun h5=>?_) (fun h5=>?_)
 ·have hil:i<txs.length:=by omega
  have hsm:=hs _ (gMe hil)
  have hck:=hc _ (gMe hil)
  have htl:((txs.take i).map idT).length=i:=by rw [List.length_map,List.length_take];omega
  repeat (first|(refine aR (d:=some 31) (E:=txR) (M:=M) rfl rfl (n:=i) (l:=txs) (hx4.ext x5) rfl hil (fun ad cs r4 he=>?_);obtain ⟨iv,ov,rfl, -⟩:=id he)|(first|refine go2 ?_|fail))
  refine zC (d:=some 33) rfl (aZ7 (M:=M) _ (cs:=aK txs[i] iv ov) he (cI hsm hck)) ?_
  rintro _ w6 ⟨rfl,x6⟩
  repeat (first|refine zI (d:=some 36) (cs:= [.string (idT txs[i])]) rfl (fun b9 w9 x9 a9 hb9=>?_)|(first|refine go2 ?_|fail))
  have x59:Ext w5 w9:=x6.trans x9
  refine jY (d:=some 37) (E:=bB) (v:=v9) (l2:= [idT txs[i]]) rfl (o5.ext x59) (nTr x5.size x59.size) rfl rfl (dR a9 rfl) rfl rfl (by simp only [List.length_cons,List.length_nil];omega) (fun v10 w10 o10 _ c10 hb10=>?_)
  repeat (first|refine go2 ?_|fail)
  exact ⟨(i+1,v10),⟨rfl,rfl,rfl,rfl,rfl,rfl,rfl,trivial⟩,⟨((x5.trans x59).chg c10).mono (fun b hb=>.inr (o5.base b hb)),by simp only;omega,by simp only;rw [aXp hil];exact o10⟩,by simp only;omega⟩
 ·have r5:=Row.ext x5 r4
  repeat (first|refine go2 ?_|fail)
  refine aJ (fun (_:Unit) w'=>w'=w5) (fun _=> [(1,lv),(3,.int .i64 h),(4,.pointer (some ⟨b4,0,none⟩)),(8,.pointer (some ⟨b8,0,none⟩)),(12,.slice none 0 0),(13,.int .i64 0)]) (fun _=>0) () ⟨rfl,rfl,rfl,rfl,rfl,rfl,trivial⟩ rfl ?_
  rintro ⟨⟩ ρ6 _ rfl
  repeat (first|(refine zC (d:=some 68) rfl (bDr lv h most _) ?_;rintro _ w7 ⟨rfl,x7⟩)|(first|refine go2 ?_|fail))
  refine aW (w0:=w) (vs:=oA (.slice none 0 0) ⟨[],most,0⟩) (x24.trans (x5.trans x7)) hb8' (a24.ext (x5.trans x7)) rfl rfl rfl rfl rfl (fun w9 x9 c9 a9 r9=>?_)
  repeat (first|refine go2 ?_|fail)
  exact aA (aEo (bA r9 rfl rfl)) ⟨rfl,x9⟩
end
end Go.Proofs.YteceapipdhnhdaaGreatDoor
section
namespace Go.K
open Go Go.Proofs.YteceapipdhnhdaaGreatDoor
theorem bJ6 {S:List Int} {i:Nat} (hi:i<S.length):(S.take (i+1)).map (fun v=>(⟨10*v,yH⟩:TOut))=(S.take i).map (fun v=>(⟨10*v,yH⟩:TOut))++ [⟨10*S[i],yH⟩]:=by
 rw [List.take_succ_eq_append_getElem hi,List.map_append];rfl
theorem bLx (vals:List Int) (most:Int):BlkOk ⟨⟨[],0⟩,⟨[],most,0⟩,⟨[],most,0⟩⟩ [grT 1 (grO vals)]:=by
 have hl:(grO vals).length≤6:=by unfold grO;rw [List.length_map,List.length_take];omega
 have e:dT [grT 1 (grO vals)]=(grO vals).length:=by simp [dT,grT]
 exact ⟨by simp,⟨by simp,by rw [e];omega,by intro t ht;simp at ht;subst ht;exact ⟨by simp [grT],by show (grO vals).length≤1000;omega,by simp [grT]⟩⟩,by simp,by simp,by rw [e];simp [sQ];omega,by simp,by simp,by simp,by simp⟩
end Go.K
namespace Go.Proofs.YteceapipdhnhdaaGreatDoor
open Go Go.K
attribute [local irreducible] aH aM aY KOp.wp K.Spec u32 leS vnS str aP cM bK idT aQ aG aN idN bU eX eV iS aU eK fM kQ aA6 rD jI dA gN bF aX EtR aM3
theorem aR7 {txs:List Tx} {C:Ch} (most:Int) (hs:∀t∈txs,t.Sm) (hc:∀t∈txs,aG t=0) (hn:txs.length≤90):bPt ⟨[],most,0⟩ txs C:=fun w M qv lw lv hq _ hx _=>by
 obtain ⟨q1,q2,rfl⟩:=hq.form
 refine dO (aWl (txs:=txs) lw _ most w hx hs hc hn) fun r w' ⟨e,x⟩=>?_
 rw [bCt]
 exact ⟨_,e,SlR.nil _ _,x⟩
set_option maxHeartbeats 8000000 in
theorem aUf {v:Value} {vals:List Int} (most:Int) (w:World) (hg:EtR w) (hv:SlR bC5 [] w v vals) (hr:∀a∈vals,0≤a∧a≤65535):
  K.Spec Tryz.prog F.kedgelaw20_begin [v,.int .i64 most] w fun r w'=>∃b c p M,r=.pointer (some ⟨b,0,none⟩)∧BoR w w' b c p M (bOm vals most):=by
 refine aGc rfl ?_
 unfold tW
 refine oy ?_
 repeat (first|refine go2 ?_|fail)
 refine zC (d:=some 9) rfl (aAs (U:= []) _ (by simp)) ?_
 rintro _ w1 ⟨c,M,rfl,hC1,hM1,x1⟩
 have hMl:=hC1.lt
 repeat (first|refine go2 ?_|fail)
 refine zC (d:=some 11) rfl (aE9 (U:=M) most _ hMl) ?_
 rintro _ w2 ⟨p,rfl,hp2,hP2,x2⟩
 repeat (first|refine aZ (d:=some 13) (cs:= [.slice none 0 0,.int .i64 most,.int .i64 0]) rfl ?_|refine aZ (d:=some 14) (cs:=aBl c p (.slice none 0 0) (.slice none 0 0) ⟨[],0⟩ ⟨[],most,0⟩) rfl ?_|refine zD (d:=some 15) (cs:=aBl c p (.slice none 0 0) (.slice none 0 0) ⟨[],0⟩ ⟨[],most,0⟩) rfl rfl (fun b w3 x3 a3 (r3:Row w3 ⟨b,0,none⟩ (aBl c p (.slice none 0 0) (.slice none 0 0) ⟨[],0⟩ ⟨[],most,0⟩)) hb3=>?_)|refine zG (d:=some 18) (E:=bC5) (M:= []) (l:=vals) rfl (hv.ext (x1.trans (x2.trans x3))) ?_|refine bLs (d:=some 20) (E:=bC5) (n:=min vals.length 6) rfl rfl (by omega) (hv.ext (x1.trans (x2.trans x3))) (by omega) rfl (fun v' hv'=>?_)|refine zG (d:=some 21) (E:=bC5) (M:= []) (l:=vals.take (min vals.length 6)) rfl hv' ?_|(first|refine go2 ?_|fail))
 have x03:Ext w w3:=x1.trans (x2.trans x3)
 have lp:p<w2.heap.size:=by obtain ⟨_,g,B,M0,h1,_⟩:=hP2;exact h1.lt
 have s1:=x1.size
 have s2:=x2.size
 have hbp:b≠p:=fun q=>by omega
 have hS:BoR w w3 b c p M ⟨⟨[],0⟩,⟨[],most,0⟩,⟨[],most,0⟩⟩:=by
  refine ⟨x03,fun y hy=>?_,hbp,⟨_,((hC1.more fun y hy=>?_).ext x2).ext x3⟩,(hP2.chg (L:= []) x3 (by simp) (by simp) (by simp) fun y hy=>?_),by simp,.slice none 0 0,.slice none 0 0,a3,SlR.nil _ _,SlR.nil _ _⟩
  ·simp only [List.mem_cons] at hy
   rcases hy with rfl|rfl|hy
   ·exact ⟨by omega,a3.lt⟩
   ·exact ⟨by omega,nLt lp x3.size⟩
   ·exact ⟨hM1 y hy,nLt (hMl y hy) (x2.trans x3).size⟩
  ·simp only [List.mem_cons,List.not_mem_nil,or_false] at hy
   rcases hy with rfl|rfl
   ·exact .inr (by omega)
   ·exact .inr hp2
  ·simp only [List.mem_cons] at hy ⊢
   rcases hy with rfl|hy
   ·exact .inr hb3
   ·exact .inl hy
 have hg0:grO vals=(vals.take (min vals.length 6)).map fun v=>(⟨10*v,yH⟩:TOut):=by
  unfold grO
  by_cases h6:vals.length≤6
  ·rw [Nat.min_eq_left h6,List.take_length,tLe h6]
  ·rw [Nat.min_eq_right (by omega)]
 have hSl:(vals.take (min vals.length 6)).length≤6:=by rw [List.length_take];omega
 have hSr:∀a∈vals.take (min vals.length 6),0≤a∧a≤65535:=fun a ha=>hr a (List.mem_of_mem_take ha)
 have hbk:=bLx vals most
 have hu3:∀y∈b::p::M,y<w3.heap.size:=fun y hy=>(hS.base y hy).2
 rw [hg0] at hbk
 unfold bOm
 rw [hg0]
 clear hg0
 generalize vals.take (min vals.length 6)=S at*
 clear hC1 hP2 hp2 x1 x2 x3 hv
 refine aJ (fun (q:Nat × Value) w'=>Ext w3 w'∧q.1≤S.length∧bH gF T.api_Out w3.heap.size (b::p::M) w' q.2 ((S.take q.1).map fun v=>(⟨10*v,yH⟩:TOut))) (fun q=> [(5,.pointer (some ⟨b,0,none⟩)),(6,q.2),(20,v'),(21,.int .i64 (S.length:Nat)),(22,.int .i64 (q.1:Nat))]) (fun q=>S.length - q.1) (0,.slice none 0 0) ⟨rfl,rfl,rfl,rfl,rfl,trivial⟩ ⟨Ext.refl _,by simp,bH.nil _ _ _ _⟩ ?_
 rintro ⟨i,v6⟩ ρ w4 ⟨x4,hi,o4⟩
 simp only at hi o4
 dsimp only
 repeat (first|refine go2 ?_|fail)
 refine zL (x:=.tmp 23) (p:=((i:Nat):Int)<((S.length:Nat):Int)) rfl (fun h5=>?_) (fun h5=>?_)
 ·have hil:i<S.length:=by omega
  have hri:=hSr _ (gMe hil)
  have hlen:((S.take i).map fun v=>(⟨10*v,yH⟩:TOut)).length=i:=by rw [List.length_map,List.length_take];omega
  repeat (first|(refine aR (d:=some 24) (E:=bC5) (M:= []) rfl rfl (n:=i) (l:=S) (hv'.ext x4) rfl hil (fun ad cs r2 he=>?_);obtain ⟨rfl, -⟩:=he)|refine aL (d:=some 28) (.int .i64 S[i]) rfl (congrArg (fun n=>some (Value.int .i64 n)) (bO1 hri)) ?_|refine tR (d:=some 29) rfl rfl (by omega) ?_|refine aZ (d:=some 30) (cs:=gI ⟨10*S[i],yH⟩) rfl ?_|refine zI (d:=some 31) (cs:=gI ⟨10*S[i],yH⟩) rfl (fun b9 w9 x9 a9 hb9=>?_)|(first|refine go2 ?_|fail))
  have s34:=x4.size
  refine eM (d:=some 32) (E:=gF) (M:=b::p::M) (v:=v6) (cs:=gI ⟨10*S[i],yH⟩) (a:=⟨10*S[i],yH⟩) rfl rfl (o4.ext x9) (nTr s34 x9.size) rfl rfl a9 ⟨rfl,by show rT (10*S[i]);unfold rT;omega⟩ (by omega) (fun v10 w10 o10 c10 hb10=>?_)
  repeat (first|refine go2 ?_|fail)
  exact ⟨(i+1,v10),⟨rfl,rfl,rfl,rfl,rfl,trivial⟩,⟨((x4.trans x9).chg c10).mono (fun b hb=>.inr (o4.base b hb)),by simp only;omega,by simp only;rw [bJ6 hil];exact o10⟩,by simp only;omega⟩
 ·rw [tLe (by omega)] at o4
  have hlen:(S.map fun v=>(⟨10*v,yH⟩:TOut)).length≤6:=by rw [List.length_map];exact hSl
  generalize (S.map fun v=>(⟨10*v,yH⟩:TOut))=outs at*
  have hu4:∀y∈b::p::M,y<w4.heap.size:=fun y hy=>nLt (hu3 y hy) x4.size
  repeat (first|refine go2 ?_|fail)
  refine zC (d:=some 36) rfl (bDb (M:=b::p::M) (outs:=outs) 1 _ ⟨by omega,by omega⟩ (o4.slB hu3) (by omega) hu4) ?_
  rintro _ w5 ⟨cs,rfl,t5,x5⟩
  obtain ⟨iv,ov,rfl, -⟩:=id t5
  repeat (first|refine zI (d:=some 37) (cs:=aK (grT 1 outs) iv ov) rfl (fun b9 w9 x9 a9 hb9=>?_)|(first|refine go2 ?_|fail))
  have x39:=x4.trans (x5.trans x9)
  have hls:=bOb t5 hu4 x9 a9 hb9 (fun y hy=>nLt (hu4 y hy) x5.size)
  refine zC (d:=some 38) rfl (aBb (w0:=w) (txs:= [grT 1 outs]) _ hg (hS.to x39) hls hbk (fun h0=>aR7 most hbk.tx.2.2 (aFf h0) (by simp))) ?_
  rintro _ w10 ⟨rfl,M2,hS2, -, -⟩
  repeat (first|refine go2 ?_|fail)
  exact aA rfl ⟨b,c,p,M2,rfl,hS2⟩
end Go.Proofs.YteceapipdhnhdaaGreatDoor
end
section
namespace Go.K
open Go Go.Proofs.YteceapipdhnhdaaGreatDoor
theorem aTi (V:List En) (z:PSm):(aBh V z).outs.length≤3:=by
 show (xF _ _ _).length≤3
 rw [aJm];omega
theorem bE2 (V:List En) (z:PSm):aQx [aBh V z]:=⟨by simp,by have:=aTi V z;simp [dT];omega,by simpa using aXw V z⟩
theorem bA1:aQx [g20]:=⟨by simp,by simp [dT,g20,grT,grO],by intro t ht;simp at ht;subst ht;exact ⟨by simp [g20,grT],by simp [g20,grT,grO],by simp [g20,grT]⟩⟩
theorem aYi:BlkOk ⟨c20,p21,p20⟩ [t20]:=by
 refine ⟨?_,bE2 _ _,?_,?_,?_,?_,?_,?_,?_⟩
 ·intro b hb;simp [c20] at hb;subst hb;exact bA1
 ·simp [c20]
 ·simp [c20]
 ·have:=aTi V20 bBd
  show sQ [[g20]]+dT [t20]≤1000
  have e:dT [t20]=(aBh V20 bBd).outs.length:=by simp [dT,t20]
  have e2:sQ [[g20]]=1:=by simp [sQ,dT,g20,grT,grO]
  omega
 ·simp [p21]
 ·simp [p21]
 ·simp [p20]
 ·simp [p20]
theorem bPw:∀b∈c20.bs,aQx b:=fun b hb=>by simp [c20] at hb;subst hb;exact bA1
theorem aV6:bF c20.bs=V20:=rfl
theorem bMk:bF [[g20]]=V20:=rfl
theorem bP3:V20.length≤1000:=by
 have:=aJ2 c20.bs
 rw [aV6] at this
 have e2:sQ c20.bs=1:=by simp [c20,sQ,dT,g20,grT,grO]
 omega
theorem bMr:decide (V20.all fun e=>decide (0≤e.2.v∧e.2.v≤5000))=true:=by kernel_rfl
theorem bPe:∀k,k≤c21.bs.length→(cK c21.bs k).length≤80000:=fun k hk=>by
 have h:=aFz (bs:=c21.bs) (n:=90) (fun b hb=>by
  simp [c21] at hb
  rcases hb with rfl|rfl
  ·exact bA1.2.1
  ·exact (bE2 V20 bBd).2.1) k
 have:c21.bs.length=2:=rfl
 omega
end Go.K
namespace Go.Proofs.YteceapipdhnhdaaGreatDoor
open Go Go.K
theorem BoR.pool {w0 w w':World} {b c p:Nat} {M:List Nat} {s:BP} {P:CP} (h:BoR w0 w b c p M s) (hP:PoR w' p (b::p::M) P) (cc:Chg [p] w w'):BoR w0 w' b c p M ⟨s.ch,P,s.q⟩:=by
 obtain ⟨h1,h2,h3,⟨B,h4⟩,h5,ho,rv,qv,h6,h7,h8⟩:=h
 have hp:∀y∈ [p],y∈b::p::M:=fun y hy=>by simp at hy;simp [hy]
 exact ⟨(Ext.chg h1 cc).mono fun y hy=>.inr (h2 y (hp y hy)).1,fun y hy=>⟨(h2 y hy).1,nLt (h2 y hy).2 cc.size⟩,h3,⟨B,h4.step cc fun y hy=>.inl (by simp at hy;simp [hy])⟩,hP,ho,rv,qv,h6.chg cc (by simpa using h3),h7.step cc (fun y hy=>.inl (hp y hy)) (fun y hy=>.inl hy),h8.step cc (fun y hy=>.inl (hp y hy)) (fun y hy=>.inl hy)⟩
attribute [local irreducible] aH aM aY KOp.wp K.Spec u32 leS vnS str aP cM bK idT aQ aG aN idN bU eX eV iS aU eK fM kQ aA6 rD jI dA gN bF aX EtR aM3 bOm V20 t20 p20 p21 c20 c21 aL5 bHs aCx aIp aA7
theorem bPj:p20=⟨[],1000,0⟩:=by unfold p20;rfl
theorem aNa:p21.l.length=1:=by unfold p21;rfl
theorem aNf:p20.l.length=0:=by unfold p20;rfl
theorem bMj:∀x∈p20.l,x.fee≤1000000000000:=by unfold p20;simp
set_option maxHeartbeats 16000000 in
set_option maxRecDepth 4000 in
theorem aUv (w:World) (hg:EtR w):K.Spec Tryz.prog F.kedgelaw20_wakes [] w fun r w'=>r=.bool true∧Ext w w':=by
 refine aFm rfl ?_
 unfold uD
 refine oy ?_
 repeat (first|refine zI (d:=some 10) (cs:= [.int .u16 500]) rfl (fun bz wz xz az hbz=>?_)|(first|refine go2 ?_|fail))
 have hvz:SlR bC5 [] wz (.slice (some ⟨bz,0,none⟩) 1 1) [500]:=bRv (E:=bC5) (M:= []) (l:= [500]) [⟨[.int .u16 500],rfl,by intro v hv;simp at hv;subst hv;rfl⟩] az rfl (.cons ⟨rfl,by decide,by decide⟩ .nil) (by simp) rfl
 refine zC (d:=some 11) rfl (aUf (vals:= [500]) 1000 _ (hg.ext xz) hvz (by intro a ha;simp at ha;subst ha;decide)) ?_
 rintro _ w1 ⟨b,c,p,M,rfl,hS⟩
 rw [bOh] at hS
 have x01:Ext w w1:=xz.trans hS.ext
 have hgz:EtR wz:=hg.ext xz
 obtain ⟨-, -, -,⟨B,hC⟩,hP, -,rv,qv,hA,hrv, -⟩:=id hS
 have hC:ChR [b,p] w1 B c M c20:=hC
 have hP:PoR w1 p (b::p::M) p20:=hP
 have hlt:∀y∈b::p::M,y<w1.heap.size:=fun y hy=>(hS.base y hy).2
 have hrv:SlR (mL txR) (b::p::M) w1 rv c20.bs:=hrv
 have rb:Row w1 ⟨b,0,none⟩ (aBl c p rv qv c20 p20):=Row.of_at hA
 repeat (first|refine go2 ?_|fail)
 refine zC (d:=some 16) rfl (aAz (M:=b::p::M) (bs:=c20.bs) ((c20.top:Nat):Int) _ hrv bPw (by show c20.bs.length≤800;unfold c20;simp)) ?_
 rintro lv w2 ⟨hlv,x2⟩
 rw [aV6] at hlv
 repeat (first|refine zI (d:=some 17) (cs:= [.int .u8 0]) rfl (fun b7 w7 x7 a7 hb7=>?_)|refine aZ (d:=some 18) (cs:=aHp bBd (.slice (some ⟨b7,0,none⟩) 1 1)) rfl ?_|(first|refine go2 ?_|fail))
 have s2:=x2.size
 have x17:=x2.trans x7
 have hlt7:∀y∈b::p::M,y<w7.heap.size:=fun y hy=>nLt (hlt y hy) x17.size
 refine zC (d:=some 19) rfl (bAg (M:=b::p::M) (V:=V20) (z:=bBd) (B:=5000) _ (hlv.ext x7) ⟨_,rfl,SlE.toR (F:=u8E) (SlE.new (E:=u8E) (l:= [0]) a7 rfl (Nat.le_refl _)) (fun y hy hm=>by simp [aC] at hy;subst hy;have:=hlt _ hm;omega),by decide⟩ (by have:=bP3;omega) (fun e he=>of_decide_eq_true (List.all_eq_true.1 (of_decide_eq_true bMr) e he)) (by decide) (fun e he=>(bHd c20.bs e (by rw [aV6];exact he)).2) hlt7) ?_
 rintro _ w8 ⟨cs,rfl,t8,x8⟩
 have ht8:=t8.rel hlt7
 have et:aBh V20 bBd=t20:=by unfold t20;rfl
 rw [et] at ht8
 have hsmt:t20.Sm:=by rw [←et];exact aXw _ _
 obtain ⟨iv,ov,rfl, -⟩:=id ht8
 have ones:=txR.one ht8
 repeat (first|refine zE (d':=2) (fun _=>rfl) rfl rfl (List.all_eq_true.2 ones) (fun b2 w9 x9 a9 (r9:Row w9 ⟨b2,0,none⟩ (aK t20 iv ov)) hb9=>?_)|refine go1 ?_)
 have lb2:=a9.lt
 have x19:Ext w1 w9:=x17.trans (x8.trans x9)
 have ht9:=R.ext ht8 x9
 have r19:=Row.ext x19 rb
 have b2n:∀y∈b::p::M,b2≠y:=fun y hy q=>by have:=hlt7 y hy;have:=x8.size;omega
 have xz0:Unit→Ext w wz:=fun _=>xz
 clear x2 x7 x17 x8 x9 a7 a9 hb7 t8 ht8 hlv hvz az xz
 have hb2p:∀y∈ [p],y∈b::p::M:=fun y hy=>by simp at hy;simp [hy]
 refine zi (fun w10 x10=>?_)
 have x110:=x19.trans x10
 have r10:=Row.ext x10 r19
 have r210:=Row.ext x10 r9
 have hV10:gV w10 (.iface T.P_chain_Chain (.pointer (some ⟨c,0,none⟩))) (aS V20):=by have:=gV.of_chain (hC.ext x110);rwa [aV6] at this
 repeat (first|refine go2 ?_|fail)
 refine zC (d:=some 30) rfl (aRh (U:=b::p::M) (P:=p20) (t:=t20) (f:=aS V20) 2 _ (hP.ext x110) (fun y hy=>nLt (hlt y hy) x110.size) hV10 (R.ext ht9 x10) hsmt (by rw [aNf];omega) bMj) ?_
 rintro e w11 ⟨hE,hP11,c11⟩
 rw [bOq.1] at hE
 rw [bOq.2] at hP11
 obtain ⟨rfl, -⟩:=hE.nil_iff.1 rfl
 have hS11:BoR wz w11 b c p M ⟨c20,p21,p20⟩:=(hS.to x110).pool hP11 c11
 have r11:Row w11 ⟨b,0,none⟩ (aBl c p rv qv c20 p20):=Row.chg c11 r10 (by simpa using hS.ne)
 have r211:Row w11 ⟨b2,0,none⟩ (aK t20 iv ov):=Row.chg c11 r210 (by simpa using b2n p (by simp))
 have ht11:txR.rel (b::p::M) w11 (aK t20 iv ov) t20:=R.step txR (R.ext ht9 x10) c11 (fun y hy=>.inl (hb2p y hy)) (fun y hy=>.inl hy)
 have x011:Ext w w11:=(Ext.chg (x01.trans x110) c11).mono fun y hy=>.inr (nTr (xz0 ()).size (hS.base y (hb2p y hy)).1)
 have lb211:b2<w11.heap.size:=nLt lb2 (nTr x10.size c11.size)
 have hlt11:∀y∈b::p::M,y<w11.heap.size:=fun y hy=>(hS11.base y hy).2
 clear x110 r10 r210 hV10 hE c11 x10 ht9 r19 r9 x19 rb hrv hA hP hC
 repeat (first|refine go2 ?_|fail)
 refine zC (d:=some 35) rfl (zV (U:=b::p::M) (P:=p21) _ hP11 hlt11 (by rw [aNa];omega)) ?_
 rintro v12 w12 ⟨o12,x12⟩
 refine zG (d:=some 36) (E:=eD) (M:=b::p::M) (l:=p21.l) rfl (o12.slB hlt11) ?_
 rw [aNa]
 clear o12 hP11
 have r12:=Row.ext x12 r11
 have r212:=Row.ext x12 r211
 have ht12:=R.ext ht11 x12
 repeat (first|refine zI (d:=some 39) (cs:=aK t20 iv ov) rfl (fun b13 w13 x13 a13 hb13=>?_)|(first|refine go2 ?_|fail))
 have s12:=x12.size
 have hls:SlR txR (b::p::M) w13 (.slice (some ⟨b13,0,none⟩) 1 1) [t20]:=bE0 (E:=txR) a13 (R.step txR ht12 x13 (by simp) (fun y hy=>by
  rcases List.mem_cons.1 hy with rfl|hy
  ·exact .inr hb13
  ·exact .inl hy)) (fun hm=>by have:=hlt11 _ hm;omega)
 have x1113:=x12.trans x13
 refine zC (d:=some 40) rfl (aBb (w0:=wz) (txs:= [t20]) _ hgz (hS11.to x1113) hls aYi (fun h0=>by show bPt p20 _ _;rw [bPj];exact aR7 1000 aYi.tx.2.2 (aFf h0) (by simp))) ?_
 rintro _ w14 ⟨rfl,M2,hS2,hM2,c14⟩
 rw [bM2] at hS2
 have x014:Ext w w14:=(xz0 ()).trans hS2.ext
 have ht14:txR.rel (b::p::M) w14 (aK t20 iv ov) t20:=R.step txR (R.ext ht12 x13) c14 (fun y hy=>.inl hy) (fun y hy=>.inl hy)
 have r214:Row w14 ⟨b2,0,none⟩ (aK t20 iv ov):=Row.chg c14 (Row.ext x13 r212) (fun h=>b2n b2 h rfl)
 obtain ⟨-, -,hbp,⟨B2,hC2⟩,hP2, -,rv2,qv2,hA2, -, -⟩:=id hS2
 have hC2:ChR [b,p] w14 B2 c M2 c21:=hC2
 have hP2:PoR w14 p (b::p::M2) p20:=hP2
 have hA2:At w14 b (.cells (aBl c p rv2 qv2 c21 p20).toArray T.kedgelaw20_both (0,0)):=hA2
 have hlt2:∀y∈b::p::M2,y<w14.heap.size:=fun y hy=>(hS2.base y hy).2
 have hoff:=hC2.off
 have r14:Row w14 ⟨b,0,none⟩ (aBl c p rv2 qv2 c21 p20):=Row.of_at hA2
 have hb2M:b2∉M2:=fun h=>(hM2 b2 h).elim (fun q=>b2n b2 (by simp [q]) rfl) (fun q=>by have:=x1113.size;omega)
 clear x12 x13 x1113 r12 r212 ht12 c14 r11 r211 ht11 hls a13 hS11 ht14
 repeat (first|refine go2 ?_|fail)
 refine zC (d:=some 45) rfl (zV (U:=b::p::M2) (P:=p20) _ hP2 hlt2 (by rw [aNf];omega)) ?_
 rintro v15 w15 ⟨o15,x15⟩
 refine zG (d:=some 46) (E:=eD) (M:=b::p::M2) (l:=p20.l) rfl (o15.slB hlt2) ?_
 rw [aNf]
 clear o15
 have r15:=Row.ext x15 r14
 repeat (first|refine go2 ?_|fail)
 refine zC (d:=some 52) rfl (aX8 (ch:=c21) _ (hC2.ext x15) bPe (by unfold c21;simp) (by unfold c21;simp)) ?_
 rintro _ w16 ⟨tv,M3,rfl,hC3,hM3,c16,hT, -⟩
 obtain ⟨d1,d2,d3⟩:=bO6
 rw [d1,d3] at hT
 rw [d2] at hC3
 rw [d1]
 have hT:=hT rfl
 have hM3':∀y∈b::p::M3,y∈b::p::M2:=fun y hy=>by
  simp only [List.mem_cons] at hy ⊢
  rcases hy with rfl|rfl|hy
  ·exact .inl rfl
  ·exact .inr (.inl rfl)
  ·exact .inr (.inr (hM3 y hy))
 have hP3:PoR w16 p (b::p::M3) p20:=(hP2.ext x15).chg c16 (fun y hy=>by simp [hy]) (fun h=>hoff p h (by simp)) (by simp) (fun y hy=>.inl (hM3' y hy))
 have hx3:SlR txR (b::p::M3) w16 tv [t20]:=hT.sub fun y hy=>.inl (by
  simp only [List.mem_cons] at hy
  rcases hy with rfl|rfl|hy
  ·simp
  ·simp
  ·simp [hy])
 have hlt3:∀y∈b::p::M3,y<w16.heap.size:=fun y hy=>nLt (hlt2 y (hM3' y hy)) (nTr x15.size c16.size)
 have r16:Row w16 ⟨b,0,none⟩ (aBl c p rv2 qv2 c21 p20):=Row.chg c16 r15 (fun h=>hoff b h (by simp))
 have r216:Row w16 ⟨b2,0,none⟩ (aK t20 iv ov):=Row.chg c16 (Row.ext x15 r214) hb2M
 have x016:Ext w w16:=(Ext.chg (x014.trans x15) c16).mono fun y hy=>.inr (nTr (xz0 ()).size (hS2.base y (by simp [hy])).1)
 have hV3:gV w16 (.iface T.P_chain_Chain (.pointer (some ⟨c,0,none⟩))) (aS V20):=by
  have:=gV.of_chain hC3
  rwa [show (⟨[[g20]],2⟩:Ch).bs= [[g20]] from rfl,bMk] at this
 have hgt:aN t20=false:=(of_decide_eq_true bCy).2
 have hp3:∀y∈ [p],y∈b::p::M2:=fun y hy=>by simp at hy;simp [hy]
 have hbs:=hS2.base
 clear hS2 hC2 hP2 hA2 x15 c16 r15 r14 r214 hT hC3 x014
 repeat (refine go1 ?_)
 refine zi (fun w17 x17=>?_)
 have r17:=Row.ext x17 r16
 repeat (first|refine go2 ?_|fail)
 refine zC (d:=some 65) rfl (aPk (U:=b::p::M3) (P:=p20) (txs:= [t20]) (f:=aS V20) 2 _ (hP3.ext x17) (fun y hy=>nLt (hlt3 y hy) x17.size) (hV3.ext x17) (hx3.ext x17) (by simpa using hsmt) (bM8.plain (fun y hy=>nLt (hlt3 y hy) x17.size) (by simpa using hsmt) (by simpa using hgt) (by simp)) (by simp) (by rw [aNf];omega)) ?_
 rintro _ w18 ⟨hP4,c18⟩
 rw [bRx] at hP4
 have r18:Row w18 ⟨b,0,none⟩ (aBl c p rv2 qv2 c21 p20):=Row.chg c18 r17 (by simpa using hbp)
 have r218:Row w18 ⟨b2,0,none⟩ (aK t20 iv ov):=Row.chg c18 (Row.ext x17 r216) (by simpa using b2n p (by simp))
 have x018:Ext w w18:=(Ext.chg (x016.trans x17) c18).mono fun y hy=>.inr (nTr (xz0 ()).size (hbs y (hp3 y hy)).1)
 have hlt4:∀y∈b::p::M3,y<w18.heap.size:=fun y hy=>nLt (hlt3 y hy) (nTr x17.size c18.size)
 have hi1:iv.oneCell'=true:=ones iv (by simp [aK])
 have hi2:ov.oneCell'=true:=ones ov (by simp [aK])
 clear r17 c18 hP3 hV3 hx3 r16 r216 x016 x17
 repeat (refine go1 ?_)
 refine zi (fun w19 x19=>?_)
 have r19:=Row.ext x19 r18
 have r219:=Row.ext x19 r218
 repeat (first|(refine zC (d:=some 88) rfl (zV (U:=b::p::M3) (P:=p21) _ (hP4.ext (by exact fx)) (fun y hy=>nLt (hlt4 y hy) (Ext.size (by exact fx))) (by rw [aNa];omega)) ?_;rintro v20 w20 ⟨o20,x20⟩)|(refine zG (d:=some 89) (E:=eD) (M:=b::p::M3) (l:=p21.l) rfl (o20.slB fun y hy=>nLt (hlt4 y hy) (Ext.size (by exact fx))) ?_;rw [aNa])|(refine zC (d:=some 100) rfl (aUg (cs:=aK t20 iv ov) (t:=t20) T.P_chain_Chain (.pointer (some ⟨c,0,none⟩)) 2 rfl hi1 hi2 _) ?_;rintro _ w21 ⟨rfl,x21⟩)|(refine zC (d:=some 102) rfl (aGi 1 _) ?_;rintro _ w22 ⟨rfl,rfl⟩)|(first|refine go2 ?_|fail))
 exact aA rfl ⟨rfl,x018.trans (by exact fx)⟩
end Go.Proofs.YteceapipdhnhdaaGreatDoor
end
