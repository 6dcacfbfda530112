/- Contracts: builders of text, the base point; searches. Contr -/
import Derived.Test.YtgloknkcfchnlabGreatDoorZ2
import Derived.Test.YtgloknkcfchnlabGreatDoorZ9
import Derived.Test.YtgloknkcfchnlabGreatDoorZ11
set_option linter.unusedVariables false
set_option linter.unusedSimpArgs false
namespace Go.Proofs.YtgloknkcfchnlabGreatDoor
section
open Go Go.K
theorem aAx:∀n:Nat,Lib.repeatL [0] n=List.replicate n 0
 |0=>rfl
 |n+1=>by
  have:=aAx n
  simp only [Lib.repeatL,List.replicate_succ] at this ⊢
  first|(rw [this];rfl)|simp [this]
theorem aKe (n:Nat) (hn:n≤1000) (w:World):K.Spec Tryz.prog F.strings_Repeat [.string ⟨#[0]⟩,.int .i64 (n:Nat)] w fun r w'=>r=.string (str (List.replicate n 0))∧Ext w w':=
 (Tryz.strings_Repeat ⟨#[0]⟩ n w (by omega) (by show 1*n≤_;omega)).mono fun e w' ⟨he,hb⟩=>⟨_,he,by
  show Value.string ⟨(Lib.repeatL [0] n).toArray⟩=_
  rw [aAx];rfl,Ext.of_below hb⟩
abbrev mT (B b:Nat) (s:ByteArray) (w:World):Prop:=Bld T.strings_Builder T.uint8 B b s w
abbrev WrT (B b:Nat) (w w':World):Prop:=Wr T.uint8 B b w w'
theorem aJs {B b:Nat} {a:ByteArray} (s:ByteArray) (w:World) (h:mT B b a w) (hl:a.size+s.size≤100000000):K.Spec Tryz.prog F.strings_Builder_WriteString [.pointer (some ⟨b,0,none⟩),.string s] w fun _ w'=>mT B b (a++s) w'∧WrT B b w w':=
 (Tryz.Builder_WriteString_k B b _ s w h.2 (by
  rw [Lib.byteCells_length,Array.length_toList]
  have:a.data.size=a.size:=rfl
  omega) h.1).mono fun e w' ⟨he,h1,h2,h3⟩=>⟨_,he,⟨nTr h.1 h2.size,.inr (by rw [←byteCells_append];exact h1)⟩,h2,h3⟩
theorem aB8 {B b:Nat} {a:ByteArray} (w:World) (h:mT B b a w):K.Spec Tryz.prog F.strings_Builder_String [.pointer (some ⟨b,0,none⟩)] w fun r w'=>r=.string a∧mT B b a w'∧WrT B b w w':=
 (Tryz.Builder_String_any_k B b _ w h.2 h.1).mono fun e w' ⟨he,h1,h2,h3⟩=>⟨_,he,rfl,⟨nTr h.1 h2.size,h1⟩,h2,h3⟩
attribute [local irreducible] aG aK aU KOp.wp K.Spec leS vnS str
theorem aB7 (w:World):K.Spec Tryz.prog F.tx_base [] w fun r w'=>r=oA.val∧Ext w w':=by
 refine aSy rfl ?_
 unfold aG6
 refine oy ?_
 repeat' (first|refine go1 ?_|refine zg λ_ _=>?_|refine zi λ_ _=>?_|refine zH (fun b w1 x1 a1 hb=>?_)|(refine zC rfl (aKe 32 (by decide) _) ?_;rintro _ w2 ⟨rfl,x2⟩)|refine bA (vs:=oA.cs) (Ext.trans x1 x2) hb (a1.ext x2) rfl rfl rfl rfl rfl (fun w5 x5 c5 a5 r5=>?_))
 exact aB (aFx (bK r5 rfl rfl)) ⟨rfl,x5⟩
def vQ {α:Type} (g:FuncId) (capl:List Value) (E:R α) (val:List Value→Value) (M:List Nat) (w:World) (l:List α) (p:α→Bool):Prop:=
 ∀x∈l,∀w' cs,Ext w w'→E.rel M w' cs x→K.Spec Tryz.prog g (val cs::capl) w' fun r w''=>r=.bool (p x)∧Ext w' w''
end
section
open Go Go.K
attribute [local irreducible] aG aK aU KOp.wp K.Spec leS vnS str
theorem aNs {M:List Nat} {v:Value} {l:List TIn} {g:FuncId} {capl:List Value} {p:TIn→Bool} (w:World) (hb:dB Tryz.prog g=true) (hs:SlR inR M w v l) (hn:l.length≤1000000000000) (hp:vQ g capl inR (fun cs=>.agg cs.toArray) M w l p):
  K.Spec Tryz.prog F.slices_IndexFunc_L_api_In_api_In [v,.func (.func g) #[] capl.toArray] w fun r w'=>r=.int .i64 (idxOf p l)∧Ext w w':=by
 refine iN rfl ?_
 unfold eE
 refine oy ?_
 repeat' (first|refine go1 ?_|refine zg λ_ _=>?_|refine zi λ_ _=>?_|refine zG rfl hs ?_|(refine aL (fun (i:Nat) w'=>Ext w w'∧i≤l.length∧∀j,j<i→∀h:j<l.length,p l[j]=false) (fun i=> [(0,v),(1,.func (.func g) #[] capl.toArray),(6,v),(7,.int .i64 (l.length:Nat)),(8,.int .i64 i)]) (fun i=>l.length - i) 0 ⟨rfl,rfl,rfl,rfl,rfl,trivial⟩ ⟨Ext.refl _,by omega,by omega⟩ ?_;rintro i ρ w1 ⟨x1,hi,hk⟩)|refine zL rfl (fun h=>?_) (fun h=>?_)|refine aM rfl rfl (hs.ext x1) rfl (by omega) (fun ad cs r1 he=>?_)|refine lT rfl r1 (by rw [inR.len he];exact Nat.le_refl _) (tLe (by rw [inR.len he];exact Nat.le_refl _)) ?_|(refine dH rfl hb rfl (hp _ (gMe _) _ _ x1 he) ?_;rintro _ w2 ⟨rfl,x2⟩)|refine zM rfl (fun h2=>?_) (fun h2=>?_))
 ·exact aB rfl ⟨congrArg (Value.int .i64) (idxOf_hit (by omega) h2 (fun j hj=>hk j hj (by omega))).symm,by repeat (first|assumption|exact Ext.refl _|refine Ext.trans ?_ (by assumption))⟩
 ·refine ⟨i+1,⟨rfl,rfl,rfl,rfl,rfl,trivial⟩,⟨x1.trans x2,by omega,fun j hj hl=>?_⟩,by omega⟩
  by_cases hji:j=i
  ·subst hji;exact h2
  ·exact hk j (by omega) hl
 ·exact aB rfl ⟨congrArg (Value.int .i64) (idxOf_miss (fun j hj=>hk j (by omega) hj)).symm,x1⟩
theorem aBd {M:List Nat} {v:Value} {l:List TIn} {g:FuncId} {capl:List Value} {p:TIn→Bool} (w:World) (hb:dB Tryz.prog g=true) (hs:SlR inR M w v l) (hn:l.length≤1000000000000) (hp:vQ g capl inR (fun cs=>.agg cs.toArray) M w l p):
  K.Spec Tryz.prog F.slices_ContainsFunc_L_api_In_api_In [v,.func (.func g) #[] capl.toArray] w fun r w'=>r=.bool (l.any p)∧Ext w w':=by
 refine gQ rfl ?_
 unfold dL
 refine oy ?_
 repeat' (first|refine go1 ?_|refine zg λ_ _=>?_|refine zi λ_ _=>?_|(refine zC rfl (aNs _ hb hs hn hp) ?_;rintro _ w2 ⟨rfl,x2⟩))
 exact aB rfl ⟨congrArg Value.bool uV,x2⟩
theorem aM6 {M:List Nat} {v:Value} {l:List TOut} {g:FuncId} {capl:List Value} {p:TOut→Bool} (w:World) (hb:dB Tryz.prog g=true) (hs:SlR cZ M w v l) (hn:l.length≤1000000000000) (hp:vQ g capl cZ (fun cs=>.agg cs.toArray) M w l p):
  K.Spec Tryz.prog F.slices_IndexFunc_L_api_Out_api_Out [v,.func (.func g) #[] capl.toArray] w fun r w'=>r=.int .i64 (idxOf p l)∧Ext w w':=by
 refine gW rfl ?_
 unfold dR
 refine oy ?_
 repeat' (first|refine go1 ?_|refine zg λ_ _=>?_|refine zi λ_ _=>?_|refine zG rfl hs ?_|(refine aL (fun (i:Nat) w'=>Ext w w'∧i≤l.length∧∀j,j<i→∀h:j<l.length,p l[j]=false) (fun i=> [(0,v),(1,.func (.func g) #[] capl.toArray),(6,v),(7,.int .i64 (l.length:Nat)),(8,.int .i64 i)]) (fun i=>l.length - i) 0 ⟨rfl,rfl,rfl,rfl,rfl,trivial⟩ ⟨Ext.refl _,by omega,by omega⟩ ?_;rintro i ρ w1 ⟨x1,hi,hk⟩)|refine zL rfl (fun h=>?_) (fun h=>?_)|refine aM rfl rfl (hs.ext x1) rfl (by omega) (fun ad cs r1 he=>?_)|refine lT rfl r1 (by rw [cZ.len he];exact Nat.le_refl _) (tLe (by rw [cZ.len he];exact Nat.le_refl _)) ?_|(refine dH rfl hb rfl (hp _ (gMe _) _ _ x1 he) ?_;rintro _ w2 ⟨rfl,x2⟩)|refine zM rfl (fun h2=>?_) (fun h2=>?_))
 ·exact aB rfl ⟨congrArg (Value.int .i64) (idxOf_hit (by omega) h2 (fun j hj=>hk j hj (by omega))).symm,by repeat (first|assumption|exact Ext.refl _|refine Ext.trans ?_ (by assumption))⟩
 ·refine ⟨i+1,⟨rfl,rfl,rfl,rfl,rfl,trivial⟩,⟨x1.trans x2,by omega,fun j hj hl=>?_⟩,by omega⟩
  by_cases hji:j=i
  ·subst hji;exact h2
  ·exact hk j (by omega) hl
 ·exact aB rfl ⟨congrArg (Value.int .i64) (idxOf_miss (fun j hj=>hk j (by omega) hj)).symm,x1⟩
theorem aOi {M:List Nat} {v:Value} {l:List TOut} {g:FuncId} {capl:List Value} {p:TOut→Bool} (w:World) (hb:dB Tryz.prog g=true) (hs:SlR cZ M w v l) (hn:l.length≤1000000000000) (hp:vQ g capl cZ (fun cs=>.agg cs.toArray) M w l p):
  K.Spec Tryz.prog F.slices_ContainsFunc_L_api_Out_api_Out [v,.func (.func g) #[] capl.toArray] w fun r w'=>r=.bool (l.any p)∧Ext w w':=by
 refine gH rfl ?_
 unfold dG
 refine oy ?_
 repeat' (first|refine go1 ?_|refine zg λ_ _=>?_|refine zi λ_ _=>?_|(refine zC rfl (aM6 _ hb hs hn hp) ?_;rintro _ w2 ⟨rfl,x2⟩))
 exact aB rfl ⟨congrArg Value.bool uV,x2⟩
theorem aMn {M:List Nat} {v:Value} {l:List ByteArray} {g:FuncId} {capl:List Value} {p:ByteArray→Bool} (w:World) (hb:dB Tryz.prog g=true) (hs:SlR qS M w v l) (hn:l.length≤1000000000000) (hp:vQ g capl qS (fun cs=>cs.headD undef) M w l p):
  K.Spec Tryz.prog F.slices_IndexFunc_L_string_string [v,.func (.func g) #[] capl.toArray] w fun r w'=>r=.int .i64 (idxOf p l)∧Ext w w':=by
 refine iK rfl ?_
 unfold eC
 refine oy ?_
 repeat' (first|refine go1 ?_|refine zg λ_ _=>?_|refine zi λ_ _=>?_|refine zG rfl hs ?_|(refine aL (fun (i:Nat) w'=>Ext w w'∧i≤l.length∧∀j,j<i→∀h:j<l.length,p l[j]=false) (fun i=> [(0,v),(1,.func (.func g) #[] capl.toArray),(6,v),(7,.int .i64 (l.length:Nat)),(8,.int .i64 i)]) (fun i=>l.length - i) 0 ⟨rfl,rfl,rfl,rfl,rfl,trivial⟩ ⟨Ext.refl _,by omega,by omega⟩ ?_;rintro i ρ w1 ⟨x1,hi,hk⟩)|refine zL rfl (fun h=>?_) (fun h=>?_)|(refine aM rfl rfl (hs.ext x1) rfl (by omega) (fun ad cs r1 he=>?_);have hq:cs= [Value.string l[i]]:=he;rw [hq] at r1 he)|refine lT rfl r1 (by rw [qS.len he];exact Nat.le_refl _) (tLe (by rw [qS.len he];exact Nat.le_refl _)) ?_|(refine dH rfl hb rfl (hp _ (gMe _) _ _ x1 he) ?_;rintro _ w2 ⟨rfl,x2⟩)|refine zM rfl (fun h2=>?_) (fun h2=>?_))
 ·exact aB rfl ⟨congrArg (Value.int .i64) (idxOf_hit (by omega) h2 (fun j hj=>hk j hj (by omega))).symm,by repeat (first|assumption|exact Ext.refl _|refine Ext.trans ?_ (by assumption))⟩
 ·refine ⟨i+1,⟨rfl,rfl,rfl,rfl,rfl,trivial⟩,⟨x1.trans x2,by omega,fun j hj hl=>?_⟩,by omega⟩
  by_cases hji:j=i
  ·subst hji;exact h2
  ·exact hk j (by omega) hl
 ·exact aB rfl ⟨congrArg (Value.int .i64) (idxOf_miss (fun j hj=>hk j (by omega) hj)).symm,x1⟩
theorem aPn {M:List Nat} {v:Value} {l:List ByteArray} {g:FuncId} {capl:List Value} {p:ByteArray→Bool} (w:World) (hb:dB Tryz.prog g=true) (hs:SlR qS M w v l) (hn:l.length≤1000000000000) (hp:vQ g capl qS (fun cs=>cs.headD undef) M w l p):
  K.Spec Tryz.prog F.slices_ContainsFunc_L_string_string [v,.func (.func g) #[] capl.toArray] w fun r w'=>r=.bool (l.any p)∧Ext w w':=by
 refine gR rfl ?_
 unfold dI
 refine oy ?_
 repeat' (first|refine go1 ?_|refine zg λ_ _=>?_|refine zi λ_ _=>?_|(refine zC rfl (aMn _ hb hs hn hp) ?_;rintro _ w2 ⟨rfl,x2⟩))
 exact aB rfl ⟨congrArg Value.bool uV,x2⟩
end
section
open Go Go.K
attribute [local irreducible] aG aK aU KOp.wp K.Spec u32
theorem aNw (s:S8) (k x:W32) (w:World):K.Spec Tryz.prog F.sha_round [.agg s.cs.toArray,u32 k,u32 x] w fun r w'=>r=.agg (rnd s k x).cs.toArray∧Ext w w':=by
 refine aLy rfl ?_
 unfold aCp
 refine oy ?_
 repeat' (first|(first|refine uR rfl rfl ?_|refine uY rfl rfl ?_|refine uZ rfl rfl ?_|refine aBu rfl rfl ?_|refine uG rfl ?_|refine pE rfl ?_)|(first|refine zF (dN _ .i64 6 (by decide) (by decide)) ?_)|(first|refine zF (dN _ .i64 11 (by decide) (by decide)) ?_)|(first|refine zF (dN _ .i64 25 (by decide) (by decide)) ?_)|(first|refine zF (dN _ .i64 2 (by decide) (by decide)) ?_)|(first|refine zF (dN _ .i64 13 (by decide) (by decide)) ?_)|(first|refine zF (dN _ .i64 22 (by decide) (by decide)) ?_)|refine go1 ?_|refine zg λ_ _=>?_|refine zi λ_ _=>?_|(first|refine zD rfl rfl (fun bp wp xp ap rp hp0=>?_)|refine zE (fun _=>rfl) rfl rfl rfl (fun bq wq xq aq rq hq0=>?_))|refine zB ?_ ?_|refine zH (fun b w1 x1 a1 hb=>?_)|refine bT (aZq (s:=rnd s k x) rfl rfl rfl rfl rfl rfl rfl rfl) ?_|refine bA (w0:=w) (vs:=(rnd s k x).cs) (by exact fx) (nTr (by exact fx) hb) (by focus (repeat (first|assumption|(apply At.ext;assumption)))) rfl rfl rfl rfl (aOv _) (fun w5 x5 c5 a5 r5=>?_))
 exact aB (aFx (bK r5 rfl rfl)) ⟨rfl,x5⟩
end
section
open Go Go.K
attribute [local irreducible] aG aK aU KOp.wp K.Spec u32 leS vnS str aN cW
theorem aHj (n k:Nat) (hk:k≤8) (w:World):K.Spec Tryz.prog F.sha_high [.int .u64 (n:Nat),.int .i64 (k:Nat)] w fun r w'=>r=.string (str (leL n k).reverse)∧Ext w w':=by
 refine aPc rfl ?_
 unfold aEf
 refine oy ?_
 repeat' (first|refine go1 ?_|refine zg λ_ _=>?_|refine zi λ_ _=>?_|refine zL rfl (fun h=>?_) (fun h=>?_)|refine aYp rfl rfl (by omega) (fun b w1 x1 a1 hb=>?_)|(refine aL (fun (i:Nat) w'=>Ext w w'∧i≤k∧At w' b (.cells (bCs (hiL n k i)).toArray T.uint8 (0,0))) (fun i=> [(0,.int .u64 ((n / 256^i:Nat):Int)),(1,.int .i64 (k:Nat)),(5,.slice (some ⟨b,0,none⟩) k k),(10,.int .i64 (k:Nat)),(11,.int .i64 i)]) (fun i=>k - i) 0 ⟨by simp;rfl,rfl,rfl,rfl,rfl,trivial⟩ ⟨x1,by omega,by simpa [hiL,leL] using a1⟩ ?_;rintro i ρ w2 ⟨x2,hi,ha⟩)|refine aMz rfl rfl (by omega) ?_|refine bB rfl rfl rfl ha (by rw [aPa,aFj hi];omega) (fun w3 c3 a3=>?_)|refine vG rfl (aTd ha (aFj hi).symm (Nat.le_refl _)) ?_)
 ·refine ⟨i+1,⟨congrArg (Value.int .u64) bBa,rfl,rfl,rfl,rfl,trivial⟩,⟨(x2.chg c3).mono (by intro y hy;simp at hy;right;omega),by omega,?_⟩,by omega⟩
  rw [←aWp (n:=n) (o:=((k:Int) - 1 - i).toNat*1) (by omega) (by omega)]
  exact a3
 ·have e:i=k:=by omega
  subst e
  exact aB rfl ⟨congrArg (fun l=>Value.string (str l)) (by simp [hiL]),x2⟩
theorem aXv {n:Nat} (h:n≤4000000):IntKind.u64.wrap (IntKind.u64.wrap (n:Int)*8)=((n*8:Nat):Int):=by
 have e:IntKind.u64.wrap (n:Int)=n:=dO (by omega) (by omega)
 rw [e,dO (by omega) (by omega)];omega
theorem aNf (s:ByteArray) (hs:s.size≤4000000) (w:World):K.Spec Tryz.prog F.sha_padded [.string s] w fun r w'=>r=.string (str (oZ s.data.toList))∧Ext w w':=by
 have g1:(⟨#[128]⟩:ByteArray).size=1:=rfl
 have g2:(str (List.replicate (kD s.size) 0)).size=kD s.size:=by rw [gN];simp
 have g3:(str (leL (s.size*8) 8).reverse).size=8:=by rw [gN];simp [bV]
 have g4:kD s.size<64:=by unfold kD;omega
 refine aJm rfl ?_
 unfold aAq
 refine oy ?_
 repeat' (first|refine aJj (n:=s.size) (m:=64) rfl rfl (by decide) ?_|refine aJj (n:=119 - s.size%64) (m:=64) (congrArg (Value.int .i64) (by omega)) rfl (by decide) ?_|refine go1 ?_|refine zg λ_ _=>?_|refine zi λ_ _=>?_|(refine zC rfl (aKe (kD s.size) (by omega) _) ?_;rintro _ w1 ⟨rfl,x1⟩)|(refine zC (congrArg (fun x=> [Value.int .u64 x,Value.int .i64 8]) (aXv hs)) (aHj (s.size*8) 8 (by decide) _) ?_;rintro _ w2 ⟨rfl,x2⟩)|(refine kA rfl rfl ?_ ?_;(focus((try simp only [ByteArray.size_append]);omega))))
 exact aB rfl ⟨congrArg Value.string (aYz s),by exact fx⟩
end
section
open Go Go.K
attribute [local irreducible] aG aK aU KOp.wp K.Spec leS vnS str aN
theorem aJy (x:TIn) (wv:Value) {M:List Nat} (w:World) (hw:SlR qS M w wv x.wit):K.Spec Tryz.prog F.tx_counts_1 [.agg (fX x wv).toArray] w fun r w'=>r=.bool (decide ((x.wit.length:Int)>4))∧Ext w w':=by
 refine aG2 rfl ?_
 unfold wB
 refine oy ?_
 repeat' (first|refine go1 ?_|refine zg λ_ _=>?_|refine zi λ_ _=>?_|(first|refine zD rfl rfl (fun bp wp xp ap rp hp0=>?_)|refine zE (fun _=>rfl) rfl rfl rfl (fun bq wq xq aq rq hq0=>?_))|refine zG rfl (by exact fx) ?_)
 exact aB rfl ⟨rfl,by exact fx⟩
theorem aOd (s:ByteArray) (w:World):K.Spec Tryz.prog F.tx_long_1 [.string s] w fun r w'=>r=.bool (mC s)∧Ext w w':=by
 refine aM3 rfl ?_
 unfold aC6
 refine oy ?_
 repeat (first|refine go ?_|refine zg λ_ _=>?_|refine zi λ_ _=>?_)
 exact aB rfl ⟨rfl,by exact fx⟩
theorem aSl (x:TOut) (w:World):K.Spec Tryz.prog F.tx_long_2 [.agg (aFk x).toArray] w fun r w'=>r=.bool (nB x)∧Ext w w':=by
 refine aLl rfl ?_
 unfold aCv
 refine oy ?_
 repeat (first|refine go1 ?_|refine zg λ_ _=>?_|refine zi λ_ _=>?_|(first|refine zD rfl rfl (fun bp wp xp ap rp hp0=>?_)|refine zE (fun _=>rfl) rfl rfl rfl (fun bq wq xq aq rq hq0=>?_)))
 exact aB rfl ⟨rfl,by exact fx⟩
theorem aUv:dB Tryz.prog F.tx_long_1=true:=by kernel_rfl
theorem aUz:dB Tryz.prog F.tx_long_2=true:=by kernel_rfl
theorem aT1:dB Tryz.prog F.tx_long_3=true:=by kernel_rfl
theorem aPq:dB Tryz.prog F.tx_counts_1=true:=by kernel_rfl
theorem aVq (x:TIn) (wv:Value) {M:List Nat} {b:Nat} (w:World) (hw:SlR qS M w wv x.wit) (hn:x.wit.length≤1000) (hb:Row w ⟨b,0,none⟩ [.func (.func F.tx_long_1) #[] #[]]):K.Spec Tryz.prog F.tx_long_3 [.agg (fX x wv).toArray,.pointer (some ⟨b,0,none⟩)] w fun r w'=>r=.bool (aBx x)∧Ext w w':=by
 refine aNb rfl ?_
 unfold aDg
 refine oy ?_
 repeat' (first|refine go1 ?_|refine zg λ_ _=>?_|refine zi λ_ _=>?_|(first|refine zD rfl rfl (fun bp wp xp ap rp hp0=>?_)|refine zE (fun _=>rfl) rfl rfl rfl (fun bq wq xq aq rq hq0=>?_))|(refine zC rfl (aPn (l:=x.wit) (M:=M) (g:=F.tx_long_1) (capl:= []) (p:=mC) _ aUv (by exact fx) (by omega) ?_) ?_;rotate_left;rintro _ w2 ⟨rfl,x2⟩))
 ·exact aB rfl ⟨rfl,by exact fx⟩
 ·intro s _ w' cs x2 hc
  obtain rfl:cs= [Value.string s]:=hc
  exact aOd s w'
theorem aJ3 {M:List Nat} {cs:List Value} {t:Tx} (w:World) (ht:txR.rel M w cs t) (hs:t.Sm):K.Spec Tryz.prog F.tx_counts [.agg cs.toArray] w fun r w'=>r=.bool (fN t)∧Ext w w':=by
 obtain ⟨iv,ov,rfl,hi,ho,hv,hl⟩:=ht
 have h1:=hs.ins
 refine aLv rfl ?_
 unfold aDb
 refine oy ?_
 have tl:∀w1,Ext w w1→vQ F.tx_counts_1 [] inR (fun cs=>.agg cs.toArray) M w1 t.ins fun x=>decide ((x.wit.length:Int)>4):=by
  intro w1 x1 x _ w' cs x2 hc
  obtain ⟨wv,rfl,hw,_⟩:=hc
  exact aJy x wv w' hw
 repeat' (first|refine go1 ?_|refine zg λ_ _=>?_|refine zi λ_ _=>?_|(first|refine zD rfl rfl (fun bp wp xp ap rp hp0=>?_)|refine zE (fun _=>rfl) rfl rfl rfl (fun bq wq xq aq rq hq0=>?_))|refine zG rfl (by exact fx) ?_|refine zK rfl (fun h=>?_) (fun h=>?_)|(refine zC rfl (aBd (l:=t.ins) (M:=M) (g:=F.tx_counts_1) (capl:= []) _ aPq (by exact fx) (by omega) (tl _ (by exact fx))) ?_;rintro _ w2 ⟨rfl,x2⟩))
 all_goals
  refine aB rfl ⟨congrArg Value.bool ?_,by exact fx⟩
  simp only [fN, *,Bool.true_and,Bool.false_and]
theorem aOq {M:List Nat} {cs:List Value} {t:Tx} (w:World) (ht:txR.rel M w cs t) (hs:t.Sm):K.Spec Tryz.prog F.tx_long [.agg cs.toArray] w fun r w'=>r=.bool (pN t)∧Ext w w':=by
 obtain ⟨iv,ov,rfl,hi,ho,hv,hl⟩:=ht
 have h1:=hs.ins
 have h2:=hs.outs
 refine aS8 rfl ?_
 unfold aHh
 refine oy ?_
 have tl:∀w1,Ext w w1→vQ F.tx_long_2 [] cZ (fun cs=>.agg cs.toArray) M w1 t.outs nB:=by
  intro w1 x1 x _ w' cs x2 hc
  obtain ⟨rfl,_⟩:=hc
  exact aSl x w'
 have tl2:∀w1 b,Row w1 ⟨b,0,none⟩ [.func (.func F.tx_long_1) #[] #[]]→vQ F.tx_long_3 [.pointer (some ⟨b,0,none⟩)] inR (fun cs=>.agg cs.toArray) M w1 t.ins aBx:=by
  intro w1 b hb x hx w' cs x2 hc
  obtain ⟨wv,rfl,hw,_⟩:=hc
  exact aVq x wv w' hw (hs.wit x hx) (hb.ext x2)
 repeat' (first|refine go1 ?_|refine zg λ_ _=>?_|refine zi λ_ _=>?_|(first|refine zD rfl rfl (fun bp wp xp ap rp hp0=>?_)|refine zE (fun _=>rfl) rfl rfl rfl (fun bq wq xq aq rq hq0=>?_))|refine zG rfl (by exact fx) ?_|refine zK rfl (fun h=>?_) (fun h=>?_)|refine zH (fun b w1 x1 a1 hb=>?_)|(refine aRu rfl rfl rfl a1 (by simp) (fun w2 c2 a2=>?_);have x2:=(x1.chg c2).mono (l':= []) (by simp;omega);have r2:=Row.of_at a2)|(refine zC rfl (aOi (l:=t.outs) (M:=M) (g:=F.tx_long_2) (capl:= []) _ aUz (by exact fx) (by omega) (tl _ (by exact fx))) ?_;rintro _ w3 ⟨rfl,x3⟩)|(refine zC rfl (aBd (l:=t.ins) (M:=M) (g:=F.tx_long_3) (capl:= [_]) _ aT1 (by exact fx) (by omega) (tl2 _ _ (by exact fx))) ?_;rintro _ w4 ⟨rfl,x4⟩))
 all_goals
  refine aB rfl ⟨congrArg Value.bool ?_,by exact fx⟩
  simp only [pN, *,Bool.true_or,Bool.false_or]
theorem aJ4 {M : List Nat} {cs : List Value} {t : Tx} (w : World) (ht : txR.rel M w cs t) (hs : t.Sm) : K.Spec Tryz.prog F.tx_formed [.agg cs.toArray] w fun r w' => r = .bool (gE t) ∧ Ext w w' := by
  obtain ⟨iv, ov, rfl, hi, ho, hv, hl⟩ := ht
  have h1 := hs.ins
  refine aM7 rfl ?_
  unfold aC5
  refine oy ?_
  have bad : ∀ i (h : i < t.ins.length), pW t t.ins[i] = true → gE t = false := fun i h hb => by
    rw [gE, List.any_eq_true.2 ⟨_, gMe h, hb⟩]; rfl
  have good : (∀ i (h : i < t.ins.length), pW t t.ins[i] = false) → gE t = true := fun hg => by
    rw [gE, List.any_eq_false.2 (fun x hx => by
      obtain ⟨i, h, rfl⟩ := List.getElem_of_mem hx
      rw [hg i h]; simp)]; rfl
  repeat' (first|refine go1 ?_|refine zg λ_ _=>?_|refine zi λ_ _=>?_|(first|refine zD rfl rfl (fun bp wp xp ap rp hp0=>?_)|refine zE (fun _=>rfl) rfl rfl rfl (fun bq wq xq aq rq hq0=>?_))|refine zG rfl (by exact fx) ?_|refine zB ?_ ?_|refine zL rfl (fun h => ?_) (fun h => ?_)|refine zK rfl (fun h => ?_) (fun h => ?_)|refine zM rfl (fun h => ?_) (fun h => ?_)|(refine aL (fun (i : Nat) w' => Ext wp w' ∧ i ≤ t.ins.length ∧ ∀ j, j < i → ∀ h : j < t.ins.length, pW t t.ins[j] = false) (fun i => [(1, .pointer (some ⟨bp, 0, none⟩)), (6, iv), (7, .int .i64 (t.ins.length : Nat)), (8, .int .i64 i)]) (fun i => t.ins.length - i) 0 ⟨rfl, rfl, rfl, rfl, trivial⟩ ⟨by exact fx, by omega, by omega⟩ ?_; rintro i ρ w1 ⟨x1, hi1, hk⟩)|(refine aM rfl rfl (n := i) (l := t.ins) (by exact fx) rfl (by omega) (fun ad cs r2 he => ?_); obtain ⟨wv, rfl, hw, _⟩ := he; obtain ⟨_, _, rfl⟩ := hw.form; have hil : i < t.ins.length := by omega)|(refine zC rfl (aB7 _) ?_; rintro _ w3 ⟨rfl, x3⟩))
  all_goals first
    | (refine aB rfl ⟨congrArg Value.bool (bad i hil ?_).symm, by exact fx⟩; simp_all [pW, gO]; done)
    | exact aB rfl ⟨congrArg Value.bool (good fun j hj => hk j (by omega) hj).symm, by exact fx⟩
    | (refine ⟨i + 1, ⟨rfl, rfl, rfl, rfl, trivial⟩, ⟨by exact fx, by omega, fun j hj hl => ?_⟩, by omega⟩
       by_cases hji : j = i
       · subst hji; simp_all [pW, gO]; done
       · exact hk j (by omega) hl)
theorem aMg {M : List Nat} {cs : List Value} {t : Tx} (w : World) (ht : txR.rel M w cs t) (hs : t.Sm) : K.Spec Tryz.prog F.tx_twice [.agg cs.toArray] w fun r w' => r = .bool (tD t) ∧ Ext w w' := by
  obtain ⟨iv, ov, rfl, hi, ho, hv, hl⟩ := ht
  have h1 := hs.ins
  refine aPk rfl ?_
  unfold aGi
  refine oy ?_
  have hpl : (bR t).length = t.ins.length := by simp [bR]
  have hpg : ∀ i (h : i < t.ins.length), (bR t)[i]'(by rw [hpl]; exact h) = t.ins[i].p := fun i h => by simp [bR]
  have bnd : ∀ {i : Nat} {m : List (Pt × Nat)} {q : Pt}, (∀ p, aX m p = if ((bR t).take i).contains p then some 1 else none) → ∀ v, (aX m q = some v ∨ v ≤ (aX m q).getD 0 + 1) → ∃ _ : v ≤ 2, True := by
    intro i m q hk v h
    rw [hk q] at h
    refine ⟨?_, trivial⟩
    cases hc : ((bR t).take i).contains q <;> rw [hc] at h <;> simp at h <;> omega
  have key : ∀ {i : Nat} {m : List (Pt × Nat)} (h : i < t.ins.length), rB ((bR t).take i).reverse = false → (∀ p, aX m p = if ((bR t).take i).contains p then some 1 else none) →
      ((((aX m t.ins[i].p).getD 0 + 1 : Nat) : Int) > 1 → tD t = true) ∧ (¬ (((aX m t.ins[i].p).getD 0 + 1 : Nat) : Int) > 1 → rB ((bR t).take (i + 1)).reverse = false ∧ ∀ p, aX (mH m t.ins[i].p ((aX m t.ins[i].p).getD 0 + 1)) p = if ((bR t).take (i + 1)).contains p then some 1 else none) := by
    intro i m h hd hk
    have hil : i < (bR t).length := by rw [hpl]; exact h
    have ht := aBh hil
    rw [hpg i h, hd, Bool.or_false] at ht
    rw [hk t.ins[i].p]
    cases hc : ((bR t).take i).contains t.ins[i].p with
    | true =>
      rw [hc] at ht
      exact ⟨fun _ => aIp ht, fun hn => absurd (by decide) hn⟩
    | false =>
      rw [hc] at ht
      refine ⟨fun hg => absurd hg (by decide), fun _ => ⟨ht, fun p => ?_⟩⟩
      rw [sZ, hk p, List.take_succ_eq_append_getElem hil, hpg i h]
      by_cases hp : t.ins[i].p = p
      · subst hp; simp
      · rw [if_neg hp]
        have : p ≠ t.ins[i].p := fun e => hp e.symm
        simp [this]
  repeat' (first|refine go1 ?_|refine zg λ_ _=>?_|refine zi λ_ _=>?_|(first|refine zD rfl rfl (fun bp wp xp ap rp hp0=>?_)|refine zE (fun _=>rfl) rfl rfl rfl (fun bq wq xq aq rq hq0=>?_))|refine zG rfl (by exact fx) ?_|refine zB ?_ ?_|refine zL rfl (fun h => ?_) (fun h => ?_)|refine wZ (E := ptK) (fv := fun n : Nat => Value.int .i64 (n : Nat)) (fun mb wm xm hm hmb => ?_)|(refine aL (fun (s : Nat × List (Pt × Nat)) w' => Ext w w' ∧ s.1 ≤ t.ins.length ∧ dW ptK (fun n : Nat => Value.int .i64 (n : Nat)) w' mb s.2 ∧ rB ((bR t).take s.1).reverse = false ∧ ∀ p, aX s.2 p = if ((bR t).take s.1).contains p then some 1 else none) (fun s => [(1, .pointer (some ⟨bp, 0, none⟩)), (3, .map (some mb)), (8, iv), (9, .int .i64 (t.ins.length : Nat)), (10, .int .i64 s.1)]) (fun s => t.ins.length - s.1) (0, []) ⟨rfl, rfl, rfl, rfl, rfl, trivial⟩ ⟨by exact fx, by simp, hm, by simp [rB], by simp [aX]⟩ ?_; rintro ⟨i, m⟩ ρ w1 ⟨x1, hi1, hM, hd, hk⟩; simp only at hi1 hM hd hk; dsimp only)|(refine aM rfl rfl (n := i) (l := t.ins) (by exact fx) rfl (by omega) (fun ad cs r2 he => ?_); obtain ⟨wv, rfl, hw, _⟩ := he; obtain ⟨_, _, rfl⟩ := hw.form; have hil : i < t.ins.length := by omega)|(refine aIz (E := ptK) (fv := fun n : Nat => Value.int .i64 (n : Nat)) (k := t.ins[i].p) 0 rfl rfl rfl (by exact fx) rfl rfl (fun st w4 c4 hP hQ => ?_); have r4 := Row.chg c4 (ad := ⟨bq, 0, none⟩) (by exact fx) (by have := hM.lt; simp; omega))|(apply aS0 (E := ptK) (fv := fun n : Nat => Value.int .i64 (n : Nat)) (k := t.ins[i].p) rfl rfl; (focus(exact fx)); (focus rfl); (focus rfl))|(intro v hv; obtain ⟨hv1, _⟩ := bnd (q := t.ins[i].p) hk v (by first|exact .inl hv|(rw [sZ, if_pos rfl] at hv; cases hv; exact .inr (by omega))))|intro hv|(refine vY (E := ptK) (fv := fun n : Nat => Value.int .i64 (n : Nat)) (k := t.ins[i].p) (v := (aX m t.ins[i].p).getD 0 + 1) rfl rfl (by first|(rw [sZ, if_pos rfl] at hv; first|(cases hv; rfl)|cases hv)|(rw [hv]; rfl)) (by exact fx) (fun w5 c5 hM5 => ?_); have r5 := Row.chg c5 r4 (by have := hM.lt; simp; omega)))
  all_goals first
    | (refine aB rfl ⟨congrArg Value.bool ?_, x1⟩
       have e : (bR t).take i = bR t := tLe (by rw [hpl]; omega)
       rw [e] at hd; rw [tD, hd]; done)
    | (rw [sZ, if_pos rfl] at hv; cases hv; done)
    | (have x5 : Ext w w5 := by
         have h6 := hM.lt
         have h8 := xp.size
         have h7 := ((x1.trans xq).trans (by assumption)).chg (c4.trans c5)
         exact h7.mono (by intro y hy; simp at hy; right; omega)
       rw [sZ, if_pos rfl] at hv
       simp only [Option.some.injEq] at hv
       subst hv
       first
       | exact aB rfl ⟨congrArg Value.bool ((key hil hd hk).1 h).symm, x5⟩
       | exact ⟨(i + 1, _), ⟨rfl, rfl, rfl, rfl, rfl, trivial⟩, ⟨x5, by simp; omega, hM5, (key hil hd hk).2 h⟩, by simp; omega⟩)
    | trace_state
end
end Go.Proofs.YtgloknkcfchnlabGreatDoor
