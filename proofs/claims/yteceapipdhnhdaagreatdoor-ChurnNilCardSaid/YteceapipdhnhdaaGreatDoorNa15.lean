/- Contracts: builders of text, the base point; searches. Contr -/
import Derived.Test.YteceapipdhnhdaaGreatDoorNa2
import Derived.Test.YteceapipdhnhdaaGreatDoorNa9
import Derived.Test.YteceapipdhnhdaaGreatDoorNa10
import Derived.Test.YteceapipdhnhdaaGreatDoorNa11
set_option linter.unusedVariables false
set_option linter.unusedSimpArgs false
namespace Go.Proofs.YteceapipdhnhdaaGreatDoor
section
open Go Go.K
theorem aJf:∀n:Nat,Lib.repeatL [0] n=List.replicate n 0
 |0=>rfl
 |n+1=>by
  have:=aJf n
  simp only [Lib.repeatL,List.replicate_succ] at this ⊢
  first|(rw [this];rfl)|simp [this]
theorem aWe (n:Nat) (hn:n≤1000) (w:World):K.Spec Tryz.prog F.strings_Repeat [.string ⟨#[0]⟩,.int .i64 (n:Nat)] w fun r w'=>r=.string (str (List.replicate n 0))∧Ext w w':=
 (Tryz.strings_Repeat ⟨#[0]⟩ n w (by omega) (by show 1*n≤_;omega)).mono fun e w' ⟨he,hb⟩=>⟨_,he,by
  show Value.string ⟨(Lib.repeatL [0] n).toArray⟩=_
  rw [aJf];rfl,Ext.of_below hb⟩
abbrev uG (B b:Nat) (s:ByteArray) (w:World):Prop:=Bld T.strings_Builder T.uint8 B b s w
abbrev WrT (B b:Nat) (w w':World):Prop:=Wr T.uint8 B b w w'
theorem aUp {B b:Nat} {a:ByteArray} (s:ByteArray) (w:World) (h:uG B b a w) (hl:a.size+s.size≤100000000):K.Spec Tryz.prog F.strings_Builder_WriteString [.pointer (some ⟨b,0,none⟩),.string s] w fun _ w'=>uG B b (a++s) w'∧WrT B b w w':=
 (Tryz.Builder_WriteString_k B b _ s w h.2 (by
  rw [Lib.byteCells_length,Array.length_toList]
  have:a.data.size=a.size:=rfl
  omega) h.1).mono fun e w' ⟨he,h1,h2,h3⟩=>⟨_,he,⟨nTr h.1 h2.size,.inr (by rw [←byteCells_append];exact h1)⟩,h2,h3⟩
theorem aKx {B b:Nat} {a:ByteArray} (w:World) (h:uG B b a w):K.Spec Tryz.prog F.strings_Builder_String [.pointer (some ⟨b,0,none⟩)] w fun r w'=>r=.string a∧uG B b a w'∧WrT B b w w':=
 (Tryz.Builder_String_any_k B b _ w h.2 h.1).mono fun e w' ⟨he,h1,h2,h3⟩=>⟨_,he,rfl,⟨nTr h.1 h2.size,h1⟩,h2,h3⟩
attribute [local irreducible] aH aM aY KOp.wp K.Spec leS vnS str
theorem aKb (w:World):K.Spec Tryz.prog F.tx_base [] w fun r w'=>r=uZ.val∧Ext w w':=by
 refine bGq rfl ?_
 unfold aRu
 refine oy ?_
 repeat' (first|(first|refine go2 ?_|fail)|refine zH (fun b w1 x1 a1 hb=>?_)|(refine zC rfl (aWe 32 (by decide) _) ?_;rintro _ w2 ⟨rfl,x2⟩)|refine aW (vs:=uZ.cs) (Ext.trans x1 x2) hb (a1.ext x2) rfl rfl rfl rfl rfl (fun w5 x5 c5 a5 r5=>?_))
 exact aA (aEo (bA r5 rfl rfl)) ⟨rfl,x5⟩
def qQ {α:Type} (g:FuncId) (capl:List Value) (E:R α) (val:List Value→Value) (M:List Nat) (w:World) (l:List α) (p:α→Bool):Prop:=
 ∀x∈l,∀w' cs,Ext w w'→E.rel M w' cs x→K.Spec Tryz.prog g (val cs::capl) w' fun r w''=>r=.bool (p x)∧Ext w' w''
end
section
open Go Go.K
attribute [local irreducible] aH aM aY KOp.wp K.Spec leS vnS str
theorem bAu {M:List Nat} {v:Value} {l:List TIn} {g:FuncId} {capl:List Value} {p:TIn→Bool} (w:World) (hb:bW Tryz.prog g=true) (hs:SlR inR M w v l) (hn:l.length≤1000000000000) (hp:qQ g capl inR (fun cs=>.agg cs.toArray) M w l p):
  K.Spec Tryz.prog F.slices_IndexFunc_L_api_In_api_In [v,.func (.func g) #[] capl.toArray] w fun r w'=>r=.int .i64 (idxOf p l)∧Ext w w':=by
 refine mC rfl ?_
 unfold fY
 refine oy ?_
 repeat' (first|(first|refine go2 ?_|fail)|refine zG rfl hs ?_|(refine aJ (fun (i:Nat) w'=>Ext w w'∧i≤l.length∧∀j,j<i→∀h:j<l.length,p l[j]=false) (fun i=> [(0,v),(1,.func (.func g) #[] capl.toArray),(6,v),(7,.int .i64 (l.length:Nat)),(8,.int .i64 i)]) (fun i=>l.length - i) 0 ⟨rfl,rfl,rfl,rfl,rfl,trivial⟩ ⟨Ext.refl _,by omega,by omega⟩ ?_;rintro i ρ w1 ⟨x1,hi,hk⟩)|refine zL rfl (fun h=>?_) (fun h=>?_)|refine aR rfl rfl (hs.ext x1) rfl (by omega) (fun ad cs r1 he=>?_)|refine tN rfl r1 (by rw [inR.len he];exact Nat.le_refl _) (tLe (by rw [inR.len he];exact Nat.le_refl _)) ?_|(refine dP rfl hb rfl (hp _ (gMe _) _ _ x1 he) ?_;rintro _ w2 ⟨rfl,x2⟩)|refine zM rfl (fun h2=>?_) (fun h2=>?_))
 ·exact aA rfl ⟨congrArg (Value.int .i64) (idxOf_hit (by omega) h2 (fun j hj=>hk j hj (by omega))).symm,by repeat (first|assumption|exact Ext.refl _|refine Ext.trans ?_ (by assumption))⟩
 ·refine ⟨i+1,⟨rfl,rfl,rfl,rfl,rfl,trivial⟩,⟨x1.trans x2,by omega,fun j hj hl=>?_⟩,by omega⟩
  by_cases hji:j=i
  ·subst hji;exact h2
  ·exact hk j (by omega) hl
 ·exact aA rfl ⟨congrArg (Value.int .i64) (idxOf_miss (fun j hj=>hk j (by omega) hj)).symm,x1⟩
theorem pO {M:List Nat} {v:Value} {l:List TIn} {g:FuncId} {capl:List Value} {p:TIn→Bool} (w:World) (hb:bW Tryz.prog g=true) (hs:SlR inR M w v l) (hn:l.length≤1000000000000) (hp:qQ g capl inR (fun cs=>.agg cs.toArray) M w l p):
  K.Spec Tryz.prog F.slices_ContainsFunc_L_api_In_api_In [v,.func (.func g) #[] capl.toArray] w fun r w'=>r=.bool (l.any p)∧Ext w w':=by
 refine kN rfl ?_
 unfold fD
 refine oy ?_
 repeat' (first|(first|refine go2 ?_|fail)|(refine zC rfl (bAu _ hb hs hn hp) ?_;rintro _ w2 ⟨rfl,x2⟩))
 exact aA rfl ⟨congrArg Value.bool mS,x2⟩
theorem aMn {M:List Nat} {v:Value} {l:List TOut} {g:FuncId} {capl:List Value} {p:TOut→Bool} (w:World) (hb:bW Tryz.prog g=true) (hs:SlR gF M w v l) (hn:l.length≤1000000000000) (hp:qQ g capl gF (fun cs=>.agg cs.toArray) M w l p):
  K.Spec Tryz.prog F.slices_IndexFunc_L_api_Out_api_Out [v,.func (.func g) #[] capl.toArray] w fun r w'=>r=.int .i64 (idxOf p l)∧Ext w w':=by
 refine kU rfl ?_
 unfold fK
 refine oy ?_
 repeat' (first|(first|refine go2 ?_|fail)|refine zG rfl hs ?_|(refine aJ (fun (i:Nat) w'=>Ext w w'∧i≤l.length∧∀j,j<i→∀h:j<l.length,p l[j]=false) (fun i=> [(0,v),(1,.func (.func g) #[] capl.toArray),(6,v),(7,.int .i64 (l.length:Nat)),(8,.int .i64 i)]) (fun i=>l.length - i) 0 ⟨rfl,rfl,rfl,rfl,rfl,trivial⟩ ⟨Ext.refl _,by omega,by omega⟩ ?_;rintro i ρ w1 ⟨x1,hi,hk⟩)|refine zL rfl (fun h=>?_) (fun h=>?_)|refine aR rfl rfl (hs.ext x1) rfl (by omega) (fun ad cs r1 he=>?_)|refine tN rfl r1 (by rw [gF.len he];exact Nat.le_refl _) (tLe (by rw [gF.len he];exact Nat.le_refl _)) ?_|(refine dP rfl hb rfl (hp _ (gMe _) _ _ x1 he) ?_;rintro _ w2 ⟨rfl,x2⟩)|refine zM rfl (fun h2=>?_) (fun h2=>?_))
 ·exact aA rfl ⟨congrArg (Value.int .i64) (idxOf_hit (by omega) h2 (fun j hj=>hk j hj (by omega))).symm,by repeat (first|assumption|exact Ext.refl _|refine Ext.trans ?_ (by assumption))⟩
 ·refine ⟨i+1,⟨rfl,rfl,rfl,rfl,rfl,trivial⟩,⟨x1.trans x2,by omega,fun j hj hl=>?_⟩,by omega⟩
  by_cases hji:j=i
  ·subst hji;exact h2
  ·exact hk j (by omega) hl
 ·exact aA rfl ⟨congrArg (Value.int .i64) (idxOf_miss (fun j hj=>hk j (by omega) hj)).symm,x1⟩
theorem bDa {M:List Nat} {v:Value} {l:List TOut} {g:FuncId} {capl:List Value} {p:TOut→Bool} (w:World) (hb:bW Tryz.prog g=true) (hs:SlR gF M w v l) (hn:l.length≤1000000000000) (hp:qQ g capl gF (fun cs=>.agg cs.toArray) M w l p):
  K.Spec Tryz.prog F.slices_ContainsFunc_L_api_Out_api_Out [v,.func (.func g) #[] capl.toArray] w fun r w'=>r=.bool (l.any p)∧Ext w w':=by
 refine jX rfl ?_
 unfold eW
 refine oy ?_
 repeat' (first|(first|refine go2 ?_|fail)|(refine zC rfl (aMn _ hb hs hn hp) ?_;rintro _ w2 ⟨rfl,x2⟩))
 exact aA rfl ⟨congrArg Value.bool mS,x2⟩
theorem aX0 {M:List Nat} {v:Value} {l:List ByteArray} {g:FuncId} {capl:List Value} {p:ByteArray→Bool} (w:World) (hb:bW Tryz.prog g=true) (hs:SlR nM M w v l) (hn:l.length≤1000000000000) (hp:qQ g capl nM (fun cs=>cs.headD undef) M w l p):
  K.Spec Tryz.prog F.slices_IndexFunc_L_string_string [v,.func (.func g) #[] capl.toArray] w fun r w'=>r=.int .i64 (idxOf p l)∧Ext w w':=by
 refine lU rfl ?_
 unfold gB
 refine oy ?_
 repeat' (first|(first|refine go2 ?_|fail)|refine zG rfl hs ?_|(refine aJ (fun (i:Nat) w'=>Ext w w'∧i≤l.length∧∀j,j<i→∀h:j<l.length,p l[j]=false) (fun i=> [(0,v),(1,.func (.func g) #[] capl.toArray),(6,v),(7,.int .i64 (l.length:Nat)),(8,.int .i64 i)]) (fun i=>l.length - i) 0 ⟨rfl,rfl,rfl,rfl,rfl,trivial⟩ ⟨Ext.refl _,by omega,by omega⟩ ?_;rintro i ρ w1 ⟨x1,hi,hk⟩)|refine zL rfl (fun h=>?_) (fun h=>?_)|(refine aR rfl rfl (hs.ext x1) rfl (by omega) (fun ad cs r1 he=>?_);have hq:cs= [Value.string l[i]]:=he;rw [hq] at r1 he)|refine tN rfl r1 (by rw [nM.len he];exact Nat.le_refl _) (tLe (by rw [nM.len he];exact Nat.le_refl _)) ?_|(refine dP rfl hb rfl (hp _ (gMe _) _ _ x1 he) ?_;rintro _ w2 ⟨rfl,x2⟩)|refine zM rfl (fun h2=>?_) (fun h2=>?_))
 ·exact aA rfl ⟨congrArg (Value.int .i64) (idxOf_hit (by omega) h2 (fun j hj=>hk j hj (by omega))).symm,by repeat (first|assumption|exact Ext.refl _|refine Ext.trans ?_ (by assumption))⟩
 ·refine ⟨i+1,⟨rfl,rfl,rfl,rfl,rfl,trivial⟩,⟨x1.trans x2,by omega,fun j hj hl=>?_⟩,by omega⟩
  by_cases hji:j=i
  ·subst hji;exact h2
  ·exact hk j (by omega) hl
 ·exact aA rfl ⟨congrArg (Value.int .i64) (idxOf_miss (fun j hj=>hk j (by omega) hj)).symm,x1⟩
theorem aAi {M:List Nat} {v:Value} {l:List ByteArray} {g:FuncId} {capl:List Value} {p:ByteArray→Bool} (w:World) (hb:bW Tryz.prog g=true) (hs:SlR nM M w v l) (hn:l.length≤1000000000000) (hp:qQ g capl nM (fun cs=>cs.headD undef) M w l p):
  K.Spec Tryz.prog F.slices_ContainsFunc_L_string_string [v,.func (.func g) #[] capl.toArray] w fun r w'=>r=.bool (l.any p)∧Ext w w':=by
 refine kO rfl ?_
 unfold fF
 refine oy ?_
 repeat' (first|(first|refine go2 ?_|fail)|(refine zC rfl (aX0 _ hb hs hn hp) ?_;rintro _ w2 ⟨rfl,x2⟩))
 exact aA rfl ⟨congrArg Value.bool mS,x2⟩
end
section
open Go Go.K
attribute [local irreducible] aH aM aY KOp.wp K.Spec u32
theorem bAx (s:S8) (k x:W32) (w:World):K.Spec Tryz.prog F.sha_round [.agg s.cs.toArray,u32 k,u32 x] w fun r w'=>r=.agg (rnd s k x).cs.toArray∧Ext w w':=by
 refine aXf rfl ?_
 unfold aLf
 refine oy ?_
 repeat' (first|(first|refine aD8 rfl rfl ?_|refine aDx rfl rfl ?_|refine aDy rfl rfl ?_|refine aJ1 rfl rfl ?_|refine aD5 rfl ?_|refine yF rfl ?_)|(first|refine zF (fE _ .i64 6 (by decide) (by decide)) ?_)|(first|refine zF (fE _ .i64 11 (by decide) (by decide)) ?_)|(first|refine zF (fE _ .i64 25 (by decide) (by decide)) ?_)|(first|refine zF (fE _ .i64 2 (by decide) (by decide)) ?_)|(first|refine zF (fE _ .i64 13 (by decide) (by decide)) ?_)|(first|refine zF (fE _ .i64 22 (by decide) (by decide)) ?_)|(first|refine go2 ?_|fail)|(first|refine zD rfl rfl (fun bp wp xp ap rp hp0=>?_)|refine zE (fun _=>rfl) rfl rfl rfl (fun bq wq xq aq rq hq0=>?_))|refine zB ?_ ?_|refine zH (fun b w1 x1 a1 hb=>?_)|refine aZ (bQw (s:=rnd s k x) rfl rfl rfl rfl rfl rfl rfl rfl) ?_|refine aW (w0:=w) (vs:=(rnd s k x).cs) (by exact fx) (nTr (by exact fx) hb) (by exact atx) rfl rfl rfl rfl (bDl _) (fun w5 x5 c5 a5 r5=>?_))
 exact aA (aEo (bA r5 rfl rfl)) ⟨rfl,x5⟩
end
section
open Go Go.K
attribute [local irreducible] aH aM aY KOp.wp K.Spec u32 leS vnS str aP dV
theorem aRz (n k:Nat) (hk:k≤8) (w:World):K.Spec Tryz.prog F.sha_high [.int .u64 (n:Nat),.int .i64 (k:Nat)] w fun r w'=>r=.string (str (leL n k).reverse)∧Ext w w':=by
 refine bDu rfl ?_
 unfold aO3
 refine oy ?_
 repeat' (first|(first|refine go2 ?_|fail)|refine zL rfl (fun h=>?_) (fun h=>?_)|refine bPd rfl rfl (by omega) (fun b w1 x1 a1 hb=>?_)|(refine aJ (fun (i:Nat) w'=>Ext w w'∧i≤k∧At w' b (.cells (bCs (hiL n k i)).toArray T.uint8 (0,0))) (fun i=> [(0,.int .u64 ((n / 256^i:Nat):Int)),(1,.int .i64 (k:Nat)),(5,.slice (some ⟨b,0,none⟩) k k),(10,.int .i64 (k:Nat)),(11,.int .i64 i)]) (fun i=>k - i) 0 ⟨by simp;rfl,rfl,rfl,rfl,rfl,trivial⟩ ⟨x1,by omega,by simpa [hiL,leL] using a1⟩ ?_;rintro i ρ w2 ⟨x2,hi,ha⟩)|refine aOk rfl rfl (by omega) ?_|refine bC rfl rfl rfl ha (by rw [bB5,aP6 hi];omega) (fun w3 c3 a3=>?_)|refine aAh rfl (bKh ha (aP6 hi).symm (Nat.le_refl _)) ?_)
 ·refine ⟨i+1,⟨congrArg (Value.int .u64) bSe,rfl,rfl,rfl,rfl,trivial⟩,⟨(x2.chg c3).mono (by intro y hy;simp at hy;right;omega),by omega,?_⟩,by omega⟩
  rw [←bMn (n:=n) (o:=((k:Int) - 1 - i).toNat*1) (by omega) (by omega)]
  exact a3
 ·have e:i=k:=by omega
  subst e
  exact aA rfl ⟨congrArg (fun l=>Value.string (str l)) (by simp [hiL]),x2⟩
theorem bOv {n:Nat} (h:n≤4000000):IntKind.u64.wrap (IntKind.u64.wrap (n:Int)*8)=((n*8:Nat):Int):=by
 have e:IntKind.u64.wrap (n:Int)=n:=eZ (by omega) (by omega)
 rw [e,eZ (by omega) (by omega)];omega
theorem aYo (s:ByteArray) (hs:s.size≤4000000) (w:World):K.Spec Tryz.prog F.sha_padded [.string s] w fun r w'=>r=.string (str (yW s.data.toList))∧Ext w w':=by
 have g1:(⟨#[128]⟩:ByteArray).size=1:=rfl
 have g2:(str (List.replicate (qZ s.size) 0)).size=qZ s.size:=by rw [jF];simp
 have g3:(str (leL (s.size*8) 8).reverse).size=8:=by rw [jF];simp [dE]
 have g4:qZ s.size<64:=by unfold qZ;omega
 refine aUl rfl ?_
 unfold aI6
 refine oy ?_
 repeat' (first|refine aN5 (n:=s.size) (m:=64) rfl rfl (by decide) ?_|refine aN5 (n:=119 - s.size%64) (m:=64) (congrArg (Value.int .i64) (by omega)) rfl (by decide) ?_|(first|refine go2 ?_|fail)|(refine zC rfl (aWe (qZ s.size) (by omega) _) ?_;rintro _ w1 ⟨rfl,x1⟩)|(refine zC (congrArg (fun x=> [Value.int .u64 x,Value.int .i64 8]) (bOv hs)) (aRz (s.size*8) 8 (by decide) _) ?_;rintro _ w2 ⟨rfl,x2⟩)|(refine lK rfl rfl ?_ ?_;(focus((try simp only [ByteArray.size_append]);omega))))
 exact aA rfl ⟨congrArg Value.string (bQk s),by exact fx⟩
end
section
open Go Go.K
attribute [local irreducible] aH aM aY KOp.wp K.Spec leS vnS str aP
theorem aUt (x:TIn) (wv:Value) {M:List Nat} (w:World) (hw:SlR nM M w wv x.wit):K.Spec Tryz.prog F.tx_counts_1 [.agg (fS x wv).toArray] w fun r w'=>r=.bool (decide ((x.wit.length:Int)>4))∧Ext w w':=by
 refine aQ8 rfl ?_
 unfold aFb
 refine oy ?_
 repeat' (first|(first|refine go2 ?_|fail)|(first|refine zD rfl rfl (fun bp wp xp ap rp hp0=>?_)|refine zE (fun _=>rfl) rfl rfl rfl (fun bq wq xq aq rq hq0=>?_))|refine zG rfl (by exact fx) ?_)
 exact aA rfl ⟨rfl,by exact fx⟩
theorem bC8 (s:ByteArray) (w:World):K.Spec Tryz.prog F.tx_long_1 [.string s] w fun r w'=>r=.bool (sX s)∧Ext w w':=by
 refine aYc rfl ?_
 unfold aMk
 refine oy ?_
 refine goR ?_
 exact aA rfl ⟨rfl,by exact fx⟩
theorem bGg (x:TOut) (w:World):K.Spec Tryz.prog F.tx_long_2 [.agg (gI x).toArray] w fun r w'=>r=.bool (uH x)∧Ext w w':=by
 refine aZg rfl ?_
 unfold aMd
 refine oy ?_
 repeat (first|(first|refine go2 ?_|fail)|(first|refine zD rfl rfl (fun bp wp xp ap rp hp0=>?_)|refine zE (fun _=>rfl) rfl rfl rfl (fun bq wq xq aq rq hq0=>?_)))
 exact aA rfl ⟨rfl,by exact fx⟩
theorem bJl:bW Tryz.prog F.tx_long_1=true:=by kernel_rfl
theorem bLb:bW Tryz.prog F.tx_long_2=true:=by kernel_rfl
theorem bKt:bW Tryz.prog F.tx_long_3=true:=by kernel_rfl
theorem bCg:bW Tryz.prog F.tx_counts_1=true:=by kernel_rfl
theorem bLv (x:TIn) (wv:Value) {M:List Nat} {b:Nat} (w:World) (hw:SlR nM M w wv x.wit) (hn:x.wit.length≤1000) (hb:Row w ⟨b,0,none⟩ [.func (.func F.tx_long_1) #[] #[]]):K.Spec Tryz.prog F.tx_long_3 [.agg (fS x wv).toArray,.pointer (some ⟨b,0,none⟩)] w fun r w'=>r=.bool (aJ3 x)∧Ext w w':=by
 refine bAf rfl ?_
 unfold aLv
 refine oy ?_
 repeat' (first|(first|refine go2 ?_|fail)|(first|refine zD rfl rfl (fun bp wp xp ap rp hp0=>?_)|refine zE (fun _=>rfl) rfl rfl rfl (fun bq wq xq aq rq hq0=>?_))|(refine zC rfl (aAi (l:=x.wit) (M:=M) (g:=F.tx_long_1) (capl:= []) (p:=sX) _ bJl (by exact fx) (by omega) ?_) ?_;rotate_left;rintro _ w2 ⟨rfl,x2⟩))
 ·exact aA rfl ⟨rfl,by exact fx⟩
 ·intro s _ w' cs x2 hc
  obtain rfl:cs= [Value.string s]:=hc
  exact bC8 s w'
theorem aUx {M:List Nat} {cs:List Value} {t:Tx} (w:World) (ht:txR.rel M w cs t) (hs:t.Sm):K.Spec Tryz.prog F.tx_counts [.agg cs.toArray] w fun r w'=>r=.bool (iW t)∧Ext w w':=by
 obtain ⟨iv,ov,rfl,hi,ho,hv,hl⟩:=ht
 have h1:=hs.ins
 refine aXd rfl ?_
 unfold aLs
 refine oy ?_
 have tl:∀w1,Ext w w1→qQ F.tx_counts_1 [] inR (fun cs=>.agg cs.toArray) M w1 t.ins fun x=>decide ((x.wit.length:Int)>4):=by
  intro w1 x1 x _ w' cs x2 hc
  obtain ⟨wv,rfl,hw,_⟩:=hc
  exact aUt x wv w' hw
 repeat' (first|(first|refine go2 ?_|fail)|(first|refine zD rfl rfl (fun bp wp xp ap rp hp0=>?_)|refine zE (fun _=>rfl) rfl rfl rfl (fun bq wq xq aq rq hq0=>?_))|refine zG rfl (by exact fx) ?_|refine zK rfl (fun h=>?_) (fun h=>?_)|(refine zC rfl (pO (l:=t.ins) (M:=M) (g:=F.tx_counts_1) (capl:= []) _ bCg (by exact fx) (by omega) (tl _ (by exact fx))) ?_;rintro _ w2 ⟨rfl,x2⟩))
 all_goals
  refine aA rfl ⟨congrArg Value.bool ?_,by exact fx⟩
  simp only [iW, *,Bool.true_and,Bool.false_and]
theorem bBs {M:List Nat} {cs:List Value} {t:Tx} (w:World) (ht:txR.rel M w cs t) (hs:t.Sm):K.Spec Tryz.prog F.tx_long [.agg cs.toArray] w fun r w'=>r=.bool (yM t)∧Ext w w':=by
 obtain ⟨iv,ov,rfl,hi,ho,hv,hl⟩:=ht
 have h1:=hs.ins
 have h2:=hs.outs
 refine bGu rfl ?_
 unfold aS7
 refine oy ?_
 have tl:∀w1,Ext w w1→qQ F.tx_long_2 [] gF (fun cs=>.agg cs.toArray) M w1 t.outs uH:=by
  intro w1 x1 x _ w' cs x2 hc
  obtain ⟨rfl,_⟩:=hc
  exact bGg x w'
 have tl2:∀w1 b,Row w1 ⟨b,0,none⟩ [.func (.func F.tx_long_1) #[] #[]]→qQ F.tx_long_3 [.pointer (some ⟨b,0,none⟩)] inR (fun cs=>.agg cs.toArray) M w1 t.ins aJ3:=by
  intro w1 b hb x hx w' cs x2 hc
  obtain ⟨wv,rfl,hw,_⟩:=hc
  exact bLv x wv w' hw (hs.wit x hx) (hb.ext x2)
 repeat' (first|(first|refine go2 ?_|fail)|(first|refine zD rfl rfl (fun bp wp xp ap rp hp0=>?_)|refine zE (fun _=>rfl) rfl rfl rfl (fun bq wq xq aq rq hq0=>?_))|refine zG rfl (by exact fx) ?_|refine zK rfl (fun h=>?_) (fun h=>?_)|refine zH (fun b w1 x1 a1 hb=>?_)|(refine aD7 rfl rfl rfl a1 (by simp) (fun w2 c2 a2=>?_);have x2:=(x1.chg c2).mono (l':= []) (by simp;omega);have r2:=Row.of_at a2)|(refine zC rfl (bDa (l:=t.outs) (M:=M) (g:=F.tx_long_2) (capl:= []) _ bLb (by exact fx) (by omega) (tl _ (by exact fx))) ?_;rintro _ w3 ⟨rfl,x3⟩)|(refine zC rfl (pO (l:=t.ins) (M:=M) (g:=F.tx_long_3) (capl:= [_]) _ bKt (by exact fx) (by omega) (tl2 _ _ (by exact fx))) ?_;rintro _ w4 ⟨rfl,x4⟩))
 all_goals
  refine aA rfl ⟨congrArg Value.bool ?_,by exact fx⟩
  simp only [yM, *,Bool.true_or,Bool.false_or]
theorem aUy {M : List Nat} {cs : List Value} {t : Tx} (w : World) (ht : txR.rel M w cs t) (hs : t.Sm) : K.Spec Tryz.prog F.tx_formed [.agg cs.toArray] w fun r w' => r = .bool (jV t) ∧ Ext w w' := by
  obtain ⟨iv, ov, rfl, hi, ho, hv, hl⟩ := ht
  have h1 := hs.ins
  refine aYk rfl ?_
  unfold aMi
  refine oy ?_
  have bad : ∀ i (h : i < t.ins.length), xU t t.ins[i] = true → jV t = false := fun i h hb => by
    rw [jV, List.any_eq_true.2 ⟨_, gMe h, hb⟩]; rfl
  have good : (∀ i (h : i < t.ins.length), xU t t.ins[i] = false) → jV t = true := fun hg => by
    rw [jV, List.any_eq_false.2 (fun x hx => by
      obtain ⟨i, h, rfl⟩ := List.getElem_of_mem hx
      rw [hg i h]; simp)]; rfl
  repeat' (first|(first|refine go2 ?_|fail)|(first|refine zD rfl rfl (fun bp wp xp ap rp hp0=>?_)|refine zE (fun _=>rfl) rfl rfl rfl (fun bq wq xq aq rq hq0=>?_))|refine zG rfl (by exact fx) ?_|refine zB ?_ ?_|refine zL rfl (fun h => ?_) (fun h => ?_)|refine zK rfl (fun h => ?_) (fun h => ?_)|refine zM rfl (fun h => ?_) (fun h => ?_)|(refine aJ (fun (i : Nat) w' => Ext wp w' ∧ i ≤ t.ins.length ∧ ∀ j, j < i → ∀ h : j < t.ins.length, xU t t.ins[j] = false) (fun i => [(1, .pointer (some ⟨bp, 0, none⟩)), (6, iv), (7, .int .i64 (t.ins.length : Nat)), (8, .int .i64 i)]) (fun i => t.ins.length - i) 0 ⟨rfl, rfl, rfl, rfl, trivial⟩ ⟨by exact fx, by omega, by omega⟩ ?_; rintro i ρ w1 ⟨x1, hi1, hk⟩)|(refine aR rfl rfl (n := i) (l := t.ins) (by exact fx) rfl (by omega) (fun ad cs r2 he => ?_); obtain ⟨wv, rfl, hw, _⟩ := he; obtain ⟨_, _, rfl⟩ := hw.form; have hil : i < t.ins.length := by omega)|(refine zC rfl (aKb _) ?_; rintro _ w3 ⟨rfl, x3⟩))
  all_goals first
    | (refine aA rfl ⟨congrArg Value.bool (bad i hil ?_).symm, by exact fx⟩; simp_all [xU, kB]; done)
    | exact aA rfl ⟨congrArg Value.bool (good fun j hj => hk j (by omega) hj).symm, by exact fx⟩
    | (refine ⟨i + 1, ⟨rfl, rfl, rfl, rfl, trivial⟩, ⟨by exact fx, by omega, fun j hj hl => ?_⟩, by omega⟩
       by_cases hji : j = i
       · subst hji; simp_all [xU, kB]; done
       · exact hk j (by omega) hl)
theorem aZv {M : List Nat} {cs : List Value} {t : Tx} (w : World) (ht : txR.rel M w cs t) (hs : t.Sm) : K.Spec Tryz.prog F.tx_twice [.agg cs.toArray] w fun r w' => r = .bool (aCf t) ∧ Ext w w' := by
  obtain ⟨iv, ov, rfl, hi, ho, hv, hl⟩ := ht
  have h1 := hs.ins
  refine bD0 rfl ?_
  unfold aOv
  refine oy ?_
  have hpl : (cC t).length = t.ins.length := by simp [cC]
  have hpg : ∀ i (h : i < t.ins.length), (cC t)[i]'(by rw [hpl]; exact h) = t.ins[i].p := fun i h => by simp [cC]
  have bnd : ∀ {i : Nat} {m : List (Pt × Nat)} {q : Pt}, (∀ p, aS m p = if ((cC t).take i).contains p then some 1 else none) → ∀ v, (aS m q = some v ∨ v ≤ (aS m q).getD 0 + 1) → ∃ _ : v ≤ 2, True := by
    intro i m q hk v h
    rw [hk q] at h
    refine ⟨?_, trivial⟩
    cases hc : ((cC t).take i).contains q <;> rw [hc] at h <;> simp at h <;> omega
  have key : ∀ {i : Nat} {m : List (Pt × Nat)} (h : i < t.ins.length), aAe ((cC t).take i).reverse = false → (∀ p, aS m p = if ((cC t).take i).contains p then some 1 else none) →
      ((((aS m t.ins[i].p).getD 0 + 1 : Nat) : Int) > 1 → aCf t = true) ∧ (¬ (((aS m t.ins[i].p).getD 0 + 1 : Nat) : Int) > 1 → aAe ((cC t).take (i + 1)).reverse = false ∧ ∀ p, aS (fV m t.ins[i].p ((aS m t.ins[i].p).getD 0 + 1)) p = if ((cC t).take (i + 1)).contains p then some 1 else none) := by
    intro i m h hd hk
    have hil : i < (cC t).length := by rw [hpl]; exact h
    have ht := aKi hil
    rw [hpg i h, hd, Bool.or_false] at ht
    rw [hk t.ins[i].p]
    cases hc : ((cC t).take i).contains t.ins[i].p with
    | true =>
      rw [hc] at ht
      exact ⟨fun _ => aSq ht, fun hn => absurd (by decide) hn⟩
    | false =>
      rw [hc] at ht
      refine ⟨fun hg => absurd hg (by decide), fun _ => ⟨ht, fun p => ?_⟩⟩
      rw [aC9, hk p, List.take_succ_eq_append_getElem hil, hpg i h]
      by_cases hp : t.ins[i].p = p
      · subst hp; simp
      · rw [if_neg hp]
        have : p ≠ t.ins[i].p := fun e => hp e.symm
        simp [this]
  repeat' (first|(first|refine go2 ?_|fail)|(first|refine zD rfl rfl (fun bp wp xp ap rp hp0=>?_)|refine zE (fun _=>rfl) rfl rfl rfl (fun bq wq xq aq rq hq0=>?_))|refine zG rfl (by exact fx) ?_|refine zB ?_ ?_|refine zL rfl (fun h => ?_) (fun h => ?_)|refine iX (E := ptK) (fv := fun n : Nat => Value.int .i64 (n : Nat)) (fun mb wm xm hm hmb => ?_)|(refine aJ (fun (s : Nat × List (Pt × Nat)) w' => Ext w w' ∧ s.1 ≤ t.ins.length ∧ dB ptK (fun n : Nat => Value.int .i64 (n : Nat)) w' mb s.2 ∧ aAe ((cC t).take s.1).reverse = false ∧ ∀ p, aS s.2 p = if ((cC t).take s.1).contains p then some 1 else none) (fun s => [(1, .pointer (some ⟨bp, 0, none⟩)), (3, .map (some mb)), (8, iv), (9, .int .i64 (t.ins.length : Nat)), (10, .int .i64 s.1)]) (fun s => t.ins.length - s.1) (0, []) ⟨rfl, rfl, rfl, rfl, rfl, trivial⟩ ⟨by exact fx, by simp, hm, by simp [aAe], by simp [aS]⟩ ?_; rintro ⟨i, m⟩ ρ w1 ⟨x1, hi1, hM, hd, hk⟩; simp only at hi1 hM hd hk; dsimp only)|(refine aR rfl rfl (n := i) (l := t.ins) (by exact fx) rfl (by omega) (fun ad cs r2 he => ?_); obtain ⟨wv, rfl, hw, _⟩ := he; obtain ⟨_, _, rfl⟩ := hw.form; have hil : i < t.ins.length := by omega)|(refine aVg (E := ptK) (fv := fun n : Nat => Value.int .i64 (n : Nat)) (k := t.ins[i].p) 0 rfl rfl rfl (by exact fx) rfl rfl (fun st w4 c4 hP hQ => ?_); have r4 := Row.chg c4 (ad := ⟨bq, 0, none⟩) (by exact fx) (by have := hM.lt; simp; omega))|(apply eQ (E := ptK) (fv := fun n : Nat => Value.int .i64 (n : Nat)) (k := t.ins[i].p) rfl rfl; (focus(exact fx)); (focus rfl); (focus rfl))|(intro v hv; obtain ⟨hv1, _⟩ := bnd (q := t.ins[i].p) hk v (by first|exact .inl hv|(rw [aC9, if_pos rfl] at hv; cases hv; exact .inr (by omega))))|intro hv|(refine aEz (E := ptK) (fv := fun n : Nat => Value.int .i64 (n : Nat)) (k := t.ins[i].p) (v := (aS m t.ins[i].p).getD 0 + 1) rfl rfl (by first|(rw [aC9, if_pos rfl] at hv; first|(cases hv; rfl)|cases hv)|(rw [hv]; rfl)) (by exact fx) (fun w5 c5 hM5 => ?_); have r5 := Row.chg c5 r4 (by have := hM.lt; simp; omega)))
  all_goals first
    | (refine aA rfl ⟨congrArg Value.bool ?_, x1⟩
       have e : (cC t).take i = cC t := tLe (by rw [hpl]; omega)
       rw [e] at hd; rw [aCf, hd]; done)
    | (rw [aC9, if_pos rfl] at hv; cases hv; done)
    | (have x5 : Ext w w5 := by
         have h6 := hM.lt
         have h8 := xp.size
         have h7 := ((x1.trans xq).trans (by first|assumption|exact Ext.drew _)).chg (c4.trans c5)
         exact h7.mono (by intro y hy; simp at hy; right; omega)
       rw [aC9, if_pos rfl] at hv
       simp only [Option.some.injEq] at hv
       subst hv
       first
       | exact aA rfl ⟨congrArg Value.bool ((key hil hd hk).1 h).symm, x5⟩
       | exact ⟨(i + 1, _), ⟨rfl, rfl, rfl, rfl, rfl, trivial⟩, ⟨x5, by simp; omega, hM5, (key hil hd hk).2 h⟩, by simp; omega⟩)
    | trace_state
end
end Go.Proofs.YteceapipdhnhdaaGreatDoor
