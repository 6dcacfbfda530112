/- Contracts: builders of text, the base point; searches. Contr -/
import Derived.Test.YtfebcajheojodaaGreatDoorZ12
set_option linter.unusedVariables false
set_option linter.unusedSimpArgs false
namespace Go.Proofs.YtfebcajheojodaaGreatDoor
section
open Go Go.K
theorem aHe:∀n:Nat,Lib.repeatL [0] n=List.replicate n 0
 |0=>rfl
 |n+1=>by
  have:=aHe n
  simp only [Lib.repeatL,List.replicate_succ] at this ⊢
  first|(rw [this];rfl)|simp [this]
theorem aXi (n:Nat) (hn:n≤1000) (w:World):K.Spec Tryz.prog F.strings_Repeat [.string ⟨#[0]⟩,.int .i64 (n:Nat)] w fun r w'=>r=.string (str (List.replicate n 0))∧Ext w w':=
 (Tryz.strings_Repeat ⟨#[0]⟩ n w (by omega) (by show 1*n≤_;omega)).mono fun e w' ⟨he,hb⟩=>⟨_,he,by
  show Value.string ⟨(Lib.repeatL [0] n).toArray⟩=_
  rw [aHe];rfl,Ext.of_below hb⟩
abbrev uL (B b:Nat) (s:ByteArray) (w:World):Prop:=Bld T.strings_Builder T.uint8 B b s w
abbrev WrT (B b:Nat) (w w':World):Prop:=Wr T.uint8 B b w w'
theorem aTp {B b:Nat} {a:ByteArray} (s:ByteArray) (w:World) (h:uL B b a w) (hl:a.size+s.size≤100000000):K.Spec Tryz.prog F.strings_Builder_WriteString [.pointer (some ⟨b,0,none⟩),.string s] w fun _ w'=>uL B b (a++s) w'∧WrT B b w w':=
 (Tryz.Builder_WriteString_k B b _ s w h.2 (by
  rw [Lib.byteCells_length,Array.length_toList]
  have:a.data.size=a.size:=rfl
  omega) h.1).mono fun e w' ⟨he,h1,h2,h3⟩=>⟨_,he,⟨nTr h.1 h2.size,.inr (by rw [←byteCells_append];exact h1)⟩,h2,h3⟩
theorem aKd {B b:Nat} {a:ByteArray} (w:World) (h:uL B b a w):K.Spec Tryz.prog F.strings_Builder_String [.pointer (some ⟨b,0,none⟩)] w fun r w'=>r=.string a∧uL B b a w'∧WrT B b w w':=
 (Tryz.Builder_String_any_k B b _ w h.2 h.1).mono fun e w' ⟨he,h1,h2,h3⟩=>⟨_,he,rfl,⟨nTr h.1 h2.size,h1⟩,h2,h3⟩
attribute [local irreducible] aO aU bQ KOp.wp K.Spec leS vnS str
theorem aSj (w:World):K.Spec Tryz.prog F.tx_base [] w fun r w'=>r=aIz.val∧Ext w w':=by
 refine bDj rfl ?_
 unfold aSz
 refine oy ?_
 repeat' (first|refine go1 ?_|refine zg λ_ _=>?_|refine zi λ_ _=>?_|refine zH (fun b w1 x1 a1 hb=>?_)|(refine zC rfl (aXi 32 (by decide) _) ?_;rintro _ w2 ⟨rfl,x2⟩)|refine bP (vs:=aIz.cs) (Ext.trans x1 x2) hb (a1.ext x2) rfl rfl rfl rfl rfl (fun w5 x5 c5 a5 r5=>?_))
 exact aC (aRf (cL r5 rfl rfl)) ⟨rfl,x5⟩
def rF {α:Type} (g:FuncId) (capl:List Value) (E:R α) (val:List Value→Value) (M:List Nat) (w:World) (l:List α) (p:α→Bool):Prop:=
 ∀x∈l,∀w' cs,Ext w w'→E.rel M w' cs x→K.Spec Tryz.prog g (val cs::capl) w' fun r w''=>r=.bool (p x)∧Ext w' w''
end
section
open Go Go.K
attribute [local irreducible] aO aU bQ KOp.wp K.Spec leS vnS str
theorem bAc {M:List Nat} {v:Value} {l:List TIn} {g:FuncId} {capl:List Value} {p:TIn→Bool} (w:World) (hb:cM Tryz.prog g=true) (hs:SlR inR M w v l) (hn:l.length≤1000000000000) (hp:rF g capl inR (fun cs=>.agg cs.toArray) M w l p):
  K.Spec Tryz.prog F.slices_IndexFunc_L_api_In_api_In [v,.func (.func g) #[] capl.toArray] w fun r w'=>r=.int .i64 (idxOf p l)∧Ext w w':=by
 refine mO rfl ?_
 unfold fZ
 refine oy ?_
 repeat' (first|refine go1 ?_|refine zg λ_ _=>?_|refine zi λ_ _=>?_|refine zG rfl hs ?_|(refine aQ (fun (i:Nat) w'=>Ext w w'∧i≤l.length∧∀j,j<i→∀h:j<l.length,p l[j]=false) (fun i=> [(0,v),(1,.func (.func g) #[] capl.toArray),(6,v),(7,.int .i64 (l.length:Nat)),(8,.int .i64 i)]) (fun i=>l.length - i) 0 ⟨rfl,rfl,rfl,rfl,rfl,trivial⟩ ⟨Ext.refl _,by omega,by omega⟩ ?_;rintro i ρ w1 ⟨x1,hi,hk⟩)|refine zL rfl (fun h=>?_) (fun h=>?_)|refine aL rfl rfl (hs.ext x1) rfl (by omega) (fun ad cs r1 he=>?_)|refine mD rfl r1 (by rw [inR.len he];exact Nat.le_refl _) (tLe (by rw [inR.len he];exact Nat.le_refl _)) ?_|(refine eN rfl hb rfl (hp _ (gMe _) _ _ x1 he) ?_;rintro _ w2 ⟨rfl,x2⟩)|refine zM rfl (fun h2=>?_) (fun h2=>?_))
 ·exact aC rfl ⟨congrArg (Value.int .i64) (idxOf_hit (by omega) h2 (fun j hj=>hk j hj (by omega))).symm,by repeat (first|assumption|exact Ext.refl _|refine Ext.trans ?_ (by assumption))⟩
 ·refine ⟨i+1,⟨rfl,rfl,rfl,rfl,rfl,trivial⟩,⟨x1.trans x2,by omega,fun j hj hl=>?_⟩,by omega⟩
  by_cases hji:j=i
  ·subst hji;exact h2
  ·exact hk j (by omega) hl
 ·exact aC rfl ⟨congrArg (Value.int .i64) (idxOf_miss (fun j hj=>hk j (by omega) hj)).symm,x1⟩
theorem pQ {M:List Nat} {v:Value} {l:List TIn} {g:FuncId} {capl:List Value} {p:TIn→Bool} (w:World) (hb:cM Tryz.prog g=true) (hs:SlR inR M w v l) (hn:l.length≤1000000000000) (hp:rF g capl inR (fun cs=>.agg cs.toArray) M w l p):
  K.Spec Tryz.prog F.slices_ContainsFunc_L_api_In_api_In [v,.func (.func g) #[] capl.toArray] w fun r w'=>r=.bool (l.any p)∧Ext w w':=by
 refine kL rfl ?_
 unfold fK
 refine oy ?_
 repeat' (first|refine go1 ?_|refine zg λ_ _=>?_|refine zi λ_ _=>?_|(refine zC rfl (bAc _ hb hs hn hp) ?_;rintro _ w2 ⟨rfl,x2⟩))
 exact aC rfl ⟨congrArg Value.bool jI,x2⟩
theorem aLw {M:List Nat} {v:Value} {l:List TOut} {g:FuncId} {capl:List Value} {p:TOut→Bool} (w:World) (hb:cM Tryz.prog g=true) (hs:SlR eX M w v l) (hn:l.length≤1000000000000) (hp:rF g capl eX (fun cs=>.agg cs.toArray) M w l p):
  K.Spec Tryz.prog F.slices_IndexFunc_L_api_Out_api_Out [v,.func (.func g) #[] capl.toArray] w fun r w'=>r=.int .i64 (idxOf p l)∧Ext w w':=by
 refine lI rfl ?_
 unfold fM
 refine oy ?_
 repeat' (first|refine go1 ?_|refine zg λ_ _=>?_|refine zi λ_ _=>?_|refine zG rfl hs ?_|(refine aQ (fun (i:Nat) w'=>Ext w w'∧i≤l.length∧∀j,j<i→∀h:j<l.length,p l[j]=false) (fun i=> [(0,v),(1,.func (.func g) #[] capl.toArray),(6,v),(7,.int .i64 (l.length:Nat)),(8,.int .i64 i)]) (fun i=>l.length - i) 0 ⟨rfl,rfl,rfl,rfl,rfl,trivial⟩ ⟨Ext.refl _,by omega,by omega⟩ ?_;rintro i ρ w1 ⟨x1,hi,hk⟩)|refine zL rfl (fun h=>?_) (fun h=>?_)|refine aL rfl rfl (hs.ext x1) rfl (by omega) (fun ad cs r1 he=>?_)|refine mD rfl r1 (by rw [eX.len he];exact Nat.le_refl _) (tLe (by rw [eX.len he];exact Nat.le_refl _)) ?_|(refine eN rfl hb rfl (hp _ (gMe _) _ _ x1 he) ?_;rintro _ w2 ⟨rfl,x2⟩)|refine zM rfl (fun h2=>?_) (fun h2=>?_))
 ·exact aC rfl ⟨congrArg (Value.int .i64) (idxOf_hit (by omega) h2 (fun j hj=>hk j hj (by omega))).symm,by repeat (first|assumption|exact Ext.refl _|refine Ext.trans ?_ (by assumption))⟩
 ·refine ⟨i+1,⟨rfl,rfl,rfl,rfl,rfl,trivial⟩,⟨x1.trans x2,by omega,fun j hj hl=>?_⟩,by omega⟩
  by_cases hji:j=i
  ·subst hji;exact h2
  ·exact hk j (by omega) hl
 ·exact aC rfl ⟨congrArg (Value.int .i64) (idxOf_miss (fun j hj=>hk j (by omega) hj)).symm,x1⟩
theorem bAe {M:List Nat} {v:Value} {l:List TOut} {g:FuncId} {capl:List Value} {p:TOut→Bool} (w:World) (hb:cM Tryz.prog g=true) (hs:SlR eX M w v l) (hn:l.length≤1000000000000) (hp:rF g capl eX (fun cs=>.agg cs.toArray) M w l p):
  K.Spec Tryz.prog F.slices_ContainsFunc_L_api_Out_api_Out [v,.func (.func g) #[] capl.toArray] w fun r w'=>r=.bool (l.any p)∧Ext w w':=by
 refine jZ rfl ?_
 unfold eZ
 refine oy ?_
 repeat' (first|refine go1 ?_|refine zg λ_ _=>?_|refine zi λ_ _=>?_|(refine zC rfl (aLw _ hb hs hn hp) ?_;rintro _ w2 ⟨rfl,x2⟩))
 exact aC rfl ⟨congrArg Value.bool jI,x2⟩
theorem aYw {M:List Nat} {v:Value} {l:List ByteArray} {g:FuncId} {capl:List Value} {p:ByteArray→Bool} (w:World) (hb:cM Tryz.prog g=true) (hs:SlR lL M w v l) (hn:l.length≤1000000000000) (hp:rF g capl lL (fun cs=>cs.headD undef) M w l p):
  K.Spec Tryz.prog F.slices_IndexFunc_L_string_string [v,.func (.func g) #[] capl.toArray] w fun r w'=>r=.int .i64 (idxOf p l)∧Ext w w':=by
 refine mH rfl ?_
 unfold gD
 refine oy ?_
 repeat' (first|refine go1 ?_|refine zg λ_ _=>?_|refine zi λ_ _=>?_|refine zG rfl hs ?_|(refine aQ (fun (i:Nat) w'=>Ext w w'∧i≤l.length∧∀j,j<i→∀h:j<l.length,p l[j]=false) (fun i=> [(0,v),(1,.func (.func g) #[] capl.toArray),(6,v),(7,.int .i64 (l.length:Nat)),(8,.int .i64 i)]) (fun i=>l.length - i) 0 ⟨rfl,rfl,rfl,rfl,rfl,trivial⟩ ⟨Ext.refl _,by omega,by omega⟩ ?_;rintro i ρ w1 ⟨x1,hi,hk⟩)|refine zL rfl (fun h=>?_) (fun h=>?_)|(refine aL rfl rfl (hs.ext x1) rfl (by omega) (fun ad cs r1 he=>?_);have hq:cs= [Value.string l[i]]:=he;rw [hq] at r1 he)|refine mD rfl r1 (by rw [lL.len he];exact Nat.le_refl _) (tLe (by rw [lL.len he];exact Nat.le_refl _)) ?_|(refine eN rfl hb rfl (hp _ (gMe _) _ _ x1 he) ?_;rintro _ w2 ⟨rfl,x2⟩)|refine zM rfl (fun h2=>?_) (fun h2=>?_))
 ·exact aC rfl ⟨congrArg (Value.int .i64) (idxOf_hit (by omega) h2 (fun j hj=>hk j hj (by omega))).symm,by repeat (first|assumption|exact Ext.refl _|refine Ext.trans ?_ (by assumption))⟩
 ·refine ⟨i+1,⟨rfl,rfl,rfl,rfl,rfl,trivial⟩,⟨x1.trans x2,by omega,fun j hj hl=>?_⟩,by omega⟩
  by_cases hji:j=i
  ·subst hji;exact h2
  ·exact hk j (by omega) hl
 ·exact aC rfl ⟨congrArg (Value.int .i64) (idxOf_miss (fun j hj=>hk j (by omega) hj)).symm,x1⟩
theorem zZ {M:List Nat} {v:Value} {l:List ByteArray} {g:FuncId} {capl:List Value} {p:ByteArray→Bool} (w:World) (hb:cM Tryz.prog g=true) (hs:SlR lL M w v l) (hn:l.length≤1000000000000) (hp:rF g capl lL (fun cs=>cs.headD undef) M w l p):
  K.Spec Tryz.prog F.slices_ContainsFunc_L_string_string [v,.func (.func g) #[] capl.toArray] w fun r w'=>r=.bool (l.any p)∧Ext w w':=by
 refine lC rfl ?_
 unfold fG
 refine oy ?_
 repeat' (first|refine go1 ?_|refine zg λ_ _=>?_|refine zi λ_ _=>?_|(refine zC rfl (aYw _ hb hs hn hp) ?_;rintro _ w2 ⟨rfl,x2⟩))
 exact aC rfl ⟨congrArg Value.bool jI,x2⟩
end
section
open Go Go.K
attribute [local irreducible] aO aU bQ KOp.wp K.Spec leS vnS str aV
theorem aTo (x:TIn) (wv:Value) {M:List Nat} (w:World) (hw:SlR lL M w wv x.wit):K.Spec Tryz.prog F.tx_counts_1 [.agg (gO x wv).toArray] w fun r w'=>r=.bool (decide ((x.wit.length:Int)>4))∧Ext w w':=by
 refine aRa rfl ?_
 unfold aE9
 refine oy ?_
 repeat' (first|refine go1 ?_|refine zg λ_ _=>?_|refine zi λ_ _=>?_|(first|refine zD rfl rfl (fun bp wp xp ap rp hp0=>?_)|refine zE (fun _=>rfl) rfl rfl rfl (fun bq wq xq aq rq hq0=>?_))|refine zG rfl (by exact fx) ?_)
 exact aC rfl ⟨rfl,by exact fx⟩
theorem bA4 (s:ByteArray) (w:World):K.Spec Tryz.prog F.tx_long_1 [.string s] w fun r w'=>r=.bool (uG s)∧Ext w w':=by
 refine aYf rfl ?_
 unfold aMu
 refine oy ?_
 repeat (first|refine go ?_|refine zg λ_ _=>?_|refine zi λ_ _=>?_)
 exact aC rfl ⟨rfl,by exact fx⟩
theorem bDn (x:TOut) (w:World):K.Spec Tryz.prog F.tx_long_2 [.agg (fD x).toArray] w fun r w'=>r=.bool (aAl x)∧Ext w w':=by
 refine aVq rfl ?_
 unfold aMl
 refine oy ?_
 repeat (first|refine go1 ?_|refine zg λ_ _=>?_|refine zi λ_ _=>?_|(first|refine zD rfl rfl (fun bp wp xp ap rp hp0=>?_)|refine zE (fun _=>rfl) rfl rfl rfl (fun bq wq xq aq rq hq0=>?_)))
 exact aC rfl ⟨rfl,by exact fx⟩
theorem bH5:cM Tryz.prog F.tx_long_1=true:=by kernel_rfl
theorem bJm:cM Tryz.prog F.tx_long_2=true:=by kernel_rfl
theorem bGs:cM Tryz.prog F.tx_long_3=true:=by kernel_rfl
theorem bAr:cM Tryz.prog F.tx_counts_1=true:=by kernel_rfl
theorem bIi (x:TIn) (wv:Value) {M:List Nat} {b:Nat} (w:World) (hw:SlR lL M w wv x.wit) (hn:x.wit.length≤1000) (hb:Row w ⟨b,0,none⟩ [.func (.func F.tx_long_1) #[] #[]]):K.Spec Tryz.prog F.tx_long_3 [.agg (gO x wv).toArray,.pointer (some ⟨b,0,none⟩)] w fun r w'=>r=.bool (aLg x)∧Ext w w':=by
 refine aZp rfl ?_
 unfold aL9
 refine oy ?_
 repeat' (first|refine go1 ?_|refine zg λ_ _=>?_|refine zi λ_ _=>?_|(first|refine zD rfl rfl (fun bp wp xp ap rp hp0=>?_)|refine zE (fun _=>rfl) rfl rfl rfl (fun bq wq xq aq rq hq0=>?_))|(refine zC rfl (zZ (l:=x.wit) (M:=M) (g:=F.tx_long_1) (capl:= []) (p:=uG) _ bH5 (by exact fx) (by omega) ?_) ?_;rotate_left;rintro _ w2 ⟨rfl,x2⟩))
 ·exact aC rfl ⟨rfl,by exact fx⟩
 ·intro s _ w' cs x2 hc
  obtain rfl:cs= [Value.string s]:=hc
  exact bA4 s w'
theorem aTu {M:List Nat} {cs:List Value} {t:Tx} (w:World) (ht:txR.rel M w cs t) (hs:t.Sm):K.Spec Tryz.prog F.tx_counts [.agg cs.toArray] w fun r w'=>r=.bool (jR t)∧Ext w w':=by
 obtain ⟨iv,ov,rfl,hi,ho,hv,hl⟩:=ht
 have h1:=hs.ins
 refine aY4 rfl ?_
 unfold aMn
 refine oy ?_
 have tl:∀w1,Ext w w1→rF F.tx_counts_1 [] inR (fun cs=>.agg cs.toArray) M w1 t.ins fun x=>decide ((x.wit.length:Int)>4):=by
  intro w1 x1 x _ w' cs x2 hc
  obtain ⟨wv,rfl,hw,_⟩:=hc
  exact aTo x wv w' hw
 repeat' (first|refine go1 ?_|refine zg λ_ _=>?_|refine zi λ_ _=>?_|(first|refine zD rfl rfl (fun bp wp xp ap rp hp0=>?_)|refine zE (fun _=>rfl) rfl rfl rfl (fun bq wq xq aq rq hq0=>?_))|refine zG rfl (by exact fx) ?_|refine zK rfl (fun h=>?_) (fun h=>?_)|(refine zC rfl (pQ (l:=t.ins) (M:=M) (g:=F.tx_counts_1) (capl:= []) _ bAr (by exact fx) (by omega) (tl _ (by exact fx))) ?_;rintro _ w2 ⟨rfl,x2⟩))
 all_goals
  refine aC rfl ⟨congrArg Value.bool ?_,by exact fx⟩
  simp only [jR, *,Bool.true_and,Bool.false_and]
theorem bA2 {M:List Nat} {cs:List Value} {t:Tx} (w:World) (ht:txR.rel M w cs t) (hs:t.Sm):K.Spec Tryz.prog F.tx_long [.agg cs.toArray] w fun r w'=>r=.bool (aBe t)∧Ext w w':=by
 obtain ⟨iv,ov,rfl,hi,ho,hv,hl⟩:=ht
 have h1:=hs.ins
 have h2:=hs.outs
 refine bEs rfl ?_
 unfold aR8
 refine oy ?_
 have tl:∀w1,Ext w w1→rF F.tx_long_2 [] eX (fun cs=>.agg cs.toArray) M w1 t.outs aAl:=by
  intro w1 x1 x _ w' cs x2 hc
  obtain ⟨rfl,_⟩:=hc
  exact bDn x w'
 have tl2:∀w1 b,Row w1 ⟨b,0,none⟩ [.func (.func F.tx_long_1) #[] #[]]→rF F.tx_long_3 [.pointer (some ⟨b,0,none⟩)] inR (fun cs=>.agg cs.toArray) M w1 t.ins aLg:=by
  intro w1 b hb x hx w' cs x2 hc
  obtain ⟨wv,rfl,hw,_⟩:=hc
  exact bIi x wv w' hw (hs.wit x hx) (hb.ext x2)
 repeat' (first|refine go1 ?_|refine zg λ_ _=>?_|refine zi λ_ _=>?_|(first|refine zD rfl rfl (fun bp wp xp ap rp hp0=>?_)|refine zE (fun _=>rfl) rfl rfl rfl (fun bq wq xq aq rq hq0=>?_))|refine zG rfl (by exact fx) ?_|refine zK rfl (fun h=>?_) (fun h=>?_)|refine zH (fun b w1 x1 a1 hb=>?_)|(refine aSf rfl rfl rfl a1 (by simp) (fun w2 c2 a2=>?_);have x2:=(x1.chg c2).mono (l':= []) (by simp;omega);have r2:=Row.of_at a2)|(refine zC rfl (bAe (l:=t.outs) (M:=M) (g:=F.tx_long_2) (capl:= []) _ bJm (by exact fx) (by omega) (tl _ (by exact fx))) ?_;rintro _ w3 ⟨rfl,x3⟩)|(refine zC rfl (pQ (l:=t.ins) (M:=M) (g:=F.tx_long_3) (capl:= [_]) _ bGs (by exact fx) (by omega) (tl2 _ _ (by exact fx))) ?_;rintro _ w4 ⟨rfl,x4⟩))
 all_goals
  refine aC rfl ⟨congrArg Value.bool ?_,by exact fx⟩
  simp only [aBe, *,Bool.true_or,Bool.false_or]
theorem aTv {M : List Nat} {cs : List Value} {t : Tx} (w : World) (ht : txR.rel M w cs t) (hs : t.Sm) : K.Spec Tryz.prog F.tx_formed [.agg cs.toArray] w fun r w' => r = .bool (jN t) ∧ Ext w w' := by
  obtain ⟨iv, ov, rfl, hi, ho, hv, hl⟩ := ht
  have h1 := hs.ins
  refine aWz rfl ?_
  unfold aLp
  refine oy ?_
  have bad : ∀ i (h : i < t.ins.length), yB t t.ins[i] = true → jN t = false := fun i h hb => by
    rw [jN, List.any_eq_true.2 ⟨_, gMe h, hb⟩]; rfl
  have good : (∀ i (h : i < t.ins.length), yB t t.ins[i] = false) → jN t = true := fun hg => by
    rw [jN, List.any_eq_false.2 (fun x hx => by
      obtain ⟨i, h, rfl⟩ := List.getElem_of_mem hx
      rw [hg i h]; simp)]; rfl
  repeat' (first|refine go1 ?_|refine zg λ_ _=>?_|refine zi λ_ _=>?_|(first|refine zD rfl rfl (fun bp wp xp ap rp hp0=>?_)|refine zE (fun _=>rfl) rfl rfl rfl (fun bq wq xq aq rq hq0=>?_))|refine zG rfl (by exact fx) ?_|refine zB ?_ ?_|refine zL rfl (fun h => ?_) (fun h => ?_)|refine zK rfl (fun h => ?_) (fun h => ?_)|refine zM rfl (fun h => ?_) (fun h => ?_)|(refine aQ (fun (i : Nat) w' => Ext wp w' ∧ i ≤ t.ins.length ∧ ∀ j, j < i → ∀ h : j < t.ins.length, yB t t.ins[j] = false) (fun i => [(1, .pointer (some ⟨bp, 0, none⟩)), (6, iv), (7, .int .i64 (t.ins.length : Nat)), (8, .int .i64 i)]) (fun i => t.ins.length - i) 0 ⟨rfl, rfl, rfl, rfl, trivial⟩ ⟨by exact fx, by omega, by omega⟩ ?_; rintro i ρ w1 ⟨x1, hi1, hk⟩)|(refine aL rfl rfl (n := i) (l := t.ins) (by exact fx) rfl (by omega) (fun ad cs r2 he => ?_); obtain ⟨wv, rfl, hw, _⟩ := he; obtain ⟨_, _, rfl⟩ := hw.form; have hil : i < t.ins.length := by omega)|(refine zC rfl (aSj _) ?_; rintro _ w3 ⟨rfl, x3⟩))
  all_goals first
    | (refine aC rfl ⟨congrArg Value.bool (bad i hil ?_).symm, by exact fx⟩; simp_all [yB, mP]; done)
    | exact aC rfl ⟨congrArg Value.bool (good fun j hj => hk j (by omega) hj).symm, by exact fx⟩
    | (refine ⟨i + 1, ⟨rfl, rfl, rfl, rfl, trivial⟩, ⟨by exact fx, by omega, fun j hj hl => ?_⟩, by omega⟩
       by_cases hji : j = i
       · subst hji; simp_all [yB, mP]; done
       · exact hk j (by omega) hl)
theorem aZf {M : List Nat} {cs : List Value} {t : Tx} (w : World) (ht : txR.rel M w cs t) (hs : t.Sm) : K.Spec Tryz.prog F.tx_twice [.agg cs.toArray] w fun r w' => r = .bool (yY t) ∧ Ext w w' := by
  obtain ⟨iv, ov, rfl, hi, ho, hv, hl⟩ := ht
  have h1 := hs.ins
  refine bBo rfl ?_
  unfold aQw
  refine oy ?_
  have hpl : (bK t).length = t.ins.length := by simp [bK]
  have hpg : ∀ i (h : i < t.ins.length), (bK t)[i]'(by rw [hpl]; exact h) = t.ins[i].p := fun i h => by simp [bK]
  have bnd : ∀ {i : Nat} {m : List (Pt × Nat)} {q : Pt}, (∀ p, aS m p = if ((bK t).take i).contains p then some 1 else none) → ∀ v, (aS m q = some v ∨ v ≤ (aS m q).getD 0 + 1) → ∃ _ : v ≤ 2, True := by
    intro i m q hk v h
    rw [hk q] at h
    refine ⟨?_, trivial⟩
    cases hc : ((bK t).take i).contains q <;> rw [hc] at h <;> simp at h <;> omega
  have key : ∀ {i : Nat} {m : List (Pt × Nat)} (h : i < t.ins.length), wT ((bK t).take i).reverse = false → (∀ p, aS m p = if ((bK t).take i).contains p then some 1 else none) →
      ((((aS m t.ins[i].p).getD 0 + 1 : Nat) : Int) > 1 → yY t = true) ∧ (¬ (((aS m t.ins[i].p).getD 0 + 1 : Nat) : Int) > 1 → wT ((bK t).take (i + 1)).reverse = false ∧ ∀ p, aS (fN m t.ins[i].p ((aS m t.ins[i].p).getD 0 + 1)) p = if ((bK t).take (i + 1)).contains p then some 1 else none) := by
    intro i m h hd hk
    have hil : i < (bK t).length := by rw [hpl]; exact h
    have ht := aLh hil
    rw [hpg i h, hd, Bool.or_false] at ht
    rw [hk t.ins[i].p]
    cases hc : ((bK t).take i).contains t.ins[i].p with
    | true =>
      rw [hc] at ht
      exact ⟨fun _ => aRr ht, fun hn => absurd (by decide) hn⟩
    | false =>
      rw [hc] at ht
      refine ⟨fun hg => absurd hg (by decide), fun _ => ⟨ht, fun p => ?_⟩⟩
      rw [aDa, hk p, List.take_succ_eq_append_getElem hil, hpg i h]
      by_cases hp : t.ins[i].p = p
      · subst hp; simp
      · rw [if_neg hp]
        have : p ≠ t.ins[i].p := fun e => hp e.symm
        simp [this]
  repeat' (first|refine go1 ?_|refine zg λ_ _=>?_|refine zi λ_ _=>?_|(first|refine zD rfl rfl (fun bp wp xp ap rp hp0=>?_)|refine zE (fun _=>rfl) rfl rfl rfl (fun bq wq xq aq rq hq0=>?_))|refine zG rfl (by exact fx) ?_|refine zB ?_ ?_|refine zL rfl (fun h => ?_) (fun h => ?_)|refine kI (E := ptK) (fv := fun n : Nat => Value.int .i64 (n : Nat)) (fun mb wm xm hm hmb => ?_)|(refine aQ (fun (s : Nat × List (Pt × Nat)) w' => Ext w w' ∧ s.1 ≤ t.ins.length ∧ dW ptK (fun n : Nat => Value.int .i64 (n : Nat)) w' mb s.2 ∧ wT ((bK t).take s.1).reverse = false ∧ ∀ p, aS s.2 p = if ((bK t).take s.1).contains p then some 1 else none) (fun s => [(1, .pointer (some ⟨bp, 0, none⟩)), (3, .map (some mb)), (8, iv), (9, .int .i64 (t.ins.length : Nat)), (10, .int .i64 s.1)]) (fun s => t.ins.length - s.1) (0, []) ⟨rfl, rfl, rfl, rfl, rfl, trivial⟩ ⟨by exact fx, by simp, hm, by simp [wT], by simp [aS]⟩ ?_; rintro ⟨i, m⟩ ρ w1 ⟨x1, hi1, hM, hd, hk⟩; simp only at hi1 hM hd hk; dsimp only)|(refine aL rfl rfl (n := i) (l := t.ins) (by exact fx) rfl (by omega) (fun ad cs r2 he => ?_); obtain ⟨wv, rfl, hw, _⟩ := he; obtain ⟨_, _, rfl⟩ := hw.form; have hil : i < t.ins.length := by omega)|(refine aU8 (E := ptK) (fv := fun n : Nat => Value.int .i64 (n : Nat)) (k := t.ins[i].p) 0 rfl rfl rfl (by exact fx) rfl rfl (fun st w4 c4 hP hQ => ?_); have r4 := Row.chg c4 (ad := ⟨bq, 0, none⟩) (by exact fx) (by have := hM.lt; simp; omega))|(apply eR (E := ptK) (fv := fun n : Nat => Value.int .i64 (n : Nat)) (k := t.ins[i].p) rfl rfl; (focus(exact fx)); (focus rfl); (focus rfl))|(intro v hv; obtain ⟨hv1, _⟩ := bnd (q := t.ins[i].p) hk v (by first|exact .inl hv|(rw [aDa, if_pos rfl] at hv; cases hv; exact .inr (by omega))))|intro hv|(refine aEy (E := ptK) (fv := fun n : Nat => Value.int .i64 (n : Nat)) (k := t.ins[i].p) (v := (aS m t.ins[i].p).getD 0 + 1) rfl rfl (by first|(rw [aDa, if_pos rfl] at hv; first|(cases hv; rfl)|cases hv)|(rw [hv]; rfl)) (by exact fx) (fun w5 c5 hM5 => ?_); have r5 := Row.chg c5 r4 (by have := hM.lt; simp; omega)))
  all_goals first
    | (refine aC rfl ⟨congrArg Value.bool ?_, x1⟩
       have e : (bK t).take i = bK t := tLe (by rw [hpl]; omega)
       rw [e] at hd; rw [yY, hd]; done)
    | (rw [aDa, if_pos rfl] at hv; cases hv; done)
    | (have x5 : Ext w w5 := by
         have h6 := hM.lt
         have h8 := xp.size
         have h7 := ((x1.trans xq).trans (by assumption)).chg (c4.trans c5)
         exact h7.mono (by intro y hy; simp at hy; right; omega)
       rw [aDa, if_pos rfl] at hv
       simp only [Option.some.injEq] at hv
       subst hv
       first
       | exact aC rfl ⟨congrArg Value.bool ((key hil hd hk).1 h).symm, x5⟩
       | exact ⟨(i + 1, _), ⟨rfl, rfl, rfl, rfl, rfl, trivial⟩, ⟨x5, by simp; omega, hM5, (key hil hd hk).2 h⟩, by simp; omega⟩)
    | trace_state
end
section
open Go Go.K
attribute [local irreducible] aO aU bQ KOp.wp K.Spec leS vnS str aV
theorem aC5 {M:List Nat} {cs:List Value} {t:Tx} (w:World) (ht:txR.rel M w cs t) (hs:t.Sm):K.Spec Tryz.prog F.tx_Total [.agg cs.toArray] w fun r w'=>r=.tuple #[.int .i64 (fX (values t)),.int .i64 (kB (values t))]∧Ext w w':=by
 obtain ⟨iv,ov,rfl,hi,ho,hv,hl⟩:=ht
 have h1:=hs.outs
 refine bBl rfl ?_
 unfold aOw
 refine oy ?_
 repeat' (first|refine go1 ?_|refine zg λ_ _=>?_|refine zi λ_ _=>?_|(first|refine zD rfl rfl (fun bp wp xp ap rp hp0=>?_)|refine zE (fun _=>rfl) rfl rfl rfl (fun bq wq xq aq rq hq0=>?_))|refine zG rfl (by exact fx) ?_|refine zL rfl (fun h=>?_) (fun h=>?_)|(refine aQ (fun (s:Nat × Value) w'=>Ext wp w'∧s.1≤t.outs.length∧Own aJf T.int wp.heap.size w' s.2 ((values t).take s.1)) (fun s=> [(4,s.2),(8,ov),(9,.int .i64 (t.outs.length:Nat)),(10,.int .i64 s.1)]) (fun s=>t.outs.length - s.1) (0,.slice none 0 0) ⟨rfl,rfl,rfl,rfl,trivial⟩ ⟨by exact fx,by simp,Own.nil _ _ _⟩ ?_;rintro ⟨i,vo⟩ ρ w1 ⟨x1,hi1,hO⟩;simp only at hi1 hO;dsimp only)|(refine aL rfl rfl (n:=i) (l:=t.outs) (by exact fx) rfl (by omega) (fun ad cs r2 he=>?_);obtain ⟨rfl,_⟩:=he;have hil:i<t.outs.length:=by omega)|refine zI rfl (fun b w3 x3 a3 hb=>?_)|refine cK (E:=aJf) (v:=vo) (l2:= [t.outs[i].v]) rfl (hO.ext (by exact fx)) (Ext.size (w:=wp) (by exact fx)) rfl rfl (eS a3 rfl) rfl rfl (by simp;omega) (fun vo' w4 ho4 c4=>?_)|(refine zC rfl (aH8 (l:=(values t).take i) _ hO.sl (by simp;omega)) ?_;rintro _ _ ⟨rfl,rfl⟩))
 ·refine ⟨(i+1,vo'),⟨rfl,rfl,rfl,rfl,trivial⟩,⟨(Chg.ext (l:= []) (Ext.chg (w:=wp) (by exact fx) c4 |>.mono (fun b hb=>.inr (hO.base b (by simpa using hb)))) (Ext.refl _)),by simp;omega,?_⟩,by simp;omega⟩
  have e:(values t).take (i+1)=(values t).take i++ [t.outs[i].v]:=by
   rw [List.take_succ_eq_append_getElem (by simpa [values] using hil)];simp [values]
  show Own _ _ _ _ _ ((values t).take (i+1))
  rw [e];exact ho4
 ·have e:(values t).take i=values t:=tLe (by simp [values];omega)
  refine aC rfl ⟨?_,xp.trans x1⟩
  show Value.tuple #[.int .i64 (fX ((values t).take i)),.int .i64 (kB ((values t).take i))]=_
  rw [e]
theorem aC7 {M:List Nat} {cs:List Value} {t:Tx} (w:World) (ht:txR.rel M w cs t) (hs:t.Sm):K.Spec Tryz.prog F.tx_Check [.agg cs.toArray] w fun r w'=>r=.int .i64 (aG t)∧Ext w w':=by
 have ht0:=ht
 obtain ⟨iv,ov,rfl,hi,ho,hv,hl⟩:=ht
 refine aZ3 rfl ?_
 unfold aPv
 refine oy ?_
 repeat' (first|refine go1 ?_|refine zg λ_ _=>?_|refine zi λ_ _=>?_|(first|refine zD rfl rfl (fun bp wp xp ap rp hp0=>?_)|refine zE (fun _=>rfl) rfl rfl rfl (fun bq wq xq aq rq hq0=>?_))|refine zM rfl (fun h=>?_) (fun h=>?_)|(refine zC rfl (aC5 (M:=M) _ (cs:=aK t iv ov) (by exact fx) hs) ?_;rintro _ w1 ⟨rfl,x1⟩)|(refine zC rfl (aTu (M:=M) _ (cs:=aK t iv ov) (by exact fx) hs) ?_;rintro _ w2 ⟨rfl,x2⟩)|(refine zC rfl (bA2 (M:=M) _ (cs:=aK t iv ov) (by exact fx) hs) ?_;rintro _ w3 ⟨rfl,x3⟩)|(refine zC rfl (aTv (M:=M) _ (cs:=aK t iv ov) (by exact fx) hs) ?_;rintro _ w4 ⟨rfl,x4⟩)|(refine zC rfl (aZf (M:=M) _ (cs:=aK t iv ov) (by exact fx) hs) ?_;rintro _ w5 ⟨rfl,x5⟩))
 all_goals
  refine aC rfl ⟨congrArg (Value.int .i64) ?_,by exact fx⟩
  simp_all [aG]
theorem bCi {α:Type} {l:List α} {d:α} (h:0<l.length):l.headD d=l[0]:=by
 cases l with
 |nil=>cases h
 |cons x l=>rfl
theorem aP7 {M : List Nat} {cs : List Value} {t : Tx} (w : World) (ht : txR.rel M w cs t) (hs : t.Sm) : K.Spec Tryz.prog F.tx_Base [.agg cs.toArray] w fun r w' => r = .bool (aX t) ∧ Ext w w' := by
  obtain ⟨iv, ov, rfl, hi, ho, hv, hl⟩ := ht
  have h1 := hs.ins
  refine bF1 rfl ?_
  unfold aTj
  refine oy ?_
  repeat' (first|refine go1 ?_|refine zg λ_ _=>?_|refine zi λ_ _=>?_|(first|refine zD rfl rfl (fun bp wp xp ap rp hp0=>?_)|refine zE (fun _=>rfl) rfl rfl rfl (fun bq wq xq aq rq hq0=>?_))|refine zG rfl (by exact fx) ?_|refine zB ?_ ?_|refine zJ rfl (fun h => ?_) (fun h => ?_)|(refine aL rfl rfl (n := 0) (l := t.ins) (by exact fx) rfl (by have h : (t.ins.length : Int) = 1 := h; omega) (fun ad cs r2 he => ?_); obtain ⟨wv, rfl, hw, _⟩ := he; obtain ⟨_, _, rfl⟩ := hw.form)|(refine zC rfl (aSj _) ?_; rintro _ w3 ⟨rfl, x3⟩))
  all_goals refine aC rfl ⟨congrArg Value.bool ?_, by exact fx⟩
  all_goals rw [aX]
  all_goals by_cases hl : t.ins.length = 1
  all_goals first
    | (rw [dFa hl]; first | rfl | exact absurd (show (t.ins.length : Int) = 1 from h) (by omega))
    | exact absurd (show ¬ (t.ins.length : Int) = 1 from h) (by omega)
    | (rw [bCi (by omega), dTr hl, Bool.true_and, mP]
       simp only [Bool.false_eq_true, if_false, Bool.and_true])
end
end Go.Proofs.YtfebcajheojodaaGreatDoor
namespace Go.K
section
open Go
def yO (n:Int):Nat:=(n%18446744073709551616).toNat
theorem bDd (n:Int):yO n<18446744073709551616:=by unfold yO;omega
theorem aR1 (n:Int):IntKind.u64.wrap n=(yO n:Nat):=by
 have h:IntKind.u64.wrap n=n%18446744073709551616:=rfl
 rw [h,yO];omega
def eC {α:Type} (f:α→ByteArray) (l:List α):ByteArray:=(l.map f).foldl (·++·) ⟨#[]⟩
theorem tS {α:Type} (f:α→ByteArray):eC f []=⟨#[]⟩:=rfl
theorem bFj {α:Type} (f:α→ByteArray) (l:List α) (x:α):eC f (l++ [x])=eC f l++f x:=by simp [eC]
theorem iM {α:Type} (f:α→ByteArray) {l:List α} {i:Nat} (h:i<l.length):eC f (l.take (i+1))=eC f (l.take i)++f l[i]:=by
 rw [List.take_succ_eq_append_getElem h,bFj]
theorem pW {α:Type} (f:α→ByteArray) (c:Nat):∀l:List α,(∀x∈l,(f x).size≤c)→(eC f l).size≤c*l.length:=by
 intro l h
 suffices hs:∀n,n≤l.length→(eC f (l.take n)).size≤c*n by
  have:=hs l.length (Nat.le_refl _)
  rwa [List.take_length] at this
 intro n
 induction n with
 |zero=>intro _;exact Nat.zero_le _
 |succ n ih=>
  intro hn
  rw [iM f (by omega),ByteArray.size_append,Nat.mul_succ]
  have h1:=ih (by omega)
  have h2:=h l[n] (gMe _)
  omega
def rE (x:TIn):ByteArray:=x.p.s++leS (yO x.p.i) 4++vnS 0++leS (yO x.q) 4
def nL (x:TOut):ByteArray:=leS (yO x.v) 8++(vnS x.s.size++x.s)
def sD (s:ByteArray):ByteArray:=vnS s.size++s
def kG (x:TIn):ByteArray:=vnS x.wit.length++eC sD x.wit
def aHn (b:Bool) (t:Tx):ByteArray:=leS (yO t.ver) 4++(if b then leS 0 1++leS 1 1 else ⟨#[]⟩)
def enc1 (b:Bool) (t:Tx):ByteArray:=aHn b t++vnS t.ins.length
def enc2 (b:Bool) (t:Tx):ByteArray:=enc1 b t++eC rE t.ins++vnS t.outs.length
def enc3 (b:Bool) (t:Tx):ByteArray:=enc2 b t++eC nL t.outs
def enc4 (b:Bool) (t:Tx):ByteArray:=enc3 b t++(if b then eC kG t.ins else ⟨#[]⟩)
def cD (b:Bool) (t:Tx):ByteArray:=enc4 b t++leS (yO t.lock) 4
def aIb (t:Tx):Bool:=t.ins.any fun x=>decide ((x.wit.length:Int)>0)
structure Tx.Sz (t:Tx):Prop where
 ins:t.ins.length≤256
 outs:t.outs.length≤256
 ids:∀x∈t.ins,x.p.s.size≤100
 wit:∀x∈t.ins,x.wit.length≤100
 item:∀x∈t.ins,∀s∈x.wit,s.size≤100
 scr:∀x∈t.outs,x.s.size≤100
section
variable {t:Tx} (h:t.Sz)
include h
theorem Tx.Sz.sm:t.Sm:=⟨by have:=h.ins;omega,by have:=h.outs;omega,fun x hx=>by have:=h.wit x hx;omega⟩
omit h in
theorem Tx.Sz.head (b:Bool):(aHn b t).size≤6:=by
 unfold aHn
 rw [ByteArray.size_append,cR]
 cases b
 ·exact (by decide:4+0≤6)
 ·rw [if_pos rfl,ByteArray.size_append,cR,cR];omega
omit h in
theorem Tx.Sz.e1 (b:Bool):(enc1 b t).size≤15:=by
 have:=Tx.Sz.head (t:=t) b;have:=dY t.ins.length
 simp only [enc1,ByteArray.size_append];omega
theorem Tx.Sz.in1 {x:TIn} (hx:x∈t.ins):(rE x).size≤200:=by
 have:=h.ids x hx;have:=dY 0
 simp only [rE,ByteArray.size_append,cR];omega
theorem Tx.Sz.inC (i:Nat):(eC rE (t.ins.take i)).size≤51200:=by
 have h1:=pW rE 200 (t.ins.take i) fun x hx=>h.in1 (List.mem_of_mem_take hx)
 have:=h.ins
 rw [List.length_take] at h1;omega
theorem Tx.Sz.e2 (b:Bool):(enc2 b t).size≤52000:=by
 have:=Tx.Sz.e1 (t:=t) b;have hc:=h.inC t.ins.length;have:=dY t.outs.length
 rw [List.take_length] at hc
 simp only [enc2,ByteArray.size_append];omega
theorem Tx.Sz.out1 {x:TOut} (hx:x∈t.outs):(nL x).size≤200:=by
 have:=h.scr x hx;have:=dY x.s.size
 simp only [nL,ByteArray.size_append,cR];omega
theorem Tx.Sz.outC (i:Nat):(eC nL (t.outs.take i)).size≤51200:=by
 have h1:=pW nL 200 (t.outs.take i) fun x hx=>h.out1 (List.mem_of_mem_take hx)
 have:=h.outs
 rw [List.length_take] at h1;omega
theorem Tx.Sz.e3 (b:Bool):(enc3 b t).size≤104000:=by
 have:=h.e2 b;have:=h.outC t.outs.length
 rw [List.take_length] at this
 simp only [enc3,ByteArray.size_append];omega
theorem Tx.Sz.itemC {x:TIn} (hx:x∈t.ins) (i:Nat):(eC sD (x.wit.take i)).size≤11000:=by
 have h1:=pW sD 110 (x.wit.take i) fun s hs=>by
  have:=h.item x hx s (List.mem_of_mem_take hs);have:=dY s.size
  simp only [sD,ByteArray.size_append];omega
 have:=h.wit x hx
 rw [List.length_take] at h1;omega
theorem Tx.Sz.wit1 {x:TIn} (hx:x∈t.ins):(kG x).size≤12000:=by
 have hc:=h.itemC hx x.wit.length;have:=dY x.wit.length
 rw [List.take_length] at hc
 simp only [kG,ByteArray.size_append];omega
theorem Tx.Sz.witC (i:Nat):(eC kG (t.ins.take i)).size≤3072000:=by
 have h1:=pW kG 12000 (t.ins.take i) fun x hx=>h.wit1 (List.mem_of_mem_take hx)
 have:=h.ins
 rw [List.length_take] at h1;omega
theorem Tx.Sz.e4 (b:Bool):(enc4 b t).size≤3200000:=by
 have:=h.e3 b;have:=h.witC t.ins.length
 rw [List.take_length] at this
 rw [enc4,ByteArray.size_append]
 cases b
 ·rw [if_neg (by decide)]
  have h0:(⟨#[]⟩:ByteArray).size=0:=rfl
  rw [h0];omega
 ·rw [if_pos rfl];omega
end
end
end Go.K
namespace Go.Proofs.YtfebcajheojodaaGreatDoor
section
open Go Go.K
attribute [local irreducible] aO aU bQ KOp.wp K.Spec leS vnS str aV eC
theorem bAs (x:TIn) (wv:Value) {M:List Nat} (w:World) (hw:SlR lL M w wv x.wit):K.Spec Tryz.prog F.wire_witnessed_1 [.agg (gO x wv).toArray] w fun r w'=>r=.bool (decide ((x.wit.length:Int)>0))∧Ext w w':=by
 refine aF0 rfl ?_
 unfold sT
 refine oy ?_
 repeat' (first|refine go1 ?_|refine zg λ_ _=>?_|refine zi λ_ _=>?_|(first|refine zD rfl rfl (fun bp wp xp ap rp hp0=>?_)|refine zE (fun _=>rfl) rfl rfl rfl (fun bq wq xq aq rq hq0=>?_))|refine zG rfl (by exact fx) ?_)
 exact aC rfl ⟨rfl,by exact fx⟩
theorem bL0:cM Tryz.prog F.wire_witnessed_1=true:=by kernel_rfl
theorem jM:cM Tryz.prog F.wire_encode_1=true:=by kernel_rfl
theorem bFd {M:List Nat} {cs:List Value} {t:Tx} (w:World) (ht:txR.rel M w cs t) (hs:t.Sm):K.Spec Tryz.prog F.wire_witnessed [.agg cs.toArray] w fun r w'=>r=.bool (aIb t)∧Ext w w':=by
 obtain ⟨iv,ov,rfl,hi,ho,hv,hl⟩:=ht
 have h1:=hs.ins
 refine aLe rfl ?_
 unfold xS
 refine oy ?_
 have tl:∀w1,Ext w w1→rF F.wire_witnessed_1 [] inR (fun cs=>.agg cs.toArray) M w1 t.ins fun x=>decide ((x.wit.length:Int)>0):=by
  intro w1 x1 x _ w' cs x2 hc
  obtain ⟨wv,rfl,hw,_⟩:=hc
  exact bAs x wv w' hw
 repeat' (first|refine go1 ?_|refine zg λ_ _=>?_|refine zi λ_ _=>?_|(first|refine zD rfl rfl (fun bp wp xp ap rp hp0=>?_)|refine zE (fun _=>rfl) rfl rfl rfl (fun bq wq xq aq rq hq0=>?_))|(refine zC rfl (pQ (l:=t.ins) (M:=M) (g:=F.wire_witnessed_1) (capl:= []) _ bL0 (by exact fx) (by omega) (tl _ (by exact fx))) ?_;rintro _ w2 ⟨rfl,x2⟩))
 exact aC rfl ⟨rfl,by exact fx⟩
theorem fJ {B b:Nat} {a:ByteArray} (n:Int) (k:Nat) (hk:k=1∨k=2∨k=4∨k=8) (w:World) (h:uL B b a w) (hl:a.size≤90000000):K.Spec Tryz.prog F.wire_encode_1 [.int .u64 (IntKind.u64.wrap n),.int .i64 (k:Nat),.pointer (some ⟨b,0,none⟩)] w fun _ w'=>uL B b (a++leS (yO n) k) w'∧WrT B b w w'∧(a++leS (yO n) k).size≤a.size+1000000:=by
 rw [aR1]
 refine aM9 rfl ?_
 unfold aA8
 refine oy ?_
 have hkk:k≤8:=by omega
 repeat' (first|refine go1 ?_|refine zg λ_ _=>?_|refine zi λ_ _=>?_|(refine zC rfl (aDm _ k hk (bDd n) _) ?_;rintro _ w1 ⟨rfl,x1⟩)|(refine zC rfl (aTp _ _ (h.ext x1) (by rw [cR];omega)) ?_;rintro _ w2 ⟨h2,r2⟩))
 exact bOx rfl ⟨h2,(Wr.of_ext x1 h.1).trans r2,by rw [ByteArray.size_append,cR];omega⟩
theorem jH {f:FuncId} {al:List Value} {w:World} {R R':Value→World→Prop} (h:K.Spec Tryz.prog f al w R) (k:∀v w',R v w'→R' v w'):K.Spec Tryz.prog f al w R':=
 by unfold K.Spec at h ⊢;exact h.mono fun e w' ⟨v,he,hr⟩=>⟨v,he,k v w' hr⟩
theorem fO {B b:Nat} {a:ByteArray} (s:ByteArray) (w:World) (h:uL B b a w) (hl:a.size≤90000000) (hs:s.size≤1000000):K.Spec Tryz.prog F.strings_Builder_WriteString [.pointer (some ⟨b,0,none⟩),.string s] w fun _ w'=>uL B b (a++s) w'∧WrT B b w w'∧(a++s).size≤a.size+1000000:=
 jH (aTp s w h (by omega)) fun v w' ⟨h1,h2⟩=>⟨h1,h2,by rw [ByteArray.size_append];omega⟩
theorem aL3 (n:Nat):(vnS n).size≤1000000:=by have:=dY n;omega
theorem aIk {s:ByteArray} (h:s.size≤100):(vnS s.size++s).size≤1000000:=by have:=dY s.size;rw [ByteArray.size_append];omega
section
variable {P:Program} {d:Option Tmp} {r:KR} {K:Env→World→Prop} {ρ:Env} {w w0:World} {α:Type} {E:R α} {M:List Nat} {v:Value} {l:List α}
theorem aDw {size:Nat} {x i:Operand} {kd:IntKind} {n:Nat} (x0:Ext w0 w) (hx:ev ρ x=v) (hi:ev ρ i=.int kd (n:Nat)) (hs:SlR E M w0 v l) (hk:size=E.k) (hr:n<l.length)
  (k:∀ad cs,Row w ad cs→E.rel M w0 cs l[n]→aO P r K (put ρ d (.pointer (some ad))) w):aO P (.cons ⟨d,.indexAddr size x i,none⟩ r) K ρ w:=by
 obtain ⟨css,h1,h2,_⟩:=hs
 have hr':n<css.length:=by rw [h2.length];exact hr
 exact aT (E:=qN E.k E.pos) hx hi (SlE.ext x0 h1) hk hr' fun ad hrow=>k ad _ hrow (h2.get n hr' hr)
end
theorem aMo (a:ByteArray):a++⟨#[]⟩=a:=ByteArray.append_empty
theorem bCl (a:ByteArray):⟨#[]⟩++a=a:=ByteArray.empty_append
theorem xD {B b:Nat} {a a':ByteArray} {w:World} (e:a=a') (h:uL B b a w):uL B b a' w:=e▸h
theorem bJo {α:Type} (a:ByteArray) (f:α→ByteArray) (l:List α):a=a++eC f (l.take 0):=by rw [List.take_zero,tS,aMo]
theorem e1F (t:Tx):(⟨#[]⟩++leS (yO t.ver) 4)++vnS t.ins.length=enc1 false t++eC rE (t.ins.take 0):=by
 rw [List.take_zero,tS,aMo,enc1,aHn,if_neg (by decide),aMo,bCl]
theorem e1T (t:Tx):(((⟨#[]⟩++leS (yO t.ver) 4)++leS (yO 0) 1)++leS (yO 1) 1)++vnS t.ins.length=enc1 true t++eC rE (t.ins.take 0):=by
 rw [List.take_zero,tS,aMo,enc1,aHn,if_pos rfl,bCl,←ByteArray.append_assoc];rfl
theorem bK8 (wb:Bool) (t:Tx) (i:Nat) (h:t.ins.length≤i):(enc1 wb t++eC rE (t.ins.take i))++vnS t.outs.length=enc2 wb t++eC nL (t.outs.take 0):=by
 rw [tLe h,List.take_zero,tS,aMo];rfl
theorem bO7 (wb:Bool) (t:Tx) (i:Nat) (h:t.outs.length≤i):enc2 wb t++eC nL (t.outs.take i)=enc3 wb t++eC kG (t.ins.take 0):=by
 rw [tLe h,List.take_zero,tS,aMo];rfl
set_option maxHeartbeats 4000000 in
theorem aMg {M:List Nat} {cs:List Value} {t:Tx} (wb:Bool) (w:World) (ht:txR.rel M w cs t) (hs:t.Sz):K.Spec Tryz.prog F.wire_encode [.agg cs.toArray,.bool wb] w fun r w'=>r=.string (cD wb t)∧Ext w w':=by
 obtain ⟨iv,ov,rfl,hi,ho,hv,hl⟩:=ht
 have g1:=hs.ins
 have g2:=hs.outs
 have u1:=fun wb=>Tx.Sz.e1 (t:=t) wb
 have u2:=hs.e2
 have u3:=hs.e3
 have u4:=hs.e4
 have uI:∀wb i,(enc1 wb t++eC rE (t.ins.take i)).size≤60000:=fun wb i=>by have:=u1 wb;have:=hs.inC i;rw [ByteArray.size_append];omega
 have uO:∀wb i,(enc2 wb t++eC nL (t.outs.take i)).size≤150000:=fun wb i=>by have:=u2 wb;have:=hs.outC i;rw [ByteArray.size_append];omega
 have uW:∀wb i,(enc3 wb t++eC kG (t.ins.take i)).size≤3300000:=fun wb i=>by have:=u3 wb;have:=hs.witC i;rw [ByteArray.size_append];omega
 have uK:∀wb a (h:a<t.ins.length) k,(enc3 wb t++eC kG (t.ins.take a)++vnS t.ins[a].wit.length++eC sD (t.ins[a].wit.take k)).size≤3500000:=fun wb a h k=>by
  have:=u3 wb;have:=hs.witC a;have:=hs.itemC (gMe h) k;have:=dY t.ins[a].wit.length
  rw [ByteArray.size_append,ByteArray.size_append,ByteArray.size_append];omega
 refine aQ0 rfl ?_
 unfold aE2
 refine oy ?_
 repeat' (first|refine go1 ?_|refine zg λ_ _=>?_|refine zi λ_ _=>?_|(refine zE (fun _=>rfl) rfl rfl rfl (fun bc wc xc ac rc hc0=>?_);have hne:bc≠b:=(by have:=hW.lt;omega))|(first|refine zD rfl rfl (fun bp wp xp ap rp hp0=>?_)|refine zE (fun _=>rfl) rfl rfl rfl (fun bq wq xq aq rq hq0=>?_))|refine zG rfl (by exact fx) ?_|refine zL rfl (fun h=>?_) (fun h=>?_)|(refine zM rfl (fun h=>?_) (fun h=>?_)<;>subst h)|(refine zH (fun b w0 x0 a0 hb0=>?_);have hW:uL b b ⟨#[]⟩ w0:=(Bld.new (Nat.le_refl _) a0);have hS:(⟨#[]⟩:ByteArray).size≤0:=(Nat.le_refl _))|(refine aQ (fun (i:Nat) w'=>Ext wp w'∧i≤t.ins.length∧uL b b (enc1 true t++eC rE (t.ins.take i)) w') (fun i=> [(1,.bool true),(2,.pointer (some ⟨bp,0,none⟩)),(5,.pointer (some ⟨b,0,none⟩)),(6,.func (.func F.wire_encode_1) #[] #[.pointer (some ⟨b,0,none⟩)]),(32,iv),(33,.int .i64 (t.ins.length:Nat)),(34,.int .i64 i)]) (fun i=>t.ins.length - i) 0 ⟨rfl,rfl,rfl,rfl,rfl,rfl,rfl,trivial⟩ ⟨by exact fx,by omega,xD (e1T t) (by exact fx)⟩ ?_;rintro i ρ w3 ⟨xW,hi1,hW⟩;have hS:=uI true i)|(refine aQ (fun (j:Nat) w'=>Ext wp w'∧j≤t.outs.length∧uL b b (enc2 true t++eC nL (t.outs.take j)) w') (fun j=> [(1,.bool true),(2,.pointer (some ⟨bp,0,none⟩)),(5,.pointer (some ⟨b,0,none⟩)),(6,.func (.func F.wire_encode_1) #[] #[.pointer (some ⟨b,0,none⟩)]),(62,ov),(63,.int .i64 (t.outs.length:Nat)),(64,.int .i64 j)]) (fun j=>t.outs.length - j) 0 ⟨rfl,rfl,rfl,rfl,rfl,rfl,rfl,trivial⟩ ⟨by exact fx,by omega,xD (bK8 true t i (by omega)) (by exact fx)⟩ ?_;rintro j ρ3 w4 ⟨xW,hj1,hW⟩;have hS:=uO true j)|(refine aQ (fun (i:Nat) w'=>Ext wp w'∧i≤t.ins.length∧uL b b (enc1 false t++eC rE (t.ins.take i)) w') (fun i=> [(1,.bool false),(2,.pointer (some ⟨bp,0,none⟩)),(5,.pointer (some ⟨b,0,none⟩)),(6,.func (.func F.wire_encode_1) #[] #[.pointer (some ⟨b,0,none⟩)]),(32,iv),(33,.int .i64 (t.ins.length:Nat)),(34,.int .i64 i)]) (fun i=>t.ins.length - i) 0 ⟨rfl,rfl,rfl,rfl,rfl,rfl,rfl,trivial⟩ ⟨by exact fx,by omega,xD (e1F t) (by exact fx)⟩ ?_;rintro i ρ w3 ⟨xW,hi1,hW⟩;have hS:=uI false i)|(refine aQ (fun (j:Nat) w'=>Ext wp w'∧j≤t.outs.length∧uL b b (enc2 false t++eC nL (t.outs.take j)) w') (fun j=> [(1,.bool false),(2,.pointer (some ⟨bp,0,none⟩)),(5,.pointer (some ⟨b,0,none⟩)),(6,.func (.func F.wire_encode_1) #[] #[.pointer (some ⟨b,0,none⟩)]),(62,ov),(63,.int .i64 (t.outs.length:Nat)),(64,.int .i64 j)]) (fun j=>t.outs.length - j) 0 ⟨rfl,rfl,rfl,rfl,rfl,rfl,rfl,trivial⟩ ⟨by exact fx,by omega,xD (bK8 false t i (by omega)) (by exact fx)⟩ ?_;rintro j ρ3 w4 ⟨xW,hj1,hW⟩;have hS:=uO false j)|(refine aQ (fun (a:Nat) w'=>Ext wp w'∧a≤t.ins.length∧uL b b (enc3 true t++eC kG (t.ins.take a)) w') (fun a=> [(1,.bool true),(2,.pointer (some ⟨bp,0,none⟩)),(5,.pointer (some ⟨b,0,none⟩)),(6,.func (.func F.wire_encode_1) #[] #[.pointer (some ⟨b,0,none⟩)]),(80,iv),(81,.int .i64 (t.ins.length:Nat)),(82,.int .i64 a)]) (fun a=>t.ins.length - a) 0 ⟨rfl,rfl,rfl,rfl,rfl,rfl,rfl,trivial⟩ ⟨by exact fx,by omega,xD (bO7 true t j (by omega)) (by exact fx)⟩ ?_;rintro a ρ4 w5 ⟨xW,ha1,hW⟩;have hS:=uW true a)|(refine aQ (fun (k:Nat) w'=>Ext wp w'∧k≤t.ins[a].wit.length∧uL b b (enc3 true t++eC kG (t.ins.take a)++vnS t.ins[a].wit.length++eC sD (t.ins[a].wit.take k)) w') (fun k=> [(1,.bool true),(2,.pointer (some ⟨bp,0,none⟩)),(5,.pointer (some ⟨b,0,none⟩)),(6,.func (.func F.wire_encode_1) #[] #[.pointer (some ⟨b,0,none⟩)]),(80,iv),(81,.int .i64 (t.ins.length:Nat)),(82,.int .i64 a),(92,.slice wb t.ins[a].wit.length wcap),(93,.int .i64 (t.ins[a].wit.length:Nat)),(94,.int .i64 k)]) (fun k=>t.ins[a].wit.length - k) 0 ⟨rfl,rfl,rfl,rfl,rfl,rfl,rfl,rfl,rfl,rfl,trivial⟩ ⟨by exact fx,by omega,xD (bJo _ _ _) (by exact fx)⟩ ?_;rintro k ρ5 w6 ⟨xW,hk1,hW⟩;have hS:=uK true a hal k)|(refine aDw (w0:=wp) (by exact fx) rfl rfl (n:=i) (l:=t.ins) (by exact fx) rfl (by omega) (fun ad cs r2 he=>?_);obtain ⟨wv,rfl,hw,_⟩:=he;obtain ⟨_,_,rfl⟩:=hw.form;have hil:i<t.ins.length:=(by omega);have hid:=hs.ids _ (gMe hil))|(refine aDw (w0:=wp) (by exact fx) rfl rfl (n:=j) (l:=t.outs) (by exact fx) rfl (by omega) (fun ad cs r2 he=>?_);obtain ⟨rfl,_⟩:=he;have hjl:j<t.outs.length:=(by omega);have hsc:=hs.scr _ (gMe hjl))|(refine aDw (w0:=wp) (by exact fx) rfl rfl (n:=a) (l:=t.ins) (by exact fx) rfl (by omega) (fun ad cs r2 he=>?_);obtain ⟨wv,rfl,hw,_⟩:=he;obtain ⟨wb,wcap,rfl⟩:=hw.form;have hal:a<t.ins.length:=(by omega);have hwl:=hs.wit _ (gMe hal))|(refine aDw (w0:=wp) (by exact fx) rfl rfl (n:=k) (l:=t.ins[a].wit) hw rfl (by omega) (fun ad cs r4 he=>?_);have hq:cs= [Value.string t.ins[a].wit[k]]:=he;rw [hq] at r4;have hkl:k<t.ins[a].wit.length:=(by omega);have hit:=hs.item _ (gMe hal) _ (gMe hkl))|(refine zC rfl (nU 0 (by omega) _) ?_;rintro _ w2 ⟨rfl,x2⟩)|(refine zC rfl (nU t.ins.length (by omega) _) ?_;rintro _ w2 ⟨rfl,x2⟩)|(refine zC rfl (nU t.outs.length (by omega) _) ?_;rintro _ w2 ⟨rfl,x2⟩)|(refine zC rfl (nU t.ins[a].wit.length (by omega) _) ?_;rintro _ w2 ⟨rfl,x2⟩)|(refine zC rfl (aQh t.outs[j].s (by omega) _) ?_;rintro _ w2 ⟨rfl,x2⟩)|(refine zC rfl (aQh t.ins[a].wit[k] (by omega) _) ?_;rintro _ w2 ⟨rfl,x2⟩)|(refine zC rfl (fO t.ins[i].p.s _ (by exact fx) (by omega) (by omega)) ?_;rintro _ w1 ⟨hW,rW,hS⟩;have xW:=rW.ext (w0:=wp) (by exact fx) hb0;have ac:=At.wr rW (by focus (repeat (first|assumption|(apply At.ext;assumption)))) hne (by decide);have rc:=Row.of_at ac)|(refine zC rfl (fO (vnS 0) _ (by exact fx) (by omega) (aL3 _)) ?_;rintro _ w1 ⟨hW,rW,hS⟩;have xW:=rW.ext (w0:=wp) (by exact fx) hb0;have ac:=At.wr rW (by focus (repeat (first|assumption|(apply At.ext;assumption)))) hne (by decide);have rc:=Row.of_at ac)|(refine zC rfl (fO (vnS t.ins.length) _ (by exact fx) (by omega) (aL3 _)) ?_;rintro _ w1 ⟨hW,rW,hS⟩;have xW:=rW.ext (w0:=wp) (by exact fx) hb0;have ac:=At.wr rW (by focus (repeat (first|assumption|(apply At.ext;assumption)))) hne (by decide);have rc:=Row.of_at ac)|(refine zC rfl (fO (vnS t.outs.length) _ (by exact fx) (by omega) (aL3 _)) ?_;rintro _ w1 ⟨hW,rW,hS⟩;have xW:=rW.ext (w0:=wp) (by exact fx) hb0;have ac:=At.wr rW (by focus (repeat (first|assumption|(apply At.ext;assumption)))) hne (by decide);have rc:=Row.of_at ac)|(refine zC rfl (fO (vnS t.ins[a].wit.length) _ (by exact fx) (by omega) (aL3 _)) ?_;rintro _ w1 ⟨hW,rW,hS⟩;have xW:=rW.ext (w0:=wp) (by exact fx) hb0;have ac:=At.wr rW (by focus (repeat (first|assumption|(apply At.ext;assumption)))) hne (by decide);have rc:=Row.of_at ac)|(refine zC rfl (fO (vnS t.outs[j].s.size++t.outs[j].s) _ (by exact fx) (by omega) (aIk (by assumption))) ?_;rintro _ w1 ⟨hW,rW,hS⟩;have xW:=rW.ext (w0:=wp) (by exact fx) hb0;have ac:=At.wr rW (by focus (repeat (first|assumption|(apply At.ext;assumption)))) hne (by decide);have rc:=Row.of_at ac)|(refine zC rfl (fO (vnS t.ins[a].wit[k].size++t.ins[a].wit[k]) _ (by exact fx) (by omega) (aIk (by assumption))) ?_;rintro _ w1 ⟨hW,rW,hS⟩;have xW:=rW.ext (w0:=wp) (by exact fx) hb0;have ac:=At.wr rW (by focus (repeat (first|assumption|(apply At.ext;assumption)))) hne (by decide);have rc:=Row.of_at ac)|(refine eN rfl jM rfl (fJ t.ver 4 (by decide) _ (by exact fx) (by omega)) ?_;rintro _ w1 ⟨hW,rW,hS⟩;have xW:=rW.ext (w0:=wp) (by exact fx) hb0;have ac:=At.wr rW (by focus (repeat (first|assumption|(apply At.ext;assumption)))) hne (by decide);have rc:=Row.of_at ac)|(refine eN rfl jM rfl (fJ 0 1 (by decide) _ (by exact fx) (by omega)) ?_;rintro _ w1 ⟨hW,rW,hS⟩;have xW:=rW.ext (w0:=wp) (by exact fx) hb0;have ac:=At.wr rW (by focus (repeat (first|assumption|(apply At.ext;assumption)))) hne (by decide);have rc:=Row.of_at ac)|(refine eN rfl jM rfl (fJ 1 1 (by decide) _ (by exact fx) (by omega)) ?_;rintro _ w1 ⟨hW,rW,hS⟩;have xW:=rW.ext (w0:=wp) (by exact fx) hb0;have ac:=At.wr rW (by focus (repeat (first|assumption|(apply At.ext;assumption)))) hne (by decide);have rc:=Row.of_at ac)|(refine eN rfl jM rfl (fJ t.ins[i].p.i 4 (by decide) _ (by exact fx) (by omega)) ?_;rintro _ w1 ⟨hW,rW,hS⟩;have xW:=rW.ext (w0:=wp) (by exact fx) hb0;have ac:=At.wr rW (by focus (repeat (first|assumption|(apply At.ext;assumption)))) hne (by decide);have rc:=Row.of_at ac)|(refine eN rfl jM rfl (fJ t.ins[i].q 4 (by decide) _ (by exact fx) (by omega)) ?_;rintro _ w1 ⟨hW,rW,hS⟩;have xW:=rW.ext (w0:=wp) (by exact fx) hb0;have ac:=At.wr rW (by focus (repeat (first|assumption|(apply At.ext;assumption)))) hne (by decide);have rc:=Row.of_at ac)|(refine eN rfl jM rfl (fJ t.outs[j].v 8 (by decide) _ (by exact fx) (by omega)) ?_;rintro _ w1 ⟨hW,rW,hS⟩;have xW:=rW.ext (w0:=wp) (by exact fx) hb0;have ac:=At.wr rW (by focus (repeat (first|assumption|(apply At.ext;assumption)))) hne (by decide);have rc:=Row.of_at ac)|(refine eN rfl jM rfl (fJ t.lock 4 (by decide) _ (by exact fx) (by omega)) ?_;rintro _ w1 ⟨hW,rW,hS⟩;have xW:=rW.ext (w0:=wp) (by exact fx) hb0;have ac:=At.wr rW (by focus (repeat (first|assumption|(apply At.ext;assumption)))) hne (by decide);have rc:=Row.of_at ac)|(refine zC rfl (fO t.ins[i].p.s _ (by exact fx) (by omega) (by omega)) ?_;rintro _ w1 ⟨hW,rW,hS⟩;have xW:=rW.ext (w0:=wp) (by exact fx) hb0)|(refine zC rfl (fO (vnS 0) _ (by exact fx) (by omega) (aL3 _)) ?_;rintro _ w1 ⟨hW,rW,hS⟩;have xW:=rW.ext (w0:=wp) (by exact fx) hb0)|(refine zC rfl (fO (vnS t.ins.length) _ (by exact fx) (by omega) (aL3 _)) ?_;rintro _ w1 ⟨hW,rW,hS⟩;have xW:=rW.ext (w0:=wp) (by exact fx) hb0)|(refine zC rfl (fO (vnS t.outs.length) _ (by exact fx) (by omega) (aL3 _)) ?_;rintro _ w1 ⟨hW,rW,hS⟩;have xW:=rW.ext (w0:=wp) (by exact fx) hb0)|(refine zC rfl (fO (vnS t.ins[a].wit.length) _ (by exact fx) (by omega) (aL3 _)) ?_;rintro _ w1 ⟨hW,rW,hS⟩;have xW:=rW.ext (w0:=wp) (by exact fx) hb0)|(refine zC rfl (fO (vnS t.outs[j].s.size++t.outs[j].s) _ (by exact fx) (by omega) (aIk (by assumption))) ?_;rintro _ w1 ⟨hW,rW,hS⟩;have xW:=rW.ext (w0:=wp) (by exact fx) hb0)|(refine zC rfl (fO (vnS t.ins[a].wit[k].size++t.ins[a].wit[k]) _ (by exact fx) (by omega) (aIk (by assumption))) ?_;rintro _ w1 ⟨hW,rW,hS⟩;have xW:=rW.ext (w0:=wp) (by exact fx) hb0)|(refine eN rfl jM rfl (fJ t.ver 4 (by decide) _ (by exact fx) (by omega)) ?_;rintro _ w1 ⟨hW,rW,hS⟩;have xW:=rW.ext (w0:=wp) (by exact fx) hb0)|(refine eN rfl jM rfl (fJ 0 1 (by decide) _ (by exact fx) (by omega)) ?_;rintro _ w1 ⟨hW,rW,hS⟩;have xW:=rW.ext (w0:=wp) (by exact fx) hb0)|(refine eN rfl jM rfl (fJ 1 1 (by decide) _ (by exact fx) (by omega)) ?_;rintro _ w1 ⟨hW,rW,hS⟩;have xW:=rW.ext (w0:=wp) (by exact fx) hb0)|(refine eN rfl jM rfl (fJ t.ins[i].p.i 4 (by decide) _ (by exact fx) (by omega)) ?_;rintro _ w1 ⟨hW,rW,hS⟩;have xW:=rW.ext (w0:=wp) (by exact fx) hb0)|(refine eN rfl jM rfl (fJ t.ins[i].q 4 (by decide) _ (by exact fx) (by omega)) ?_;rintro _ w1 ⟨hW,rW,hS⟩;have xW:=rW.ext (w0:=wp) (by exact fx) hb0)|(refine eN rfl jM rfl (fJ t.outs[j].v 8 (by decide) _ (by exact fx) (by omega)) ?_;rintro _ w1 ⟨hW,rW,hS⟩;have xW:=rW.ext (w0:=wp) (by exact fx) hb0)|(refine eN rfl jM rfl (fJ t.lock 4 (by decide) _ (by exact fx) (by omega)) ?_;rintro _ w1 ⟨hW,rW,hS⟩;have xW:=rW.ext (w0:=wp) (by exact fx) hb0)|(refine zC rfl (aKd _ (by exact fx)) ?_;rintro _ w9 ⟨rfl,hW,rW⟩;have xW:=rW.ext (w0:=wp) (by exact fx) hb0))
 all_goals first
  |exact ⟨i+1,⟨rfl,rfl,rfl,rfl,rfl,rfl,rfl,trivial⟩,⟨by exact fx,by omega,xD (by rw [iM _ hil,rE];simp only [ByteArray.append_assoc]) hW⟩,by omega⟩
  |exact ⟨j+1,⟨rfl,rfl,rfl,rfl,rfl,rfl,rfl,trivial⟩,⟨by exact fx,by omega,xD (by rw [iM _ hjl,nL];simp only [ByteArray.append_assoc]) hW⟩,by omega⟩
  |exact ⟨k+1,⟨rfl,rfl,rfl,rfl,rfl,rfl,rfl,rfl,rfl,rfl,trivial⟩,⟨by exact fx,by omega,xD (by rw [iM _ hkl,sD];simp only [ByteArray.append_assoc]) hW⟩,by omega⟩
  |exact ⟨a+1,⟨rfl,rfl,rfl,rfl,rfl,rfl,rfl,trivial⟩,⟨by exact fx,by omega,xD (by rw [iM _ hal,kG,tLe (l:=t.ins[a].wit) (i:=k) (by omega)];simp only [ByteArray.append_assoc]) hW⟩,by omega⟩
  |exact aC rfl ⟨congrArg Value.string (by rw [tLe (l:=t.ins) (i:=a) (by omega)];rfl),by exact fx⟩
  |exact aC rfl ⟨congrArg Value.string (by rw [tLe (l:=t.outs) (i:=j) (by omega),cD,enc4,if_neg (by decide),aMo];rfl),by exact fx⟩
  |trace_state
end
end Go.Proofs.YtfebcajheojodaaGreatDoor
