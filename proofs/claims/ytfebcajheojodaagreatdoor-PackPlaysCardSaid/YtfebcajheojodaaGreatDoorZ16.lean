/- Contracts: ids and sizes; copies; slices of texts. Plain: en -/
import Derived.Test.YtfebcajheojodaaGreatDoorZ15
set_option linter.unusedVariables false
set_option linter.unusedSimpArgs false
namespace Go.Proofs.YtfebcajheojodaaGreatDoor
section
open Go Go.K
attribute [local irreducible] aO aU bQ KOp.wp K.Spec u32 leS vnS str aV cU cD idT
def idV (t:Tx):Value:=if aG t=0 then .tuple #[.string (idT t),.int .i64 0] else .tuple #[.string ⟨#[]⟩,.int .i64 (aG t)]
def aJu (t:Tx):Value:=if aG t=0 then .tuple #[.int .i64 (lX t:Nat),.int .i64 0] else .tuple #[.int .i64 0,.int .i64 (aG t)]
def lF (t:Tx):Value:=if aG t=0 then .tuple #[.int .i64 (aR t:Nat),.int .i64 0] else .tuple #[.int .i64 0,.int .i64 (aG t)]
theorem aDn {M:List Nat} {cs:List Value} {t:Tx} (w:World) (ht:txR.rel M w cs t) (hs:t.Sm):K.Spec Tryz.prog F.ident_ID [.agg cs.toArray] w fun r w'=>r=idV t∧Ext w w':=by
 have ht0:=ht
 obtain ⟨iv,ov,rfl,hi,ho,hv,hl⟩:=ht
 by_cases hc:aG t=0
 ·have hz:=bI hs hc
  rw [idV,if_pos hc]
  refine aOt rfl ?_
  unfold aF5
  refine oy ?_
  repeat' (first|refine go1 ?_|refine zg λ_ _=>?_|refine zi λ_ _=>?_|(first|refine zD rfl rfl (fun bp wp xp ap rp hp0=>?_)|refine zE (fun _=>rfl) rfl rfl rfl (fun bq wq xq aq rq hq0=>?_))|refine zN rfl (fun h=>?_) (fun h=>?_)|(refine zC rfl (aEb (M:=M) _ (cs:=aK t iv ov) (by exact fx) hs) ?_;rintro _ w1 ⟨rfl,x1⟩;rw [aCb,if_pos hc])|(refine zC rfl (bB5 (cD false t) (by have:=hz.all false;omega) _) ?_;rintro _ w2 ⟨rfl,x2⟩))
  all_goals first
   |exact aC rfl ⟨by rw [idT];rfl,by exact fx⟩
   |exact absurd rfl (by assumption)
 ·rw [idV,if_neg hc]
  refine aOt rfl ?_
  unfold aF5
  refine oy ?_
  repeat' (first|refine go1 ?_|refine zg λ_ _=>?_|refine zi λ_ _=>?_|(first|refine zD rfl rfl (fun bp wp xp ap rp hp0=>?_)|refine zE (fun _=>rfl) rfl rfl rfl (fun bq wq xq aq rq hq0=>?_))|refine zN rfl (fun h=>?_) (fun h=>?_)|(refine zC rfl (aEb (M:=M) _ (cs:=aK t iv ov) (by exact fx) hs) ?_;rintro _ w1 ⟨rfl,x1⟩;rw [aCb,if_neg hc]))
  all_goals first
   |exact aC rfl ⟨rfl,by exact fx⟩
   |exact absurd (by assumption) hc
theorem aLs {M:List Nat} {cs:List Value} {t:Tx} (w:World) (ht:txR.rel M w cs t) (hs:t.Sm):K.Spec Tryz.prog F.ident_Weight [.agg cs.toArray] w fun r w'=>r=aJu t∧Ext w w':=by
 have ht0:=ht
 obtain ⟨iv,ov,rfl,hi,ho,hv,hl⟩:=ht
 by_cases hc:aG t=0
 ·have hz:=bI hs hc
  have h1:=hz.all false
  have h2:=hz.all (aIb t)
  rw [aJu,if_pos hc]
  refine aCf rfl ?_
  unfold tM
  refine oy ?_
  repeat' (first|refine rI rfl rfl (by omega) ?_|refine go1 ?_|refine zg λ_ _=>?_|refine zi λ_ _=>?_|(first|refine zD rfl rfl (fun bp wp xp ap rp hp0=>?_)|refine zE (fun _=>rfl) rfl rfl rfl (fun bq wq xq aq rq hq0=>?_))|refine zN rfl (fun h=>?_) (fun h=>?_)|(refine zC rfl (aEb (M:=M) _ (cs:=aK t iv ov) (by exact fx) hs) ?_;rintro _ w1 ⟨rfl,x1⟩;rw [aCb,if_pos hc])|(refine zC rfl (aU9 (M:=M) _ (cs:=aK t iv ov) (by exact fx) hs) ?_;rintro _ w2 ⟨rfl,x2⟩;rw [aCb,if_pos hc]))
  all_goals first
   |exact aC rfl ⟨congrArg (fun n:Int=>Value.tuple #[.int .i64 n,.int .i64 0]) (by rw [lX];omega),by exact fx⟩
   |exact absurd rfl (by assumption)
 ·rw [aJu,if_neg hc]
  refine aCf rfl ?_
  unfold tM
  refine oy ?_
  repeat' (first|refine go1 ?_|refine zg λ_ _=>?_|refine zi λ_ _=>?_|(first|refine zD rfl rfl (fun bp wp xp ap rp hp0=>?_)|refine zE (fun _=>rfl) rfl rfl rfl (fun bq wq xq aq rq hq0=>?_))|refine zN rfl (fun h=>?_) (fun h=>?_)|(refine zC rfl (aEb (M:=M) _ (cs:=aK t iv ov) (by exact fx) hs) ?_;rintro _ w1 ⟨rfl,x1⟩;rw [aCb,if_neg hc]))
  all_goals first
   |exact aC rfl ⟨rfl,by exact fx⟩
   |exact absurd (by assumption) hc
theorem fW {M:List Nat} {cs:List Value} {t:Tx} (w:World) (ht:txR.rel M w cs t) (hs:t.Sm):K.Spec Tryz.prog F.ident_Size [.agg cs.toArray] w fun r w'=>r=lF t∧Ext w w':=by
 have ht0:=ht
 obtain ⟨iv,ov,rfl,hi,ho,hv,hl⟩:=ht
 by_cases hc:aG t=0
 ·have hz:=bI hs hc
  have h1:=hz.weight
  rw [lF,if_pos hc]
  refine aIr rfl ?_
  unfold aAv
  refine oy ?_
  repeat' (first|refine aKu (n:=lX t+3) (m:=4) (congrArg (Value.int .i64) (by omega)) rfl (by decide) (by omega) ?_|refine go1 ?_|refine zg λ_ _=>?_|refine zi λ_ _=>?_|(first|refine zD rfl rfl (fun bp wp xp ap rp hp0=>?_)|refine zE (fun _=>rfl) rfl rfl rfl (fun bq wq xq aq rq hq0=>?_))|(refine zC rfl (aLs (M:=M) _ (cs:=aK t iv ov) (by exact fx) hs) ?_;rintro _ w1 ⟨rfl,x1⟩;rw [aJu,if_pos hc]))
  exact aC rfl ⟨rfl,by exact fx⟩
 ·rw [lF,if_neg hc]
  refine aIr rfl ?_
  unfold aAv
  refine oy ?_
  repeat' (first|refine go1 ?_|refine zg λ_ _=>?_|refine zi λ_ _=>?_|(first|refine zD rfl rfl (fun bp wp xp ap rp hp0=>?_)|refine zE (fun _=>rfl) rfl rfl rfl (fun bq wq xq aq rq hq0=>?_))|(refine zC rfl (aLs (M:=M) _ (cs:=aK t iv ov) (by exact fx) hs) ?_;rintro _ w1 ⟨rfl,x1⟩;rw [aJu,if_neg hc]))
  exact aC rfl ⟨rfl,by exact fx⟩
theorem aCk {M:List Nat} {v:Value} {l:List ByteArray} (w:World) (hs:SlR lL M w v l) (hn:l.length≤100000000) (hM:∀b∈M,b<w.heap.size):K.Spec Tryz.prog F.slices_Clone_L_string_string [v] w fun r w'=>cJ lL T.string w.heap.size M w' r l∧Ext w w':=by
 have hs0:=hs
 obtain ⟨base,cap,rfl⟩:=hs.form
 cases base with
 |none=>
  have hl:=hs.nil_of
  subst hl
  refine iL rfl ?_
  unfold eU
  refine oy ?_
  repeat (first|refine go ?_|refine zg λ_ _=>?_|refine zi λ_ _=>?_)
  exact aC rfl ⟨cJ.nil _ _ _ _,Ext.refl _⟩
 |some a=>
  refine iL rfl ?_
  unfold eU
  refine oy ?_
  repeat (first|refine go ?_|refine zg λ_ _=>?_|refine zi λ_ _=>?_)
  refine zI (cs:= []) rfl (fun b w1 x1 a1 hb=>?_)
  repeat (first|refine go ?_|refine zg λ_ _=>?_|refine zi λ_ _=>?_)
  obtain ⟨css,h1,h2,_⟩:=hs0
  have hown:cJ lL T.string w.heap.size M w1 (.slice (some ⟨b,0,none⟩) 0 0) []:=cJ.empty hb a1
  have hall:(lL).all (aP (.slice (some ⟨b,0,none⟩) 0 0)++M) w1 css l:=h2.mono fun _ _ hr=>(lL).step hr x1 (by simp) (fun c hc=>by
   rcases List.mem_append.1 hc with h|h
   ·simp [aP] at h;right;omega
   ·exact .inl h)
  refine aGc (E:=lL) (M:=M) (v:=.slice (some ⟨b,0,none⟩) 0 0) rfl hown x1.size rfl rfl (h1.ext x1).cells rfl hall h2.length (by simp;omega) (fun v2 w2 ho2 c2 hb2=>?_)
  repeat (first|refine go ?_|refine zg λ_ _=>?_|refine zi λ_ _=>?_)
  exact aC rfl ⟨ho2,(Ext.chg x1 c2).mono (by intro y hy;simp [aP] at hy;subst hy;exact .inr hb)⟩
theorem aWe {M:List Nat} {v:Value} {l:List TIn} (w:World) (hs:SlR inR M w v l) (hn:l.length≤100000000) (hM:∀b∈M,b<w.heap.size):K.Spec Tryz.prog F.slices_Clone_L_api_In_api_In [v] w fun r w'=>cJ inR T.api_In w.heap.size M w' r l∧Ext w w':=by
 have hs0:=hs
 obtain ⟨base,cap,rfl⟩:=hs.form
 cases base with
 |none=>
  have hl:=hs.nil_of
  subst hl
  refine iN rfl ?_
  unfold eW
  refine oy ?_
  repeat (first|refine go ?_|refine zg λ_ _=>?_|refine zi λ_ _=>?_)
  exact aC rfl ⟨cJ.nil _ _ _ _,Ext.refl _⟩
 |some a=>
  refine iN rfl ?_
  unfold eW
  refine oy ?_
  repeat (first|refine go ?_|refine zg λ_ _=>?_|refine zi λ_ _=>?_)
  refine zI (cs:= []) rfl (fun b w1 x1 a1 hb=>?_)
  repeat (first|refine go ?_|refine zg λ_ _=>?_|refine zi λ_ _=>?_)
  obtain ⟨css,h1,h2,_⟩:=hs0
  have hown:cJ inR T.api_In w.heap.size M w1 (.slice (some ⟨b,0,none⟩) 0 0) []:=cJ.empty hb a1
  have hall:(inR).all (aP (.slice (some ⟨b,0,none⟩) 0 0)++M) w1 css l:=h2.mono fun _ _ hr=>(inR).step hr x1 (by simp) (fun c hc=>by
   rcases List.mem_append.1 hc with h|h
   ·simp [aP] at h;right;omega
   ·exact .inl h)
  refine aGc (E:=inR) (M:=M) (v:=.slice (some ⟨b,0,none⟩) 0 0) rfl hown x1.size rfl rfl (h1.ext x1).cells rfl hall h2.length (by simp;omega) (fun v2 w2 ho2 c2 hb2=>?_)
  repeat (first|refine go ?_|refine zg λ_ _=>?_|refine zi λ_ _=>?_)
  exact aC rfl ⟨ho2,(Ext.chg x1 c2).mono (by intro y hy;simp [aP] at hy;subst hy;exact .inr hb)⟩
theorem aXw {M:List Nat} {v:Value} {l:List TOut} (w:World) (hs:SlR eX M w v l) (hn:l.length≤100000000) (hM:∀b∈M,b<w.heap.size):K.Spec Tryz.prog F.slices_Clone_L_api_Out_api_Out [v] w fun r w'=>cJ eX T.api_Out w.heap.size M w' r l∧Ext w w':=by
 have hs0:=hs
 obtain ⟨base,cap,rfl⟩:=hs.form
 cases base with
 |none=>
  have hl:=hs.nil_of
  subst hl
  refine gV rfl ?_
  unfold eF
  refine oy ?_
  repeat (first|refine go ?_|refine zg λ_ _=>?_|refine zi λ_ _=>?_)
  exact aC rfl ⟨cJ.nil _ _ _ _,Ext.refl _⟩
 |some a=>
  refine gV rfl ?_
  unfold eF
  refine oy ?_
  repeat (first|refine go ?_|refine zg λ_ _=>?_|refine zi λ_ _=>?_)
  refine zI (cs:= []) rfl (fun b w1 x1 a1 hb=>?_)
  repeat (first|refine go ?_|refine zg λ_ _=>?_|refine zi λ_ _=>?_)
  obtain ⟨css,h1,h2,_⟩:=hs0
  have hown:cJ eX T.api_Out w.heap.size M w1 (.slice (some ⟨b,0,none⟩) 0 0) []:=cJ.empty hb a1
  have hall:(eX).all (aP (.slice (some ⟨b,0,none⟩) 0 0)++M) w1 css l:=h2.mono fun _ _ hr=>(eX).step hr x1 (by simp) (fun c hc=>by
   rcases List.mem_append.1 hc with h|h
   ·simp [aP] at h;right;omega
   ·exact .inl h)
  refine aGc (E:=eX) (M:=M) (v:=.slice (some ⟨b,0,none⟩) 0 0) rfl hown x1.size rfl rfl (h1.ext x1).cells rfl hall h2.length (by simp;omega) (fun v2 w2 ho2 c2 hb2=>?_)
  repeat (first|refine go ?_|refine zg λ_ _=>?_|refine zi λ_ _=>?_)
  exact aC rfl ⟨ho2,(Ext.chg x1 c2).mono (by intro y hy;simp [aP] at hy;subst hy;exact .inr hb)⟩
def txO (B:Nat) (M:List Nat) (w:World) (cs:List Value) (t:Tx):Prop:=∃iv ov,cs=aK t iv ov∧cJ inR T.api_In B M w iv t.ins∧cJ eX T.api_Out B M w ov t.outs∧dV t.ver∧dV t.lock
theorem txO.rel {B:Nat} {M:List Nat} {w:World} {cs:List Value} {t:Tx} (h:txO B M w cs t) (hM:∀b∈M,b<B):txR.rel M w cs t:=by
 obtain ⟨iv,ov,rfl,h1,h2,h3⟩:=h
 exact ⟨iv,ov,rfl,h1.slB hM,h2.slB hM,h3⟩
theorem vH {L M:List Nat} {w:World} (h:∀b∈L,w.heap.size≤b):∀b∈L++M,b∈M∨w.heap.size≤b:=fun b hb=>by
 rcases List.mem_append.1 hb with h1|h1
 ·exact .inr (h b h1)
 ·exact .inl h1
set_option maxHeartbeats 2000000 in
theorem aB4 {M:List Nat} {cs:List Value} {t:Tx} (w:World) (ht:txR.rel M w cs t) (hs:t.Sm) (hM:∀b∈M,b<w.heap.size):K.Spec Tryz.prog F.tx_Copy [.agg cs.toArray] w fun r w'=>∃cs',r=.agg cs'.toArray∧txO w.heap.size M w' cs' t∧Ext w w':=by
 have ht0:=ht
 obtain ⟨iv,ov,rfl,hi,ho,hv,hl⟩:=ht
 have hs1:=hs.ins
 have hs2:=hs.outs
 refine bEp rfl ?_
 unfold aR0
 refine oy ?_
 repeat' (first|refine go1 ?_|refine zg λ_ _=>?_|refine zi λ_ _=>?_|(first|refine zD rfl rfl (fun bp wp xp ap rp hp0=>?_)|refine zE (fun _=>rfl) rfl rfl rfl (fun bq wq xq aq rq hq0=>?_)))
 refine zH (fun b2 w2 x2 a2 hb2=>?_)
 have lp:=ap.lt
 have l2:=a2.lt
 have sp:=xp.size
 have s2:=x2.size
 have xw:Unit→Ext w w2:=fun _=>xp.trans x2
 obtain ⟨M1,hM1⟩:∃M1,M1= [b2,bp]++M:=⟨_,rfl⟩
 have hmem:∀b∈M1,b∈M∨w.heap.size≤b:=by
  rw [hM1];exact vH (fun y hy=>by simp at hy;omega)
 have hi1:SlR inR M1 w2 iv t.ins:=hi.step (xw ()) (by simp) hmem
 have ho1:SlR eX M1 w2 ov t.outs:=ho.step (xw ()) (by simp) hmem
 have hM1b:∀b∈M1,b<w2.heap.size:=by
  intro y hy;rw [hM1] at hy;simp at hy
  rcases hy with h|h|h
  ·omega
  ·omega
  ·have:=hM y h;omega
 have mb:bp∈M1:=by rw [hM1];simp
 have m2:b2∈M1:=by rw [hM1];simp
 have mM:∀b∈M,b∈M1:=by intro y hy;rw [hM1];simp [hy]
 repeat' (first|refine go1 ?_|refine zg λ_ _=>?_|refine zi λ_ _=>?_|refine zB ?_ ?_|(refine zC rfl (aWe (M:=M1) (l:=t.ins) _ (by exact fx) (by omega) (fun b hb=>nLt (hM1b b hb) (Ext.size (by exact fx)))) ?_;rintro v1 w3 ⟨hv1,x3⟩;have l1:=hv1.lt;have hv1:=hv1.lower (B':=w2.heap.size) (by first|exact Nat.le_refl _|(apply Ext.size;assumption));have g1:=hv1.base;have x23:Ext w2 w3:=(by exact fx))|refine zC rfl (aXw (M:=aP v1++M1) (l:=t.outs) _ (ho1.step x23 (by simp) (vH g1)) (by omega) (fun b hb=>?_)) ?_|(rcases List.mem_append.1 hb with h|h;exact l1 b h;exact nLt (hM1b b h) (Ext.size (by exact fx)))|(rintro v2 w4 ⟨hv2,x4⟩;have g2:=hv2.base;have x24:Ext w2 w4:=(by exact fx);have hv1:=hv1.ext x4;have ap:=At.ext x24 (At.ext x2 ap);have a2:=At.ext x24 a2;have s24:=x24.size))
 trace_state
 all_goals
  have hbp:bp∉aP v1:=fun h=>by have:=g1 _ h;omega
  have hb2':b2∉aP v1:=fun h=>by have:=g1 _ h;omega
  have s23:=x23.size
  have hbp2:bp∉aP v2:=fun h=>by have:=g2 _ h;omega
  have hb22:b2∉aP v2:=fun h=>by have:=g2 _ h;omega
  have h12:∀b∈aP v1,b∉aP v2:=fun b h h'=>by have:=g2 _ h';have:=l1 _ h;omega
  refine cN (b:=bp) (o:=1) (cur:=aK t iv ov) rfl rfl hv1.one ap (Nat.le_of_ble_eq_true rfl) (fun w5 c5 a5=>?_)
  repeat (first|refine go ?_|refine zg λ_ _=>?_|refine zi λ_ _=>?_)
  refine cN (b:=bp) (o:=2) (cur:=aK t v1 ov) rfl rfl hv2.one a5 (Nat.le_of_ble_eq_true rfl) (fun w6 c6 a6=>?_)
  have c56:Chg [bp] w4 w6:=(c5.trans c6).mono (by simp)
  have hv1:=hv1.step (M':=M1) c56 (by intro y hy;simp at hy;subst hy;exact ⟨hbp,.inl mb⟩) (fun _ h=>.inl h)
  have hv2:=hv2.step (M':=aP v1++M1) c56 (by intro y hy;simp at hy;subst hy;exact ⟨hbp2,.inl (by simp [mb])⟩) (fun _ h=>.inl h)
  have a6:At w6 bp (.cells (aK t v1 v2).toArray T.api_Tx (0,0)):=a6
  have a2:=At.chg c56 a2 (by simp;omega)
  have x26:Ext w w6:=(Ext.chg ((xw ()).trans x24) c56).mono (by intro y hy;simp at hy;right;omega)
  have l1':=hv1.lt
  have r6:Row w6 ⟨bp,0,none⟩ (aK t v1 v2):=Row.of_at a6
  clear c5 c6 c56 a5 ap x3 x4
  repeat' (first|refine go1 ?_|refine zg λ_ _=>?_|refine zi λ_ _=>?_|refine zB ?_ ?_|refine zL rfl (fun h=>?_) (fun h=>?_)|refine zG (l:=t.ins) rfl (hv1.slB (B:=w2.heap.size) hM1b) ?_|(refine aQ (fun (k:Nat) w'=>Ext w w'∧k≤t.ins.length∧w6.heap.size≤w'.heap.size∧At w' bp (.cells (aK t v1 v2).toArray T.api_Tx (0,0))∧At w' b2 (.cells [Value.int .u32 0,.slice none 0 0,.slice none 0 0,.int .u32 0].toArray T.api_Tx (0,0))∧cJ inR T.api_In w2.heap.size M1 w' v1 t.ins∧cJ eX T.api_Out w3.heap.size (aP v1++M1) w' v2 t.outs) (fun k=> [(1,.pointer (some ⟨bp,0,none⟩)),(2,.pointer (some ⟨b2,0,none⟩)),(13,v1),(14,.int .i64 (t.ins.length:Nat)),(15,.int .i64 k)]) (fun k=>t.ins.length - k) 0 ⟨rfl,rfl,rfl,rfl,rfl,trivial⟩ ⟨x26,Nat.zero_le _,Nat.le_refl _,a6,a2,hv1,hv2⟩ ?_;rintro k ρ w7 ⟨x7,hk,s7,a7,q2,o1,o2⟩;have r7:Row w7 ⟨bp,0,none⟩ (aK t v1 v2):=Row.of_at a7))
  ·have hki:k<t.ins.length:=by omega
   have hwl:=hs.wit _ (gMe hki)
   obtain ⟨b1,cap,css,junk,rfl,hB,hat,hc,hln,hall,hsl⟩:=o1.open (by omega)
   obtain ⟨wv,hcs,hw,hp5,hp6⟩:=hall.get k (by omega) hki
   have hb1:b1<w7.heap.size:=hat.lt
   have hMb:∀b∈b1::M1,b<w7.heap.size:=fun b hb=>by
    rcases List.mem_cons.1 hb with h|h
    ·omega
    ·have:=hM1b b h;omega
   refine aT (d:=some 24) (E:=qN inR.k inR.pos) (l:=css) (n:=k) rfl rfl (by exact fx) rfl (by omega) (fun ad r8=>?_)
   have r8:Row _ ad css[k].1:=r8
   rw [hcs] at r8
   repeat' (first|refine go1 ?_|refine zg λ_ _=>?_|refine zi λ_ _=>?_|refine zB ?_ ?_|(refine zC rfl (aCk (M:=b1::M1) (l:=t.ins[k].wit) _ (hw.ext (by exact fx)) (by omega) (fun b hb=>nLt (hMb b hb) (Ext.size (by exact fx)))) ?_;rintro v3 w9 ⟨hv3,x9⟩;have hv3:=hv3.lower (B':=w7.heap.size) (Ext.size (by exact fx));have s9:=Ext.size (w:=w7) (w':=w9) (by exact fx))|refine lR (d:=some 28) rfl rfl (by omega) ?_)
   all_goals
    have hx79:Ext w7 w9:=by exact fx
    refine bEv (E:=inR) (M:=M1) (B:=w2.heap.size) (l:=t.ins) (i:=k) (o:=3) (a:=t.ins[k]) (css:=css) (junk:=junk) (cap:=cap) rfl rfl hv3.one hB (hat.ext hx79) hc hln (bLj hall hx79) hki (by decide) (fun w10 c10=>?_) (fun w10 c10 o10=>?_)
    ·refine ⟨v3,by rw [hcs];rfl,?_,hp5,hp6⟩
     exact (hv3.slB hMb).step c10 (by intro y hy;simp at hy;subst hy;simp) (fun b hb=>.inl hb)
    ·have hbb:b1≠bp:=fun e=>hbp (by rw [←e];simp [aP])
     have hbb2:b1≠b2:=fun e=>hb2' (by rw [←e];simp [aP])
     have hbv:b1∉aP v2:=h12 b1 (by simp [aP])
     have a7':=At.chg c10 (a7.ext hx79) (by simp;omega)
     have q2':=At.chg c10 (q2.ext hx79) (by simp;omega)
     have hs10:=c10.size
     have hwb:w.heap.size≤b1:=by omega
     have o2':=(o2.ext hx79).step c10 (M':=aP (.slice (some ⟨b1,0,none⟩) t.ins.length cap)++M1) (by intro y hy;simp at hy;subst hy;exact ⟨hbv,.inl (by simp [aP])⟩) (fun _ h=>.inl h)
     have x10:Ext w w10:=((x7.trans hx79).chg c10).mono (by intro y hy;simp at hy;right;omega)
     rw [List.set_getElem_self] at o10
     clear hx79
     repeat (first|refine go1 ?_|refine zg λ_ _=>?_|refine zi λ_ _=>?_)
     exact ⟨k+1,⟨rfl,rfl,rfl,rfl,rfl,trivial⟩,⟨x10,by omega,by omega,a7',q2',o10,o2'⟩,by omega⟩
  ·refine bP (w0:=w) (vs:=aK t v1 v2) x7 (by omega) q2 rfl rfl rfl rfl ?_ (fun w11 x11 c11 a11 r11=>?_)
   ·have e1:=hv1.one
    have e2:=hv2.one
    simp [aK,e1,e2];exact ⟨rfl,rfl⟩
   repeat (first|refine go1 ?_|refine zg λ_ _=>?_|refine zi λ_ _=>?_)
   have p1:=(o1.step (M':=M1) c11 (by intro y hy;simp at hy;subst hy;exact ⟨hb2',.inl m2⟩) (fun _ h=>.inl h)).sub (M':=M) (fun b hb=>.inl (mM b hb))
   have p2:=(o2.step (M':=M1) c11 (by intro y hy;simp at hy;subst hy;exact ⟨hb22,.inl (by simp [m2])⟩) (fun _ h=>.inl (by simp [h]))).sub (M':=M) (fun b hb=>.inl (mM b hb))
   exact aC (aRf (cL r11 rfl rfl)) ⟨_,rfl,⟨v1,v2,rfl,p1.lower (by omega),p2.lower (by omega),hv,hl⟩,x11⟩
end
end Go.Proofs.YtfebcajheojodaaGreatDoor
namespace Go.K
section
open Go
def bH (l:List Ent) (id:ByteArray):Int:=idxOf (fun x=>decide (x.id=id)) l
def spends (x:Ent) (p:Pt):Bool:=x.tx.ins.any fun i=>decide (i.p=p)
def aB3 (l:List Ent) (p:Pt):Int:=idxOf (fun x=>spends x p) l
def dG (t:Tx) (x:Ent):Bool:=t.ins.any fun i=>decide (i.p.s=x.id)&&decide (i.p.i<(x.tx.outs.length:Int))
def aM:List Ent→List Bool→List ByteArray
 |x::l,b::m=>if b then x.id::aM l m else aM l m
 |_,_=> []
def dN:List Ent→List Bool→Int
 |x::l,b::m=>(if b then x.fee else 0)+dN l m
 |_,_=>0
def jW:List Ent→List Bool→Int
 |x::l,b::m=>(if b then x.size else 0)+jW l m
 |_,_=>0
def cA (l:List Ent) (id:ByteArray):List Ent × Int:=if bH l id<0 then (l,8) else (l.eraseIdx (bH l id).toNat,0)
def cO (l:List Ent) (t:Tx) (fee:Int):List Ent × Int:=
 if aG t≠0 then (l,aG t) else if aX t then (l,4) else if !bX fee then (l,3) else if l.any (fun x=>decide (x.id=idT t)) then (l,7)
 else if t.ins.any (fun i=>l.any fun x=>spends x i.p) then (l,15) else (l++ [⟨t,idT t,fee,(aR t:Nat)⟩],0)
theorem aUi {l l':List Ent} {m m':List Bool} (h:l.length=m.length):aM (l++l') (m++m')=aM l m++aM l' m':=by
 induction l generalizing m with
 |nil=>cases m with
  |nil=>cases l'<;>cases m'<;>rfl
  |cons=>simp at h
 |cons x l ih=>cases m with
  |nil=>simp at h
  |cons b m=>
   have:=ih (m:=m) (by simpa using h)
   simp only [List.cons_append,aM,this];split<;>rfl
theorem aT3 {l l':List Ent} {m m':List Bool} (h:l.length=m.length):dN (l++l') (m++m')=dN l m+dN l' m':=by
 induction l generalizing m with
 |nil=>cases m with
  |nil=>cases l'<;>cases m'<;>simp [dN]
  |cons=>simp at h
 |cons x l ih=>cases m with
  |nil=>simp at h
  |cons b m=>
   have:=ih (m:=m) (by simpa using h)
   simp only [List.cons_append,dN,this];omega
theorem aWo {l l':List Ent} {m m':List Bool} (h:l.length=m.length):jW (l++l') (m++m')=jW l m+jW l' m':=by
 induction l generalizing m with
 |nil=>cases m with
  |nil=>cases l'<;>cases m'<;>simp [jW]
  |cons=>simp at h
 |cons x l ih=>cases m with
  |nil=>simp at h
  |cons b m=>
   have:=ih (m:=m) (by simpa using h)
   simp only [List.cons_append,jW,this];omega
section
variable {l:List Ent} {m:List Bool} (h:l.length=m.length) {i:Nat} (hi:i<l.length)
include h hi
theorem aAk:aM (l.take (i+1)) (m.take (i+1))=aM (l.take i) (m.take i)++(if m[i]'(h▸hi) then [l[i].id] else []):=by
 rw [List.take_succ_eq_append_getElem hi,List.take_succ_eq_append_getElem (h▸hi),aUi (by simp [h])]
 simp only [aM]
theorem aQm:dN (l.take (i+1)) (m.take (i+1))=dN (l.take i) (m.take i)+(if m[i]'(h▸hi) then l[i].fee else 0):=by
 rw [List.take_succ_eq_append_getElem hi,List.take_succ_eq_append_getElem (h▸hi),aT3 (by simp [h])]
 simp [dN]
theorem aSi:jW (l.take (i+1)) (m.take (i+1))=jW (l.take i) (m.take i)+(if m[i]'(h▸hi) then l[i].size else 0):=by
 rw [List.take_succ_eq_append_getElem hi,List.take_succ_eq_append_getElem (h▸hi),aWo (by simp [h])]
 simp [jW]
end
theorem iX:∀(l:List Ent) (m:List Bool),(aM l m).length≤l.length
 | [],_=>by simp [aM]
 |_::_, []=>by simp [aM]
 |x::l,b::m=>by
  have:=iX l m
  simp only [aM];split<;>simp<;>omega
structure EntOk (x:Ent):Prop where
 check:aG x.tx=0
 grant:aX x.tx=false
 fee:bX x.fee=true
 id:x.id=idT x.tx
 size:x.size=(aR x.tx:Nat)
theorem aXk {l:List Ent} (hl:∀x∈l,bX x.fee=true) (m:List Bool):0≤dN l m∧dN l m≤2100000000000000*l.length:=by
 induction l generalizing m with
 |nil=>simp [dN]
 |cons x l ih=>cases m with
  |nil=>simp [dN];omega
  |cons b m=>
   have h1:=ih (fun y hy=>hl y (by simp [hy])) m
   have h2:=(bG x.fee).1 (hl x (by simp))
   simp only [dN,List.length_cons]
   split<;>omega
theorem aGw {c:Nat} {l:List Ent} (hl:∀x∈l,0≤x.size∧x.size≤c) (m:List Bool):0≤jW l m∧jW l m≤c*l.length:=by
 induction l generalizing m with
 |nil=>simp [jW]
 |cons x l ih=>cases m with
  |nil=>simp only [jW];refine ⟨Int.le_refl _,Int.mul_nonneg (by omega) (by omega)⟩
  |cons b m=>
   have h1:=ih (fun y hy=>hl y (by simp [hy])) m
   have h2:=hl x (by simp)
   simp only [jW,List.length_cons]
   rw [Int.natCast_add,Int.mul_add]
   split<;>omega
def idN (n:Nat):ByteArray:=str ((List.range 32).map fun i=>UInt8.ofNat (n / 2^(i%8))^^^UInt8.ofNat i)
theorem bJq (n:Nat):(idN n).size=32:=by rw [idN,gZ];simp
theorem bH1 (n i:Nat) (h:i<32):str (((List.range 32).map fun i=>UInt8.ofNat (n / 2^(i%8))^^^UInt8.ofNat i).take (i+1))=str (((List.range 32).map fun i=>UInt8.ofNat (n / 2^(i%8))^^^UInt8.ofNat i).take i)++str [UInt8.ofNat (n / 2^(i%8))^^^UInt8.ofNat i]:=by
 rw [List.take_succ_eq_append_getElem (by simpa using h),pN]
 simp
end
end Go.K
namespace Go.Proofs.YtfebcajheojodaaGreatDoor
section
open Go Go.K
attribute [local irreducible] aO aU bQ KOp.wp K.Spec u32 leS vnS str aV cU cD idT aR aG aX
def dJ:Enc Bool:=⟨fun b=> [.bool b],1,fun _=>rfl,by decide,by intro x v hv;simp at hv;subst hv;rfl⟩
theorem kZ {M:List Nat} {v:Value} {l:List Ent} (id:ByteArray) (w:World) (hl:SlR bF M w v l) (hn:l.length≤100000000):K.Spec Tryz.prog F.kedgeref14_Find [v,.string id] w fun r w'=>r=.int .i64 (bH l id)∧w'=w:=by
 refine aIh rfl ?_
 unfold uR
 refine oy ?_
 repeat' (first|refine go1 ?_|refine zg λ_ _=>?_|refine zi λ_ _=>?_|refine zL rfl (fun h=>?_) (fun h=>?_)|refine zG rfl (by exact fx) ?_|(refine aQ (fun (i:Nat) w'=>Ext w w'∧w'=w∧i≤l.length∧∀j,j<i→∀h:j<l.length,decide (l[j].id=id)=false) (fun i=> [(0,v),(1,.string id),(5,.int .i64 i)]) (fun i=>l.length - i) 0 ⟨rfl,rfl,rfl,trivial⟩ ⟨Ext.refl _,rfl,by omega,by omega⟩ ?_;rintro i ρ w1 ⟨x1,hw,hi,hk⟩)|(refine aL rfl rfl (n:=i) (l:=l) (by exact fx) rfl (by omega) (fun ad cs r2 he=>?_);obtain ⟨iv,ov,rfl,h1,h2,h3⟩:=he;have hil:i<l.length:=(by omega)))
 ·exact aC rfl ⟨congrArg (Value.int .i64) (idxOf_hit hil (dTr h) (fun j hj=>hk j hj (by omega))).symm,hw⟩
 ·refine ⟨i+1,⟨rfl,rfl,rfl,trivial⟩,⟨by exact fx,hw,by omega,fun j hj hl=>?_⟩,by omega⟩
  by_cases hji:j=i
  ·subst hji;exact dFa h
  ·exact hk j (by omega) hl
 ·exact aC rfl ⟨congrArg (Value.int .i64) (idxOf_miss (fun j hj=>hk j (by omega) hj)).symm,hw⟩
theorem lM {M : List Nat} {v : Value} {l : List Ent} (p : Pt) (w : World) (hl : SlR bF M w v l) (hn : l.length ≤ 100000000) (hs : ∀ x ∈ l, x.tx.ins.length ≤ 100000000) : K.Spec Tryz.prog F.kedgeref14_Spender [v, .agg p.cs.toArray] w fun r w' => r = .int .i64 (aB3 l p) ∧ Ext w w' := by
  refine aBy rfl ?_
  unfold rD
  refine oy ?_
  repeat' (first|refine go1 ?_|refine zg λ_ _=>?_|refine zi λ_ _=>?_|(first|refine zD rfl rfl (fun bp wp xp ap rp hp0=>?_)|refine zE (fun _=>rfl) rfl rfl rfl (fun bq wq xq aq rq hq0=>?_))|refine zL rfl (fun h => ?_) (fun h => ?_)|refine zM rfl (fun h => ?_) (fun h => ?_)|refine zJ rfl (fun h => ?_) (fun h => ?_)|refine zG rfl (by exact fx) ?_|(refine aQ (fun (i : Nat) w' => Ext wp w' ∧ i ≤ l.length ∧ ∀ j, j < i → ∀ h : j < l.length, spends l[j] p = false) (fun i => [(0, v), (3, .pointer (some ⟨bp, 0, none⟩)), (5, .int .i64 i)]) (fun i => l.length - i) 0 ⟨rfl, rfl, rfl, trivial⟩ ⟨Ext.refl _, by omega, by omega⟩ ?_; rintro i ρ w1 ⟨x1, hi, hk⟩)|(have hil : i < l.length := (by omega); have hsl := hs _ (gMe hil); refine aQ (fun (j : Nat) w' => Ext wp w' ∧ j ≤ l[i].tx.ins.length ∧ ∀ q, q < j → ∀ h : q < l[i].tx.ins.length, decide (l[i].tx.ins[q].p = p) = false) (fun j => [(0, v), (3, .pointer (some ⟨bp, 0, none⟩)), (5, .int .i64 i), (6, .int .i64 j)]) (fun j => l[i].tx.ins.length - j) 0 ⟨rfl, rfl, rfl, rfl, trivial⟩ ⟨by exact fx, by omega, by omega⟩ ?_; rintro j ρ2 w2 ⟨x2, hj, hkj⟩)|(refine aL (E := bF) rfl rfl (n := i) (l := l) (by exact fx) rfl hil (fun ad cs r2 he => ?_); obtain ⟨iv, ov, rfl, h1, h2, h3⟩ := he)|(refine aL (E := inR) rfl rfl (n := j) (l := l[i].tx.ins) (by exact fx) rfl (by omega) (fun ad cs r4 he => ?_); obtain ⟨wv, rfl, hw, _⟩ := he; obtain ⟨_, _, rfl⟩ := hw.form))
  all_goals first
    | (refine aC rfl ⟨congrArg (Value.int .i64) (idxOf_hit (p := fun x => spends x p) hil ?_ (fun j hj => hk j hj (by omega))).symm, by exact fx⟩
       exact List.any_eq_true.2 ⟨_, gMe (show j < l[i].tx.ins.length by omega), dTr (aUj (by assumption) (by assumption))⟩)
    | exact ⟨j + 1, ⟨rfl, rfl, rfl, rfl, trivial⟩, ⟨by exact fx, by omega, fun q hq hl => by
        by_cases hqj : q = j
        · subst hqj; exact dFa (fun e => by subst e; exact h rfl)
        · exact hkj q (by omega) hl⟩, by omega⟩
    | exact ⟨i + 1, ⟨rfl, rfl, rfl, trivial⟩, ⟨by exact fx, by omega, fun q hq hl => by
        by_cases hqi : q = i
        · subst hqi; exact qT fun r hr => hkj r (by omega) hr
        · exact hk q (by omega) hl⟩, by omega⟩
    | exact aC rfl ⟨congrArg (Value.int .i64) (idxOf_miss (fun j hj => hk j (by omega) hj)).symm, by exact fx⟩
    | trace_state
theorem aJ4 {n:Int} (h:dV n):IntKind.i64.wrap n=n:=IntWalk.i64_in _ (by unfold dV at h;omega)
theorem aAj {M : List Nat} {cs ds : List Value} {t : Tx} {x : Ent} (w : World) (ht : txR.rel M w cs t) (hx : bF.rel M w ds x) (hs : t.ins.length ≤ 100000000) : K.Spec Tryz.prog F.kedgeref14_Hangs [.agg cs.toArray, .agg ds.toArray] w fun r w' => r = .bool (dG t x) ∧ Ext w w' := by
  obtain ⟨iv, ov, rfl, h1, h2, h3⟩ := ht
  obtain ⟨iv2, ov2, rfl, g1, g2, g3⟩ := hx
  refine aG9 rfl ?_
  unfold tU
  refine oy ?_
  repeat' (first|refine go1 ?_|refine zg λ_ _=>?_|refine zi λ_ _=>?_|refine zD rfl rfl (fun bp wp xp ap (rp : Row wp ⟨bp, 0, none⟩ (aK t iv ov)) hp0=>?_)|refine zD rfl rfl (fun bq wq xq aq rq hq0=>?_)|refine zL rfl (fun h => ?_) (fun h => ?_)|refine zM rfl (fun h => ?_) (fun h => ?_)|refine zJ rfl (fun h => ?_) (fun h => ?_)|refine zG rfl (by exact fx) ?_|(refine aQ (fun (i : Nat) w' => Ext wq w' ∧ i ≤ t.ins.length ∧ ∀ j, j < i → ∀ h : j < t.ins.length, (decide (t.ins[j].p.s = x.id) && decide (t.ins[j].p.i < (x.tx.outs.length : Int))) = false) (fun i => [(2, .pointer (some ⟨bp, 0, none⟩)), (3, .pointer (some ⟨bq, 0, none⟩)), (5, .int .i64 i)]) (fun i => t.ins.length - i) 0 ⟨rfl, rfl, rfl, trivial⟩ ⟨Ext.refl _, by omega, by omega⟩ ?_; rintro i ρ w1 ⟨x1, hi, hk⟩)|(refine aL (E := inR) rfl rfl (n := i) (l := t.ins) (by exact fx) rfl (by omega) (fun ad cs r4 he => ?_); obtain ⟨wv, rfl, hw, hp5, hp6⟩ := he; obtain ⟨_, _, rfl⟩ := hw.form; have hil : i < t.ins.length := (by omega)))
  all_goals first
    | (rw [aJ4 hp5] at h
       first
       | (refine aC rfl ⟨congrArg Value.bool (aC9 (p := fun i : TIn => decide (i.p.s = x.id) && decide (i.p.i < (x.tx.outs.length : Int))) hil ?_).symm, by exact fx⟩
          simp only [decide_eq_true_eq, Bool.and_eq_true]; exact ⟨by assumption, h⟩)
       | exact ⟨i + 1, ⟨rfl, rfl, rfl, trivial⟩, ⟨by exact fx, by omega, fun q hq hl => by
            by_cases hqi : q = i
            · subst hqi; rw [dFa h, Bool.and_false]
            · exact hk q (by omega) hl⟩, by omega⟩)
    | exact ⟨i + 1, ⟨rfl, rfl, rfl, trivial⟩, ⟨by exact fx, by omega, fun q hq hl => by
        by_cases hqi : q = i
        · subst hqi; rw [dFa h]; rfl
        · exact hk q (by omega) hl⟩, by omega⟩
    | exact aC rfl ⟨congrArg Value.bool (qT fun j hj => hk j (by omega) hj).symm, by exact fx⟩
    | trace_state
theorem bJr {M : List Nat} {v u : Value} {l : List Ent} {m : List Bool} (w : World) (hl : SlR bF M w v l) (hm : SlE dJ w u m) (hlm : l.length = m.length) (hn : l.length ≤ 100000000) : K.Spec Tryz.prog F.kedgeref14_IDs [v, u] w fun r w' => Own bO T.string w.heap.size w' r (aM l m) ∧ Ext w w' := by
  refine aLc rfl ?_
  unfold xR
  refine oy ?_
  repeat' (first|refine go1 ?_|refine zg λ_ _=>?_|refine zi λ_ _=>?_|refine zL rfl (fun h => ?_) (fun h => ?_)|refine zM rfl (fun h => ?_) (fun h => ?_)|refine zG rfl (by exact fx) ?_|(refine aQ (fun (p : Nat × Value) w' => Ext w w' ∧ p.1 ≤ l.length ∧ Own bO T.string w.heap.size w' p.2 (aM (l.take p.1) (m.take p.1))) (fun p => [(0, v), (1, u), (5, p.2), (6, .int .i64 p.1)]) (fun p => l.length - p.1) (0, .slice none 0 0) ⟨rfl, rfl, rfl, rfl, trivial⟩ ⟨Ext.refl _, by simp, Own.nil _ _ _⟩ ?_; rintro ⟨i, vo⟩ ρ w1 ⟨x1, hi, ho⟩; simp only at hi ho; dsimp only)|(refine aT (d := some 15) (E := dJ) rfl rfl (n := i) (l := m) (SlE.ext (w := w) (by exact fx) hm) rfl (by omega) (fun ad r2 => ?_); have hil : i < l.length := (by omega))|(refine aL (d := some 20) (E := bF) rfl rfl (n := i) (l := l) (by exact fx) rfl (by omega) (fun ad cs r4 he => ?_); obtain ⟨iv, ov, rfl, h1, h2, h3⟩ := he)|refine zI rfl (fun b w3 x3 a3 hb => ?_)|refine cK (E := bO) (v := vo) (l2 := [l[i].id]) rfl (ho.ext (by exact fx)) (Ext.size (w := w) (by exact fx)) rfl rfl (eS a3 rfl) rfl rfl (by have := iX (l.take i) (m.take i); have := List.length_take_le i l; simp only [List.length_cons, List.length_nil]; omega) (fun v5 w5 ho5 c5 => ?_))
  all_goals first
    | exact ⟨(i + 1, v5), ⟨rfl, rfl, rfl, rfl, trivial⟩, ⟨(Ext.chg (w := w) (by exact fx) c5).mono (fun b hb => .inr (ho.base b (by simpa using hb))), by simp; omega, by rw [aAk hlm hil, h]; exact ho5⟩, by simp; omega⟩
    | exact ⟨(i + 1, vo), ⟨rfl, rfl, rfl, rfl, trivial⟩, ⟨by exact fx, by simp; omega, by rw [aAk hlm hil, h]; simpa using ho⟩, by simp; omega⟩
    | (rw [tLe (l := l) (by omega), tLe (l := m) (by omega)] at ho
       exact aC rfl ⟨ho, by exact fx⟩)
    | trace_state
theorem aC2 {M : List Nat} {v u : Value} {l : List Ent} {m : List Bool} (w : World) (hl : SlR bF M w v l) (hm : SlE dJ w u m) (hlm : l.length = m.length) (hn : l.length ≤ 1000) (hf : ∀ x ∈ l, bX x.fee = true) (hz : ∀ x ∈ l, 0 ≤ x.size ∧ x.size ≤ (100000000000 : Nat)) : K.Spec Tryz.prog F.kedgeref14_Sum [v, u] w fun r w' => r = .tuple #[.int .i64 (dN l m), .int .i64 (jW l m)] ∧ Ext w w' := by
  have hF : ∀ i m', 0 ≤ dN (l.take i) m' ∧ dN (l.take i) m' ≤ 2100000000000000 * 1000 := fun i m' => by
    have h1 := aXk (l := l.take i) (fun x hx => hf x (List.mem_of_mem_take hx)) m'
    have h2 : (l.take i).length ≤ l.length := by rw [List.length_take]; omega
    omega
  have hS : ∀ i m', 0 ≤ jW (l.take i) m' ∧ jW (l.take i) m' ≤ 100000000000 * 1000 := fun i m' => by
    have h1 := aGw (c := 100000000000) (l := l.take i) (fun x hx => hz x (List.mem_of_mem_take hx)) m'
    have h2 : (l.take i).length ≤ l.length := by rw [List.length_take]; omega
    omega
  refine aKy rfl ?_
  unfold yF
  refine oy ?_
  repeat' (first|refine go1 ?_|refine zg λ_ _=>?_|refine zi λ_ _=>?_|refine zL rfl (fun h => ?_) (fun h => ?_)|refine zM rfl (fun h => ?_) (fun h => ?_)|refine zG rfl (by exact fx) ?_|(refine aQ (fun (i : Nat) w' => Ext w w' ∧ i ≤ l.length) (fun i => [(0, v), (1, u), (6, .int .i64 (dN (l.take i) (m.take i))), (7, .int .i64 (jW (l.take i) (m.take i))), (8, .int .i64 i)]) (fun i => l.length - i) 0 ⟨rfl, rfl, rfl, rfl, rfl, trivial⟩ ⟨Ext.refl _, by omega⟩ ?_; rintro i ρ w1 ⟨x1, hi⟩; have f1 := hF i (m.take i); have s1 := hS i (m.take i))|(refine aT (d := some 17) (E := dJ) rfl rfl (n := i) (l := m) (SlE.ext (w := w) (by exact fx) hm) rfl (by omega) (fun ad r2 => ?_); have hil : i < l.length := (by omega); have f2 := (bG _).1 (hf _ (gMe hil)); have s2 := hz _ (gMe hil))|(refine aL (E := bF) rfl rfl (n := i) (l := l) (by exact fx) rfl (by omega) (fun ad cs r4 he => ?_); obtain ⟨iv, ov, rfl, h1, h2, h3⟩ := he))
  all_goals first
    | exact ⟨i + 1, ⟨rfl, rfl, congrArg (Value.int .i64) (by rw [aQm hlm hil, h]; rfl), congrArg (Value.int .i64) (by rw [aSi hlm hil, h]; rfl), rfl, trivial⟩, ⟨by exact fx, by omega⟩, by omega⟩
    | exact ⟨i + 1, ⟨rfl, rfl, congrArg (Value.int .i64) (by rw [aQm hlm hil, h]; simp), congrArg (Value.int .i64) (by rw [aSi hlm hil, h]; simp), rfl, trivial⟩, ⟨by exact fx, by omega⟩, by omega⟩
    | (refine aC rfl ⟨?_, by exact fx⟩
       rw [tLe (l := l) (by omega), tLe (l := m) (by omega)]; rfl)
    | trace_state
end
section
open Go Go.K
attribute [local irreducible] aO aU bQ KOp.wp K.Spec u32 leS vnS str aV cU cD idT aR aG aX
theorem u8_xor (a b:UInt8):cC .xor (.int .u8 (a.toNat:Nat)) (.int .u8 (b.toNat:Nat))=some (.int .u8 ((a^^^b).toNat:Nat)):=by
 have e:∀x:UInt8,BitVec.ofInt 8 (x.toNat:Nat)=x.toBitVec:=fun x=>by
  apply BitVec.eq_of_toNat_eq
  have:=x.toNat_lt
  simp [BitVec.toNat_ofInt]
 simp only [cC,dX,Bool.false_eq_true,if_false,if_true,dL,IntKind.bits]
 rw [e,e]
 refine congrArg some (congrArg (Value.int .u8) ?_)
 have h:IntKind.u8.wrap ((a.toBitVec^^^b.toBitVec).toNat:Nat)=(((a^^^b).toNat:Nat):Int)%256:=rfl
 refine h.trans ?_
 have:=(a^^^b).toNat_lt
 omega
theorem bO9 (n i:Nat):cC .shr (.int .i64 (n:Nat)) (.int .i64 ((i%8:Nat):Int))=some (.int .i64 ((n / 2^(i%8):Nat):Int)):=by
 simp only [cC,dX,if_true]
 rw [if_neg (by omega)]
 have e:min ((i%8:Nat):Int).toNat IntKind.i64.bits=i%8:=by simp [IntKind.bits];omega
 rw [e,Int.fdiv_eq_ediv_of_nonneg _ (by exact_mod_cast Nat.zero_le _)]
 norm_cast
section
variable {P:Program} {d:Option Tmp} {r:KR} {K:Env→World→Prop} {ρ:Env} {w:World}
theorem bNq {x:Operand} {n:Nat} (hx:ev ρ x=.int .i64 (n:Nat)) (k:aO P r K (put ρ d (.int .u8 ((UInt8.ofNat n).toNat:Nat))) w):aO P (.cons ⟨d,.conv .u8 x,none⟩ r) K ρ w:=
 dK rfl (by simp only [KOp.fix,hx];rw [aEf]) k
end
theorem aW3 (n:Nat) (w:World):K.Spec Tryz.prog F.kedgeref05_ID [.int .i64 (n:Nat)] w fun r w'=>r=.string (idN n)∧Ext w w':=by
 refine aM4 rfl ?_
 unfold aA4
 refine oy ?_
 repeat' (first|refine sX (n:=i) (m:=8) rfl rfl (by decide) ?_|refine dS rfl rfl (bO9 n i) ?_|refine bNq rfl ?_|refine dS rfl rfl (u8_xor (UInt8.ofNat (n / 2^(i%8))) (UInt8.ofNat i)) ?_|refine go1 ?_|refine zg λ_ _=>?_|refine zi λ_ _=>?_|refine zL rfl (fun h=>?_) (fun h=>?_)|(refine aQ (fun (i:Nat) w'=>Ext w w'∧i≤32) (fun i=> [(0,.int .i64 (n:Nat)),(3,.string (str (((List.range 32).map fun i=>UInt8.ofNat (n / 2^(i%8))^^^UInt8.ofNat i).take i))),(4,.int .i64 i)]) (fun i=>32 - i) 0 ⟨rfl,congrArg Value.string bCq.symm,rfl,trivial⟩ ⟨Ext.refl _,by omega⟩ ?_;rintro i ρ w1 ⟨x1,hi⟩)|refine zI rfl (fun b w2 x2 a2 hb=>?_)|refine aAp (l:= [UInt8.ofNat (n / 2^(i%8))^^^UInt8.ofNat i]) rfl (SlE.new (E:=u8E) a2 rfl (Nat.le_refl _)) ?_|refine lZ rfl rfl (by rw [gZ,gZ];simp;omega) ?_)
 ·exact ⟨i+1,⟨rfl,congrArg Value.string (bH1 n i (by omega)).symm,rfl,trivial⟩,⟨by exact fx,by omega⟩,by omega⟩
 ·exact aC rfl ⟨congrArg Value.string (by rw [idN,tLe (by simp;omega)]),by exact fx⟩
set_option maxHeartbeats 1000000 in
theorem bD9 {M N:List Nat} {cs ds:List Value} {t:Tx} (w:World) (ht:txR.rel M w cs t) (hu:txR.rel N w ds t) (hs:t.Sm):K.Spec Tryz.prog F.kedgeref05_Same [.agg cs.toArray,.agg ds.toArray] w fun r w'=>r=.bool true∧Ext w w':=by
 obtain ⟨iv,ov,rfl,h1,h2,h3⟩:=ht
 obtain ⟨iv2,ov2,rfl,g1,g2,g3⟩:=hu
 have hq1:=hs.ins
 have hq2:=hs.outs
 refine aIx rfl ?_
 unfold uQ
 refine oy ?_
 repeat' (first|refine go1 ?_|refine zg λ_ _=>?_|refine zi λ_ _=>?_|refine zD rfl rfl (fun bp wp xp ap (rp:Row wp ⟨bp,0,none⟩ (aK t iv ov)) hp0=>?_)|refine zD rfl rfl (fun bq wq xq aq (rq:Row wq ⟨bq,0,none⟩ (aK t iv2 ov2)) hq0=>?_)|refine zK rfl (fun h=>absurd h (by simp)) (fun _=>?_)|refine zN rfl (fun h=>absurd rfl h) (fun _=>?_)|refine zL rfl (fun h=>?_) (fun h=>?_)|refine vQ (E:=inR) (M:=M) (l:=t.ins) rfl (SlR.ext (w:=w) h1 (by exact fx)) ?_|refine vQ (E:=inR) (M:=N) (l:=t.ins) rfl (SlR.ext (w:=w) g1 (by exact fx)) ?_|refine vQ (E:=eX) (M:=M) (l:=t.outs) rfl (SlR.ext (w:=w) h2 (by exact fx)) ?_|refine vQ (E:=eX) (M:=N) (l:=t.outs) rfl (SlR.ext (w:=w) g2 (by exact fx)) ?_|(refine aQ (fun (i:Nat) w'=>Ext wq w'∧i≤t.ins.length) (fun i=> [(2,.pointer (some ⟨bp,0,none⟩)),(3,.pointer (some ⟨bq,0,none⟩)),(5,.int .i64 i)]) (fun i=>t.ins.length - i) 0 ⟨rfl,rfl,rfl,trivial⟩ ⟨Ext.refl _,by omega⟩ ?_;rintro i ρ w1 ⟨x1,hi⟩)|(refine aL (d:=some 50) (E:=inR) (M:=M) rfl rfl (n:=i) (l:=t.ins) (SlR.ext (w:=w) h1 (by exact fx)) rfl (by omega) (fun ad cs r4 he=>?_);obtain ⟨wv,rfl,hw,_⟩:=he;obtain ⟨bs1,cp1,rfl⟩:=hw.form)|(refine aL (d:=some 55) (E:=inR) (M:=N) rfl rfl (n:=i) (l:=t.ins) (SlR.ext (w:=w) g1 (by exact fx)) rfl (by omega) (fun ad cs r4 he=>?_);obtain ⟨wv2,rfl,hw2,_⟩:=he;obtain ⟨bs2,cp2,rfl⟩:=hw2.form)|(refine aL (d:=some 117) (E:=eX) (M:=M) rfl rfl (n:=k) (l:=t.outs) (SlR.ext (w:=w) h2 (by exact fx)) rfl (by omega) (fun ad cs r4 he=>?_);obtain ⟨rfl,_⟩:=he)|(refine aL (d:=some 123) (E:=eX) (M:=N) rfl rfl (n:=k) (l:=t.outs) (SlR.ext (w:=w) g2 (by exact fx)) rfl (by omega) (fun ad cs r4 he=>?_);obtain ⟨rfl,_⟩:=he)|(refine aL (d:=some 131) (E:=eX) (M:=M) rfl rfl (n:=k) (l:=t.outs) (SlR.ext (w:=w) h2 (by exact fx)) rfl (by omega) (fun ad cs r4 he=>?_);obtain ⟨rfl,_⟩:=he)|(refine aL (d:=some 137) (E:=eX) (M:=N) rfl rfl (n:=k) (l:=t.outs) (SlR.ext (w:=w) g2 (by exact fx)) rfl (by omega) (fun ad cs r4 he=>?_);obtain ⟨rfl,_⟩:=he)|refine zE (fun _=>rfl) rfl rfl rfl (fun b6 w6 x6 a6 (r6:Row w6 ⟨b6,0,none⟩ (gO t.ins[i] (.slice bs1 t.ins[i].wit.length cp1))) hb6=>?_)|(refine zE (fun _=>rfl) rfl rfl rfl (fun b7 w7 x7 a7 (r7:Row w7 ⟨b7,0,none⟩ (gO t.ins[i] (.slice bs2 t.ins[i].wit.length cp2))) hb7=>?_);have hwl:=hs.wit _ (gMe (show i<t.ins.length by omega)))|(refine aQ (fun (j:Nat) w'=>Ext w7 w'∧j≤t.ins[i].wit.length) (fun j=> [(2,.pointer (some ⟨bp,0,none⟩)),(3,.pointer (some ⟨bq,0,none⟩)),(5,.int .i64 i),(6,.pointer (some ⟨b6,0,none⟩)),(7,.pointer (some ⟨b7,0,none⟩)),(8,.int .i64 j)]) (fun j=>t.ins[i].wit.length - j) 0 ⟨rfl,rfl,rfl,rfl,rfl,rfl,trivial⟩ ⟨Ext.refl _,by omega⟩ ?_;rintro j ρ8 w8 ⟨x8,hj⟩)|refine vQ (E:=lL) (l:=t.ins[i].wit) rfl (by exact fx) ?_|(refine aL (d:=some 99) (E:=lL) rfl rfl (n:=j) (l:=t.ins[i].wit) (SlR.ext hw (by exact fx)) rfl (by omega) (fun ad cs r4 he=>?_);subst he)|(refine aL (d:=some 104) (E:=lL) rfl rfl (n:=j) (l:=t.ins[i].wit) (SlR.ext hw2 (by exact fx)) rfl (by omega) (fun ad cs r4 he=>?_);subst he)|(refine aQ (fun (k:Nat) w'=>Ext wq w'∧k≤t.outs.length) (fun k=> [(2,.pointer (some ⟨bp,0,none⟩)),(3,.pointer (some ⟨bq,0,none⟩)),(9,.int .i64 k)]) (fun k=>t.outs.length - k) 0 ⟨rfl,rfl,rfl,trivial⟩ ⟨by exact fx,by omega⟩ ?_;rintro k ρ9 w9 ⟨x9,hk⟩))
 all_goals first
  |exact ⟨i+1,⟨rfl,rfl,rfl,trivial⟩,⟨by exact fx,by omega⟩,by omega⟩
  |exact ⟨j+1,⟨rfl,rfl,rfl,rfl,rfl,rfl,trivial⟩,⟨by exact fx,by omega⟩,by omega⟩
  |exact ⟨k+1,⟨rfl,rfl,rfl,trivial⟩,⟨by exact fx,by omega⟩,by omega⟩
  |exact aC rfl ⟨rfl,by exact fx⟩
  |trace_state
end
end Go.Proofs.YtfebcajheojodaaGreatDoor
namespace Go.K
section
open Go
structure Small where
 frm:List UInt8
 idx:UInt8
 outs:UInt8
 fee:Int
 mark:UInt8
 long:UInt8
instance:Inhabited Small:=⟨⟨[],0,0,0,0,0⟩⟩
def u8R:R UInt8:=R.flat u8E false
def u8V (b:UInt8):Value:=.int .u8 (b.toNat:Nat)
structure InMade (x:TIn):Prop where
 lo:0≤x.p.i
 hi:x.p.i<4
 q:x.q=4294967293
 wit:x.wit= []
 id:x.p.s.size=32
structure OutMade (y:TOut):Prop where
 lo:0≤y.v
 hi:y.v≤2000
 s:y.s.size≤40
structure Made (z:Small) (t:Tx):Prop where
 ver:t.ver=2
 lock:t.lock=(z.mark.toNat:Nat)
 ins:t.ins.length=min z.frm.length 4
 each:∀x∈t.ins,InMade x
 outs:t.outs.length=z.outs.toNat%3+1+z.long.toNat
 eacho:∀y∈t.outs,OutMade y
theorem wrap_u8 (b:UInt8):IntKind.i64.wrap (b.toNat:Nat)=(b.toNat:Nat):=IntWalk.i64_in _ (by have:=b.toNat_lt;omega)
theorem aT9 (n m:Nat) (h:0<m):cC .rem (.int .u8 (n:Nat)) (.int .u8 (m:Nat))=some (.int .u8 ((n%m:Nat):Int)):=by
 have hne:(m:Int)≠0:=by omega
 simp only [cC,dX,Bool.false_eq_true,if_false,if_true,dL]
 rw [tm,if_neg hne]
theorem uV {n:Nat} (h:n<256):IntKind.i64.wrap (n:Nat)=(n:Nat):=IntWalk.i64_in _ (by omega)
theorem Made.sm {z:Small} {t:Tx} (h:Made z t):t.Sm:=by
 have h1:=h.ins;have h2:=h.outs;have h3:=z.long.toNat_lt
 exact ⟨by omega,by omega,fun x hx=>by rw [(h.each x hx).wit];simp⟩
end
end Go.K
namespace Go.Proofs.YtfebcajheojodaaGreatDoor
section
open Go Go.K
attribute [local irreducible] aO aU bQ KOp.wp K.Spec u32 leS vnS str aV cU cD idT aR aG aX idN
end
end Go.Proofs.YtfebcajheojodaaGreatDoor
