/- Contracts: may an entry be replaced; does a transaction spen -/
import Derived.Test.YtgloknkcfchnlaaGreatZ29
import Derived.Test.YtgloknkcfchnlaaGreatZ30
set_option linter.unusedVariables false
set_option linter.unusedSimpArgs false
namespace Go.Proofs.YtgloknkcfchnlaaGreat
section
open Go Go.K
theorem bNs (l:List ByteArray) (s:ByteArray):inS l s=inB l s:=by
 rw [Bool.eq_iff_iff,aXo,bFs]
theorem bBt {l:List Ent} (hE:∀x∈l,EntOk x) (s:ByteArray):(dV l s).tx.ins.length≤1000:=by
 by_cases h:eU l s=true
 ·exact (lE (hE _ (bGn h).1).check).ins
 ·have h2:(l.find? fun x=>decide (x.id=s))=none:=by
   have h1:=aEm (p:=fun x:Ent=>decide (x.id=s)) (l:=l)
   unfold eU at h
   rw [←h1] at h
   exact Option.not_isSome_iff_eq_none.1 h
  unfold dV
  rw [h2]
  decide
attribute [local irreducible] aF aP bG KOp.wp K.Spec u32 leS vnS str aR dE bS idT aO aE aQ idN bB cH bY bT cE eO bF cI aK kI fP qT mQ bV evL inS inB
theorem aRd {v:Value} {l:List ByteArray} (a:ByteArray) (w:World) (hs:SlE bL w v l) (hn:l.length≤1000000):K.Spec Tryz.prog F.slices_Contains_L_string_string [v,.string a] w fun r w'=>r=.bool (inB l a)∧w'=w:=
 eZ (aR3 a w hs (by omega)) fun r w' ⟨h1,h2⟩=>⟨by rw [h1,←bNs];unfold inS;rfl,h2⟩
theorem bN9:cK Tryz.prog F.replace_signals_1=true:=by kernel_rfl
theorem bLz:cK Tryz.prog F.replace_replaceable_1=true:=by kernel_rfl
theorem bI3 (x:TIn) (wv:Value) (w:World) (hw:wv.oneCell'=true):K.Spec Tryz.prog F.replace_signals_1 [.agg (eJ x wv).toArray] w fun r w'=>r=.bool (decide (x.q<4294967294))∧Ext w w':=by
 refine aF4 rfl ?_
 unfold tP
 refine oy ?_
 repeat' (first|refine go1 ?_|refine zg λ_ _=>?_|refine zi λ_ _=>?_|refine zD rfl rfl (fun bp wp xp ap (rp:Row wp ⟨bp,0,none⟩ (eJ x wv)) hp0=>?_))
 exact aA rfl ⟨rfl,by exact fx⟩
theorem aKo {N:List Nat} {cs:List Value} {t:Tx} (w:World) (ht:txR.rel N w cs t) (hs:t.ins.length≤1000):K.Spec Tryz.prog F.replace_signals [.agg cs.toArray] w fun r w'=>r=.bool (bNb t)∧Ext w w':=by
 obtain ⟨iv,ov,rfl,hi,ho,hv⟩:=ht
 have tl:∀w1,Ext w w1→sL F.replace_signals_1 [] inR (fun cs=>.agg cs.toArray) N w1 t.ins (fun x=>decide (x.q<4294967294)):=fun w1 x1 x _ w' cs x2 hc=>by
  obtain ⟨bv,rfl,hw,_⟩:=hc
  exact bI3 x bv w' hw.one
 refine aKv rfl ?_
 unfold xD
 refine oy ?_
 repeat' (first|refine go1 ?_|refine zg λ_ _=>?_|refine zi λ_ _=>?_|refine zD rfl rfl (fun bp wp xp ap (rp:Row wp ⟨bp,0,none⟩ (aJ t iv ov)) hp0=>?_)|(refine zC rfl (rH (l:=t.ins) (M:=N) (g:=F.replace_signals_1) (capl:= []) _ bN9 (SlR.ext hi (by exact fx)) (by omega) (tl _ (by exact fx))) ?_;rintro _ w2 ⟨rfl,x2⟩))
 exact aA rfl ⟨rfl,by exact fx⟩
theorem bDy {g b2:Nat} {M:List Nat} {l:List Ent} (s:ByteArray) (w:World) (hG:GrR w g M l) (hM:∀b∈M,b<w.heap.size) (hr:Row w ⟨b2,0,none⟩ [.pointer (some ⟨g,0,none⟩)]):
  K.Spec Tryz.prog F.replace_replaceable_1 [.string s,.pointer (some ⟨b2,0,none⟩)] w fun r w'=>r=.bool (bNb (dV l s).tx)∧Ext w w':=by
 have hE:=hG.ok
 have hsm:=bBt hE s
 refine zS rfl ?_
 unfold pG
 refine oy ?_
 repeat' (first|refine go1 ?_|refine zg λ_ _=>?_|refine zi λ_ _=>?_|(refine zC (d:=some 9) rfl (lQ (M:=M) s _ (hG.ext (by exact fx)) (fun b hb=>nLt (hM b hb) (Ext.size (by exact fx)))) ?_;rintro v5 w5 ⟨ds,rfl,e5,x5⟩;obtain ⟨iv,ov,rfl,o1,o2,o3⟩:=e5;have i1:=o1.one;have i2:=o2.one)|refine zE (d':=4) (fun _=>rfl) rfl rfl (by simp [bC,i1,i2];exact ⟨rfl,rfl,rfl,rfl,rfl⟩) (fun b6 w6 x6 a6 (r6:Row w6 ⟨b6,0,none⟩ (bC (dV l s) iv ov)) hb6=>?_)|(refine zC (d:=some 14) rfl (aKo (N:= []) (cs:=aJ (dV l s).tx iv ov) (t:=(dV l s).tx) _ ⟨iv,ov,rfl,SlR.ext ((o1.sub (M':= []) (by simp)).sl (by simp)) (by exact fx),SlR.ext ((o2.sub (M':= []) (by simp)).sl (by simp)) (by exact fx),o3.1,o3.2.1⟩ hsm) ?_;rintro _ w7 ⟨rfl,x7⟩))
 exact aA rfl ⟨rfl,by exact fx⟩
set_option maxHeartbeats 1000000 in
theorem bI2 {g:Nat} {M:List Nat} {l:List Ent} (s:ByteArray) (w:World) (hG:GrR w g M l) (hM:∀b∈M,b<w.heap.size) (hl:l.length≤1000):
  K.Spec Tryz.prog F.replace_replaceable [.pointer (some ⟨g,0,none⟩),.string s] w fun r w'=>r=.bool (nU l (dV l s))∧Ext w w':=by
 have hE:=hG.ok
 have hsm:=bBt hE s
 have hle:=mF l (bF l (dV l s).tx)
 refine aC8 rfl ?_
 unfold rF
 refine oy ?_
 repeat' (first|refine go1 ?_|refine zg λ_ _=>?_|refine zi λ_ _=>?_|refine zD rfl rfl (fun b2 wg xg ag (rg:Row wg ⟨b2,0,none⟩ [.pointer (some ⟨g,0,none⟩)]) hg0=>?_)|(refine zC (d:=some 10) rfl (lQ (M:=M) s _ (hG.ext (by exact fx)) (fun b hb=>nLt (hM b hb) (Ext.size (by exact fx)))) ?_;rintro v5 w5 ⟨ds,rfl,e5,x5⟩;obtain ⟨iv,ov,rfl,o1,o2,o3⟩:=e5;have i1:=o1.one;have i2:=o2.one)|(refine zE (d':=5) (fun _=>rfl) rfl rfl (by simp [bC,i1,i2];exact ⟨rfl,rfl,rfl,rfl,rfl⟩) (fun b6 w6 x6 a6 (r6:Row w6 ⟨b6,0,none⟩ (bC (dV l s) iv ov)) hb6=>?_);have q1:=SlR.ext ((o1.sub (M':= []) (by simp)).sl (by simp)) x6;have q2:=SlR.ext ((o2.sub (M':= []) (by simp)).sl (by simp)) x6;clear o1 o2)|(refine zC (d:=some 15) rfl (aKo (N:= []) (cs:=aJ (dV l s).tx iv ov) (t:=(dV l s).tx) _ ⟨iv,ov,rfl,SlR.ext q1 (by exact fx),SlR.ext q2 (by exact fx),o3.1,o3.2.1⟩ hsm) ?_;rintro _ w7 ⟨rfl,x7⟩)|refine zK rfl (fun h=>?_) (fun h=>?_)|(refine zC (d:=some 20) rfl (wV (M:=M) (N:= []) (l:=l) (cs:=aJ (dV l s).tx iv ov) (t:=(dV l s).tx) _ (hG.ext (by exact fx)) (fun b hb=>nLt (hM b hb) (Ext.size (by exact fx))) ⟨iv,ov,rfl,SlR.ext q1 (by exact fx),SlR.ext q2 (by exact fx),o3.1,o3.2.1⟩ hsm hl) ?_;rintro va w8 ⟨oa,x8⟩;have sa:SlR pP [] w8 va (aK l (bF l (dV l s).tx)):=SlE.toR (F:=bL) (ag:=false) oa.sl (by simp);have tl:sL F.replace_replaceable_1 [.pointer (some ⟨b2,0,none⟩)] pP (fun cs=>cs.headD undef) [] w8 (aK l (bF l (dV l s).tx)) (fun s=>bNb (dV l s).tx):=(fun x hx w' cs x2 hc=>by obtain rfl:cs= [Value.string x]:=hc;exact bDy (M:=M) x w' (hG.ext (Ext.trans (by exact fx) x2)) (fun b hb=>nLt (hM b hb) (Ext.size (Ext.trans (by exact fx) x2))) (rg.ext (Ext.trans (by exact fx) x2))))|(refine zC (d:=some 22) rfl (aB3 (l:=aK l (bF l (dV l s).tx)) (M:= []) (g:=F.replace_replaceable_1) (capl:= [_]) _ bLz sa (by omega) tl) ?_;rintro _ w9 ⟨rfl,x9⟩))
 all_goals
  refine aA rfl ⟨congrArg Value.bool ?_,by exact fx⟩
  unfold nU
  simp only [h,Bool.true_or,Bool.false_or]
set_option maxHeartbeats 2000000 in
theorem aRs {g : Nat} {M N : List Nat} {l : List Ent} {cs : List Value} {t : Tx} {vc vg : Value} (w : World) (hG : GrR w g M l) (hM : ∀ b ∈ M, b < w.heap.size) (ht : txR.rel N w cs t) (hs : t.ins.length ≤ 1000) (hl : l.length ≤ 1000)
    (hc : SlE bL w vc (aK l (bV l t))) (hg : SlE bL w vg (aK l (evL l t))) :
    K.Spec Tryz.prog F.replace_fresh [.pointer (some ⟨g, 0, none⟩), .agg cs.toArray, vc, vg] w fun r w' => r = .bool (gC l t) ∧ Ext w w' := by
  have hlc := mF l (bV l t)
  have hle := mF l (evL l t)
  obtain ⟨iv, ov, rfl, hi, ho, hv⟩ := ht
  obtain ⟨ids, hids⟩ : ∃ ids, ids = aK l (bV l t) := ⟨_, rfl⟩
  obtain ⟨gone, hgone⟩ : ∃ gone, gone = aK l (evL l t) := ⟨_, rfl⟩
  have hF : gC l t = t.ins.any fun b => cV l b.p && (inB gone b.p.s || !inB ids (aGa l b.p)) := by rw [hids, hgone]; rfl
  rw [← hids] at hc hlc
  rw [← hgone] at hg hle
  rw [hF]
  refine aOl rfl ?_
  unfold aCo
  refine oy ?_
  repeat' (first|refine go1 ?_|refine zg λ_ _=>?_|refine zi λ_ _=>?_|refine zD rfl rfl (fun bt wt xt bt' (rt : Row wt ⟨bt, 0, none⟩ (aJ t iv ov)) hbt0=>?_)|refine zG (d := some 17) (E := inR) (M := N) (l := t.ins) rfl (SlR.ext hi (by exact fx)) ?_|refine zL rfl (fun h => ?_) (fun h => ?_)|(refine aI (fun (i : Nat) w' => Ext w w' ∧ i ≤ t.ins.length ∧ ∀ b ∈ t.ins.take i, (cV l b.p && (inB gone b.p.s || !inB ids (aGa l b.p))) = false) (fun i => [(0, .pointer (some ⟨g, 0, none⟩)), (2, vc), (3, vg), (16, iv), (17, .int .i64 (t.ins.length : Nat)), (18, .int .i64 i)]) (fun i => t.ins.length - i) 0 ⟨rfl, rfl, rfl, rfl, rfl, rfl, trivial⟩ ⟨xt, by simp, by simp⟩ ?_; clear xt; rintro i ρ w3 ⟨x3, hi3, hno⟩))
  · have hil : i < t.ins.length := by omega
    refine aM (d := some 20) (E := inR) (M := N) rfl rfl (n := i) (l := t.ins) (hi.ext x3) rfl hil (fun ad cs r4 he => ?_)
    obtain ⟨wv, rfl, q1, q2, q3⟩ := he
    have i1 := q1.one
    have htk : ∀ {P : TIn → Prop}, (∀ b ∈ t.ins.take i, P b) → P t.ins[i] → ∀ b ∈ t.ins.take (i + 1), P b := fun h1 h2 b hb => by
      rw [List.take_succ_eq_append_getElem hil] at hb
      rcases List.mem_append.1 hb with h | h
      · exact h1 b h
      · simp at h; subst h; exact h2
    have hyes : ∀ {P : TIn → Bool}, P t.ins[i] = true → t.ins.any P = true := fun h => List.any_eq_true.2 ⟨_, gMe hil, h⟩
    obtain ⟨B, hB⟩ : ∃ B, cV l t.ins[i].p = B := ⟨_, rfl⟩
    obtain ⟨C, hC⟩ : ∃ C, inB gone t.ins[i].p.s = C := ⟨_, rfl⟩
    obtain ⟨D, hD⟩ : ∃ D, inB ids (aGa l t.ins[i].p) = D := ⟨_, rfl⟩
    cases B <;> cases C <;> cases D
    all_goals repeat' (first|refine go1 ?_|refine zg λ_ _=>?_|refine zi λ_ _=>?_|refine zE (d' := 10) (fun _=>rfl) rfl rfl (by simp [eJ, i1]; exact ⟨rfl, rfl, rfl⟩) (fun b6 w6 x6 a6 (r6 : Row w6 ⟨b6, 0, none⟩ (eJ t.ins[i] wv)) hb6=>?_)|(refine zC (d := some 26) rfl (aA9 (M := M) (l := l) t.ins[i].p q2 _ (hG.ext (by exact fx)) (fun b hb => nLt (hM b hb) (Ext.size (by exact fx)))) ?_; rintro _ w7 ⟨o, rfl, -, x7⟩; rw [hB])|refine zE (d' := 11) (vs := iI o) (fun _=>rfl) rfl rfl rfl (fun b8 w8 x8 a8 r8 hb8=>?_)|refine zM rfl (fun h => ?_) (fun h => ?_)|(refine zC (d := some 35) rfl (aIl (M := M) (l := l) t.ins[i].p _ (hG.ext (by exact fx))) ?_; rintro _ w9 ⟨rfl, x9⟩)|(refine zC (d := some 42) rfl (aRd (l := gone) t.ins[i].p.s _ (SlE.ext (by exact fx) hg) (by omega)) ?_; rintro _ _ ⟨rfl, rfl⟩; rw [hC])|(refine zC (d := some 46) rfl (aRd (l := ids) (aGa l t.ins[i].p) _ (SlE.ext (by exact fx) hc) (by omega)) ?_; rintro _ _ ⟨rfl, rfl⟩; rw [hD])|refine zK rfl (fun h => ?_) (fun h => ?_))
    all_goals first
      | exact ⟨i + 1, ⟨rfl, rfl, rfl, rfl, rfl, rfl, trivial⟩, ⟨by exact fx, by omega, htk hno (by rw [hB, hC, hD]; rfl)⟩, by omega⟩
      | exact ⟨i + 1, ⟨rfl, rfl, rfl, rfl, rfl, rfl, trivial⟩, ⟨by exact fx, by omega, htk hno (by rw [hB]; rfl)⟩, by omega⟩
      | (rw [show (t.ins.any fun b => cV l b.p && (inB gone b.p.s || !inB ids (aGa l b.p))) = true from hyes (by rw [hB, hC, hD]; rfl)]
         exact aA rfl ⟨rfl, by exact fx⟩)
  · have e : (t.ins.any fun b => cV l b.p && (inB gone b.p.s || !inB ids (aGa l b.p))) = false := by
      rw [tLe (by omega)] at hno
      exact List.any_eq_false.2 (fun b hb => by rw [hno b hb]; simp)
    rw [e]
    exact aA rfl ⟨rfl, x3⟩
end
end Go.Proofs.YtgloknkcfchnlaaGreat
