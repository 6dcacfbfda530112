/- Contracts: the rules of replacing, by the program. Contracts -/
import Derived.Test.YteceapipdhnhdaaGreatDoorNa12
import Derived.Test.YteceapipdhnhdaaGreatDoorNa30
import Derived.Test.YteceapipdhnhdaaGreatDoorNa31
import Derived.Test.YteceapipdhnhdaaGreatDoorNa32
set_option linter.unusedVariables false
set_option linter.unusedSimpArgs false
namespace Go.Proofs.YteceapipdhnhdaaGreatDoor
section
open Go Go.K
attribute [local irreducible] aH aM aY KOp.wp K.Spec u32 leS vnS str aP cM bK idT aQ aG aN idN bG cL cB bQ cF fM dC bV aO kZ fL wF qP bP evL inS inB mT iI lI jR jO uE nH
theorem aS1:bW Tryz.prog F.replace_Rules_1=true:=by kernel_rfl
theorem aMf {g b2:Nat} {M:List Nat} {l:List Ent} (s:ByteArray) (w:World) (hG:GrR w g M l) (hM:∀b∈M,b<w.heap.size) (hl:l.length≤1000) (hr:Row w ⟨b2,0,none⟩ [.pointer (some ⟨g,0,none⟩)]):
  K.Spec Tryz.prog F.replace_Rules_1 [.string s,.pointer (some ⟨b2,0,none⟩)] w fun r w'=>r=.bool (!uE l (dI l s))∧Ext w w':=by
 refine aIh rfl ?_
 unfold vQ
 refine oy ?_
 repeat' (first|(first|refine go2 ?_|fail)|(refine zC (d:=some 6) rfl (bHo (M:=M) (l:=l) s _ (hG.ext (by exact fx)) (fun b hb=>nLt (hM b hb) (Ext.size (by exact fx))) hl) ?_;rintro _ w5 ⟨rfl,x5⟩))
 exact aA rfl ⟨rfl,by exact fx⟩
theorem bNf {l:List Ent} {t:Tx} (h:l.any (gW t)=false):(l.any fun x=>gW t x&&!uE l x)=false:=by
 rw [List.any_eq_false] at h ⊢
 intro x hx h2
 rw [Bool.and_eq_true] at h2
 exact h x hx h2.1
set_option maxHeartbeats 4000000 in
theorem bBv {g : Nat} {M N : List Nat} {l : List Ent} {cs : List Value} {t : Tx} (fee : Int) (w : World) (hG : GrR w g M l) (hM : ∀ b ∈ M, b < w.heap.size) (ht : txR.rel N w cs t) (hs : t.Sm) (hl : l.length ≤ 1000) (hf : ∀ x ∈ l, x.fee ≤ 1000000000000) :
    K.Spec Tryz.prog F.replace_Rules [.pointer (some ⟨g, 0, none⟩), .agg cs.toArray, .int .i64 fee] w fun r w' => r = .int .i64 (fB l t fee) ∧ Ext w w' := by
  have hnd := hG.nodup
  have hE := hG.ok
  have hlc := iF l (bP l t)
  have hle := iF l (evL l t)
  have ht0 := ht
  obtain ⟨iv, ov, rfl, hi, ho, hv⟩ := ht
  by_cases hc : aG t = 0
  · have e0 : pG t = .tuple #[.int .i64 (aQ t : Nat), .int .i64 0] := by rw [pG, if_pos hc]
    have hz := (cI hs hc).sizeM
    cases hgf : bT fee with
    | false =>
      have e : fB l t fee = 3 := by rw [fB, if_neg (by simpa using hc), if_pos hgf]
      rw [e]
      obtain ⟨nN, hnN⟩ : ∃ n, jR l t = n := ⟨_, rfl⟩
      obtain ⟨nE, hnE⟩ : ∃ n, jO l t = n := ⟨_, rfl⟩
      refine jE rfl ?_
      unfold gK
      refine oy ?_
      repeat' (first|refine dN (b := .cons ⟨some 39, _, _⟩ _) (fun (vc : Value) w' => Ext w4 w' ∧ Own bB T.string w4.heap.size w' vc (aO l (bP l t))) (fun vc => [(2, .int .i64 fee), (3, .pointer (some ⟨bg, 0, none⟩)), (4, .pointer (some ⟨bt, 0, none⟩)), (9, .int .i64 nN), (36, vc), (37, .pointer (some ⟨g, 0, none⟩)), (38, .agg (aK t iv ov).toArray)]) ?_ ?_|(rintro vc ρ7 w7 ⟨x7, oc⟩; have sc := oc.sl; try dsimp only)|(exact ⟨v6, ⟨rfl, rfl, rfl, rfl, rfl, rfl, rfl, trivial⟩, by exact fx, Own.lower (Own.ext (by exact fx) o6) (Ext.size (by exact fx))⟩)|refine zF (d := some 32) (v := .bool false) ((qG _).trans (by rw [hgf])) ?_|(first|refine go2 ?_|fail)|refine zD (d := some 3) rfl rfl (fun bg wg xg bg' (rg : Row wg ⟨bg, 0, none⟩ [.pointer (some ⟨g, 0, none⟩)]) hbg0=>?_)|refine zD (d := some 4) rfl rfl (fun bt wt xt bt' (rt : Row wt ⟨bt, 0, none⟩ (aK t iv ov)) hbt0=>?_)|(refine zC (d := some 17) rfl (iK (M := N) (cs := aK t iv ov) (t := t) _ (R.ext ht0 (by exact fx)) hs) ?_; rintro _ w3 ⟨rfl, x3⟩; rw [e0])|(refine zC (d := some 26) rfl (aDs (M := M) (N := N) (l := l) (cs := aK t iv ov) (t := t) _ (hG.ext (by exact fx)) (fun b hb => nLt (hM b hb) (Ext.size (by exact fx))) (R.ext ht0 (by exact fx)) hs hl hf) ?_; rintro _ w4 ⟨rfl, x4⟩; rw [hnN, hnE])|refine fG ?_ ?_|(refine zC (d := some 36) rfl (fZ (M := M) (N := N) (l := l) (cs := aK t iv ov) (t := t) _ (hG.ext (by exact fx)) (fun b hb => nLt (hM b hb) (Ext.size (by exact fx))) (R.ext ht0 (by exact fx)) hs.ins hl) ?_; rintro v6 w6 ⟨o6, x6⟩)|(refine zC (d := some 39) rfl (kJ (M := M) (N := N) (l := l) (cs := aK t iv ov) (t := t) _ (hG.ext (by exact fx)) (fun b hb => nLt (hM b hb) (Ext.size (by exact fx))) (R.ext ht0 (by exact fx)) hs.ins hl) ?_; rintro vg w8 ⟨og, x8⟩; have sg := og.sl)|refine bL (d := some 42) (E := bB) (l := aO l (bP l t)) rfl (SlE.ext (by exact fx) sc) ?_)
      repeat' (first|refine zF (d := some 32) (v := .bool false) ((qG _).trans (by rw [hgf])) ?_|(first|refine go2 ?_|fail)|refine zN (p := nE = 0) rfl (fun _ => ?_) (fun _ => ?_))
      all_goals exact aA rfl ⟨rfl, by exact fx⟩
    | true =>
      cases hh : l.any (gW t) with
      | false =>
        have e : fB l t fee = 0 := by rw [fB, if_neg (by simpa using hc), if_neg (by rw [hgf]; simp), if_neg (by rw [bNf hh]; simp), if_pos hh]
        rw [e]
        have hnN : jR l t = 0 := by unfold jR; rw [if_neg (by simpa using hc), if_pos hh]
        have hnE : jO l t = 0 := by unfold jO; rw [if_neg (by simpa using hc), if_pos hh]
        have hlen : (aO l (bP l t)).length = 0 := aD1.2 hh
        refine jE rfl ?_
        unfold gK
        refine oy ?_
        repeat' (first|refine dN (b := .cons ⟨some 39, _, _⟩ _) (fun (vc : Value) w' => Ext w4 w' ∧ Own bB T.string w4.heap.size w' vc (aO l (bP l t))) (fun vc => [(2, .int .i64 fee), (3, .pointer (some ⟨bg, 0, none⟩)), (4, .pointer (some ⟨bt, 0, none⟩)), (9, .int .i64 0), (36, vc), (37, .pointer (some ⟨g, 0, none⟩)), (38, .agg (aK t iv ov).toArray)]) ?_ ?_|(rintro vc ρ7 w7 ⟨x7, oc⟩; have sc := oc.sl; try dsimp only)|(exact ⟨v6, ⟨rfl, rfl, rfl, rfl, rfl, rfl, rfl, trivial⟩, by exact fx, Own.lower (Own.ext (by exact fx) o6) (Ext.size (by exact fx))⟩)|refine zF (d := some 32) (v := .bool true) ((qG _).trans (by rw [hgf])) ?_|(first|refine go2 ?_|fail)|refine zD (d := some 3) rfl rfl (fun bg wg xg bg' (rg : Row wg ⟨bg, 0, none⟩ [.pointer (some ⟨g, 0, none⟩)]) hbg0=>?_)|refine zD (d := some 4) rfl rfl (fun bt wt xt bt' (rt : Row wt ⟨bt, 0, none⟩ (aK t iv ov)) hbt0=>?_)|(refine zC (d := some 17) rfl (iK (M := N) (cs := aK t iv ov) (t := t) _ (R.ext ht0 (by exact fx)) hs) ?_; rintro _ w3 ⟨rfl, x3⟩; rw [e0])|(refine zC (d := some 26) rfl (aDs (M := M) (N := N) (l := l) (cs := aK t iv ov) (t := t) _ (hG.ext (by exact fx)) (fun b hb => nLt (hM b hb) (Ext.size (by exact fx))) (R.ext ht0 (by exact fx)) hs hl hf) ?_; rintro _ w4 ⟨rfl, x4⟩; rw [hnN, hnE])|refine fG ?_ ?_|(refine zC (d := some 36) rfl (fZ (M := M) (N := N) (l := l) (cs := aK t iv ov) (t := t) _ (hG.ext (by exact fx)) (fun b hb => nLt (hM b hb) (Ext.size (by exact fx))) (R.ext ht0 (by exact fx)) hs.ins hl) ?_; rintro v6 w6 ⟨o6, x6⟩)|(refine zC (d := some 39) rfl (kJ (M := M) (N := N) (l := l) (cs := aK t iv ov) (t := t) _ (hG.ext (by exact fx)) (fun b hb => nLt (hM b hb) (Ext.size (by exact fx))) (R.ext ht0 (by exact fx)) hs.ins hl) ?_; rintro vg w8 ⟨og, x8⟩; have sg := og.sl)|refine bL (d := some 42) (E := bB) (l := aO l (bP l t)) rfl (SlE.ext (by exact fx) sc) ?_)
        refine zL rfl (fun _ => ?_) (fun h => absurd (show (((aO l (bP l t)).length : Nat) : Int) = 0 by omega) h)
        repeat' (first|refine go2 ?_|fail)
        exact aA rfl ⟨rfl, by exact fx⟩
      | true =>
        have hlen : (aO l (bP l t)).length ≠ 0 := fun h => by rw [aD1.1 h] at hh; cases hh
        have hpr : bCx l := fun x hx => aHa (hE x hx)
        have hfp : cD fee (aQ t : Nat) = true := by unfold cD; rw [hgf, Bool.true_and]; exact dTr (by omega)
        have hgb := (aOy (t := t) (c := 1000000000000) (fun x hx => ⟨((bR _).1 (hE x hx).fee).1, hf x hx⟩)).1
        have hnp := bH5 (l := l) (t := t) hgb hz.1
        obtain ⟨nv, hnv⟩ : ∃ nv, nv = if bT (iI l t) = true then iI l t else 2100000000000001 := ⟨_, rfl⟩
        have hR : fB l t fee = if (l.any fun x => gW t x && !uE l x) = true then 15 else if (aO l (evL l t)).length > 100 then 15 else if nH l t = true then 15 else if fee < nv then 11 else 0 := by
          rw [bDn hnd hpr hh hfp hnv (by omega), fB, if_neg (by simpa using hc), if_neg (by rw [hgf]; simp)]
          split
          · rfl
          · rw [if_neg (by rw [hh]; simp)]
        cases hgn : bT (iI l t) with
        | false =>
          rw [if_neg (by rw [hgn]; simp)] at hnv
          have hnN : jR l t = 0 := by unfold jR; rw [if_neg (by simpa using hc), if_neg (by rw [hh]; simp), if_neg (by rw [hgn]; simp)]
          have hnE : jO l t = 3 := by unfold jO; rw [if_neg (by simpa using hc), if_neg (by rw [hh]; simp), if_neg (by rw [hgn]; simp)]
          refine jE rfl ?_
          unfold gK
          refine oy ?_
          repeat' (first|refine dN (b := .cons ⟨some 39, _, _⟩ _) (fun (vc : Value) w' => Ext w4 w' ∧ Own bB T.string w4.heap.size w' vc (aO l (bP l t))) (fun vc => [(2, .int .i64 fee), (3, .pointer (some ⟨bg, 0, none⟩)), (4, .pointer (some ⟨bt, 0, none⟩)), (9, .int .i64 2100000000000001), (36, vc), (37, .pointer (some ⟨g, 0, none⟩)), (38, .agg (aK t iv ov).toArray)]) ?_ ?_|(rintro vc ρ7 w7 ⟨x7, oc⟩; have sc := oc.sl; try dsimp only)|(exact ⟨v6, ⟨rfl, rfl, rfl, rfl, rfl, rfl, rfl, trivial⟩, by exact fx, Own.lower (Own.ext (by exact fx) o6) (Ext.size (by exact fx))⟩)|refine zF (d := some 32) (v := .bool true) ((qG _).trans (by rw [hgf])) ?_|(first|refine go2 ?_|fail)|refine zD (d := some 3) rfl rfl (fun bg wg xg bg' (rg : Row wg ⟨bg, 0, none⟩ [.pointer (some ⟨g, 0, none⟩)]) hbg0=>?_)|refine zD (d := some 4) rfl rfl (fun bt wt xt bt' (rt : Row wt ⟨bt, 0, none⟩ (aK t iv ov)) hbt0=>?_)|(refine zC (d := some 17) rfl (iK (M := N) (cs := aK t iv ov) (t := t) _ (R.ext ht0 (by exact fx)) hs) ?_; rintro _ w3 ⟨rfl, x3⟩; rw [e0])|(refine zC (d := some 26) rfl (aDs (M := M) (N := N) (l := l) (cs := aK t iv ov) (t := t) _ (hG.ext (by exact fx)) (fun b hb => nLt (hM b hb) (Ext.size (by exact fx))) (R.ext ht0 (by exact fx)) hs hl hf) ?_; rintro _ w4 ⟨rfl, x4⟩; rw [hnN, hnE])|refine fG ?_ ?_|(refine zC (d := some 36) rfl (fZ (M := M) (N := N) (l := l) (cs := aK t iv ov) (t := t) _ (hG.ext (by exact fx)) (fun b hb => nLt (hM b hb) (Ext.size (by exact fx))) (R.ext ht0 (by exact fx)) hs.ins hl) ?_; rintro v6 w6 ⟨o6, x6⟩)|(refine zC (d := some 39) rfl (kJ (M := M) (N := N) (l := l) (cs := aK t iv ov) (t := t) _ (hG.ext (by exact fx)) (fun b hb => nLt (hM b hb) (Ext.size (by exact fx))) (R.ext ht0 (by exact fx)) hs.ins hl) ?_; rintro vg w8 ⟨og, x8⟩; have sg := og.sl)|refine bL (d := some 42) (E := bB) (l := aO l (bP l t)) rfl (SlE.ext (by exact fx) sc) ?_)
          have sc8 := SlE.ext x8 sc
          have rg8 : Row w8 ⟨bg, 0, none⟩ [.pointer (some ⟨g, 0, none⟩)] := rg.ext (by exact fx)
          have rt8 : Row w8 ⟨bt, 0, none⟩ (aK t iv ov) := rt.ext (by exact fx)
          have y08 : Ext w w8 := by exact fx
          have G8 := hG.ext y08
          have t8 := R.ext ht0 y08
          have hM8 : ∀ b ∈ M, b < w8.heap.size := fun b hb => nLt (hM b hb) y08.size
          have x08 : Unit → Ext w w8 := fun _ => y08
          clear y08
          have scR : SlR nM [] w8 vc (aO l (bP l t)) := SlE.toR (F := bB) (ag := false) sc8 (by simp)
          have tl : ∀ w1, Ext w8 w1 → qQ F.replace_Rules_1 [.pointer (some ⟨bg, 0, none⟩)] nM (fun cs => cs.headD undef) [] w1 (aO l (bP l t)) (fun s => !uE l (dI l s)) := fun w1 x1 x hx w' cs x2 hc => by
            obtain rfl : cs = [Value.string x] := hc
            exact aMf (M := M) x w' (G8.ext (x1.trans x2)) (fun b hb => nLt (hM8 b hb) (x1.trans x2).size) hl (rg8.ext (x1.trans x2))
          clear oc og x8 x7 x4 x3 xt xg rg rt hG ht0 bg' bt' sc
          repeat' (first|(first|refine go2 ?_|fail)|(refine zL (p := (((aO l (bP l t)).length : Nat) : Int) = 0) rfl (fun h => absurd h (by omega)) (fun _ => ?_))|(refine zC (d := some 47) rfl (aAi (l := aO l (bP l t)) (M := []) (g := F.replace_Rules_1) (capl := [_]) _ aS1 (SlR.ext scR (by exact fx)) (by omega) (tl _ (by exact fx))) ?_; rintro _ w9 ⟨rfl, x9⟩; rw [aX2 hnd])|refine zM rfl (fun h => ?_) (fun h => ?_)|refine bL (d := some 50) (E := bB) (l := aO l (evL l t)) rfl (SlE.ext (by exact fx) sg) ?_|(refine zJ (p := (((aO l (evL l t)).length : Nat) : Int) > 100) rfl (fun h => ?_) (fun h => ?_))|(refine zC (d := some 57) rfl (aPz (M := M) (N := N) (l := l) (cs := aK t iv ov) (t := t) _ (G8.ext (by exact fx)) (fun b hb => nLt (hM8 b hb) (Ext.size (by exact fx))) (R.ext t8 (by exact fx)) hs.ins hl (SlE.ext (by exact fx) sc8) (SlE.ext (by exact fx) sg)) ?_; rintro _ w10 ⟨rfl, x10⟩)|refine zL rfl (fun h => ?_) (fun h => ?_))
          all_goals
            rw [hR]
            first
              | (rw [if_pos ‹(l.any fun x => gW t x && !uE l x) = true›]
                 exact aA rfl ⟨rfl, Ext.trans (x08 ()) (by exact fx)⟩)
              | (rw [if_neg (by rw [‹(l.any fun x => gW t x && !uE l x) = false›]; simp)]
                 first
                   | (rw [if_pos (by omega)]
                      exact aA rfl ⟨rfl, Ext.trans (x08 ()) (by exact fx)⟩)
                   | (rw [if_neg (by omega)]
                      first
                        | (rw [if_pos ‹nH l t = true›]
                           exact aA rfl ⟨rfl, Ext.trans (x08 ()) (by exact fx)⟩)
                        | (rw [if_neg (by rw [‹nH l t = false›]; simp)]
                           first
                             | (rw [if_pos (by rw [hnv]; exact of_decide_eq_true (by assumption))]
                                exact aA rfl ⟨rfl, Ext.trans (x08 ()) (by exact fx)⟩)
                             | (rw [if_neg (by rw [hnv]; exact of_decide_eq_false (by assumption))]
                                exact aA rfl ⟨rfl, Ext.trans (x08 ()) (by exact fx)⟩))))
        | true =>
          rw [if_pos hgn] at hnv
          have hnN : jR l t = iI l t := by unfold jR; rw [if_neg (by simpa using hc), if_neg (by rw [hh]; simp), if_pos hgn]
          have hnE : jO l t = 0 := by unfold jO; rw [if_neg (by simpa using hc), if_neg (by rw [hh]; simp), if_pos hgn]
          refine jE rfl ?_
          unfold gK
          refine oy ?_
          repeat' (first|refine dN (b := .cons ⟨some 39, _, _⟩ _) (fun (vc : Value) w' => Ext w4 w' ∧ Own bB T.string w4.heap.size w' vc (aO l (bP l t))) (fun vc => [(2, .int .i64 fee), (3, .pointer (some ⟨bg, 0, none⟩)), (4, .pointer (some ⟨bt, 0, none⟩)), (9, .int .i64 (iI l t)), (36, vc), (37, .pointer (some ⟨g, 0, none⟩)), (38, .agg (aK t iv ov).toArray)]) ?_ ?_|(rintro vc ρ7 w7 ⟨x7, oc⟩; have sc := oc.sl; try dsimp only)|(exact ⟨v6, ⟨rfl, rfl, rfl, rfl, rfl, rfl, rfl, trivial⟩, by exact fx, Own.lower (Own.ext (by exact fx) o6) (Ext.size (by exact fx))⟩)|refine zF (d := some 32) (v := .bool true) ((qG _).trans (by rw [hgf])) ?_|(first|refine go2 ?_|fail)|refine zD (d := some 3) rfl rfl (fun bg wg xg bg' (rg : Row wg ⟨bg, 0, none⟩ [.pointer (some ⟨g, 0, none⟩)]) hbg0=>?_)|refine zD (d := some 4) rfl rfl (fun bt wt xt bt' (rt : Row wt ⟨bt, 0, none⟩ (aK t iv ov)) hbt0=>?_)|(refine zC (d := some 17) rfl (iK (M := N) (cs := aK t iv ov) (t := t) _ (R.ext ht0 (by exact fx)) hs) ?_; rintro _ w3 ⟨rfl, x3⟩; rw [e0])|(refine zC (d := some 26) rfl (aDs (M := M) (N := N) (l := l) (cs := aK t iv ov) (t := t) _ (hG.ext (by exact fx)) (fun b hb => nLt (hM b hb) (Ext.size (by exact fx))) (R.ext ht0 (by exact fx)) hs hl hf) ?_; rintro _ w4 ⟨rfl, x4⟩; rw [hnN, hnE])|refine fG ?_ ?_|(refine zC (d := some 36) rfl (fZ (M := M) (N := N) (l := l) (cs := aK t iv ov) (t := t) _ (hG.ext (by exact fx)) (fun b hb => nLt (hM b hb) (Ext.size (by exact fx))) (R.ext ht0 (by exact fx)) hs.ins hl) ?_; rintro v6 w6 ⟨o6, x6⟩)|(refine zC (d := some 39) rfl (kJ (M := M) (N := N) (l := l) (cs := aK t iv ov) (t := t) _ (hG.ext (by exact fx)) (fun b hb => nLt (hM b hb) (Ext.size (by exact fx))) (R.ext ht0 (by exact fx)) hs.ins hl) ?_; rintro vg w8 ⟨og, x8⟩; have sg := og.sl)|refine bL (d := some 42) (E := bB) (l := aO l (bP l t)) rfl (SlE.ext (by exact fx) sc) ?_)
          have sc8 := SlE.ext x8 sc
          have rg8 : Row w8 ⟨bg, 0, none⟩ [.pointer (some ⟨g, 0, none⟩)] := rg.ext (by exact fx)
          have rt8 : Row w8 ⟨bt, 0, none⟩ (aK t iv ov) := rt.ext (by exact fx)
          have y08 : Ext w w8 := by exact fx
          have G8 := hG.ext y08
          have t8 := R.ext ht0 y08
          have hM8 : ∀ b ∈ M, b < w8.heap.size := fun b hb => nLt (hM b hb) y08.size
          have x08 : Unit → Ext w w8 := fun _ => y08
          clear y08
          have scR : SlR nM [] w8 vc (aO l (bP l t)) := SlE.toR (F := bB) (ag := false) sc8 (by simp)
          have tl : ∀ w1, Ext w8 w1 → qQ F.replace_Rules_1 [.pointer (some ⟨bg, 0, none⟩)] nM (fun cs => cs.headD undef) [] w1 (aO l (bP l t)) (fun s => !uE l (dI l s)) := fun w1 x1 x hx w' cs x2 hc => by
            obtain rfl : cs = [Value.string x] := hc
            exact aMf (M := M) x w' (G8.ext (x1.trans x2)) (fun b hb => nLt (hM8 b hb) (x1.trans x2).size) hl (rg8.ext (x1.trans x2))
          clear oc og x8 x7 x4 x3 xt xg rg rt hG ht0 bg' bt' sc
          repeat' (first|(first|refine go2 ?_|fail)|(refine zL (p := (((aO l (bP l t)).length : Nat) : Int) = 0) rfl (fun h => absurd h (by omega)) (fun _ => ?_))|(refine zC (d := some 47) rfl (aAi (l := aO l (bP l t)) (M := []) (g := F.replace_Rules_1) (capl := [_]) _ aS1 (SlR.ext scR (by exact fx)) (by omega) (tl _ (by exact fx))) ?_; rintro _ w9 ⟨rfl, x9⟩; rw [aX2 hnd])|refine zM rfl (fun h => ?_) (fun h => ?_)|refine bL (d := some 50) (E := bB) (l := aO l (evL l t)) rfl (SlE.ext (by exact fx) sg) ?_|(refine zJ (p := (((aO l (evL l t)).length : Nat) : Int) > 100) rfl (fun h => ?_) (fun h => ?_))|(refine zC (d := some 57) rfl (aPz (M := M) (N := N) (l := l) (cs := aK t iv ov) (t := t) _ (G8.ext (by exact fx)) (fun b hb => nLt (hM8 b hb) (Ext.size (by exact fx))) (R.ext t8 (by exact fx)) hs.ins hl (SlE.ext (by exact fx) sc8) (SlE.ext (by exact fx) sg)) ?_; rintro _ w10 ⟨rfl, x10⟩)|refine zL rfl (fun h => ?_) (fun h => ?_))
          all_goals
            rw [hR]
            first
              | (rw [if_pos ‹(l.any fun x => gW t x && !uE l x) = true›]
                 exact aA rfl ⟨rfl, Ext.trans (x08 ()) (by exact fx)⟩)
              | (rw [if_neg (by rw [‹(l.any fun x => gW t x && !uE l x) = false›]; simp)]
                 first
                   | (rw [if_pos (by omega)]
                      exact aA rfl ⟨rfl, Ext.trans (x08 ()) (by exact fx)⟩)
                   | (rw [if_neg (by omega)]
                      first
                        | (rw [if_pos ‹nH l t = true›]
                           exact aA rfl ⟨rfl, Ext.trans (x08 ()) (by exact fx)⟩)
                        | (rw [if_neg (by rw [‹nH l t = false›]; simp)]
                           first
                             | (rw [if_pos (by rw [hnv]; exact of_decide_eq_true (by assumption))]
                                exact aA rfl ⟨rfl, Ext.trans (x08 ()) (by exact fx)⟩)
                             | (rw [if_neg (by rw [hnv]; exact of_decide_eq_false (by assumption))]
                                exact aA rfl ⟨rfl, Ext.trans (x08 ()) (by exact fx)⟩))))
  · have e0 : pG t = .tuple #[.int .i64 0, .int .i64 (aG t)] := by rw [pG, if_neg hc]
    have e : fB l t fee = aG t := by rw [fB, if_pos hc]
    rw [e]
    refine jE rfl ?_
    unfold gK
    refine oy ?_
    repeat' (first|(first|refine go2 ?_|fail)|refine zD (d := some 3) rfl rfl (fun bg wg xg bg' (rg : Row wg ⟨bg, 0, none⟩ [.pointer (some ⟨g, 0, none⟩)]) hbg0=>?_)|refine zD (d := some 4) rfl rfl (fun bt wt xt bt' (rt : Row wt ⟨bt, 0, none⟩ (aK t iv ov)) hbt0=>?_)|(refine zC (d := some 17) rfl (iK (M := N) (cs := aK t iv ov) (t := t) _ (R.ext ht0 (by exact fx)) hs) ?_; rintro _ w3 ⟨rfl, x3⟩; rw [e0])|refine zN (p := aG t = 0) rfl (fun _ => ?_) (fun h => absurd h hc))
    exact aA rfl ⟨rfl, by exact fx⟩
end
section
open Go Go.K
attribute [local irreducible] aH aM aY KOp.wp K.Spec u32 leS vnS str aP cM bK idT aQ aG aN idN bG cL cB bQ cF fM bOg idL
attribute [local irreducible] eA eB jR jO fB bP evL aO
end
section
open Go Go.K
attribute [local irreducible] aH aM aY KOp.wp K.Spec u32 leS vnS str aP cM bK idT aQ aG aN idN bG cL cB bQ cF fM jR jO fB aIb bP evL aO xN aDk gW inB dC fA bN
end
end Go.Proofs.YteceapipdhnhdaaGreatDoor
namespace Go.K
section
open Go Go.Proofs.YteceapipdhnhdaaGreatDoor
def SC (l:List En):Prop:=∀e∈l,e.2.s.size≤40∧fN e.1.i
theorem SC.nil:SC []:=by simp [SC]
theorem SC.take {l:List En} (h:SC l) (hs:Srt l) (p:Pt):SC (cY l p):=fun e he=>by
 rw [sG hs] at he
 exact h e (List.mem_filter.1 he).1
theorem SC.put {l:List En} (h:SC l) (hs:Srt l) {p:Pt} {c:Cn} (hc:c.s.size≤40∧fN p.i):SC (cR l p c):=fun e he=>by
 by_cases h0:aV l p c=0
 ·rcases List.mem_append.1 ((aPq hs h0).mem_iff.1 he) with he|he
  ·exact h e he
  simp_all
 ·unfold cR at he;rw [if_neg h0] at he;exact h e he
theorem aQk:∀(ins:List TIn) {l:List En},CG l→SC l→SC (fP l ins)
 | [],_,_,h=>h
 |x::xs,_,hg,h=>aQk xs (hg.take x.p) (h.take hg.srt x.p)
theorem bEz {s:ByteArray} {h:Int}:∀(os:List TOut) (i:Nat) {m:List En},i+os.length≤4294967296→CG m→(∀o∈os,o.s.size≤40)→SC m→SC (mY s h i os m).1
 | [],_,_,_,_,_,hm=>hm
 |o::os,i,m,hi,hg,ho,hm=>by
  rw [List.length_cons] at hi
  unfold mY
  split
  ·exact hm
  ·exact bEz os (i+1) (by omega) (hg.put _ _) (fun y hy=>ho y (by simp [hy])) (hm.put hg.srt ⟨ho o (by simp),by show fN ((i:Nat):Int);unfold fN;omega⟩)
theorem bG1 {f:Pt→Option Cn} {t:Tx} {h:Int} (h0:(gJ f t h).2.1=0):aG t=0:=by
 grind [gJ]
theorem aJs {l:List En} {t:Tx} {i:Nat} {h:Int} (h0:(nZ l t i h).1=0):aG t=0:=by
 grind [nZ,bG1]
theorem bG3 {t:Tx} (h:aG t=0):∀o∈t.outs,o.s.size≤40:=by
 intro o ho
 unfold aG at h
 split at h
 ·cases h
 ·split at h
  ·cases h
  ·rename_i hl
   simp only [yM,Bool.or_eq_true,not_or,List.any_eq_true,not_exists,not_and] at hl
   have:=hl.1 o ho
   simp only [uH,decide_eq_true_eq] at this
   omega
theorem bBj {t:Tx} (h:aG t=0):t.outs.length≤256:=by
 unfold aG at h
 split at h
 ·cases h
 ·rename_i hc
  simp only [Bool.not_eq_true',Bool.not_eq_false] at hc
  simp only [iW,Bool.and_eq_true,decide_eq_true_eq] at hc
  omega
theorem bMp {l:List En} (hg:CG l) (h:SC l) (t:Tx):SC (oW l t):=by
 grind [oW,aQk]
theorem aT9 {l:List En} (hg:CG l) (h:SC l) (t:Tx) (i:Nat) (b:Int):SC (gG l t i b).1:=by
 grind [gG,aJs,bEz,bBj,aNh,bG3,bMp]
theorem bEk {l0:List En} {h:Int} (h0:SC l0):∀(txs:List Tx) (i:Nat) {m:List En},CG m→SC m→SC (kG l0 h i txs m).1
 | [],_,_,_,hm=>hm
 |t::ts,i,m,hg,hm=>by
  unfold kG
  split
  ·exact h0
  ·exact bEk h0 ts (i+1) (aAl hg t i h) (aT9 hg hm t i h)
theorem bIi {l:List En} (hg:CG l) (h:SC l) (txs:List Tx) (b:Int):SC (aX l txs b).1:=by
 grind [aX,bEk]
theorem aFj {l:List En} (hg:CG l) (txs:List Tx) (b:Int):(aX l txs b).1.length≤l.length+dT txs:=by
 grind [aX,bAo]
structure Ch where
 bs:List (List Tx)
 top:Nat
def cK (bs:List (List Tx)):Nat→List En
 |0=> []
 |k+1=>(aX (cK bs k) (bs.getD k []) ((k+1:Nat):Int)).1
def bF (bs:List (List Tx)):List En:=cK bs bs.length
theorem jH (bs:List (List Tx)):∀k,CG (cK bs k)
 |0=>CG.nil
 |k+1=>bH8 (jH bs k) _ _
theorem sL (bs:List (List Tx)):∀k,SC (cK bs k)
 |0=>SC.nil
 |k+1=>bIi (jH bs k) (sL bs k) _ _
theorem aFz {bs:List (List Tx)} {n:Nat} (h:∀b∈bs,dT b≤n):∀k,(cK bs k).length≤n*k
 |0=>by simp [cK]
 |k+1=>by
  have h1:=aFz h k
  have h2:=aFj (jH bs k) (bs.getD k []) ((k+1:Nat):Int)
  have h3:dT (bs.getD k [])≤n:=by
   rw [List.getD_eq_getElem?_getD]
   cases hk:bs[k]? with
   |none=>simp [dT]
   |some b=>grind
  have e:cK bs (k+1)=(aX (cK bs k) (bs.getD k []) ((k+1:Nat):Int)).1:=rfl
  grind
theorem uN (bs:List (List Tx)) (x:List Tx):∀k,k≤bs.length→cK (bs++ [x]) k=cK bs k
 |0,_=>rfl
 |k+1,h=>by
  have e1:(bs++ [x]).getD k []=bs.getD k []:=by
   rw [List.getD_eq_getElem?_getD,List.getD_eq_getElem?_getD,List.getElem?_append_left (by omega)]
  unfold cK
  rw [uN bs x k (by omega),e1]
theorem aL4 (bs:List (List Tx)) (x:List Tx):bF (bs++ [x])=(aX (bF bs) x ((bs.length+1:Nat):Int)).1:=by
 unfold bF
 rw [List.length_append]
 show (aX (cK (bs++ [x]) bs.length) ((bs++ [x]).getD bs.length []) ((bs.length+1:Nat):Int)).1=_
 rw [uN bs x _ (Nat.le_refl _)]
 simp
theorem aCo (bs:List (List Tx)):∀(k n:Nat),k≤n→n≤bs.length→cK (bs.take n) k=cK bs k
 |0,_,_,_=>rfl
 |k+1,n,h,hn=>by
  have e1:(bs.take n).getD k []=bs.getD k []:=by
   rw [List.getD_eq_getElem?_getD,List.getD_eq_getElem?_getD,List.getElem?_take_of_lt (by omega)]
  unfold cK
  rw [aCo bs k n (by omega) hn,e1]
theorem bAi {bs:List (List Tx)} {n:Nat} (hn:n≤bs.length):bF (bs.take n)=cK bs n:=by
 unfold bF
 rw [List.length_take,Nat.min_eq_left hn]
 exact aCo bs n n (Nat.le_refl _) hn
def gN (c:Ch) (x:List Tx):Int × Int:=((aX (bF c.bs) x ((c.bs.length+1:Nat):Int)).2.1,(aX (bF c.bs) x ((c.bs.length+1:Nat):Int)).2.2.1)
def dA (c:Ch) (x:List Tx):Ch:=if (gN c x).1≠0 then c else ⟨c.bs++ [x],max c.top (c.bs.length+1)⟩
def aA7 (c:Ch):Int:=if c.bs.length=0 then 8 else if c.bs.length+6≤c.top then 18 else 0
def aIp (c:Ch):Ch:=if aA7 c≠0 then c else ⟨c.bs.take (c.bs.length - 1),c.top⟩
structure Lk where
 txs:List Tx
 spent:List En
 made:List En
def lkN (bs:List (List Tx)) (k:Nat):Lk:=⟨bs.getD k [],eF (cK bs k) (cK bs (k+1)),eF (cK bs (k+1)) (cK bs k)⟩
def cG (bs:List (List Tx)):List Lk:=(List.range bs.length).map (lkN bs)
theorem aAt (bs:List (List Tx)):(cG bs).length=bs.length:=by simp [cG]
theorem aWs (bs:List (List Tx)) (x:List Tx):cG (bs++ [x])=cG bs++ [⟨x,eF (bF bs) (aX (bF bs) x ((bs.length+1:Nat):Int)).1,eF (aX (bF bs) x ((bs.length+1:Nat):Int)).1 (bF bs)⟩]:=by
 unfold cG
 rw [List.length_append,List.length_singleton,List.range_succ,List.map_append]
 congr 1
 ·grind [List.map_congr_left,lkN,uN]
 ·simp only [List.map_cons,List.map_nil]
  unfold lkN
  have e:(bs++ [x]).getD bs.length []=x:=by simp [List.getD_eq_getElem?_getD]
  have e2:=aL4 bs x
  unfold bF at e2
  rw [List.length_append,List.length_singleton] at e2
  rw [e,uN _ _ _ (Nat.le_refl _),e2];rfl
theorem aZf {bs:List (List Tx)} {n:Nat} (h:n≤bs.length):cG (bs.take n)=(cG bs).take n:=by
 unfold cG
 rw [←List.map_take,List.take_range,List.length_take,Nat.min_eq_left h]
 grind [List.map_congr_left,lkN,aCo]
theorem bGv {bs:List (List Tx)} {k:Nat} (h:k<bs.length):(cG bs)[k]'(by rw [aAt];exact h)=lkN bs k:=by
 grind [cG]
theorem aSy {bs:List (List Tx)} {k:Nat}:xJ (cK bs (k+1)) (lkN bs k).made (lkN bs k).spent=(true,cK bs k):=aTe (jH bs (k+1)) (jH bs k)
end
end Go.K
section
namespace Go.K
open Go Go.Proofs.YteceapipdhnhdaaGreatDoor
def lkR:R Lk where
 k:=5
 pos:=by decide
 ag:=true
 rel:=fun M w cs x=>∃tv iv sv mv mp,cs= [tv,iv,sv,mv,mp]∧SlR txR M w tv x.txs∧iv.oneCell'=true∧SlR enR M w sv x.spent∧SlR enR M w mv x.made∧mp.oneCell'=true
 len:=fun ⟨_,_,_,_,_,h,_⟩=>by rw [h];rfl
 one:=fun ⟨tv,iv,sv,mv,mp,h,h1,h2,h3,h4,h5⟩ v hv=>by
  obtain ⟨b,c,rfl⟩:=h1.form
  obtain ⟨b',c',rfl⟩:=h3.form
  obtain ⟨b'',c'',rfl⟩:=h4.form
  subst h;simp at hv;rcases hv with rfl|rfl|rfl|rfl|rfl
  ·rfl
  ·exact h2
  ·rfl
  ·rfl
  ·exact h5
 step:=fun ⟨tv,iv,sv,mv,mp,h,h1,h2,h3,h4,h5⟩ c hL hM=>⟨tv,iv,sv,mv,mp,h,h1.step c hL hM,h2,h3.step c hL hM,h4.step c hL hM,h5⟩
end Go.K
namespace Go.Proofs.YteceapipdhnhdaaGreatDoor
open Go Go.K
def aRt (b:Nat) (lv:Value) (top:Nat):List Value:= [.pointer (some ⟨b,0,none⟩),lv,.int .i64 (top:Nat)]
def ChR (U:List Nat) (w:World) (B c:Nat) (M:List Nat) (ch:Ch):Prop:=∃b mb lv,At w c (.cells (aRt b lv ch.top).toArray T.chain_Chain (0,0))∧gE T.coins_Set w b mb (bF ch.bs)∧bH lkR T.chain_link B ([c,b,mb]++U) w lv (cG ch.bs)∧M= [c,b,mb]++aC lv∧B≤c∧B≤b∧B≤mb∧c≠b∧c≠mb∧(∀x∈aC lv,x≠c∧x≠b∧x≠mb)∧∀x∈M,x∉U
theorem ChR.ext {U:List Nat} {w w':World} {B c:Nat} {M:List Nat} {ch:Ch} (h:ChR U w B c M ch) (x:Ext w w'):ChR U w' B c M ch:=by
 obtain ⟨b,mb,lv,h1,h2,h3,h4⟩:=h
 exact ⟨b,mb,lv,h1.ext x,h2.ext x,h3.ext x,h4⟩
theorem ChR.lt {U:List Nat} {w:World} {B c:Nat} {M:List Nat} {ch:Ch} (h:ChR U w B c M ch):∀x∈M,x<w.heap.size:=by
 obtain ⟨b,mb,lv,h1,h2,h3,rfl, -⟩:=h
 intro x hx
 simp only [List.cons_append,List.nil_append,List.mem_cons] at hx
 rcases hx with rfl|rfl|rfl|hx
 ·exact h1.lt
 ·exact h2.lt.1
 ·exact h2.lt.2
 ·exact h3.lt x hx
theorem ChR.base {U:List Nat} {w:World} {B c:Nat} {M:List Nat} {ch:Ch} (h:ChR U w B c M ch):∀x∈M,B≤x:=by
 obtain ⟨b,mb,lv,h1,h2,h3,rfl,g1,g2,g3, -⟩:=h
 intro x hx
 simp only [List.cons_append,List.nil_append,List.mem_cons] at hx
 rcases hx with rfl|rfl|rfl|hx
 ·exact g1
 ·exact g2
 ·exact g3
 ·exact h3.base x hx
theorem ChR.off {U:List Nat} {w:World} {B c:Nat} {M:List Nat} {ch:Ch} (h:ChR U w B c M ch):∀x∈M,x∉U:=by
 obtain ⟨b,mb,lv,h1,h2,h3,h4,g1,g2,g3,g4,g5,g6,g7⟩:=h
 exact g7
theorem ChR.step {U L:List Nat} {w w':World} {B c:Nat} {M:List Nat} {ch:Ch} (h:ChR U w B c M ch) (cc:Chg L w w') (hL:∀y∈L,y∈U∨w.heap.size≤y):ChR U w' B c M ch:=by
 have hn:∀y∈L,y∉M:=fun y hy hm=>(hL y hy).elim (h.off y hm) (fun q=>by have:=h.lt y hm;omega)
 obtain ⟨b,mb,lv,h1,h2,h3,rfl,g⟩:=h
 exact ⟨b,mb,lv,h1.chg cc (fun q=>hn _ q (by simp)),h2.chg cc (fun q=>hn _ q (by simp)) (fun q=>hn _ q (by simp)),h3.step cc (fun y hy=>⟨fun q=>hn y hy (by simp [q]),(hL y hy).imp (fun q=>by simp [q]) id⟩) (fun y hy=>.inl hy),rfl,g⟩
theorem ChR.more {U U':List Nat} {w:World} {B c:Nat} {M:List Nat} {ch:Ch} (h:ChR U w B c M ch) (hU:∀y∈U',y∈U∨w.heap.size≤y):ChR U' w B c M ch:=by
 have hlt:=h.lt
 obtain ⟨b,mb,lv,h1,h2,h3,h4,g1,g2,g3,g4,g5,g6,g7⟩:=h
 refine ⟨b,mb,lv,h1,h2,h3.step (Chg.refl [] w) (by simp) (fun y hy=>?_),h4,g1,g2,g3,g4,g5,g6,fun x hx hu=>(hU x hu).elim (g7 x hx) (fun q=>by have:=hlt x hx;omega)⟩
 rcases List.mem_append.1 hy with hy|hy
 ·exact .inl (List.mem_append_left _ hy)
 ·exact (hU y hy).imp (fun q=>List.mem_append_right _ q) id
end Go.Proofs.YteceapipdhnhdaaGreatDoor
end
namespace Go.Proofs.YteceapipdhnhdaaGreatDoor
section
open Go Go.K
attribute [local irreducible] aH aM aY KOp.wp K.Spec u32 leS vnS str aP cM bK idT aQ aG aN idN bG cL cB bQ cF fM bU eT wY eE wS
end
section
open Go Go.K
attribute [local irreducible] aH aM aY KOp.wp K.Spec u32 leS vnS str aP cM bK idT aQ aG aN idN bG cL cB
set_option maxHeartbeats 1000000 in
theorem bMh {g:Nat} {M:List Nat} {l:List Ent} (w:World) (hG:GrR w g M l) (hM:∀b∈M,b<w.heap.size) (hn:l.length≤1000):K.Spec Tryz.prog F.graph_Graph_Copy [.pointer (some ⟨g,0,none⟩)] w fun r w'=>
  ∃g' M',r=.pointer (some ⟨g',0,none⟩)∧GrU w' w.heap.size g' M' M l∧Ext w w':=by
 obtain ⟨b1,vo,b2,m,sp,hP⟩:=hG
 have rg:Row w ⟨g,0,none⟩ [.map (some b1),vo,.map (some b2)]:=Row.of_at hP.at_
 have q1:=hP.ents
 have q2:=hP.pts
 have q3:=hP.ord
 refine tG rfl ?_
 unfold lR
 refine oy ?_
 repeat' (first|refine go1 ?_|refine zg λ_ _=>?_|refine zi λ_ _=>?_|refine fG ?_ ?_|(refine zC rfl (aHs (M:=M) (m:=m) _ (by exact fx)) ?_;rintro _ wa ⟨c1,rfl,p1,la,hc1,xa⟩;have sa:=xa.size)|(refine zC rfl (aIx (m:=sp) _ (by exact fx)) ?_;rintro _ wc ⟨c2,rfl,p2,hc2,xc⟩;have lc:=p2.lt;have sc:=xc.size)|(refine zC rfl (uS (M:= []) (v:=vo) (l:=l.map (fun x:Ent=>x.id)) _ (SlE.toR (F:=bB) (ag:=false) (SlE.ext (w:=w) (by exact fx) q3) (by simp)) (by simp;omega) (by simp)) ?_;rintro v5 wb ⟨o5,xb⟩;have lb:=o5.lt;have gb:=o5.base;replace o5:=bH.toOwn o5;have sb:=xb.size;obtain ⟨bb,cb,rfl⟩:=o5.sl.form)|refine zD (cs:= [.map (some c1),.slice bb (l.map (fun x:Ent=>x.id)).length cb,.map (some c2)]) rfl rfl (fun bp wp xp ap rp hp0=>?_))
 all_goals
  rename_i xz
  have s0:=xz.size
  have szp:=xp.size
  have lp:=ap.lt
  generalize Value.slice bb (l.map (fun x:Ent=>x.id)).length cb=v5 at*
  have hmm:∀b∈dS bp c1 c2 v5,w.heap.size≤b:=fun b hb=>by
   simp only [List.mem_cons] at hb
   rcases hb with rfl|rfl|rfl|hb
   ·omega
   ·omega
   ·omega
   ·have:=gb b hb;omega
  have oo:=Own.lower (B':=w.heap.size) (Own.ext (show Ext _ wp by exact fx) o5) (by omega)
  refine aA rfl ⟨bp,dS bp c1 c2 v5,rfl,⟨⟨c1,v5,c2,m,sp,⟨ap,?_,by exact fx,oo,hP.inv,?_,by omega,by omega,by omega⟩,rfl⟩,⟨c1,v5,c2,m,sp,⟨ap,?_,by exact fx,oo.sl,hP.inv⟩⟩,fun b hb h=>by have:=hM b h;have:=hmm b hb;omega⟩,by exact fx⟩
  ·exact (p1 _ (q1.step (show Ext w _ by exact fx) (by simp) (by simp) (fun b hb=>.inr (hmm b hb)))).ext (by exact fx)
  ·have n5:(aC v5).Nodup:=by
    cases v5<;>try exact List.nodup_nil
    rename_i b _ _;cases b<;>simp [aC]
   have:∀b∈aC v5,b≠bp∧b≠c1∧b≠c2:=fun b hb=>by have:=gb b hb;have:=lb b hb;omega
   simp only [List.nodup_cons,List.mem_cons,not_or]
   exact ⟨⟨by omega,by omega,fun h=>(this _ h).1 rfl⟩,⟨by omega,fun h=>(this _ h).2.1 rfl⟩,fun h=>(this _ h).2.2 rfl,n5⟩
  ·exact (p1 _ (q1.step (show Ext w _ by exact fx) (by simp) (by simp) (fun b hb=>(List.mem_append.1 hb).imp id (hmm b)))).ext (by exact fx)
attribute [local irreducible] bQ cF fM bU eT wY eE wS
end
end Go.Proofs.YteceapipdhnhdaaGreatDoor
namespace Go.K
section
open Go Go.Proofs.YteceapipdhnhdaaGreatDoor
def grT (h:Int) (outs:List TOut):Tx:=⟨2, [⟨uZ,4294967295, []⟩],outs,h⟩
def o5:List TOut:= [⟨5,⟨#[]⟩⟩]
def gw (h:Nat):Tx:=grT (h:Nat) o5
end
end Go.K
