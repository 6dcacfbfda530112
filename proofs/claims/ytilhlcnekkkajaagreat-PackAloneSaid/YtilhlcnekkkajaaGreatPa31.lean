/- Contracts: the rules of replacing, by the program. -/
import Derived.Test.YtilhlcnekkkajaaGreatPa30
set_option linter.unusedVariables false
set_option linter.unusedSimpArgs false
section
namespace Go.Proofs.YtilhlcnekkkajaaGreat
open Go Go.K
attribute [local irreducible] regK codeK retK KOp.wp K.Spec u32 leS vnS str zero32 sha2 encT idT sizeT checkT grantB idN stepR workL reachE findI dropG addG aboveL belowL idsOf feeD sizeD cntS metL confL evL inS inB needI needL feeOf needN needE mayE freshP
theorem rules1_hb : hasBody Tryz.prog F.replace_Rules_1 = true := by kernel_rfl
theorem rules1_spec {g b2 : Nat} {M : List Nat} {l : List Ent} (s : ByteArray) (w : World) (hG : GrR w g M l) (hM : ∀ b ∈ M, b < w.heap.size) (hl : l.length ≤ 1000) (hr : Row w ⟨b2, 0, none⟩ [.pointer (some ⟨g, 0, none⟩)]) :
    K.Spec Tryz.prog F.replace_Rules_1 [.string s, .pointer (some ⟨b2, 0, none⟩)] w fun r w' => r = .bool (!mayE l (getE l s)) ∧ Ext w w' := by
  refine s_replace_Rules_1 rfl ?_
  unfold k_replace_Rules_1
  refine oy ?_
  repeat' (first|(first|refine go1 ?_|refine zg (fun _ _=>?_)|refine zi (fun _ _=>?_))|(refine zC (d := some 6) rfl (repl_spec (M := M) (l := l) s _ (hG.ext (by exact fx)) (fun b hb => Nat.lt_of_lt_of_le (hM b hb) (Ext.size (by exact fx))) hl) ?_; rintro _ w5 ⟨rfl, x5⟩))
  exact x_ret rfl ⟨rfl, by exact fx⟩
theorem hit_may {l : List Ent} {t : Tx} (h : l.any (hitE t) = false) : (l.any fun x => hitE t x && !mayE l x) = false := by
  rw [List.any_eq_false] at h ⊢
  intro x hx h2
  rw [Bool.and_eq_true] at h2
  exact h x hx h2.1
set_option maxHeartbeats 4000000 in
theorem rules_spec {g : Nat} {M N : List Nat} {l : List Ent} {cs : List Value} {t : Tx} (fee : Int) (w : World) (hG : GrR w g M l) (hM : ∀ b ∈ M, b < w.heap.size) (ht : txR.rel N w cs t) (hs : t.Sm) (hl : l.length ≤ 1000) (hf : ∀ x ∈ l, x.fee ≤ 1000000000000) :
    K.Spec Tryz.prog F.replace_Rules [.pointer (some ⟨g, 0, none⟩), .agg cs.toArray, .int .i64 fee] w fun r w' => r = .int .i64 (rulesL l t fee) ∧ Ext w w' := by
  have hnd := hG.nodup
  have hE := hG.ok
  have hlc := idsOf_le1 l (confL l t)
  have hle := idsOf_le1 l (evL l t)
  have ht0 := ht
  obtain ⟨iv, ov, rfl, hi, ho, hv⟩ := ht
  by_cases hc : checkT t = 0
  · have e0 : sizeV t = .tuple #[.int .i64 (sizeT t : Nat), .int .i64 0] := by rw [sizeV, if_pos hc]
    have hz := (sz_of_check hs hc).sizeM
    cases hgf : goodB fee with
    | false =>
      have e : rulesL l t fee = 3 := by rw [rulesL, if_neg (by simpa using hc), if_pos hgf]
      rw [e]
      obtain ⟨nN, hnN⟩ : ∃ n, needN l t = n := ⟨_, rfl⟩
      obtain ⟨nE, hnE⟩ : ∃ n, needE l t = n := ⟨_, rfl⟩
      refine s_replace_Rules rfl ?_
      unfold k_replace_Rules
      refine oy ?_
      repeat' (first|(refine st_joinV (b := .cons ⟨some 39, _, _⟩ _) (fun (vc : Value) w' => Ext w4 w' ∧ Own strE T.string w4.heap.size w' vc (idsOf l (confL l t))) (fun vc => [(2, .int .i64 fee), (3, .pointer (some ⟨bg, 0, none⟩)), (4, .pointer (some ⟨bt, 0, none⟩)), (9, .int .i64 nN), (36, vc), (37, .pointer (some ⟨g, 0, none⟩)), (38, .agg (txCs t iv ov).toArray)]) ?_ ?_)|(rintro vc ρ7 w7 ⟨x7, oc⟩; have sc := oc.sl; try dsimp only)|(exact ⟨v6, ⟨rfl, rfl, rfl, rfl, rfl, rfl, rfl, trivial⟩, by exact fx, Own.lower (Own.ext (by exact fx) o6) (Ext.size (by exact fx))⟩)|(refine zF (d := some 32) (v := .bool false) ((qG _).trans (by rw [hgf])) ?_)|(first|refine go1 ?_|refine zg (fun _ _=>?_)|refine zi (fun _ _=>?_))|(refine zD (d := some 3) rfl rfl (fun bg wg xg bg' (rg : Row wg ⟨bg, 0, none⟩ [.pointer (some ⟨g, 0, none⟩)]) hbg0=>?_))|(refine zD (d := some 4) rfl rfl (fun bt wt xt bt' (rt : Row wt ⟨bt, 0, none⟩ (txCs t iv ov)) hbt0=>?_))|(refine zC (d := some 17) rfl (size_spec (M := N) (cs := txCs t iv ov) (t := t) _ (R.ext ht0 (by exact fx)) hs) ?_; rintro _ w3 ⟨rfl, x3⟩; rw [e0])|(refine zC (d := some 26) rfl (need_spec (M := M) (N := N) (l := l) (cs := txCs t iv ov) (t := t) _ (hG.ext (by exact fx)) (fun b hb => Nat.lt_of_lt_of_le (hM b hb) (Ext.size (by exact fx))) (R.ext ht0 (by exact fx)) hs hl hf) ?_; rintro _ w4 ⟨rfl, x4⟩; rw [hnN, hnE])|(refine st_both ?_ ?_)|(refine zC (d := some 36) rfl (conflicts_spec (M := M) (N := N) (l := l) (cs := txCs t iv ov) (t := t) _ (hG.ext (by exact fx)) (fun b hb => Nat.lt_of_lt_of_le (hM b hb) (Ext.size (by exact fx))) (R.ext ht0 (by exact fx)) hs.ins hl) ?_; rintro v6 w6 ⟨o6, x6⟩)|(refine zC (d := some 39) rfl (evicted_spec (M := M) (N := N) (l := l) (cs := txCs t iv ov) (t := t) _ (hG.ext (by exact fx)) (fun b hb => Nat.lt_of_lt_of_le (hM b hb) (Ext.size (by exact fx))) (R.ext ht0 (by exact fx)) hs.ins hl) ?_; rintro vg w8 ⟨og, x8⟩; have sg := og.sl)|(refine st_len (d := some 42) (E := strE) (l := idsOf l (confL l t)) rfl (SlE.ext (by exact fx) sc) ?_))
      repeat' (first|(refine zF (d := some 32) (v := .bool false) ((qG _).trans (by rw [hgf])) ?_)|(first|refine go1 ?_|refine zg (fun _ _=>?_)|refine zi (fun _ _=>?_))|(refine zN (p := nE = 0) rfl (fun _ => ?_) (fun _ => ?_)))
      all_goals exact x_ret rfl ⟨rfl, by exact fx⟩
    | true =>
      cases hh : l.any (hitE t) with
      | false =>
        have e : rulesL l t fee = 0 := by rw [rulesL, if_neg (by simpa using hc), if_neg (by rw [hgf]; simp), if_neg (by rw [hit_may hh]; simp), if_pos hh]
        rw [e]
        have hnN : needN l t = 0 := by unfold needN; rw [if_neg (by simpa using hc), if_pos hh]
        have hnE : needE l t = 0 := by unfold needE; rw [if_neg (by simpa using hc), if_pos hh]
        have hlen : (idsOf l (confL l t)).length = 0 := conf_len0.2 hh
        refine s_replace_Rules rfl ?_
        unfold k_replace_Rules
        refine oy ?_
        repeat' (first|(refine st_joinV (b := .cons ⟨some 39, _, _⟩ _) (fun (vc : Value) w' => Ext w4 w' ∧ Own strE T.string w4.heap.size w' vc (idsOf l (confL l t))) (fun vc => [(2, .int .i64 fee), (3, .pointer (some ⟨bg, 0, none⟩)), (4, .pointer (some ⟨bt, 0, none⟩)), (9, .int .i64 0), (36, vc), (37, .pointer (some ⟨g, 0, none⟩)), (38, .agg (txCs t iv ov).toArray)]) ?_ ?_)|(rintro vc ρ7 w7 ⟨x7, oc⟩; have sc := oc.sl; try dsimp only)|(exact ⟨v6, ⟨rfl, rfl, rfl, rfl, rfl, rfl, rfl, trivial⟩, by exact fx, Own.lower (Own.ext (by exact fx) o6) (Ext.size (by exact fx))⟩)|(refine zF (d := some 32) (v := .bool true) ((qG _).trans (by rw [hgf])) ?_)|(first|refine go1 ?_|refine zg (fun _ _=>?_)|refine zi (fun _ _=>?_))|(refine zD (d := some 3) rfl rfl (fun bg wg xg bg' (rg : Row wg ⟨bg, 0, none⟩ [.pointer (some ⟨g, 0, none⟩)]) hbg0=>?_))|(refine zD (d := some 4) rfl rfl (fun bt wt xt bt' (rt : Row wt ⟨bt, 0, none⟩ (txCs t iv ov)) hbt0=>?_))|(refine zC (d := some 17) rfl (size_spec (M := N) (cs := txCs t iv ov) (t := t) _ (R.ext ht0 (by exact fx)) hs) ?_; rintro _ w3 ⟨rfl, x3⟩; rw [e0])|(refine zC (d := some 26) rfl (need_spec (M := M) (N := N) (l := l) (cs := txCs t iv ov) (t := t) _ (hG.ext (by exact fx)) (fun b hb => Nat.lt_of_lt_of_le (hM b hb) (Ext.size (by exact fx))) (R.ext ht0 (by exact fx)) hs hl hf) ?_; rintro _ w4 ⟨rfl, x4⟩; rw [hnN, hnE])|(refine st_both ?_ ?_)|(refine zC (d := some 36) rfl (conflicts_spec (M := M) (N := N) (l := l) (cs := txCs t iv ov) (t := t) _ (hG.ext (by exact fx)) (fun b hb => Nat.lt_of_lt_of_le (hM b hb) (Ext.size (by exact fx))) (R.ext ht0 (by exact fx)) hs.ins hl) ?_; rintro v6 w6 ⟨o6, x6⟩)|(refine zC (d := some 39) rfl (evicted_spec (M := M) (N := N) (l := l) (cs := txCs t iv ov) (t := t) _ (hG.ext (by exact fx)) (fun b hb => Nat.lt_of_lt_of_le (hM b hb) (Ext.size (by exact fx))) (R.ext ht0 (by exact fx)) hs.ins hl) ?_; rintro vg w8 ⟨og, x8⟩; have sg := og.sl)|(refine st_len (d := some 42) (E := strE) (l := idsOf l (confL l t)) rfl (SlE.ext (by exact fx) sc) ?_))
        refine zL rfl (fun _ => ?_) (fun h => absurd (show (((idsOf l (confL l t)).length : Nat) : Int) = 0 by omega) h)
        repeat' (first|refine go1 ?_|refine zg (fun _ _=>?_)|refine zi (fun _ _=>?_))
        exact x_ret rfl ⟨rfl, by exact fx⟩
      | true =>
        have hlen : (idsOf l (confL l t)).length ≠ 0 := fun h => by rw [conf_len0.1 h] at hh; cases hh
        have hpr : Priced l := fun x hx => ent_priced16 (hE x hx)
        have hfp : pricedB fee (sizeT t : Nat) = true := by unfold pricedB; rw [hgf, Bool.true_and]; exact decide_eq_true (by omega)
        have hgb := (gone_bound (t := t) (c := 1000000000000) (fun x hx => ⟨((goodB_iff _).1 (hE x hx).fee).1, hf x hx⟩)).1
        have hnp := needL_pos (l := l) (t := t) hgb hz.1
        obtain ⟨nv, hnv⟩ : ∃ nv, nv = if goodB (needL l t) = true then needL l t else 2100000000000001 := ⟨_, rfl⟩
        have hR : rulesL l t fee = if (l.any fun x => hitE t x && !mayE l x) = true then 15 else if (idsOf l (evL l t)).length > 100 then 15 else if freshP l t = true then 15 else if fee < nv then 11 else 0 := by
          rw [rules_need hnd hpr hh hfp hnv (by omega), rulesL, if_neg (by simpa using hc), if_neg (by rw [hgf]; simp)]
          split
          · rfl
          · rw [if_neg (by rw [hh]; simp)]
        cases hgn : goodB (needL l t) with
        | false =>
          rw [if_neg (by rw [hgn]; simp)] at hnv
          have hnN : needN l t = 0 := by unfold needN; rw [if_neg (by simpa using hc), if_neg (by rw [hh]; simp), if_neg (by rw [hgn]; simp)]
          have hnE : needE l t = 3 := by unfold needE; rw [if_neg (by simpa using hc), if_neg (by rw [hh]; simp), if_neg (by rw [hgn]; simp)]
          refine s_replace_Rules rfl ?_
          unfold k_replace_Rules
          refine oy ?_
          repeat' (first|(refine st_joinV (b := .cons ⟨some 39, _, _⟩ _) (fun (vc : Value) w' => Ext w4 w' ∧ Own strE T.string w4.heap.size w' vc (idsOf l (confL l t))) (fun vc => [(2, .int .i64 fee), (3, .pointer (some ⟨bg, 0, none⟩)), (4, .pointer (some ⟨bt, 0, none⟩)), (9, .int .i64 2100000000000001), (36, vc), (37, .pointer (some ⟨g, 0, none⟩)), (38, .agg (txCs t iv ov).toArray)]) ?_ ?_)|(rintro vc ρ7 w7 ⟨x7, oc⟩; have sc := oc.sl; try dsimp only)|(exact ⟨v6, ⟨rfl, rfl, rfl, rfl, rfl, rfl, rfl, trivial⟩, by exact fx, Own.lower (Own.ext (by exact fx) o6) (Ext.size (by exact fx))⟩)|(refine zF (d := some 32) (v := .bool true) ((qG _).trans (by rw [hgf])) ?_)|(first|refine go1 ?_|refine zg (fun _ _=>?_)|refine zi (fun _ _=>?_))|(refine zD (d := some 3) rfl rfl (fun bg wg xg bg' (rg : Row wg ⟨bg, 0, none⟩ [.pointer (some ⟨g, 0, none⟩)]) hbg0=>?_))|(refine zD (d := some 4) rfl rfl (fun bt wt xt bt' (rt : Row wt ⟨bt, 0, none⟩ (txCs t iv ov)) hbt0=>?_))|(refine zC (d := some 17) rfl (size_spec (M := N) (cs := txCs t iv ov) (t := t) _ (R.ext ht0 (by exact fx)) hs) ?_; rintro _ w3 ⟨rfl, x3⟩; rw [e0])|(refine zC (d := some 26) rfl (need_spec (M := M) (N := N) (l := l) (cs := txCs t iv ov) (t := t) _ (hG.ext (by exact fx)) (fun b hb => Nat.lt_of_lt_of_le (hM b hb) (Ext.size (by exact fx))) (R.ext ht0 (by exact fx)) hs hl hf) ?_; rintro _ w4 ⟨rfl, x4⟩; rw [hnN, hnE])|(refine st_both ?_ ?_)|(refine zC (d := some 36) rfl (conflicts_spec (M := M) (N := N) (l := l) (cs := txCs t iv ov) (t := t) _ (hG.ext (by exact fx)) (fun b hb => Nat.lt_of_lt_of_le (hM b hb) (Ext.size (by exact fx))) (R.ext ht0 (by exact fx)) hs.ins hl) ?_; rintro v6 w6 ⟨o6, x6⟩)|(refine zC (d := some 39) rfl (evicted_spec (M := M) (N := N) (l := l) (cs := txCs t iv ov) (t := t) _ (hG.ext (by exact fx)) (fun b hb => Nat.lt_of_lt_of_le (hM b hb) (Ext.size (by exact fx))) (R.ext ht0 (by exact fx)) hs.ins hl) ?_; rintro vg w8 ⟨og, x8⟩; have sg := og.sl)|(refine st_len (d := some 42) (E := strE) (l := idsOf l (confL l t)) rfl (SlE.ext (by exact fx) sc) ?_))
          have sc8 := SlE.ext x8 sc
          have rg8 : Row w8 ⟨bg, 0, none⟩ [.pointer (some ⟨g, 0, none⟩)] := rg.ext (by exact fx)
          have rt8 : Row w8 ⟨bt, 0, none⟩ (txCs t iv ov) := rt.ext (by exact fx)
          have y08 : Ext w w8 := by exact fx
          have G8 := hG.ext y08
          have t8 := R.ext ht0 y08
          have hM8 : ∀ b ∈ M, b < w8.heap.size := fun b hb => Nat.lt_of_lt_of_le (hM b hb) y08.size
          have x08 : Unit → Ext w w8 := fun _ => y08
          clear y08
          have scR : SlR strR [] w8 vc (idsOf l (confL l t)) := SlE.toR (F := strE) (ag := false) sc8 (by simp)
          have tl : ∀ w1, Ext w8 w1 → Tells F.replace_Rules_1 [.pointer (some ⟨bg, 0, none⟩)] strR (fun cs => cs.headD undef) [] w1 (idsOf l (confL l t)) (fun s => !mayE l (getE l s)) := fun w1 x1 x hx w' cs x2 hc => by
            obtain rfl : cs = [Value.string x] := hc
            exact rules1_spec (M := M) x w' (G8.ext (x1.trans x2)) (fun b hb => Nat.lt_of_lt_of_le (hM8 b hb) (x1.trans x2).size) hl (rg8.ext (x1.trans x2))
          clear oc og x8 x7 x4 x3 xt xg rg rt hG ht0 bg' bt' sc
          repeat' (first|(first|refine go1 ?_|refine zg (fun _ _=>?_)|refine zi (fun _ _=>?_))|(refine zL (p := (((idsOf l (confL l t)).length : Nat) : Int) = 0) rfl (fun h => absurd h (by omega)) (fun _ => ?_))|(refine zC (d := some 47) rfl (idxStr_any (l := idsOf l (confL l t)) (M := []) (g := F.replace_Rules_1) (capl := [_]) _ rules1_hb (SlR.ext scR (by exact fx)) (by omega) (tl _ (by exact fx))) ?_; rintro _ w9 ⟨rfl, x9⟩; rw [may_conf hnd])|(refine zM rfl (fun h => ?_) (fun h => ?_))|(refine st_len (d := some 50) (E := strE) (l := idsOf l (evL l t)) rfl (SlE.ext (by exact fx) sg) ?_)|(refine zJ (p := (((idsOf l (evL l t)).length : Nat) : Int) > 100) rfl (fun h => ?_) (fun h => ?_))|(refine zC (d := some 57) rfl (fresh_spec (M := M) (N := N) (l := l) (cs := txCs t iv ov) (t := t) _ (G8.ext (by exact fx)) (fun b hb => Nat.lt_of_lt_of_le (hM8 b hb) (Ext.size (by exact fx))) (R.ext t8 (by exact fx)) hs.ins hl (SlE.ext (by exact fx) sc8) (SlE.ext (by exact fx) sg)) ?_; rintro _ w10 ⟨rfl, x10⟩)|(refine zL rfl (fun h => ?_) (fun h => ?_)))
          all_goals
            rw [hR]
            first
              | (rw [if_pos ‹(l.any fun x => hitE t x && !mayE l x) = true›]
                 exact x_ret rfl ⟨rfl, Ext.trans (x08 ()) (by exact fx)⟩)
              | (rw [if_neg (by rw [‹(l.any fun x => hitE t x && !mayE l x) = false›]; simp)]
                 first
                   | (rw [if_pos (by omega)]
                      exact x_ret rfl ⟨rfl, Ext.trans (x08 ()) (by exact fx)⟩)
                   | (rw [if_neg (by omega)]
                      first
                        | (rw [if_pos ‹freshP l t = true›]
                           exact x_ret rfl ⟨rfl, Ext.trans (x08 ()) (by exact fx)⟩)
                        | (rw [if_neg (by rw [‹freshP l t = false›]; simp)]
                           first
                             | (rw [if_pos (by rw [hnv]; exact of_decide_eq_true (by assumption))]
                                exact x_ret rfl ⟨rfl, Ext.trans (x08 ()) (by exact fx)⟩)
                             | (rw [if_neg (by rw [hnv]; exact of_decide_eq_false (by assumption))]
                                exact x_ret rfl ⟨rfl, Ext.trans (x08 ()) (by exact fx)⟩))))
        | true =>
          rw [if_pos hgn] at hnv
          have hnN : needN l t = needL l t := by unfold needN; rw [if_neg (by simpa using hc), if_neg (by rw [hh]; simp), if_pos hgn]
          have hnE : needE l t = 0 := by unfold needE; rw [if_neg (by simpa using hc), if_neg (by rw [hh]; simp), if_pos hgn]
          refine s_replace_Rules rfl ?_
          unfold k_replace_Rules
          refine oy ?_
          repeat' (first|(refine st_joinV (b := .cons ⟨some 39, _, _⟩ _) (fun (vc : Value) w' => Ext w4 w' ∧ Own strE T.string w4.heap.size w' vc (idsOf l (confL l t))) (fun vc => [(2, .int .i64 fee), (3, .pointer (some ⟨bg, 0, none⟩)), (4, .pointer (some ⟨bt, 0, none⟩)), (9, .int .i64 (needL l t)), (36, vc), (37, .pointer (some ⟨g, 0, none⟩)), (38, .agg (txCs t iv ov).toArray)]) ?_ ?_)|(rintro vc ρ7 w7 ⟨x7, oc⟩; have sc := oc.sl; try dsimp only)|(exact ⟨v6, ⟨rfl, rfl, rfl, rfl, rfl, rfl, rfl, trivial⟩, by exact fx, Own.lower (Own.ext (by exact fx) o6) (Ext.size (by exact fx))⟩)|(refine zF (d := some 32) (v := .bool true) ((qG _).trans (by rw [hgf])) ?_)|(first|refine go1 ?_|refine zg (fun _ _=>?_)|refine zi (fun _ _=>?_))|(refine zD (d := some 3) rfl rfl (fun bg wg xg bg' (rg : Row wg ⟨bg, 0, none⟩ [.pointer (some ⟨g, 0, none⟩)]) hbg0=>?_))|(refine zD (d := some 4) rfl rfl (fun bt wt xt bt' (rt : Row wt ⟨bt, 0, none⟩ (txCs t iv ov)) hbt0=>?_))|(refine zC (d := some 17) rfl (size_spec (M := N) (cs := txCs t iv ov) (t := t) _ (R.ext ht0 (by exact fx)) hs) ?_; rintro _ w3 ⟨rfl, x3⟩; rw [e0])|(refine zC (d := some 26) rfl (need_spec (M := M) (N := N) (l := l) (cs := txCs t iv ov) (t := t) _ (hG.ext (by exact fx)) (fun b hb => Nat.lt_of_lt_of_le (hM b hb) (Ext.size (by exact fx))) (R.ext ht0 (by exact fx)) hs hl hf) ?_; rintro _ w4 ⟨rfl, x4⟩; rw [hnN, hnE])|(refine st_both ?_ ?_)|(refine zC (d := some 36) rfl (conflicts_spec (M := M) (N := N) (l := l) (cs := txCs t iv ov) (t := t) _ (hG.ext (by exact fx)) (fun b hb => Nat.lt_of_lt_of_le (hM b hb) (Ext.size (by exact fx))) (R.ext ht0 (by exact fx)) hs.ins hl) ?_; rintro v6 w6 ⟨o6, x6⟩)|(refine zC (d := some 39) rfl (evicted_spec (M := M) (N := N) (l := l) (cs := txCs t iv ov) (t := t) _ (hG.ext (by exact fx)) (fun b hb => Nat.lt_of_lt_of_le (hM b hb) (Ext.size (by exact fx))) (R.ext ht0 (by exact fx)) hs.ins hl) ?_; rintro vg w8 ⟨og, x8⟩; have sg := og.sl)|(refine st_len (d := some 42) (E := strE) (l := idsOf l (confL l t)) rfl (SlE.ext (by exact fx) sc) ?_))
          have sc8 := SlE.ext x8 sc
          have rg8 : Row w8 ⟨bg, 0, none⟩ [.pointer (some ⟨g, 0, none⟩)] := rg.ext (by exact fx)
          have rt8 : Row w8 ⟨bt, 0, none⟩ (txCs t iv ov) := rt.ext (by exact fx)
          have y08 : Ext w w8 := by exact fx
          have G8 := hG.ext y08
          have t8 := R.ext ht0 y08
          have hM8 : ∀ b ∈ M, b < w8.heap.size := fun b hb => Nat.lt_of_lt_of_le (hM b hb) y08.size
          have x08 : Unit → Ext w w8 := fun _ => y08
          clear y08
          have scR : SlR strR [] w8 vc (idsOf l (confL l t)) := SlE.toR (F := strE) (ag := false) sc8 (by simp)
          have tl : ∀ w1, Ext w8 w1 → Tells F.replace_Rules_1 [.pointer (some ⟨bg, 0, none⟩)] strR (fun cs => cs.headD undef) [] w1 (idsOf l (confL l t)) (fun s => !mayE l (getE l s)) := fun w1 x1 x hx w' cs x2 hc => by
            obtain rfl : cs = [Value.string x] := hc
            exact rules1_spec (M := M) x w' (G8.ext (x1.trans x2)) (fun b hb => Nat.lt_of_lt_of_le (hM8 b hb) (x1.trans x2).size) hl (rg8.ext (x1.trans x2))
          clear oc og x8 x7 x4 x3 xt xg rg rt hG ht0 bg' bt' sc
          repeat' (first|(first|refine go1 ?_|refine zg (fun _ _=>?_)|refine zi (fun _ _=>?_))|(refine zL (p := (((idsOf l (confL l t)).length : Nat) : Int) = 0) rfl (fun h => absurd h (by omega)) (fun _ => ?_))|(refine zC (d := some 47) rfl (idxStr_any (l := idsOf l (confL l t)) (M := []) (g := F.replace_Rules_1) (capl := [_]) _ rules1_hb (SlR.ext scR (by exact fx)) (by omega) (tl _ (by exact fx))) ?_; rintro _ w9 ⟨rfl, x9⟩; rw [may_conf hnd])|(refine zM rfl (fun h => ?_) (fun h => ?_))|(refine st_len (d := some 50) (E := strE) (l := idsOf l (evL l t)) rfl (SlE.ext (by exact fx) sg) ?_)|(refine zJ (p := (((idsOf l (evL l t)).length : Nat) : Int) > 100) rfl (fun h => ?_) (fun h => ?_))|(refine zC (d := some 57) rfl (fresh_spec (M := M) (N := N) (l := l) (cs := txCs t iv ov) (t := t) _ (G8.ext (by exact fx)) (fun b hb => Nat.lt_of_lt_of_le (hM8 b hb) (Ext.size (by exact fx))) (R.ext t8 (by exact fx)) hs.ins hl (SlE.ext (by exact fx) sc8) (SlE.ext (by exact fx) sg)) ?_; rintro _ w10 ⟨rfl, x10⟩)|(refine zL rfl (fun h => ?_) (fun h => ?_)))
          all_goals
            rw [hR]
            first
              | (rw [if_pos ‹(l.any fun x => hitE t x && !mayE l x) = true›]
                 exact x_ret rfl ⟨rfl, Ext.trans (x08 ()) (by exact fx)⟩)
              | (rw [if_neg (by rw [‹(l.any fun x => hitE t x && !mayE l x) = false›]; simp)]
                 first
                   | (rw [if_pos (by omega)]
                      exact x_ret rfl ⟨rfl, Ext.trans (x08 ()) (by exact fx)⟩)
                   | (rw [if_neg (by omega)]
                      first
                        | (rw [if_pos ‹freshP l t = true›]
                           exact x_ret rfl ⟨rfl, Ext.trans (x08 ()) (by exact fx)⟩)
                        | (rw [if_neg (by rw [‹freshP l t = false›]; simp)]
                           first
                             | (rw [if_pos (by rw [hnv]; exact of_decide_eq_true (by assumption))]
                                exact x_ret rfl ⟨rfl, Ext.trans (x08 ()) (by exact fx)⟩)
                             | (rw [if_neg (by rw [hnv]; exact of_decide_eq_false (by assumption))]
                                exact x_ret rfl ⟨rfl, Ext.trans (x08 ()) (by exact fx)⟩))))
  · have e0 : sizeV t = .tuple #[.int .i64 0, .int .i64 (checkT t)] := by rw [sizeV, if_neg hc]
    have e : rulesL l t fee = checkT t := by rw [rulesL, if_pos hc]
    rw [e]
    refine s_replace_Rules rfl ?_
    unfold k_replace_Rules
    refine oy ?_
    repeat' (first|(first|refine go1 ?_|refine zg (fun _ _=>?_)|refine zi (fun _ _=>?_))|(refine zD (d := some 3) rfl rfl (fun bg wg xg bg' (rg : Row wg ⟨bg, 0, none⟩ [.pointer (some ⟨g, 0, none⟩)]) hbg0=>?_))|(refine zD (d := some 4) rfl rfl (fun bt wt xt bt' (rt : Row wt ⟨bt, 0, none⟩ (txCs t iv ov)) hbt0=>?_))|(refine zC (d := some 17) rfl (size_spec (M := N) (cs := txCs t iv ov) (t := t) _ (R.ext ht0 (by exact fx)) hs) ?_; rintro _ w3 ⟨rfl, x3⟩; rw [e0])|(refine zN (p := checkT t = 0) rfl (fun _ => ?_) (fun h => absurd h hc)))
    exact x_ret rfl ⟨rfl, by exact fx⟩
end Go.Proofs.YtilhlcnekkkajaaGreat
end
