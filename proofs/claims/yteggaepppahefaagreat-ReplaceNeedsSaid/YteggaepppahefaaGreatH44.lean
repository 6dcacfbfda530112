/- Contracts: the rules of replacing, by the program. Plain: what the document fixes of replacing. Contracts: what the document fixes of replacing. The walk of ReplaceNeeds. -/
import Derived.Test.YteggaepppahefaaGreatH41
import Derived.Test.YteggaepppahefaaGreatH43
set_option linter.unusedVariables false
set_option linter.unusedSimpArgs false
section
namespace Go.Proofs.YteggaepppahefaaGreat
open Go Go.K
attribute [local irreducible] regK codeK retK KOp.wp K.Spec u32 leS vnS str zero32 sha2 encT idT sizeT checkT grantB idN stepR workL reachE findI dropG addG aboveL belowL idsOf feeD sizeD cntS metL confL evL inS inB needI needL feeOf needN needE mayE freshP
theorem rules1_hb : hasBody Tryz.prog F.replace_Rules_1 = true := by kernel_rfl
theorem rules1_spec {g b2 : Nat} {M : List Nat} {l : List Ent} (s : ByteArray) (w : World) (hG : GrR w g M l) (hM : ∀ b ∈ M, b < w.heap.size) (hl : l.length ≤ 1000) (hr : Row w ⟨b2, 0, none⟩ [.pointer (some ⟨g, 0, none⟩)]) :
    K.Spec Tryz.prog F.replace_Rules_1 [.string s, .pointer (some ⟨b2, 0, none⟩)] w fun r w' => r = .bool (!mayE l (getE l s)) ∧ Ext w w' := by
  refine s_replace_Rules_1 rfl ?_
  unfold k_replace_Rules_1
  refine ox ?_
  repeat' (first|(first|refine go1 ?_|refine zg (fun _ _=>?_)|refine zi (fun _ _=>?_))|(refine zC (d := some 6) rfl (repl_spec (M := M) (l := l) s _ (hG.ext (by exact fx)) (fun b hb => Nat.lt_of_lt_of_le (hM b hb) (Ext.size (by exact fx))) hl) ?_; rintro _ w5 ⟨rfl, x5⟩))
  exact x_ret rfl ⟨rfl, by exact fx⟩
theorem hit_may {l : List Ent} {t : Tx} (h : l.any (hitE t) = false) : (l.any fun x => hitE t x && !mayE l x) = false := by
  rw [List.any_eq_false] at h ⊢
  intro x hx h2
  rw [Bool.and_eq_true] at h2
  exact h x hx h2.1
set_option maxHeartbeats 4000000 in
theorem rules_spec {g : Nat} {M N : List Nat} {l : List Ent} {cs : List Value} {t : Tx} (fee : Int) (w : World) (hG : GrR w g M l) (hM : ∀ b ∈ M, b < w.heap.size) (ht : txR.rel N w cs t) (hs : t.Sm) (hl : l.length ≤ 1000) (hf : ∀ x ∈ l, x.fee ≤ 1000000000000) :
    K.Spec Tryz.prog F.replace_Rules [.pointer (some ⟨g, 0, none⟩), .agg cs.toArray, .int .i64 fee] w fun r w' => r = .int .i64 (rulesL l t fee) ∧ Ext w w' := by
  have hnd := hG.nodup
  have hE := hG.ok
  have hlc := idsOf_le1 l (confL l t)
  have hle := idsOf_le1 l (evL l t)
  have ht0 := ht
  obtain ⟨iv, ov, rfl, hi, ho, hv⟩ := ht
  by_cases hc : checkT t = 0
  · have e0 : sizeV t = .tuple #[.int .i64 (sizeT t : Nat), .int .i64 0] := by rw [sizeV, if_pos hc]
    have hz := (sz_of_check hs hc).sizeM
    cases hgf : goodB fee with
    | false =>
      have e : rulesL l t fee = 3 := by rw [rulesL, if_neg (by simpa using hc), if_pos hgf]
      rw [e]
      obtain ⟨nN, hnN⟩ : ∃ n, needN l t = n := ⟨_, rfl⟩
      obtain ⟨nE, hnE⟩ : ∃ n, needE l t = n := ⟨_, rfl⟩
      refine s_replace_Rules rfl ?_
      unfold k_replace_Rules
      refine ox ?_
      repeat' (first|(refine st_joinV (b := .cons ⟨some 39, _, _⟩ _) (fun (vc : Value) w' => Ext w4 w' ∧ Own strE T.string w4.heap.size w' vc (idsOf l (confL l t))) (fun vc => [(2, .int .i64 fee), (3, .pointer (some ⟨bg, 0, none⟩)), (4, .pointer (some ⟨bt, 0, none⟩)), (9, .int .i64 nN), (36, vc), (37, .pointer (some ⟨g, 0, none⟩)), (38, .agg (txCs t iv ov).toArray)]) ?_ ?_)|(rintro vc ρ7 w7 ⟨x7, oc⟩; have sc := oc.sl; try dsimp only)|(exact ⟨v6, ⟨rfl, rfl, rfl, rfl, rfl, rfl, rfl, trivial⟩, by exact fx, Own.lower (Own.ext (by exact fx) o6) (Ext.size (by exact fx))⟩)|(refine zF (d := some 32) (v := .bool false) (by show some (Value.bool (goodB fee)) = _; rw [hgf]) ?_)|(first|refine go1 ?_|refine zg (fun _ _=>?_)|refine zi (fun _ _=>?_))|(refine zD (d := some 3) rfl rfl (fun bg wg xg bg' (rg : Row wg ⟨bg, 0, none⟩ [.pointer (some ⟨g, 0, none⟩)]) hbg0=>?_))|(refine zD (d := some 4) rfl rfl (fun bt wt xt bt' (rt : Row wt ⟨bt, 0, none⟩ (txCs t iv ov)) hbt0=>?_))|(refine zC (d := some 17) rfl (size_spec (M := N) (cs := txCs t iv ov) (t := t) _ (R.ext ht0 (by exact fx)) hs) ?_; rintro _ w3 ⟨rfl, x3⟩; rw [e0])|(refine zC (d := some 26) rfl (need_spec (M := M) (N := N) (l := l) (cs := txCs t iv ov) (t := t) _ (hG.ext (by exact fx)) (fun b hb => Nat.lt_of_lt_of_le (hM b hb) (Ext.size (by exact fx))) (R.ext ht0 (by exact fx)) hs hl hf) ?_; rintro _ w4 ⟨rfl, x4⟩; rw [hnN, hnE])|(refine st_both ?_ ?_)|(refine zC (d := some 36) rfl (conflicts_spec (M := M) (N := N) (l := l) (cs := txCs t iv ov) (t := t) _ (hG.ext (by exact fx)) (fun b hb => Nat.lt_of_lt_of_le (hM b hb) (Ext.size (by exact fx))) (R.ext ht0 (by exact fx)) hs.ins hl) ?_; rintro v6 w6 ⟨o6, x6⟩)|(refine zC (d := some 39) rfl (evicted_spec (M := M) (N := N) (l := l) (cs := txCs t iv ov) (t := t) _ (hG.ext (by exact fx)) (fun b hb => Nat.lt_of_lt_of_le (hM b hb) (Ext.size (by exact fx))) (R.ext ht0 (by exact fx)) hs.ins hl) ?_; rintro vg w8 ⟨og, x8⟩; have sg := og.sl)|(refine st_len (d := some 42) (E := strE) (l := idsOf l (confL l t)) rfl (SlE.ext (by exact fx) sc) ?_))
      repeat' (first|(refine zF (d := some 32) (v := .bool false) (by show some (Value.bool (goodB fee)) = _; rw [hgf]) ?_)|(first|refine go1 ?_|refine zg (fun _ _=>?_)|refine zi (fun _ _=>?_))|(refine zN (p := nE = 0) rfl (fun _ => ?_) (fun _ => ?_)))
      all_goals exact x_ret rfl ⟨rfl, by exact fx⟩
    | true =>
      cases hh : l.any (hitE t) with
      | false =>
        have e : rulesL l t fee = 0 := by rw [rulesL, if_neg (by simpa using hc), if_neg (by rw [hgf]; simp), if_neg (by rw [hit_may hh]; simp), if_pos hh]
        rw [e]
        have hnN : needN l t = 0 := by unfold needN; rw [if_neg (by simpa using hc), if_pos hh]
        have hnE : needE l t = 0 := by unfold needE; rw [if_neg (by simpa using hc), if_pos hh]
        have hlen : (idsOf l (confL l t)).length = 0 := conf_len0.2 hh
        refine s_replace_Rules rfl ?_
        unfold k_replace_Rules
        refine ox ?_
        repeat' (first|(refine st_joinV (b := .cons ⟨some 39, _, _⟩ _) (fun (vc : Value) w' => Ext w4 w' ∧ Own strE T.string w4.heap.size w' vc (idsOf l (confL l t))) (fun vc => [(2, .int .i64 fee), (3, .pointer (some ⟨bg, 0, none⟩)), (4, .pointer (some ⟨bt, 0, none⟩)), (9, .int .i64 0), (36, vc), (37, .pointer (some ⟨g, 0, none⟩)), (38, .agg (txCs t iv ov).toArray)]) ?_ ?_)|(rintro vc ρ7 w7 ⟨x7, oc⟩; have sc := oc.sl; try dsimp only)|(exact ⟨v6, ⟨rfl, rfl, rfl, rfl, rfl, rfl, rfl, trivial⟩, by exact fx, Own.lower (Own.ext (by exact fx) o6) (Ext.size (by exact fx))⟩)|(refine zF (d := some 32) (v := .bool true) (by show some (Value.bool (goodB fee)) = _; rw [hgf]) ?_)|(first|refine go1 ?_|refine zg (fun _ _=>?_)|refine zi (fun _ _=>?_))|(refine zD (d := some 3) rfl rfl (fun bg wg xg bg' (rg : Row wg ⟨bg, 0, none⟩ [.pointer (some ⟨g, 0, none⟩)]) hbg0=>?_))|(refine zD (d := some 4) rfl rfl (fun bt wt xt bt' (rt : Row wt ⟨bt, 0, none⟩ (txCs t iv ov)) hbt0=>?_))|(refine zC (d := some 17) rfl (size_spec (M := N) (cs := txCs t iv ov) (t := t) _ (R.ext ht0 (by exact fx)) hs) ?_; rintro _ w3 ⟨rfl, x3⟩; rw [e0])|(refine zC (d := some 26) rfl (need_spec (M := M) (N := N) (l := l) (cs := txCs t iv ov) (t := t) _ (hG.ext (by exact fx)) (fun b hb => Nat.lt_of_lt_of_le (hM b hb) (Ext.size (by exact fx))) (R.ext ht0 (by exact fx)) hs hl hf) ?_; rintro _ w4 ⟨rfl, x4⟩; rw [hnN, hnE])|(refine st_both ?_ ?_)|(refine zC (d := some 36) rfl (conflicts_spec (M := M) (N := N) (l := l) (cs := txCs t iv ov) (t := t) _ (hG.ext (by exact fx)) (fun b hb => Nat.lt_of_lt_of_le (hM b hb) (Ext.size (by exact fx))) (R.ext ht0 (by exact fx)) hs.ins hl) ?_; rintro v6 w6 ⟨o6, x6⟩)|(refine zC (d := some 39) rfl (evicted_spec (M := M) (N := N) (l := l) (cs := txCs t iv ov) (t := t) _ (hG.ext (by exact fx)) (fun b hb => Nat.lt_of_lt_of_le (hM b hb) (Ext.size (by exact fx))) (R.ext ht0 (by exact fx)) hs.ins hl) ?_; rintro vg w8 ⟨og, x8⟩; have sg := og.sl)|(refine st_len (d := some 42) (E := strE) (l := idsOf l (confL l t)) rfl (SlE.ext (by exact fx) sc) ?_))
        refine zL rfl (fun _ => ?_) (fun h => absurd (show (((idsOf l (confL l t)).length : Nat) : Int) = 0 by omega) h)
        repeat' (first|refine go1 ?_|refine zg (fun _ _=>?_)|refine zi (fun _ _=>?_))
        exact x_ret rfl ⟨rfl, by exact fx⟩
      | true =>
        have hlen : (idsOf l (confL l t)).length ≠ 0 := fun h => by rw [conf_len0.1 h] at hh; cases hh
        have hpr : Priced l := fun x hx => ent_priced16 (hE x hx)
        have hfp : pricedB fee (sizeT t : Nat) = true := by unfold pricedB; rw [hgf, Bool.true_and]; exact decide_eq_true (by omega)
        have hgb := (gone_bound (t := t) (c := 1000000000000) (fun x hx => ⟨((goodB_iff _).1 (hE x hx).fee).1, hf x hx⟩)).1
        have hnp := needL_pos (l := l) (t := t) hgb hz.1
        obtain ⟨nv, hnv⟩ : ∃ nv, nv = if goodB (needL l t) = true then needL l t else 2100000000000001 := ⟨_, rfl⟩
        have hR : rulesL l t fee = if (l.any fun x => hitE t x && !mayE l x) = true then 15 else if (idsOf l (evL l t)).length > 100 then 15 else if freshP l t = true then 15 else if fee < nv then 11 else 0 := by
          rw [rules_need hnd hpr hh hfp hnv (by omega), rulesL, if_neg (by simpa using hc), if_neg (by rw [hgf]; simp)]
          split
          · rfl
          · rw [if_neg (by rw [hh]; simp)]
        cases hgn : goodB (needL l t) with
        | false =>
          rw [if_neg (by rw [hgn]; simp)] at hnv
          have hnN : needN l t = 0 := by unfold needN; rw [if_neg (by simpa using hc), if_neg (by rw [hh]; simp), if_neg (by rw [hgn]; simp)]
          have hnE : needE l t = 3 := by unfold needE; rw [if_neg (by simpa using hc), if_neg (by rw [hh]; simp), if_neg (by rw [hgn]; simp)]
          refine s_replace_Rules rfl ?_
          unfold k_replace_Rules
          refine ox ?_
          repeat' (first|(refine st_joinV (b := .cons ⟨some 39, _, _⟩ _) (fun (vc : Value) w' => Ext w4 w' ∧ Own strE T.string w4.heap.size w' vc (idsOf l (confL l t))) (fun vc => [(2, .int .i64 fee), (3, .pointer (some ⟨bg, 0, none⟩)), (4, .pointer (some ⟨bt, 0, none⟩)), (9, .int .i64 2100000000000001), (36, vc), (37, .pointer (some ⟨g, 0, none⟩)), (38, .agg (txCs t iv ov).toArray)]) ?_ ?_)|(rintro vc ρ7 w7 ⟨x7, oc⟩; have sc := oc.sl; try dsimp only)|(exact ⟨v6, ⟨rfl, rfl, rfl, rfl, rfl, rfl, rfl, trivial⟩, by exact fx, Own.lower (Own.ext (by exact fx) o6) (Ext.size (by exact fx))⟩)|(refine zF (d := some 32) (v := .bool true) (by show some (Value.bool (goodB fee)) = _; rw [hgf]) ?_)|(first|refine go1 ?_|refine zg (fun _ _=>?_)|refine zi (fun _ _=>?_))|(refine zD (d := some 3) rfl rfl (fun bg wg xg bg' (rg : Row wg ⟨bg, 0, none⟩ [.pointer (some ⟨g, 0, none⟩)]) hbg0=>?_))|(refine zD (d := some 4) rfl rfl (fun bt wt xt bt' (rt : Row wt ⟨bt, 0, none⟩ (txCs t iv ov)) hbt0=>?_))|(refine zC (d := some 17) rfl (size_spec (M := N) (cs := txCs t iv ov) (t := t) _ (R.ext ht0 (by exact fx)) hs) ?_; rintro _ w3 ⟨rfl, x3⟩; rw [e0])|(refine zC (d := some 26) rfl (need_spec (M := M) (N := N) (l := l) (cs := txCs t iv ov) (t := t) _ (hG.ext (by exact fx)) (fun b hb => Nat.lt_of_lt_of_le (hM b hb) (Ext.size (by exact fx))) (R.ext ht0 (by exact fx)) hs hl hf) ?_; rintro _ w4 ⟨rfl, x4⟩; rw [hnN, hnE])|(refine st_both ?_ ?_)|(refine zC (d := some 36) rfl (conflicts_spec (M := M) (N := N) (l := l) (cs := txCs t iv ov) (t := t) _ (hG.ext (by exact fx)) (fun b hb => Nat.lt_of_lt_of_le (hM b hb) (Ext.size (by exact fx))) (R.ext ht0 (by exact fx)) hs.ins hl) ?_; rintro v6 w6 ⟨o6, x6⟩)|(refine zC (d := some 39) rfl (evicted_spec (M := M) (N := N) (l := l) (cs := txCs t iv ov) (t := t) _ (hG.ext (by exact fx)) (fun b hb => Nat.lt_of_lt_of_le (hM b hb) (Ext.size (by exact fx))) (R.ext ht0 (by exact fx)) hs.ins hl) ?_; rintro vg w8 ⟨og, x8⟩; have sg := og.sl)|(refine st_len (d := some 42) (E := strE) (l := idsOf l (confL l t)) rfl (SlE.ext (by exact fx) sc) ?_))
          have sc8 := SlE.ext x8 sc
          have rg8 : Row w8 ⟨bg, 0, none⟩ [.pointer (some ⟨g, 0, none⟩)] := rg.ext (by exact fx)
          have rt8 : Row w8 ⟨bt, 0, none⟩ (txCs t iv ov) := rt.ext (by exact fx)
          have y08 : Ext w w8 := by exact fx
          have G8 := hG.ext y08
          have t8 := R.ext ht0 y08
          have hM8 : ∀ b ∈ M, b < w8.heap.size := fun b hb => Nat.lt_of_lt_of_le (hM b hb) y08.size
          have x08 : Unit → Ext w w8 := fun _ => y08
          clear y08
          have scR : SlR strR [] w8 vc (idsOf l (confL l t)) := SlE.toR (F := strE) (ag := false) sc8 (by simp)
          have tl : ∀ w1, Ext w8 w1 → Tells F.replace_Rules_1 [.pointer (some ⟨bg, 0, none⟩)] strR (fun cs => cs.headD undef) [] w1 (idsOf l (confL l t)) (fun s => !mayE l (getE l s)) := fun w1 x1 x hx w' cs x2 hc => by
            obtain rfl : cs = [Value.string x] := hc
            exact rules1_spec (M := M) x w' (G8.ext (x1.trans x2)) (fun b hb => Nat.lt_of_lt_of_le (hM8 b hb) (x1.trans x2).size) hl (rg8.ext (x1.trans x2))
          clear oc og x8 x7 x4 x3 xt xg rg rt hG ht0 bg' bt' sc
          repeat' (first|(first|refine go1 ?_|refine zg (fun _ _=>?_)|refine zi (fun _ _=>?_))|(refine zL (p := (((idsOf l (confL l t)).length : Nat) : Int) = 0) rfl (fun h => absurd h (by omega)) (fun _ => ?_))|(refine zC (d := some 47) rfl (idxStr_any (l := idsOf l (confL l t)) (M := []) (g := F.replace_Rules_1) (capl := [_]) _ rules1_hb (SlR.ext scR (by exact fx)) (by omega) (tl _ (by exact fx))) ?_; rintro _ w9 ⟨rfl, x9⟩; rw [may_conf hnd])|(refine zM rfl (fun h => ?_) (fun h => ?_))|(refine st_len (d := some 50) (E := strE) (l := idsOf l (evL l t)) rfl (SlE.ext (by exact fx) sg) ?_)|(refine zJ (p := (((idsOf l (evL l t)).length : Nat) : Int) > 100) rfl (fun h => ?_) (fun h => ?_))|(refine zC (d := some 57) rfl (fresh_spec (M := M) (N := N) (l := l) (cs := txCs t iv ov) (t := t) _ (G8.ext (by exact fx)) (fun b hb => Nat.lt_of_lt_of_le (hM8 b hb) (Ext.size (by exact fx))) (R.ext t8 (by exact fx)) hs.ins hl (SlE.ext (by exact fx) sc8) (SlE.ext (by exact fx) sg)) ?_; rintro _ w10 ⟨rfl, x10⟩)|(refine zL rfl (fun h => ?_) (fun h => ?_)))
          all_goals
            rw [hR]
            first
              | (rw [if_pos ‹(l.any fun x => hitE t x && !mayE l x) = true›]
                 exact x_ret rfl ⟨rfl, Ext.trans (x08 ()) (by exact fx)⟩)
              | (rw [if_neg (by rw [‹(l.any fun x => hitE t x && !mayE l x) = false›]; simp)]
                 first
                   | (rw [if_pos (by omega)]
                      exact x_ret rfl ⟨rfl, Ext.trans (x08 ()) (by exact fx)⟩)
                   | (rw [if_neg (by omega)]
                      first
                        | (rw [if_pos ‹freshP l t = true›]
                           exact x_ret rfl ⟨rfl, Ext.trans (x08 ()) (by exact fx)⟩)
                        | (rw [if_neg (by rw [‹freshP l t = false›]; simp)]
                           first
                             | (rw [if_pos (by rw [hnv]; exact of_decide_eq_true (by assumption))]
                                exact x_ret rfl ⟨rfl, Ext.trans (x08 ()) (by exact fx)⟩)
                             | (rw [if_neg (by rw [hnv]; exact of_decide_eq_false (by assumption))]
                                exact x_ret rfl ⟨rfl, Ext.trans (x08 ()) (by exact fx)⟩))))
        | true =>
          rw [if_pos hgn] at hnv
          have hnN : needN l t = needL l t := by unfold needN; rw [if_neg (by simpa using hc), if_neg (by rw [hh]; simp), if_pos hgn]
          have hnE : needE l t = 0 := by unfold needE; rw [if_neg (by simpa using hc), if_neg (by rw [hh]; simp), if_pos hgn]
          refine s_replace_Rules rfl ?_
          unfold k_replace_Rules
          refine ox ?_
          repeat' (first|(refine st_joinV (b := .cons ⟨some 39, _, _⟩ _) (fun (vc : Value) w' => Ext w4 w' ∧ Own strE T.string w4.heap.size w' vc (idsOf l (confL l t))) (fun vc => [(2, .int .i64 fee), (3, .pointer (some ⟨bg, 0, none⟩)), (4, .pointer (some ⟨bt, 0, none⟩)), (9, .int .i64 (needL l t)), (36, vc), (37, .pointer (some ⟨g, 0, none⟩)), (38, .agg (txCs t iv ov).toArray)]) ?_ ?_)|(rintro vc ρ7 w7 ⟨x7, oc⟩; have sc := oc.sl; try dsimp only)|(exact ⟨v6, ⟨rfl, rfl, rfl, rfl, rfl, rfl, rfl, trivial⟩, by exact fx, Own.lower (Own.ext (by exact fx) o6) (Ext.size (by exact fx))⟩)|(refine zF (d := some 32) (v := .bool true) (by show some (Value.bool (goodB fee)) = _; rw [hgf]) ?_)|(first|refine go1 ?_|refine zg (fun _ _=>?_)|refine zi (fun _ _=>?_))|(refine zD (d := some 3) rfl rfl (fun bg wg xg bg' (rg : Row wg ⟨bg, 0, none⟩ [.pointer (some ⟨g, 0, none⟩)]) hbg0=>?_))|(refine zD (d := some 4) rfl rfl (fun bt wt xt bt' (rt : Row wt ⟨bt, 0, none⟩ (txCs t iv ov)) hbt0=>?_))|(refine zC (d := some 17) rfl (size_spec (M := N) (cs := txCs t iv ov) (t := t) _ (R.ext ht0 (by exact fx)) hs) ?_; rintro _ w3 ⟨rfl, x3⟩; rw [e0])|(refine zC (d := some 26) rfl (need_spec (M := M) (N := N) (l := l) (cs := txCs t iv ov) (t := t) _ (hG.ext (by exact fx)) (fun b hb => Nat.lt_of_lt_of_le (hM b hb) (Ext.size (by exact fx))) (R.ext ht0 (by exact fx)) hs hl hf) ?_; rintro _ w4 ⟨rfl, x4⟩; rw [hnN, hnE])|(refine st_both ?_ ?_)|(refine zC (d := some 36) rfl (conflicts_spec (M := M) (N := N) (l := l) (cs := txCs t iv ov) (t := t) _ (hG.ext (by exact fx)) (fun b hb => Nat.lt_of_lt_of_le (hM b hb) (Ext.size (by exact fx))) (R.ext ht0 (by exact fx)) hs.ins hl) ?_; rintro v6 w6 ⟨o6, x6⟩)|(refine zC (d := some 39) rfl (evicted_spec (M := M) (N := N) (l := l) (cs := txCs t iv ov) (t := t) _ (hG.ext (by exact fx)) (fun b hb => Nat.lt_of_lt_of_le (hM b hb) (Ext.size (by exact fx))) (R.ext ht0 (by exact fx)) hs.ins hl) ?_; rintro vg w8 ⟨og, x8⟩; have sg := og.sl)|(refine st_len (d := some 42) (E := strE) (l := idsOf l (confL l t)) rfl (SlE.ext (by exact fx) sc) ?_))
          have sc8 := SlE.ext x8 sc
          have rg8 : Row w8 ⟨bg, 0, none⟩ [.pointer (some ⟨g, 0, none⟩)] := rg.ext (by exact fx)
          have rt8 : Row w8 ⟨bt, 0, none⟩ (txCs t iv ov) := rt.ext (by exact fx)
          have y08 : Ext w w8 := by exact fx
          have G8 := hG.ext y08
          have t8 := R.ext ht0 y08
          have hM8 : ∀ b ∈ M, b < w8.heap.size := fun b hb => Nat.lt_of_lt_of_le (hM b hb) y08.size
          have x08 : Unit → Ext w w8 := fun _ => y08
          clear y08
          have scR : SlR strR [] w8 vc (idsOf l (confL l t)) := SlE.toR (F := strE) (ag := false) sc8 (by simp)
          have tl : ∀ w1, Ext w8 w1 → Tells F.replace_Rules_1 [.pointer (some ⟨bg, 0, none⟩)] strR (fun cs => cs.headD undef) [] w1 (idsOf l (confL l t)) (fun s => !mayE l (getE l s)) := fun w1 x1 x hx w' cs x2 hc => by
            obtain rfl : cs = [Value.string x] := hc
            exact rules1_spec (M := M) x w' (G8.ext (x1.trans x2)) (fun b hb => Nat.lt_of_lt_of_le (hM8 b hb) (x1.trans x2).size) hl (rg8.ext (x1.trans x2))
          clear oc og x8 x7 x4 x3 xt xg rg rt hG ht0 bg' bt' sc
          repeat' (first|(first|refine go1 ?_|refine zg (fun _ _=>?_)|refine zi (fun _ _=>?_))|(refine zL (p := (((idsOf l (confL l t)).length : Nat) : Int) = 0) rfl (fun h => absurd h (by omega)) (fun _ => ?_))|(refine zC (d := some 47) rfl (idxStr_any (l := idsOf l (confL l t)) (M := []) (g := F.replace_Rules_1) (capl := [_]) _ rules1_hb (SlR.ext scR (by exact fx)) (by omega) (tl _ (by exact fx))) ?_; rintro _ w9 ⟨rfl, x9⟩; rw [may_conf hnd])|(refine zM rfl (fun h => ?_) (fun h => ?_))|(refine st_len (d := some 50) (E := strE) (l := idsOf l (evL l t)) rfl (SlE.ext (by exact fx) sg) ?_)|(refine zJ (p := (((idsOf l (evL l t)).length : Nat) : Int) > 100) rfl (fun h => ?_) (fun h => ?_))|(refine zC (d := some 57) rfl (fresh_spec (M := M) (N := N) (l := l) (cs := txCs t iv ov) (t := t) _ (G8.ext (by exact fx)) (fun b hb => Nat.lt_of_lt_of_le (hM8 b hb) (Ext.size (by exact fx))) (R.ext t8 (by exact fx)) hs.ins hl (SlE.ext (by exact fx) sc8) (SlE.ext (by exact fx) sg)) ?_; rintro _ w10 ⟨rfl, x10⟩)|(refine zL rfl (fun h => ?_) (fun h => ?_)))
          all_goals
            rw [hR]
            first
              | (rw [if_pos ‹(l.any fun x => hitE t x && !mayE l x) = true›]
                 exact x_ret rfl ⟨rfl, Ext.trans (x08 ()) (by exact fx)⟩)
              | (rw [if_neg (by rw [‹(l.any fun x => hitE t x && !mayE l x) = false›]; simp)]
                 first
                   | (rw [if_pos (by omega)]
                      exact x_ret rfl ⟨rfl, Ext.trans (x08 ()) (by exact fx)⟩)
                   | (rw [if_neg (by omega)]
                      first
                        | (rw [if_pos ‹freshP l t = true›]
                           exact x_ret rfl ⟨rfl, Ext.trans (x08 ()) (by exact fx)⟩)
                        | (rw [if_neg (by rw [‹freshP l t = false›]; simp)]
                           first
                             | (rw [if_pos (by rw [hnv]; exact of_decide_eq_true (by assumption))]
                                exact x_ret rfl ⟨rfl, Ext.trans (x08 ()) (by exact fx)⟩)
                             | (rw [if_neg (by rw [hnv]; exact of_decide_eq_false (by assumption))]
                                exact x_ret rfl ⟨rfl, Ext.trans (x08 ()) (by exact fx)⟩))))
  · have e0 : sizeV t = .tuple #[.int .i64 0, .int .i64 (checkT t)] := by rw [sizeV, if_neg hc]
    have e : rulesL l t fee = checkT t := by rw [rulesL, if_pos hc]
    rw [e]
    refine s_replace_Rules rfl ?_
    unfold k_replace_Rules
    refine ox ?_
    repeat' (first|(first|refine go1 ?_|refine zg (fun _ _=>?_)|refine zi (fun _ _=>?_))|(refine zD (d := some 3) rfl rfl (fun bg wg xg bg' (rg : Row wg ⟨bg, 0, none⟩ [.pointer (some ⟨g, 0, none⟩)]) hbg0=>?_))|(refine zD (d := some 4) rfl rfl (fun bt wt xt bt' (rt : Row wt ⟨bt, 0, none⟩ (txCs t iv ov)) hbt0=>?_))|(refine zC (d := some 17) rfl (size_spec (M := N) (cs := txCs t iv ov) (t := t) _ (R.ext ht0 (by exact fx)) hs) ?_; rintro _ w3 ⟨rfl, x3⟩; rw [e0])|(refine zN (p := checkT t = 0) rfl (fun _ => ?_) (fun h => absurd h hc)))
    exact x_ret rfl ⟨rfl, by exact fx⟩
end Go.Proofs.YteggaepppahefaaGreat
end
section
namespace Go.K
open Go Go.Proofs.YteggaepppahefaaGreat
theorem rules_w1 : rulesL [eA 1000] (oneM (idL 8) 1) 1000 = 11 := by kernel_rfl
theorem rules_w2 : rulesL [eA 1000] (oneM (idL 8) 1) 1069 = 0 := by kernel_rfl
theorem need_w : needN [eA 1000] (oneM (idL 8) 1) = 1069 := by kernel_rfl
theorem need_we : needE [eA 1000] (oneM (idL 8) 1) = 0 := by kernel_rfl
theorem ev_w : idsOf [eA 1000] (evL [eA 1000] (oneM (idL 8) 1)) = [str r80] := by kernel_rfl
end Go.K
end
section
namespace Go.Proofs.YteggaepppahefaaGreat
open Go Go.K
attribute [local irreducible] regK codeK retK KOp.wp K.Spec u32 leS vnS str zero32 sha2 encT idT sizeT checkT grantB idN stepR workL reachE findI dropG addG oneM idL
attribute [local irreducible] makeN eA eB needN needE rulesL confL evL idsOf
abbrev zR0 : Small := ⟨[200], 0, 0, 0, 0, 0⟩
abbrev zR1 : Small := ⟨[200], 0, 0, 0, 1, 0⟩
set_option maxHeartbeats 4000000 in
theorem wakes16_spec (w : World) : K.Spec Tryz.prog F.kedgelaw16_wakes [] w fun r w' => r = .bool true ∧ Ext w w' := by
  refine s_kedgelaw16_wakes rfl ?_
  unfold k_kedgelaw16_wakes
  refine ox ?_
  repeat' (first|(first|refine go1 ?_|refine zg (fun _ _=>?_)|refine zi (fun _ _=>?_))|(refine zC rfl (new_spec _) ?_; rintro _ w1 ⟨g, M, rfl, G1, x1⟩; have hM1 := G1.lt; have hB1 := G1.base)|(refine zI (d := some 10) (cs := [.int .u8 200]) rfl (fun bz wz xz az hbz => ?_)))
  have hM1z : ∀ b ∈ M, b < wz.heap.size := fun b hb => Nat.lt_of_lt_of_le (hM1 b hb) xz.size
  refine zC rfl (make_exact (M := M) (l := []) (cs := smallCs zR0 (.slice (some ⟨bz, 0, none⟩) 1 1)) (z := zR0) _ (SlR.nil _ _) ⟨_, rfl, SlE.toR (F := u8E) (SlE.new (E := u8E) (l := [200]) az rfl (Nat.le_refl _)) (by intro b hb hm; simp [blkOf] at hb; subst hb; have := hM1 _ hm; omega), by show is64 0; exact is64_0⟩ (by simp) (by decide) (by simp) hM1z) ?_
  rintro _ w3 ⟨ds, t, rfl, ho, hm, ht, x3⟩
  have ht := ht rfl
  rw [makeN_one] at ht
  obtain ⟨hc, hgr, hol⟩ := made_one hm rfl rfl rfl
  have hsm := hm.sm
  have hM3 : ∀ b ∈ M, b < w3.heap.size := fun b hb => Nat.lt_of_lt_of_le (hM1z b hb) x3.size
  have t3 : txR.rel M w3 ds t := txO.rel ho hM1z
  have e1 := ho.one
  obtain ⟨iv, ov, rfl, -⟩ := ho
  refine zE (d' := 2) (fun _=>rfl) rfl rfl e1 (fun b2 w4 x4 a4 r4 hb4=>?_)
  have x14 : Ext w1 w4 := (xz.trans x3).trans x4
  have G4 := G1.ext x14
  have t4 : txR.rel M w4 (txCs t iv ov) t := R.ext t3 x4
  have hM4 : ∀ b ∈ M, b < w4.heap.size := fun b hb => Nat.lt_of_lt_of_le (hM3 b hb) x4.size
  have hb2 : b2 ∉ M := fun h => by have := hM3 b2 h; omega
  have x04 : Ext w w4 := x1.trans x14
  have l4 := a4.lt
  clear az t3 xz x3 x4 x14 hM3 hM1z
  repeat' (first|(first|refine go1 ?_|refine zg (fun _ _=>?_)|refine zi (fun _ _=>?_))|(refine zI (d := some 13) (cs := [.int .u8 200]) rfl (fun bz wz xz az hbz => ?_)))
  have hM4z : ∀ b ∈ M, b < wz.heap.size := fun b hb => Nat.lt_of_lt_of_le (hM4 b hb) xz.size
  refine zC rfl (make_exact (M := M) (l := []) (cs := smallCs zR1 (.slice (some ⟨bz, 0, none⟩) 1 1)) (z := zR1) _ (SlR.nil _ _) ⟨_, rfl, SlE.toR (F := u8E) (SlE.new (E := u8E) (l := [200]) az rfl (Nat.le_refl _)) (by intro b hb hm; simp [blkOf] at hb; subst hb; have := hM4 _ hm; omega), by show is64 0; exact is64_0⟩ (by simp) (by decide) (by simp) hM4z) ?_
  rintro _ w5 ⟨ds, u, rfl, ho, hmu, hu, x5⟩
  have hu := hu rfl
  rw [makeN_one] at hu
  obtain ⟨hcu, hgru, holu⟩ := made_one hmu rfl rfl rfl
  have hsmu := hmu.sm
  have hM5 : ∀ b ∈ M, b < w5.heap.size := fun b hb => Nat.lt_of_lt_of_le (hM4z b hb) x5.size
  have t5 : txR.rel M w5 ds u := txO.rel ho hM4z
  have e1 := ho.one
  obtain ⟨iv2, ov2, rfl, -⟩ := ho
  refine zE (d' := 3) (fun _=>rfl) rfl rfl e1 (fun b3 w6 x6 a6 r6 hb6=>?_)
  have x46 : Ext w4 w6 := (xz.trans x5).trans x6
  have G6 := G4.ext x46
  have t6 : txR.rel M w6 (txCs t iv ov) t := R.ext t4 x46
  have u6 : txR.rel M w6 (txCs u iv2 ov2) u := R.ext t5 x6
  have hM6 : ∀ b ∈ M, b < w6.heap.size := fun b hb => Nat.lt_of_lt_of_le (hM5 b hb) x6.size
  have hb3 : b3 ∉ M := fun h => by have := hM5 b3 h; omega
  have x06 : Ext w w6 := x04.trans x46
  have l6 := a6.lt
  have a46 := a4.ext x46
  have r46 : Row w6 ⟨b2, 0, none⟩ (txCs t iv ov) := Row.of_at a46
  have hb23 : b2 < w6.heap.size := Nat.lt_of_lt_of_le l4 x46.size
  have hn23 : b2 ≠ b3 := fun h => by have := (xz.trans x5).size; omega
  clear az t5 xz x5 x6 x46 hM5 hM4z G4 t4 hM4 x04 a4 r4
  have ht : t = oneM (idL 8) 0 := ht
  have hu : u = oneM (idL 8) 1 := hu
  have hgd : goodB 1000 = true := by rw [goodB_iff]; omega
  have hA : addG [] t 1000 = ([eA 1000], 0) := by rw [ht]; exact add_A (by rw [← ht]; exact hc) (by rw [← ht]; exact hgr) hgd
  have h64 : is64 1000 := by unfold is64; omega
  have hx1 : ∀ x ∈ [eA 1000], x.fee ≤ 1000000000000 := by intro x hx; simp only [List.mem_singleton] at hx; rw [hx]; unfold eA; simp only; omega
  have e1u := e1
  repeat' (first|(first|refine go1 ?_|refine zg (fun _ _=>?_)|refine zi (fun _ _=>?_))|(refine zC (d := some 18) rfl (gadd_spec (M := M) (N := M) (cs := txCs t iv ov) (t := t) 1000 _ (G6.ext (by exact fx)) (R.ext t6 (by exact fx)) hsm h64 (fun b hb => Nat.lt_of_lt_of_le (hM6 b hb) (Ext.size (by exact fx))) (fun _ h => h) (by simp)) ?_; rintro _ w7 ⟨M7, rfl, G7, c7, hb7⟩))
  rw [hA] at G7
  rw [show (addG [] t 1000).2 = 0 by rw [hA]]
  have x07 : Ext w w7 := (Ext.chg x06 c7).mono (fun b hb => .inr (hB1 b hb))
  have u7 : txR.rel M7 w7 (txCs u iv2 ov2) u := txR.step u6 c7 (fun b hb => .inl hb) hb7
  have r67 : Row w7 ⟨b3, 0, none⟩ (txCs u iv2 ov2) := Row.of_at (At.chg c7 a6 hb3)
  have hM7 := G7.lt
  have h7 := G7.r
  obtain ⟨-, f1, f2, -⟩ : (Value.int IntKind.u32 u.ver).oneCell' = true ∧ iv2.oneCell' = true ∧ ov2.oneCell' = true ∧ (Value.int IntKind.u32 u.lock).oneCell' = true := by simpa [txCs] using e1u
  clear G6 t6 u6 hM6 x06 a46 r46 a6 r6 c7
  have hMx : ∀ {w'}, Ext w7 w' → ∀ b ∈ M7, b < w'.heap.size := fun x b hb => Nat.lt_of_lt_of_le (hM7 b hb) x.size
  have n1 : needN [eA 1000] u = 1069 := by rw [hu]; exact need_w
  have n2 : needE [eA 1000] u = 0 := by rw [hu]; exact need_we
  have q1 : rulesL [eA 1000] u 1000 = 11 := by rw [hu]; exact rules_w1
  have q2 : rulesL [eA 1000] u 1069 = 0 := by rw [hu]; exact rules_w2
  have q3 : idsOf [eA 1000] (evL [eA 1000] u) = [str r80] := by rw [hu]; exact ev_w
  repeat' (first|(first|refine go1 ?_|refine zg (fun _ _=>?_)|refine zi (fun _ _=>?_))|(refine zC (d := some 22) rfl (need_spec (M := M7) (l := [eA 1000]) (cs := txCs u iv2 ov2) (t := u) _ (h7.ext (by exact fx)) (hMx (by exact fx)) (R.ext u7 (by exact fx)) hsmu (by simp) hx1) ?_; rintro _ w8 ⟨rfl, x8⟩; rw [n1, n2])|(refine zC (d := some 27) rfl (need_nil (t := u) (cs := txCs u iv2 ov2) rfl _ f1 f2) ?_; rintro _ w9 ⟨rfl, x9⟩)|(refine zC (d := some 43) rfl (rules_spec (M := M7) (l := [eA 1000]) (cs := txCs u iv2 ov2) (t := u) 1000 _ (h7.ext (by exact fx)) (hMx (by exact fx)) (R.ext u7 (by exact fx)) hsmu (by simp) hx1) ?_; rintro _ w10 ⟨rfl, x10⟩; rw [q1])|(refine zC (d := some 50) rfl (rules_spec (M := M7) (l := [eA 1000]) (cs := txCs u iv2 ov2) (t := u) 1069 _ (h7.ext (by exact fx)) (hMx (by exact fx)) (R.ext u7 (by exact fx)) hsmu (by simp) hx1) ?_; rintro _ w11 ⟨rfl, x11⟩; rw [q2])|(refine zC (d := some 56) rfl (evicted_spec (M := M7) (l := [eA 1000]) (cs := txCs u iv2 ov2) (t := u) _ (h7.ext (by exact fx)) (hMx (by exact fx)) (R.ext u7 (by exact fx)) hsmu.ins (by simp)) ?_; rintro v12 w12 ⟨o12, x12⟩; rw [q3] at o12; have s12 := o12.sl)|(refine st_len (d := some 57) (E := strE) (l := [str r80]) rfl (SlE.ext (by exact fx) s12) ?_)|(refine st_both ?_ ?_))

  all_goals exact x_ret rfl ⟨rfl, by exact fx⟩
end Go.Proofs.YteggaepppahefaaGreat
end
section
namespace Go.Proofs.YteggaepppahefaaGreat
open Go Go.K
theorem needs_plain {l : List Ent} {t : Tx} (hn : (l.map (·.id)).Nodup) (hE : ∀ x ∈ l, EntOk x) (hf : ∀ x ∈ l, x.fee ≤ 16777215) (hl : l.length ≤ 12) (hs : t.Sm) (hc : checkT t = 0) :
    needE l t = 0 ∧ 0 ≤ needN l t ∧ needN l t ≤ 2100000000000000 ∧ enoughL l t (needN l t) = true ∧ (needN l t = 0 ∨ enoughL l t (needN l t - 1) = false) := by
  have hz := (sz_of_check hs hc).sizeM
  have hpr : Priced l := fun x hx => ent_priced16 (hE x hx)
  have h0 : ¬ checkT t ≠ 0 := by simp [hc]
  have eE : needE l t = if l.any (hitE t) = false then 0 else if goodB (needL l t) = true then 0 else 3 := by unfold needE; exact if_neg h0
  have eN : needN l t = if l.any (hitE t) = false then 0 else if goodB (needL l t) = true then needL l t else 0 := by unfold needN; exact if_neg h0
  by_cases hh : l.any (hitE t) = false
  · rw [eE, eN, if_pos hh, if_pos hh]
    exact ⟨rfl, by omega, by omega, enough_none hh _, .inl rfl⟩
  · rw [eE, eN, if_neg hh, if_neg hh]
    obtain ⟨h1, h2, h3, h4⟩ := need_enough hn hpr (c := 16777215) (fun x hx => ⟨((goodB_iff _).1 (hE x hx).fee).1, hf x hx⟩) (by omega) (by omega) hz (by simpa using hh)
    rw [if_pos h1, if_pos h1]
    exact ⟨rfl, by omega, ((goodB_iff _).1 h1).2, h3, .inr h4⟩
attribute [local irreducible] regK codeK retK KOp.wp K.Spec u32 leS vnS str zero32 sha2 encT idT sizeT checkT grantB idN stepR workL reachE findI dropG addG needN needE rulesL enoughL
set_option maxHeartbeats 4000000 in
theorem rneeds_law {v : Value} {cs : List Value} {sc : List ActP} {la : ActP} (w : World) (hs : SlR actpR [] w v sc) (ha : actpR.rel [] w cs la) : K.Spec Tryz.prog F.kedgelaw16_ReplaceNeeds [v, .agg cs.toArray] w fun r w' => r = .bool true ∧ Ext w w' := by
  obtain ⟨fv, rfl, q1, q2, q3⟩ := ha
  refine s_kedgelaw16_ReplaceNeeds rfl ?_
  unfold k_kedgelaw16_ReplaceNeeds
  refine ox ?_
  repeat' (first|(first|refine go1 ?_|refine zg (fun _ _=>?_)|refine zi (fun _ _=>?_))|(refine zD (d := some 3) rfl rfl (fun bp wp xp ap (rp : Row wp ⟨bp, 0, none⟩ (actpCs la fv)) hp0=>?_))|(refine zC (d := some 13) rfl (filled16_spec (sc := sc) _ (SlR.ext hs (by exact fx))) ?_; rintro _ w4 ⟨g, M, u, l, rfl, G4, u4, hl, hfl, x4⟩))
  have hM4 := G4.lt
  have hB4 := G4.base
  have sp := xp.size
  have hid32 : ∀ x ∈ l, x.id.size = 32 := fun x hx => by rw [(G4.ok x hx).id]; exact idT_size _
  have q14 : SlR u8R M w4 fv la.sm.frm := (q1.ext xp).step x4 (by simp) (fun b hb => .inr (hB4 b hb))
  repeat' (first|(first|refine go1 ?_|refine zg (fun _ _=>?_)|refine zi (fun _ _=>?_))|(refine zC (d := some 18) rfl (of16_spec (M := M) (l := l) (cs := actpCs la fv) (a := la) _ (u4.ext (by exact fx)) ⟨fv, rfl, q14.ext (by exact fx), q2, q3⟩ (by omega) hid32 hM4) ?_; rintro _ w5 ⟨ds, t, rfl, ho, hsm, x5⟩))
  have s5 := x5.size
  have hM5 : ∀ b ∈ M, b < w5.heap.size := fun b hb => by have := hM4 b hb; omega
  have t5 : txR.rel M w5 ds t := txO.rel ho hM4
  have o1 := ho.one
  obtain ⟨iv, ov, rfl, -⟩ := ho
  refine zE (d' := 7) (fun _=>rfl) rfl rfl o1 (fun b7 w7 x7 a7 r7 hb7=>?_)
  have G7 := (G4.r.ext x5).ext x7
  have u7 := (u4.ext x5).ext x7
  have t7 := R.ext t5 x7
  have hM7 : ∀ b ∈ M, b < w7.heap.size := fun b hb => by have := hM5 b hb; have := x7.size; omega
  have x07 : Unit → Ext w w7 := fun _ => ((xp.trans x4).trans x5).trans x7
  have hE := G4.ok
  have hnd := G4.nodup
  clear G4 u4 t5 x4 x5 x7 xp ap rp q14
  by_cases hc : checkT t = 0
  · obtain ⟨e1, e2, e3, e4, e5⟩ := needs_plain hnd hE hfl hl hsm hc
    repeat' (first|(first|refine go1 ?_|refine zg (fun _ _=>?_)|refine zi (fun _ _=>?_))|(refine zC (d := some 22) rfl (need_spec (M := M) (l := l) (cs := txCs t iv ov) (t := t) _ (G7.ext (by exact fx)) (fun b hb => Nat.lt_of_lt_of_le (hM7 b hb) (Ext.size (by exact fx))) (R.ext t7 (by exact fx)) hsm (by omega) (fun x hx => by have := hfl x hx; omega)) ?_; rintro _ w8 ⟨rfl, x8⟩; rw [e1])|(refine zC (d := some 26) rfl (rcheck_spec (M := M) (cs := txCs t iv ov) (t := t) _ (R.ext t7 (by exact fx)) hsm) ?_; rintro _ w9 ⟨rfl, x9⟩; rw [hc]))
    generalize needN l t = n at *
    by_cases hn0 : n = 0
    · subst hn0
      repeat' (first|(first|refine go1 ?_|refine zg (fun _ _=>?_)|refine zi (fun _ _=>?_))|(refine zC (d := some 41) rfl (wakes16_spec _) ?_; rintro _ w10 ⟨rfl, x10⟩)|(refine zC (d := some 50) rfl (renough_spec (M := M) (l := l) (cs := txCs t iv ov) (t := t) 0 _ (SlR.ext u7 (by exact fx)) (R.ext t7 (by exact fx)) hsm hc (by omega) hE (fun x hx => by have := hfl x hx; omega)) ?_; rintro _ w11 ⟨rfl, x11⟩; rw [e4]))
      exact x_ret rfl ⟨rfl, (x07 ()).trans (by exact fx)⟩
    · have e6 : enoughL l t (n - 1) = false := e5.resolve_left hn0
      repeat' (first|(refine st_fixV (d := some 44) (.bool true) rfl (congrArg (fun b => some (Value.bool b)) (decide_eq_true e2)) ?_)|(refine st_fixV (d := some 54) (.bool false) rfl (congrArg (fun b => some (Value.bool b)) (decide_eq_false hn0)) ?_)|(refine st_fixV (d := some 59) (.int .i64 (n - 1)) rfl (congrArg (fun n => some (Value.int .i64 n)) (IntWalk.i64_in _ (by omega))) ?_)|(first|refine go1 ?_|refine zg (fun _ _=>?_)|refine zi (fun _ _=>?_))|(apply zO; focus((conv=>lhs;whnf)<;>(first|with_reducible exact rfl|(refine congrArg Value.bool ?_;decide))))|(refine zC (d := some 41) rfl (wakes16_spec _) ?_; rintro _ w10 ⟨rfl, x10⟩)|(refine zC (d := some 50) rfl (renough_spec (M := M) (l := l) (cs := txCs t iv ov) (t := t) n _ (SlR.ext u7 (by exact fx)) (R.ext t7 (by exact fx)) hsm hc (by omega) hE (fun x hx => by have := hfl x hx; omega)) ?_; rintro _ w11 ⟨rfl, x11⟩; rw [e4])|(refine zC (d := some 60) rfl (renough_spec (M := M) (l := l) (cs := txCs t iv ov) (t := t) (n - 1) _ (SlR.ext u7 (by exact fx)) (R.ext t7 (by exact fx)) hsm hc (by omega) hE (fun x hx => by have := hfl x hx; omega)) ?_; rintro _ w12 ⟨rfl, x12⟩; rw [e6]))
      exact x_ret rfl ⟨rfl, (x07 ()).trans (by exact fx)⟩
  · have e1 : needE l t = checkT t := by unfold needE; exact if_pos hc
    have e2 : needN l t = 0 := by unfold needN; exact if_pos hc
    repeat' (first|(refine st_fixV (d := some 33) (.bool true) rfl (congrArg (fun b => some (Value.bool b)) (decide_eq_true rfl)) ?_)|(first|refine go1 ?_|refine zg (fun _ _=>?_)|refine zi (fun _ _=>?_))|(apply zO; focus((conv=>lhs;whnf)<;>(first|with_reducible exact rfl|(refine congrArg Value.bool ?_;decide))))|(refine zC (d := some 22) rfl (need_spec (M := M) (l := l) (cs := txCs t iv ov) (t := t) _ (G7.ext (by exact fx)) (fun b hb => Nat.lt_of_lt_of_le (hM7 b hb) (Ext.size (by exact fx))) (R.ext t7 (by exact fx)) hsm (by omega) (fun x hx => by have := hfl x hx; omega)) ?_; rintro _ w8 ⟨rfl, x8⟩; rw [e1, e2])|(refine zC (d := some 26) rfl (rcheck_spec (M := M) (cs := txCs t iv ov) (t := t) _ (R.ext t7 (by exact fx)) hsm) ?_; rintro _ w9 ⟨rfl, x9⟩)|(refine zC (d := some 29) rfl (wakes16_spec _) ?_; rintro _ w10 ⟨rfl, x10⟩)|(refine zN (p := checkT t = 0) rfl (fun _ => ?_) (fun h => absurd h hc)))
    exact x_ret rfl ⟨rfl, (x07 ()).trans (by exact fx)⟩
end Go.Proofs.YteggaepppahefaaGreat
end
