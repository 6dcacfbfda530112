/- Contracts: the document's answer of limits. -/
import Derived.Test.YtfeifodeaphbjaaGreatH44
set_option linter.unusedVariables false
set_option linter.unusedSimpArgs false
section
namespace Go.Proofs.YtfeifodeaphbjaaGreat
open Go Go.K
attribute [local irreducible] regK codeK retK KOp.wp K.Spec u32 leS vnS str zero32 sha2 encT idT sizeT checkT grantB idN stepR workL reachE findI dropG addG aboveL belowL idsOf feeD sizeD szOf feeOf

theorem cntb_spec {v : Value} {m : List Bool} (w : World) (hm : SlE boolE w v m) (hn : m.length ≤ 1000000) : K.Spec Tryz.prog F.kedgeref15_count [v] w fun r w' => r = .int .i64 (cntB m) ∧ Ext w w' := by
  refine s_kedgeref15_count rfl ?_
  unfold k_kedgeref15_count
  refine ox ?_
  repeat' (first|(first|refine go1 ?_|refine zg (fun _ _=>?_)|refine zi (fun _ _=>?_))|(refine zL rfl (fun h => ?_) (fun h => ?_))|(refine zM rfl (fun h => ?_) (fun h => ?_))|(refine st_len rfl (SlE.ext (w := w) (by exact fx) hm) ?_)|(refine c_loopV (fun (i : Nat) w' => Ext w w' ∧ i ≤ m.length) (fun i => [(0, v), (3, .int .i64 (cntB (m.take i))), (4, .int .i64 i)]) (fun i => m.length - i) 0 ⟨rfl, rfl, rfl, trivial⟩ ⟨Ext.refl _, Nat.zero_le _⟩ ?_; rintro i ρ w3 ⟨x3, hi3⟩; have hcb := cntB_le (m.take i); have hcl : (m.take i).length ≤ m.length := (by rw [List.length_take]; omega))|(have hil : i < m.length := (by omega); refine st_elemE (d := some 13) (E := boolE) rfl rfl (n := i) (l := m) (hm.ext x3) rfl hil (fun ad r5 => ?_); have r5 : Row w3 ad [Value.bool m[i]] := r5))
  · refine ⟨i + 1, ⟨rfl, ?_, rfl, trivial⟩, ⟨by exact fx, by omega⟩, by omega⟩
    show _ = Value.int .i64 (cntB (m.take (i + 1)))
    rw [List.take_succ_eq_append_getElem hil, cntB_snoc, if_pos h]; rfl
  · refine ⟨i + 1, ⟨rfl, ?_, rfl, trivial⟩, ⟨by exact fx, by omega⟩, by omega⟩
    show _ = Value.int .i64 (cntB (m.take (i + 1)))
    rw [List.take_succ_eq_append_getElem hil, cntB_snoc, if_neg (by simpa using h)]
    exact congrArg (Value.int .i64) (by omega)
  · rw [List.take_of_length_le (by omega)]
    exact x_ret rfl ⟨rfl, by exact fx⟩
set_option maxHeartbeats 1000000 in
theorem rfits_spec {M : List Nat} {v : Value} {cs : List Value} {l : List Ent} {t : Tx} (w : World) (hl : SlR entR M w v l) (ht : txR.rel M w cs t) (hs : t.Sm) (hn : l.length ≤ 1000) (hE : ∀ x ∈ l, EntOk x) (hnd : (l.map (·.id)).Nodup) :
    K.Spec Tryz.prog F.kedgeref15_Fits [v, .agg cs.toArray] w fun r w' => r = .int .i64 (fitsL l t) ∧ Ext w w' := by
  have ht0 := ht
  obtain ⟨iv, ov, rfl, -⟩ := ht
  have hgood : ∀ x ∈ l, goodB x.fee = true := fun x hx => (hE x hx).fee
  have hsz : ∀ x ∈ l, 0 ≤ x.size ∧ x.size ≤ (100000000000 : Nat) := fun x hx => (entOk_fit (hE x hx)).2
  have hsm : ∀ x ∈ l, x.tx.Sm := fun x hx => chk_sm (hE x hx).check
  have hla := aboveL_len l t
  by_cases hc : checkT t = 0
  · have hz := sz_of_check hs hc
    have hz2 := hz.size
    have hca := cntB_le (aboveL l t)
    have hsa := szOf_bound (l := l) hsz (aboveL l t)
    have hfit : fitsL l t = if wiP l (idsOf l (aboveL l t)) (sizeT t : Nat) 25 101000 = false then 14 else if hoP l (idsOf l (aboveL l t)) (sizeT t : Nat) 25 101000 then 0
      else if ((idsOf l (aboveL l t)).length : Int) = 1 ∧ ((sizeT t : Nat) : Int) ≤ 10000 ∧ hoP l (idsOf l (aboveL l t)) (sizeT t : Nat) 26 111000 = true then 0 else 14 := by
      rw [fitsL, if_neg (by simpa using hc)]
    rw [wiP_mask hnd hla, idsOf_len l _ hla] at hfit
    refine s_kedgeref15_Fits rfl ?_
    unfold k_kedgeref15_Fits
    refine ox ?_
    repeat' (first|(first|refine go1 ?_|refine zg (fun _ _=>?_)|refine zi (fun _ _=>?_))|(refine zN (p := checkT t = 0) rfl (fun h => absurd hc h) (fun h => ?_))|(refine zL rfl (fun h => ?_) (fun h => ?_))|(refine zJ rfl (fun h => ?_) (fun h => ?_))|(refine zD rfl rfl (fun bp wp xp ap (rp : Row wp ⟨bp, 0, none⟩ (txCs t iv ov)) hp0=>?_))|(refine zC rfl (rcheck_spec (M := M) (cs := txCs t iv ov) (t := t) _ (R.ext ht0 (by exact fx)) hs) ?_; rintro _ w3 ⟨rfl, x3⟩)|(refine zC rfl (rsize_spec (M := M) (cs := txCs t iv ov) (t := t) _ (R.ext ht0 (by exact fx)) hz) ?_; rintro _ w4 ⟨rfl, x4⟩)|(refine zC rfl (above_spec (M := M) (l := l) (cs := txCs t iv ov) (t := t) _ (SlR.ext hl (by exact fx)) (R.ext ht0 (by exact fx)) hs hn hsm) ?_; rintro va w5 ⟨sa, x5, -⟩)|(refine zC rfl (cntb_spec (m := aboveL l t) _ (SlE.ext (by exact fx) sa) (by omega)) ?_; rintro _ w6 ⟨rfl, x6⟩)|(refine zC rfl (rsum14_spec (M := M) (l := l) (m := aboveL l t) _ (SlR.ext hl (by exact fx)) (SlE.ext (by exact fx) sa) hla hn hgood hsz) ?_; rintro _ w7 ⟨rfl, x7⟩))
    · have e : fitsL l t = 14 := by rw [hfit, decide_eq_false (by omega), Bool.false_and, if_pos rfl]
      rw [e]
      exact x_ret rfl ⟨rfl, by exact fx⟩
    · have e : fitsL l t = 14 := by rw [hfit, decide_eq_false (show ¬ szOf l (aboveL l t) + ((sizeT t : Nat) : Int) ≤ 101000 by omega), Bool.and_false, if_pos rfl]
      rw [e]
      exact x_ret rfl ⟨rfl, by exact fx⟩
    · have x07 : Ext w w7 := by exact fx
      have sa7 : SlE boolE w7 va (aboveL l t) := SlE.ext (x6.trans x7) sa
      have hl7 := SlR.ext hl x07
      rw [decide_eq_true (by omega), decide_eq_true (show szOf l (aboveL l t) + ((sizeT t : Nat) : Int) ≤ 101000 by omega), Bool.and_true, if_neg (by simp)] at hfit
      clear ht0 hl sa xp x3 x4 x5 x6 x7 rp ap
      have hB : ∀ s, l.length = (belowL l s).length := belowL_len l
      have hb25 : ∀ s, wiP l (idsOf l (belowL l s)) (sizeT t : Nat) 25 101000 = (decide (cntB (belowL l s) + 1 ≤ 25) && decide (szOf l (belowL l s) + ((sizeT t : Nat) : Int) ≤ 101000)) := fun s => wiP_mask hnd (hB s) _ _ _
      have hb26 : ∀ s, wiP l (idsOf l (belowL l s)) (sizeT t : Nat) 26 111000 = (decide (cntB (belowL l s) + 1 ≤ 26) && decide (szOf l (belowL l s) + ((sizeT t : Nat) : Int) ≤ 111000)) := fun s => wiP_mask hnd (hB s) _ _ _
      repeat' (first|(refine c_cutV (a := .seq (.reg false (.cons ⟨some 70, _, _⟩ _)) _) (fun (b : Bool) w' => Ext w12 w' ∧ b = (all && wiP l (idsOf l (belowL l l[i].id)) (sizeT t : Nat) 25 101000)) (fun b => [(0, v), (6, .int .i64 (sizeT t : Nat)), (7, va), (8, .int .i64 (cntB (aboveL l t))), (11, .bool b), (12, .int .i64 i), (14, .int .i64 (cntB (belowL l l[i].id))), (16, .int .i64 (szOf l (belowL l l[i].id)))]) ?_ ?_; rotate_left; (rintro b ρ2 w13 ⟨x13, hb⟩; try dsimp only); rotate_left)|(first|refine go1 ?_|refine zg (fun _ _=>?_)|refine zi (fun _ _=>?_))|(refine c_loopV (fun (q : Nat × Bool) w' => Ext w7 w' ∧ q.1 ≤ l.length ∧ (q.2 = true ↔ ∀ j (h : j < l.length), j < q.1 → (aboveL l t)[j]'(by omega) = true → wiP l (idsOf l (belowL l l[j].id)) (sizeT t : Nat) 25 101000 = true) ∧ ∀ j (h : j < l.length), j < q.1 → (aboveL l t)[j]'(by omega) = true → cntB (aboveL l t) = 1 → ((sizeT t : Nat) : Int) ≤ 10000 → wiP l (idsOf l (belowL l l[j].id)) (sizeT t : Nat) 26 111000 = false) (fun q => [(0, v), (6, .int .i64 (sizeT t : Nat)), (7, va), (8, .int .i64 (cntB (aboveL l t))), (11, .bool q.2), (12, .int .i64 q.1)]) (fun q => l.length - q.1) (0, true) ⟨rfl, rfl, rfl, rfl, rfl, rfl, trivial⟩ ⟨Ext.refl _, Nat.zero_le _, by simp, by simp⟩ ?_; rintro ⟨i, all⟩ ρ w8 ⟨x8, hi, ha, hk⟩; simp only at hi ha hk; dsimp only)|(refine zL rfl (fun h => ?_) (fun h => ?_))|(refine zG (E := entR) (M := M) (l := l) rfl (SlR.ext hl7 (by exact fx)) ?_)|(have hil : i < l.length := (by omega); refine st_elemE (d := some 52) (E := boolE) rfl rfl (n := i) (l := aboveL l t) (SlE.ext (by exact fx) sa7) rfl (by omega) (fun ad r5 => ?_); have r5 : Row w8 ad [Value.bool ((aboveL l t)[i]'(by omega))] := r5)|(refine zM rfl (fun ht => ?_) (fun ht => ?_))|(refine st_elemR (d := some 58) (E := entR) (M := M) rfl rfl (n := i) (l := l) (SlR.ext hl7 (by exact fx)) rfl hil (fun ad cs r6 he => ?_); obtain ⟨iv9, ov9, rfl, -⟩ := he)|(refine zC rfl (below_spec (M := M) (l := l) l[i].id _ (SlR.ext hl7 (by exact fx)) hn hsm) ?_; rintro vb w10 ⟨sb, x10, -⟩)|(refine zC rfl (cntb_spec (m := belowL l l[i].id) _ (SlE.ext (by exact fx) sb) (by have := hB l[i].id; omega)) ?_; rintro _ w11 ⟨rfl, x11⟩)|(refine zC rfl (rsum14_spec (M := M) (l := l) (m := belowL l l[i].id) _ (SlR.ext hl7 (by exact fx)) (SlE.ext (by exact fx) sb) (hB _) hn hgood hsz) ?_; rintro _ w12 ⟨rfl, x12⟩; have hcb := cntB_le (belowL l l[i].id); have hsb := szOf_bound (l := l) hsz (belowL l l[i].id); have hlb := hB l[i].id)|(refine zJ rfl (fun h => ?_) (fun h => ?_)))
      · refine ⟨(i + 1, all), ⟨rfl, rfl, rfl, rfl, rfl, rfl, trivial⟩, ⟨by exact fx, by simp only; omega, ?_, ?_⟩, by simp only; omega⟩
        · rw [ha]
          exact ⟨fun h1 j hj hji hA => by
            by_cases e : j = i
            · subst e; rw [hA] at ht; cases ht
            · exact h1 j hj (by simp only at hji; omega) hA, fun h1 j hj hji hA => h1 j hj (by simp only; omega) hA⟩
        · intro j hj hji hA hc1 hc2
          by_cases e : j = i
          · subst e; rw [hA] at ht; cases ht
          · exact hk j hj (by simp only at hji; omega) hA hc1 hc2
      · exact ⟨false, ⟨rfl, rfl, rfl, rfl, rfl, rfl, rfl, rfl, trivial⟩, by exact fx, by rw [hb25, decide_eq_false (show ¬ cntB (belowL l l[i].id) + 1 ≤ 25 by omega), Bool.false_and, Bool.and_false]⟩
      · exact ⟨false, ⟨rfl, rfl, rfl, rfl, rfl, rfl, rfl, rfl, trivial⟩, by exact fx, by rw [hb25, decide_eq_false (show ¬ szOf l (belowL l l[i].id) + ((sizeT t : Nat) : Int) ≤ 101000 by omega), Bool.and_false, Bool.and_false]⟩
      · exact ⟨all, ⟨rfl, rfl, rfl, rfl, rfl, rfl, rfl, rfl, trivial⟩, by exact fx, by rw [hb25, decide_eq_true (show cntB (belowL l l[i].id) + 1 ≤ 25 by omega), decide_eq_true (show szOf l (belowL l l[i].id) + ((sizeT t : Nat) : Int) ≤ 101000 by omega), Bool.and_true, Bool.and_true]⟩
      · have hin : l[i].id ∈ idsOf l (aboveL l t) := idsOf_mem hil (by omega) (by simpa using ht)
        have h1 : (idsOf l (aboveL l t)).length = 1 := by have := idsOf_len l _ hla; omega
        have h2 : hoP l (idsOf l (aboveL l t)) (sizeT t : Nat) 26 111000 = true := by
          unfold hoP
          rw [one_all h1 hin, hb26, decide_eq_true (by assumption), decide_eq_true (show szOf l (belowL l l[i].id) + ((sizeT t : Nat) : Int) ≤ 111000 by assumption)]
          rfl
        have e : fitsL l t = 0 := by
          rw [hfit]
          split
          · rfl
          · rw [if_pos ⟨by assumption, by assumption, h2⟩]
        rw [e]
        exact x_ret rfl ⟨rfl, Ext.trans x07 (by exact fx)⟩
      iterate 4
        · refine ⟨(i + 1, b), ⟨rfl, rfl, rfl, rfl, rfl, rfl, trivial⟩, ⟨by exact fx, by simp only; omega, ?_, ?_⟩, by simp only; omega⟩
          · simp only
            rw [hb, Bool.and_eq_true, ha]
            constructor
            · rintro ⟨h1, h2⟩ j hj hji hA
              by_cases e : j = i
              · subst e; exact h2
              · exact h1 j hj (by omega) hA
            · intro h1
              exact ⟨fun j hj hji hA => h1 j hj (by omega) hA, h1 i hil (by omega) (by simpa using ht)⟩
          · simp only
            intro j hj hji hA hc1 hc2
            by_cases e : j = i
            · subst e
              first
                | exact absurd hc1 (by assumption)
                | exact absurd hc2 (by assumption)
                | rw [hb26, decide_eq_false (by assumption), Bool.false_and]
                | rw [hb26, decide_eq_false (show ¬ szOf l (belowL l l[j].id) + ((sizeT t : Nat) : Int) ≤ 111000 by assumption), Bool.and_false]
            · exact hk j hj (by omega) hA hc1 hc2
      · have e : fitsL l t = 0 := by
          rw [hfit, if_pos]
          unfold hoP
          rw [List.all_eq_true]
          intro x hx
          obtain ⟨j, h1, h2, h3, rfl⟩ := mem_idsOf hx
          exact ha.1 ‹_› j h1 (by omega) h3
        rw [e]
        exact x_ret rfl ⟨rfl, Ext.trans x07 (by exact fx)⟩
      · have e : fitsL l t = 14 := by
          have hnot : ¬ (hoP l (idsOf l (aboveL l t)) (sizeT t : Nat) 25 101000 = true) := fun h1 => by
            have : all = true := ha.2 fun j hj _ hA => List.all_eq_true.1 h1 _ (idsOf_mem hj (by omega) hA)
            simp_all
          rw [hfit, if_neg hnot, if_neg]
          rintro ⟨c1, c2, c3⟩
          have hlen := idsOf_len l _ hla
          have h1 : 0 < (idsOf l (aboveL l t)).length := by omega
          obtain ⟨j, j1, j2, j3, j4⟩ := mem_idsOf (List.getElem_mem h1)
          have h4 := hk j j1 (by omega) j3 c1 c2
          have h5 := List.all_eq_true.1 c3 _ (List.getElem_mem h1)
          rw [← j4, h4] at h5
          cases h5
        rw [e]
        exact x_ret rfl ⟨rfl, Ext.trans x07 (by exact fx)⟩
  · have hfit : fitsL l t = checkT t := by rw [fitsL, if_pos hc]
    rw [hfit]
    refine s_kedgeref15_Fits rfl ?_
    unfold k_kedgeref15_Fits
    refine ox ?_
    repeat' (first|(first|refine go1 ?_|refine zg (fun _ _=>?_)|refine zi (fun _ _=>?_))|(refine zN rfl (fun h => ?_) (fun h => absurd h hc))|(refine zD rfl rfl (fun bp wp xp ap (rp : Row wp ⟨bp, 0, none⟩ (txCs t iv ov)) hp0=>?_))|(refine zC rfl (rcheck_spec (M := M) (cs := txCs t iv ov) (t := t) _ (R.ext ht0 (by exact fx)) hs) ?_; rintro _ w3 ⟨rfl, x3⟩))
    exact x_ret rfl ⟨rfl, by exact fx⟩
end Go.Proofs.YtfeifodeaphbjaaGreat
end
