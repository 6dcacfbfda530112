/- Contracts: the rules of replacing, by the document. -/
import Derived.Test.YtbnhinpegbcbeaaGreatG39
set_option linter.unusedVariables false
set_option linter.unusedSimpArgs false
section
namespace Go.Proofs.YtbnhinpegbcbeaaGreat
open Go Go.K
attribute [local irreducible] regK codeK retK KOp.wp K.Spec u32 leS vnS str zero32 sha2 encT idT sizeT checkT grantB idN stepR workL reachE findI dropG addG aboveL belowL idsOf feeD sizeD confL evL marksI evI hitSo orTo sigT mayE feeOf szOf cmpR hitE freshAt spendI enoughL
theorem hit_false {l : List Ent} {t : Tx} (h : ∀ x ∈ l, (hitE t x && !mayE l x) = false) : (l.any fun x => hitE t x && !mayE l x) = false := List.any_eq_false.2 fun x hx => by rw [h x hx]; simp
theorem max0 (k : Nat) : max ((k : Nat) : Int) 0 = (k : Nat) := by omega
set_option maxHeartbeats 8000000 in
theorem rrules_spec {M : List Nat} {v : Value} {cs : List Value} {l : List Ent} {t : Tx} (fee : Int) (w : World) (hl : SlR entR M w v l) (ht : txR.rel M w cs t) (hs : t.Sm) (hn : l.length ≤ 1000) (hE : ∀ x ∈ l, EntOk x) (hf : ∀ x ∈ l, x.fee ≤ 1000000000000) (hnd : (l.map (·.id)).Nodup) (hid : ∀ x ∈ l, x.id.size = 32) :
    K.Spec Tryz.prog F.kedgeref16_Rules [v, .agg cs.toArray, .int .i64 fee] w fun r w' => r = .int .i64 (rulesL l t fee) ∧ Ext w w' := by
  have hsm : ∀ x ∈ l, x.tx.Sm := fun x hx => chk_sm (hE x hx).check
  have hqe : ∀ x ∈ l, x.tx.ins.length ≤ 1000 := fun x hx => (hsm x hx).ins
  have hcl := confL_len (l := l) (t := t)
  have hel := evL_len (l := l) (t := t)
  have ht0 := ht
  obtain ⟨iv, ov, rfl, h1, h2, h3⟩ := ht
  by_cases hc : checkT t = 0
  · cases hgf : goodB fee with
    | false =>
      have e : rulesL l t fee = 3 := by rw [rulesL, if_neg (by simpa using hc), if_pos hgf]
      rw [e]
      refine s_kedgeref16_Rules rfl ?_
      unfold k_kedgeref16_Rules
      refine ox ?_
      repeat' (first|(refine zF (d := some 24) (v := .bool false) (by show some (Value.bool (goodB fee)) = _; rw [hgf]) ?_)|(first|refine go1 ?_|refine zg (fun _ _=>?_)|refine zi (fun _ _=>?_))|(refine zD (d := some 4) rfl rfl (fun bp wp xp ap (rp : Row wp ⟨bp, 0, none⟩ (txCs t iv ov)) hp0=>?_))|(refine zC (d := some 19) rfl (rcheck_spec (M := M) (cs := txCs t iv ov) (t := t) _ (R.ext ht0 (by exact fx)) hs) ?_; rintro _ w3 ⟨rfl, x3⟩; rw [hc]))
      exact x_ret rfl ⟨rfl, by exact fx⟩
    | true =>
      have hR : rulesL l t fee = if (l.any fun x => hitE t x && !mayE l x) = true then 15 else if l.any (hitE t) = false then 0 else if (idsOf l (evL l t)).length > 100 then 15 else if freshP l t = true then 15 else if enoughL l t fee = true then 0 else 11 := by
        rw [rulesL, if_neg (by simpa using hc), if_neg (by rw [hgf]; simp)]
      rw [hR]
      have id0 : idsOf (l.take 0) ((evL l t).take 0) = [] := by rw [List.take_zero, List.take_zero]; unfold idsOf; rfl
      refine s_kedgeref16_Rules rfl ?_
      unfold k_kedgeref16_Rules
      refine ox ?_
      repeat' (first|(refine zF (d := some 24) (v := .bool true) (by show some (Value.bool (goodB fee)) = _; rw [hgf]) ?_)|(first|refine go1 ?_|refine zg (fun _ _=>?_)|refine zi (fun _ _=>?_))|(refine zL rfl (fun h => ?_) (fun h => ?_))|(refine zD (d := some 4) rfl rfl (fun bp wp xp ap (rp : Row wp ⟨bp, 0, none⟩ (txCs t iv ov)) hp0=>?_))|(refine zC (d := some 19) rfl (rcheck_spec (M := M) (cs := txCs t iv ov) (t := t) _ (R.ext ht0 (by exact fx)) hs) ?_; rintro _ w3 ⟨rfl, x3⟩; rw [hc])|(refine zC (d := some 29) rfl (rconf_spec (M := M) (l := l) (cs := txCs t iv ov) (t := t) _ (SlR.ext hl (by exact fx)) (R.ext ht0 (by exact fx)) hs.ins hn hqe) ?_; rintro vc w4 ⟨sc, x4, -⟩)|(refine zC (d := some 32) rfl (rev_spec (M := M) (l := l) (cs := txCs t iv ov) (t := t) _ (SlR.ext hl (by exact fx)) (R.ext ht0 (by exact fx)) hs.ins hn hsm) ?_; rintro vg w5 ⟨sg, x5, -⟩; have sc5 := SlE.ext x5 sc; have l5 : SlR entR M w5 v l := SlR.ext hl (by exact fx); have rp5 : Row w5 ⟨bp, 0, none⟩ (txCs t iv ov) := Row.ext (by exact fx) rp; have h15 : SlR inR M w5 iv t.ins := SlR.ext h1 (by exact fx); have y05 : Ext w w5 := (by exact fx); have t5 := R.ext ht0 y05; have x05 : Unit → Ext w w5 := (fun _ => y05); clear y05 xp x3 x4 x5 rp ap sc)|(refine zG (E := entR) (M := M) (l := l) rfl (SlR.ext l5 (by exact fx)) ?_)|(refine c_loopV (fun (i : Nat) w' => Ext w5 w' ∧ i ≤ l.length ∧ ∀ x ∈ l.take i, (hitE t x && !mayE l x) = false) (fun i => [(0, v), (2, .int .i64 fee), (4, .pointer (some ⟨bp, 0, none⟩)), (9, vc), (10, vg), (11, .bool ((l.take i).any (hitE t))), (12, .int .i64 ((idsOf (l.take i) ((evL l t).take i)).length : Nat)), (13, .int .i64 i)]) (fun i => l.length - i) 0 ⟨rfl, rfl, rfl, rfl, rfl, rfl, by rw [id0]; rfl, rfl, trivial⟩ ⟨Ext.refl _, by simp, by simp⟩ ?_; rintro i ρ w6 ⟨x6, hi, hk⟩))
      · have hil : i < l.length := by omega
        have hci : (confL l t)[i]'(by omega) = hitE t l[i] := by
          have e : (confL l t)[i]? = some (hitE t l[i]) := by unfold confL; rw [List.getElem?_map, List.getElem?_eq_getElem hil]; rfl
          exact (List.getElem?_eq_some_iff.1 e).2
        have htk : (l.take (i + 1)).any (hitE t) = ((l.take i).any (hitE t) || hitE t l[i]) := by rw [List.take_succ_eq_append_getElem hil, List.any_append]; simp
        have hev := evL_take (t := t) hil
        have hle := idsOf_length (l.take i) ((evL l t).take i)
        have htl : (l.take i).length = i := by rw [List.length_take]; omega
        have hk2 : (hitE t l[i] && !mayE l l[i]) = false → ∀ x ∈ l.take (i + 1), (hitE t x && !mayE l x) = false := fun h9 x hx => by
          rw [List.take_succ_eq_append_getElem hil] at hx
          rcases List.mem_append.1 hx with h8 | h8
          · exact hk x h8
          · simp only [List.mem_singleton] at h8; subst h8; exact h9
        obtain ⟨B, hB⟩ : ∃ B, hitE t l[i] = B := ⟨_, rfl⟩
        obtain ⟨C, hC⟩ : ∃ C, mayE l l[i] = C := ⟨_, rfl⟩
        obtain ⟨D, hD⟩ : ∃ D, (l.take i).any (hitE t) = D := ⟨_, rfl⟩
        obtain ⟨E, hEv⟩ : ∃ E, (evL l t)[i]'(by omega) = E := ⟨_, rfl⟩
        rw [hEv] at hev
        rw [hD, hB] at htk
        rw [hB, hC] at hk2
        rw [hD]
        generalize idsOf (l.take i) ((evL l t).take i) = P at *
        cases B <;> cases C <;> cases D <;> cases E
        all_goals repeat' (first|(first|refine go1 ?_|refine zg (fun _ _=>?_)|refine zi (fun _ _=>?_))|(refine zC (d := some 41) rfl (rmay_spec (M := M) (l := l) (n := i) _ (SlR.ext l5 (by exact fx)) hil hn hsm hnd) ?_; rintro _ w7 ⟨rfl, x7⟩; rw [hC])|(refine st_elemE (d := some 44) (E := boolE) rfl rfl (n := i) (l := confL l t) (SlE.ext (by exact fx) sc5) rfl (by omega) (fun ad r9 => ?_); have r9 : Row _ ad [Value.bool ((confL l t)[i]'(by omega))] := r9; rw [hci, hB] at r9)|(refine st_elemE (d := some 54) (E := boolE) rfl rfl (n := i) (l := confL l t) (SlE.ext (by exact fx) sc5) rfl (by omega) (fun ad r10 => ?_); have r10 : Row _ ad [Value.bool ((confL l t)[i]'(by omega))] := r10; rw [hci, hB] at r10)|(refine st_elemE (d := some 59) (E := boolE) rfl rfl (n := i) (l := evL l t) (SlE.ext (by exact fx) sg) rfl (by omega) (fun ad r11 => ?_); have r11 : Row _ ad [Value.bool ((evL l t)[i]'(by omega))] := r11; rw [hEv] at r11))
        all_goals first
          | (rw [if_pos (show (l.any fun x => hitE t x && !mayE l x) = true from List.any_eq_true.2 ⟨l[i], List.getElem_mem hil, by rw [hB, hC]; rfl⟩)]
             exact x_ret rfl ⟨rfl, Ext.trans (x05 ()) (by exact fx)⟩)
          | exact ⟨i + 1, ⟨rfl, rfl, rfl, rfl, rfl, congrArg Value.bool htk.symm, congrArg (fun n : Nat => Value.int .i64 (n : Nat)) (by rw [hev]; simp), rfl, trivial⟩, ⟨by exact fx, by omega, hk2 rfl⟩, by omega⟩
          | trace_state
      · have ei : i = l.length := by omega
        subst ei
        rw [List.take_length] at hk
        rw [List.take_length, List.take_of_length_le (show (evL l t).length ≤ l.length by omega), if_neg (by rw [hit_false hk]; simp)]
        cases hh : l.any (hitE t) with
        | false =>
          rw [if_pos rfl]
          repeat' (first|refine go1 ?_|refine zg (fun _ _=>?_)|refine zi (fun _ _=>?_))
          exact x_ret rfl ⟨rfl, Ext.trans (x05 ()) (by exact fx)⟩
        | true =>
          rw [if_neg (by simp)]
          by_cases hgt : (idsOf l (evL l t)).length > 100
          · rw [if_pos hgt]
            repeat' (first|(first|refine go1 ?_|refine zg (fun _ _=>?_)|refine zi (fun _ _=>?_))|(refine zL (p := (((idsOf l (evL l t)).length : Nat) : Int) > 100) rfl (fun _ => ?_) (fun h => absurd (by omega) h)))
            exact x_ret rfl ⟨rfl, Ext.trans (x05 ()) (by exact fx)⟩
          · rw [if_neg hgt, freshP_any]
            have l6 := l5.ext x6
            have sc6 := SlE.ext x6 sc5
            have sg6 := SlE.ext x6 sg
            have rp6 := rp5.ext x6
            have h16 := SlR.ext h15 x6
            have t6 := R.ext t5 x6
            have x06 : Unit → Ext w w6 := fun _ => (x05 ()).trans x6
            clear x6 sc5 sg rp5 h15 t5 l5 hl ht0 h1
            repeat' (first|(first|refine go1 ?_|refine zg (fun _ _=>?_)|refine zi (fun _ _=>?_))|(refine zL (p := (((idsOf l (evL l t)).length : Nat) : Int) > 100) rfl (fun h => absurd h (by omega)) (fun _ => ?_))|(refine zL rfl (fun h => ?_) (fun h => ?_))|(refine zG (d := some 70) (E := inR) (M := M) (l := t.ins) rfl (SlR.ext h16 (by exact fx)) ?_)|(refine c_loopV (fun (j : Nat) w' => Ext w6 w' ∧ j ≤ t.ins.length ∧ ∀ b ∈ t.ins.take j, freshAt l t b.p = false) (fun j => [(0, v), (2, .int .i64 fee), (4, .pointer (some ⟨bp, 0, none⟩)), (9, vc), (10, vg), (15, .int .i64 j)]) (fun j => t.ins.length - j) 0 ⟨rfl, rfl, rfl, rfl, rfl, rfl, trivial⟩ ⟨Ext.refl _, by simp, by simp⟩ ?_; rintro j ρ2 w7 ⟨x7, hj, hfr⟩))
            · have hjl : j < t.ins.length := by omega
              have hsi := hs.ins
              have hfn : freshAt l t t.ins[j].p = false → ∀ b ∈ t.ins.take (j + 1), freshAt l t b.p = false := fun h9 b hb => by
                rw [List.take_succ_eq_append_getElem hjl] at hb
                rcases List.mem_append.1 hb with h8 | h8
                · exact hfr b h8
                · simp only [List.mem_singleton] at h8; subst h8; exact h9
              have hfy : freshAt l t t.ins[j].p = true → (t.ins.any fun b => freshAt l t b.p) = true := fun h9 => List.any_eq_true.2 ⟨_, List.getElem_mem hjl, h9⟩
              by_cases hk0 : findI l t.ins[j].p.s < 0
              · have hno := freshAt_no (t := t) hk0
                repeat' (first|(refine st_fixV (d := some 84) (.bool true) rfl (congrArg (fun b => some (Value.bool b)) (decide_eq_true hk0)) ?_)|(first|refine go1 ?_|refine zg (fun _ _=>?_)|refine zi (fun _ _=>?_))|(refine st_elemR (d := some 78) (E := inR) (M := M) rfl rfl (n := j) (l := t.ins) (SlR.ext h16 (by exact fx)) rfl hjl (fun ad cs r8 he => ?_); obtain ⟨wv8, rfl, -⟩ := he)|(refine zC (d := some 82) rfl (find_spec (M := M) (l := l) t.ins[j].p.s _ (SlR.ext l6 (by exact fx)) (by omega)) ?_; rintro _ _ ⟨rfl, rfl⟩))
                exact ⟨j + 1, ⟨rfl, rfl, rfl, rfl, rfl, rfl, trivial⟩, ⟨by exact fx, by omega, hfn hno⟩, by omega⟩
              · obtain ⟨k, hkl, hkf, hki, hkh, hkg⟩ := find_at hk0
                have hfy2 := freshAt_yes (t := t) hnd hkl hki hkh hkg
                obtain ⟨E, hEv⟩ : ∃ E, (evL l t)[k]'(by omega) = E := ⟨_, rfl⟩
                rw [hEv] at hfy2
                by_cases hsp : spendI l t.ins[j].p < 0
                · rw [spend_no hsp, inB_none hid] at hfy2
                  by_cases hlt : t.ins[j].p.i < (l[k].tx.outs.length : Int)
                  · cases E
                    all_goals repeat' (first|(refine st_fixV (d := some 84) (.bool false) rfl (congrArg (fun b => some (Value.bool b)) (decide_eq_false (show ¬ ((k : Nat) : Int) < 0 by omega))) ?_)|(refine st_fixV (d := some 93) (.int .i64 t.ins[j].p.i) rfl (congrArg (fun n => some (Value.int .i64 n)) (wrap_i hp8)) ?_)|(refine zL (p := t.ins[j].p.i ≥ ((l[k].tx.outs.length : Nat) : Int)) rfl (fun h => absurd h (by omega)) (fun _ => ?_))|(refine st_fixV (d := some 118) (.bool true) rfl (congrArg (fun b => some (Value.bool b)) (decide_eq_true (by omega))) ?_)|(first|refine go1 ?_|refine zg (fun _ _=>?_)|refine zi (fun _ _=>?_))|(refine st_elemR (d := some 78) (E := inR) (M := M) rfl rfl (n := j) (l := t.ins) (SlR.ext h16 (by exact fx)) rfl hjl (fun ad cs r8 he => ?_); obtain ⟨wv8, rfl, -, hp8, -⟩ := he)|(refine zC (d := some 82) rfl (find_spec (M := M) (l := l) t.ins[j].p.s _ (SlR.ext l6 (by exact fx)) (by omega)) ?_; rintro _ _ ⟨rfl, rfl⟩; rw [hkf])|(apply zO; focus((conv=>lhs;whnf)<;>(first|with_reducible exact rfl|(refine congrArg Value.bool ?_;decide))))|(refine st_elemR (d := some 89) (E := inR) (M := M) rfl rfl (n := j) (l := t.ins) (SlR.ext h16 (by exact fx)) rfl hjl (fun ad cs r9 he => ?_); obtain ⟨wv9, rfl, -⟩ := he)|(refine st_max (d := some 96) rfl rfl ?_; rw [max0])|(refine st_elemR (d := some 97) (E := entR) (M := M) rfl rfl (n := k) (l := l) (SlR.ext l6 (by exact fx)) rfl hkl (fun ad cs r10 he => ?_); obtain ⟨iv10, ov10, rfl, i10, o10, -⟩ := he)|(refine zG (d := some 101) (E := outR) (M := M) rfl (SlR.ext o10 (by exact fx)) ?_)|(refine st_elemR (d := some 108) (E := inR) (M := M) rfl rfl (n := j) (l := t.ins) (SlR.ext h16 (by exact fx)) rfl hjl (fun ad cs r11 he => ?_); obtain ⟨wv11, rfl, -⟩ := he)|(refine zC (d := some 111) rfl (rspender_spec (M := M) (l := l) t.ins[j].p _ (SlR.ext l6 (by exact fx)) (by omega) (fun x hx => by have := hqe x hx; omega)) ?_; rintro _ w8 ⟨rfl, x8⟩)|(refine st_elemE (d := some 114) (E := boolE) rfl rfl (n := k) (l := evL l t) (SlE.ext (by exact fx) sg6) rfl (by omega) (fun ad r12 => ?_); have r12 : Row _ ad [Value.bool ((evL l t)[k]'(by omega))] := r12; rw [hEv] at r12)|(refine st_max (d := some 123) rfl rfl ?_; rw [max0]))
                    all_goals first
                      | (rw [if_pos (hfy (by rw [hfy2, decide_eq_true hlt]; rfl))]
                         exact x_ret rfl ⟨rfl, Ext.trans (x06 ()) (by exact fx)⟩)
                      | exact ⟨j + 1, ⟨rfl, rfl, rfl, rfl, rfl, rfl, trivial⟩, ⟨by exact fx, by omega, hfn (by rw [hfy2]; simp [hlt])⟩, by omega⟩
                      | trace_state
                  · cases E
                    all_goals repeat' (first|(refine st_fixV (d := some 84) (.bool false) rfl (congrArg (fun b => some (Value.bool b)) (decide_eq_false (show ¬ ((k : Nat) : Int) < 0 by omega))) ?_)|(refine st_fixV (d := some 93) (.int .i64 t.ins[j].p.i) rfl (congrArg (fun n => some (Value.int .i64 n)) (wrap_i hp8)) ?_)|(refine zL (p := t.ins[j].p.i ≥ ((l[k].tx.outs.length : Nat) : Int)) rfl (fun _ => ?_) (fun h => absurd (show t.ins[j].p.i ≥ ((l[k].tx.outs.length : Nat) : Int) by omega) h))|(refine st_fixV (d := some 118) (.bool true) rfl (congrArg (fun b => some (Value.bool b)) (decide_eq_true (by omega))) ?_)|(first|refine go1 ?_|refine zg (fun _ _=>?_)|refine zi (fun _ _=>?_))|(refine st_elemR (d := some 78) (E := inR) (M := M) rfl rfl (n := j) (l := t.ins) (SlR.ext h16 (by exact fx)) rfl hjl (fun ad cs r8 he => ?_); obtain ⟨wv8, rfl, -, hp8, -⟩ := he)|(refine zC (d := some 82) rfl (find_spec (M := M) (l := l) t.ins[j].p.s _ (SlR.ext l6 (by exact fx)) (by omega)) ?_; rintro _ _ ⟨rfl, rfl⟩; rw [hkf])|(apply zO; focus((conv=>lhs;whnf)<;>(first|with_reducible exact rfl|(refine congrArg Value.bool ?_;decide))))|(refine st_elemR (d := some 89) (E := inR) (M := M) rfl rfl (n := j) (l := t.ins) (SlR.ext h16 (by exact fx)) rfl hjl (fun ad cs r9 he => ?_); obtain ⟨wv9, rfl, -⟩ := he)|(refine st_max (d := some 96) rfl rfl ?_; rw [max0])|(refine st_elemR (d := some 97) (E := entR) (M := M) rfl rfl (n := k) (l := l) (SlR.ext l6 (by exact fx)) rfl hkl (fun ad cs r10 he => ?_); obtain ⟨iv10, ov10, rfl, i10, o10, -⟩ := he)|(refine zG (d := some 101) (E := outR) (M := M) rfl (SlR.ext o10 (by exact fx)) ?_)|(refine st_elemR (d := some 108) (E := inR) (M := M) rfl rfl (n := j) (l := t.ins) (SlR.ext h16 (by exact fx)) rfl hjl (fun ad cs r11 he => ?_); obtain ⟨wv11, rfl, -⟩ := he)|(refine zC (d := some 111) rfl (rspender_spec (M := M) (l := l) t.ins[j].p _ (SlR.ext l6 (by exact fx)) (by omega) (fun x hx => by have := hqe x hx; omega)) ?_; rintro _ w8 ⟨rfl, x8⟩)|(refine st_elemE (d := some 114) (E := boolE) rfl rfl (n := k) (l := evL l t) (SlE.ext (by exact fx) sg6) rfl (by omega) (fun ad r12 => ?_); have r12 : Row _ ad [Value.bool ((evL l t)[k]'(by omega))] := r12; rw [hEv] at r12)|(refine st_max (d := some 123) rfl rfl ?_; rw [max0]))
                    all_goals first
                      | (rw [if_pos (hfy (by rw [hfy2, decide_eq_true hlt]; rfl))]
                         exact x_ret rfl ⟨rfl, Ext.trans (x06 ()) (by exact fx)⟩)
                      | exact ⟨j + 1, ⟨rfl, rfl, rfl, rfl, rfl, rfl, trivial⟩, ⟨by exact fx, by omega, hfn (by rw [hfy2]; simp [hlt])⟩, by omega⟩
                      | trace_state
                · obtain ⟨s, hsl, hsf, hsi⟩ := spend_at hsp
                  rw [hsi, inB_mask hnd confL_len hsl] at hfy2
                  obtain ⟨F, hF⟩ : ∃ F, (confL l t)[s]'(by omega) = F := ⟨_, rfl⟩
                  rw [hF] at hfy2
                  by_cases hlt : t.ins[j].p.i < (l[k].tx.outs.length : Int)
                  · cases E <;> cases F
                    all_goals repeat' (first|(refine st_fixV (d := some 84) (.bool false) rfl (congrArg (fun b => some (Value.bool b)) (decide_eq_false (show ¬ ((k : Nat) : Int) < 0 by omega))) ?_)|(refine st_fixV (d := some 93) (.int .i64 t.ins[j].p.i) rfl (congrArg (fun n => some (Value.int .i64 n)) (wrap_i hp8)) ?_)|(refine zL (p := t.ins[j].p.i ≥ ((l[k].tx.outs.length : Nat) : Int)) rfl (fun h => absurd h (by omega)) (fun _ => ?_))|(refine st_fixV (d := some 118) (.bool false) rfl (congrArg (fun b => some (Value.bool b)) (decide_eq_false (by omega))) ?_)|(first|refine go1 ?_|refine zg (fun _ _=>?_)|refine zi (fun _ _=>?_))|(refine st_elemR (d := some 78) (E := inR) (M := M) rfl rfl (n := j) (l := t.ins) (SlR.ext h16 (by exact fx)) rfl hjl (fun ad cs r8 he => ?_); obtain ⟨wv8, rfl, -, hp8, -⟩ := he)|(refine zC (d := some 82) rfl (find_spec (M := M) (l := l) t.ins[j].p.s _ (SlR.ext l6 (by exact fx)) (by omega)) ?_; rintro _ _ ⟨rfl, rfl⟩; rw [hkf])|(apply zO; focus((conv=>lhs;whnf)<;>(first|with_reducible exact rfl|(refine congrArg Value.bool ?_;decide))))|(refine st_elemR (d := some 89) (E := inR) (M := M) rfl rfl (n := j) (l := t.ins) (SlR.ext h16 (by exact fx)) rfl hjl (fun ad cs r9 he => ?_); obtain ⟨wv9, rfl, -⟩ := he)|(refine st_max (d := some 96) rfl rfl ?_; rw [max0])|(refine st_elemR (d := some 97) (E := entR) (M := M) rfl rfl (n := k) (l := l) (SlR.ext l6 (by exact fx)) rfl hkl (fun ad cs r10 he => ?_); obtain ⟨iv10, ov10, rfl, i10, o10, -⟩ := he)|(refine zG (d := some 101) (E := outR) (M := M) rfl (SlR.ext o10 (by exact fx)) ?_)|(refine st_elemR (d := some 108) (E := inR) (M := M) rfl rfl (n := j) (l := t.ins) (SlR.ext h16 (by exact fx)) rfl hjl (fun ad cs r11 he => ?_); obtain ⟨wv11, rfl, -⟩ := he)|(refine zC (d := some 111) rfl (rspender_spec (M := M) (l := l) t.ins[j].p _ (SlR.ext l6 (by exact fx)) (by omega) (fun x hx => by have := hqe x hx; omega)) ?_; rintro _ w8 ⟨rfl, x8⟩; rw [hsf])|(refine st_elemE (d := some 114) (E := boolE) rfl rfl (n := k) (l := evL l t) (SlE.ext (by exact fx) sg6) rfl (by omega) (fun ad r12 => ?_); have r12 : Row _ ad [Value.bool ((evL l t)[k]'(by omega))] := r12; rw [hEv] at r12)|(refine st_max (d := some 123) rfl rfl ?_; rw [max0])|(refine st_elemE (d := some 124) (E := boolE) rfl rfl (n := s) (l := confL l t) (SlE.ext (by exact fx) sc6) rfl (by omega) (fun ad r13 => ?_); have r13 : Row _ ad [Value.bool ((confL l t)[s]'(by omega))] := r13; rw [hF] at r13)
                      )
                    all_goals first
                      | (rw [if_pos (hfy (by rw [hfy2, decide_eq_true hlt]; rfl))]
                         exact x_ret rfl ⟨rfl, Ext.trans (x06 ()) (by exact fx)⟩)
                      | exact ⟨j + 1, ⟨rfl, rfl, rfl, rfl, rfl, rfl, trivial⟩, ⟨by exact fx, by omega, hfn (by rw [hfy2]; simp [hlt])⟩, by omega⟩
                      | trace_state
                  · cases E <;> cases F
                    all_goals repeat' (first|(refine st_fixV (d := some 84) (.bool false) rfl (congrArg (fun b => some (Value.bool b)) (decide_eq_false (show ¬ ((k : Nat) : Int) < 0 by omega))) ?_)|(refine st_fixV (d := some 93) (.int .i64 t.ins[j].p.i) rfl (congrArg (fun n => some (Value.int .i64 n)) (wrap_i hp8)) ?_)|(refine zL (p := t.ins[j].p.i ≥ ((l[k].tx.outs.length : Nat) : Int)) rfl (fun _ => ?_) (fun h => absurd (show t.ins[j].p.i ≥ ((l[k].tx.outs.length : Nat) : Int) by omega) h))|(refine st_fixV (d := some 118) (.bool false) rfl (congrArg (fun b => some (Value.bool b)) (decide_eq_false (by omega))) ?_)|(first|refine go1 ?_|refine zg (fun _ _=>?_)|refine zi (fun _ _=>?_))|(refine st_elemR (d := some 78) (E := inR) (M := M) rfl rfl (n := j) (l := t.ins) (SlR.ext h16 (by exact fx)) rfl hjl (fun ad cs r8 he => ?_); obtain ⟨wv8, rfl, -, hp8, -⟩ := he)|(refine zC (d := some 82) rfl (find_spec (M := M) (l := l) t.ins[j].p.s _ (SlR.ext l6 (by exact fx)) (by omega)) ?_; rintro _ _ ⟨rfl, rfl⟩; rw [hkf])|(apply zO; focus((conv=>lhs;whnf)<;>(first|with_reducible exact rfl|(refine congrArg Value.bool ?_;decide))))|(refine st_elemR (d := some 89) (E := inR) (M := M) rfl rfl (n := j) (l := t.ins) (SlR.ext h16 (by exact fx)) rfl hjl (fun ad cs r9 he => ?_); obtain ⟨wv9, rfl, -⟩ := he)|(refine st_max (d := some 96) rfl rfl ?_; rw [max0])|(refine st_elemR (d := some 97) (E := entR) (M := M) rfl rfl (n := k) (l := l) (SlR.ext l6 (by exact fx)) rfl hkl (fun ad cs r10 he => ?_); obtain ⟨iv10, ov10, rfl, i10, o10, -⟩ := he)|(refine zG (d := some 101) (E := outR) (M := M) rfl (SlR.ext o10 (by exact fx)) ?_)|(refine st_elemR (d := some 108) (E := inR) (M := M) rfl rfl (n := j) (l := t.ins) (SlR.ext h16 (by exact fx)) rfl hjl (fun ad cs r11 he => ?_); obtain ⟨wv11, rfl, -⟩ := he)|(refine zC (d := some 111) rfl (rspender_spec (M := M) (l := l) t.ins[j].p _ (SlR.ext l6 (by exact fx)) (by omega) (fun x hx => by have := hqe x hx; omega)) ?_; rintro _ w8 ⟨rfl, x8⟩; rw [hsf])|(refine st_elemE (d := some 114) (E := boolE) rfl rfl (n := k) (l := evL l t) (SlE.ext (by exact fx) sg6) rfl (by omega) (fun ad r12 => ?_); have r12 : Row _ ad [Value.bool ((evL l t)[k]'(by omega))] := r12; rw [hEv] at r12)|(refine st_max (d := some 123) rfl rfl ?_; rw [max0])|(refine st_elemE (d := some 124) (E := boolE) rfl rfl (n := s) (l := confL l t) (SlE.ext (by exact fx) sc6) rfl (by omega) (fun ad r13 => ?_); have r13 : Row _ ad [Value.bool ((confL l t)[s]'(by omega))] := r13; rw [hF] at r13)
                      )
                    all_goals first
                      | (rw [if_pos (hfy (by rw [hfy2, decide_eq_true hlt]; rfl))]
                         exact x_ret rfl ⟨rfl, Ext.trans (x06 ()) (by exact fx)⟩)
                      | exact ⟨j + 1, ⟨rfl, rfl, rfl, rfl, rfl, rfl, trivial⟩, ⟨by exact fx, by omega, hfn (by rw [hfy2]; simp [hlt])⟩, by omega⟩
                      | trace_state
            · have ej : j = t.ins.length := by omega
              subst ej
              rw [List.take_length] at hfr
              rw [if_neg (by rw [List.any_eq_false.2 fun b hb => by rw [hfr b hb]; simp]; simp)]
              cases hen : enoughL l t fee
              all_goals repeat' (first|(first|refine go1 ?_|refine zg (fun _ _=>?_)|refine zi (fun _ _=>?_))|(refine zC (d := some 131) rfl (renough_spec (M := M) (cs := txCs t iv ov) (l := l) (t := t) fee _ (SlR.ext l6 (by exact fx)) (R.ext t6 (by exact fx)) hs hc hn hE hf) ?_; rintro _ w9 ⟨rfl, x9⟩; rw [hen]))
              all_goals exact x_ret rfl ⟨rfl, Ext.trans (x06 ()) (by exact fx)⟩
  · have e : rulesL l t fee = checkT t := by rw [rulesL, if_pos hc]
    rw [e]
    refine s_kedgeref16_Rules rfl ?_
    unfold k_kedgeref16_Rules
    refine ox ?_
    repeat' (first|(first|refine go1 ?_|refine zg (fun _ _=>?_)|refine zi (fun _ _=>?_))|(refine zD (d := some 4) rfl rfl (fun bp wp xp ap (rp : Row wp ⟨bp, 0, none⟩ (txCs t iv ov)) hp0=>?_))|(refine zC (d := some 19) rfl (rcheck_spec (M := M) (cs := txCs t iv ov) (t := t) _ (R.ext ht0 (by exact fx)) hs) ?_; rintro _ w3 ⟨rfl, x3⟩)|(refine zN (p := checkT t = 0) rfl (fun _ => ?_) (fun h => absurd h hc)))
    exact x_ret rfl ⟨rfl, by exact fx⟩
end Go.Proofs.YtbnhinpegbcbeaaGreat
end
