/- Contracts: transactions made of small numbers. Contracts: wh -/
import Derived.Test.YtgloknkcfchnlabGreatDoorZ24
import Derived.Test.YtgloknkcfchnlabGreatDoorZ25
set_option linter.unusedVariables false
set_option linter.unusedSimpArgs false
namespace Go.Proofs.YtgloknkcfchnlabGreatDoor
section
open Go Go.K
attribute [local irreducible] aG aK aU KOp.wp K.Spec u32 leS vnS str aN cV bH idT aV aJ aO
end
section
open Go Go.K
attribute [local irreducible] aG aK aU KOp.wp K.Spec u32 leS vnS str aN cV bH idT aV aJ aO
set_option maxHeartbeats 4000000 in
theorem aO6 {M N : List Nat} {cs ds : List Value} {t u : Tx} (w : World) (ht : txR.rel M w cs t) (hu : txR.rel N w ds u) (hs : t.Sm) (hs2 : u.Sm) : K.Spec Tryz.prog F.kedgeref05_Same [.agg cs.toArray, .agg ds.toArray] w fun r w' => r = .bool (decide (t = u)) ∧ Ext w w' := by
  obtain ⟨iv, ov, rfl, h1, h2, h3⟩ := ht
  obtain ⟨iv2, ov2, rfl, g1, g2, g3⟩ := hu
  have hq1 := hs.ins
  have hq2 := hs.outs
  by_cases a1 : t.ver = u.ver
  rotate_left
  · rw [dFa (show ¬ t = u from fun h => a1 (by subst h; rfl))]
    refine eM rfl ?_
    unfold dM
    refine oy ?_
    repeat' (first|refine aD (d := some 14) (.bool true) rfl (congrArg (fun b => some (Value.bool (!b))) (dFa a1)) ?_|refine go1 ?_|refine zg λ_ _=>?_|refine zi λ_ _=>?_|(apply zO; focus((conv=>lhs;whnf)<;>(first|with_reducible exact rfl|(refine congrArg Value.bool ?_;decide))))|refine zD (d := some 2) rfl rfl (fun bp wp xp ap (rp : Row wp ⟨bp, 0, none⟩ (aT t iv ov)) hp0=>?_)|refine zD (d := some 3) rfl rfl (fun bq wq xq aq (rq : Row wq ⟨bq, 0, none⟩ (aT u iv2 ov2)) hq0=>?_)|refine zG (d := some 25) (E := inR) (M := M) (l := t.ins) rfl (SlR.ext (w := w) h1 (by exact fx)) ?_|refine zG (d := some 28) (E := inR) (M := N) (l := u.ins) rfl (SlR.ext (w := w) g1 (by exact fx)) ?_|refine zG (d := some 34) (E := cZ) (M := M) (l := t.outs) rfl (SlR.ext (w := w) h2 (by exact fx)) ?_|refine zG (d := some 37) (E := cZ) (M := N) (l := u.outs) rfl (SlR.ext (w := w) g2 (by exact fx)) ?_)
    exact aB rfl ⟨rfl, by exact fx⟩
  by_cases a2 : t.lock = u.lock
  rotate_left
  · rw [dFa (show ¬ t = u from fun h => a2 (by subst h; rfl))]
    refine eM rfl ?_
    unfold dM
    refine oy ?_
    repeat' (first|refine aD (d := some 14) (.bool false) rfl (congrArg (fun b => some (Value.bool (!b))) (dTr a1)) ?_|refine aD (d := some 20) (.bool true) rfl (congrArg (fun b => some (Value.bool (!b))) (dFa a2)) ?_|refine go1 ?_|refine zg λ_ _=>?_|refine zi λ_ _=>?_|(apply zO; focus((conv=>lhs;whnf)<;>(first|with_reducible exact rfl|(refine congrArg Value.bool ?_;decide))))|refine zD (d := some 2) rfl rfl (fun bp wp xp ap (rp : Row wp ⟨bp, 0, none⟩ (aT t iv ov)) hp0=>?_)|refine zD (d := some 3) rfl rfl (fun bq wq xq aq (rq : Row wq ⟨bq, 0, none⟩ (aT u iv2 ov2)) hq0=>?_)|refine zG (d := some 25) (E := inR) (M := M) (l := t.ins) rfl (SlR.ext (w := w) h1 (by exact fx)) ?_|refine zG (d := some 28) (E := inR) (M := N) (l := u.ins) rfl (SlR.ext (w := w) g1 (by exact fx)) ?_|refine zG (d := some 34) (E := cZ) (M := M) (l := t.outs) rfl (SlR.ext (w := w) h2 (by exact fx)) ?_|refine zG (d := some 37) (E := cZ) (M := N) (l := u.outs) rfl (SlR.ext (w := w) g2 (by exact fx)) ?_)
    exact aB rfl ⟨rfl, by exact fx⟩
  by_cases a3 : t.ins.length = u.ins.length
  rotate_left
  · rw [dFa (show ¬ t = u from fun h => a3 (by subst h; rfl))]
    refine eM rfl ?_
    unfold dM
    refine oy ?_
    repeat' (first|refine aD (d := some 14) (.bool false) rfl (congrArg (fun b => some (Value.bool (!b))) (dTr a1)) ?_|refine aD (d := some 20) (.bool false) rfl (congrArg (fun b => some (Value.bool (!b))) (dTr a2)) ?_|refine aD (d := some 29) (.bool true) rfl (congrArg (fun b => some (Value.bool (!b))) (dFa (by omega))) ?_|refine go1 ?_|refine zg λ_ _=>?_|refine zi λ_ _=>?_|(apply zO; focus((conv=>lhs;whnf)<;>(first|with_reducible exact rfl|(refine congrArg Value.bool ?_;decide))))|refine zD (d := some 2) rfl rfl (fun bp wp xp ap (rp : Row wp ⟨bp, 0, none⟩ (aT t iv ov)) hp0=>?_)|refine zD (d := some 3) rfl rfl (fun bq wq xq aq (rq : Row wq ⟨bq, 0, none⟩ (aT u iv2 ov2)) hq0=>?_)|refine zG (d := some 25) (E := inR) (M := M) (l := t.ins) rfl (SlR.ext (w := w) h1 (by exact fx)) ?_|refine zG (d := some 28) (E := inR) (M := N) (l := u.ins) rfl (SlR.ext (w := w) g1 (by exact fx)) ?_|refine zG (d := some 34) (E := cZ) (M := M) (l := t.outs) rfl (SlR.ext (w := w) h2 (by exact fx)) ?_|refine zG (d := some 37) (E := cZ) (M := N) (l := u.outs) rfl (SlR.ext (w := w) g2 (by exact fx)) ?_)
    exact aB rfl ⟨rfl, by exact fx⟩
  by_cases a4 : t.outs.length = u.outs.length
  rotate_left
  · rw [dFa (show ¬ t = u from fun h => a4 (by subst h; rfl))]
    refine eM rfl ?_
    unfold dM
    refine oy ?_
    repeat' (first|refine aD (d := some 14) (.bool false) rfl (congrArg (fun b => some (Value.bool (!b))) (dTr a1)) ?_|refine aD (d := some 20) (.bool false) rfl (congrArg (fun b => some (Value.bool (!b))) (dTr a2)) ?_|refine aD (d := some 29) (.bool false) rfl (congrArg (fun b => some (Value.bool (!b))) (dTr (by omega))) ?_|refine aD (d := some 38) (.bool true) rfl (congrArg (fun b => some (Value.bool (!b))) (dFa (by omega))) ?_|refine go1 ?_|refine zg λ_ _=>?_|refine zi λ_ _=>?_|(apply zO; focus((conv=>lhs;whnf)<;>(first|with_reducible exact rfl|(refine congrArg Value.bool ?_;decide))))|refine zD (d := some 2) rfl rfl (fun bp wp xp ap (rp : Row wp ⟨bp, 0, none⟩ (aT t iv ov)) hp0=>?_)|refine zD (d := some 3) rfl rfl (fun bq wq xq aq (rq : Row wq ⟨bq, 0, none⟩ (aT u iv2 ov2)) hq0=>?_)|refine zG (d := some 25) (E := inR) (M := M) (l := t.ins) rfl (SlR.ext (w := w) h1 (by exact fx)) ?_|refine zG (d := some 28) (E := inR) (M := N) (l := u.ins) rfl (SlR.ext (w := w) g1 (by exact fx)) ?_|refine zG (d := some 34) (E := cZ) (M := M) (l := t.outs) rfl (SlR.ext (w := w) h2 (by exact fx)) ?_|refine zG (d := some 37) (E := cZ) (M := N) (l := u.outs) rfl (SlR.ext (w := w) g2 (by exact fx)) ?_)
    exact aB rfl ⟨rfl, by exact fx⟩
  refine eM rfl ?_
  unfold dM
  refine oy ?_
  repeat' (first|refine aD (d := some 14) (.bool false) rfl (congrArg (fun b => some (Value.bool (!b))) (dTr a1)) ?_|refine aD (d := some 20) (.bool false) rfl (congrArg (fun b => some (Value.bool (!b))) (dTr a2)) ?_|refine aD (d := some 29) (.bool false) rfl (congrArg (fun b => some (Value.bool (!b))) (dTr (by omega))) ?_|refine aD (d := some 38) (.bool false) rfl (congrArg (fun b => some (Value.bool (!b))) (dTr (by omega))) ?_|refine go1 ?_|refine zg λ_ _=>?_|refine zi λ_ _=>?_|(apply zO; focus((conv=>lhs;whnf)<;>(first|with_reducible exact rfl|(refine congrArg Value.bool ?_;decide))))|refine zD (d := some 2) rfl rfl (fun bp wp xp ap (rp : Row wp ⟨bp, 0, none⟩ (aT t iv ov)) hp0=>?_)|refine zD (d := some 3) rfl rfl (fun bq wq xq aq (rq : Row wq ⟨bq, 0, none⟩ (aT u iv2 ov2)) hq0=>?_)|refine zG (d := some 25) (E := inR) (M := M) (l := t.ins) rfl (SlR.ext (w := w) h1 (by exact fx)) ?_|refine zG (d := some 28) (E := inR) (M := N) (l := u.ins) rfl (SlR.ext (w := w) g1 (by exact fx)) ?_|refine zG (d := some 34) (E := cZ) (M := M) (l := t.outs) rfl (SlR.ext (w := w) h2 (by exact fx)) ?_|refine zG (d := some 37) (E := cZ) (M := N) (l := u.outs) rfl (SlR.ext (w := w) g2 (by exact fx)) ?_|refine zG (d := some 43) (E := inR) (M := M) (l := t.ins) rfl (SlR.ext (w := w) h1 (by exact fx)) ?_|refine zL rfl (fun h => ?_) (fun h => ?_)|(refine aL (fun (i : Nat) w' => Ext wq w' ∧ i ≤ t.ins.length ∧ t.ins.take i = u.ins.take i) (fun i => [(2, .pointer (some ⟨bp, 0, none⟩)), (3, .pointer (some ⟨bq, 0, none⟩)), (5, .int .i64 i)]) (fun i => t.ins.length - i) 0 ⟨rfl, rfl, rfl, trivial⟩ ⟨Ext.refl _, by omega, rfl⟩ ?_; rintro i ρ w1 ⟨x1, hi, hti⟩))
  · have hil : i < t.ins.length := by omega
    have hiu : i < u.ins.length := by omega
    have hwl := hs.wit _ (gMe hil)
    have hwu := hs2.wit _ (gMe hiu)
    have hfal : ¬ t.ins[i] = u.ins[i] → decide (t = u) = false := fun hx => dFa (fun h => hx (by subst h; rfl))
    by_cases c1 : t.ins[i].p.s = u.ins[i].p.s
    rotate_left
    · rw [hfal (fun h => c1 (by rw [h]))]
      repeat' (first|refine aD (d := some 63) (.bool true) rfl (congrArg (fun b => some (Value.bool (!b))) (dFa c1)) ?_|refine go1 ?_|refine zg λ_ _=>?_|refine zi λ_ _=>?_|(apply zO; focus((conv=>lhs;whnf)<;>(first|with_reducible exact rfl|(refine congrArg Value.bool ?_;decide))))|(refine aM (d := some 50) (E := inR) (M := M) rfl rfl (n := i) (l := t.ins) (SlR.ext (w := w) h1 (by exact fx)) rfl hil (fun ad cs r4 he => ?_); obtain ⟨wv, rfl, hw, _⟩ := he; obtain ⟨bs1, cp1, rfl⟩ := hw.form)|(refine aM (d := some 55) (E := inR) (M := N) rfl rfl (n := i) (l := u.ins) (SlR.ext (w := w) g1 (by exact fx)) rfl hiu (fun ad cs r4 he => ?_); obtain ⟨wv2, rfl, hw2, _⟩ := he; obtain ⟨bs2, cp2, rfl⟩ := hw2.form)|refine zE (d' := 6) (fun _=>rfl) rfl rfl rfl (fun b6 w6 x6 a6 (r6 : Row w6 ⟨b6, 0, none⟩ (fX t.ins[i] (.slice bs1 t.ins[i].wit.length cp1))) hb6=>?_)|refine zE (d' := 7) (fun _=>rfl) rfl rfl rfl (fun b7 w7 x7 a7 (r7 : Row w7 ⟨b7, 0, none⟩ (fX u.ins[i] (.slice bs2 u.ins[i].wit.length cp2))) hb7=>?_))
      exact aB rfl ⟨rfl, by exact fx⟩
    by_cases c2 : t.ins[i].p.i = u.ins[i].p.i
    rotate_left
    · rw [hfal (fun h => c2 (by rw [h]))]
      repeat' (first|refine aD (d := some 63) (.bool false) rfl (congrArg (fun b => some (Value.bool (!b))) (dTr c1)) ?_|refine aD (d := some 71) (.bool true) rfl (congrArg (fun b => some (Value.bool (!b))) (dFa c2)) ?_|refine go1 ?_|refine zg λ_ _=>?_|refine zi λ_ _=>?_|(apply zO; focus((conv=>lhs;whnf)<;>(first|with_reducible exact rfl|(refine congrArg Value.bool ?_;decide))))|(refine aM (d := some 50) (E := inR) (M := M) rfl rfl (n := i) (l := t.ins) (SlR.ext (w := w) h1 (by exact fx)) rfl hil (fun ad cs r4 he => ?_); obtain ⟨wv, rfl, hw, _⟩ := he; obtain ⟨bs1, cp1, rfl⟩ := hw.form)|(refine aM (d := some 55) (E := inR) (M := N) rfl rfl (n := i) (l := u.ins) (SlR.ext (w := w) g1 (by exact fx)) rfl hiu (fun ad cs r4 he => ?_); obtain ⟨wv2, rfl, hw2, _⟩ := he; obtain ⟨bs2, cp2, rfl⟩ := hw2.form)|refine zE (d' := 6) (fun _=>rfl) rfl rfl rfl (fun b6 w6 x6 a6 (r6 : Row w6 ⟨b6, 0, none⟩ (fX t.ins[i] (.slice bs1 t.ins[i].wit.length cp1))) hb6=>?_)|refine zE (d' := 7) (fun _=>rfl) rfl rfl rfl (fun b7 w7 x7 a7 (r7 : Row w7 ⟨b7, 0, none⟩ (fX u.ins[i] (.slice bs2 u.ins[i].wit.length cp2))) hb7=>?_))
      exact aB rfl ⟨rfl, by exact fx⟩
    by_cases c3 : t.ins[i].q = u.ins[i].q
    rotate_left
    · rw [hfal (fun h => c3 (by rw [h]))]
      repeat' (first|refine aD (d := some 63) (.bool false) rfl (congrArg (fun b => some (Value.bool (!b))) (dTr c1)) ?_|refine aD (d := some 71) (.bool false) rfl (congrArg (fun b => some (Value.bool (!b))) (dTr c2)) ?_|refine aD (d := some 78) (.bool true) rfl (congrArg (fun b => some (Value.bool (!b))) (dFa c3)) ?_|refine go1 ?_|refine zg λ_ _=>?_|refine zi λ_ _=>?_|(apply zO; focus((conv=>lhs;whnf)<;>(first|with_reducible exact rfl|(refine congrArg Value.bool ?_;decide))))|(refine aM (d := some 50) (E := inR) (M := M) rfl rfl (n := i) (l := t.ins) (SlR.ext (w := w) h1 (by exact fx)) rfl hil (fun ad cs r4 he => ?_); obtain ⟨wv, rfl, hw, _⟩ := he; obtain ⟨bs1, cp1, rfl⟩ := hw.form)|(refine aM (d := some 55) (E := inR) (M := N) rfl rfl (n := i) (l := u.ins) (SlR.ext (w := w) g1 (by exact fx)) rfl hiu (fun ad cs r4 he => ?_); obtain ⟨wv2, rfl, hw2, _⟩ := he; obtain ⟨bs2, cp2, rfl⟩ := hw2.form)|refine zE (d' := 6) (fun _=>rfl) rfl rfl rfl (fun b6 w6 x6 a6 (r6 : Row w6 ⟨b6, 0, none⟩ (fX t.ins[i] (.slice bs1 t.ins[i].wit.length cp1))) hb6=>?_)|refine zE (d' := 7) (fun _=>rfl) rfl rfl rfl (fun b7 w7 x7 a7 (r7 : Row w7 ⟨b7, 0, none⟩ (fX u.ins[i] (.slice bs2 u.ins[i].wit.length cp2))) hb7=>?_))
      exact aB rfl ⟨rfl, by exact fx⟩
    by_cases c4 : t.ins[i].wit.length = u.ins[i].wit.length
    rotate_left
    · rw [hfal (fun h => c4 (by rw [h]))]
      repeat' (first|refine aD (d := some 63) (.bool false) rfl (congrArg (fun b => some (Value.bool (!b))) (dTr c1)) ?_|refine aD (d := some 71) (.bool false) rfl (congrArg (fun b => some (Value.bool (!b))) (dTr c2)) ?_|refine aD (d := some 78) (.bool false) rfl (congrArg (fun b => some (Value.bool (!b))) (dTr c3)) ?_|refine aD (d := some 87) (.bool true) rfl (congrArg (fun b => some (Value.bool (!b))) (dFa (by omega))) ?_|refine go1 ?_|refine zg λ_ _=>?_|refine zi λ_ _=>?_|(apply zO; focus((conv=>lhs;whnf)<;>(first|with_reducible exact rfl|(refine congrArg Value.bool ?_;decide))))|(refine aM (d := some 50) (E := inR) (M := M) rfl rfl (n := i) (l := t.ins) (SlR.ext (w := w) h1 (by exact fx)) rfl hil (fun ad cs r4 he => ?_); obtain ⟨wv, rfl, hw, _⟩ := he; obtain ⟨bs1, cp1, rfl⟩ := hw.form)|(refine aM (d := some 55) (E := inR) (M := N) rfl rfl (n := i) (l := u.ins) (SlR.ext (w := w) g1 (by exact fx)) rfl hiu (fun ad cs r4 he => ?_); obtain ⟨wv2, rfl, hw2, _⟩ := he; obtain ⟨bs2, cp2, rfl⟩ := hw2.form)|refine zE (d' := 6) (fun _=>rfl) rfl rfl rfl (fun b6 w6 x6 a6 (r6 : Row w6 ⟨b6, 0, none⟩ (fX t.ins[i] (.slice bs1 t.ins[i].wit.length cp1))) hb6=>?_)|refine zE (d' := 7) (fun _=>rfl) rfl rfl rfl (fun b7 w7 x7 a7 (r7 : Row w7 ⟨b7, 0, none⟩ (fX u.ins[i] (.slice bs2 u.ins[i].wit.length cp2))) hb7=>?_))
      exact aB rfl ⟨rfl, by exact fx⟩
    repeat' (first|refine aD (d := some 63) (.bool false) rfl (congrArg (fun b => some (Value.bool (!b))) (dTr c1)) ?_|refine aD (d := some 71) (.bool false) rfl (congrArg (fun b => some (Value.bool (!b))) (dTr c2)) ?_|refine aD (d := some 78) (.bool false) rfl (congrArg (fun b => some (Value.bool (!b))) (dTr c3)) ?_|refine aD (d := some 87) (.bool false) rfl (congrArg (fun b => some (Value.bool (!b))) (dTr (by omega))) ?_|refine go1 ?_|refine zg λ_ _=>?_|refine zi λ_ _=>?_|(apply zO; focus((conv=>lhs;whnf)<;>(first|with_reducible exact rfl|(refine congrArg Value.bool ?_;decide))))|(refine aM (d := some 50) (E := inR) (M := M) rfl rfl (n := i) (l := t.ins) (SlR.ext (w := w) h1 (by exact fx)) rfl hil (fun ad cs r4 he => ?_); obtain ⟨wv, rfl, hw, _⟩ := he; obtain ⟨bs1, cp1, rfl⟩ := hw.form)|(refine aM (d := some 55) (E := inR) (M := N) rfl rfl (n := i) (l := u.ins) (SlR.ext (w := w) g1 (by exact fx)) rfl hiu (fun ad cs r4 he => ?_); obtain ⟨wv2, rfl, hw2, _⟩ := he; obtain ⟨bs2, cp2, rfl⟩ := hw2.form)|refine zE (d' := 6) (fun _=>rfl) rfl rfl rfl (fun b6 w6 x6 a6 (r6 : Row w6 ⟨b6, 0, none⟩ (fX t.ins[i] (.slice bs1 t.ins[i].wit.length cp1))) hb6=>?_)|refine zE (d' := 7) (fun _=>rfl) rfl rfl rfl (fun b7 w7 x7 a7 (r7 : Row w7 ⟨b7, 0, none⟩ (fX u.ins[i] (.slice bs2 u.ins[i].wit.length cp2))) hb7=>?_)|refine zG (d := some 92) (E := qS) (l := t.ins[i].wit) rfl (by exact fx) ?_|refine zL rfl (fun h => ?_) (fun h => ?_)|(refine aL (fun (j : Nat) w' => Ext w7 w' ∧ j ≤ t.ins[i].wit.length ∧ t.ins[i].wit.take j = u.ins[i].wit.take j) (fun j => [(2, .pointer (some ⟨bp, 0, none⟩)), (3, .pointer (some ⟨bq, 0, none⟩)), (5, .int .i64 i), (6, .pointer (some ⟨b6, 0, none⟩)), (7, .pointer (some ⟨b7, 0, none⟩)), (8, .int .i64 j)]) (fun j => t.ins[i].wit.length - j) 0 ⟨rfl, rfl, rfl, rfl, rfl, rfl, trivial⟩ ⟨Ext.refl _, by omega, rfl⟩ ?_; rintro j ρ8 w8 ⟨x8, hj, htj⟩))
    · have hjl : j < t.ins[i].wit.length := by omega
      have hju : j < u.ins[i].wit.length := by omega
      repeat' (first|refine go1 ?_|refine zg λ_ _=>?_|refine zi λ_ _=>?_|(refine aM (d := some 99) (E := qS) rfl rfl (n := j) (l := t.ins[i].wit) (SlR.ext hw (by exact fx)) rfl hjl (fun ad cs r4 he => ?_); subst he)|(refine aM (d := some 104) (E := qS) rfl rfl (n := j) (l := u.ins[i].wit) (SlR.ext hw2 (by exact fx)) rfl hju (fun ad cs r4 he => ?_); subst he)|refine zN (p := t.ins[i].wit[j] = u.ins[i].wit[j]) rfl (fun h => ?_) (fun h => ?_))
      · rw [hfal (fun h9 => h (by have h8 : t.ins[i].wit = u.ins[i].wit := by rw [h9]
                                  have h7 : t.ins[i].wit[j]? = u.ins[i].wit[j]? := by rw [h8]
                                  rw [List.getElem?_eq_getElem hjl, List.getElem?_eq_getElem hju] at h7
                                  injection h7))]
        exact aB rfl ⟨rfl, by exact fx⟩
      · exact ⟨j + 1, ⟨rfl, rfl, rfl, rfl, rfl, rfl, trivial⟩, ⟨by exact fx, by omega, aD2 htj hjl hju h⟩, by omega⟩
    · have hwe : t.ins[i].wit = u.ins[i].wit := aEs htj (by omega) (by omega)
      exact ⟨i + 1, ⟨rfl, rfl, rfl, trivial⟩, ⟨by exact fx, by omega, aD2 hti hil hiu (aXc c1 c2 c3 hwe)⟩, by omega⟩
  · have hie : t.ins = u.ins := aEs hti (by omega) (by omega)
    repeat' (first|refine go1 ?_|refine zg λ_ _=>?_|refine zi λ_ _=>?_|refine zG (d := some 110) (E := cZ) (M := M) (l := t.outs) rfl (SlR.ext (w := w) h2 (by exact fx)) ?_|refine zL rfl (fun h => ?_) (fun h => ?_)|(refine aL (fun (k : Nat) w' => Ext wq w' ∧ k ≤ t.outs.length ∧ t.outs.take k = u.outs.take k) (fun k => [(2, .pointer (some ⟨bp, 0, none⟩)), (3, .pointer (some ⟨bq, 0, none⟩)), (9, .int .i64 k)]) (fun k => t.outs.length - k) 0 ⟨rfl, rfl, rfl, trivial⟩ ⟨by exact fx, by omega, rfl⟩ ?_; rintro k ρ9 w9 ⟨x9, hk, htk⟩))
    · have hkl : k < t.outs.length := by omega
      have hku : k < u.outs.length := by omega
      have hfo : ¬ t.outs[k] = u.outs[k] → decide (t = u) = false := fun hx => dFa (fun h => hx (by subst h; rfl))
      by_cases e1 : t.outs[k].v = u.outs[k].v
      rotate_left
      · rw [hfo (fun h => e1 (by rw [h]))]
        repeat' (first|refine aD (d := some 126) (.bool true) rfl (congrArg (fun b => some (Value.bool (!b))) (dFa e1)) ?_|refine go1 ?_|refine zg λ_ _=>?_|refine zi λ_ _=>?_|(apply zO; focus((conv=>lhs;whnf)<;>(first|with_reducible exact rfl|(refine congrArg Value.bool ?_;decide))))|(refine aM (d := some 117) (E := cZ) (M := M) rfl rfl (n := k) (l := t.outs) (SlR.ext (w := w) h2 (by exact fx)) rfl hkl (fun ad cs r4 he => ?_); obtain ⟨rfl, _⟩ := he)|(refine aM (d := some 123) (E := cZ) (M := N) rfl rfl (n := k) (l := u.outs) (SlR.ext (w := w) g2 (by exact fx)) rfl hku (fun ad cs r4 he => ?_); obtain ⟨rfl, _⟩ := he)|(refine aM (d := some 131) (E := cZ) (M := M) rfl rfl (n := k) (l := t.outs) (SlR.ext (w := w) h2 (by exact fx)) rfl hkl (fun ad cs r4 he => ?_); obtain ⟨rfl, _⟩ := he)|(refine aM (d := some 137) (E := cZ) (M := N) rfl rfl (n := k) (l := u.outs) (SlR.ext (w := w) g2 (by exact fx)) rfl hku (fun ad cs r4 he => ?_); obtain ⟨rfl, _⟩ := he))
        exact aB rfl ⟨rfl, by exact fx⟩
      by_cases e2 : t.outs[k].s = u.outs[k].s
      rotate_left
      · rw [hfo (fun h => e2 (by rw [h]))]
        repeat' (first|refine aD (d := some 126) (.bool false) rfl (congrArg (fun b => some (Value.bool (!b))) (dTr e1)) ?_|refine aD (d := some 140) (.bool true) rfl (congrArg (fun b => some (Value.bool (!b))) (dFa e2)) ?_|refine go1 ?_|refine zg λ_ _=>?_|refine zi λ_ _=>?_|(apply zO; focus((conv=>lhs;whnf)<;>(first|with_reducible exact rfl|(refine congrArg Value.bool ?_;decide))))|(refine aM (d := some 117) (E := cZ) (M := M) rfl rfl (n := k) (l := t.outs) (SlR.ext (w := w) h2 (by exact fx)) rfl hkl (fun ad cs r4 he => ?_); obtain ⟨rfl, _⟩ := he)|(refine aM (d := some 123) (E := cZ) (M := N) rfl rfl (n := k) (l := u.outs) (SlR.ext (w := w) g2 (by exact fx)) rfl hku (fun ad cs r4 he => ?_); obtain ⟨rfl, _⟩ := he)|(refine aM (d := some 131) (E := cZ) (M := M) rfl rfl (n := k) (l := t.outs) (SlR.ext (w := w) h2 (by exact fx)) rfl hkl (fun ad cs r4 he => ?_); obtain ⟨rfl, _⟩ := he)|(refine aM (d := some 137) (E := cZ) (M := N) rfl rfl (n := k) (l := u.outs) (SlR.ext (w := w) g2 (by exact fx)) rfl hku (fun ad cs r4 he => ?_); obtain ⟨rfl, _⟩ := he))
        exact aB rfl ⟨rfl, by exact fx⟩
      repeat' (first|refine aD (d := some 126) (.bool false) rfl (congrArg (fun b => some (Value.bool (!b))) (dTr e1)) ?_|refine aD (d := some 140) (.bool false) rfl (congrArg (fun b => some (Value.bool (!b))) (dTr e2)) ?_|refine go1 ?_|refine zg λ_ _=>?_|refine zi λ_ _=>?_|(apply zO; focus((conv=>lhs;whnf)<;>(first|with_reducible exact rfl|(refine congrArg Value.bool ?_;decide))))|(refine aM (d := some 117) (E := cZ) (M := M) rfl rfl (n := k) (l := t.outs) (SlR.ext (w := w) h2 (by exact fx)) rfl hkl (fun ad cs r4 he => ?_); obtain ⟨rfl, _⟩ := he)|(refine aM (d := some 123) (E := cZ) (M := N) rfl rfl (n := k) (l := u.outs) (SlR.ext (w := w) g2 (by exact fx)) rfl hku (fun ad cs r4 he => ?_); obtain ⟨rfl, _⟩ := he)|(refine aM (d := some 131) (E := cZ) (M := M) rfl rfl (n := k) (l := t.outs) (SlR.ext (w := w) h2 (by exact fx)) rfl hkl (fun ad cs r4 he => ?_); obtain ⟨rfl, _⟩ := he)|(refine aM (d := some 137) (E := cZ) (M := N) rfl rfl (n := k) (l := u.outs) (SlR.ext (w := w) g2 (by exact fx)) rfl hku (fun ad cs r4 he => ?_); obtain ⟨rfl, _⟩ := he))
      exact ⟨k + 1, ⟨rfl, rfl, rfl, trivial⟩, ⟨by exact fx, by omega, aD2 htk hkl hku (aT5 e1 e2)⟩, by omega⟩
    · have hoe : t.outs = u.outs := aEs htk (by omega) (by omega)
      rw [dTr (aY4 a1 a2 hie hoe)]
      repeat' (first|refine go1 ?_|refine zg λ_ _=>?_|refine zi λ_ _=>?_)
      exact aB rfl ⟨rfl, by exact fx⟩
end
section
open Go Go.K
attribute [local irreducible] aG aK aU KOp.wp K.Spec u32 leS vnS str aN cV bH idT aV aJ aO
def s9:ByteArray:=⟨#[1,1,0,0,0,0,0,0,0]⟩
end
end Go.Proofs.YtgloknkcfchnlabGreatDoor
