/- Contracts: whether two transactions are alike. The walk of ReplaceComes. -/
import Derived.Test.YteggaepppahefaaGreatG43
set_option linter.unusedVariables false
set_option linter.unusedSimpArgs false
section
namespace Go.Proofs.YteggaepppahefaaGreat
open Go Go.K
attribute [local irreducible] regK codeK retK KOp.wp K.Spec u32 leS vnS str zero32 sha2 encT idT sizeT checkT grantB
set_option maxHeartbeats 4000000 in
theorem same2_spec {M N : List Nat} {cs ds : List Value} {t u : Tx} (w : World) (ht : txR.rel M w cs t) (hu : txR.rel N w ds u) (hs : t.Sm) (hs2 : u.Sm) : K.Spec Tryz.prog F.kedgeref05_Same [.agg cs.toArray, .agg ds.toArray] w fun r w' => r = .bool (decide (t = u)) ∧ Ext w w' := by
  obtain ⟨iv, ov, rfl, h1, h2, h3⟩ := ht
  obtain ⟨iv2, ov2, rfl, g1, g2, g3⟩ := hu
  have hq1 := hs.ins
  have hq2 := hs.outs
  by_cases a1 : t.ver = u.ver
  rotate_left
  · rw [decide_eq_false (show ¬ t = u from fun h => a1 (by subst h; rfl))]
    refine s_kedgeref05_Same rfl ?_
    unfold k_kedgeref05_Same
    refine ox ?_
    repeat' (first|(refine st_fixV (d := some 14) (.bool true) rfl (congrArg (fun b => some (Value.bool (!b))) (decide_eq_false a1)) ?_)|(first|refine go1 ?_|refine zg (fun _ _=>?_)|refine zi (fun _ _=>?_))|(apply zO; focus((conv=>lhs;whnf)<;>(first|with_reducible exact rfl|(refine congrArg Value.bool ?_;decide))))|(refine zD (d := some 2) rfl rfl (fun bp wp xp ap (rp : Row wp ⟨bp, 0, none⟩ (txCs t iv ov)) hp0=>?_))|(refine zD (d := some 3) rfl rfl (fun bq wq xq aq (rq : Row wq ⟨bq, 0, none⟩ (txCs u iv2 ov2)) hq0=>?_))|(refine zG (d := some 25) (E := inR) (M := M) (l := t.ins) rfl (SlR.ext (w := w) h1 (by exact fx)) ?_)|(refine zG (d := some 28) (E := inR) (M := N) (l := u.ins) rfl (SlR.ext (w := w) g1 (by exact fx)) ?_)|(refine zG (d := some 34) (E := outR) (M := M) (l := t.outs) rfl (SlR.ext (w := w) h2 (by exact fx)) ?_)|(refine zG (d := some 37) (E := outR) (M := N) (l := u.outs) rfl (SlR.ext (w := w) g2 (by exact fx)) ?_))
    exact x_ret rfl ⟨rfl, by exact fx⟩
  by_cases a2 : t.lock = u.lock
  rotate_left
  · rw [decide_eq_false (show ¬ t = u from fun h => a2 (by subst h; rfl))]
    refine s_kedgeref05_Same rfl ?_
    unfold k_kedgeref05_Same
    refine ox ?_
    repeat' (first|(refine st_fixV (d := some 14) (.bool false) rfl (congrArg (fun b => some (Value.bool (!b))) (decide_eq_true a1)) ?_)|(refine st_fixV (d := some 20) (.bool true) rfl (congrArg (fun b => some (Value.bool (!b))) (decide_eq_false a2)) ?_)|(first|refine go1 ?_|refine zg (fun _ _=>?_)|refine zi (fun _ _=>?_))|(apply zO; focus((conv=>lhs;whnf)<;>(first|with_reducible exact rfl|(refine congrArg Value.bool ?_;decide))))|(refine zD (d := some 2) rfl rfl (fun bp wp xp ap (rp : Row wp ⟨bp, 0, none⟩ (txCs t iv ov)) hp0=>?_))|(refine zD (d := some 3) rfl rfl (fun bq wq xq aq (rq : Row wq ⟨bq, 0, none⟩ (txCs u iv2 ov2)) hq0=>?_))|(refine zG (d := some 25) (E := inR) (M := M) (l := t.ins) rfl (SlR.ext (w := w) h1 (by exact fx)) ?_)|(refine zG (d := some 28) (E := inR) (M := N) (l := u.ins) rfl (SlR.ext (w := w) g1 (by exact fx)) ?_)|(refine zG (d := some 34) (E := outR) (M := M) (l := t.outs) rfl (SlR.ext (w := w) h2 (by exact fx)) ?_)|(refine zG (d := some 37) (E := outR) (M := N) (l := u.outs) rfl (SlR.ext (w := w) g2 (by exact fx)) ?_))
    exact x_ret rfl ⟨rfl, by exact fx⟩
  by_cases a3 : t.ins.length = u.ins.length
  rotate_left
  · rw [decide_eq_false (show ¬ t = u from fun h => a3 (by subst h; rfl))]
    refine s_kedgeref05_Same rfl ?_
    unfold k_kedgeref05_Same
    refine ox ?_
    repeat' (first|(refine st_fixV (d := some 14) (.bool false) rfl (congrArg (fun b => some (Value.bool (!b))) (decide_eq_true a1)) ?_)|(refine st_fixV (d := some 20) (.bool false) rfl (congrArg (fun b => some (Value.bool (!b))) (decide_eq_true a2)) ?_)|(refine st_fixV (d := some 29) (.bool true) rfl (congrArg (fun b => some (Value.bool (!b))) (decide_eq_false (by omega))) ?_)|(first|refine go1 ?_|refine zg (fun _ _=>?_)|refine zi (fun _ _=>?_))|(apply zO; focus((conv=>lhs;whnf)<;>(first|with_reducible exact rfl|(refine congrArg Value.bool ?_;decide))))|(refine zD (d := some 2) rfl rfl (fun bp wp xp ap (rp : Row wp ⟨bp, 0, none⟩ (txCs t iv ov)) hp0=>?_))|(refine zD (d := some 3) rfl rfl (fun bq wq xq aq (rq : Row wq ⟨bq, 0, none⟩ (txCs u iv2 ov2)) hq0=>?_))|(refine zG (d := some 25) (E := inR) (M := M) (l := t.ins) rfl (SlR.ext (w := w) h1 (by exact fx)) ?_)|(refine zG (d := some 28) (E := inR) (M := N) (l := u.ins) rfl (SlR.ext (w := w) g1 (by exact fx)) ?_)|(refine zG (d := some 34) (E := outR) (M := M) (l := t.outs) rfl (SlR.ext (w := w) h2 (by exact fx)) ?_)|(refine zG (d := some 37) (E := outR) (M := N) (l := u.outs) rfl (SlR.ext (w := w) g2 (by exact fx)) ?_))
    exact x_ret rfl ⟨rfl, by exact fx⟩
  by_cases a4 : t.outs.length = u.outs.length
  rotate_left
  · rw [decide_eq_false (show ¬ t = u from fun h => a4 (by subst h; rfl))]
    refine s_kedgeref05_Same rfl ?_
    unfold k_kedgeref05_Same
    refine ox ?_
    repeat' (first|(refine st_fixV (d := some 14) (.bool false) rfl (congrArg (fun b => some (Value.bool (!b))) (decide_eq_true a1)) ?_)|(refine st_fixV (d := some 20) (.bool false) rfl (congrArg (fun b => some (Value.bool (!b))) (decide_eq_true a2)) ?_)|(refine st_fixV (d := some 29) (.bool false) rfl (congrArg (fun b => some (Value.bool (!b))) (decide_eq_true (by omega))) ?_)|(refine st_fixV (d := some 38) (.bool true) rfl (congrArg (fun b => some (Value.bool (!b))) (decide_eq_false (by omega))) ?_)|(first|refine go1 ?_|refine zg (fun _ _=>?_)|refine zi (fun _ _=>?_))|(apply zO; focus((conv=>lhs;whnf)<;>(first|with_reducible exact rfl|(refine congrArg Value.bool ?_;decide))))|(refine zD (d := some 2) rfl rfl (fun bp wp xp ap (rp : Row wp ⟨bp, 0, none⟩ (txCs t iv ov)) hp0=>?_))|(refine zD (d := some 3) rfl rfl (fun bq wq xq aq (rq : Row wq ⟨bq, 0, none⟩ (txCs u iv2 ov2)) hq0=>?_))|(refine zG (d := some 25) (E := inR) (M := M) (l := t.ins) rfl (SlR.ext (w := w) h1 (by exact fx)) ?_)|(refine zG (d := some 28) (E := inR) (M := N) (l := u.ins) rfl (SlR.ext (w := w) g1 (by exact fx)) ?_)|(refine zG (d := some 34) (E := outR) (M := M) (l := t.outs) rfl (SlR.ext (w := w) h2 (by exact fx)) ?_)|(refine zG (d := some 37) (E := outR) (M := N) (l := u.outs) rfl (SlR.ext (w := w) g2 (by exact fx)) ?_))
    exact x_ret rfl ⟨rfl, by exact fx⟩
  refine s_kedgeref05_Same rfl ?_
  unfold k_kedgeref05_Same
  refine ox ?_
  repeat' (first|(refine st_fixV (d := some 14) (.bool false) rfl (congrArg (fun b => some (Value.bool (!b))) (decide_eq_true a1)) ?_)|(refine st_fixV (d := some 20) (.bool false) rfl (congrArg (fun b => some (Value.bool (!b))) (decide_eq_true a2)) ?_)|(refine st_fixV (d := some 29) (.bool false) rfl (congrArg (fun b => some (Value.bool (!b))) (decide_eq_true (by omega))) ?_)|(refine st_fixV (d := some 38) (.bool false) rfl (congrArg (fun b => some (Value.bool (!b))) (decide_eq_true (by omega))) ?_)|(first|refine go1 ?_|refine zg (fun _ _=>?_)|refine zi (fun _ _=>?_))|(apply zO; focus((conv=>lhs;whnf)<;>(first|with_reducible exact rfl|(refine congrArg Value.bool ?_;decide))))|(refine zD (d := some 2) rfl rfl (fun bp wp xp ap (rp : Row wp ⟨bp, 0, none⟩ (txCs t iv ov)) hp0=>?_))|(refine zD (d := some 3) rfl rfl (fun bq wq xq aq (rq : Row wq ⟨bq, 0, none⟩ (txCs u iv2 ov2)) hq0=>?_))|(refine zG (d := some 25) (E := inR) (M := M) (l := t.ins) rfl (SlR.ext (w := w) h1 (by exact fx)) ?_)|(refine zG (d := some 28) (E := inR) (M := N) (l := u.ins) rfl (SlR.ext (w := w) g1 (by exact fx)) ?_)|(refine zG (d := some 34) (E := outR) (M := M) (l := t.outs) rfl (SlR.ext (w := w) h2 (by exact fx)) ?_)|(refine zG (d := some 37) (E := outR) (M := N) (l := u.outs) rfl (SlR.ext (w := w) g2 (by exact fx)) ?_)|(refine zG (d := some 43) (E := inR) (M := M) (l := t.ins) rfl (SlR.ext (w := w) h1 (by exact fx)) ?_)|(refine zL rfl (fun h => ?_) (fun h => ?_))|(refine c_loopV (fun (i : Nat) w' => Ext wq w' ∧ i ≤ t.ins.length ∧ t.ins.take i = u.ins.take i) (fun i => [(2, .pointer (some ⟨bp, 0, none⟩)), (3, .pointer (some ⟨bq, 0, none⟩)), (5, .int .i64 i)]) (fun i => t.ins.length - i) 0 ⟨rfl, rfl, rfl, trivial⟩ ⟨Ext.refl _, by omega, rfl⟩ ?_; rintro i ρ w1 ⟨x1, hi, hti⟩))
  · have hil : i < t.ins.length := by omega
    have hiu : i < u.ins.length := by omega
    have hwl := hs.wit _ (List.getElem_mem hil)
    have hwu := hs2.wit _ (List.getElem_mem hiu)
    have hfal : ¬ t.ins[i] = u.ins[i] → decide (t = u) = false := fun hx => decide_eq_false (fun h => hx (by subst h; rfl))
    by_cases c1 : t.ins[i].p.s = u.ins[i].p.s
    rotate_left
    · rw [hfal (fun h => c1 (by rw [h]))]
      repeat' (first|(refine st_fixV (d := some 63) (.bool true) rfl (congrArg (fun b => some (Value.bool (!b))) (decide_eq_false c1)) ?_)|(first|refine go1 ?_|refine zg (fun _ _=>?_)|refine zi (fun _ _=>?_))|(apply zO; focus((conv=>lhs;whnf)<;>(first|with_reducible exact rfl|(refine congrArg Value.bool ?_;decide))))|(refine st_elemR (d := some 50) (E := inR) (M := M) rfl rfl (n := i) (l := t.ins) (SlR.ext (w := w) h1 (by exact fx)) rfl hil (fun ad cs r4 he => ?_); obtain ⟨wv, rfl, hw, _⟩ := he; obtain ⟨bs1, cp1, rfl⟩ := hw.form)|(refine st_elemR (d := some 55) (E := inR) (M := N) rfl rfl (n := i) (l := u.ins) (SlR.ext (w := w) g1 (by exact fx)) rfl hiu (fun ad cs r4 he => ?_); obtain ⟨wv2, rfl, hw2, _⟩ := he; obtain ⟨bs2, cp2, rfl⟩ := hw2.form)|(refine zE (d' := 6) (fun _=>rfl) rfl rfl rfl (fun b6 w6 x6 a6 (r6 : Row w6 ⟨b6, 0, none⟩ (inCs t.ins[i] (.slice bs1 t.ins[i].wit.length cp1))) hb6=>?_))|(refine zE (d' := 7) (fun _=>rfl) rfl rfl rfl (fun b7 w7 x7 a7 (r7 : Row w7 ⟨b7, 0, none⟩ (inCs u.ins[i] (.slice bs2 u.ins[i].wit.length cp2))) hb7=>?_)))
      exact x_ret rfl ⟨rfl, by exact fx⟩
    by_cases c2 : t.ins[i].p.i = u.ins[i].p.i
    rotate_left
    · rw [hfal (fun h => c2 (by rw [h]))]
      repeat' (first|(refine st_fixV (d := some 63) (.bool false) rfl (congrArg (fun b => some (Value.bool (!b))) (decide_eq_true c1)) ?_)|(refine st_fixV (d := some 71) (.bool true) rfl (congrArg (fun b => some (Value.bool (!b))) (decide_eq_false c2)) ?_)|(first|refine go1 ?_|refine zg (fun _ _=>?_)|refine zi (fun _ _=>?_))|(apply zO; focus((conv=>lhs;whnf)<;>(first|with_reducible exact rfl|(refine congrArg Value.bool ?_;decide))))|(refine st_elemR (d := some 50) (E := inR) (M := M) rfl rfl (n := i) (l := t.ins) (SlR.ext (w := w) h1 (by exact fx)) rfl hil (fun ad cs r4 he => ?_); obtain ⟨wv, rfl, hw, _⟩ := he; obtain ⟨bs1, cp1, rfl⟩ := hw.form)|(refine st_elemR (d := some 55) (E := inR) (M := N) rfl rfl (n := i) (l := u.ins) (SlR.ext (w := w) g1 (by exact fx)) rfl hiu (fun ad cs r4 he => ?_); obtain ⟨wv2, rfl, hw2, _⟩ := he; obtain ⟨bs2, cp2, rfl⟩ := hw2.form)|(refine zE (d' := 6) (fun _=>rfl) rfl rfl rfl (fun b6 w6 x6 a6 (r6 : Row w6 ⟨b6, 0, none⟩ (inCs t.ins[i] (.slice bs1 t.ins[i].wit.length cp1))) hb6=>?_))|(refine zE (d' := 7) (fun _=>rfl) rfl rfl rfl (fun b7 w7 x7 a7 (r7 : Row w7 ⟨b7, 0, none⟩ (inCs u.ins[i] (.slice bs2 u.ins[i].wit.length cp2))) hb7=>?_)))
      exact x_ret rfl ⟨rfl, by exact fx⟩
    by_cases c3 : t.ins[i].q = u.ins[i].q
    rotate_left
    · rw [hfal (fun h => c3 (by rw [h]))]
      repeat' (first|(refine st_fixV (d := some 63) (.bool false) rfl (congrArg (fun b => some (Value.bool (!b))) (decide_eq_true c1)) ?_)|(refine st_fixV (d := some 71) (.bool false) rfl (congrArg (fun b => some (Value.bool (!b))) (decide_eq_true c2)) ?_)|(refine st_fixV (d := some 78) (.bool true) rfl (congrArg (fun b => some (Value.bool (!b))) (decide_eq_false c3)) ?_)|(first|refine go1 ?_|refine zg (fun _ _=>?_)|refine zi (fun _ _=>?_))|(apply zO; focus((conv=>lhs;whnf)<;>(first|with_reducible exact rfl|(refine congrArg Value.bool ?_;decide))))|(refine st_elemR (d := some 50) (E := inR) (M := M) rfl rfl (n := i) (l := t.ins) (SlR.ext (w := w) h1 (by exact fx)) rfl hil (fun ad cs r4 he => ?_); obtain ⟨wv, rfl, hw, _⟩ := he; obtain ⟨bs1, cp1, rfl⟩ := hw.form)|(refine st_elemR (d := some 55) (E := inR) (M := N) rfl rfl (n := i) (l := u.ins) (SlR.ext (w := w) g1 (by exact fx)) rfl hiu (fun ad cs r4 he => ?_); obtain ⟨wv2, rfl, hw2, _⟩ := he; obtain ⟨bs2, cp2, rfl⟩ := hw2.form)|(refine zE (d' := 6) (fun _=>rfl) rfl rfl rfl (fun b6 w6 x6 a6 (r6 : Row w6 ⟨b6, 0, none⟩ (inCs t.ins[i] (.slice bs1 t.ins[i].wit.length cp1))) hb6=>?_))|(refine zE (d' := 7) (fun _=>rfl) rfl rfl rfl (fun b7 w7 x7 a7 (r7 : Row w7 ⟨b7, 0, none⟩ (inCs u.ins[i] (.slice bs2 u.ins[i].wit.length cp2))) hb7=>?_)))
      exact x_ret rfl ⟨rfl, by exact fx⟩
    by_cases c4 : t.ins[i].wit.length = u.ins[i].wit.length
    rotate_left
    · rw [hfal (fun h => c4 (by rw [h]))]
      repeat' (first|(refine st_fixV (d := some 63) (.bool false) rfl (congrArg (fun b => some (Value.bool (!b))) (decide_eq_true c1)) ?_)|(refine st_fixV (d := some 71) (.bool false) rfl (congrArg (fun b => some (Value.bool (!b))) (decide_eq_true c2)) ?_)|(refine st_fixV (d := some 78) (.bool false) rfl (congrArg (fun b => some (Value.bool (!b))) (decide_eq_true c3)) ?_)|(refine st_fixV (d := some 87) (.bool true) rfl (congrArg (fun b => some (Value.bool (!b))) (decide_eq_false (by omega))) ?_)|(first|refine go1 ?_|refine zg (fun _ _=>?_)|refine zi (fun _ _=>?_))|(apply zO; focus((conv=>lhs;whnf)<;>(first|with_reducible exact rfl|(refine congrArg Value.bool ?_;decide))))|(refine st_elemR (d := some 50) (E := inR) (M := M) rfl rfl (n := i) (l := t.ins) (SlR.ext (w := w) h1 (by exact fx)) rfl hil (fun ad cs r4 he => ?_); obtain ⟨wv, rfl, hw, _⟩ := he; obtain ⟨bs1, cp1, rfl⟩ := hw.form)|(refine st_elemR (d := some 55) (E := inR) (M := N) rfl rfl (n := i) (l := u.ins) (SlR.ext (w := w) g1 (by exact fx)) rfl hiu (fun ad cs r4 he => ?_); obtain ⟨wv2, rfl, hw2, _⟩ := he; obtain ⟨bs2, cp2, rfl⟩ := hw2.form)|(refine zE (d' := 6) (fun _=>rfl) rfl rfl rfl (fun b6 w6 x6 a6 (r6 : Row w6 ⟨b6, 0, none⟩ (inCs t.ins[i] (.slice bs1 t.ins[i].wit.length cp1))) hb6=>?_))|(refine zE (d' := 7) (fun _=>rfl) rfl rfl rfl (fun b7 w7 x7 a7 (r7 : Row w7 ⟨b7, 0, none⟩ (inCs u.ins[i] (.slice bs2 u.ins[i].wit.length cp2))) hb7=>?_)))
      exact x_ret rfl ⟨rfl, by exact fx⟩
    repeat' (first|(refine st_fixV (d := some 63) (.bool false) rfl (congrArg (fun b => some (Value.bool (!b))) (decide_eq_true c1)) ?_)|(refine st_fixV (d := some 71) (.bool false) rfl (congrArg (fun b => some (Value.bool (!b))) (decide_eq_true c2)) ?_)|(refine st_fixV (d := some 78) (.bool false) rfl (congrArg (fun b => some (Value.bool (!b))) (decide_eq_true c3)) ?_)|(refine st_fixV (d := some 87) (.bool false) rfl (congrArg (fun b => some (Value.bool (!b))) (decide_eq_true (by omega))) ?_)|(first|refine go1 ?_|refine zg (fun _ _=>?_)|refine zi (fun _ _=>?_))|(apply zO; focus((conv=>lhs;whnf)<;>(first|with_reducible exact rfl|(refine congrArg Value.bool ?_;decide))))|(refine st_elemR (d := some 50) (E := inR) (M := M) rfl rfl (n := i) (l := t.ins) (SlR.ext (w := w) h1 (by exact fx)) rfl hil (fun ad cs r4 he => ?_); obtain ⟨wv, rfl, hw, _⟩ := he; obtain ⟨bs1, cp1, rfl⟩ := hw.form)|(refine st_elemR (d := some 55) (E := inR) (M := N) rfl rfl (n := i) (l := u.ins) (SlR.ext (w := w) g1 (by exact fx)) rfl hiu (fun ad cs r4 he => ?_); obtain ⟨wv2, rfl, hw2, _⟩ := he; obtain ⟨bs2, cp2, rfl⟩ := hw2.form)|(refine zE (d' := 6) (fun _=>rfl) rfl rfl rfl (fun b6 w6 x6 a6 (r6 : Row w6 ⟨b6, 0, none⟩ (inCs t.ins[i] (.slice bs1 t.ins[i].wit.length cp1))) hb6=>?_))|(refine zE (d' := 7) (fun _=>rfl) rfl rfl rfl (fun b7 w7 x7 a7 (r7 : Row w7 ⟨b7, 0, none⟩ (inCs u.ins[i] (.slice bs2 u.ins[i].wit.length cp2))) hb7=>?_))|(refine zG (d := some 92) (E := strR) (l := t.ins[i].wit) rfl (by exact fx) ?_)|(refine zL rfl (fun h => ?_) (fun h => ?_))|(refine c_loopV (fun (j : Nat) w' => Ext w7 w' ∧ j ≤ t.ins[i].wit.length ∧ t.ins[i].wit.take j = u.ins[i].wit.take j) (fun j => [(2, .pointer (some ⟨bp, 0, none⟩)), (3, .pointer (some ⟨bq, 0, none⟩)), (5, .int .i64 i), (6, .pointer (some ⟨b6, 0, none⟩)), (7, .pointer (some ⟨b7, 0, none⟩)), (8, .int .i64 j)]) (fun j => t.ins[i].wit.length - j) 0 ⟨rfl, rfl, rfl, rfl, rfl, rfl, trivial⟩ ⟨Ext.refl _, by omega, rfl⟩ ?_; rintro j ρ8 w8 ⟨x8, hj, htj⟩))
    · have hjl : j < t.ins[i].wit.length := by omega
      have hju : j < u.ins[i].wit.length := by omega
      repeat' (first|(first|refine go1 ?_|refine zg (fun _ _=>?_)|refine zi (fun _ _=>?_))|(refine st_elemR (d := some 99) (E := strR) rfl rfl (n := j) (l := t.ins[i].wit) (SlR.ext hw (by exact fx)) rfl hjl (fun ad cs r4 he => ?_); subst he)|(refine st_elemR (d := some 104) (E := strR) rfl rfl (n := j) (l := u.ins[i].wit) (SlR.ext hw2 (by exact fx)) rfl hju (fun ad cs r4 he => ?_); subst he)|(refine zN (p := t.ins[i].wit[j] = u.ins[i].wit[j]) rfl (fun h => ?_) (fun h => ?_)))
      · rw [hfal (fun h9 => h (by have h8 : t.ins[i].wit = u.ins[i].wit := by rw [h9]
                                  have h7 : t.ins[i].wit[j]? = u.ins[i].wit[j]? := by rw [h8]
                                  rw [List.getElem?_eq_getElem hjl, List.getElem?_eq_getElem hju] at h7
                                  injection h7))]
        exact x_ret rfl ⟨rfl, by exact fx⟩
      · exact ⟨j + 1, ⟨rfl, rfl, rfl, rfl, rfl, rfl, trivial⟩, ⟨by exact fx, by omega, take_eq htj hjl hju h⟩, by omega⟩
    · have hwe : t.ins[i].wit = u.ins[i].wit := take_all htj (by omega) (by omega)
      exact ⟨i + 1, ⟨rfl, rfl, rfl, trivial⟩, ⟨by exact fx, by omega, take_eq hti hil hiu (tin_ext c1 c2 c3 hwe)⟩, by omega⟩
  · have hie : t.ins = u.ins := take_all hti (by omega) (by omega)
    repeat' (first|(first|refine go1 ?_|refine zg (fun _ _=>?_)|refine zi (fun _ _=>?_))|(refine zG (d := some 110) (E := outR) (M := M) (l := t.outs) rfl (SlR.ext (w := w) h2 (by exact fx)) ?_)|(refine zL rfl (fun h => ?_) (fun h => ?_))|(refine c_loopV (fun (k : Nat) w' => Ext wq w' ∧ k ≤ t.outs.length ∧ t.outs.take k = u.outs.take k) (fun k => [(2, .pointer (some ⟨bp, 0, none⟩)), (3, .pointer (some ⟨bq, 0, none⟩)), (9, .int .i64 k)]) (fun k => t.outs.length - k) 0 ⟨rfl, rfl, rfl, trivial⟩ ⟨by exact fx, by omega, rfl⟩ ?_; rintro k ρ9 w9 ⟨x9, hk, htk⟩))
    · have hkl : k < t.outs.length := by omega
      have hku : k < u.outs.length := by omega
      have hfo : ¬ t.outs[k] = u.outs[k] → decide (t = u) = false := fun hx => decide_eq_false (fun h => hx (by subst h; rfl))
      by_cases e1 : t.outs[k].v = u.outs[k].v
      rotate_left
      · rw [hfo (fun h => e1 (by rw [h]))]
        repeat' (first|(refine st_fixV (d := some 126) (.bool true) rfl (congrArg (fun b => some (Value.bool (!b))) (decide_eq_false e1)) ?_)|(first|refine go1 ?_|refine zg (fun _ _=>?_)|refine zi (fun _ _=>?_))|(apply zO; focus((conv=>lhs;whnf)<;>(first|with_reducible exact rfl|(refine congrArg Value.bool ?_;decide))))|(refine st_elemR (d := some 117) (E := outR) (M := M) rfl rfl (n := k) (l := t.outs) (SlR.ext (w := w) h2 (by exact fx)) rfl hkl (fun ad cs r4 he => ?_); obtain ⟨rfl, _⟩ := he)|(refine st_elemR (d := some 123) (E := outR) (M := N) rfl rfl (n := k) (l := u.outs) (SlR.ext (w := w) g2 (by exact fx)) rfl hku (fun ad cs r4 he => ?_); obtain ⟨rfl, _⟩ := he)|(refine st_elemR (d := some 131) (E := outR) (M := M) rfl rfl (n := k) (l := t.outs) (SlR.ext (w := w) h2 (by exact fx)) rfl hkl (fun ad cs r4 he => ?_); obtain ⟨rfl, _⟩ := he)|(refine st_elemR (d := some 137) (E := outR) (M := N) rfl rfl (n := k) (l := u.outs) (SlR.ext (w := w) g2 (by exact fx)) rfl hku (fun ad cs r4 he => ?_); obtain ⟨rfl, _⟩ := he))
        exact x_ret rfl ⟨rfl, by exact fx⟩
      by_cases e2 : t.outs[k].s = u.outs[k].s
      rotate_left
      · rw [hfo (fun h => e2 (by rw [h]))]
        repeat' (first|(refine st_fixV (d := some 126) (.bool false) rfl (congrArg (fun b => some (Value.bool (!b))) (decide_eq_true e1)) ?_)|(refine st_fixV (d := some 140) (.bool true) rfl (congrArg (fun b => some (Value.bool (!b))) (decide_eq_false e2)) ?_)|(first|refine go1 ?_|refine zg (fun _ _=>?_)|refine zi (fun _ _=>?_))|(apply zO; focus((conv=>lhs;whnf)<;>(first|with_reducible exact rfl|(refine congrArg Value.bool ?_;decide))))|(refine st_elemR (d := some 117) (E := outR) (M := M) rfl rfl (n := k) (l := t.outs) (SlR.ext (w := w) h2 (by exact fx)) rfl hkl (fun ad cs r4 he => ?_); obtain ⟨rfl, _⟩ := he)|(refine st_elemR (d := some 123) (E := outR) (M := N) rfl rfl (n := k) (l := u.outs) (SlR.ext (w := w) g2 (by exact fx)) rfl hku (fun ad cs r4 he => ?_); obtain ⟨rfl, _⟩ := he)|(refine st_elemR (d := some 131) (E := outR) (M := M) rfl rfl (n := k) (l := t.outs) (SlR.ext (w := w) h2 (by exact fx)) rfl hkl (fun ad cs r4 he => ?_); obtain ⟨rfl, _⟩ := he)|(refine st_elemR (d := some 137) (E := outR) (M := N) rfl rfl (n := k) (l := u.outs) (SlR.ext (w := w) g2 (by exact fx)) rfl hku (fun ad cs r4 he => ?_); obtain ⟨rfl, _⟩ := he))
        exact x_ret rfl ⟨rfl, by exact fx⟩
      repeat' (first|(refine st_fixV (d := some 126) (.bool false) rfl (congrArg (fun b => some (Value.bool (!b))) (decide_eq_true e1)) ?_)|(refine st_fixV (d := some 140) (.bool false) rfl (congrArg (fun b => some (Value.bool (!b))) (decide_eq_true e2)) ?_)|(first|refine go1 ?_|refine zg (fun _ _=>?_)|refine zi (fun _ _=>?_))|(apply zO; focus((conv=>lhs;whnf)<;>(first|with_reducible exact rfl|(refine congrArg Value.bool ?_;decide))))|(refine st_elemR (d := some 117) (E := outR) (M := M) rfl rfl (n := k) (l := t.outs) (SlR.ext (w := w) h2 (by exact fx)) rfl hkl (fun ad cs r4 he => ?_); obtain ⟨rfl, _⟩ := he)|(refine st_elemR (d := some 123) (E := outR) (M := N) rfl rfl (n := k) (l := u.outs) (SlR.ext (w := w) g2 (by exact fx)) rfl hku (fun ad cs r4 he => ?_); obtain ⟨rfl, _⟩ := he)|(refine st_elemR (d := some 131) (E := outR) (M := M) rfl rfl (n := k) (l := t.outs) (SlR.ext (w := w) h2 (by exact fx)) rfl hkl (fun ad cs r4 he => ?_); obtain ⟨rfl, _⟩ := he)|(refine st_elemR (d := some 137) (E := outR) (M := N) rfl rfl (n := k) (l := u.outs) (SlR.ext (w := w) g2 (by exact fx)) rfl hku (fun ad cs r4 he => ?_); obtain ⟨rfl, _⟩ := he))
      exact ⟨k + 1, ⟨rfl, rfl, rfl, trivial⟩, ⟨by exact fx, by omega, take_eq htk hkl hku (tout_ext e1 e2)⟩, by omega⟩
    · have hoe : t.outs = u.outs := take_all htk (by omega) (by omega)
      rw [decide_eq_true (tx_ext a1 a2 hie hoe)]
      repeat' (first|refine go1 ?_|refine zg (fun _ _=>?_)|refine zi (fun _ _=>?_))
      exact x_ret rfl ⟨rfl, by exact fx⟩
end Go.Proofs.YteggaepppahefaaGreat
end
section
namespace Go.Proofs.YteggaepppahefaaGreat
open Go Go.K
theorem addG_keeps {l : List Ent} {t : Tx} {f : Int} (h : (addG l t f).2 ≠ 0) : (addG l t f).1 = l := by
  unfold addG at h ⊢
  split
  · rfl
  split
  · rfl
  split
  · rfl
  split
  · rfl
  split
  · rfl
  · rename_i a1 a2 a3 a4 a5
    rw [if_neg a1, if_neg a2, if_neg a3, if_neg a4, if_neg a5] at h
    exact absurd rfl h
theorem comes_plain {l : List Ent} {t : Tx} {f : Int} (hn : (l.map (·.id)).Nodup) (hs : t.Sm) (hg : grantB t = false) (hr : rulesL l t f = 0) :
    checkT t = 0 ∧ (∀ s ∈ idsOf l (evL l t), inB (idsOf l (aboveL l t)) s = false) ∧
    ((addG (leftL l (evL l t)) t f).2 = 0 ∨ ((addG (leftL l (evL l t)) t f).2 = 7 ∧ hasE (leftL l (evL l t)) (idT t) = true ∧ (getE (leftL l (evL l t)) (idT t)).tx ≠ t)) := by
  obtain ⟨h1, h2, h3⟩ := rules_zero hr
  obtain ⟨hi, -⟩ := radd_grant h1
  refine ⟨h1, fun s hs' => ?_, comes_add hn h1 hi hg h2⟩
  rw [← Bool.not_eq_true, inB_iff]
  intro hab
  rcases h3 with h3 | ⟨-, -, -, h6, -⟩
  · rw [ev_none hn h3] at hs'; cases hs'
  · exact above_gone hn h6 hab hs'
attribute [local irreducible] regK codeK retK KOp.wp K.Spec u32 leS vnS str zero32 sha2 encT idT sizeT checkT grantB idN stepR workL reachE findI dropG addG needN needE rulesL enoughL confL evL idsOf goneF cmpR hitE inB aboveL leftL dropAll
set_option maxHeartbeats 4000000 in
theorem rcomes_law {v : Value} {cs : List Value} {sc : List ActP} {la : ActP} (w : World) (hs : SlR actpR [] w v sc) (ha : actpR.rel [] w cs la) : K.Spec Tryz.prog F.kedgelaw16_ReplaceComes [v, .agg cs.toArray] w fun r w' => r = .bool true ∧ Ext w w' := by
  obtain ⟨fv, rfl, q1, q2, q3⟩ := ha
  refine s_kedgelaw16_ReplaceComes rfl ?_
  unfold k_kedgelaw16_ReplaceComes
  refine ox ?_
  repeat' (first|(first|refine go1 ?_|refine zg (fun _ _=>?_)|refine zi (fun _ _=>?_))|(refine zD (d := some 3) rfl rfl (fun bp wp xp ap (rp : Row wp ⟨bp, 0, none⟩ (actpCs la fv)) hp0=>?_))|(refine zC (d := some 20) rfl (filled16_spec (sc := sc) _ (SlR.ext hs (by exact fx))) ?_; rintro _ w4 ⟨g, M, u, l, rfl, G4, u4, hl, hfl, x4⟩))
  have hM4 := G4.lt
  have hB4 := G4.base
  have sp := xp.size
  have hid32 : ∀ x ∈ l, x.id.size = 32 := fun x hx => by rw [(G4.ok x hx).id]; exact idT_size _
  have q14 : SlR u8R M w4 fv la.sm.frm := (q1.ext xp).step x4 (by simp) (fun b hb => .inr (hB4 b hb))
  repeat' (first|(first|refine go1 ?_|refine zg (fun _ _=>?_)|refine zi (fun _ _=>?_))|(refine zC (d := some 25) rfl (of16g_spec (M := M) (l := l) (cs := actpCs la fv) (a := la) _ (u4.ext (by exact fx)) ⟨fv, rfl, q14.ext (by exact fx), q2, q3⟩ (by omega) hid32 hM4) ?_; rintro _ w5 ⟨ds, t, rfl, ho, hsm, hgr, x5⟩))
  have s5 := x5.size
  have hM5 : ∀ b ∈ M, b < w5.heap.size := fun b hb => by have := hM4 b hb; omega
  have t5 : txR.rel M w5 ds t := txO.rel ho hM4
  have o1 := ho.one
  obtain ⟨iv, ov, rfl, -⟩ := ho
  refine zE (d' := 7) (fun _=>rfl) rfl rfl o1 (fun b7 w7 x7 (a7 : At w7 b7 (.cells (txCs t iv ov).toArray T.api_Tx (0, 0))) r7 hb7=>?_)
  have G7 := (G4.ext x5).ext x7
  have rp7 : Row w7 ⟨bp, 0, none⟩ (actpCs la fv) := Row.ext (((Ext.trans x4 x5)).trans x7) rp
  have s7 := x7.size
  have l7 := a7.lt
  have u7 := (u4.ext x5).ext x7
  have t7 := R.ext t5 x7
  have hM7 : ∀ b ∈ M, b < w7.heap.size := fun b hb => by have := hM5 b hb; have := x7.size; omega
  have x07 : Unit → Ext w w7 := fun _ => ((xp.trans x4).trans x5).trans x7
  have hE := G4.ok
  have hnd := G4.nodup
  clear G4 u4 t5 x4 x5 x7 xp ap rp q14
  have hf0 := andI_le la.sm.fee (m := 16777215) (by decide) (by decide)
  obtain ⟨Fe, hF⟩ : ∃ Fe, Fe = andI la.sm.fee 16777215 := ⟨_, rfl⟩
  rw [← hF] at hf0
  have hfl9 : ∀ x ∈ l, x.fee ≤ 1000000000000 := fun x hx => by have := hfl x hx; omega
  have hMx : ∀ {w'}, Ext w7 w' → ∀ b ∈ M, b < w'.heap.size := fun x b hb => Nat.lt_of_lt_of_le (hM7 b hb) x.size
  by_cases hr : rulesL l t Fe = 0
  · obtain ⟨hc, hab, hadd⟩ := comes_plain hnd hsm hgr hr
    rw [← dropAll_left l (evL l t) hnd] at hadd
    have hcl := idsOf_le1 l (evL l t)
    have hdr : ∀ i (h : i < (idsOf l (evL l t)).length), (dropG (dropAll l ((idsOf l (evL l t)).take i)) (idsOf l (evL l t))[i]).2 = 0 := fun i h => drop_each hnd h
    have hes : ∀ w', Ext w7 w' → K.Spec Tryz.prog F.replace_Evicted [.pointer (some ⟨g, 0, none⟩), .agg (txCs t iv ov).toArray] w' fun r w'' => Own strE T.string w'.heap.size w'' r (idsOf l (evL l t)) ∧ Ext w' w'' := fun w' x => evicted_spec (M := M) (N := M) (l := l) (t := t) w' (G7.r.ext x) (hMx x) (R.ext t7 x) hsm.ins (by omega)
    have d0 : dropAll l [] = l := by unfold dropAll; rfl
    have hal := idsOf_le1 l (aboveL l t)
    have habs : ∀ w', Ext w7 w' → K.Spec Tryz.prog F.graph_Graph_Above [.pointer (some ⟨g, 0, none⟩), .agg (txCs t iv ov).toArray] w' fun r w'' => Own strE T.string w'.heap.size w'' r (idsOf l (aboveL l t)) ∧ Ext w' w'' := fun w' x => pabove_spec (M := M) (N := M) (l := l) (t := t) w' (G7.r.ext x) (hMx x) (R.ext t7 x) hsm.ins (by omega)
    generalize idsOf l (evL l t) = D at *
    generalize idsOf l (aboveL l t) = A at *
    repeat' (first|(refine st_bin (d := some 29) (v := .int .i64 (andI la.sm.fee 16777215)) rfl rfl rfl ?_; rw [← hF])|(first|refine go1 ?_|refine zg (fun _ _=>?_)|refine zi (fun _ _=>?_))|(refine zC (d := some 33) rfl (rules_spec (M := M) (l := l) (cs := txCs t iv ov) (t := t) Fe _ (G7.r.ext (by exact fx)) (hMx (by exact fx)) (R.ext t7 (by exact fx)) hsm (by omega) hfl9) ?_; rintro _ w8 ⟨rfl, x8⟩; rw [hr])|(refine zC (d := some 38) rfl (habs _ (by exact fx)) ?_; rintro va w9 ⟨oa, x9⟩)|(refine zC (d := some 41) rfl (hes _ (by exact fx)) ?_; rintro ve w10 ⟨oe, x10⟩)|(refine st_len (d := some 43) (E := strE) (l := D) rfl oe.sl ?_))
    have x710 : Unit → Ext w7 w10 := fun _ => (x8.trans x9).trans x10
    have s8 := x8.size
    have s9 := x9.size
    have s10 := x10.size
    have oa10 : Own strE T.string w8.heap.size w10 va A := oa.ext x10
    have ba := oa10.base
    have be := oe.base
    have la10 := Own.blk_lt oa10
    have le10 := Own.blk_lt oe
    have G10 := G7.ext (x710 ())
    have t10 : txR.rel M w10 (txCs t iv ov) t := R.ext t7 (x710 ())
    have a10 := a7.ext (x710 ())
    have x010 : Ext w w10 := (x07 ()).trans (x710 ())
    clear x07 x710 x8 x9 x10 oa G7 t7 a7 r7
    repeat' (first|(first|refine go1 ?_|refine zg (fun _ _=>?_)|refine zi (fun _ _=>?_))|(refine zL rfl (fun h => ?_) (fun h => ?_))|(refine c_loopV (fun (p : Nat × List Nat) w' => Ext w w' ∧ w10.heap.size ≤ w'.heap.size ∧ p.1 ≤ D.length ∧ Gr w' wp.heap.size g p.2 (dropAll l (D.take p.1)) ∧ (∀ b ∈ p.2, b ∈ M ∨ w10.heap.size ≤ b) ∧ Own strE T.string w8.heap.size w' va A ∧ Own strE T.string w9.heap.size w' ve D ∧ txR.rel p.2 w' (txCs t iv ov) t ∧ At w' b7 (.cells (txCs t iv ov).toArray T.api_Tx (0, 0))) (fun p => [(5, .pointer (some ⟨g, 0, none⟩)), (7, .pointer (some ⟨b7, 0, none⟩)), (8, .int .i64 Fe), (9, va), (42, ve), (43, .int .i64 (D.length : Nat)), (44, .int .i64 p.1)]) (fun p => D.length - p.1) (0, M) ⟨rfl, rfl, rfl, rfl, rfl, rfl, rfl, trivial⟩ ⟨x010, Nat.le_refl _, by simp, by rw [List.take_zero, d0]; exact G10, fun b hb => .inl hb, oa10, oe, t10, a10⟩ ?_; rintro ⟨i, Mi⟩ ρ w11 ⟨x11, s11, hi, G11, m11, oa11, oe11, t11, a11⟩; simp only at hi G11 m11 t11; dsimp only))
    · have hil : i < D.length := by omega
      have hsa := oa11.sl
      have hse := oe11.sl
      have h0 := hdr i hil
      have hM11 := G11.lt
      have hB11 := G11.base
      have hna := hab _ (List.getElem_mem hil)
      have nva : ∀ b ∈ blkOf va, b ∉ Mi := fun b hb hm => by
        have h1 := ba b hb
        have h2 := la10 b hb
        rcases m11 b hm with h3 | h3
        · have := hM7 b h3; omega
        · omega
      have nve : ∀ b ∈ blkOf ve, b ∉ Mi := fun b hb hm => by
        have h1 := be b hb
        have h2 := le10 b hb
        rcases m11 b hm with h3 | h3
        · have := hM7 b h3; omega
        · omega
      have n7 : b7 ∉ Mi := fun hm => by
        rcases m11 b7 hm with h3 | h3
        · have := hM5 b7 h3; omega
        · omega
      have hdl := @dropAll_len l (D.take i)
      repeat' (first|(first|refine go1 ?_|refine zg (fun _ _=>?_)|refine zi (fun _ _=>?_))|(apply zO; focus((conv=>lhs;whnf)<;>(first|with_reducible exact rfl|(refine congrArg Value.bool ?_;decide))))|(refine st_elemE (d := some 46) (E := strE) rfl rfl (n := i) (l := D) (SlE.ext (by exact fx) hse) rfl hil (fun ad r9 => ?_); have r9 : Row _ ad [Value.string D[i]] := r9)|(refine zC (d := some 50) rfl (contains16 (l := A) D[i] _ (SlE.ext (by exact fx) hsa) (by omega)) ?_; rintro _ _ ⟨rfl, rfl⟩; rw [hna])|(refine zC (d := some 54) rfl (gdrop_spec (M := Mi) (l := dropAll l (D.take i)) D[i] _ (G11.ext (by exact fx)) (by omega)) ?_; rintro _ w12 ⟨M12, rfl, G12, c12, hb12⟩; rw [h0]))
      have s12 := c12.size
      exact ⟨(i + 1, M12), ⟨rfl, rfl, rfl, rfl, rfl, rfl, rfl, trivial⟩, ⟨(x11.chg c12).mono (fun b hb => .inr (Nat.le_trans sp (hB11 b hb))), by omega, by simp only; omega, by rw [dropAll_succ hil]; exact G12, fun b hb => by
        rcases hb12 b hb with h3 | h3
        · exact m11 b h3
        · exact .inr (by omega), oa11.chg c12 nva, oe11.chg c12 nve, txR.step t11 c12 (fun b hb => .inl hb) hb12, a11.chg c12 n7⟩, by simp only; omega⟩
    · have ei : i = D.length := by omega
      subst ei
      rw [List.take_length] at G11
      have hLl : (dropAll l D).length ≤ 1000 := Nat.le_trans dropAll_len (by omega)
      generalize dropAll l D = L at *
      have hM11 := G11.lt
      have hB11 := G11.base
      have hE11 := G11.ok
      have n7 : b7 ∉ Mi := fun hm => by
        rcases m11 b7 hm with h3 | h3
        · have := hM5 b7 h3; omega
        · omega
      have r711 : Row w11 ⟨b7, 0, none⟩ (txCs t iv ov) := Row.of_at a11
      have f64 : is64 Fe := by unfold is64; omega
      have eid : idV t = .tuple #[.string (idT t), .int .i64 0] := by rw [idV, if_pos hc]
      repeat' (first|(first|refine go1 ?_|refine zg (fun _ _=>?_)|refine zi (fun _ _=>?_))|(refine zC (d := some 61) rfl (gadd_spec (M := Mi) (N := Mi) (l := L) (cs := txCs t iv ov) (t := t) Fe _ (G11.ext (by exact fx)) (R.ext t11 (by exact fx)) hsm f64 (fun b hb => Nat.lt_of_lt_of_le (hM11 b hb) (Ext.size (by exact fx))) (fun _ h => h) hLl) ?_; rintro _ w12 ⟨M12, rfl, G12, c12, hb12⟩))
      have r712 : Row w12 ⟨b7, 0, none⟩ (txCs t iv ov) := Row.of_at (a11.chg c12 n7)
      have t12 : txR.rel M12 w12 (txCs t iv ov) t := txR.step t11 c12 (fun b hb => .inl hb) hb12
      have x012 : Unit → Ext w w12 := fun _ => (x11.chg c12).mono (fun b hb => .inr (Nat.le_trans sp (hB11 b hb)))
      have h12 := G12.r
      have hM12 := G12.lt
      clear x11 c12 G11 t11 a11 r711 G12 oa11 oe11 oa10 oe G10 t10 a10 x010
      rcases hadd with e0 | ⟨e7, hh, hne⟩
      · rw [e0]
        generalize (addG L t Fe).1 = L2 at *
        repeat' (first|(first|refine go1 ?_|refine zg (fun _ _=>?_)|refine zi (fun _ _=>?_))|(apply zO; focus((conv=>lhs;whnf)<;>(first|with_reducible exact rfl|(refine congrArg Value.bool ?_;decide))))|(refine zC (d := some 64) rfl (id_spec (M := M12) (cs := txCs t iv ov) (t := t) _ (R.ext t12 (by exact fx)) hsm) ?_; rintro _ w13 ⟨rfl, x13⟩; rw [eid])|(refine zC (d := some 70) rfl (get_spec (M := M12) (l := L2) (idT t) _ (h12.ext (by exact fx)) (fun b hb => Nat.lt_of_lt_of_le (hM12 b hb) (Ext.size (by exact fx)))) ?_; rintro v5 w14 ⟨ds, rfl, e5, x14⟩; obtain ⟨iv2, ov2, rfl, o1, o2, o3⟩ := e5; have i1 := o1.one; have i2 := o2.one)|(refine zE (d' := 16) (fun _=>rfl) rfl rfl (by simp [entCs, i1, i2]; exact ⟨rfl, rfl, rfl, rfl, rfl⟩) (fun b6 w15 x15 a15 (r15 : Row w15 ⟨b6, 0, none⟩ (entCs (getE L2 (idT t)) iv2 ov2)) hb6=>?_))|(refine zC (d := some 73) rfl (wakes16_spec _) ?_; rintro _ w16 ⟨rfl, x16⟩))
        exact x_ret rfl ⟨rfl, (x012 ()).trans (by exact fx)⟩
      · have hkeep : (addG L t Fe).1 = L := addG_keeps (by omega)
        rw [hkeep] at h12
        rw [e7]
        have hxm := has_mem hh
        have hxs : (getE L (idT t)).tx.Sm := chk_sm (hE11 _ hxm.1).check
        have hnd2 := decide_eq_false hne
        repeat' (first|(first|refine go1 ?_|refine zg (fun _ _=>?_)|refine zi (fun _ _=>?_))|(apply zO; focus((conv=>lhs;whnf)<;>(first|with_reducible exact rfl|(refine congrArg Value.bool ?_;decide))))|(refine zC (d := some 64) rfl (id_spec (M := M12) (cs := txCs t iv ov) (t := t) _ (R.ext t12 (by exact fx)) hsm) ?_; rintro _ w13 ⟨rfl, x13⟩; rw [eid])|(refine zC (d := some 70) rfl (get_spec (M := M12) (l := L) (idT t) _ (h12.ext (by exact fx)) (fun b hb => Nat.lt_of_lt_of_le (hM12 b hb) (Ext.size (by exact fx)))) ?_; rintro v5 w14 ⟨ds, rfl, e5, x14⟩; rw [hh]; obtain ⟨iv2, ov2, rfl, o1, o2, o3⟩ := e5; have i1 := o1.one; have i2 := o2.one)|(refine zE (d' := 16) (fun _=>rfl) rfl rfl (by simp [entCs, i1, i2]; exact ⟨rfl, rfl, rfl, rfl, rfl⟩) (fun b6 w15 x15 a15 (r15 : Row w15 ⟨b6, 0, none⟩ (entCs (getE L (idT t)) iv2 ov2)) hb6=>?_))|(refine zC (d := some 73) rfl (wakes16_spec _) ?_; rintro _ w16 ⟨rfl, x16⟩)|(refine zC (d := some 87) rfl (same2_spec (M := []) (N := M12) (cs := txCs (getE L (idT t)).tx iv2 ov2) (ds := txCs t iv ov) (t := (getE L (idT t)).tx) (u := t) _ ⟨iv2, ov2, rfl, SlR.ext ((o1.sub (M' := []) (by simp)).sl (by simp)) (by exact fx), SlR.ext ((o2.sub (M' := []) (by simp)).sl (by simp)) (by exact fx), o3.1, o3.2.1⟩ (R.ext t12 (by exact fx)) hxs hsm) ?_; rintro _ w17 ⟨rfl, x17⟩; rw [hnd2]))
        exact x_ret rfl ⟨rfl, (x012 ()).trans (by exact fx)⟩
  · repeat' (first|(refine st_bin (d := some 29) (v := .int .i64 (andI la.sm.fee 16777215)) rfl rfl rfl ?_; rw [← hF])|(first|refine go1 ?_|refine zg (fun _ _=>?_)|refine zi (fun _ _=>?_))|(refine zC (d := some 33) rfl (rules_spec (M := M) (l := l) (cs := txCs t iv ov) (t := t) Fe _ (G7.r.ext (by exact fx)) (hMx (by exact fx)) (R.ext t7 (by exact fx)) hsm (by omega) hfl9) ?_; rintro _ w8 ⟨rfl, x8⟩)|(refine zN (p := rulesL l t Fe = 0) rfl (fun _ => ?_) (fun h => absurd h hr))|(refine zC (d := some 35) rfl (wakes16_spec _) ?_; rintro _ w10 ⟨rfl, x10⟩))
    exact x_ret rfl ⟨rfl, (x07 ()).trans (by exact fx)⟩
end Go.Proofs.YteggaepppahefaaGreat
end
