/- The walk of GraphPlays: the entries that are kept. -/
import Derived.Test.YtfeifodeaphbjaaGreatG50
section
namespace Go.Proofs.YtfeifodeaphbjaaGreat
open Go Go.K
theorem get_find (l : List Ent) (s : ByteArray) : (findI l s < 0 ∧ hasE l s = false ∧ getE l s = default) ∨ ∃ n, ∃ hn : n < l.length, findI l s = (n : Nat) ∧ hasE l s = true ∧ getE l s = l[n] := by
  rcases Int.lt_or_le (findI l s) 0 with h | h
  · have h1 := idx_none h
    obtain ⟨e1, e2⟩ := has_none h1
    exact .inl ⟨h, e1, e2⟩
  · obtain ⟨h2, h3⟩ := idx_some h
    obtain ⟨e1, e2, _⟩ := has_some h3
    exact .inr ⟨_, h2, (Int.toNat_of_nonneg h).symm, e1, e2⟩
theorem sp_find (l : List Ent) (p : Pt) : (spendI l p < 0 ∧ (spE l p).isSome = false ∧ spId l p = ⟨#[]⟩) ∨ ∃ n, ∃ hn : n < l.length, spendI l p = (n : Nat) ∧ (spE l p).isSome = true ∧ spId l p = l[n].id := by
  unfold spId spE
  rcases Int.lt_or_le (spendI l p) 0 with h | h
  · have h1 := idx_none h
    rw [h1]
    exact .inl ⟨h, rfl, rfl⟩
  · obtain ⟨h2, h3⟩ := idx_some h
    rw [h3]
    exact .inr ⟨_, h2, (Int.toNat_of_nonneg h).symm, rfl, rfl⟩
theorem out_find (l : List Ent) (p : Pt) : (findI l p.s < 0 ∧ outHas l p = false) ∨ ∃ n, ∃ hn : n < l.length, findI l p.s = (n : Nat) ∧ getE l p.s = l[n] ∧ (outHas l p = false ∧ ¬ p.i < (l[n].tx.outs.length : Int) ∨ outHas l p = true ∧ p.i < (l[n].tx.outs.length : Int)) := by
  unfold outHas
  rcases get_find l p.s with ⟨g1, g2, g3⟩ | ⟨n, hn, g1, g2, g3⟩
  · exact .inl ⟨g1, by rw [g2]; rfl⟩
  · refine .inr ⟨n, hn, g1, g3, ?_⟩
    rw [g2, g3]
    by_cases h : p.i < (l[n].tx.outs.length : Int)
    · exact .inr ⟨by rw [decide_eq_true h]; rfl, h⟩
    · exact .inl ⟨by rw [decide_eq_false h]; rfl, h⟩
theorem out_ne (o : TOut) : (Option.map (fun b => Value.bool (if true then !b else b)) (cellsEq [.i, .s] (outCs o) (outCs o))) = some (.bool false) := by
  simp [cellsEq, cellEq, outCs]
attribute [local irreducible] regK codeK retK KOp.wp K.Spec u32 leS vnS str zero32 sha2 encT idT sizeT checkT grantB idN stepR workL reachE findI dropG addG spendI spends

theorem inv_step {w3 w7 w8 : World} {B g : Nat} {M M7 : List Nat} {l l' : List Ent} {u u8 : Value} {e : Int} (ou : OwnR entR T.api_Entry B M w3 u l) (gr : GrR w3 g (blkOf u ++ M) l) (dj : ∀ b ∈ M, b ∉ blkOf u) (G7 : Gr w7 B g M7 l') (hb7 : ∀ b ∈ M7, b ∈ M ∨ w3.heap.size ≤ b) (hx : e ≠ 0 → Ext w3 w7)
    (hu : e ≠ 0 ∧ u8 = u ∧ l' = l ∨ OwnR entR T.api_Entry w7.heap.size M7 w8 u8 l') (x8 : Ext w7 w8) (hB : B ≤ w7.heap.size) : OwnR entR T.api_Entry B M7 w8 u8 l' ∧ GrR w8 g (blkOf u8 ++ M7) l' ∧ ∀ b ∈ M7, b ∉ blkOf u8 := by
  rcases hu with ⟨he, rfl, rfl⟩ | ho
  · have x7 := hx he
    refine ⟨(ou.step x7 (by simp) hb7).ext x8, (gr.more x7 fun b hb => ?_).ext x8, fun b hb hu => ?_⟩
    · rcases List.mem_append.1 hb with h | h
      · exact .inl (by simp [h])
      · exact (hb7 b h).imp (fun h => by simp [h]) id
    · rcases hb7 b hb with h | h
      · exact dj b h hu
      · have := ou.lt b hu; omega
  · refine ⟨ho.lower hB, G7.r.more x8 fun b hb => ?_, fun b hb hu => ?_⟩
    · rcases List.mem_append.1 hb with h | h
      · exact .inr (ho.base b h)
      · exact .inl h
    · have := G7.lt b hb; have := ho.base b hu; omega
theorem GrR.chgU {w w' : World} {B g : Nat} {M U : List Nat} {l : List Ent} (G : Gr w B g M l) (gr : GrR w g (U ++ M) l) (dj : ∀ b ∈ M, b ∉ U) (c : Chg U w w') : GrR w' g M l := by
  obtain ⟨b1, vo, b2, m, sp, P, rfl⟩ := G
  obtain ⟨b1', vo', b2', m', sp', Q⟩ := gr
  have e : [Value.map (some b1), vo, .map (some b2)] = [.map (some b1'), vo', .map (some b2')] := by
    have h1 := P.at_
    have h2 := Q.at_
    unfold At at h1 h2
    rw [h1] at h2
    simpa using h2
  simp only [List.cons.injEq, Value.map.injEq, Option.some.injEq, and_true] at e
  obtain ⟨rfl, rfl, rfl⟩ := e
  refine ⟨b1, vo, b2, m', sp', Q.at_.chg c (dj g (by simp)), Q.ents.step c (dj b1 (by simp)) (fun b hb => .inl (by simp [hb])) (fun b hb => .inl (List.mem_append_right _ hb)), Q.pts.chg c (dj b2 (by simp)), Own.sl (P.ord.chg c fun b hb h => dj b (by simp [hb]) h), Q.inv⟩
set_option maxHeartbeats 4000000 in
theorem plays_law {v : Value} {sc : List ActG} (p : Pt) (hp : is32 p.i) (w : World) (hs : SlR actR [] w v sc) : K.Spec Tryz.prog F.kedgelaw14_GraphPlays [v, .agg p.cs.toArray] w fun r w' => r = .bool true ∧ Ext w w' := by
  refine s_kedgelaw14_GraphPlays rfl ?_
  unfold k_kedgelaw14_GraphPlays
  refine ox ?_
  repeat' (first|(refine st_takeR (d := some 35) (E := actR) (n := min sc.length 25) rfl rfl (by omega) hs (by omega) rfl (fun v' hv => ?_))|(first|refine go1 ?_|refine zg (fun _ _=>?_)|refine zi (fun _ _=>?_))|(refine zD rfl rfl (fun bp wp xp ap (rp : Row wp ⟨bp, 0, none⟩ p.cs) hbp=>?_))|(refine zC rfl (new_spec _) ?_; rintro _ w1 ⟨g, M1, rfl, G1, x1⟩)|(refine zG (E := actR) (M := []) (l := sc) rfl (SlR.ext hs (by exact fx)) ?_)|(refine zG (d := some 36) (E := actR) (M := []) (l := sc.take (min sc.length 25)) rfl (SlR.ext hv (by exact fx)) ?_)|(refine st_min rfl rfl ?_))
  have hSl : (sc.take (min sc.length 25)).length ≤ 25 := by rw [List.length_take]; omega
  generalize sc.take (min sc.length 25) = S at *
  have sp := xp.size
  have lbp := ap.lt
  repeat' (first|(first|refine go1 ?_|refine zg (fun _ _=>?_)|refine zi (fun _ _=>?_))|(refine zL rfl (fun h => ?_) (fun h => ?_))|(refine c_loopV (fun (q : Nat × List Ent × List Nat × Value) w' => Ext wp w' ∧ q.1 ≤ S.length ∧ q.2.1.length ≤ q.1 ∧ Gr w' wp.heap.size g q.2.2.1 q.2.1 ∧ OwnR entR T.api_Entry wp.heap.size q.2.2.1 w' q.2.2.2 q.2.1 ∧ GrR w' g (blkOf q.2.2.2 ++ q.2.2.1) q.2.1 ∧ ∀ b ∈ q.2.2.1, b ∉ blkOf q.2.2.2) (fun q => [(3, .pointer (some ⟨bp, 0, none⟩)), (5, .pointer (some ⟨g, 0, none⟩)), (6, q.2.2.2), (35, v'), (36, .int .i64 (S.length : Nat)), (37, .int .i64 q.1)]) (fun q => S.length - q.1) (0, [], M1, .slice none 0 0) ⟨rfl, rfl, rfl, rfl, rfl, rfl, trivial⟩ ⟨x1, by simp, by simp, G1, OwnR.nil _ _ _ _, G1.r, by simp [blkOf]⟩ ?_; rintro ⟨i, l, M, u⟩ ρ w3 ⟨x3, hi, hli, G3, u3, gr3, dj3⟩; simp only at hi hli G3 u3 gr3 dj3; dsimp only; have hM3 := G3.lt; have hB3 := G3.base))
  · clear G1 x1
    have hil : i < S.length := by omega
    have hid32 : ∀ x ∈ l, x.id.size = 32 := fun x hx => by rw [(G3.ok x hx).id]; exact idT_size _
    refine st_elemR (d := some 39) (E := actR) (M := M) rfl rfl (n := i) (l := S) (hv.step (xp.trans x3) (by simp) (fun b hb => .inr (Nat.le_trans sp (hB3 b hb)))) rfl hil (fun ad cs r4 he => ?_)
    have hact := he
    obtain ⟨fv, iv, ov, rfl, q1, q2, q3, q4, q5, q6, q7, q8⟩ := he
    have i1 := q1.one
    have i2 := q2.one
    have i3 := q3.one
    generalize S[i] = a at *
    have s3 := x3.size
    have rp3 := rp.ext x3
    have su3 : SlR entR M w3 u l := u3.sl dj3
    repeat' (first|(first|refine go1 ?_|refine zg (fun _ _=>?_)|refine zi (fun _ _=>?_))|(refine zE (d' := 8) (fun _=>rfl) rfl rfl (by simp [actCs, i1, i2, i3]; exact ⟨rfl, rfl, rfl, rfl, rfl, rfl, rfl, rfl, rfl, rfl⟩) (fun b9 w9 x9 (a9 : At w9 b9 (.cells (actCs a fv iv ov).toArray T.kedgelaw14_Act (0, 0))) (r9 : Row w9 ⟨b9, 0, none⟩ (actCs a fv iv ov)) hb9=>?_))|(refine zL rfl (fun h7 => ?_) (fun h7 => ?_)))
    · have s9 := x9.size
      have x39 := x9
      have l9 := a9.lt
      have fin : ∀ (sid : ByteArray) (w5 w7 w8 w10 : World) (M7 : List Nat) (u8 : Value), Ext w3 w5 → Gr w7 wp.heap.size g M7 (dropG l sid).1 → Chg M w5 w7 → (∀ b ∈ M7, b ∈ M ∨ w5.heap.size ≤ b) → ((dropG l sid).2 ≠ 0 → Ext w5 w7) → ((dropG l sid).2 ≠ 0 ∧ u8 = u ∧ (dropG l sid).1 = l ∨ OwnR entR T.api_Entry w7.heap.size M7 w8 u8 (dropG l sid).1) → Ext w7 w8 → Ext w8 w10 →
          Ext wp w10 ∧ i + 1 ≤ S.length ∧ (dropG l sid).1.length ≤ i + 1 ∧ Gr w10 wp.heap.size g M7 (dropG l sid).1 ∧ OwnR entR T.api_Entry wp.heap.size M7 w10 u8 (dropG l sid).1 ∧ GrR w10 g (blkOf u8 ++ M7) (dropG l sid).1 ∧ ∀ b ∈ M7, b ∉ blkOf u8 := by
        intro sid w5 w7 w8 w10 M7 u8 x5 G7 c7 hb7 hx7 hu8 x8 x10
        have s5 := x5.size
        have s7 := c7.size
        have hdl := @dropG_le l sid
        obtain ⟨k1, k2, k3⟩ := inv_step (u3.ext x5) (gr3.ext x5) dj3 G7 hb7 hx7 hu8 x8 (by omega)
        exact ⟨Ext.trans (w2 := w10) (show Ext wp w7 from (Ext.chg (x3.trans x5) c7).mono (fun b hb => .inr (hB3 b hb))) (x8.trans x10), by omega, by omega, (G7.ext x8).ext x10, k1.ext x10, k2.ext x10, k3⟩
      repeat' (first|(refine st_fixV (d := some 53) (.int .i64 (a.which.toNat : Nat)) rfl (congrArg (fun n => some (Value.int .i64 n)) (wrap_u8 a.which)) ?_)|(refine st_rem (d := some 56) (n := a.which.toNat) (m := l.length) rfl rfl (by omega) ?_)|(first|refine go1 ?_|refine zg (fun _ _=>?_)|refine zi (fun _ _=>?_))|(refine zL rfl (fun h8 => ?_) (fun h8 => ?_))|(refine zG (E := entR) (M := M) (l := l) rfl (SlR.ext su3 (by exact fx)) ?_)|(have hkl : a.which.toNat % l.length < l.length := Nat.mod_lt _ (by omega); refine st_elemR (d := some 57) (E := entR) (M := M) rfl rfl (n := a.which.toNat % l.length) (l := l) (SlR.ext su3 (by exact fx)) rfl hkl (fun ad cs r5 he => ?_); obtain ⟨iv9, ov9, rfl, -⟩ := he)|(refine zC rfl (gdrop_own (M := M) (l := l) _ _ (G3.ext (by exact fx)) (by omega)) ?_; rintro _ w7 ⟨M7, rfl, G7, c7, hb7, hx7⟩; have su7 : SlR entR M7 w7 u l := (SlR.ext su3 x39).step c7 (fun b hb => .inl hb) hb7)|(refine zC rfl (rdrop_own (M := M7) (l := l) _ _ su7 (by omega)) ?_; rintro _ w8 ⟨u8, rfl, hu8, x8⟩)|(refine zN rfl (fun h => absurd rfl h) (fun _ => ?_)))
      all_goals
        have h70 := fin _ _ _ _ _ _ _ (Ext.trans x9 (by exact fx)) G7 c7 hb7 hx7 hu8 x8 (Ext.refl _)
        have hM7 := G7.lt
        have sz8 := x8.size
        refine zC rfl (gsame_spec (M := M7) (N := M7) _ (G7.r.ext x8) (fun b hb => Nat.lt_of_lt_of_le (hM7 b hb) sz8) (h70.2.2.2.2.1.sl h70.2.2.2.2.2.2) (by have := h70.2.2.1; omega)) ?_
        rintro _ w10 ⟨rfl, x10⟩
        repeat' (first|refine go1 ?_|refine zg (fun _ _=>?_)|refine zi (fun _ _=>?_))
        exact ⟨(i + 1, _, M7, u8), ⟨rfl, rfl, rfl, rfl, rfl, rfl, trivial⟩, fin _ _ _ _ _ _ _ (Ext.trans x9 (by exact fx)) G7 c7 hb7 hx7 hu8 x8 x10, by simp; omega⟩
    · repeat' (first|(first|refine go1 ?_|refine zg (fun _ _=>?_)|refine zi (fun _ _=>?_))|(refine zC rfl (of_spec (M := M) (l := l) (cs := actCs a fv iv ov) (a := a) _ (SlR.ext su3 (by exact fx)) (R.ext hact (by exact fx)) (by omega) hid32 (fun b hb => Nat.lt_of_lt_of_le (hM3 b hb) (Ext.size (by exact fx)))) ?_; rintro _ w5 ⟨ds, t, rfl, ho, hsm, x5⟩))
      have s9 := x9.size
      have s5 := x5.size
      have hMo : ∀ b ∈ M, b < w9.heap.size := fun b hb => by have := hM3 b hb; omega
      have t5 : txR.rel M w5 ds t := txO.rel ho hMo
      have o1 := ho.one
      obtain ⟨iv5, ov5, rfl, -⟩ := ho
      refine zE (d' := 13) (fun _=>rfl) rfl rfl o1 (fun b6 w6 x6 (a6 : At w6 b6 (.cells (txCs t iv5 ov5).toArray T.api_Tx (0, 0))) r6 hb6=>?_)
      have s6 := x6.size
      have l9 := a9.lt
      have l6 := a6.lt
      have a96 := a9.ext (x5.trans x6)
      have r96 : Row w6 ⟨b9, 0, none⟩ (actCs a fv iv ov) := Row.of_at a96
      have t6 : txR.rel M w6 (txCs t iv5 ov5) t := R.ext t5 x6
      have x36 := (x9.trans x5).trans x6
      have G6 := G3.ext x36
      have u6 := su3.ext x36
      have hM6 : ∀ b ∈ M, b < w6.heap.size := fun b hb => by have := hM3 b hb; omega
      have n9 : b9 ∉ M := fun h => by have := hM3 _ h; omega
      have n6 : b6 ∉ M := fun h => by have := hM3 _ h; omega
      have hok := G6.ok
      have hu3' := u3.ext x36
      have hg3' := gr3.ext x36
      have x06 : Ext wp w6 := x3.trans x36
      clear x9 x5 x6 a9 r9 t5 hact q1 q2 q3 rp3
      repeat' (first|(first|refine go1 ?_|refine zg (fun _ _=>?_)|refine zi (fun _ _=>?_))|(refine zC rfl (gadd_own (M := M) (N := M) (cs := txCs t iv5 ov5) (t := t) a.small.fee _ G6 t6 hsm q4 hM6 (fun _ h => h) (by omega)) ?_; rintro _ w7 ⟨M7, rfl, G7, c7, hb7, hx7⟩; have t7 : txR.rel M7 w7 (txCs t iv5 ov5) t := txR.step t6 c7 (fun b hb => .inl hb) hb7; have u7 : SlR entR M7 w7 u l := u6.step c7 (fun b hb => .inl hb) hb7; have r97 : Row w7 ⟨b9, 0, none⟩ (actCs a fv iv ov) := Row.of_at (a96.chg c7 n9); have r67 : Row w7 ⟨b6, 0, none⟩ (txCs t iv5 ov5) := Row.of_at (a6.chg c7 n6))|(refine zC rfl (radd_own (M := M7) (l := l) (cs := txCs t iv5 ov5) (t := t) a.small.fee _ u7 t7 hsm q4 (by omega) hok) ?_; rintro _ w8 ⟨u8, rfl, hu8, x8⟩)|(refine zN rfl (fun h => absurd rfl h) (fun _ => ?_)))
      have hla := @addG_le l t a.small.fee
      have s7 := c7.size
      obtain ⟨k1, k2, k3⟩ := inv_step hu3' hg3' dj3 G7 hb7 hx7 hu8 x8 (by have := x06.size; omega)
      generalize (addG l t a.small.fee).1 = l' at *
      have hM7 := G7.lt
      have sz8 := x8.size
      have x08 : Ext wp w8 := Ext.trans (show Ext wp w7 from (Ext.chg x06 c7).mono (fun b hb => .inr (hB3 b hb))) x8
      refine zC rfl (gsame_spec (M := M7) (N := M7) _ (G7.r.ext x8) (fun b hb => Nat.lt_of_lt_of_le (hM7 b hb) sz8) (k1.sl k3) (by omega)) ?_
      rintro _ w10 ⟨rfl, x10⟩
      repeat' (first|refine go1 ?_|refine zg (fun _ _=>?_)|refine zi (fun _ _=>?_))
      exact ⟨(i + 1, l', M7, u8), ⟨rfl, rfl, rfl, rfl, rfl, rfl, trivial⟩, ⟨x08.trans x10, by simp; omega, by simp only; omega, (G7.ext x8).ext x10, k1.ext x10, k2.ext x10, k3⟩, by simp; omega⟩
  · have ei : i = S.length := by omega
    clear hv h G1 x1
    have rp3 := rp.ext x3
    have su3 : SlR entR M w3 u l := u3.sl dj3
    have s3 := x3.size
    have hl3 : l.length ≤ 25 := by omega
    repeat' (first|(first|refine go1 ?_|refine zg (fun _ _=>?_)|refine zi (fun _ _=>?_))|(refine zI (d := some 105) (cs := inCs ⟨p, 0, []⟩ (.slice none 0 0)) rfl (fun b4 w4 x4 a4 hb4 => ?_))|(refine zI (d := some 108) (cs := entCs ⟨⟨0, [⟨p, 0, []⟩], [], 0⟩, p.s, 0, 0⟩ (.slice (some ⟨b4, 0, none⟩) 1 1) (.slice none 0 0)) rfl (fun b5 w5 x5 a5 hb5 => ?_)))
    have n4 : b4 ∉ blkOf u ++ M := fun h => by
      rcases List.mem_append.1 h with h | h
      · have := u3.lt _ h; omega
      · have := hM3 _ h; omega
    have i4 : SlR inR (blkOf u ++ M) w5 (.slice (some ⟨b4, 0, none⟩) 1 1) [⟨p, 0, []⟩] := SlR.one1 (a4.ext x5) ⟨_, rfl, SlR.nil _ _, hp, is32_0⟩ n4
    refine st_append1O (d := some 109) (E := entR) (M := M) (v := u) (l := l) (cs := entCs ⟨⟨0, [⟨p, 0, []⟩], [], 0⟩, p.s, 0, 0⟩ (.slice (some ⟨b4, 0, none⟩) 1 1) (.slice none 0 0)) (a := ⟨⟨0, [⟨p, 0, []⟩], [], 0⟩, p.s, 0, 0⟩) rfl rfl (u3.ext (x4.trans x5)) (Nat.le_trans s3 (Nat.le_trans x4.size x5.size)) rfl rfl a5 ⟨_, _, rfl, i4, SlR.nil _ _, is32_0, is32_0, is64_0, is64_0⟩ (by omega) (fun va wa oa hold ca hba => ?_)
    have xa : Ext wp wa := (Ext.chg (x3.trans (x4.trans x5)) ca).mono (fun b hb => .inr (u3.base b hb))
    have ua := hold dj3
    have ga := GrR.chgU (G3.ext (x4.trans x5)) (gr3.ext (x4.trans x5)) dj3 ca
    have hMa : ∀ b ∈ M, b < wa.heap.size := fun b hb => by have := hM3 b hb; have := x4.size; have := x5.size; have := ca.size; omega
    have va1 : SlR entR M wa va (l ++ [⟨⟨0, [⟨p, 0, []⟩], [], 0⟩, p.s, 0, 0⟩]) := oa.sl fun b hb hv => by
      rcases hba b hv with h | h
      · exact dj3 b hb h
      · have := hM3 b hb; have := x4.size; have := x5.size; omega
    have hsm : ∀ x ∈ l, x.tx.ins.length ≤ 100000000 := fun x hx => by have := (chk_sm (ga.ok x hx).check).ins; omega
    have hLi : ∀ x ∈ l ++ [(⟨⟨0, [⟨p, 0, []⟩], [], 0⟩, p.s, 0, 0⟩ : Ent)], x.tx.ins.length ≤ 1000 := fun x hx => by
      rcases List.mem_append.1 hx with h | h
      · exact (chk_sm (ga.ok x h).check).ins
      · simp only [List.mem_singleton] at h; subst h; simp
    clear hold ca hba oa i4 n4 a4 a5 x4 x5 su3 dj3 gr3 u3 G3 x3 hM3 hB3 rp3
    generalize hL : l ++ [(⟨⟨0, [⟨p, 0, []⟩], [], 0⟩, p.s, 0, 0⟩ : Ent)] = L at va1 hLi
    have hLl : L.length ≤ 26 := by rw [← hL]; simp; omega
    have xwa : Ext w wa := xp.trans xa
    clear xa xp ap rp
    repeat' (first|(first|refine go1 ?_|refine zg (fun _ _=>?_)|refine zi (fun _ _=>?_))|(refine zL rfl (fun h => ?_) (fun h => ?_))|(refine zG (E := entR) (M := M) (l := L) rfl (SlR.ext va1 (by exact fx)) ?_)|(refine c_loopV (fun (k : Nat) w' => Ext wa w' ∧ k ≤ L.length) (fun k => [(5, .pointer (some ⟨g, 0, none⟩)), (6, u), (109, va), (110, .int .i64 (L.length : Nat)), (111, .int .i64 k)]) (fun k => L.length - k) 0 ⟨rfl, rfl, rfl, rfl, rfl, trivial⟩ ⟨Ext.refl _, Nat.zero_le _⟩ ?_; rintro k ρ w3 ⟨x3, hk⟩)|(have hkl : k < L.length := (by omega); refine st_elemR (d := some 113) (E := entR) (M := M) rfl rfl (n := k) (l := L) (SlR.ext va1 (by exact fx)) rfl hkl (fun ad cs r4 he => ?_); have hent := he; obtain ⟨iv, ov, rfl, q1, q2, q3⟩ := he; have hxl := hLi _ (List.getElem_mem hkl); generalize L[k] = x at *; have i1 := q1.one; have i2 := q2.one)|(refine zE (d' := 18) (fun _=>rfl) rfl rfl (by simp [entCs, i1, i2]; exact ⟨rfl, rfl, rfl, rfl, rfl⟩) (fun b7 w7 x7 a7 (r7 : Row w7 ⟨b7, 0, none⟩ (entCs x iv ov)) hb7=>?_))|(refine zC rfl (find_spec (M := M) (l := l) _ _ (SlR.ext ua (by exact fx)) (by omega)) ?_; rintro _ w8 ⟨rfl, hw8⟩; rw [hw8]; clear hw8 w8)|(refine zC rfl (get_spec (M := M) (l := l) _ _ (ga.ext (by exact fx)) (fun b hb => Nat.lt_of_lt_of_le (hMa b hb) (Ext.size (by exact fx)))) ?_; rintro _ w9 ⟨ds, rfl, hy, x9⟩))
    · have hy0 := hy
      obtain ⟨iv2, ov2, rfl, o1, o2, o3⟩ := hy
      have j1 := o1.one
      have j2 := o2.one
      have x39 := x7.trans x9
      have c7 : At w9 b7 (.cells (entCs x iv ov).toArray T.api_Entry (0, 0)) := a7.ext x9
      clear hy0 o1 o2 o3 r7 a7 x7 x9 r4
      refine zE (d' := 20) (fun _=>rfl) rfl rfl (by simp [entCs, j1, j2]; exact ⟨rfl, rfl, rfl, rfl, rfl⟩) (fun b8 w8 x8 a8 (r8 : Row w8 ⟨b8, 0, none⟩ (entCs (getE l x.id) iv2 ov2)) hb8=>?_)
      have r78 : Row w8 ⟨b7, 0, none⟩ (entCs x iv ov) := Row.of_at (c7.ext x8)
      have x38 := x39.trans x8
      clear x39 x8 c7 a8
      have ub := SlR.ext ua (x3.trans x38)
      have gb := ga.ext (x3.trans x38)
      have hMb : ∀ b ∈ M, b < w8.heap.size := fun b hb => Nat.lt_of_lt_of_le (hMa b hb) (Ext.size (x3.trans x38))
      have qb := SlR.ext q1 x38
      clear q1 q2 hent
      repeat' (first|(refine c_cutV (a := .seq (.reg true (.join (.cons ⟨some 126, _, _⟩ _) _)) _) (fun (_ : Unit) w' => Ext w8 w') (fun _ => [(5, .pointer (some ⟨g, 0, none⟩)), (6, u), (18, .pointer (some ⟨b7, 0, none⟩)), (109, va), (110, .int .i64 (L.length : Nat)), (111, .int .i64 k)]) ?_ ?_; (rcases get_find l x.id with ⟨g1, g2, g3⟩ | ⟨n, hn, g1, g2, g3⟩); all_goals (try simp only [g2]); all_goals (try simp only [g1]); all_goals (try rw [g3] at r8))|(refine c_cutV (a := .seq (.reg false (.cons ⟨some 171, _, _⟩ _)) _) (fun (_ : Unit) w' => Ext w13 w') (fun _ => [(5, .pointer (some ⟨g, 0, none⟩)), (6, u), (18, .pointer (some ⟨b7, 0, none⟩)), (109, va), (110, .int .i64 (L.length : Nat)), (111, .int .i64 k), (23, .pointer (some ⟨bi, 0, none⟩)), (154, iv), (155, .int .i64 (x.tx.ins.length : Nat)), (156, .int .i64 j)]) ?_ ?_; (rcases sp_find l y.p with ⟨s1, s2, s3⟩ | ⟨n2, hn2, s1, s2, s3⟩); all_goals (try simp only [s2, s3]); all_goals (try simp only [s1]))|(refine st_bin (d := some 208) (v := .bool false) rfl rfl (congrArg (fun b => some (Value.bool b)) (decide_eq_false (by omega))) ?_)|(refine st_bin (d := some 208) (v := .bool true) rfl rfl (congrArg (fun b => some (Value.bool b)) (decide_eq_true (by omega))) ?_)|(refine st_fixV (d := some 213) (.int .i64 y.p.i) rfl (congrArg (fun n => some (Value.int .i64 n)) (wrap_i hp5)) ?_)|(refine st_elemR (d := some 217) (E := entR) (M := M) rfl rfl (n := n3) (l := l) (SlR.ext ub (by exact fx)) rfl hn3 (fun ad cs r5 he => ?_); obtain ⟨iv9, ov9, rfl, -, qo, -⟩ := he)|(refine zG (d := some 221) (E := outR) (M := M) (l := l[n3].tx.outs) rfl (SlR.ext qo (by exact fx)) ?_)|(refine st_bin (d := some 222) (v := .bool false) rfl rfl (congrArg (fun b => some (Value.bool b)) (decide_eq_false hlt)) ?_)|(refine st_bin (d := some 222) (v := .bool true) rfl rfl (congrArg (fun b => some (Value.bool b)) (decide_eq_true hlt)) ?_)|(refine st_elemR (d := some 233) (E := entR) (M := M) rfl rfl (n := n3) (l := l) (SlR.ext ub (by exact fx)) rfl hn3 (fun ad cs r6 he => ?_); obtain ⟨iv8, ov8, rfl, -, qo8, -⟩ := he)|(refine st_elemR (d := some 240) (E := outR) (M := M) rfl (n := y.p.i.toNat) (congrArg (Value.int .u32) (by unfold is32 at hp5; omega)) (l := l[n3].tx.outs) (SlR.ext qo8 (by exact fx)) rfl (by omega) (fun ad cs r7 he => ?_); obtain ⟨rfl, -⟩ := he; have ho2 := ho e; rw [List.getElem?_eq_getElem (by omega)] at ho2; injection ho2 with ho2; rw [ho2] at r7)|(refine st_fixV (d := some 242) (.bool false) rfl (out_ne o) ?_)|(exact ⟨(), ⟨rfl, rfl, rfl, rfl, rfl, rfl, rfl, rfl, rfl, rfl, trivial⟩, by exact fx⟩)|(refine st_bin (d := some 184) (v := .bool false) rfl rfl (congrArg (fun b => some (Value.bool b)) (by simp)) ?_)|(refine st_elemR (d := some 181) (E := entR) (M := M) rfl rfl (n := n2) (l := l) (SlR.ext ub (by exact fx)) rfl hn2 (fun ad cs r5 he => ?_); obtain ⟨iv9, ov9, rfl, -⟩ := he)|(refine st_bin (d := some 173) (v := .bool true) rfl rfl (congrArg (fun b => some (Value.bool b)) (decide_eq_true (by omega))) ?_)|(refine st_bin (d := some 192) (v := .bool false) rfl rfl rfl ?_)|(refine st_bin (d := some 173) (v := .bool false) rfl rfl (congrArg (fun b => some (Value.bool b)) (decide_eq_false (by omega))) ?_)|(rintro ⟨⟩ ρ2 w10 x10; clear r8; try dsimp only)|(refine st_bin (d := some 128) (v := .bool false) rfl rfl (congrArg (fun b => some (Value.bool b)) (decide_eq_false (by omega))) ?_)|(refine st_bin (d := some 149) (v := .bool false) rfl rfl rfl ?_)|(refine st_bin (d := some 128) (v := .bool true) rfl rfl (congrArg (fun b => some (Value.bool b)) (decide_eq_true (by omega))) ?_)|(refine st_elemR (d := some 137) (E := entR) (M := M) rfl rfl (n := n) (l := l) (SlR.ext ub (by exact fx)) rfl hn (fun ad cs r5 he => ?_); obtain ⟨iv9, ov9, rfl, -⟩ := he)|(refine st_bin (d := some 140) (v := .bool false) rfl rfl (congrArg (fun b => some (Value.bool b)) (by simp)) ?_)|(exact ⟨(), ⟨rfl, rfl, rfl, rfl, rfl, rfl, trivial⟩, by exact fx⟩)|(first|refine go1 ?_|refine zg (fun _ _=>?_)|refine zi (fun _ _=>?_))|(refine zL rfl (fun h => ?_) (fun h => ?_))|(refine zG (E := inR) (M := M) (l := x.tx.ins) rfl (SlR.ext qb (by exact fx)) ?_)|(refine c_loopV (fun (j : Nat) w' => Ext w8 w' ∧ j ≤ x.tx.ins.length) (fun j => [(5, .pointer (some ⟨g, 0, none⟩)), (6, u), (18, .pointer (some ⟨b7, 0, none⟩)), (109, va), (110, .int .i64 (L.length : Nat)), (111, .int .i64 k), (154, iv), (155, .int .i64 (x.tx.ins.length : Nat)), (156, .int .i64 j)]) (fun j => x.tx.ins.length - j) 0 ⟨rfl, rfl, rfl, rfl, rfl, rfl, rfl, rfl, rfl, trivial⟩ ⟨by exact fx, Nat.zero_le _⟩ ?_; clear x10; rintro j ρ3 w11 ⟨x11, hj⟩)|(have hjl : j < x.tx.ins.length := (by omega); refine st_elemR (d := some 158) (E := inR) (M := M) rfl rfl (n := j) (l := x.tx.ins) (SlR.ext qb (by exact fx)) rfl hjl (fun ad cs r4 he => ?_); obtain ⟨wv, rfl, hwi, hp5, hp6⟩ := he; generalize x.tx.ins[j] = y at *; have k1 := hwi.one)|(refine zE (d' := 23) (fun _=>rfl) rfl rfl (by simp [inCs, k1]; exact ⟨rfl, rfl, rfl⟩) (fun bi wi xi ai (ri : Row wi ⟨bi, 0, none⟩ (inCs y wv)) hbi=>?_))|(refine zC rfl (spender_spec (M := M) (l := l) y.p _ (gb.ext (by exact fx))) ?_; rintro _ w12 ⟨rfl, x12⟩)|(refine zC rfl (rspender_spec (M := M) (l := l) y.p _ (SlR.ext ub (by exact fx)) (by omega) hsm) ?_; rintro _ w13 ⟨rfl, x13⟩)|(rintro ⟨⟩ ρ4 w16 x16; try dsimp only)|(refine zC rfl (out_spec (M := M) (l := l) y.p hp5 _ (gb.ext (by exact fx)) (fun b hb => Nat.lt_of_lt_of_le (hMb b hb) (Ext.size (by exact fx)))) ?_; rintro _ w14 ⟨o, rfl, ho, x14⟩)|(refine zE (d' := 27) (fun _=>rfl) rfl rfl rfl (fun bo wo xo ao (ro : Row wo ⟨bo, 0, none⟩ (outCs o)) hbo=>?_))|(refine zC rfl (find_spec (M := M) (l := l) y.p.s _ (SlR.ext ub (by exact fx)) (by omega)) ?_; rintro _ w15 ⟨rfl, hw15⟩; rw [hw15]; clear hw15 w15; (have hp9 : 0 ≤ y.p.i ∧ y.p.i < 4294967296 := hp5); (rcases out_find l y.p with ⟨g1, e⟩ | ⟨n3, hn3, g1, g3, ⟨e, hlt⟩ | ⟨e, hlt⟩⟩); all_goals (try rw [e]); all_goals (try rw [g1]); all_goals (try rw [g3] at ho)))
      all_goals first
        | exact ⟨j + 1, ⟨rfl, rfl, rfl, rfl, rfl, rfl, rfl, rfl, rfl, trivial⟩, ⟨by exact fx, by omega⟩, by omega⟩
        | exact ⟨k + 1, ⟨rfl, rfl, rfl, rfl, rfl, trivial⟩, ⟨x3.trans (x38.trans x11), by omega⟩, by omega⟩
    · repeat' (first|(first|refine go1 ?_|refine zg (fun _ _=>?_)|refine zi (fun _ _=>?_))|(refine zC rfl (wakes14_spec _) ?_; rintro _ w9 ⟨rfl, x9⟩))
      exact x_ret rfl ⟨rfl, by exact fx⟩
end Go.Proofs.YtfeifodeaphbjaaGreat
end
