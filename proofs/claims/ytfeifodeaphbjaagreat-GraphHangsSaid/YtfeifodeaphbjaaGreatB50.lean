/- The walk of GraphHangs. -/
import Derived.Test.YtfeifodeaphbjaaGreatB47
import Derived.Test.YtfeifodeaphbjaaGreatB49
section
namespace Go.Proofs.YtfeifodeaphbjaaGreat
open Go Go.K
attribute [local irreducible] regK codeK retK KOp.wp K.Spec u32 leS vnS str zero32 sha2 encT idT sizeT checkT grantB idN stepR workL reachE findI dropG addG aboveL belowL inS idsOf feeD sizeD

theorem OwnR.new1 {α : Type} {E : R α} {M : List Nat} {w : World} {B b : Nat} {t : TypeId} {cs : List Value} {a : α} (h : At w b (.cells cs.toArray t (0, 0))) (hr : E.rel ([b] ++ M) w cs a) (hB : B ≤ b) : OwnR E t B M w (.slice (some ⟨b, 0, none⟩) 1 1) [a] := by
  have e : (vecE E.k E.pos).flat [R.vec hr] ++ [] = cs := by show (cs ++ []) ++ [] = cs; simp
  refine ⟨[R.vec hr], .inr ⟨b, 1, [], rfl, hB, ?_, ?_⟩, .cons hr .nil⟩
  · rw [e]; exact h
  · rw [e, E.len hr]; exact (Nat.one_mul _).symm
set_option maxHeartbeats 4000000 in
theorem hangs_law {v : Value} {cs : List Value} {sc : List ActG} {t : Tx} (other : ByteArray) (w : World) (hs : SlR actR [] w v sc) (ht : txR.rel [] w cs t) (hr : t.Raw) : K.Spec Tryz.prog F.kedgelaw14_GraphHangs [v, .agg cs.toArray, .string other] w fun r w' => r = .bool true ∧ Ext w w' := by
  have ht0 := ht
  obtain ⟨iv, ov, rfl, -⟩ := ht
  refine s_kedgelaw14_GraphHangs rfl ?_
  unfold k_kedgelaw14_GraphHangs
  refine ox ?_
  repeat' (first|(first|refine go1 ?_|refine zg (fun _ _=>?_)|refine zi (fun _ _=>?_))|(refine zD rfl rfl (fun b4 w1 x1 a1 (r1 : Row w1 ⟨b4, 0, none⟩ (txCs t iv ov)) hb4=>?_))|(refine zC rfl (filled_spec 14 _ (SlR.ext hs (by exact fx)) (by decide)) ?_; rintro _ w2 ⟨g, M, u, l, rfl, G2, hu, hl, x2⟩))
  have hM2 := G2.lt
  have hB2 := G2.base
  have hok := G2.ok
  have hnd := G2.nodup
  have GR := G2.r
  have x02 : Ext w w2 := x1.trans x2
  have s1 := x1.size
  have s2 := x2.size
  have r2 := r1.ext x2
  have t2 : txR.rel M w2 (txCs t iv ov) t := txR.step ht0 x02 (by simp) (fun b hb => .inr (by have := hB2 b hb; have := hM2 b hb; omega))
  clear G2 x1 x2 r1 a1 ht0
  repeat' (first|(first|refine go1 ?_|refine zg (fun _ _=>?_)|refine zi (fun _ _=>?_))|(refine zC rfl (gsame_spec (M := M) (N := M) (l := l) _ (GR.ext (by exact fx)) (fun b hb => Nat.lt_of_lt_of_le (hM2 b hb) (Ext.size (by exact fx))) (SlR.ext hu (by exact fx)) (by omega)) ?_; rintro _ w3 ⟨rfl, x3⟩)|(refine zC rfl (cut_spec (M := M) (cs := txCs t iv ov) (t := t) 4 _ (R.ext t2 (by exact fx)) hr (by decide) (fun b hb => Nat.lt_of_lt_of_le (hM2 b hb) (Ext.size (by exact fx)))) ?_; rintro _ w4 ⟨ds, t', rfl, ho, hc, x4⟩))
  have hM3 : ∀ b ∈ M, b < w3.heap.size := fun b hb => Nat.lt_of_lt_of_le (hM2 b hb) x3.size
  have x24 := x3.trans x4
  have hsm' := cut_sm hc (by decide)
  have t4 : txR.rel M w4 ds t' := txO.rel ho hM3
  obtain ⟨iv4, ov4, rfl, -⟩ := ho
  repeat' (first|(first|refine go1 ?_|refine zg (fun _ _=>?_)|refine zi (fun _ _=>?_))|(refine zI (d := some 36) (cs := txCs t' iv4 ov4) rfl (fun b5 w5 x5 a5 hb5 => ?_))|(refine zG (E := entR) (M := M) (l := l) rfl (SlR.ext hu (by exact fx)) ?_))
  have x25 := x24.trans x5
  have s25 := x25.size
  have s24 := x24.size
  have o5 : OwnR txR T.api_Tx w2.heap.size M w5 (.slice (some ⟨b5, 0, none⟩) 1 1) [t'] := OwnR.new1 a5 (txR.step t4 x5 (by simp) (fun b hb => by simp only [List.mem_append, List.mem_singleton] at hb; rcases hb with rfl | hb; exact .inr (by omega); exact .inl hb)) (by omega)
  have hTX : ∀ i, ∀ y ∈ ([t'] ++ (l.take i).map (·.tx)), y.Sm := fun i y hy => by
    rcases List.mem_append.1 hy with h | h
    · simp only [List.mem_singleton] at h; subst h; exact hsm'
    · obtain ⟨x, hx, rfl⟩ := List.mem_map.1 h
      exact chk_sm (hok x (List.mem_of_mem_take hx)).check
  have hTl : ∀ i, ([t'] ++ (l.take i).map (·.tx)).length ≤ 15 := fun i => by simp; omega
  clear x3 x4 x5 t4 t2 a5 x24
  repeat' (first|(first|refine go1 ?_|refine zg (fun _ _=>?_)|refine zi (fun _ _=>?_))|(refine zL rfl (fun h => ?_) (fun h => ?_))|(refine c_loopV (fun (p : Nat × Value) w' => Ext w2 w' ∧ p.1 ≤ l.length ∧ OwnR txR T.api_Tx w2.heap.size M w' p.2 ([t'] ++ (l.take p.1).map (·.tx))) (fun p => [(2, .string other), (7, .pointer (some ⟨g, 0, none⟩)), (8, u), (9, p.2), (37, u), (38, .int .i64 (l.length : Nat)), (39, .int .i64 p.1)]) (fun p => l.length - p.1) (0, .slice (some ⟨b5, 0, none⟩) 1 1) ⟨rfl, rfl, rfl, rfl, rfl, rfl, rfl, trivial⟩ ⟨x25, by simp, o5⟩ ?_; rintro ⟨i, vt⟩ ρ w3 ⟨x3, hi, ho⟩; simp only at hi ho; dsimp only))
  · have hil : i < l.length := by omega
    have hN : ∀ b ∈ blkOf vt ++ M, b ∈ M ∨ w2.heap.size ≤ b := mem_app ho.base
    have hBv := ho.base
    have u3 : SlR entR (blkOf vt ++ M) w3 u l := SlR.step hu x3 (by simp) hN
    refine st_elemR (d := some 41) (E := entR) (M := blkOf vt ++ M) rfl rfl (n := i) (l := l) u3 rfl hil (fun ad cs r4 he => ?_)
    obtain ⟨iv6, ov6, rfl, q1, q2, q3⟩ := he
    have i1 := q1.one
    have i2 := q2.one
    have hTi := hTl i
    repeat' (first|(first|refine go1 ?_|refine zg (fun _ _=>?_)|refine zi (fun _ _=>?_))|(refine zE (d' := 11) (fun _=>rfl) rfl rfl (by simp [entCs, i1, i2]; exact ⟨rfl, rfl, rfl, rfl, rfl⟩) (fun b6 w6 x6 a6 (r6 : Row w6 ⟨b6, 0, none⟩ (entCs l[i] iv6 ov6)) hb6=>?_))|(refine zI (d := some 46) (cs := txCs l[i].tx iv6 ov6) rfl (fun b7 w7 x7 a7 hb => ?_))|(refine st_append1 (E := txR) (M := M) (v := vt) (cs := txCs l[i].tx iv6 ov6) (a := l[i].tx) rfl rfl (ho.ext (by exact fx)) (Nat.le_trans x3.size (Ext.size (by exact fx))) rfl rfl a7 ⟨iv6, ov6, rfl, by exact fx, by exact fx, q3.1, q3.2.1⟩ (by omega) (fun v8 w8 o8 c8 hb8 => ?_)))
    exact ⟨(i + 1, v8), ⟨rfl, rfl, rfl, rfl, rfl, rfl, rfl, trivial⟩, ⟨(Ext.chg (w := w2) (Ext.trans x3 (by exact fx)) c8).mono (fun b hb => .inr (hBv b hb)), by simp; omega, by show OwnR _ _ _ _ _ _ ([t'] ++ (l.take (i + 1)).map _); rw [List.take_succ_eq_append_getElem hil, List.map_append, ← List.append_assoc]; exact o8⟩, by simp; omega⟩
  · have ei : i = l.length := by omega
    subst ei
    have hTS := hTX l.length
    have hTn := hTl l.length
    generalize [t'] ++ (l.take l.length).map (·.tx) = TX at *
    have x2v : Unit → Ext w2 w3 := fun _ => x3
    have sv : SlR txR M w3 vt TX := ho.slB hM2
    have G3 := GR.ext x3
    have hM3 : ∀ b ∈ M, b < w3.heap.size := fun b hb => Nat.lt_of_lt_of_le (hM2 b hb) x3.size
    have u3 := SlR.ext hu x3
    have hE : ∀ x ∈ l, x.tx.Sm := fun x hx => chk_sm (hok x hx).check
    have hfit : ∀ x ∈ l, goodB x.fee = true ∧ 0 ≤ x.size ∧ x.size ≤ 100000000000 := fun x hx => entOk_fit (hok x hx)
    clear x3 hTX hTl ho o5 hsm' hc x25 hu GR
    repeat' (first|(first|refine go1 ?_|refine zg (fun _ _=>?_)|refine zi (fun _ _=>?_))|(refine zL rfl (fun h => ?_) (fun h => ?_))|(refine zG (E := txR) (M := M) (l := TX) rfl (SlR.ext sv (by exact fx)) ?_)|(refine c_loopV (fun (i : Nat) w' => Ext w3 w' ∧ i ≤ TX.length) (fun i => [(2, .string other), (7, .pointer (some ⟨g, 0, none⟩)), (8, u), (49, vt), (50, .int .i64 (TX.length : Nat)), (51, .int .i64 i)]) (fun i => TX.length - i) 0 ⟨rfl, rfl, rfl, rfl, rfl, rfl, trivial⟩ ⟨Ext.refl _, by simp⟩ ?_; rintro i ρ w5 ⟨x5, hi⟩))
    · have hil : i < TX.length := by omega
      refine st_elemR (d := some 53) (E := txR) (M := M) rfl rfl (n := i) (l := TX) (SlR.ext sv x5) rfl hil (fun ad cs r4 he => ?_)
      obtain ⟨iv6, ov6, rfl, q1, q2, q3⟩ := he
      have i1 := q1.one
      have i2 := q2.one
      have hSi := hTS _ (List.getElem_mem hil)
      repeat' (first|(first|refine go1 ?_|refine zg (fun _ _=>?_)|refine zi (fun _ _=>?_))|(refine zE (d' := 13) (fun _=>rfl) rfl rfl (by simp [txCs, i1, i2]; exact ⟨rfl, rfl⟩) (fun b6 w6 x6 a6 (r6 : Row w6 ⟨b6, 0, none⟩ (txCs TX[i] iv6 ov6)) hb6=>?_))|(refine zC rfl (above_spec (M := M) (l := l) (cs := txCs TX[i] iv6 ov6) (t := TX[i]) _ (SlR.ext u3 (by exact fx)) ⟨iv6, ov6, rfl, by exact fx, by exact fx, q3⟩ hSi (by omega) hE) ?_; rintro va w7 ⟨sa, x7, -⟩)|(refine zC rfl (pabove_spec (M := M) (N := M) (l := l) (cs := txCs TX[i] iv6 ov6) (t := TX[i]) _ (G3.ext (by exact fx)) (fun b hb => Nat.lt_of_lt_of_le (hM3 b hb) (Ext.size (by exact fx))) ⟨iv6, ov6, rfl, by exact fx, by exact fx, q3⟩ hSi.ins (by omega)) ?_; rintro vb w8 ⟨ob, x8⟩; have sb := ob.sl; have hbl := idsOf_le l (aboveL l TX[i]))|(refine st_append (d := some 64) (E := strE) (t := T.string) (B := w8.heap.size) (v := .slice none 0 0) (l := []) (l2 := idsOf l (aboveL l TX[i])) rfl (Own.nil _ _ _) (Nat.le_refl _) rfl rfl (SlE.cells (E := strE) (v := vb) (l := idsOf l (aboveL l TX[i])) (by exact fx)) rfl rfl (by simp; omega) (fun v9 w9 o9 c9 => ?_); have x9 : Ext w8 w9 := Chg.mono (l' := []) c9 (by simp [blkOf]); clear c9)|(refine st_append (d := some 66) (E := strE) (t := T.string) (B := w8.heap.size) (v := v9) (l := [] ++ idsOf l (aboveL l TX[i])) (l2 := idsOf l (aboveL l TX[i])) rfl o9 x9.size rfl rfl (SlE.cells (E := strE) (v := vb) (l := idsOf l (aboveL l TX[i])) (by exact fx)) rfl rfl (by simp; omega) (fun v10 w10 o10 c10 => ?_); have x10 : Ext w8 w10 := (Ext.chg (w := w8) x9 c10).mono (fun b hb => .inr (o9.base b hb)); rw [List.nil_append] at o10; clear x9 c10 o9)|(refine zC rfl (gsum_spec (M := M) (l := l) (ids := idsOf l (aboveL l TX[i]) ++ idsOf l (aboveL l TX[i])) _ (G3.ext (by exact fx)) (fun b hb => Nat.lt_of_lt_of_le (hM3 b hb) (Ext.size (by exact fx))) o10.sl (by simp; omega)) ?_; rintro _ w11 ⟨rfl, x11⟩; rw [(sums_twice hnd _).1, (sums_twice hnd _).2])|(refine zC rfl (rsum14_spec (M := M) (l := l) (m := aboveL l TX[i]) _ (SlR.ext u3 (by exact fx)) (by exact fx) (aboveL_len _ _) (by omega) (fun x hx => (hfit x hx).1) (fun x hx => (hfit x hx).2)) ?_; rintro _ w12 ⟨rfl, x12⟩)|(refine zC rfl (ids_spec (M := M) (l := l) (m := aboveL l TX[i]) _ (SlR.ext u3 (by exact fx)) (by exact fx) (aboveL_len _ _) (by omega)) ?_; rintro vi w13 ⟨oi, x13⟩; have si := oi.sl)|(refine zC rfl (equal_true (l := idsOf l (aboveL l TX[i])) (m := idsOf l (aboveL l TX[i])) _ (by exact fx) si rfl (by omega)) ?_; rintro _ w14 ⟨rfl, x14⟩)|(refine zK rfl (fun h => absurd h (by simp)) (fun _ => ?_))|(refine zN rfl (fun h => absurd rfl h) (fun _ => ?_)))
      all_goals exact ⟨i + 1, ⟨rfl, rfl, rfl, rfl, rfl, rfl, trivial⟩, ⟨by exact fx, by omega⟩, by omega⟩
    · have x2v' := x2v
      have sv5 := x5.size
      have u5 := SlR.ext u3 x5
      have G5 := G3.ext x5
      have hM5 : ∀ b ∈ M, b < w5.heap.size := fun b hb => Nat.lt_of_lt_of_le (hM3 b hb) x5.size
      have x25 : Unit → Ext w2 w5 := fun _ => (x2v ()).trans x5
      clear x5 u3 G3 sv hTS hTn x2v x2v'
      repeat' (first|(first|refine go1 ?_|refine zg (fun _ _=>?_)|refine zi (fun _ _=>?_))|(refine zL rfl (fun h => ?_) (fun h => ?_))|(refine zG (E := entR) (M := M) (l := l) rfl (SlR.ext u5 (by exact fx)) ?_)|(refine c_loopV (fun (i : Nat) w' => Ext w5 w' ∧ i ≤ l.length) (fun i => [(2, .string other), (7, .pointer (some ⟨g, 0, none⟩)), (8, u), (93, u), (94, .int .i64 (l.length : Nat)), (95, .int .i64 i)]) (fun i => l.length - i) 0 ⟨rfl, rfl, rfl, rfl, rfl, rfl, trivial⟩ ⟨Ext.refl _, by simp⟩ ?_; rintro i ρ w6 ⟨x6, hi⟩))
      · have hil : i < l.length := by omega
        refine st_elemR (d := some 97) (E := entR) (M := M) rfl rfl (n := i) (l := l) (SlR.ext u5 x6) rfl hil (fun ad cs r4 he => ?_)
        obtain ⟨iv6, ov6, rfl, q1, q2, q3⟩ := he
        have i1 := q1.one
        have i2 := q2.one
        have hbl := idsOf_le l (belowL l l[i].id)
        repeat' (first|(first|refine go1 ?_|refine zg (fun _ _=>?_)|refine zi (fun _ _=>?_))|(refine st_both ?_ ?_)|(refine zE (d' := 21) (fun _=>rfl) rfl rfl (by simp [entCs, i1, i2]; exact ⟨rfl, rfl, rfl, rfl, rfl⟩) (fun b7 w7 x7 a7 (r7 : Row w7 ⟨b7, 0, none⟩ (entCs l[i] iv6 ov6)) hb7=>?_))|(refine zC rfl (pbelow_spec (M := M) (l := l) l[i].id _ (G5.ext (by exact fx)) (fun b hb => Nat.lt_of_lt_of_le (hM5 b hb) (Ext.size (by exact fx))) (by omega)) ?_; rintro vb w8 ⟨ob, x8⟩; have sb := ob.sl)|(refine zC rfl (below_spec (M := M) (l := l) l[i].id _ (SlR.ext u5 (by exact fx)) (by omega) hE) ?_; rintro va w9 ⟨sa, x9, -⟩)|(refine zC rfl (ids_spec (M := M) (l := l) (m := belowL l l[i].id) _ (SlR.ext u5 (by exact fx)) (by exact fx) (belowL_len _ _) (by omega)) ?_; rintro vi w13 ⟨oi, x13⟩; have si := oi.sl)|(refine zC rfl (equal_true (l := idsOf l (belowL l l[i].id)) (m := idsOf l (belowL l l[i].id)) _ (by exact fx) si rfl (by omega)) ?_; rintro _ w14 ⟨rfl, x14⟩))
        all_goals exact ⟨i + 1, ⟨rfl, rfl, rfl, rfl, rfl, rfl, trivial⟩, ⟨by exact fx, by omega⟩, by omega⟩
      · repeat' (first|(first|refine go1 ?_|refine zg (fun _ _=>?_)|refine zi (fun _ _=>?_))|(refine zI (d := some 115) (cs := [.string other]) rfl (fun b7 w7 x7 a7 hb => ?_); have s7 := SlE.new (E := strE) (l := [other]) a7 rfl (Nat.le_refl _))|(refine zC rfl (gsum_spec (M := M) (l := l) (ids := [other]) _ (G5.ext (by exact fx)) (fun b hb => Nat.lt_of_lt_of_le (hM5 b hb) (Ext.size (by exact fx))) s7 (by simp)) ?_; rintro _ w8 ⟨rfl, x8⟩)|(refine zC rfl (find_spec (M := M) (l := l) other _ (SlR.ext u5 (by exact fx)) (by omega)) ?_; rintro _ w' ⟨rfl, hw'⟩; rw [hw']; clear hw' w')|(refine zC rfl (wakes14_spec _) ?_; rintro _ w9 ⟨rfl, x9⟩)|(refine zJ (p := findI l other ≥ 0) rfl (fun h => ?_) (fun h => ?_))|(refine zJ (p := feeD l [other] = 0) rfl (fun h => ?_) (fun h2 => absurd (sum_none (by omega)).1 h2))|(refine zC rfl (pbelow_spec (M := M) (l := l) other _ (G5.ext (by exact fx)) (fun b hb => Nat.lt_of_lt_of_le (hM5 b hb) (Ext.size (by exact fx))) (by omega)) ?_; rintro vb w10 ⟨ob, x10⟩; rw [below_none (by omega)] at ob; have sb := ob.sl)|(refine st_len (l := ([] : List ByteArray)) rfl sb ?_))
        · exact x_ret rfl ⟨rfl, x02.trans ((x25 ()).trans (by exact fx))⟩
        · exact x_ret rfl ⟨congrArg Value.bool (decide_eq_true (sum_none (by omega)).2), x02.trans ((x25 ()).trans (by exact fx))⟩
end Go.Proofs.YtfeifodeaphbjaaGreat
end
