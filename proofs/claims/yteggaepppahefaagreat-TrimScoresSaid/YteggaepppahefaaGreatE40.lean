/- Contracts: sum. Contracts: nil graphs. -/
import Derived.Test.YteggaepppahefaaGreatE39
set_option linter.unusedVariables false
set_option linter.unusedSimpArgs false
section
namespace Go.Proofs.YteggaepppahefaaGreat
open Go Go.K
attribute [local irreducible] regK codeK retK KOp.wp K.Spec u32 leS vnS str zero32 sha2 encT idT sizeT checkT grantB idN stepR workL reachE

theorem entOk_fit {x : Ent} (h : EntOk x) : goodB x.fee = true ∧ 0 ≤ x.size ∧ x.size ≤ 100000000000 := by
  refine ⟨h.fee, ?_⟩
  have := (sz_of_check (chk_sm h.check) h.check).size
  rw [h.size]
  omega
theorem gsum_spec {g : Nat} {M : List Nat} {l : List Ent} {v : Value} {ids : List ByteArray} (w : World) (hG : GrR w g M l) (hM : ∀ b ∈ M, b < w.heap.size) (hi : SlE strE w v ids) (hn : ids.length ≤ 4000) : K.Spec Tryz.prog F.graph_Graph_Sum [.pointer (some ⟨g, 0, none⟩), v] w fun r w' =>
    r = .tuple #[.int .i64 (feeD l ids), .int .i64 (sizeD l ids)] ∧ Ext w w' := by
  have hfit : ∀ x ∈ l, goodB x.fee = true ∧ 0 ≤ x.size ∧ x.size ≤ 100000000000 := fun x hx => entOk_fit (hG.ok x hx)
  refine s_graph_Graph_Sum rfl ?_
  unfold k_graph_Graph_Sum
  refine ox ?_
  repeat' (first|(first|refine go1 ?_|refine zg (fun _ _=>?_)|refine zi (fun _ _=>?_))|refine zL rfl (fun h => ?_) (fun h => ?_)|(refine st_makeMap (E := sK) (fv := fun n : Nat => Value.int .i64 (n : Nat)) (fun bm w1 x1 m1 hb1 => ?_); have lm := m1.lt)|(refine st_len rfl (SlE.ext (w := w) (by exact fx) hi) ?_)|(refine c_loopV (fun (p : Nat × List (ByteArray × Nat)) w' => Ext w w' ∧ p.1 ≤ ids.length ∧ MapE sK (fun n : Nat => Value.int .i64 (n : Nat)) w' bm p.2 ∧ ∀ s, (inB (ids.take p.1) s = false → aget p.2 s = none) ∧ (inB (ids.take p.1) s = true → ∃ c, aget p.2 s = some c ∧ 1 ≤ c ∧ c ≤ p.1)) (fun p => [(0, .pointer (some ⟨g, 0, none⟩)), (6, .int .i64 (feeD l (ids.take p.1))), (7, .int .i64 (sizeD l (ids.take p.1))), (8, .map (some bm)), (14, v), (15, .int .i64 (ids.length : Nat)), (16, .int .i64 p.1)]) (fun p => ids.length - p.1) (0, []) ⟨rfl, rfl, rfl, rfl, rfl, rfl, rfl, trivial⟩ ⟨x1, by simp, m1, fun s => ⟨fun _ => rfl, fun h => by simp [inB] at h⟩⟩ ?_; rintro ⟨i, met⟩ ρ w3 ⟨x3, hi3, hm, hc⟩; simp only at hi3 hm hc; dsimp only))
  · have hil : i < ids.length := by omega
    have hb0 := feeD_bound hfit (ids := ids.take i) (by rw [List.length_take]; omega)
    have hb1' := feeD_bound hfit (ids := ids.take (i + 1)) (by rw [List.length_take]; omega)
    have hf := feeD_take (l := l) hil
    have hz := sizeD_take (l := l) hil
    have hmem : ∀ s, inB (ids.take (i + 1)) s = (inB (ids.take i) s || decide (ids[i] = s)) := fun s => by
      rw [List.take_succ_eq_append_getElem hil]; unfold inB; simp only [List.any_append, List.any_cons, List.any_nil, Bool.or_false]
    refine st_elemE rfl rfl (n := i) (l := ids) (hi.ext x3) rfl hil (fun ad r5 => ?_)
    have r5 : Row w3 ad [Value.string ids[i]] := r5
    generalize hq : feeD l (ids.take i) = fee0 at *
    generalize hq2 : sizeD l (ids.take i) = size0 at *
    cases hin : inB (ids.take i) ids[i] with
    | false =>
      rw [hin] at hf hz
      simp only [Bool.false_eq_true, if_false] at hf hz
      have hno := (hc ids[i]).1 hin
      repeat' (first|(first|refine go1 ?_|refine zg (fun _ _=>?_)|refine zi (fun _ _=>?_))|(refine st_lookup (d := some 22) (E := sK) (fv := fun n : Nat => Value.int .i64 (n : Nat)) (k := ids[i]) rfl rfl hm rfl rfl (fun c hcc => by rw [hno] at hcc; cases hcc) (fun hcn => ?_))|(refine st_mapUpdate (E := sK) (fv := fun n : Nat => Value.int .i64 (n : Nat)) (k := ids[i]) (v := 1) rfl rfl rfl hm rfl rfl (fun w4 c4 m4 => ?_); have x4 : Ext w w4 := (Ext.chg x3 c4).mono (by intro y hy; simp at hy; right; omega); clear x3)|(refine st_lookup (d := some 26) (E := sK) (fv := fun n : Nat => Value.int .i64 (n : Nat)) (k := ids[i]) rfl rfl m4 rfl rfl (fun c hcc => ?_) (fun hcn => by rw [aget_set', if_pos rfl] at hcn; cases hcn); rw [aget_set', if_pos rfl] at hcc; injection hcc with hcc; subst hcc)|(refine zL rfl (fun h9 => absurd h9 (by decide)) (fun h9 => ?_))|(refine zC rfl (get_spec (M := M) ids[i] _ (hG.ext (by exact fx)) (fun b hb => Nat.lt_of_lt_of_le (hM b hb) (Ext.size (by exact fx)))) ?_; rintro _ w5 ⟨ds, rfl, e5, x5⟩; obtain ⟨iv, ov, rfl, o1, o2, o3⟩ := e5; have i1 := o1.one; have i2 := o2.one)|(refine zE (d' := 11) (fun _=>rfl) rfl rfl (by simp [entCs, i1, i2]; exact ⟨rfl, rfl, rfl, rfl, rfl⟩) (fun b6 w6 x6 a6 (r6 : Row w6 ⟨b6, 0, none⟩ (entCs (getE l ids[i]) iv ov)) hb6=>?_)))
      refine ⟨(i + 1, aset met ids[i] 1), ⟨rfl, ?_, ?_, rfl, rfl, rfl, rfl, trivial⟩, ⟨by exact fx, by simp; omega, m4.ext (by exact fx), fun s => ?_⟩, by simp; omega⟩
      · show _ = Value.int .i64 (feeD l (ids.take (i + 1))); rw [hf]; rw [hf] at hb1'; exact congrArg (Value.int .i64) (IntWalk.i64_in _ (by show -9223372036854775808 ≤ fee0 + (getG l ids[i]).fee ∧ fee0 + (getG l ids[i]).fee ≤ 9223372036854775807; omega))
      · show _ = Value.int .i64 (sizeD l (ids.take (i + 1))); rw [hz]; rw [hz] at hb1'; exact congrArg (Value.int .i64) (IntWalk.i64_in _ (by show -9223372036854775808 ≤ size0 + (getG l ids[i]).size ∧ size0 + (getG l ids[i]).size ≤ 9223372036854775807; omega))
      · show (inB (ids.take (i + 1)) s = false → _) ∧ (inB (ids.take (i + 1)) s = true → ∃ c, _ ∧ 1 ≤ c ∧ c ≤ i + 1)
        rw [hmem, aget_set']
        by_cases e : ids[i] = s
        · rw [if_pos e, decide_eq_true e]; exact ⟨fun h => by simp at h, fun _ => ⟨1, rfl, by omega, by omega⟩⟩
        · rw [if_neg e, decide_eq_false e, Bool.or_false]
          exact ⟨(hc s).1, fun h => by obtain ⟨c, q1, q2, q3⟩ := (hc s).2 h; exact ⟨c, q1, q2, by omega⟩⟩
    | true =>
      rw [hin] at hf hz
      simp only [if_true] at hf hz
      obtain ⟨c0, hc0, hc1, hc2⟩ := (hc ids[i]).2 hin
      repeat' (first|(first|refine go1 ?_|refine zg (fun _ _=>?_)|refine zi (fun _ _=>?_))|(refine st_lookup (d := some 22) (E := sK) (fv := fun n : Nat => Value.int .i64 (n : Nat)) (k := ids[i]) rfl rfl hm rfl rfl (fun c hcc => ?_) (fun hcn => by rw [hc0] at hcn; cases hcn); rw [hc0] at hcc; injection hcc with hcc; subst hcc)|(refine st_mapUpdate (E := sK) (fv := fun n : Nat => Value.int .i64 (n : Nat)) (k := ids[i]) (v := c0 + 1) rfl rfl rfl hm rfl rfl (fun w4 c4 m4 => ?_); have x4 : Ext w w4 := (Ext.chg x3 c4).mono (by intro y hy; simp at hy; right; omega); clear x3)|(refine st_lookup (d := some 26) (E := sK) (fv := fun n : Nat => Value.int .i64 (n : Nat)) (k := ids[i]) rfl rfl m4 rfl rfl (fun c hcc => ?_) (fun hcn => by rw [aget_set', if_pos rfl] at hcn; cases hcn); rw [aget_set', if_pos rfl] at hcc; injection hcc with hcc; subst hcc)|(refine zL rfl (fun h9 => ?_) (fun h9 => absurd h9 (by omega))))
      refine ⟨(i + 1, aset met ids[i] (c0 + 1)), ⟨rfl, ?_, ?_, rfl, rfl, rfl, rfl, trivial⟩, ⟨by exact fx, by simp; omega, m4.ext (by exact fx), fun s => ?_⟩, by simp; omega⟩
      · show _ = Value.int .i64 (feeD l (ids.take (i + 1))); rw [hf]; rfl
      · show _ = Value.int .i64 (sizeD l (ids.take (i + 1))); rw [hz]; rfl
      · show (inB (ids.take (i + 1)) s = false → _) ∧ (inB (ids.take (i + 1)) s = true → ∃ c, _ ∧ 1 ≤ c ∧ c ≤ i + 1)
        rw [hmem, aget_set']
        by_cases e : ids[i] = s
        · rw [if_pos e, decide_eq_true e]; exact ⟨fun h => by simp at h, fun _ => ⟨c0 + 1, rfl, by omega, by omega⟩⟩
        · rw [if_neg e, decide_eq_false e, Bool.or_false]
          exact ⟨(hc s).1, fun h => by obtain ⟨c, q1, q2, q3⟩ := (hc s).2 h; exact ⟨c, q1, q2, by omega⟩⟩
  · have ei : i = ids.length := by omega
    subst ei
    rw [List.take_of_length_le (Nat.le_refl _)]
    exact x_ret rfl ⟨rfl, x3⟩
end Go.Proofs.YteggaepppahefaaGreat
end
section
namespace Go.Proofs.YteggaepppahefaaGreat
open Go Go.K
attribute [local irreducible] regK codeK retK KOp.wp K.Spec u32 leS vnS str zero32 sha2 encT idT sizeT checkT grantB idN stepR workL reachE

theorem get_nil (id : ByteArray) (w : World) : K.Spec Tryz.prog F.graph_Graph_Get [.pointer none, .string id] w fun r w' => r = .tuple #[.agg zEnt.toArray, .bool false] ∧ Ext w w' := by
  refine s_graph_Graph_Get rfl ?_
  unfold k_graph_Graph_Get
  refine ox ?_
  repeat' (first|(first|refine go1 ?_|refine zg (fun _ _=>?_)|refine zi (fun _ _=>?_))|(refine zH (fun b4 w4 x4 a4 hb4 => ?_))|(refine st_build (cs := zEnt) rfl ?_)|(refine st_setN (w0 := w) (vs := zEnt) (by exact fx) (by omega) (by focus (repeat (first | assumption | (apply At.ext; assumption)))) rfl rfl rfl rfl rfl (fun w9 x9 c9 a9 r9 => ?_)))
  exact x_ret (ret2 (rv_cell r9 rfl rfl) rv_tmp) ⟨rfl, x9⟩
theorem spender_nil (p : Pt) (w : World) : K.Spec Tryz.prog F.graph_Graph_Spender [.pointer none, .agg p.cs.toArray] w fun r w' => r = .tuple #[.string ⟨#[]⟩, .bool false] ∧ Ext w w' := by
  refine s_graph_Graph_Spender rfl ?_
  unfold k_graph_Graph_Spender
  refine ox ?_
  repeat' (first|(first|refine go1 ?_|refine zg (fun _ _=>?_)|refine zi (fun _ _=>?_))|(first|refine zD rfl rfl (fun bp wp xp ap rp hp0=>?_)|refine zE (fun _=>rfl) rfl rfl rfl (fun bq wq xq aq rq hq0=>?_)))
  exact x_ret rfl ⟨rfl, by exact fx⟩
theorem out_nil (p : Pt) (w : World) : K.Spec Tryz.prog F.graph_Graph_Out [.pointer none, .agg p.cs.toArray] w fun r w' => r = .tuple #[.agg #[.int .i64 0, .string ⟨#[]⟩], .bool false] ∧ Ext w w' := by
  refine s_graph_Graph_Out rfl ?_
  unfold k_graph_Graph_Out
  refine ox ?_
  repeat' (first|(first|refine go1 ?_|refine zg (fun _ _=>?_)|refine zi (fun _ _=>?_))|(first|refine zD rfl rfl (fun bp wp xp ap rp hp0=>?_)|refine zE (fun _=>rfl) rfl rfl rfl (fun bq wq xq aq rq hq0=>?_))|(refine zH (fun b4 w4 x4 a4 hb4 => ?_))|(refine zC rfl (get_nil p.s _) ?_; rintro _ w5 ⟨rfl, x5⟩)|(refine st_setN (w0 := w) (vs := [.int .i64 0, .string ⟨#[]⟩]) (by exact fx) (by have := Ext.size (w := w) (w' := wp) (by exact fx); omega) (by focus (repeat (first | assumption | (apply At.ext; assumption)))) rfl rfl rfl rfl rfl (fun w9 x9 c9 a9 r9 => ?_)))
  exact x_ret (ret2 (rv_cell r9 rfl rfl) rv_tmp) ⟨rfl, x9⟩
theorem all_nil (w : World) : K.Spec Tryz.prog F.graph_Graph_All [.pointer none] w fun r w' => r = .slice none 0 0 ∧ Ext w w' := by
  refine s_graph_Graph_All rfl ?_
  unfold k_graph_Graph_All
  refine ox ?_
  repeat' (first|(first|refine go1 ?_|refine zg (fun _ _=>?_)|refine zi (fun _ _=>?_))|(first|refine zD rfl rfl (fun bp wp xp ap rp hp0=>?_)|refine zE (fun _=>rfl) rfl rfl rfl (fun bq wq xq aq rq hq0=>?_)))
  exact x_ret rfl ⟨rfl, by exact fx⟩
theorem above_nil {cs : List Value} {iv ov : Value} {t : Tx} (he : cs = txCs t iv ov) (w : World) : K.Spec Tryz.prog F.graph_Graph_Above [.pointer none, .agg cs.toArray] w fun r w' => r = .slice none 0 0 ∧ Ext w w' := by
  subst he
  refine s_graph_Graph_Above rfl ?_
  unfold k_graph_Graph_Above
  refine ox ?_
  repeat' (first|(first|refine go1 ?_|refine zg (fun _ _=>?_)|refine zi (fun _ _=>?_))|(first|refine zD rfl rfl (fun bp wp xp ap rp hp0=>?_)|refine zE (fun _=>rfl) rfl rfl rfl (fun bq wq xq aq rq hq0=>?_)))
  exact x_ret rfl ⟨rfl, by exact fx⟩
theorem below_nil (id : ByteArray) (w : World) : K.Spec Tryz.prog F.graph_Graph_Below [.pointer none, .string id] w fun r w' => r = .slice none 0 0 ∧ Ext w w' := by
  refine s_graph_Graph_Below rfl ?_
  unfold k_graph_Graph_Below
  refine ox ?_
  repeat' (first|(first|refine go1 ?_|refine zg (fun _ _=>?_)|refine zi (fun _ _=>?_))|(first|refine zD rfl rfl (fun bp wp xp ap rp hp0=>?_)|refine zE (fun _=>rfl) rfl rfl rfl (fun bq wq xq aq rq hq0=>?_))|(refine zC rfl (get_nil id _) ?_; rintro _ w5 ⟨rfl, x5⟩))
  exact x_ret rfl ⟨rfl, by exact fx⟩
theorem copy_nil (w : World) : K.Spec Tryz.prog F.graph_Graph_Copy [.pointer none] w fun r w' => r = .pointer none ∧ Ext w w' := by
  refine s_graph_Graph_Copy rfl ?_
  unfold k_graph_Graph_Copy
  refine ox ?_
  repeat' (first|(first|refine go1 ?_|refine zg (fun _ _=>?_)|refine zi (fun _ _=>?_))|(first|refine zD rfl rfl (fun bp wp xp ap rp hp0=>?_)|refine zE (fun _=>rfl) rfl rfl rfl (fun bq wq xq aq rq hq0=>?_)))
  exact x_ret rfl ⟨rfl, by exact fx⟩
theorem drop_nil (id : ByteArray) (w : World) : K.Spec Tryz.prog F.graph_Graph_Drop [.pointer none, .string id] w fun r w' => r = .int .i64 1 ∧ Ext w w' := by
  refine s_graph_Graph_Drop rfl ?_
  unfold k_graph_Graph_Drop
  refine ox ?_
  repeat' (first|(first|refine go1 ?_|refine zg (fun _ _=>?_)|refine zi (fun _ _=>?_))|(first|refine zD rfl rfl (fun bp wp xp ap rp hp0=>?_)|refine zE (fun _=>rfl) rfl rfl rfl (fun bq wq xq aq rq hq0=>?_)))
  exact x_ret rfl ⟨rfl, by exact fx⟩
theorem add_nil {cs : List Value} {iv ov : Value} {t : Tx} (he : cs = txCs t iv ov) (fee : Int) (w : World) : K.Spec Tryz.prog F.graph_Graph_Add [.pointer none, .agg cs.toArray, .int .i64 fee] w fun r w' => r = .int .i64 1 ∧ Ext w w' := by
  subst he
  refine s_graph_Graph_Add rfl ?_
  unfold k_graph_Graph_Add
  refine ox ?_
  repeat' (first|(first|refine go1 ?_|refine zg (fun _ _=>?_)|refine zi (fun _ _=>?_))|(first|refine zD rfl rfl (fun bp wp xp ap rp hp0=>?_)|refine zE (fun _=>rfl) rfl rfl rfl (fun bq wq xq aq rq hq0=>?_)))
  exact x_ret rfl ⟨rfl, by exact fx⟩
theorem sum_nil {v : Value} {ids : List ByteArray} (w : World) (hi : SlE strE w v ids) (hn : ids.length ≤ 1) : K.Spec Tryz.prog F.graph_Graph_Sum [.pointer none, v] w fun r w' => r = .tuple #[.int .i64 0, .int .i64 0] ∧ Ext w w' := by
  refine s_graph_Graph_Sum rfl ?_
  unfold k_graph_Graph_Sum
  refine ox ?_
  repeat' (first|(first|refine go1 ?_|refine zg (fun _ _=>?_)|refine zi (fun _ _=>?_))|refine zL rfl (fun h => ?_) (fun h => ?_)|(refine st_makeMap (E := sK) (fv := fun n : Nat => Value.int .i64 (n : Nat)) (fun bm w1 x1 m1 hb1 => ?_); have lm := m1.lt)|(refine st_len rfl (SlE.ext (w := w) (by exact fx) hi) ?_)|(refine c_loopV (fun (p : Nat) w' => Ext w w' ∧ p ≤ ids.length ∧ (p = 0 → MapE sK (fun n : Nat => Value.int .i64 (n : Nat)) w' bm [])) (fun p => [(0, .pointer none), (6, .int .i64 0), (7, .int .i64 0), (8, .map (some bm)), (14, v), (15, .int .i64 (ids.length : Nat)), (16, .int .i64 (p : Nat))]) (fun p => ids.length - p) 0 ⟨rfl, rfl, rfl, rfl, rfl, rfl, rfl, trivial⟩ ⟨x1, by simp, fun _ => m1⟩ ?_; rintro i ρ w3 ⟨x3, hi3, hm⟩))
  · have hi0 : i = 0 := by omega
    subst hi0
    have hil : 0 < ids.length := by omega
    have hm := hm rfl
    refine st_elemE rfl rfl (n := 0) (l := ids) (hi.ext x3) rfl hil (fun ad r5 => ?_)
    have r5 : Row w3 ad [Value.string ids[0]] := r5
    repeat' (first|(first|refine go1 ?_|refine zg (fun _ _=>?_)|refine zi (fun _ _=>?_))|(refine st_lookup (d := some 22) (E := sK) (fv := fun n : Nat => Value.int .i64 (n : Nat)) (k := ids[0]) rfl rfl hm rfl rfl (fun c hcc => by simp [aget] at hcc) (fun hcn => ?_))|(refine st_mapUpdate (E := sK) (fv := fun n : Nat => Value.int .i64 (n : Nat)) (k := ids[0]) (v := 1) rfl rfl rfl hm rfl rfl (fun w4 c4 m4 => ?_); have x4 : Ext w w4 := (Ext.chg x3 c4).mono (by intro y hy; simp at hy; right; omega); clear x3)|(refine st_lookup (d := some 26) (E := sK) (fv := fun n : Nat => Value.int .i64 (n : Nat)) (k := ids[0]) rfl rfl m4 rfl rfl (fun c hcc => ?_) (fun hcn => by rw [aget_set', if_pos rfl] at hcn; cases hcn); rw [aget_set', if_pos rfl] at hcc; injection hcc with hcc; subst hcc)|(refine zL rfl (fun h9 => absurd h9 (by decide)) (fun h9 => ?_))|(refine zC rfl (get_nil ids[0] _) ?_; rintro _ w5 ⟨rfl, x5⟩)|(refine zE (d' := 11) (fun _=>rfl) rfl rfl rfl (fun b6 w6 x6 a6 (r6 : Row w6 ⟨b6, 0, none⟩ zEnt) hb6=>?_)))
    exact ⟨1, ⟨rfl, rfl, rfl, rfl, rfl, rfl, rfl, trivial⟩, ⟨by exact fx, by omega, fun h => by omega⟩, by omega⟩
  · exact x_ret rfl ⟨rfl, x3⟩
end Go.Proofs.YteggaepppahefaaGreat
end
