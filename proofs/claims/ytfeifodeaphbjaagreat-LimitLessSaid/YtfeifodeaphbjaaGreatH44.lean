/- Contracts: may a transaction hang on the entries of a graph? Contracts: nil graphs. Plain: an id that no entry has. -/
import Derived.Test.YtfeifodeaphbjaaGreatH43
set_option linter.unusedVariables false
set_option linter.unusedSimpArgs false
section
namespace Go.Proofs.YtfeifodeaphbjaaGreat
open Go Go.K
attribute [local irreducible] regK codeK retK KOp.wp K.Spec u32 leS vnS str zero32 sha2 encT idT sizeT checkT grantB idN stepR workL reachE findI dropG addG aboveL belowL idsOf feeD sizeD

theorem within_spec {g : Nat} {M : List Nat} {l : List Ent} {v : Value} {ids : List ByteArray} (more count size : Int) (w : World) (hG : GrR w g M l) (hM : ∀ b ∈ M, b < w.heap.size) (hi : SlE strE w v ids) (hn : ids.length ≤ 4000) (hm : 0 ≤ more ∧ more ≤ 1000000000) :
    K.Spec Tryz.prog F.limit_within [.pointer (some ⟨g, 0, none⟩), v, .int .i64 more, .int .i64 count, .int .i64 size] w fun r w' => r = .bool (wiP l ids more count size) ∧ Ext w w' := by
  have hb := (feeD_bound (l := l) (fun x hx => entOk_fit (hG.ok x hx)) hn).2
  refine s_limit_within rfl ?_
  unfold k_limit_within
  refine ox ?_
  repeat' (first|(first|refine go1 ?_|refine zg (fun _ _=>?_)|refine zi (fun _ _=>?_))|(refine zC rfl (gsum_spec (M := M) (l := l) (ids := ids) _ hG hM hi hn) ?_; rintro _ w2 ⟨rfl, x2⟩)|(refine st_len rfl (SlE.ext (w := w) (by exact fx) hi) ?_)|(refine zJ rfl (fun h => ?_) (fun h => ?_)))
  · have e : wiP l ids more count size = decide (sizeD l ids + more ≤ size) := by unfold wiP; rw [decide_eq_true h, Bool.true_and]
    rw [e]
    exact x_ret rfl ⟨rfl, x2⟩
  · have e : wiP l ids more count size = false := by unfold wiP; rw [decide_eq_false h, Bool.false_and]
    rw [e]
    exact x_ret rfl ⟨rfl, x2⟩
theorem idsOf_len_le (l : List Ent) (m : List Bool) : (idsOf l m).length ≤ l.length := by
  have := (idsOf_sub l m).length_le
  simpa using this
theorem housed_spec {g : Nat} {M : List Nat} {l : List Ent} {v : Value} {ids : List ByteArray} (more count size : Int) (w : World) (hG : GrR w g M l) (hM : ∀ b ∈ M, b < w.heap.size) (hi : SlE strE w v ids) (hn : ids.length ≤ 4000) (hl : l.length ≤ 1000) (hm : 0 ≤ more ∧ more ≤ 1000000000) :
    K.Spec Tryz.prog F.limit_housed [.pointer (some ⟨g, 0, none⟩), v, .int .i64 more, .int .i64 count, .int .i64 size] w fun r w' => r = .bool (hoP l ids more count size) ∧ Ext w w' := by
  refine s_limit_housed rfl ?_
  unfold k_limit_housed
  refine ox ?_
  repeat' (first|(first|refine go1 ?_|refine zg (fun _ _=>?_)|refine zi (fun _ _=>?_))|(refine zL rfl (fun h => ?_) (fun h => ?_))|(refine zM rfl (fun h => ?_) (fun h => ?_))|(refine st_len rfl (SlE.ext (w := w) (by exact fx) hi) ?_)|(refine c_loopV (fun (i : Nat) w' => Ext w w' ∧ i ≤ ids.length ∧ ∀ s ∈ ids.take i, wiP l (idsOf l (belowL l s)) more count size = true) (fun i => [(0, .pointer (some ⟨g, 0, none⟩)), (2, .int .i64 more), (3, .int .i64 count), (4, .int .i64 size), (13, v), (14, .int .i64 (ids.length : Nat)), (15, .int .i64 i)]) (fun i => ids.length - i) 0 ⟨rfl, rfl, rfl, rfl, rfl, rfl, rfl, trivial⟩ ⟨Ext.refl _, Nat.zero_le _, by simp⟩ ?_; rintro i ρ w3 ⟨x3, hi3, hk⟩)|(have hil : i < ids.length := (by omega); refine st_elemE (d := some 17) (E := strE) rfl rfl (n := i) (l := ids) (hi.ext x3) rfl hil (fun ad r5 => ?_); have r5 : Row w3 ad [Value.string ids[i]] := r5)|(refine zC rfl (pbelow_spec (M := M) (l := l) ids[i] _ (hG.ext (by exact fx)) (fun b hb => Nat.lt_of_lt_of_le (hM b hb) (Ext.size (by exact fx))) hl) ?_; rintro vb w6 ⟨ob, x6⟩; have sb := ob.sl)|(refine zC rfl (within_spec (M := M) (l := l) (ids := idsOf l (belowL l ids[i])) more count size _ (hG.ext (by exact fx)) (fun b hb => Nat.lt_of_lt_of_le (hM b hb) (Ext.size (by exact fx))) sb (Nat.le_trans (idsOf_len_le _ _) (by omega)) hm) ?_; rintro _ w7 ⟨rfl, x7⟩))
  · have e : hoP l ids more count size = false := by
      unfold hoP
      rw [List.all_eq_false]
      exact ⟨_, List.getElem_mem hil, by simpa using h⟩
    rw [e]
    exact x_ret rfl ⟨rfl, by exact fx⟩
  · refine ⟨i + 1, ⟨rfl, rfl, rfl, rfl, rfl, rfl, rfl, trivial⟩, ⟨by exact fx, by omega, fun s hs => ?_⟩, by omega⟩
    rw [List.take_succ_eq_append_getElem hil] at hs
    rcases List.mem_append.1 hs with h1 | h1
    · exact hk s h1
    · simp only [List.mem_singleton] at h1; subst h1; simpa using h
  · have e : hoP l ids more count size = true := by
      unfold hoP
      rw [List.take_of_length_le (by omega)] at hk
      exact List.all_eq_true.2 hk
    rw [e]
    exact x_ret rfl ⟨rfl, by exact fx⟩
theorem fits_nil {cs : List Value} {iv ov : Value} {t : Tx} (he : cs = txCs t iv ov) (w : World) : K.Spec Tryz.prog F.limit_Fits [.pointer none, .agg cs.toArray] w fun r w' => r = .int .i64 1 ∧ Ext w w' := by
  subst he
  refine s_limit_Fits rfl ?_
  unfold k_limit_Fits
  refine ox ?_
  repeat' (first|(first|refine go1 ?_|refine zg (fun _ _=>?_)|refine zi (fun _ _=>?_))|(first|refine zD rfl rfl (fun bp wp xp ap rp hp0=>?_)|refine zE (fun _=>rfl) rfl rfl rfl (fun bq wq xq aq rq hq0=>?_)))
  exact x_ret rfl ⟨rfl, by exact fx⟩
theorem fits_spec {g : Nat} {M N : List Nat} {l : List Ent} {cs : List Value} {t : Tx} (w : World) (hG : GrR w g M l) (hM : ∀ b ∈ M, b < w.heap.size) (ht : txR.rel N w cs t) (hs : t.Sm) (hl : l.length ≤ 1000) :
    K.Spec Tryz.prog F.limit_Fits [.pointer (some ⟨g, 0, none⟩), .agg cs.toArray] w fun r w' => r = .int .i64 (fitsL l t) ∧ Ext w w' := by
  have ht0 := ht
  obtain ⟨iv, ov, rfl, -⟩ := ht
  by_cases hc : checkT t = 0
  · have hz := sz_of_check hs hc
    have hz2 := hz.size
    have hmore : (0 : Int) ≤ ((sizeT t : Nat) : Int) ∧ ((sizeT t : Nat) : Int) ≤ 1000000000 := by omega
    have e0 : sizeV t = .tuple #[.int .i64 (sizeT t : Nat), .int .i64 0] := by rw [sizeV, if_pos hc]
    have hLe := idsOf_len_le l (aboveL l t)
    have hfit : fitsL l t = if wiP l (idsOf l (aboveL l t)) (sizeT t : Nat) 25 101000 = false then 14 else if hoP l (idsOf l (aboveL l t)) (sizeT t : Nat) 25 101000 then 0
      else if ((idsOf l (aboveL l t)).length : Int) = 1 ∧ ((sizeT t : Nat) : Int) ≤ 10000 ∧ hoP l (idsOf l (aboveL l t)) (sizeT t : Nat) 26 111000 = true then 0 else 14 := by
      rw [fitsL, if_neg (by simpa using hc)]
    rw [hfit]
    refine s_limit_Fits rfl ?_
    unfold k_limit_Fits
    refine ox ?_
    repeat' (first|(first|refine go1 ?_|refine zg (fun _ _=>?_)|refine zi (fun _ _=>?_))|(refine zK rfl (fun h => ?_) (fun h => ?_))|(refine zM rfl (fun h => ?_) (fun h => ?_))|(refine zJ rfl (fun h => ?_) (fun h => ?_))|(refine zD rfl rfl (fun bp wp xp ap (rp : Row wp ⟨bp, 0, none⟩ (txCs t iv ov)) hp0=>?_))|(refine zC rfl (size_spec (M := N) (cs := txCs t iv ov) (t := t) _ (R.ext ht0 (by exact fx)) hs) ?_; rintro _ w3 ⟨rfl, x3⟩; rw [e0])|(refine zC rfl (pabove_spec (M := M) (N := N) (l := l) (cs := txCs t iv ov) (t := t) _ (hG.ext (by exact fx)) (fun b hb => Nat.lt_of_lt_of_le (hM b hb) (Ext.size (by exact fx))) (R.ext ht0 (by exact fx)) hs.ins hl) ?_; rintro va w4 ⟨oa, x4⟩; have sa := oa.sl)|(refine zC rfl (within_spec (M := M) (l := l) (ids := idsOf l (aboveL l t)) _ _ _ _ (hG.ext (by exact fx)) (fun b hb => Nat.lt_of_lt_of_le (hM b hb) (Ext.size (by exact fx))) (SlE.ext (by exact fx) sa) (by omega) hmore) ?_; rintro _ w5 ⟨rfl, x5⟩)|(refine zC rfl (housed_spec (M := M) (l := l) (ids := idsOf l (aboveL l t)) _ _ _ _ (hG.ext (by exact fx)) (fun b hb => Nat.lt_of_lt_of_le (hM b hb) (Ext.size (by exact fx))) (SlE.ext (by exact fx) sa) (by omega) hl hmore) ?_; rintro _ w6 ⟨rfl, x6⟩)|(refine st_len rfl (SlE.ext (by exact fx) sa) ?_))
    all_goals clear hG hM ht0 rp ap
    all_goals exact x_ret rfl ⟨congrArg (Value.int .i64) (by first | (simp_all; done) | (simp_all; intros; omega)), by exact fx⟩
  · have e0 : sizeV t = .tuple #[.int .i64 0, .int .i64 (checkT t)] := by rw [sizeV, if_neg hc]
    have hfit : fitsL l t = checkT t := by rw [fitsL, if_pos hc]
    rw [hfit]
    refine s_limit_Fits rfl ?_
    unfold k_limit_Fits
    refine ox ?_
    repeat' (first|(first|refine go1 ?_|refine zg (fun _ _=>?_)|refine zi (fun _ _=>?_))|(refine zN rfl (fun h => ?_) (fun h => absurd h hc))|(refine zD rfl rfl (fun bp wp xp ap (rp : Row wp ⟨bp, 0, none⟩ (txCs t iv ov)) hp0=>?_))|(refine zC rfl (size_spec (M := N) (cs := txCs t iv ov) (t := t) _ (R.ext ht0 (by exact fx)) hs) ?_; rintro _ w3 ⟨rfl, x3⟩; rw [e0]))
    exact x_ret rfl ⟨rfl, by exact fx⟩
end Go.Proofs.YtfeifodeaphbjaaGreat
end
section
namespace Go.Proofs.YtfeifodeaphbjaaGreat
open Go Go.K
attribute [local irreducible] regK codeK retK KOp.wp K.Spec u32 leS vnS str zero32 sha2 encT idT sizeT checkT grantB idN stepR workL reachE

theorem get_nil (id : ByteArray) (w : World) : K.Spec Tryz.prog F.graph_Graph_Get [.pointer none, .string id] w fun r w' => r = .tuple #[.agg zEnt.toArray, .bool false] ∧ Ext w w' := by
  refine s_graph_Graph_Get rfl ?_
  unfold k_graph_Graph_Get
  refine ox ?_
  repeat' (first|(first|refine go1 ?_|refine zg (fun _ _=>?_)|refine zi (fun _ _=>?_))|(refine zH (fun b4 w4 x4 a4 hb4 => ?_))|(refine st_build (cs := zEnt) rfl ?_)|(refine st_setN (w0 := w) (vs := zEnt) (by exact fx) (by omega) (by focus (repeat (first | assumption | (apply At.ext; assumption)))) rfl rfl rfl rfl rfl (fun w9 x9 c9 a9 r9 => ?_)))
  exact x_ret (ret2 (rv_cell r9 rfl rfl) rv_tmp) ⟨rfl, x9⟩
theorem spender_nil (p : Pt) (w : World) : K.Spec Tryz.prog F.graph_Graph_Spender [.pointer none, .agg p.cs.toArray] w fun r w' => r = .tuple #[.string ⟨#[]⟩, .bool false] ∧ Ext w w' := by
  refine s_graph_Graph_Spender rfl ?_
  unfold k_graph_Graph_Spender
  refine ox ?_
  repeat' (first|(first|refine go1 ?_|refine zg (fun _ _=>?_)|refine zi (fun _ _=>?_))|(first|refine zD rfl rfl (fun bp wp xp ap rp hp0=>?_)|refine zE (fun _=>rfl) rfl rfl rfl (fun bq wq xq aq rq hq0=>?_)))
  exact x_ret rfl ⟨rfl, by exact fx⟩
theorem out_nil (p : Pt) (w : World) : K.Spec Tryz.prog F.graph_Graph_Out [.pointer none, .agg p.cs.toArray] w fun r w' => r = .tuple #[.agg #[.int .i64 0, .string ⟨#[]⟩], .bool false] ∧ Ext w w' := by
  refine s_graph_Graph_Out rfl ?_
  unfold k_graph_Graph_Out
  refine ox ?_
  repeat' (first|(first|refine go1 ?_|refine zg (fun _ _=>?_)|refine zi (fun _ _=>?_))|(first|refine zD rfl rfl (fun bp wp xp ap rp hp0=>?_)|refine zE (fun _=>rfl) rfl rfl rfl (fun bq wq xq aq rq hq0=>?_))|(refine zH (fun b4 w4 x4 a4 hb4 => ?_))|(refine zC rfl (get_nil p.s _) ?_; rintro _ w5 ⟨rfl, x5⟩)|(refine st_setN (w0 := w) (vs := [.int .i64 0, .string ⟨#[]⟩]) (by exact fx) (by have := Ext.size (w := w) (w' := wp) (by exact fx); omega) (by focus (repeat (first | assumption | (apply At.ext; assumption)))) rfl rfl rfl rfl rfl (fun w9 x9 c9 a9 r9 => ?_)))
  exact x_ret (ret2 (rv_cell r9 rfl rfl) rv_tmp) ⟨rfl, x9⟩
theorem all_nil (w : World) : K.Spec Tryz.prog F.graph_Graph_All [.pointer none] w fun r w' => r = .slice none 0 0 ∧ Ext w w' := by
  refine s_graph_Graph_All rfl ?_
  unfold k_graph_Graph_All
  refine ox ?_
  repeat' (first|(first|refine go1 ?_|refine zg (fun _ _=>?_)|refine zi (fun _ _=>?_))|(first|refine zD rfl rfl (fun bp wp xp ap rp hp0=>?_)|refine zE (fun _=>rfl) rfl rfl rfl (fun bq wq xq aq rq hq0=>?_)))
  exact x_ret rfl ⟨rfl, by exact fx⟩
theorem above_nil {cs : List Value} {iv ov : Value} {t : Tx} (he : cs = txCs t iv ov) (w : World) : K.Spec Tryz.prog F.graph_Graph_Above [.pointer none, .agg cs.toArray] w fun r w' => r = .slice none 0 0 ∧ Ext w w' := by
  subst he
  refine s_graph_Graph_Above rfl ?_
  unfold k_graph_Graph_Above
  refine ox ?_
  repeat' (first|(first|refine go1 ?_|refine zg (fun _ _=>?_)|refine zi (fun _ _=>?_))|(first|refine zD rfl rfl (fun bp wp xp ap rp hp0=>?_)|refine zE (fun _=>rfl) rfl rfl rfl (fun bq wq xq aq rq hq0=>?_)))
  exact x_ret rfl ⟨rfl, by exact fx⟩
theorem below_nil (id : ByteArray) (w : World) : K.Spec Tryz.prog F.graph_Graph_Below [.pointer none, .string id] w fun r w' => r = .slice none 0 0 ∧ Ext w w' := by
  refine s_graph_Graph_Below rfl ?_
  unfold k_graph_Graph_Below
  refine ox ?_
  repeat' (first|(first|refine go1 ?_|refine zg (fun _ _=>?_)|refine zi (fun _ _=>?_))|(first|refine zD rfl rfl (fun bp wp xp ap rp hp0=>?_)|refine zE (fun _=>rfl) rfl rfl rfl (fun bq wq xq aq rq hq0=>?_))|(refine zC rfl (get_nil id _) ?_; rintro _ w5 ⟨rfl, x5⟩))
  exact x_ret rfl ⟨rfl, by exact fx⟩
theorem copy_nil (w : World) : K.Spec Tryz.prog F.graph_Graph_Copy [.pointer none] w fun r w' => r = .pointer none ∧ Ext w w' := by
  refine s_graph_Graph_Copy rfl ?_
  unfold k_graph_Graph_Copy
  refine ox ?_
  repeat' (first|(first|refine go1 ?_|refine zg (fun _ _=>?_)|refine zi (fun _ _=>?_))|(first|refine zD rfl rfl (fun bp wp xp ap rp hp0=>?_)|refine zE (fun _=>rfl) rfl rfl rfl (fun bq wq xq aq rq hq0=>?_)))
  exact x_ret rfl ⟨rfl, by exact fx⟩
theorem drop_nil (id : ByteArray) (w : World) : K.Spec Tryz.prog F.graph_Graph_Drop [.pointer none, .string id] w fun r w' => r = .int .i64 1 ∧ Ext w w' := by
  refine s_graph_Graph_Drop rfl ?_
  unfold k_graph_Graph_Drop
  refine ox ?_
  repeat' (first|(first|refine go1 ?_|refine zg (fun _ _=>?_)|refine zi (fun _ _=>?_))|(first|refine zD rfl rfl (fun bp wp xp ap rp hp0=>?_)|refine zE (fun _=>rfl) rfl rfl rfl (fun bq wq xq aq rq hq0=>?_)))
  exact x_ret rfl ⟨rfl, by exact fx⟩
theorem add_nil {cs : List Value} {iv ov : Value} {t : Tx} (he : cs = txCs t iv ov) (fee : Int) (w : World) : K.Spec Tryz.prog F.graph_Graph_Add [.pointer none, .agg cs.toArray, .int .i64 fee] w fun r w' => r = .int .i64 1 ∧ Ext w w' := by
  subst he
  refine s_graph_Graph_Add rfl ?_
  unfold k_graph_Graph_Add
  refine ox ?_
  repeat' (first|(first|refine go1 ?_|refine zg (fun _ _=>?_)|refine zi (fun _ _=>?_))|(first|refine zD rfl rfl (fun bp wp xp ap rp hp0=>?_)|refine zE (fun _=>rfl) rfl rfl rfl (fun bq wq xq aq rq hq0=>?_)))
  exact x_ret rfl ⟨rfl, by exact fx⟩
theorem sum_nil {v : Value} {ids : List ByteArray} (w : World) (hi : SlE strE w v ids) (hn : ids.length ≤ 1) : K.Spec Tryz.prog F.graph_Graph_Sum [.pointer none, v] w fun r w' => r = .tuple #[.int .i64 0, .int .i64 0] ∧ Ext w w' := by
  refine s_graph_Graph_Sum rfl ?_
  unfold k_graph_Graph_Sum
  refine ox ?_
  repeat' (first|(first|refine go1 ?_|refine zg (fun _ _=>?_)|refine zi (fun _ _=>?_))|refine zL rfl (fun h => ?_) (fun h => ?_)|(refine st_makeMap (E := sK) (fv := fun n : Nat => Value.int .i64 (n : Nat)) (fun bm w1 x1 m1 hb1 => ?_); have lm := m1.lt)|(refine st_len rfl (SlE.ext (w := w) (by exact fx) hi) ?_)|(refine c_loopV (fun (p : Nat) w' => Ext w w' ∧ p ≤ ids.length ∧ (p = 0 → MapE sK (fun n : Nat => Value.int .i64 (n : Nat)) w' bm [])) (fun p => [(0, .pointer none), (6, .int .i64 0), (7, .int .i64 0), (8, .map (some bm)), (14, v), (15, .int .i64 (ids.length : Nat)), (16, .int .i64 (p : Nat))]) (fun p => ids.length - p) 0 ⟨rfl, rfl, rfl, rfl, rfl, rfl, rfl, trivial⟩ ⟨x1, by simp, fun _ => m1⟩ ?_; rintro i ρ w3 ⟨x3, hi3, hm⟩))
  · have hi0 : i = 0 := by omega
    subst hi0
    have hil : 0 < ids.length := by omega
    have hm := hm rfl
    refine st_elemE rfl rfl (n := 0) (l := ids) (hi.ext x3) rfl hil (fun ad r5 => ?_)
    have r5 : Row w3 ad [Value.string ids[0]] := r5
    repeat' (first|(first|refine go1 ?_|refine zg (fun _ _=>?_)|refine zi (fun _ _=>?_))|(refine st_lookup (d := some 22) (E := sK) (fv := fun n : Nat => Value.int .i64 (n : Nat)) (k := ids[0]) rfl rfl hm rfl rfl (fun c hcc => by simp [aget] at hcc) (fun hcn => ?_))|(refine st_mapUpdate (E := sK) (fv := fun n : Nat => Value.int .i64 (n : Nat)) (k := ids[0]) (v := 1) rfl rfl rfl hm rfl rfl (fun w4 c4 m4 => ?_); have x4 : Ext w w4 := (Ext.chg x3 c4).mono (by intro y hy; simp at hy; right; omega); clear x3)|(refine st_lookup (d := some 26) (E := sK) (fv := fun n : Nat => Value.int .i64 (n : Nat)) (k := ids[0]) rfl rfl m4 rfl rfl (fun c hcc => ?_) (fun hcn => by rw [aget_set', if_pos rfl] at hcn; cases hcn); rw [aget_set', if_pos rfl] at hcc; injection hcc with hcc; subst hcc)|(refine zL rfl (fun h9 => absurd h9 (by decide)) (fun h9 => ?_))|(refine zC rfl (get_nil ids[0] _) ?_; rintro _ w5 ⟨rfl, x5⟩)|(refine zE (d' := 11) (fun _=>rfl) rfl rfl rfl (fun b6 w6 x6 a6 (r6 : Row w6 ⟨b6, 0, none⟩ zEnt) hb6=>?_)))
    exact ⟨1, ⟨rfl, rfl, rfl, rfl, rfl, rfl, rfl, trivial⟩, ⟨by exact fx, by omega, fun h => by omega⟩, by omega⟩
  · exact x_ret rfl ⟨rfl, x3⟩
end Go.Proofs.YtfeifodeaphbjaaGreat
end
section
namespace Go.K
open Go
variable {l : List Ent} {s : ByteArray}
theorem findI_any : decide (findI l s ≥ 0) = l.any fun x => decide (x.id = s) := idxOf_any
theorem find_none (h : findI l s < 0) : (l.find? fun x => decide (x.id = s)) = none := by
  have h2 := @findI_any l s
  rw [decide_eq_false (by omega)] at h2
  refine List.find?_eq_none.2 fun x hx h3 => ?_
  rw [List.any_eq_true.2 ⟨x, hx, h3⟩] at h2; cases h2
theorem sum_none (h : findI l s < 0) : feeD l [s] = 0 ∧ sizeD l [s] = 0 := by
  have e : dist [s] = [s] := rfl
  unfold feeD sizeD
  rw [e]
  simp only [List.map_cons, List.map_nil, List.sum_cons, List.sum_nil, getG, find_none h]
  exact ⟨rfl, rfl⟩
theorem aboveL_len (l : List Ent) (t : Tx) : l.length = (aboveL l t).length := (reachL_length _ _ _).symm
theorem belowL_len (l : List Ent) (s : ByteArray) : l.length = (belowL l s).length := (reachL_length _ _ _).symm
theorem stepR_no {base : Nat → Bool} {edge : Nat → Nat → Bool} {n : Nat} (h : ∀ i, i < n → base i = false) : ∀ (r i : Nat), i < n → stepR base edge n r i = false := by
  intro r i hi
  cases hb : stepR base edge n r i with
  | false => rfl
  | true => exact (stepR_least (p := fun _ => False) (fun i hi hb => by rw [h i hi] at hb; cases hb) (fun _ _ _ _ hp _ => hp) r i hi hb).elim
theorem ids_no : ∀ {l : List Ent} {m : List Bool}, (∀ b ∈ m, b = false) → idsOf l m = []
  | [], m, _ => by cases m <;> rfl
  | _ :: _, [], _ => rfl
  | x :: l, b :: m, h => by
    have hb := h b (by simp)
    subst hb
    exact ids_no (l := l) (m := m) fun b hb => h b (by simp [hb])
theorem below_none (h : findI l s < 0) : idsOf l (belowL l s) = [] := by
  refine ids_no fun b hb => ?_
  unfold belowL reachL at hb
  obtain ⟨i, hi, rfl⟩ := List.mem_map.1 hb
  exact stepR_no (fun j _ => decide_eq_false (by omega)) _ _ (by simpa using hi)
end Go.K
end
