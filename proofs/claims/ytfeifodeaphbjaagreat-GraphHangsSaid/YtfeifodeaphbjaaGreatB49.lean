/- Contracts: nil graphs. Plain: an id that no entry has. Plain: entries that are added anew, and dropped from the last one on. The walk of GraphAgain. -/
import Derived.Test.YtfeifodeaphbjaaGreatB46
import Derived.Test.YtfeifodeaphbjaaGreatB48
section
namespace Go.Proofs.YtfeifodeaphbjaaGreat
open Go Go.K
attribute [local irreducible] regK codeK retK KOp.wp K.Spec u32 leS vnS str zero32 sha2 encT idT sizeT checkT grantB idN stepR workL reachE

theorem get_nil (id : ByteArray) (w : World) : K.Spec Tryz.prog F.graph_Graph_Get [.pointer none, .string id] w fun r w' => r = .tuple #[.agg zEnt.toArray, .bool false] ∧ Ext w w' := by
  refine s_graph_Graph_Get rfl ?_
  unfold k_graph_Graph_Get
  refine ox ?_
  repeat' (first|(first|refine go1 ?_|refine zg (fun _ _=>?_)|refine zi (fun _ _=>?_))|(refine zH (fun b4 w4 x4 a4 hb4 => ?_))|(refine st_build (cs := zEnt) rfl ?_)|(refine st_setN (w0 := w) (vs := zEnt) (by exact fx) (by omega) (by focus (repeat (first | assumption | (apply At.ext; assumption)))) rfl rfl rfl rfl rfl (fun w9 x9 c9 a9 r9 => ?_)))
  exact x_ret (ret2 (rv_cell r9 rfl rfl) rv_tmp) ⟨rfl, x9⟩
theorem spender_nil (p : Pt) (w : World) : K.Spec Tryz.prog F.graph_Graph_Spender [.pointer none, .agg p.cs.toArray] w fun r w' => r = .tuple #[.string ⟨#[]⟩, .bool false] ∧ Ext w w' := by
  refine s_graph_Graph_Spender rfl ?_
  unfold k_graph_Graph_Spender
  refine ox ?_
  repeat' (first|(first|refine go1 ?_|refine zg (fun _ _=>?_)|refine zi (fun _ _=>?_))|(first|refine zD rfl rfl (fun bp wp xp ap rp hp0=>?_)|refine zE (fun _=>rfl) rfl rfl rfl (fun bq wq xq aq rq hq0=>?_)))
  exact x_ret rfl ⟨rfl, by exact fx⟩
theorem out_nil (p : Pt) (w : World) : K.Spec Tryz.prog F.graph_Graph_Out [.pointer none, .agg p.cs.toArray] w fun r w' => (∃ a, r = .tuple #[a, .bool false]) ∧ Ext w w' := by
  refine s_graph_Graph_Out rfl ?_
  unfold k_graph_Graph_Out
  refine ox ?_
  repeat' (first|(first|refine go1 ?_|refine zg (fun _ _=>?_)|refine zi (fun _ _=>?_))|(first|refine zD rfl rfl (fun bp wp xp ap rp hp0=>?_)|refine zE (fun _=>rfl) rfl rfl rfl (fun bq wq xq aq rq hq0=>?_))|(refine zH (fun b4 w4 x4 a4 hb4 => ?_))|(refine zC rfl (get_nil p.s _) ?_; rintro _ w5 ⟨rfl, x5⟩)|(refine st_setN (w0 := w) (vs := [.int .i64 0, .string ⟨#[]⟩]) (by exact fx) (by have := Ext.size (w := w) (w' := wp) (by exact fx); omega) (by focus (repeat (first | assumption | (apply At.ext; assumption)))) rfl rfl rfl rfl rfl (fun w9 x9 c9 a9 r9 => ?_)))
  exact x_ret (ret2 (rv_cell r9 rfl rfl) rv_tmp) ⟨⟨_, rfl⟩, x9⟩
theorem all_nil (w : World) : K.Spec Tryz.prog F.graph_Graph_All [.pointer none] w fun r w' => r = .slice none 0 0 ∧ Ext w w' := by
  refine s_graph_Graph_All rfl ?_
  unfold k_graph_Graph_All
  refine ox ?_
  repeat' (first|(first|refine go1 ?_|refine zg (fun _ _=>?_)|refine zi (fun _ _=>?_))|(first|refine zD rfl rfl (fun bp wp xp ap rp hp0=>?_)|refine zE (fun _=>rfl) rfl rfl rfl (fun bq wq xq aq rq hq0=>?_)))
  exact x_ret rfl ⟨rfl, by exact fx⟩
theorem above_nil {cs : List Value} {iv ov : Value} {t : Tx} (he : cs = txCs t iv ov) (w : World) : K.Spec Tryz.prog F.graph_Graph_Above [.pointer none, .agg cs.toArray] w fun r w' => r = .slice none 0 0 ∧ Ext w w' := by
  subst he
  refine s_graph_Graph_Above rfl ?_
  unfold k_graph_Graph_Above
  refine ox ?_
  repeat' (first|(first|refine go1 ?_|refine zg (fun _ _=>?_)|refine zi (fun _ _=>?_))|(first|refine zD rfl rfl (fun bp wp xp ap rp hp0=>?_)|refine zE (fun _=>rfl) rfl rfl rfl (fun bq wq xq aq rq hq0=>?_)))
  exact x_ret rfl ⟨rfl, by exact fx⟩
theorem below_nil (id : ByteArray) (w : World) : K.Spec Tryz.prog F.graph_Graph_Below [.pointer none, .string id] w fun r w' => r = .slice none 0 0 ∧ Ext w w' := by
  refine s_graph_Graph_Below rfl ?_
  unfold k_graph_Graph_Below
  refine ox ?_
  repeat' (first|(first|refine go1 ?_|refine zg (fun _ _=>?_)|refine zi (fun _ _=>?_))|(first|refine zD rfl rfl (fun bp wp xp ap rp hp0=>?_)|refine zE (fun _=>rfl) rfl rfl rfl (fun bq wq xq aq rq hq0=>?_))|(refine zC rfl (get_nil id _) ?_; rintro _ w5 ⟨rfl, x5⟩))
  exact x_ret rfl ⟨rfl, by exact fx⟩
theorem copy_nil (w : World) : K.Spec Tryz.prog F.graph_Graph_Copy [.pointer none] w fun r w' => r = .pointer none ∧ Ext w w' := by
  refine s_graph_Graph_Copy rfl ?_
  unfold k_graph_Graph_Copy
  refine ox ?_
  repeat' (first|(first|refine go1 ?_|refine zg (fun _ _=>?_)|refine zi (fun _ _=>?_))|(first|refine zD rfl rfl (fun bp wp xp ap rp hp0=>?_)|refine zE (fun _=>rfl) rfl rfl rfl (fun bq wq xq aq rq hq0=>?_)))
  exact x_ret rfl ⟨rfl, by exact fx⟩
theorem drop_nil (id : ByteArray) (w : World) : K.Spec Tryz.prog F.graph_Graph_Drop [.pointer none, .string id] w fun r w' => r = .int .i64 1 ∧ Ext w w' := by
  refine s_graph_Graph_Drop rfl ?_
  unfold k_graph_Graph_Drop
  refine ox ?_
  repeat' (first|(first|refine go1 ?_|refine zg (fun _ _=>?_)|refine zi (fun _ _=>?_))|(first|refine zD rfl rfl (fun bp wp xp ap rp hp0=>?_)|refine zE (fun _=>rfl) rfl rfl rfl (fun bq wq xq aq rq hq0=>?_)))
  exact x_ret rfl ⟨rfl, by exact fx⟩
theorem add_nil {cs : List Value} {iv ov : Value} {t : Tx} (he : cs = txCs t iv ov) (fee : Int) (w : World) : K.Spec Tryz.prog F.graph_Graph_Add [.pointer none, .agg cs.toArray, .int .i64 fee] w fun r w' => r = .int .i64 1 ∧ Ext w w' := by
  subst he
  refine s_graph_Graph_Add rfl ?_
  unfold k_graph_Graph_Add
  refine ox ?_
  repeat' (first|(first|refine go1 ?_|refine zg (fun _ _=>?_)|refine zi (fun _ _=>?_))|(first|refine zD rfl rfl (fun bp wp xp ap rp hp0=>?_)|refine zE (fun _=>rfl) rfl rfl rfl (fun bq wq xq aq rq hq0=>?_)))
  exact x_ret rfl ⟨rfl, by exact fx⟩
theorem sum_nil {v : Value} {ids : List ByteArray} (w : World) (hi : SlE strE w v ids) (hn : ids.length ≤ 1) : K.Spec Tryz.prog F.graph_Graph_Sum [.pointer none, v] w fun r w' => r = .tuple #[.int .i64 0, .int .i64 0] ∧ Ext w w' := by
  refine s_graph_Graph_Sum rfl ?_
  unfold k_graph_Graph_Sum
  refine ox ?_
  repeat' (first|(first|refine go1 ?_|refine zg (fun _ _=>?_)|refine zi (fun _ _=>?_))|refine zL rfl (fun h => ?_) (fun h => ?_)|(refine st_makeMap (E := sK) (fv := fun n : Nat => Value.int .i64 (n : Nat)) (fun bm w1 x1 m1 hb1 => ?_); have lm := m1.lt)|(refine st_len rfl (SlE.ext (w := w) (by exact fx) hi) ?_)|(refine c_loopV (fun (p : Nat) w' => Ext w w' ∧ p ≤ ids.length ∧ (p = 0 → MapE sK (fun n : Nat => Value.int .i64 (n : Nat)) w' bm [])) (fun p => [(0, .pointer none), (6, .int .i64 0), (7, .int .i64 0), (8, .map (some bm)), (14, v), (15, .int .i64 (ids.length : Nat)), (16, .int .i64 (p : Nat))]) (fun p => ids.length - p) 0 ⟨rfl, rfl, rfl, rfl, rfl, rfl, rfl, trivial⟩ ⟨x1, by simp, fun _ => m1⟩ ?_; rintro i ρ w3 ⟨x3, hi3, hm⟩))
  · have hi0 : i = 0 := by omega
    subst hi0
    have hil : 0 < ids.length := by omega
    have hm := hm rfl
    refine st_elemE rfl rfl (n := 0) (l := ids) (hi.ext x3) rfl hil (fun ad r5 => ?_)
    have r5 : Row w3 ad [Value.string ids[0]] := r5
    repeat' (first|(first|refine go1 ?_|refine zg (fun _ _=>?_)|refine zi (fun _ _=>?_))|(refine st_lookup (d := some 22) (E := sK) (fv := fun n : Nat => Value.int .i64 (n : Nat)) (k := ids[0]) rfl rfl hm rfl rfl (fun c hcc => by simp [aget] at hcc) (fun hcn => ?_))|(refine st_mapUpdate (E := sK) (fv := fun n : Nat => Value.int .i64 (n : Nat)) (k := ids[0]) (v := 1) rfl rfl rfl hm rfl rfl (fun w4 c4 m4 => ?_); have x4 : Ext w w4 := (Ext.chg x3 c4).mono (by intro y hy; simp at hy; right; omega); clear x3)|(refine st_lookup (d := some 26) (E := sK) (fv := fun n : Nat => Value.int .i64 (n : Nat)) (k := ids[0]) rfl rfl m4 rfl rfl (fun c hcc => ?_) (fun hcn => by rw [aget_set', if_pos rfl] at hcn; cases hcn); rw [aget_set', if_pos rfl] at hcc; injection hcc with hcc; subst hcc)|(refine zL rfl (fun h9 => absurd h9 (by decide)) (fun h9 => ?_))|(refine zC rfl (get_nil ids[0] _) ?_; rintro _ w5 ⟨rfl, x5⟩)|(refine zE (d' := 11) (fun _=>rfl) rfl rfl rfl (fun b6 w6 x6 a6 (r6 : Row w6 ⟨b6, 0, none⟩ zEnt) hb6=>?_)))
    exact ⟨1, ⟨rfl, rfl, rfl, rfl, rfl, rfl, rfl, trivial⟩, ⟨by exact fx, by omega, fun h => by omega⟩, by omega⟩
  · exact x_ret rfl ⟨rfl, x3⟩
end Go.Proofs.YtfeifodeaphbjaaGreat
end
section
namespace Go.K
open Go
variable {l : List Ent} {s : ByteArray}
theorem findI_any : decide (findI l s ≥ 0) = l.any fun x => decide (x.id = s) := idxOf_any
theorem find_none (h : findI l s < 0) : (l.find? fun x => decide (x.id = s)) = none := by
  have h2 := @findI_any l s
  rw [decide_eq_false (by omega)] at h2
  refine List.find?_eq_none.2 fun x hx h3 => ?_
  rw [List.any_eq_true.2 ⟨x, hx, h3⟩] at h2; cases h2
theorem sum_none (h : findI l s < 0) : feeD l [s] = 0 ∧ sizeD l [s] = 0 := by
  have e : dist [s] = [s] := rfl
  unfold feeD sizeD
  rw [e]
  simp only [List.map_cons, List.map_nil, List.sum_cons, List.sum_nil, getG, find_none h]
  exact ⟨rfl, rfl⟩
theorem aboveL_len (l : List Ent) (t : Tx) : l.length = (aboveL l t).length := (reachL_length _ _ _).symm
theorem belowL_len (l : List Ent) (s : ByteArray) : l.length = (belowL l s).length := (reachL_length _ _ _).symm
theorem stepR_no {base : Nat → Bool} {edge : Nat → Nat → Bool} {n : Nat} (h : ∀ i, i < n → base i = false) : ∀ (r i : Nat), i < n → stepR base edge n r i = false := by
  intro r i hi
  cases hb : stepR base edge n r i with
  | false => rfl
  | true => exact (stepR_least (p := fun _ => False) (fun i hi hb => by rw [h i hi] at hb; cases hb) (fun _ _ _ _ hp _ => hp) r i hi hb).elim
theorem ids_no : ∀ {l : List Ent} {m : List Bool}, (∀ b ∈ m, b = false) → idsOf l m = []
  | [], m, _ => by cases m <;> rfl
  | _ :: _, [], _ => rfl
  | x :: l, b :: m, h => by
    have hb := h b (by simp)
    subst hb
    exact ids_no (l := l) (m := m) fun b hb => h b (by simp [hb])
theorem below_none (h : findI l s < 0) : idsOf l (belowL l s) = [] := by
  refine ids_no fun b hb => ?_
  unfold belowL reachL at hb
  obtain ⟨i, hi, rfl⟩ := List.mem_map.1 hb
  exact stepR_no (fun j _ => decide_eq_false (by omega)) _ _ (by simpa using hi)
end Go.K
end
section
namespace Go.K
open Go
variable {l : List Ent}
theorem findI_nil (s : ByteArray) : findI [] s < 0 := by unfold findI idxOf; simp
theorem addG_again (hok : ∀ x ∈ l, EntOk x) (hn : (l.map (·.id)).Nodup) (ha : l.Pairwise fun x y => ∀ p, spends x p = true → spends y p = false) {i : Nat} (hi : i < l.length) : addG (l.take i) l[i].tx l[i].fee = (l.take (i + 1), 0) := by
  have he := hok _ (List.getElem_mem hi)
  have h1 : (l.take i).any (fun x => decide (x.id = idT l[i].tx)) = false := by
    rw [List.any_eq_false]
    intro x hx
    obtain ⟨j, hj, rfl⟩ := List.getElem_of_mem hx
    have hj2 : j < i ∧ j < l.length := by rw [List.length_take] at hj; omega
    rw [List.getElem_take, ← he.id]
    simp only [decide_eq_true_eq]
    intro e
    have := entD_inj hn hj2.2 hi (by rw [entD_get hj2.2, entD_get hi]; exact e)
    omega
  have h2 : l[i].tx.ins.any (fun k => (l.take i).any fun x => spends x k.p) = false := by
    rw [List.any_eq_false]
    intro k hk h3
    rw [List.any_eq_true] at h3
    obtain ⟨x, hx, h4⟩ := h3
    obtain ⟨j, hj, rfl⟩ := List.getElem_of_mem hx
    have hj2 : j < i ∧ j < l.length := by rw [List.length_take] at hj; omega
    rw [List.getElem_take] at h4
    have h5 := (List.pairwise_iff_getElem.1 ha) j i hj2.2 hi hj2.1 k.p h4
    have h6 : spends l[i] k.p = true := by unfold spends; exact List.any_eq_true.2 ⟨k, hk, decide_eq_true rfl⟩
    rw [h5] at h6; cases h6
  unfold addG
  rw [if_neg (by rw [he.check]; simp), if_neg (by rw [he.grant]; simp), if_neg (by rw [he.fee]; simp), if_neg (by rw [h1]; simp), if_neg (by rw [h2]; simp), List.take_succ_eq_append_getElem hi]
  have e : (⟨l[i].tx, idT l[i].tx, l[i].fee, (sizeT l[i].tx : Nat)⟩ : Ent) = l[i] := by
    rw [← he.id, ← he.size]
  rw [e]
theorem dropG_last (hn : (l.map (·.id)).Nodup) {i : Nat} (hi : i < l.length) : dropG (l.take (i + 1)) l[i].id = (l.take i, 0) := by
  have hlen : (l.take (i + 1)).length = i + 1 := by rw [List.length_take]; omega
  have hn2 : ((l.take (i + 1)).map (·.id)).Nodup := by rw [List.map_take]; exact (List.take_sublist _ _).nodup hn
  have h := findI_at (l := l.take (i + 1)) (j := i) hn2 (by omega)
  rw [List.getElem_take] at h
  unfold dropG
  rw [h, if_neg (by omega)]
  congr 1
  show (l.take (i + 1)).eraseIdx i = _
  rw [List.take_succ_eq_append_getElem hi, List.eraseIdx_append_of_length_le (by rw [List.length_take]; omega)]
  rw [List.length_take, Nat.min_eq_left (by omega)]
  simp
end Go.K
end
section
namespace Go.Proofs.YtfeifodeaphbjaaGreat
open Go Go.K
attribute [local irreducible] regK codeK retK KOp.wp K.Spec u32 leS vnS str zero32 sha2 encT idT sizeT checkT grantB idN stepR workL reachE findI dropG addG aboveL belowL inS idsOf feeD sizeD

theorem GrR.apart {w : World} {g : Nat} {M : List Nat} {l : List Ent} (h : GrR w g M l) : l.Pairwise fun x y => ∀ p, spends x p = true → spends y p = false := by
  obtain ⟨b1, vo, b2, m, sp, hP⟩ := h; exact hP.inv.apart
set_option maxHeartbeats 4000000 in
theorem again_law {v : Value} {sc : List ActG} (w : World) (hs : SlR actR [] w v sc) : K.Spec Tryz.prog F.kedgelaw14_GraphAgain [v] w fun r w' => r = .bool true ∧ Ext w w' := by
  refine s_kedgelaw14_GraphAgain rfl ?_
  unfold k_kedgelaw14_GraphAgain
  refine ox ?_
  repeat' (first|(first|refine go1 ?_|refine zg (fun _ _=>?_)|refine zi (fun _ _=>?_))|(refine zC rfl (filled_spec 12 _ (SlR.ext hs (by exact fx)) (by decide)) ?_; rintro _ w2 ⟨g, M, u, l, rfl, G2, -, hl, x2⟩)|(refine zC rfl (new_spec _) ?_; rintro _ w3 ⟨hg, M3, rfl, G3, x3⟩))
  have hM2 := G2.lt
  have hok := G2.ok
  have hnd := G2.nodup
  have hap := G2.r.apart
  have hB3 := G3.base
  have hM3 := G3.lt
  have s2 := x2.size
  have s3 := x3.size
  have GR : GrR w3 g (M3 ++ M) l := G2.r.more x3 (mem_app hB3)
  have hMM : ∀ b ∈ M3 ++ M, b < w3.heap.size := fun b hb => by
    rcases List.mem_append.1 hb with h | h
    · exact hM3 b h
    · have := hM2 b h; omega
  repeat' (first|(first|refine go1 ?_|refine zg (fun _ _=>?_)|refine zi (fun _ _=>?_))|(refine zC rfl (all_spec (M := M3 ++ M) (l := l) _ GR hMM (by omega)) ?_; rintro va w4 ⟨oa, x4⟩))
  have sa : SlR entR (M3 ++ M) w4 va l := oa.slB hMM
  have G4 := G3.ext x4
  have x24 := x3.trans x4
  clear oa GR G3 x4 x3
  repeat' (first|(first|refine go1 ?_|refine zg (fun _ _=>?_)|refine zi (fun _ _=>?_))|(refine zG (E := entR) (M := M3 ++ M) (l := l) rfl (SlR.ext sa (by exact fx)) ?_)|(refine zL rfl (fun h => ?_) (fun h => ?_))|(refine c_loopV (fun (p : Nat × List Nat) w' => Ext w2 w' ∧ p.1 ≤ l.length ∧ Gr w' w2.heap.size hg p.2 (l.take p.1) ∧ SlR entR (p.2 ++ M) w' va l) (fun p => [(3, .pointer (some ⟨g, 0, none⟩)), (5, .pointer (some ⟨hg, 0, none⟩)), (6, va), (20, va), (21, .int .i64 (l.length : Nat)), (22, .int .i64 p.1)]) (fun p => l.length - p.1) (0, M3) ⟨rfl, rfl, rfl, rfl, rfl, rfl, trivial⟩ ⟨x24, by simp, by rw [List.take_zero]; exact G4, sa⟩ ?_; rintro ⟨i, N⟩ ρ w5 ⟨x5, hi, G5, sa5⟩; simp only at hi G5 sa5; dsimp only))
  · have hil : i < l.length := by omega
    have hN := G5.lt
    have hBN := G5.base
    have hNM : ∀ b ∈ N ++ M, b < w5.heap.size := fun b hb => by
      rcases List.mem_append.1 hb with h | h
      · exact hN b h
      · have := hM2 b h; have := x5.size; omega
    have hex := hok _ (List.getElem_mem hil)
    have hsm := chk_sm hex.check
    have htl : (l.take i).length ≤ 12 := by rw [List.length_take]; omega
    have hag := addG_again hok hnd hap hil
    clear sa G4 x24
    refine st_elemR (d := some 24) (E := entR) (M := N ++ M) rfl rfl (n := i) (l := l) sa5 rfl hil (fun ad cs r4 he => ?_)
    obtain ⟨iv, ov, rfl, q1, q2, q3⟩ := he
    have i1 := q1.one
    have i2 := q2.one
    repeat' (first|(first|refine go1 ?_|refine zg (fun _ _=>?_)|refine zi (fun _ _=>?_))|(refine zE (d' := 8) (fun _=>rfl) rfl rfl (by simp [entCs, i1, i2]; exact ⟨rfl, rfl, rfl, rfl, rfl⟩) (fun b6 w6 x6 a6 (r6 : Row w6 ⟨b6, 0, none⟩ (entCs l[i] iv ov)) hb6=>?_))|(refine zC rfl (gadd_spec (M := N) (N := N ++ M) (l := l.take i) (cs := txCs l[i].tx iv ov) (t := l[i].tx) l[i].fee _ (G5.ext (by exact fx)) ⟨iv, ov, rfl, by exact fx, by exact fx, q3.1, q3.2.1⟩ hsm q3.2.2.1 (fun b hb => Nat.lt_of_lt_of_le (hNM b hb) (Ext.size (by exact fx))) (fun b hb => by simp [hb]) (by omega)) ?_; rintro _ w7 ⟨N7, rfl, G7, c7, hb7⟩; rw [hag] at G7; rw [show (addG (l.take i) l[i].tx l[i].fee).2 = 0 by rw [hag]]))
    have sa7 : SlR entR (N7 ++ M) w7 va l := (SlR.ext sa5 x6).step c7 (fun b hb => .inl (by simp [hb])) (fun b hb => by
      rcases List.mem_append.1 hb with h | h
      · rcases hb7 b h with h | h
        · exact .inl (by simp [h])
        · exact .inr h
      · exact .inl (by simp [h]))
    exact ⟨(i + 1, N7), ⟨rfl, rfl, rfl, rfl, rfl, rfl, trivial⟩, ⟨(Ext.chg (x5.trans x6) c7).mono (fun b hb => .inr (hBN b hb)), by simp; omega, G7, sa7⟩, by simp; omega⟩
  · have ei : i = l.length := by omega
    subst ei
    rw [List.take_of_length_le (Nat.le_refl _)] at G5
    have hN := G5.lt
    have s5 := x5.size
    have hNM : ∀ b ∈ N ++ M, b < w5.heap.size := fun b hb => by
      rcases List.mem_append.1 hb with h | h
      · exact hN b h
      · have := hM2 b h; omega
    have g5 := G2.ext x5
    have GR5 := G5.r
    clear sa G4 x24 G2 hB3 hM3 hMM
    have x05 : Ext w w5 := x2.trans x5
    clear x2 x5
    repeat' (first|(first|refine go1 ?_|refine zg (fun _ _=>?_)|refine zi (fun _ _=>?_))|(refine zC rfl (gsame_spec (M := N) (N := N ++ M) (l := l) _ (GR5.ext (by exact fx)) (fun b hb => Nat.lt_of_lt_of_le (hN b hb) (Ext.size (by exact fx))) (SlR.ext sa5 (by exact fx)) (by omega)) ?_; rintro _ w6 ⟨rfl, x6⟩)|(refine zG (E := entR) (M := N ++ M) (l := l) rfl (SlR.ext sa5 (by exact fx)) ?_))
    have g6 := g5.ext x6
    have x06 := x05.trans x6
    have sa6 : SlR entR M w6 va l := (SlR.ext sa5 x6).sub (fun b hb => .inl (by simp [hb]))
    clear g5 x05 sa5 x6 G5 GR5
    refine c_loopV (fun (p : Nat × List Nat) w' => Ext w w' ∧ p.1 ≤ l.length ∧ Gr w' w.heap.size g p.2 (l.take p.1) ∧ SlR entR p.2 w' va l) (fun p => [(3, .pointer (some ⟨g, 0, none⟩)), (6, va), (9, .int .i64 ((p.1 : Int) - 1))]) (fun p => p.1) (l.length, M) ⟨rfl, rfl, rfl, trivial⟩ ⟨x06, Nat.le_refl _, by rw [List.take_of_length_le (Nat.le_refl _)]; exact g6, sa6⟩ ?_
    rintro ⟨k, N5⟩ ρ w5 ⟨x5, hk, G5, sa5⟩
    simp only at hk G5 sa5
    dsimp only
    clear g6 sa6 x06
    repeat' (first|(first|refine go1 ?_|refine zg (fun _ _=>?_)|refine zi (fun _ _=>?_))|(refine zL rfl (fun h => ?_) (fun h => ?_)))
    · obtain ⟨j, rfl⟩ : ∃ j, k = j + 1 := ⟨k - 1, by omega⟩
      have hj : j < l.length := by omega
      have hdl := dropG_last hnd hj
      have hN5 := G5.lt
      have hB5 := G5.base
      have htl : (l.take (j + 1)).length ≤ 12 := by rw [List.length_take]; omega
      have hjj : (((j + 1 : Nat) : Int) - 1) = (j : Nat) := by omega
      refine st_elemR (d := some 48) (E := entR) (M := N5) (kd := .i64) rfl (congrArg (Value.int .i64) hjj) (n := j) (l := l) sa5 rfl hj (fun ad cs r4 he => ?_)
      obtain ⟨iv, ov, rfl, q1, q2, q3⟩ := he
      repeat' (first|(refine st_takeR (d := some 57) (E := entR) (M := M7) (n := j) (m := ((j + 1 : Nat) : Int) - 1) rfl rfl hjj sa7 (by omega) rfl (fun v' hv => ?_))|(first|refine go1 ?_|refine zg (fun _ _=>?_)|refine zi (fun _ _=>?_))|(refine zC rfl (gdrop_spec (M := N5) (l := l.take (j + 1)) l[j].id _ G5 (by omega)) ?_; rintro _ w7 ⟨M7, rfl, G7, c7, hb7⟩; rw [hdl] at G7; rw [show (dropG (l.take (j + 1)) l[j].id).2 = 0 by rw [hdl]]; have hM7 := G7.lt; have sa7 : SlR entR M7 w7 va l := sa5.step c7 (fun b hb => .inl hb) hb7)|(refine zC rfl (gsame_spec (M := M7) (N := M7) (l := l.take j) _ G7.r hM7 hv (by rw [List.length_take]; omega)) ?_; rintro _ w8 ⟨rfl, x8⟩))
      exact ⟨(j, M7), ⟨rfl, rfl, congrArg (Value.int .i64) (show ((j + 1 : Nat) : Int) - 1 - 1 = (j : Int) - 1 by omega), trivial⟩, ⟨(Ext.chg x5 c7).mono (fun b hb => .inr (hB5 b hb)) |>.ext x8, by simp; omega, G7.ext x8, SlR.ext sa7 x8⟩, by simp⟩
    · have e0 : k = 0 := by omega
      subst e0
      rw [List.take_zero] at G5
      have G5r := G5.r
      have hN5 := G5.lt
      clear sa5
      have hsn := sum_none (l := []) (s := (⟨#[]⟩ : ByteArray)) (findI_nil _)
      repeat' (first|(first|refine go1 ?_|refine zg (fun _ _=>?_)|refine zi (fun _ _=>?_))|(refine zI (d := some 63) (cs := [.string ⟨#[]⟩]) rfl (fun b7 w7 x7 a7 hb => ?_); have s7 := SlE.new (E := strE) (l := [⟨#[]⟩]) a7 rfl (Nat.le_refl _))|(refine zC rfl (gsum_spec (M := N5) (l := []) (ids := [⟨#[]⟩]) _ (G5r.ext (by exact fx)) (fun b hb => Nat.lt_of_lt_of_le (hN5 b hb) (Ext.size (by exact fx))) s7 (by decide)) ?_; rintro _ w8 ⟨rfl, x8⟩; rw [hsn.1, hsn.2])|(refine zC rfl (wakes14_spec _) ?_; rintro _ w9 ⟨rfl, x9⟩))
      exact x_ret rfl ⟨rfl, by exact fx⟩
end Go.Proofs.YtfeifodeaphbjaaGreat
end
