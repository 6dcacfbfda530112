/- Contracts: what is reached in a graph. Contracts: above and below, by the program. Plain: a transaction that was made of one number is good. Contracts: what the document fixes of graphs. Contracts: a graph of any entries. The walk of GraphPlays: the entries that are kept. Plain: what rules of replacing say. -/
import Derived.Test.YtilhlcnekkkajaaGreatPa25
set_option linter.unusedVariables false
set_option linter.unusedSimpArgs false
section
namespace Go.Proofs.YtilhlcnekkkajaaGreat
open Go Go.K
attribute [local irreducible] regK codeK retK KOp.wp K.Spec u32 leS vnS str zero32 sha2 encT idT sizeT checkT grantB idN hangs stepR findI spends reachE workL

section
variable {P : Program} {d : Option Tmp} {r : KR} {K : Env → World → Prop} {ρ : Env} {w : World}
theorem st_dropE {α : Type} {E : Enc α} {size : Nat} {x a : Operand} {v : Value} {l : List α} {ka : IntKind} {lo : Nat} (hx : ev ρ x = v) (ha : ev ρ a = .int ka (lo : Nat)) (hs : SlE E w v l) (h1 : lo ≤ l.length) (hk : size = E.k)
    (k : ∀ v', SlE E w v' (l.drop lo) → regK P r K (put ρ d v') w) : regK P (.cons ⟨d, .sliceSl size x (some a) none, none⟩ r) K ρ w := by
  subst hk
  obtain ⟨hl, base, cap, rfl, hc, hr⟩ := hs
  have h2 := SlE.cut (E := E) (lo := lo) (hi := l.length) ⟨hl, base, cap, rfl, hc, hr⟩ h1 (Nat.le_refl _) (cap - lo) (by omega)
  rw [List.take_of_length_le (by rw [List.length_drop]; omega)] at h2
  refine st_fix rfl (v := .slice (if cap = lo then base else base.map fun ad : Addr => ad.add (lo * E.k)) (l.length - lo) (cap - lo)) ?_ (k _ h2)
  simp only [KOp.fix, hx, ha, Option.bind_some, Option.map_some]
  rw [if_pos (by omega)]
  simp only [Option.bind_some, Int.toNat_natCast]
  simp
end
/-- What turns in a map turns no slice. -/
theorem SlE.offmap {α : Type} {F : Enc α} {w w' : World} {v : Value} {l : List α} {b ck : Nat} {es : Array MapEntry} (h : SlE F w v l) (hm : At w b (.map es ck)) (c : Chg [b] w w') : SlE F w' v l := by
  by_cases hp : 0 < l.length
  · refine h.chg c (fun a m k e hmem => ?_)
    simp only [List.mem_singleton] at hmem
    obtain ⟨h1, base, cap, hv, hc, h2⟩ := h
    have hpos : 0 < (F.flat l).length := by rw [F.flat_length]; exact Nat.mul_pos hp F.pos
    obtain ⟨a', ha, hr⟩ := h2 hpos
    rw [e, ha] at hv
    injection hv with hv1
    injection hv1 with hv2
    subst hv2
    have h3 := hr 0 _ (List.getElem?_eq_getElem hpos)
    unfold World.cell? at h3
    rw [add_block, hmem, show w.heap[b]? = some (.map es ck) from hm] at h3
    simp at h3
  · have hl : l = [] := List.length_eq_zero_iff.1 (by omega)
    subst hl
    exact h.anyw
/-- A function value tells what is next of an entry. -/
def Nexts (fv : Value) (l : List Ent) (M : List Nat) (w : World) (nxt : Ent → List ByteArray) : Prop :=
  ∃ f first cap, fv = .func (.func f) first cap ∧ hasBody Tryz.prog f = true ∧ ∀ x ∈ l, ∀ w' cs, Ext w w' → entR.rel M w' cs x → K.Spec Tryz.prog f (first.toList ++ [.agg cs.toArray] ++ cap.toList) w' fun r w'' => Own strE T.string w'.heap.size w'' r (nxt x) ∧ Ext w' w''
theorem reach1_hb : hasBody Tryz.prog F.graph_Graph_reach_1 = true := by kernel_rfl
theorem reach1_spec {b7 bm : Nat} {met : List (ByteArray × Nat)} (id : ByteArray) (w : World) (h7 : At w b7 (.cells [.map (some bm)].toArray T.map_string_int (0, 0))) (hm : MapE sK (fun n : Nat => Value.int .i64 (n : Nat)) w bm met) (hp : ∀ s c, aget met s = some c → 1 ≤ c) : K.Spec Tryz.prog F.graph_Graph_reach_1 [.string id, .pointer (some ⟨b7, 0, none⟩)] w fun r w' => r = .bool (!metB met id) ∧ w' = w := by
  have r7 : Row w ⟨b7, 0, none⟩ [.map (some bm)] := Row.of_at h7
  refine s_graph_Graph_reach_1 rfl ?_
  unfold k_graph_Graph_reach_1
  refine oy ?_
  repeat' (first|(first|refine go1 ?_|refine zg (fun _ _=>?_)|refine zi (fun _ _=>?_))|(refine st_lookup (E := sK) (fv := fun n : Nat => Value.int .i64 (n : Nat)) (k := id) rfl rfl hm rfl rfl (fun c hc => ?_) (fun hn => ?_)))
  · have h1 := hp _ _ hc
    have e : metB met id = true := by unfold metB; rw [hc]; rfl
    rw [e]
    exact x_ret rfl ⟨congrArg Value.bool (decide_eq_false (by omega)), rfl⟩
  · have e : metB met id = false := by unfold metB; rw [hn]; rfl
    rw [e]
    exact x_ret rfl ⟨rfl, rfl⟩
set_option maxHeartbeats 2000000 in
theorem reach_spec {g : Nat} {M : List Nat} {l : List Ent} {vf fv : Value} {frm : List ByteArray} {nxt : Ent → List ByteArray} (w : World) (hG : GrR w g M l) (hlt : ∀ b ∈ M, b < w.heap.size) (hF : SlE strE w vf frm) (hN : Nexts fv l M w nxt) (hn : l.length ≤ 1000) (hfl : frm.length ≤ 1000)
    (hin0 : ∀ s ∈ frm, ∃ j, j < l.length ∧ (entD l j).id = s) (hin : ∀ i, i < l.length → ∀ s ∈ nxt (entD l i), ∃ j, j < l.length ∧ (entD l j).id = s) (hnl : ∀ x ∈ l, (nxt x).length ≤ 1000) :
    K.Spec Tryz.prog F.graph_Graph_reach [.pointer (some ⟨g, 0, none⟩), vf, fv] w fun r w' => Own strE T.string w.heap.size w' r (idsOf l (reachE l frm nxt)) ∧ Ext w w' := by
  have hG0 := hG
  have hnd := hG.nodup
  obtain ⟨b1, vo, b2, m, sp, hP⟩ := hG
  have rg : Row w ⟨g, 0, none⟩ [.map (some b1), vo, .map (some b2)] := Row.of_at hP.at_
  have hinv := hP.inv
  obtain ⟨f, first, cap, rfl, hfb, hnx⟩ := hN
  have hW0 : workL [] nxt l ≤ 1000 * l.length := workL_le [] nxt l hnl
  refine s_graph_Graph_reach rfl ?_
  unfold k_graph_Graph_reach
  refine oy ?_
  repeat' (first|(first|refine go1 ?_|refine zg (fun _ _=>?_)|refine zi (fun _ _=>?_))|refine zL rfl (fun h => ?_) (fun h => ?_)|(refine st_makeMap (E := sK) (fv := fun n : Nat => Value.int .i64 (n : Nat)) (fun bm w1 x1 m1 hb1 => ?_); have lm := m1.lt)|(refine zH (fun b7 w2 x2 a2 hb2 => ?_); have l7 := a2.lt)|(refine st_store0 (b := b7) (v := .map (some bm)) rfl rfl rfl a2 (by decide) (fun w3 c3 a3 => ?_))|(refine st_len rfl hT ?_)|(refine c_loopV (fun (p : Value × List ByteArray × List (ByteArray × Nat)) w' => Ext w w' ∧ w3.heap.size ≤ w'.heap.size ∧ SlE strE w' p.1 p.2.1 ∧ At w' b7 (.cells [.map (some bm)].toArray T.map_string_int (0, 0)) ∧ MapE sK (fun n : Nat => Value.int .i64 (n : Nat)) w' bm p.2.2 ∧ BInv l frm nxt p.2.1 p.2.2 ∧ p.2.1.length + workL p.2.2 nxt l ≤ 2000000 ∧ ∀ s c, aget p.2.2 s = some c → c + (p.2.1.length + workL p.2.2 nxt l) ≤ 2000000) (fun p => [(0, .pointer (some ⟨g, 0, none⟩)), (2, .func (.func f) first cap), (7, .pointer (some ⟨b7, 0, none⟩)), (8, p.1)]) (fun p => p.2.1.length + workL p.2.2 nxt l) (vf, frm, []) ⟨rfl, rfl, rfl, rfl, trivial⟩ ?_ ?_))
  · have x3 : Ext w w3 := ((x1.trans x2).chg c3).mono (by intro y hy; simp at hy; have := x1.size; right; omega)
    exact ⟨x3, Nat.le_refl _, hF.ext x3, a3, (m1.ext x2).chg c3 (by simp; omega), BInv.start hin0, by simp only; omega, fun s c hc => by simp [aget] at hc⟩
  · rintro ⟨v, T, met⟩ ρ w4 ⟨x4, s34, hT, q7, qm, hB, hw, hc⟩
    simp only at hT qm hB hw hc
    dsimp only
    have r7 : Row w4 ⟨b7, 0, none⟩ [.map (some bm)] := Row.of_at q7
    have s23 := c3.size
    have s12 := x2.size
    clear c3 a3 a2 x1 x2 m1
    repeat' (first|(refine zi (fun w5 x5 => ?_))|(refine zg (fun w5 x5 => ?_))|(first|refine go1 ?_|refine zg (fun _ _=>?_)|refine zi (fun _ _=>?_))|refine zL rfl (fun h => ?_) (fun h => ?_)|(refine st_len rfl hT ?_))
    · obtain ⟨id, T', rfl⟩ : ∃ id T', T = id :: T' := by
        cases T with
        | nil => simp at h
        | cons a b => exact ⟨a, b, rfl⟩
      have hlenT : (id :: T').length = T'.length + 1 := rfl
      refine st_elemE rfl rfl (n := 0) (l := id :: T') (hT.ext x5) rfl (by simp) (fun ad r5 => ?_)
      have r5 : Row w5 ad [Value.string id] := r5
      have hT5 := hT.ext x5
      have qm5 := qm.ext x5
      have q75 := q7.ext x5
      have r75 := r7.ext x5
      have x05 : Unit → Ext w w5 := fun _ => x4.trans x5
      have s45 := x5.size
      clear x5 hT qm q7 r7 x4
      repeat' (first|(first|refine go1 ?_|refine zg (fun _ _=>?_)|refine zi (fun _ _=>?_))|(refine st_lookup (d := some 20) (E := sK) (fv := fun n : Nat => Value.int .i64 (n : Nat)) (k := id) rfl rfl qm5 rfl rfl (fun c hcc => have hcc2 := hc id c hcc; ?_) (fun hcn => ?_)))
      · have hp1 := hB.pos id c hcc
        refine st_mapUpdate (E := sK) (fv := fun n : Nat => Value.int .i64 (n : Nat)) (k := id) (v := c + 1) rfl rfl rfl qm5 rfl rfl (fun w6 c6 m6 => ?_)
        have lm6 := m6.lt
        have q76 := At.chg c6 q75 (by simp; omega)
        have r76 : Row w6 ⟨b7, 0, none⟩ [.map (some bm)] := Row.of_at q76
        have x06 : Ext w w6 := (Ext.chg (x05 ()) c6).mono (by intro y hy; simp at hy; right; omega)
        have s6 := c6.size
        have hT6 : SlE strE w6 v (id :: T') := by
          obtain ⟨es, ck, hat, _⟩ := qm5
          exact SlE.offmap hT5 hat c6
        clear r5
        repeat' (first|(refine zi (fun w7 x7 => ?_))|(refine zg (fun w7 x7 => ?_))|(first|refine go1 ?_|refine zg (fun _ _=>?_)|refine zi (fun _ _=>?_))|(refine st_elemE (d := some 24) rfl rfl (n := 0) (l := id :: T') (hT6.ext x7) rfl (by simp) (fun ad r5 => ?_); have r5 : Row w7 ad [Value.string id] := r5)|(refine st_lookup (d := some 26) (E := sK) (fv := fun n : Nat => Value.int .i64 (n : Nat)) (k := id) rfl rfl (m6.ext x7) rfl rfl (fun c2 hc2 => ?_) (fun hcn => ?_))|(refine zL rfl (fun h2 => ?_) (fun h2 => ?_))|(refine st_dropE (d := some 15) (E := strE) (lo := 1) rfl rfl (hT6.ext x7) (by simp) rfl (fun v8 hT8 => ?_)))
        · rw [aget_set', if_pos rfl] at hc2; injection hc2 with hc2; omega
        · rw [aget_set', if_pos rfl] at hc2; injection hc2 with hc2
          refine ⟨(v8, T', aset met id (c + 1)), ⟨rfl, rfl, rfl, rfl, trivial⟩, ⟨x06.trans x7, by have := x7.size; omega, hT8, q76.ext x7, m6.ext x7, hB.again hcc, ?_, fun s d hd => ?_⟩, ?_⟩
          · have := workL_set (met := met) (nxt := nxt) (id := id) (c := c + 1) l; simp only; omega
          · have := workL_set (met := met) (nxt := nxt) (id := id) (c := c + 1) l
            rw [aget_set'] at hd
            simp only
            split at hd
            · injection hd with hd; omega
            · have := hc s d hd; omega
          · have := workL_set (met := met) (nxt := nxt) (id := id) (c := c + 1) l; simp only; omega
        · rw [aget_set', if_pos rfl] at hcn; cases hcn
      · obtain ⟨i, hi, ei, hsi⟩ := hB.todo id (by simp)
        subst ei
        refine st_mapUpdate (E := sK) (fv := fun n : Nat => Value.int .i64 (n : Nat)) (k := (entD l i).id) (v := 1) rfl rfl rfl qm5 rfl rfl (fun w6 c6 m6 => ?_)
        have lm6 := m6.lt
        have q76 := At.chg c6 q75 (by simp; omega)
        have r76 : Row w6 ⟨b7, 0, none⟩ [.map (some bm)] := Row.of_at q76
        have x06 : Ext w w6 := (Ext.chg (x05 ()) c6).mono (by intro y hy; simp at hy; right; omega)
        have s6 := c6.size
        have hT6 : SlE strE w6 v ((entD l i).id :: T') := by
          obtain ⟨es, ck, hat, _⟩ := qm5
          exact SlE.offmap hT5 hat c6
        clear r5
        repeat' (first|(refine zi (fun w7 x7 => ?_))|(refine zg (fun w7 x7 => ?_))|(first|refine go1 ?_|refine zg (fun _ _=>?_)|refine zi (fun _ _=>?_))|(refine st_elemE (d := some 24) rfl rfl (n := 0) (l := (entD l i).id :: T') (hT6.ext x7) rfl (by simp) (fun ad r5 => ?_); have r5 : Row w7 ad [Value.string (entD l i).id] := r5)|(refine st_lookup (d := some 26) (E := sK) (fv := fun n : Nat => Value.int .i64 (n : Nat)) (k := (entD l i).id) rfl rfl (m6.ext x7) rfl rfl (fun c2 hc2 => have hT7 := hT6.ext x7; have m7 := m6.ext x7; have q77 := q76.ext x7; have x07 : Unit → Ext w w7 := fun _ => x06.trans x7; have s67 := x7.size; ?_) (fun hcn => ?_))|(refine zL rfl (fun h2 => ?_) (fun h2 => ?_))|(refine st_elemE (d := some 35) rfl rfl (n := 0) (l := (entD l i).id :: T') (hT7.ext x7) rfl (by simp) (fun ad r5 => ?_); have r5 : Row w7 ad [Value.string (entD l i).id] := r5)|(refine st_lookupR1 (d := some 37) (KE := sK) (F := entR) (k := (entD l i).id) rfl rfl (hP.ents.ext ((x07 ()).trans x7)) rfl rfl (fun y cs hy hr => ?_) (fun hn => ?_)))
        · rw [hinv.ent] at hy
          obtain ⟨e1, e2, e3, e4⟩ := has_some hy
          have hye : y = entD l i := by
            have h9 := (getE_id hG0 (show entD l i ∈ l by rw [entD_get hi]; exact List.getElem_mem hi)).1
            rw [e2] at h9; exact h9
          subst hye
          have hnl9 := hnl _ e3
          refine st_callV rfl hfb rfl (hnx _ e3 _ cs ((x07 ()).trans x7) hr) ?_
          rintro v9 w9 ⟨o9, x9⟩
          obtain ⟨bv, cv, rfl⟩ := hT7.form
          obtain ⟨bu, cu, rfl⟩ := o9.sl.form
          refine zI (d := some 39) (cs := [.slice bv _ cv, .slice bu _ cu]) rfl (fun b w10 x10 a10 hb => ?_)
          refine zC rfl (concat_spec (l1 := (entD l i).id :: T') (l2 := nxt (entD l i)) _ a10 ((hT7.ext x7).ext (x9.trans x10)) (o9.sl.ext x10) (by omega)) ?_
          rintro v11 w11 ⟨o11, x11⟩
          repeat' (first|(first|refine go1 ?_|refine zg (fun _ _=>?_)|refine zi (fun _ _=>?_))|(refine st_dropE (d := some 15) (E := strE) (lo := 1) rfl rfl o11.sl (by simp) rfl (fun v8 hT8 => ?_)))
          have x711 := (x7.trans (x9.trans x10)).trans x11
          have hwf := workL_first (nxt := nxt) (met := met) (c := 1) e3 (by unfold metB; rw [hcn]; rfl)
          have hln : (T' ++ nxt (entD l i)).length = T'.length + (nxt (entD l i)).length := List.length_append
          refine ⟨(v8, T' ++ nxt (entD l i), aset met (entD l i).id 1), ⟨rfl, rfl, rfl, rfl, trivial⟩, ⟨(x07 ()).trans x711, by have := x711.size; omega, hT8, q77.ext x711, m7.ext x711, hB.first hnd hi hcn (hin i hi), ?_, fun s d hd => ?_⟩, ?_⟩
          · simp only; omega
          · rw [aget_set'] at hd
            simp only
            split at hd
            · injection hd with hd; omega
            · have := hc s d hd; omega
          · simp only; omega
        · rw [hinv.ent] at hn
          exact absurd (List.find?_eq_none.1 hn _ (show entD l i ∈ l by rw [entD_get hi]; exact List.getElem_mem hi)) (by simp)
        · rw [aget_set', if_pos rfl] at hc2; injection hc2 with hc2; omega
        · rw [aget_set', if_pos rfl] at hcn; cases hcn
    · have hT0 : T = [] := List.length_eq_zero_iff.1 (by omega)
      subst hT0
      have hml : (l.map (·.id)).length = l.length := by simp
      have hord : SlR strR [] w4 vo (l.map (·.id)) := SlE.toR (F := strE) (ag := false) (hP.ord.ext x4) (by simp)
      refine zC rfl (cloneS_spec (M := []) (v := vo) (l := l.map (fun x : Ent => x.id)) _ hord (by omega) (by simp)) ?_
      rintro v5 w5 ⟨o5, x5⟩
      have o5 := OwnR.toOwn o5
      have g5 := o5.base
      have lm4 := qm.lt
      have l74 := q7.lt
      have h7v : b7 ∉ blkOf v5 := fun h => by have := g5 _ h; omega
      have hmv : bm ∉ blkOf v5 := fun h => by have := g5 _ h; omega
      repeat (first|refine go1 ?_|refine zg (fun _ _=>?_)|refine zi (fun _ _=>?_))
      refine zC rfl (del_spec (g := F.graph_Graph_reach_1) (capl := [.pointer (some ⟨b7, 0, none⟩)]) (l := l.map (fun x : Ent => x.id)) _ (fun s => !metB met s) reach1_hb o5 (by omega) (fun W s hW => reach1_spec s W (At.chg hW (q7.ext x5) h7v) ((qm.ext x5).chg hW hmv) hB.pos)) ?_
      rintro v6 w6 ⟨o6, c6, hb6⟩
      repeat (first|refine go1 ?_|refine zg (fun _ _=>?_)|refine zi (fun _ _=>?_))
      have e : (l.map (·.id)).filter (fun x => !!metB met x) = idsOf l (reachE l frm nxt) := by
        unfold reachE reachL
        refine filter_ids fun i hi => ?_
        rw [Bool.not_not]
        have := hB.done i hi hnd
        rw [entD_get hi] at this
        exact this
      rw [e] at o6
      exact x_ret rfl ⟨o6.lower x4.size, ((x4.trans x5).chg c6).mono (fun b hb => .inr (Nat.le_trans x4.size (g5 b hb)))⟩
end Go.Proofs.YtilhlcnekkkajaaGreat
end
section
namespace Go.Proofs.YtilhlcnekkkajaaGreat
open Go Go.K
attribute [local irreducible] regK codeK retK KOp.wp K.Spec u32 leS vnS str zero32 sha2 encT idT sizeT checkT grantB idN stepR workL reachE

theorem parents_in {l : List Ent} {ins : List TIn} : ∀ s ∈ parentsL l ins, ∃ j, j < l.length ∧ (entD l j).id = s := by
  intro s hs
  unfold parentsL at hs
  obtain ⟨x, hx, rfl⟩ := List.mem_map.1 hs
  obtain ⟨h1, h2⟩ := List.mem_filter.1 hx
  unfold outHas hasE at h2
  rw [Bool.and_eq_true, List.any_eq_true] at h2
  obtain ⟨⟨y, hy, hd⟩, _⟩ := h2
  obtain ⟨j, hj, rfl⟩ := List.getElem_of_mem hy
  exact ⟨j, hj, by rw [entD_get hj]; exact of_decide_eq_true hd⟩
theorem childL_in {l : List Ent} {id : ByteArray} {n : Nat} : ∀ s ∈ childL l id n, ∃ j, j < l.length ∧ (entD l j).id = s := by
  intro s hs
  obtain ⟨j, _, e, he, rfl⟩ := mem_childL.1 hs
  obtain ⟨q, hq, rfl⟩ := List.getElem_of_mem (List.mem_of_find?_eq_some he)
  exact ⟨q, hq, by rw [entD_get hq]⟩
theorem pabove_spec {g : Nat} {M N : List Nat} {l : List Ent} {cs : List Value} {t : Tx} (w : World) (hG : GrR w g M l) (hM : ∀ b ∈ M, b < w.heap.size) (ht : txR.rel N w cs t) (hs : t.ins.length ≤ 1000) (hn : l.length ≤ 1000) : K.Spec Tryz.prog F.graph_Graph_Above [.pointer (some ⟨g, 0, none⟩), .agg cs.toArray] w fun r w' =>
    Own strE T.string w.heap.size w' r (idsOf l (aboveL l t)) ∧ Ext w w' := by
  have hsm : ∀ x ∈ l, x.tx.Sm := fun x hx => chk_sm (hG.ok x hx).check
  have hnd := hG.nodup
  have ht0 := ht
  obtain ⟨iv, ov, rfl, -⟩ := ht
  refine s_graph_Graph_Above rfl ?_
  unfold k_graph_Graph_Above
  refine oy ?_
  repeat' (first|(first|refine go1 ?_|refine zg (fun _ _=>?_)|refine zi (fun _ _=>?_))|(refine zD rfl rfl (fun bg wg xg ag (rg : Row wg ⟨bg, 0, none⟩ [.pointer (some ⟨g, 0, none⟩)]) hg0=>?_))|(refine zD (d := some 3) rfl rfl (fun bp wp xp ap (rp : Row wp ⟨bp, 0, none⟩ (txCs t iv ov)) hp0=>?_))|(refine zC rfl (parents_spec (M := M) (N := N) (cs := txCs t iv ov) (t := t) _ (hG.ext (by exact fx)) (fun b hb => Nat.lt_of_lt_of_le (hM b hb) (Ext.size (by exact fx))) (by exact fx) (by omega)) ?_; rintro v5 w5 ⟨o5, x5⟩; obtain ⟨b5, c5, rfl⟩ := o5.sl.form)|refine st_both ?_ ?_)
  all_goals
    have xg5 : Ext wg w5 := by exact fx
    have xw : Ext w w5 := xg.trans xg5
    have hle : (parentsL l t.ins).length ≤ 1000 := Nat.le_trans (parentsL_length _ _) hs
    refine zC rfl (reach_spec (g := g) (M := M) (l := l) (frm := parentsL l t.ins) (nxt := fun x => parentsL l x.tx.ins) _ (hG.ext xw) (fun b hb => Nat.lt_of_lt_of_le (hM b hb) xw.size) o5.sl ⟨F.graph_Graph_Above_1, #[], #[.pointer (some ⟨bg, 0, none⟩)], rfl, above1_hb, fun x hx w' cs xx hr => above1_spec (M := M) (N := M) (l := l) (cs := cs) (x := x) w' (hG.ext (xw.trans xx)) (fun b hb => Nat.lt_of_lt_of_le (hM b hb) (xw.trans xx).size) (At.ext (xg5.trans xx) ag) hr (by have := (hsm x hx).ins; omega)⟩ hn hle parents_in (fun i hi => parents_in) (fun x hx => Nat.le_trans (parentsL_length _ _) (hsm x hx).ins)) ?_
    rintro v6 w6 ⟨o6, x6⟩
    repeat (first|refine go ?_|refine zg (fun _ _=>?_)|refine zi (fun _ _=>?_))
    rw [above_eq hnd] at o6
    exact x_ret rfl ⟨o6.lower xw.size, xw.trans x6⟩
theorem pbelow_spec {g : Nat} {M : List Nat} {l : List Ent} (id : ByteArray) (w : World) (hG : GrR w g M l) (hM : ∀ b ∈ M, b < w.heap.size) (hn : l.length ≤ 1000) : K.Spec Tryz.prog F.graph_Graph_Below [.pointer (some ⟨g, 0, none⟩), .string id] w fun r w' =>
    Own strE T.string w.heap.size w' r (idsOf l (belowL l id)) ∧ Ext w w' := by
  have hsm : ∀ x ∈ l, x.tx.Sm := fun x hx => chk_sm (hG.ok x hx).check
  have hnd := hG.nodup
  refine s_graph_Graph_Below rfl ?_
  unfold k_graph_Graph_Below
  refine oy ?_
  repeat' (first|(first|refine go1 ?_|refine zg (fun _ _=>?_)|refine zi (fun _ _=>?_))|(refine zC rfl (get_spec (M := M) id _ (hG.ext (by exact fx)) (fun b hb => Nat.lt_of_lt_of_le (hM b hb) (Ext.size (by exact fx)))) ?_; rintro v5 w5 ⟨ds, rfl, e5, x5⟩; obtain ⟨iv, ov, rfl, o1, o2, o3⟩ := e5; have i1 := o1.one; have i2 := o2.one)|(refine zE (d' := 5) (fun _=>rfl) rfl rfl (by simp [entCs, i1, i2]; exact ⟨rfl, rfl, rfl, rfl, rfl⟩) (fun b6 w6 x6 a6 (r6 : Row w6 ⟨b6, 0, none⟩ (entCs (getE l id) iv ov)) hb6=>?_))|(refine zM rfl (fun h => ?_) (fun h => ?_))|(refine zI (d := some 17) (cs := [.string id]) rfl (fun b w10 x10 a10 hb => ?_)))
  · have hno : hasE l id = false := by simpa using h
    have hf : findI l id < 0 := by
      rcases Int.lt_or_le (findI l id) 0 with h1 | h1
      · exact h1
      · have h2 := idxOf_any (p := fun x : Ent => decide (x.id = id)) (l := l)
        have h3 : hasE l id = true := by unfold hasE; rw [← h2]; exact decide_eq_true h1
        rw [h3] at hno; cases hno
    have e0 : idsOf l (belowL l id) = [] := by
      refine idsOf_none fun b hb => ?_
      unfold belowL reachL at hb
      obtain ⟨i, hi, rfl⟩ := List.mem_map.1 hb
      exact stepR_none (fun j _ => decide_eq_false (by omega)) _ _ (by simpa using hi)
    rw [e0]
    exact x_ret rfl ⟨Own.nil _ _ _, x5.trans x6⟩
  · have hyes : hasE l id = true := by simpa using h
    have xw : Ext w w10 := (x5.trans x6).trans x10
    have hnx : Nexts (.func (.func F.graph_Graph_children) #[.pointer (some ⟨g, 0, none⟩)] #[]) l M w10 (fun x => childL l x.id x.tx.outs.length) := ⟨F.graph_Graph_children, #[.pointer (some ⟨g, 0, none⟩)], #[], rfl, children_hb, fun x hx w' cs xx hr => children_spec (M := M) (N := M) (l := l) (cs := cs) (x := x) w' (hG.ext (xw.trans xx)) hr (by have := (hsm x hx).outs; omega)⟩
    refine zC rfl (reach_spec (g := g) (M := M) (l := l) (frm := [id]) (nxt := fun x => childL l x.id x.tx.outs.length) _ (hG.ext xw) (fun b hb => Nat.lt_of_lt_of_le (hM b hb) xw.size) (SlE.new (E := strE) (l := [id]) a10 rfl (Nat.le_refl _)) hnx hn (by simp) (fun s hs => ?_) (fun i hi => childL_in) (fun x hx => Nat.le_trans (childL_length _ _ _) (hsm x hx).outs)) ?_
    · simp only [List.mem_singleton] at hs
      subst hs
      unfold hasE at hyes
      rw [List.any_eq_true] at hyes
      obtain ⟨y, hy, hd⟩ := hyes
      obtain ⟨j, hj, rfl⟩ := List.getElem_of_mem hy
      exact ⟨j, hj, by rw [entD_get hj]; exact of_decide_eq_true hd⟩
    rintro v6 w6 ⟨o6, x6⟩
    repeat (first|refine go ?_|refine zg (fun _ _=>?_)|refine zi (fun _ _=>?_))
    have hinv : l.Pairwise fun x y => ∀ p, spends x p = true → spends y p = false := by
      obtain ⟨b1, vo, b2, m, sp, hP⟩ := hG; exact hP.inv.apart
    rw [below_eq hnd hinv hG.pos] at o6
    exact x_ret rfl ⟨o6.lower xw.size, xw.trans x6⟩
end Go.Proofs.YtilhlcnekkkajaaGreat
end
section
namespace Go.K
open Go
end Go.K
end
section
namespace Go.Proofs.YtilhlcnekkkajaaGreat
open Go Go.K
attribute [local irreducible] regK codeK retK KOp.wp K.Spec u32 leS vnS str zero32 sha2 encT idT sizeT checkT grantB idN stepR workL reachE findI

theorem SlR.one1 {α : Type} {E : R α} {M : List Nat} {w : World} {b : Nat} {t : TypeId} {cs : List Value} {a : α} (h : At w b (.cells cs.toArray t (0, 0))) (hr : E.rel M w cs a) (hb : b ∉ M) : SlR E M w (.slice (some ⟨b, 0, none⟩) 1 1) [a] :=
  ⟨[R.vec hr], SlE.new (E := vecE E.k E.pos) (l := [R.vec hr]) (t := t) (by have e : (vecE E.k E.pos).flat [R.vec hr] = cs := (by show cs ++ [] = cs; exact List.append_nil _); rw [e]; exact h) rfl (Nat.le_refl _), .cons hr .nil, fun _ c hc hm => by simp [blkOf] at hc; subst hc; exact hb hm⟩
abbrev spT (id : ByteArray) : Tx := ⟨0, [⟨⟨id, 0⟩, 0, []⟩], [], 0⟩
abbrev zW : Small := ⟨[200], 0, 0, 0, 0, 0⟩
end Go.Proofs.YtilhlcnekkkajaaGreat
end
section
namespace Go.Proofs.YtilhlcnekkkajaaGreat
open Go Go.K
attribute [local irreducible] regK codeK retK KOp.wp K.Spec u32 leS vnS str zero32 sha2 encT idT sizeT checkT grantB idN stepR workL reachE findI dropG addG

def feeA (a : Int) : Int := IntKind.i64.wrap ((BitVec.ofInt IntKind.i64.bits a &&& BitVec.ofInt IntKind.i64.bits 65535).toNat : Nat)
section
variable {P : Program} {d : Option Tmp} {r : KR} {K : Env → World → Prop} {ρ : Env} {w : World}
theorem st_takeR {α : Type} {E : R α} {M : List Nat} {size : Nat} {x h : Operand} {v : Value} {l : List α} {kd : IntKind} {n : Nat} {m : Int} {w1 : World} (hx : ev ρ x = v) (hh : ev ρ h = .int kd m) (hm : m = (n : Nat)) (hs : SlR E M w1 v l) (hn : n ≤ l.length) (hk : size = E.k)
    (k : ∀ v', SlR E M w1 v' (l.take n) → regK P r K (put ρ d v') w) : regK P (.cons ⟨d, .sliceSl size x none (some h), none⟩ r) K ρ w := by
  subst hm
  obtain ⟨css, h1, h2, h3⟩ := hs
  have hl := h2.length
  refine st_takeE (E := vecE E.k E.pos) hx hh h1 (by rw [hl]; exact hn) hk fun v' h4 h5 => k v' ⟨css.take n, h4, ?_, fun hp b hb => h3 (by rw [List.length_take] at hp; omega) b (h5 b hb)⟩
  have := h2.take n
  exact All2.take n h2
end
end Go.Proofs.YtilhlcnekkkajaaGreat
end
section
namespace Go.Proofs.YtilhlcnekkkajaaGreat
open Go Go.K
attribute [local irreducible] regK codeK retK KOp.wp K.Spec u32 leS vnS str zero32 sha2 encT idT sizeT checkT grantB idN stepR workL reachE findI dropG addG spendI spends

end Go.Proofs.YtilhlcnekkkajaaGreat
end
section
namespace Go.K
open Go Go.Proofs.YtilhlcnekkkajaaGreat
section
variable {l : List Ent} {t : Tx}
/-- All entries have a price. -/
abbrev Priced (l : List Ent) : Prop := ∀ x ∈ l, pricedB x.fee x.size = true
theorem enough_iff (hn : (l.map (·.id)).Nodup) (hp : Priced l) (hh : l.any (hitE t) = true) {f : Int} (hf : pricedB f (sizeT t : Nat) = true) : enoughL l t f = true ↔ needL l t ≤ f := by
  unfold enoughL needL
  rw [need_le, hh, Bool.and_eq_true, List.all_eq_true]
  simp only [Bool.not_true, Bool.false_or, decide_eq_true_eq, Bool.or_eq_true, Bool.not_eq_true']
  constructor
  · rintro ⟨h1, h2⟩
    refine ⟨h2, fun s hs => ?_⟩
    obtain ⟨x, hx, h3, rfl⟩ := mem_conf.1 hs
    rw [(get_mem hn hx).2]
    rcases h1 x hx with h | h
    · rw [h3] at h; cases h
    · exact (more_iff hf (hp x hx)).1 h
  · rintro ⟨h1, h2⟩
    refine ⟨fun x hx => ?_, h1⟩
    by_cases h3 : hitE t x = true
    · have := h2 x.id (mem_conf.2 ⟨x, hx, h3, rfl⟩)
      rw [(get_mem hn hx).2] at this
      exact .inr ((more_iff hf (hp x hx)).2 this)
    · exact .inl (by simpa using h3)
theorem feeOf_le {c : Nat} {l : List Ent} (hl : ∀ x ∈ l, 0 ≤ x.fee ∧ x.fee ≤ c) (m : List Bool) : 0 ≤ feeOf l m ∧ feeOf l m ≤ c * l.length := by
  induction l generalizing m with
  | nil => simp [feeOf]
  | cons x l ih => cases m with
    | nil => simp only [feeOf]; exact ⟨Int.le_refl _, Int.mul_nonneg (by omega) (by omega)⟩
    | cons b m =>
      have h1 := ih (fun y hy => hl y (List.mem_cons_of_mem _ hy)) m
      have h2 := hl x (by simp)
      simp only [feeOf, List.length_cons, Int.natCast_add, Int.mul_add]
      split <;> omega
theorem gone_bound {c : Nat} (hf : ∀ x ∈ l, 0 ≤ x.fee ∧ x.fee ≤ c) : 0 ≤ goneF l t ∧ goneF l t ≤ c * l.length := feeOf_le hf _
theorem needL_pos (hg : 0 ≤ goneF l t) (hs : 1 ≤ sizeT t) : 1 ≤ needL l t := by
  have h := need_base (l := l) (S := (sizeT t : Nat)) (n := goneF l t + (sizeT t : Nat)) (ids := idsOf l (confL l t))
  unfold needL
  omega
/-- What the program's rules say, is what the rules say. -/
theorem rules_need (hn : (l.map (·.id)).Nodup) (hp : Priced l) (hh : l.any (hitE t) = true) {f need : Int} (hf : pricedB f (sizeT t : Nat) = true) (hneed : need = if goodB (needL l t) = true then needL l t else 2100000000000001) (h0 : 0 ≤ needL l t) :
    (if f < need then (11 : Int) else 0) = if enoughL l t f = true then 0 else 11 := by
  have h1 := enough_iff hn hp hh hf
  have h2 := (pricedB_iff.1 hf).1
  by_cases h3 : needL l t ≤ f
  · rw [if_pos (h1.2 h3), if_neg]
    rw [hneed, if_pos ((goodB_iff _).2 (by omega))]; omega
  · rw [if_neg (fun h => h3 (h1.1 h)), if_pos]
    rw [hneed]
    split <;> omega
theorem may_ids : (idsOf l (confL l t)).any (fun s => !mayE l (getE l s)) = l.any fun x => hitE t x && !mayE l (getE l x.id) := by
  rw [Bool.eq_iff_iff, List.any_eq_true, List.any_eq_true]
  constructor
  · rintro ⟨s, hs, h⟩
    obtain ⟨x, hx, h3, rfl⟩ := mem_conf.1 hs
    exact ⟨x, hx, by rw [h3, h]; rfl⟩
  · rintro ⟨x, hx, h⟩
    rw [Bool.and_eq_true] at h
    exact ⟨x.id, mem_conf.2 ⟨x, hx, h.1, rfl⟩, h.2⟩
theorem may_conf (hn : (l.map (·.id)).Nodup) : (idsOf l (confL l t)).any (fun s => !mayE l (getE l s)) = l.any fun x => hitE t x && !mayE l x := by
  rw [may_ids, Bool.eq_iff_iff, List.any_eq_true, List.any_eq_true]
  constructor <;> rintro ⟨x, hx, h⟩ <;> exact ⟨x, hx, by rw [(get_mem hn hx).2] at *; exact h⟩
/-! What is allowed. -/
theorem rules_zero {f : Int} (h : rulesL l t f = 0) : checkT t = 0 ∧ goodB f = true ∧ (l.any (hitE t) = false ∨ (l.any (hitE t) = true ∧ l.any (fun x => hitE t x && !mayE l x) = false ∧ (idsOf l (evL l t)).length ≤ 100 ∧ freshP l t = false ∧ enoughL l t f = true)) := by
  unfold rulesL at h
  by_cases h1 : checkT t = 0
  · rw [if_neg (by simpa using h1)] at h
    by_cases h2 : goodB f = true
    · rw [if_neg (by simp [h2])] at h
      refine ⟨h1, h2, ?_⟩
      by_cases h3 : l.any (fun x => hitE t x && !mayE l x) = true
      · rw [if_pos h3] at h; omega
      · rw [if_neg h3] at h
        by_cases h4 : l.any (hitE t) = true
        · rw [if_neg (by simp [h4])] at h
          refine .inr ⟨h4, by simpa using h3, ?_⟩
          by_cases h5 : (idsOf l (evL l t)).length > 100
          · rw [if_pos h5] at h; omega
          · rw [if_neg h5] at h
            by_cases h6 : freshP l t = true
            · rw [if_pos h6] at h; omega
            · rw [if_neg h6] at h
              by_cases h7 : enoughL l t f = true
              · exact ⟨by omega, by simpa using h6, h7⟩
              · rw [if_neg h7] at h; omega
        · exact .inl (by simpa using h4)
    · rw [if_pos (by simpa using h2)] at h; omega
  · rw [if_pos h1] at h; exact absurd h h1
/-! What may come hangs on nothing that goes. -/
theorem out_hangs (hn : (l.map (·.id)).Nodup) {x : Ent} (hx : x ∈ l) (h : hangs t x = true) : ∃ b ∈ t.ins, b.p.s = x.id ∧ outHas l b.p = true := by
  unfold hangs at h
  obtain ⟨b, hb, h1⟩ := List.any_eq_true.1 h
  rw [Bool.and_eq_true, decide_eq_true_eq, decide_eq_true_eq] at h1
  refine ⟨b, hb, h1.1, ?_⟩
  unfold outHas
  rw [h1.1, (get_mem hn hx).1, (get_mem hn hx).2]
  exact decide_eq_true h1.2
theorem fresh_parent (hn : (l.map (·.id)).Nodup) (hf : freshP l t = false) {x : Ent} (hx : x ∈ l) (h : hangs t x = true) : x.id ∉ idsOf l (evL l t) := by
  obtain ⟨b, hb, h1, h2⟩ := out_hangs hn hx h
  unfold freshP at hf
  rw [List.any_eq_false] at hf
  have h3 := hf b hb
  rw [h2, h1] at h3
  intro h4
  apply h3
  rw [inB_iff.2 h4]; rfl
end
end Go.K
end
