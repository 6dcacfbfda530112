/- Contracts: may a transaction hang on the entries of a graph? Contracts: a copy of a graph; nil graphs. Contracts: a pool, by the program. Contracts: what a pool accepts, by the program. Contracts: accepting a transaction, by the program. -/
import Derived.Test.YtilhlcnekkkajaaGreatPa34
set_option linter.unusedVariables false
set_option linter.unusedSimpArgs false
section
namespace Go.Proofs.YtilhlcnekkkajaaGreat
open Go Go.K
attribute [local irreducible] regK codeK retK KOp.wp K.Spec u32 leS vnS str zero32 sha2 encT idT sizeT checkT grantB idN stepR workL reachE findI dropG addG aboveL belowL idsOf feeD sizeD

theorem within_spec {g : Nat} {M : List Nat} {l : List Ent} {v : Value} {ids : List ByteArray} (more count size : Int) (w : World) (hG : GrR w g M l) (hM : ∀ b ∈ M, b < w.heap.size) (hi : SlE strE w v ids) (hn : ids.length ≤ 4000) (hm : 0 ≤ more ∧ more ≤ 1000000000) :
    K.Spec Tryz.prog F.limit_within [.pointer (some ⟨g, 0, none⟩), v, .int .i64 more, .int .i64 count, .int .i64 size] w fun r w' => r = .bool (wiP l ids more count size) ∧ Ext w w' := by
  have hb := (feeD_bound (l := l) (fun x hx => entOk_fit (hG.ok x hx)) hn).2
  refine s_limit_within rfl ?_
  unfold k_limit_within
  refine oy ?_
  repeat' (first|(first|refine go1 ?_|refine zg (fun _ _=>?_)|refine zi (fun _ _=>?_))|(refine zC rfl (gsum_spec (M := M) (l := l) (ids := ids) _ hG hM hi hn) ?_; rintro _ w2 ⟨rfl, x2⟩)|(refine st_len rfl (SlE.ext (w := w) (by exact fx) hi) ?_)|(refine zJ rfl (fun h => ?_) (fun h => ?_)))
  · have e : wiP l ids more count size = decide (sizeD l ids + more ≤ size) := by unfold wiP; rw [decide_eq_true h, Bool.true_and]
    rw [e]
    exact x_ret rfl ⟨rfl, x2⟩
  · have e : wiP l ids more count size = false := by unfold wiP; rw [decide_eq_false h, Bool.false_and]
    rw [e]
    exact x_ret rfl ⟨rfl, x2⟩
theorem idsOf_len_le (l : List Ent) (m : List Bool) : (idsOf l m).length ≤ l.length := by
  have := (idsOf_sub l m).length_le
  simpa using this
theorem housed_spec {g : Nat} {M : List Nat} {l : List Ent} {v : Value} {ids : List ByteArray} (more count size : Int) (w : World) (hG : GrR w g M l) (hM : ∀ b ∈ M, b < w.heap.size) (hi : SlE strE w v ids) (hn : ids.length ≤ 4000) (hl : l.length ≤ 1000) (hm : 0 ≤ more ∧ more ≤ 1000000000) :
    K.Spec Tryz.prog F.limit_housed [.pointer (some ⟨g, 0, none⟩), v, .int .i64 more, .int .i64 count, .int .i64 size] w fun r w' => r = .bool (hoP l ids more count size) ∧ Ext w w' := by
  refine s_limit_housed rfl ?_
  unfold k_limit_housed
  refine oy ?_
  repeat' (first|(first|refine go1 ?_|refine zg (fun _ _=>?_)|refine zi (fun _ _=>?_))|(refine zL rfl (fun h => ?_) (fun h => ?_))|(refine zM rfl (fun h => ?_) (fun h => ?_))|(refine st_len rfl (SlE.ext (w := w) (by exact fx) hi) ?_)|(refine c_loopV (fun (i : Nat) w' => Ext w w' ∧ i ≤ ids.length ∧ ∀ s ∈ ids.take i, wiP l (idsOf l (belowL l s)) more count size = true) (fun i => [(0, .pointer (some ⟨g, 0, none⟩)), (2, .int .i64 more), (3, .int .i64 count), (4, .int .i64 size), (13, v), (14, .int .i64 (ids.length : Nat)), (15, .int .i64 i)]) (fun i => ids.length - i) 0 ⟨rfl, rfl, rfl, rfl, rfl, rfl, rfl, trivial⟩ ⟨Ext.refl _, Nat.zero_le _, by simp⟩ ?_; rintro i ρ w3 ⟨x3, hi3, hk⟩)|(have hil : i < ids.length := (by omega); refine st_elemE (d := some 17) (E := strE) rfl rfl (n := i) (l := ids) (hi.ext x3) rfl hil (fun ad r5 => ?_); have r5 : Row w3 ad [Value.string ids[i]] := r5)|(refine zC rfl (pbelow_spec (M := M) (l := l) ids[i] _ (hG.ext (by exact fx)) (fun b hb => Nat.lt_of_lt_of_le (hM b hb) (Ext.size (by exact fx))) hl) ?_; rintro vb w6 ⟨ob, x6⟩; have sb := ob.sl)|(refine zC rfl (within_spec (M := M) (l := l) (ids := idsOf l (belowL l ids[i])) more count size _ (hG.ext (by exact fx)) (fun b hb => Nat.lt_of_lt_of_le (hM b hb) (Ext.size (by exact fx))) sb (Nat.le_trans (idsOf_len_le _ _) (by omega)) hm) ?_; rintro _ w7 ⟨rfl, x7⟩))
  · have e : hoP l ids more count size = false := by
      unfold hoP
      rw [List.all_eq_false]
      exact ⟨_, List.getElem_mem hil, by simpa using h⟩
    rw [e]
    exact x_ret rfl ⟨rfl, by exact fx⟩
  · refine ⟨i + 1, ⟨rfl, rfl, rfl, rfl, rfl, rfl, rfl, trivial⟩, ⟨by exact fx, by omega, fun s hs => ?_⟩, by omega⟩
    rw [List.take_succ_eq_append_getElem hil] at hs
    rcases List.mem_append.1 hs with h1 | h1
    · exact hk s h1
    · simp only [List.mem_singleton] at h1; subst h1; simpa using h
  · have e : hoP l ids more count size = true := by
      unfold hoP
      rw [List.take_of_length_le (by omega)] at hk
      exact List.all_eq_true.2 hk
    rw [e]
    exact x_ret rfl ⟨rfl, by exact fx⟩
theorem fits_spec {g : Nat} {M N : List Nat} {l : List Ent} {cs : List Value} {t : Tx} (w : World) (hG : GrR w g M l) (hM : ∀ b ∈ M, b < w.heap.size) (ht : txR.rel N w cs t) (hs : t.Sm) (hl : l.length ≤ 1000) :
    K.Spec Tryz.prog F.limit_Fits [.pointer (some ⟨g, 0, none⟩), .agg cs.toArray] w fun r w' => r = .int .i64 (fitsL l t) ∧ Ext w w' := by
  have ht0 := ht
  obtain ⟨iv, ov, rfl, -⟩ := ht
  by_cases hc : checkT t = 0
  · have hz := sz_of_check hs hc
    have hz2 := hz.size
    have hmore : (0 : Int) ≤ ((sizeT t : Nat) : Int) ∧ ((sizeT t : Nat) : Int) ≤ 1000000000 := by omega
    have e0 : sizeV t = .tuple #[.int .i64 (sizeT t : Nat), .int .i64 0] := by rw [sizeV, if_pos hc]
    have hLe := idsOf_len_le l (aboveL l t)
    have hfit : fitsL l t = if wiP l (idsOf l (aboveL l t)) (sizeT t : Nat) 25 101000 = false then 14 else if hoP l (idsOf l (aboveL l t)) (sizeT t : Nat) 25 101000 then 0
      else if ((idsOf l (aboveL l t)).length : Int) = 1 ∧ ((sizeT t : Nat) : Int) ≤ 10000 ∧ hoP l (idsOf l (aboveL l t)) (sizeT t : Nat) 26 111000 = true then 0 else 14 := by
      rw [fitsL, if_neg (by simpa using hc)]
    rw [hfit]
    refine s_limit_Fits rfl ?_
    unfold k_limit_Fits
    refine oy ?_
    repeat' (first|(first|refine go1 ?_|refine zg (fun _ _=>?_)|refine zi (fun _ _=>?_))|(refine zK rfl (fun h => ?_) (fun h => ?_))|(refine zM rfl (fun h => ?_) (fun h => ?_))|(refine zJ rfl (fun h => ?_) (fun h => ?_))|(refine zD rfl rfl (fun bp wp xp ap (rp : Row wp ⟨bp, 0, none⟩ (txCs t iv ov)) hp0=>?_))|(refine zC rfl (size_spec (M := N) (cs := txCs t iv ov) (t := t) _ (R.ext ht0 (by exact fx)) hs) ?_; rintro _ w3 ⟨rfl, x3⟩; rw [e0])|(refine zC rfl (pabove_spec (M := M) (N := N) (l := l) (cs := txCs t iv ov) (t := t) _ (hG.ext (by exact fx)) (fun b hb => Nat.lt_of_lt_of_le (hM b hb) (Ext.size (by exact fx))) (R.ext ht0 (by exact fx)) hs.ins hl) ?_; rintro va w4 ⟨oa, x4⟩; have sa := oa.sl)|(refine zC rfl (within_spec (M := M) (l := l) (ids := idsOf l (aboveL l t)) _ _ _ _ (hG.ext (by exact fx)) (fun b hb => Nat.lt_of_lt_of_le (hM b hb) (Ext.size (by exact fx))) (SlE.ext (by exact fx) sa) (by omega) hmore) ?_; rintro _ w5 ⟨rfl, x5⟩)|(refine zC rfl (housed_spec (M := M) (l := l) (ids := idsOf l (aboveL l t)) _ _ _ _ (hG.ext (by exact fx)) (fun b hb => Nat.lt_of_lt_of_le (hM b hb) (Ext.size (by exact fx))) (SlE.ext (by exact fx) sa) (by omega) hl hmore) ?_; rintro _ w6 ⟨rfl, x6⟩)|(refine st_len rfl (SlE.ext (by exact fx) sa) ?_))
    all_goals clear hG hM ht0 rp ap
    all_goals exact x_ret rfl ⟨congrArg (Value.int .i64) (by first | (simp_all; done) | (simp_all; intros; omega)), by exact fx⟩
  · have e0 : sizeV t = .tuple #[.int .i64 0, .int .i64 (checkT t)] := by rw [sizeV, if_neg hc]
    have hfit : fitsL l t = checkT t := by rw [fitsL, if_pos hc]
    rw [hfit]
    refine s_limit_Fits rfl ?_
    unfold k_limit_Fits
    refine oy ?_
    repeat' (first|(first|refine go1 ?_|refine zg (fun _ _=>?_)|refine zi (fun _ _=>?_))|(refine zN rfl (fun h => ?_) (fun h => absurd h hc))|(refine zD rfl rfl (fun bp wp xp ap (rp : Row wp ⟨bp, 0, none⟩ (txCs t iv ov)) hp0=>?_))|(refine zC rfl (size_spec (M := N) (cs := txCs t iv ov) (t := t) _ (R.ext ht0 (by exact fx)) hs) ?_; rintro _ w3 ⟨rfl, x3⟩; rw [e0]))
    exact x_ret rfl ⟨rfl, by exact fx⟩
end Go.Proofs.YtilhlcnekkkajaaGreat
end
section
namespace Go.Proofs.YtilhlcnekkkajaaGreat
open Go Go.K
section
attribute [local irreducible] regK codeK retK KOp.wp u32 leS vnS str zero32 sha2 encT idT sizeT checkT grantB idN stepR workL reachE
theorem clone69_spec {mb : Nat} {M : List Nat} {m : List (ByteArray × Ent)} (w : World) (h : MapR sK entR M w mb m) : K.Spec Tryz.prog F.maps_Clone_map_string_api_Entry_string_api_Entry [.map (some mb)] w fun v w' => ∃ mb', v = .map (some mb') ∧ (∀ M', MapR sK entR M' w mb m → MapR sK entR M' w' mb' m) ∧ mb' < w'.heap.size ∧ w.heap.size ≤ mb' ∧ Ext w w' := by
  obtain ⟨mv, h1, h2⟩ := h
  obtain ⟨es, clock, h1, h3⟩ := h1
  refine (AnyW.maps_Clone Tryz.cloneMap55 mb es clock w h1).mono fun e w' ⟨he, hw⟩ => ⟨_, he, _, rfl, ?_⟩
  subst hw
  have hx := Ext.alloc w (.map es clock)
  refine ⟨fun M' h => ?_, (At.new w (.map es clock)).lt, Nat.le_refl _, hx⟩
  obtain ⟨mv, k1, h2⟩ := h
  obtain ⟨es', clock', k1, h3⟩ := k1
  have e : Obj.map es clock = Obj.map es' clock' := Option.some.inj ((show w.heap[mb]? = some (.map es clock) from h1).symm.trans k1)
  cases e
  exact ⟨mv, ⟨es, clock, At.new _ _, h3⟩, h2.mono fun _ _ ⟨e, cs, e2, hr⟩ => ⟨e, cs, e2, R.ext hr hx⟩⟩
theorem clone71_spec {mb : Nat} {m : List (Pt × ByteArray)} (w : World) (h : MapE ptK Value.string w mb m) : K.Spec Tryz.prog F.maps_Clone_map_api_Point_string_api_Point_string [.map (some mb)] w fun v w' => ∃ mb', v = .map (some mb') ∧ MapE ptK Value.string w' mb' m ∧ w.heap.size ≤ mb' ∧ Ext w w' := by
  obtain ⟨es, clock, h1, h2⟩ := h
  refine (AnyW.maps_Clone Tryz.cloneMap57 mb es clock w h1).mono fun e w' ⟨he, hw⟩ => ⟨_, he, _, rfl, ?_⟩
  subst hw
  exact ⟨⟨es, clock, At.new _ _, h2⟩, Nat.le_refl _, Ext.alloc _ _⟩
end
attribute [local irreducible] regK codeK retK KOp.wp K.Spec u32 leS vnS str zero32 sha2 encT idT sizeT checkT grantB idN stepR workL reachE
set_option maxHeartbeats 1000000 in
theorem gcopy_spec {g : Nat} {M : List Nat} {l : List Ent} (w : World) (hG : GrR w g M l) (hM : ∀ b ∈ M, b < w.heap.size) (hn : l.length ≤ 1000) : K.Spec Tryz.prog F.graph_Graph_Copy [.pointer (some ⟨g, 0, none⟩)] w fun r w' =>
    ∃ g' M', r = .pointer (some ⟨g', 0, none⟩) ∧ Gr w' w.heap.size g' M' l ∧ Ext w w' := by
  obtain ⟨b1, vo, b2, m, sp, hP⟩ := hG
  have rg : Row w ⟨g, 0, none⟩ [.map (some b1), vo, .map (some b2)] := Row.of_at hP.at_
  have q1 := hP.ents
  have q2 := hP.pts
  have q3 := hP.ord
  refine s_graph_Graph_Copy rfl ?_
  unfold k_graph_Graph_Copy
  refine oy ?_
  repeat' (first|(first|refine go1 ?_|refine zg (fun _ _=>?_)|refine zi (fun _ _=>?_))|refine st_both ?_ ?_|(refine zC rfl (clone69_spec (M := M) (m := m) _ (by exact fx)) ?_; rintro _ wa ⟨c1, rfl, p1, la, hc1, xa⟩; have sa := xa.size)|(refine zC rfl (clone71_spec (m := sp) _ (by exact fx)) ?_; rintro _ wc ⟨c2, rfl, p2, hc2, xc⟩; have lc := p2.lt; have sc := xc.size)|(refine zC rfl (cloneS_spec (M := []) (v := vo) (l := l.map (fun x : Ent => x.id)) _ (SlE.toR (F := strE) (ag := false) (SlE.ext (w := w) (by exact fx) q3) (by simp)) (by simp; omega) (by simp)) ?_; rintro v5 wb ⟨o5, xb⟩; have lb := o5.lt; have gb := o5.base; replace o5 := OwnR.toOwn o5; have sb := xb.size; obtain ⟨bb, cb, rfl⟩ := o5.sl.form)|(refine zD (cs := [.map (some c1), .slice bb (l.map (fun x : Ent => x.id)).length cb, .map (some c2)]) rfl rfl (fun bp wp xp ap rp hp0=>?_)))
  all_goals
    rename_i xz
    have s0 := xz.size
    have szp := xp.size
    have lp := ap.lt
    generalize Value.slice bb (l.map (fun x : Ent => x.id)).length cb = v5 at *
    have hmm : ∀ b ∈ mutG bp c1 c2 v5, w.heap.size ≤ b := fun b hb => by
      simp only [List.mem_cons] at hb
      rcases hb with rfl | rfl | rfl | hb
      · omega
      · omega
      · omega
      · have := gb b hb; omega
    refine x_ret rfl ⟨bp, _, rfl, ⟨c1, v5, c2, m, sp, ⟨ap, ?_, by exact fx, ?_, hP.inv, ?_, by omega, by omega, by omega⟩, rfl⟩, by exact fx⟩
    · exact (p1 _ (q1.step (show Ext w _ by exact fx) (by simp) (by simp) (fun b hb => .inr (hmm b hb)))).ext (by exact fx)
    · exact Own.lower (Own.ext (by exact fx) o5) (by omega)
    · have n5 : (blkOf v5).Nodup := by cases v5 <;> try exact List.nodup_nil
                                       rename_i b _ _; cases b <;> simp [blkOf]
      have : ∀ b ∈ blkOf v5, b ≠ bp ∧ b ≠ c1 ∧ b ≠ c2 := fun b hb => by have := gb b hb; have := lb b hb; omega
      simp only [List.nodup_cons, List.mem_cons, not_or]
      exact ⟨⟨by omega, by omega, fun h => (this _ h).1 rfl⟩, ⟨by omega, fun h => (this _ h).2.1 rfl⟩, fun h => (this _ h).2.2 rfl, n5⟩
end Go.Proofs.YtilhlcnekkkajaaGreat
end
section
namespace Go.Proofs.YtilhlcnekkkajaaGreat
open Go Go.K
attribute [local irreducible] regK codeK retK KOp.wp K.Spec u32 leS vnS str zero32 sha2 encT idT sizeT checkT grantB idN stepR workL reachE findI dropG addG aboveL belowL idsOf feeD sizeD cntS metL confL evL inS inB needI needL feeOf needN needE mayE freshP rulesL fitsL feeP dustI numAt byteAt

/-- The terms of a pool. -/
abbrev termV (v : Value) (h rate : Int) : Value := .agg #[v, .int .i64 h, .int .i64 rate]
section
variable {f : Pt → Option Cn} {l : List Ent} {t : Tx} {h : Int}
theorem plain_bad (hc : checkT t ≠ 0) : plainP f l t h = (0, checkT t, -1) := by unfold plainP; rw [if_pos hc]
theorem plain_twice (hc : checkT t = 0) (hh : hasE l (idT t) = true) : plainP f l t h = (0, 7, -1) := by unfold plainP; rw [if_neg (by simpa using hc), if_pos hh]
theorem plain_fee (hc : checkT t = 0) (hh : hasE l (idT t) = false) (hf : (feeP (overV f l h) t h).2.1 ≠ 0) : plainP f l t h = (0, (feeP (overV f l h) t h).2) := by
  unfold plainP; rw [if_neg (by simpa using hc), if_neg (by rw [hh]; simp), if_pos hf]
theorem plain_ok (hc : checkT t = 0) (hh : hasE l (idT t) = false) (hf : (feeP (overV f l h) t h).2.1 = 0) : plainP f l t h = if 0 ≤ dustI t then (0, 13, dustI t) else ((feeP (overV f l h) t h).1, 0, -1) := by
  unfold plainP; rw [if_neg (by simpa using hc), if_neg (by rw [hh]; simp), if_neg (by simpa using hf)]
end
set_option maxHeartbeats 4000000 in
theorem plain_spec {g : Nat} {M N : List Nat} {l : List Ent} {cs : List Value} {t : Tx} {v : Value} {f : Pt → Option Cn} (h rate : Int) (w : World) (hG : GrR w g M l) (hM : ∀ b ∈ M, b < w.heap.size) (hV : ViewR w v f) (ht : txR.rel N w cs t) (hs : t.Sm) :
    K.Spec Tryz.prog F.pool_Plain [.pointer (some ⟨g, 0, none⟩), .agg cs.toArray, termV v h rate] w fun r w' => ∃ e, r = .tuple #[.int .i64 (plainP f l t h).1, e] ∧ ErrR w' 1 e (plainP f l t h).2.1 (plainP f l t h).2.2 ∧ Ext w w' := by
  have ht0 := ht
  obtain ⟨iv, ov, rfl, hi, ho, hv⟩ := ht
  obtain ⟨vt, vu, rfl⟩ : ∃ vt vu, v = .iface vt vu := by obtain ⟨⟨a, b, e, _⟩, _⟩ := hV; exact ⟨a, b, e⟩
  refine s_pool_Plain rfl ?_
  unfold k_pool_Plain
  refine oy ?_
  by_cases hc : checkT t = 0
  · have hq : ∀ y ∈ t.outs, y.s.size ≤ 1000000 := fun y hy => by have := (sz_of_check hs hc).scr y hy; omega
    repeat (first|(refine zD (d := some 4) rfl rfl (fun bt wt xt bt' (rt : Row wt ⟨bt, 0, none⟩ (txCs t iv ov)) hbt0=>?_))|(refine zD (d := some 5) (cs := [.iface vt vu, .int .i64 h, .int .i64 rate]) rfl rfl (fun bs ws xs bs' (rs : Row ws ⟨bs, 0, none⟩ [.iface vt vu, .int .i64 h, .int .i64 rate]) hbs0=>?_))|(refine zC (d := some 26) rfl (id_spec (M := N) _ (cs := txCs t iv ov) (R.ext ht0 (by exact fx)) hs) ?_; rintro _ w5 ⟨rfl, x5⟩; rw [idV, if_pos hc])|(refine zC (d := some 36) rfl (get_spec (M := M) (l := l) (idT t) _ (hG.ext (by exact fx)) (fun b hb => Nat.lt_of_lt_of_le (hM b hb) (Ext.size (by exact fx)))) ?_; rintro _ w6 ⟨ds, rfl, ⟨iv6, ov6, rfl, o1, o2, o3⟩, x6⟩; have e1 := o1.one; have e2 := o2.one)|(refine zE (d' := 10) (fun _=>rfl) rfl rfl (by show (entCs (getE l (idT t)) iv6 ov6).all _ = true; simp [entCs, e1, e2]; exact ⟨rfl, rfl, rfl, rfl, rfl⟩) (fun b7 w7 x7 a7 (r7 : Row w7 ⟨b7, 0, none⟩ (entCs (getE l (idT t)) iv6 ov6)) hb7=>?_))|(first|refine go1 ?_|refine zg (fun _ _=>?_)|refine zi (fun _ _=>?_)))
    have rt7 : Row w7 ⟨bt, 0, none⟩ (txCs t iv ov) := rt.ext (by exact fx)
    have rs7 : Row w7 ⟨bs, 0, none⟩ [.iface vt vu, .int .i64 h, .int .i64 rate] := rs.ext (by exact fx)
    have x07 : Ext w w7 := by exact fx
    have G7 := hG.ext x07
    have hM7 : ∀ b ∈ M, b < w7.heap.size := fun b hb => Nat.lt_of_lt_of_le (hM b hb) x07.size
    have V7 := hV.ext x07
    have t7 := R.ext ht0 x07
    have x70 : Unit → Ext w w7 := fun _ => x07
    clear x07 o1 o2 o3 r7 x7 x6 x5 xs xt rt rs
    cases hh : hasE l (idT t) with
    | true =>
      rw [plain_twice hc hh]
      repeat' (first|(first|refine go1 ?_|refine zg (fun _ _=>?_)|refine zi (fun _ _=>?_)))
      exact x_ret rfl ⟨_, rfl, ErrR.num _ _ (by decide), Ext.trans (x70 ()) (by exact fx)⟩
    | false =>
      have step : ∀ w8, Ext w7 w8 → K.Spec Tryz.prog F.check_Fee [overI (.iface vt vu) (.pointer (some ⟨g, 0, none⟩)) h, .agg (txCs t iv ov).toArray, .int .i64 h] w8 fun r w' => ∃ e, r = .tuple #[.int .i64 (feeP (overV f l h) t h).1, e] ∧ ErrR w' 1 e (feeP (overV f l h) t h).2.1 (feeP (overV f l h) t h).2.2 ∧ Ext w8 w' := fun w8 x8 =>
        fee_spec (M := N) h w8 (over_view h (V7.ext x8) (G7.ext x8) (fun b hb => Nat.lt_of_lt_of_le (hM7 b hb) x8.size)) (R.ext t7 x8) hs
      repeat' (first|(refine zg (fun w8 x8 => ?_))|(refine st_both ?_ ?_)|(refine zC (d := some 47) rfl (pover_spec vt vu (some ⟨g, 0, none⟩) h _) ?_; rintro _ w9 ⟨rfl, x9⟩)|(refine st_joinV (b := .cons ⟨some 51, _, _⟩ _) (fun (_ : Unit) w' => Ext w7 w') (fun _ => [(4, .pointer (some ⟨bt, 0, none⟩)), (47, overI (.iface vt vu) (.pointer (some ⟨g, 0, none⟩)) h), (48, .agg (txCs t iv ov).toArray), (50, .int .i64 h)]) ?_ ?_)|(rintro _ ρ7 w10 x10; try dsimp only)|(exact ⟨(), ⟨rfl, rfl, rfl, rfl, trivial⟩, by exact fx⟩)|(first|refine go1 ?_|refine zg (fun _ _=>?_)|refine zi (fun _ _=>?_)))
      refine zC (d := some 51) rfl (step _ x10) ?_
      rintro _ w11 ⟨e, rfl, he, x11⟩
      obtain ⟨hn1, hn2⟩ := he.nil_iff
      clear x8
      by_cases hf : (feeP (overV f l h) t h).2.1 = 0
      · obtain ⟨rfl, hp⟩ := hn1 hf
        rw [plain_ok hc hh hf]
        by_cases hd : 0 ≤ dustI t
        · rw [if_pos hd]
          repeat' (first|(refine zC (d := some 59) rfl (first_spec (M := N) (t := t) (cs := txCs t iv ov) _ (R.ext t7 (by exact fx)) hs hq) ?_; rintro _ w12 ⟨rfl, x12⟩; rw [Int.max_eq_left hd])|(refine zL (x := .tmp 62) (p := dustI t ≥ 0) rfl (fun _ => ?_) (fun q => absurd hd q))|(refine st_build (d := some 65) (cs := [.int .i64 (dustI t), errno 13]) rfl ?_)|(refine zD (d := some 66) (cs := [.int .i64 (dustI t), errno 13]) rfl rfl (fun b13 w13 x13 a13 r13 hb13=>?_))|(first|refine go1 ?_|refine zg (fun _ _=>?_)|refine zi (fun _ _=>?_)))
          exact x_ret rfl ⟨_, rfl, .inr ⟨(show (13 : Int) ≠ 0 by decide), hd, b13, _, -1, rfl, a13, ErrR.num _ _ (by decide)⟩, Ext.trans (x70 ()) (by exact fx)⟩
        · rw [if_neg hd]
          repeat' (first|(refine zC (d := some 59) rfl (first_spec (M := N) (t := t) (cs := txCs t iv ov) _ (R.ext t7 (by exact fx)) hs hq) ?_; rintro _ w12 ⟨rfl, x12⟩)|(refine zL (x := .tmp 62) (p := dustI t ≥ 0) rfl (fun q => absurd q hd) (fun _ => ?_))|(first|refine go1 ?_|refine zg (fun _ _=>?_)|refine zi (fun _ _=>?_)))
          exact x_ret rfl ⟨_, rfl, ErrR.none_ _ _, Ext.trans (x70 ()) (by exact fx)⟩
      · obtain ⟨et, eu, rfl⟩ := hn2 hf
        rw [plain_fee hc hh hf]
        repeat' (first|(first|refine go1 ?_|refine zg (fun _ _=>?_)|refine zi (fun _ _=>?_)))
        exact x_ret rfl ⟨_, rfl, he.ext (by exact fx), Ext.trans (x70 ()) (by exact fx)⟩
  · rw [plain_bad hc]
    repeat' (first|(refine zD (d := some 4) rfl rfl (fun bt wt xt bt' (rt : Row wt ⟨bt, 0, none⟩ (txCs t iv ov)) hbt0=>?_))|(refine zD (d := some 5) (cs := [.iface vt vu, .int .i64 h, .int .i64 rate]) rfl rfl (fun bs ws xs bs' (rs : Row ws ⟨bs, 0, none⟩ [.iface vt vu, .int .i64 h, .int .i64 rate]) hbs0=>?_))|(refine zC (d := some 26) rfl (id_spec (M := N) _ (cs := txCs t iv ov) (R.ext ht0 (by exact fx)) hs) ?_; rintro _ w5 ⟨rfl, x5⟩; rw [idV, if_neg hc])|(refine zN (p := checkT t = 0) rfl (fun _ => ?_) (fun h => absurd h hc))|(first|refine go1 ?_|refine zg (fun _ _=>?_)|refine zi (fun _ _=>?_)))
    exact x_ret rfl ⟨_, rfl, ErrR.num _ _ hc, by exact fx⟩
end Go.Proofs.YtilhlcnekkkajaaGreat
end
section
namespace Go.Proofs.YtilhlcnekkkajaaGreat
open Go Go.K
attribute [local irreducible] regK codeK retK KOp.wp K.Spec u32 leS vnS str zero32 sha2 encT idT sizeT checkT grantB idN stepR workL reachE findI dropG addG aboveL belowL idsOf feeD sizeD cntS metL confL evL inS inB needI needL feeOf needN needE mayE freshP rulesL fitsL feeP dustI numAt byteAt plainP dropAll

theorem asked_spec (v : Value) (hv : v.oneCell' = true) (h rate : Int) (size : Nat) (hs : size ≤ 1000000) (w : World) : K.Spec Tryz.prog F.pool_Terms_asked [termV v h rate, .int .i64 (size : Nat)] w fun r w' => r = .int .i64 (askedF rate size) ∧ Ext w w' := by
  obtain ⟨R, hR⟩ : ∃ R : Nat, min (max rate 1000) 100000000 = (R : Int) := ⟨(min (max rate 1000) 100000000).toNat, by omega⟩
  have hR2 : R ≤ 100000000 := by omega
  have e : askedF rate size = (((R * size + 999) / 1000 : Nat) : Int) := by unfold askedF; rw [hR]; rfl
  rw [e]
  refine s_pool_Terms_asked rfl ?_
  unfold k_pool_Terms_asked
  refine oy ?_
  repeat' (first|(refine zD (d := some 2) (cs := [v, .int .i64 h, .int .i64 rate]) rfl rfl (fun bs ws xs bs' (rs : Row ws ⟨bs, 0, none⟩ [v, .int .i64 h, .int .i64 rate]) hbs0=>?_))|(refine st_max (d := some 10) (a := rate) (b := 1000) rfl rfl ?_)|(refine st_min (d := some 11) (a := max rate 1000) (b := 100000000) rfl rfl ?_; rw [hR])|(refine zC (d := some 13) rfl (afee_spec R size hR2 hs _) ?_; rintro _ w3 ⟨rfl, x3⟩)|(first|refine go1 ?_|refine zg (fun _ _=>?_)|refine zi (fun _ _=>?_)))
  exact x_ret rfl ⟨rfl, by exact fx⟩
set_option maxHeartbeats 1000000 in
theorem without_spec {g : Nat} {M : List Nat} {l : List Ent} {v : Value} {ids : List ByteArray} (w : World) (hG : GrR w g M l) (hM : ∀ b ∈ M, b < w.heap.size) (hn : l.length ≤ 1000) (hi : SlE strE w v ids) (hl : ids.length ≤ 1000) : K.Spec Tryz.prog F.pool_without [.pointer (some ⟨g, 0, none⟩), v] w fun r w' =>
    ∃ g' M', r = .pointer (some ⟨g', 0, none⟩) ∧ Gr w' w.heap.size g' M' (dropAll l ids) ∧ Ext w w' := by
  have d0 : dropAll l (ids.take 0) = l := by unfold dropAll; rfl
  refine s_pool_without rfl ?_
  unfold k_pool_without
  refine oy ?_
  repeat (first|(refine zC (d := some 9) rfl (gcopy_spec (M := M) (l := l) _ hG hM hn) ?_; rintro _ w1 ⟨g1, M1, rfl, G1, x1⟩)|(refine st_len (d := some 11) (E := strE) (l := ids) rfl (SlE.ext (w := w) (by exact fx) hi) ?_)|(refine c_loopV (fun (p : Nat × List Nat) w' => Ext w w' ∧ p.1 ≤ ids.length ∧ Gr w' w.heap.size g1 p.2 (dropAll l (ids.take p.1)) ∧ (dropAll l (ids.take p.1)).length ≤ 1000) (fun p => [(5, .pointer (some ⟨g1, 0, none⟩)), (10, v), (11, .int .i64 (ids.length : Nat)), (12, .int .i64 (p.1 : Nat))]) (fun p => ids.length - p.1) (0, M1) ⟨rfl, rfl, rfl, rfl, trivial⟩ ⟨x1, by simp, by rw [d0]; exact G1, by rw [d0]; exact hn⟩ ?_; rintro ⟨i, Mi⟩ ρ w3 ⟨x3, hil, hg, hlen⟩; simp only at hil hg hlen; dsimp only)|(first|refine go1 ?_|refine zg (fun _ _=>?_)|refine zi (fun _ _=>?_)))
  refine zL (p := ((i : Nat) : Int) < ((ids.length : Nat) : Int)) rfl (fun h => ?_) (fun h => ?_)
  · have hii : i < ids.length := by omega
    repeat' (first|(refine st_elemE (d := some 14) (E := strE) rfl rfl (n := i) (l := ids) (hi.ext x3) rfl hii (fun ad r5 => ?_); have r5 : Row w3 ad [Value.string ids[i]] := r5)|(refine zC (d := some 18) rfl (gdrop_spec (l := dropAll l (ids.take i)) ids[i] _ hg hlen) ?_; rintro _ w4 ⟨M4, rfl, g4, c4, m4⟩)|(first|refine go1 ?_|refine zg (fun _ _=>?_)|refine zi (fun _ _=>?_)))
    have hb := Gr.base hg
    refine ⟨(i + 1, M4), ⟨rfl, rfl, rfl, rfl, trivial⟩, ⟨(x3.chg c4).mono (fun b hb2 => .inr (hb b hb2)), hii, by show Gr w4 w.heap.size g1 M4 (dropAll l (ids.take (i + 1))); rw [dropAll_succ hii]; exact g4, ?_⟩, by show ids.length - (i + 1) < ids.length - i; omega⟩
    show (dropAll l (ids.take (i + 1))).length ≤ 1000
    rw [dropAll_succ hii]
    exact Nat.le_trans (by
      unfold dropG
      split
      · exact Nat.le_refl _
      · exact List.length_eraseIdx_le ..) hlen
  · repeat' (first|(first|refine go1 ?_|refine zg (fun _ _=>?_)|refine zi (fun _ _=>?_)))
    rw [List.take_of_length_le (by omega)] at hg
    exact x_ret rfl ⟨g1, Mi, rfl, hg, x3⟩
end Go.Proofs.YtilhlcnekkkajaaGreat
end
section
namespace Go.Proofs.YtilhlcnekkkajaaGreat
open Go Go.K
section
attribute [local irreducible] checkT grantB inE sumV sumE values
theorem fee_good {f : Pt → Option Cn} {t : Tx} {h : Int} (hc : checkT t = 0) (h0 : (feeP f t h).2.1 = 0) : grantB t = false ∧ goodB (feeP f t h).1 = true := by
  cases hg : grantB t with
  | true => rw [fee_grant hc hg] at h0; exact absurd h0 (show ¬ (4 : Int) = 0 by decide)
  | false =>
    refine ⟨rfl, ?_⟩
    by_cases hk : ∀ j, ∀ hj : j < t.ins.length, inE f t h t.ins[j] = 0
    · rw [fee_all hc hg hk] at h0 ⊢
      by_cases h1 : sumE (t.ins.map (inV f)) = 0
      · rw [if_neg (show ¬ sumE (t.ins.map (inV f)) ≠ 0 from fun q => q h1)] at h0 ⊢
        by_cases h2 : sumV (values t) > sumV (t.ins.map (inV f))
        · rw [if_pos h2] at h0; exact absurd h0 (show ¬ (12 : Int) = 0 by decide)
        · rw [if_neg h2]
          have g1 := (goodB_iff _).1 (sumE_good h1)
          have g2 := (goodB_iff _).1 (sumE_good (check_sum hc))
          exact (goodB_iff _).2 (by show 0 ≤ sumV (t.ins.map (inV f)) - sumV (values t) ∧ sumV (t.ins.map (inV f)) - sumV (values t) ≤ 2100000000000000; omega)
      · rw [if_pos (show sumE (t.ins.map (inV f)) ≠ 0 from h1)] at h0; exact absurd h0 h1
    · exfalso
      have : ∃ i, (t.ins.findIdx? fun x => decide (inE f t h x ≠ 0)) = some i := by
        cases hq : t.ins.findIdx? fun x => decide (inE f t h x ≠ 0) with
        | some i => exact ⟨i, rfl⟩
        | none =>
          refine absurd (fun j hj => ?_) hk
          have := List.findIdx?_eq_none_iff.1 hq _ (List.getElem_mem hj)
          simpa using this
      obtain ⟨i, hi⟩ := this
      obtain ⟨h1, h2, h3⟩ := List.findIdx?_eq_some_iff_getElem.1 hi
      have he : inE f t h t.ins[i] ≠ 0 := of_decide_eq_true h2
      rw [fee_in hc hg h1 (fun j hj hjl => by have := h3 j hj; simpa using this) he] at h0
      exact he h0
theorem plain_good {f : Pt → Option Cn} {l : List Ent} {t : Tx} {h : Int} (h0 : (plainP f l t h).2.1 = 0) : checkT t = 0 ∧ grantB t = false ∧ hasE l (idT t) = false ∧ goodB (plainP f l t h).1 = true := by
  by_cases hc : checkT t = 0
  · cases hh : hasE l (idT t) with
    | true => rw [plain_twice hc hh] at h0; exact absurd h0 (show ¬ (7 : Int) = 0 by decide)
    | false =>
      by_cases hf : (feeP (overV f l h) t h).2.1 = 0
      · obtain ⟨g1, g2⟩ := fee_good hc hf
        refine ⟨hc, g1, rfl, ?_⟩
        rw [plain_ok hc hh hf] at h0 ⊢
        by_cases hd : 0 ≤ dustI t
        · rw [if_pos hd] at h0; exact absurd h0 (show ¬ (13 : Int) = 0 by decide)
        · rw [if_neg hd]; exact g2
      · rw [plain_fee hc hh hf] at h0; exact absurd h0 hf
  · rw [plain_bad hc] at h0; exact absurd h0 hc
end
section
variable {f : Pt → Option Cn} {l : List Ent} {t : Tx} {h rate : Int}
theorem acc_plain (h0 : (plainP f l t h).2.1 ≠ 0) : accE f l t h rate = (plainP f l t h).2 ∧ accIds f l t h rate = [] ∧ accL f l t h rate = l := by
  have e : accE f l t h rate = (plainP f l t h).2 := by unfold accE; rw [if_pos h0]
  refine ⟨e, ?_, ?_⟩
  · unfold accIds; rw [e, if_neg h0]
  · unfold accL; rw [e, if_neg h0]
theorem acc_err {c : Int} (hc : c ≠ 0) (e : accE f l t h rate = (c, -1)) : accIds f l t h rate = [] ∧ accL f l t h rate = l := by
  refine ⟨?_, ?_⟩
  · unfold accIds; rw [e, if_neg (show ¬ c = 0 from hc)]
  · unfold accL; rw [e, if_neg (show ¬ c = 0 from hc)]
theorem acc_fee (h0 : (plainP f l t h).2.1 = 0) (h1 : (plainP f l t h).1 < askedF rate (sizeT t)) : accE f l t h rate = (11, -1) := by
  unfold accE; rw [if_neg (show ¬ (plainP f l t h).2.1 ≠ 0 from fun q => q h0), if_pos h1]
theorem acc_rules (h0 : (plainP f l t h).2.1 = 0) (h1 : ¬ (plainP f l t h).1 < askedF rate (sizeT t)) (h2 : rulesL l t (plainP f l t h).1 ≠ 0) : accE f l t h rate = (rulesL l t (plainP f l t h).1, -1) := by
  unfold accE; rw [if_neg (show ¬ (plainP f l t h).2.1 ≠ 0 from fun q => q h0), if_neg h1, if_pos h2]
theorem acc_fits (h0 : (plainP f l t h).2.1 = 0) (h1 : ¬ (plainP f l t h).1 < askedF rate (sizeT t)) (h2 : rulesL l t (plainP f l t h).1 = 0) (h3 : fitsL (restL l t) t ≠ 0) : accE f l t h rate = (fitsL (restL l t) t, -1) := by
  unfold accE; rw [if_neg (show ¬ (plainP f l t h).2.1 ≠ 0 from fun q => q h0), if_neg h1, if_neg (show ¬ rulesL l t (plainP f l t h).1 ≠ 0 from fun q => q h2), if_pos h3]
theorem acc_ok (h0 : (plainP f l t h).2.1 = 0) (h1 : ¬ (plainP f l t h).1 < askedF rate (sizeT t)) (h2 : rulesL l t (plainP f l t h).1 = 0) (h3 : fitsL (restL l t) t = 0) :
    accE f l t h rate = (0, -1) ∧ accIds f l t h rate = idsOf l (evL l t) ∧ accL f l t h rate = (addG (restL l t) t (plainP f l t h).1).1 := by
  have e : accE f l t h rate = (0, -1) := by
    unfold accE
    rw [if_neg (show ¬ (plainP f l t h).2.1 ≠ 0 from fun q => q h0), if_neg h1, if_neg (show ¬ rulesL l t (plainP f l t h).1 ≠ 0 from fun q => q h2), if_neg (show ¬ fitsL (restL l t) t ≠ 0 from fun q => q h3)]
  refine ⟨e, ?_, ?_⟩
  · unfold accIds; rw [e, if_pos rfl]
  · unfold accL; rw [e, if_pos rfl]
end
theorem dropG_len (l : List Ent) (s : ByteArray) : (dropG l s).1.length ≤ l.length := by
  unfold dropG
  split
  · exact Nat.le_refl _
  · exact List.length_eraseIdx_le ..
theorem dropAll_len : ∀ (ids : List ByteArray) (l : List Ent), (dropAll l ids).length ≤ l.length
  | [], l => Nat.le_refl _
  | s :: ids, l => Nat.le_trans (dropAll_len ids (dropG l s).1) (dropG_len l s)
end Go.Proofs.YtilhlcnekkkajaaGreat
end
