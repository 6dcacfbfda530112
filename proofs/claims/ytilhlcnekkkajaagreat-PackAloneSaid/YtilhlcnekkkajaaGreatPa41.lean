/- Contracts: adding to a graph, beside blocks that are turned alone. Contracts: accepting a transaction, beside blocks that are turned alone. Contracts: parts of a pair that comes. -/
import Derived.Test.YtilhlcnekkkajaaGreatPa40
set_option linter.unusedVariables false
set_option linter.unusedSimpArgs false
section
namespace Go.Proofs.YtilhlcnekkkajaaGreat
open Go Go.K
attribute [local irreducible] regK codeK retK KOp.wp K.Spec u32 leS vnS str zero32 sha2 encT idT sizeT checkT grantB idN stepR workL reachE findI addG
set_option maxHeartbeats 2000000 in
theorem gadd_u {B g : Nat} {M N U : List Nat} {l : List Ent} {cs : List Value} {t : Tx} (fee : Int) (w : World) (hG : Gr w B g M l) (hU : GrR w g (U ++ M) l) (hUN : ∀ b ∈ U, b ∈ N) (ht : txR.rel N w cs t) (hs : t.Sm) (hf : is64 fee) (hN : ∀ b ∈ N, b < w.heap.size) (hMN : ∀ b ∈ M, b ∈ N) (hn : l.length ≤ 1000) : K.Spec Tryz.prog F.graph_Graph_Add [.pointer (some ⟨g, 0, none⟩), .agg cs.toArray, .int .i64 fee] w fun r w' =>
    ∃ M', r = .int .i64 (addG l t fee).2 ∧ Gr w' B g M' (addG l t fee).1 ∧ Chg M w w' ∧ (∀ b ∈ M', b ∈ M ∨ w.heap.size ≤ b) ∧ GrR w' g (U ++ M') (addG l t fee).1 := by
  have hG0 := hG
  obtain ⟨b1, vo, b2, m, sp, hP, rfl, hu1⟩ := Gr.both hG hU
  have rg : Row w ⟨g, 0, none⟩ [.map (some b1), vo, .map (some b2)] := Row.of_at hP.at_
  have hq1 := hP.ents
  have hq2 := hP.pts
  have ht0 := ht
  obtain ⟨iv, ov, rfl, h1, h2, h3⟩ := ht
  by_cases he0 : entErr t fee = 0
  · refine s_graph_Graph_Add rfl ?_
    unfold k_graph_Graph_Add
    refine oy ?_
    repeat' (first|(first|refine go1 ?_|refine zg (fun _ _=>?_)|refine zi (fun _ _=>?_))|(refine zL rfl (fun h => absurd h (by decide)) (fun h => ?_))|(refine zD rfl rfl (fun bp wp xp ap (rp : Row wp ⟨bp, 0, none⟩ (txCs t iv ov)) hp0=>?_))|(refine zC rfl (entry_spec (M := N) (cs := txCs t iv ov) (t := t) fee _ (by exact fx) hs hf (fun b hb => Nat.lt_of_lt_of_le (hN b hb) (Ext.size (by exact fx)))) ?_; rintro _ w5 ⟨ds, rfl, d1, d2, d3, x5⟩; obtain ⟨hok, he5⟩ := d3 he0; rw [he0]; clear d3; generalize hxe : (⟨t, idT t, fee, (sizeT t : Nat)⟩ : Ent) = x at hok he5 d1 d2 ⊢; have htx : x.tx = t := (by rw [← hxe]); have hid : x.id = idT t := (by rw [← hxe]); have he5' := he5; obtain ⟨iv5, ov5, rfl, o1, o2, o3⟩ := he5)|(refine zE (d' := 7) (fun _=>rfl) rfl rfl d2 (fun b7 w7 x7 a7 (r7 : Row w7 ⟨b7, 0, none⟩ (entCs x iv5 ov5)) hb7=>?_))|(refine st_lookupR (d := some 35) (KE := sK) (F := entR) (M := mutG g b1 b2 vo) (k := x.id) rfl rfl (by exact fx) rfl rfl (fun y cs hy hr => ?_) (fun hno => ?_))|(refine zH (d := some 9) (fun b9 w9 x9 a9 hb9 => ?_); have s9 : w.heap.size ≤ b9 := Nat.le_trans (Ext.size (w := w) (by exact fx)) hb9; have s79 : w7.heap.size ≤ b9 := Nat.le_trans (Ext.size (w := w7) (by exact fx)) hb9)|(obtain ⟨iv9, ov9, rfl, q1, q2, q3⟩ := hr; have i1 := q1.one; have i2 := q2.one; refine st_setN (w0 := w) (vs := entCs y iv9 ov9) (by exact fx) s9 (by focus (repeat (first | assumption | (apply At.ext; assumption)))) rfl rfl rfl rfl (by simp [entCs, i1, i2]; exact ⟨rfl, rfl, rfl, rfl, rfl⟩) (fun w10 x10 c10 a10 r10 => ?_); clear q1 q2)|(refine st_setN (w0 := w) (vs := zEnt) (by exact fx) s9 (by focus (repeat (first | assumption | (apply At.ext; assumption)))) rfl rfl rfl rfl rfl (fun w10 x10 c10 a10 r10 => ?_))|(refine zG (E := inR) (M := N) (l := t.ins) rfl (SlR.ext h1 (by exact fx)) ?_))
    · rw [hP.inv.ent] at hy
      have hany : l.any (fun x => decide (x.id = idT t)) = true := by
        rw [List.any_eq_true]
        exact ⟨y, List.mem_of_find?_eq_some hy, by have := List.find?_some hy; rw [← hid]; exact this⟩
      rw [addG_ok he0 (fun _ _ _ => trivial), if_pos hany]
      exact x_ret rfl ⟨_, rfl, hG0.ext x10, x10.mono (by simp), fun b hb => .inl hb, hU.ext x10⟩
    · have l7 := a7.lt
      have lp := ap.lt
      have s5 := x5.size
      have s7 := x7.size
      have sp := xp.size
      have ap0 := At.chg c10 (At.ext (show Ext wp w9 by exact fx) ap) (by simp; omega)
      have a70 := At.chg c10 (At.ext (show Ext w7 w9 by exact fx) a7) (by simp; omega)
      have x59 : Ext w5 w9 := by exact fx
      have k1 := o1.lt
      have k2 := o2.lt
      have e10 : entR.rel N w10 (entCs x iv5 ov5) x := by
        have n1 : b9 ∉ blkOf iv5 := fun h => by have := k1 _ h; omega
        have n2 : b9 ∉ blkOf ov5 := fun h => by have := k2 _ h; omega
        have p1 := (o1.step (M' := b9 :: N) x59 (by simp) (fun b hb => by rcases List.mem_cons.1 hb with h | h; (right; omega); exact .inl h)).step (M' := N) c10 (by intro y hy; simp at hy; subst hy; exact ⟨n1, .inl (by simp)⟩) (fun _ h => .inl (by simp [h]))
        have p2 := (o2.step (M' := b9 :: N) x59 (by simp) (fun b hb => by rcases List.mem_cons.1 hb with h | h; (right; omega); exact .inl h)).step (M' := N) c10 (by intro y hy; simp at hy; subst hy; exact ⟨n2, .inl (by simp)⟩) (fun _ h => .inl (by simp [h]))
        exact entO.rel (B := w.heap.size) ⟨iv5, ov5, rfl, p1.lower sp, p2.lower sp, o3⟩ hN
      have rp0 : Row w10 ⟨bp, 0, none⟩ (txCs t iv ov) := Row.of_at ap0
      have r70 : Row w10 ⟨b7, 0, none⟩ (entCs x iv5 ov5) := Row.of_at a70
      have hb7 : w.heap.size ≤ b7 := by omega
      have hbp := hp0
      have hl1 := Gr.lt hG0
      have hins := hs.ins
      clear ‹Ext w7 _›
      clear x59 k1 k2 o1 o2 he5' c10 a10 r10 x9 a9 hb9 s9 s79 x7 a7 r7 x5 xp ap rp l7 lp s5 s7 sp hp0
      repeat' (first|(first|refine go1 ?_|refine zg (fun _ _=>?_)|refine zi (fun _ _=>?_))|(refine zL rfl (fun h => ?_) (fun h => ?_))|(refine zG (E := inR) (M := N) (l := t.ins) rfl (SlR.ext h1 (by exact fx)) ?_)|(refine c_loopV (fun (i : Nat) w' => Ext w10 w' ∧ i ≤ t.ins.length ∧ ∀ j (hj : j < t.ins.length), j < i → aget sp t.ins[j].p = none) (fun i => [(0, .pointer (some ⟨g, 0, none⟩)), (4, .pointer (some ⟨bp, 0, none⟩)), (7, .pointer (some ⟨b7, 0, none⟩)), (40, iv), (41, .int .i64 (t.ins.length : Nat)), (42, .int .i64 i)]) (fun i => t.ins.length - i) 0 ⟨rfl, rfl, rfl, rfl, rfl, rfl, trivial⟩ ⟨by exact fx, by simp, fun j hj h => by omega⟩ ?_; rintro i ρ w3 ⟨x3, hi, hfr⟩)|(refine st_elemR (d := some 44) (E := inR) (M := N) rfl rfl (n := i) (l := t.ins) (SlR.ext h1 (x10.trans x3)) rfl (by omega) (fun ad cs r4 he => ?_); obtain ⟨wv, rfl, hw, hp5, hp6⟩ := he; obtain ⟨bs1, cp1, rfl⟩ := hw.form; have hil : i < t.ins.length := (by omega))|(refine zE (d' := 12) (fun _=>rfl) rfl rfl rfl (fun b8 w8 x8 a8 (r8 : Row w8 ⟨b8, 0, none⟩ (inCs t.ins[i] (.slice bs1 t.ins[i].wit.length cp1))) hb8=>?_))|(refine st_lookupOk (d := some 53) (E := ptK) (fv := Value.string) (k := t.ins[i].p) rfl rfl (MapE.ext (w := w) (by exact fx) hq2) rfl rfl (fun y hy => ?_) (fun hn2 => ?_)))
      · rw [hP.inv.spt, Option.map_eq_some_iff] at hy
        obtain ⟨z, hz, -⟩ := hy
        have hany : ¬ l.any (fun x => decide (x.id = idT t)) = true := by
          rw [hP.inv.ent] at hno
          rw [List.any_eq_true]
          rintro ⟨y, h1, h2⟩
          exact (List.find?_eq_none.1 hno y h1) (by rw [hid]; exact h2)
        have hany2 : t.ins.any (fun i => l.any fun x => spends x i.p) = true := List.any_eq_true.2 ⟨_, List.getElem_mem hil, List.any_eq_true.2 ⟨z, List.mem_of_find?_eq_some hz, (by have := List.find?_some hz; exact this)⟩⟩
        rw [addG_ok he0 (fun _ _ _ => trivial), if_neg hany, if_pos hany2]
        have xx : Ext w _ := Ext.trans (x10.trans (x3.trans x8)) (by assumption)
        exact x_ret rfl ⟨_, rfl, hG0.ext xx, xx.mono (by simp), fun b hb => .inl hb, hU.ext xx⟩
      · exact ⟨i + 1, ⟨rfl, rfl, rfl, rfl, rfl, rfl, trivial⟩, ⟨by exact fx, by omega, fun j hj h => by
          rcases Nat.lt_succ_iff_lt_or_eq.1 h with h5 | rfl
          · exact hfr j hj h5
          · exact hn2⟩, by omega⟩
      · rename_i wB xB
        have hfree : ∀ j (hj : j < t.ins.length), aget sp t.ins[j].p = none := fun j hj => hfr j hj (by omega)
        have x0B := x3.trans xB
        have xwB : Ext w wB := x10.trans x0B
        have eB : entR.rel (U ++ mutG g b1 b2 vo) wB (entCs x iv5 ov5) x := entR.step e10 x0B (by simp) (fun b hb => .inl ((List.mem_append.1 hb).elim (hUN b) (hMN b)))
        have apB := ap0.ext x0B
        have a7B := a70.ext x0B
        have agB := hP.at_.ext xwB
        have mB := hu1.ext xwB
        have pB := hq2.ext xwB
        have oB := hP.ord.ext xwB
        have sB := xwB.size
        have nd := hP.nd
        simp only [List.nodup_cons, List.mem_cons, not_or] at nd
        obtain ⟨⟨n1, n2, n3⟩, ⟨n4, n5⟩, n6, n7⟩ := nd
        have l1 : b1 < w.heap.size := hl1 _ (by simp)
        have l2 : b2 < w.heap.size := hl1 _ (by simp)
        have lg : g < w.heap.size := hl1 _ (by simp)
        have lo : ∀ b ∈ blkOf vo, b < w.heap.size := fun b hb => hl1 b (by simp [hb])
        clear x3 xB x0B hi x10 ap0 a70 rp0 r70 e10 rg hfr h
        refine st_mapUpdateR (KE := sK) (F := entR) (M := U ++ mutG g b1 b2 vo) (k := x.id) (v := x) (cs := entCs x iv5 ov5) rfl rfl rfl mB eB (by simp) rfl rfl (fun w11 c11 m11 => ?_)
        have ag11 := agB.chg c11 (by simp; omega)
        have a711 := a7B.chg c11 (by simp; omega)
        have ap11 := apB.chg c11 (by simp; omega)
        have p11 := pB.chg c11 (by simp; omega)
        have o11 := oB.chg c11 (fun b hb h => by simp at h; subst h; exact n5 hb)
        have rg11 : Row w11 ⟨g, 0, none⟩ [.map (some b1), vo, .map (some b2)] := Row.of_at ag11
        have r711 : Row w11 ⟨b7, 0, none⟩ (entCs x iv5 ov5) := Row.of_at a711
        have C11 : Chg (mutG g b1 b2 vo) w w11 := (xwB.chg c11).mono (fun b hb => by simp at hb; subst hb; exact .inl (by simp))
        have s11 := c11.size
        have sB11 : w.heap.size ≤ w11.heap.size := Nat.le_trans sB s11
        have hBw : B ≤ w.heap.size := (by have := hP.lo; omega)
        clear agB a7B apB pB oB mB eB c11 xwB
        repeat' (first|(first|refine go1 ?_|refine zg (fun _ _=>?_)|refine zi (fun _ _=>?_))|refine st_both ?_ ?_|(refine zI (d := some 72) (cs := [.string x.id]) rfl (fun bz wz xz az hbz => ?_)))
        all_goals
          refine st_appendX (d := some 73) (E := strE) (B := B) (l := l.map (fun x : Ent => x.id)) (l2 := [x.id]) (n := 1) (new := [.string x.id]) rfl (o11.ext (by exact fx)) (Nat.le_trans (Nat.le_trans hBw sB11) (Ext.size (w := w11) (by exact fx))) rfl rfl (sl_new (by focus (repeat (first | assumption | (apply At.ext; assumption)))) rfl) rfl rfl (by simp only [List.length_map, List.length_cons, List.length_nil]; omega) (fun v13 w13 o13 _ c13 hb13 => ?_)
          have c1 : Chg (blkOf vo) w11 w13 := Ext.chg (by exact fx) c13
          have hb1 : ∀ b ∈ blkOf v13, b ∈ blkOf vo ∨ w11.heap.size ≤ b := fun b hb => (hb13 b hb).imp id (Nat.le_trans (Ext.size (by exact fx)))
          clear c13 hb13 az hbz xz
          clear ‹Ext w11 _›
          have s13 := c1.size
          have ag13 := ag11.chg c1 n3
          have ap13 := ap11.chg c1 (fun h => by have := lo _ h; omega)
          have a713 := a711.chg c1 (fun h => by have := lo _ h; omega)
          have p13 := p11.chg c1 n6
          have rg13 : Row w13 ⟨g, 0, none⟩ [.map (some b1), vo, .map (some b2)] := Row.of_at ag13
          repeat (first|refine go1 ?_|refine zg (fun _ _=>?_)|refine zi (fun _ _=>?_))
          have hv1 : v13.oneCell' = true := by obtain ⟨_, _, e⟩ := o13.sl.form; rw [e]; rfl
          refine st_store (b := g) (o := 1) (v := v13) rfl rfl hv1 ag13 (by simp) (fun w14 c14 ag14 => ?_)
          have ag14 : At w14 g (.cells [.map (some b1), v13, .map (some b2)].toArray T.graph_Graph (0, 0)) := ag14
          have rg14 : Row w14 ⟨g, 0, none⟩ [.map (some b1), v13, .map (some b2)] := Row.of_at ag14
          have a714 := a713.chg c14 (by simp; omega)
          have ap14 := ap13.chg c14 (by simp; omega)
          have r714 : Row w14 ⟨b7, 0, none⟩ (entCs x iv5 ov5) := Row.of_at a714
          have rp14 : Row w14 ⟨bp, 0, none⟩ (txCs t iv ov) := Row.of_at ap14
          have hv3 : ∀ b, b < w.heap.size → b ∉ blkOf vo → b ∉ blkOf v13 := fun b hb hn h => by
            rcases hb1 b h with h1 | h1
            · exact hn h1
            · omega
          have o14 := o13.chg c14 (fun b hb h => by simp at h; subst h; exact hv3 _ lg n3 hb)
          have p14 := p13.chg c14 (by simp; omega)
          have hM' : ∀ b ∈ mutG g b1 b2 v13, b ∈ mutG g b1 b2 vo ∨ w11.heap.size ≤ b := fun b hb => by
            simp only [List.mem_cons] at hb ⊢
            rcases hb with rfl | rfl | rfl | hb
            · exact .inl (.inl rfl)
            · exact .inl (.inr (.inl rfl))
            · exact .inl (.inr (.inr (.inl rfl)))
            · exact (hb1 b hb).imp (fun h => .inr (.inr (.inr h))) id
          have hMU : ∀ b ∈ U ++ mutG g b1 b2 v13, b ∈ U ++ mutG g b1 b2 vo ∨ w11.heap.size ≤ b := fun b hb => (List.mem_append.1 hb).elim (fun h => .inl (List.mem_append_left _ h)) (fun h => (hM' b h).imp (fun h2 => List.mem_append_right _ h2) id)
          have m13 : MapR sK entR (U ++ mutG g b1 b2 v13) w13 b1 (aset m x.id x) := m11.step c1 n5 (fun b hb => .inl (by simp [hb])) hMU
          have m14 := m13.step (M' := U ++ mutG g b1 b2 v13) c14 (by simp; omega) (fun b hb => by simp at hb; subst hb; exact .inl (by simp)) (fun _ h => .inl h)
          have C14 : Chg (mutG g b1 b2 vo) w w14 := ((C11.trans c1).trans c14).mono (fun b hb => by simp at hb ⊢; grind)
          have s14 := c14.size
          have hi14 : SlR inR N w14 iv t.ins := h1.step C14 (fun b hb => .inl (hMN b hb)) (fun _ h => .inl h)
          clear ag13 rg13 a713 ap13 o13 p13 m13 c14 c1 m11 ag11 a711 ap11 p11 o11 rg11 r711 C11
          clear ap14
          repeat' (first|(first|refine go1 ?_|refine zg (fun _ _=>?_)|refine zi (fun _ _=>?_))|(refine zL rfl (fun h => ?_) (fun h => ?_))|(refine zG (E := inR) (M := N) (l := t.ins) rfl (SlR.ext hi14 (by exact fx)) ?_)|(refine c_loopV (fun (i : Nat) w' => Chg [b2] w14 w' ∧ i ≤ t.ins.length ∧ MapE ptK Value.string w' b2 (putPts sp (t.ins.take i) x.id)) (fun i => [(0, .pointer (some ⟨g, 0, none⟩)), (7, .pointer (some ⟨b7, 0, none⟩)), (77, iv), (78, .int .i64 (t.ins.length : Nat)), (79, .int .i64 i)]) (fun i => t.ins.length - i) 0 ⟨rfl, rfl, rfl, rfl, rfl, trivial⟩ ⟨(show Ext w14 _ by exact fx).mono (by simp), by simp, MapE.ext (by exact fx) p14⟩ ?_; rintro i ρ w3 ⟨x3, hi, hmp⟩))
          · have hi3 : SlR inR N w3 iv t.ins := hi14.step x3 (fun b hb => .inl (hMN b (by simp at hb; simp [hb]))) (fun _ h => .inl h)
            have rg3 : Row w3 ⟨g, 0, none⟩ [.map (some b1), v13, .map (some b2)] := Row.of_at (ag14.chg x3 (by simp; omega))
            have r73 : Row w3 ⟨b7, 0, none⟩ (entCs x iv5 ov5) := Row.of_at (a714.chg x3 (by simp; omega))
            clear r714 rp14 rg14
            repeat' (first|(first|refine go1 ?_|refine zg (fun _ _=>?_)|refine zi (fun _ _=>?_))|(refine st_elemR (d := some 81) (E := inR) (M := N) rfl rfl (n := i) (l := t.ins) (SlR.ext hi3 (by exact fx)) rfl (by omega) (fun ad cs r4 he => ?_); obtain ⟨wv, rfl, hw, hp5, hp6⟩ := he; obtain ⟨bs1, cp1, rfl⟩ := hw.form; have hil : i < t.ins.length := (by omega))|(refine zE (d' := 16) (fun _=>rfl) rfl rfl rfl (fun b8 w8 x8 a8 (r8 : Row w8 ⟨b8, 0, none⟩ (inCs t.ins[i] (.slice bs1 t.ins[i].wit.length cp1))) hb8=>?_))|(refine st_mapUpdate (E := ptK) (fv := Value.string) (k := t.ins[i].p) (v := x.id) rfl rfl rfl (MapE.ext (w := w3) (by exact fx) hmp) rfl rfl (fun w5 c5 m5 => ?_); have x35 : Chg [b2] w3 w5 := Ext.chg (by exact fx) c5))
            exact ⟨i + 1, ⟨rfl, rfl, rfl, rfl, rfl, trivial⟩, ⟨(x3.trans x35).mono (by simp), by omega, by rw [putPts_take hil]; exact m5⟩, by omega⟩
          · have ei : i = t.ins.length := by omega
            subst ei
            rw [List.take_of_length_le (Nat.le_refl _)] at hmp
            have hany : ¬ l.any (fun x => decide (x.id = idT t)) = true := by
              rw [hP.inv.ent] at hno
              rw [List.any_eq_true]
              rintro ⟨y, h1, h2⟩
              exact (List.find?_eq_none.1 hno y h1) (by rw [hid]; exact h2)
            have hnone : ∀ i ∈ t.ins, ∀ y ∈ l, spends y i.p = false := fun i hi y hy => by
              obtain ⟨j, hj, rfl⟩ := List.getElem_of_mem hi
              have h5 := hfree j hj
              rw [hP.inv.spt, Option.map_eq_none_iff] at h5
              have h6 := List.find?_eq_none.1 h5 y hy
              simpa using h6
            have hany2 : ¬ t.ins.any (fun i => l.any fun x => spends x i.p) = true := by
              rw [List.any_eq_true]
              rintro ⟨i, hi, h⟩
              obtain ⟨y, hy, h⟩ := List.any_eq_true.1 h
              rw [hnone i hi y hy] at h; cases h
            rw [addG_ok he0 (fun _ _ _ => trivial), if_neg hany, if_neg hany2, hxe]
            have hno' : ∀ y ∈ l, y.id ≠ x.id := fun y hy e => hany (List.any_eq_true.2 ⟨y, hy, decide_eq_true (by rw [e, hid])⟩)
            have hinv : GI (aset m x.id x) (putPts sp x.tx.ins x.id) (l ++ [x]) := GI.add hP.inv hok hno' (fun y hy p hp => by
              unfold spends at hp
              obtain ⟨i, hi, h⟩ := List.any_eq_true.1 hp
              rw [htx] at hi
              rw [← of_decide_eq_true h]
              exact hnone i hi y hy)
            rw [htx] at hinv
            have nb2 : b2 ∉ blkOf v13 := hv3 _ l2 n6
            have nb1 : b1 ∉ blkOf v13 := hv3 _ l1 n5
            have nbg : g ∉ blkOf v13 := hv3 _ lg n3
            have n13 : (blkOf v13).Nodup := blkOf_nodup v13
            have hC : Chg (mutG g b1 b2 vo) w w3 := (C14.trans x3).mono (fun b hb => by simp at hb ⊢; grind)
            have e13 : (l ++ [x]).map (·.id) = l.map (·.id) ++ [x.id] := by simp
            have agx := ag14.chg x3 (by simp; omega)
            have mx := m14.step (M' := U ++ mutG g b1 b2 v13) x3 (by simp; omega) (fun b hb => .inl (by simp at hb; simp [hb])) (fun _ h => .inl h)
            have mx0 := mx.step (M' := mutG g b1 b2 v13) (Chg.refl [] _) (by simp) (by simp) (fun b hb => .inl (List.mem_append_right _ hb))
            have ox := o14.chg x3 (fun b hb h => by simp at h; subst h; exact nb2 hb)
            rw [← e13] at ox
            refine x_ret rfl ⟨_, rfl, ⟨b1, v13, b2, aset m x.id x, putPts sp t.ins x.id, ⟨agx, mx0, hmp, ox, hinv, ?_, hP.lo⟩, rfl⟩, hC, fun b hb => (hM' b hb).imp id (Nat.le_trans sB11), ⟨b1, v13, b2, aset m x.id x, putPts sp t.ins x.id, ⟨agx, mx, hmp, ox.sl, hinv⟩⟩⟩
            simp only [List.nodup_cons, List.mem_cons, not_or]
            exact ⟨⟨n1, n2, nbg⟩, ⟨n4, nb1⟩, nb2, n13⟩
  · refine s_graph_Graph_Add rfl ?_
    unfold k_graph_Graph_Add
    refine oy ?_
    repeat' (first|(first|refine go1 ?_|refine zg (fun _ _=>?_)|refine zi (fun _ _=>?_))|(refine zL rfl (fun h => ?_) (fun h => absurd h (by simpa using he0)))|(refine zN rfl (fun h => ?_) (fun h => absurd h he0))|(refine zD rfl rfl (fun bp wp xp ap (rp : Row wp ⟨bp, 0, none⟩ (txCs t iv ov)) hp0=>?_))|(refine zC rfl (entry_spec (M := N) (cs := txCs t iv ov) (t := t) fee _ (by exact fx) hs hf (fun b hb => Nat.lt_of_lt_of_le (hN b hb) (Ext.size (by exact fx)))) ?_; rintro _ w5 ⟨ds, rfl, d1, d2, -, x5⟩)|(refine zE (d' := 7) (fun _=>rfl) d1 rfl d2 (fun b7 w7 x7 a7 r7 hb7=>?_)))
    have xx : Ext w w7 := by exact fx
    rw [addG_err he0]
    exact x_ret rfl ⟨_, rfl, hG0.ext xx, xx.mono (by simp), fun b hb => .inl hb, hU.ext xx⟩
theorem gadd_gu {B g : Nat} {M N U : List Nat} {l : List Ent} {cs : List Value} {t : Tx} (fee : Int) (w : World) (hG : GrU w B g M U l) (hUN : ∀ b ∈ U, b ∈ N) (ht : txR.rel N w cs t) (hs : t.Sm) (hf : is64 fee) (hN : ∀ b ∈ N, b < w.heap.size) (hMN : ∀ b ∈ M, b ∈ N) (hn : l.length ≤ 1000) : K.Spec Tryz.prog F.graph_Graph_Add [.pointer (some ⟨g, 0, none⟩), .agg cs.toArray, .int .i64 fee] w fun r w' =>
    ∃ M', r = .int .i64 (addG l t fee).2 ∧ GrU w' B g M' U (addG l t fee).1 ∧ Chg M w w' ∧ ∀ b ∈ M', b ∈ M ∨ w.heap.size ≤ b :=
  spec_mono (gadd_u fee w hG.gr hG.rd hUN ht hs hf hN hMN hn) fun _ _ ⟨M', h1, h2, h3, h4, h5⟩ => ⟨M', h1, ⟨h2, h5, fun b hb h => (h4 b hb).elim (fun h6 => hG.dj b h6 h) (fun h6 => by have := hN b (hUN b h); omega)⟩, h3, h4⟩
end Go.Proofs.YtilhlcnekkkajaaGreat
end
section
namespace Go.Proofs.YtilhlcnekkkajaaGreat
open Go Go.K
attribute [local irreducible] regK codeK retK KOp.wp K.Spec u32 leS vnS str zero32 sha2 encT idT sizeT checkT grantB idN stepR workL reachE findI dropG addG aboveL belowL idsOf feeD sizeD cntS metL confL evL inS inB needI needL feeOf needN needE mayE freshP rulesL fitsL feeP dustI numAt byteAt plainP dropAll accE accIds accL askedF

set_option maxHeartbeats 4000000 in
theorem accept_gu {B g : Nat} {M N U : List Nat} {l : List Ent} {cs : List Value} {t : Tx} {v : Value} {f : Pt → Option Cn} (h rate : Int) (w : World) (hG0 : GrU w B g M U l) (hU : ∀ b ∈ U, b < w.heap.size) (hUN : ∀ b ∈ U, b ∈ N) (hV : ViewR w v f) (ht : txR.rel N w cs t) (hs : t.Sm) (hN : ∀ b ∈ N, b < w.heap.size) (hMN : ∀ b ∈ M, b ∈ N) (hl : l.length ≤ 1000) (hf : ∀ x ∈ l, x.fee ≤ 1000000000000) :
    K.Spec Tryz.prog F.pool_Accept [.pointer (some ⟨g, 0, none⟩), .agg cs.toArray, termV v h rate] w fun r w' => ∃ u e M', r = .tuple #[u, e] ∧ Own strE T.string w.heap.size w' u (accIds f l t h rate) ∧ ErrR w' 1 e (accE f l t h rate).1 (accE f l t h rate).2 ∧ GrU w' B g M' U (accL f l t h rate) ∧ Chg M w w' ∧ (∀ b ∈ M', b ∈ M ∨ w.heap.size ≤ b) ∧ (∀ b ∈ blkOf u, b ∉ M') := by
  have hG := hG0.gr
  have ht0 := ht
  have hM : ∀ b ∈ M, b < w.heap.size := fun b hb => hN b (hMN b hb)
  obtain ⟨iv, ov, rfl, hi, ho, hv⟩ := ht
  obtain ⟨vt, vu, rfl⟩ : ∃ vt vu, v = .iface vt vu := by obtain ⟨⟨a, b, e, _⟩, _⟩ := hV; exact ⟨a, b, e⟩
  have fail : ∀ {w' : World} {e : Value} {c a : Int}, Ext w w' → accE f l t h rate = (c, a) → accIds f l t h rate = [] → accL f l t h rate = l → ErrR w' 1 e c a → ∃ u e' M', Value.tuple #[.slice none 0 0, e] = .tuple #[u, e'] ∧ Own strE T.string w.heap.size w' u (accIds f l t h rate) ∧ ErrR w' 1 e' (accE f l t h rate).1 (accE f l t h rate).2 ∧ GrU w' B g M' U (accL f l t h rate) ∧ Chg M w w' ∧ (∀ b ∈ M', b ∈ M ∨ w.heap.size ≤ b) ∧ (∀ b ∈ blkOf u, b ∉ M') := fun x e1 e2 e3 he =>
    ⟨_, _, M, rfl, by rw [e2]; exact Own.nil _ _ _, by rw [e1]; exact he, by rw [e3]; exact hG0.ext x, x.mono (by simp), fun b hb => .inl hb, fun b hb => by simp [blkOf] at hb⟩
  by_cases h0 : (plainP f l t h).2.1 = 0
  · obtain ⟨hc, hg, hh, hgood⟩ := plain_good h0
    have hgf := (goodB_iff _).1 hgood
    have hz := (sz_of_check hs hc).sizeM
    have e0 : sizeV t = .tuple #[.int .i64 (sizeT t : Nat), .int .i64 0] := by rw [sizeV, if_pos hc]
    generalize hfee : (plainP f l t h).1 = fee at *
    refine s_pool_Accept rfl ?_
    unfold k_pool_Accept
    refine oy ?_
    repeat (first|(refine zD (d := some 4) rfl rfl (fun bt wt xt bt' (rt : Row wt ⟨bt, 0, none⟩ (txCs t iv ov)) hbt0=>?_))|(refine zD (d := some 5) (cs := [.iface vt vu, .int .i64 h, .int .i64 rate]) rfl rfl (fun bs ws xs bs' (rs : Row ws ⟨bs, 0, none⟩ [.iface vt vu, .int .i64 h, .int .i64 rate]) hbs0=>?_))|(refine zC (d := some 21) rfl (plain_spec (M := M) (N := N) (l := l) (f := f) (cs := txCs t iv ov) (t := t) h rate _ (hG.r.ext (by exact fx)) (fun b hb => Nat.lt_of_lt_of_le (hM b hb) (Ext.size (by exact fx))) (hV.ext (by exact fx)) (R.ext ht0 (by exact fx)) hs) ?_; rintro _ w3 ⟨e, rfl, he, x3⟩; obtain ⟨hn1, hn2⟩ := he.nil_iff)|(first|refine go1 ?_|refine zg (fun _ _=>?_)|refine zi (fun _ _=>?_)))
    obtain ⟨rfl, -⟩ := hn1 h0
    rw [hfee]
    clear he hn1 hn2
    repeat (first|(refine zC (d := some 29) rfl (size_spec (M := N) (cs := txCs t iv ov) (t := t) _ (R.ext ht0 (by exact fx)) hs) ?_; rintro _ w4 ⟨rfl, x4⟩; rw [e0])|(refine zC (d := some 35) rfl (asked_spec (.iface vt vu) rfl h rate (sizeT t) (by omega) _) ?_; rintro _ w5 ⟨rfl, x5⟩)|(first|refine go1 ?_|refine zg (fun _ _=>?_)|refine zi (fun _ _=>?_)))
    refine zL (p := fee < askedF rate (sizeT t)) rfl (fun h1 => ?_) (fun h1 => ?_)
    · have e := acc_fee (rate := rate) h0 (by rw [hfee]; exact h1)
      obtain ⟨e2, e3⟩ := acc_err (by decide) e
      repeat (first|refine go1 ?_|refine zg (fun _ _=>?_)|refine zi (fun _ _=>?_))
      exact x_ret rfl (fail (by exact fx) e e2 e3 (ErrR.num _ _ (by decide)))
    repeat (first|(refine zC (d := some 41) rfl (rules_spec (M := M) (N := N) (l := l) (cs := txCs t iv ov) (t := t) fee _ (hG.r.ext (by exact fx)) (fun b hb => Nat.lt_of_lt_of_le (hM b hb) (Ext.size (by exact fx))) (R.ext ht0 (by exact fx)) hs hl hf) ?_; rintro _ w6 ⟨rfl, x6⟩)|(first|refine go1 ?_|refine zg (fun _ _=>?_)|refine zi (fun _ _=>?_)))
    refine zN (p := rulesL l t fee = 0) rfl (fun h2 => ?_) (fun h2 => ?_)
    · have e := acc_rules (rate := rate) h0 (by rw [hfee]; exact h1) (by rw [hfee]; exact h2)
      obtain ⟨e2, e3⟩ := acc_err (by rw [hfee]; exact h2) e
      rw [hfee] at e
      repeat (first|refine go1 ?_|refine zg (fun _ _=>?_)|refine zi (fun _ _=>?_))
      exact x_ret rfl (fail (by exact fx) e e2 e3 (ErrR.num _ _ h2))
    repeat (first|refine go1 ?_|refine zg (fun _ _=>?_)|refine zi (fun _ _=>?_))
    refine zC (d := some 48) rfl (evicted_spec (M := M) (N := N) (l := l) (cs := txCs t iv ov) (t := t) _ (hG.r.ext (by exact fx)) (fun b hb => Nat.lt_of_lt_of_le (hM b hb) (Ext.size (by exact fx))) (R.ext ht0 (by exact fx)) hs.ins hl) ?_
    rintro u w8 ⟨ou8, x7⟩
    have rt8 : Row w8 ⟨bt, 0, none⟩ (txCs t iv ov) := rt.ext (by exact fx)
    have t8 := R.ext ht0 (show Ext w w8 by exact fx)
    have G8u : GrU w8 B g M U l := hG0.ext (show Ext w w8 by exact fx)
    have G8 : Gr w8 B g M l := G8u.gr
    have hbu : ∀ b ∈ blkOf u, w.heap.size ≤ b := fun b hb => Nat.le_trans (Ext.size (show Ext w w6 by exact fx)) (ou8.base b hb)
    have hbl : ∀ b ∈ blkOf u, b < w8.heap.size := fun b hb => Own.blk_lt ou8 b hb
    have s06 : w.heap.size ≤ w6.heap.size := Ext.size (show Ext w w6 by exact fx)
    have s8 : bt < w8.heap.size := Nat.lt_of_lt_of_le bt'.lt (Ext.size (show Ext wt w8 by exact fx))
    have x08 : Unit → Ext w w8 := fun _ => by exact fx
    have s08 := (x08 ()).size
    clear x3 x4 x5 x6 x7 xs xt rt rs bt' bs'
    have su := ou8.sl
    have hM8 : ∀ b ∈ M, b < w8.heap.size := fun b hb => Nat.lt_of_lt_of_le (hM b hb) s08
    have hid : (idsOf l (evL l t)).length ≤ 1000 := Nat.le_trans (idsOf_length l (evL l t)) hl
    obtain ⟨ids, hids⟩ : ∃ ids, idsOf l (evL l t) = ids := ⟨_, rfl⟩
    rw [hids] at ou8 su hid
    repeat' (first|(refine zg (fun w9 x9 => ?_))|(refine st_both ?_ ?_)|(refine zC (d := some 51) rfl (without_spec (M := M) (l := l) (ids := ids) _ (G8.ext (by exact fx)).r (fun b hb => Nat.lt_of_lt_of_le (hM8 b hb) (Ext.size (by exact fx))) hl (su.ext (by exact fx)) hid) ?_; rintro _ w10 ⟨g1, M1, rfl, g10, x10⟩)|(refine st_joinV (b := .cons ⟨some 53, _, _⟩ _) (fun (p : Nat × List Nat) w' => Ext w8 w' ∧ Gr w' w8.heap.size p.1 p.2 (dropAll l ids)) (fun p => [(0, .pointer (some ⟨g, 0, none⟩)), (4, .pointer (some ⟨bt, 0, none⟩)), (8, .int .i64 fee), (13, u), (51, .pointer (some ⟨p.1, 0, none⟩)), (52, .agg (txCs t iv ov).toArray)]) ?_ ?_)|(rintro ⟨g1, M1⟩ ρ7 w10 ⟨x10, g10⟩; try dsimp only)|(exact ⟨(g1, M1), ⟨rfl, rfl, rfl, rfl, rfl, rfl, trivial⟩, by exact fx, Gr.low g10 (Ext.size x9)⟩)|(first|refine go1 ?_|refine zg (fun _ _=>?_)|refine zi (fun _ _=>?_)))
    have hrest : restL l t = dropAll l ids := by unfold restL; rw [hids]
    dsimp only at g10
    refine zC (d := some 53) rfl (fits_spec (M := M1) (N := N) (l := dropAll l ids) (cs := txCs t iv ov) (t := t) _ g10.r (Gr.lt g10) (R.ext t8 x10) hs (Nat.le_trans (dropAll_len ids l) hl)) ?_
    rintro _ w11 ⟨rfl, x11⟩
    repeat (first|refine go1 ?_|refine zg (fun _ _=>?_)|refine zi (fun _ _=>?_))
    have rt11 : Row w11 ⟨bt, 0, none⟩ (txCs t iv ov) := rt8.ext (by exact fx)
    have x811 : Ext w8 w11 := x10.trans x11
    have t11 := R.ext t8 x811
    have G11 := G8u.ext x811
    have ou11 := ou8.ext x811
    have s811 := x811.size
    have x011 : Unit → Ext w w11 := fun _ => (x08 ()).trans x811
    clear x10 x11 x811 g10 rt8 ou8 su
    refine zN (p := fitsL (dropAll l ids) t = 0) rfl (fun h3 => ?_) (fun h3 => ?_)
    · have e := acc_fits (rate := rate) h0 (by rw [hfee]; exact h1) (by rw [hfee]; exact h2) (by rw [hrest]; exact h3)
      rw [hrest] at e
      obtain ⟨e2, e3⟩ := acc_err h3 e
      repeat (first|refine go1 ?_|refine zg (fun _ _=>?_)|refine zi (fun _ _=>?_))
      exact x_ret rfl (fail (x011 ()) e e2 e3 (ErrR.num _ _ h3))
    obtain ⟨e1, e2, e3⟩ := acc_ok (rate := rate) h0 (by rw [hfee]; exact h1) (by rw [hfee]; exact h2) (by rw [hrest]; exact h3)
    rw [hids] at e2
    rw [hrest, hfee] at e3
    have d0 : dropAll l (ids.take 0) = l := by unfold dropAll; rfl
    have huM : ∀ a m c, u = .slice (some a) m c → a.block ∉ M := fun a m c e hb => by
      have h5 := hbu a.block (by rw [e]; simp [blkOf])
      have h6 := hM _ hb
      omega
    repeat (first|(refine st_len (d := some 59) (E := strE) (l := ids) rfl ou11.sl ?_)|(refine c_loopV (fun (p : Nat × List Nat) w' => Chg M w11 w' ∧ p.1 ≤ ids.length ∧ GrU w' B g p.2 U (dropAll l (ids.take p.1)) ∧ (∀ b ∈ p.2, b ∈ M ∨ w11.heap.size ≤ b)) (fun p => [(0, .pointer (some ⟨g, 0, none⟩)), (4, .pointer (some ⟨bt, 0, none⟩)), (8, .int .i64 fee), (13, u), (58, u), (59, .int .i64 (ids.length : Nat)), (60, .int .i64 (p.1 : Nat))]) (fun p => ids.length - p.1) (0, M) ⟨rfl, rfl, rfl, rfl, rfl, rfl, rfl, trivial⟩ ⟨Chg.refl _ _, by simp, by rw [d0]; exact G11, fun b hb => .inl hb⟩ ?_; rintro ⟨i, Mi⟩ ρ w12 ⟨c12, hil, g12, m12⟩; simp only at hil g12 m12; dsimp only)|(first|refine go1 ?_|refine zg (fun _ _=>?_)|refine zi (fun _ _=>?_)))
    have hlen : (dropAll l (ids.take i)).length ≤ 1000 := Nat.le_trans (dropAll_len _ l) hl
    have s12 := c12.size
    refine zL (p := ((i : Nat) : Int) < ((ids.length : Nat) : Int)) rfl (fun h => ?_) (fun h => ?_)
    · have hii : i < ids.length := by omega
      have su12 := SlE.chg c12 ou11.sl huM
      repeat' (first|(refine st_elemE (d := some 62) (E := strE) rfl rfl (n := i) (l := ids) su12 rfl hii (fun ad r5 => ?_); have r5 : Row w12 ad [Value.string ids[i]] := r5)|(refine zC (d := some 66) rfl (gdrop_gu (l := dropAll l (ids.take i)) ids[i] _ g12 (fun b hb => by have := hU b hb; have := (x011 ()).size; omega) hlen) ?_; rintro _ w13 ⟨M4, rfl, g13, c13, m13⟩)|(first|refine go1 ?_|refine zg (fun _ _=>?_)|refine zi (fun _ _=>?_)))
      refine ⟨(i + 1, M4), ⟨rfl, rfl, rfl, rfl, rfl, rfl, rfl, trivial⟩, ⟨(c12.trans c13).mono (fun b hb => ?_), hii, by show GrU w13 B g M4 U (dropAll l (ids.take (i + 1))); rw [dropAll_succ hii]; exact g13, fun b hb => ?_⟩, by show ids.length - (i + 1) < ids.length - i; omega⟩
      · rcases List.mem_append.1 hb with h5 | h5
        · exact .inl h5
        · exact m12 b h5
      · rcases m13 b hb with h5 | h5
        · exact m12 b h5
        · exact .inr (Nat.le_trans s12 h5)
    · have hei : ids.take i = ids := List.take_of_length_le (by omega)
      rw [hei] at g12 hlen
      have rt12 : Row w12 ⟨bt, 0, none⟩ (txCs t iv ov) := rt11.chg c12 (fun hb => by have : bt < w.heap.size := hM bt hb; omega)
      have t12 : txR.rel (N ++ Mi) w12 (txCs t iv ov) t := R.step txR t11 c12 (fun b hb => .inl (hMN b hb)) (fun b hb => by
        rcases List.mem_append.1 hb with h5 | h5
        · exact .inl h5
        · exact (m12 b h5).imp (hMN b) id)
      have hN12 : ∀ b ∈ N ++ Mi, b < w12.heap.size := fun b hb => by
        rcases List.mem_append.1 hb with h5 | h5
        · have := hN b h5; omega
        · exact Gr.lt g12.gr b h5
      repeat' (first|(refine zC (d := some 71) rfl (gadd_gu (N := N ++ Mi) (cs := txCs t iv ov) fee _ g12 (fun b hb => List.mem_append_left _ (hUN b hb)) t12 hs (by unfold is64; omega) hN12 (fun b hb => List.mem_append_right _ hb) hlen) ?_; rintro _ w14 ⟨M7, rfl, g14, c14, m14⟩)|(first|refine go1 ?_|refine zg (fun _ _=>?_)|refine zi (fun _ _=>?_)))
      have hdis : ∀ b ∈ blkOf u, b ∉ Mi := fun b hb hm => by
        rcases m12 b hm with h5 | h5
        · have := hM b h5; have := hbu b hb; omega
        · have := hbl b hb; omega
      have hdis0 : ∀ b ∈ blkOf u, b ∉ M := fun b hb hm => by have := hM b hm; have := hbu b hb; omega
      refine x_ret rfl ⟨u, .nilIface, M7, rfl, ?_, by rw [e1]; exact ErrR.none_ _ _, by rw [e3]; exact g14, ?_, fun b hb => ?_, fun b hb hm => ?_⟩
      · rw [e2]
        exact ((ou11.chg c12 hdis0).chg c14 hdis).lower (by omega)
      · refine (Ext.chg (x011 ()) (c12.trans c14)).mono (fun b hb => ?_)
        rcases List.mem_append.1 hb with h5 | h5
        · exact .inl h5
        · rcases m12 b h5 with h6 | h6
          · exact .inl h6
          · exact .inr (by omega)
      · rcases m14 b hb with h5 | h5
        · rcases m12 b h5 with h6 | h6
          · exact .inl h6
          · exact .inr (by omega)
        · exact .inr (by omega)
      · rcases m14 b hm with h5 | h5
        · exact hdis b hb h5
        · have := hbl b hb; omega
  · obtain ⟨e1, e2, e3⟩ := acc_plain (rate := rate) h0
    refine s_pool_Accept rfl ?_
    unfold k_pool_Accept
    refine oy ?_
    repeat (first|(refine zD (d := some 4) rfl rfl (fun bt wt xt bt' (rt : Row wt ⟨bt, 0, none⟩ (txCs t iv ov)) hbt0=>?_))|(refine zD (d := some 5) (cs := [.iface vt vu, .int .i64 h, .int .i64 rate]) rfl rfl (fun bs ws xs bs' (rs : Row ws ⟨bs, 0, none⟩ [.iface vt vu, .int .i64 h, .int .i64 rate]) hbs0=>?_))|(refine zC (d := some 21) rfl (plain_spec (M := M) (N := N) (l := l) (f := f) (cs := txCs t iv ov) (t := t) h rate _ (hG.r.ext (by exact fx)) (fun b hb => Nat.lt_of_lt_of_le (hM b hb) (Ext.size (by exact fx))) (hV.ext (by exact fx)) (R.ext ht0 (by exact fx)) hs) ?_; rintro _ w3 ⟨e, rfl, he, x3⟩; obtain ⟨hn1, hn2⟩ := he.nil_iff)|(first|refine go1 ?_|refine zg (fun _ _=>?_)|refine zi (fun _ _=>?_)))
    obtain ⟨et, eu, rfl⟩ := hn2 h0
    repeat (first|refine go1 ?_|refine zg (fun _ _=>?_)|refine zi (fun _ _=>?_))
    exact x_ret rfl (fail (by exact fx) e1 e2 e3 (he.ext (by exact fx)))
end Go.Proofs.YtilhlcnekkkajaaGreat
end
section
namespace Go.Proofs.YtilhlcnekkkajaaGreat
open Go Go.K
attribute [local irreducible] regK codeK retK KOp.wp K.Spec u32 leS vnS str zero32 sha2 encT idT sizeT checkT grantB idN stepR workL reachE findI dropG addG aboveL belowL idsOf feeD sizeD cntS metL confL evL inS inB needI needL feeOf needN needE mayE freshP rulesL fitsL feeP dustI numAt byteAt plainP dropAll accE accIds accL askedF makeP coinsP coinsW aloneP
theorem fault_spec (i : Int) {e : Value} {d : Nat} {c a : Int} (w : World) (he : ErrR w d e c a) (hc : c ≠ 0) (hi : 0 ≤ i) : K.Spec Tryz.prog F.pack_fault [.int .i64 i, e] w fun r w' => ErrR w' (d + 1) r c i ∧ Ext w w' := by
  obtain ⟨t, u, rfl⟩ := he.nil_iff.2 hc
  refine s_pack_fault rfl ?_
  unfold k_pack_fault
  refine oy ?_
  repeat' (first|(refine st_build (d := some 7) (cs := [.int .i64 i, .iface t u]) rfl ?_)|(refine zD (d := some 8) (cs := [.int .i64 i, .iface t u]) rfl rfl (fun b8 w8 x8 a8 r8 hb8=>?_))|(first|refine go1 ?_|refine zg (fun _ _=>?_)|refine zi (fun _ _=>?_)))
  exact x_ret rfl ⟨.inr ⟨hc, hi, b8, _, a, rfl, a8, he.ext x8⟩, x8⟩
theorem pformed_spec {g : Nat} {M N : List Nat} {l : List Ent} {cs : List Value} {t : Tx} (s : ByteArray) (w : World) (hG : GrR w g M l) (hM : ∀ b ∈ M, b < w.heap.size) (ht : txR.rel N w cs t) (hs : t.ins.length ≤ 1000) (hn : l.length ≤ 1000) :
    K.Spec Tryz.prog F.pack_formed [.pointer (some ⟨g, 0, none⟩), .agg cs.toArray, .string s] w fun r w' => r = .bool (decide (idsOf l (aboveL l t) = [s])) ∧ Ext w w' := by
  have ht0 := ht
  obtain ⟨iv, ov, rfl, hi, ho, hv⟩ := ht
  have hl := idsOf_length l (aboveL l t)
  refine s_pack_formed rfl ?_
  unfold k_pack_formed
  refine oy ?_
  repeat' (first|(refine zD (d := some 4) rfl rfl (fun bt wt xt bt' (rt : Row wt ⟨bt, 0, none⟩ (txCs t iv ov)) hbt0=>?_))|(refine zC (d := some 9) rfl (pabove_spec (M := M) (N := N) (l := l) (cs := txCs t iv ov) (t := t) _ (hG.ext (by exact fx)) (fun b hb => Nat.lt_of_lt_of_le (hM b hb) (Ext.size (by exact fx))) (R.ext ht0 (by exact fx)) hs hn) ?_; rintro u3 w3 ⟨o3, x3⟩)|(refine zI (d := some 11) (cs := [.string s]) rfl (fun b4 w4 x4 a4 hb4 => ?_))|(refine zC (d := some 12) rfl (equal_spec _ (SlE.ext (w := w3) (by exact fx) o3.sl) (SlE.new (E := strE) (l := [s]) a4 rfl (Nat.le_refl _)) (by omega)) ?_; rintro _ w5 ⟨rfl, x5⟩)|(first|refine go1 ?_|refine zg (fun _ _=>?_)|refine zi (fun _ _=>?_)))
  exact x_ret rfl ⟨rfl, by exact fx⟩
theorem enough_spec {M N : List Nat} {cs ds : List Value} {t u : Tx} (fee rate : Int) (w : World) (ht : txR.rel M w cs t) (hu : txR.rel N w ds u) (hs1 : t.Sm) (hs2 : u.Sm) (hc1 : checkT t = 0) (hc2 : checkT u = 0) (hz : sizeT t + sizeT u ≤ 1000000) :
    K.Spec Tryz.prog F.pack_enough [.int .i64 fee, .agg cs.toArray, .agg ds.toArray, .int .i64 rate] w fun r w' => r = .bool (decide (fee ≥ askedF rate (sizeT t + sizeT u))) ∧ Ext w w' := by
  obtain ⟨q, hR⟩ : ∃ q : Nat, min (max rate 1000) 100000000 = (q : Int) := ⟨(min (max rate 1000) 100000000).toNat, by omega⟩
  have hR2 : q ≤ 100000000 := by omega
  have e : askedF rate (sizeT t + sizeT u) = (((q * (sizeT t + sizeT u) + 999) / 1000 : Nat) : Int) := by unfold askedF; rw [hR]; rfl
  rw [e]
  have e1 : sizeV t = .tuple #[.int .i64 (sizeT t : Nat), .int .i64 0] := by rw [sizeV, if_pos hc1]
  have e2 : sizeV u = .tuple #[.int .i64 (sizeT u : Nat), .int .i64 0] := by rw [sizeV, if_pos hc2]
  have ht0 := ht
  have hu0 := hu
  obtain ⟨iv, ov, rfl, hi, ho, hv⟩ := ht
  obtain ⟨iv2, ov2, rfl, hi2, ho2, hv2⟩ := hu
  refine s_pack_enough rfl ?_
  unfold k_pack_enough
  refine oy ?_
  repeat' (first|(refine zD (d := some 5) rfl rfl (fun bt wt xt bt' (rt : Row wt ⟨bt, 0, none⟩ (txCs t iv ov)) hbt0=>?_))|(refine zD (d := some 6) rfl rfl (fun bu wu xu bu' (ru : Row wu ⟨bu, 0, none⟩ (txCs u iv2 ov2)) hbu0=>?_))|(refine zC (d := some 17) rfl (size_spec (M := M) (cs := txCs t iv ov) (t := t) _ (R.ext ht0 (by exact fx)) hs1) ?_; rintro _ w4 ⟨rfl, x4⟩; rw [e1])|(refine zC (d := some 22) rfl (size_spec (M := N) (cs := txCs u iv2 ov2) (t := u) _ (R.ext hu0 (by exact fx)) hs2) ?_; rintro _ w5 ⟨rfl, x5⟩; rw [e2])|(refine st_max (d := some 27) (a := rate) (b := 1000) rfl rfl ?_)|(refine st_min (d := some 28) (a := max rate 1000) (b := 100000000) rfl rfl ?_; rw [hR])|(refine st_fixV (d := some 31) (.int .i64 ((sizeT t + sizeT u : Nat) : Int)) rfl (congrArg (fun n => some (Value.int .i64 n)) (IntWalk.i64_in _ (by omega))) ?_)|(refine zC (d := some 32) rfl (afee_spec q (sizeT t + sizeT u) hR2 hz _) ?_; rintro _ w6 ⟨rfl, x6⟩)|(first|refine go1 ?_|refine zg (fun _ _=>?_)|refine zi (fun _ _=>?_)))
  exact x_ret rfl ⟨rfl, by exact fx⟩
theorem alone_spec {g : Nat} {M N : List Nat} {l : List Ent} {cs : List Value} {t : Tx} {v : Value} {f : Pt → Option Cn} (h rate : Int) (w : World) (hG : GrR w g M l) (hM : ∀ b ∈ M, b < w.heap.size) (hV : ViewR w v f) (ht : txR.rel N w cs t) (hs : t.Sm) (hl : l.length ≤ 1000) :
    K.Spec Tryz.prog F.pack_alone [.pointer (some ⟨g, 0, none⟩), .agg cs.toArray, termV v h rate] w fun r w' => ∃ e, r = .tuple #[.int .i64 (aloneP f l t h).1, e] ∧ ErrR w' 1 e (aloneP f l t h).2.1 (aloneP f l t h).2.2 ∧ Ext w w' := by
  have ht0 := ht
  have hins := hs.ins
  obtain ⟨iv, ov, rfl, hi, ho, hv⟩ := ht
  obtain ⟨vt, vu, rfl⟩ : ∃ vt vu, v = .iface vt vu := by obtain ⟨⟨a, b, e, _⟩, _⟩ := hV; exact ⟨a, b, e⟩
  refine s_pack_alone rfl ?_
  unfold k_pack_alone
  refine oy ?_
  repeat (first|(refine zD (d := some 4) rfl rfl (fun bt wt xt bt' (rt : Row wt ⟨bt, 0, none⟩ (txCs t iv ov)) hbt0=>?_))|(refine zD (d := some 5) (cs := [.iface vt vu, .int .i64 h, .int .i64 rate]) rfl rfl (fun bs ws xs bs' (rs : Row ws ⟨bs, 0, none⟩ [.iface vt vu, .int .i64 h, .int .i64 rate]) hbs0=>?_))|(refine zC (d := some 15) rfl (plain_spec (M := M) (N := N) (l := l) (f := f) (cs := txCs t iv ov) (t := t) h rate _ (hG.ext (by exact fx)) (fun b hb => Nat.lt_of_lt_of_le (hM b hb) (Ext.size (by exact fx))) (hV.ext (by exact fx)) (R.ext ht0 (by exact fx)) hs) ?_; rintro _ w3 ⟨e, rfl, he, x3⟩; obtain ⟨hn1, hn2⟩ := he.nil_iff)|(first|refine go1 ?_|refine zg (fun _ _=>?_)|refine zi (fun _ _=>?_)))
  by_cases h0 : (plainP f l t h).2.1 = 0
  · obtain ⟨rfl, -⟩ := hn1 h0
    repeat' (first|(refine zC (d := some 23) rfl (conflicts_spec (M := M) (N := N) (l := l) (cs := txCs t iv ov) (t := t) _ (hG.ext (by exact fx)) (fun b hb => Nat.lt_of_lt_of_le (hM b hb) (Ext.size (by exact fx))) (R.ext ht0 (by exact fx)) hins hl) ?_; rintro u4 w4 ⟨o4, x4⟩)|(refine st_len (d := some 24) (E := strE) (l := idsOf l (confL l t)) rfl o4.sl ?_)|(first|refine go1 ?_|refine zg (fun _ _=>?_)|refine zi (fun _ _=>?_)))
    refine zL (x := .tmp 25) (p := ((idsOf l (confL l t)).length : Int) > 0) rfl (fun h1 => ?_) (fun h1 => ?_)
    · repeat (first|refine go1 ?_|refine zg (fun _ _=>?_)|refine zi (fun _ _=>?_))
      have e := aloneP_conf h0 (by omega)
      exact x_ret rfl ⟨_, by rw [e]; rfl, by rw [e]; exact ErrR.num _ _ (by decide), by exact fx⟩
    · repeat' (first|(refine zC (d := some 29) rfl (fits_spec (M := M) (N := N) (l := l) (cs := txCs t iv ov) (t := t) _ (hG.ext (by exact fx)) (fun b hb => Nat.lt_of_lt_of_le (hM b hb) (Ext.size (by exact fx))) (R.ext ht0 (by exact fx)) hs hl) ?_; rintro _ w5 ⟨rfl, x5⟩)|(first|refine go1 ?_|refine zg (fun _ _=>?_)|refine zi (fun _ _=>?_)))
      refine zN (p := fitsL l t = 0) rfl (fun h2 => ?_) (fun h2 => ?_)
      · repeat (first|refine go1 ?_|refine zg (fun _ _=>?_)|refine zi (fun _ _=>?_))
        have e := aloneP_fits h0 (by omega) h2
        exact x_ret rfl ⟨_, by rw [e]; rfl, by rw [e]; exact ErrR.num _ _ h2, by exact fx⟩
      · repeat (first|refine go1 ?_|refine zg (fun _ _=>?_)|refine zi (fun _ _=>?_))
        have e := aloneP_ok h0 (by omega) h2
        exact x_ret rfl ⟨_, by rw [e]; rfl, by rw [e]; exact ErrR.none_ _ _, by exact fx⟩
  · obtain ⟨et, eu, rfl⟩ := hn2 h0
    repeat (first|refine go1 ?_|refine zg (fun _ _=>?_)|refine zi (fun _ _=>?_))
    have e := aloneP_plain h0
    exact x_ret rfl ⟨_, by rw [e]; rfl, by rw [e]; exact he.ext (by exact fx), by exact fx⟩
end Go.Proofs.YtilhlcnekkkajaaGreat
end
