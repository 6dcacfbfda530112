/- The walk of PoolKeeps, of any number of two bytes. Contracts: whether a graph has just some entries. Contracts: adding to a graph, beside blocks that are turned alone. -/
import Derived.Test.YtcnhbkaclgdehaaGreatP41
set_option linter.unusedVariables false
set_option linter.unusedSimpArgs false
section
namespace Go.Proofs.YtcnhbkaclgdehaaGreat
open Go Go.K
theorem keeps_law2 {v u : Value} {vals : List Int} {sc : List PSm} {n m : Int} (w : World) (hvals : SlR u16R [] w v vals) (hr : ∀ a ∈ vals, 0 ≤ a ∧ a ≤ 65535) (hsc : SlR psmR [] w u sc) (he : [Value.int .u16 n] = [Value.int .u16 m]) (hm : 0 ≤ m ∧ m ≤ 65535) :
    K.Spec Tryz.prog F.kedgelaw17_PoolKeeps [v, u, .int .u16 n] w fun r w' => r = .bool true ∧ Ext w w' := by
  simp only [List.cons.injEq, Value.int.injEq, and_true, true_and] at he
  subst he
  obtain ⟨k, rfl⟩ := Int.eq_ofNat_of_zero_le hm.1
  exact keeps_law w hvals hr hsc (by omega)
end Go.Proofs.YtcnhbkaclgdehaaGreat
end
section
namespace Go.Proofs.YtcnhbkaclgdehaaGreat
open Go Go.K
attribute [local irreducible] regK codeK retK KOp.wp K.Spec u32 leS vnS str zero32 sha2 encT idT sizeT checkT grantB idN stepR workL reachE findI dropG addG aboveL belowL idsOf
set_option maxHeartbeats 4000000 in
theorem same17_spec {g : Nat} {M N : List Nat} {l : List Ent} {v : Value} (w : World) (hG : GrR w g M l) (hM : ∀ b ∈ M, b < w.heap.size) (hv : SlR entR N w v l) (hl : l.length ≤ 1000) : K.Spec Tryz.prog F.kedgelaw17_same [.pointer (some ⟨g, 0, none⟩), v] w fun r w' => r = .bool true ∧ Ext w w' := by
  have hE := hG.ok
  refine s_kedgelaw17_same rfl ?_
  unfold k_kedgelaw17_same
  refine oy ?_
  repeat' (first|(refine zC (d := some 9) rfl (all_spec (M := M) (l := l) _ (hG.ext (by exact fx)) (fun b hb => Nat.lt_of_lt_of_le (hM b hb) (Ext.size (by exact fx))) (by omega)) ?_; rintro u1 w1 ⟨o1, x1⟩; have o1 := (o1.sub (M' := []) (by simp)).sl (by simp))|(refine zG (d := some 11) (E := entR) (M := []) (l := l) rfl (o1.ext (by exact fx)) ?_)|(refine zG (d := some 13) (E := entR) (M := N) (l := l) rfl (hv.ext (by exact fx)) ?_)|(refine zG (d := some 16) (E := entR) (M := []) (l := l) rfl (o1.ext (by exact fx)) ?_)|(refine st_fixV (d := some 14) (.bool false) rfl (congrArg (fun b => some (Value.bool (!b))) (decide_eq_true rfl)) ?_)|(refine c_loopV (a := .seq _ (.seq (.cond _ _ _) (.seq (.block 1 _) _))) (fun (i : Nat) w' => Ext w1 w' ∧ i ≤ l.length) (fun i => [(1, v), (15, u1), (16, .int .i64 (l.length : Nat)), (17, .int .i64 i)]) (fun i => l.length - i) 0 ⟨rfl, rfl, rfl, rfl, trivial⟩ ⟨Ext.refl _, by simp⟩ ?_; rintro i ρ w2 ⟨x2, hi⟩)|(refine zL (x := .tmp 18) (p := ((i : Nat) : Int) < ((l.length : Nat) : Int)) rfl (fun h6 => ?_) (fun h6 => ?_))|(first|refine go1 ?_|refine zg (fun _ _=>?_)|refine zi (fun _ _=>?_)))
  · have hil : i < l.length := by omega
    have hsm := chk_sm (hE _ (List.getElem_mem hil)).check
    have o2 := o1.ext x2
    have v2 := hv.ext (x1.trans x2)
    clear o1
    repeat' (first|(refine st_elemR (d := some 20) (E := entR) (M := []) rfl rfl (n := i) (l := l) o2 rfl hil (fun ad cs r3 he => ?_); obtain ⟨iv, ov, rfl, h1, h2, h3⟩ := he; have e1 : iv.oneCell' = true := (by obtain ⟨_, _, rfl⟩ := h1.form; rfl); have e2 : ov.oneCell' = true := (by obtain ⟨_, _, rfl⟩ := h2.form; rfl))|(refine zH (d := some 7) (fun b7 w7 x7 a7 hb7 => ?_))|(refine st_setN (w0 := w2) (n := 7) (vs := entCs l[i] iv ov) x7 hb7 a7 rfl rfl rfl rfl (by show List.all (entCs _ _ _) _ = true; simp [entCs, e1, e2]; exact ⟨rfl, rfl, rfl, rfl, rfl⟩) (fun w8 x8 c8 a8 r8 => ?_); clear x7 c8)|(refine st_elemR (d := some 26) (E := entR) (M := N) rfl rfl (n := i) (l := l) (SlR.ext v2 (by exact fx)) rfl hil (fun ad4 cs4 r4 he => ?_); obtain ⟨iv4, ov4, rfl, h14, h24, h34⟩ := he)|(refine st_fixV (d := some 29) (.bool false) rfl (congrArg (fun b => some (Value.bool (!b))) (decide_eq_true rfl)) ?_)|(refine st_elemR (d := some 35) (E := entR) (M := N) rfl rfl (n := i) (l := l) (SlR.ext v2 (by exact fx)) rfl hil (fun ad5 cs5 r5 he => ?_); obtain ⟨iv5, ov5, rfl, h15, h25, h35⟩ := he)|(refine st_fixV (d := some 38) (.bool false) rfl (congrArg (fun b => some (Value.bool (!b))) (decide_eq_true rfl)) ?_)|(refine st_elemR (d := some 45) (E := entR) (M := N) rfl rfl (n := i) (l := l) (SlR.ext v2 (by exact fx)) rfl hil (fun ad6 cs6 r6 he => ?_); obtain ⟨iv6, ov6, rfl, h16, h26, h36⟩ := he)|(refine st_fixV (d := some 48) (.bool false) rfl (congrArg (fun b => some (Value.bool (!b))) (decide_eq_true rfl)) ?_)|(refine st_elemR (d := some 55) (E := entR) (M := N) rfl rfl (n := i) (l := l) (SlR.ext v2 (by exact fx)) rfl hil (fun ad8 cs8 r8 he => ?_); obtain ⟨iv8, ov8, rfl, h18, h28, h38⟩ := he)|(refine zC (d := some 58) rfl (same_spec (M := []) (N := N) (cs := txCs l[i].tx iv ov) (ds := txCs l[i].tx iv8 ov8) (t := l[i].tx) _ ⟨iv, ov, rfl, h1.ext (by exact fx), h2.ext (by exact fx), h3.1, h3.2.1⟩ ⟨iv8, ov8, rfl, h18.ext (by exact fx), h28.ext (by exact fx), h38.1, h38.2.1⟩ hsm) ?_; rintro _ w9 ⟨rfl, x9⟩)|(first|refine go1 ?_|refine zg (fun _ _=>?_)|refine zi (fun _ _=>?_)))
    exact ⟨i + 1, ⟨rfl, rfl, rfl, rfl, trivial⟩, ⟨by exact fx, by omega⟩, by omega⟩
  · repeat (first|refine go1 ?_|refine zg (fun _ _=>?_)|refine zi (fun _ _=>?_))
    exact x_ret rfl ⟨rfl, x1.trans x2⟩
end Go.Proofs.YtcnhbkaclgdehaaGreat
end
section
namespace Go.Proofs.YtcnhbkaclgdehaaGreat
open Go Go.K
attribute [local irreducible] regK codeK retK KOp.wp K.Spec u32 leS vnS str zero32 sha2 encT idT sizeT checkT grantB idN stepR workL reachE findI addG
set_option maxHeartbeats 2000000 in
theorem gadd_u {B g : Nat} {M N U : List Nat} {l : List Ent} {cs : List Value} {t : Tx} (fee : Int) (w : World) (hG : Gr w B g M l) (hU : GrR w g (U ++ M) l) (hUN : ∀ b ∈ U, b ∈ N) (ht : txR.rel N w cs t) (hs : t.Sm) (hf : is64 fee) (hN : ∀ b ∈ N, b < w.heap.size) (hMN : ∀ b ∈ M, b ∈ N) (hn : l.length ≤ 1000) : K.Spec Tryz.prog F.graph_Graph_Add [.pointer (some ⟨g, 0, none⟩), .agg cs.toArray, .int .i64 fee] w fun r w' =>
    ∃ M', r = .int .i64 (addG l t fee).2 ∧ Gr w' B g M' (addG l t fee).1 ∧ Chg M w w' ∧ (∀ b ∈ M', b ∈ M ∨ w.heap.size ≤ b) ∧ GrR w' g (U ++ M') (addG l t fee).1 := by
  have hG0 := hG
  obtain ⟨b1, vo, b2, m, sp, hP, rfl, hu1⟩ := Gr.both hG hU
  have rg : Row w ⟨g, 0, none⟩ [.map (some b1), vo, .map (some b2)] := Row.of_at hP.at_
  have hq1 := hP.ents
  have hq2 := hP.pts
  have ht0 := ht
  obtain ⟨iv, ov, rfl, h1, h2, h3⟩ := ht
  by_cases he0 : entErr t fee = 0
  · refine s_graph_Graph_Add rfl ?_
    unfold k_graph_Graph_Add
    refine oy ?_
    repeat' (first|(first|refine go1 ?_|refine zg (fun _ _=>?_)|refine zi (fun _ _=>?_))|(refine zL rfl (fun h => absurd h (by decide)) (fun h => ?_))|(refine zD rfl rfl (fun bp wp xp ap (rp : Row wp ⟨bp, 0, none⟩ (txCs t iv ov)) hp0=>?_))|(refine zC rfl (entry_spec (M := N) (cs := txCs t iv ov) (t := t) fee _ (by exact fx) hs hf (fun b hb => Nat.lt_of_lt_of_le (hN b hb) (Ext.size (by exact fx)))) ?_; rintro _ w5 ⟨ds, rfl, d1, d2, d3, x5⟩; obtain ⟨hok, he5⟩ := d3 he0; rw [he0]; clear d3; generalize hxe : (⟨t, idT t, fee, (sizeT t : Nat)⟩ : Ent) = x at hok he5 d1 d2 ⊢; have htx : x.tx = t := (by rw [← hxe]); have hid : x.id = idT t := (by rw [← hxe]); have he5' := he5; obtain ⟨iv5, ov5, rfl, o1, o2, o3⟩ := he5)|(refine zE (d' := 7) (fun _=>rfl) rfl rfl d2 (fun b7 w7 x7 a7 (r7 : Row w7 ⟨b7, 0, none⟩ (entCs x iv5 ov5)) hb7=>?_))|(refine st_lookupR (d := some 35) (KE := sK) (F := entR) (M := mutG g b1 b2 vo) (k := x.id) rfl rfl (by exact fx) rfl rfl (fun y cs hy hr => ?_) (fun hno => ?_))|(refine zH (d := some 9) (fun b9 w9 x9 a9 hb9 => ?_); have s9 : w.heap.size ≤ b9 := Nat.le_trans (Ext.size (w := w) (by exact fx)) hb9; have s79 : w7.heap.size ≤ b9 := Nat.le_trans (Ext.size (w := w7) (by exact fx)) hb9)|(obtain ⟨iv9, ov9, rfl, q1, q2, q3⟩ := hr; have i1 := q1.one; have i2 := q2.one; refine st_setN (w0 := w) (vs := entCs y iv9 ov9) (by exact fx) s9 (by focus (repeat (first | assumption | (apply At.ext; assumption)))) rfl rfl rfl rfl (by simp [entCs, i1, i2]; exact ⟨rfl, rfl, rfl, rfl, rfl⟩) (fun w10 x10 c10 a10 r10 => ?_); clear q1 q2)|(refine st_setN (w0 := w) (vs := zEnt) (by exact fx) s9 (by focus (repeat (first | assumption | (apply At.ext; assumption)))) rfl rfl rfl rfl rfl (fun w10 x10 c10 a10 r10 => ?_))|(refine zG (E := inR) (M := N) (l := t.ins) rfl (SlR.ext h1 (by exact fx)) ?_))
    · rw [hP.inv.ent] at hy
      have hany : l.any (fun x => decide (x.id = idT t)) = true := by
        rw [List.any_eq_true]
        exact ⟨y, List.mem_of_find?_eq_some hy, by have := List.find?_some hy; rw [← hid]; exact this⟩
      rw [addG_ok he0 (fun _ _ _ => trivial), if_pos hany]
      exact x_ret rfl ⟨_, rfl, hG0.ext x10, x10.mono (by simp), fun b hb => .inl hb, hU.ext x10⟩
    · have l7 := a7.lt
      have lp := ap.lt
      have s5 := x5.size
      have s7 := x7.size
      have sp := xp.size
      have ap0 := At.chg c10 (At.ext (show Ext wp w9 by exact fx) ap) (by simp; omega)
      have a70 := At.chg c10 (At.ext (show Ext w7 w9 by exact fx) a7) (by simp; omega)
      have x59 : Ext w5 w9 := by exact fx
      have k1 := o1.lt
      have k2 := o2.lt
      have e10 : entR.rel N w10 (entCs x iv5 ov5) x := by
        have n1 : b9 ∉ blkOf iv5 := fun h => by have := k1 _ h; omega
        have n2 : b9 ∉ blkOf ov5 := fun h => by have := k2 _ h; omega
        have p1 := (o1.step (M' := b9 :: N) x59 (by simp) (fun b hb => by rcases List.mem_cons.1 hb with h | h; (right; omega); exact .inl h)).step (M' := N) c10 (by intro y hy; simp at hy; subst hy; exact ⟨n1, .inl (by simp)⟩) (fun _ h => .inl (by simp [h]))
        have p2 := (o2.step (M' := b9 :: N) x59 (by simp) (fun b hb => by rcases List.mem_cons.1 hb with h | h; (right; omega); exact .inl h)).step (M' := N) c10 (by intro y hy; simp at hy; subst hy; exact ⟨n2, .inl (by simp)⟩) (fun _ h => .inl (by simp [h]))
        exact entO.rel (B := w.heap.size) ⟨iv5, ov5, rfl, p1.lower sp, p2.lower sp, o3⟩ hN
      have rp0 : Row w10 ⟨bp, 0, none⟩ (txCs t iv ov) := Row.of_at ap0
      have r70 : Row w10 ⟨b7, 0, none⟩ (entCs x iv5 ov5) := Row.of_at a70
      have hb7 : w.heap.size ≤ b7 := by omega
      have hbp := hp0
      have hl1 := Gr.lt hG0
      have hins := hs.ins
      clear ‹Ext w7 _›
      clear x59 k1 k2 o1 o2 he5' c10 a10 r10 x9 a9 hb9 s9 s79 x7 a7 r7 x5 xp ap rp l7 lp s5 s7 sp hp0
      repeat' (first|(first|refine go1 ?_|refine zg (fun _ _=>?_)|refine zi (fun _ _=>?_))|(refine zL rfl (fun h => ?_) (fun h => ?_))|(refine zG (E := inR) (M := N) (l := t.ins) rfl (SlR.ext h1 (by exact fx)) ?_)|(refine c_loopV (fun (i : Nat) w' => Ext w10 w' ∧ i ≤ t.ins.length ∧ ∀ j (hj : j < t.ins.length), j < i → aget sp t.ins[j].p = none) (fun i => [(0, .pointer (some ⟨g, 0, none⟩)), (4, .pointer (some ⟨bp, 0, none⟩)), (7, .pointer (some ⟨b7, 0, none⟩)), (40, iv), (41, .int .i64 (t.ins.length : Nat)), (42, .int .i64 i)]) (fun i => t.ins.length - i) 0 ⟨rfl, rfl, rfl, rfl, rfl, rfl, trivial⟩ ⟨by exact fx, by simp, fun j hj h => by omega⟩ ?_; rintro i ρ w3 ⟨x3, hi, hfr⟩)|(refine st_elemR (d := some 44) (E := inR) (M := N) rfl rfl (n := i) (l := t.ins) (SlR.ext h1 (x10.trans x3)) rfl (by omega) (fun ad cs r4 he => ?_); obtain ⟨wv, rfl, hw, hp5, hp6⟩ := he; obtain ⟨bs1, cp1, rfl⟩ := hw.form; have hil : i < t.ins.length := (by omega))|(refine zE (d' := 12) (fun _=>rfl) rfl rfl rfl (fun b8 w8 x8 a8 (r8 : Row w8 ⟨b8, 0, none⟩ (inCs t.ins[i] (.slice bs1 t.ins[i].wit.length cp1))) hb8=>?_))|(refine st_lookupOk (d := some 53) (E := ptK) (fv := Value.string) (k := t.ins[i].p) rfl rfl (MapE.ext (w := w) (by exact fx) hq2) rfl rfl (fun y hy => ?_) (fun hn2 => ?_)))
      · rw [hP.inv.spt, Option.map_eq_some_iff] at hy
        obtain ⟨z, hz, -⟩ := hy
        have hany : ¬ l.any (fun x => decide (x.id = idT t)) = true := by
          rw [hP.inv.ent] at hno
          rw [List.any_eq_true]
          rintro ⟨y, h1, h2⟩
          exact (List.find?_eq_none.1 hno y h1) (by rw [hid]; exact h2)
        have hany2 : t.ins.any (fun i => l.any fun x => spends x i.p) = true := List.any_eq_true.2 ⟨_, List.getElem_mem hil, List.any_eq_true.2 ⟨z, List.mem_of_find?_eq_some hz, (by have := List.find?_some hz; exact this)⟩⟩
        rw [addG_ok he0 (fun _ _ _ => trivial), if_neg hany, if_pos hany2]
        have xx : Ext w _ := Ext.trans (x10.trans (x3.trans x8)) (by assumption)
        exact x_ret rfl ⟨_, rfl, hG0.ext xx, xx.mono (by simp), fun b hb => .inl hb, hU.ext xx⟩
      · exact ⟨i + 1, ⟨rfl, rfl, rfl, rfl, rfl, rfl, trivial⟩, ⟨by exact fx, by omega, fun j hj h => by
          rcases Nat.lt_succ_iff_lt_or_eq.1 h with h5 | rfl
          · exact hfr j hj h5
          · exact hn2⟩, by omega⟩
      · rename_i wB xB
        have hfree : ∀ j (hj : j < t.ins.length), aget sp t.ins[j].p = none := fun j hj => hfr j hj (by omega)
        have x0B := x3.trans xB
        have xwB : Ext w wB := x10.trans x0B
        have eB : entR.rel (U ++ mutG g b1 b2 vo) wB (entCs x iv5 ov5) x := entR.step e10 x0B (by simp) (fun b hb => .inl ((List.mem_append.1 hb).elim (hUN b) (hMN b)))
        have apB := ap0.ext x0B
        have a7B := a70.ext x0B
        have agB := hP.at_.ext xwB
        have mB := hu1.ext xwB
        have pB := hq2.ext xwB
        have oB := hP.ord.ext xwB
        have sB := xwB.size
        have nd := hP.nd
        simp only [List.nodup_cons, List.mem_cons, not_or] at nd
        obtain ⟨⟨n1, n2, n3⟩, ⟨n4, n5⟩, n6, n7⟩ := nd
        have l1 : b1 < w.heap.size := hl1 _ (by simp)
        have l2 : b2 < w.heap.size := hl1 _ (by simp)
        have lg : g < w.heap.size := hl1 _ (by simp)
        have lo : ∀ b ∈ blkOf vo, b < w.heap.size := fun b hb => hl1 b (by simp [hb])
        clear x3 xB x0B hi x10 ap0 a70 rp0 r70 e10 rg hfr h
        refine st_mapUpdateR (KE := sK) (F := entR) (M := U ++ mutG g b1 b2 vo) (k := x.id) (v := x) (cs := entCs x iv5 ov5) rfl rfl rfl mB eB (by simp) rfl rfl (fun w11 c11 m11 => ?_)
        have ag11 := agB.chg c11 (by simp; omega)
        have a711 := a7B.chg c11 (by simp; omega)
        have ap11 := apB.chg c11 (by simp; omega)
        have p11 := pB.chg c11 (by simp; omega)
        have o11 := oB.chg c11 (fun b hb h => by simp at h; subst h; exact n5 hb)
        have rg11 : Row w11 ⟨g, 0, none⟩ [.map (some b1), vo, .map (some b2)] := Row.of_at ag11
        have r711 : Row w11 ⟨b7, 0, none⟩ (entCs x iv5 ov5) := Row.of_at a711
        have C11 : Chg (mutG g b1 b2 vo) w w11 := (xwB.chg c11).mono (fun b hb => by simp at hb; subst hb; exact .inl (by simp))
        have s11 := c11.size
        have sB11 : w.heap.size ≤ w11.heap.size := Nat.le_trans sB s11
        have hBw : B ≤ w.heap.size := (by have := hP.lo; omega)
        clear agB a7B apB pB oB mB eB c11 xwB
        repeat' (first|(first|refine go1 ?_|refine zg (fun _ _=>?_)|refine zi (fun _ _=>?_))|refine st_both ?_ ?_|(refine zI (d := some 72) (cs := [.string x.id]) rfl (fun bz wz xz az hbz => ?_)))
        all_goals
          refine st_appendX (d := some 73) (E := strE) (B := B) (l := l.map (fun x : Ent => x.id)) (l2 := [x.id]) (n := 1) (new := [.string x.id]) rfl (o11.ext (by exact fx)) (Nat.le_trans (Nat.le_trans hBw sB11) (Ext.size (w := w11) (by exact fx))) rfl rfl (sl_new (by focus (repeat (first | assumption | (apply At.ext; assumption)))) rfl) rfl rfl (by simp only [List.length_map, List.length_cons, List.length_nil]; omega) (fun v13 w13 o13 _ c13 hb13 => ?_)
          have c1 : Chg (blkOf vo) w11 w13 := Ext.chg (by exact fx) c13
          have hb1 : ∀ b ∈ blkOf v13, b ∈ blkOf vo ∨ w11.heap.size ≤ b := fun b hb => (hb13 b hb).imp id (Nat.le_trans (Ext.size (by exact fx)))
          clear c13 hb13 az hbz xz
          clear ‹Ext w11 _›
          have s13 := c1.size
          have ag13 := ag11.chg c1 n3
          have ap13 := ap11.chg c1 (fun h => by have := lo _ h; omega)
          have a713 := a711.chg c1 (fun h => by have := lo _ h; omega)
          have p13 := p11.chg c1 n6
          have rg13 : Row w13 ⟨g, 0, none⟩ [.map (some b1), vo, .map (some b2)] := Row.of_at ag13
          repeat (first|refine go1 ?_|refine zg (fun _ _=>?_)|refine zi (fun _ _=>?_))
          have hv1 : v13.oneCell' = true := by obtain ⟨_, _, e⟩ := o13.sl.form; rw [e]; rfl
          refine st_store (b := g) (o := 1) (v := v13) rfl rfl hv1 ag13 (by simp) (fun w14 c14 ag14 => ?_)
          have ag14 : At w14 g (.cells [.map (some b1), v13, .map (some b2)].toArray T.graph_Graph (0, 0)) := ag14
          have rg14 : Row w14 ⟨g, 0, none⟩ [.map (some b1), v13, .map (some b2)] := Row.of_at ag14
          have a714 := a713.chg c14 (by simp; omega)
          have ap14 := ap13.chg c14 (by simp; omega)
          have r714 : Row w14 ⟨b7, 0, none⟩ (entCs x iv5 ov5) := Row.of_at a714
          have rp14 : Row w14 ⟨bp, 0, none⟩ (txCs t iv ov) := Row.of_at ap14
          have hv3 : ∀ b, b < w.heap.size → b ∉ blkOf vo → b ∉ blkOf v13 := fun b hb hn h => by
            rcases hb1 b h with h1 | h1
            · exact hn h1
            · omega
          have o14 := o13.chg c14 (fun b hb h => by simp at h; subst h; exact hv3 _ lg n3 hb)
          have p14 := p13.chg c14 (by simp; omega)
          have hM' : ∀ b ∈ mutG g b1 b2 v13, b ∈ mutG g b1 b2 vo ∨ w11.heap.size ≤ b := fun b hb => by
            simp only [List.mem_cons] at hb ⊢
            rcases hb with rfl | rfl | rfl | hb
            · exact .inl (.inl rfl)
            · exact .inl (.inr (.inl rfl))
            · exact .inl (.inr (.inr (.inl rfl)))
            · exact (hb1 b hb).imp (fun h => .inr (.inr (.inr h))) id
          have hMU : ∀ b ∈ U ++ mutG g b1 b2 v13, b ∈ U ++ mutG g b1 b2 vo ∨ w11.heap.size ≤ b := fun b hb => (List.mem_append.1 hb).elim (fun h => .inl (List.mem_append_left _ h)) (fun h => (hM' b h).imp (fun h2 => List.mem_append_right _ h2) id)
          have m13 : MapR sK entR (U ++ mutG g b1 b2 v13) w13 b1 (aset m x.id x) := m11.step c1 n5 (fun b hb => .inl (by simp [hb])) hMU
          have m14 := m13.step (M' := U ++ mutG g b1 b2 v13) c14 (by simp; omega) (fun b hb => by simp at hb; subst hb; exact .inl (by simp)) (fun _ h => .inl h)
          have C14 : Chg (mutG g b1 b2 vo) w w14 := ((C11.trans c1).trans c14).mono (fun b hb => by simp at hb ⊢; grind)
          have s14 := c14.size
          have hi14 : SlR inR N w14 iv t.ins := h1.step C14 (fun b hb => .inl (hMN b hb)) (fun _ h => .inl h)
          clear ag13 rg13 a713 ap13 o13 p13 m13 c14 c1 m11 ag11 a711 ap11 p11 o11 rg11 r711 C11
          clear ap14
          repeat' (first|(first|refine go1 ?_|refine zg (fun _ _=>?_)|refine zi (fun _ _=>?_))|(refine zL rfl (fun h => ?_) (fun h => ?_))|(refine zG (E := inR) (M := N) (l := t.ins) rfl (SlR.ext hi14 (by exact fx)) ?_)|(refine c_loopV (fun (i : Nat) w' => Chg [b2] w14 w' ∧ i ≤ t.ins.length ∧ MapE ptK Value.string w' b2 (putPts sp (t.ins.take i) x.id)) (fun i => [(0, .pointer (some ⟨g, 0, none⟩)), (7, .pointer (some ⟨b7, 0, none⟩)), (77, iv), (78, .int .i64 (t.ins.length : Nat)), (79, .int .i64 i)]) (fun i => t.ins.length - i) 0 ⟨rfl, rfl, rfl, rfl, rfl, trivial⟩ ⟨(show Ext w14 _ by exact fx).mono (by simp), by simp, MapE.ext (by exact fx) p14⟩ ?_; rintro i ρ w3 ⟨x3, hi, hmp⟩))
          · have hi3 : SlR inR N w3 iv t.ins := hi14.step x3 (fun b hb => .inl (hMN b (by simp at hb; simp [hb]))) (fun _ h => .inl h)
            have rg3 : Row w3 ⟨g, 0, none⟩ [.map (some b1), v13, .map (some b2)] := Row.of_at (ag14.chg x3 (by simp; omega))
            have r73 : Row w3 ⟨b7, 0, none⟩ (entCs x iv5 ov5) := Row.of_at (a714.chg x3 (by simp; omega))
            clear r714 rp14 rg14
            repeat' (first|(first|refine go1 ?_|refine zg (fun _ _=>?_)|refine zi (fun _ _=>?_))|(refine st_elemR (d := some 81) (E := inR) (M := N) rfl rfl (n := i) (l := t.ins) (SlR.ext hi3 (by exact fx)) rfl (by omega) (fun ad cs r4 he => ?_); obtain ⟨wv, rfl, hw, hp5, hp6⟩ := he; obtain ⟨bs1, cp1, rfl⟩ := hw.form; have hil : i < t.ins.length := (by omega))|(refine zE (d' := 16) (fun _=>rfl) rfl rfl rfl (fun b8 w8 x8 a8 (r8 : Row w8 ⟨b8, 0, none⟩ (inCs t.ins[i] (.slice bs1 t.ins[i].wit.length cp1))) hb8=>?_))|(refine st_mapUpdate (E := ptK) (fv := Value.string) (k := t.ins[i].p) (v := x.id) rfl rfl rfl (MapE.ext (w := w3) (by exact fx) hmp) rfl rfl (fun w5 c5 m5 => ?_); have x35 : Chg [b2] w3 w5 := Ext.chg (by exact fx) c5))
            exact ⟨i + 1, ⟨rfl, rfl, rfl, rfl, rfl, trivial⟩, ⟨(x3.trans x35).mono (by simp), by omega, by rw [putPts_take hil]; exact m5⟩, by omega⟩
          · have ei : i = t.ins.length := by omega
            subst ei
            rw [List.take_of_length_le (Nat.le_refl _)] at hmp
            have hany : ¬ l.any (fun x => decide (x.id = idT t)) = true := by
              rw [hP.inv.ent] at hno
              rw [List.any_eq_true]
              rintro ⟨y, h1, h2⟩
              exact (List.find?_eq_none.1 hno y h1) (by rw [hid]; exact h2)
            have hnone : ∀ i ∈ t.ins, ∀ y ∈ l, spends y i.p = false := fun i hi y hy => by
              obtain ⟨j, hj, rfl⟩ := List.getElem_of_mem hi
              have h5 := hfree j hj
              rw [hP.inv.spt, Option.map_eq_none_iff] at h5
              have h6 := List.find?_eq_none.1 h5 y hy
              simpa using h6
            have hany2 : ¬ t.ins.any (fun i => l.any fun x => spends x i.p) = true := by
              rw [List.any_eq_true]
              rintro ⟨i, hi, h⟩
              obtain ⟨y, hy, h⟩ := List.any_eq_true.1 h
              rw [hnone i hi y hy] at h; cases h
            rw [addG_ok he0 (fun _ _ _ => trivial), if_neg hany, if_neg hany2, hxe]
            have hno' : ∀ y ∈ l, y.id ≠ x.id := fun y hy e => hany (List.any_eq_true.2 ⟨y, hy, decide_eq_true (by rw [e, hid])⟩)
            have hinv : GI (aset m x.id x) (putPts sp x.tx.ins x.id) (l ++ [x]) := GI.add hP.inv hok hno' (fun y hy p hp => by
              unfold spends at hp
              obtain ⟨i, hi, h⟩ := List.any_eq_true.1 hp
              rw [htx] at hi
              rw [← of_decide_eq_true h]
              exact hnone i hi y hy)
            rw [htx] at hinv
            have nb2 : b2 ∉ blkOf v13 := hv3 _ l2 n6
            have nb1 : b1 ∉ blkOf v13 := hv3 _ l1 n5
            have nbg : g ∉ blkOf v13 := hv3 _ lg n3
            have n13 : (blkOf v13).Nodup := blkOf_nodup v13
            have hC : Chg (mutG g b1 b2 vo) w w3 := (C14.trans x3).mono (fun b hb => by simp at hb ⊢; grind)
            have e13 : (l ++ [x]).map (·.id) = l.map (·.id) ++ [x.id] := by simp
            have agx := ag14.chg x3 (by simp; omega)
            have mx := m14.step (M' := U ++ mutG g b1 b2 v13) x3 (by simp; omega) (fun b hb => .inl (by simp at hb; simp [hb])) (fun _ h => .inl h)
            have mx0 := mx.step (M' := mutG g b1 b2 v13) (Chg.refl [] _) (by simp) (by simp) (fun b hb => .inl (List.mem_append_right _ hb))
            have ox := o14.chg x3 (fun b hb h => by simp at h; subst h; exact nb2 hb)
            rw [← e13] at ox
            refine x_ret rfl ⟨_, rfl, ⟨b1, v13, b2, aset m x.id x, putPts sp t.ins x.id, ⟨agx, mx0, hmp, ox, hinv, ?_, hP.lo⟩, rfl⟩, hC, fun b hb => (hM' b hb).imp id (Nat.le_trans sB11), ⟨b1, v13, b2, aset m x.id x, putPts sp t.ins x.id, ⟨agx, mx, hmp, ox.sl, hinv⟩⟩⟩
            simp only [List.nodup_cons, List.mem_cons, not_or]
            exact ⟨⟨n1, n2, nbg⟩, ⟨n4, nb1⟩, nb2, n13⟩
  · refine s_graph_Graph_Add rfl ?_
    unfold k_graph_Graph_Add
    refine oy ?_
    repeat' (first|(first|refine go1 ?_|refine zg (fun _ _=>?_)|refine zi (fun _ _=>?_))|(refine zL rfl (fun h => ?_) (fun h => absurd h (by simpa using he0)))|(refine zN rfl (fun h => ?_) (fun h => absurd h he0))|(refine zD rfl rfl (fun bp wp xp ap (rp : Row wp ⟨bp, 0, none⟩ (txCs t iv ov)) hp0=>?_))|(refine zC rfl (entry_spec (M := N) (cs := txCs t iv ov) (t := t) fee _ (by exact fx) hs hf (fun b hb => Nat.lt_of_lt_of_le (hN b hb) (Ext.size (by exact fx)))) ?_; rintro _ w5 ⟨ds, rfl, d1, d2, -, x5⟩)|(refine zE (d' := 7) (fun _=>rfl) d1 rfl d2 (fun b7 w7 x7 a7 r7 hb7=>?_)))
    have xx : Ext w w7 := by exact fx
    rw [addG_err he0]
    exact x_ret rfl ⟨_, rfl, hG0.ext xx, xx.mono (by simp), fun b hb => .inl hb, hU.ext xx⟩
theorem gadd_gu {B g : Nat} {M N U : List Nat} {l : List Ent} {cs : List Value} {t : Tx} (fee : Int) (w : World) (hG : GrU w B g M U l) (hUN : ∀ b ∈ U, b ∈ N) (ht : txR.rel N w cs t) (hs : t.Sm) (hf : is64 fee) (hN : ∀ b ∈ N, b < w.heap.size) (hMN : ∀ b ∈ M, b ∈ N) (hn : l.length ≤ 1000) : K.Spec Tryz.prog F.graph_Graph_Add [.pointer (some ⟨g, 0, none⟩), .agg cs.toArray, .int .i64 fee] w fun r w' =>
    ∃ M', r = .int .i64 (addG l t fee).2 ∧ GrU w' B g M' U (addG l t fee).1 ∧ Chg M w w' ∧ ∀ b ∈ M', b ∈ M ∨ w.heap.size ≤ b :=
  spec_mono (gadd_u fee w hG.gr hG.rd hUN ht hs hf hN hMN hn) fun _ _ ⟨M', h1, h2, h3, h4, h5⟩ => ⟨M', h1, ⟨h2, h5, fun b hb h => (h4 b hb).elim (fun h6 => hG.dj b h6 h) (fun h6 => by have := hN b (hUN b h); omega)⟩, h3, h4⟩
end Go.Proofs.YtcnhbkaclgdehaaGreat
end
