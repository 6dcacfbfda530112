/- Contracts: dropping from a graph. Plain: a transaction that was made of one number is good. Contracts: what the document fixes of graphs. -/
import Derived.Test.YtfeifodeaphbjaaGreatG46
import Derived.Test.YtfeifodeaphbjaaGreatG47
section
namespace Go.Proofs.YtfeifodeaphbjaaGreat
open Go Go.K
attribute [local irreducible] regK codeK retK KOp.wp K.Spec u32 leS vnS str zero32 sha2 encT idT sizeT checkT grantB idN stepR workL reachE findI

theorem drop1_hb : hasBody Tryz.prog F.graph_Graph_Drop_1 = true := by kernel_rfl
theorem drop1_spec {b3 : Nat} {t : TypeId} {id : ByteArray} (s : ByteArray) (w : World) (h3 : At w b3 (.cells [.string id].toArray t (0, 0))) : K.Spec Tryz.prog F.graph_Graph_Drop_1 [.string s, .pointer (some ⟨b3, 0, none⟩)] w fun r w' => r = .bool (decide (s = id)) ∧ w' = w := by
  have r3 : Row w ⟨b3, 0, none⟩ [.string id] := Row.of_at h3
  refine s_graph_Graph_Drop_1 rfl ?_
  unfold k_graph_Graph_Drop_1
  refine ox ?_
  repeat' (first|(first|refine go1 ?_|refine zg (fun _ _=>?_)|refine zi (fun _ _=>?_)))
  exact x_ret rfl ⟨rfl, rfl⟩
set_option maxHeartbeats 2000000 in
theorem gdrop_own {B g : Nat} {M : List Nat} {l : List Ent} (id : ByteArray) (w : World) (hG : Gr w B g M l) (hn : l.length ≤ 1000) : K.Spec Tryz.prog F.graph_Graph_Drop [.pointer (some ⟨g, 0, none⟩), .string id] w fun r w' =>
    ∃ M', r = .int .i64 (dropG l id).2 ∧ Gr w' B g M' (dropG l id).1 ∧ Chg M w w' ∧ (∀ b ∈ M', b ∈ M ∨ w.heap.size ≤ b) ∧ ((dropG l id).2 ≠ 0 → Ext w w') := by
  have hG0 := hG
  obtain ⟨b1, vo, b2, m, sp, hP, rfl⟩ := hG
  have rg : Row w ⟨g, 0, none⟩ [.map (some b1), vo, .map (some b2)] := Row.of_at hP.at_
  have hq1 := hP.ents
  have hl1 := Gr.lt hG0
  refine s_graph_Graph_Drop rfl ?_
  unfold k_graph_Graph_Drop
  refine ox ?_
  repeat' (first|(first|refine go1 ?_|refine zg (fun _ _=>?_)|refine zi (fun _ _=>?_))|(refine zM rfl (fun h => ?_) (fun h => ?_))|(refine zD rfl rfl (fun b3 wp xp a3 (r3 : Row wp ⟨b3, 0, none⟩ [.string id]) hp0=>?_))|(refine st_lookupR (d := some 17) (KE := sK) (F := entR) (M := mutG g b1 b2 vo) (k := id) rfl rfl (by exact fx) rfl rfl (fun y cs hy hr => ?_) (fun hno => ?_))|(refine zH (d := some 5) (fun b9 w9 x9 a9 hb9 => ?_); have s9 : w.heap.size ≤ b9 := Nat.le_trans (Ext.size (w := w) (by exact fx)) hb9; have s39 : wp.heap.size ≤ b9 := Nat.le_trans (Ext.size (w := wp) (by exact fx)) hb9)|(obtain ⟨iv, ov, rfl, q1, q2, q3⟩ := hr; have i1 := q1.one; have i2 := q2.one; refine st_setN (w0 := w) (vs := entCs y iv ov) (by exact fx) s9 (by focus (repeat (first | assumption | (apply At.ext; assumption)))) rfl rfl rfl rfl (by simp [entCs, i1, i2]; exact ⟨rfl, rfl, rfl, rfl, rfl⟩) (fun w10 x10 c10 a10 r10 => ?_); have l3 := a3.lt; have a30 : At w10 b3 (.cells [.string id].toArray T.string (0, 0)) := At.chg c10 (At.ext (show Ext wp w9 by exact fx) a3) (by simp; omega); have r30 : Row w10 ⟨b3, 0, none⟩ [.string id] := Row.of_at a30; have q10 : SlR inR (mutG g b1 b2 vo) w10 iv y.tx.ins := (q1.step (M' := b9 :: mutG g b1 b2 vo) x9 (by simp) (fun b hb => by rcases List.mem_cons.1 hb with h | h; (subst h; exact .inr hb9); exact .inl h)).step c10 (by intro q hq; simp at hq; subst hq; exact .inl (by simp)) (fun _ h => .inl (by simp [h])); clear c10 q1 q2 a9 x9 hb9 s39 xp a3 r3)|(refine st_setN (w0 := w) (vs := zEnt) (by exact fx) s9 (by focus (repeat (first | assumption | (apply At.ext; assumption)))) rfl rfl rfl rfl rfl (fun w10 x10 c10 a10 r10 => ?_)))
  · clear ‹Ext wp _›
    rename_i wB xB
    have xwB : Ext w wB := x10.trans xB
    have a3B := a30.ext xB
    have a9B := a10.ext xB
    have agB := hP.at_.ext xwB
    have mB := hq1.ext xwB
    have pB := hP.pts.ext xwB
    have oB := hP.ord.ext xwB
    have qB := q10.ext xB
    have sB := xwB.size
    have nd := hP.nd
    simp only [List.nodup_cons, List.mem_cons, not_or] at nd
    obtain ⟨⟨n1, n2, n3⟩, ⟨n4, n5⟩, n6, n7⟩ := nd
    have l1 : b1 < w.heap.size := hl1 _ (by simp)
    have l2 : b2 < w.heap.size := hl1 _ (by simp)
    have lg : g < w.heap.size := hl1 _ (by simp)
    have lo : ∀ b ∈ blkOf vo, b < w.heap.size := fun b hb => hl1 b (by simp [hb])
    have hym : y ∈ l ∧ y.id = id := by
      rw [hP.inv.ent] at hy
      exact ⟨List.mem_of_find?_eq_some hy, by have := List.find?_some hy; exact of_decide_eq_true this⟩
    have hins := (chk_sm (hG0.ok y hym.1).check).ins
    clear xB x10 a30 a10 r10 r30 q10 rg
    refine st_deleteR (KE := sK) (F := entR) (M := mutG g b1 b2 vo) (k := id) rfl rfl mB (by simp) rfl rfl (fun w11 c11 m11 => ?_)
    have ag11 := agB.chg c11 (by simp; omega)
    have a311 := a3B.chg c11 (by simp; omega)
    have a911 := a9B.chg c11 (by simp; omega)
    have p11 := pB.chg c11 (by simp; omega)
    have o11 := oB.chg c11 (fun b hb h => by simp at h; subst h; exact n5 hb)
    have q11 := qB.step (M' := mutG g b1 b2 vo) c11 (fun b hb => by simp at hb; subst hb; exact .inl (by simp)) (fun _ h => .inl h)
    have r911 : Row w11 ⟨b9, 0, none⟩ (entCs y iv ov) := Row.of_at a911
    have C11 : Chg (mutG g b1 b2 vo) w w11 := (xwB.chg c11).mono (fun b hb => by simp at hb; subst hb; exact .inl (by simp))
    have sB11 : w.heap.size ≤ w11.heap.size := Nat.le_trans sB c11.size
    clear agB a3B a9B pB oB mB qB c11 xwB
    repeat' (first|(first|refine go1 ?_|refine zg (fun _ _=>?_)|refine zi (fun _ _=>?_))|(refine zL rfl (fun h => ?_) (fun h => ?_))|(refine zG (E := inR) (M := mutG g b1 b2 vo) (l := y.tx.ins) rfl (SlR.ext q11 (by exact fx)) ?_)|(refine c_loopV (fun (i : Nat) w' => Chg [b2] w11 w' ∧ i ≤ y.tx.ins.length ∧ MapE ptK Value.string w' b2 (delPts sp (y.tx.ins.take i))) (fun i => [(0, .pointer (some ⟨g, 0, none⟩)), (3, .pointer (some ⟨b3, 0, none⟩)), (29, iv), (30, .int .i64 (y.tx.ins.length : Nat)), (31, .int .i64 i)]) (fun i => y.tx.ins.length - i) 0 ⟨rfl, rfl, rfl, rfl, rfl, trivial⟩ ⟨(show Ext w11 _ by exact fx).mono (by simp), by simp, MapE.ext (by exact fx) p11⟩ ?_; rintro i ρ w3 ⟨x3, hi, hmp⟩))
    · have hi3 : SlR inR (mutG g b1 b2 vo) w3 iv y.tx.ins := q11.step x3 (fun b hb => .inl (by simp at hb; simp [hb])) (fun _ h => .inl h)
      have rg3 : Row w3 ⟨g, 0, none⟩ [.map (some b1), vo, .map (some b2)] := Row.of_at (ag11.chg x3 (by simp; omega))
      clear r911
      repeat' (first|(first|refine go1 ?_|refine zg (fun _ _=>?_)|refine zi (fun _ _=>?_))|(refine st_elemR (d := some 33) (E := inR) (M := mutG g b1 b2 vo) rfl rfl (n := i) (l := y.tx.ins) (SlR.ext hi3 (by exact fx)) rfl (by omega) (fun ad cs r4 he => ?_); obtain ⟨wv, rfl, hw, hp5, hp6⟩ := he; obtain ⟨bs1, cp1, rfl⟩ := hw.form; have hil : i < y.tx.ins.length := (by omega))|(refine zE (d' := 8) (fun _=>rfl) rfl rfl rfl (fun b8 w8 x8 a8 (r8 : Row w8 ⟨b8, 0, none⟩ (inCs y.tx.ins[i] (.slice bs1 y.tx.ins[i].wit.length cp1))) hb8=>?_))|(refine st_delete (E := ptK) (fv := Value.string) (k := y.tx.ins[i].p) rfl rfl (MapE.ext (w := w3) (by exact fx) hmp) rfl rfl (fun w5 c5 m5 => ?_); have x35 : Chg [b2] w3 w5 := Ext.chg (by exact fx) c5))
      exact ⟨i + 1, ⟨rfl, rfl, rfl, rfl, rfl, trivial⟩, ⟨(x3.trans x35).mono (by simp), by omega, by rw [delPts_take hil]; exact m5⟩, by omega⟩
    · have ei : i = y.tx.ins.length := by omega
      subst ei
      rw [List.take_of_length_le (Nat.le_refl _)] at hmp
      have ag3 := ag11.chg x3 (by simp; omega)
      have rg3 : Row w3 ⟨g, 0, none⟩ [.map (some b1), vo, .map (some b2)] := Row.of_at ag3
      have a33 := a311.chg x3 (by simp; omega)
      have o3 := o11.chg x3 (fun b hb h => by simp at h; subst h; exact n6 hb)
      have m3 := m11.step (M' := mutG g b1 b2 vo) x3 (by simp; omega) (fun b hb => .inl (by simp at hb; simp [hb])) (fun _ h => .inl h)
      have C3 : Chg (mutG g b1 b2 vo) w w3 := (C11.trans x3).mono (fun b hb => by simp at hb ⊢; grind)
      have s3 := x3.size
      clear q11 r911 ag11 a311 a911 p11 o11 m11 C11
      repeat' (first|(first|refine go1 ?_|refine zg (fun _ _=>?_)|refine zi (fun _ _=>?_))|(refine zC rfl (del_spec (g := F.graph_Graph_Drop_1) (capl := [.pointer (some ⟨b3, 0, none⟩)]) (l := l.map (fun x : Ent => x.id)) (B := B) _ (fun s => decide (s = id)) drop1_hb (Own.ext (w := w3) (by exact fx) o3) (by simp; omega) (fun W s hW => drop1_spec s W (At.chg hW (At.ext (w := w3) (by exact fx) a33) (fun h => by have := lo _ h; omega)))) ?_; rintro v6 w6 ⟨o6, c6, hb6⟩; have c36 : Chg (blkOf vo) w3 w6 := Ext.chg (by exact fx) c6; have hv1 : v6.oneCell' = true := (by obtain ⟨_, _, e⟩ := o6.sl.form; rw [e]; rfl)))
      refine st_store (b := g) (o := 1) (v := v6) rfl rfl hv1 (ag3.chg c36 n3) (by simp) (fun w14 c14 ag14 => ?_)
      have ag14 : At w14 g (.cells [.map (some b1), v6, .map (some b2)].toArray T.graph_Graph (0, 0)) := ag14
      repeat (first|refine go1 ?_|refine zg (fun _ _=>?_)|refine zi (fun _ _=>?_))
      have nb2 : b2 ∉ blkOf v6 := fun h => n6 (hb6 _ h)
      have nb1 : b1 ∉ blkOf v6 := fun h => n5 (hb6 _ h)
      have nbg : g ∉ blkOf v6 := fun h => n3 (hb6 _ h)
      have hM' : ∀ b ∈ mutG g b1 b2 v6, b ∈ mutG g b1 b2 vo := fun b hb => by
        simp only [List.mem_cons] at hb ⊢
        rcases hb with rfl | rfl | rfl | hb
        · exact .inl rfl
        · exact .inr (.inl rfl)
        · exact .inr (.inr (.inl rfl))
        · exact .inr (.inr (.inr (hb6 b hb)))
      have m6 := m3.step (M' := mutG g b1 b2 v6) c36 n5 (fun b hb => .inl (by simp [hb])) (fun b hb => .inl (hM' b hb))
      have m14 := m6.step (M' := mutG g b1 b2 v6) c14 (by simp; omega) (fun b hb => by simp at hb; subst hb; exact .inl (by simp)) (fun _ h => .inl h)
      have p14 := (hmp.chg c36 n6).chg c14 (by simp; omega)
      have hC : Chg (mutG g b1 b2 vo) w w14 := ((C3.trans c36).trans c14).mono (fun b hb => by simp at hb ⊢; grind)
      obtain ⟨hym, rfl⟩ := hym
      obtain ⟨n, hnl, rfl⟩ := List.getElem_of_mem hym
      have hfi : findI l l[n].id = n := by
        unfold findI
        exact idxOf_hit hnl (decide_eq_true rfl) (fun j hj => decide_eq_false fun e => by
          have := entD_inj hG0.nodup (show j < l.length by omega) hnl (by rw [entD_get (by omega), entD_get hnl]; exact e)
          omega)
      have ed : dropG l l[n].id = (l.filter fun z => !decide (z.id = l[n].id), 0) := by
        rw [dropG, if_neg (by rw [hfi]; omega), hfi, Int.toNat_natCast, erase_filter hG0.nodup hnl rfl]
      rw [ed]
      have e6 : (l.map (·.id)).filter (fun s => !decide (s = l[n].id)) = (l.filter fun z => !decide (z.id = l[n].id)).map (·.id) := by
        rw [List.filter_map]; rfl
      rw [e6] at o6
      refine x_ret rfl ⟨_, rfl, ⟨b1, v6, b2, _, _, ⟨ag14, m14, p14, ?_, hP.inv.del hym, ?_, hP.lo⟩, rfl⟩, hC, fun b hb => .inl (hM' b hb), fun h => absurd rfl h⟩
      · exact o6.chg c14 (fun b hb h => by simp at h; subst h; exact nbg hb)
      · simp only [List.nodup_cons, List.mem_cons, not_or]
        exact ⟨⟨n1, n2, nbg⟩, ⟨n4, nb1⟩, nb2, blkOf_nodup v6⟩
  · have hf : findI l id < 0 := by
      rw [hP.inv.ent] at hno
      rcases Int.lt_or_le (findI l id) 0 with h1 | h1
      · exact h1
      · have h2 := idxOf_any (p := fun x : Ent => decide (x.id = id)) (l := l)
        have h3 : l.any (fun x => decide (x.id = id)) = true := by rw [← h2]; unfold findI at h1; exact decide_eq_true h1
        obtain ⟨z, hz, h4⟩ := List.any_eq_true.1 h3
        exact absurd h4 (List.find?_eq_none.1 hno z hz)
    rw [dropG, if_pos hf]
    exact x_ret rfl ⟨_, rfl, hG0.ext x10, x10.mono (by simp), fun b hb => .inl hb, fun _ => x10⟩
theorem gdrop_spec {B g : Nat} {M : List Nat} {l : List Ent} (id : ByteArray) (w : World) (hG : Gr w B g M l) (hn : l.length ≤ 1000) : K.Spec Tryz.prog F.graph_Graph_Drop [.pointer (some ⟨g, 0, none⟩), .string id] w fun r w' =>
    ∃ M', r = .int .i64 (dropG l id).2 ∧ Gr w' B g M' (dropG l id).1 ∧ Chg M w w' ∧ ∀ b ∈ M', b ∈ M ∨ w.heap.size ≤ b := 
  spec_mono (gdrop_own id w hG hn) fun _ _ ⟨M', h1, h2, h3, h4, _⟩ => ⟨M', h1, h2, h3, h4⟩
end Go.Proofs.YtfeifodeaphbjaaGreat
end
section
namespace Go.K
open Go
theorem made_one {z : Small} {t : Tx} (h : Made z t) (h1 : z.frm.length = 1) (h2 : z.outs = 0) (h3 : z.long = 0) : checkT t = 0 ∧ grantB t = false ∧ t.outs.length = 1 := by
  have hi : t.ins.length = 1 := by rw [h.ins, h1]; rfl
  have ho : t.outs.length = 1 := by rw [h.outs, h2, h3]; rfl
  obtain ⟨x, hx⟩ : ∃ x, t.ins = [x] := List.length_eq_one_iff.1 hi
  obtain ⟨y, hy⟩ : ∃ y, t.outs = [y] := List.length_eq_one_iff.1 ho
  have hx1 := h.each x (by rw [hx]; simp)
  have hy1 := h.eacho y (by rw [hy]; simp)
  have hb : isBase x.p = false := by
    unfold isBase
    have : ¬ x.p.i = baseP.i := by have := hx1.hi; have := hx1.lo; show ¬ x.p.i = 4294967295; omega
    rw [decide_eq_false this, Bool.and_false]
  have hg : goodB y.v = true := by rw [goodB_iff]; have := hy1.lo; have := hy1.hi; omega
  refine ⟨?_, ?_, ho⟩
  · have c1 : countsB t = true := by
      unfold countsB
      rw [hx, hy]
      simp [hx1.wit]
    have c2 : longB t = false := by
      unfold longB
      rw [hx, hy]
      have e1 : longOut y = false := by unfold longOut; exact decide_eq_false (by have := hy1.s; omega)
      have e2 : longIn x = false := by unfold longIn; rw [hx1.wit]; rfl
      simp [e1, e2]
    have c3 : formedT t = true := by
      unfold formedT
      rw [hx]
      have e : badIn t x = false := by
        unfold badIn
        rw [hb, hx1.id]; simp
      simp [e]
    have c4 : twiceB t = false := by
      unfold twiceB points
      rw [hx]; simp [dupB]
    have c5 : sumE (values t) = 0 := by
      unfold sumE values
      rw [hy]
      simp [sumOk, hg]
    unfold checkT
    rw [c1, c2, c3, c4, c5]; rfl
  · unfold grantB
    rw [hx]
    simp [hb]
theorem addG_new {t : Tx} {fee : Int} (h1 : checkT t = 0) (h2 : grantB t = false) (h3 : goodB fee = true) : addG [] t fee = ([⟨t, idT t, fee, (sizeT t : Nat)⟩], 0) := by
  unfold addG
  rw [if_neg (by simpa using h1), if_neg (by rw [h2]; decide), if_neg (by rw [h3]; decide)]
  simp
theorem addG_twice {t : Tx} {fee : Int} {x : Ent} (h1 : checkT t = 0) (h2 : grantB t = false) (h3 : goodB fee = true) (hx : x.id = idT t) : addG [x] t fee = ([x], 7) := by
  unfold addG
  rw [if_neg (by simpa using h1), if_neg (by rw [h2]; decide), if_neg (by rw [h3]; decide), if_pos (by simp [hx])]
theorem above_one {x : Ent} {t : Tx} (h : hangs t x = true) : idsOf [x] (aboveL [x] t) = [x.id] := by
  have e : stepR (fun i => hangs t (entD [x] i)) (hangE [x]) 1 1 0 = true := stepR_base (by decide) (by rw [entD_get (by simp)]; exact h)
  unfold aboveL reachL
  show idsOf [x] [stepR _ _ 1 1 0] = _
  rw [e]; rfl
theorem below_one (x : Ent) : idsOf [x] (belowL [x] x.id) = [x.id] := by
  have e0 : findI [x] x.id = 0 := by
    unfold findI idxOf
    simp [List.findIdx?_cons]
  have e : stepR (fun i => decide ((i : Int) = findI [x] x.id)) (fun k i => hangE [x] i k) 1 1 0 = true := stepR_base (by decide) (by rw [e0]; decide)
  unfold belowL reachL
  show idsOf [x] [stepR _ _ 1 1 0] = _
  rw [e]; rfl
theorem dropG_none {x : Ent} {id : ByteArray} (h : x.id ≠ id) : dropG [x] id = ([x], 8) := by
  have e0 : findI [x] id = -1 := by
    unfold findI idxOf
    simp [List.findIdx?_cons, h]
  unfold dropG
  rw [e0]; rfl
end Go.K
end
section
namespace Go.Proofs.YtfeifodeaphbjaaGreat
open Go Go.K
attribute [local irreducible] regK codeK retK KOp.wp K.Spec u32 leS vnS str zero32 sha2 encT idT sizeT checkT grantB idN stepR workL reachE findI

theorem SlR.one1 {α : Type} {E : R α} {M : List Nat} {w : World} {b : Nat} {t : TypeId} {cs : List Value} {a : α} (h : At w b (.cells cs.toArray t (0, 0))) (hr : E.rel M w cs a) (hb : b ∉ M) : SlR E M w (.slice (some ⟨b, 0, none⟩) 1 1) [a] :=
  ⟨[R.vec hr], SlE.new (E := vecE E.k E.pos) (l := [R.vec hr]) (t := t) (by have e : (vecE E.k E.pos).flat [R.vec hr] = cs := (by show cs ++ [] = cs; exact List.append_nil _); rw [e]; exact h) rfl (Nat.le_refl _), .cons hr .nil, fun _ c hc hm => by simp [blkOf] at hc; subst hc; exact hb hm⟩
abbrev spT (id : ByteArray) : Tx := ⟨0, [⟨⟨id, 0⟩, 0, []⟩], [], 0⟩
theorem equal_true {v u : Value} {l m : List ByteArray} (w : World) (hl : SlE strE w v l) (hm : SlE strE w u m) (he : l = m) (hn : l.length ≤ 100000000) : K.Spec Tryz.prog F.slices_Equal_L_string_string [v, u] w fun r w' => r = .bool true ∧ Ext w w' :=
  spec_mono (equal_spec w hl hm hn) fun r w' ⟨h1, h2⟩ => ⟨by rw [h1, decide_eq_true he], h2⟩
abbrev zW : Small := ⟨[200], 0, 0, 0, 0, 0⟩
set_option maxHeartbeats 2000000 in
theorem wakes14_spec (w : World) : K.Spec Tryz.prog F.kedgelaw14_wakes [] w fun r w' => r = .bool true ∧ Ext w w' := by
  refine s_kedgelaw14_wakes rfl ?_
  unfold k_kedgelaw14_wakes
  refine ox ?_
  repeat' (first|(first|refine go1 ?_|refine zg (fun _ _=>?_)|refine zi (fun _ _=>?_))|(refine zC rfl (new_spec _) ?_; rintro _ w1 ⟨g, M, rfl, G1, x1⟩; have hM1 := G1.lt; have hB1 := G1.base)|(refine zI (d := some 9) (cs := [.int .u8 200]) rfl (fun bz wz xz az hbz => ?_))|(refine zE (d' := 2) (fun _=>rfl) ho.four rfl ho.one (fun b2 w4 x4 a4 r4 hb4=>?_)))
  refine zC rfl (make_spec (M := M) (l := []) (cs := smallCs zW (.slice (some ⟨bz, 0, none⟩) 1 1)) (z := zW) _ (SlR.nil _ _) ⟨_, rfl, SlE.toR (F := u8E) (SlE.new (E := u8E) (l := [200]) az rfl (Nat.le_refl _)) (by intro b hb hm; simp [blkOf] at hb; subst hb; have := hM1 _ hm; omega), by show is64 0; exact is64_0⟩ (by simp) (by decide) (by simp) (fun b hb => Nat.lt_of_lt_of_le (hM1 b hb) xz.size)) ?_
  rintro _ w3 ⟨ds, t, rfl, ho, hm, x3⟩
  obtain ⟨hc, hgr, hol⟩ := made_one hm rfl rfl rfl
  have hsm := hm.sm
  have hsz := sz_of_check hsm hc
  have hMz : ∀ b ∈ M, b < wz.heap.size := fun b hb => Nat.lt_of_lt_of_le (hM1 b hb) xz.size
  have hg5 : goodB 5 = true := by rw [goodB_iff]; omega
  have t3 : txR.rel M w3 ds t := txO.rel ho hMz
  have e1 := ho.one
  obtain ⟨iv, ov, rfl, -⟩ := ho
  refine zE (d' := 2) (fun _=>rfl) rfl rfl e1 (fun b2 w4 x4 a4 r4 hb4=>?_)
  have l4 := a4.lt
  have s1 := x1.size
  have sz := xz.size
  have s3 := x3.size
  have s4 := x4.size
  have t4 : txR.rel M w4 (txCs t iv ov) t := R.ext t3 x4
  have G4 := G1.ext ((xz.trans x3).trans x4)
  have x04 : Ext w w4 := ((x1.trans xz).trans x3).trans x4
  have hb2 : b2 ∉ M := fun h => by have := hM1 _ h; omega
  clear x1 xz x3 x4 G1 az t3
  have hN4 : ∀ b ∈ M, b < w4.heap.size := fun b hb => by have := hM1 b hb; omega
  repeat' (first|(first|refine go1 ?_|refine zg (fun _ _=>?_)|refine zi (fun _ _=>?_))|(refine zC rfl (gadd_spec (M := M) (N := M) (cs := txCs t iv ov) (t := t) 5 _ G4 t4 hsm (by unfold is64; omega) hN4 (fun _ h => h) (by simp)) ?_; rintro _ w5 ⟨M5, rfl, G5, c5, hb5⟩; rw [addG_new hc hgr hg5] at G5; rw [show (addG [] t 5).2 = 0 by rw [addG_new hc hgr hg5]]; clear G4; have t5 : txR.rel M5 w5 (txCs t iv ov) t := txR.step t4 c5 (fun b hb => .inl hb) hb5; have a5 := At.chg c5 a4 hb2; have r5 := Row.of_at a5; have x05 : Ext w w5 := (x04.chg c5).mono (fun b hb => .inr (hB1 b hb)); have s5 := c5.size; have b25 : b2 ∉ M5 := (fun h => by rcases hb5 _ h with h | h; exact hb2 h; omega); clear t4 a4 r4 c5 x04))
  generalize hxe : (⟨t, idT t, 5, (sizeT t : Nat)⟩ : Ent) = x at *
  have htx : x.tx = t := by rw [← hxe]
  have hid : x.id = idT t := by rw [← hxe]
  have hfe : x.fee = 5 := by rw [← hxe]
  have G5 : Gr w5 w.heap.size g M5 [x] := G5
  have hB5 := G5.base
  refine zC rfl (gadd_spec (M := M5) (N := M5) (cs := txCs t iv ov) (t := t) 5 _ G5 t5 hsm (by unfold is64; omega) G5.lt (fun _ h => h) (by simp)) ?_
  rintro _ w6 ⟨M6, rfl, G6, c6, hb6⟩
  rw [addG_twice hc hgr hg5 hid] at G6
  rw [show (addG [x] t 5).2 = 7 by rw [addG_twice hc hgr hg5 hid]]
  have G6 : Gr w6 w.heap.size g M6 [x] := G6
  have t6 : txR.rel M6 w6 (txCs t iv ov) t := txR.step t5 c6 (fun b hb => .inl hb) hb6
  have a6 := At.chg c6 a5 b25
  have r6 := Row.of_at a6
  have x06 : Ext w w6 := (x05.chg c6).mono (fun b hb => .inr (hB5 b hb))
  have s6 := c6.size
  have hB6 := G6.base
  have hM6 := G6.lt
  clear t5 a5 r5 c6 x05 G5 hb6 hb5 b25 hB5
  have hget : getE [x] x.id = x ∧ hasE [x] x.id = true := getE_id G6.r (by simp)
  repeat' (first|(first|refine go1 ?_|refine zg (fun _ _=>?_)|refine zi (fun _ _=>?_))|(refine zC rfl (rid_spec (M := M6) (cs := txCs t iv ov) (t := t) _ (by exact fx) hsz) ?_; rintro _ w7 ⟨rfl, x7⟩; rw [← hid])|(refine zC rfl (get_spec (M := M6) x.id _ (G6.r.ext (by exact fx)) (fun b hb => Nat.lt_of_lt_of_le (hM6 b hb) (Ext.size (by exact fx)))) ?_; rintro _ w8 ⟨ds8, rfl, e8, x8⟩; rw [hget.2]; rw [hget.1] at e8; obtain ⟨iv8, ov8, rfl, o1, o2, o3⟩ := e8; have i1 := o1.one; have i2 := o2.one)|(refine zE (d' := 5) (fun _=>rfl) rfl rfl (by simp [entCs, i1, i2]; exact ⟨rfl, rfl, rfl, rfl, rfl⟩) (fun b9 w9 x9 a9 (r9 : Row w9 ⟨b9, 0, none⟩ (entCs x iv8 ov8)) hb9=>?_))|(refine zI (d := some 29) (cs := inCs ⟨⟨x.id, 0⟩, 0, []⟩ (.slice none 0 0)) rfl (fun bi wi xi ai hbi => ?_); have ri : SlR inR M6 wi (.slice (some ⟨bi, 0, none⟩) 1 1) (spT x.id).ins := SlR.one1 (E := inR) ai ⟨_, rfl, SlR.nil _ _, is32_0, is32_0⟩ (fun h => by have := hM6 _ h; have := Ext.size (show Ext w6 w9 by exact fx); omega))|(refine zE (d' := 7) (vs := txCs (spT x.id) (.slice (some ⟨bi, 0, none⟩) 1 1) (.slice none 0 0)) (fun _=>rfl) rfl rfl rfl (fun b10 w10 x10 a10 (r10 : Row w10 ⟨b10, 0, none⟩ (txCs (spT x.id) (.slice (some ⟨bi, 0, none⟩) 1 1) (.slice none 0 0))) hb10=>?_)))
  have r6w : Unit → Ext w6 w10 := fun _ => ((((x7.trans x8).trans x9).trans xi).trans x10)
  have x10w : Ext w w10 := x06.trans (r6w ())
  have G10 := G6.ext (r6w ())
  have r91 := r9.ext (xi.trans x10)
  have ri10 := SlR.ext ri x10
  have hM10 : ∀ b ∈ M6, b < w10.heap.size := fun b hb => Nat.lt_of_lt_of_le (hM6 b hb) (r6w ()).size
  have hol1 : x.tx.outs.length = 1 := by rw [htx]; exact hol
  have hh : hangs (spT x.id) x = true := by
    unfold hangs
    rw [List.any_eq_true]
    exact ⟨⟨⟨x.id, 0⟩, 0, []⟩, by simp, by rw [hol1]; simp⟩
  have hab := above_one hh
  have hbe := below_one x
  have hdr : dropG [x] ⟨#[]⟩ = ([x], 8) := dropG_none (fun e => by have := idT_size t; rw [← hid, e] at this; cases this)
  clear r9 r6 x06 x7 x8 x9 xi x10 ri ai a9 a6 t6 r6w
  repeat' (first|(refine st_joinV (b := .join (.cons ⟨some 52, _, _⟩ _) _) (fun (p : Value × Value) w' => Ext w10 w' ∧ SlE strE w' p.1 [x.id] ∧ SlE strE w' p.2 [x.id]) (fun p => [(1, .pointer (some ⟨g, 0, none⟩)), (5, .pointer (some ⟨b9, 0, none⟩)), (45, .bool true), (48, p.1), (51, p.2)]) ?_ ?_)|(refine st_joinV (b := .cons ⟨some 62, _, _⟩ _) (fun (p : Value × Value) w' => Ext w10 w' ∧ SlE strE w' p.1 [x.id] ∧ SlE strE w' p.2 [x.id]) (fun p => [(1, .pointer (some ⟨g, 0, none⟩)), (54, .bool true), (58, p.1), (61, p.2)]) ?_ ?_)|(rintro ⟨va, vu⟩ ρ2 w12 ⟨x12, (sa : SlE strE w12 va [x.id]), (su : SlE strE w12 vu [x.id])⟩; dsimp only)|(exact ⟨(va, .slice (some ⟨bu, 0, none⟩) [x.id].length [x.id].length), ⟨rfl, rfl, rfl, rfl, rfl, trivial⟩, by exact fx, by exact fx, by exact fx⟩)|(exact ⟨(vb, .slice (some ⟨bv, 0, none⟩) [x.id].length [x.id].length), ⟨rfl, rfl, rfl, rfl, trivial⟩, by exact fx, by exact fx, by exact fx⟩)|(first|refine go1 ?_|refine zg (fun _ _=>?_)|refine zi (fun _ _=>?_))|(refine st_both ?_ ?_)|(refine zJ (p := x.fee = 5) rfl (fun _ => ?_) (fun h => absurd hfe h))|(refine zC rfl (pabove_spec (M := M6) (N := M6) (l := [x]) (cs := txCs (spT x.id) (.slice (some ⟨bi, 0, none⟩) 1 1) (.slice none 0 0)) (t := spT x.id) _ ((G10.ext (by exact fx)).r) (fun b hb => Nat.lt_of_lt_of_le (hM10 b hb) (Ext.size (by exact fx))) ⟨_, _, rfl, by exact fx, SlR.nil _ _, is32_0, is32_0⟩ (by simp) (by simp)) ?_; rintro va wa ⟨oa, xa⟩; rw [hab] at oa; have sa := oa.sl)|(refine zC rfl (pbelow_spec (M := M6) (l := [x]) x.id _ ((G10.ext (by exact fx)).r) (fun b hb => Nat.lt_of_lt_of_le (hM10 b hb) (Ext.size (by exact fx))) (by simp)) ?_; rintro vb wb ⟨ob, xb⟩; rw [hbe] at ob; have sb := ob.sl)|(refine zI (d := some 51) (cs := [.string x.id]) rfl (fun bu wu xu au hbu => ?_); have su := SlE.new (E := strE) (l := [x.id]) au rfl (Nat.le_refl _))|(refine zI (d := some 61) (cs := [.string x.id]) rfl (fun bv wv xv av hbv => ?_); have sv := SlE.new (E := strE) (l := [x.id]) av rfl (Nat.le_refl _))|(refine zC rfl (equal_true (l := [x.id]) (m := [x.id]) _ sa su rfl (by simp)) ?_; rintro _ we ⟨rfl, xe⟩)|(refine zC rfl (gdrop_spec (M := M6) (l := [x]) ⟨#[]⟩ _ (G10.ext (by exact fx)) (by simp)) ?_; rintro _ wd ⟨Md, rfl, Gd, cd, hbd⟩; rw [show (dropG [x] ⟨#[]⟩).2 = 8 by rw [hdr]]; have xd : Ext w wd := (Ext.chg (w := w) (Ext.trans x10w (by exact fx)) cd).mono (fun b hb => .inr (hB6 b hb))))
  exact x_ret rfl ⟨rfl, xd⟩
end Go.Proofs.YtfeifodeaphbjaaGreat
end
