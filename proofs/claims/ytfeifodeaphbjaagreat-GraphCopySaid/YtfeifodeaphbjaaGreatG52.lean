/- Contracts: a copy of a graph; nil graphs. The walk of GraphCopy. -/
import Derived.Test.YtfeifodeaphbjaaGreatG50
section
namespace Go.Proofs.YtfeifodeaphbjaaGreat
open Go Go.K
section
attribute [local irreducible] regK codeK retK KOp.wp u32 leS vnS str zero32 sha2 encT idT sizeT checkT grantB idN stepR workL reachE
theorem clone69_spec {mb : Nat} {M : List Nat} {m : List (ByteArray × Ent)} (w : World) (h : MapR sK entR M w mb m) : K.Spec Tryz.prog F.maps_Clone_map_string_api_Entry_string_api_Entry [.map (some mb)] w fun v w' => ∃ mb', v = .map (some mb') ∧ (∀ M', MapR sK entR M' w mb m → MapR sK entR M' w' mb' m) ∧ mb' < w'.heap.size ∧ w.heap.size ≤ mb' ∧ Ext w w' := by
  obtain ⟨mv, h1, h2⟩ := h
  obtain ⟨es, clock, h1, h3⟩ := h1
  refine (AnyW.maps_Clone Tryz.cloneMap69 mb es clock w h1).mono fun e w' ⟨he, hw⟩ => ⟨_, he, _, rfl, ?_⟩
  subst hw
  have hx := Ext.alloc w (.map es clock)
  refine ⟨fun M' h => ?_, (At.new w (.map es clock)).lt, Nat.le_refl _, hx⟩
  obtain ⟨mv, k1, h2⟩ := h
  obtain ⟨es', clock', k1, h3⟩ := k1
  have e : Obj.map es clock = Obj.map es' clock' := Option.some.inj ((show w.heap[mb]? = some (.map es clock) from h1).symm.trans k1)
  cases e
  exact ⟨mv, ⟨es, clock, At.new _ _, h3⟩, h2.mono fun _ _ ⟨e, cs, e2, hr⟩ => ⟨e, cs, e2, R.ext hr hx⟩⟩
theorem clone71_spec {mb : Nat} {m : List (Pt × ByteArray)} (w : World) (h : MapE ptK Value.string w mb m) : K.Spec Tryz.prog F.maps_Clone_map_api_Point_string_api_Point_string [.map (some mb)] w fun v w' => ∃ mb', v = .map (some mb') ∧ MapE ptK Value.string w' mb' m ∧ w.heap.size ≤ mb' ∧ Ext w w' := by
  obtain ⟨es, clock, h1, h2⟩ := h
  refine (AnyW.maps_Clone Tryz.cloneMap71 mb es clock w h1).mono fun e w' ⟨he, hw⟩ => ⟨_, he, _, rfl, ?_⟩
  subst hw
  exact ⟨⟨es, clock, At.new _ _, h2⟩, Nat.le_refl _, Ext.alloc _ _⟩
end
attribute [local irreducible] regK codeK retK KOp.wp K.Spec u32 leS vnS str zero32 sha2 encT idT sizeT checkT grantB idN stepR workL reachE
set_option maxHeartbeats 1000000 in
theorem gcopy_spec {g : Nat} {M : List Nat} {l : List Ent} (w : World) (hG : GrR w g M l) (hM : ∀ b ∈ M, b < w.heap.size) (hn : l.length ≤ 1000) : K.Spec Tryz.prog F.graph_Graph_Copy [.pointer (some ⟨g, 0, none⟩)] w fun r w' =>
    ∃ g' M', r = .pointer (some ⟨g', 0, none⟩) ∧ Gr w' w.heap.size g' M' l ∧ Ext w w' := by
  obtain ⟨b1, vo, b2, m, sp, hP⟩ := hG
  have rg : Row w ⟨g, 0, none⟩ [.map (some b1), vo, .map (some b2)] := Row.of_at hP.at_
  have q1 := hP.ents
  have q2 := hP.pts
  have q3 := hP.ord
  refine s_graph_Graph_Copy rfl ?_
  unfold k_graph_Graph_Copy
  refine ox ?_
  repeat' (first|(first|refine go1 ?_|refine zg (fun _ _=>?_)|refine zi (fun _ _=>?_))|refine st_both ?_ ?_|(refine zC rfl (clone69_spec (M := M) (m := m) _ (by exact fx)) ?_; rintro _ wa ⟨c1, rfl, p1, la, hc1, xa⟩; have sa := xa.size)|(refine zC rfl (clone71_spec (m := sp) _ (by exact fx)) ?_; rintro _ wc ⟨c2, rfl, p2, hc2, xc⟩; have lc := p2.lt; have sc := xc.size)|(refine zC rfl (cloneS_spec (M := []) (v := vo) (l := l.map (fun x : Ent => x.id)) _ (SlE.toR (F := strE) (ag := false) (SlE.ext (w := w) (by exact fx) q3) (by simp)) (by simp; omega) (by simp)) ?_; rintro v5 wb ⟨o5, xb⟩; have lb := o5.lt; have gb := o5.base; replace o5 := OwnR.toOwn o5; have sb := xb.size; obtain ⟨bb, cb, rfl⟩ := o5.sl.form)|(refine zD (cs := [.map (some c1), .slice bb (l.map (fun x : Ent => x.id)).length cb, .map (some c2)]) rfl rfl (fun bp wp xp ap rp hp0=>?_)))
  all_goals
    rename_i xz
    have s0 := xz.size
    have szp := xp.size
    have lp := ap.lt
    generalize Value.slice bb (l.map (fun x : Ent => x.id)).length cb = v5 at *
    have hmm : ∀ b ∈ mutG bp c1 c2 v5, w.heap.size ≤ b := fun b hb => by
      simp only [List.mem_cons] at hb
      rcases hb with rfl | rfl | rfl | hb
      · omega
      · omega
      · omega
      · have := gb b hb; omega
    refine x_ret rfl ⟨bp, _, rfl, ⟨c1, v5, c2, m, sp, ⟨ap, ?_, by exact fx, ?_, hP.inv, ?_, by omega, by omega, by omega⟩, rfl⟩, by exact fx⟩
    · exact (p1 _ (q1.step (show Ext w _ by exact fx) (by simp) (by simp) (fun b hb => .inr (hmm b hb)))).ext (by exact fx)
    · exact Own.lower (Own.ext (by exact fx) o5) (by omega)
    · have n5 : (blkOf v5).Nodup := by cases v5 <;> try exact List.nodup_nil
                                       rename_i b _ _; cases b <;> simp [blkOf]
      have : ∀ b ∈ blkOf v5, b ≠ bp ∧ b ≠ c1 ∧ b ≠ c2 := fun b hb => by have := gb b hb; have := lb b hb; omega
      simp only [List.nodup_cons, List.mem_cons, not_or]
      exact ⟨⟨by omega, by omega, fun h => (this _ h).1 rfl⟩, ⟨by omega, fun h => (this _ h).2.1 rfl⟩, fun h => (this _ h).2.2 rfl, n5⟩
end Go.Proofs.YtfeifodeaphbjaaGreat
end
section
namespace Go.Proofs.YtfeifodeaphbjaaGreat
open Go Go.K
attribute [local irreducible] regK codeK retK KOp.wp K.Spec u32 leS vnS str zero32 sha2 encT idT sizeT checkT grantB idN stepR workL reachE findI dropG addG spendI spends

/-- Blocks from B on keep their form. -/
def Shp (B : Nat) (w w' : World) : Prop := ∀ (b : Nat) (t : TypeId) (arr : List Value), B ≤ b → At w b (.cells arr.toArray t (0, 0)) → ∃ arr' : List Value, arr'.length = arr.length ∧ At w' b (.cells arr'.toArray t (0, 0))
theorem Shp.refl (B : Nat) (w : World) : Shp B w w := fun _ _ arr _ h => ⟨arr, rfl, h⟩
theorem Shp.ext {B : Nat} {w w1 w2 : World} (h : Shp B w w1) (c : Ext w1 w2) : Shp B w w2 := fun b t arr hb ha => by
  obtain ⟨a', e, h'⟩ := h b t arr hb ha
  exact ⟨a', e, h'.ext c⟩
theorem Shp.set {B b0 o : Nat} {t0 : TypeId} {cur : List Value} {v : Value} {w w1 w2 : World} (h : Shp B w w1) (c : Chg [b0] w1 w2) (h1 : At w1 b0 (.cells cur.toArray t0 (0, 0))) (h2 : At w2 b0 (.cells (cur.set o v).toArray t0 (0, 0))) : Shp B w w2 := by
  intro b t arr hb ha
  obtain ⟨a', e, h'⟩ := h b t arr hb ha
  by_cases hq : b = b0
  · subst hq
    unfold At at h' h1
    rw [h1] at h'
    simp only [Option.some.injEq, Obj.cells.injEq, Array.mk.injEq, and_true] at h'
    obtain ⟨rfl, rfl⟩ := h'
    exact ⟨_, by simp [e], h2⟩
  · exact ⟨a', e, h'.chg c (by simpa using hq)⟩
section
variable {P : Program} {r : KR} {K : Env → World → Prop} {ρ : Env} {w w6 : World}
/-- A store into an element of a slice that is no one else's. -/
theorem st_writeR {α : Type} {E : R α} {t : TypeId} {B size j o d1 d2 : Nat} {M : List Nat} {l : List α} {iv c : Value} {x i : Operand} (hx : ev ρ x = iv) (hi : ev ρ i = .int .i64 (j : Nat)) (o1 : OwnR E t B M w6 iv l) (hj : j < l.length) (hs : size = E.k) (ho : o < E.k) (sh : Shp B w6 w) (hc : c.oneCell' = true)
    (k : ∀ b v1 v2 w', b ∈ blkOf iv → B ≤ b → b < w6.heap.size → Chg [b] w w' → Shp B w6 w' → regK P r K (put (put (put ρ (some d1) v1) (some d2) v2) none undef) w') : regK P (.cons ⟨some d1, .indexAddr size x i, none⟩ (.cons ⟨some d2, .fieldAddr o (.tmp d1), none⟩ (.cons ⟨none, .store (.tmp d2) (.const c), none⟩ r))) K ρ w := by
  subst hs
  obtain ⟨b, cap, css, junk, rfl, hB, hat, hcl, hln, hall, hsl⟩ := o1.open (by omega)
  obtain ⟨arr, hal, hat'⟩ := sh b t _ hB hat
  have hlen : l.length * E.k ≤ arr.length := by
    rw [hal, List.length_append, Enc.flat_length, hcl]
    exact Nat.le_add_right _ _
  have hjo : j * E.k + o < arr.length := by
    have : (j + 1) * E.k ≤ l.length * E.k := Nat.mul_le_mul_right _ hj
    rw [Nat.add_mul] at this
    omega
  refine st_fix (v := .pointer (some (Addr.add ⟨b, 0, none⟩ (j * E.k)))) rfl (by simp [KOp.fix, hx, hi, hj]) ?_
  refine st_fix (v := .pointer (some (Addr.add ⟨b, 0, none⟩ (j * E.k + o)))) rfl (by simp only [KOp.fix, ev, put, upd_same]; rw [add_add]) ?_
  refine st_store (o := j * E.k + o) (by simp only [ev, put, upd_same]) rfl hc hat' hjo (fun w' h1 h2 => ?_)
  exact k b _ _ w' (by simp [blkOf]) hB hat.lt h1 (sh.set h1 hat' h2)
end
theorem is64_1 : is64 1 := by unfold is64; omega
set_option maxHeartbeats 4000000 in
theorem copy_law {v v2 : Value} {sc sc2 : List ActG} (w : World) (hs : SlR actR [] w v sc) (hs2 : SlR actR [] w v2 sc2) : K.Spec Tryz.prog F.kedgelaw14_GraphCopy [v, v2] w fun r w' => r = .bool true ∧ Ext w w' := by
  refine s_kedgelaw14_GraphCopy rfl ?_
  unfold k_kedgelaw14_GraphCopy
  refine ox ?_
  repeat' (first|(refine st_takeR (d := some 34) (E := actR) (n := min sc2.length 6) rfl rfl (by omega) hs2 (by omega) rfl (fun v' hv => ?_))|(first|refine go1 ?_|refine zg (fun _ _=>?_)|refine zi (fun _ _=>?_))|(refine zC rfl (filled_spec 8 _ (SlR.ext hs (by exact fx)) (by decide)) ?_; rintro _ w2 ⟨g, M, u, l, rfl, G2, hu, hl, x2⟩)|(refine zC rfl (gcopy_spec (M := M) (l := l) _ G2.r G2.lt (by omega)) ?_; rintro _ w3 ⟨c, Mc, rfl, Gc, x3⟩)|(refine zG (d := some 32) (E := actR) (M := []) (l := sc2) rfl (SlR.ext hs2 (by exact fx)) ?_)|(refine zG (d := some 35) (E := actR) (M := []) (l := sc2.take (min sc2.length 6)) rfl (SlR.ext hv (by exact fx)) ?_)|(refine st_min rfl rfl ?_))
  have hSl : (sc2.take (min sc2.length 6)).length ≤ 6 := by rw [List.length_take]; omega
  generalize sc2.take (min sc2.length 6) = S at *
  have hM2 := G2.lt
  have GR := G2.r
  have s2 := x2.size
  clear G2
  repeat' (first|(first|refine go1 ?_|refine zg (fun _ _=>?_)|refine zi (fun _ _=>?_))|(refine zL rfl (fun h => ?_) (fun h => ?_))|(refine c_loopV (fun (q : Nat × List Ent × List Nat) w' => Ext w2 w' ∧ q.1 ≤ S.length ∧ q.2.1.length ≤ 8 + q.1 ∧ Gr w' w2.heap.size c q.2.2 q.2.1) (fun q => [(5, .pointer (some ⟨g, 0, none⟩)), (6, u), (7, .pointer (some ⟨c, 0, none⟩)), (34, v'), (35, .int .i64 (S.length : Nat)), (36, .int .i64 q.1)]) (fun q => S.length - q.1) (0, l, Mc) ⟨rfl, rfl, rfl, rfl, rfl, rfl, trivial⟩ ⟨x3, by simp, by simp; omega, Gc⟩ ?_; rintro ⟨i, lc, N⟩ ρ w4 ⟨x4, hi, hlc, G4⟩; simp only at hi hlc G4; dsimp only; have hN4 := G4.lt; have hB4 := G4.base))
  · clear Gc x3
    have hil : i < S.length := by omega
    refine st_elemR (d := some 38) (E := actR) (M := N) rfl rfl (n := i) (l := S) (hv.step (x2.trans x4) (by simp) (fun b hb => .inr (Nat.le_trans s2 (hB4 b hb)))) rfl hil (fun ad cs r4 he => ?_)
    have hact := he
    obtain ⟨fv, iv, ov, rfl, q1, q2, q3, q4, q5, q6, q7, q8⟩ := he
    have i1 := q1.one
    have i2 := q2.one
    have i3 := q3.one
    generalize S[i] = a at *
    have s4 := x4.size
    repeat' (first|(first|refine go1 ?_|refine zg (fun _ _=>?_)|refine zi (fun _ _=>?_))|(refine zE (d' := 9) (fun _=>rfl) rfl rfl (by simp [actCs, i1, i2, i3]; exact ⟨rfl, rfl, rfl, rfl, rfl, rfl, rfl, rfl, rfl, rfl⟩) (fun b9 w9 x9 (a9 : At w9 b9 (.cells (actCs a fv iv ov).toArray T.kedgelaw14_Act (0, 0))) (r9 : Row w9 ⟨b9, 0, none⟩ (actCs a fv iv ov)) hb9=>?_))|(refine zC rfl (of_spec (M := N) (v := .slice none 0 0) (l := []) (cs := actCs a fv iv ov) (a := a) _ (SlR.nil _ _) (R.ext hact (by exact fx)) (by simp) (by simp) (fun b hb => Nat.lt_of_lt_of_le (hN4 b hb) (Ext.size (by exact fx)))) ?_; rintro _ w5 ⟨ds, t, rfl, ho, hsm, x5⟩))
    have s9 := x9.size
    have s5 := x5.size
    have t5 : txR.rel N w5 ds t := txO.rel ho (fun b hb => by have := hN4 b hb; omega)
    have G5 := G4.ext (x9.trans x5)
    have hN5 : ∀ b ∈ N, b < w5.heap.size := fun b hb => by have := hN4 b hb; omega
    have l9 := a9.lt
    have n9 : b9 ∉ N := fun h => by have := hN4 _ h; omega
    have a95 := a9.ext x5
    have x05 := x4.trans (x9.trans x5)
    clear ho G4 r9 hact q1 q2 q3
    refine zC rfl (gadd_spec (M := N) (N := N) (l := lc) (cs := ds) (t := t) 1 _ G5 t5 hsm is64_1 hN5 (fun _ h => h) (by omega)) ?_
    rintro _ w7 ⟨M7, rfl, G7, c7, hb7⟩
    have a97 := a95.chg c7 n9
    have r97 : Row w7 ⟨b9, 0, none⟩ (actCs a fv iv ov) := Row.of_at a97
    have x07 : Ext w2 w7 := (Ext.chg x05 c7).mono (fun b hb => .inr (hB4 b hb))
    have hla := @addG_le lc t 1
    have hB7 := G7.base
    generalize (addG lc t 1).1 = l7 at *
    clear G5 t5 x05 c7 a95 a97 x9 x5 x4 a9 r4
    repeat' (first|(refine st_fixV (d := some 51) (.int .i64 (a.which.toNat : Nat)) rfl (congrArg (fun n => some (Value.int .i64 n)) (wrap_u8 a.which)) ?_)|(refine st_rem (d := some 54) (n := a.which.toNat) (m := l.length) rfl rfl (by omega) ?_)|(first|refine go1 ?_|refine zg (fun _ _=>?_)|refine zi (fun _ _=>?_))|(refine zL rfl (fun h8 => ?_) (fun h8 => ?_))|(refine zG (E := entR) (M := M) (l := l) rfl (SlR.ext hu (by exact fx)) ?_)|(have hkl : a.which.toNat % l.length < l.length := Nat.mod_lt _ (by omega); refine st_elemR (d := some 55) (E := entR) (M := M) rfl rfl (n := a.which.toNat % l.length) (l := l) (SlR.ext hu x07) rfl hkl (fun ad cs r4 he => ?_); obtain ⟨iv9, ov9, rfl, -⟩ := he)|(refine zC rfl (gdrop_spec (M := M7) (l := l7) l[a.which.toNat % l.length].id _ G7 (by omega)) ?_; rintro _ w9 ⟨M9, rfl, G9, c9, hb9'⟩))
    · have hdl := @dropG_le l7 l[a.which.toNat % l.length].id
      exact ⟨(i + 1, (dropG l7 l[a.which.toNat % l.length].id).1, M9), ⟨rfl, rfl, rfl, rfl, rfl, rfl, trivial⟩, ⟨(Ext.chg x07 c9).mono (fun b hb => .inr (hB7 b hb)), by simp; omega, by simp only; omega, G9⟩, by simp; omega⟩
    · exact ⟨(i + 1, l7, M7), ⟨rfl, rfl, rfl, rfl, rfl, rfl, trivial⟩, ⟨x07, by simp; omega, by simp only; omega, G7⟩, by simp; omega⟩
  · clear h G4 hN4 hB4 hlc hi Gc x3 hv hSl
    have gr4 : GrR w4 g M l := GR.ext x4
    have hu4 := SlR.ext hu x4
    have hM4 : ∀ b ∈ M, b < w4.heap.size := fun b hb => Nat.lt_of_lt_of_le (hM2 b hb) x4.size
    have x04 : Ext w w4 := x2.trans x4
    clear GR hu hM2 x4 x2 s2
    repeat' (first|(first|refine go1 ?_|refine zg (fun _ _=>?_)|refine zi (fun _ _=>?_))|(refine zC rfl (all_own (M := M) (l := l) _ gr4 hM4 (by omega)) ?_; rintro va w6 ⟨o6, x6⟩)|(refine zG (E := entF w4.heap.size) (M := M) (l := l) rfl (o6.sl fun b hb h => by have := hM4 b hb; have := o6.base b h; omega) ?_))
    obtain ⟨css, oo, hall⟩ := o6
    have hcl := hall.length
    have hsl6 := oo.sl
    have hva : ∀ a m c, va = .slice (some a) m c → a.block ∈ blkOf va := fun a m c e => by rw [e]; simp [blkOf]
    have w6s := x6.size
    repeat' (first|(first|refine go1 ?_|refine zg (fun _ _=>?_)|refine zi (fun _ _=>?_))|(refine zL rfl (fun h => ?_) (fun h => ?_))|(refine c_loopV (fun (k : Nat) w' => Ext w4 w' ∧ k ≤ l.length ∧ Shp w4.heap.size w6 w' ∧ SlE (vecE (entF w4.heap.size).k (entF w4.heap.size).pos) w' va css ∧ w6.heap.size ≤ w'.heap.size) (fun k => [(5, .pointer (some ⟨g, 0, none⟩)), (6, u), (61, va), (62, .int .i64 (l.length : Nat)), (63, .int .i64 k)]) (fun k => l.length - k) 0 ⟨rfl, rfl, rfl, rfl, rfl, trivial⟩ ⟨x6, Nat.zero_le _, Shp.refl _ _, hsl6, Nat.le_refl _⟩ ?_; rintro k ρ w7 ⟨x7, hk, sh7, sl7, s67⟩))
    · have hkl : k < l.length := by omega
      obtain ⟨iv, ov, ec, o1, o2, o3, hd⟩ := hall.get k (by omega) hkl
      have i1 := o1.one
      have i2 := o2.one
      obtain ⟨bi, ci, ei⟩ := (o1.sl fun b hb => (hd b hb).1).form
      obtain ⟨bo, co, eo⟩ := (o2.sl fun b hb => (hd b hb).2).form
      have k1 : l[k].tx.ins.length ≤ 1000 := (chk_sm (gr4.ok _ (List.getElem_mem hkl)).check).ins
      have k2 : l[k].tx.outs.length ≤ 1000 := (chk_sm (gr4.ok _ (List.getElem_mem hkl)).check).outs
      generalize l[k] = x at *
      subst ei eo
      refine st_elemE (d := some 65) (E := vecE (entF w4.heap.size).k (entF w4.heap.size).pos) rfl rfl (n := k) (l := css) sl7 rfl (by omega) (fun ad r4 => ?_)
      have r4 : Row w7 ad (entCs x (.slice bi x.tx.ins.length ci) (.slice bo x.tx.outs.length co)) := by rw [← ec]; exact r4
      have i3 : ((entCs x (.slice bi x.tx.ins.length ci) (.slice bo x.tx.outs.length co)).all fun v => v.oneCell') = true := by simp [entCs, i1, i2]; first | done | exact ⟨rfl, rfl⟩ | exact ⟨rfl, rfl, rfl, rfl, rfl⟩
      repeat' (first|(first|refine go1 ?_|refine zg (fun _ _=>?_)|refine zi (fun _ _=>?_))|(refine zE (d' := 11) (fun _=>rfl) rfl rfl i3 (fun b8 w8 x8 (a8 : At w8 b8 (.cells (entCs x (.slice bi x.tx.ins.length ci) (.slice bo x.tx.outs.length co)).toArray T.api_Entry (0, 0))) r8 hb8=>?_)))
      have x48 := x7.trans x8
      have sh8 := sh7.ext x8
      have sl8 := SlE.ext x8 sl7
      have s68 := Nat.le_trans s67 x8.size
      clear x7 sh7 sl7 x8 r4
      repeat' (first|(refine st_writeR (d1 := 78) (d2 := 79) (E := inR) (iv := .slice bi x.tx.ins.length ci) (j := j) rfl rfl o1 (by omega) rfl (by decide) shj rfl (fun b v1 v2 w9 m1 m2 m3 c9 sh9 => ?_))|(refine st_writeR (d1 := 92) (d2 := 93) (E := outR) (iv := .slice bo x.tx.outs.length co) (j := j) rfl rfl o2 (by omega) rfl (by decide) shj rfl (fun b v1 v2 w9 m1 m2 m3 c9 sh9 => ?_))|(first|refine go1 ?_|refine zg (fun _ _=>?_)|refine zi (fun _ _=>?_))|(refine zL rfl (fun h => ?_) (fun h => ?_))|(refine c_loopV (fun (j : Nat) w' => Ext w4 w' ∧ j ≤ x.tx.ins.length ∧ Shp w4.heap.size w6 w' ∧ SlE (vecE (entF w4.heap.size).k (entF w4.heap.size).pos) w' va css ∧ w6.heap.size ≤ w'.heap.size ∧ At w' b8 (.cells (entCs x (.slice bi x.tx.ins.length ci) (.slice bo x.tx.outs.length co)).toArray T.api_Entry (0, 0))) (fun j => [(5, .pointer (some ⟨g, 0, none⟩)), (6, u), (11, .pointer (some ⟨b8, 0, none⟩)), (61, va), (62, .int .i64 (l.length : Nat)), (63, .int .i64 k), (69, .slice bi x.tx.ins.length ci), (70, .int .i64 (x.tx.ins.length : Nat)), (71, .int .i64 j)]) (fun j => x.tx.ins.length - j) 0 ⟨rfl, rfl, rfl, rfl, rfl, rfl, rfl, rfl, rfl, trivial⟩ ⟨x48, Nat.zero_le _, sh8, sl8, s68, a8⟩ ?_; clear x48 sh8 sl8 s68 r8 a8; rintro j ρ wj ⟨xj, hj, shj, slj, sj, aj⟩; have rj : Row wj ⟨b8, 0, none⟩ (entCs x (.slice bi x.tx.ins.length ci) (.slice bo x.tx.outs.length co)) := Row.of_at aj)|(refine c_loopV (fun (j : Nat) w' => Ext w4 w' ∧ j ≤ x.tx.outs.length ∧ Shp w4.heap.size w6 w' ∧ SlE (vecE (entF w4.heap.size).k (entF w4.heap.size).pos) w' va css ∧ w6.heap.size ≤ w'.heap.size ∧ At w' b8 (.cells (entCs x (.slice bi x.tx.ins.length ci) (.slice bo x.tx.outs.length co)).toArray T.api_Entry (0, 0))) (fun j => [(5, .pointer (some ⟨g, 0, none⟩)), (6, u), (11, .pointer (some ⟨b8, 0, none⟩)), (61, va), (62, .int .i64 (l.length : Nat)), (63, .int .i64 k), (83, .slice bo x.tx.outs.length co), (84, .int .i64 (x.tx.outs.length : Nat)), (85, .int .i64 j)]) (fun j => x.tx.outs.length - j) 0 ⟨rfl, rfl, rfl, rfl, rfl, rfl, rfl, rfl, rfl, trivial⟩ ⟨xj, Nat.zero_le _, shj, slj, sj, aj⟩ ?_; clear xj hj shj slj sj aj rj; rintro j ρ wj ⟨xj, hj, shj, slj, sj, aj⟩; have rj : Row wj ⟨b8, 0, none⟩ (entCs x (.slice bi x.tx.ins.length ci) (.slice bo x.tx.outs.length co)) := Row.of_at aj))
      · exact ⟨j + 1, ⟨rfl, rfl, rfl, rfl, rfl, rfl, rfl, rfl, rfl, trivial⟩, ⟨(Ext.chg xj c9).mono (fun b' hb => .inr (by simp only [List.nil_append, List.mem_singleton] at hb; subst hb; exact m2)), by omega, sh9, SlE.chg c9 slj (fun a m c e h => by simp only [List.mem_singleton] at h; exact (hd _ (List.mem_append_left _ (hva a m c e))).1 (by rw [h]; exact m1)), Nat.le_trans sj c9.size, aj.chg c9 (by simp only [List.mem_singleton]; omega)⟩, by omega⟩
      · exact ⟨j + 1, ⟨rfl, rfl, rfl, rfl, rfl, rfl, rfl, rfl, rfl, trivial⟩, ⟨(Ext.chg xj c9).mono (fun b' hb => .inr (by simp only [List.nil_append, List.mem_singleton] at hb; subst hb; exact m2)), by omega, sh9, SlE.chg c9 slj (fun a m c e h => by simp only [List.mem_singleton] at h; exact (hd _ (List.mem_append_left _ (hva a m c e))).2 (by rw [h]; exact m1)), Nat.le_trans sj c9.size, aj.chg c9 (by simp only [List.mem_singleton]; omega)⟩, by omega⟩
      · exact ⟨k + 1, ⟨rfl, rfl, rfl, rfl, rfl, trivial⟩, ⟨xj, by omega, shj, slj, sj⟩, by omega⟩
    · have gr7 := gr4.ext x7
      have hu7 := SlR.ext hu4 x7
      have hM7 : ∀ b ∈ M, b < w7.heap.size := fun b hb => Nat.lt_of_lt_of_le (hM4 b hb) x7.size
      have x07 : Ext w w7 := x04.trans x7
      clear gr4 hu4 x6 oo hall hsl6 x7 sh7 sl7 x04
      repeat' (first|(first|refine go1 ?_|refine zg (fun _ _=>?_)|refine zi (fun _ _=>?_))|(refine zC rfl (get_nil _ _) ?_; rintro _ w8 ⟨rfl, x8⟩)|(refine zE (d' := 15) (fun _=>rfl) rfl rfl rfl (fun b9 w9 x9 a9 r9 hb9=>?_))|(refine zC rfl (spender_nil ⟨⟨#[]⟩, 0⟩ _) ?_; rintro _ w10 ⟨rfl, x10⟩)|(refine zC rfl (out_nil ⟨⟨#[]⟩, 0⟩ _) ?_; rintro _ w11 ⟨rfl, x11⟩)|(refine zE (d' := 19) (vs := [.int .i64 0, .string ⟨#[]⟩]) (fun _=>rfl) rfl rfl rfl (fun b12 w12 x12 a12 r12 hb12=>?_))|(refine zI (d := some 115) (cs := [.string ⟨#[]⟩]) rfl (fun b13 w13 x13 a13 hb13 => ?_); have s13 := SlE.new (E := strE) (l := [⟨#[]⟩]) a13 rfl (Nat.le_refl _))|(refine zC rfl (sum_nil (ids := [⟨#[]⟩]) _ s13 (by decide)) ?_; rintro _ w14 ⟨rfl, x14⟩)|(refine zC rfl (wakes14_spec _) ?_; rintro _ w15 ⟨rfl, x15⟩)|(refine zC rfl (gsame_spec (M := M) (N := M) (l := l) _ (gr7.ext (by exact fx)) (fun b hb => Nat.lt_of_lt_of_le (hM7 b hb) (Ext.size (by exact fx))) (SlR.ext hu7 (by exact fx)) (by omega)) ?_; rintro _ w16 ⟨rfl, x16⟩)|(refine zC rfl (add_nil (t := ⟨0, [], [], 0⟩) (iv := .slice none 0 0) (ov := .slice none 0 0) rfl _ _) ?_; rintro _ w17 ⟨rfl, x17⟩)|(refine zC rfl (drop_nil _ _) ?_; rintro _ w18 ⟨rfl, x18⟩)|(refine zC rfl (all_nil _) ?_; rintro _ w19 ⟨rfl, x19⟩)|(refine zC rfl (above_nil (t := ⟨0, [], [], 0⟩) (iv := .slice none 0 0) (ov := .slice none 0 0) rfl _) ?_; rintro _ w20 ⟨rfl, x20⟩)|(refine zC rfl (below_nil _ _) ?_; rintro _ w21 ⟨rfl, x21⟩)|(refine zC rfl (copy_nil _) ?_; rintro _ w22 ⟨rfl, x22⟩))
      exact x_ret rfl ⟨rfl, by exact fx⟩
end Go.Proofs.YtfeifodeaphbjaaGreat
end
