/- The walk of TrimPlays. Contracts: a copy of a graph; nil graphs. The walk of TrimParts. -/
import Derived.Test.YteggaepppahefaaGreatE48
set_option linter.unusedVariables false
set_option linter.unusedSimpArgs false
section
namespace Go.Proofs.YteggaepppahefaaGreat
open Go Go.K
attribute [local irreducible] regK codeK retK KOp.wp K.Spec u32 leS vnS str zero32 sha2 encT idT sizeT checkT grantB idN stepR workL reachE findI dropG addG trimL scoreL scoreP worstI wS
set_option maxHeartbeats 4000000 in
theorem tplays_law {v : Value} {sc : List Small} (most : Int) (w : World) (hs : SlR smR [] w v sc) : K.Spec Tryz.prog F.kedgelaw19_TrimPlays [v, .int .i64 most] w fun r w' => r = .bool true ∧ Ext w w' := by
  have hmx : max 0 most = ((most.toNat : Nat) : Int) := by omega
  refine s_kedgelaw19_TrimPlays rfl ?_
  unfold k_kedgelaw19_TrimPlays
  refine ox ?_
  repeat' (first|(refine st_max (d := some 21) rfl rfl ?_; rw [hmx])|(refine st_rem (d := some 22) (n := most.toNat) (m := 1200) rfl rfl (by decide) ?_)|(refine zI (d := some 23) (cs := [.int .i64 most, .int .i64 ((most.toNat % 1200 : Nat) : Int)]) rfl (fun b1 w1 x1 a1 hb1 => ?_); have s1 := SlE.new (E := intE) (l := [most, ((most.toNat % 1200 : Nat) : Int)]) a1 rfl (Nat.le_refl _))|(first|refine go1 ?_|refine zg (fun _ _=>?_)|refine zi (fun _ _=>?_))|(refine zL rfl (fun h => ?_) (fun h => ?_))|(refine c_loopV (fun (i : Nat) w' => Ext w1 w' ∧ i ≤ 2) (fun i => [(0, v), (23, .slice (some ⟨b1, 0, none⟩) 2 2), (24, .int .i64 2), (25, .int .i64 i)]) (fun i => 2 - i) 0 ⟨rfl, rfl, rfl, rfl, trivial⟩ ⟨Ext.refl _, by omega⟩ ?_; rintro i ρ w3 ⟨x3, hi⟩))
  · have hil : i < [most, ((most.toNat % 1200 : Nat) : Int)].length := by simp; omega
    refine st_elemE (d := some 27) (E := intE) (l := [most, ((most.toNat % 1200 : Nat) : Int)]) rfl rfl (s1.ext x3) rfl hil (fun ad r4 => ?_)
    obtain ⟨n, hn⟩ : ∃ n, n = [most, ((most.toNat % 1200 : Nat) : Int)][i] := ⟨_, rfl⟩
    have r4 : Row w3 ad [Value.int .i64 n] := by rw [hn]; exact r4
    have hs3 : SlR smR [] w3 v sc := hs.ext (x1.trans x3)
    have s3 := x3.size
    repeat' (first|(first|refine go1 ?_|refine zg (fun _ _=>?_)|refine zi (fun _ _=>?_))|(refine zC (d := some 31) rfl (filled19_spec 12 _ (SlR.ext hs3 (by exact fx)) (by decide)) ?_; rintro _ w4 ⟨g, M, u, l, rfl, G4, u4, hl, x4⟩))
    have hM4 := G4.lt
    have hB4 := G4.base
    have hok := G4.ok
    have hnd := G4.nodup
    repeat' (first|(first|refine go1 ?_|refine zg (fun _ _=>?_)|refine zi (fun _ _=>?_))|(refine zC (d := some 37) rfl (trim_spec (U := []) (M := M) (l := l) n _ (GrU.of G4) (by simp) (by omega)) ?_; rintro _ w5 ⟨M5, v5, rfl, G5, o5, c5, hb5, hd5⟩))
    have u5 : SlR entR M5 w5 u l := u4.step c5 (fun b hb => .inl hb) hb5
    have G5 := G5.gr
    have hM5 := G5.lt
    have s5 : SlE strE w5 v5 (trimL n l).2.1 := o5.sl
    have x35 : Unit → Ext w3 w5 := fun _ => (x4.chg c5).mono (fun b hb => .inr (hB4 b hb))
    have hlt : (trimL n l).1.length ≤ 12 := Nat.le_trans (trim_sub hnd).length_le hl
    have hlt2 := trim_ids_len (m := n) hnd
    clear G4 u4 c5 o5 x4 hs3 r4
    repeat' (first|(first|refine go1 ?_|refine zg (fun _ _=>?_)|refine zi (fun _ _=>?_))|(refine zC (d := some 43) rfl (rtrim_spec (M := M5) (l := l) n _ (SlR.ext u5 (by exact fx)) (fun b hb => Nat.lt_of_lt_of_le (hM5 b hb) (Ext.size (by exact fx))) (by omega) hok hnd) ?_; rintro _ w6 ⟨vL, vG, rfl, sL, oG, x6⟩)|(refine zC (d := some 48) rfl (all_spec (M := M5) (l := (trimL n l).1) _ (G5.r.ext (by exact fx)) (fun b hb => Nat.lt_of_lt_of_le (hM5 b hb) (Ext.size (by exact fx))) (by omega)) ?_; rintro va w7 ⟨oa, x7⟩))
    have sG : SlE strE w6 vG (trimL n l).2.1 := oG.sl
    have sa : SlR entR [] w7 va (trimL n l).1 := (oa.sub (M' := []) (by simp)).sl (by simp)
    have sL0 : SlR entR [] w6 vL (trimL n l).1 := sL.sub (by simp)
    clear oa sL oG
    generalize trimL n l = q at *
    repeat' (first|(refine st_fixV (d := some 56) (.bool false) rfl (congrArg (fun b => some (Value.bool (!b))) (decide_eq_true (show q.2.2 = q.2.2 from rfl))) ?_)|(refine st_fixV (d := some 63) (.bool false) rfl (congrArg (fun b => some (Value.bool (!b))) (decide_eq_true (show ((q.1.length : Nat) : Int) = ((q.1.length : Nat) : Int) from rfl))) ?_)|(first|refine go1 ?_|refine zg (fun _ _=>?_)|refine zi (fun _ _=>?_))|(refine zC (d := some 51) rfl (equal_true (l := q.2.1) (m := q.2.1) _ (SlE.ext (by exact fx) s5) (SlE.ext (by exact fx) sG) rfl (by omega)) ?_; rintro _ w8 ⟨rfl, x8⟩)|(refine zG (d := some 60) (E := entR) (M := []) (l := q.1) rfl (SlR.ext sa (by exact fx)) ?_)|(refine zG (d := some 62) (E := entR) (M := []) (l := q.1) rfl (SlR.ext sL0 (by exact fx)) ?_)|(refine zG (d := some 66) (E := entR) (M := []) (l := q.1) rfl (SlR.ext sa (by exact fx)) ?_)|(refine zL rfl (fun h => ?_) (fun h => ?_))|(refine c_loopV (fun (j : Nat) w' => Ext w8 w' ∧ j ≤ q.1.length) (fun j => [(0, v), (23, .slice (some ⟨b1, 0, none⟩) 2 2), (24, .int .i64 2), (25, .int .i64 i), (11, vL), (65, va), (66, .int .i64 (q.1.length : Nat)), (67, .int .i64 j)]) (fun j => q.1.length - j) 0 ⟨rfl, rfl, rfl, rfl, rfl, rfl, rfl, rfl, trivial⟩ ⟨Ext.refl _, by omega⟩ ?_; rintro j ρ6 w9 ⟨x9, hj⟩)|(have hjl : j < q.1.length := (by omega); refine st_elemR (d := some 70) (E := entR) (M := []) rfl rfl (n := j) (l := q.1) (SlR.ext sa (by exact fx)) rfl hjl (fun ad cs r4 he => ?_); obtain ⟨iv, ov, rfl, q1, q2, q3⟩ := he; have i1 := q1.one; have i2 := q2.one)|(refine st_elemR (d := some 76) (E := entR) (M := []) rfl rfl (n := j) (l := q.1) (SlR.ext sL0 (by exact fx)) rfl hjl (fun ad cs r5 he => ?_); obtain ⟨iv5, ov5, rfl, -⟩ := he)|(refine st_local2 (d' := 16) (e := 15) (fun _=>rfl) (fun _=>rfl) rfl rfl rfl (by simp [entCs, i1, i2]; exact ⟨rfl, rfl, rfl, rfl, rfl⟩) (fun b6 w10 x10 a10 (r10 : Row w10 ⟨b6, 0, none⟩ (entCs q.1[j] iv ov)) hb6=>?_))|(refine zN rfl (fun h => absurd rfl h) (fun _ => ?_))|(refine st_both ?_ ?_))
    · exact ⟨j + 1, ⟨rfl, rfl, rfl, rfl, rfl, rfl, rfl, rfl, trivial⟩, ⟨by exact fx, by omega⟩, by omega⟩
    · simp only [List.length_cons, List.length_nil] at hil
      exact ⟨i + 1, ⟨rfl, rfl, rfl, rfl, trivial⟩, ⟨x3.trans ((x35 ()).trans (((x6.trans x7).trans x8).trans x9)), by omega⟩, by omega⟩
  · repeat' (first|(first|refine go1 ?_|refine zg (fun _ _=>?_)|refine zi (fun _ _=>?_))|(refine zC (d := some 83) rfl (trim_nil _) ?_; rintro _ w4 ⟨rfl, x4⟩)|(refine zC (d := some 86) rfl (wakes19_spec _) ?_; rintro _ w5 ⟨rfl, x5⟩))
    exact x_ret rfl ⟨rfl, by exact fx⟩
end Go.Proofs.YteggaepppahefaaGreat
end
section
namespace Go.Proofs.YteggaepppahefaaGreat
open Go Go.K
section
attribute [local irreducible] regK codeK retK KOp.wp u32 leS vnS str zero32 sha2 encT idT sizeT checkT grantB idN stepR workL reachE
theorem clone69_spec {mb : Nat} {M : List Nat} {m : List (ByteArray × Ent)} (w : World) (h : MapR sK entR M w mb m) : K.Spec Tryz.prog F.maps_Clone_map_string_api_Entry_string_api_Entry [.map (some mb)] w fun v w' => ∃ mb', v = .map (some mb') ∧ (∀ M', MapR sK entR M' w mb m → MapR sK entR M' w' mb' m) ∧ mb' < w'.heap.size ∧ w.heap.size ≤ mb' ∧ Ext w w' := by
  obtain ⟨mv, h1, h2⟩ := h
  obtain ⟨es, clock, h1, h3⟩ := h1
  refine (AnyW.maps_Clone Tryz.cloneMap59 mb es clock w h1).mono fun e w' ⟨he, hw⟩ => ⟨_, he, _, rfl, ?_⟩
  subst hw
  have hx := Ext.alloc w (.map es clock)
  refine ⟨fun M' h => ?_, (At.new w (.map es clock)).lt, Nat.le_refl _, hx⟩
  obtain ⟨mv, k1, h2⟩ := h
  obtain ⟨es', clock', k1, h3⟩ := k1
  have e : Obj.map es clock = Obj.map es' clock' := Option.some.inj ((show w.heap[mb]? = some (.map es clock) from h1).symm.trans k1)
  cases e
  exact ⟨mv, ⟨es, clock, At.new _ _, h3⟩, h2.mono fun _ _ ⟨e, cs, e2, hr⟩ => ⟨e, cs, e2, R.ext hr hx⟩⟩
theorem clone71_spec {mb : Nat} {m : List (Pt × ByteArray)} (w : World) (h : MapE ptK Value.string w mb m) : K.Spec Tryz.prog F.maps_Clone_map_api_Point_string_api_Point_string [.map (some mb)] w fun v w' => ∃ mb', v = .map (some mb') ∧ MapE ptK Value.string w' mb' m ∧ w.heap.size ≤ mb' ∧ Ext w w' := by
  obtain ⟨es, clock, h1, h2⟩ := h
  refine (AnyW.maps_Clone Tryz.cloneMap61 mb es clock w h1).mono fun e w' ⟨he, hw⟩ => ⟨_, he, _, rfl, ?_⟩
  subst hw
  exact ⟨⟨es, clock, At.new _ _, h2⟩, Nat.le_refl _, Ext.alloc _ _⟩
end
attribute [local irreducible] regK codeK retK KOp.wp K.Spec u32 leS vnS str zero32 sha2 encT idT sizeT checkT grantB idN stepR workL reachE
set_option maxHeartbeats 1000000 in
theorem gcopy_spec {g : Nat} {M : List Nat} {l : List Ent} (w : World) (hG : GrR w g M l) (hM : ∀ b ∈ M, b < w.heap.size) (hn : l.length ≤ 1000) : K.Spec Tryz.prog F.graph_Graph_Copy [.pointer (some ⟨g, 0, none⟩)] w fun r w' =>
    ∃ g' M', r = .pointer (some ⟨g', 0, none⟩) ∧ Gr w' w.heap.size g' M' l ∧ Ext w w' := by
  obtain ⟨b1, vo, b2, m, sp, hP⟩ := hG
  have rg : Row w ⟨g, 0, none⟩ [.map (some b1), vo, .map (some b2)] := Row.of_at hP.at_
  have q1 := hP.ents
  have q2 := hP.pts
  have q3 := hP.ord
  refine s_graph_Graph_Copy rfl ?_
  unfold k_graph_Graph_Copy
  refine ox ?_
  repeat' (first|(first|refine go1 ?_|refine zg (fun _ _=>?_)|refine zi (fun _ _=>?_))|refine st_both ?_ ?_|(refine zC rfl (clone69_spec (M := M) (m := m) _ (by exact fx)) ?_; rintro _ wa ⟨c1, rfl, p1, la, hc1, xa⟩; have sa := xa.size)|(refine zC rfl (clone71_spec (m := sp) _ (by exact fx)) ?_; rintro _ wc ⟨c2, rfl, p2, hc2, xc⟩; have lc := p2.lt; have sc := xc.size)|(refine zC rfl (cloneS_spec (M := []) (v := vo) (l := l.map (fun x : Ent => x.id)) _ (SlE.toR (F := strE) (ag := false) (SlE.ext (w := w) (by exact fx) q3) (by simp)) (by simp; omega) (by simp)) ?_; rintro v5 wb ⟨o5, xb⟩; have lb := o5.lt; have gb := o5.base; replace o5 := OwnR.toOwn o5; have sb := xb.size; obtain ⟨bb, cb, rfl⟩ := o5.sl.form)|(refine zD (cs := [.map (some c1), .slice bb (l.map (fun x : Ent => x.id)).length cb, .map (some c2)]) rfl rfl (fun bp wp xp ap rp hp0=>?_)))
  all_goals
    rename_i xz
    have s0 := xz.size
    have szp := xp.size
    have lp := ap.lt
    generalize Value.slice bb (l.map (fun x : Ent => x.id)).length cb = v5 at *
    have hmm : ∀ b ∈ mutG bp c1 c2 v5, w.heap.size ≤ b := fun b hb => by
      simp only [List.mem_cons] at hb
      rcases hb with rfl | rfl | rfl | hb
      · omega
      · omega
      · omega
      · have := gb b hb; omega
    refine x_ret rfl ⟨bp, _, rfl, ⟨c1, v5, c2, m, sp, ⟨ap, ?_, by exact fx, ?_, hP.inv, ?_, by omega, by omega, by omega⟩, rfl⟩, by exact fx⟩
    · exact (p1 _ (q1.step (show Ext w _ by exact fx) (by simp) (by simp) (fun b hb => .inr (hmm b hb)))).ext (by exact fx)
    · exact Own.lower (Own.ext (by exact fx) o5) (by omega)
    · have n5 : (blkOf v5).Nodup := by cases v5 <;> try exact List.nodup_nil
                                       rename_i b _ _; cases b <;> simp [blkOf]
      have : ∀ b ∈ blkOf v5, b ≠ bp ∧ b ≠ c1 ∧ b ≠ c2 := fun b hb => by have := gb b hb; have := lb b hb; omega
      simp only [List.nodup_cons, List.mem_cons, not_or]
      exact ⟨⟨by omega, by omega, fun h => (this _ h).1 rfl⟩, ⟨by omega, fun h => (this _ h).2.1 rfl⟩, fun h => (this _ h).2.2 rfl, n5⟩
end Go.Proofs.YteggaepppahefaaGreat
end
section
namespace Go.Proofs.YteggaepppahefaaGreat
open Go Go.K
attribute [local irreducible] regK codeK retK KOp.wp K.Spec u32 leS vnS str zero32 sha2 encT idT sizeT checkT grantB idN stepR workL reachE
set_option maxHeartbeats 1000000 in
/-- A copy of a graph: beside the graph. -/
theorem gcopy_u {g : Nat} {M : List Nat} {l : List Ent} (w : World) (hG : GrR w g M l) (hM : ∀ b ∈ M, b < w.heap.size) (hn : l.length ≤ 1000) : K.Spec Tryz.prog F.graph_Graph_Copy [.pointer (some ⟨g, 0, none⟩)] w fun r w' =>
    ∃ g' M', r = .pointer (some ⟨g', 0, none⟩) ∧ GrU w' w.heap.size g' M' M l ∧ Ext w w' := by
  obtain ⟨b1, vo, b2, m, sp, hP⟩ := hG
  have rg : Row w ⟨g, 0, none⟩ [.map (some b1), vo, .map (some b2)] := Row.of_at hP.at_
  have q1 := hP.ents
  have q2 := hP.pts
  have q3 := hP.ord
  refine s_graph_Graph_Copy rfl ?_
  unfold k_graph_Graph_Copy
  refine ox ?_
  repeat' (first|(first|refine go1 ?_|refine zg (fun _ _=>?_)|refine zi (fun _ _=>?_))|refine st_both ?_ ?_|(refine zC rfl (clone69_spec (M := M) (m := m) _ (by exact fx)) ?_; rintro _ wa ⟨c1, rfl, p1, la, hc1, xa⟩; have sa := xa.size)|(refine zC rfl (clone71_spec (m := sp) _ (by exact fx)) ?_; rintro _ wc ⟨c2, rfl, p2, hc2, xc⟩; have lc := p2.lt; have sc := xc.size)|(refine zC rfl (cloneS_spec (M := []) (v := vo) (l := l.map (fun x : Ent => x.id)) _ (SlE.toR (F := strE) (ag := false) (SlE.ext (w := w) (by exact fx) q3) (by simp)) (by simp; omega) (by simp)) ?_; rintro v5 wb ⟨o5, xb⟩; have lb := o5.lt; have gb := o5.base; replace o5 := OwnR.toOwn o5; have sb := xb.size; obtain ⟨bb, cb, rfl⟩ := o5.sl.form)|(refine zD (cs := [.map (some c1), .slice bb (l.map (fun x : Ent => x.id)).length cb, .map (some c2)]) rfl rfl (fun bp wp xp ap rp hp0=>?_)))
  all_goals
    rename_i xz
    have s0 := xz.size
    have szp := xp.size
    have lp := ap.lt
    generalize Value.slice bb (l.map (fun x : Ent => x.id)).length cb = v5 at *
    have hmm : ∀ b ∈ mutG bp c1 c2 v5, w.heap.size ≤ b := fun b hb => by
      simp only [List.mem_cons] at hb
      rcases hb with rfl | rfl | rfl | hb
      · omega
      · omega
      · omega
      · have := gb b hb; omega
    have oo := Own.lower (B' := w.heap.size) (Own.ext (show Ext _ wp by exact fx) o5) (by omega)
    refine x_ret rfl ⟨bp, mutG bp c1 c2 v5, rfl, ⟨⟨c1, v5, c2, m, sp, ⟨ap, ?_, by exact fx, oo, hP.inv, ?_, by omega, by omega, by omega⟩, rfl⟩, ⟨c1, v5, c2, m, sp, ⟨ap, ?_, by exact fx, oo.sl, hP.inv⟩⟩, fun b hb h => by have := hM b h; have := hmm b hb; omega⟩, by exact fx⟩
    · exact (p1 _ (q1.step (show Ext w _ by exact fx) (by simp) (by simp) (fun b hb => .inr (hmm b hb)))).ext (by exact fx)
    · have n5 : (blkOf v5).Nodup := by cases v5 <;> try exact List.nodup_nil
                                       rename_i b _ _; cases b <;> simp [blkOf]
      have : ∀ b ∈ blkOf v5, b ≠ bp ∧ b ≠ c1 ∧ b ≠ c2 := fun b hb => by have := gb b hb; have := lb b hb; omega
      simp only [List.nodup_cons, List.mem_cons, not_or]
      exact ⟨⟨by omega, by omega, fun h => (this _ h).1 rfl⟩, ⟨by omega, fun h => (this _ h).2.1 rfl⟩, fun h => (this _ h).2.2 rfl, n5⟩
    · exact (p1 _ (q1.step (show Ext w _ by exact fx) (by simp) (by simp) (fun b hb => (List.mem_append.1 hb).imp id (hmm b)))).ext (by exact fx)
attribute [local irreducible] findI dropG addG trimL scoreL scoreP worstI wS
set_option maxHeartbeats 4000000 in
theorem tparts_law {v : Value} {sc : List Small} (x y : Int) (w : World) (hs : SlR smR [] w v sc) : K.Spec Tryz.prog F.kedgelaw19_TrimParts [v, .int .u16 x, .int .u16 y] w fun r w' => r = .bool true ∧ Ext w w' := by
  obtain ⟨n0, hn0⟩ : ∃ n0, n0 = (IntKind.i64.wrap (if y > x then y else x)).tmod 1500 := ⟨_, rfl⟩
  obtain ⟨m0, hm0⟩ : ∃ m0, m0 = (IntKind.i64.wrap (if y < x then y else x)).tmod 1500 := ⟨_, rfl⟩
  refine s_kedgelaw19_TrimParts rfl ?_
  unfold k_kedgelaw19_TrimParts
  refine ox ?_
  repeat' (first|(refine st_fixV (d := some 29) (.int .u16 (if y > x then y else x)) rfl rfl ?_)|(refine st_fixV (d := some 30) (.int .i64 (IntKind.i64.wrap (if y > x then y else x))) rfl rfl ?_)|(refine st_fixV (d := some 31) (.int .i64 n0) rfl (by rw [hn0]; rfl) ?_)|(refine st_fixV (d := some 34) (.int .u16 (if y < x then y else x)) rfl rfl ?_)|(refine st_fixV (d := some 35) (.int .i64 (IntKind.i64.wrap (if y < x then y else x))) rfl rfl ?_)|(refine st_fixV (d := some 36) (.int .i64 m0) rfl (by rw [hm0]; rfl) ?_)|(refine st_max (d := some 39) rfl rfl ?_)|(first|refine go1 ?_|refine zg (fun _ _=>?_)|refine zi (fun _ _=>?_))|(refine zC (d := some 22) rfl (filled19_spec 12 _ (SlR.ext hs (by exact fx)) (by decide)) ?_; rintro _ w2 ⟨g, M, u, l, rfl, G2, u2, hl, x2⟩; have hM2 := G2.lt; have hB2 := G2.base)|(refine zC (d := some 26) rfl (gcopy_u (M := M) (l := l) _ (G2.r.ext (by exact fx)) (fun b hb => Nat.lt_of_lt_of_le (hM2 b hb) (Ext.size (by exact fx))) (by omega)) ?_; rintro _ w3 ⟨hg, Mc, rfl, H3, x3⟩))
  have hnd := G2.nodup
  have hBc := H3.gr.base
  have hMc := H3.gr.lt
  have G3 : GrU w3 w.heap.size g M Mc l := (GrU.of G2).more x3 (fun b hb => .inr (hBc b hb))
  obtain ⟨n, hn⟩ : ∃ n, n = max n0 m0 := ⟨_, rfl⟩
  obtain ⟨m, hm⟩ : ∃ m, m = min n0 m0 := ⟨_, rfl⟩
  have hmn : m ≤ n := by omega
  rw [← hn, ← hm]
  have s3 := x3.size
  clear G2 u2
  repeat' (first|refine go1 ?_|refine zg (fun _ _=>?_)|refine zi (fun _ _=>?_))
  refine zC (d := some 46) rfl (trim_spec (U := Mc) (M := M) (l := l) n _ G3 hMc (by omega)) ?_
  rintro _ w4 ⟨M4, v4, rfl, G4, o4, c4, hb4, hd4⟩
  have H4 := H3.chg c4 hb4
  have hnd4 := G4.gr.nodup
  have hp := trim_parts hmn hnd
  have hl4 : (trimL n l).1.length ≤ 12 := Nat.le_trans (trim_sub hnd).length_le hl
  have i4 := trim_ids_len (m := n) hnd
  have s4 := c4.size
  have hB4 := o4.base
  repeat' (first|refine go1 ?_|refine zg (fun _ _=>?_)|refine zi (fun _ _=>?_))
  refine zC (d := some 52) rfl (trim_spec (U := Mc) (M := M4) (l := (trimL n l).1) m _ G4 (fun b hb => Nat.lt_of_lt_of_le (hMc b hb) c4.size) (by omega)) ?_
  rintro _ w5 ⟨M5, v5, rfl, G5, o5, c5, hb5, hd5⟩
  have H5 := H4.chg c5 hb5
  have o45 := o4.chg c5 hd4
  have hnd5 := G5.gr.nodup
  have i5 := trim_ids_len (m := m) hnd4
  have hl5 : (trimL m (trimL n l).1).1.length ≤ 12 := Nat.le_trans (trim_sub hnd4).length_le hl4
  have s5 := c5.size
  have hB5 := o5.base
  repeat' (first|refine go1 ?_|refine zg (fun _ _=>?_)|refine zi (fun _ _=>?_))
  refine zC (d := some 58) rfl (trim_spec (U := M5) (M := Mc) (l := l) m _ H5 G5.gr.lt (by omega)) ?_
  rintro _ w6 ⟨M6, v6, rfl, H6, o6, c6, hb6, hd6⟩
  have G6 := G5.chg c6 hb6
  have o46 := o45.chg c6 (fun b hb h => by have := hMc b h; have := hB4 b hb; omega)
  have o56 := o5.chg c6 (fun b hb h => by have := hMc b h; have := hB5 b hb; omega)
  have i6 := trim_ids_len (m := m) hnd
  have hagain := trim_again (m := m) hnd4
  have s6 := c6.size
  have C26 : Ext w w6 := by
    have k1 : Chg M w2 w4 := Ext.chg x3 c4
    have k2 : Chg M w2 w5 := (k1.trans c5).mono (fun b hb => (List.mem_append.1 hb).elim .inl (fun h => (hb4 b h).imp id (fun h => by omega)))
    have k3 : Chg M w2 w6 := (k2.trans c6).mono (fun b hb => (List.mem_append.1 hb).elim .inl (fun h => .inr (hBc b h)))
    exact (x2.chg k3).mono (fun b hb => .inr (hB2 b hb))
  rw [hp] at H6 o6 i6
  rw [hp]
  generalize trimL m (trimL n l).1 = q2 at *
  generalize trimL n l = q1 at *
  have e4 : SlE strE w6 v4 q1.2.1 := o46.sl
  have e5 : SlE strE w6 v5 q2.2.1 := o56.sl
  have e6 : SlE strE w6 v6 (q1.2.1 ++ q2.2.1) := o6.sl
  clear G4 G5 H4 H5 H3 c4 c5 c6 o4 o5 o45 o46 o56 o6 x3 G3
  repeat' (first|refine go1 ?_|refine zg (fun _ _=>?_)|refine zi (fun _ _=>?_))
  refine st_appendX (d := some 62) (E := strE) (t := T.string) (B := w6.heap.size) (v := .slice none 0 0) (l := []) (l2 := q1.2.1) rfl (Own.nil _ _ _) (Nat.le_refl _) rfl rfl e4.cells rfl rfl (by simp only [List.length_nil]; omega) (fun v7 w7 o7 _ c7 hb7 => ?_)
  have x7 : Ext w6 w7 := c7
  have e57 := e5.ext x7
  repeat' (first|refine go1 ?_|refine zg (fun _ _=>?_)|refine zi (fun _ _=>?_))
  refine st_appendX (d := some 64) (E := strE) (t := T.string) (B := w6.heap.size) (v := v7) (l2 := q2.2.1) rfl o7 x7.size rfl rfl e57.cells rfl rfl (by simp only [List.nil_append]; omega) (fun v8 w8 o8 _ c8 hb8 => ?_)
  have x8 : Ext w6 w8 := (x7.chg c8).mono (fun b hb => .inr (o7.base b hb))
  have e8 : SlE strE w8 v8 (q1.2.1 ++ q2.2.1) := o8.sl
  have e68 := e6.ext x8
  have G8 := G6.ext x8
  have H8 := H6.ext x8
  have C8 : Ext w w8 := C26.trans x8
  have hM8 := G8.gr.lt
  have hN8 := H8.gr.lt
  clear x7 c8 c7 o7 o8 e57 e4 e5 e6 G6 H6 x8 C26
  repeat' (first|(refine st_max (d := some 71) rfl rfl ?_)|(refine st_fixV (d := some 73) (.bool false) rfl (congrArg (fun b => some (Value.bool (!b))) (decide_eq_true (show max q1.2.2 q2.2.2 = max q1.2.2 q2.2.2 from rfl))) ?_)|(refine st_fixV (d := some 82) (.bool false) rfl (congrArg (fun b => some (Value.bool (!b))) (decide_eq_true (show ((q2.1.length : Nat) : Int) = ((q2.1.length : Nat) : Int) from rfl))) ?_)|(first|refine go1 ?_|refine zg (fun _ _=>?_)|refine zi (fun _ _=>?_))|(refine zC (d := some 66) rfl (equal_true (l := q1.2.1 ++ q2.2.1) (m := q1.2.1 ++ q2.2.1) _ e8 e68 rfl (by simp only [List.length_append]; omega)) ?_; rintro _ w9 ⟨rfl, x9⟩)|(refine zC (d := some 77) rfl (all_spec (M := M5) (l := q2.1) _ (G8.gr.r.ext (by exact fx)) (fun b hb => Nat.lt_of_lt_of_le (hM8 b hb) (Ext.size (by exact fx))) (by omega)) ?_; rintro va w10 ⟨oa, x10⟩; have sa : SlR entR [] w10 va q2.1 := (oa.sub (M' := []) (by simp)).sl (by simp))|(refine zG (d := some 78) (E := entR) (M := []) (l := q2.1) rfl (SlR.ext sa (by exact fx)) ?_)|(refine zC (d := some 80) rfl (all_spec (M := M6) (l := q2.1) _ (H8.gr.r.ext (by exact fx)) (fun b hb => Nat.lt_of_lt_of_le (hN8 b hb) (Ext.size (by exact fx))) (by omega)) ?_; rintro vb w11 ⟨ob, x11⟩; have sb : SlR entR [] w11 vb q2.1 := (ob.sub (M' := []) (by simp)).sl (by simp))|(refine zG (d := some 81) (E := entR) (M := []) (l := q2.1) rfl (SlR.ext sb (by exact fx)) ?_))
  have x811 : Ext w8 w11 := (x9.trans x10).trans x11
  refine zC (d := some 87) rfl (trim_spec (U := []) (M := M5) (l := q2.1) m _ (GrU.of (G8.gr.ext x811)) (by simp) (by omega)) ?_
  rintro _ w12 ⟨M12, v12, rfl, G12, o12, c12, hb12, hd12⟩
  rw [hagain] at o12
  rw [hagain]
  have hB5 := G8.gr.base
  have x12 : Ext w w12 := ((C8.trans x811).chg c12).mono (fun b hb => .inr (hB5 b hb))
  have e12 : SlE strE w12 v12 [] := o12.sl
  clear c12 x811 C8 x9 x10 x11 sa sb
  repeat' (first|(first|refine go1 ?_|refine zg (fun _ _=>?_)|refine zi (fun _ _=>?_))|(refine zC (d := some 90) rfl (wakes19_spec _) ?_; rintro _ w13 ⟨rfl, x13⟩)|(refine st_len (d := some 93) (E := strE) (l := []) rfl (SlE.ext (by exact fx) e12) ?_))
  exact x_ret rfl ⟨rfl, by exact fx⟩
end Go.Proofs.YteggaepppahefaaGreat
end
