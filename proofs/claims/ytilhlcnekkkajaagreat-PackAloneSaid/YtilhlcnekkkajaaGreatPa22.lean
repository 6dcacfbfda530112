/- Contracts: what a graph answers. Contracts: what a graph answers: spenders, outputs, all entries; parents and children. Contracts: parents and children of an entry. Plain: a search step by step, with counts. -/
import Derived.Test.YtilhlcnekkkajaaGreatPa21
set_option linter.unusedVariables false
set_option linter.unusedSimpArgs false
section
namespace Go.Proofs.YtilhlcnekkkajaaGreat
open Go Go.K
attribute [local irreducible] regK codeK retK KOp.wp K.Spec u32 leS vnS str zero32 sha2 encT idT sizeT checkT grantB idN hangs stepR findI spends

abbrev getE (l : List Ent) (id : ByteArray) : Ent := (l.find? fun x => decide (x.id = id)).getD default
abbrev hasE (l : List Ent) (id : ByteArray) : Bool := l.any fun x => decide (x.id = id)
theorem find_any {α : Type} {p : α → Bool} {l : List α} : (l.find? p).isSome = l.any p := by
  rw [Bool.eq_iff_iff, List.find?_isSome, List.any_eq_true]
theorem has_some {l : List Ent} {id : ByteArray} {y : Ent} (h : (l.find? fun x => decide (x.id = id)) = some y) : hasE l id = true ∧ getE l id = y ∧ y ∈ l ∧ y.id = id := by
  have h1 := find_any (p := fun x : Ent => decide (x.id = id)) (l := l)
  rw [h] at h1
  exact ⟨h1.symm, by unfold getE; rw [h]; rfl, List.mem_of_find?_eq_some h, by simpa using List.find?_some h⟩
theorem has_none {l : List Ent} {id : ByteArray} (h : (l.find? fun x => decide (x.id = id)) = none) : hasE l id = false ∧ getE l id = default := by
  have h1 := find_any (p := fun x : Ent => decide (x.id = id)) (l := l)
  rw [h] at h1
  exact ⟨h1.symm, by unfold getE; rw [h]; rfl⟩
theorem is32_0 : is32 0 := by unfold is32; omega
theorem is64_0 : is64 0 := by unfold is64; omega
set_option maxHeartbeats 2000000 in
theorem get_spec {g : Nat} {M : List Nat} {l : List Ent} (id : ByteArray) (w : World) (hG : GrR w g M l) (hlt : ∀ b ∈ M, b < w.heap.size) : K.Spec Tryz.prog F.graph_Graph_Get [.pointer (some ⟨g, 0, none⟩), .string id] w fun r w' =>
    ∃ ds, r = .tuple #[.agg ds.toArray, .bool (hasE l id)] ∧ entO w.heap.size M w' ds (getE l id) ∧ Ext w w' := by
  obtain ⟨b1, vo, b2, m, sp, hP⟩ := hG
  have rg : Row w ⟨g, 0, none⟩ [.map (some b1), vo, .map (some b2)] := Row.of_at hP.at_
  have hinv := hP.inv
  refine s_graph_Graph_Get rfl ?_
  unfold k_graph_Graph_Get
  refine oy ?_
  repeat (first|refine go ?_|refine zg (fun _ _=>?_)|refine zi (fun _ _=>?_))
  refine zH (fun b4 w4 x4 a4 hb4 => ?_)
  have l4 := a4.lt
  have hmap : MapR sK entR ([b4] ++ M) w4 b1 m := hP.ents.step x4 (by simp) (by simp) (mem_app (fun b hb => by simp at hb; omega))
  repeat' (first|(first|refine go1 ?_|refine zg (fun _ _=>?_)|refine zi (fun _ _=>?_))|(refine st_lookupR (z := .agg (entCs default (.slice none 0 0) (.slice none 0 0)).toArray) (KE := sK) (F := entR) (k := id) rfl rfl hmap rfl rfl (fun y cs hy hr => ?_) (fun hn => ?_)))
  · rw [hinv.ent] at hy
    obtain ⟨e1, e2, e3, e4⟩ := has_some hy
    rw [e1, e2]
    have hsm : y.tx.Sm := chk_sm (hinv.ok y e3).check
    obtain ⟨iv, ov, rfl, h1, h2, h3⟩ := hr
    repeat (first|refine go ?_|refine zg (fun _ _=>?_)|refine zi (fun _ _=>?_))
    refine zE (fun _=>rfl) rfl rfl (by show (entCs y iv ov).all _ = true; simp [entCs, h1.one, h2.one]; exact ⟨rfl, rfl, rfl, rfl, rfl⟩) (fun b6 w6 x6 a6 (r6 : Row w6 ⟨b6, 0, none⟩ (entCs y iv ov)) hb6=>?_)
    have l6 := a6.lt
    have s4 := x4.size
    have s6 := x6.size
    have hmem : ∀ b ∈ [b6] ++ ([b4] ++ M), b ∈ [b4] ++ M ∨ w4.heap.size ≤ b := mem_app (fun b hb => by simp at hb; omega)
    have h16 : SlR inR ([b6] ++ ([b4] ++ M)) w6 iv y.tx.ins := h1.step x6 (by simp) hmem
    have h26 : SlR outR ([b6] ++ ([b4] ++ M)) w6 ov y.tx.outs := h2.step x6 (by simp) hmem
    have hM6 : ∀ b ∈ [b6] ++ ([b4] ++ M), b < w6.heap.size := fun b hb => by
      simp only [List.mem_append, List.mem_singleton] at hb
      rcases hb with h | h | h
      · omega
      · omega
      · have := hlt b h; omega
    repeat (first|refine go ?_|refine zg (fun _ _=>?_)|refine zi (fun _ _=>?_))
    refine zC rfl (txcopy_spec (M := [b6] ++ ([b4] ++ M)) (cs := txCs y.tx iv ov) (t := y.tx) _ ⟨iv, ov, rfl, h16, h26, h3.1, h3.2.1⟩ hsm hM6) ?_
    rintro _ w7 ⟨cs7, rfl, ⟨iv7, ov7, rfl, o1, o2, o3⟩, x7⟩
    repeat (first|refine go ?_|refine zg (fun _ _=>?_)|refine zi (fun _ _=>?_))
    have g1 := o1.base
    have g2 := o2.base
    have e1 := o1.one
    have e2 := o2.one
    have s7 := x7.size
    refine st_storeN (o := 0) (b := b6) (cur := entCs y iv ov) (vs := txCs y.tx iv7 ov7) rfl rfl rfl (all_one (by simp [txCs, e1, e2]; exact ⟨rfl, rfl⟩)) (At.ext x7 a6) (Nat.le_of_ble_eq_true rfl) (fun w8 c8 a8 => ?_)
    have a8 : At w8 b6 (.cells (entCs y iv7 ov7).toArray T.api_Entry (0, 0)) := a8
    have r8 : Row w8 ⟨b6, 0, none⟩ (entCs y iv7 ov7) := Row.of_at a8
    have x8 : Unit → Ext w w8 := fun _ => (Ext.chg ((x4.trans x6).trans x7) c8).mono (by intro q hq; simp at hq; right; omega)
    have s8 := c8.size
    have a48 := At.chg c8 (At.ext x7 (At.ext x6 a4)) (by simp; omega)
    have h61 : b6 ∉ blkOf iv7 := fun h => by have := g1 _ h; omega
    have h62 : b6 ∉ blkOf ov7 := fun h => by have := g2 _ h; omega
    have p1 := o1.step (M' := [b4] ++ M) c8 (by intro q hq; simp at hq; subst hq; exact ⟨h61, .inl (by simp)⟩) (fun _ h => .inl (List.mem_append_right _ h))
    have p2 := o2.step (M' := [b4] ++ M) c8 (by intro q hq; simp at hq; subst hq; exact ⟨h62, .inl (by simp)⟩) (fun _ h => .inl (List.mem_append_right _ h))
    clear c8 x7 x6
    repeat (first|refine go ?_|refine zg (fun _ _=>?_)|refine zi (fun _ _=>?_))
    refine st_setN (w0 := w) (vs := entCs y iv7 ov7) (x8 ()) (by omega) a48 rfl rfl rfl rfl (by simp [entCs, e1, e2]; exact ⟨rfl, rfl, rfl, rfl, rfl⟩) (fun w9 x9 c9 a9 r9 => ?_)
    repeat (first|refine go ?_|refine zg (fun _ _=>?_)|refine zi (fun _ _=>?_))
    have h41 : b4 ∉ blkOf iv7 := fun h => by have := g1 _ h; omega
    have h42 : b4 ∉ blkOf ov7 := fun h => by have := g2 _ h; omega
    have q1 := p1.step (M' := M) c9 (by intro q hq; simp at hq; subst hq; exact ⟨h41, .inl (by simp)⟩) (fun _ h => .inl (List.mem_append_right _ h))
    have q2 := p2.step (M' := M) c9 (by intro q hq; simp at hq; subst hq; exact ⟨h42, .inl (by simp)⟩) (fun _ h => .inl (List.mem_append_right _ h))
    exact x_ret (ret2 (rv_cell r9 rfl rfl) rv_tmp) ⟨_, rfl, ⟨iv7, ov7, rfl, q1.lower (by omega), q2.lower (by omega), h3⟩, x9⟩
  · rw [hinv.ent] at hn
    obtain ⟨e1, e2⟩ := has_none hn
    rw [e1, e2]
    generalize hy : (default : Ent) = y
    generalize hq : entCs y (.slice none 0 0) (.slice none 0 0) = cq
    have hsm : y.tx.Sm := by subst hy; exact ⟨by decide, by decide, fun x hx => by cases hx⟩
    obtain ⟨iv, hiv⟩ : ∃ iv : Value, iv = .slice none 0 0 := ⟨_, rfl⟩
    obtain ⟨ov, hov⟩ : ∃ ov : Value, ov = .slice none 0 0 := ⟨_, rfl⟩
    have h1 : SlR inR ([b4] ++ M) w4 iv y.tx.ins := by subst hy hiv; exact SlR.nil _ _
    have h2 : SlR outR ([b4] ++ M) w4 ov y.tx.outs := by subst hy hov; exact SlR.nil _ _
    have h3 : is32 y.tx.ver ∧ is32 y.tx.lock ∧ is64 y.fee ∧ is64 y.size := by subst hy; exact ⟨is32_0, is32_0, is64_0, is64_0⟩
    have hcq : cq = entCs y iv ov := by rw [← hq, hiv, hov]
    rw [hcq]
    clear hy hiv hov hq hcq
    repeat (first|refine go ?_|refine zg (fun _ _=>?_)|refine zi (fun _ _=>?_))
    refine zE (fun _=>rfl) rfl rfl (by show (entCs y iv ov).all _ = true; simp [entCs, h1.one, h2.one]; exact ⟨rfl, rfl, rfl, rfl, rfl⟩) (fun b6 w6 x6 a6 (r6 : Row w6 ⟨b6, 0, none⟩ (entCs y iv ov)) hb6=>?_)
    have l6 := a6.lt
    have s4 := x4.size
    have s6 := x6.size
    have hmem : ∀ b ∈ [b6] ++ ([b4] ++ M), b ∈ [b4] ++ M ∨ w4.heap.size ≤ b := mem_app (fun b hb => by simp at hb; omega)
    have h16 : SlR inR ([b6] ++ ([b4] ++ M)) w6 iv y.tx.ins := h1.step x6 (by simp) hmem
    have h26 : SlR outR ([b6] ++ ([b4] ++ M)) w6 ov y.tx.outs := h2.step x6 (by simp) hmem
    have hM6 : ∀ b ∈ [b6] ++ ([b4] ++ M), b < w6.heap.size := fun b hb => by
      simp only [List.mem_append, List.mem_singleton] at hb
      rcases hb with h | h | h
      · omega
      · omega
      · have := hlt b h; omega
    repeat (first|refine go ?_|refine zg (fun _ _=>?_)|refine zi (fun _ _=>?_))
    refine zC rfl (txcopy_spec (M := [b6] ++ ([b4] ++ M)) (cs := txCs y.tx iv ov) (t := y.tx) _ ⟨iv, ov, rfl, h16, h26, h3.1, h3.2.1⟩ hsm hM6) ?_
    rintro _ w7 ⟨cs7, rfl, ⟨iv7, ov7, rfl, o1, o2, o3⟩, x7⟩
    repeat (first|refine go ?_|refine zg (fun _ _=>?_)|refine zi (fun _ _=>?_))
    have g1 := o1.base
    have g2 := o2.base
    have e1 := o1.one
    have e2 := o2.one
    have s7 := x7.size
    refine st_storeN (o := 0) (b := b6) (cur := entCs y iv ov) (vs := txCs y.tx iv7 ov7) rfl rfl rfl (all_one (by simp [txCs, e1, e2]; exact ⟨rfl, rfl⟩)) (At.ext x7 a6) (Nat.le_of_ble_eq_true rfl) (fun w8 c8 a8 => ?_)
    have a8 : At w8 b6 (.cells (entCs y iv7 ov7).toArray T.api_Entry (0, 0)) := a8
    have r8 : Row w8 ⟨b6, 0, none⟩ (entCs y iv7 ov7) := Row.of_at a8
    have x8 : Unit → Ext w w8 := fun _ => (Ext.chg ((x4.trans x6).trans x7) c8).mono (by intro q hq; simp at hq; right; omega)
    have s8 := c8.size
    have a48 := At.chg c8 (At.ext x7 (At.ext x6 a4)) (by simp; omega)
    have h61 : b6 ∉ blkOf iv7 := fun h => by have := g1 _ h; omega
    have h62 : b6 ∉ blkOf ov7 := fun h => by have := g2 _ h; omega
    have p1 := o1.step (M' := [b4] ++ M) c8 (by intro q hq; simp at hq; subst hq; exact ⟨h61, .inl (by simp)⟩) (fun _ h => .inl (List.mem_append_right _ h))
    have p2 := o2.step (M' := [b4] ++ M) c8 (by intro q hq; simp at hq; subst hq; exact ⟨h62, .inl (by simp)⟩) (fun _ h => .inl (List.mem_append_right _ h))
    clear c8 x7 x6
    repeat (first|refine go ?_|refine zg (fun _ _=>?_)|refine zi (fun _ _=>?_))
    refine st_setN (w0 := w) (vs := entCs y iv7 ov7) (x8 ()) (by omega) a48 rfl rfl rfl rfl (by simp [entCs, e1, e2]; exact ⟨rfl, rfl, rfl, rfl, rfl⟩) (fun w9 x9 c9 a9 r9 => ?_)
    repeat (first|refine go ?_|refine zg (fun _ _=>?_)|refine zi (fun _ _=>?_))
    have h41 : b4 ∉ blkOf iv7 := fun h => by have := g1 _ h; omega
    have h42 : b4 ∉ blkOf ov7 := fun h => by have := g2 _ h; omega
    have q1 := p1.step (M' := M) c9 (by intro q hq; simp at hq; subst hq; exact ⟨h41, .inl (by simp)⟩) (fun _ h => .inl (List.mem_append_right _ h))
    have q2 := p2.step (M' := M) c9 (by intro q hq; simp at hq; subst hq; exact ⟨h42, .inl (by simp)⟩) (fun _ h => .inl (List.mem_append_right _ h))
    exact x_ret (ret2 (rv_cell r9 rfl rfl) rv_tmp) ⟨_, rfl, ⟨iv7, ov7, rfl, q1.lower (by omega), q2.lower (by omega), h3⟩, x9⟩
end Go.Proofs.YtilhlcnekkkajaaGreat
end
section
namespace Go.Proofs.YtilhlcnekkkajaaGreat
open Go Go.K
attribute [local irreducible] regK codeK retK KOp.wp K.Spec u32 leS vnS str zero32 sha2 encT idT sizeT checkT grantB idN hangs stepR findI spends

abbrev spE (l : List Ent) (p : Pt) : Option Ent := l.find? fun x => spends x p
abbrev spId (l : List Ent) (p : Pt) : ByteArray := ((spE l p).map (·.id)).getD ⟨#[]⟩
theorem spender_spec {g : Nat} {M : List Nat} {l : List Ent} (p : Pt) (w : World) (hG : GrR w g M l) : K.Spec Tryz.prog F.graph_Graph_Spender [.pointer (some ⟨g, 0, none⟩), .agg p.cs.toArray] w fun r w' =>
    r = .tuple #[.string (spId l p), .bool (spE l p).isSome] ∧ Ext w w' := by
  obtain ⟨b1, vo, b2, m, sp, hP⟩ := hG
  have rg : Row w ⟨g, 0, none⟩ [.map (some b1), vo, .map (some b2)] := Row.of_at hP.at_
  have hinv := hP.inv
  refine s_graph_Graph_Spender rfl ?_
  unfold k_graph_Graph_Spender
  refine oy ?_
  repeat' (first|(first|refine go1 ?_|refine zg (fun _ _=>?_)|refine zi (fun _ _=>?_))|refine zD rfl rfl (fun bp wp xp ap (rp : Row wp ⟨bp, 0, none⟩ p.cs) hp0=>?_)|(refine st_lookupOk (E := ptK) (fv := Value.string) (k := p) rfl rfl (hP.pts.ext (by exact fx)) rfl rfl (fun y hy => ?_) (fun hn => ?_)))
  · rw [hinv.spt] at hy
    obtain ⟨e, he, rfl⟩ := Option.map_eq_some_iff.1 hy
    have e1 : spId l p = e.id := by unfold spId spE; rw [he]; rfl
    have e2 : (spE l p).isSome = true := by unfold spE; rw [he]; rfl
    rw [e1, e2]
    exact x_ret rfl ⟨rfl, by exact fx⟩
  · rw [hinv.spt, Option.map_eq_none_iff] at hn
    have e1 : spId l p = ⟨#[]⟩ := by unfold spId spE; rw [hn]; rfl
    have e2 : (spE l p).isSome = false := by unfold spE; rw [hn]; rfl
    rw [e1, e2]
    exact x_ret rfl ⟨rfl, by exact fx⟩
/-- An output of an entry. -/
abbrev outHas (l : List Ent) (p : Pt) : Bool := hasE l p.s && decide (p.i < ((getE l p.s).tx.outs.length : Int))
theorem out_spec {g : Nat} {M : List Nat} {l : List Ent} (p : Pt) (hp : is32 p.i) (w : World) (hG : GrR w g M l) (hM : ∀ b ∈ M, b < w.heap.size) : K.Spec Tryz.prog F.graph_Graph_Out [.pointer (some ⟨g, 0, none⟩), .agg p.cs.toArray] w fun r w' =>
    ∃ o : TOut, r = .tuple #[.agg (outCs o).toArray, .bool (outHas l p)] ∧ (outHas l p = true → (getE l p.s).tx.outs[p.i.toNat]? = some o) ∧ Ext w w' := by
  have hp9 : 0 ≤ p.i ∧ p.i < 4294967296 := hp
  refine s_graph_Graph_Out rfl ?_
  unfold k_graph_Graph_Out
  refine oy ?_
  repeat' (first|(refine st_fixV (d := some 20) (.int .i64 p.i) rfl (congrArg (fun n => some (Value.int .i64 n)) (wrap_i hp)) ?_)|(refine st_elemR (d := some 33) (E := outR) (M := []) rfl (n := p.i.toNat) (congrArg (Value.int .u32) (by unfold is32 at hp; omega)) (l := (getE l p.s).tx.outs) ((o26.sub (M' := []) (by simp)).sl (by simp)) rfl (by omega) (fun ad cs r7 he => ?_); obtain ⟨rfl, hv7⟩ := he)|(first|refine go1 ?_|refine zg (fun _ _=>?_)|refine zi (fun _ _=>?_))|refine zD rfl rfl (fun bp wp xp ap (rp : Row wp ⟨bp, 0, none⟩ p.cs) hp0=>?_)|refine zK rfl (fun h => ?_) (fun h => ?_)|refine zL rfl (fun h => ?_) (fun h => ?_)|refine zM rfl (fun h => ?_) (fun h => ?_)|(refine zH (d := some 4) (fun b4 w4 x4 a4 hb4 => ?_))|(refine zC rfl (get_spec (M := M) p.s _ (hG.ext (by exact fx)) (fun b hb => Nat.lt_of_lt_of_le (hM b hb) (Ext.size (by exact fx)))) ?_; rintro _ w5 ⟨ds, rfl, ⟨iv, ov, rfl, o1, o2, o3⟩, x5⟩; have e1 := o1.one; have e2 := o2.one)|(refine zE (d' := 6) (fun _=>rfl) rfl rfl (by show (entCs (getE l p.s) iv ov).all _ = true; simp [entCs, e1, e2]; exact ⟨rfl, rfl, rfl, rfl, rfl⟩) (fun b6 w6 x6 a6 (r6 : Row w6 ⟨b6, 0, none⟩ (entCs (getE l p.s) iv ov)) hb6=>?_); have o26 := o2.ext x6)|(refine zG (E := outR) (M := []) (l := (getE l p.s).tx.outs) rfl ((o26.sub (M' := []) (by simp)).sl (by simp)) ?_)|(refine st_build (d := some 27) (cs := outCs ⟨0, ⟨#[]⟩⟩) rfl ?_))
  · have hh : hasE l p.s = false := by simpa using h
    have e : outHas l p = false := by unfold outHas; rw [hh]; rfl
    rw [e]
    refine st_setN (w0 := wp) (vs := outCs ⟨0, ⟨#[]⟩⟩) (by exact fx) hb4 (by focus (repeat (first | assumption | (apply At.ext; assumption)))) rfl rfl rfl rfl rfl (fun w9 x9 c9 a9 r9 => ?_)
    repeat (first|refine go ?_|refine zg (fun _ _=>?_)|refine zi (fun _ _=>?_))
    exact x_ret (ret2 (rv_cell r9 rfl rfl) rv_tmp) ⟨⟨0, ⟨#[]⟩⟩, rfl, (fun hf => nomatch hf), xp.trans x9⟩
  · have e : outHas l p = false := by unfold outHas; rw [decide_eq_false (by omega), Bool.and_false]
    rw [e]
    refine st_setN (w0 := wp) (vs := outCs ⟨0, ⟨#[]⟩⟩) (by exact fx) hb4 (by focus (repeat (first | assumption | (apply At.ext; assumption)))) rfl rfl rfl rfl rfl (fun w9 x9 c9 a9 r9 => ?_)
    repeat (first|refine go ?_|refine zg (fun _ _=>?_)|refine zi (fun _ _=>?_))
    exact x_ret (ret2 (rv_cell r9 rfl rfl) rv_tmp) ⟨⟨0, ⟨#[]⟩⟩, rfl, (fun hf => nomatch hf), xp.trans x9⟩
  · have hh : hasE l p.s = true := by simpa using ‹(!hasE l p.s) = false›
    have e : outHas l p = true := by unfold outHas; rw [hh, decide_eq_true (by omega)]; rfl
    rw [e]
    have hil : p.i.toNat < (getE l p.s).tx.outs.length := by omega
    refine st_setN (w0 := wp) (vs := outCs (getE l p.s).tx.outs[p.i.toNat]) (by exact fx) hb4 (by focus (repeat (first | assumption | (apply At.ext; assumption)))) rfl rfl rfl rfl rfl (fun w9 x9 c9 a9 r9 => ?_)
    repeat (first|refine go ?_|refine zg (fun _ _=>?_)|refine zi (fun _ _=>?_))
    exact x_ret (ret2 (rv_cell r9 rfl rfl) rv_tmp) ⟨_, rfl, fun _ => List.getElem?_eq_getElem hil, xp.trans x9⟩
theorem getE_id {w : World} {g : Nat} {M : List Nat} {l : List Ent} (hG : GrR w g M l) {x : Ent} (hx : x ∈ l) : getE l x.id = x ∧ hasE l x.id = true := by
  cases h : l.find? fun y => decide (y.id = x.id) with
  | none => exact absurd (List.find?_eq_none.1 h x hx) (by simp)
  | some y =>
    obtain ⟨e1, e2, e3, e4⟩ := has_some h
    refine ⟨?_, e1⟩
    rw [e2]
    have hn := hG.nodup
    clear h e1 e2 hG
    induction l with
    | nil => simp at hx
    | cons z l ih =>
      rw [List.map_cons, List.nodup_cons] at hn
      rcases List.mem_cons.1 hx with h1 | h1
      · rcases List.mem_cons.1 e3 with h2 | h2
        · rw [h1, h2]
        · exact absurd (List.mem_map.2 ⟨y, h2, by rw [e4, h1]⟩) hn.1
      · rcases List.mem_cons.1 e3 with h2 | h2
        · exact absurd (List.mem_map.2 ⟨x, h1, by rw [← e4, h2]⟩) hn.1
        · exact ih h1 h2 hn.2
/-- An entry whose slices are no one else's. -/
def entF (B : Nat) : R Ent where
  k := 7
  pos := by decide
  ag := true
  rel := fun M w cs x => ∃ iv ov, cs = entCs x iv ov ∧ OwnR inR T.api_In B M w iv x.tx.ins ∧ OwnR outR T.api_Out B M w ov x.tx.outs ∧ (is32 x.tx.ver ∧ is32 x.tx.lock ∧ is64 x.fee ∧ is64 x.size) ∧ ∀ b ∈ M, b ∉ blkOf iv ∧ b ∉ blkOf ov
  len := fun ⟨_, _, h, _⟩ => by rw [h]; rfl
  one := fun ⟨iv, ov, h, hi, ho, _⟩ v hv => by
    have h1 := hi.one
    have h2 := ho.one
    subst h; simp [entCs] at hv; rcases hv with rfl | rfl | rfl | rfl | rfl | rfl | rfl <;> first | exact h1 | exact h2 | rfl
  step := fun {M M' L w w' _ _} ⟨iv, ov, h, hi, ho, h2, hd⟩ c hL hM => by
    have k1 : ∀ b ∈ L, (b ∉ blkOf iv ∧ b ∉ blkOf ov) ∧ (b ∈ M ∨ w.heap.size ≤ b) := fun b hb => ⟨by
      rcases hL b hb with h | h
      · exact hd b h
      · exact ⟨fun q => by have := hi.lt b q; omega, fun q => by have := ho.lt b q; omega⟩, hL b hb⟩
    refine ⟨iv, ov, h, hi.step c (fun b hb => ⟨(k1 b hb).1.1, (k1 b hb).2⟩) hM, ho.step c (fun b hb => ⟨(k1 b hb).1.2, (k1 b hb).2⟩) hM, h2, fun b hb => ?_⟩
    rcases hM b hb with h | h
    · exact hd b h
    · exact ⟨fun q => by have := hi.lt b q; omega, fun q => by have := ho.lt b q; omega⟩
theorem entF.r {B : Nat} {M : List Nat} {w : World} {cs : List Value} {x : Ent} (h : (entF B).rel M w cs x) : entR.rel M w cs x := by
  obtain ⟨iv, ov, e, h1, h2, h3, hd⟩ := h
  exact ⟨iv, ov, e, h1.sl fun b hb => (hd b hb).1, h2.sl fun b hb => (hd b hb).2, h3⟩
set_option maxHeartbeats 1000000 in
theorem all_own {g : Nat} {M : List Nat} {l : List Ent} (w : World) (hG : GrR w g M l) (hlt : ∀ b ∈ M, b < w.heap.size) (hn : l.length ≤ 100000) : K.Spec Tryz.prog F.graph_Graph_All [.pointer (some ⟨g, 0, none⟩)] w fun r w' => OwnR (entF w.heap.size) T.api_Entry w.heap.size M w' r l ∧ Ext w w' := by
  have hG0 := hG
  obtain ⟨b1, vo, b2, m, sp, hP⟩ := hG
  have rg : Row w ⟨g, 0, none⟩ [.map (some b1), vo, .map (some b2)] := Row.of_at hP.at_
  have hord := hP.ord
  have hml : (l.map (·.id)).length = l.length := by simp
  refine s_graph_Graph_All rfl ?_
  unfold k_graph_Graph_All
  refine oy ?_
  repeat' (first|(first|refine go1 ?_|refine zg (fun _ _=>?_)|refine zi (fun _ _=>?_))|refine zL rfl (fun h => ?_) (fun h => ?_)|(refine st_len rfl (SlE.ext (w := w) (by exact fx) hord) ?_; rw [hml])|(refine c_loopV (fun (p : Nat × Value) w' => Ext w w' ∧ p.1 ≤ l.length ∧ OwnR (entF w.heap.size) T.api_Entry w.heap.size M w' p.2 (l.take p.1)) (fun p => [(0, .pointer (some ⟨g, 0, none⟩)), (3, p.2), (13, vo), (14, .int .i64 (l.length : Nat)), (15, .int .i64 p.1)]) (fun p => l.length - p.1) (0, .slice none 0 0) ⟨rfl, rfl, rfl, rfl, rfl, trivial⟩ ⟨Ext.refl _, by simp, OwnR.nil _ _ _ _⟩ ?_; rintro ⟨i, vr⟩ ρ w3 ⟨x3, hi, ho⟩; simp only at hi ho; dsimp only))
  · have hil : i < l.length := by omega
    refine st_elemE (d := some 17) (E := strE) rfl rfl (n := i) (l := l.map (fun x : Ent => x.id)) (SlE.ext (w := w) x3 hord) rfl (by omega) (fun ad r4 => ?_)
    have r4 : Row w3 ad [Value.string l[i].id] := by simpa [strE] using r4
    have hN : ∀ b ∈ blkOf vr ++ M, b ∈ M ∨ w.heap.size ≤ b := mem_app ho.base
    have hN2 : ∀ b ∈ blkOf vr ++ M, b < w3.heap.size := fun b hb => by
      rcases List.mem_append.1 hb with h | h
      · exact ho.lt b h
      · exact Nat.lt_of_lt_of_le (hlt b h) x3.size
    repeat' (first|(first|refine go1 ?_|refine zg (fun _ _=>?_)|refine zi (fun _ _=>?_))|(refine zC rfl (get_spec (M := blkOf vr ++ M) l[i].id _ (hG0.more x3 hN) hN2) ?_; rintro _ w5 ⟨ds, rfl, he0, x5⟩; have hge := (getE_id hG0 (List.getElem_mem hil)).1; rw [hge] at he0; have hone := entR.one (he0.rel hN2); obtain ⟨iv, ov, rfl, g1, g2, g3⟩ := he0)|(refine zE (d' := 6) (fun _=>rfl) rfl rfl (by rw [List.all_eq_true]; exact hone) (fun b6 w6 x6 a6 (r6 : Row w6 ⟨b6, 0, none⟩ (entCs l[i] iv ov)) hb6=>?_))|(refine zI (cs := entCs l[i] iv ov) rfl (fun b w7 x7 a7 hb => ?_))|(refine st_append1 (E := entF w.heap.size) (M := M) (v := vr) (cs := entCs l[i] iv ov) (a := l[i]) rfl rfl (ho.ext (by exact fx)) (Ext.size (w := w) (by exact fx)) rfl rfl a7 ⟨iv, ov, rfl, (g1.ext (by exact fx)).lower x3.size, (g2.ext (by exact fx)).lower x3.size, g3, fun b hb => ⟨fun h => absurd (g1.base b h) (by have := hN2 b hb; omega), fun h => absurd (g2.base b h) (by have := hN2 b hb; omega)⟩⟩ (by have : (l.take i).length ≤ l.length := (by rw [List.length_take]; omega); omega) (fun v8 w8 o8 c8 hb8 => ?_)))
    exact ⟨(i + 1, v8), ⟨rfl, rfl, rfl, rfl, rfl, trivial⟩, ⟨(Ext.chg (w := w) (by exact fx) c8).mono (fun b hb => .inr (ho.base b hb)), by simp; omega, by show OwnR _ _ _ _ _ _ (l.take (i + 1)); rw [List.take_succ_eq_append_getElem hil]; exact o8⟩, by simp; omega⟩
  · rw [List.take_of_length_le (by omega)] at ho
    exact x_ret rfl ⟨ho, x3⟩
theorem all_spec {g : Nat} {M : List Nat} {l : List Ent} (w : World) (hG : GrR w g M l) (hlt : ∀ b ∈ M, b < w.heap.size) (hn : l.length ≤ 100000) : K.Spec Tryz.prog F.graph_Graph_All [.pointer (some ⟨g, 0, none⟩)] w fun r w' => OwnR entR T.api_Entry w.heap.size M w' r l ∧ Ext w w' := by
  refine spec_mono (all_own w hG hlt hn) fun r w' ⟨⟨css, h1, h2⟩, x⟩ => ⟨⟨css, h1, h2.mono fun _ _ h => entF.r h⟩, x⟩
end Go.Proofs.YtilhlcnekkkajaaGreat
end
section
namespace Go.Proofs.YtilhlcnekkkajaaGreat
open Go Go.K
attribute [local irreducible] regK codeK retK KOp.wp K.Spec u32 leS vnS str zero32 sha2 encT idT sizeT checkT grantB idN hangs stepR findI spends

def parentsL (l : List Ent) (ins : List TIn) : List ByteArray := (ins.filter fun i => outHas l i.p).map fun i => i.p.s
def childL (l : List Ent) (id : ByteArray) : Nat → List ByteArray
  | 0 => []
  | n + 1 => childL l id n ++ (match spE l ⟨id, (n : Nat)⟩ with | some e => [e.id] | none => [])
theorem childL_length (l : List Ent) (id : ByteArray) : ∀ n, (childL l id n).length ≤ n
  | 0 => by simp [childL]
  | n + 1 => by
    have := childL_length l id n
    unfold childL
    rw [List.length_append]
    split <;> simp <;> omega
theorem parentsL_length (l : List Ent) (ins : List TIn) : (parentsL l ins).length ≤ ins.length := by
  unfold parentsL; rw [List.length_map]; exact List.length_filter_le _ _
theorem parentsL_take {l : List Ent} {ins : List TIn} {i : Nat} (h : i < ins.length) : parentsL l (ins.take (i + 1)) = parentsL l (ins.take i) ++ (if outHas l ins[i].p then [ins[i].p.s] else []) := by
  rw [List.take_succ_eq_append_getElem h]
  unfold parentsL
  rw [List.filter_append, List.map_append]
  congr 1
  by_cases h2 : outHas l ins[i].p = true
  · rw [if_pos h2, List.filter_cons_of_pos (p := fun i : TIn => outHas l i.p) h2]; rfl
  · rw [if_neg h2, List.filter_cons_of_neg (p := fun i : TIn => outHas l i.p) h2]; rfl
theorem parents_spec {g : Nat} {M N : List Nat} {l : List Ent} {cs : List Value} {t : Tx} (w : World) (hG : GrR w g M l) (hM : ∀ b ∈ M, b < w.heap.size) (ht : txR.rel N w cs t) (hs : t.ins.length ≤ 100000) : K.Spec Tryz.prog F.graph_Graph_parents [.pointer (some ⟨g, 0, none⟩), .agg cs.toArray] w fun r w' =>
    Own strE T.string w.heap.size w' r (parentsL l t.ins) ∧ Ext w w' := by
  obtain ⟨iv, ov, rfl, h1, h2, h3⟩ := ht
  refine s_graph_Graph_parents rfl ?_
  unfold k_graph_Graph_parents
  refine oy ?_
  repeat' (first|(first|refine go1 ?_|refine zg (fun _ _=>?_)|refine zi (fun _ _=>?_))|refine zD rfl rfl (fun bp wp xp ap (rp : Row wp ⟨bp, 0, none⟩ (txCs t iv ov)) hp0=>?_)|refine zL rfl (fun h => ?_) (fun h => ?_)|refine zM rfl (fun h => ?_) (fun h => ?_)|(refine zG (E := inR) (M := N) (l := t.ins) rfl (SlR.ext h1 (by exact fx)) ?_)|(refine c_loopV (fun (p : Nat × Value) w' => Ext w w' ∧ p.1 ≤ t.ins.length ∧ Own strE T.string w.heap.size w' p.2 (parentsL l (t.ins.take p.1))) (fun p => [(0, .pointer (some ⟨g, 0, none⟩)), (5, p.2), (11, iv), (12, .int .i64 (t.ins.length : Nat)), (13, .int .i64 p.1)]) (fun p => t.ins.length - p.1) (0, .slice none 0 0) ⟨rfl, rfl, rfl, rfl, rfl, trivial⟩ ⟨by exact fx, by simp, Own.nil _ _ _⟩ ?_; clear rp ap; rintro ⟨i, vr⟩ ρ w3 ⟨x3, hi, ho⟩; simp only at hi ho; dsimp only)|(refine st_elemR (d := some 15) (E := inR) (M := N) rfl rfl (n := i) (l := t.ins) (SlR.ext h1 x3) rfl (by omega) (fun ad cs r4 he => ?_); obtain ⟨wv, rfl, hw, hp5, hp6⟩ := he; obtain ⟨bs1, cp1, rfl⟩ := hw.form; have hil : i < t.ins.length := (by omega))|(refine zE (d' := 7) (fun _=>rfl) rfl rfl rfl (fun b7 w7 x7 a7 (r7 : Row w7 ⟨b7, 0, none⟩ (inCs t.ins[i] (.slice bs1 t.ins[i].wit.length cp1))) hb7=>?_))|(refine zC rfl (out_spec (M := M) t.ins[i].p hp5 _ (hG.ext (Ext.trans x3 (by exact fx))) (fun b hb => Nat.lt_of_lt_of_le (hM b hb) (Ext.size (by exact fx)))) ?_; rintro _ w8 ⟨o, rfl, ho8, x8⟩)|(refine zE (d' := 8) (fun _=>rfl) rfl rfl rfl (fun b9 w9 x9 a9 r9 hb9=>?_))|(refine zI (d := some 29) (cs := [.string t.ins[i].p.s]) rfl (fun b w10 x10 a10 hb => ?_))|(refine st_append (E := strE) (v := vr) (l2 := [t.ins[i].p.s]) rfl (ho.ext (by exact fx)) (Ext.size (w := w) (by exact fx)) rfl rfl (sl_new a10 rfl) rfl rfl (by have := parentsL_length l (t.ins.take i); have : (t.ins.take i).length ≤ t.ins.length := (by rw [List.length_take]; omega); simp only [List.length_cons, List.length_nil]; omega) (fun v11 w11 o11 c11 => ?_)))
  all_goals first
    | exact ⟨(i + 1, v11), ⟨rfl, rfl, rfl, rfl, rfl, trivial⟩, ⟨(Ext.chg (w := w) (by exact fx) c11).mono (fun b hb => .inr (ho.base b (by simpa using hb))), by simp; omega, by show Own _ _ _ _ _ (parentsL l (t.ins.take (i + 1))); rw [parentsL_take hil, if_pos h]; exact o11⟩, by simp; omega⟩
    | exact ⟨(i + 1, vr), ⟨rfl, rfl, rfl, rfl, rfl, trivial⟩, ⟨by exact fx, by simp; omega, by show Own _ _ _ _ _ (parentsL l (t.ins.take (i + 1))); rw [parentsL_take hil, if_neg (by rw [h]; decide), List.append_nil]; exact Own.ext (w := w3) (by exact fx) ho⟩, by simp; omega⟩
    | (rw [List.take_of_length_le (by omega)] at ho
       exact x_ret rfl ⟨ho, by exact fx⟩)
    | trace_state
theorem wrap_32 {n : Nat} (h : n < 4294967296) : IntKind.u32.wrap (n : Nat) = (n : Nat) := by
  have e : IntKind.u32.wrap (n : Nat) = (n : Nat) % 4294967296 := rfl
  rw [e]; omega
theorem children_spec {g : Nat} {M N : List Nat} {l : List Ent} {cs : List Value} {x : Ent} (w : World) (hG : GrR w g M l) (hx : entR.rel N w cs x) (hs : x.tx.outs.length ≤ 100000) : K.Spec Tryz.prog F.graph_Graph_children [.pointer (some ⟨g, 0, none⟩), .agg cs.toArray] w fun r w' =>
    Own strE T.string w.heap.size w' r (childL l x.id x.tx.outs.length) ∧ Ext w w' := by
  obtain ⟨iv, ov, rfl, h1, h2, h3⟩ := hx
  refine s_graph_Graph_children rfl ?_
  unfold k_graph_Graph_children
  refine oy ?_
  repeat' (first|(refine st_fixV (d := some 21) (.int .u32 (i : Nat)) rfl (congrArg (fun n => some (Value.int .u32 n)) (wrap_32 (by omega))) ?_)|(refine st_build (d := some 22) (cs := (⟨x.id, (i : Nat)⟩ : Pt).cs) rfl ?_)|(first|refine go1 ?_|refine zg (fun _ _=>?_)|refine zi (fun _ _=>?_))|refine zD rfl rfl (fun bp wp xp ap (rp : Row wp ⟨bp, 0, none⟩ (entCs x iv ov)) hp0=>?_)|refine zL rfl (fun h => ?_) (fun h => ?_)|refine zM rfl (fun h => ?_) (fun h => ?_)|(refine zG (E := outR) (M := N) (l := x.tx.outs) rfl (SlR.ext h2 (by exact fx)) ?_)|(refine c_loopV (fun (p : Nat × Value) w' => Ext wp w' ∧ p.1 ≤ x.tx.outs.length ∧ Own strE T.string wp.heap.size w' p.2 (childL l x.id p.1)) (fun p => [(0, .pointer (some ⟨g, 0, none⟩)), (3, .pointer (some ⟨bp, 0, none⟩)), (5, p.2), (12, .int .i64 (x.tx.outs.length : Nat)), (13, .int .i64 p.1)]) (fun p => x.tx.outs.length - p.1) (0, .slice none 0 0) ⟨rfl, rfl, rfl, rfl, rfl, trivial⟩ ⟨by exact fx, by simp, Own.nil _ _ _⟩ ?_; rintro ⟨i, vr⟩ ρ w3 ⟨x3, hi, ho⟩; simp only at hi ho; dsimp only; have hlen := childL_length l x.id i)|(refine zC rfl (spender_spec (M := M) ⟨x.id, (i : Nat)⟩ _ (hG.ext (by exact fx))) ?_; rintro _ w8 ⟨rfl, x8⟩)|(refine zI (d := some 29) (cs := [.string (spId l ⟨x.id, (i : Nat)⟩)]) rfl (fun b w10 x10 a10 hb => ?_))|(refine st_append (E := strE) (v := vr) (l2 := [spId l ⟨x.id, (i : Nat)⟩]) rfl (ho.ext (by exact fx)) (Ext.size (w := wp) (by exact fx)) rfl rfl (sl_new a10 rfl) rfl rfl (by simp only [List.length_cons, List.length_nil]; omega) (fun v11 w11 o11 c11 => ?_)))
  all_goals first
    | (obtain ⟨e, he⟩ := Option.isSome_iff_exists.1 h
       have e1 : spId l ⟨x.id, (i : Nat)⟩ = e.id := by unfold spId; rw [he]; rfl
       rw [e1] at o11
       exact ⟨(i + 1, v11), ⟨rfl, rfl, rfl, rfl, rfl, trivial⟩, ⟨(Ext.chg (w := wp) (by exact fx) c11).mono (fun b hb => .inr (ho.base b (by simpa using hb))), by simp; omega, by show Own _ _ _ _ _ (childL l x.id (i + 1)); unfold childL; rw [he]; exact o11⟩, by simp; omega⟩)
    | (have he : spE l ⟨x.id, (i : Nat)⟩ = none := by simpa using h
       exact ⟨(i + 1, vr), ⟨rfl, rfl, rfl, rfl, rfl, trivial⟩, ⟨by exact fx, by simp; omega, by show Own _ _ _ _ _ (childL l x.id (i + 1)); unfold childL; rw [he, List.append_nil]; exact Own.ext (w := w3) (by exact fx) ho⟩, by simp; omega⟩)
    | (have ei : i = x.tx.outs.length := by omega
       subst ei
       exact x_ret rfl ⟨ho.lower xp.size, xp.trans x3⟩)
    | trace_state
end Go.Proofs.YtilhlcnekkkajaaGreat
end
section
namespace Go.K
open Go
/-- The entries whose ids are named. -/
def named (l : List Ent) (ids : List ByteArray) (i : Nat) : Bool := ids.any fun s => decide (s = (entD l i).id)
def reachE (l : List Ent) (frm : List ByteArray) (nxt : Ent → List ByteArray) : List Bool := reachL (named l frm) (fun k i => named l (nxt (entD l k)) i) l.length
abbrev stepE (l : List Ent) (frm : List ByteArray) (nxt : Ent → List ByteArray) (i : Nat) : Bool := stepR (named l frm) (fun k i => named l (nxt (entD l k)) i) l.length l.length i
def metB (met : List (ByteArray × Nat)) (id : ByteArray) : Bool := (aget met id).isSome
/-- What is still to be looked at, at most. -/
def workL (met : List (ByteArray × Nat)) (nxt : Ent → List ByteArray) (l : List Ent) : Nat := (l.map fun x => if metB met x.id then 0 else (nxt x).length).sum
structure BInv (l : List Ent) (frm : List ByteArray) (nxt : Ent → List ByteArray) (T : List ByteArray) (met : List (ByteArray × Nat)) : Prop where
  todo : ∀ id ∈ T, ∃ i, i < l.length ∧ (entD l i).id = id ∧ stepE l frm nxt i = true
  seen : ∀ id, metB met id = true → ∃ i, i < l.length ∧ (entD l i).id = id ∧ stepE l frm nxt i = true
  pos : ∀ id c, aget met id = some c → 1 ≤ c
  from0 : ∀ id ∈ frm, id ∈ T ∨ metB met id = true
  next0 : ∀ i, i < l.length → metB met (entD l i).id = true → ∀ s ∈ nxt (entD l i), s ∈ T ∨ metB met s = true
section
variable {l : List Ent} {frm : List ByteArray} {nxt : Ent → List ByteArray} {T : List ByteArray} {met : List (ByteArray × Nat)}
theorem named_iff {ids : List ByteArray} {i : Nat} : named l ids i = true ↔ (entD l i).id ∈ ids := by
  unfold named
  rw [List.any_eq_true]
  constructor
  · rintro ⟨s, h1, h2⟩; rw [← of_decide_eq_true h2]; exact h1
  · intro h; exact ⟨_, h, decide_eq_true rfl⟩
theorem metB_set {id s : ByteArray} {c : Nat} : metB (aset met id c) s = (decide (id = s) || metB met s) := by
  unfold metB
  rw [aget_set']
  by_cases h : id = s <;> simp [h]
theorem BInv.start (h : ∀ id ∈ frm, ∃ i, i < l.length ∧ (entD l i).id = id) : BInv l frm nxt frm [] where
  todo := fun id hid => by
    obtain ⟨i, h1, h2⟩ := h id hid
    exact ⟨i, h1, h2, stepR_base h1 (named_iff.2 (by rw [h2]; exact hid))⟩
  seen := fun id h => by simp [metB, aget] at h
  pos := fun id c h => by simp [aget] at h
  from0 := fun id h => .inl h
  next0 := fun i _ h => by simp [metB, aget] at h
/-- One that was met before: it only goes. -/
theorem BInv.again {id : ByteArray} {c : Nat} (h : BInv l frm nxt (id :: T) met) (hc : aget met id = some c) : BInv l frm nxt T (aset met id (c + 1)) where
  todo := fun s hs => h.todo s (by simp [hs])
  seen := fun s hs => by
    rw [metB_set] at hs
    by_cases e : id = s
    · subst e; exact h.seen id (by unfold metB; rw [hc]; rfl)
    · simp [e] at hs; exact h.seen s hs
  pos := fun s d hd => by
    rw [aget_set'] at hd
    split at hd
    · injection hd with hd; omega
    · exact h.pos s d hd
  from0 := fun s hs => by
    rw [metB_set]
    rcases h.from0 s hs with h1 | h1
    · rcases List.mem_cons.1 h1 with rfl | h1
      · exact .inr (by simp)
      · exact .inl h1
    · exact .inr (by simp [h1])
  next0 := fun i hi hm s hs => by
    rw [metB_set] at hm
    have hm' : metB met (entD l i).id = true := by
      by_cases e : id = (entD l i).id
      · rw [← e]; unfold metB; rw [hc]; rfl
      · simpa [e] using hm
    rw [metB_set]
    rcases h.next0 i hi hm' s hs with h1 | h1
    · rcases List.mem_cons.1 h1 with rfl | h1
      · exact .inr (by simp)
      · exact .inl h1
    · exact .inr (by simp [h1])
theorem entD_inj (hn : (l.map (·.id)).Nodup) {i j : Nat} (hi : i < l.length) (hj : j < l.length) (h : (entD l i).id = (entD l j).id) : i = j := by
  rw [entD_get hi, entD_get hj] at h
  have key := List.pairwise_iff_getElem.1 hn
  rcases Nat.lt_trichotomy i j with h1 | h1 | h1
  · exact absurd (by rw [List.getElem_map, List.getElem_map]; exact h) (key i j (by simpa using hi) (by simpa using hj) h1)
  · exact h1
  · exact absurd (by rw [List.getElem_map, List.getElem_map]; exact h.symm) (key j i (by simpa using hj) (by simpa using hi) h1)
/-- One that is met first: what is next of it comes behind. -/
theorem BInv.first {i : Nat} (hn : (l.map (·.id)).Nodup) (hi : i < l.length) (h : BInv l frm nxt ((entD l i).id :: T) met) (hc : aget met (entD l i).id = none) (hin : ∀ s ∈ nxt (entD l i), ∃ j, j < l.length ∧ (entD l j).id = s) : BInv l frm nxt (T ++ nxt (entD l i)) (aset met (entD l i).id 1) where
  todo := fun s hs => by
    rcases List.mem_append.1 hs with h1 | h1
    · exact h.todo s (by simp [h1])
    · obtain ⟨j, hj, ej⟩ := hin s h1
      obtain ⟨i', hi', ei, hs'⟩ := h.todo (entD l i).id (by simp)
      have : i' = i := entD_inj hn hi' hi ei
      subst this
      exact ⟨j, hj, ej, stepR_closed hj hi hs' (named_iff.2 (by rw [ej]; exact h1))⟩
  seen := fun s hs => by
    rw [metB_set] at hs
    by_cases e : (entD l i).id = s
    · subst e; exact h.todo _ (by simp)
    · simp [e] at hs; exact h.seen s hs
  pos := fun s d hd => by
    rw [aget_set'] at hd
    split at hd
    · injection hd with hd; omega
    · exact h.pos s d hd
  from0 := fun s hs => by
    rw [metB_set]
    rcases h.from0 s hs with h1 | h1
    · rcases List.mem_cons.1 h1 with rfl | h1
      · exact .inr (by simp)
      · exact .inl (by simp [h1])
    · exact .inr (by simp [h1])
  next0 := fun j hj hm s hs => by
    rw [metB_set] at hm ⊢
    by_cases e : (entD l i).id = (entD l j).id
    · have : i = j := entD_inj hn hi hj e
      subst this
      exact .inl (by simp [hs])
    · simp [e] at hm
      rcases h.next0 j hj hm s hs with h1 | h1
      · rcases List.mem_cons.1 h1 with rfl | h1
        · exact .inr (by simp)
        · exact .inl (by simp [h1])
      · exact .inr (by simp [h1])
theorem BInv.done (h : BInv l frm nxt [] met) (i : Nat) (hi : i < l.length) (hn : (l.map (·.id)).Nodup) : metB met (entD l i).id = stepE l frm nxt i := by
  rw [Bool.eq_iff_iff]
  constructor
  · intro hm
    obtain ⟨j, hj, ej, hs⟩ := h.seen _ hm
    rw [← entD_inj hn hj hi ej]; exact hs
  · refine fun hs => stepR_least (p := fun i => metB met (entD l i).id = true) (fun j _ hb => ?_) (fun k j hk _ hm he => ?_) _ i hi hs
    · rcases h.from0 _ (named_iff.1 hb) with h1 | h1
      · simp at h1
      · exact h1
    · rcases h.next0 k hk hm _ (named_iff.1 he) with h1 | h1
      · simp at h1
      · exact h1
theorem workL_cons (met : List (ByteArray × Nat)) (nxt : Ent → List ByteArray) (x : Ent) (l : List Ent) : workL met nxt (x :: l) = (if metB met x.id then 0 else (nxt x).length) + workL met nxt l := by simp [workL]
theorem workL_le (met : List (ByteArray × Nat)) (nxt : Ent → List ByteArray) {c : Nat} : ∀ (l : List Ent), (∀ x ∈ l, (nxt x).length ≤ c) → workL met nxt l ≤ c * l.length
  | [], _ => by simp [workL]
  | x :: l, h => by
    have h1 := workL_le met nxt l fun y hy => h y (by simp [hy])
    have h2 := h x (by simp)
    rw [workL_cons, List.length_cons, Nat.mul_add]
    split <;> omega
theorem workL_set {id : ByteArray} {c : Nat} : ∀ (l : List Ent), workL (aset met id c) nxt l ≤ workL met nxt l
  | [] => by simp [workL]
  | x :: l => by
    have h1 := workL_set (id := id) (c := c) l
    rw [workL_cons, workL_cons, metB_set]
    refine Nat.add_le_add ?_ h1
    by_cases e : id = x.id <;> by_cases m : metB met x.id = true <;> simp [e, m]
theorem workL_first {x : Ent} {c : Nat} : ∀ {l : List Ent}, x ∈ l → metB met x.id = false → workL (aset met x.id c) nxt l + (nxt x).length ≤ workL met nxt l
  | y :: l, hx, hm => by
    have h0 := workL_set (met := met) (nxt := nxt) (id := x.id) (c := c) l
    rw [workL_cons, workL_cons, metB_set]
    rcases List.mem_cons.1 hx with e | hx
    · subst e
      rw [hm, decide_eq_true rfl]
      simp only [Bool.true_or, if_true, Bool.false_eq_true, if_false]
      omega
    · have h1 := workL_first (c := c) hx hm
      have h2 : (if (decide (x.id = y.id) || metB met y.id) = true then 0 else (nxt y).length) ≤ (if metB met y.id = true then 0 else (nxt y).length) := by
        by_cases e : x.id = y.id <;> by_cases m : metB met y.id = true <;> simp [e, m]
      omega
end
/-- Names of a part of a list, told by marks. -/
theorem filter_ids {l : List Ent} {p : ByteArray → Bool} {q : Nat → Bool} (h : ∀ i (hi : i < l.length), p l[i].id = q i) : (l.map (·.id)).filter p = idsOf l ((List.range l.length).map q) := by
  induction l generalizing q with
  | nil => rfl
  | cons x l ih =>
    have h0 := h 0 (by simp)
    have h1 := ih (q := fun i => q (i + 1)) (fun i hi => h (i + 1) (by simpa using hi))
    simp only [List.getElem_cons_zero] at h0
    rw [List.map_cons, List.filter_cons, h1, List.length_cons, List.range_succ_eq_map, List.map_cons, List.map_map, idsOf, h0]
    rfl
end Go.K
end
