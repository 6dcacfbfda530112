/- Contracts: a graph: new, an entry, what it has. -/
import Derived.Test.YtfeifodeaphbjaaGreatG39
section
namespace Go.Proofs.YtfeifodeaphbjaaGreat
open Go Go.K
attribute [local irreducible] regK codeK retK KOp.wp K.Spec u32 leS vnS str zero32 sha2 encT idT sizeT checkT grantB idN hangs stepR findI spends

/-- An entry that has slices of its own, all from B on. -/
def entO (B : Nat) (M : List Nat) (w : World) (cs : List Value) (x : Ent) : Prop := ∃ iv ov, cs = entCs x iv ov ∧ OwnR inR T.api_In B M w iv x.tx.ins ∧ OwnR outR T.api_Out B M w ov x.tx.outs ∧ is32 x.tx.ver ∧ is32 x.tx.lock ∧ is64 x.fee ∧ is64 x.size
theorem entO.rel {B : Nat} {M : List Nat} {w : World} {cs : List Value} {x : Ent} (h : entO B M w cs x) (hM : ∀ b ∈ M, b < B) : entR.rel M w cs x := by
  obtain ⟨iv, ov, rfl, h1, h2, h3⟩ := h
  exact ⟨iv, ov, rfl, h1.slB hM, h2.slB hM, h3⟩
theorem entO.ext {B : Nat} {M : List Nat} {w w' : World} {cs : List Value} {x : Ent} (h : entO B M w cs x) (c : Ext w w') : entO B M w' cs x := by
  obtain ⟨iv, ov, rfl, h1, h2, h3⟩ := h
  exact ⟨iv, ov, rfl, h1.ext c, h2.ext c, h3⟩
theorem entO.lower {B B' : Nat} {M : List Nat} {w : World} {cs : List Value} {x : Ent} (h : entO B M w cs x) (hb : B' ≤ B) : entO B' M w cs x := by
  obtain ⟨iv, ov, rfl, h1, h2, h3⟩ := h
  exact ⟨iv, ov, rfl, h1.lower hb, h2.lower hb, h3⟩
abbrev zEnt : List Value := [.int .u32 0, .slice none 0 0, .slice none 0 0, .int .u32 0, .string ⟨#[]⟩, .int .i64 0, .int .i64 0]
/-- The blocks that a graph may turn. -/
abbrev mutG (g b1 b2 : Nat) (vo : Value) : List Nat := g :: b1 :: b2 :: blkOf vo
structure GrP (w : World) (B g b1 : Nat) (vo : Value) (b2 : Nat) (m : List (ByteArray × Ent)) (sp : List (Pt × ByteArray)) (l : List Ent) : Prop where
  at_ : At w g (.cells [.map (some b1), vo, .map (some b2)].toArray T.graph_Graph (0, 0))
  ents : MapR sK entR (mutG g b1 b2 vo) w b1 m
  pts : MapE ptK Value.string w b2 sp
  ord : Own strE T.string B w vo (l.map (·.id))
  inv : GI m sp l
  nd : (mutG g b1 b2 vo).Nodup
  lo : B ≤ g ∧ B ≤ b1 ∧ B ≤ b2
/-- Block g is a graph of the entries l; its blocks are M, all from B on. -/
def Gr (w : World) (B g : Nat) (M : List Nat) (l : List Ent) : Prop := ∃ b1 vo b2 m sp, GrP w B g b1 vo b2 m sp l ∧ M = mutG g b1 b2 vo
theorem GrP.ext {w w' : World} {B g b1 b2 : Nat} {vo : Value} {m : List (ByteArray × Ent)} {sp : List (Pt × ByteArray)} {l : List Ent} (h : GrP w B g b1 vo b2 m sp l) (c : Ext w w') : GrP w' B g b1 vo b2 m sp l :=
  ⟨h.at_.ext c, h.ents.ext c, h.pts.ext c, h.ord.ext c, h.inv, h.nd, h.lo⟩
theorem Gr.ext {w w' : World} {B g : Nat} {M : List Nat} {l : List Ent} (h : Gr w B g M l) (c : Ext w w') : Gr w' B g M l := by
  obtain ⟨b1, vo, b2, m, sp, h, e⟩ := h; exact ⟨b1, vo, b2, m, sp, h.ext c, e⟩
theorem Gr.ok {w : World} {B g : Nat} {M : List Nat} {l : List Ent} (h : Gr w B g M l) : ∀ x ∈ l, EntOk x := by
  obtain ⟨b1, vo, b2, m, sp, h, e⟩ := h; exact h.inv.ok
theorem Gr.nodup {w : World} {B g : Nat} {M : List Nat} {l : List Ent} (h : Gr w B g M l) : (l.map (·.id)).Nodup := by
  obtain ⟨b1, vo, b2, m, sp, h, e⟩ := h; exact h.inv.nodup
theorem Gr.lt {w : World} {B g : Nat} {M : List Nat} {l : List Ent} (h : Gr w B g M l) : ∀ b ∈ M, b < w.heap.size := by
  obtain ⟨b1, vo, b2, m, sp, h, rfl⟩ := h
  intro b hb
  simp only [List.mem_cons] at hb
  rcases hb with rfl | rfl | rfl | hb
  · exact h.at_.lt
  · exact h.ents.lt
  · exact h.pts.lt
  · rcases h.ord with ⟨e, _⟩ | ⟨b', cap, junk, e, hB, hat, hl⟩
    · rw [e] at hb; simp [blkOf] at hb
    · rw [e] at hb; simp [blkOf] at hb; subst hb; exact hat.lt
theorem Gr.base {w : World} {B g : Nat} {M : List Nat} {l : List Ent} (h : Gr w B g M l) : ∀ b ∈ M, B ≤ b := by
  obtain ⟨b1, vo, b2, m, sp, h, rfl⟩ := h
  intro b hb
  have := h.lo
  simp only [List.mem_cons] at hb
  rcases hb with rfl | rfl | rfl | hb
  · omega
  · omega
  · omega
  · exact h.ord.base b hb
/-- A graph, as it is read: none of its entries leads to a block of M. -/
structure GrQ (w : World) (g b1 : Nat) (vo : Value) (b2 : Nat) (M : List Nat) (m : List (ByteArray × Ent)) (sp : List (Pt × ByteArray)) (l : List Ent) : Prop where
  at_ : At w g (.cells [.map (some b1), vo, .map (some b2)].toArray T.graph_Graph (0, 0))
  ents : MapR sK entR M w b1 m
  pts : MapE ptK Value.string w b2 sp
  ord : SlE strE w vo (l.map (·.id))
  inv : GI m sp l
def GrR (w : World) (g : Nat) (M : List Nat) (l : List Ent) : Prop := ∃ b1 vo b2 m sp, GrQ w g b1 vo b2 M m sp l
theorem Gr.r {w : World} {B g : Nat} {M : List Nat} {l : List Ent} (h : Gr w B g M l) : GrR w g M l := by
  obtain ⟨b1, vo, b2, m, sp, h, rfl⟩ := h
  exact ⟨b1, vo, b2, m, sp, h.at_, h.ents, h.pts, h.ord.sl, h.inv⟩
theorem GrR.more {w w' : World} {g : Nat} {M M' : List Nat} {l : List Ent} (h : GrR w g M l) (c : Ext w w') (hm : ∀ b ∈ M', b ∈ M ∨ w.heap.size ≤ b) : GrR w' g M' l := by
  obtain ⟨b1, vo, b2, m, sp, h⟩ := h
  exact ⟨b1, vo, b2, m, sp, h.at_.ext c, h.ents.step c (by simp) (by simp) hm, h.pts.ext c, h.ord.ext c, h.inv⟩
theorem GrR.ext {w w' : World} {g : Nat} {M : List Nat} {l : List Ent} (h : GrR w g M l) (c : Ext w w') : GrR w' g M l := h.more c (fun _ h => .inl h)
theorem GrR.ok {w : World} {g : Nat} {M : List Nat} {l : List Ent} (h : GrR w g M l) : ∀ x ∈ l, EntOk x := by
  obtain ⟨b1, vo, b2, m, sp, h⟩ := h; exact h.inv.ok
theorem GrR.nodup {w : World} {g : Nat} {M : List Nat} {l : List Ent} (h : GrR w g M l) : (l.map (·.id)).Nodup := by
  obtain ⟨b1, vo, b2, m, sp, h⟩ := h; exact h.inv.nodup
theorem new_spec (w : World) : K.Spec Tryz.prog F.graph_New [] w fun r w' => ∃ g M, r = .pointer (some ⟨g, 0, none⟩) ∧ Gr w' w.heap.size g M [] ∧ Ext w w' := by
  refine s_graph_New rfl ?_
  unfold k_graph_New
  refine ox ?_
  repeat' (first|(refine st_build (cs := [.map (some b1), .slice none 0 0, .map (some b2)]) rfl ?_)|(first|refine go1 ?_|refine zg (fun _ _=>?_)|refine zi (fun _ _=>?_))|(refine zD (cs := [.map (some b1), .slice none 0 0, .map (some b2)]) rfl rfl (fun bp wp xp ap rp hp0=>?_))|(refine st_makeMap (d := some 1) (E := sK) (fv := id) (β := Value) (fun b1 w1 x1 m1 hb1 => ?_))|(refine st_makeMap (d := some 2) (E := ptK) (fv := Value.string) (fun b2 w2 x2 m2 hb2 => ?_)))
  have l1 := m1.lt
  have l2 := m2.lt
  have lp := ap.lt
  exact x_ret rfl ⟨bp, _, rfl, ⟨b1, .slice none 0 0, b2, [], [], ⟨ap, MapR.new (m1.ext (x2.trans xp)), m2.ext xp, Own.nil _ _ _, GI.nil, by simp [blkOf]; omega, by have := x1.size; have := x2.size; omega⟩, rfl⟩, by exact fx⟩
/-- The error of one more, by itself. -/
def entErr (t : Tx) (fee : Int) : Int := if checkT t ≠ 0 then checkT t else if grantB t then 4 else if !goodB fee then 3 else 0
theorem tbase_spec' {M : List Nat} {cs : List Value} {t : Tx} (w : World) (ht : txR.rel M w cs t) (hs : t.Sm) : K.Spec Tryz.prog F.tx_Base [.agg cs.toArray] w fun r w' => r = .bool (grantB t) ∧ Ext w w' := tbase_spec w ht hs
set_option maxHeartbeats 1000000 in
theorem entry_spec {M : List Nat} {cs : List Value} {t : Tx} (fee : Int) (w : World) (ht : txR.rel M w cs t) (hs : t.Sm) (hf : is64 fee) (hM : ∀ b ∈ M, b < w.heap.size) : K.Spec Tryz.prog F.graph_entry [.agg cs.toArray, .int .i64 fee] w fun r w' =>
    ∃ ds, r = .tuple #[.agg ds.toArray, .int .i64 (entErr t fee)] ∧ ds.length = 7 ∧ ds.all (fun v => v.oneCell') = true ∧ (entErr t fee = 0 → EntOk ⟨t, idT t, fee, (sizeT t : Nat)⟩ ∧ entO w.heap.size M w' ds ⟨t, idT t, fee, (sizeT t : Nat)⟩) ∧ Ext w w' := by
  have ht0 := ht
  obtain ⟨iv, ov, rfl, h1, h2, h3⟩ := ht
  have key : ∀ {w6 : World} {b4 : Nat}, Ext w w6 → w.heap.size ≤ b4 → txR.rel (b4 :: M) w6 (txCs t iv ov) t := fun x hb => txR.step ht0 x (by simp) (by
    intro y hy
    rcases List.mem_cons.1 hy with h | h
    · right; omega
    · exact .inl h)
  by_cases hc : checkT t = 0
  · have hz := sz_of_check hs hc
    have hzs := hz.size
    refine s_graph_entry rfl ?_
    unfold k_graph_entry
    refine ox ?_
    repeat (first|refine go ?_|refine zg (fun _ _=>?_)|refine zi (fun _ _=>?_))
    refine zD rfl rfl (fun bp wp xp ap rp hp0 => ?_)
    repeat (first|refine go ?_|refine zg (fun _ _=>?_)|refine zi (fun _ _=>?_))
    refine zH (fun b4 w4 x4 a4 hb4 => ?_)
    have sp := xp.size
    have l4 := a4.lt
    repeat' (first|(refine st_build (d := some 18) (cs := zEnt) rfl ?_)|(refine st_build (d := some 23) (cs := zEnt) rfl ?_)|(refine st_build (d := some 28) (cs := zEnt) rfl ?_)|(first|refine go1 ?_|refine zg (fun _ _=>?_)|refine zi (fun _ _=>?_))|refine zM rfl (fun h => ?_) (fun h => ?_)|refine zN rfl (fun h => ?_) (fun h => ?_)|(refine zC rfl (id_spec (M := M) _ (cs := txCs t iv ov) (by exact fx) hs) ?_; rintro _ w5 ⟨rfl, x5⟩; rw [idV, if_pos hc])|(refine zC rfl (tbase_spec' (M := M) _ (cs := txCs t iv ov) (by exact fx) hs) ?_; rintro _ w6 ⟨rfl, x6⟩)|(refine zC rfl (size_spec (M := M) _ (cs := txCs t iv ov) (by exact fx) hs) ?_; rintro _ w7 ⟨rfl, x7⟩; rw [sizeV, if_pos hc])|(refine st_setN (w0 := w) (vs := zEnt) (by exact fx) (by omega) (by focus (repeat (first | assumption | (apply At.ext; assumption)))) rfl rfl rfl rfl rfl (fun w9 x9 c9 a9 r9 => ?_)))
    · exact x_ret (ret2 (rv_cell r9 rfl rfl) rv_tmp) ⟨zEnt, by rw [entErr, if_neg (by simpa using hc), if_pos h]; rfl, rfl, rfl, fun e => (by rw [entErr, if_neg (by simpa using hc), if_pos h] at e; cases e), x9⟩
    · exact x_ret (ret2 (rv_cell r9 rfl rfl) rv_tmp) ⟨zEnt, by rw [entErr, if_neg (by simpa using hc), if_neg (by simpa using ‹grantB t = false›), if_pos h]; rfl, rfl, rfl, fun e => (by rw [entErr, if_neg (by simpa using hc), if_neg (by simpa using ‹grantB t = false›), if_pos h] at e; cases e), x9⟩
    · have hg : grantB t = false := by assumption
      have s47 := Ext.size (w := w4) (w' := w7) (by exact fx)
      have a4' := At.ext (show Ext w4 w7 by exact fx) a4
      have xw7 : Ext w w7 := by exact fx
      refine zC rfl (txcopy_spec (M := b4 :: M) (cs := txCs t iv ov) _ (key xw7 (by omega)) hs (fun b hb => ?_)) ?_
      · rcases List.mem_cons.1 hb with e | e
        · omega
        · have := hM b e; have := xw7.size; omega
      rintro _ w8 ⟨cs8, rfl, ⟨iv8, ov8, rfl, o1, o2, o3⟩, x8⟩
      repeat (first|(refine st_build (cs := entCs ⟨t, idT t, fee, (sizeT t : Nat)⟩ iv8 ov8) rfl ?_)|(first|refine go1 ?_|refine zg (fun _ _=>?_)|refine zi (fun _ _=>?_)))
      have g1 := o1.base
      have g2 := o2.base
      refine st_setN (w0 := w) (vs := entCs ⟨t, idT t, fee, (sizeT t : Nat)⟩ iv8 ov8) (xw7.trans x8) (by omega) (At.ext x8 a4') rfl rfl rfl rfl ?_ (fun w9 x9 c9 a9 r9 => ?_)
      · have e1 := o1.one
        have e2 := o2.one
        simp [entCs, e1, e2]; exact ⟨rfl, rfl, rfl, rfl, rfl⟩
      repeat (first|refine go1 ?_|refine zg (fun _ _=>?_)|refine zi (fun _ _=>?_))
      have h41 : b4 ∉ blkOf iv8 := fun h => by have := g1 _ h; omega
      have h42 : b4 ∉ blkOf ov8 := fun h => by have := g2 _ h; omega
      have p1 := o1.step (M' := M) c9 (by intro y hy; simp at hy; subst hy; exact ⟨h41, .inl (by simp)⟩) (fun _ h => .inl (by simp [h]))
      have p2 := o2.step (M' := M) c9 (by intro y hy; simp at hy; subst hy; exact ⟨h42, .inl (by simp)⟩) (fun _ h => .inl (by simp [h]))
      have hgf : goodB fee = true := by simpa using h
      have e0 : entErr t fee = 0 := by rw [entErr, if_neg (by simpa using hc), if_neg (by rw [hg]; decide), if_neg (by rw [hgf]; decide)]
      rw [e0]
      have s7 := xw7.size
      refine x_ret (ret2 (rv_cell r9 rfl rfl) rv_tmp) ⟨_, rfl, rfl, ?_, fun _ => ⟨⟨hc, hg, hgf, rfl, rfl⟩, iv8, ov8, rfl, p1.lower s7, p2.lower s7, h3.1, h3.2, hf, by show is64 ((sizeT t : Nat) : Int); unfold is64; omega⟩, x9⟩
      have e1 := o1.one
      have e2 := o2.one
      simp [entCs, e1, e2]; exact ⟨rfl, rfl, rfl, rfl, rfl⟩
  · refine s_graph_entry rfl ?_
    unfold k_graph_entry
    refine ox ?_
    repeat (first|refine go ?_|refine zg (fun _ _=>?_)|refine zi (fun _ _=>?_))
    refine zD rfl rfl (fun bp wp xp ap rp hp0 => ?_)
    repeat (first|refine go ?_|refine zg (fun _ _=>?_)|refine zi (fun _ _=>?_))
    refine zH (fun b4 w4 x4 a4 hb4 => ?_)
    have sp := xp.size
    repeat' (first|(refine st_build (d := some 18) (cs := zEnt) rfl ?_)|(first|refine go1 ?_|refine zg (fun _ _=>?_)|refine zi (fun _ _=>?_))|refine zN rfl (fun h => ?_) (fun h => ?_)|(refine zC rfl (id_spec (M := M) _ (cs := txCs t iv ov) (by exact fx) hs) ?_; rintro _ w5 ⟨rfl, x5⟩; rw [idV, if_neg hc])|(refine st_setN (w0 := w) (vs := zEnt) (by exact fx) (by omega) (by focus (repeat (first | assumption | (apply At.ext; assumption)))) rfl rfl rfl rfl rfl (fun w9 x9 c9 a9 r9 => ?_)))
    · have e0 : entErr t fee = checkT t := by rw [entErr, if_pos hc]
      rw [e0]
      exact x_ret (ret2 (rv_cell r9 rfl rfl) rv_tmp) ⟨zEnt, rfl, rfl, rfl, fun e => absurd e hc, x9⟩
    · exact absurd (by assumption) hc
end Go.Proofs.YtfeifodeaphbjaaGreat
end
