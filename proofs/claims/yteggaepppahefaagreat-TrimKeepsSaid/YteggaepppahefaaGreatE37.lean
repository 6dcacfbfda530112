/- Contracts: dropping from a graph. Contracts: a graph of any entries. Contracts: a graph of any entries, as the laws of trimming make it; masked numbers. What comes into the laws of trimming. Contracts: what hangs on an entry, by the reference. -/
import Derived.Test.YteggaepppahefaaGreatE35
import Derived.Test.YteggaepppahefaaGreatE36
set_option linter.unusedVariables false
set_option linter.unusedSimpArgs false
section
namespace Go.Proofs.YteggaepppahefaaGreat
open Go Go.K
attribute [local irreducible] regK codeK retK KOp.wp K.Spec u32 leS vnS str zero32 sha2 encT idT sizeT checkT grantB idN stepR workL reachE findI

theorem drop1_hb : hasBody Tryz.prog F.graph_Graph_Drop_1 = true := by kernel_rfl
theorem drop1_spec {b3 : Nat} {t : TypeId} {id : ByteArray} (s : ByteArray) (w : World) (h3 : At w b3 (.cells [.string id].toArray t (0, 0))) : K.Spec Tryz.prog F.graph_Graph_Drop_1 [.string s, .pointer (some ⟨b3, 0, none⟩)] w fun r w' => r = .bool (decide (s = id)) ∧ w' = w := by
  have r3 : Row w ⟨b3, 0, none⟩ [.string id] := Row.of_at h3
  refine s_graph_Graph_Drop_1 rfl ?_
  unfold k_graph_Graph_Drop_1
  refine ox ?_
  repeat' (first|(first|refine go1 ?_|refine zg (fun _ _=>?_)|refine zi (fun _ _=>?_)))
  exact x_ret rfl ⟨rfl, rfl⟩
set_option maxHeartbeats 2000000 in
theorem gdrop_own {B g : Nat} {M : List Nat} {l : List Ent} (id : ByteArray) (w : World) (hG : Gr w B g M l) (hn : l.length ≤ 1000) : K.Spec Tryz.prog F.graph_Graph_Drop [.pointer (some ⟨g, 0, none⟩), .string id] w fun r w' =>
    ∃ M', r = .int .i64 (dropG l id).2 ∧ Gr w' B g M' (dropG l id).1 ∧ Chg M w w' ∧ (∀ b ∈ M', b ∈ M ∨ w.heap.size ≤ b) ∧ ((dropG l id).2 ≠ 0 → Ext w w') := by
  have hG0 := hG
  obtain ⟨b1, vo, b2, m, sp, hP, rfl⟩ := hG
  have rg : Row w ⟨g, 0, none⟩ [.map (some b1), vo, .map (some b2)] := Row.of_at hP.at_
  have hq1 := hP.ents
  have hl1 := Gr.lt hG0
  refine s_graph_Graph_Drop rfl ?_
  unfold k_graph_Graph_Drop
  refine ox ?_
  repeat' (first|(first|refine go1 ?_|refine zg (fun _ _=>?_)|refine zi (fun _ _=>?_))|(refine zM rfl (fun h => ?_) (fun h => ?_))|(refine zD rfl rfl (fun b3 wp xp a3 (r3 : Row wp ⟨b3, 0, none⟩ [.string id]) hp0=>?_))|(refine st_lookupR (d := some 17) (KE := sK) (F := entR) (M := mutG g b1 b2 vo) (k := id) rfl rfl (by exact fx) rfl rfl (fun y cs hy hr => ?_) (fun hno => ?_))|(refine zH (d := some 5) (fun b9 w9 x9 a9 hb9 => ?_); have s9 : w.heap.size ≤ b9 := Nat.le_trans (Ext.size (w := w) (by exact fx)) hb9; have s39 : wp.heap.size ≤ b9 := Nat.le_trans (Ext.size (w := wp) (by exact fx)) hb9)|(obtain ⟨iv, ov, rfl, q1, q2, q3⟩ := hr; have i1 := q1.one; have i2 := q2.one; refine st_setN (w0 := w) (vs := entCs y iv ov) (by exact fx) s9 (by focus (repeat (first | assumption | (apply At.ext; assumption)))) rfl rfl rfl rfl (by simp [entCs, i1, i2]; exact ⟨rfl, rfl, rfl, rfl, rfl⟩) (fun w10 x10 c10 a10 r10 => ?_); have l3 := a3.lt; have a30 : At w10 b3 (.cells [.string id].toArray T.string (0, 0)) := At.chg c10 (At.ext (show Ext wp w9 by exact fx) a3) (by simp; omega); have r30 : Row w10 ⟨b3, 0, none⟩ [.string id] := Row.of_at a30; have q10 : SlR inR (mutG g b1 b2 vo) w10 iv y.tx.ins := (q1.step (M' := b9 :: mutG g b1 b2 vo) x9 (by simp) (fun b hb => by rcases List.mem_cons.1 hb with h | h; (subst h; exact .inr hb9); exact .inl h)).step c10 (by intro q hq; simp at hq; subst hq; exact .inl (by simp)) (fun _ h => .inl (by simp [h])); clear c10 q1 q2 a9 x9 hb9 s39 xp a3 r3)|(refine st_setN (w0 := w) (vs := zEnt) (by exact fx) s9 (by focus (repeat (first | assumption | (apply At.ext; assumption)))) rfl rfl rfl rfl rfl (fun w10 x10 c10 a10 r10 => ?_)))
  · clear ‹Ext wp _›
    rename_i wB xB
    have xwB : Ext w wB := x10.trans xB
    have a3B := a30.ext xB
    have a9B := a10.ext xB
    have agB := hP.at_.ext xwB
    have mB := hq1.ext xwB
    have pB := hP.pts.ext xwB
    have oB := hP.ord.ext xwB
    have qB := q10.ext xB
    have sB := xwB.size
    have nd := hP.nd
    simp only [List.nodup_cons, List.mem_cons, not_or] at nd
    obtain ⟨⟨n1, n2, n3⟩, ⟨n4, n5⟩, n6, n7⟩ := nd
    have l1 : b1 < w.heap.size := hl1 _ (by simp)
    have l2 : b2 < w.heap.size := hl1 _ (by simp)
    have lg : g < w.heap.size := hl1 _ (by simp)
    have lo : ∀ b ∈ blkOf vo, b < w.heap.size := fun b hb => hl1 b (by simp [hb])
    have hym : y ∈ l ∧ y.id = id := by
      rw [hP.inv.ent] at hy
      exact ⟨List.mem_of_find?_eq_some hy, by have := List.find?_some hy; exact of_decide_eq_true this⟩
    have hins := (chk_sm (hG0.ok y hym.1).check).ins
    clear xB x10 a30 a10 r10 r30 q10 rg
    refine st_deleteR (KE := sK) (F := entR) (M := mutG g b1 b2 vo) (k := id) rfl rfl mB (by simp) rfl rfl (fun w11 c11 m11 => ?_)
    have ag11 := agB.chg c11 (by simp; omega)
    have a311 := a3B.chg c11 (by simp; omega)
    have a911 := a9B.chg c11 (by simp; omega)
    have p11 := pB.chg c11 (by simp; omega)
    have o11 := oB.chg c11 (fun b hb h => by simp at h; subst h; exact n5 hb)
    have q11 := qB.step (M' := mutG g b1 b2 vo) c11 (fun b hb => by simp at hb; subst hb; exact .inl (by simp)) (fun _ h => .inl h)
    have r911 : Row w11 ⟨b9, 0, none⟩ (entCs y iv ov) := Row.of_at a911
    have C11 : Chg (mutG g b1 b2 vo) w w11 := (xwB.chg c11).mono (fun b hb => by simp at hb; subst hb; exact .inl (by simp))
    have sB11 : w.heap.size ≤ w11.heap.size := Nat.le_trans sB c11.size
    clear agB a3B a9B pB oB mB qB c11 xwB
    repeat' (first|(first|refine go1 ?_|refine zg (fun _ _=>?_)|refine zi (fun _ _=>?_))|(refine zL rfl (fun h => ?_) (fun h => ?_))|(refine zG (E := inR) (M := mutG g b1 b2 vo) (l := y.tx.ins) rfl (SlR.ext q11 (by exact fx)) ?_)|(refine c_loopV (fun (i : Nat) w' => Chg [b2] w11 w' ∧ i ≤ y.tx.ins.length ∧ MapE ptK Value.string w' b2 (delPts sp (y.tx.ins.take i))) (fun i => [(0, .pointer (some ⟨g, 0, none⟩)), (3, .pointer (some ⟨b3, 0, none⟩)), (29, iv), (30, .int .i64 (y.tx.ins.length : Nat)), (31, .int .i64 i)]) (fun i => y.tx.ins.length - i) 0 ⟨rfl, rfl, rfl, rfl, rfl, trivial⟩ ⟨(show Ext w11 _ by exact fx).mono (by simp), by simp, MapE.ext (by exact fx) p11⟩ ?_; rintro i ρ w3 ⟨x3, hi, hmp⟩))
    · have hi3 : SlR inR (mutG g b1 b2 vo) w3 iv y.tx.ins := q11.step x3 (fun b hb => .inl (by simp at hb; simp [hb])) (fun _ h => .inl h)
      have rg3 : Row w3 ⟨g, 0, none⟩ [.map (some b1), vo, .map (some b2)] := Row.of_at (ag11.chg x3 (by simp; omega))
      clear r911
      repeat' (first|(first|refine go1 ?_|refine zg (fun _ _=>?_)|refine zi (fun _ _=>?_))|(refine st_elemR (d := some 33) (E := inR) (M := mutG g b1 b2 vo) rfl rfl (n := i) (l := y.tx.ins) (SlR.ext hi3 (by exact fx)) rfl (by omega) (fun ad cs r4 he => ?_); obtain ⟨wv, rfl, hw, hp5, hp6⟩ := he; obtain ⟨bs1, cp1, rfl⟩ := hw.form; have hil : i < y.tx.ins.length := (by omega))|(refine zE (d' := 8) (fun _=>rfl) rfl rfl rfl (fun b8 w8 x8 a8 (r8 : Row w8 ⟨b8, 0, none⟩ (inCs y.tx.ins[i] (.slice bs1 y.tx.ins[i].wit.length cp1))) hb8=>?_))|(refine st_delete (E := ptK) (fv := Value.string) (k := y.tx.ins[i].p) rfl rfl (MapE.ext (w := w3) (by exact fx) hmp) rfl rfl (fun w5 c5 m5 => ?_); have x35 : Chg [b2] w3 w5 := Ext.chg (by exact fx) c5))
      exact ⟨i + 1, ⟨rfl, rfl, rfl, rfl, rfl, trivial⟩, ⟨(x3.trans x35).mono (by simp), by omega, by rw [delPts_take hil]; exact m5⟩, by omega⟩
    · have ei : i = y.tx.ins.length := by omega
      subst ei
      rw [List.take_of_length_le (Nat.le_refl _)] at hmp
      have ag3 := ag11.chg x3 (by simp; omega)
      have rg3 : Row w3 ⟨g, 0, none⟩ [.map (some b1), vo, .map (some b2)] := Row.of_at ag3
      have a33 := a311.chg x3 (by simp; omega)
      have o3 := o11.chg x3 (fun b hb h => by simp at h; subst h; exact n6 hb)
      have m3 := m11.step (M' := mutG g b1 b2 vo) x3 (by simp; omega) (fun b hb => .inl (by simp at hb; simp [hb])) (fun _ h => .inl h)
      have C3 : Chg (mutG g b1 b2 vo) w w3 := (C11.trans x3).mono (fun b hb => by simp at hb ⊢; grind)
      have s3 := x3.size
      clear q11 r911 ag11 a311 a911 p11 o11 m11 C11
      repeat' (first|(first|refine go1 ?_|refine zg (fun _ _=>?_)|refine zi (fun _ _=>?_))|(refine zC rfl (del_spec (g := F.graph_Graph_Drop_1) (capl := [.pointer (some ⟨b3, 0, none⟩)]) (l := l.map (fun x : Ent => x.id)) (B := B) _ (fun s => decide (s = id)) drop1_hb (Own.ext (w := w3) (by exact fx) o3) (by simp; omega) (fun W s hW => drop1_spec s W (At.chg hW (At.ext (w := w3) (by exact fx) a33) (fun h => by have := lo _ h; omega)))) ?_; rintro v6 w6 ⟨o6, c6, hb6⟩; have c36 : Chg (blkOf vo) w3 w6 := Ext.chg (by exact fx) c6; have hv1 : v6.oneCell' = true := (by obtain ⟨_, _, e⟩ := o6.sl.form; rw [e]; rfl)))
      refine st_store (b := g) (o := 1) (v := v6) rfl rfl hv1 (ag3.chg c36 n3) (by simp) (fun w14 c14 ag14 => ?_)
      have ag14 : At w14 g (.cells [.map (some b1), v6, .map (some b2)].toArray T.graph_Graph (0, 0)) := ag14
      repeat (first|refine go1 ?_|refine zg (fun _ _=>?_)|refine zi (fun _ _=>?_))
      have nb2 : b2 ∉ blkOf v6 := fun h => n6 (hb6 _ h)
      have nb1 : b1 ∉ blkOf v6 := fun h => n5 (hb6 _ h)
      have nbg : g ∉ blkOf v6 := fun h => n3 (hb6 _ h)
      have hM' : ∀ b ∈ mutG g b1 b2 v6, b ∈ mutG g b1 b2 vo := fun b hb => by
        simp only [List.mem_cons] at hb ⊢
        rcases hb with rfl | rfl | rfl | hb
        · exact .inl rfl
        · exact .inr (.inl rfl)
        · exact .inr (.inr (.inl rfl))
        · exact .inr (.inr (.inr (hb6 b hb)))
      have m6 := m3.step (M' := mutG g b1 b2 v6) c36 n5 (fun b hb => .inl (by simp [hb])) (fun b hb => .inl (hM' b hb))
      have m14 := m6.step (M' := mutG g b1 b2 v6) c14 (by simp; omega) (fun b hb => by simp at hb; subst hb; exact .inl (by simp)) (fun _ h => .inl h)
      have p14 := (hmp.chg c36 n6).chg c14 (by simp; omega)
      have hC : Chg (mutG g b1 b2 vo) w w14 := ((C3.trans c36).trans c14).mono (fun b hb => by simp at hb ⊢; grind)
      obtain ⟨hym, rfl⟩ := hym
      obtain ⟨n, hnl, rfl⟩ := List.getElem_of_mem hym
      have hfi : findI l l[n].id = n := by
        unfold findI
        exact idxOf_hit hnl (decide_eq_true rfl) (fun j hj => decide_eq_false fun e => by
          have := entD_inj hG0.nodup (show j < l.length by omega) hnl (by rw [entD_get (by omega), entD_get hnl]; exact e)
          omega)
      have ed : dropG l l[n].id = (l.filter fun z => !decide (z.id = l[n].id), 0) := by
        rw [dropG, if_neg (by rw [hfi]; omega), hfi, Int.toNat_natCast, erase_filter hG0.nodup hnl rfl]
      rw [ed]
      have e6 : (l.map (·.id)).filter (fun s => !decide (s = l[n].id)) = (l.filter fun z => !decide (z.id = l[n].id)).map (·.id) := by
        rw [List.filter_map]; rfl
      rw [e6] at o6
      refine x_ret rfl ⟨_, rfl, ⟨b1, v6, b2, _, _, ⟨ag14, m14, p14, ?_, hP.inv.del hym, ?_, hP.lo⟩, rfl⟩, hC, fun b hb => .inl (hM' b hb), fun h => absurd rfl h⟩
      · exact o6.chg c14 (fun b hb h => by simp at h; subst h; exact nbg hb)
      · simp only [List.nodup_cons, List.mem_cons, not_or]
        exact ⟨⟨n1, n2, nbg⟩, ⟨n4, nb1⟩, nb2, blkOf_nodup v6⟩
  · have hf : findI l id < 0 := by
      rw [hP.inv.ent] at hno
      rcases Int.lt_or_le (findI l id) 0 with h1 | h1
      · exact h1
      · have h2 := idxOf_any (p := fun x : Ent => decide (x.id = id)) (l := l)
        have h3 : l.any (fun x => decide (x.id = id)) = true := by rw [← h2]; unfold findI at h1; exact decide_eq_true h1
        obtain ⟨z, hz, h4⟩ := List.any_eq_true.1 h3
        exact absurd h4 (List.find?_eq_none.1 hno z hz)
    rw [dropG, if_pos hf]
    exact x_ret rfl ⟨_, rfl, hG0.ext x10, x10.mono (by simp), fun b hb => .inl hb, fun _ => x10⟩
theorem gdrop_spec {B g : Nat} {M : List Nat} {l : List Ent} (id : ByteArray) (w : World) (hG : Gr w B g M l) (hn : l.length ≤ 1000) : K.Spec Tryz.prog F.graph_Graph_Drop [.pointer (some ⟨g, 0, none⟩), .string id] w fun r w' =>
    ∃ M', r = .int .i64 (dropG l id).2 ∧ Gr w' B g M' (dropG l id).1 ∧ Chg M w w' ∧ ∀ b ∈ M', b ∈ M ∨ w.heap.size ≤ b := 
  spec_mono (gdrop_own id w hG hn) fun _ _ ⟨M', h1, h2, h3, h4, _⟩ => ⟨M', h1, h2, h3, h4⟩
end Go.Proofs.YteggaepppahefaaGreat
end
section
namespace Go.Proofs.YteggaepppahefaaGreat
open Go Go.K
attribute [local irreducible] regK codeK retK KOp.wp K.Spec u32 leS vnS str zero32 sha2 encT idT sizeT checkT grantB idN stepR workL reachE findI dropG addG

def feeA (a : Int) : Int := IntKind.i64.wrap ((BitVec.ofInt IntKind.i64.bits a &&& BitVec.ofInt IntKind.i64.bits 65535).toNat : Nat)
theorem feeA_64 (a : Int) : is64 (feeA a) := by
  unfold feeA is64
  have : ∀ n : Int, IntKind.i64.wrap n = (n + 9223372036854775808) % 18446744073709551616 - 9223372036854775808 := fun n => by
    simp only [IntKind.wrap, IntKind.bits, IntKind.signed]
    simp; split <;> omega
  rw [this]; omega
section
variable {P : Program} {d : Option Tmp} {r : KR} {K : Env → World → Prop} {ρ : Env} {w : World}
theorem st_takeR {α : Type} {E : R α} {M : List Nat} {size : Nat} {x h : Operand} {v : Value} {l : List α} {kd : IntKind} {n : Nat} {m : Int} {w1 : World} (hx : ev ρ x = v) (hh : ev ρ h = .int kd m) (hm : m = (n : Nat)) (hs : SlR E M w1 v l) (hn : n ≤ l.length) (hk : size = E.k)
    (k : ∀ v', SlR E M w1 v' (l.take n) → regK P r K (put ρ d v') w) : regK P (.cons ⟨d, .sliceSl size x none (some h), none⟩ r) K ρ w := by
  subst hm
  obtain ⟨css, h1, h2, h3⟩ := hs
  have hl := h2.length
  refine st_takeE (E := vecE E.k E.pos) hx hh h1 (by rw [hl]; exact hn) hk fun v' h4 h5 => k v' ⟨css.take n, h4, ?_, fun hp b hb => h3 (by rw [List.length_take] at hp; omega) b (h5 b hb)⟩
  have := h2.take n
  exact All2.take n h2
end
theorem addG_le {l : List Ent} {t : Tx} {fee : Int} : (addG l t fee).1.length ≤ l.length + 1 := by
  unfold addG
  split; · simp
  split; · simp
  split; · simp
  split; · simp
  split <;> simp
theorem dropG_le {l : List Ent} {id : ByteArray} : (dropG l id).1.length ≤ l.length := by
  unfold dropG
  split
  · simp
  · rw [List.length_eraseIdx]; split <;> omega
end Go.Proofs.YteggaepppahefaaGreat
end
section
namespace Go.Proofs.YteggaepppahefaaGreat
open Go Go.K
attribute [local irreducible] regK codeK retK KOp.wp K.Spec u32 leS vnS str zero32 sha2 encT idT sizeT checkT grantB idN stepR workL reachE findI dropG addG

def andI (a m : Int) : Int := IntKind.i64.wrap ((BitVec.ofInt IntKind.i64.bits a &&& BitVec.ofInt IntKind.i64.bits m).toNat : Nat)
theorem andI_le (a : Int) {m : Int} (h0 : 0 ≤ m) (h1 : m ≤ 9223372036854775807) : 0 ≤ andI a m ∧ andI a m ≤ m := by
  unfold andI
  have h2 : (BitVec.ofInt IntKind.i64.bits a &&& BitVec.ofInt IntKind.i64.bits m).toNat ≤ m.toNat := by
    rw [BitVec.toNat_and]
    refine Nat.le_trans Nat.and_le_right ?_
    rw [BitVec.toNat_ofInt]
    have : IntKind.i64.bits = 64 := rfl
    rw [this]; omega
  rw [IntWalk.i64_in _ (by omega)]
  omega
theorem andI_64 (a : Int) {m : Int} (h0 : 0 ≤ m) (h1 : m ≤ 9223372036854775807) : is64 (andI a m) := by
  have := andI_le a h0 h1
  unfold is64; omega
abbrev smR : R Small := smallR.and fun z => z.frm.length ≤ 9223372036854775807
def cutZ (n : Nat) (m : Int) (z : Small) : Small := { z with long := UInt8.ofNat (z.long.toNat % n), fee := andI z.fee m }
theorem cutZ_v (n : Nat) (m : Int) (z : Small) (hn : 0 < n) (h : n ≤ 256) : (Value.int .u8 ((z.long.toNat % n : Nat) : Int)) = u8V (cutZ n m z).long := by
  unfold u8V cutZ
  have h1 : z.long.toNat % n < n := Nat.mod_lt _ hn
  have : (UInt8.ofNat (z.long.toNat % n)).toNat = z.long.toNat % n := by rw [UInt8.toNat_ofNat']; omega
  simp only [this]
set_option maxHeartbeats 4000000 in
theorem filled19_spec {v : Value} {sc : List Small} (most : Nat) (w : World) (hs : SlR smR [] w v sc) (hm : most ≤ 14) :
    K.Spec Tryz.prog F.kedgelaw19_filled [v, .int .i64 (most : Nat)] w fun r w' => ∃ g M u l, r = .tuple #[.pointer (some ⟨g, 0, none⟩), u] ∧ Gr w' w.heap.size g M l ∧ SlR entR M w' u l ∧ l.length ≤ most ∧ Ext w w' := by
  refine s_kedgelaw19_filled rfl ?_
  unfold k_kedgelaw19_filled
  refine ox ?_
  repeat' (first|(refine st_takeR (d := some 17) (E := smR) (n := min sc.length most) rfl rfl (by omega) hs (by omega) rfl (fun v' hv => ?_))|(first|refine go1 ?_|refine zg (fun _ _=>?_)|refine zi (fun _ _=>?_))|(refine zC rfl (new_spec _) ?_; rintro _ w1 ⟨g, M1, rfl, G1, x1⟩)|(refine zG (E := smR) (M := []) (l := sc) rfl (SlR.ext hs (by exact fx)) ?_)|(refine zG (d := some 18) (E := smR) (M := []) (l := sc.take (min sc.length most)) rfl (SlR.ext hv (by exact fx)) ?_)|(refine st_min rfl rfl ?_))
  have hSl : (sc.take (min sc.length most)).length ≤ most := by rw [List.length_take]; omega
  generalize sc.take (min sc.length most) = S at *
  have hv1 := SlR.ext hv x1
  repeat' (first|(first|refine go1 ?_|refine zg (fun _ _=>?_)|refine zi (fun _ _=>?_))|(refine zL rfl (fun h => ?_) (fun h => ?_))|(refine c_loopV (fun (p : Nat × List Ent × List Nat × Value) w' => Ext w w' ∧ p.1 ≤ S.length ∧ p.2.1.length ≤ p.1 ∧ Gr w' w.heap.size g p.2.2.1 p.2.1 ∧ SlR entR p.2.2.1 w' p.2.2.2 p.2.1) (fun p => [(6, .pointer (some ⟨g, 0, none⟩)), (7, p.2.2.2), (17, v'), (18, .int .i64 (S.length : Nat)), (19, .int .i64 p.1)]) (fun p => S.length - p.1) (0, [], M1, .slice none 0 0) ⟨rfl, rfl, rfl, rfl, rfl, trivial⟩ ⟨x1, by simp, by simp, G1, SlR.nil _ _⟩ ?_; rintro ⟨i, l, M, u⟩ ρ w3 ⟨x3, hi, hli, G3, u3⟩; simp only at hi hli G3 u3; dsimp only; have hM3 := G3.lt; have hB3 := G3.base))
  · clear G1 x1 hv1
    have hil : i < S.length := by omega
    have hid32 : ∀ x ∈ l, x.id.size = 32 := fun x hx => by rw [(G3.ok x hx).id]; exact idT_size _
    have hv3 : SlR smR M w3 v' S := hv.step x3 (by simp) (fun b hb => .inr (hB3 b hb))
    refine st_elemR (d := some 21) (E := smR) (M := M) rfl rfl (n := i) (l := S) hv3 rfl hil (fun ad cs r4 he => ?_)
    obtain ⟨⟨fv, rfl, q1, q2⟩, q3⟩ := he
    generalize S[i] = z at *
    have s3 := x3.size
    repeat' (first|(refine st_bin (d := some 25) rfl rfl (rem_u8 z.long.toNat 8 (by decide)) ?_; rw [cutZ_v 8 1073741823 z (by decide) (by decide)])|(first|refine go1 ?_|refine zg (fun _ _=>?_)|refine zi (fun _ _=>?_))|(refine zE (d' := 9) (fun _=>rfl) rfl rfl (by obtain ⟨_, _, rfl⟩ := q1.form; rfl) (fun b9 w9 x9 (a9 : At w9 b9 (.cells (smallCs z fv).toArray T.kedgeref14_Small (0, 0))) (r9 : Row w9 ⟨b9, 0, none⟩ (smallCs z fv)) hb9=>?_)))
    have s9 := x9.size
    have l9 := a9.lt
    refine st_store (b := b9) (o := 5) (v := u8V (cutZ 8 1073741823 z).long) rfl rfl rfl a9 (by simp [smallCs]) (fun w10 c10 a10 => ?_)
    have r10 : Row w10 ⟨b9, 0, none⟩ (smallCs { z with long := (cutZ 8 1073741823 z).long } fv) := Row.of_at a10
    have s10 := c10.size
    clear r9
    repeat' (first|(refine st_bin (d := some 29) (v := .int .i64 (andI z.fee 1073741823)) rfl rfl rfl ?_)|(first|refine go1 ?_|refine zg (fun _ _=>?_)|refine zi (fun _ _=>?_)))
    refine st_store (b := b9) (o := 3) (v := .int .i64 (andI z.fee 1073741823)) rfl rfl rfl a10 (by simp [smallCs]) (fun w11 c11 a11 => ?_)
    have a11 : At w11 b9 (.cells (smallCs (cutZ 8 1073741823 z) fv).toArray T.kedgeref14_Small (0, 0)) := a11
    have r11 : Row w11 ⟨b9, 0, none⟩ (smallCs (cutZ 8 1073741823 z) fv) := Row.of_at a11
    have s11 := c11.size
    have x311 : Ext w3 w11 := (Ext.chg x9 (c10.trans c11)).mono (by intro y hy; simp at hy; right; omega)
    have hMo : ∀ b ∈ M, b < w11.heap.size := fun b hb => by have := hM3 b hb; omega
    have q11 : SlR u8R M w11 fv z.frm := q1.ext x311
    have hf := andI_64 z.fee (m := 1073741823) (by decide) (by decide)
    have u11 := u3.ext x311
    have G11 := G3.ext x311
    have n9 : b9 ∉ M := fun h => by have := hM3 _ h; omega
    clear a10 r10 c10 c11 r4 q1 a9 x9
    repeat' (first|(first|refine go1 ?_|refine zg (fun _ _=>?_)|refine zi (fun _ _=>?_))|(refine zC rfl (make_spec (M := M) (l := l) (cs := smallCs (cutZ 8 1073741823 z) fv) (z := cutZ 8 1073741823 z) _ u11 ⟨fv, rfl, q11, hf⟩ (by omega) q3 hid32 hMo) ?_; rintro _ w5 ⟨ds, t, rfl, ho, hmd, x5⟩))
    have s5 := x5.size
    have hsm := hmd.sm
    have t5 : txR.rel M w5 ds t := txO.rel ho hMo
    have o1 := ho.one
    obtain ⟨iv5, ov5, rfl, -⟩ := ho
    refine zE (d' := 10) (fun _=>rfl) rfl rfl o1 (fun b6 w6 x6 (a6 : At w6 b6 (.cells (txCs t iv5 ov5).toArray T.api_Tx (0, 0))) r6 hb6=>?_)
    have s6 := x6.size
    have l9 := a11.lt
    have l6 := a6.lt
    have x116 := x5.trans x6
    have a96 := a11.ext x116
    have r96 : Row w6 ⟨b9, 0, none⟩ (smallCs (cutZ 8 1073741823 z) fv) := Row.of_at a96
    have t6 : txR.rel M w6 (txCs t iv5 ov5) t := R.ext t5 x6
    have G6 := G11.ext x116
    have u6 := u11.ext x116
    have x06 := (x3.trans x311).trans x116
    have hM6 : ∀ b ∈ M, b < w6.heap.size := fun b hb => by have := hM3 b hb; omega
    have n6 : b6 ∉ M := fun h => by have := hM3 _ h; omega
    clear x3 x311 x5 x6 x116 G3 G11 u3 u11 a11 r11 t5 q11
    repeat' (first|(first|refine go1 ?_|refine zg (fun _ _=>?_)|refine zi (fun _ _=>?_))|(refine zC rfl (gadd_spec (M := M) (N := M) (cs := txCs t iv5 ov5) (t := t) (andI z.fee 1073741823) _ G6 t6 hsm hf hM6 (fun _ h => h) (by omega)) ?_; rintro _ w7 ⟨M7, rfl, G7, c7, hb7⟩))
    have t7 : txR.rel M7 w7 (txCs t iv5 ov5) t := txR.step t6 c7 (fun b hb => .inl hb) hb7
    have u7 : SlR entR M7 w7 u l := u6.step c7 (fun b hb => .inl hb) hb7
    have a97 := a96.chg c7 n9
    have a67 := a6.chg c7 n6
    have r97 : Row w7 ⟨b9, 0, none⟩ (smallCs (cutZ 8 1073741823 z) fv) := Row.of_at a97
    have r67 : Row w7 ⟨b6, 0, none⟩ (txCs t iv5 ov5) := Row.of_at a67
    have x07 : Ext w w7 := (x06.chg c7).mono (fun b hb => .inr (hB3 b hb))
    have hok := G6.ok
    have hM7 := G7.lt
    clear t6 u6 a96 r96 c7 x06 G6 r6 a6
    repeat' (first|(first|refine go1 ?_|refine zg (fun _ _=>?_)|refine zi (fun _ _=>?_))|(refine zC rfl (radd_spec (M := M7) (l := l) (cs := txCs t iv5 ov5) (t := t) (andI z.fee 1073741823) _ u7 t7 hsm hf (by omega) hok hM7) ?_; rintro _ w8 ⟨u8, rfl, hu8, x8⟩))
    have hla := @addG_le l t (andI z.fee 1073741823)
    exact ⟨(i + 1, (addG l t (andI z.fee 1073741823)).1, M7, u8), ⟨rfl, rfl, rfl, rfl, rfl, trivial⟩, ⟨x07.trans x8, by simp; omega, by simp only; omega, G7.ext x8, hu8⟩, by simp; omega⟩
  · exact x_ret rfl ⟨g, M, u, l, rfl, G3, u3, by omega, x3⟩
end Go.Proofs.YteggaepppahefaaGreat
end
section
namespace Go.Proofs.YteggaepppahefaaGreat
open Go Go.K
theorem reads_smalls {W : World} {v : Value} (h : Reads Tryz.prog W 22 [v]) : ∃ l, SlR smR [] W v l ∧ l.length ≤ maxLen :=
  reads_slR smR Tryz.underlying22 c_small (fun _ h => by
    obtain ⟨z, fv, h1, h2, h3, h4⟩ := reads_small h
    exact ⟨z, ⟨fv, h1, h2, h3⟩, h4⟩) h
theorem reads_u16 {W : World} {c : List Value} (h : Reads Tryz.prog W 52 c) : ∃ n : Int, c = [.int .u16 n] ∧ 0 ≤ n ∧ n ≤ 65535 := by
  obtain ⟨n, e, h1, h2⟩ := reads_int Tryz.underlying52 h
  exact ⟨n, e, h1, h2⟩
end Go.Proofs.YteggaepppahefaaGreat
end
section
namespace Go.Proofs.YteggaepppahefaaGreat
open Go Go.K
attribute [local irreducible] regK codeK retK KOp.wp K.Spec u32 leS vnS str zero32 sha2 encT idT sizeT checkT grantB idN hangs stepR findI

abbrev bBase (l : List Ent) (id : ByteArray) (i : Nat) : Bool := decide ((i : Int) = findI l id)
abbrev bEdge (l : List Ent) (k i : Nat) : Bool := hangE l i k
theorem stepR_none {base : Nat → Bool} {edge : Nat → Nat → Bool} {n : Nat} (h : ∀ i, i < n → base i = false) : ∀ (r i : Nat), i < n → stepR base edge n r i = false
  | 0, i, _ => by unfold stepR; rfl
  | r + 1, i, hi => by
    rw [← Bool.not_eq_true, stepR_succ]
    rintro (h1 | ⟨k, h1, h2, h3⟩)
    · rw [h i hi] at h1; cases h1
    · rw [stepR_none h r k h1] at h2; cases h2
set_option maxHeartbeats 2000000 in
theorem below_spec {M : List Nat} {v : Value} {l : List Ent} (id : ByteArray) (w : World) (hl : SlR entR M w v l) (hn : l.length ≤ 1000) (hE : ∀ x ∈ l, x.tx.Sm) : K.Spec Tryz.prog F.kedgeref14_Below [v, .string id] w fun r w' => SlE boolE w' r (belowL l id) ∧ Ext w w' ∧ ∀ b ∈ blkOf r, w.heap.size ≤ b := by
  have hqe : ∀ x ∈ l, x.tx.ins.length ≤ 1000 := fun x hx => (hE x hx).ins
  have hf1 := findI_lt (l := l) (id := id)
  refine s_kedgeref14_Below rfl ?_
  unfold k_kedgeref14_Below
  refine ox ?_
  repeat' (first|(first|refine go1 ?_|refine zg (fun _ _=>?_)|refine zi (fun _ _=>?_))|refine zL rfl (fun h => ?_) (fun h => ?_)|(refine zG (E := entR) (M := M) (l := l) rfl (SlR.ext hl (by exact fx)) ?_)|(refine st_mkBool rfl rfl (by omega) (fun b w2 x2 a2 hb2 => ?_))|(refine zC rfl (find_spec (M := M) (l := l) id _ (by exact fx) (by omega)) ?_; rintro _ w3 ⟨rfl, hw3⟩; subst hw3))
  · have hfn : ∀ i, i < l.length → bBase l id i = false := fun i hi => decide_eq_false (by omega)
    have e : belowL l id = List.replicate l.length false := by
      unfold belowL reachL
      refine List.ext_getElem (by simp) fun i h1 h2 => ?_
      simp only [List.getElem_map, List.getElem_range, List.getElem_replicate]
      exact stepR_none hfn _ _ (by simpa using h1)
    rw [e]
    exact x_ret rfl ⟨AtB.sl a2 (by simp), by exact fx, by intro y hy; have hy : y ∈ [b] := hy; simp at hy; omega⟩
  · obtain ⟨n0, hn0⟩ : ∃ n0 : Nat, findI l id = n0 := ⟨(findI l id).toNat, by omega⟩
    have hnl : n0 < l.length := by omega
    rw [hn0]
    refine st_index rfl rfl (by omega) ?_
    refine st_storeB (m := List.replicate l.length false) (o := n0) (v := true) rfl rfl a2 (by simpa using hnl) (fun w4 c4 a4 => ?_)
    have x4 : Ext w w4 := (x2.chg c4).mono (by intro y hy; simp at hy; right; omega)
    have hm0 : Marks (bBase l id) (bEdge l) l.length ((List.replicate l.length false).set n0 true) := ⟨by simp, fun i hi hm => by
      rw [List.getElem_set] at hm
      split at hm
      · rename_i e; subst e
        exact stepR_base hnl (decide_eq_true hn0.symm)
      · simp at hm⟩
    have hs0 : has ((List.replicate l.length false).set n0 true) n0 := by
      unfold has; rw [List.getElem?_set_self (by simpa using hnl)]
    clear a2 x2 c4
    generalize (List.replicate l.length false).set n0 true = m0 at a4 hm0 hs0
    repeat' (first|(first|refine go1 ?_|refine zg (fun _ _=>?_)|refine zi (fun _ _=>?_))|refine zL rfl (fun h => ?_) (fun h => ?_)|refine zK (d := some 58) rfl (fun hmi => ?_) (fun hmi => ?_)|refine zK (d := some 63) rfl (fun hmk => ?_) (fun hmk => ?_)|(refine zG (E := entR) (M := M) (l := l) rfl (SlR.ext hl (by exact fx)) ?_)|(refine c_loopV (fun (p : Nat × List Bool) w' => Ext w w' ∧ p.1 ≤ l.length + 1 ∧ AtB w' b p.2 ∧ has p.2 n0 ∧ RInv (bBase l id) (bEdge l) l.length p.1 0 p.2) (fun p => [(0, v), (5, .slice (some ⟨b, 0, none⟩) l.length l.length), (7, .int .i64 p.1)]) (fun p => l.length + 1 - p.1) (0, m0) ⟨rfl, rfl, rfl, trivial⟩ ⟨x4, by simp, a4, hs0, RInv.zero hm0⟩ ?_; rintro ⟨r, m⟩ ρ w3 ⟨x3, hr, a3, hs3, hI⟩; simp only at hr a3 hs3 hI; dsimp only)|(refine c_loopV (fun (p : Nat × List Bool) w' => Ext w w' ∧ p.1 ≤ l.length ∧ AtB w' b p.2 ∧ has p.2 n0 ∧ RInv (bBase l id) (bEdge l) l.length r p.1 p.2) (fun p => [(0, v), (5, .slice (some ⟨b, 0, none⟩) l.length l.length), (7, .int .i64 r), (8, .int .i64 p.1)]) (fun p => l.length - p.1) (0, m) ⟨rfl, rfl, rfl, rfl, trivial⟩ ⟨by exact fx, by simp, by focus (repeat (first | assumption | (apply At.ext; assumption))), hs3, hI⟩ ?_; clear a3 hI x3 hs3; clear m; rintro ⟨i, m⟩ ρ4 w5 ⟨x5, hi, a5, hs5, hI⟩; simp only at hi a5 hs5 hI; dsimp only)|(have hil : i < l.length := (by omega); refine c_loopV (fun (p : Nat × List Bool) w' => Ext w w' ∧ p.1 ≤ l.length ∧ AtB w' b p.2 ∧ has p.2 n0 ∧ RInv (bBase l id) (bEdge l) l.length r i p.2 ∧ ∀ k, k < p.1 → stepR (bBase l id) (bEdge l) l.length r k = true → hangE l i k = true → has p.2 i) (fun p => [(0, v), (5, .slice (some ⟨b, 0, none⟩) l.length l.length), (7, .int .i64 r), (8, .int .i64 i), (9, .int .i64 p.1)]) (fun p => l.length - p.1) (0, m) ⟨rfl, rfl, rfl, rfl, rfl, trivial⟩ ⟨by exact fx, by simp, a5, hs5, hI, fun k hk => absurd hk (by simp)⟩ ?_; rintro ⟨k, m7⟩ ρ7 w7 ⟨x7, hk, a7, hs7, hK, hE7⟩; simp only at hk a7 hs7 hK hE7; dsimp only; have hml7 := hK.mks.len)|(refine st_elemR (d := some 43) (E := entR) (M := M) rfl rfl (n := i) (l := l) (SlR.ext hl (by exact fx)) rfl hil (fun ad cs r5 he => ?_); obtain ⟨iv2, ov2, rfl, g1, g2, g3⟩ := he)|(refine st_elemR (d := some 48) (E := entR) (M := M) rfl rfl (n := k) (l := l) (SlR.ext hl (by exact fx)) rfl (by omega) (fun ad cs r8 he => ?_); have hkl : k < l.length := (by omega))|(refine st_lN0 (d := some 49) (n := 7) (l := cs) rfl r8 (by rw [entR.len he]; exact Nat.le_refl _) (List.take_of_length_le (by rw [entR.len he]; exact Nat.le_refl _)) ?_)|(refine zC rfl (hangs_spec (M := M) (cs := txCs l[i].tx iv2 ov2) (t := l[i].tx) (x := l[k]) _ ⟨iv2, ov2, rfl, by exact fx, by exact fx, g3.1, g3.2.1⟩ he (by have := hqe _ (List.getElem_mem hil); omega)) ?_; rintro _ w8 ⟨rfl, x8⟩)|(refine st_elemE (d := some 55) (E := boolE) rfl rfl (n := i) (l := m7) (AtB.sl (by focus (repeat (first | assumption | (apply At.ext; assumption)))) hml7.symm) rfl (by omega) (fun ad r6 => ?_))|(refine st_elemE (d := some 60) (E := boolE) rfl rfl (n := k) (l := m7) (AtB.sl (by focus (repeat (first | assumption | (apply At.ext; assumption)))) hml7.symm) rfl (by omega) (fun ad r6 => ?_))|(refine st_index (d := some 66) rfl rfl (by omega) ?_)|(refine st_storeB (m := m7) (o := i) (v := (m7[i]'(by omega) || (m7[k]'(by omega) && hangs l[i].tx l[k]))) rfl (congrArg Value.bool (by first | (rw [hmi]; rfl) | (rw [hmi, hmk]; rfl) | (rw [hmi, hmk]; simp))) (by focus (repeat (first | assumption | (apply At.ext; assumption)))) (by omega) (fun w9 c9 a9 => ?_)))
    all_goals first
      | (have hx7 : Unit → Ext w w9 := fun _ => (Ext.chg (w := w) (by exact fx) c9).mono (by intro y hy; simp at hy; right; omega)
         have he : hangE l i k = hangs l[i].tx l[k] := by rw [hangE, entD_get hkl, entD_get hil]
         have hx : (m7[k] && hangs l[i].tx l[k]) = true → stepR (bBase l id) (bEdge l) l.length l.length i = true := fun hh => by
           rw [Bool.and_eq_true] at hh
           exact stepR_closed hil hkl (hK.mks.sound k (by omega) hh.1) (by rw [← he] at hh; exact hh.2)
         exact ⟨(k + 1, _), ⟨rfl, rfl, rfl, rfl, rfl, trivial⟩, ⟨hx7 (), by simp; omega, a9, has_set (by omega) hs7, hK.set (by omega) hx, fun q hq hs2 hh => by
           by_cases e : q = k
           · subst e
             exact has_new (by omega) (by rw [Bool.and_eq_true]; exact ⟨has_get (hK.all q hkl hs2) (by omega), by rw [← he]; exact hh⟩)
           · exact has_set (by omega) (hE7 q (by simp at hq; omega) hs2 hh)⟩, by simp; omega⟩)
      | exact ⟨(i + 1, m7), ⟨rfl, rfl, rfl, rfl, trivial⟩, ⟨by exact fx, by simp; omega, by focus (repeat (first | assumption | (apply At.ext; assumption))), hs7, hK.next (fun hb => by have : i = n0 := (by have := of_decide_eq_true hb; omega); rw [this]; exact hs7) (fun q hq => hE7 q (by omega))⟩, by simp; omega⟩
      | exact ⟨(r + 1, m), ⟨rfl, rfl, rfl, trivial⟩, ⟨by exact fx, by simp; omega, by focus (repeat (first | assumption | (apply At.ext; assumption))), hs5, hI.round (by omega)⟩, by simp; omega⟩
      | (have hd := hI.mks.done (fun q hq hs2 => hI.all q hq (stepR_le hs2 (by omega)))
         subst hd
         exact x_ret rfl ⟨AtB.sl (by focus (repeat (first | assumption | (apply At.ext; assumption)))) (reachL_length _ _ _).symm, by exact fx, by intro y hy; have hy : y ∈ [b] := hy; simp at hy; omega⟩)
      | trace_state
end Go.Proofs.YteggaepppahefaaGreat
end
